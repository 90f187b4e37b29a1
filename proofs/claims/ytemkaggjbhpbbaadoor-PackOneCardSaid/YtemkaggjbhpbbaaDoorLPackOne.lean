/- The law of PackOne, in plain Lean. -/
import Derived.Test.YtemkaggjbhpbbaaDoorMirY
import Derived.Test.YtemkaggjbhpbbaaDoorPe
namespace Go.Proofs.YtemkaggjbhpbbaaDoor
open Go Mir
set_option linter.unusedVariables false
set_option linter.unusedSimpArgs false

theorem i64_and_nat (a b : Nat) (ha : a < 9223372036854775808) (hb : b < 9223372036854775808) : bits .and .i64 (a : Int) (b : Int) = ((a &&& b : Nat) : Int) := by
  have hx : a &&& b ≤ a := Nat.and_le_left
  show IntKind.i64.wrap ((BitVec.ofInt 64 (a : Int) &&& BitVec.ofInt 64 (b : Int)).toNat : Int) = _
  rw [BitVec.toNat_and, ofInt_u64 a (by omega), ofInt_u64 b (by omega), wrap_of_i64 (by omega) (by omega)]

/-- 16 numbers, one of them not 0. -/
def only (n i v : Nat) : List Nat := (List.replicate n 0).set i v
theorem val_zero (B : Nat) : ∀ n, val B (List.replicate n 0) = 0
  | 0 => rfl
  | n + 1 => by simp [List.replicate_succ, val, val_zero B n]
theorem val_only (B v : Nat) : ∀ n i, i < n → val B (only n i v) = v * B ^ i
  | 0, i, h => by omega
  | n + 1, 0, _ => by simp [only, List.replicate_succ, val, val_zero]
  | n + 1, i + 1, h => by
    have ih := val_only B v n i (by omega)
    unfold only at ih ⊢
    simp only [List.replicate_succ, List.set_cons_succ, val, ih, Nat.zero_add]
    rw [Nat.pow_succ, Nat.mul_comm B, Nat.mul_assoc]
theorem only_natsV (n i v : Nat) : (List.replicate n (AV.int .i64 0)).set i (Nn v) = natsV (only n i v) := by
  unfold natsV only; rw [List.map_set, List.map_replicate]; rfl

/-- A bit of a number, out of its bytes. -/
theorem byte_bit (V i : Nat) : V / 256 ^ (i / 8) % 256 / 2 ^ (i % 8) % 2 = V / 2 ^ i % 2 := by
  have h : 256 ^ (i / 8) * 2 ^ (i % 8) = 2 ^ i := by
    rw [show (256 : Nat) = 2 ^ 8 from rfl, ← Nat.pow_mul, ← Nat.pow_add, Nat.div_add_mod]
  rw [← h, ← Nat.div_div_eq_div_mul]
  generalize V / 256 ^ (i / 8) = W
  have h8 : i % 8 < 8 := Nat.mod_lt _ (by decide)
  generalize i % 8 = j at h8
  have e : (256 : Nat) = 2 ^ j * (2 * 2 ^ (7 - j)) := by
    rw [← Nat.mul_assoc, Nat.mul_comm (2 ^ j), Nat.mul_assoc, ← Nat.pow_add, show j + (7 - j) = 7 by omega]
  rw [e, Nat.mod_mul_right_div_self, Nat.mod_mul_right_mod]
/-- A bit of a number that stands so far up. -/
theorem up_bit (v s d i : Nat) (h : v < 2 ^ d) : v * 2 ^ s / 2 ^ i % 2 = if s ≤ i ∧ i < s + d then v / 2 ^ (i - s) % 2 else 0 := by
  by_cases h1 : s ≤ i
  · have e : 2 ^ i = 2 ^ s * 2 ^ (i - s) := by rw [← Nat.pow_add]; congr 1; omega
    rw [e, Nat.mul_comm v, Nat.mul_div_mul_left _ _ (Nat.two_pow_pos s)]
    by_cases h2 : i < s + d
    · rw [if_pos ⟨h1, h2⟩]
    · rw [if_neg (fun c => h2 c.2)]
      have : v < 2 ^ (i - s) := Nat.lt_of_lt_of_le h (Nat.pow_le_pow_right (by decide) (by omega))
      rw [Nat.div_eq_of_lt this]
  · rw [if_neg (fun c => h1 c.1)]
    have e : 2 ^ s = 2 ^ i * (2 ^ (s - i - 1) * 2) := by rw [← Nat.pow_succ, ← Nat.pow_add]; congr 1; omega
    rw [e, Nat.mul_left_comm, Nat.mul_div_cancel_left _ (Nat.two_pow_pos i), ← Nat.mul_assoc, Nat.mul_mod_left]

def st1 (d a v : Nat) (X : AV) (bs : List Nat) (i : Nat) : List AV := [Nn d, Nn a, Nn v, X, .bool true, .ro false (bytesV bs), Nn i]

theorem l13_loop (G : Globs) (k : Nat) (self : Den) (d a v : Nat) (hd : 1 ≤ d ∧ d ≤ 24) (ha : a < 16) (hv : v < 2 ^ d) (bs : List Nat) (hbs : bs = digs 256 (2 * d) (v * 2 ^ (a * d))) (B : ABlk) (hB : belowL 1 B.elems = true) :
    ∀ (r i f : Nat) (X : AV), belowB 1 X = true → i + r = 16 * d → r < f → ∃ Y, loopN (alembiclaw6_PackOne.l13 G k 1 self) f (st1 d a v X bs i) [B] = some (.exit 0, st1 d a v Y bs (16 * d), [B])
  | _, _, 0, _, _, _, h => by omega
  | r, i, f + 1, X, hX, hi, h => by
    have c1 : bin Tryd.prog .mul 3 true (.int .i64 16) (Nn d) = some (Nn (16 * d)) := by
      rw [bin_mul, wrap_of_i64 (by omega) (by omega)]; congr 2
    have hcut : cutH 1 (st1 d a v X bs i) [B] = some [B] := cutH_of (by simp [st1, belowL, belowB, bytesV_below, hX]) (by simp [heapBelow, hB]) rfl
    rw [loopN_succ, alembiclaw6_PackOne.l13]
    cases r with
    | zero =>
      refine ⟨X, lC hcut ?_⟩
      unfold st1
      have c2 : bin Tryd.prog .lss 3 false (Nn i) (Nn (16 * d)) = some (.bool false) := by rw [bin_lss, decide_eq_false (by omega)]
      have hi' : i = 16 * d := by omega
      repeat first
        | refine oB (by first | (with_reducible exact rfl) | (simp only [pu_val, nth_zero, nth_succ, gd_tt, gd_ff, gd_tf, gd_ft, gd_no, pickA_true, pickA_false, un_not, c1, c2]; first | done | (with_reducible exact rfl) | (with_reducible exact ⟨rfl, rfl⟩))) ?_
        | refine lB (by first | (with_reducible exact rfl) | (simp only [pu_val, nth_zero, nth_succ, gd_tt, gd_ff, gd_tf, gd_ft, gd_no, pickA_true, pickA_false, un_not, c1, c2]; first | done | (with_reducible exact rfl) | (with_reducible exact ⟨rfl, rfl⟩))) ?_
        | refine oT ?_
        | refine oN ?_
        | refine oX ?_
        | refine oXn ?_
        | refine oXr ?_
        | exact oF (finV_bool ..)
        | apply oK
        | refine lT ?_
        | refine lN ?_
        | refine lX ?_
        | refine lXn ?_
        | refine lXr ?_
        | apply lK
        | refine oI ?_
        | refine oJ rfl ?_
        | refine lI ?_
        | refine lJ rfl ?_
        | (with_reducible exact rfl)
      rw [hi']; rfl
    | succ r =>
      obtain ⟨Y, ih⟩ := l13_loop G k self d a v hd ha hv bs hbs B hB r (i + 1) f .undef rfl (by omega) (by omega)
      refine ⟨Y, lC hcut ?_⟩
      unfold st1
      have c2 : bin Tryd.prog .lss 3 false (Nn i) (Nn (16 * d)) = some (.bool true) := by rw [bin_lss, decide_eq_true (by omega)]
      have had : a * d ≤ 15 * 24 := Nat.mul_le_mul (by omega) hd.2
      have c3 : bin Tryd.prog .mul 3 false (Nn a) (Nn d) = some (Nn (a * d)) := by
        rw [bin_mul, ← Int.natCast_mul, wrap_of_i64 (by omega) (by omega)]
      have c4 : bin Tryd.prog .geq 3 false (Nn i) (Nn (a * d)) = some (.bool (decide (a * d ≤ i))) := by
        rw [bin_geq]; congr 2; exact decide_eq_decide.2 (by omega)
      have c5 : bin Tryd.prog .add 3 false (Nn (a * d)) (Nn d) = some (Nn (a * d + d)) := by
        rw [bin_add, wrap_of_i64 (by omega) (by omega)]; congr 2
      have c6 : bin Tryd.prog .lss 3 false (Nn i) (Nn (a * d + d)) = some (.bool (decide (i < a * d + d))) := by
        rw [bin_lss]; congr 2; exact decide_eq_decide.2 (by omega)
      -- the byte's bit
      have e1 : (i : Int).tdiv 8 = ((i / 8 : Nat) : Int) := rfl
      have e2 : (i : Int).tmod 8 = ((i % 8 : Nat) : Int) := rfl
      have c10 : bin Tryd.prog .quo 3 true (Nn i) (.int .i64 8) = some (Nn (i / 8)) := by
        rw [bin_quo _ _ _ _ _ _ (by decide), e1, wrap_of_i64 (by omega) (by omega)]
      have c11 : bin Tryd.prog .rem 3 true (Nn i) (.int .i64 8) = some (Nn (i % 8)) := by
        rw [bin_rem _ _ _ _ _ _ (by decide), e2]
      have c12 := idx_bytes false bs (i / 8) (v * 2 ^ (a * d) / 256 ^ (i / 8) % 256) (by rw [hbs]; exact digs_get 256 _ _ _ (by omega))
      have c13 : convInt .u64 (Nn (i % 8)) = some (.int .u64 ((i % 8 : Nat) : Int)) := by rw [convInt_int, wrap_of_u64 (by omega) (by omega)]
      generalize hbyte : v * 2 ^ (a * d) / 256 ^ (i / 8) % 256 = byte at c12
      have hb256 : byte < 256 := by rw [← hbyte]; exact Nat.mod_lt _ (by decide)
      have c14 : bin Tryd.prog .shr 5 false (.int .u8 (byte : Int)) (.int .u64 ((i % 8 : Nat) : Int)) = some (.int .u8 ((byte / 2 ^ (i % 8) : Nat) : Int)) := by
        rw [bin_shr _ _ _ _ _ _ _ (Int.natCast_nonneg _)]
        have e : min (((i % 8 : Nat) : Int)).toNat IntKind.u8.bits = i % 8 := by rw [Int.toNat_natCast]; exact Nat.min_eq_left (by have : IntKind.u8.bits = 8 := rfl; omega)
        rw [e, fdiv_pow_nat]
      have hq : byte / 2 ^ (i % 8) ≤ byte := Nat.div_le_self _ _
      have c15 : bin Tryd.prog .and 5 true (.int .u8 ((byte / 2 ^ (i % 8) : Nat) : Int)) (.int .u8 1) = some (.int .u8 ((byte / 2 ^ (i % 8) % 2 : Nat) : Int)) := by
        have := u8_and_nat (byte / 2 ^ (i % 8)) 1 (by omega) (by decide)
        rw [bin_and]; rw [show ((1 : Nat) : Int) = 1 from rfl] at this; rw [this, nat_mask1]
      have hbit : byte / 2 ^ (i % 8) % 2 = if a * d ≤ i ∧ i < a * d + d then v / 2 ^ (i - a * d) % 2 else 0 := by
        rw [← hbyte, byte_bit, up_bit v (a * d) d i hv]
      have hm2 : byte / 2 ^ (i % 8) % 2 < 2 := Nat.mod_lt _ (by decide)
      have c16 : convInt .i64 (.int .u8 ((byte / 2 ^ (i % 8) % 2 : Nat) : Int)) = some (Nn (byte / 2 ^ (i % 8) % 2)) := by
        rw [convInt_int, wrap_of_i64 (by omega) (by omega)]
      have c18 : bin Tryd.prog .add 3 true (Nn i) (.int .i64 1) = some (Nn (i + 1)) := by
        rw [bin_add, wrap_of_i64 (by omega) (by omega)]; congr 2
      by_cases h1 : a * d ≤ i
      · simp only [decide_eq_true h1] at c4
        by_cases h2 : i < a * d + d
        · simp only [decide_eq_true h2] at c6
          rw [if_pos ⟨h1, h2⟩] at hbit
          have c7 : bin Tryd.prog .sub 3 false (Nn i) (Nn (a * d)) = some (Nn (i - a * d)) := by
            rw [bin_sub, wrap_of_i64 (by omega) (by omega)]; congr 2; omega
          have c8 : convInt .u64 (Nn (i - a * d)) = some (.int .u64 ((i - a * d : Nat) : Int)) := by rw [convInt_int, wrap_of_u64 (by omega) (by omega)]
          have c9 : bin Tryd.prog .shr 3 false (Nn v) (.int .u64 ((i - a * d : Nat) : Int)) = some (Nn (v / 2 ^ (i - a * d))) := by
            rw [bin_shr _ _ _ _ _ _ _ (Int.natCast_nonneg _)]
            have e : min (((i - a * d : Nat) : Int)).toNat IntKind.i64.bits = i - a * d := by rw [Int.toNat_natCast]; exact Nat.min_eq_left (by have : IntKind.i64.bits = 64 := rfl; omega)
            rw [e, fdiv_pow_nat]
          have hpow : 2 ^ d ≤ 2 ^ 24 := Nat.pow_le_pow_right (by decide) hd.2
          have hqv : v / 2 ^ (i - a * d) ≤ v := Nat.div_le_self _ _
          have c19 : bin Tryd.prog .and 3 true (Nn (v / 2 ^ (i - a * d))) (.int .i64 1) = some (Nn (v / 2 ^ (i - a * d) % 2)) := by
            have := i64_and_nat (v / 2 ^ (i - a * d)) 1 (by omega) (by decide)
            rw [bin_and]; rw [show ((1 : Nat) : Int) = 1 from rfl] at this; rw [this, nat_mask1]
          have c17 : bin Tryd.prog .neq 3 false (Nn (byte / 2 ^ (i % 8) % 2)) (Nn (v / 2 ^ (i - a * d) % 2)) = some (.bool false) := by
            rw [bin_neq, hbit]; simp
          repeat first
            | refine oB (by first | (with_reducible exact rfl) | (simp only [pu_val, nth_zero, nth_succ, gd_tt, gd_ff, gd_tf, gd_ft, gd_no, pickA_true, pickA_false, un_not, c1, c2, c3, c4, c5, c6, c7, c8, c9, c10, c11, c12, c13, c14, c15, c16, c17, c18, c19, load_int]; first | done | (with_reducible exact rfl) | (with_reducible exact ⟨rfl, rfl⟩))) ?_
            | refine lB (by first | (with_reducible exact rfl) | (simp only [pu_val, nth_zero, nth_succ, gd_tt, gd_ff, gd_tf, gd_ft, gd_no, pickA_true, pickA_false, un_not, c1, c2, c3, c4, c5, c6, c7, c8, c9, c10, c11, c12, c13, c14, c15, c16, c17, c18, c19, load_int]; first | done | (with_reducible exact rfl) | (with_reducible exact ⟨rfl, rfl⟩))) ?_
            | refine oT ?_
            | refine oN ?_
            | refine oX ?_
            | refine oXn ?_
            | refine oXr ?_
            | exact oF (finV_bool ..)
            | apply oK
            | refine lT ?_
            | refine lN ?_
            | refine lX ?_
            | refine lXn ?_
            | refine lXr ?_
            | apply lK
            | refine oI ?_
            | refine oJ rfl ?_
            | refine lI ?_
            | refine lJ rfl ?_
            | (with_reducible exact rfl)
          exact ih
        · simp only [decide_eq_false h2] at c6
          rw [if_neg (fun c => h2 c.2)] at hbit
          have c17 : bin Tryd.prog .neq 3 false (Nn (byte / 2 ^ (i % 8) % 2)) (.int .i64 0) = some (.bool false) := by
            rw [bin_neq, hbit]; rfl
          repeat first
            | refine oB (by first | (with_reducible exact rfl) | (simp only [pu_val, nth_zero, nth_succ, gd_tt, gd_ff, gd_tf, gd_ft, gd_no, pickA_true, pickA_false, un_not, c1, c2, c3, c4, c5, c6, c10, c11, c12, c13, c14, c15, c16, c17, c18, load_int]; first | done | (with_reducible exact rfl) | (with_reducible exact ⟨rfl, rfl⟩))) ?_
            | refine lB (by first | (with_reducible exact rfl) | (simp only [pu_val, nth_zero, nth_succ, gd_tt, gd_ff, gd_tf, gd_ft, gd_no, pickA_true, pickA_false, un_not, c1, c2, c3, c4, c5, c6, c10, c11, c12, c13, c14, c15, c16, c17, c18, load_int]; first | done | (with_reducible exact rfl) | (with_reducible exact ⟨rfl, rfl⟩))) ?_
            | refine oT ?_
            | refine oN ?_
            | refine oX ?_
            | refine oXn ?_
            | refine oXr ?_
            | exact oF (finV_bool ..)
            | apply oK
            | refine lT ?_
            | refine lN ?_
            | refine lX ?_
            | refine lXn ?_
            | refine lXr ?_
            | apply lK
            | refine oI ?_
            | refine oJ rfl ?_
            | refine lI ?_
            | refine lJ rfl ?_
            | (with_reducible exact rfl)
          exact ih
      · simp only [decide_eq_false h1] at c4
        rw [if_neg (fun c => h1 c.1)] at hbit
        have c17 : bin Tryd.prog .neq 3 false (Nn (byte / 2 ^ (i % 8) % 2)) (.int .i64 0) = some (.bool false) := by
          rw [bin_neq, hbit]; rfl
        repeat first
          | refine oB (by first | (with_reducible exact rfl) | (simp only [pu_val, nth_zero, nth_succ, gd_tt, gd_ff, gd_tf, gd_ft, gd_no, pickA_true, pickA_false, un_not, c1, c2, c3, c4, c10, c11, c12, c13, c14, c15, c16, c17, c18, load_int]; first | done | (with_reducible exact rfl) | (with_reducible exact ⟨rfl, rfl⟩))) ?_
          | refine lB (by first | (with_reducible exact rfl) | (simp only [pu_val, nth_zero, nth_succ, gd_tt, gd_ff, gd_tf, gd_ft, gd_no, pickA_true, pickA_false, un_not, c1, c2, c3, c4, c10, c11, c12, c13, c14, c15, c16, c17, c18, load_int]; first | done | (with_reducible exact rfl) | (with_reducible exact ⟨rfl, rfl⟩))) ?_
          | refine oT ?_
          | refine oN ?_
          | refine oX ?_
          | refine oXn ?_
          | refine oXr ?_
          | exact oF (finV_bool ..)
          | apply oK
          | refine lT ?_
          | refine lN ?_
          | refine lX ?_
          | refine lXn ?_
          | refine lXr ?_
          | apply lK
          | refine oI ?_
          | refine oJ rfl ?_
          | refine lI ?_
          | refine lJ rfl ?_
          | (with_reducible exact rfl)
        exact ih

abbrev GS : Globs := sentG 72 [0, 1, 2, 3, 4, 5, 6, 7, 8, 9, 10, 11, 12, 13]
abbrev E0 : AV := .iface 72 (.gp 0)
abbrev E1 : AV := .iface 72 (.gp 1)
theorem is0 (k : Nat) : alembicsee_Is.f GS (k + 40) [E0, .int .i64 101] [] = some (.bool true, []) := by kernel_rfl
theorem is1 (k : Nat) : alembicsee_Is.f GS (k + 40) [E1, .int .i64 102] [] = some (.bool true, []) := by kernel_rfl

set_option maxRecDepth 100000 in
theorem LPackOne.law (xs : List AV) (h : IsTs Tryd.prog [3, 3, 3] xs) : ∃ k, alembiclaw6_PackOne.f (sentG 72 [0, 1, 2, 3, 4, 5, 6, 7, 8, 9, 10, 11, 12, 13]) k xs [] = some (.bool true, []) := by
  obtain ⟨x, _, rfl, hx, h⟩ := h.uncons
  obtain ⟨y, _, rfl, hy, h⟩ := h.uncons
  obtain ⟨z, _, rfl, hz, h⟩ := h.uncons
  obtain rfl := h.unnil
  obtain ⟨d0, rfl, hd0⟩ := hx.of_int Tryd.underlying3
  obtain ⟨a0, rfl, ha0⟩ := hy.of_int Tryd.underlying3
  obtain ⟨v0, rfl, hv0⟩ := hz.of_int Tryd.underlying3
  have hd0' := wf_i64 hd0
  have ha0' := wf_i64 ha0
  have hv0' := wf_i64 hv0
  refine ⟨1001, ?_⟩
  have rf : ∀ H, pureCall (alembiclaw6_first.f GS 1000) [] H = _ := fun H => pureCall_of (H := H) (first_ok GS 970) rfl rfl
  have hG0 : GS 0 = some E0 := rfl
  have hG1 : GS 1 = some E1 := rfl
  have i0 : ∀ H, pureCall (alembicsee_Is.f GS 1000) [E0, .int .i64 101] H = _ := fun H => pureCall_of (H := H) (is0 960) rfl rfl
  have i1 : ∀ H, pureCall (alembicsee_Is.f GS 1000) [E1, .int .i64 102] H = _ := fun H => pureCall_of (H := H) (is1 960) rfl rfl
  change alembiclaw6_PackOne.f GS 1001 _ _ = _
  generalize GS = G at *
  obtain ⟨d, hd, hdd⟩ : ∃ d : Nat, (1 ≤ d ∧ d ≤ 24) ∧ (d0 % 24 + 1 = (d : Int)) := ⟨(d0 % 24 + 1).toNat, by omega, by omega⟩
  obtain ⟨a, ha, haa⟩ : ∃ a : Nat, a < 16 ∧ (a0 % 16 = (a : Int)) := ⟨(a0 % 16).toNat, by omega, by omega⟩
  have hpow : 2 ^ d ≤ 2 ^ 24 := Nat.pow_le_pow_right (by decide) hd.2
  have hpos := Nat.two_pow_pos d
  obtain ⟨v, hv, hvv⟩ : ∃ v : Nat, v < 2 ^ d ∧ (v0 % ((2 ^ d : Nat) : Int) = (v : Int)) := by
    have h1 := Int.emod_lt_of_pos v0 (show (0 : Int) < ((2 ^ d : Nat) : Int) by omega)
    have h2 := Int.emod_nonneg v0 (show ((2 ^ d : Nat) : Int) ≠ 0 by omega)
    exact ⟨(v0 % ((2 ^ d : Nat) : Int)).toNat, by omega, by omega⟩
  have c1 : ∀ H, pureCall (alembicworld_Number.f G 1000) [.int .i64 d0, .int .i64 24] H = some (.int .i64 (d0 % 24), H) := fun H =>
    pureCall_of (number G 999 d0 24 (by decide) (by decide) hd0'.1 hd0'.2) rfl rfl
  have c2 : bin Tryd.prog .add 3 true (.int .i64 (d0 % 24)) (.int .i64 1) = some (Nn d) := by
    rw [bin_add, wrap_of_i64 (by omega) (by omega), hdd]
  have c3 : ∀ H, pureCall (alembicworld_Number.f G 1000) [.int .i64 a0, .int .i64 16] H = some (Nn a, H) := fun H => by
    rw [show Nn a = .int .i64 (a0 % 16) by rw [haa]]
    exact pureCall_of (number G 999 a0 16 (by decide) (by decide) ha0'.1 ha0'.2) rfl rfl
  have c4 : convInt .u64 (Nn d) = some (.int .u64 (d : Int)) := by rw [convInt_int, wrap_of_u64 (by omega) (by omega)]
  have c5 : bin Tryd.prog .shl 3 true (.int .i64 1) (.int .u64 (d : Int)) = some (Nn (2 ^ d)) := by
    rw [bin_shl _ _ _ _ _ _ _ (Int.natCast_nonneg d), pow_i64 d (by omega)]
  have c6 : ∀ H, pureCall (alembicworld_Number.f G 1000) [.int .i64 v0, Nn (2 ^ d)] H = some (Nn v, H) := fun H => by
    rw [show Nn v = .int .i64 (v0 % ((2 ^ d : Nat) : Int)) by rw [hvv]]
    exact pureCall_of (number G 999 v0 ((2 ^ d : Nat) : Int) (by omega) (by omega) hv0'.1 hv0'.2) rfl rfl
  obtain ⟨ls, hls⟩ : ∃ ls, ls = only 16 a v := ⟨_, rfl⟩
  have hll : ls.length = 16 := by rw [hls]; simp [only]
  have c7 : makeSliceV 3 1 (.int .i64 0) (.int .i64 16) (.int .i64 16) [] = some (.sl 0 16 0 16 1, [⟨3, 1, List.replicate 16 (.int .i64 0)⟩]) := rfl
  have c8 : idxAddrSl 1 (.sl 0 16 0 16 1) (Nn a) = some (.ptr 0 16 a 0) := by
    have : ((0 : Int) ≤ (a : Int) ∧ (a : Int) < ((16 : Nat) : Int)) := by omega
    show (if 0 ≤ (a : Int) ∧ (a : Int) < ((16 : Nat) : Int) then (if 1 = 1 then some (AV.ptr 0 16 (0 + ((a : Int)).toNat) 0) else none) else none) = _
    rw [if_pos this, if_pos rfl, Int.toNat_natCast, Nat.zero_add]
  have c9 : stS (storeV 1 (.ptr 0 16 a 0) (Nn v) [⟨3, 1, List.replicate 16 (.int .i64 0)⟩]) = some (.tup [], [⟨3, 1, natsV ls⟩]) := by
    have hg : (List.replicate 16 (AV.int .i64 0))[a]? = some (.int .i64 0) := by rw [List.getElem?_replicate]; simp [ha]
    have : storeV 1 (.ptr 0 16 a 0) (Nn v) [⟨3, 1, List.replicate 16 (.int .i64 0)⟩] = some [⟨3, 1, natsV ls⟩] := by
      simp only [storeV, List.getElem?_cons_zero, List.length_replicate, hg]
      rw [hls, ← only_natsV]
      simp [storable, AV.cells, recell, putC]
    rw [this]; rfl
  have hlt : ∀ x ∈ ls, x < 2 ^ d := fun x hx => by
    rw [hls] at hx
    rcases List.mem_or_eq_of_mem_set hx with hx | rfl
    · have := List.eq_of_mem_replicate hx; omega
    · exact hv
  have hV : val (2 ^ d) ls = v * 2 ^ (a * d) := by rw [hls, val_only _ _ _ _ ha, ← Nat.pow_mul, Nat.mul_comm d]
  have castl : (ls.map fun (x : Nat) => (x : Int)).length = 16 := by simp [hll]
  have cast2 : Vb d (ls.map fun (x : Nat) => (x : Int)) = v * 2 ^ (a * d) := by
    unfold Vb; rw [List.map_map, ← hV]; congr 1
    exact (List.map_congr_left (fun x _ => by simp)).trans (List.map_id ls)
  have cast1 : Lb d (ls.map fun (x : Nat) => (x : Int)) = 2 * d := by unfold Lb; rw [castl]; omega
  obtain ⟨bs, hbs⟩ : ∃ bs, bs = digs 256 (2 * d) (v * 2 ^ (a * d)) := ⟨_, rfl⟩
  have hbl : bs.length = 2 * d := by rw [hbs, digs_length]
  have b1 : pureCall (pack_Bits.f G 1000) [Nn d, .sl 0 16 0 16 1] [⟨3, 1, natsV ls⟩] = some (.tup [.ro false (bytesV bs), .nili], [⟨3, 1, natsV ls⟩]) := by
    have h1 := bits_ok G 999 d hd true (ls.map fun (x : Nat) => (x : Int)) (by omega) (by omega) (by rw [castl]; simp) (fun x hx' => by
      obtain ⟨w, hw, rfl⟩ := List.mem_map.1 hx'
      have := hlt w hw; omega)
    rw [← nats_ints, cast1, cast2, ← hbs] at h1
    exact pureCall_as (snapL_cons snap_int (snapL_cons (snap_sl (e := 3) rfl (by rw [natsV_len, hll]) nats_of) snapL_nil)) h1 (by simp [cleanB, cleanL, clean_ints bytes_of])
  have ex0 : ∀ x y : AV, extractA (.tup [x, y]) 0 = some x := fun _ _ => rfl
  have ex1 : ∀ x y : AV, extractA (.tup [x, y]) 1 = some y := fun _ _ => rfl
  have n1 : bin Tryd.prog .neq 30 true .nili .nili = some (.bool false) := by kernel_rfl
  have c10 : lenSl (.ro false (bytesV bs)) = some (Nn (2 * d)) := by simp [lenSl, bytesV_len, hbl]
  have c11 : bin Tryd.prog .mul 3 true (.int .i64 2) (Nn d) = some (Nn (2 * d)) := by
    rw [bin_mul, wrap_of_i64 (by omega) (by omega)]; congr 2
  have c12 : bin Tryd.prog .neq 3 false (Nn (2 * d)) (Nn (2 * d)) = some (.bool false) := by rw [bin_neq]; simp
  obtain ⟨Y, hl⟩ := l13_loop G 1000 (alembiclaw6_PackOne.f G 1000) d a v hd ha hv bs hbs ⟨3, 1, natsV ls⟩ (natsV_below 1 ls) (16 * d) 0 1000 (.bool false) rfl (by omega) (by omega)
  unfold st1 at hl
  -- what is amiss
  have mk8 : ∀ x : Int, ∀ H, buildRo 1 8 (.int .i64 0) [(0, .int .i64 x), (1, (.int .i64 0)), (2, (.int .i64 0)), (3, (.int .i64 0)), (4, (.int .i64 0)), (5, (.int .i64 0)), (6, (.int .i64 0)), (7, (.int .i64 0))] H = some (.ro false (intsV [x, 0, 0, 0, 0, 0, 0, 0]), H) := fun x H => rfl
  have bad : ∀ x : Int, ¬ (0 ≤ x ∧ x < ((2 ^ d : Nat) : Int)) → ∀ H, pureCall (pack_Bits.f G 1000) [Nn d, .ro false (intsV [x, 0, 0, 0, 0, 0, 0, 0])] H = some (.tup [.ro false [], E0], H) := fun x hx H => by
    have h1 := bits_fail G 999 d hd false [x, 0, 0, 0, 0, 0, 0, 0] (by simp) (by simp) (by simp) (fun c => hx (c x (by simp))) E0 rfl hG0
    exact pureCall_of h1 (by simp [plainL, plainB, plain_ints ints_of]) rfl
  have bad1 := bad ((2 ^ d : Nat) : Int) (by omega)
  have bad2 := bad (-1) (by omega)
  have c13 : sliceSl 1 (.ro false (bytesV bs)) (some (.int .i64 1)) none = some (.ro false (bytesV (bs.drop 1))) := by
    have e : bytesV (bs.drop 1) = ((bytesV bs).drop 1).take ((bytesV bs).length - 1) := by
      rw [List.take_of_length_le (by simp)]; simp [bytesV, List.map_drop]
    have h0 : ((0 : Int) ≤ 1) := by decide
    have h1 : ((1 : Int)).toNat = 1 := rfl
    simp only [sliceSl, boundA, h0, h1, if_true]
    rw [if_pos ⟨by rw [bytesV_len]; omega, Nat.le_refl _, allSz_ints bytes_of⟩, e]
  have o1 : ∀ H, pureCall (pack_Open.f G 1000) [Nn d, .int .i64 16, .ro false (bytesV (bs.drop 1))] H = some (.tup [.ro false [], E1], H) := fun H =>
    pureCall_of (open_length G 999 d 16 hd (by decide) false (bytesV (bs.drop 1)) (.inr (by rw [bytesV_len, List.length_drop]; omega)) E1 rfl hG1) (by simp [plainL, plainB, plain_ints bytes_of]) rfl
  have o2 : ∀ H, pureCall (pack_Open.f G 1000) [Nn d, .int .i64 4097, .ro false (bytesV bs)] H = some (.tup [.ro false [], E0], H) := fun H =>
    pureCall_of (open_range G 999 d 4097 (.ro false (bytesV bs)) (by omega) E0 rfl hG0) (by simp [plainL, plainB, plain_ints bytes_of]) rfl
  rw [alembiclaw6_PackOne.step]
  unfold alembiclaw6_PackOne.c
  repeat first
    | refine oB (by first | (with_reducible exact rfl) | (simp only [pu_val, nth_zero, nth_succ, gd_tt, gd_ff, gd_tf, gd_ft, gd_no, pickA_true, pickA_false, un_not, rf, c1, c2, c3, c4, c5, c6, c7, c8, c9, b1, ex0, ex1, n1, c10, c11, c12, Bool.not_true]; first | done | (with_reducible exact rfl) | (with_reducible exact ⟨rfl, rfl⟩))) ?_
    | refine lB (by first | (with_reducible exact rfl) | (simp only [pu_val, nth_zero, nth_succ, gd_tt, gd_ff, gd_tf, gd_ft, gd_no, pickA_true, pickA_false, un_not, rf, c1, c2, c3, c4, c5, c6, c7, c8, c9, b1, ex0, ex1, n1, c10, c11, c12, Bool.not_true]; first | done | (with_reducible exact rfl) | (with_reducible exact ⟨rfl, rfl⟩))) ?_
    | refine oT ?_
    | refine oN ?_
    | refine oX ?_
    | refine oXn ?_
    | refine oXr ?_
    | exact oF (finV_bool ..)
    | apply oK
    | refine lT ?_
    | refine lN ?_
    | refine lX ?_
    | refine lXn ?_
    | refine lXr ?_
    | apply lK
    | refine oI ?_
    | refine oJ rfl ?_
    | refine lI ?_
    | refine lJ rfl ?_
    | (with_reducible exact rfl)
  exact hl
  repeat first
    | refine oB (by first | (with_reducible exact rfl) | (simp only [pu_val, nth_zero, nth_succ, gd_tt, gd_ff, gd_tf, gd_ft, gd_no, pickA_true, pickA_false, un_not, c4, c5, mk8, bad1, bad2, ex0, ex1, c13, o1, o2, i0, i1]; first | done | (with_reducible exact rfl) | (with_reducible exact ⟨rfl, rfl⟩))) ?_
    | refine lB (by first | (with_reducible exact rfl) | (simp only [pu_val, nth_zero, nth_succ, gd_tt, gd_ff, gd_tf, gd_ft, gd_no, pickA_true, pickA_false, un_not, c4, c5, mk8, bad1, bad2, ex0, ex1, c13, o1, o2, i0, i1]; first | done | (with_reducible exact rfl) | (with_reducible exact ⟨rfl, rfl⟩))) ?_
    | refine oT ?_
    | refine oN ?_
    | refine oX ?_
    | refine oXn ?_
    | refine oXr ?_
    | exact oF (finV_bool ..)
    | apply oK
    | refine lT ?_
    | refine lN ?_
    | refine lX ?_
    | refine lXn ?_
    | refine lXr ?_
    | apply lK
    | refine oI ?_
    | refine oJ rfl ?_
    | refine lI ?_
    | refine lJ rfl ?_
    | (with_reducible exact rfl)
end Go.Proofs.YtemkaggjbhpbbaaDoor
