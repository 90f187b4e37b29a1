/- What the document's packing gives, all of it: beside what the program's gives. -/
import Derived.Test.YtemkaggjbhpbbaaDoorSg
namespace Go.Proofs.YtemkaggjbhpbbaaDoor.Mir
open Go
set_option linter.unusedVariables false
set_option linter.unusedSimpArgs false

/-! ### opened, bit for bit -/
def stQ (d n : Nat) (bor : Bool) (b : List Nat) (L i x k : Nat) : List AV := [Nn d, Nn n, .ro bor (bytesV b), .sl 1 L 0 L 1, Nn i, Nn x, Nn k]
def hpQ (out : List Nat) : AHeap := [⟨3, 1, []⟩, ⟨3, 1, natsV out⟩]
theorem cutQ {d n : Nat} {bor : Bool} {b : List Nat} {L i x k : Nat} {out : List Nat} : cutH 2 (stQ d n bor b L i x k) (hpQ out) = some (hpQ out) :=
  cutH_of (by simp [stQ, belowL, belowB, bytesV_below]) (by simp [hpQ, heapBelow, belowL, natsV_below]) rfl

theorem q11_loop (G : Globs) (k0 : Nat) (self : Den) (d n : Nat) (hd : 1 ≤ d ∧ d ≤ 24) (hn : n ≤ 4096) (bor : Bool) (b : List Nat) (hb : ∀ x ∈ b, x < 256) (hl : 8 * b.length = d * n) (L : Nat) (out : List Nat) (i : Nat) (hi : i < n) (y : Nat) (hy : y = val 256 b / 2 ^ (d * i)) :
    ∀ (r k f : Nat), k + r = d → r < f → loopN (alembicref4_Open.l11 G k0 2 self) f (stQ d n bor b L i (y % 2 ^ k) k) (hpQ out) = some (.exit 2, stQ d n bor b L i (y % 2 ^ d) d, hpQ out)
  | _, _, 0, _, h => by omega
  | 0, k, f + 1, hk, h => by
    have hkd : k = d := by omega
    subst hkd
    have c1 : bin Tryd.prog .lss 3 false (Nn k) (Nn k) = some (.bool false) := by rw [bin_lss, decide_eq_false (by omega)]
    rw [loopN_succ, alembicref4_Open.l11]
    refine lC cutQ ?_
    unfold stQ
    repeat first
      | refine oB (by first | (simp only [pu_val, nth_zero, nth_succ, gd_tt, gd_ff, gd_tf, gd_ft, gd_no, pickA_true, pickA_false, un_not, c1]; first | done | (with_reducible exact rfl) | (with_reducible exact ⟨rfl, rfl⟩)) | (with_reducible exact rfl)) ?_
      | refine lB (by first | (simp only [pu_val, nth_zero, nth_succ, gd_tt, gd_ff, gd_tf, gd_ft, gd_no, pickA_true, pickA_false, un_not, c1]; first | done | (with_reducible exact rfl) | (with_reducible exact ⟨rfl, rfl⟩)) | (with_reducible exact rfl)) ?_
      | refine oT ?_
      | refine oN ?_
      | refine oX ?_
      | refine oXn ?_
      | refine oXr ?_
      | exact oF (finV_bool ..)
      | apply oK
      | refine lT ?_
      | refine lN ?_
      | refine lX ?_
      | refine lXn ?_
      | refine lXr ?_
      | apply lK
      | refine oI ?_
      | refine oJ rfl ?_
      | refine lI ?_
      | refine lJ rfl ?_
      | (with_reducible exact rfl)
    rfl
  | r + 1, k, f + 1, hk, h => by
    have hdi : d * i ≤ 24 * 4096 := Nat.mul_le_mul hd.2 (by omega)
    have hdn : d * (i + 1) ≤ d * n := Nat.mul_le_mul_left _ hi
    rw [Nat.mul_add, Nat.mul_one] at hdn
    have c1 : bin Tryd.prog .lss 3 false (Nn k) (Nn d) = some (.bool true) := by rw [bin_lss, decide_eq_true (by omega)]
    have c2 : bin Tryd.prog .mul 3 false (Nn i) (Nn d) = some (Nn (d * i)) := by
      rw [bin_mul, ← Int.natCast_mul, Nat.mul_comm i, wrap_of_i64 (by omega) (by omega)]
    have c3 : bin Tryd.prog .add 3 false (Nn (d * i)) (Nn k) = some (Nn (d * i + k)) := by
      rw [bin_add, wrap_of_i64 (by omega) (by omega)]; congr 2
    obtain ⟨p, hp⟩ : ∃ p, p = d * i + k := ⟨_, rfl⟩
    rw [← hp] at c3
    have e1 : (p : Int).tdiv 8 = ((p / 8 : Nat) : Int) := rfl
    have e2 : (p : Int).tmod 8 = ((p % 8 : Nat) : Int) := rfl
    have c4 : bin Tryd.prog .quo 3 true (Nn p) (.int .i64 8) = some (Nn (p / 8)) := by
      rw [bin_quo _ _ _ _ _ _ (by decide), e1, wrap_of_i64 (by omega) (by omega)]
    have hpM : p / 8 < b.length := by omega
    have hbg : b[p / 8]? = some (val 256 b / 256 ^ (p / 8) % 256) := by
      have := digs_get 256 b.length (val 256 b) (p / 8) hpM
      rw [digs_val 256 b hb] at this; exact this
    have c5 := idx_bytes bor b (p / 8) _ hbg
    obtain ⟨B, hB⟩ : ∃ B, B = val 256 b / 256 ^ (p / 8) % 256 := ⟨_, rfl⟩
    have hB256 : B < 256 := by rw [hB]; exact Nat.mod_lt _ (by decide)
    have c6 : bin Tryd.prog .rem 3 true (Nn p) (.int .i64 8) = some (Nn (p % 8)) := by rw [bin_rem _ _ _ _ _ _ (by decide), e2]
    have c7 : convInt .u64 (Nn (p % 8)) = some (.int .u64 ((p % 8 : Nat) : Int)) := by rw [convInt_int, wrap_of_u64 (by omega) (by omega)]
    have c8 : bin Tryd.prog .shr 5 false (.int .u8 (B : Int)) (.int .u64 ((p % 8 : Nat) : Int)) = some (.int .u8 ((B / 2 ^ (p % 8) : Nat) : Int)) := by
      rw [bin_shr _ _ _ _ _ _ _ (Int.natCast_nonneg _)]
      have e : min (((p % 8 : Nat) : Int)).toNat IntKind.u8.bits = p % 8 := by rw [Int.toNat_natCast]; exact Nat.min_eq_left (by have : IntKind.u8.bits = 8 := rfl; omega)
      rw [e, fdiv_pow_nat]
    have hq : B / 2 ^ (p % 8) ≤ B := Nat.div_le_self _ _
    have c9 : bin Tryd.prog .and 5 true (.int .u8 ((B / 2 ^ (p % 8) : Nat) : Int)) (.int .u8 1) = some (.int .u8 ((B / 2 ^ (p % 8) % 2 : Nat) : Int)) := by
      have := u8_and_nat (B / 2 ^ (p % 8)) 1 (by omega) (by decide)
      rw [bin_and]; rw [show ((1 : Nat) : Int) = 1 from rfl] at this; rw [this, nat_mask1]
    obtain ⟨t, ht⟩ : ∃ t, t = B / 2 ^ (p % 8) % 2 := ⟨_, rfl⟩
    have ht2 : t < 2 := by rw [ht]; exact Nat.mod_lt _ (by decide)
    have htb : t = y / 2 ^ k % 2 := by
      rw [ht, hB, byte_bit, hy, hp, Nat.pow_add, Nat.div_div_eq_div_mul]
    have c10 : convInt .i64 (.int .u8 (t : Int)) = some (Nn t) := by rw [convInt_int, wrap_of_i64 (by omega) (by omega)]
    have c11 : convInt .u64 (Nn k) = some (.int .u64 (k : Int)) := by rw [convInt_int, wrap_of_u64 (by omega) (by omega)]
    have hs : t * 2 ^ k < 2 ^ 25 := by
      have h1 : 2 ^ k ≤ 2 ^ 24 := Nat.pow_le_pow_right (by decide) (by omega)
      have h2 : t * 2 ^ k ≤ 1 * 2 ^ k := Nat.mul_le_mul_right _ (by omega)
      omega
    have c12 : bin Tryd.prog .shl 3 false (Nn t) (.int .u64 (k : Int)) = some (Nn (t * 2 ^ k)) := by
      rw [bin_shl _ _ _ _ _ _ _ (Int.natCast_nonneg _)]
      have e : min ((k : Int)).toNat IntKind.i64.bits = k := by rw [Int.toNat_natCast]; exact Nat.min_eq_left (by have : IntKind.i64.bits = 64 := rfl; omega)
      have e2 : ((t : Int) * 2 ^ k : Int) = ((t * 2 ^ k : Nat) : Int) := by push_cast; rfl
      rw [e, e2, wrap_of_i64 (by omega) (by omega)]
    have hyk : y % 2 ^ k < 2 ^ k := Nat.mod_lt _ (Nat.two_pow_pos k)
    have hk24 : 2 ^ k ≤ 2 ^ 24 := Nat.pow_le_pow_right (by decide) (by omega)
    have c13 : bin Tryd.prog .or 3 false (Nn (y % 2 ^ k)) (Nn (t * 2 ^ k)) = some (Nn (y % 2 ^ (k + 1))) := by
      rw [bin_or, i64_or_nat _ _ (by omega) (by omega), or_shift _ _ _ hyk, mod_next, htb]
    have c14 : bin Tryd.prog .add 3 true (Nn k) (.int .i64 1) = some (Nn (k + 1)) := by
      rw [bin_add, wrap_of_i64 (by omega) (by omega)]; congr 2
    have ih := q11_loop G k0 self d n hd hn bor b hb hl L out i hi y hy r (k + 1) f (by omega) (by omega)
    rw [← hB] at c5
    rw [← ht] at c9
    obtain ⟨y1, hy1⟩ : ∃ z, z = y % 2 ^ (k + 1) := ⟨_, rfl⟩
    obtain ⟨y2, hy2⟩ : ∃ z, z = y % 2 ^ k := ⟨_, rfl⟩
    obtain ⟨y3, hy3⟩ : ∃ z, z = t * 2 ^ k := ⟨_, rfl⟩
    obtain ⟨y4, hy4⟩ : ∃ z, z = B / 2 ^ (p % 8) := ⟨_, rfl⟩
    obtain ⟨j, hj⟩ : ∃ j, j = p / 8 := ⟨_, rfl⟩
    obtain ⟨m, hm⟩ : ∃ m, m = p % 8 := ⟨_, rfl⟩
    obtain ⟨di, hdi'⟩ : ∃ m, m = d * i := ⟨_, rfl⟩
    rw [← hy1] at c13 ih
    rw [← hy2] at c13 ⊢
    rw [← hy3] at c12 c13
    rw [← hy4] at c8 c9
    rw [← hj] at c4 c5
    rw [← hm] at c6 c7 c8
    rw [← hdi'] at c2 c3
    clear hy1 hy2 hy3 hy4 hj hm hdi'
    rw [loopN_succ, alembicref4_Open.l11]
    refine lC cutQ ?_
    unfold stQ
    repeat first
      | refine oB (by first | (simp only [pu_val, nth_zero, nth_succ, gd_tt, gd_ff, gd_tf, gd_ft, gd_no, pickA_true, pickA_false, un_not, c1, c2, c3, c4, c5, c6, c7, c8, c9, c10, c11, c12, c13, load_int]; first | done | (with_reducible exact rfl) | (with_reducible exact ⟨rfl, rfl⟩)) | (with_reducible exact rfl)) ?_
      | refine lB (by first | (simp only [pu_val, nth_zero, nth_succ, gd_tt, gd_ff, gd_tf, gd_ft, gd_no, pickA_true, pickA_false, un_not, c1, c2, c3, c4, c5, c6, c7, c8, c9, c10, c11, c12, c13, load_int]; first | done | (with_reducible exact rfl) | (with_reducible exact ⟨rfl, rfl⟩)) | (with_reducible exact rfl)) ?_
      | refine oT ?_
      | refine oN ?_
      | refine oX ?_
      | refine oXn ?_
      | refine oXr ?_
      | exact oF (finV_bool ..)
      | apply oK
      | refine lT ?_
      | refine lN ?_
      | refine lX ?_
      | refine lXn ?_
      | refine lXr ?_
      | apply lK
      | refine oI ?_
      | refine oJ rfl ?_
      | refine lI ?_
      | refine lJ rfl ?_
      | (with_reducible exact rfl)
    refine lB ((congrArg (pu _) c14).trans (pu_val _ _)) ?_
    exact ih

def stP (d n : Nat) (bor : Bool) (b : List Nat) (i : Nat) : List AV := [Nn d, Nn n, .ro bor (bytesV b), .sl 1 i 0 i 1, Nn i]
theorem cutP {d n : Nat} {bor : Bool} {b : List Nat} {i : Nat} {out : List Nat} : cutH 2 (stP d n bor b i) (hpQ out) = some (hpQ out) :=
  cutH_of (by simp [stP, belowL, belowB, bytesV_below]) (by simp [hpQ, heapBelow, belowL, natsV_below]) rfl

theorem p7_loop (G : Globs) (k : Nat) (hk : 40 ≤ k) (self : Den) (d n : Nat) (hd : 1 ≤ d ∧ d ≤ 24) (hn : n ≤ 4096) (bor : Bool) (b : List Nat) (hb : ∀ x ∈ b, x < 256) (hl : 8 * b.length = d * n) :
    ∀ (r i f : Nat), i + r = n → r < f → loopN (alembicref4_Open.l7 G k 2 self) f (stP d n bor b i) (hpQ (digs (2 ^ d) i (val 256 b))) = some (.exit 0, stP d n bor b n, hpQ (digs (2 ^ d) n (val 256 b)))
  | _, _, 0, _, h => by omega
  | 0, i, f + 1, hi, h => by
    have : i = n := by omega
    subst this
    have c1 : bin Tryd.prog .lss 3 false (Nn i) (Nn i) = some (.bool false) := by rw [bin_lss, decide_eq_false (by omega)]
    rw [loopN_succ, alembicref4_Open.l7]
    refine lC cutP ?_
    unfold stP
    repeat first
      | refine oB (by first | (simp only [pu_val, nth_zero, nth_succ, gd_tt, gd_ff, gd_tf, gd_ft, gd_no, pickA_true, pickA_false, un_not, c1]; first | done | (with_reducible exact rfl) | (with_reducible exact ⟨rfl, rfl⟩)) | (with_reducible exact rfl)) ?_
      | refine lB (by first | (simp only [pu_val, nth_zero, nth_succ, gd_tt, gd_ff, gd_tf, gd_ft, gd_no, pickA_true, pickA_false, un_not, c1]; first | done | (with_reducible exact rfl) | (with_reducible exact ⟨rfl, rfl⟩)) | (with_reducible exact rfl)) ?_
      | refine oT ?_
      | refine oN ?_
      | refine oX ?_
      | refine oXn ?_
      | refine oXr ?_
      | exact oF (finV_bool ..)
      | apply oK
      | refine lT ?_
      | refine lN ?_
      | refine lX ?_
      | refine lXn ?_
      | refine lXr ?_
      | apply lK
      | refine oI ?_
      | refine oJ rfl ?_
      | refine lI ?_
      | refine lJ rfl ?_
      | (with_reducible exact rfl)
    rfl
  | r + 1, i, f + 1, hi, h => by
    have hin : i < n := by omega
    have c1 : bin Tryd.prog .lss 3 false (Nn i) (Nn n) = some (.bool true) := by rw [bin_lss, decide_eq_true (by omega)]
    have il := q11_loop G k self d n hd hn bor b hb hl i (digs (2 ^ d) i (val 256 b)) i hin _ rfl d 0 k (by omega) (by omega)
    rw [Nat.pow_zero, Nat.mod_one] at il
    obtain ⟨y, hy⟩ : ∃ y, y = val 256 b / 2 ^ (d * i) % 2 ^ d := ⟨_, rfl⟩
    rw [← hy] at il
    have c2 := appendV_one (e := 3) (b := 1) (L := i) (bor := false) (y := Nn y) (H := hpQ (digs (2 ^ d) i (val 256 b))) (xs := natsV (digs (2 ^ d) i (val 256 b))) rfl (by rw [natsV_len, digs_length]) (by omega) rfl
    have e : (hpQ (digs (2 ^ d) i (val 256 b))).set 1 ⟨3, 1, natsV (digs (2 ^ d) i (val 256 b)) ++ [Nn y]⟩ = hpQ (digs (2 ^ d) (i + 1) (val 256 b)) := by
      unfold hpQ
      rw [natsV_snoc, digs_succ, ← Nat.pow_mul, ← hy]; rfl
    rw [e] at c2
    have c3 : bin Tryd.prog .add 3 true (Nn i) (.int .i64 1) = some (Nn (i + 1)) := by
      rw [bin_add, wrap_of_i64 (by omega) (by omega)]; congr 2
    have ih := p7_loop G k hk self d n hd hn bor b hb hl r (i + 1) f (by omega) (by omega)
    clear hy
    rw [loopN_succ, alembicref4_Open.l7]
    refine lC cutP ?_
    unfold stP
    unfold stQ at il
    repeat first
      | refine oB (by first | (simp only [pu_val, nth_zero, nth_succ, gd_tt, gd_ff, gd_tf, gd_ft, gd_no, pickA_true, pickA_false, un_not, c1]; first | done | (with_reducible exact rfl) | (with_reducible exact ⟨rfl, rfl⟩)) | (with_reducible exact rfl)) ?_
      | refine lB (by first | (simp only [pu_val, nth_zero, nth_succ, gd_tt, gd_ff, gd_tf, gd_ft, gd_no, pickA_true, pickA_false, un_not, c1]; first | done | (with_reducible exact rfl) | (with_reducible exact ⟨rfl, rfl⟩)) | (with_reducible exact rfl)) ?_
      | refine oT ?_
      | refine oN ?_
      | refine oX ?_
      | refine oXn ?_
      | refine oXr ?_
      | exact oF (finV_bool ..)
      | apply oK
      | refine lT ?_
      | refine lN ?_
      | refine lX ?_
      | refine lXn ?_
      | refine lXr ?_
      | apply lK
      | refine oI ?_
      | refine oJ rfl ?_
      | refine lI ?_
      | refine lJ rfl ?_
      | (with_reducible exact rfl)
    exact il
    refine lX ?_
    refine lI ?_
    refine lB (buildRo_int ..) ?_
    refine lB c2 ?_
    refine lB ((congrArg (pu _) c3).trans (pu_val _ _)) ?_
    exact ih

/-! ### how many bits -/
theorem bl_half (x : Nat) (h : 0 < x) : bl (x / 2) + 1 = bl x := by
  by_cases h2 : 2 ≤ x
  · have := bl_div 1 x (by simpa using h2)
    simpa using this
  · have : x = 1 := by omega
    subst this; rfl
theorem w2_loop (G : Globs) (k : Nat) (self : Den) : ∀ (f x w : Nat), bl x < f → x < 9223372036854775808 → w + bl x ≤ 200 → ∃ z, loopN (alembicref4_Width.l2 G k 0 self) f [Nn x, Nn w] [] = some (.exit 0, [z, Nn (w + bl x)], [])
  | 0, x, w, h, _, _ => by omega
  | f + 1, x, w, h, hx, hw => by
    have hcut : cutH 0 [Nn x, Nn w] [] = some [] := rfl
    rw [loopN_succ, alembicref4_Width.l2]
    by_cases h0 : 0 < x
    · have hh := bl_half x h0
      have c1 : bin Tryd.prog .gtr 3 true (Nn x) (.int .i64 0) = some (.bool true) := by rw [bin_gtr, decide_eq_true (by omega)]
      have c2 : bin Tryd.prog .add 3 true (Nn w) (.int .i64 1) = some (Nn (w + 1)) := by
        rw [bin_add, wrap_of_i64 (by omega) (by omega)]; congr 2
      have e1 : (x : Int).tdiv 2 = ((x / 2 : Nat) : Int) := rfl
      have c3 : bin Tryd.prog .quo 3 true (Nn x) (.int .i64 2) = some (Nn (x / 2)) := by
        rw [bin_quo _ _ _ _ _ _ (by decide), e1, wrap_of_i64 (by omega) (by omega)]
      obtain ⟨z, ih⟩ := w2_loop G k self f (x / 2) (w + 1) (by omega) (by omega) (by omega)
      refine ⟨z, lC hcut ?_⟩
      rw [show w + 1 + bl (x / 2) = w + bl x by omega] at ih
      repeat first
        | refine oB (by first | (simp only [pu_val, nth_zero, nth_succ, gd_tt, gd_ff, gd_tf, gd_ft, gd_no, pickA_true, pickA_false, un_not, c1, c2, c3]; first | done | (with_reducible exact rfl) | (with_reducible exact ⟨rfl, rfl⟩)) | (with_reducible exact rfl)) ?_
        | refine lB (by first | (simp only [pu_val, nth_zero, nth_succ, gd_tt, gd_ff, gd_tf, gd_ft, gd_no, pickA_true, pickA_false, un_not, c1, c2, c3]; first | done | (with_reducible exact rfl) | (with_reducible exact ⟨rfl, rfl⟩)) | (with_reducible exact rfl)) ?_
        | refine oT ?_
        | refine oN ?_
        | refine oX ?_
        | refine oXn ?_
        | refine oXr ?_
        | exact oF (finV_bool ..)
        | apply oK
        | refine lT ?_
        | refine lN ?_
        | refine lX ?_
        | refine lXn ?_
        | refine lXr ?_
        | apply lK
        | refine oI ?_
        | refine oJ rfl ?_
        | refine lI ?_
        | refine lJ rfl ?_
        | (with_reducible exact rfl)
      exact ih
    · have hx0 : x = 0 := by omega
      subst hx0
      have c1 : bin Tryd.prog .gtr 3 true (Nn 0) (.int .i64 0) = some (.bool false) := rfl
      refine ⟨Nn 0, lC hcut ?_⟩
      repeat first
        | refine oB (by first | (simp only [pu_val, nth_zero, nth_succ, gd_tt, gd_ff, gd_tf, gd_ft, gd_no, pickA_true, pickA_false, un_not, c1]; first | done | (with_reducible exact rfl) | (with_reducible exact ⟨rfl, rfl⟩)) | (with_reducible exact rfl)) ?_
        | refine lB (by first | (simp only [pu_val, nth_zero, nth_succ, gd_tt, gd_ff, gd_tf, gd_ft, gd_no, pickA_true, pickA_false, un_not, c1]; first | done | (with_reducible exact rfl) | (with_reducible exact ⟨rfl, rfl⟩)) | (with_reducible exact rfl)) ?_
        | refine oT ?_
        | refine oN ?_
        | refine oX ?_
        | refine oXn ?_
        | refine oXr ?_
        | exact oF (finV_bool ..)
        | apply oK
        | refine lT ?_
        | refine lN ?_
        | refine lX ?_
        | refine lXn ?_
        | refine lXr ?_
        | apply lK
        | refine oI ?_
        | refine oJ rfl ?_
        | refine lI ?_
        | refine lJ rfl ?_
        | (with_reducible exact rfl)
      rfl
theorem bl_le (x : Nat) (h : x < 9223372036854775808) : bl x ≤ 64 := by
  by_cases hx : x = 0
  · subst hx; decide
  · have := bl_low x hx
    have h2 : 2 ^ (bl x - 1) < 2 ^ 63 := by omega
    have := (Nat.pow_lt_pow_iff_right (by decide : 1 < 2)).1 h2
    omega
theorem rwidth (G : Globs) (k : Nat) (hk : 100 ≤ k) (n : Int) (h1 : -9223372036854775808 ≤ n) (h2 : n < 9223372036854775808) : alembicref4_Width.f G (k + 1) [.int .i64 n] [] = some (Nn (bl n.toNat), []) := by
  rw [alembicref4_Width.step]
  unfold alembicref4_Width.c
  by_cases h : 0 ≤ n
  · obtain ⟨x, rfl⟩ := Int.eq_ofNat_of_zero_le h
    have hb := bl_le x (by omega)
    obtain ⟨z, e⟩ := w2_loop G k (alembicref4_Width.f G k) k x 0 (by omega) (by omega) (by omega)
    rw [Int.toNat_natCast]
    rw [Nat.zero_add] at e
    apply oK
    exact e
    repeat first
      | refine oB (by first | (simp only [pu_val, nth_zero, nth_succ, gd_tt, gd_ff, gd_tf, gd_ft, gd_no, pickA_true, pickA_false, un_not]; first | done | (with_reducible exact rfl) | (with_reducible exact ⟨rfl, rfl⟩)) | (with_reducible exact rfl)) ?_
      | refine lB (by first | (simp only [pu_val, nth_zero, nth_succ, gd_tt, gd_ff, gd_tf, gd_ft, gd_no, pickA_true, pickA_false, un_not]; first | done | (with_reducible exact rfl) | (with_reducible exact ⟨rfl, rfl⟩)) | (with_reducible exact rfl)) ?_
      | refine oT ?_
      | refine oN ?_
      | refine oX ?_
      | refine oXn ?_
      | refine oXr ?_
      | exact oF (finV_bool ..)
      | apply oK
      | refine lT ?_
      | refine lN ?_
      | refine lX ?_
      | refine lXn ?_
      | refine lXr ?_
      | apply lK
      | refine oI ?_
      | refine oJ rfl ?_
      | refine lI ?_
      | refine lJ rfl ?_
      | (with_reducible exact rfl)
    exact oF (finV_int ..)
  · have e0 : n.toNat = 0 := by omega
    have c1 : bin Tryd.prog .gtr 3 true (.int .i64 n) (.int .i64 0) = some (.bool false) := by rw [bin_gtr, decide_eq_false (by omega)]
    obtain ⟨j, rfl⟩ : ∃ j, k = j + 1 := ⟨k - 1, by omega⟩
    rw [e0]
    apply oK
    rw [loopN_succ, alembicref4_Width.l2]
    refine lC (H' := []) rfl ?_
    repeat first
      | refine oB (by first | (simp only [pu_val, nth_zero, nth_succ, gd_tt, gd_ff, gd_tf, gd_ft, gd_no, pickA_true, pickA_false, un_not, c1]; first | done | (with_reducible exact rfl) | (with_reducible exact ⟨rfl, rfl⟩)) | (with_reducible exact rfl)) ?_
      | refine lB (by first | (simp only [pu_val, nth_zero, nth_succ, gd_tt, gd_ff, gd_tf, gd_ft, gd_no, pickA_true, pickA_false, un_not, c1]; first | done | (with_reducible exact rfl) | (with_reducible exact ⟨rfl, rfl⟩)) | (with_reducible exact rfl)) ?_
      | refine oT ?_
      | refine oN ?_
      | refine oX ?_
      | refine oXn ?_
      | refine oXr ?_
      | exact oF (finV_bool ..)
      | apply oK
      | refine lT ?_
      | refine lN ?_
      | refine lX ?_
      | refine lXn ?_
      | refine lXr ?_
      | apply lK
      | refine oI ?_
      | refine oJ rfl ?_
      | refine lI ?_
      | refine lJ rfl ?_
      | (with_reducible exact rfl)
    repeat first
      | refine oB (by first | (simp only [pu_val, nth_zero, nth_succ, gd_tt, gd_ff, gd_tf, gd_ft, gd_no, pickA_true, pickA_false, un_not]; first | done | (with_reducible exact rfl) | (with_reducible exact ⟨rfl, rfl⟩)) | (with_reducible exact rfl)) ?_
      | refine lB (by first | (simp only [pu_val, nth_zero, nth_succ, gd_tt, gd_ff, gd_tf, gd_ft, gd_no, pickA_true, pickA_false, un_not]; first | done | (with_reducible exact rfl) | (with_reducible exact ⟨rfl, rfl⟩)) | (with_reducible exact rfl)) ?_
      | refine oT ?_
      | refine oN ?_
      | refine oX ?_
      | refine oXn ?_
      | refine oXr ?_
      | exact oF (finV_bool ..)
      | apply oK
      | refine lT ?_
      | refine lN ?_
      | refine lX ?_
      | refine lXn ?_
      | refine lXr ?_
      | apply lK
      | refine oI ?_
      | refine oJ rfl ?_
      | refine lI ?_
      | refine lJ rfl ?_
      | (with_reducible exact rfl)
    exact oF (finV_int ..)

/-! ### errors and their numbers -/
abbrev E0 : AV := .iface 72 (.gp 0)
abbrev E1 : AV := .iface 72 (.gp 1)
/-- The error of a number. -/
def errV (c : Nat) : AV := if c = 101 then E0 else if c = 102 then E1 else .nili
theorem errV_below (c : Nat) : belowB 0 (errV c) = true := by unfold errV; split <;> (try split) <;> rfl
theorem errV_clean (c : Nat) : cleanB (errV c) = true := by unfold errV; split <;> (try split) <;> rfl

/-- The bytes, the number of the error. -/
def okC (c : Nat) : Prop := c = 0 ∨ c = 101 ∨ c = 102

theorem mod8 (d n : Nat) : d * (n % 8) % 8 = n * d % 8 := by
  rw [Nat.mul_comm n d, Nat.mul_mod d n, Nat.mul_mod d (n % 8), Nat.mod_mod]

theorem bits_range (G : Globs) (k : Nat) (d : Int) (x : AV) (h : d < 1 ∨ 24 < d) (hG : G 0 = some E0) :
    pack_Bits.f G (k + 1) [.int .i64 d, x] [] = some (.tup [.ro false [], E0], []) := by
  have cG : ∀ H, loadV G false 1 (.gl 0) H = some E0 := fun H => by simp [loadV, hG]
  have c1 : bin Tryd.prog .lss 3 true (.int .i64 d) (.int .i64 1) = some (.bool (decide (d < 1))) := by rw [bin_lss]
  have c2 : bin Tryd.prog .gtr 3 true (.int .i64 d) (.int .i64 24) = some (.bool (decide (24 < d))) := by rw [bin_gtr]
  rw [pack_Bits.step]
  unfold pack_Bits.c
  by_cases h1 : d < 1
  · simp only [decide_eq_true h1] at c1
    repeat first
      | refine oB (by first | (simp only [pu_val, nth_zero, nth_succ, gd_tt, gd_ff, gd_tf, gd_ft, gd_no, pickA_true, pickA_false, un_not, c1, cG]; first | done | (with_reducible exact rfl) | (with_reducible exact ⟨rfl, rfl⟩)) | (with_reducible exact rfl)) ?_
      | refine lB (by first | (simp only [pu_val, nth_zero, nth_succ, gd_tt, gd_ff, gd_tf, gd_ft, gd_no, pickA_true, pickA_false, un_not, c1, cG]; first | done | (with_reducible exact rfl) | (with_reducible exact ⟨rfl, rfl⟩)) | (with_reducible exact rfl)) ?_
      | refine oT ?_
      | refine oN ?_
      | refine oX ?_
      | refine oXn ?_
      | refine oXr ?_
      | exact oF (finV_bool ..)
      | apply oK
      | refine lT ?_
      | refine lN ?_
      | refine lX ?_
      | refine lXn ?_
      | refine lXr ?_
      | apply lK
      | refine oI ?_
      | refine oJ rfl ?_
      | refine lI ?_
      | refine lJ rfl ?_
      | (with_reducible exact rfl)
    exact oF (fin_sl (e := 5) (xs := []) rfl rfl (by simp) rfl)
  · simp only [decide_eq_false h1] at c1
    simp only [decide_eq_true (show 24 < d by omega)] at c2
    repeat first
      | refine oB (by first | (simp only [pu_val, nth_zero, nth_succ, gd_tt, gd_ff, gd_tf, gd_ft, gd_no, pickA_true, pickA_false, un_not, c1, c2, cG]; first | done | (with_reducible exact rfl) | (with_reducible exact ⟨rfl, rfl⟩)) | (with_reducible exact rfl)) ?_
      | refine lB (by first | (simp only [pu_val, nth_zero, nth_succ, gd_tt, gd_ff, gd_tf, gd_ft, gd_no, pickA_true, pickA_false, un_not, c1, c2, cG]; first | done | (with_reducible exact rfl) | (with_reducible exact ⟨rfl, rfl⟩)) | (with_reducible exact rfl)) ?_
      | refine oT ?_
      | refine oN ?_
      | refine oX ?_
      | refine oXn ?_
      | refine oXr ?_
      | exact oF (finV_bool ..)
      | apply oK
      | refine lT ?_
      | refine lN ?_
      | refine lX ?_
      | refine lXn ?_
      | refine lXr ?_
      | apply lK
      | refine oI ?_
      | refine oJ rfl ?_
      | refine lI ?_
      | refine lJ rfl ?_
      | (with_reducible exact rfl)
    exact oF (fin_sl (e := 5) (xs := []) rfl rfl (by simp) rfl)
theorem rbits_range (G : Globs) (k : Nat) (d : Int) (x : AV) (h : d < 1 ∨ 24 < d) :
    alembicref4_Bits.f G (k + 1) [.int .i64 d, x] [] = some (.tup [.ro false [], .int .i64 101], []) := by
  have c1 : bin Tryd.prog .lss 3 true (.int .i64 d) (.int .i64 1) = some (.bool (decide (d < 1))) := by rw [bin_lss]
  have c2 : bin Tryd.prog .gtr 3 true (.int .i64 d) (.int .i64 24) = some (.bool (decide (24 < d))) := by rw [bin_gtr]
  rw [alembicref4_Bits.step]
  unfold alembicref4_Bits.c
  by_cases h1 : d < 1
  · simp only [decide_eq_true h1] at c1
    repeat first
      | refine oB (by first | (simp only [pu_val, nth_zero, nth_succ, gd_tt, gd_ff, gd_tf, gd_ft, gd_no, pickA_true, pickA_false, un_not, c1]; first | done | (with_reducible exact rfl) | (with_reducible exact ⟨rfl, rfl⟩)) | (with_reducible exact rfl)) ?_
      | refine lB (by first | (simp only [pu_val, nth_zero, nth_succ, gd_tt, gd_ff, gd_tf, gd_ft, gd_no, pickA_true, pickA_false, un_not, c1]; first | done | (with_reducible exact rfl) | (with_reducible exact ⟨rfl, rfl⟩)) | (with_reducible exact rfl)) ?_
      | refine oT ?_
      | refine oN ?_
      | refine oX ?_
      | refine oXn ?_
      | refine oXr ?_
      | exact oF (finV_bool ..)
      | apply oK
      | refine lT ?_
      | refine lN ?_
      | refine lX ?_
      | refine lXn ?_
      | refine lXr ?_
      | apply lK
      | refine oI ?_
      | refine oJ rfl ?_
      | refine lI ?_
      | refine lJ rfl ?_
      | (with_reducible exact rfl)
    exact oF (finV_two rfl rfl _)
  · simp only [decide_eq_false h1] at c1
    simp only [decide_eq_true (show 24 < d by omega)] at c2
    repeat first
      | refine oB (by first | (simp only [pu_val, nth_zero, nth_succ, gd_tt, gd_ff, gd_tf, gd_ft, gd_no, pickA_true, pickA_false, un_not, c1, c2]; first | done | (with_reducible exact rfl) | (with_reducible exact ⟨rfl, rfl⟩)) | (with_reducible exact rfl)) ?_
      | refine lB (by first | (simp only [pu_val, nth_zero, nth_succ, gd_tt, gd_ff, gd_tf, gd_ft, gd_no, pickA_true, pickA_false, un_not, c1, c2]; first | done | (with_reducible exact rfl) | (with_reducible exact ⟨rfl, rfl⟩)) | (with_reducible exact rfl)) ?_
      | refine oT ?_
      | refine oN ?_
      | refine oX ?_
      | refine oXn ?_
      | refine oXr ?_
      | exact oF (finV_bool ..)
      | apply oK
      | refine lT ?_
      | refine lN ?_
      | refine lX ?_
      | refine lXn ?_
      | refine lXr ?_
      | apply lK
      | refine oI ?_
      | refine oJ rfl ?_
      | refine lI ?_
      | refine lJ rfl ?_
      | (with_reducible exact rfl)
    exact oF (finV_two rfl rfl _)

theorem makeBy (n : Nat) (hn : n ≤ 1099511627776) : makeSliceV 5 1 (.int .u8 0) (Nn n) (Nn n) [] = some (.sl 0 n 0 n 1, [⟨5, 1, List.replicate n (.int .u8 0)⟩]) := by
  have h1 : ((n : Int) ≤ 1099511627776) := by omega
  simp [makeSliceV, h1]
theorem digs_zero (B : Nat) : ∀ n, digs B n 0 = List.replicate n 0
  | 0 => rfl
  | n + 1 => by simp [digs, digs_zero B n, List.replicate_succ]
theorem hpI_zero (M : Nat) : hpI M 0 = [⟨5, 1, List.replicate M (.int .u8 0)⟩] := by
  unfold hpI bytesV; rw [digs_zero, List.map_replicate]; rfl

/-- Both packings, of any numbers. -/
theorem bits_pair (G : Globs) (k : Nat) (d : Int) (hdr : -9223372036854775808 ≤ d ∧ d < 9223372036854775808) (bor : Bool) (a : List Int) (ha : a.length ≤ 1000) (hk : a.length + 100 ≤ k) (hG0 : G 0 = some E0) (hG1 : G 1 = some E1) :
    ∃ (l : List Nat) (c : Nat), okC c ∧ l.length ≤ 3000 ∧ pack_Bits.f G (k + 1) [.int .i64 d, .ro bor (intsV a)] [] = some (.tup [.ro false (bytesV l), errV c], []) ∧
      alembicref4_Bits.f G (k + 1) [.int .i64 d, .ro bor (intsV a)] [] = some (.tup [.ro false (bytesV l), Nn c], []) := by
  by_cases hd : d < 1 ∨ 24 < d
  · exact ⟨[], 101, .inr (.inl rfl), by simp, bits_range G k d _ hd hG0, rbits_range G k d _ hd⟩
  obtain ⟨e, rfl⟩ : ∃ e : Nat, d = (e : Int) := ⟨d.toNat, by omega⟩
  have he : 1 ≤ e ∧ e ≤ 24 := by omega
  have hm : a.length * e ≤ 1000 * 24 := Nat.mul_le_mul ha he.2
  have c1 : bin Tryd.prog .lss 3 true (Nn e) (.int .i64 1) = some (.bool false) := by rw [bin_lss, decide_eq_false (by omega)]
  have c2 : bin Tryd.prog .gtr 3 true (Nn e) (.int .i64 24) = some (.bool false) := by rw [bin_gtr, decide_eq_false (by omega)]
  have c3 : lenSl (.ro bor (intsV a)) = some (Nn a.length) := by simp [lenSl, intsV_len]
  have c4 : bin Tryd.prog .mul 3 false (Nn a.length) (Nn e) = some (Nn (a.length * e)) := by
    rw [bin_mul, ← Int.natCast_mul, wrap_of_i64 (by omega) (by omega)]
  have c5 : bin Tryd.prog .rem 3 true (Nn (a.length * e)) (.int .i64 8) = some (Nn (a.length * e % 8)) := by
    rw [bin_rem _ _ _ _ _ _ (by decide)]; congr 2
  by_cases h8 : e * (a.length % 8) % 8 = 0
  case neg =>
    refine ⟨[], 102, .inr (.inr rfl), by simp, bits_len G k e he bor a (by omega) h8 E1 rfl hG1, ?_⟩
    rw [mod8] at h8
    have c6 : bin Tryd.prog .neq 3 true (Nn (a.length * e % 8)) (.int .i64 0) = some (.bool true) := by rw [bin_neq, decide_eq_true (by omega)]
    rw [alembicref4_Bits.step]
    unfold alembicref4_Bits.c
    repeat first
      | refine oB (by first | (simp only [pu_val, nth_zero, nth_succ, gd_tt, gd_ff, gd_tf, gd_ft, gd_no, pickA_true, pickA_false, un_not, c1, c2, c3, c4, c5, c6]; first | done | (with_reducible exact rfl) | (with_reducible exact ⟨rfl, rfl⟩)) | (with_reducible exact rfl)) ?_
      | refine lB (by first | (simp only [pu_val, nth_zero, nth_succ, gd_tt, gd_ff, gd_tf, gd_ft, gd_no, pickA_true, pickA_false, un_not, c1, c2, c3, c4, c5, c6]; first | done | (with_reducible exact rfl) | (with_reducible exact ⟨rfl, rfl⟩)) | (with_reducible exact rfl)) ?_
      | refine oT ?_
      | refine oN ?_
      | refine oX ?_
      | refine oXn ?_
      | refine oXr ?_
      | exact oF (finV_bool ..)
      | apply oK
      | refine lT ?_
      | refine lN ?_
      | refine lX ?_
      | refine lXn ?_
      | refine lXr ?_
      | apply lK
      | refine oI ?_
      | refine oJ rfl ?_
      | refine lI ?_
      | refine lJ rfl ?_
      | (with_reducible exact rfl)
    exact oF (finV_two rfl rfl _)
  have h8' := h8
  rw [mod8] at h8'
  have c6 : bin Tryd.prog .neq 3 true (Nn (a.length * e % 8)) (.int .i64 0) = some (.bool false) := by rw [bin_neq, decide_eq_false (by omega)]
  have c7 : bin Tryd.prog .quo 3 true (Nn (a.length * e)) (.int .i64 8) = some (Nn (a.length * e / 8)) := by
    have e' : (((a.length * e : Nat) : Int).tdiv 8) = ((a.length * e / 8 : Nat) : Int) := rfl
    rw [bin_quo _ _ _ _ _ _ (by decide), e', wrap_of_i64 (by omega) (by omega)]
  obtain ⟨M, hM⟩ : ∃ M, M = a.length * e / 8 := ⟨_, rfl⟩
  rw [← hM] at c7
  have hM8 : 8 * M = e * a.length := by rw [Nat.mul_comm e]; omega
  have c8 := makeBy M (by omega)
  have lp := r7_loop G k (by omega) (alembicref4_Bits.f G k) e M he bor a ha hM8 a [] k (.ro false []) (.int .i64 0) rfl (fun x hx => by simp at hx) (by omega) rfl rfl
  have v0 : Vb e [] = 0 := rfl
  rw [v0, hpI_zero] at lp
  have st0 : stR e M bor a (.ro false []) (.int .i64 0) ([] : List Int).length = [Nn e, .ro bor (intsV a), .ro false [], .int .i64 0, .sl 0 M 0 M 1, .int .i64 0] := rfl
  rw [st0] at lp
  by_cases hr : inR e a
  · obtain ⟨X', Y', lp⟩ := lp.1 hr
    refine ⟨digs 256 (Lb e a) (Vb e a), 0, .inl rfl, ?_, bits_ok G k e he bor a (by omega) (by omega) h8 hr, ?_⟩
    · rw [digs_length]; unfold Lb; omega
    have hL : Lb e a = M := by unfold Lb; omega
    rw [hL, alembicref4_Bits.step]
    unfold alembicref4_Bits.c
    repeat first
      | refine oB (by first | (simp only [pu_val, nth_zero, nth_succ, gd_tt, gd_ff, gd_tf, gd_ft, gd_no, pickA_true, pickA_false, un_not, c1, c2, c3, c4, c5, c6, c7, c8]; first | done | (with_reducible exact rfl) | (with_reducible exact ⟨rfl, rfl⟩)) | (with_reducible exact rfl)) ?_
      | refine lB (by first | (simp only [pu_val, nth_zero, nth_succ, gd_tt, gd_ff, gd_tf, gd_ft, gd_no, pickA_true, pickA_false, un_not, c1, c2, c3, c4, c5, c6, c7, c8]; first | done | (with_reducible exact rfl) | (with_reducible exact ⟨rfl, rfl⟩)) | (with_reducible exact rfl)) ?_
      | refine oT ?_
      | refine oN ?_
      | refine oX ?_
      | refine oXn ?_
      | refine oXr ?_
      | exact oF (finV_bool ..)
      | apply oK
      | refine lT ?_
      | refine lN ?_
      | refine lX ?_
      | refine lXn ?_
      | refine lXr ?_
      | apply lK
      | refine oI ?_
      | refine oJ rfl ?_
      | refine lI ?_
      | refine lJ rfl ?_
      | (with_reducible exact rfl)
    exact lp
    repeat first
      | refine oB (by first | (simp only [pu_val, nth_zero, nth_succ, gd_tt, gd_ff, gd_tf, gd_ft, gd_no, pickA_true, pickA_false, un_not]; first | done | (with_reducible exact rfl) | (with_reducible exact ⟨rfl, rfl⟩)) | (with_reducible exact rfl)) ?_
      | refine lB (by first | (simp only [pu_val, nth_zero, nth_succ, gd_tt, gd_ff, gd_tf, gd_ft, gd_no, pickA_true, pickA_false, un_not]; first | done | (with_reducible exact rfl) | (with_reducible exact ⟨rfl, rfl⟩)) | (with_reducible exact rfl)) ?_
      | refine oT ?_
      | refine oN ?_
      | refine oX ?_
      | refine oXn ?_
      | refine oXr ?_
      | exact oF (finV_bool ..)
      | apply oK
      | refine lT ?_
      | refine lN ?_
      | refine lX ?_
      | refine lXn ?_
      | refine lXr ?_
      | apply lK
      | refine oI ?_
      | refine oJ rfl ?_
      | refine lI ?_
      | refine lJ rfl ?_
      | (with_reducible exact rfl)
    unfold stR hpI
    exact oF (fin_sl (e := 5) rfl (by rw [bytesV_len, digs_length]) bytes_of rfl)
  · obtain ⟨zs, W, lp⟩ := lp.2 hr
    refine ⟨[], 101, .inr (.inl rfl), by simp, bits_fail G k e he bor a (by omega) (by omega) h8 hr E0 rfl hG0, ?_⟩
    rw [alembicref4_Bits.step]
    unfold alembicref4_Bits.c
    repeat first
      | refine oB (by first | (simp only [pu_val, nth_zero, nth_succ, gd_tt, gd_ff, gd_tf, gd_ft, gd_no, pickA_true, pickA_false, un_not, c1, c2, c3, c4, c5, c6, c7, c8]; first | done | (with_reducible exact rfl) | (with_reducible exact ⟨rfl, rfl⟩)) | (with_reducible exact rfl)) ?_
      | refine lB (by first | (simp only [pu_val, nth_zero, nth_succ, gd_tt, gd_ff, gd_tf, gd_ft, gd_no, pickA_true, pickA_false, un_not, c1, c2, c3, c4, c5, c6, c7, c8]; first | done | (with_reducible exact rfl) | (with_reducible exact ⟨rfl, rfl⟩)) | (with_reducible exact rfl)) ?_
      | refine oT ?_
      | refine oN ?_
      | refine oX ?_
      | refine oXn ?_
      | refine oXr ?_
      | exact oF (finV_bool ..)
      | apply oK
      | refine lT ?_
      | refine lN ?_
      | refine lX ?_
      | refine lXn ?_
      | refine lXr ?_
      | apply lK
      | refine oI ?_
      | refine oJ rfl ?_
      | refine lI ?_
      | refine lJ rfl ?_
      | (with_reducible exact rfl)
    exact lp
    repeat first
      | refine oB (by first | (simp only [pu_val, nth_zero, nth_succ, gd_tt, gd_ff, gd_tf, gd_ft, gd_no, pickA_true, pickA_false, un_not]; first | done | (with_reducible exact rfl) | (with_reducible exact ⟨rfl, rfl⟩)) | (with_reducible exact rfl)) ?_
      | refine lB (by first | (simp only [pu_val, nth_zero, nth_succ, gd_tt, gd_ff, gd_tf, gd_ft, gd_no, pickA_true, pickA_false, un_not]; first | done | (with_reducible exact rfl) | (with_reducible exact ⟨rfl, rfl⟩)) | (with_reducible exact rfl)) ?_
      | refine oT ?_
      | refine oN ?_
      | refine oX ?_
      | refine oXn ?_
      | refine oXr ?_
      | exact oF (finV_bool ..)
      | apply oK
      | refine lT ?_
      | refine lN ?_
      | refine lX ?_
      | refine lXn ?_
      | refine lXr ?_
      | apply lK
      | refine oI ?_
      | refine oJ rfl ?_
      | refine lI ?_
      | refine lJ rfl ?_
      | (with_reducible exact rfl)
    exact oF (finV_two rfl rfl _)
end Go.Proofs.YtemkaggjbhpbbaaDoor.Mir
