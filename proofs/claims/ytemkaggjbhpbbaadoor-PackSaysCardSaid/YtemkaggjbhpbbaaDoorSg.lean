/- What the document's packing gives: bit for bit. -/
import Derived.Test.YtemkaggjbhpbbaaDoorSf
namespace Go.Proofs.YtemkaggjbhpbbaaDoor.Mir
open Go
set_option linter.unusedVariables false
set_option linter.unusedSimpArgs false

theorem i64_and_nat (a b : Nat) (ha : a < 9223372036854775808) (hb : b < 9223372036854775808) : bits .and .i64 (a : Int) (b : Int) = ((a &&& b : Nat) : Int) := by
  have hx : a &&& b ≤ a := Nat.and_le_left
  show IntKind.i64.wrap ((BitVec.ofInt 64 (a : Int) &&& BitVec.ofInt 64 (b : Int)).toNat : Int) = _
  rw [BitVec.toNat_and, ofInt_u64 a (by omega), ofInt_u64 b (by omega), wrap_of_i64 (by omega) (by omega)]
theorem i64_or_nat (a b : Nat) (ha : a < 4611686018427387904) (hb : b < 4611686018427387904) : bits .or .i64 (a : Int) (b : Int) = ((a ||| b : Nat) : Int) := by
  have hx : a ||| b < 2 ^ 62 := Nat.or_lt_two_pow (by omega) (by omega)
  show IntKind.i64.wrap ((BitVec.ofInt 64 (a : Int) ||| BitVec.ofInt 64 (b : Int)).toNat : Int) = _
  rw [BitVec.toNat_or, ofInt_u64 a (by omega), ofInt_u64 b (by omega), wrap_of_i64 (by omega) (by omega)]

theorem byte_bit (V i : Nat) : V / 256 ^ (i / 8) % 256 / 2 ^ (i % 8) % 2 = V / 2 ^ i % 2 := by
  have h : 256 ^ (i / 8) * 2 ^ (i % 8) = 2 ^ i := by
    rw [show (256 : Nat) = 2 ^ 8 from rfl, ← Nat.pow_mul, ← Nat.pow_add, Nat.div_add_mod]
  rw [← h, ← Nat.div_div_eq_div_mul]
  generalize V / 256 ^ (i / 8) = W
  have h8 : i % 8 < 8 := Nat.mod_lt _ (by decide)
  generalize i % 8 = j at h8
  have e : (256 : Nat) = 2 ^ j * (2 * 2 ^ (7 - j)) := by
    rw [← Nat.mul_assoc, Nat.mul_comm (2 ^ j), Nat.mul_assoc, ← Nat.pow_add, show j + (7 - j) = 7 by omega]
  rw [e, Nat.mod_mul_right_div_self, Nat.mod_mul_right_mod]

theorem mod_next (x k : Nat) : x % 2 ^ (k + 1) = x % 2 ^ k + x / 2 ^ k % 2 * 2 ^ k := by
  rw [Nat.pow_succ, Nat.mod_mul, Nat.mul_comm]

/-- A bit more of a number, in its bytes. -/
theorem digs_set (M W b at_ : Nat) (hW : W < 2 ^ at_) (hb : b < 2) (hM : at_ / 8 < M) :
    digs 256 M (W + b * 2 ^ at_) = (digs 256 M W).set (at_ / 8) (W / 256 ^ (at_ / 8) % 256 ||| b * 2 ^ (at_ % 8)) := by
  have p256 : ∀ j, (256 : Nat) ^ j = 2 ^ (8 * j) := fun j => by rw [show (256 : Nat) = 2 ^ 8 from rfl, ← Nat.pow_mul]
  apply List.ext_getElem?
  intro j
  by_cases hj : j < M
  case neg =>
    rw [List.getElem?_eq_none (by rw [digs_length]; omega), List.getElem?_eq_none (by rw [List.length_set, digs_length]; omega)]
  rw [digs_get 256 M _ j hj]
  by_cases he : j = at_ / 8
  · subst he
    rw [List.getElem?_set_self (by rw [digs_length]; exact hM)]
    congr 1
    have e1 : 2 ^ at_ = 256 ^ (at_ / 8) * 2 ^ (at_ % 8) := by rw [p256, ← Nat.pow_add, Nat.div_add_mod]
    have e2 : (W + b * 2 ^ at_) / 256 ^ (at_ / 8) = W / 256 ^ (at_ / 8) + b * 2 ^ (at_ % 8) := by
      rw [e1, Nat.mul_left_comm, Nat.add_mul_div_left _ _ (Nat.pow_pos (by decide))]
    have e3 : W / 256 ^ (at_ / 8) < 2 ^ (at_ % 8) := by
      rw [Nat.div_lt_iff_lt_mul (Nat.pow_pos (by decide)), Nat.mul_comm, ← e1]; exact hW
    have h8 : at_ % 8 < 8 := Nat.mod_lt _ (by decide)
    have e4 : 2 ^ (at_ % 8) ≤ 2 ^ 7 := Nat.pow_le_pow_right (by decide) (by omega)
    have e5 : b * 2 ^ (at_ % 8) ≤ 1 * 2 ^ (at_ % 8) := Nat.mul_le_mul_right _ (by omega)
    rw [e2, Nat.mod_eq_of_lt (a := W / 256 ^ (at_ / 8)) (by omega), Nat.mod_eq_of_lt (by omega), or_shift _ _ _ e3]
  · rw [List.getElem?_set_ne (Ne.symm he), digs_get 256 M _ j hj]
    congr 1
    by_cases hlt : j < at_ / 8
    · have e1 : 2 ^ at_ = 256 ^ j * (256 * 2 ^ (at_ - 8 * (j + 1))) := by
        rw [show (256 : Nat) ^ j * (256 * 2 ^ (at_ - 8 * (j + 1))) = 256 ^ (j + 1) * 2 ^ (at_ - 8 * (j + 1)) by rw [Nat.pow_succ, Nat.mul_assoc], p256, ← Nat.pow_add]
        congr 1; omega
      rw [e1, Nat.mul_left_comm, Nat.add_mul_div_left _ _ (Nat.pow_pos (by decide)), Nat.mul_left_comm, Nat.add_mul_mod_self_left]
    · have e1 : 2 ^ (at_ + 1) ≤ 256 ^ j := by rw [p256]; exact Nat.pow_le_pow_right (by decide) (by omega)
      have e2 : b * 2 ^ at_ ≤ 1 * 2 ^ at_ := Nat.mul_le_mul_right _ (by omega)
      rw [Nat.pow_succ] at e1
      rw [Nat.div_eq_of_lt (by omega), Nat.div_eq_of_lt (by omega)]

theorem store_sl (G : Globs) {L i e : Nat} {xs : List AV} {y z : AV} (hL : xs.length = L) (hy : xs[i]? = some y) (hyc : ∃ k n, y = .int k n) (hz : ∃ k n, z = .int k n) :
    stS (storeV 1 (.ptr 0 L i 0) z [⟨e, 1, xs⟩]) = some (.tup [], [⟨e, 1, xs.set i z⟩]) := by
  have := store_at (b := 0) (L := L) (i := i) (e := e) (H := [⟨e, 1, xs⟩]) (xs := xs) (y := y) (z := z) rfl hL hy hyc hz
  exact this

/-! ### the bits -/
def stI (d M : Nat) (bor : Bool) (a : List Int) (i k : Nat) : List AV := [Nn d, .ro bor (intsV a), .sl 0 M 0 M 1, Nn i, Nn k]
def hpI (M W : Nat) : AHeap := [⟨5, 1, bytesV (digs 256 M W)⟩]
theorem cutI {d M : Nat} {bor : Bool} {a : List Int} {i k W : Nat} : cutH 1 (stI d M bor a i k) (hpI M W) = some (hpI M W) :=
  cutH_of (by simp [stI, belowL, belowB, intsV_below]) (by simp [hpI, heapBelow, bytesV_below]) rfl

theorem r12_loop (G : Globs) (k0 : Nat) (self : Den) (d M : Nat) (hd : 1 ≤ d ∧ d ≤ 24) (bor : Bool) (a : List Int) (ha : a.length ≤ 1000) (i x V : Nat) (hi : a[i]? = some (x : Int)) (hx : x < 2 ^ d) (hV : V < 2 ^ (d * i)) (hM : d * (i + 1) ≤ 8 * M) (hMs : M ≤ 10000) :
    ∀ (r k f : Nat), k + r = d → r < f → loopN (alembicref4_Bits.l12 G k0 1 self) f (stI d M bor a i k) (hpI M (V + x % 2 ^ k * 2 ^ (d * i))) = some (.exit 2, stI d M bor a i d, hpI M (V + x * 2 ^ (d * i)))
  | _, _, 0, _, h => by omega
  | 0, k, f + 1, hk, h => by
    have hkd : k = d := by omega
    subst hkd
    rw [loopN_succ, alembicref4_Bits.l12]
    refine lC cutI ?_
    have c1 : bin Tryd.prog .lss 3 false (Nn k) (Nn k) = some (.bool false) := by rw [bin_lss, decide_eq_false (by omega)]
    unfold stI
    repeat first
      | refine oB (by first | (simp only [pu_val, nth_zero, nth_succ, gd_tt, gd_ff, gd_tf, gd_ft, gd_no, pickA_true, pickA_false, un_not, c1]; first | done | (with_reducible exact rfl) | (with_reducible exact ⟨rfl, rfl⟩)) | (with_reducible exact rfl)) ?_
      | refine lB (by first | (simp only [pu_val, nth_zero, nth_succ, gd_tt, gd_ff, gd_tf, gd_ft, gd_no, pickA_true, pickA_false, un_not, c1]; first | done | (with_reducible exact rfl) | (with_reducible exact ⟨rfl, rfl⟩)) | (with_reducible exact rfl)) ?_
      | refine oT ?_
      | refine oN ?_
      | refine oX ?_
      | refine oXn ?_
      | refine oXr ?_
      | exact oF (finV_bool ..)
      | apply oK
      | refine lT ?_
      | refine lN ?_
      | refine lX ?_
      | refine lXn ?_
      | refine lXr ?_
      | apply lK
      | refine oI ?_
      | refine oJ rfl ?_
      | refine lI ?_
      | refine lJ rfl ?_
      | (with_reducible exact rfl)
    rw [Nat.mod_eq_of_lt hx]; rfl
  | r + 1, k, f + 1, hk, h => by
    have hil : i < a.length := (List.getElem?_eq_some_iff.1 hi).1
    have hdi : d * i ≤ 24 * 1000 := Nat.mul_le_mul hd.2 (by omega)
    have hdi1 : d * (i + 1) = d * i + d := by rw [Nat.mul_add, Nat.mul_one]
    have c1 : bin Tryd.prog .lss 3 false (Nn k) (Nn d) = some (.bool true) := by rw [bin_lss, decide_eq_true (by omega)]
    have c2 : bin Tryd.prog .mul 3 false (Nn i) (Nn d) = some (Nn (d * i)) := by
      rw [bin_mul, ← Int.natCast_mul, Nat.mul_comm i, wrap_of_i64 (by omega) (by omega)]
    have c3 : bin Tryd.prog .add 3 false (Nn (d * i)) (Nn k) = some (Nn (d * i + k)) := by
      rw [bin_add, wrap_of_i64 (by omega) (by omega)]; congr 2
    obtain ⟨p, hp⟩ : ∃ p, p = d * i + k := ⟨_, rfl⟩
    rw [← hp] at c3
    have e1 : (p : Int).tdiv 8 = ((p / 8 : Nat) : Int) := rfl
    have e2 : (p : Int).tmod 8 = ((p % 8 : Nat) : Int) := rfl
    have c4 : bin Tryd.prog .quo 3 true (Nn p) (.int .i64 8) = some (Nn (p / 8)) := by
      rw [bin_quo _ _ _ _ _ _ (by decide), e1, wrap_of_i64 (by omega) (by omega)]
    have hpM : p / 8 < M := by omega
    have c5 := idx_sl 0 M (p / 8) hpM
    obtain ⟨W, hW⟩ : ∃ W, W = V + x % 2 ^ k * 2 ^ (d * i) := ⟨_, rfl⟩
    have hWl : W < 2 ^ p := by
      have h1 : x % 2 ^ k < 2 ^ k := Nat.mod_lt _ (Nat.two_pow_pos k)
      have h2 : (x % 2 ^ k + 1) * 2 ^ (d * i) ≤ 2 ^ k * 2 ^ (d * i) := Nat.mul_le_mul_right _ h1
      rw [hp, Nat.pow_add, Nat.mul_comm (2 ^ (d * i)), hW]
      rw [Nat.add_mul, Nat.one_mul] at h2
      omega
    have hg : (bytesV (digs 256 M W))[p / 8]? = some (.int .u8 ((W / 256 ^ (p / 8) % 256 : Nat) : Int)) := by
      unfold bytesV; rw [List.getElem?_map, digs_get 256 M W _ hpM]; rfl
    have c6 : loadV G false 1 (.ptr 0 M (p / 8) 0) (hpI M W) = some (.int .u8 ((W / 256 ^ (p / 8) % 256 : Nat) : Int)) :=
      load_at G (e := 5) (xs := bytesV (digs 256 M W)) rfl (by rw [bytesV_len, digs_length]) hg
    have c7 := idx_ints bor a i x hi
    have c8 : convInt .u64 (Nn k) = some (.int .u64 (k : Int)) := by rw [convInt_int, wrap_of_u64 (by omega) (by omega)]
    have c9 : bin Tryd.prog .shr 3 false (Nn x) (.int .u64 (k : Int)) = some (Nn (x / 2 ^ k)) := by
      rw [bin_shr _ _ _ _ _ _ _ (Int.natCast_nonneg _)]
      have e : min ((k : Int)).toNat IntKind.i64.bits = k := by rw [Int.toNat_natCast]; exact Nat.min_eq_left (by have : IntKind.i64.bits = 64 := rfl; omega)
      rw [e, fdiv_pow_nat]
    have hpow : 2 ^ d ≤ 2 ^ 24 := Nat.pow_le_pow_right (by decide) hd.2
    have hq : x / 2 ^ k ≤ x := Nat.div_le_self _ _
    have c10 : bin Tryd.prog .and 3 true (Nn (x / 2 ^ k)) (.int .i64 1) = some (Nn (x / 2 ^ k % 2)) := by
      have := i64_and_nat (x / 2 ^ k) 1 (by omega) (by decide)
      rw [bin_and]; rw [show ((1 : Nat) : Int) = 1 from rfl] at this; rw [this, nat_mask1]
    obtain ⟨b, hb⟩ : ∃ b, b = x / 2 ^ k % 2 := ⟨_, rfl⟩
    have hb2 : b < 2 := by rw [hb]; exact Nat.mod_lt _ (by decide)
    have hnext : V + x % 2 ^ (k + 1) * 2 ^ (d * i) = W + b * 2 ^ p := by
      rw [mod_next, hW, hb, hp, Nat.pow_add, Nat.add_mul, Nat.mul_assoc, Nat.mul_comm (2 ^ k)]; omega
    rw [← hb] at c10
    have c11 : convInt .u8 (Nn b) = some (.int .u8 (b : Int)) := by rw [convInt_int, wrap_of_u8 (by omega) (by omega)]
    have c12 : bin Tryd.prog .rem 3 true (Nn p) (.int .i64 8) = some (Nn (p % 8)) := by rw [bin_rem _ _ _ _ _ _ (by decide), e2]
    have c13 : convInt .u64 (Nn (p % 8)) = some (.int .u64 ((p % 8 : Nat) : Int)) := by rw [convInt_int, wrap_of_u64 (by omega) (by omega)]
    have h8 : p % 8 < 8 := Nat.mod_lt _ (by decide)
    have hs : b * 2 ^ (p % 8) < 256 := by
      have h1 : 2 ^ (p % 8) ≤ 2 ^ 7 := Nat.pow_le_pow_right (by decide) (by omega)
      have h2 : b * 2 ^ (p % 8) ≤ 1 * 2 ^ (p % 8) := Nat.mul_le_mul_right _ (by omega)
      omega
    have c14 : bin Tryd.prog .shl 5 false (.int .u8 (b : Int)) (.int .u64 ((p % 8 : Nat) : Int)) = some (.int .u8 ((b * 2 ^ (p % 8) : Nat) : Int)) := by
      rw [bin_shl _ _ _ _ _ _ _ (Int.natCast_nonneg _)]
      have e : min (((p % 8 : Nat) : Int)).toNat IntKind.u8.bits = p % 8 := by rw [Int.toNat_natCast]; exact Nat.min_eq_left (by have : IntKind.u8.bits = 8 := rfl; omega)
      have e2 : ((b : Int) * 2 ^ (p % 8) : Int) = ((b * 2 ^ (p % 8) : Nat) : Int) := by push_cast; rfl
      rw [e, e2, wrap_of_u8 (by omega) (by omega)]
    have hbyte : W / 256 ^ (p / 8) % 256 < 256 := Nat.mod_lt _ (by decide)
    have c15 : bin Tryd.prog .or 5 false (.int .u8 ((W / 256 ^ (p / 8) % 256 : Nat) : Int)) (.int .u8 ((b * 2 ^ (p % 8) : Nat) : Int)) = some (.int .u8 ((W / 256 ^ (p / 8) % 256 ||| b * 2 ^ (p % 8) : Nat) : Int)) := by
      rw [bin_or, u8_or_nat _ _ hbyte hs]
    have c16 : stS (storeV 1 (.ptr 0 M (p / 8) 0) (.int .u8 ((W / 256 ^ (p / 8) % 256 ||| b * 2 ^ (p % 8) : Nat) : Int)) (hpI M W)) = some (.tup [], hpI M (V + x % 2 ^ (k + 1) * 2 ^ (d * i))) := by
      unfold hpI
      rw [store_sl G (by rw [bytesV_len, digs_length]) hg ⟨_, _, rfl⟩ ⟨_, _, rfl⟩, hnext, digs_set M W b p hWl hb2 hpM]
      unfold bytesV; rw [List.map_set]
    have c17 : bin Tryd.prog .add 3 true (Nn k) (.int .i64 1) = some (Nn (k + 1)) := by
      rw [bin_add, wrap_of_i64 (by omega) (by omega)]; congr 2
    rw [← hW]
    obtain ⟨y1, hy1⟩ : ∃ y, y = W / 256 ^ (p / 8) % 256 := ⟨_, rfl⟩
    obtain ⟨y2, hy2⟩ : ∃ y, y = b * 2 ^ (p % 8) := ⟨_, rfl⟩
    obtain ⟨y3, hy3⟩ : ∃ y, y = x / 2 ^ k := ⟨_, rfl⟩
    obtain ⟨j, hj⟩ : ∃ j, j = p / 8 := ⟨_, rfl⟩
    obtain ⟨m, hm⟩ : ∃ m, m = p % 8 := ⟨_, rfl⟩
    obtain ⟨di, hdi'⟩ : ∃ m, m = d * i := ⟨_, rfl⟩
    rw [← hy2] at c14 c15 c16
    rw [← hy1] at c6 c15 c16
    rw [← hy3] at c9 c10
    rw [← hj] at c4 c5 c6 c16
    rw [← hm] at c12 c13 c14
    rw [← hdi'] at c2 c3
    clear hy1 hy2 hy3 hj hm hdi'
    have ih := r12_loop G k0 self d M hd bor a ha i x V hi hx hV hM hMs r (k + 1) f (by omega) (by omega)
    generalize hpI M (V + x % 2 ^ (k + 1) * 2 ^ (d * i)) = Hn at c16 ih
    rw [loopN_succ, alembicref4_Bits.l12]
    refine lC cutI ?_
    unfold stI
    repeat first
      | refine oB (by first | (simp only [pu_val, nth_zero, nth_succ, gd_tt, gd_ff, gd_tf, gd_ft, gd_no, pickA_true, pickA_false, un_not, c1, c2, c3, c4, c5, c6, c7, c8, c9, c10, c11, c12, c13, c14, c15, load_int]; first | done | (with_reducible exact rfl) | (with_reducible exact ⟨rfl, rfl⟩)) | (with_reducible exact rfl)) ?_
      | refine lB (by first | (simp only [pu_val, nth_zero, nth_succ, gd_tt, gd_ff, gd_tf, gd_ft, gd_no, pickA_true, pickA_false, un_not, c1, c2, c3, c4, c5, c6, c7, c8, c9, c10, c11, c12, c13, c14, c15, load_int]; first | done | (with_reducible exact rfl) | (with_reducible exact ⟨rfl, rfl⟩)) | (with_reducible exact rfl)) ?_
      | refine oT ?_
      | refine oN ?_
      | refine oX ?_
      | refine oXn ?_
      | refine oXr ?_
      | exact oF (finV_bool ..)
      | apply oK
      | refine lT ?_
      | refine lN ?_
      | refine lX ?_
      | refine lXn ?_
      | refine lXr ?_
      | apply lK
      | refine oI ?_
      | refine oJ rfl ?_
      | refine lI ?_
      | refine lJ rfl ?_
      | (with_reducible exact rfl)
    refine lB c16 ?_
    refine lB ((congrArg (pu _) c17).trans (pu_val _ _)) ?_
    exact ih

def stR (d M : Nat) (bor : Bool) (a : List Int) (X Y : AV) (i : Nat) : List AV := [Nn d, .ro bor (intsV a), X, Y, .sl 0 M 0 M 1, Nn i]
theorem cutR {d M : Nat} {bor : Bool} {a : List Int} {X Y : AV} {i W : Nat} (hX : belowB 1 X = true) (hY : belowB 1 Y = true) : cutH 1 (stR d M bor a X Y i) (hpI M W) = some (hpI M W) :=
  cutH_of (by simp [stR, belowL, belowB, intsV_below, hX, hY]) (by simp [hpI, heapBelow, bytesV_below]) rfl

theorem r7_step (G : Globs) (k : Nat) (hk : 40 ≤ k) (self : Den) (d M : Nat) (hd : 1 ≤ d ∧ d ≤ 24) (bor : Bool) (all pre suf : List Int) (hall : all.length ≤ 1000) (y : Nat) (ha : all = pre ++ (y : Int) :: suf) (hy : y < 2 ^ d) (hp : ∀ x ∈ pre, 0 ≤ x ∧ x < ((2 ^ d : Nat) : Int)) (hM : 8 * M = d * all.length) (X Y : AV) (hX : belowB 1 X = true) (hY : belowB 1 Y = true) (lp : LoopF) :
    alembicref4_Bits.l7 G k 1 self lp (stR d M bor all X Y pre.length) (hpI M (Vb d pre)) = lp (stR d M bor all .undef .undef (pre.length + 1)) (hpI M (Vb d (pre ++ [(y : Int)]))) := by
  have hlen : all.length = pre.length + suf.length + 1 := by rw [ha]; simp; omega
  have hil : all[pre.length]? = some (y : Int) := by rw [ha]; simp
  have hV : Vb d pre < 2 ^ (d * pre.length) := by
    have := val_lt (2 ^ d) (pre.map Int.toNat) (fun x hx => by
      obtain ⟨z, hz, rfl⟩ := List.mem_map.1 hx
      have := hp z hz; omega)
    rw [← Nat.pow_mul, List.length_map] at this; exact this
  have hdm : d * (pre.length + 1) ≤ 8 * M := by rw [hM]; exact Nat.mul_le_mul_left _ (by omega)
  have hMs : M ≤ 10000 := by have : d * all.length ≤ 24 * 1000 := Nat.mul_le_mul hd.2 hall; omega
  have il := r12_loop G k self d M hd bor all hall pre.length y (Vb d pre) hil hy hV hdm hMs d 0 k (by omega) (by omega)
  rw [Nat.pow_zero, Nat.mod_one, Nat.zero_mul, Nat.add_zero] at il
  have e2 : Vb d (pre ++ [(y : Int)]) = Vb d pre + y * 2 ^ (d * pre.length) := by
    unfold Vb; rw [List.map_append, List.map_cons, List.map_nil, val_snoc, List.length_map, ← Nat.pow_mul, Nat.mul_comm]; simp
  rw [← e2] at il
  have c0 : lenSl (.ro bor (intsV all)) = some (Nn all.length) := by simp [lenSl, intsV_len]
  have c1 : bin Tryd.prog .lss 3 false (Nn pre.length) (Nn all.length) = some (.bool true) := by rw [bin_lss, decide_eq_true (by omega)]
  have c2 := idx_ints bor all pre.length y hil
  have c3 : bin Tryd.prog .lss 3 true (Nn y) (.int .i64 0) = some (.bool false) := by rw [bin_lss, decide_eq_false (by omega)]
  have c4 : convInt .u64 (Nn d) = some (.int .u64 (d : Int)) := by rw [convInt_int, wrap_of_u64 (by omega) (by omega)]
  have c5 : bin Tryd.prog .shl 3 true (.int .i64 1) (.int .u64 (d : Int)) = some (Nn (2 ^ d)) := by
    rw [bin_shl _ _ _ _ _ _ _ (Int.natCast_nonneg d), pow_i64 d (by omega)]
  have c6 : bin Tryd.prog .geq 3 false (Nn y) (Nn (2 ^ d)) = some (.bool false) := by rw [bin_geq, decide_eq_false (by omega)]
  have c7 : bin Tryd.prog .add 3 true (Nn pre.length) (.int .i64 1) = some (Nn (pre.length + 1)) := by
    rw [bin_add, wrap_of_i64 (by omega) (by omega)]; congr 2
  unfold stI at il
  generalize hpI M (Vb d (pre ++ [(y : Int)])) = Hn at *
  rw [alembicref4_Bits.l7]
  refine lC (cutR hX hY) ?_
  unfold stR
  repeat first
    | refine oB (by first | (simp only [pu_val, nth_zero, nth_succ, gd_tt, gd_ff, gd_tf, gd_ft, gd_no, pickA_true, pickA_false, un_not, c0, c1, c2, c3, c4, c5, c6, load_int]; first | done | (with_reducible exact rfl) | (with_reducible exact ⟨rfl, rfl⟩)) | (with_reducible exact rfl)) ?_
    | refine lB (by first | (simp only [pu_val, nth_zero, nth_succ, gd_tt, gd_ff, gd_tf, gd_ft, gd_no, pickA_true, pickA_false, un_not, c0, c1, c2, c3, c4, c5, c6, load_int]; first | done | (with_reducible exact rfl) | (with_reducible exact ⟨rfl, rfl⟩)) | (with_reducible exact rfl)) ?_
    | refine oT ?_
    | refine oN ?_
    | refine oX ?_
    | refine oXn ?_
    | refine oXr ?_
    | exact oF (finV_bool ..)
    | apply oK
    | refine lT ?_
    | refine lN ?_
    | refine lX ?_
    | refine lXn ?_
    | refine lXr ?_
    | apply lK
    | refine oI ?_
    | refine oJ rfl ?_
    | refine lI ?_
    | refine lJ rfl ?_
    | (with_reducible exact rfl)
  exact il
  repeat first
    | refine oB (by first | (simp only [pu_val, nth_zero, nth_succ, gd_tt, gd_ff, gd_tf, gd_ft, gd_no, pickA_true, pickA_false, un_not, c7]; first | done | (with_reducible exact rfl) | (with_reducible exact ⟨rfl, rfl⟩)) | (with_reducible exact rfl)) ?_
    | refine lB (by first | (simp only [pu_val, nth_zero, nth_succ, gd_tt, gd_ff, gd_tf, gd_ft, gd_no, pickA_true, pickA_false, un_not, c7]; first | done | (with_reducible exact rfl) | (with_reducible exact ⟨rfl, rfl⟩)) | (with_reducible exact rfl)) ?_
    | refine oT ?_
    | refine oN ?_
    | refine oX ?_
    | refine oXn ?_
    | refine oXr ?_
    | exact oF (finV_bool ..)
    | apply oK
    | refine lT ?_
    | refine lN ?_
    | refine lX ?_
    | refine lXn ?_
    | refine lXr ?_
    | apply lK
    | refine oI ?_
    | refine oJ rfl ?_
    | refine lI ?_
    | refine lJ rfl ?_
    | (with_reducible exact rfl)
  rfl
theorem r7_bad (G : Globs) (k : Nat) (self : Den) (d M : Nat) (hd : 1 ≤ d ∧ d ≤ 24) (bor : Bool) (all pre suf : List Int) (x : Int) (ha : all = pre ++ x :: suf) (hx : ¬ (0 ≤ x ∧ x < ((2 ^ d : Nat) : Int))) (W : Nat) (X Y : AV) (hX : belowB 1 X = true) (hY : belowB 1 Y = true) (lp : LoopF) :
    ∃ zs, alembicref4_Bits.l7 G k 1 self lp (stR d M bor all X Y pre.length) (hpI M W) = some (.ret, Nn d :: .ro bor (intsV all) :: .ro false [] :: .int .i64 101 :: zs, hpI M W) := by
  have hlen : all.length = pre.length + suf.length + 1 := by rw [ha]; simp; omega
  have c0 : lenSl (.ro bor (intsV all)) = some (Nn all.length) := by simp [lenSl, intsV_len]
  have c1 : bin Tryd.prog .lss 3 false (Nn pre.length) (Nn all.length) = some (.bool true) := by rw [bin_lss, decide_eq_true (by omega)]
  have c2 := idx_ints bor all pre.length x (by rw [ha]; simp)
  have c4 : convInt .u64 (Nn d) = some (.int .u64 (d : Int)) := by rw [convInt_int, wrap_of_u64 (by omega) (by omega)]
  have c5 : bin Tryd.prog .shl 3 true (.int .i64 1) (.int .u64 (d : Int)) = some (Nn (2 ^ d)) := by
    rw [bin_shl _ _ _ _ _ _ _ (Int.natCast_nonneg d), pow_i64 d (by omega)]
  refine ⟨(stR d M bor all X Y pre.length).drop 4, ?_⟩
  rw [alembicref4_Bits.l7]
  refine lC (cutR hX hY) ?_
  unfold stR
  by_cases h0 : x < 0
  · have c3 : bin Tryd.prog .lss 3 true (.int .i64 x) (.int .i64 0) = some (.bool true) := by rw [bin_lss, decide_eq_true h0]
    repeat first
      | refine oB (by first | (simp only [pu_val, nth_zero, nth_succ, gd_tt, gd_ff, gd_tf, gd_ft, gd_no, pickA_true, pickA_false, un_not, c0, c1, c2, c3, load_int]; first | done | (with_reducible exact rfl) | (with_reducible exact ⟨rfl, rfl⟩)) | (with_reducible exact rfl)) ?_
      | refine lB (by first | (simp only [pu_val, nth_zero, nth_succ, gd_tt, gd_ff, gd_tf, gd_ft, gd_no, pickA_true, pickA_false, un_not, c0, c1, c2, c3, load_int]; first | done | (with_reducible exact rfl) | (with_reducible exact ⟨rfl, rfl⟩)) | (with_reducible exact rfl)) ?_
      | refine oT ?_
      | refine oN ?_
      | refine oX ?_
      | refine oXn ?_
      | refine oXr ?_
      | exact oF (finV_bool ..)
      | apply oK
      | refine lT ?_
      | refine lN ?_
      | refine lX ?_
      | refine lXn ?_
      | refine lXr ?_
      | apply lK
      | refine oI ?_
      | refine oJ rfl ?_
      | refine lI ?_
      | refine lJ rfl ?_
      | (with_reducible exact rfl)
    rfl
  · have c3 : bin Tryd.prog .lss 3 true (.int .i64 x) (.int .i64 0) = some (.bool false) := by rw [bin_lss, decide_eq_false h0]
    have c6 : bin Tryd.prog .geq 3 false (.int .i64 x) (Nn (2 ^ d)) = some (.bool true) := by rw [bin_geq, decide_eq_true (by omega)]
    repeat first
      | refine oB (by first | (simp only [pu_val, nth_zero, nth_succ, gd_tt, gd_ff, gd_tf, gd_ft, gd_no, pickA_true, pickA_false, un_not, c0, c1, c2, c3, c4, c5, c6, load_int]; first | done | (with_reducible exact rfl) | (with_reducible exact ⟨rfl, rfl⟩)) | (with_reducible exact rfl)) ?_
      | refine lB (by first | (simp only [pu_val, nth_zero, nth_succ, gd_tt, gd_ff, gd_tf, gd_ft, gd_no, pickA_true, pickA_false, un_not, c0, c1, c2, c3, c4, c5, c6, load_int]; first | done | (with_reducible exact rfl) | (with_reducible exact ⟨rfl, rfl⟩)) | (with_reducible exact rfl)) ?_
      | refine oT ?_
      | refine oN ?_
      | refine oX ?_
      | refine oXn ?_
      | refine oXr ?_
      | exact oF (finV_bool ..)
      | apply oK
      | refine lT ?_
      | refine lN ?_
      | refine lX ?_
      | refine lXn ?_
      | refine lXr ?_
      | apply lK
      | refine oI ?_
      | refine oJ rfl ?_
      | refine lI ?_
      | refine lJ rfl ?_
      | (with_reducible exact rfl)
    rfl
theorem r7_end (G : Globs) (k : Nat) (self : Den) (d M : Nat) (bor : Bool) (all : List Int) (W : Nat) (X Y : AV) (hX : belowB 1 X = true) (hY : belowB 1 Y = true) (lp : LoopF) :
    alembicref4_Bits.l7 G k 1 self lp (stR d M bor all X Y all.length) (hpI M W) = some (.exit 0, stR d M bor all X Y all.length, hpI M W) := by
  have c0 : lenSl (.ro bor (intsV all)) = some (Nn all.length) := by simp [lenSl, intsV_len]
  have c1 : bin Tryd.prog .lss 3 false (Nn all.length) (Nn all.length) = some (.bool false) := by rw [bin_lss, decide_eq_false (by omega)]
  rw [alembicref4_Bits.l7]
  refine lC (cutR hX hY) ?_
  unfold stR
  repeat first
    | refine oB (by first | (simp only [pu_val, nth_zero, nth_succ, gd_tt, gd_ff, gd_tf, gd_ft, gd_no, pickA_true, pickA_false, un_not, c0, c1]; first | done | (with_reducible exact rfl) | (with_reducible exact ⟨rfl, rfl⟩)) | (with_reducible exact rfl)) ?_
    | refine lB (by first | (simp only [pu_val, nth_zero, nth_succ, gd_tt, gd_ff, gd_tf, gd_ft, gd_no, pickA_true, pickA_false, un_not, c0, c1]; first | done | (with_reducible exact rfl) | (with_reducible exact ⟨rfl, rfl⟩)) | (with_reducible exact rfl)) ?_
    | refine oT ?_
    | refine oN ?_
    | refine oX ?_
    | refine oXn ?_
    | refine oXr ?_
    | exact oF (finV_bool ..)
    | apply oK
    | refine lT ?_
    | refine lN ?_
    | refine lX ?_
    | refine lXn ?_
    | refine lXr ?_
    | apply lK
    | refine oI ?_
    | refine oJ rfl ?_
    | refine lI ?_
    | refine lJ rfl ?_
    | (with_reducible exact rfl)
  rfl

theorem r7_loop (G : Globs) (k : Nat) (hk : 40 ≤ k) (self : Den) (d M : Nat) (hd : 1 ≤ d ∧ d ≤ 24) (bor : Bool) (all : List Int) (hall : all.length ≤ 1000) (hM : 8 * M = d * all.length) :
    ∀ (suf pre : List Int) (f : Nat) (X Y : AV), all = pre ++ suf → inR d pre → suf.length < f → belowB 1 X = true → belowB 1 Y = true →
      (inR d suf → ∃ X' Y', loopN (alembicref4_Bits.l7 G k 1 self) f (stR d M bor all X Y pre.length) (hpI M (Vb d pre)) = some (.exit 0, stR d M bor all X' Y' all.length, hpI M (Vb d all))) ∧
      (¬ inR d suf → ∃ zs W, loopN (alembicref4_Bits.l7 G k 1 self) f (stR d M bor all X Y pre.length) (hpI M (Vb d pre)) = some (.ret, Nn d :: .ro bor (intsV all) :: .ro false [] :: .int .i64 101 :: zs, hpI M W))
  | _, _, 0, _, _, _, _, h, _, _ => by omega
  | [], pre, f + 1, X, Y, ha, hp, h, hX, hY => by
    rw [List.append_nil] at ha
    subst ha
    exact ⟨fun _ => ⟨X, Y, by rw [loopN_succ]; exact r7_end G k self d M bor all _ X Y hX hY _⟩, fun hc => absurd (fun x hx => by simp at hx) hc⟩
  | x :: suf, pre, f + 1, X, Y, ha, hp, h, hX, hY => by
    by_cases hx : 0 ≤ x ∧ x < ((2 ^ d : Nat) : Int)
    · obtain ⟨y, rfl⟩ := Int.eq_ofNat_of_zero_le hx.1
      have st := r7_step G k hk self d M hd bor all pre suf hall y ha (by have := hx.2; omega) hp hM X Y hX hY (loopN (alembicref4_Bits.l7 G k 1 self) f)
      have ih := r7_loop G k hk self d M hd bor all hall hM suf (pre ++ [(y : Int)]) f .undef .undef (by rw [ha]; simp) (fun z hz => by
          rcases List.mem_append.1 hz with hz | hz
          · exact hp z hz
          · simp at hz; subst hz; exact hx) (by simpa using h) rfl rfl
      rw [List.length_append] at ih
      have hiff : inR d ((y : Int) :: suf) ↔ inR d suf := ⟨fun hc z hz => hc z (List.mem_cons_of_mem _ hz), fun hc z hz => by
          rcases List.mem_cons.1 hz with rfl | hz
          · exact hx
          · exact hc z hz⟩
      constructor
      · intro hr
        obtain ⟨X', Y', e⟩ := ih.1 (hiff.1 hr)
        exact ⟨X', Y', by rw [loopN_succ]; exact st.trans e⟩
      · intro hr
        obtain ⟨zs, W, e⟩ := ih.2 (fun hc => hr (hiff.2 hc))
        exact ⟨zs, W, by rw [loopN_succ]; exact st.trans e⟩
    · refine ⟨fun hr => absurd (hr x (List.mem_cons_self ..)) hx, fun _ => ?_⟩
      obtain ⟨zs, e⟩ := r7_bad G k self d M hd bor all pre suf x ha hx (Vb d pre) X Y hX hY (loopN (alembicref4_Bits.l7 G k 1 self) f)
      exact ⟨zs, _, by rw [loopN_succ]; exact e⟩
end Go.Proofs.YtemkaggjbhpbbaaDoor.Mir
