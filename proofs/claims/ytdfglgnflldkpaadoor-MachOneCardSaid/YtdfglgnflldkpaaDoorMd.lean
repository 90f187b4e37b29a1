/- Sixteen bits of a word. -/
import Derived.Test.YtdfglgnflldkpaaDoorMc
namespace Go.Proofs.YtdfglgnflldkpaaDoor.Mir
open Go
set_option linter.unusedVariables false
set_option linter.unusedSimpArgs false
set_option maxHeartbeats 8000000
set_option maxRecDepth 20000

theorem ofInt_nat (n : Nat) : BitVec.ofInt 64 (n : Int) = BitVec.ofNat 64 n := by
  apply BitVec.eq_of_toNat_eq
  rw [BitVec.toNat_ofInt, BitVec.toNat_ofNat]; omega
theorem wrapB (x : BitVec 64) : IntKind.u64.wrap (x.toNat : Int) = (x.toNat : Int) := by
  have := x.isLt
  rw [wrap_u64_eq]; omega
theorem ofB (x : BitVec 64) : BitVec.ofInt 64 (x.toNat : Int) = x := by rw [ofInt_nat]; simp

theorem movk_bv (d k s : Nat) : movkF d k s = ((BitVec.ofNat 64 d &&& ~~~ BitVec.ofNat 64 (65535 * 2 ^ s % 18446744073709551616)) ||| BitVec.ofNat 64 (k * 2 ^ s % 18446744073709551616)).toNat := by
  have h1 : bits .andNot .u64 (d : Int) ((65535 * 2 ^ s % 18446744073709551616 : Nat) : Int) = (((BitVec.ofNat 64 d &&& ~~~ BitVec.ofNat 64 (65535 * 2 ^ s % 18446744073709551616)).toNat : Nat) : Int) := by
    show IntKind.u64.wrap ((BitVec.ofInt 64 (d : Int) &&& ~~~ BitVec.ofInt 64 ((65535 * 2 ^ s % 18446744073709551616 : Nat) : Int)).toNat : Int) = _
    rw [wrapB, ofInt_nat, ofInt_nat]
  unfold movkF
  rw [h1]
  have h2 : ∀ x y : BitVec 64, bits .or .u64 (x.toNat : Int) (y.toNat : Int) = (((x ||| y).toNat : Nat) : Int) := fun x y => by
    show IntKind.u64.wrap ((BitVec.ofInt 64 (x.toNat : Int) ||| BitVec.ofInt 64 (y.toNat : Int)).toNat : Int) = _
    rw [ofB, ofB, wrapB]
  have h3 : ((k * 2 ^ s % 18446744073709551616 : Nat) : Int) = ((BitVec.ofNat 64 (k * 2 ^ s % 18446744073709551616)).toNat : Int) := by
    rw [BitVec.toNat_ofNat]; omega
  rw [h3, h2]
  have := ((BitVec.ofNat 64 d &&& ~~~ BitVec.ofNat 64 (65535 * 2 ^ s % 18446744073709551616)) ||| BitVec.ofNat 64 (k * 2 ^ s % 18446744073709551616)).isLt
  generalize ((BitVec.ofNat 64 d &&& ~~~ BitVec.ofNat 64 (65535 * 2 ^ s % 18446744073709551616)) ||| BitVec.ofNat 64 (k * 2 ^ s % 18446744073709551616)).toNat = q at *
  unfold u64
  omega

theorem bit_k (k s i : Nat) (hi : i < 64) : (k * 2 ^ s % 18446744073709551616).testBit i = (decide (s ≤ i) && k.testBit (i - s)) := by
  rw [show (18446744073709551616 : Nat) = 2 ^ 64 from rfl, Nat.testBit_mod_two_pow, Nat.testBit_mul_two_pow]
  simp [hi]
theorem bit_m (n : Nat) : (65535 : Nat).testBit n = decide (n < 16) := by
  rw [show (65535 : Nat) = 2 ^ 16 - 1 from rfl, Nat.testBit_two_pow_sub_one]
theorem movk_bit (d k s : Nat) (i : Nat) (hi : i < 64) (hk : k < 65536) : (movkF d k s).testBit i = if s ≤ i ∧ i < s + 16 then k.testBit (i - s) else d.testBit i := by
  rw [movk_bv]
  have e : ∀ x : BitVec 64, x.toNat.testBit i = x.getLsbD i := fun x => rfl
  rw [e]
  simp only [BitVec.getLsbD_or, BitVec.getLsbD_and, BitVec.getLsbD_not, BitVec.getLsbD_ofNat, hi, decide_true, Bool.true_and]
  rw [bit_k _ _ _ hi, bit_k _ _ _ hi, bit_m]
  have hkb : ∀ j, 16 ≤ j → k.testBit j = false := fun j hj => Nat.testBit_lt_two_pow (Nat.lt_of_lt_of_le (show k < 2 ^ 16 from hk) (Nat.pow_le_pow_right (by omega) hj))
  by_cases h1 : s ≤ i
  · by_cases h2 : i < s + 16
    · rw [if_pos ⟨h1, h2⟩]
      simp [h1, show i - s < 16 by omega]
    · rw [if_neg (by omega), hkb (i - s) (by omega)]
      simp [h1, show ¬ (i - s < 16) by omega]
  · rw [if_neg (by omega)]
    simp [h1]

/-- The four parts of a word. -/
def partF (w s : Nat) : Nat := w / 2 ^ s % 65536
theorem part_lt (w s : Nat) : partF w s < 65536 := Nat.mod_lt _ (by decide)
theorem part_bit (w s i : Nat) : (partF w s).testBit i = (decide (i < 16) && w.testBit (s + i)) := by
  unfold partF
  rw [show (65536 : Nat) = 2 ^ 16 from rfl, Nat.testBit_mod_two_pow, Nat.testBit_div_two_pow]
  rw [Nat.add_comm]

theorem four (w : Nat) (hw : w < 18446744073709551616) (a b c e : Nat) (hp : (a = 0 ∧ b = 16 ∧ c = 32 ∧ e = 48) ∨ (a = 16 ∧ b = 32 ∧ c = 48 ∧ e = 0) ∨ (a = 32 ∧ b = 48 ∧ c = 0 ∧ e = 16) ∨ (a = 48 ∧ b = 0 ∧ c = 16 ∧ e = 32)) :
    movkF (movkF (movkF (partF w a * 2 ^ a % 18446744073709551616) (partF w b) b) (partF w c) c) (partF w e) e = w := by
  apply Nat.eq_of_testBit_eq
  intro i
  by_cases hi : i < 64
  · have fin : ∀ s, s ≤ i ∧ i < s + 16 → (partF w s).testBit (i - s) = w.testBit i := fun s h => by
      rw [part_bit, show s + (i - s) = i by omega]
      simp; omega
    rw [movk_bit _ _ _ _ hi (part_lt _ _), movk_bit _ _ _ _ hi (part_lt _ _), movk_bit _ _ _ _ hi (part_lt _ _), bit_k _ _ _ hi]
    split
    · rename_i h; exact fin _ h
    split
    · rename_i h; exact fin _ h
    split
    · rename_i h; exact fin _ h
    have ha : a ≤ i ∧ i < a + 16 := by omega
    rw [decide_eq_true ha.1, Bool.true_and]
    exact fin _ ha
  · have hlt : ∀ x, x < 18446744073709551616 → x.testBit i = false := fun x hx => Nat.testBit_lt_two_pow (Nat.lt_of_lt_of_le (show x < 2 ^ 64 from hx) (Nat.pow_le_pow_right (by omega) (by omega)))
    rw [hlt w hw]
    exact hlt _ (by unfold movkF; exact u64_lt _)
end Go.Proofs.YtdfglgnflldkpaaDoor.Mir
