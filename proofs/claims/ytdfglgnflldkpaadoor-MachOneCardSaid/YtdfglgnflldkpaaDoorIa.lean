/- isa: an instruction's word: the program's. -/
import Derived.Test.YtdfglgnflldkpaaDoorMa
namespace Go.Proofs.YtdfglgnflldkpaaDoor.Mir
open Go
set_option linter.unusedVariables false
set_option linter.unusedSimpArgs false
set_option maxHeartbeats 8000000
set_option maxRecDepth 20000

/-! ### Words of 32 bits -/
theorem ofInt_u32 (a : Nat) (h : a < 4294967296) : (BitVec.ofInt 32 (a : Int)).toNat = a := by
  rw [BitVec.toNat_ofInt]
  omega
theorem u32_or (a b : Nat) (ha : a < 4294967296) (hb : b < 4294967296) : IntKind.u32.wrap ((BitVec.ofInt 32 (a : Int) ||| BitVec.ofInt 32 (b : Int)).toNat : Int) = ((a ||| b : Nat) : Int) := by
  have hx : a ||| b < 2 ^ 32 := Nat.or_lt_two_pow (by omega) (by omega)
  rw [BitVec.toNat_or, ofInt_u32 a ha, ofInt_u32 b hb, wrap_of_u32 (by omega) (by omega)]
theorem u32_and (a b : Nat) (ha : a < 4294967296) (hb : b < 4294967296) : bits .and .u32 (a : Int) (b : Int) = ((a &&& b : Nat) : Int) := by
  have hx : a &&& b ≤ a := Nat.and_le_left
  show IntKind.u32.wrap ((BitVec.ofInt 32 (a : Int) &&& BitVec.ofInt 32 (b : Int)).toNat : Int) = _
  rw [BitVec.toNat_and, ofInt_u32 a ha, ofInt_u32 b hb, wrap_of_u32 (by omega) (by omega)]
theorem or_add {x y : Nat} (h : x &&& y = 0) (hb : x + y < 2 ^ 64) : x ||| y = x + y := by
  have e : (BitVec.ofNat 64 x &&& BitVec.ofNat 64 y) = 0#64 := by
    apply BitVec.eq_of_toNat_eq
    rw [BitVec.toNat_and, BitVec.toNat_ofNat, BitVec.toNat_ofNat, Nat.mod_eq_of_lt (by omega), Nat.mod_eq_of_lt (by omega), h]
    rfl
  have h2 := BitVec.add_eq_or_of_and_eq_zero _ _ e
  have h3 := congrArg BitVec.toNat h2
  rw [BitVec.toNat_add, BitVec.toNat_or, BitVec.toNat_ofNat, BitVec.toNat_ofNat, Nat.mod_eq_of_lt (show x < 2 ^ 64 by omega), Nat.mod_eq_of_lt (show y < 2 ^ 64 by omega), Nat.mod_eq_of_lt hb] at h3
  exact h3.symm

/-- No bit of both. -/
def dj (x y : Int) : Prop := 0 ≤ x ∧ 0 ≤ y ∧ x.toNat &&& y.toNat = 0
theorem dj_field {x v p q : Int} (s w : Nat) (hp : p = ((2 ^ s : Nat) : Int)) (hq : q = ((2 ^ w : Nat) : Int)) (x0 : 0 ≤ x) (v0 : 0 ≤ v) (v1 : v < q) (hz : x / p % q = 0) : dj x (v * p) := by
  obtain ⟨X, rfl⟩ : ∃ X : Nat, x = X := ⟨x.toNat, by omega⟩
  obtain ⟨V, rfl⟩ : ∃ V : Nat, v = V := ⟨v.toNat, by omega⟩
  subst hp; subst hq
  have hV : V < 2 ^ w := by exact_mod_cast v1
  have hZ : X / 2 ^ s % 2 ^ w = 0 := by exact_mod_cast hz
  refine ⟨x0, by exact_mod_cast Nat.zero_le (V * 2 ^ s), ?_⟩
  have e : ((V : Int) * ((2 ^ s : Nat) : Int)).toNat = V * 2 ^ s := by rw [← Int.natCast_mul]; rfl
  rw [e, Int.toNat_natCast]
  apply Nat.eq_of_testBit_eq
  intro j
  rw [Nat.testBit_and, Nat.testBit_mul_two_pow, Nat.zero_testBit]
  by_cases hs : s ≤ j
  · by_cases hw : j - s < w
    · have h1 : (X / 2 ^ s % 2 ^ w).testBit (j - s) = X.testBit j := by
        rw [Nat.testBit_mod_two_pow, Nat.testBit_div_two_pow, Nat.sub_add_cancel hs]; simp [hw]
      rw [hZ, Nat.zero_testBit] at h1
      rw [← h1]; rfl
    · have h1 : V.testBit (j - s) = false := Nat.testBit_lt_two_pow (Nat.lt_of_lt_of_le hV (Nat.pow_le_pow_right (by decide) (by omega)))
      rw [h1]; simp
  · simp [hs]
theorem dj_add {x y z : Int} (h1 : dj x y) (h2 : dj x z) (h3 : dj y z) (hb : y + z < 18446744073709551616) : dj x (y + z) := by
  obtain ⟨x0, y0, h1⟩ := h1
  obtain ⟨_, z0, h2⟩ := h2
  obtain ⟨_, _, h3⟩ := h3
  refine ⟨x0, by omega, ?_⟩
  have e : (y + z).toNat = y.toNat + z.toNat := by omega
  rw [e, ← or_add h3 (by omega), Nat.and_or_distrib_left, h1, h2]
  rfl
theorem or_dj (P : Program) (t : Nat) (c : Bool) {x y : Int} (h : dj x y) (hb : x + y < 4294967296) : bin P .or t c (W32 x) (W32 y) = some (W32 (x + y)) := by
  obtain ⟨x0, y0, h⟩ := h
  obtain ⟨X, rfl⟩ : ∃ X : Nat, x = X := ⟨x.toNat, by omega⟩
  obtain ⟨Y, rfl⟩ : ∃ Y : Nat, y = Y := ⟨y.toNat, by omega⟩
  rw [Int.toNat_natCast, Int.toNat_natCast] at h
  rw [bin_or]
  show some (AV.int .u32 (IntKind.u32.wrap ((BitVec.ofInt 32 (X : Int) ||| BitVec.ofInt 32 (Y : Int)).toNat : Int))) = _
  rw [u32_or X Y (by omega) (by omega), or_add h (by omega)]
  rfl
theorem or_fd (P : Program) (t : Nat) (c : Bool) {x v p q : Int} (s w : Nat) (hp : p = ((2 ^ s : Nat) : Int)) (hq : q = ((2 ^ w : Nat) : Int)) (x0 : 0 ≤ x) (v0 : 0 ≤ v) (v1 : v < q) (hz : x / p % q = 0) (hb : x + v * p < 4294967296) :
    bin P .or t c (W32 x) (W32 (v * p)) = some (W32 (x + v * p)) := or_dj P t c (dj_field s w hp hq x0 v0 v1 hz) hb
theorem or_f0 (P : Program) (t : Nat) (c : Bool) {x v q : Int} (w : Nat) (hq : q = ((2 ^ w : Nat) : Int)) (x0 : 0 ≤ x) (v0 : 0 ≤ v) (v1 : v < q) (hz : x % q = 0) (hb : x + v < 4294967296) :
    bin P .or t c (W32 x) (W32 v) = some (W32 (x + v)) := by
  have h := dj_field (x := x) (v := v) (p := 1) 0 w rfl hq x0 v0 v1 (by rw [Int.ediv_one]; exact hz)
  rw [Int.mul_one] at h
  exact or_dj P t c h hb
theorem and_low (P : Program) (t : Nat) (c : Bool) {x q : Int} (w : Nat) (hw : w ≤ 31) (hq : q = ((2 ^ w - 1 : Nat) : Int)) (x0 : 0 ≤ x) (x1 : x < 4294967296) : bin P .and t c (W32 x) (W32 q) = some (W32 (x % (q + 1))) := by
  obtain ⟨X, rfl⟩ : ∃ X : Nat, x = X := ⟨x.toNat, by omega⟩
  have hl : 2 ^ w ≤ 2 ^ 31 := Nat.pow_le_pow_right (by decide) hw
  have hl' : 0 < 2 ^ w := Nat.two_pow_pos w
  rw [bin_and, hq, u32_and X _ (by omega) (by omega), Nat.and_two_pow_sub_one_eq_mod]
  congr 2
  have e : ((2 ^ w - 1 : Nat) : Int) + 1 = ((2 ^ w : Nat) : Int) := by omega
  rw [e]; rfl
theorem shl_p (P : Program) (t : Nat) (c : Bool) {v p b : Int} (s : Nat) (hb : b = (s : Int)) (hs : s ≤ 32) (hp : p = ((2 ^ s : Nat) : Int)) (h0 : 0 ≤ v * p) (h1 : v * p < 4294967296) : bin P .shl t c (W32 v) (.int .u64 b) = some (W32 (v * p)) := by
  subst hb
  rw [bin_shl _ _ _ _ _ _ _ (Int.natCast_nonneg s), Int.toNat_natCast]
  have e : min s IntKind.u32.bits = s := Nat.min_eq_left hs
  have e2 : ((2 : Int) ^ s) = p := by rw [hp]; exact_mod_cast rfl
  rw [e, e2, wrap_of_u32 h0 h1]

/-- The number, and what stands at A, as bits. -/
def wNum (op a imm : Int) : Int :=
  if op = 1 ∨ op = 2 then a * 2097152 + imm * 32
  else if op = 8 then a * 1024
  else if op = 16 then a * 4096
  else if op = 17 then (if a % 2 = 0 then a + 1 else a - 1) * 4096
  else if op = 10 ∨ op = 11 ∨ op = 18 ∨ op = 19 then imm * 1024
  else if op = 12 then (64 - imm) % 64 * 65536 + (63 - imm) * 1024
  else if op = 13 then imm * 65536 + 64512
  else if op = 14 then imm * 65536
  else if op = 20 then imm % 67108864
  else if op = 21 then a + imm % 524288 * 32
  else if op = 22 ∨ op = 23 then imm % 524288 * 32
  else if op = 24 then imm * 32
  else 0
/-- An instruction's word. -/
def wordF (i : MI) : Int := (formF i.op).w + i.d + i.n * 32 + i.m * 65536 + wNum i.op i.a i.imm

theorem xor1 (P : Program) (t : Nat) (c : Bool) {a : Int} (h0 : 0 ≤ a) (h1 : a ≤ 9) : bin P .xor t c (W32 a) (.int .u32 1) = some (W32 (if a % 2 = 0 then a + 1 else a - 1)) := by
  have h : a = 0 ∨ a = 1 ∨ a = 2 ∨ a = 3 ∨ a = 4 ∨ a = 5 ∨ a = 6 ∨ a = 7 ∨ a = 8 ∨ a = 9 := by omega
  rcases h with rfl | rfl | rfl | rfl | rfl | rfl | rfl | rfl | rfl | rfl <;> (clear h0 h1; show _ = _; kernel_rfl)
theorem rem64 (P : Program) (t : Nat) (c : Bool) {a : Int} (h0 : 0 ≤ a) : bin P .rem t c (W32 a) (.int .u32 64) = some (W32 (a % 64)) := by
  rw [bin_rem _ _ _ _ _ _ (by decide), Int.tmod_eq_emod_of_nonneg h0]
theorem sub32 (P : Program) (t : Nat) (c : Bool) {a b : Int} (h0 : b ≤ a) (h1 : 0 ≤ b) (h2 : a < 4294967296) : bin P .sub t c (W32 a) (W32 b) = some (W32 (a - b)) := by
  rw [bin_sub, wrap_of_u32 (by omega) (by omega)]
theorem cvM (x : Int) : convInt .u32 (I6 x) = some (W32 (x % 4294967296)) := by rw [cv32, wrap_u32_eq]

theorem number_spec (G : Globs) (k : Nat) (i : MI) (h : rightB i = true) : isa_number.f G (k + 1) [i.v] [] = some (W32 (wNum i.op i.a i.imm), []) := by
  obtain ⟨op, d, n, m, a, imm⟩ := i
  show isa_number.f G (k + 1) [mV op d n m a imm] [] = _
  unfold rightB at h
  rw [Bool.and_eq_true] at h
  have h24 : 1 ≤ op ∧ op ≤ 24 := of_decide_eq_true h.1
  obtain ⟨_, h⟩ := h
  rw [isa_number.step]
  unfold isa_number.c
  simp only
  refine e_in ?_
  rcases op24 h24 with rfl | rfl | rfl | rfl | rfl | rfl | rfl | rfl | rfl | rfl | rfl | rfl | rfl | rfl | rfl | rfl | rfl | rfl | rfl | rfl | rfl | rfl | rfl | rfl
  all_goals (simp [formF, fairB, regB, extraB, immB, halfI, stackB] at h)
  · -- 1
    have s1 := shl_p Tryd.prog 71 true (v := a) (p := 2097152) (b := 21) 21 rfl (by decide) rfl (by omega) (by omega)
    have s2 := shl_p Tryd.prog 71 true (v := imm) (p := 32) (b := 5) 5 rfl (by decide) rfl (by omega) (by omega)
    have s3 := or_fd Tryd.prog 71 false (x := a * 2097152) (v := imm) (p := 32) (q := 65536) 5 16 rfl rfl (by omega) (by omega) (by omega) (by omega) (by omega)
    repeat' first
      | (with_reducible first | refine eT ?_ | refine eN ?_ | refine eS ?_ | refine eXn ?_ | refine eXr ?_ | refine eX ?_ | refine eI ?_ | refine eK ?_ | refine eV0 ?_ | refine eGr0 ?_ | refine eGtt ?_ | refine eGff ?_ | refine eGtf ?_ | refine eGft ?_ | refine eGno ?_)
      | ((with_reducible apply eCn); (simp only [nth_zero, nth_succ]; first | done | (with_reducible exact rfl)))
      | ((with_reducible apply eJ); (rfl))
      | ((with_reducible apply eGr1); (first | rfl | (simp only [nth_zero, nth_succ]; rfl)))
      | ((with_reducible apply eB); (first | (with_reducible exact rfl) | (simp (disch := omega) only [qf, s1, s2, s3]; first | done | (with_reducible exact rfl) | (with_reducible exact ⟨rfl, rfl⟩)) | (simp (disch := omega) only [qa, putC, AV.cells, storable, buildSt, fillA, buildRo, buildOwn, fillE, Nat.reduceLeDiff, Nat.reduceLT, Nat.reduceAdd, ↓reduceIte, s1, s2, s3]; first | done | (with_reducible exact rfl) | (with_reducible exact ⟨rfl, rfl⟩))))
      | ((with_reducible apply eR); (simp only [nth_zero, nth_succ]; (with_reducible exact rfl)))
      | ((with_reducible first | refine sEql ?_ ?_ | refine sNeq ?_ ?_ | refine sLss ?_ ?_ | refine sLeq ?_ ?_ | refine sGtr ?_ ?_ | refine sGeq ?_ ?_ | refine sNot ?_ ?_ | refine sPick ?_ ?_ | refine sGd ?_ ?_ | refine eBool ?_ ?_) <;> intro hq <;> try subst hq)
    exact w1i rfl
  · -- 2
    have s1 := shl_p Tryd.prog 71 true (v := a) (p := 2097152) (b := 21) 21 rfl (by decide) rfl (by omega) (by omega)
    have s2 := shl_p Tryd.prog 71 true (v := imm) (p := 32) (b := 5) 5 rfl (by decide) rfl (by omega) (by omega)
    have s3 := or_fd Tryd.prog 71 false (x := a * 2097152) (v := imm) (p := 32) (q := 65536) 5 16 rfl rfl (by omega) (by omega) (by omega) (by omega) (by omega)
    repeat' first
      | (with_reducible first | refine eT ?_ | refine eN ?_ | refine eS ?_ | refine eXn ?_ | refine eXr ?_ | refine eX ?_ | refine eI ?_ | refine eK ?_ | refine eV0 ?_ | refine eGr0 ?_ | refine eGtt ?_ | refine eGff ?_ | refine eGtf ?_ | refine eGft ?_ | refine eGno ?_)
      | ((with_reducible apply eCn); (simp only [nth_zero, nth_succ]; first | done | (with_reducible exact rfl)))
      | ((with_reducible apply eJ); (rfl))
      | ((with_reducible apply eGr1); (first | rfl | (simp only [nth_zero, nth_succ]; rfl)))
      | ((with_reducible apply eB); (first | (with_reducible exact rfl) | (simp (disch := omega) only [qf, s1, s2, s3]; first | done | (with_reducible exact rfl) | (with_reducible exact ⟨rfl, rfl⟩)) | (simp (disch := omega) only [qa, putC, AV.cells, storable, buildSt, fillA, buildRo, buildOwn, fillE, Nat.reduceLeDiff, Nat.reduceLT, Nat.reduceAdd, ↓reduceIte, s1, s2, s3]; first | done | (with_reducible exact rfl) | (with_reducible exact ⟨rfl, rfl⟩))))
      | ((with_reducible apply eR); (simp only [nth_zero, nth_succ]; (with_reducible exact rfl)))
      | ((with_reducible first | refine sEql ?_ ?_ | refine sNeq ?_ ?_ | refine sLss ?_ ?_ | refine sLeq ?_ ?_ | refine sGtr ?_ ?_ | refine sGeq ?_ ?_ | refine sNot ?_ ?_ | refine sPick ?_ ?_ | refine sGd ?_ ?_ | refine eBool ?_ ?_) <;> intro hq <;> try subst hq)
    exact w1i rfl
  · -- 3
    repeat' first
      | (with_reducible first | refine eT ?_ | refine eN ?_ | refine eS ?_ | refine eXn ?_ | refine eXr ?_ | refine eX ?_ | refine eI ?_ | refine eK ?_ | refine eV0 ?_ | refine eGr0 ?_ | refine eGtt ?_ | refine eGff ?_ | refine eGtf ?_ | refine eGft ?_ | refine eGno ?_)
      | ((with_reducible apply eCn); (simp only [nth_zero, nth_succ]; first | done | (with_reducible exact rfl)))
      | ((with_reducible apply eJ); (rfl))
      | ((with_reducible apply eGr1); (first | rfl | (simp only [nth_zero, nth_succ]; rfl)))
      | ((with_reducible apply eB); (first | (with_reducible exact rfl) | (simp (disch := omega) only [qa, putC, AV.cells, storable, buildSt, fillA, buildRo, buildOwn, fillE, Nat.reduceLeDiff, Nat.reduceLT, Nat.reduceAdd, ↓reduceIte]; first | done | (with_reducible exact rfl) | (with_reducible exact ⟨rfl, rfl⟩))))
      | ((with_reducible apply eR); (simp only [nth_zero, nth_succ]; (with_reducible exact rfl)))
      | ((with_reducible first | refine sEql ?_ ?_ | refine sNeq ?_ ?_ | refine sLss ?_ ?_ | refine sLeq ?_ ?_ | refine sGtr ?_ ?_ | refine sGeq ?_ ?_ | refine sNot ?_ ?_ | refine sPick ?_ ?_ | refine sGd ?_ ?_ | refine eBool ?_ ?_) <;> intro hq <;> try subst hq)
    exact w1i rfl
  · -- 4
    repeat' first
      | (with_reducible first | refine eT ?_ | refine eN ?_ | refine eS ?_ | refine eXn ?_ | refine eXr ?_ | refine eX ?_ | refine eI ?_ | refine eK ?_ | refine eV0 ?_ | refine eGr0 ?_ | refine eGtt ?_ | refine eGff ?_ | refine eGtf ?_ | refine eGft ?_ | refine eGno ?_)
      | ((with_reducible apply eCn); (simp only [nth_zero, nth_succ]; first | done | (with_reducible exact rfl)))
      | ((with_reducible apply eJ); (rfl))
      | ((with_reducible apply eGr1); (first | rfl | (simp only [nth_zero, nth_succ]; rfl)))
      | ((with_reducible apply eB); (first | (with_reducible exact rfl) | (simp (disch := omega) only [qa, putC, AV.cells, storable, buildSt, fillA, buildRo, buildOwn, fillE, Nat.reduceLeDiff, Nat.reduceLT, Nat.reduceAdd, ↓reduceIte]; first | done | (with_reducible exact rfl) | (with_reducible exact ⟨rfl, rfl⟩))))
      | ((with_reducible apply eR); (simp only [nth_zero, nth_succ]; (with_reducible exact rfl)))
      | ((with_reducible first | refine sEql ?_ ?_ | refine sNeq ?_ ?_ | refine sLss ?_ ?_ | refine sLeq ?_ ?_ | refine sGtr ?_ ?_ | refine sGeq ?_ ?_ | refine sNot ?_ ?_ | refine sPick ?_ ?_ | refine sGd ?_ ?_ | refine eBool ?_ ?_) <;> intro hq <;> try subst hq)
    exact w1i rfl
  · -- 5
    repeat' first
      | (with_reducible first | refine eT ?_ | refine eN ?_ | refine eS ?_ | refine eXn ?_ | refine eXr ?_ | refine eX ?_ | refine eI ?_ | refine eK ?_ | refine eV0 ?_ | refine eGr0 ?_ | refine eGtt ?_ | refine eGff ?_ | refine eGtf ?_ | refine eGft ?_ | refine eGno ?_)
      | ((with_reducible apply eCn); (simp only [nth_zero, nth_succ]; first | done | (with_reducible exact rfl)))
      | ((with_reducible apply eJ); (rfl))
      | ((with_reducible apply eGr1); (first | rfl | (simp only [nth_zero, nth_succ]; rfl)))
      | ((with_reducible apply eB); (first | (with_reducible exact rfl) | (simp (disch := omega) only [qa, putC, AV.cells, storable, buildSt, fillA, buildRo, buildOwn, fillE, Nat.reduceLeDiff, Nat.reduceLT, Nat.reduceAdd, ↓reduceIte]; first | done | (with_reducible exact rfl) | (with_reducible exact ⟨rfl, rfl⟩))))
      | ((with_reducible apply eR); (simp only [nth_zero, nth_succ]; (with_reducible exact rfl)))
      | ((with_reducible first | refine sEql ?_ ?_ | refine sNeq ?_ ?_ | refine sLss ?_ ?_ | refine sLeq ?_ ?_ | refine sGtr ?_ ?_ | refine sGeq ?_ ?_ | refine sNot ?_ ?_ | refine sPick ?_ ?_ | refine sGd ?_ ?_ | refine eBool ?_ ?_) <;> intro hq <;> try subst hq)
    exact w1i rfl
  · -- 6
    repeat' first
      | (with_reducible first | refine eT ?_ | refine eN ?_ | refine eS ?_ | refine eXn ?_ | refine eXr ?_ | refine eX ?_ | refine eI ?_ | refine eK ?_ | refine eV0 ?_ | refine eGr0 ?_ | refine eGtt ?_ | refine eGff ?_ | refine eGtf ?_ | refine eGft ?_ | refine eGno ?_)
      | ((with_reducible apply eCn); (simp only [nth_zero, nth_succ]; first | done | (with_reducible exact rfl)))
      | ((with_reducible apply eJ); (rfl))
      | ((with_reducible apply eGr1); (first | rfl | (simp only [nth_zero, nth_succ]; rfl)))
      | ((with_reducible apply eB); (first | (with_reducible exact rfl) | (simp (disch := omega) only [qa, putC, AV.cells, storable, buildSt, fillA, buildRo, buildOwn, fillE, Nat.reduceLeDiff, Nat.reduceLT, Nat.reduceAdd, ↓reduceIte]; first | done | (with_reducible exact rfl) | (with_reducible exact ⟨rfl, rfl⟩))))
      | ((with_reducible apply eR); (simp only [nth_zero, nth_succ]; (with_reducible exact rfl)))
      | ((with_reducible first | refine sEql ?_ ?_ | refine sNeq ?_ ?_ | refine sLss ?_ ?_ | refine sLeq ?_ ?_ | refine sGtr ?_ ?_ | refine sGeq ?_ ?_ | refine sNot ?_ ?_ | refine sPick ?_ ?_ | refine sGd ?_ ?_ | refine eBool ?_ ?_) <;> intro hq <;> try subst hq)
    exact w1i rfl
  · -- 7
    repeat' first
      | (with_reducible first | refine eT ?_ | refine eN ?_ | refine eS ?_ | refine eXn ?_ | refine eXr ?_ | refine eX ?_ | refine eI ?_ | refine eK ?_ | refine eV0 ?_ | refine eGr0 ?_ | refine eGtt ?_ | refine eGff ?_ | refine eGtf ?_ | refine eGft ?_ | refine eGno ?_)
      | ((with_reducible apply eCn); (simp only [nth_zero, nth_succ]; first | done | (with_reducible exact rfl)))
      | ((with_reducible apply eJ); (rfl))
      | ((with_reducible apply eGr1); (first | rfl | (simp only [nth_zero, nth_succ]; rfl)))
      | ((with_reducible apply eB); (first | (with_reducible exact rfl) | (simp (disch := omega) only [qa, putC, AV.cells, storable, buildSt, fillA, buildRo, buildOwn, fillE, Nat.reduceLeDiff, Nat.reduceLT, Nat.reduceAdd, ↓reduceIte]; first | done | (with_reducible exact rfl) | (with_reducible exact ⟨rfl, rfl⟩))))
      | ((with_reducible apply eR); (simp only [nth_zero, nth_succ]; (with_reducible exact rfl)))
      | ((with_reducible first | refine sEql ?_ ?_ | refine sNeq ?_ ?_ | refine sLss ?_ ?_ | refine sLeq ?_ ?_ | refine sGtr ?_ ?_ | refine sGeq ?_ ?_ | refine sNot ?_ ?_ | refine sPick ?_ ?_ | refine sGd ?_ ?_ | refine eBool ?_ ?_) <;> intro hq <;> try subst hq)
    exact w1i rfl
  · -- 8
    have s1 := shl_p Tryd.prog 71 true (v := a) (p := 1024) (b := 10) 10 rfl (by decide) rfl (by omega) (by omega)
    repeat' first
      | (with_reducible first | refine eT ?_ | refine eN ?_ | refine eS ?_ | refine eXn ?_ | refine eXr ?_ | refine eX ?_ | refine eI ?_ | refine eK ?_ | refine eV0 ?_ | refine eGr0 ?_ | refine eGtt ?_ | refine eGff ?_ | refine eGtf ?_ | refine eGft ?_ | refine eGno ?_)
      | ((with_reducible apply eCn); (simp only [nth_zero, nth_succ]; first | done | (with_reducible exact rfl)))
      | ((with_reducible apply eJ); (rfl))
      | ((with_reducible apply eGr1); (first | rfl | (simp only [nth_zero, nth_succ]; rfl)))
      | ((with_reducible apply eB); (first | (with_reducible exact rfl) | (simp (disch := omega) only [qf, s1]; first | done | (with_reducible exact rfl) | (with_reducible exact ⟨rfl, rfl⟩)) | (simp (disch := omega) only [qa, putC, AV.cells, storable, buildSt, fillA, buildRo, buildOwn, fillE, Nat.reduceLeDiff, Nat.reduceLT, Nat.reduceAdd, ↓reduceIte, s1]; first | done | (with_reducible exact rfl) | (with_reducible exact ⟨rfl, rfl⟩))))
      | ((with_reducible apply eR); (simp only [nth_zero, nth_succ]; (with_reducible exact rfl)))
      | ((with_reducible first | refine sEql ?_ ?_ | refine sNeq ?_ ?_ | refine sLss ?_ ?_ | refine sLeq ?_ ?_ | refine sGtr ?_ ?_ | refine sGeq ?_ ?_ | refine sNot ?_ ?_ | refine sPick ?_ ?_ | refine sGd ?_ ?_ | refine eBool ?_ ?_) <;> intro hq <;> try subst hq)
    exact w1i rfl
  · -- 9
    repeat' first
      | (with_reducible first | refine eT ?_ | refine eN ?_ | refine eS ?_ | refine eXn ?_ | refine eXr ?_ | refine eX ?_ | refine eI ?_ | refine eK ?_ | refine eV0 ?_ | refine eGr0 ?_ | refine eGtt ?_ | refine eGff ?_ | refine eGtf ?_ | refine eGft ?_ | refine eGno ?_)
      | ((with_reducible apply eCn); (simp only [nth_zero, nth_succ]; first | done | (with_reducible exact rfl)))
      | ((with_reducible apply eJ); (rfl))
      | ((with_reducible apply eGr1); (first | rfl | (simp only [nth_zero, nth_succ]; rfl)))
      | ((with_reducible apply eB); (first | (with_reducible exact rfl) | (simp (disch := omega) only [qa, putC, AV.cells, storable, buildSt, fillA, buildRo, buildOwn, fillE, Nat.reduceLeDiff, Nat.reduceLT, Nat.reduceAdd, ↓reduceIte]; first | done | (with_reducible exact rfl) | (with_reducible exact ⟨rfl, rfl⟩))))
      | ((with_reducible apply eR); (simp only [nth_zero, nth_succ]; (with_reducible exact rfl)))
      | ((with_reducible first | refine sEql ?_ ?_ | refine sNeq ?_ ?_ | refine sLss ?_ ?_ | refine sLeq ?_ ?_ | refine sGtr ?_ ?_ | refine sGeq ?_ ?_ | refine sNot ?_ ?_ | refine sPick ?_ ?_ | refine sGd ?_ ?_ | refine eBool ?_ ?_) <;> intro hq <;> try subst hq)
    exact w1i rfl
  · -- 10
    have s1 := shl_p Tryd.prog 71 true (v := imm) (p := 1024) (b := 10) 10 rfl (by decide) rfl (by omega) (by omega)
    repeat' first
      | (with_reducible first | refine eT ?_ | refine eN ?_ | refine eS ?_ | refine eXn ?_ | refine eXr ?_ | refine eX ?_ | refine eI ?_ | refine eK ?_ | refine eV0 ?_ | refine eGr0 ?_ | refine eGtt ?_ | refine eGff ?_ | refine eGtf ?_ | refine eGft ?_ | refine eGno ?_)
      | ((with_reducible apply eCn); (simp only [nth_zero, nth_succ]; first | done | (with_reducible exact rfl)))
      | ((with_reducible apply eJ); (rfl))
      | ((with_reducible apply eGr1); (first | rfl | (simp only [nth_zero, nth_succ]; rfl)))
      | ((with_reducible apply eB); (first | (with_reducible exact rfl) | (simp (disch := omega) only [qf, s1]; first | done | (with_reducible exact rfl) | (with_reducible exact ⟨rfl, rfl⟩)) | (simp (disch := omega) only [qa, putC, AV.cells, storable, buildSt, fillA, buildRo, buildOwn, fillE, Nat.reduceLeDiff, Nat.reduceLT, Nat.reduceAdd, ↓reduceIte, s1]; first | done | (with_reducible exact rfl) | (with_reducible exact ⟨rfl, rfl⟩))))
      | ((with_reducible apply eR); (simp only [nth_zero, nth_succ]; (with_reducible exact rfl)))
      | ((with_reducible first | refine sEql ?_ ?_ | refine sNeq ?_ ?_ | refine sLss ?_ ?_ | refine sLeq ?_ ?_ | refine sGtr ?_ ?_ | refine sGeq ?_ ?_ | refine sNot ?_ ?_ | refine sPick ?_ ?_ | refine sGd ?_ ?_ | refine eBool ?_ ?_) <;> intro hq <;> try subst hq)
    exact w1i rfl
  · -- 11
    have s1 := shl_p Tryd.prog 71 true (v := imm) (p := 1024) (b := 10) 10 rfl (by decide) rfl (by omega) (by omega)
    repeat' first
      | (with_reducible first | refine eT ?_ | refine eN ?_ | refine eS ?_ | refine eXn ?_ | refine eXr ?_ | refine eX ?_ | refine eI ?_ | refine eK ?_ | refine eV0 ?_ | refine eGr0 ?_ | refine eGtt ?_ | refine eGff ?_ | refine eGtf ?_ | refine eGft ?_ | refine eGno ?_)
      | ((with_reducible apply eCn); (simp only [nth_zero, nth_succ]; first | done | (with_reducible exact rfl)))
      | ((with_reducible apply eJ); (rfl))
      | ((with_reducible apply eGr1); (first | rfl | (simp only [nth_zero, nth_succ]; rfl)))
      | ((with_reducible apply eB); (first | (with_reducible exact rfl) | (simp (disch := omega) only [qf, s1]; first | done | (with_reducible exact rfl) | (with_reducible exact ⟨rfl, rfl⟩)) | (simp (disch := omega) only [qa, putC, AV.cells, storable, buildSt, fillA, buildRo, buildOwn, fillE, Nat.reduceLeDiff, Nat.reduceLT, Nat.reduceAdd, ↓reduceIte, s1]; first | done | (with_reducible exact rfl) | (with_reducible exact ⟨rfl, rfl⟩))))
      | ((with_reducible apply eR); (simp only [nth_zero, nth_succ]; (with_reducible exact rfl)))
      | ((with_reducible first | refine sEql ?_ ?_ | refine sNeq ?_ ?_ | refine sLss ?_ ?_ | refine sLeq ?_ ?_ | refine sGtr ?_ ?_ | refine sGeq ?_ ?_ | refine sNot ?_ ?_ | refine sPick ?_ ?_ | refine sGd ?_ ?_ | refine eBool ?_ ?_) <;> intro hq <;> try subst hq)
    exact w1i rfl
  · -- 12
    have s0 := sub32 Tryd.prog 71 true (a := 64) (b := imm) (by omega) (by omega) (by omega)
    have s1 := rem64 Tryd.prog 71 true (a := 64 - imm) (by omega)
    have s2 := shl_p Tryd.prog 71 true (v := (64 - imm) % 64) (p := 65536) (b := 16) 16 rfl (by decide) rfl (by omega) (by omega)
    have s3 := sub32 Tryd.prog 71 true (a := 63) (b := imm) (by omega) (by omega) (by omega)
    have s4 := shl_p Tryd.prog 71 true (v := 63 - imm) (p := 1024) (b := 10) 10 rfl (by decide) rfl (by omega) (by omega)
    have s5 := or_fd Tryd.prog 71 false (x := (64 - imm) % 64 * 65536) (v := 63 - imm) (p := 1024) (q := 64) 10 6 rfl rfl (by omega) (by omega) (by omega) (by omega) (by omega)
    repeat' first
      | (with_reducible first | refine eT ?_ | refine eN ?_ | refine eS ?_ | refine eXn ?_ | refine eXr ?_ | refine eX ?_ | refine eI ?_ | refine eK ?_ | refine eV0 ?_ | refine eGr0 ?_ | refine eGtt ?_ | refine eGff ?_ | refine eGtf ?_ | refine eGft ?_ | refine eGno ?_)
      | ((with_reducible apply eCn); (simp only [nth_zero, nth_succ]; first | done | (with_reducible exact rfl)))
      | ((with_reducible apply eJ); (rfl))
      | ((with_reducible apply eGr1); (first | rfl | (simp only [nth_zero, nth_succ]; rfl)))
      | ((with_reducible apply eB); (first | (with_reducible exact rfl) | (simp (disch := omega) only [qf, s0, s1, s2, s3, s4, s5]; first | done | (with_reducible exact rfl) | (with_reducible exact ⟨rfl, rfl⟩)) | (simp (disch := omega) only [qa, putC, AV.cells, storable, buildSt, fillA, buildRo, buildOwn, fillE, Nat.reduceLeDiff, Nat.reduceLT, Nat.reduceAdd, ↓reduceIte, s0, s1, s2, s3, s4, s5]; first | done | (with_reducible exact rfl) | (with_reducible exact ⟨rfl, rfl⟩))))
      | ((with_reducible apply eR); (simp only [nth_zero, nth_succ]; (with_reducible exact rfl)))
      | ((with_reducible first | refine sEql ?_ ?_ | refine sNeq ?_ ?_ | refine sLss ?_ ?_ | refine sLeq ?_ ?_ | refine sGtr ?_ ?_ | refine sGeq ?_ ?_ | refine sNot ?_ ?_ | refine sPick ?_ ?_ | refine sGd ?_ ?_ | refine eBool ?_ ?_) <;> intro hq <;> try subst hq)
    exact w1i rfl
  · -- 13
    have s1 := shl_p Tryd.prog 71 true (v := imm) (p := 65536) (b := 16) 16 rfl (by decide) rfl (by omega) (by omega)
    have s2 : bin Tryd.prog .or 71 true (W32 (imm * 65536)) (.int .u32 64512) = some (W32 (imm * 65536 + 64512)) := or_fd Tryd.prog 71 true (x := imm * 65536) (v := 63) (p := 1024) (q := 64) 10 6 rfl rfl (by omega) (by omega) (by omega) (by omega) (by omega)
    repeat' first
      | (with_reducible first | refine eT ?_ | refine eN ?_ | refine eS ?_ | refine eXn ?_ | refine eXr ?_ | refine eX ?_ | refine eI ?_ | refine eK ?_ | refine eV0 ?_ | refine eGr0 ?_ | refine eGtt ?_ | refine eGff ?_ | refine eGtf ?_ | refine eGft ?_ | refine eGno ?_)
      | ((with_reducible apply eCn); (simp only [nth_zero, nth_succ]; first | done | (with_reducible exact rfl)))
      | ((with_reducible apply eJ); (rfl))
      | ((with_reducible apply eGr1); (first | rfl | (simp only [nth_zero, nth_succ]; rfl)))
      | ((with_reducible apply eB); (first | (with_reducible exact rfl) | (simp (disch := omega) only [qf, s1, s2]; first | done | (with_reducible exact rfl) | (with_reducible exact ⟨rfl, rfl⟩)) | (simp (disch := omega) only [qa, putC, AV.cells, storable, buildSt, fillA, buildRo, buildOwn, fillE, Nat.reduceLeDiff, Nat.reduceLT, Nat.reduceAdd, ↓reduceIte, s1, s2]; first | done | (with_reducible exact rfl) | (with_reducible exact ⟨rfl, rfl⟩))))
      | ((with_reducible apply eR); (simp only [nth_zero, nth_succ]; (with_reducible exact rfl)))
      | ((with_reducible first | refine sEql ?_ ?_ | refine sNeq ?_ ?_ | refine sLss ?_ ?_ | refine sLeq ?_ ?_ | refine sGtr ?_ ?_ | refine sGeq ?_ ?_ | refine sNot ?_ ?_ | refine sPick ?_ ?_ | refine sGd ?_ ?_ | refine eBool ?_ ?_) <;> intro hq <;> try subst hq)
    exact w1i rfl
  · -- 14
    have s1 := shl_p Tryd.prog 71 true (v := imm) (p := 65536) (b := 16) 16 rfl (by decide) rfl (by omega) (by omega)
    repeat' first
      | (with_reducible first | refine eT ?_ | refine eN ?_ | refine eS ?_ | refine eXn ?_ | refine eXr ?_ | refine eX ?_ | refine eI ?_ | refine eK ?_ | refine eV0 ?_ | refine eGr0 ?_ | refine eGtt ?_ | refine eGff ?_ | refine eGtf ?_ | refine eGft ?_ | refine eGno ?_)
      | ((with_reducible apply eCn); (simp only [nth_zero, nth_succ]; first | done | (with_reducible exact rfl)))
      | ((with_reducible apply eJ); (rfl))
      | ((with_reducible apply eGr1); (first | rfl | (simp only [nth_zero, nth_succ]; rfl)))
      | ((with_reducible apply eB); (first | (with_reducible exact rfl) | (simp (disch := omega) only [qf, s1]; first | done | (with_reducible exact rfl) | (with_reducible exact ⟨rfl, rfl⟩)) | (simp (disch := omega) only [qa, putC, AV.cells, storable, buildSt, fillA, buildRo, buildOwn, fillE, Nat.reduceLeDiff, Nat.reduceLT, Nat.reduceAdd, ↓reduceIte, s1]; first | done | (with_reducible exact rfl) | (with_reducible exact ⟨rfl, rfl⟩))))
      | ((with_reducible apply eR); (simp only [nth_zero, nth_succ]; (with_reducible exact rfl)))
      | ((with_reducible first | refine sEql ?_ ?_ | refine sNeq ?_ ?_ | refine sLss ?_ ?_ | refine sLeq ?_ ?_ | refine sGtr ?_ ?_ | refine sGeq ?_ ?_ | refine sNot ?_ ?_ | refine sPick ?_ ?_ | refine sGd ?_ ?_ | refine eBool ?_ ?_) <;> intro hq <;> try subst hq)
    exact w1i rfl
  · -- 15
    repeat' first
      | (with_reducible first | refine eT ?_ | refine eN ?_ | refine eS ?_ | refine eXn ?_ | refine eXr ?_ | refine eX ?_ | refine eI ?_ | refine eK ?_ | refine eV0 ?_ | refine eGr0 ?_ | refine eGtt ?_ | refine eGff ?_ | refine eGtf ?_ | refine eGft ?_ | refine eGno ?_)
      | ((with_reducible apply eCn); (simp only [nth_zero, nth_succ]; first | done | (with_reducible exact rfl)))
      | ((with_reducible apply eJ); (rfl))
      | ((with_reducible apply eGr1); (first | rfl | (simp only [nth_zero, nth_succ]; rfl)))
      | ((with_reducible apply eB); (first | (with_reducible exact rfl) | (simp (disch := omega) only [qa, putC, AV.cells, storable, buildSt, fillA, buildRo, buildOwn, fillE, Nat.reduceLeDiff, Nat.reduceLT, Nat.reduceAdd, ↓reduceIte]; first | done | (with_reducible exact rfl) | (with_reducible exact ⟨rfl, rfl⟩))))
      | ((with_reducible apply eR); (simp only [nth_zero, nth_succ]; (with_reducible exact rfl)))
      | ((with_reducible first | refine sEql ?_ ?_ | refine sNeq ?_ ?_ | refine sLss ?_ ?_ | refine sLeq ?_ ?_ | refine sGtr ?_ ?_ | refine sGeq ?_ ?_ | refine sNot ?_ ?_ | refine sPick ?_ ?_ | refine sGd ?_ ?_ | refine eBool ?_ ?_) <;> intro hq <;> try subst hq)
    exact w1i rfl
  · -- 16
    have s1 := shl_p Tryd.prog 71 true (v := a) (p := 4096) (b := 12) 12 rfl (by decide) rfl (by omega) (by omega)
    repeat' first
      | (with_reducible first | refine eT ?_ | refine eN ?_ | refine eS ?_ | refine eXn ?_ | refine eXr ?_ | refine eX ?_ | refine eI ?_ | refine eK ?_ | refine eV0 ?_ | refine eGr0 ?_ | refine eGtt ?_ | refine eGff ?_ | refine eGtf ?_ | refine eGft ?_ | refine eGno ?_)
      | ((with_reducible apply eCn); (simp only [nth_zero, nth_succ]; first | done | (with_reducible exact rfl)))
      | ((with_reducible apply eJ); (rfl))
      | ((with_reducible apply eGr1); (first | rfl | (simp only [nth_zero, nth_succ]; rfl)))
      | ((with_reducible apply eB); (first | (with_reducible exact rfl) | (simp (disch := omega) only [qf, s1]; first | done | (with_reducible exact rfl) | (with_reducible exact ⟨rfl, rfl⟩)) | (simp (disch := omega) only [qa, putC, AV.cells, storable, buildSt, fillA, buildRo, buildOwn, fillE, Nat.reduceLeDiff, Nat.reduceLT, Nat.reduceAdd, ↓reduceIte, s1]; first | done | (with_reducible exact rfl) | (with_reducible exact ⟨rfl, rfl⟩))))
      | ((with_reducible apply eR); (simp only [nth_zero, nth_succ]; (with_reducible exact rfl)))
      | ((with_reducible first | refine sEql ?_ ?_ | refine sNeq ?_ ?_ | refine sLss ?_ ?_ | refine sLeq ?_ ?_ | refine sGtr ?_ ?_ | refine sGeq ?_ ?_ | refine sNot ?_ ?_ | refine sPick ?_ ?_ | refine sGd ?_ ?_ | refine eBool ?_ ?_) <;> intro hq <;> try subst hq)
    exact w1i rfl
  · -- 17
    have s0 := xor1 Tryd.prog 71 true (a := a) (by omega) (by omega)
    have s1 := shl_p Tryd.prog 71 true (v := (if a % 2 = 0 then a + 1 else a - 1)) (p := 4096) (b := 12) 12 rfl (by decide) rfl (by split <;> omega) (by split <;> omega)
    repeat' first
      | (with_reducible first | refine eT ?_ | refine eN ?_ | refine eS ?_ | refine eXn ?_ | refine eXr ?_ | refine eX ?_ | refine eI ?_ | refine eK ?_ | refine eV0 ?_ | refine eGr0 ?_ | refine eGtt ?_ | refine eGff ?_ | refine eGtf ?_ | refine eGft ?_ | refine eGno ?_)
      | ((with_reducible apply eCn); (simp only [nth_zero, nth_succ]; first | done | (with_reducible exact rfl)))
      | ((with_reducible apply eJ); (rfl))
      | ((with_reducible apply eGr1); (first | rfl | (simp only [nth_zero, nth_succ]; rfl)))
      | ((with_reducible apply eB); (first | (with_reducible exact rfl) | (simp (disch := omega) only [qf, s0, s1]; first | done | (with_reducible exact rfl) | (with_reducible exact ⟨rfl, rfl⟩)) | (simp (disch := omega) only [qa, putC, AV.cells, storable, buildSt, fillA, buildRo, buildOwn, fillE, Nat.reduceLeDiff, Nat.reduceLT, Nat.reduceAdd, ↓reduceIte, s0, s1]; first | done | (with_reducible exact rfl) | (with_reducible exact ⟨rfl, rfl⟩))))
      | ((with_reducible apply eR); (simp only [nth_zero, nth_succ]; (with_reducible exact rfl)))
      | ((with_reducible first | refine sEql ?_ ?_ | refine sNeq ?_ ?_ | refine sLss ?_ ?_ | refine sLeq ?_ ?_ | refine sGtr ?_ ?_ | refine sGeq ?_ ?_ | refine sNot ?_ ?_ | refine sPick ?_ ?_ | refine sGd ?_ ?_ | refine eBool ?_ ?_) <;> intro hq <;> try subst hq)
    exact w1i rfl
  · -- 18
    have s1 := shl_p Tryd.prog 71 true (v := imm) (p := 1024) (b := 10) 10 rfl (by decide) rfl (by omega) (by omega)
    repeat' first
      | (with_reducible first | refine eT ?_ | refine eN ?_ | refine eS ?_ | refine eXn ?_ | refine eXr ?_ | refine eX ?_ | refine eI ?_ | refine eK ?_ | refine eV0 ?_ | refine eGr0 ?_ | refine eGtt ?_ | refine eGff ?_ | refine eGtf ?_ | refine eGft ?_ | refine eGno ?_)
      | ((with_reducible apply eCn); (simp only [nth_zero, nth_succ]; first | done | (with_reducible exact rfl)))
      | ((with_reducible apply eJ); (rfl))
      | ((with_reducible apply eGr1); (first | rfl | (simp only [nth_zero, nth_succ]; rfl)))
      | ((with_reducible apply eB); (first | (with_reducible exact rfl) | (simp (disch := omega) only [qf, s1]; first | done | (with_reducible exact rfl) | (with_reducible exact ⟨rfl, rfl⟩)) | (simp (disch := omega) only [qa, putC, AV.cells, storable, buildSt, fillA, buildRo, buildOwn, fillE, Nat.reduceLeDiff, Nat.reduceLT, Nat.reduceAdd, ↓reduceIte, s1]; first | done | (with_reducible exact rfl) | (with_reducible exact ⟨rfl, rfl⟩))))
      | ((with_reducible apply eR); (simp only [nth_zero, nth_succ]; (with_reducible exact rfl)))
      | ((with_reducible first | refine sEql ?_ ?_ | refine sNeq ?_ ?_ | refine sLss ?_ ?_ | refine sLeq ?_ ?_ | refine sGtr ?_ ?_ | refine sGeq ?_ ?_ | refine sNot ?_ ?_ | refine sPick ?_ ?_ | refine sGd ?_ ?_ | refine eBool ?_ ?_) <;> intro hq <;> try subst hq)
    exact w1i rfl
  · -- 19
    have s1 := shl_p Tryd.prog 71 true (v := imm) (p := 1024) (b := 10) 10 rfl (by decide) rfl (by omega) (by omega)
    repeat' first
      | (with_reducible first | refine eT ?_ | refine eN ?_ | refine eS ?_ | refine eXn ?_ | refine eXr ?_ | refine eX ?_ | refine eI ?_ | refine eK ?_ | refine eV0 ?_ | refine eGr0 ?_ | refine eGtt ?_ | refine eGff ?_ | refine eGtf ?_ | refine eGft ?_ | refine eGno ?_)
      | ((with_reducible apply eCn); (simp only [nth_zero, nth_succ]; first | done | (with_reducible exact rfl)))
      | ((with_reducible apply eJ); (rfl))
      | ((with_reducible apply eGr1); (first | rfl | (simp only [nth_zero, nth_succ]; rfl)))
      | ((with_reducible apply eB); (first | (with_reducible exact rfl) | (simp (disch := omega) only [qf, s1]; first | done | (with_reducible exact rfl) | (with_reducible exact ⟨rfl, rfl⟩)) | (simp (disch := omega) only [qa, putC, AV.cells, storable, buildSt, fillA, buildRo, buildOwn, fillE, Nat.reduceLeDiff, Nat.reduceLT, Nat.reduceAdd, ↓reduceIte, s1]; first | done | (with_reducible exact rfl) | (with_reducible exact ⟨rfl, rfl⟩))))
      | ((with_reducible apply eR); (simp only [nth_zero, nth_succ]; (with_reducible exact rfl)))
      | ((with_reducible first | refine sEql ?_ ?_ | refine sNeq ?_ ?_ | refine sLss ?_ ?_ | refine sLeq ?_ ?_ | refine sGtr ?_ ?_ | refine sGeq ?_ ?_ | refine sNot ?_ ?_ | refine sPick ?_ ?_ | refine sGd ?_ ?_ | refine eBool ?_ ?_) <;> intro hq <;> try subst hq)
    exact w1i rfl
  · -- 20
    have s1 : bin Tryd.prog .and 71 true (W32 (imm % 4294967296)) (.int .u32 67108863) = some (W32 (imm % 67108864)) := by
      have := and_low Tryd.prog 71 true (x := imm % 4294967296) (q := 67108863) 26 (by decide) rfl (by omega) (by omega)
      rw [this]; congr 2; omega
    repeat' first
      | (with_reducible first | refine eT ?_ | refine eN ?_ | refine eS ?_ | refine eXn ?_ | refine eXr ?_ | refine eX ?_ | refine eI ?_ | refine eK ?_ | refine eV0 ?_ | refine eGr0 ?_ | refine eGtt ?_ | refine eGff ?_ | refine eGtf ?_ | refine eGft ?_ | refine eGno ?_)
      | ((with_reducible apply eCn); (simp only [nth_zero, nth_succ]; first | done | (with_reducible exact rfl)))
      | ((with_reducible apply eJ); (rfl))
      | ((with_reducible apply eGr1); (first | rfl | (simp only [nth_zero, nth_succ]; rfl)))
      | ((with_reducible apply eB); (first | (with_reducible exact rfl) | (simp (disch := omega) only [qf, cvM, s1]; first | done | (with_reducible exact rfl) | (with_reducible exact ⟨rfl, rfl⟩)) | (simp (disch := omega) only [qa, putC, AV.cells, storable, buildSt, fillA, buildRo, buildOwn, fillE, Nat.reduceLeDiff, Nat.reduceLT, Nat.reduceAdd, ↓reduceIte, cvM, s1]; first | done | (with_reducible exact rfl) | (with_reducible exact ⟨rfl, rfl⟩))))
      | ((with_reducible apply eR); (simp only [nth_zero, nth_succ]; (with_reducible exact rfl)))
      | ((with_reducible first | refine sEql ?_ ?_ | refine sNeq ?_ ?_ | refine sLss ?_ ?_ | refine sLeq ?_ ?_ | refine sGtr ?_ ?_ | refine sGeq ?_ ?_ | refine sNot ?_ ?_ | refine sPick ?_ ?_ | refine sGd ?_ ?_ | refine eBool ?_ ?_) <;> intro hq <;> try subst hq)
    exact w1i rfl
  · -- 21
    have s1 : bin Tryd.prog .and 71 true (W32 (imm % 4294967296)) (.int .u32 524287) = some (W32 (imm % 524288)) := by
      have := and_low Tryd.prog 71 true (x := imm % 4294967296) (q := 524287) 19 (by decide) rfl (by omega) (by omega)
      rw [this]; congr 2; omega
    have s2 := shl_p Tryd.prog 71 true (v := imm % 524288) (p := 32) (b := 5) 5 rfl (by decide) rfl (by omega) (by omega)
    have s3 := or_fd Tryd.prog 71 false (x := a) (v := imm % 524288) (p := 32) (q := 524288) 5 19 rfl rfl (by omega) (by omega) (by omega) (by omega) (by omega)
    have s4 : convInt .u32 (I6 a) = some (W32 a) := q_cv32 (by omega) (by omega)
    repeat' first
      | (with_reducible first | refine eT ?_ | refine eN ?_ | refine eS ?_ | refine eXn ?_ | refine eXr ?_ | refine eX ?_ | refine eI ?_ | refine eK ?_ | refine eV0 ?_ | refine eGr0 ?_ | refine eGtt ?_ | refine eGff ?_ | refine eGtf ?_ | refine eGft ?_ | refine eGno ?_)
      | ((with_reducible apply eCn); (simp only [nth_zero, nth_succ]; first | done | (with_reducible exact rfl)))
      | ((with_reducible apply eJ); (rfl))
      | ((with_reducible apply eGr1); (first | rfl | (simp only [nth_zero, nth_succ]; rfl)))
      | ((with_reducible apply eB); (first | (with_reducible exact rfl) | (simp (disch := omega) only [qf, s4, cvM, s1, s2, s3]; first | done | (with_reducible exact rfl) | (with_reducible exact ⟨rfl, rfl⟩)) | (simp (disch := omega) only [qa, putC, AV.cells, storable, buildSt, fillA, buildRo, buildOwn, fillE, Nat.reduceLeDiff, Nat.reduceLT, Nat.reduceAdd, ↓reduceIte, s4, cvM, s1, s2, s3]; first | done | (with_reducible exact rfl) | (with_reducible exact ⟨rfl, rfl⟩))))
      | ((with_reducible apply eR); (simp only [nth_zero, nth_succ]; (with_reducible exact rfl)))
      | ((with_reducible first | refine sEql ?_ ?_ | refine sNeq ?_ ?_ | refine sLss ?_ ?_ | refine sLeq ?_ ?_ | refine sGtr ?_ ?_ | refine sGeq ?_ ?_ | refine sNot ?_ ?_ | refine sPick ?_ ?_ | refine sGd ?_ ?_ | refine eBool ?_ ?_) <;> intro hq <;> try subst hq)
    exact w1i rfl
  · -- 22
    have s1 : bin Tryd.prog .and 71 true (W32 (imm % 4294967296)) (.int .u32 524287) = some (W32 (imm % 524288)) := by
      have := and_low Tryd.prog 71 true (x := imm % 4294967296) (q := 524287) 19 (by decide) rfl (by omega) (by omega)
      rw [this]; congr 2; omega
    have s2 := shl_p Tryd.prog 71 true (v := imm % 524288) (p := 32) (b := 5) 5 rfl (by decide) rfl (by omega) (by omega)
    have s3 : bin Tryd.prog .or 71 false (.int .u32 0) (W32 (imm % 524288 * 32)) = some (W32 (0 + imm % 524288 * 32)) := or_fd Tryd.prog 71 false (x := 0) (v := imm % 524288) (p := 32) (q := 524288) 5 19 rfl rfl (by omega) (by omega) (by omega) (by omega) (by omega)
    have s4 : convInt .u32 (I6 a) = some (.int .u32 0) := by rw [show a = 0 by omega]; rfl
    repeat' first
      | (with_reducible first | refine eT ?_ | refine eN ?_ | refine eS ?_ | refine eXn ?_ | refine eXr ?_ | refine eX ?_ | refine eI ?_ | refine eK ?_ | refine eV0 ?_ | refine eGr0 ?_ | refine eGtt ?_ | refine eGff ?_ | refine eGtf ?_ | refine eGft ?_ | refine eGno ?_)
      | ((with_reducible apply eCn); (simp only [nth_zero, nth_succ]; first | done | (with_reducible exact rfl)))
      | ((with_reducible apply eJ); (rfl))
      | ((with_reducible apply eGr1); (first | rfl | (simp only [nth_zero, nth_succ]; rfl)))
      | ((with_reducible apply eB); (first | (with_reducible exact rfl) | (simp (disch := omega) only [qf, s4, cvM, s1, s2, s3]; first | done | (with_reducible exact rfl) | (with_reducible exact ⟨rfl, rfl⟩)) | (simp (disch := omega) only [qa, putC, AV.cells, storable, buildSt, fillA, buildRo, buildOwn, fillE, Nat.reduceLeDiff, Nat.reduceLT, Nat.reduceAdd, ↓reduceIte, s4, cvM, s1, s2, s3]; first | done | (with_reducible exact rfl) | (with_reducible exact ⟨rfl, rfl⟩))))
      | ((with_reducible apply eR); (simp only [nth_zero, nth_succ]; (with_reducible exact rfl)))
      | ((with_reducible first | refine sEql ?_ ?_ | refine sNeq ?_ ?_ | refine sLss ?_ ?_ | refine sLeq ?_ ?_ | refine sGtr ?_ ?_ | refine sGeq ?_ ?_ | refine sNot ?_ ?_ | refine sPick ?_ ?_ | refine sGd ?_ ?_ | refine eBool ?_ ?_) <;> intro hq <;> try subst hq)
    exact w1i (Int.zero_add _)
  · -- 23
    have s1 : bin Tryd.prog .and 71 true (W32 (imm % 4294967296)) (.int .u32 524287) = some (W32 (imm % 524288)) := by
      have := and_low Tryd.prog 71 true (x := imm % 4294967296) (q := 524287) 19 (by decide) rfl (by omega) (by omega)
      rw [this]; congr 2; omega
    have s2 := shl_p Tryd.prog 71 true (v := imm % 524288) (p := 32) (b := 5) 5 rfl (by decide) rfl (by omega) (by omega)
    have s3 : bin Tryd.prog .or 71 false (.int .u32 0) (W32 (imm % 524288 * 32)) = some (W32 (0 + imm % 524288 * 32)) := or_fd Tryd.prog 71 false (x := 0) (v := imm % 524288) (p := 32) (q := 524288) 5 19 rfl rfl (by omega) (by omega) (by omega) (by omega) (by omega)
    have s4 : convInt .u32 (I6 a) = some (.int .u32 0) := by rw [show a = 0 by omega]; rfl
    repeat' first
      | (with_reducible first | refine eT ?_ | refine eN ?_ | refine eS ?_ | refine eXn ?_ | refine eXr ?_ | refine eX ?_ | refine eI ?_ | refine eK ?_ | refine eV0 ?_ | refine eGr0 ?_ | refine eGtt ?_ | refine eGff ?_ | refine eGtf ?_ | refine eGft ?_ | refine eGno ?_)
      | ((with_reducible apply eCn); (simp only [nth_zero, nth_succ]; first | done | (with_reducible exact rfl)))
      | ((with_reducible apply eJ); (rfl))
      | ((with_reducible apply eGr1); (first | rfl | (simp only [nth_zero, nth_succ]; rfl)))
      | ((with_reducible apply eB); (first | (with_reducible exact rfl) | (simp (disch := omega) only [qf, s4, cvM, s1, s2, s3]; first | done | (with_reducible exact rfl) | (with_reducible exact ⟨rfl, rfl⟩)) | (simp (disch := omega) only [qa, putC, AV.cells, storable, buildSt, fillA, buildRo, buildOwn, fillE, Nat.reduceLeDiff, Nat.reduceLT, Nat.reduceAdd, ↓reduceIte, s4, cvM, s1, s2, s3]; first | done | (with_reducible exact rfl) | (with_reducible exact ⟨rfl, rfl⟩))))
      | ((with_reducible apply eR); (simp only [nth_zero, nth_succ]; (with_reducible exact rfl)))
      | ((with_reducible first | refine sEql ?_ ?_ | refine sNeq ?_ ?_ | refine sLss ?_ ?_ | refine sLeq ?_ ?_ | refine sGtr ?_ ?_ | refine sGeq ?_ ?_ | refine sNot ?_ ?_ | refine sPick ?_ ?_ | refine sGd ?_ ?_ | refine eBool ?_ ?_) <;> intro hq <;> try subst hq)
    exact w1i (Int.zero_add _)
  · -- 24
    have s1 := shl_p Tryd.prog 71 true (v := imm) (p := 32) (b := 5) 5 rfl (by decide) rfl (by omega) (by omega)
    repeat' first
      | (with_reducible first | refine eT ?_ | refine eN ?_ | refine eS ?_ | refine eXn ?_ | refine eXr ?_ | refine eX ?_ | refine eI ?_ | refine eK ?_ | refine eV0 ?_ | refine eGr0 ?_ | refine eGtt ?_ | refine eGff ?_ | refine eGtf ?_ | refine eGft ?_ | refine eGno ?_)
      | ((with_reducible apply eCn); (simp only [nth_zero, nth_succ]; first | done | (with_reducible exact rfl)))
      | ((with_reducible apply eJ); (rfl))
      | ((with_reducible apply eGr1); (first | rfl | (simp only [nth_zero, nth_succ]; rfl)))
      | ((with_reducible apply eB); (first | (with_reducible exact rfl) | (simp (disch := omega) only [qf, s1]; first | done | (with_reducible exact rfl) | (with_reducible exact ⟨rfl, rfl⟩)) | (simp (disch := omega) only [qa, putC, AV.cells, storable, buildSt, fillA, buildRo, buildOwn, fillE, Nat.reduceLeDiff, Nat.reduceLT, Nat.reduceAdd, ↓reduceIte, s1]; first | done | (with_reducible exact rfl) | (with_reducible exact ⟨rfl, rfl⟩))))
      | ((with_reducible apply eR); (simp only [nth_zero, nth_succ]; (with_reducible exact rfl)))
      | ((with_reducible first | refine sEql ?_ ?_ | refine sNeq ?_ ?_ | refine sLss ?_ ?_ | refine sLeq ?_ ?_ | refine sGtr ?_ ?_ | refine sGeq ?_ ?_ | refine sNot ?_ ?_ | refine sPick ?_ ?_ | refine sGd ?_ ?_ | refine eBool ?_ ?_) <;> intro hq <;> try subst hq)
    exact w1i rfl
end Go.Proofs.YtdfglgnflldkpaaDoor.Mir
