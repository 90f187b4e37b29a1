/- What isa.Word gives of instructions that may be. -/
import Derived.Test.YtofhkjacpjfclaaMirZ
import Derived.Test.YtofhkjacpjfclaaIsFun
import Derived.Laws.BitsAllLaws
import Derived.KernelRfl
namespace Go.Proofs.Ytofhkjacpjfclaa.Mir
open Go
set_option linter.unusedVariables false
set_option linter.unusedSimpArgs false

abbrev I (n : Int) : AV := .int .i64 n
abbrev W32 (n : Nat) : AV := .int .u32 (n : Int)
abbrev Ins (o d n m a i : Int) : AV := .agg [I o, I d, I n, I m, I a, I i]
abbrev IForm (nm : ByteArray) (w : Nat) (d n m a : Bool) (bt : Int) : AV := .agg [.str nm, W32 w, .bool d, .bool n, .bool m, .bool a, I bt]

theorem reg_true (G : Globs) (k : Nat) (r : Int) (is : Bool) (h1 : 0 ≤ r) (h2 : r ≤ 31) (h3 : is = false → r = 0) : isa_register.f G (k + 5) [I r, .bool is] [] = some (.bool true, []) := by
  have c1 : bin Try.prog .eql 3 true (I r) (.int .i64 0) = some (.bool (decide (r = 0))) := bin_eql ..
  have c2 : bin Try.prog .gtr 3 true (I r) (.int .i64 0) = some (.bool (decide (0 < r))) := bin_gtr ..
  have c3 : bin Try.prog .leq 3 true (I r) (.int .i64 31) = some (.bool (decide (r ≤ 31))) := bin_leq ..
  rw [isa_register.step]
  unfold isa_register.c
  by_cases h : r = 0
  · simp only [decide_eq_true h] at c1
    repeat first
      | refine oB (by first | (with_reducible exact rfl) | (simp only [pu_val, nth_zero, nth_succ, gd_tt, gd_ff, gd_tf, gd_ft, gd_no, pickA_true, pickA_false, un_not, c1]; first | done | (with_reducible exact rfl) | (with_reducible exact ⟨rfl, rfl⟩))) ?_
      | refine lB (by first | (with_reducible exact rfl) | (simp only [pu_val, nth_zero, nth_succ, gd_tt, gd_ff, gd_tf, gd_ft, gd_no, pickA_true, pickA_false, un_not, c1]; first | done | (with_reducible exact rfl) | (with_reducible exact ⟨rfl, rfl⟩))) ?_
      | refine oT ?_
      | refine oN ?_
      | refine oX ?_
      | refine oXn ?_
      | refine oXr ?_
      | exact oF (finV_bool ..)
      | apply oK
      | refine lT ?_
      | refine lN ?_
      | refine lX ?_
      | refine lXn ?_
      | refine lXr ?_
      | apply lK
      | refine oI ?_
      | refine oJ rfl ?_
      | refine lI ?_
      | refine lJ rfl ?_
      | (with_reducible exact rfl)
  · simp only [decide_eq_false h] at c1
    have : is = true := by cases is <;> simp_all
    subst this
    simp only [decide_eq_true (show 0 < r by omega)] at c2
    simp only [decide_eq_true h2] at c3
    repeat first
      | refine oB (by first | (with_reducible exact rfl) | (simp only [pu_val, nth_zero, nth_succ, gd_tt, gd_ff, gd_tf, gd_ft, gd_no, pickA_true, pickA_false, un_not, c1, c2, c3]; first | done | (with_reducible exact rfl) | (with_reducible exact ⟨rfl, rfl⟩))) ?_
      | refine lB (by first | (with_reducible exact rfl) | (simp only [pu_val, nth_zero, nth_succ, gd_tt, gd_ff, gd_tf, gd_ft, gd_no, pickA_true, pickA_false, un_not, c1, c2, c3]; first | done | (with_reducible exact rfl) | (with_reducible exact ⟨rfl, rfl⟩))) ?_
      | refine oT ?_
      | refine oN ?_
      | refine oX ?_
      | refine oXn ?_
      | refine oXr ?_
      | exact oF (finV_bool ..)
      | apply oK
      | refine lT ?_
      | refine lN ?_
      | refine lX ?_
      | refine lXn ?_
      | refine lXr ?_
      | apply lK
      | refine oI ?_
      | refine oJ rfl ?_
      | refine lI ?_
      | refine lJ rfl ?_
      | (with_reducible exact rfl)

theorem fair_true (G : Globs) (k : Nat) (o D N M A i : Int) (nm : ByteArray) (w : Nat) (d n m a : Bool) (bt : Int) (hD : 0 ≤ D ∧ D ≤ 31 ∧ (d = false → D = 0)) (hN : 0 ≤ N ∧ N ≤ 31 ∧ (n = false → N = 0)) (hM : 0 ≤ M ∧ M ≤ 31 ∧ (m = false → M = 0))
    (hx : a = true → isa_extra.f G (k + 9) [Ins o D N M A i] [] = some (.bool true, [])) (hA : a = false → A = 0)
    (hi : isa_imm.f G (k + 9) [Ins o D N M A i, I bt] [] = some (.bool true, [])) (hs : isa_stack.f G (k + 9) [Ins o D N M A i] [] = some (.bool false, [])) :
    isa_fair.f G (k + 10) [Ins o D N M A i, IForm nm w d n m a bt] [] = some (.bool true, []) := by
  have r1 : ∀ H, pureCall (isa_register.f G (k + 9)) [I D, .bool d] H = _ := fun H => pureCall_of (H := H) (reg_true G (k + 4) D d hD.1 hD.2.1 hD.2.2) rfl rfl
  have r2 : ∀ H, pureCall (isa_register.f G (k + 9)) [I N, .bool n] H = _ := fun H => pureCall_of (H := H) (reg_true G (k + 4) N n hN.1 hN.2.1 hN.2.2) rfl rfl
  have r3 : ∀ H, pureCall (isa_register.f G (k + 9)) [I M, .bool m] H = _ := fun H => pureCall_of (H := H) (reg_true G (k + 4) M m hM.1 hM.2.1 hM.2.2) rfl rfl
  have r4 : ∀ H, pureCall (isa_imm.f G (k + 9)) [Ins o D N M A i, I bt] H = _ := fun H => pureCall_of (H := H) hi rfl rfl
  have r5 : ∀ H, pureCall (isa_stack.f G (k + 9)) [Ins o D N M A i] H = _ := fun H => pureCall_of (H := H) hs rfl rfl
  rw [isa_fair.step]
  unfold isa_fair.c
  cases a
  · have := hA rfl
    subst this
    have c1 : bin Try.prog .neq 3 true (.int .i64 0) (.int .i64 0) = some (.bool false) := rfl
    repeat first
      | refine oB (by first | (with_reducible exact rfl) | ((first | (simp only [pu_val, nth_zero, nth_succ, gd_tt, gd_ff, gd_tf, gd_ft, gd_no, pickA_true, pickA_false, un_not, r1, r2, r3, r4, r5, c1, Bool.not_true, Bool.not_false]; first | done | (with_reducible exact rfl) | (with_reducible exact ⟨rfl, rfl⟩)) | simp [pu_val, boxRoA, boxA, fieldAddrV, loadV, loadC, storable, AV.cells, extractA, buildRo, buildOwn, fillE, buildSt, fillA, stS, storeV, recell, putC, lenSl, lenStr, idxAddrSl, idxAddrArr, allSome]); first | done | (with_reducible exact rfl) | (with_reducible exact ⟨rfl, rfl⟩))) ?_
      | refine lB (by first | (with_reducible exact rfl) | ((first | (simp only [pu_val, nth_zero, nth_succ, gd_tt, gd_ff, gd_tf, gd_ft, gd_no, pickA_true, pickA_false, un_not, r1, r2, r3, r4, r5, c1, Bool.not_true, Bool.not_false]; first | done | (with_reducible exact rfl) | (with_reducible exact ⟨rfl, rfl⟩)) | simp [pu_val, boxRoA, boxA, fieldAddrV, loadV, loadC, storable, AV.cells, extractA, buildRo, buildOwn, fillE, buildSt, fillA, stS, storeV, recell, putC, lenSl, lenStr, idxAddrSl, idxAddrArr, allSome]); first | done | (with_reducible exact rfl) | (with_reducible exact ⟨rfl, rfl⟩))) ?_
      | refine oT ?_
      | refine oN ?_
      | refine oX ?_
      | refine oXn ?_
      | refine oXr ?_
      | exact oF (finV_bool ..)
      | apply oK
      | refine lT ?_
      | refine lN ?_
      | refine lX ?_
      | refine lXn ?_
      | refine lXr ?_
      | apply lK
      | refine oI ?_
      | refine oJ rfl ?_
      | refine lI ?_
      | refine lJ rfl ?_
      | (with_reducible exact rfl)
  · have r6 : ∀ H, pureCall (isa_extra.f G (k + 9)) [Ins o D N M A i] H = _ := fun H => pureCall_of (H := H) (hx rfl) rfl rfl
    repeat first
      | refine oB (by first | (with_reducible exact rfl) | ((first | (simp only [pu_val, nth_zero, nth_succ, gd_tt, gd_ff, gd_tf, gd_ft, gd_no, pickA_true, pickA_false, un_not, r1, r2, r3, r4, r5, r6, Bool.not_true, Bool.not_false]; first | done | (with_reducible exact rfl) | (with_reducible exact ⟨rfl, rfl⟩)) | simp [pu_val, boxRoA, boxA, fieldAddrV, loadV, loadC, storable, AV.cells, extractA, buildRo, buildOwn, fillE, buildSt, fillA, stS, storeV, recell, putC, lenSl, lenStr, idxAddrSl, idxAddrArr, allSome]); first | done | (with_reducible exact rfl) | (with_reducible exact ⟨rfl, rfl⟩))) ?_
      | refine lB (by first | (with_reducible exact rfl) | ((first | (simp only [pu_val, nth_zero, nth_succ, gd_tt, gd_ff, gd_tf, gd_ft, gd_no, pickA_true, pickA_false, un_not, r1, r2, r3, r4, r5, r6, Bool.not_true, Bool.not_false]; first | done | (with_reducible exact rfl) | (with_reducible exact ⟨rfl, rfl⟩)) | simp [pu_val, boxRoA, boxA, fieldAddrV, loadV, loadC, storable, AV.cells, extractA, buildRo, buildOwn, fillE, buildSt, fillA, stS, storeV, recell, putC, lenSl, lenStr, idxAddrSl, idxAddrArr, allSome]); first | done | (with_reducible exact rfl) | (with_reducible exact ⟨rfl, rfl⟩))) ?_
      | refine oT ?_
      | refine oN ?_
      | refine oX ?_
      | refine oXn ?_
      | refine oXr ?_
      | exact oF (finV_bool ..)
      | apply oK
      | refine lT ?_
      | refine lN ?_
      | refine lX ?_
      | refine lXn ?_
      | refine lXr ?_
      | apply lK
      | refine oI ?_
      | refine oJ rfl ?_
      | refine lI ?_
      | refine lJ rfl ?_
      | (with_reducible exact rfl)

theorem conv32 (x : Int) (h : 0 ≤ x ∧ x ≤ 31) : convInt .u32 (I x) = some (W32 x.toNat) := by
  rw [convInt_int, wrap_of_u32 (by omega) (by omega)]; congr 2; omega
theorem or32 (c : Bool) (a b : Nat) (h1 : a < 2 ^ 32) (h2 : b < 2 ^ 32) : bin Try.prog .or 27 c (W32 a) (W32 b) = some (W32 (a ||| b)) := by
  rw [bin_or, u32_or_nat _ _ (by omega) (by omega)]
theorem xor32 (c : Bool) (a b : Nat) (h1 : a < 2 ^ 32) (h2 : b < 2 ^ 32) : bin Try.prog .xor 27 c (W32 a) (W32 b) = some (W32 (a ^^^ b)) := by
  rw [bin_xor, u32_xor_nat _ _ (by omega) (by omega)]
theorem shl5 (x : Nat) (h : x ≤ 31) : bin Try.prog .shl 27 true (W32 x) (.int .u64 5) = some (W32 (x * 32)) := by
  rw [bin_shl _ _ _ _ _ _ _ (by decide)]
  have e : (min (5 : Int).toNat IntKind.u32.bits) = 5 := rfl
  rw [e, wrap_of_u32 (by omega) (by omega)]; congr 2
theorem shl16 (x : Nat) (h : x ≤ 31) : bin Try.prog .shl 27 true (W32 x) (.int .u64 16) = some (W32 (x * 65536)) := by
  rw [bin_shl _ _ _ _ _ _ _ (by decide)]
  have e : (min (16 : Int).toNat IntKind.u32.bits) = 16 := rfl
  rw [e, wrap_of_u32 (by omega) (by omega)]; congr 2
theorem shl10 (x : Nat) (h : x ≤ 31) : bin Try.prog .shl 27 true (W32 x) (.int .u64 10) = some (W32 (x * 1024)) := by
  rw [bin_shl _ _ _ _ _ _ _ (by decide)]
  have e : (min (10 : Int).toNat IntKind.u32.bits) = 10 := rfl
  rw [e, wrap_of_u32 (by omega) (by omega)]; congr 2
theorem lt32 {a : Nat} (h : a < 4294967296) : a < 2 ^ 32 := by omega
theorem or_lt {a b : Nat} (h1 : a < 2 ^ 32) (h2 : b < 2 ^ 32) : a ||| b < 2 ^ 32 := Nat.or_lt_two_pow h1 h2

theorem word_true (G : Globs) (k : Nat) (o D N M A i : Int) (nm : ByteArray) (w K : Nat) (d n m a : Bool) (bt : Int) (hw : w < 2 ^ 32) (hK : K < 2 ^ 32)
    (hof : isa_of.f G (k + 19) [I o] [] = some (.tup [IForm nm w d n m a bt, .bool true], []))
    (hD : 0 ≤ D ∧ D ≤ 31 ∧ (d = false → D = 0)) (hN : 0 ≤ N ∧ N ≤ 31 ∧ (n = false → N = 0)) (hM : 0 ≤ M ∧ M ≤ 31 ∧ (m = false → M = 0))
    (hx : a = true → isa_extra.f G (k + 18) [Ins o D N M A i] [] = some (.bool true, [])) (hA : a = false → A = 0)
    (hi : isa_imm.f G (k + 18) [Ins o D N M A i, I bt] [] = some (.bool true, [])) (hs : isa_stack.f G (k + 18) [Ins o D N M A i] [] = some (.bool false, []))
    (hn : isa_number.f G (k + 19) [Ins o D N M A i] [] = some (W32 K, [])) :
    isa_Word.f G (k + 20) [Ins o D N M A i] [] = some (.tup [W32 ((((w ||| D.toNat) ||| N.toNat * 32) ||| M.toNat * 65536) ||| K), .bool true], []) := by
  have r1 : ∀ H, pureCall (isa_of.f G (k + 19)) [I o] H = _ := fun H => pureCall_of (H := H) hof rfl rfl
  have r2 : ∀ H, pureCall (isa_fair.f G (k + 19)) [Ins o D N M A i, IForm nm w d n m a bt] H = _ := fun H => pureCall_of (H := H) (fair_true G (k + 9) o D N M A i nm w d n m a bt hD hN hM hx hA hi hs) rfl rfl
  have r3 : ∀ H, pureCall (isa_number.f G (k + 19)) [Ins o D N M A i] H = _ := fun H => pureCall_of (H := H) hn rfl rfl
  have bD : D.toNat < 2 ^ 32 := by omega
  have bN : N.toNat * 32 < 2 ^ 32 := by omega
  have bM : M.toNat * 65536 < 2 ^ 32 := by omega
  have c1 := conv32 D ⟨hD.1, hD.2.1⟩
  have c2 := conv32 N ⟨hN.1, hN.2.1⟩
  have c3 := conv32 M ⟨hM.1, hM.2.1⟩
  have c4 := or32 false w D.toNat hw bD
  have c5 := shl5 N.toNat (by omega)
  have c6 := or32 false (w ||| D.toNat) (N.toNat * 32) (or_lt hw bD) bN
  have c7 := shl16 M.toNat (by omega)
  have c8 := or32 false ((w ||| D.toNat) ||| N.toNat * 32) (M.toNat * 65536) (or_lt (or_lt hw bD) bN) bM
  have c9 := or32 false (((w ||| D.toNat) ||| N.toNat * 32) ||| M.toNat * 65536) K (or_lt (or_lt (or_lt hw bD) bN) bM) hK
  generalize (((w ||| D.toNat) ||| N.toNat * 32) ||| M.toNat * 65536) ||| K = V4 at *
  generalize ((w ||| D.toNat) ||| N.toNat * 32) ||| M.toNat * 65536 = V3 at *
  generalize (w ||| D.toNat) ||| N.toNat * 32 = V2 at *
  generalize w ||| D.toNat = V1 at *
  rw [isa_Word.step]
  unfold isa_Word.c
  repeat first
    | refine oB (by first | (with_reducible exact rfl) | ((first | (simp only [pu_val, nth_zero, nth_succ, gd_tt, gd_ff, gd_tf, gd_ft, gd_no, pickA_true, pickA_false, un_not, r1, r2, r3, c1, c2, c3, c4, c5, c6, c7, c8, c9, Bool.not_true]; first | done | (with_reducible exact rfl) | (with_reducible exact ⟨rfl, rfl⟩)) | simp [pu_val, boxRoA, boxA, fieldAddrV, loadV, loadC, storable, AV.cells, extractA, buildRo, buildOwn, fillE, buildSt, fillA, stS, storeV, recell, putC, lenSl, lenStr, idxAddrSl, idxAddrArr, allSome]); first | done | (with_reducible exact rfl) | (with_reducible exact ⟨rfl, rfl⟩))) ?_
    | refine lB (by first | (with_reducible exact rfl) | ((first | (simp only [pu_val, nth_zero, nth_succ, gd_tt, gd_ff, gd_tf, gd_ft, gd_no, pickA_true, pickA_false, un_not, r1, r2, r3, c1, c2, c3, c4, c5, c6, c7, c8, c9, Bool.not_true]; first | done | (with_reducible exact rfl) | (with_reducible exact ⟨rfl, rfl⟩)) | simp [pu_val, boxRoA, boxA, fieldAddrV, loadV, loadC, storable, AV.cells, extractA, buildRo, buildOwn, fillE, buildSt, fillA, stS, storeV, recell, putC, lenSl, lenStr, idxAddrSl, idxAddrArr, allSome]); first | done | (with_reducible exact rfl) | (with_reducible exact ⟨rfl, rfl⟩))) ?_
    | refine oT ?_
    | refine oN ?_
    | refine oX ?_
    | refine oXn ?_
    | refine oXr ?_
    | exact oF (finV_bool ..)
    | apply oK
    | refine lT ?_
    | refine lN ?_
    | refine lX ?_
    | refine lXn ?_
    | refine lXr ?_
    | apply lK
    | refine oI ?_
    | refine oJ rfl ?_
    | refine lI ?_
    | refine lJ rfl ?_
    | (with_reducible exact rfl)
  exact oF (finV_two rfl rfl _)

/-! Fields -/
theorem bit_out {F T : Nat} (h : T &&& F = 0) (i : Nat) (hF : F.testBit i = true) : T.testBit i = false := by
  have : (T &&& F).testBit i = false := by rw [h]; exact Nat.zero_testBit i
  rw [Nat.testBit_and, hF, Bool.and_true] at this; exact this

/-- Of two words just the fields are otherwise. -/
theorem fields (T D D0 N M A : Nat) (hD : D < 16) (hD0 : D0 < 16) (hN : N < 16) (hM : M < 16) (hA : A < 16)
    (tD : T &&& 15 = 0 ∨ (D = 0 ∧ D0 = 0)) (tN : T &&& 480 = 0 ∨ N = 0) (tM : T &&& 983040 = 0 ∨ M = 0) (tA : T &&& 15360 = 0 ∨ A = 0) :
    ((((T ||| D) ||| N * 32) ||| M * 65536) ||| A * 1024) ^^^ (T ||| D0) = (((D ^^^ D0) ||| N * 32) ||| M * 65536) ||| A * 1024 := by
  apply Nat.eq_of_testBit_eq
  intro i
  have e1 : N * 32 = N * 2 ^ 5 := rfl
  have e2 : M * 65536 = M * 2 ^ 16 := rfl
  have e3 : A * 1024 = A * 2 ^ 10 := rfl
  rw [e1, e2, e3]
  simp only [Nat.testBit_xor, Nat.testBit_or, Nat.testBit_mul_two_pow]
  have out : ∀ (x : Nat) (j : Nat), x < 16 → 4 ≤ j → x.testBit j = false := fun x j hx hj =>
    Nat.testBit_lt_two_pow (Nat.lt_of_lt_of_le hx (Nat.pow_le_pow_right (by decide) hj : 2 ^ 4 ≤ 2 ^ j))
  have z : ∀ j, (0 : Nat).testBit j = false := Nat.zero_testBit
  by_cases h4 : i < 4
  · have k1 : ¬ 5 ≤ i := by omega
    have k2 : ¬ 16 ≤ i := by omega
    have k3 : ¬ 10 ≤ i := by omega
    simp only [k1, k2, k3, decide_false, Bool.false_and, Bool.or_false]
    rcases tD with tD | ⟨rfl, rfl⟩
    · rw [bit_out tD i (by rcases (by omega : i = 0 ∨ i = 1 ∨ i = 2 ∨ i = 3) with rfl | rfl | rfl | rfl <;> decide)]
      simp
    · simp [z]
  · rw [out D i hD (by omega), out D0 i hD0 (by omega)]
    by_cases h9 : i < 9
    · by_cases h5 : 5 ≤ i
      · have k2 : ¬ 16 ≤ i := by omega
        have k3 : ¬ 10 ≤ i := by omega
        simp only [h5, k2, k3, decide_false, decide_true, Bool.false_and, Bool.true_and, Bool.or_false, Bool.xor_false]
        rcases tN with tN | rfl
        · rw [bit_out tN i (by rcases (by omega : i = 5 ∨ i = 6 ∨ i = 7 ∨ i = 8) with rfl | rfl | rfl | rfl <;> decide)]
          simp
        · simp [z]
      · have k2 : ¬ 16 ≤ i := by omega
        have k3 : ¬ 10 ≤ i := by omega
        simp [h5, k2, k3]
    · have nN : N.testBit (i - 5) = false := out N _ hN (by omega)
      rw [nN]
      by_cases h14 : i < 14
      · by_cases h10 : 10 ≤ i
        · have k2 : ¬ 16 ≤ i := by omega
          simp only [h10, k2, decide_false, decide_true, Bool.false_and, Bool.true_and, Bool.or_false, Bool.xor_false, Bool.and_false]
          rcases tA with tA | rfl
          · rw [bit_out tA i (by rcases (by omega : i = 10 ∨ i = 11 ∨ i = 12 ∨ i = 13) with rfl | rfl | rfl | rfl <;> decide)]
            simp
          · simp [z]
        · have k2 : ¬ 16 ≤ i := by omega
          simp [h10, k2]
      · have nA : A.testBit (i - 10) = false := out A _ hA (by omega)
        rw [nA]
        by_cases h20 : i < 20
        · by_cases h16 : 16 ≤ i
          · simp only [h16, decide_true, Bool.true_and, Bool.or_false, Bool.xor_false, Bool.and_false]
            rcases tM with tM | rfl
            · rw [bit_out tM i (by rcases (by omega : i = 16 ∨ i = 17 ∨ i = 18 ∨ i = 19) with rfl | rfl | rfl | rfl <;> decide)]
              simp
            · simp [z]
          · simp [h16]
        · have nM : M.testBit (i - 16) = false := out M _ hM (by omega)
          rw [nM]; simp

theorem and15 (c : Bool) (d : Int) : ∃ q : Int, (0 ≤ q ∧ q < 16) ∧ bin Try.prog .and 3 c (I d) (.int .i64 15) = some (I q) := by
  have e : bits .and .i64 d 15 = (((BitVec.ofInt 64 d).toNat % 16 : Nat) : Int) := by
    show IntKind.i64.wrap ((BitVec.ofInt 64 d &&& BitVec.ofInt 64 15).toNat : Int) = _
    have e2 : (BitVec.ofInt 64 d &&& BitVec.ofInt 64 15).toNat = (BitVec.ofInt 64 d).toNat % 16 := by
      rw [BitVec.toNat_and]; exact Nat.and_two_pow_sub_one_eq_mod _ 4
    rw [e2, wrap_of_i64 (by omega) (by omega)]
  exact ⟨_, ⟨by rw [e]; omega, by rw [e]; omega⟩, bin_and ..⟩
theorem xor64 (c : Bool) (a b : Int) (h1 : 0 ≤ a ∧ a < 16) (h2 : 0 ≤ b ∧ b < 16) : bin Try.prog .xor 3 c (I a) (I b) = some (I ((a.toNat ^^^ b.toNat : Nat) : Int)) := by
  obtain ⟨x, rfl⟩ := Int.eq_ofNat_of_zero_le h1.1
  obtain ⟨y, rfl⟩ := Int.eq_ofNat_of_zero_le h2.1
  have hx : x ^^^ y < 2 ^ 4 := Nat.xor_lt_two_pow (by omega) (by omega)
  have e : bits .xor .i64 (x : Int) (y : Int) = ((x ^^^ y : Nat) : Int) := by
    show IntKind.i64.wrap ((BitVec.ofInt 64 (x : Int) ^^^ BitVec.ofInt 64 (y : Int)).toNat : Int) = _
    rw [BitVec.toNat_xor, ofInt_u64 x (by omega), ofInt_u64 y (by omega), wrap_of_i64 (by omega) (by omega)]
  rw [bin_xor, e]; rfl
end Go.Proofs.Ytofhkjacpjfclaa.Mir
