/- The law of IsaFields, in plain Lean. -/
import Derived.Test.YtofhkjacpjfclaaMirY
import Derived.Test.YtofhkjacpjfclaaPb
namespace Go.Proofs.Ytofhkjacpjfclaa
open Go Mir
set_option linter.unusedVariables false
set_option linter.unusedSimpArgs false

theorem of_1 (G : Globs) (k : Nat) : isa_of.f G (k + 19) [I 1] [] = some (.tup [IForm ⟨#[109, 111, 118, 122]⟩ 3531603968 true false false true 16, .bool true], []) := by kernel_rfl
theorem has_1 (G : Globs) (k : Nat) : isa_Has.f G (k + 30) [I 1] [] = some (.tup [.bool true, .bool false, .bool false, .bool true, I 16], []) := by kernel_rfl
theorem extra_1 (G : Globs) (k : Nat) (D N M : Int) : isa_extra.f G (k + 18) [Ins 1 D N M 0 0] [] = some (.bool true, []) := by kernel_rfl
theorem number_1 (G : Globs) (k : Nat) (D N M : Int) : isa_number.f G (k + 19) [Ins 1 D N M 0 0] [] = some (W32 0, []) := by kernel_rfl
theorem imm_1 (G : Globs) (k : Nat) (D N M A : Int) : isa_imm.f G (k + 18) [Ins 1 D N M A 0, I 16] [] = some (.bool true, []) := by kernel_rfl
theorem stack_1 (G : Globs) (k : Nat) (D N M A : Int) (hD : 0 ≤ D ∧ D < 16) (hN : 0 ≤ N ∧ N < 16) : isa_stack.f G (k + 18) [Ins 1 D N M A 0] [] = some (.bool false, []) := by kernel_rfl
theorem word_1 (G : Globs) : WordOf G 1 3531603968 0 true false false false := by
  intro D N M A hD hN hM hA zD zN zM zA
  have := zA rfl
  subst this
  exact word_true G 40 1 D N M 0 0 ⟨#[109, 111, 118, 122]⟩ 3531603968 (0 ||| (0 : Int).toNat * 1024) true false false true 16 (by decide) (or_lt (by decide) (b32 (nat16 ⟨Int.le_refl 0, by decide⟩)).2.2.1) (of_1 G 40) ⟨hD.1, by omega, zD⟩ ⟨hN.1, by omega, zN⟩ ⟨hM.1, by omega, zM⟩
    (fun _ => extra_1 G 40 D N M) (fun _ => rfl) (imm_1 G 40 D N M 0) (stack_1 G 40 D N M 0 hD hN) (number_1 G 40 D N M)
theorem fields_1 (G : Globs) (x1 x2 x3 x4 : Int) : alembiclaw22_IsaFields.f G 61 [I 1, I x1, I x2, I x3, I x4] [] = some (.bool true, []) :=
  run_da_x G 1 16 3531603968 0 (by decide) rfl rfl rfl (has_1 G 30) (word_1 G) (by decide) trivial trivial trivial x1 x2 x3 x4
theorem of_2 (G : Globs) (k : Nat) : isa_of.f G (k + 19) [I 2] [] = some (.tup [IForm ⟨#[109, 111, 118, 107]⟩ 4068474880 true false false true 16, .bool true], []) := by kernel_rfl
theorem has_2 (G : Globs) (k : Nat) : isa_Has.f G (k + 30) [I 2] [] = some (.tup [.bool true, .bool false, .bool false, .bool true, I 16], []) := by kernel_rfl
theorem extra_2 (G : Globs) (k : Nat) (D N M : Int) : isa_extra.f G (k + 18) [Ins 2 D N M 0 0] [] = some (.bool true, []) := by kernel_rfl
theorem number_2 (G : Globs) (k : Nat) (D N M : Int) : isa_number.f G (k + 19) [Ins 2 D N M 0 0] [] = some (W32 0, []) := by kernel_rfl
theorem imm_2 (G : Globs) (k : Nat) (D N M A : Int) : isa_imm.f G (k + 18) [Ins 2 D N M A 0, I 16] [] = some (.bool true, []) := by kernel_rfl
theorem stack_2 (G : Globs) (k : Nat) (D N M A : Int) (hD : 0 ≤ D ∧ D < 16) (hN : 0 ≤ N ∧ N < 16) : isa_stack.f G (k + 18) [Ins 2 D N M A 0] [] = some (.bool false, []) := by kernel_rfl
theorem word_2 (G : Globs) : WordOf G 2 4068474880 0 true false false false := by
  intro D N M A hD hN hM hA zD zN zM zA
  have := zA rfl
  subst this
  exact word_true G 40 2 D N M 0 0 ⟨#[109, 111, 118, 107]⟩ 4068474880 (0 ||| (0 : Int).toNat * 1024) true false false true 16 (by decide) (or_lt (by decide) (b32 (nat16 ⟨Int.le_refl 0, by decide⟩)).2.2.1) (of_2 G 40) ⟨hD.1, by omega, zD⟩ ⟨hN.1, by omega, zN⟩ ⟨hM.1, by omega, zM⟩
    (fun _ => extra_2 G 40 D N M) (fun _ => rfl) (imm_2 G 40 D N M 0) (stack_2 G 40 D N M 0 hD hN) (number_2 G 40 D N M)
theorem fields_2 (G : Globs) (x1 x2 x3 x4 : Int) : alembiclaw22_IsaFields.f G 61 [I 2, I x1, I x2, I x3, I x4] [] = some (.bool true, []) :=
  run_da_x G 2 16 4068474880 0 (by decide) rfl rfl rfl (has_2 G 30) (word_2 G) (by decide) trivial trivial trivial x1 x2 x3 x4
theorem of_3 (G : Globs) (k : Nat) : isa_of.f G (k + 19) [I 3] [] = some (.tup [IForm ⟨#[97, 100, 100]⟩ 2332033024 true true true false 0, .bool true], []) := by kernel_rfl
theorem has_3 (G : Globs) (k : Nat) : isa_Has.f G (k + 30) [I 3] [] = some (.tup [.bool true, .bool true, .bool true, .bool false, I 0], []) := by kernel_rfl
theorem number_3 (G : Globs) (k : Nat) (D N M : Int) : isa_number.f G (k + 19) [Ins 3 D N M 0 0] [] = some (W32 0, []) := by kernel_rfl
theorem imm_3 (G : Globs) (k : Nat) (D N M A : Int) : isa_imm.f G (k + 18) [Ins 3 D N M A 0, I 0] [] = some (.bool true, []) := by kernel_rfl
theorem stack_3 (G : Globs) (k : Nat) (D N M A : Int) (hD : 0 ≤ D ∧ D < 16) (hN : 0 ≤ N ∧ N < 16) : isa_stack.f G (k + 18) [Ins 3 D N M A 0] [] = some (.bool false, []) := by kernel_rfl
theorem word_3 (G : Globs) : WordOf G 3 2332033024 0 true true true false := by
  intro D N M A hD hN hM hA zD zN zM zA
  have := zA rfl
  subst this
  exact word_true G 40 3 D N M 0 0 ⟨#[97, 100, 100]⟩ 2332033024 (0 ||| (0 : Int).toNat * 1024) true true true false 0 (by decide) (or_lt (by decide) (b32 (nat16 ⟨Int.le_refl 0, by decide⟩)).2.2.1) (of_3 G 40) ⟨hD.1, by omega, zD⟩ ⟨hN.1, by omega, zN⟩ ⟨hM.1, by omega, zM⟩
    (fun _ => by contradiction) (fun _ => rfl) (imm_3 G 40 D N M 0) (stack_3 G 40 D N M 0 hD hN) (number_3 G 40 D N M)
theorem fields_3 (G : Globs) (x1 x2 x3 x4 : Int) : alembiclaw22_IsaFields.f G 61 [I 3, I x1, I x2, I x3, I x4] [] = some (.bool true, []) :=
  run_dnm_x G 3 0 2332033024 0 (by decide) rfl rfl rfl (has_3 G 30) (word_3 G) (by decide) (by decide) (by decide) trivial x1 x2 x3 x4
theorem of_4 (G : Globs) (k : Nat) : isa_of.f G (k + 19) [I 4] [] = some (.tup [IForm ⟨#[115, 117, 98]⟩ 3405774848 true true true false 0, .bool true], []) := by kernel_rfl
theorem has_4 (G : Globs) (k : Nat) : isa_Has.f G (k + 30) [I 4] [] = some (.tup [.bool true, .bool true, .bool true, .bool false, I 0], []) := by kernel_rfl
theorem number_4 (G : Globs) (k : Nat) (D N M : Int) : isa_number.f G (k + 19) [Ins 4 D N M 0 0] [] = some (W32 0, []) := by kernel_rfl
theorem imm_4 (G : Globs) (k : Nat) (D N M A : Int) : isa_imm.f G (k + 18) [Ins 4 D N M A 0, I 0] [] = some (.bool true, []) := by kernel_rfl
theorem stack_4 (G : Globs) (k : Nat) (D N M A : Int) (hD : 0 ≤ D ∧ D < 16) (hN : 0 ≤ N ∧ N < 16) : isa_stack.f G (k + 18) [Ins 4 D N M A 0] [] = some (.bool false, []) := by kernel_rfl
theorem word_4 (G : Globs) : WordOf G 4 3405774848 0 true true true false := by
  intro D N M A hD hN hM hA zD zN zM zA
  have := zA rfl
  subst this
  exact word_true G 40 4 D N M 0 0 ⟨#[115, 117, 98]⟩ 3405774848 (0 ||| (0 : Int).toNat * 1024) true true true false 0 (by decide) (or_lt (by decide) (b32 (nat16 ⟨Int.le_refl 0, by decide⟩)).2.2.1) (of_4 G 40) ⟨hD.1, by omega, zD⟩ ⟨hN.1, by omega, zN⟩ ⟨hM.1, by omega, zM⟩
    (fun _ => by contradiction) (fun _ => rfl) (imm_4 G 40 D N M 0) (stack_4 G 40 D N M 0 hD hN) (number_4 G 40 D N M)
theorem fields_4 (G : Globs) (x1 x2 x3 x4 : Int) : alembiclaw22_IsaFields.f G 61 [I 4, I x1, I x2, I x3, I x4] [] = some (.bool true, []) :=
  run_dnm_x G 4 0 3405774848 0 (by decide) rfl rfl rfl (has_4 G 30) (word_4 G) (by decide) (by decide) (by decide) trivial x1 x2 x3 x4
theorem of_5 (G : Globs) (k : Nat) : isa_of.f G (k + 19) [I 5] [] = some (.tup [IForm ⟨#[97, 110, 100]⟩ 2315255808 true true true false 0, .bool true], []) := by kernel_rfl
theorem has_5 (G : Globs) (k : Nat) : isa_Has.f G (k + 30) [I 5] [] = some (.tup [.bool true, .bool true, .bool true, .bool false, I 0], []) := by kernel_rfl
theorem number_5 (G : Globs) (k : Nat) (D N M : Int) : isa_number.f G (k + 19) [Ins 5 D N M 0 0] [] = some (W32 0, []) := by kernel_rfl
theorem imm_5 (G : Globs) (k : Nat) (D N M A : Int) : isa_imm.f G (k + 18) [Ins 5 D N M A 0, I 0] [] = some (.bool true, []) := by kernel_rfl
theorem stack_5 (G : Globs) (k : Nat) (D N M A : Int) (hD : 0 ≤ D ∧ D < 16) (hN : 0 ≤ N ∧ N < 16) : isa_stack.f G (k + 18) [Ins 5 D N M A 0] [] = some (.bool false, []) := by kernel_rfl
theorem word_5 (G : Globs) : WordOf G 5 2315255808 0 true true true false := by
  intro D N M A hD hN hM hA zD zN zM zA
  have := zA rfl
  subst this
  exact word_true G 40 5 D N M 0 0 ⟨#[97, 110, 100]⟩ 2315255808 (0 ||| (0 : Int).toNat * 1024) true true true false 0 (by decide) (or_lt (by decide) (b32 (nat16 ⟨Int.le_refl 0, by decide⟩)).2.2.1) (of_5 G 40) ⟨hD.1, by omega, zD⟩ ⟨hN.1, by omega, zN⟩ ⟨hM.1, by omega, zM⟩
    (fun _ => by contradiction) (fun _ => rfl) (imm_5 G 40 D N M 0) (stack_5 G 40 D N M 0 hD hN) (number_5 G 40 D N M)
theorem fields_5 (G : Globs) (x1 x2 x3 x4 : Int) : alembiclaw22_IsaFields.f G 61 [I 5, I x1, I x2, I x3, I x4] [] = some (.bool true, []) :=
  run_dnm_x G 5 0 2315255808 0 (by decide) rfl rfl rfl (has_5 G 30) (word_5 G) (by decide) (by decide) (by decide) trivial x1 x2 x3 x4
theorem of_6 (G : Globs) (k : Nat) : isa_of.f G (k + 19) [I 6] [] = some (.tup [IForm ⟨#[111, 114, 114]⟩ 2852126720 true true true false 0, .bool true], []) := by kernel_rfl
theorem has_6 (G : Globs) (k : Nat) : isa_Has.f G (k + 30) [I 6] [] = some (.tup [.bool true, .bool true, .bool true, .bool false, I 0], []) := by kernel_rfl
theorem number_6 (G : Globs) (k : Nat) (D N M : Int) : isa_number.f G (k + 19) [Ins 6 D N M 0 0] [] = some (W32 0, []) := by kernel_rfl
theorem imm_6 (G : Globs) (k : Nat) (D N M A : Int) : isa_imm.f G (k + 18) [Ins 6 D N M A 0, I 0] [] = some (.bool true, []) := by kernel_rfl
theorem stack_6 (G : Globs) (k : Nat) (D N M A : Int) (hD : 0 ≤ D ∧ D < 16) (hN : 0 ≤ N ∧ N < 16) : isa_stack.f G (k + 18) [Ins 6 D N M A 0] [] = some (.bool false, []) := by kernel_rfl
theorem word_6 (G : Globs) : WordOf G 6 2852126720 0 true true true false := by
  intro D N M A hD hN hM hA zD zN zM zA
  have := zA rfl
  subst this
  exact word_true G 40 6 D N M 0 0 ⟨#[111, 114, 114]⟩ 2852126720 (0 ||| (0 : Int).toNat * 1024) true true true false 0 (by decide) (or_lt (by decide) (b32 (nat16 ⟨Int.le_refl 0, by decide⟩)).2.2.1) (of_6 G 40) ⟨hD.1, by omega, zD⟩ ⟨hN.1, by omega, zN⟩ ⟨hM.1, by omega, zM⟩
    (fun _ => by contradiction) (fun _ => rfl) (imm_6 G 40 D N M 0) (stack_6 G 40 D N M 0 hD hN) (number_6 G 40 D N M)
theorem fields_6 (G : Globs) (x1 x2 x3 x4 : Int) : alembiclaw22_IsaFields.f G 61 [I 6, I x1, I x2, I x3, I x4] [] = some (.bool true, []) :=
  run_dnm_x G 6 0 2852126720 0 (by decide) rfl rfl rfl (has_6 G 30) (word_6 G) (by decide) (by decide) (by decide) trivial x1 x2 x3 x4
theorem of_7 (G : Globs) (k : Nat) : isa_of.f G (k + 19) [I 7] [] = some (.tup [IForm ⟨#[101, 111, 114]⟩ 3388997632 true true true false 0, .bool true], []) := by kernel_rfl
theorem has_7 (G : Globs) (k : Nat) : isa_Has.f G (k + 30) [I 7] [] = some (.tup [.bool true, .bool true, .bool true, .bool false, I 0], []) := by kernel_rfl
theorem number_7 (G : Globs) (k : Nat) (D N M : Int) : isa_number.f G (k + 19) [Ins 7 D N M 0 0] [] = some (W32 0, []) := by kernel_rfl
theorem imm_7 (G : Globs) (k : Nat) (D N M A : Int) : isa_imm.f G (k + 18) [Ins 7 D N M A 0, I 0] [] = some (.bool true, []) := by kernel_rfl
theorem stack_7 (G : Globs) (k : Nat) (D N M A : Int) (hD : 0 ≤ D ∧ D < 16) (hN : 0 ≤ N ∧ N < 16) : isa_stack.f G (k + 18) [Ins 7 D N M A 0] [] = some (.bool false, []) := by kernel_rfl
theorem word_7 (G : Globs) : WordOf G 7 3388997632 0 true true true false := by
  intro D N M A hD hN hM hA zD zN zM zA
  have := zA rfl
  subst this
  exact word_true G 40 7 D N M 0 0 ⟨#[101, 111, 114]⟩ 3388997632 (0 ||| (0 : Int).toNat * 1024) true true true false 0 (by decide) (or_lt (by decide) (b32 (nat16 ⟨Int.le_refl 0, by decide⟩)).2.2.1) (of_7 G 40) ⟨hD.1, by omega, zD⟩ ⟨hN.1, by omega, zN⟩ ⟨hM.1, by omega, zM⟩
    (fun _ => by contradiction) (fun _ => rfl) (imm_7 G 40 D N M 0) (stack_7 G 40 D N M 0 hD hN) (number_7 G 40 D N M)
theorem fields_7 (G : Globs) (x1 x2 x3 x4 : Int) : alembiclaw22_IsaFields.f G 61 [I 7, I x1, I x2, I x3, I x4] [] = some (.bool true, []) :=
  run_dnm_x G 7 0 3388997632 0 (by decide) rfl rfl rfl (has_7 G 30) (word_7 G) (by decide) (by decide) (by decide) trivial x1 x2 x3 x4
theorem of_8 (G : Globs) (k : Nat) : isa_of.f G (k + 19) [I 8] [] = some (.tup [IForm ⟨#[109, 97, 100, 100]⟩ 2600468480 true true true true 0, .bool true], []) := by kernel_rfl
theorem has_8 (G : Globs) (k : Nat) : isa_Has.f G (k + 30) [I 8] [] = some (.tup [.bool true, .bool true, .bool true, .bool true, I 0], []) := by kernel_rfl
theorem extra_8 (G : Globs) (k : Nat) (D N M A : Int) (hA : 0 ≤ A ∧ A < 16) : isa_extra.f G (k + 18) [Ins 8 D N M A 0] [] = some (.bool true, []) := by
  have c1 : bin Try.prog .geq 3 true (I A) (.int .i64 0) = some (.bool true) := by rw [bin_geq, decide_eq_true (by omega)]
  have c2 : bin Try.prog .leq 3 true (I A) (.int .i64 31) = some (.bool true) := by rw [bin_leq, decide_eq_true (by omega)]
  rw [isa_extra.step]
  unfold isa_extra.c
  repeat first
    | refine oB (by first | (with_reducible exact rfl) | ((first | (simp only [pu_val, nth_zero, nth_succ, gd_tt, gd_ff, gd_tf, gd_ft, gd_no, pickA_true, pickA_false, un_not, c1, c2]; first | done | (with_reducible exact rfl) | (with_reducible exact ⟨rfl, rfl⟩)) | simp [pu_val, boxRoA, boxA, fieldAddrV, loadV, loadC, storable, AV.cells, extractA, buildRo, buildOwn, fillE, buildSt, fillA, stS, storeV, recell, putC, lenSl, lenStr, idxAddrSl, idxAddrArr, allSome]); first | done | (with_reducible exact rfl) | (with_reducible exact ⟨rfl, rfl⟩))) ?_
    | refine lB (by first | (with_reducible exact rfl) | ((first | (simp only [pu_val, nth_zero, nth_succ, gd_tt, gd_ff, gd_tf, gd_ft, gd_no, pickA_true, pickA_false, un_not, c1, c2]; first | done | (with_reducible exact rfl) | (with_reducible exact ⟨rfl, rfl⟩)) | simp [pu_val, boxRoA, boxA, fieldAddrV, loadV, loadC, storable, AV.cells, extractA, buildRo, buildOwn, fillE, buildSt, fillA, stS, storeV, recell, putC, lenSl, lenStr, idxAddrSl, idxAddrArr, allSome]); first | done | (with_reducible exact rfl) | (with_reducible exact ⟨rfl, rfl⟩))) ?_
    | refine oT ?_
    | refine oN ?_
    | refine oX ?_
    | refine oXn ?_
    | refine oXr ?_
    | exact oF (finV_bool ..)
    | apply oK
    | refine lT ?_
    | refine lN ?_
    | refine lX ?_
    | refine lXn ?_
    | refine lXr ?_
    | apply lK
    | refine oI ?_
    | refine oJ rfl ?_
    | refine lI ?_
    | refine lJ rfl ?_
    | (with_reducible exact rfl)
theorem number_8 (G : Globs) (k : Nat) (D N M A : Int) (hA : 0 ≤ A ∧ A < 16) : isa_number.f G (k + 19) [Ins 8 D N M A 0] [] = some (W32 (0 ||| A.toNat * 1024), []) := by
  have c1 := conv32 A ⟨hA.1, by omega⟩
  have c2 := shl10 A.toNat (by omega)
  have c3 : convInt .u32 (I 0) = some (.int .u32 0) := rfl
  rw [Nat.zero_or]
  generalize A.toNat * 1024 = Z at *
  rw [isa_number.step]
  unfold isa_number.c
  repeat first
    | refine oB (by first | (with_reducible exact rfl) | ((first | (simp only [pu_val, nth_zero, nth_succ, gd_tt, gd_ff, gd_tf, gd_ft, gd_no, pickA_true, pickA_false, un_not, c1, c2, c3]; first | done | (with_reducible exact rfl) | (with_reducible exact ⟨rfl, rfl⟩)) | simp [pu_val, boxRoA, boxA, fieldAddrV, loadV, loadC, storable, AV.cells, extractA, buildRo, buildOwn, fillE, buildSt, fillA, stS, storeV, recell, putC, lenSl, lenStr, idxAddrSl, idxAddrArr, allSome]); first | done | (with_reducible exact rfl) | (with_reducible exact ⟨rfl, rfl⟩))) ?_
    | refine lB (by first | (with_reducible exact rfl) | ((first | (simp only [pu_val, nth_zero, nth_succ, gd_tt, gd_ff, gd_tf, gd_ft, gd_no, pickA_true, pickA_false, un_not, c1, c2, c3]; first | done | (with_reducible exact rfl) | (with_reducible exact ⟨rfl, rfl⟩)) | simp [pu_val, boxRoA, boxA, fieldAddrV, loadV, loadC, storable, AV.cells, extractA, buildRo, buildOwn, fillE, buildSt, fillA, stS, storeV, recell, putC, lenSl, lenStr, idxAddrSl, idxAddrArr, allSome]); first | done | (with_reducible exact rfl) | (with_reducible exact ⟨rfl, rfl⟩))) ?_
    | refine oT ?_
    | refine oN ?_
    | refine oX ?_
    | refine oXn ?_
    | refine oXr ?_
    | exact oF (finV_bool ..)
    | apply oK
    | refine lT ?_
    | refine lN ?_
    | refine lX ?_
    | refine lXn ?_
    | refine lXr ?_
    | apply lK
    | refine oI ?_
    | refine oJ rfl ?_
    | refine lI ?_
    | refine lJ rfl ?_
    | (with_reducible exact rfl)
  exact oF (finV_int ..)
theorem imm_8 (G : Globs) (k : Nat) (D N M A : Int) : isa_imm.f G (k + 18) [Ins 8 D N M A 0, I 0] [] = some (.bool true, []) := by kernel_rfl
theorem stack_8 (G : Globs) (k : Nat) (D N M A : Int) (hD : 0 ≤ D ∧ D < 16) (hN : 0 ≤ N ∧ N < 16) : isa_stack.f G (k + 18) [Ins 8 D N M A 0] [] = some (.bool false, []) := by kernel_rfl
theorem word_8 (G : Globs) : WordOf G 8 2600468480 0 true true true true := by
  intro D N M A hD hN hM hA zD zN zM zA
  exact word_true G 40 8 D N M A 0 ⟨#[109, 97, 100, 100]⟩ 2600468480 (0 ||| (A : Int).toNat * 1024) true true true true 0 (by decide) (or_lt (by decide) (b32 (nat16 hA)).2.2.1) (of_8 G 40) ⟨hD.1, by omega, zD⟩ ⟨hN.1, by omega, zN⟩ ⟨hM.1, by omega, zM⟩
    (fun _ => extra_8 G 40 D N M A hA) (fun _ => by contradiction) (imm_8 G 40 D N M A) (stack_8 G 40 D N M A hD hN) (number_8 G 40 D N M A hA)
theorem fields_8 (G : Globs) (x1 x2 x3 x4 : Int) : alembiclaw22_IsaFields.f G 61 [I 8, I x1, I x2, I x3, I x4] [] = some (.bool true, []) :=
  run_dnma_madd G 8 0 2600468480 0 (by decide) rfl rfl rfl (has_8 G 30) (word_8 G) (by decide) (by decide) (by decide) (by decide) x1 x2 x3 x4
theorem of_9 (G : Globs) (k : Nat) : isa_of.f G (k + 19) [I 9] [] = some (.tup [IForm ⟨#[117, 109, 117, 108, 104]⟩ 2613083136 true true true false 0, .bool true], []) := by kernel_rfl
theorem has_9 (G : Globs) (k : Nat) : isa_Has.f G (k + 30) [I 9] [] = some (.tup [.bool true, .bool true, .bool true, .bool false, I 0], []) := by kernel_rfl
theorem number_9 (G : Globs) (k : Nat) (D N M : Int) : isa_number.f G (k + 19) [Ins 9 D N M 0 0] [] = some (W32 0, []) := by kernel_rfl
theorem imm_9 (G : Globs) (k : Nat) (D N M A : Int) : isa_imm.f G (k + 18) [Ins 9 D N M A 0, I 0] [] = some (.bool true, []) := by kernel_rfl
theorem stack_9 (G : Globs) (k : Nat) (D N M A : Int) (hD : 0 ≤ D ∧ D < 16) (hN : 0 ≤ N ∧ N < 16) : isa_stack.f G (k + 18) [Ins 9 D N M A 0] [] = some (.bool false, []) := by kernel_rfl
theorem word_9 (G : Globs) : WordOf G 9 2613083136 0 true true true false := by
  intro D N M A hD hN hM hA zD zN zM zA
  have := zA rfl
  subst this
  exact word_true G 40 9 D N M 0 0 ⟨#[117, 109, 117, 108, 104]⟩ 2613083136 (0 ||| (0 : Int).toNat * 1024) true true true false 0 (by decide) (or_lt (by decide) (b32 (nat16 ⟨Int.le_refl 0, by decide⟩)).2.2.1) (of_9 G 40) ⟨hD.1, by omega, zD⟩ ⟨hN.1, by omega, zN⟩ ⟨hM.1, by omega, zM⟩
    (fun _ => by contradiction) (fun _ => rfl) (imm_9 G 40 D N M 0) (stack_9 G 40 D N M 0 hD hN) (number_9 G 40 D N M)
theorem fields_9 (G : Globs) (x1 x2 x3 x4 : Int) : alembiclaw22_IsaFields.f G 61 [I 9, I x1, I x2, I x3, I x4] [] = some (.bool true, []) :=
  run_dnm_x G 9 0 2613083136 0 (by decide) rfl rfl rfl (has_9 G 30) (word_9 G) (by decide) (by decide) (by decide) trivial x1 x2 x3 x4
theorem of_10 (G : Globs) (k : Nat) : isa_of.f G (k + 19) [I 10] [] = some (.tup [IForm ⟨#[97, 100, 100, 105]⟩ 2432696320 true true false false 12, .bool true], []) := by kernel_rfl
theorem has_10 (G : Globs) (k : Nat) : isa_Has.f G (k + 30) [I 10] [] = some (.tup [.bool true, .bool true, .bool false, .bool false, I 12], []) := by kernel_rfl
theorem number_10 (G : Globs) (k : Nat) (D N M : Int) : isa_number.f G (k + 19) [Ins 10 D N M 0 0] [] = some (W32 0, []) := by kernel_rfl
theorem imm_10 (G : Globs) (k : Nat) (D N M A : Int) : isa_imm.f G (k + 18) [Ins 10 D N M A 0, I 12] [] = some (.bool true, []) := by kernel_rfl
theorem stack_10 (G : Globs) (k : Nat) (D N M A : Int) (hD : 0 ≤ D ∧ D < 16) (hN : 0 ≤ N ∧ N < 16) : isa_stack.f G (k + 18) [Ins 10 D N M A 0] [] = some (.bool false, []) := by
  have c1 : bin Try.prog .eql 3 true (I D) (.int .i64 31) = some (.bool false) := by rw [bin_eql, decide_eq_false (by omega)]
  have c2 : bin Try.prog .eql 3 true (I N) (.int .i64 31) = some (.bool false) := by rw [bin_eql, decide_eq_false (by omega)]
  rw [isa_stack.step]
  unfold isa_stack.c
  repeat first
    | refine oB (by first | (with_reducible exact rfl) | ((first | (simp only [pu_val, nth_zero, nth_succ, gd_tt, gd_ff, gd_tf, gd_ft, gd_no, pickA_true, pickA_false, un_not, c1, c2]; first | done | (with_reducible exact rfl) | (with_reducible exact ⟨rfl, rfl⟩)) | simp [pu_val, boxRoA, boxA, fieldAddrV, loadV, loadC, storable, AV.cells, extractA, buildRo, buildOwn, fillE, buildSt, fillA, stS, storeV, recell, putC, lenSl, lenStr, idxAddrSl, idxAddrArr, allSome]); first | done | (with_reducible exact rfl) | (with_reducible exact ⟨rfl, rfl⟩))) ?_
    | refine lB (by first | (with_reducible exact rfl) | ((first | (simp only [pu_val, nth_zero, nth_succ, gd_tt, gd_ff, gd_tf, gd_ft, gd_no, pickA_true, pickA_false, un_not, c1, c2]; first | done | (with_reducible exact rfl) | (with_reducible exact ⟨rfl, rfl⟩)) | simp [pu_val, boxRoA, boxA, fieldAddrV, loadV, loadC, storable, AV.cells, extractA, buildRo, buildOwn, fillE, buildSt, fillA, stS, storeV, recell, putC, lenSl, lenStr, idxAddrSl, idxAddrArr, allSome]); first | done | (with_reducible exact rfl) | (with_reducible exact ⟨rfl, rfl⟩))) ?_
    | refine oT ?_
    | refine oN ?_
    | refine oX ?_
    | refine oXn ?_
    | refine oXr ?_
    | exact oF (finV_bool ..)
    | apply oK
    | refine lT ?_
    | refine lN ?_
    | refine lX ?_
    | refine lXn ?_
    | refine lXr ?_
    | apply lK
    | refine oI ?_
    | refine oJ rfl ?_
    | refine lI ?_
    | refine lJ rfl ?_
    | (with_reducible exact rfl)
theorem word_10 (G : Globs) : WordOf G 10 2432696320 0 true true false false := by
  intro D N M A hD hN hM hA zD zN zM zA
  have := zA rfl
  subst this
  exact word_true G 40 10 D N M 0 0 ⟨#[97, 100, 100, 105]⟩ 2432696320 (0 ||| (0 : Int).toNat * 1024) true true false false 12 (by decide) (or_lt (by decide) (b32 (nat16 ⟨Int.le_refl 0, by decide⟩)).2.2.1) (of_10 G 40) ⟨hD.1, by omega, zD⟩ ⟨hN.1, by omega, zN⟩ ⟨hM.1, by omega, zM⟩
    (fun _ => by contradiction) (fun _ => rfl) (imm_10 G 40 D N M 0) (stack_10 G 40 D N M 0 hD hN) (number_10 G 40 D N M)
theorem fields_10 (G : Globs) (x1 x2 x3 x4 : Int) : alembiclaw22_IsaFields.f G 61 [I 10, I x1, I x2, I x3, I x4] [] = some (.bool true, []) :=
  run_dn_10 G 10 12 2432696320 0 (by decide) rfl rfl rfl (has_10 G 30) (word_10 G) (by decide) (by decide) trivial trivial x1 x2 x3 x4
theorem of_11 (G : Globs) (k : Nat) : isa_of.f G (k + 19) [I 11] [] = some (.tup [IForm ⟨#[115, 117, 98, 105]⟩ 3506438144 true true false false 12, .bool true], []) := by kernel_rfl
theorem has_11 (G : Globs) (k : Nat) : isa_Has.f G (k + 30) [I 11] [] = some (.tup [.bool true, .bool true, .bool false, .bool false, I 12], []) := by kernel_rfl
theorem number_11 (G : Globs) (k : Nat) (D N M : Int) : isa_number.f G (k + 19) [Ins 11 D N M 0 0] [] = some (W32 0, []) := by kernel_rfl
theorem imm_11 (G : Globs) (k : Nat) (D N M A : Int) : isa_imm.f G (k + 18) [Ins 11 D N M A 0, I 12] [] = some (.bool true, []) := by kernel_rfl
theorem stack_11 (G : Globs) (k : Nat) (D N M A : Int) (hD : 0 ≤ D ∧ D < 16) (hN : 0 ≤ N ∧ N < 16) : isa_stack.f G (k + 18) [Ins 11 D N M A 0] [] = some (.bool false, []) := by
  have c1 : bin Try.prog .eql 3 true (I D) (.int .i64 31) = some (.bool false) := by rw [bin_eql, decide_eq_false (by omega)]
  have c2 : bin Try.prog .eql 3 true (I N) (.int .i64 31) = some (.bool false) := by rw [bin_eql, decide_eq_false (by omega)]
  rw [isa_stack.step]
  unfold isa_stack.c
  repeat first
    | refine oB (by first | (with_reducible exact rfl) | ((first | (simp only [pu_val, nth_zero, nth_succ, gd_tt, gd_ff, gd_tf, gd_ft, gd_no, pickA_true, pickA_false, un_not, c1, c2]; first | done | (with_reducible exact rfl) | (with_reducible exact ⟨rfl, rfl⟩)) | simp [pu_val, boxRoA, boxA, fieldAddrV, loadV, loadC, storable, AV.cells, extractA, buildRo, buildOwn, fillE, buildSt, fillA, stS, storeV, recell, putC, lenSl, lenStr, idxAddrSl, idxAddrArr, allSome]); first | done | (with_reducible exact rfl) | (with_reducible exact ⟨rfl, rfl⟩))) ?_
    | refine lB (by first | (with_reducible exact rfl) | ((first | (simp only [pu_val, nth_zero, nth_succ, gd_tt, gd_ff, gd_tf, gd_ft, gd_no, pickA_true, pickA_false, un_not, c1, c2]; first | done | (with_reducible exact rfl) | (with_reducible exact ⟨rfl, rfl⟩)) | simp [pu_val, boxRoA, boxA, fieldAddrV, loadV, loadC, storable, AV.cells, extractA, buildRo, buildOwn, fillE, buildSt, fillA, stS, storeV, recell, putC, lenSl, lenStr, idxAddrSl, idxAddrArr, allSome]); first | done | (with_reducible exact rfl) | (with_reducible exact ⟨rfl, rfl⟩))) ?_
    | refine oT ?_
    | refine oN ?_
    | refine oX ?_
    | refine oXn ?_
    | refine oXr ?_
    | exact oF (finV_bool ..)
    | apply oK
    | refine lT ?_
    | refine lN ?_
    | refine lX ?_
    | refine lXn ?_
    | refine lXr ?_
    | apply lK
    | refine oI ?_
    | refine oJ rfl ?_
    | refine lI ?_
    | refine lJ rfl ?_
    | (with_reducible exact rfl)
theorem word_11 (G : Globs) : WordOf G 11 3506438144 0 true true false false := by
  intro D N M A hD hN hM hA zD zN zM zA
  have := zA rfl
  subst this
  exact word_true G 40 11 D N M 0 0 ⟨#[115, 117, 98, 105]⟩ 3506438144 (0 ||| (0 : Int).toNat * 1024) true true false false 12 (by decide) (or_lt (by decide) (b32 (nat16 ⟨Int.le_refl 0, by decide⟩)).2.2.1) (of_11 G 40) ⟨hD.1, by omega, zD⟩ ⟨hN.1, by omega, zN⟩ ⟨hM.1, by omega, zM⟩
    (fun _ => by contradiction) (fun _ => rfl) (imm_11 G 40 D N M 0) (stack_11 G 40 D N M 0 hD hN) (number_11 G 40 D N M)
theorem fields_11 (G : Globs) (x1 x2 x3 x4 : Int) : alembiclaw22_IsaFields.f G 61 [I 11, I x1, I x2, I x3, I x4] [] = some (.bool true, []) :=
  run_dn_11 G 11 12 3506438144 0 (by decide) rfl rfl rfl (has_11 G 30) (word_11 G) (by decide) (by decide) trivial trivial x1 x2 x3 x4
theorem of_12 (G : Globs) (k : Nat) : isa_of.f G (k + 19) [I 12] [] = some (.tup [IForm ⟨#[108, 115, 108]⟩ 3544186880 true true false false 6, .bool true], []) := by kernel_rfl
theorem has_12 (G : Globs) (k : Nat) : isa_Has.f G (k + 30) [I 12] [] = some (.tup [.bool true, .bool true, .bool false, .bool false, I 6], []) := by kernel_rfl
theorem number_12 (G : Globs) (k : Nat) (D N M : Int) : isa_number.f G (k + 19) [Ins 12 D N M 0 0] [] = some (W32 64512, []) := by kernel_rfl
theorem imm_12 (G : Globs) (k : Nat) (D N M A : Int) : isa_imm.f G (k + 18) [Ins 12 D N M A 0, I 6] [] = some (.bool true, []) := by kernel_rfl
theorem stack_12 (G : Globs) (k : Nat) (D N M A : Int) (hD : 0 ≤ D ∧ D < 16) (hN : 0 ≤ N ∧ N < 16) : isa_stack.f G (k + 18) [Ins 12 D N M A 0] [] = some (.bool false, []) := by kernel_rfl
theorem word_12 (G : Globs) : WordOf G 12 3544186880 64512 true true false false := by
  intro D N M A hD hN hM hA zD zN zM zA
  have := zA rfl
  subst this
  exact word_true G 40 12 D N M 0 0 ⟨#[108, 115, 108]⟩ 3544186880 (64512 ||| (0 : Int).toNat * 1024) true true false false 6 (by decide) (or_lt (by decide) (b32 (nat16 ⟨Int.le_refl 0, by decide⟩)).2.2.1) (of_12 G 40) ⟨hD.1, by omega, zD⟩ ⟨hN.1, by omega, zN⟩ ⟨hM.1, by omega, zM⟩
    (fun _ => by contradiction) (fun _ => rfl) (imm_12 G 40 D N M 0) (stack_12 G 40 D N M 0 hD hN) (number_12 G 40 D N M)
theorem fields_12 (G : Globs) (x1 x2 x3 x4 : Int) : alembiclaw22_IsaFields.f G 61 [I 12, I x1, I x2, I x3, I x4] [] = some (.bool true, []) :=
  run_dn_x G 12 6 3544186880 64512 (by decide) rfl rfl rfl (has_12 G 30) (word_12 G) (by decide) (by decide) trivial trivial x1 x2 x3 x4
theorem of_13 (G : Globs) (k : Nat) : isa_of.f G (k + 19) [I 13] [] = some (.tup [IForm ⟨#[108, 115, 114]⟩ 3544186880 true true false false 6, .bool true], []) := by kernel_rfl
theorem has_13 (G : Globs) (k : Nat) : isa_Has.f G (k + 30) [I 13] [] = some (.tup [.bool true, .bool true, .bool false, .bool false, I 6], []) := by kernel_rfl
theorem number_13 (G : Globs) (k : Nat) (D N M : Int) : isa_number.f G (k + 19) [Ins 13 D N M 0 0] [] = some (W32 64512, []) := by kernel_rfl
theorem imm_13 (G : Globs) (k : Nat) (D N M A : Int) : isa_imm.f G (k + 18) [Ins 13 D N M A 0, I 6] [] = some (.bool true, []) := by kernel_rfl
theorem stack_13 (G : Globs) (k : Nat) (D N M A : Int) (hD : 0 ≤ D ∧ D < 16) (hN : 0 ≤ N ∧ N < 16) : isa_stack.f G (k + 18) [Ins 13 D N M A 0] [] = some (.bool false, []) := by kernel_rfl
theorem word_13 (G : Globs) : WordOf G 13 3544186880 64512 true true false false := by
  intro D N M A hD hN hM hA zD zN zM zA
  have := zA rfl
  subst this
  exact word_true G 40 13 D N M 0 0 ⟨#[108, 115, 114]⟩ 3544186880 (64512 ||| (0 : Int).toNat * 1024) true true false false 6 (by decide) (or_lt (by decide) (b32 (nat16 ⟨Int.le_refl 0, by decide⟩)).2.2.1) (of_13 G 40) ⟨hD.1, by omega, zD⟩ ⟨hN.1, by omega, zN⟩ ⟨hM.1, by omega, zM⟩
    (fun _ => by contradiction) (fun _ => rfl) (imm_13 G 40 D N M 0) (stack_13 G 40 D N M 0 hD hN) (number_13 G 40 D N M)
theorem fields_13 (G : Globs) (x1 x2 x3 x4 : Int) : alembiclaw22_IsaFields.f G 61 [I 13, I x1, I x2, I x3, I x4] [] = some (.bool true, []) :=
  run_dn_x G 13 6 3544186880 64512 (by decide) rfl rfl rfl (has_13 G 30) (word_13 G) (by decide) (by decide) trivial trivial x1 x2 x3 x4
theorem of_14 (G : Globs) (k : Nat) : isa_of.f G (k + 19) [I 14] [] = some (.tup [IForm ⟨#[97, 115, 114]⟩ 2470509568 true true false false 6, .bool true], []) := by kernel_rfl
theorem has_14 (G : Globs) (k : Nat) : isa_Has.f G (k + 30) [I 14] [] = some (.tup [.bool true, .bool true, .bool false, .bool false, I 6], []) := by kernel_rfl
theorem number_14 (G : Globs) (k : Nat) (D N M : Int) : isa_number.f G (k + 19) [Ins 14 D N M 0 0] [] = some (W32 0, []) := by kernel_rfl
theorem imm_14 (G : Globs) (k : Nat) (D N M A : Int) : isa_imm.f G (k + 18) [Ins 14 D N M A 0, I 6] [] = some (.bool true, []) := by kernel_rfl
theorem stack_14 (G : Globs) (k : Nat) (D N M A : Int) (hD : 0 ≤ D ∧ D < 16) (hN : 0 ≤ N ∧ N < 16) : isa_stack.f G (k + 18) [Ins 14 D N M A 0] [] = some (.bool false, []) := by kernel_rfl
theorem word_14 (G : Globs) : WordOf G 14 2470509568 0 true true false false := by
  intro D N M A hD hN hM hA zD zN zM zA
  have := zA rfl
  subst this
  exact word_true G 40 14 D N M 0 0 ⟨#[97, 115, 114]⟩ 2470509568 (0 ||| (0 : Int).toNat * 1024) true true false false 6 (by decide) (or_lt (by decide) (b32 (nat16 ⟨Int.le_refl 0, by decide⟩)).2.2.1) (of_14 G 40) ⟨hD.1, by omega, zD⟩ ⟨hN.1, by omega, zN⟩ ⟨hM.1, by omega, zM⟩
    (fun _ => by contradiction) (fun _ => rfl) (imm_14 G 40 D N M 0) (stack_14 G 40 D N M 0 hD hN) (number_14 G 40 D N M)
theorem fields_14 (G : Globs) (x1 x2 x3 x4 : Int) : alembiclaw22_IsaFields.f G 61 [I 14, I x1, I x2, I x3, I x4] [] = some (.bool true, []) :=
  run_dn_x G 14 6 2470509568 0 (by decide) rfl rfl rfl (has_14 G 30) (word_14 G) (by decide) (by decide) trivial trivial x1 x2 x3 x4
theorem of_15 (G : Globs) (k : Nat) : isa_of.f G (k + 19) [I 15] [] = some (.tup [IForm ⟨#[99, 109, 112]⟩ 3942645791 false true true false 0, .bool true], []) := by kernel_rfl
theorem has_15 (G : Globs) (k : Nat) : isa_Has.f G (k + 30) [I 15] [] = some (.tup [.bool false, .bool true, .bool true, .bool false, I 0], []) := by kernel_rfl
theorem number_15 (G : Globs) (k : Nat) (D N M : Int) : isa_number.f G (k + 19) [Ins 15 D N M 0 0] [] = some (W32 0, []) := by kernel_rfl
theorem imm_15 (G : Globs) (k : Nat) (D N M A : Int) : isa_imm.f G (k + 18) [Ins 15 D N M A 0, I 0] [] = some (.bool true, []) := by kernel_rfl
theorem stack_15 (G : Globs) (k : Nat) (D N M A : Int) (hD : 0 ≤ D ∧ D < 16) (hN : 0 ≤ N ∧ N < 16) : isa_stack.f G (k + 18) [Ins 15 D N M A 0] [] = some (.bool false, []) := by kernel_rfl
theorem word_15 (G : Globs) : WordOf G 15 3942645791 0 false true true false := by
  intro D N M A hD hN hM hA zD zN zM zA
  have := zA rfl
  subst this
  exact word_true G 40 15 D N M 0 0 ⟨#[99, 109, 112]⟩ 3942645791 (0 ||| (0 : Int).toNat * 1024) false true true false 0 (by decide) (or_lt (by decide) (b32 (nat16 ⟨Int.le_refl 0, by decide⟩)).2.2.1) (of_15 G 40) ⟨hD.1, by omega, zD⟩ ⟨hN.1, by omega, zN⟩ ⟨hM.1, by omega, zM⟩
    (fun _ => by contradiction) (fun _ => rfl) (imm_15 G 40 D N M 0) (stack_15 G 40 D N M 0 hD hN) (number_15 G 40 D N M)
theorem fields_15 (G : Globs) (x1 x2 x3 x4 : Int) : alembiclaw22_IsaFields.f G 61 [I 15, I x1, I x2, I x3, I x4] [] = some (.bool true, []) :=
  run_nm_x G 15 0 3942645791 0 (by decide) rfl rfl rfl (has_15 G 30) (word_15 G) trivial (by decide) (by decide) trivial x1 x2 x3 x4
theorem of_16 (G : Globs) (k : Nat) : isa_of.f G (k + 19) [I 16] [] = some (.tup [IForm ⟨#[99, 115, 101, 108]⟩ 2592079872 true true true true 0, .bool true], []) := by kernel_rfl
theorem has_16 (G : Globs) (k : Nat) : isa_Has.f G (k + 30) [I 16] [] = some (.tup [.bool true, .bool true, .bool true, .bool true, I 0], []) := by kernel_rfl
theorem extra_16 (G : Globs) (k : Nat) (D N M : Int) : isa_extra.f G (k + 18) [Ins 16 D N M 0 0] [] = some (.bool true, []) := by kernel_rfl
theorem number_16 (G : Globs) (k : Nat) (D N M : Int) : isa_number.f G (k + 19) [Ins 16 D N M 0 0] [] = some (W32 0, []) := by kernel_rfl
theorem imm_16 (G : Globs) (k : Nat) (D N M A : Int) : isa_imm.f G (k + 18) [Ins 16 D N M A 0, I 0] [] = some (.bool true, []) := by kernel_rfl
theorem stack_16 (G : Globs) (k : Nat) (D N M A : Int) (hD : 0 ≤ D ∧ D < 16) (hN : 0 ≤ N ∧ N < 16) : isa_stack.f G (k + 18) [Ins 16 D N M A 0] [] = some (.bool false, []) := by kernel_rfl
theorem word_16 (G : Globs) : WordOf G 16 2592079872 0 true true true false := by
  intro D N M A hD hN hM hA zD zN zM zA
  have := zA rfl
  subst this
  exact word_true G 40 16 D N M 0 0 ⟨#[99, 115, 101, 108]⟩ 2592079872 (0 ||| (0 : Int).toNat * 1024) true true true true 0 (by decide) (or_lt (by decide) (b32 (nat16 ⟨Int.le_refl 0, by decide⟩)).2.2.1) (of_16 G 40) ⟨hD.1, by omega, zD⟩ ⟨hN.1, by omega, zN⟩ ⟨hM.1, by omega, zM⟩
    (fun _ => extra_16 G 40 D N M) (fun _ => rfl) (imm_16 G 40 D N M 0) (stack_16 G 40 D N M 0 hD hN) (number_16 G 40 D N M)
theorem fields_16 (G : Globs) (x1 x2 x3 x4 : Int) : alembiclaw22_IsaFields.f G 61 [I 16, I x1, I x2, I x3, I x4] [] = some (.bool true, []) :=
  run_dnma_x G 16 0 2592079872 0 (by decide) rfl rfl rfl (has_16 G 30) (word_16 G) (by decide) (by decide) (by decide) trivial x1 x2 x3 x4
theorem of_17 (G : Globs) (k : Nat) : isa_of.f G (k + 19) [I 17] [] = some (.tup [IForm ⟨#[99, 115, 101, 116]⟩ 2594113504 true false false true 0, .bool true], []) := by kernel_rfl
theorem has_17 (G : Globs) (k : Nat) : isa_Has.f G (k + 30) [I 17] [] = some (.tup [.bool true, .bool false, .bool false, .bool true, I 0], []) := by kernel_rfl
theorem extra_17 (G : Globs) (k : Nat) (D N M : Int) : isa_extra.f G (k + 18) [Ins 17 D N M 0 0] [] = some (.bool true, []) := by kernel_rfl
theorem number_17 (G : Globs) (k : Nat) (D N M : Int) : isa_number.f G (k + 19) [Ins 17 D N M 0 0] [] = some (W32 4096, []) := by kernel_rfl
theorem imm_17 (G : Globs) (k : Nat) (D N M A : Int) : isa_imm.f G (k + 18) [Ins 17 D N M A 0, I 0] [] = some (.bool true, []) := by kernel_rfl
theorem stack_17 (G : Globs) (k : Nat) (D N M A : Int) (hD : 0 ≤ D ∧ D < 16) (hN : 0 ≤ N ∧ N < 16) : isa_stack.f G (k + 18) [Ins 17 D N M A 0] [] = some (.bool false, []) := by kernel_rfl
theorem word_17 (G : Globs) : WordOf G 17 2594113504 4096 true false false false := by
  intro D N M A hD hN hM hA zD zN zM zA
  have := zA rfl
  subst this
  exact word_true G 40 17 D N M 0 0 ⟨#[99, 115, 101, 116]⟩ 2594113504 (4096 ||| (0 : Int).toNat * 1024) true false false true 0 (by decide) (or_lt (by decide) (b32 (nat16 ⟨Int.le_refl 0, by decide⟩)).2.2.1) (of_17 G 40) ⟨hD.1, by omega, zD⟩ ⟨hN.1, by omega, zN⟩ ⟨hM.1, by omega, zM⟩
    (fun _ => extra_17 G 40 D N M) (fun _ => rfl) (imm_17 G 40 D N M 0) (stack_17 G 40 D N M 0 hD hN) (number_17 G 40 D N M)
theorem fields_17 (G : Globs) (x1 x2 x3 x4 : Int) : alembiclaw22_IsaFields.f G 61 [I 17, I x1, I x2, I x3, I x4] [] = some (.bool true, []) :=
  run_da_x G 17 0 2594113504 4096 (by decide) rfl rfl rfl (has_17 G 30) (word_17 G) (by decide) trivial trivial trivial x1 x2 x3 x4
theorem of_18 (G : Globs) (k : Nat) : isa_of.f G (k + 19) [I 18] [] = some (.tup [IForm ⟨#[108, 100, 114]⟩ 4181721088 true true false false 12, .bool true], []) := by kernel_rfl
theorem has_18 (G : Globs) (k : Nat) : isa_Has.f G (k + 30) [I 18] [] = some (.tup [.bool true, .bool true, .bool false, .bool false, I 12], []) := by kernel_rfl
theorem number_18 (G : Globs) (k : Nat) (D N M : Int) : isa_number.f G (k + 19) [Ins 18 D N M 0 0] [] = some (W32 0, []) := by kernel_rfl
theorem imm_18 (G : Globs) (k : Nat) (D N M A : Int) : isa_imm.f G (k + 18) [Ins 18 D N M A 0, I 12] [] = some (.bool true, []) := by kernel_rfl
theorem stack_18 (G : Globs) (k : Nat) (D N M A : Int) (hD : 0 ≤ D ∧ D < 16) (hN : 0 ≤ N ∧ N < 16) : isa_stack.f G (k + 18) [Ins 18 D N M A 0] [] = some (.bool false, []) := by
  have c1 : bin Try.prog .eql 3 true (I D) (.int .i64 31) = some (.bool false) := by rw [bin_eql, decide_eq_false (by omega)]
  have c2 : bin Try.prog .eql 3 true (I N) (.int .i64 31) = some (.bool false) := by rw [bin_eql, decide_eq_false (by omega)]
  rw [isa_stack.step]
  unfold isa_stack.c
  repeat first
    | refine oB (by first | (with_reducible exact rfl) | ((first | (simp only [pu_val, nth_zero, nth_succ, gd_tt, gd_ff, gd_tf, gd_ft, gd_no, pickA_true, pickA_false, un_not, c1, c2]; first | done | (with_reducible exact rfl) | (with_reducible exact ⟨rfl, rfl⟩)) | simp [pu_val, boxRoA, boxA, fieldAddrV, loadV, loadC, storable, AV.cells, extractA, buildRo, buildOwn, fillE, buildSt, fillA, stS, storeV, recell, putC, lenSl, lenStr, idxAddrSl, idxAddrArr, allSome]); first | done | (with_reducible exact rfl) | (with_reducible exact ⟨rfl, rfl⟩))) ?_
    | refine lB (by first | (with_reducible exact rfl) | ((first | (simp only [pu_val, nth_zero, nth_succ, gd_tt, gd_ff, gd_tf, gd_ft, gd_no, pickA_true, pickA_false, un_not, c1, c2]; first | done | (with_reducible exact rfl) | (with_reducible exact ⟨rfl, rfl⟩)) | simp [pu_val, boxRoA, boxA, fieldAddrV, loadV, loadC, storable, AV.cells, extractA, buildRo, buildOwn, fillE, buildSt, fillA, stS, storeV, recell, putC, lenSl, lenStr, idxAddrSl, idxAddrArr, allSome]); first | done | (with_reducible exact rfl) | (with_reducible exact ⟨rfl, rfl⟩))) ?_
    | refine oT ?_
    | refine oN ?_
    | refine oX ?_
    | refine oXn ?_
    | refine oXr ?_
    | exact oF (finV_bool ..)
    | apply oK
    | refine lT ?_
    | refine lN ?_
    | refine lX ?_
    | refine lXn ?_
    | refine lXr ?_
    | apply lK
    | refine oI ?_
    | refine oJ rfl ?_
    | refine lI ?_
    | refine lJ rfl ?_
    | (with_reducible exact rfl)
theorem word_18 (G : Globs) : WordOf G 18 4181721088 0 true true false false := by
  intro D N M A hD hN hM hA zD zN zM zA
  have := zA rfl
  subst this
  exact word_true G 40 18 D N M 0 0 ⟨#[108, 100, 114]⟩ 4181721088 (0 ||| (0 : Int).toNat * 1024) true true false false 12 (by decide) (or_lt (by decide) (b32 (nat16 ⟨Int.le_refl 0, by decide⟩)).2.2.1) (of_18 G 40) ⟨hD.1, by omega, zD⟩ ⟨hN.1, by omega, zN⟩ ⟨hM.1, by omega, zM⟩
    (fun _ => by contradiction) (fun _ => rfl) (imm_18 G 40 D N M 0) (stack_18 G 40 D N M 0 hD hN) (number_18 G 40 D N M)
theorem fields_18 (G : Globs) (x1 x2 x3 x4 : Int) : alembiclaw22_IsaFields.f G 61 [I 18, I x1, I x2, I x3, I x4] [] = some (.bool true, []) :=
  run_dn_x G 18 12 4181721088 0 (by decide) rfl rfl rfl (has_18 G 30) (word_18 G) (by decide) (by decide) trivial trivial x1 x2 x3 x4
theorem of_19 (G : Globs) (k : Nat) : isa_of.f G (k + 19) [I 19] [] = some (.tup [IForm ⟨#[115, 116, 114]⟩ 4177526784 true true false false 12, .bool true], []) := by kernel_rfl
theorem has_19 (G : Globs) (k : Nat) : isa_Has.f G (k + 30) [I 19] [] = some (.tup [.bool true, .bool true, .bool false, .bool false, I 12], []) := by kernel_rfl
theorem number_19 (G : Globs) (k : Nat) (D N M : Int) : isa_number.f G (k + 19) [Ins 19 D N M 0 0] [] = some (W32 0, []) := by kernel_rfl
theorem imm_19 (G : Globs) (k : Nat) (D N M A : Int) : isa_imm.f G (k + 18) [Ins 19 D N M A 0, I 12] [] = some (.bool true, []) := by kernel_rfl
theorem stack_19 (G : Globs) (k : Nat) (D N M A : Int) (hD : 0 ≤ D ∧ D < 16) (hN : 0 ≤ N ∧ N < 16) : isa_stack.f G (k + 18) [Ins 19 D N M A 0] [] = some (.bool false, []) := by
  have c1 : bin Try.prog .eql 3 true (I D) (.int .i64 31) = some (.bool false) := by rw [bin_eql, decide_eq_false (by omega)]
  have c2 : bin Try.prog .eql 3 true (I N) (.int .i64 31) = some (.bool false) := by rw [bin_eql, decide_eq_false (by omega)]
  rw [isa_stack.step]
  unfold isa_stack.c
  repeat first
    | refine oB (by first | (with_reducible exact rfl) | ((first | (simp only [pu_val, nth_zero, nth_succ, gd_tt, gd_ff, gd_tf, gd_ft, gd_no, pickA_true, pickA_false, un_not, c1, c2]; first | done | (with_reducible exact rfl) | (with_reducible exact ⟨rfl, rfl⟩)) | simp [pu_val, boxRoA, boxA, fieldAddrV, loadV, loadC, storable, AV.cells, extractA, buildRo, buildOwn, fillE, buildSt, fillA, stS, storeV, recell, putC, lenSl, lenStr, idxAddrSl, idxAddrArr, allSome]); first | done | (with_reducible exact rfl) | (with_reducible exact ⟨rfl, rfl⟩))) ?_
    | refine lB (by first | (with_reducible exact rfl) | ((first | (simp only [pu_val, nth_zero, nth_succ, gd_tt, gd_ff, gd_tf, gd_ft, gd_no, pickA_true, pickA_false, un_not, c1, c2]; first | done | (with_reducible exact rfl) | (with_reducible exact ⟨rfl, rfl⟩)) | simp [pu_val, boxRoA, boxA, fieldAddrV, loadV, loadC, storable, AV.cells, extractA, buildRo, buildOwn, fillE, buildSt, fillA, stS, storeV, recell, putC, lenSl, lenStr, idxAddrSl, idxAddrArr, allSome]); first | done | (with_reducible exact rfl) | (with_reducible exact ⟨rfl, rfl⟩))) ?_
    | refine oT ?_
    | refine oN ?_
    | refine oX ?_
    | refine oXn ?_
    | refine oXr ?_
    | exact oF (finV_bool ..)
    | apply oK
    | refine lT ?_
    | refine lN ?_
    | refine lX ?_
    | refine lXn ?_
    | refine lXr ?_
    | apply lK
    | refine oI ?_
    | refine oJ rfl ?_
    | refine lI ?_
    | refine lJ rfl ?_
    | (with_reducible exact rfl)
theorem word_19 (G : Globs) : WordOf G 19 4177526784 0 true true false false := by
  intro D N M A hD hN hM hA zD zN zM zA
  have := zA rfl
  subst this
  exact word_true G 40 19 D N M 0 0 ⟨#[115, 116, 114]⟩ 4177526784 (0 ||| (0 : Int).toNat * 1024) true true false false 12 (by decide) (or_lt (by decide) (b32 (nat16 ⟨Int.le_refl 0, by decide⟩)).2.2.1) (of_19 G 40) ⟨hD.1, by omega, zD⟩ ⟨hN.1, by omega, zN⟩ ⟨hM.1, by omega, zM⟩
    (fun _ => by contradiction) (fun _ => rfl) (imm_19 G 40 D N M 0) (stack_19 G 40 D N M 0 hD hN) (number_19 G 40 D N M)
theorem fields_19 (G : Globs) (x1 x2 x3 x4 : Int) : alembiclaw22_IsaFields.f G 61 [I 19, I x1, I x2, I x3, I x4] [] = some (.bool true, []) :=
  run_dn_x G 19 12 4177526784 0 (by decide) rfl rfl rfl (has_19 G 30) (word_19 G) (by decide) (by decide) trivial trivial x1 x2 x3 x4
theorem of_20 (G : Globs) (k : Nat) : isa_of.f G (k + 19) [I 20] [] = some (.tup [IForm ⟨#[98]⟩ 335544320 false false false false 26, .bool true], []) := by kernel_rfl
theorem has_20 (G : Globs) (k : Nat) : isa_Has.f G (k + 30) [I 20] [] = some (.tup [.bool false, .bool false, .bool false, .bool false, I 26], []) := by kernel_rfl
theorem number_20 (G : Globs) (k : Nat) (D N M : Int) : isa_number.f G (k + 19) [Ins 20 D N M 0 0] [] = some (W32 0, []) := by kernel_rfl
theorem imm_20 (G : Globs) (k : Nat) (D N M A : Int) : isa_imm.f G (k + 18) [Ins 20 D N M A 0, I 26] [] = some (.bool true, []) := by kernel_rfl
theorem stack_20 (G : Globs) (k : Nat) (D N M A : Int) (hD : 0 ≤ D ∧ D < 16) (hN : 0 ≤ N ∧ N < 16) : isa_stack.f G (k + 18) [Ins 20 D N M A 0] [] = some (.bool false, []) := by kernel_rfl
theorem word_20 (G : Globs) : WordOf G 20 335544320 0 false false false false := by
  intro D N M A hD hN hM hA zD zN zM zA
  have := zA rfl
  subst this
  exact word_true G 40 20 D N M 0 0 ⟨#[98]⟩ 335544320 (0 ||| (0 : Int).toNat * 1024) false false false false 26 (by decide) (or_lt (by decide) (b32 (nat16 ⟨Int.le_refl 0, by decide⟩)).2.2.1) (of_20 G 40) ⟨hD.1, by omega, zD⟩ ⟨hN.1, by omega, zN⟩ ⟨hM.1, by omega, zM⟩
    (fun _ => by contradiction) (fun _ => rfl) (imm_20 G 40 D N M 0) (stack_20 G 40 D N M 0 hD hN) (number_20 G 40 D N M)
theorem fields_20 (G : Globs) (x1 x2 x3 x4 : Int) : alembiclaw22_IsaFields.f G 61 [I 20, I x1, I x2, I x3, I x4] [] = some (.bool true, []) :=
  run__x G 20 26 335544320 0 (by decide) rfl rfl rfl (has_20 G 30) (word_20 G) trivial trivial trivial trivial x1 x2 x3 x4
theorem of_21 (G : Globs) (k : Nat) : isa_of.f G (k + 19) [I 21] [] = some (.tup [IForm ⟨#[98, 99, 99]⟩ 1409286144 false false false true 19, .bool true], []) := by kernel_rfl
theorem has_21 (G : Globs) (k : Nat) : isa_Has.f G (k + 30) [I 21] [] = some (.tup [.bool false, .bool false, .bool false, .bool true, I 19], []) := by kernel_rfl
theorem extra_21 (G : Globs) (k : Nat) (D N M : Int) : isa_extra.f G (k + 18) [Ins 21 D N M 0 0] [] = some (.bool true, []) := by kernel_rfl
theorem number_21 (G : Globs) (k : Nat) (D N M : Int) : isa_number.f G (k + 19) [Ins 21 D N M 0 0] [] = some (W32 0, []) := by kernel_rfl
theorem imm_21 (G : Globs) (k : Nat) (D N M A : Int) : isa_imm.f G (k + 18) [Ins 21 D N M A 0, I 19] [] = some (.bool true, []) := by kernel_rfl
theorem stack_21 (G : Globs) (k : Nat) (D N M A : Int) (hD : 0 ≤ D ∧ D < 16) (hN : 0 ≤ N ∧ N < 16) : isa_stack.f G (k + 18) [Ins 21 D N M A 0] [] = some (.bool false, []) := by kernel_rfl
theorem word_21 (G : Globs) : WordOf G 21 1409286144 0 false false false false := by
  intro D N M A hD hN hM hA zD zN zM zA
  have := zA rfl
  subst this
  exact word_true G 40 21 D N M 0 0 ⟨#[98, 99, 99]⟩ 1409286144 (0 ||| (0 : Int).toNat * 1024) false false false true 19 (by decide) (or_lt (by decide) (b32 (nat16 ⟨Int.le_refl 0, by decide⟩)).2.2.1) (of_21 G 40) ⟨hD.1, by omega, zD⟩ ⟨hN.1, by omega, zN⟩ ⟨hM.1, by omega, zM⟩
    (fun _ => extra_21 G 40 D N M) (fun _ => rfl) (imm_21 G 40 D N M 0) (stack_21 G 40 D N M 0 hD hN) (number_21 G 40 D N M)
theorem fields_21 (G : Globs) (x1 x2 x3 x4 : Int) : alembiclaw22_IsaFields.f G 61 [I 21, I x1, I x2, I x3, I x4] [] = some (.bool true, []) :=
  run_a_x G 21 19 1409286144 0 (by decide) rfl rfl rfl (has_21 G 30) (word_21 G) trivial trivial trivial trivial x1 x2 x3 x4
theorem of_22 (G : Globs) (k : Nat) : isa_of.f G (k + 19) [I 22] [] = some (.tup [IForm ⟨#[99, 98, 122]⟩ 3019898880 true false false false 19, .bool true], []) := by kernel_rfl
theorem has_22 (G : Globs) (k : Nat) : isa_Has.f G (k + 30) [I 22] [] = some (.tup [.bool true, .bool false, .bool false, .bool false, I 19], []) := by kernel_rfl
theorem number_22 (G : Globs) (k : Nat) (D N M : Int) : isa_number.f G (k + 19) [Ins 22 D N M 0 0] [] = some (W32 0, []) := by kernel_rfl
theorem imm_22 (G : Globs) (k : Nat) (D N M A : Int) : isa_imm.f G (k + 18) [Ins 22 D N M A 0, I 19] [] = some (.bool true, []) := by kernel_rfl
theorem stack_22 (G : Globs) (k : Nat) (D N M A : Int) (hD : 0 ≤ D ∧ D < 16) (hN : 0 ≤ N ∧ N < 16) : isa_stack.f G (k + 18) [Ins 22 D N M A 0] [] = some (.bool false, []) := by kernel_rfl
theorem word_22 (G : Globs) : WordOf G 22 3019898880 0 true false false false := by
  intro D N M A hD hN hM hA zD zN zM zA
  have := zA rfl
  subst this
  exact word_true G 40 22 D N M 0 0 ⟨#[99, 98, 122]⟩ 3019898880 (0 ||| (0 : Int).toNat * 1024) true false false false 19 (by decide) (or_lt (by decide) (b32 (nat16 ⟨Int.le_refl 0, by decide⟩)).2.2.1) (of_22 G 40) ⟨hD.1, by omega, zD⟩ ⟨hN.1, by omega, zN⟩ ⟨hM.1, by omega, zM⟩
    (fun _ => by contradiction) (fun _ => rfl) (imm_22 G 40 D N M 0) (stack_22 G 40 D N M 0 hD hN) (number_22 G 40 D N M)
theorem fields_22 (G : Globs) (x1 x2 x3 x4 : Int) : alembiclaw22_IsaFields.f G 61 [I 22, I x1, I x2, I x3, I x4] [] = some (.bool true, []) :=
  run_d_x G 22 19 3019898880 0 (by decide) rfl rfl rfl (has_22 G 30) (word_22 G) (by decide) trivial trivial trivial x1 x2 x3 x4
theorem of_23 (G : Globs) (k : Nat) : isa_of.f G (k + 19) [I 23] [] = some (.tup [IForm ⟨#[99, 98, 110, 122]⟩ 3036676096 true false false false 19, .bool true], []) := by kernel_rfl
theorem has_23 (G : Globs) (k : Nat) : isa_Has.f G (k + 30) [I 23] [] = some (.tup [.bool true, .bool false, .bool false, .bool false, I 19], []) := by kernel_rfl
theorem number_23 (G : Globs) (k : Nat) (D N M : Int) : isa_number.f G (k + 19) [Ins 23 D N M 0 0] [] = some (W32 0, []) := by kernel_rfl
theorem imm_23 (G : Globs) (k : Nat) (D N M A : Int) : isa_imm.f G (k + 18) [Ins 23 D N M A 0, I 19] [] = some (.bool true, []) := by kernel_rfl
theorem stack_23 (G : Globs) (k : Nat) (D N M A : Int) (hD : 0 ≤ D ∧ D < 16) (hN : 0 ≤ N ∧ N < 16) : isa_stack.f G (k + 18) [Ins 23 D N M A 0] [] = some (.bool false, []) := by kernel_rfl
theorem word_23 (G : Globs) : WordOf G 23 3036676096 0 true false false false := by
  intro D N M A hD hN hM hA zD zN zM zA
  have := zA rfl
  subst this
  exact word_true G 40 23 D N M 0 0 ⟨#[99, 98, 110, 122]⟩ 3036676096 (0 ||| (0 : Int).toNat * 1024) true false false false 19 (by decide) (or_lt (by decide) (b32 (nat16 ⟨Int.le_refl 0, by decide⟩)).2.2.1) (of_23 G 40) ⟨hD.1, by omega, zD⟩ ⟨hN.1, by omega, zN⟩ ⟨hM.1, by omega, zM⟩
    (fun _ => by contradiction) (fun _ => rfl) (imm_23 G 40 D N M 0) (stack_23 G 40 D N M 0 hD hN) (number_23 G 40 D N M)
theorem fields_23 (G : Globs) (x1 x2 x3 x4 : Int) : alembiclaw22_IsaFields.f G 61 [I 23, I x1, I x2, I x3, I x4] [] = some (.bool true, []) :=
  run_d_x G 23 19 3036676096 0 (by decide) rfl rfl rfl (has_23 G 30) (word_23 G) (by decide) trivial trivial trivial x1 x2 x3 x4
theorem of_24 (G : Globs) (k : Nat) : isa_of.f G (k + 19) [I 24] [] = some (.tup [IForm ⟨#[104, 108, 116]⟩ 3560964096 false false false false 16, .bool true], []) := by kernel_rfl
theorem has_24 (G : Globs) (k : Nat) : isa_Has.f G (k + 30) [I 24] [] = some (.tup [.bool false, .bool false, .bool false, .bool false, I 16], []) := by kernel_rfl
theorem number_24 (G : Globs) (k : Nat) (D N M : Int) : isa_number.f G (k + 19) [Ins 24 D N M 0 0] [] = some (W32 0, []) := by kernel_rfl
theorem imm_24 (G : Globs) (k : Nat) (D N M A : Int) : isa_imm.f G (k + 18) [Ins 24 D N M A 0, I 16] [] = some (.bool true, []) := by kernel_rfl
theorem stack_24 (G : Globs) (k : Nat) (D N M A : Int) (hD : 0 ≤ D ∧ D < 16) (hN : 0 ≤ N ∧ N < 16) : isa_stack.f G (k + 18) [Ins 24 D N M A 0] [] = some (.bool false, []) := by kernel_rfl
theorem word_24 (G : Globs) : WordOf G 24 3560964096 0 false false false false := by
  intro D N M A hD hN hM hA zD zN zM zA
  have := zA rfl
  subst this
  exact word_true G 40 24 D N M 0 0 ⟨#[104, 108, 116]⟩ 3560964096 (0 ||| (0 : Int).toNat * 1024) false false false false 16 (by decide) (or_lt (by decide) (b32 (nat16 ⟨Int.le_refl 0, by decide⟩)).2.2.1) (of_24 G 40) ⟨hD.1, by omega, zD⟩ ⟨hN.1, by omega, zN⟩ ⟨hM.1, by omega, zM⟩
    (fun _ => by contradiction) (fun _ => rfl) (imm_24 G 40 D N M 0) (stack_24 G 40 D N M 0 hD hN) (number_24 G 40 D N M)
theorem fields_24 (G : Globs) (x1 x2 x3 x4 : Int) : alembiclaw22_IsaFields.f G 61 [I 24, I x1, I x2, I x3, I x4] [] = some (.bool true, []) :=
  run__x G 24 16 3560964096 0 (by decide) rfl rfl rfl (has_24 G 30) (word_24 G) trivial trivial trivial trivial x1 x2 x3 x4

theorem fields_none (G : Globs) (o x1 x2 x3 x4 : Int) (h : o < 1 ∨ 24 < o) : alembiclaw22_IsaFields.f G 61 [I o, I x1, I x2, I x3, I x4] [] = some (.bool true, []) := by
  have rf : ∀ H, pureCall (alembiclaw22_first.f G 60) [] H = _ := fun H => pureCall_of (H := H) (first_ok G 30) rfl rfl
  have rh : ∀ H, pureCall (isa_Has.f G 60) [I o] H = _ := fun H => pureCall_of (H := H) (has_none G 45 o h) rfl rfl
  have e10 : bin Try.prog .eql 3 true (I o) (.int .i64 10) = some (.bool false) := by rw [bin_eql, decide_eq_false (by omega)]
  have e11 : bin Try.prog .eql 3 true (I o) (.int .i64 11) = some (.bool false) := by rw [bin_eql, decide_eq_false (by omega)]
  have r0 : ∀ H, pureCall (isa_Word.f G 60) [Ins o 0 0 0 0 0] H = _ := fun H => pureCall_of (H := H) (word_none G 45 o 0 0 0 0 0 h) rfl rfl
  rw [alembiclaw22_IsaFields.step]
  unfold alembiclaw22_IsaFields.c
  repeat first
    | refine oB (by first | (with_reducible exact rfl) | ((first | (simp only [pu_val, nth_zero, nth_succ, gd_tt, gd_ff, gd_tf, gd_ft, gd_no, pickA_true, pickA_false, un_not, rf, rh, e10, e11, r0, Bool.not_true, Bool.not_false]; first | done | (with_reducible exact rfl) | (with_reducible exact ⟨rfl, rfl⟩)) | simp [pu_val, boxRoA, boxA, fieldAddrV, loadV, loadC, storable, AV.cells, extractA, buildRo, buildOwn, fillE, buildSt, fillA, stS, storeV, recell, putC, lenSl, lenStr, idxAddrSl, idxAddrArr, allSome]); first | done | (with_reducible exact rfl) | (with_reducible exact ⟨rfl, rfl⟩))) ?_
    | refine lB (by first | (with_reducible exact rfl) | ((first | (simp only [pu_val, nth_zero, nth_succ, gd_tt, gd_ff, gd_tf, gd_ft, gd_no, pickA_true, pickA_false, un_not, rf, rh, e10, e11, r0, Bool.not_true, Bool.not_false]; first | done | (with_reducible exact rfl) | (with_reducible exact ⟨rfl, rfl⟩)) | simp [pu_val, boxRoA, boxA, fieldAddrV, loadV, loadC, storable, AV.cells, extractA, buildRo, buildOwn, fillE, buildSt, fillA, stS, storeV, recell, putC, lenSl, lenStr, idxAddrSl, idxAddrArr, allSome]); first | done | (with_reducible exact rfl) | (with_reducible exact ⟨rfl, rfl⟩))) ?_
    | refine oT ?_
    | refine oN ?_
    | refine oX ?_
    | refine oXn ?_
    | refine oXr ?_
    | exact oF (finV_bool ..)
    | apply oK
    | refine lT ?_
    | refine lN ?_
    | refine lX ?_
    | refine lXn ?_
    | refine lXr ?_
    | apply lK
    | refine oI ?_
    | refine oJ rfl ?_
    | refine lI ?_
    | refine lJ rfl ?_
    | (with_reducible exact rfl)

theorem LIsaFields.law (xs : List AV) (h : IsTs Try.prog [3, 3, 3, 3, 3] xs) : ∃ k, alembiclaw22_IsaFields.f (sentG 0 []) k xs [] = some (.bool true, []) := by
  obtain ⟨x, _, rfl, hx, h⟩ := h.uncons
  obtain ⟨y1, _, rfl, hy1, h⟩ := h.uncons
  obtain ⟨y2, _, rfl, hy2, h⟩ := h.uncons
  obtain ⟨y3, _, rfl, hy3, h⟩ := h.uncons
  obtain ⟨y4, _, rfl, hy4, h⟩ := h.uncons
  obtain rfl := h.unnil
  obtain ⟨o, rfl, _⟩ := hx.of_int Try.underlying3
  obtain ⟨x1, rfl, _⟩ := hy1.of_int Try.underlying3
  obtain ⟨x2, rfl, _⟩ := hy2.of_int Try.underlying3
  obtain ⟨x3, rfl, _⟩ := hy3.of_int Try.underlying3
  obtain ⟨x4, rfl, _⟩ := hy4.of_int Try.underlying3
  generalize sentG 0 [] = G
  refine ⟨61, ?_⟩
  by_cases hn : o < 1 ∨ 24 < o
  · exact fields_none G o x1 x2 x3 x4 hn
  · have : o = 1 ∨ o = 2 ∨ o = 3 ∨ o = 4 ∨ o = 5 ∨ o = 6 ∨ o = 7 ∨ o = 8 ∨ o = 9 ∨ o = 10 ∨ o = 11 ∨ o = 12 ∨ o = 13 ∨ o = 14 ∨ o = 15 ∨ o = 16 ∨ o = 17 ∨ o = 18 ∨ o = 19 ∨ o = 20 ∨ o = 21 ∨ o = 22 ∨ o = 23 ∨ o = 24 := by omega
    rcases this with rfl | rfl | rfl | rfl | rfl | rfl | rfl | rfl | rfl | rfl | rfl | rfl | rfl | rfl | rfl | rfl | rfl | rfl | rfl | rfl | rfl | rfl | rfl | rfl
    · exact fields_1 G x1 x2 x3 x4
    · exact fields_2 G x1 x2 x3 x4
    · exact fields_3 G x1 x2 x3 x4
    · exact fields_4 G x1 x2 x3 x4
    · exact fields_5 G x1 x2 x3 x4
    · exact fields_6 G x1 x2 x3 x4
    · exact fields_7 G x1 x2 x3 x4
    · exact fields_8 G x1 x2 x3 x4
    · exact fields_9 G x1 x2 x3 x4
    · exact fields_10 G x1 x2 x3 x4
    · exact fields_11 G x1 x2 x3 x4
    · exact fields_12 G x1 x2 x3 x4
    · exact fields_13 G x1 x2 x3 x4
    · exact fields_14 G x1 x2 x3 x4
    · exact fields_15 G x1 x2 x3 x4
    · exact fields_16 G x1 x2 x3 x4
    · exact fields_17 G x1 x2 x3 x4
    · exact fields_18 G x1 x2 x3 x4
    · exact fields_19 G x1 x2 x3 x4
    · exact fields_20 G x1 x2 x3 x4
    · exact fields_21 G x1 x2 x3 x4
    · exact fields_22 G x1 x2 x3 x4
    · exact fields_23 G x1 x2 x3 x4
    · exact fields_24 G x1 x2 x3 x4
end Go.Proofs.Ytofhkjacpjfclaa
