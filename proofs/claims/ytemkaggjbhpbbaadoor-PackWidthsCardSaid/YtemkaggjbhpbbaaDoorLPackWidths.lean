/- The law of PackWidths, in plain Lean. -/
import Derived.Test.YtemkaggjbhpbbaaDoorMirY
import Derived.Test.YtemkaggjbhpbbaaDoorPa
namespace Go.Proofs.YtemkaggjbhpbbaaDoor
open Go Mir
set_option linter.unusedVariables false
set_option linter.unusedSimpArgs false

theorem LPackWidths.law (xs : List AV) (h : IsTs Tryd.prog [3] xs) : ∃ k, alembiclaw6_PackWidths.f (sentG 72 [0, 1]) k xs [] = some (.bool true, []) := by
  obtain ⟨x, _, rfl, hx, h⟩ := h.uncons
  obtain rfl := h.unnil
  obtain ⟨n, rfl, hw⟩ := hx.of_int Tryd.underlying3
  obtain ⟨h1, h2⟩ := wf_i64 hw
  refine ⟨31, ?_⟩
  generalize sentG 72 [0, 1] = G
  rw [alembiclaw6_PackWidths.step]
  unfold alembiclaw6_PackWidths.c
  have hf : alembiclaw6_first.f G 30 [] [] = some (.bool true, []) := first_ok G 0
  have hm : 0 ≤ n % 1099511627776 ∧ n % 1099511627776 < 1099511627776 := by omega
  have hnum : alembicworld_Number.f G 30 [.int .i64 n, .int .i64 1099511627776] [] = some (.int .i64 (n % 1099511627776), []) := number G 29 n 1099511627776 (by omega) (by omega) h1 h2
  generalize n % 1099511627776 = m at hm hnum
  have hw : pack_Width.f G 30 [.int .i64 m] [] = some (.int .i64 (bl m.toNat : Nat), []) := width G 27 m (by omega)
  have hneg : pack_Width.f G 30 [.int .i64 (-1 - m)] [] = some (.int .i64 (bl (-1 - m).toNat : Nat), []) := width G 27 (-1 - m) (by omega)
  obtain ⟨x, rfl⟩ : ∃ x : Nat, m = x := ⟨m.toNat, by omega⟩
  have e0 : bl (-1 - (x : Int)).toNat = 0 := by
    have : (-1 - (x : Int)).toNat = 0 := by omega
    rw [this]; rfl
  have ex : (x : Int).toNat = x := by omega
  rw [e0] at hneg
  rw [ex] at hw
  have hb := bl_spec x
  have hb40 : bl x ≤ 40 := by
    by_cases hx : x = 0
    · subst hx; decide
    · have := bl_low x hx
      have : 2 ^ (bl x - 1) < 2 ^ 40 := by omega
      have := (Nat.pow_lt_pow_iff_right (by decide : 1 < 2)).1 this
      omega
  have sh : ∀ w : Nat, w ≤ 40 → IntKind.i64.wrap (1 * 2 ^ min ((w : Int)).toNat IntKind.i64.bits) = ((2 ^ w : Nat) : Int) := by
    intro w hw
    have h40 : 2 ^ w ≤ 2 ^ 40 := Nat.pow_le_pow_right (by decide) hw
    have e : min ((w : Int)).toNat IntKind.i64.bits = w := by rw [Int.toNat_natCast]; exact Nat.min_eq_left (Nat.le_trans hw (by decide))
    have e2 : (1 * 2 ^ w : Int) = ((2 ^ w : Nat) : Int) := by rw [Int.one_mul]; push_cast; rfl
    rw [e, e2]
    generalize 2 ^ w = q at h40
    exact wrap_of_i64 (by omega) (by omega)
  rw [pureCall_of hf rfl rfl]
  simp only [bnd_some, un_not, pu_val, Bool.not_true, condA_false]
  rw [pureCall_of hnum rfl rfl]
  simp only [bnd_some]
  rw [pureCall_of hw rfl rfl]
  have g0 : (0 : Int) ≤ (bl x : Nat) := by omega
  have g1 : (x : Int) < ((2 ^ bl x : Nat) : Int) := by exact_mod_cast hb
  have wu : IntKind.u64.wrap ((bl x : Nat) : Int) = ((bl x : Nat) : Int) := wrap_of_u64 (by omega) (by omega)
  have wneg : IntKind.i64.wrap (-1 - (x : Int)) = -1 - (x : Int) := wrap_of_i64 (by omega) (by omega)
  by_cases hx : x = 0
  · subst hx
    have z : ((0 : Nat) : Int) = 0 := rfl
    simp only [bnd_some, gd_tt, gd_ff, gd_tf, gd_ft, gd_no, pu_val, bin_geq, g0, decide_true, pickA_true, convInt_int, wu, bin_shl _ _ _ _ _ _ _ g0, sh _ hb40, bin_lss, g1, bin_eql]
    simp only [show bl 0 = 0 from rfl, bnd_some, gd_tt, gd_ff, gd_tf, gd_ft, gd_no, pu_val, pickA_true, pickA_false, decide_true, decide_false, bin_eql, bin_gtr, bin_sub, wneg, z] 
    rw [z] at wneg hneg
    rw [wneg, pureCall_of hneg rfl rfl]
    simp
  · have hl := bl_low x hx
    have b0 : bl x ≠ 0 := by unfold bl; rw [if_neg hx]; omega
    have wsub : IntKind.i64.wrap (((bl x : Nat) : Int) - 1) = ((bl x - 1 : Nat) : Int) := by rw [wrap_of_i64 (by omega) (by omega)]; omega
    have wu1 : IntKind.u64.wrap ((bl x - 1 : Nat) : Int) = ((bl x - 1 : Nat) : Int) := wrap_of_u64 (by omega) (by omega)
    have g2 : ((2 ^ (bl x - 1) : Nat) : Int) ≤ x := by exact_mod_cast hl
    have g3 : (0 : Int) ≤ ((bl x - 1 : Nat) : Int) := by omega
    have g4 : ¬ ((x : Int) = 0) := by omega
    have g5 : (0 : Int) < x := by omega
    simp only [bnd_some, gd_tt, gd_ff, gd_tf, gd_ft, gd_no, pu_val, bin_geq, g0, decide_true, decide_false, pickA_true, pickA_false, convInt_int, wu, bin_shl _ _ _ _ _ _ _ g0, sh _ hb40, bin_lss, g1, bin_eql, g4, bin_gtr, g5, bin_sub, wsub, wu1,
      bin_shl _ _ _ _ _ _ _ g3, sh (bl x - 1) (by omega), g2, wneg, pureCall_of hneg rfl rfl]
    simp
end Go.Proofs.YtemkaggjbhpbbaaDoor
