/- What an instruction makes: the document's. -/
import Derived.Test.YtcmblhedhgiofaaDoorWj
namespace Go.Proofs.YtcmblhedhgiofaaDoor.Mir
open Go
set_option linter.unusedVariables false
set_option linter.unusedSimpArgs false
set_option maxHeartbeats 4000000
set_option maxRecDepth 20000

theorem mask63 (n : Nat) (h : n ≤ 63) : bits .and .i64 (n : Int) 63 = (n : Int) := by
  show IntKind.i64.wrap ((BitVec.ofInt 64 (n : Int) &&& BitVec.ofInt 64 63).toNat : Int) = _
  rw [BitVec.toNat_and, ofInt_u64 n (by omega)]
  have e : (BitVec.ofInt 64 (63 : Int)).toNat = 63 := rfl
  have e2 : n &&& 63 = n := by have := Nat.and_two_pow_sub_one_eq_mod n 6; simp at this; omega
  rw [e, e2, wrap_of_i64 (by omega) (by omega)]

theorem rvalue_spec (G : Globs) (k : Nat) (op d a b c n : Int) (x y z : Nat) (hx : x < 18446744073709551616) (hy : y < 18446744073709551616) (hz : z < 18446744073709551616) :
    alembicref17_Value.f G (k + 2) [instV op d a b c n, Un x, Un y, Un z] [] = some (.tup [Un (valF op n x y z).1, .bool (valF op n x y z).2], []) := by
  rw [alembicref17_Value.step]
  unfold alembicref17_Value.c instV
  obtain ⟨w, hw⟩ : ∃ w, w = bits .and .i64 n 63 := ⟨_, rfl⟩
  have k0 : bin Tryd.prog .and 2 true (I6 n) (.int .i64 63) = some (I6 w) := by rw [bin_and, hw]
  obtain ⟨w2, hw2⟩ : ∃ w2, w2 = IntKind.u64.wrap w := ⟨_, rfl⟩
  have k0' : convInt .u64 (I6 w) = some (.int .u64 w2) := by rw [convInt_int, hw2]
  have hw3 : 0 ≤ n → n ≤ 63 → w2 = n := fun h0 h1 => by
    obtain ⟨m, rfl⟩ : ∃ m : Nat, n = (m : Int) := ⟨n.toNat, by omega⟩
    rw [hw2, hw, mask63 m (by omega), wrap_of_u64 (by omega) (by omega)]
  clear hw hw2
  have k1 := conv_u64 .i64 n
  have k3 := u64_add Tryd.prog 48 false x y
  have k4 := u64_sub Tryd.prog 48 false x y hy
  have k5 := u64_mul Tryd.prog 48 false x y
  have k6 : ∀ H, pureCall (math_bits_Mul64.f G (k + 1)) [Un x, Un y] H = _ := fun H => pureCall_of (H := H) (mul64_spec G k x y hx hy) rfl rfl
  have k7 : bin Tryd.prog .and 48 false (Un x) (Un y) = some (Un (x &&& y)) := by rw [bin_and, u64_and x y hx hy]
  have k8 : bin Tryd.prog .or 48 false (Un x) (Un y) = some (Un (x ||| y)) := by rw [bin_or, u64_or x y hx hy]
  have k9 : bin Tryd.prog .xor 48 false (Un x) (Un y) = some (Un (x ^^^ y)) := by rw [bin_xor, u64_xor x y hx hy]
  have k10 : 0 ≤ n → n ≤ 63 → bin Tryd.prog .shl 48 false (Un x) (.int .u64 w2) = some (Un (x * 2 ^ n.toNat % 18446744073709551616)) := fun h0 h1 => by
    have := u64_shl Tryd.prog 48 false .u64 x n.toNat (by omega); rw [Int.toNat_of_nonneg h0] at this; rw [hw3 h0 h1]; exact this
  have k11 : 0 ≤ n → n ≤ 63 → bin Tryd.prog .shr 48 false (Un x) (.int .u64 w2) = some (Un (x / 2 ^ n.toNat)) := fun h0 h1 => by
    have := u64_shr Tryd.prog 48 false .u64 x n.toNat (by omega); rw [Int.toNat_of_nonneg h0] at this; rw [hw3 h0 h1]; exact this
  have k12 := conv_i64 x hx
  have k13 : 0 ≤ n → n ≤ 63 → bin Tryd.prog .shr 2 false (I6 (s64 x)) (.int .u64 w2) = some (I6 ((s64 x).fdiv (2 ^ n.toNat))) := fun h0 h1 => by
    rw [hw3 h0 h1, bin_shr _ _ _ _ _ _ _ h0]
    have e : min n.toNat IntKind.i64.bits = n.toNat := Nat.min_eq_left (by have : IntKind.i64.bits = 64 := rfl; omega)
    rw [e]
  have k14 := conv_u64 .i64 ((s64 x).fdiv (2 ^ n.toNat))
  have hq : u64 ((s64 x).fdiv (2 ^ n.toNat)) = sarF x n.toNat := rfl
  rw [hq] at k14
  clear hw3 hq
  refine e_in ?_
  repeat' first
    | (with_reducible first | refine eT ?_ | refine eN ?_ | refine eS ?_ | refine eXn ?_ | refine eXr ?_ | refine eX ?_ | refine eI ?_ | refine eK ?_ | refine eV0 ?_ | refine eGtt ?_ | refine eGff ?_ | refine eGtf ?_ | refine eGft ?_ | refine eGno ?_)
    | ((with_reducible apply eCn); (simp only [nth_zero, nth_succ]; first | done | (with_reducible exact rfl)))
    | ((with_reducible apply eJ); (rfl))
    | ((with_reducible apply eB); (first | (with_reducible exact rfl) | (simp (disch := omega) only [qf, k0, k0', k1, k3, k4, k5, k6, k7, k8, k9, k10, k11, k12, k13, k14]; first | done | (with_reducible exact rfl) | (with_reducible exact ⟨rfl, rfl⟩)) | (simp (disch := omega) only [qa, putC, AV.cells, storable, buildSt, fillA, buildRo, buildOwn, fillE, Nat.reduceLeDiff, Nat.reduceLT, Nat.reduceAdd, ↓reduceIte, k0, k0', k1, k3, k4, k5, k6, k7, k8, k9, k10, k11, k12, k13, k14]; first | done | (with_reducible exact rfl) | (with_reducible exact ⟨rfl, rfl⟩))))
    | ((with_reducible apply eR); (simp only [nth_zero, nth_succ]; (with_reducible exact rfl)))
    | ((with_reducible first | refine sEql ?_ ?_ | refine sNeq ?_ ?_ | refine sLss ?_ ?_ | refine sLeq ?_ ?_ | refine sGtr ?_ ?_ | refine sGeq ?_ ?_ | refine sNot ?_ ?_ | refine sPick ?_ ?_ | refine sGd ?_ ?_ | refine eBool ?_ ?_) <;> intro hq <;> try subst hq)
  all_goals first | (refine w2b ?_ ?_ <;> ((try simp (disch := omega) only [valF, shiftF, if_pos, if_neg, if_true, if_false, ↓reduceIte]) <;> first | done | rfl | omega)) | (by_cases h10 : op = 10 ∨ op = 11 ∨ op = 12 <;> refine w2b ?_ ?_ <;> ((try simp (disch := omega) only [valF, shiftF, if_pos, if_neg, if_true, if_false, ↓reduceIte]) <;> first | done | rfl | omega))
end Go.Proofs.YtcmblhedhgiofaaDoor.Mir
