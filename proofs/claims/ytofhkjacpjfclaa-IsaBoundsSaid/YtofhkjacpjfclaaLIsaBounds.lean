/- The law of IsaBounds, in plain Lean. -/
import Derived.Test.YtofhkjacpjfclaaMirY
import Derived.Test.YtofhkjacpjfclaaMirZ
import Derived.Test.YtofhkjacpjfclaaIsFun
import Derived.KernelRfl
namespace Go.Proofs.Ytofhkjacpjfclaa
open Go Mir
set_option linter.unusedVariables false
set_option linter.unusedSimpArgs false

theorem first_ok (G : Globs) (k : Nat) : alembiclaw22_first.f G (k + 30) [] [] = some (.bool true, []) := by kernel_rfl
theorem bounds_1 (G : Globs) (k : Nat) : alembiclaw22_IsaBounds.f G (k + 40) [.int .i64 1] [] = some (.bool true, []) := by kernel_rfl
theorem bounds_2 (G : Globs) (k : Nat) : alembiclaw22_IsaBounds.f G (k + 40) [.int .i64 2] [] = some (.bool true, []) := by kernel_rfl
theorem bounds_3 (G : Globs) (k : Nat) : alembiclaw22_IsaBounds.f G (k + 40) [.int .i64 3] [] = some (.bool true, []) := by kernel_rfl
theorem bounds_4 (G : Globs) (k : Nat) : alembiclaw22_IsaBounds.f G (k + 40) [.int .i64 4] [] = some (.bool true, []) := by kernel_rfl
theorem bounds_5 (G : Globs) (k : Nat) : alembiclaw22_IsaBounds.f G (k + 40) [.int .i64 5] [] = some (.bool true, []) := by kernel_rfl
theorem bounds_6 (G : Globs) (k : Nat) : alembiclaw22_IsaBounds.f G (k + 40) [.int .i64 6] [] = some (.bool true, []) := by kernel_rfl
theorem bounds_7 (G : Globs) (k : Nat) : alembiclaw22_IsaBounds.f G (k + 40) [.int .i64 7] [] = some (.bool true, []) := by kernel_rfl
theorem bounds_8 (G : Globs) (k : Nat) : alembiclaw22_IsaBounds.f G (k + 40) [.int .i64 8] [] = some (.bool true, []) := by kernel_rfl
theorem bounds_9 (G : Globs) (k : Nat) : alembiclaw22_IsaBounds.f G (k + 40) [.int .i64 9] [] = some (.bool true, []) := by kernel_rfl
theorem bounds_10 (G : Globs) (k : Nat) : alembiclaw22_IsaBounds.f G (k + 40) [.int .i64 10] [] = some (.bool true, []) := by kernel_rfl
theorem bounds_11 (G : Globs) (k : Nat) : alembiclaw22_IsaBounds.f G (k + 40) [.int .i64 11] [] = some (.bool true, []) := by kernel_rfl
theorem bounds_12 (G : Globs) (k : Nat) : alembiclaw22_IsaBounds.f G (k + 40) [.int .i64 12] [] = some (.bool true, []) := by kernel_rfl
theorem bounds_13 (G : Globs) (k : Nat) : alembiclaw22_IsaBounds.f G (k + 40) [.int .i64 13] [] = some (.bool true, []) := by kernel_rfl
theorem bounds_14 (G : Globs) (k : Nat) : alembiclaw22_IsaBounds.f G (k + 40) [.int .i64 14] [] = some (.bool true, []) := by kernel_rfl
theorem bounds_15 (G : Globs) (k : Nat) : alembiclaw22_IsaBounds.f G (k + 40) [.int .i64 15] [] = some (.bool true, []) := by kernel_rfl
theorem bounds_16 (G : Globs) (k : Nat) : alembiclaw22_IsaBounds.f G (k + 40) [.int .i64 16] [] = some (.bool true, []) := by kernel_rfl
theorem bounds_17 (G : Globs) (k : Nat) : alembiclaw22_IsaBounds.f G (k + 40) [.int .i64 17] [] = some (.bool true, []) := by kernel_rfl
theorem bounds_18 (G : Globs) (k : Nat) : alembiclaw22_IsaBounds.f G (k + 40) [.int .i64 18] [] = some (.bool true, []) := by kernel_rfl
theorem bounds_19 (G : Globs) (k : Nat) : alembiclaw22_IsaBounds.f G (k + 40) [.int .i64 19] [] = some (.bool true, []) := by kernel_rfl
theorem bounds_20 (G : Globs) (k : Nat) : alembiclaw22_IsaBounds.f G (k + 40) [.int .i64 20] [] = some (.bool true, []) := by kernel_rfl
theorem bounds_21 (G : Globs) (k : Nat) : alembiclaw22_IsaBounds.f G (k + 40) [.int .i64 21] [] = some (.bool true, []) := by kernel_rfl
theorem bounds_22 (G : Globs) (k : Nat) : alembiclaw22_IsaBounds.f G (k + 40) [.int .i64 22] [] = some (.bool true, []) := by kernel_rfl
theorem bounds_23 (G : Globs) (k : Nat) : alembiclaw22_IsaBounds.f G (k + 40) [.int .i64 23] [] = some (.bool true, []) := by kernel_rfl
theorem bounds_24 (G : Globs) (k : Nat) : alembiclaw22_IsaBounds.f G (k + 40) [.int .i64 24] [] = some (.bool true, []) := by kernel_rfl

abbrev none39 : AV := .agg [(.str ⟨#[]⟩), (.int .u32 0), (.bool false), (.bool false), (.bool false), (.bool false), (.int .i64 0)]
theorem fin39 (H : AHeap) : finV [none39, .bool false] 0 H = some (.ret, [.tup [none39, .bool false]], []) := finV_two rfl rfl H
theorem plain_none (G : Globs) (k : Nat) (n : Int) (h : n < 1 ∨ 24 < n) : isa_plain.f G (k + 5) [.int .i64 n] [] = some (.tup [none39, .bool false], []) := by
  have e : ∀ m : Int, 1 ≤ m → m ≤ 24 → decide (n = m) = false := fun m h1 h2 => decide_eq_false (by omega)
  rw [isa_plain.step]
  unfold isa_plain.c
  repeat first
    | refine oB (by first | (with_reducible exact rfl) | (simp [pu_val, boxRoA, boxA, fieldAddrV, loadV, loadC, storable, AV.cells, extractA, buildRo, buildOwn, fillE, buildSt, fillA, stS, storeV, recell, putC, lenSl, lenStr, idxAddrSl, idxAddrArr, allSome, e]; first | done | (with_reducible exact rfl) | (with_reducible exact ⟨rfl, rfl⟩))) ?_
    | refine lB (by first | (with_reducible exact rfl) | (simp [pu_val, boxRoA, boxA, fieldAddrV, loadV, loadC, storable, AV.cells, extractA, buildRo, buildOwn, fillE, buildSt, fillA, stS, storeV, recell, putC, lenSl, lenStr, idxAddrSl, idxAddrArr, allSome, e]; first | done | (with_reducible exact rfl) | (with_reducible exact ⟨rfl, rfl⟩))) ?_
    | refine oT ?_
    | refine oN ?_
    | refine oX ?_
    | refine oXn ?_
    | refine oXr ?_
    | exact oF (finV_bool ..)
    | apply oK
    | refine lT ?_
    | refine lN ?_
    | refine lX ?_
    | refine lXn ?_
    | refine lXr ?_
    | apply lK
    | (with_reducible exact rfl)
  exact oF (fin39 _)
theorem of_none (G : Globs) (k : Nat) (n : Int) (h : n < 1 ∨ 24 < n) : isa_of.f G (k + 10) [.int .i64 n] [] = some (.tup [none39, .bool false], []) := by
  have e : ∀ m : Int, 1 ≤ m → m ≤ 24 → decide (n = m) = false := fun m h1 h2 => decide_eq_false (by omega)
  have r : ∀ H, pureCall (isa_plain.f G (k + 9)) [.int .i64 n] H = _ := fun H => pureCall_of (H := H) (plain_none G (k + 4) n h) rfl rfl
  rw [isa_of.step]
  unfold isa_of.c
  repeat first
    | refine oB (by first | (with_reducible exact rfl) | (simp [pu_val, boxRoA, boxA, fieldAddrV, loadV, loadC, storable, AV.cells, extractA, buildRo, buildOwn, fillE, buildSt, fillA, stS, storeV, recell, putC, lenSl, lenStr, idxAddrSl, idxAddrArr, allSome, e, r]; first | done | (with_reducible exact rfl) | (with_reducible exact ⟨rfl, rfl⟩))) ?_
    | refine lB (by first | (with_reducible exact rfl) | (simp [pu_val, boxRoA, boxA, fieldAddrV, loadV, loadC, storable, AV.cells, extractA, buildRo, buildOwn, fillE, buildSt, fillA, stS, storeV, recell, putC, lenSl, lenStr, idxAddrSl, idxAddrArr, allSome, e, r]; first | done | (with_reducible exact rfl) | (with_reducible exact ⟨rfl, rfl⟩))) ?_
    | refine oT ?_
    | refine oN ?_
    | refine oX ?_
    | refine oXn ?_
    | refine oXr ?_
    | exact oF (finV_bool ..)
    | apply oK
    | refine lT ?_
    | refine lN ?_
    | refine lX ?_
    | refine lXn ?_
    | refine lXr ?_
    | apply lK
    | (with_reducible exact rfl)
  refine oF ?_
  simp [pu_val, boxRoA, boxA, fieldAddrV, loadV, loadC, storable, AV.cells, extractA, buildRo, buildOwn, fillE, buildSt, fillA, stS, storeV, recell, putC, lenSl, lenStr, idxAddrSl, idxAddrArr, allSome, finL, fin39]

theorem has_none (G : Globs) (k : Nat) (n : Int) (h : n < 1 ∨ 24 < n) : isa_Has.f G (k + 15) [.int .i64 n] [] = some (.tup [.bool false, .bool false, .bool false, .bool false, .int .i64 0], []) := by
  have r : ∀ H, pureCall (isa_of.f G (k + 14)) [.int .i64 n] H = _ := fun H => pureCall_of (H := H) (of_none G (k + 4) n h) rfl rfl
  rw [isa_Has.step]
  unfold isa_Has.c
  repeat first
    | refine oB (by first | (with_reducible exact rfl) | (simp [pu_val, boxRoA, boxA, fieldAddrV, loadV, loadC, storable, AV.cells, extractA, buildRo, buildOwn, fillE, buildSt, fillA, stS, storeV, recell, putC, lenSl, lenStr, idxAddrSl, idxAddrArr, allSome, r]; first | done | (with_reducible exact rfl) | (with_reducible exact ⟨rfl, rfl⟩))) ?_
    | refine lB (by first | (with_reducible exact rfl) | (simp [pu_val, boxRoA, boxA, fieldAddrV, loadV, loadC, storable, AV.cells, extractA, buildRo, buildOwn, fillE, buildSt, fillA, stS, storeV, recell, putC, lenSl, lenStr, idxAddrSl, idxAddrArr, allSome, r]; first | done | (with_reducible exact rfl) | (with_reducible exact ⟨rfl, rfl⟩))) ?_
    | refine oT ?_
    | refine oN ?_
    | refine oX ?_
    | refine oXn ?_
    | refine oXr ?_
    | exact oF (finV_bool ..)
    | apply oK
    | refine lT ?_
    | refine lN ?_
    | refine lX ?_
    | refine lXn ?_
    | refine lXr ?_
    | apply lK
    | (with_reducible exact rfl)
  refine oF ?_
  simp [finV, packR, frz, belowB, belowL, cutH_zero]
theorem word_none (G : Globs) (k : Nat) (n a b c d e : Int) (h : n < 1 ∨ 24 < n) : isa_Word.f G (k + 15) [.agg [.int .i64 n, .int .i64 a, .int .i64 b, .int .i64 c, .int .i64 d, .int .i64 e]] [] = some (.tup [.int .u32 0, .bool false], []) := by
  have r : ∀ H, pureCall (isa_of.f G (k + 14)) [.int .i64 n] H = _ := fun H => pureCall_of (H := H) (of_none G (k + 4) n h) rfl rfl
  rw [isa_Word.step]
  unfold isa_Word.c
  repeat first
    | refine oB (by first | (with_reducible exact rfl) | (simp [pu_val, boxRoA, boxA, fieldAddrV, loadV, loadC, storable, AV.cells, extractA, buildRo, buildOwn, fillE, buildSt, fillA, stS, storeV, recell, putC, lenSl, lenStr, idxAddrSl, idxAddrArr, allSome, r]; first | done | (with_reducible exact rfl) | (with_reducible exact ⟨rfl, rfl⟩))) ?_
    | refine lB (by first | (with_reducible exact rfl) | (simp [pu_val, boxRoA, boxA, fieldAddrV, loadV, loadC, storable, AV.cells, extractA, buildRo, buildOwn, fillE, buildSt, fillA, stS, storeV, recell, putC, lenSl, lenStr, idxAddrSl, idxAddrArr, allSome, r]; first | done | (with_reducible exact rfl) | (with_reducible exact ⟨rfl, rfl⟩))) ?_
    | refine oT ?_
    | refine oN ?_
    | refine oX ?_
    | refine oXn ?_
    | refine oXr ?_
    | exact oF (finV_bool ..)
    | apply oK
    | refine lT ?_
    | refine lN ?_
    | refine lX ?_
    | refine lXn ?_
    | refine lXr ?_
    | apply lK
    | (with_reducible exact rfl)
  exact oF (finV_two rfl rfl _)

theorem LIsaBounds.law (xs : List AV) (h : IsTs Try.prog [3] xs) : ∃ k, alembiclaw22_IsaBounds.f (sentG 0 []) k xs [] = some (.bool true, []) := by
  obtain ⟨x, _, rfl, hx, h⟩ := h.uncons
  obtain rfl := h.unnil
  obtain ⟨n, rfl, hw⟩ := hx.of_int Try.underlying3
  generalize sentG 0 [] = G
  by_cases hn : n < 1 ∨ 24 < n
  · refine ⟨41, ?_⟩
    have rf : ∀ H, pureCall (alembiclaw22_first.f G 40) [] H = _ := fun H => pureCall_of (H := H) (first_ok G 10) rfl rfl
    have rh : ∀ H, pureCall (isa_Has.f G 40) [.int .i64 n] H = _ := fun H => pureCall_of (H := H) (has_none G 25 n hn) rfl rfl
    have rw' : ∀ H, pureCall (isa_Word.f G 40) [.agg [.int .i64 n, .int .i64 0, .int .i64 0, .int .i64 0, .int .i64 0, .int .i64 0]] H = _ := fun H => pureCall_of (H := H) (word_none G 25 n 0 0 0 0 0 hn) rfl rfl
    have e : ∀ m : Int, 1 ≤ m → m ≤ 24 → decide (n = m) = false := fun m h1 h2 => decide_eq_false (by omega)
    rw [alembiclaw22_IsaBounds.step]
    unfold alembiclaw22_IsaBounds.c
    have hc : (decide (1 ≤ n) = true ∧ decide (n ≤ 24) = false) ∨ (decide (1 ≤ n) = false) := by
      rcases hn with hn | hn
      · right; exact decide_eq_false (by omega)
      · left; exact ⟨decide_eq_true (by omega), decide_eq_false (by omega)⟩
    have nb := fun (x y : Bool) => bin_neq_bool (P := Try.prog) (t := 4) Try.underlying4 false x y
    rcases hc with ⟨e1, e2⟩ | e1
    · repeat first
        | refine oB (by first | (with_reducible exact rfl) | (simp [pu_val, boxRoA, boxA, fieldAddrV, loadV, loadC, storable, AV.cells, extractA, buildRo, buildOwn, fillE, buildSt, fillA, stS, storeV, recell, putC, lenSl, lenStr, idxAddrSl, idxAddrArr, allSome, rf, rh, rw', e, e1, e2, nb]; first | done | (with_reducible exact rfl) | (with_reducible exact ⟨rfl, rfl⟩))) ?_
        | refine lB (by first | (with_reducible exact rfl) | (simp [pu_val, boxRoA, boxA, fieldAddrV, loadV, loadC, storable, AV.cells, extractA, buildRo, buildOwn, fillE, buildSt, fillA, stS, storeV, recell, putC, lenSl, lenStr, idxAddrSl, idxAddrArr, allSome, rf, rh, rw', e, e1, e2, nb]; first | done | (with_reducible exact rfl) | (with_reducible exact ⟨rfl, rfl⟩))) ?_
        | refine oT ?_
        | refine oN ?_
        | refine oX ?_
        | refine oXn ?_
        | refine oXr ?_
        | exact oF (finV_bool ..)
        | apply oK
        | refine lT ?_
        | refine lN ?_
        | refine lX ?_
        | refine lXn ?_
        | refine lXr ?_
        | apply lK
        | (with_reducible exact rfl)
    · repeat first
        | refine oB (by first | (with_reducible exact rfl) | (simp [pu_val, boxRoA, boxA, fieldAddrV, loadV, loadC, storable, AV.cells, extractA, buildRo, buildOwn, fillE, buildSt, fillA, stS, storeV, recell, putC, lenSl, lenStr, idxAddrSl, idxAddrArr, allSome, rf, rh, rw', e, e1, nb]; first | done | (with_reducible exact rfl) | (with_reducible exact ⟨rfl, rfl⟩))) ?_
        | refine lB (by first | (with_reducible exact rfl) | (simp [pu_val, boxRoA, boxA, fieldAddrV, loadV, loadC, storable, AV.cells, extractA, buildRo, buildOwn, fillE, buildSt, fillA, stS, storeV, recell, putC, lenSl, lenStr, idxAddrSl, idxAddrArr, allSome, rf, rh, rw', e, e1, nb]; first | done | (with_reducible exact rfl) | (with_reducible exact ⟨rfl, rfl⟩))) ?_
        | refine oT ?_
        | refine oN ?_
        | refine oX ?_
        | refine oXn ?_
        | refine oXr ?_
        | exact oF (finV_bool ..)
        | apply oK
        | refine lT ?_
        | refine lN ?_
        | refine lX ?_
        | refine lXn ?_
        | refine lXr ?_
        | apply lK
        | (with_reducible exact rfl)
  · refine ⟨40, ?_⟩
    have : n = 1 ∨ n = 2 ∨ n = 3 ∨ n = 4 ∨ n = 5 ∨ n = 6 ∨ n = 7 ∨ n = 8 ∨ n = 9 ∨ n = 10 ∨ n = 11 ∨ n = 12 ∨ n = 13 ∨ n = 14 ∨ n = 15 ∨ n = 16 ∨ n = 17 ∨ n = 18 ∨ n = 19 ∨ n = 20 ∨ n = 21 ∨ n = 22 ∨ n = 23 ∨ n = 24 := by omega
    rcases this with rfl | rfl | rfl | rfl | rfl | rfl | rfl | rfl | rfl | rfl | rfl | rfl | rfl | rfl | rfl | rfl | rfl | rfl | rfl | rfl | rfl | rfl | rfl | rfl
    · exact bounds_1 G 0
    · exact bounds_2 G 0
    · exact bounds_3 G 0
    · exact bounds_4 G 0
    · exact bounds_5 G 0
    · exact bounds_6 G 0
    · exact bounds_7 G 0
    · exact bounds_8 G 0
    · exact bounds_9 G 0
    · exact bounds_10 G 0
    · exact bounds_11 G 0
    · exact bounds_12 G 0
    · exact bounds_13 G 0
    · exact bounds_14 G 0
    · exact bounds_15 G 0
    · exact bounds_16 G 0
    · exact bounds_17 G 0
    · exact bounds_18 G 0
    · exact bounds_19 G 0
    · exact bounds_20 G 0
    · exact bounds_21 G 0
    · exact bounds_22 G 0
    · exact bounds_23 G 0
    · exact bounds_24 G 0
end Go.Proofs.Ytofhkjacpjfclaa
