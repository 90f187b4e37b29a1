/- IsaFields of each kind of instruction. -/
import Derived.Test.YtofhkjacpjfclaaPa
namespace Go.Proofs.Ytofhkjacpjfclaa
open Go Mir
set_option linter.unusedVariables false
set_option linter.unusedSimpArgs false

theorem first_ok (G : Globs) (k : Nat) : alembiclaw22_first.f G (k + 30) [] [] = some (.bool true, []) := by kernel_rfl
abbrev none39 : AV := .agg [(.str ⟨#[]⟩), (.int .u32 0), (.bool false), (.bool false), (.bool false), (.bool false), (.int .i64 0)]
theorem fin39 (H : AHeap) : finV [none39, .bool false] 0 H = some (.ret, [.tup [none39, .bool false]], []) := finV_two rfl rfl H
theorem plain_none (G : Globs) (k : Nat) (n : Int) (h : n < 1 ∨ 24 < n) : isa_plain.f G (k + 5) [.int .i64 n] [] = some (.tup [none39, .bool false], []) := by
  have e : ∀ m : Int, 1 ≤ m → m ≤ 24 → decide (n = m) = false := fun m h1 h2 => decide_eq_false (by omega)
  rw [isa_plain.step]
  unfold isa_plain.c
  repeat first
    | refine oB (by first | (with_reducible exact rfl) | (simp [pu_val, boxRoA, boxA, fieldAddrV, loadV, loadC, storable, AV.cells, extractA, buildRo, buildOwn, fillE, buildSt, fillA, stS, storeV, recell, putC, lenSl, lenStr, idxAddrSl, idxAddrArr, allSome, e]; first | done | (with_reducible exact rfl) | (with_reducible exact ⟨rfl, rfl⟩))) ?_
    | refine lB (by first | (with_reducible exact rfl) | (simp [pu_val, boxRoA, boxA, fieldAddrV, loadV, loadC, storable, AV.cells, extractA, buildRo, buildOwn, fillE, buildSt, fillA, stS, storeV, recell, putC, lenSl, lenStr, idxAddrSl, idxAddrArr, allSome, e]; first | done | (with_reducible exact rfl) | (with_reducible exact ⟨rfl, rfl⟩))) ?_
    | refine oT ?_
    | refine oN ?_
    | refine oX ?_
    | refine oXn ?_
    | refine oXr ?_
    | exact oF (finV_bool ..)
    | apply oK
    | refine lT ?_
    | refine lN ?_
    | refine lX ?_
    | refine lXn ?_
    | refine lXr ?_
    | apply lK
    | refine oI ?_
    | refine oJ rfl ?_
    | refine lI ?_
    | refine lJ rfl ?_
    | (with_reducible exact rfl)
  exact oF (fin39 _)
theorem of_none (G : Globs) (k : Nat) (n : Int) (h : n < 1 ∨ 24 < n) : isa_of.f G (k + 10) [.int .i64 n] [] = some (.tup [none39, .bool false], []) := by
  have e : ∀ m : Int, 1 ≤ m → m ≤ 24 → decide (n = m) = false := fun m h1 h2 => decide_eq_false (by omega)
  have r : ∀ H, pureCall (isa_plain.f G (k + 9)) [.int .i64 n] H = _ := fun H => pureCall_of (H := H) (plain_none G (k + 4) n h) rfl rfl
  rw [isa_of.step]
  unfold isa_of.c
  repeat first
    | refine oB (by first | (with_reducible exact rfl) | (simp [pu_val, boxRoA, boxA, fieldAddrV, loadV, loadC, storable, AV.cells, extractA, buildRo, buildOwn, fillE, buildSt, fillA, stS, storeV, recell, putC, lenSl, lenStr, idxAddrSl, idxAddrArr, allSome, e, r]; first | done | (with_reducible exact rfl) | (with_reducible exact ⟨rfl, rfl⟩))) ?_
    | refine lB (by first | (with_reducible exact rfl) | (simp [pu_val, boxRoA, boxA, fieldAddrV, loadV, loadC, storable, AV.cells, extractA, buildRo, buildOwn, fillE, buildSt, fillA, stS, storeV, recell, putC, lenSl, lenStr, idxAddrSl, idxAddrArr, allSome, e, r]; first | done | (with_reducible exact rfl) | (with_reducible exact ⟨rfl, rfl⟩))) ?_
    | refine oT ?_
    | refine oN ?_
    | refine oX ?_
    | refine oXn ?_
    | refine oXr ?_
    | exact oF (finV_bool ..)
    | apply oK
    | refine lT ?_
    | refine lN ?_
    | refine lX ?_
    | refine lXn ?_
    | refine lXr ?_
    | apply lK
    | refine oI ?_
    | refine oJ rfl ?_
    | refine lI ?_
    | refine lJ rfl ?_
    | (with_reducible exact rfl)
  refine oF ?_
  simp [pu_val, boxRoA, boxA, fieldAddrV, loadV, loadC, storable, AV.cells, extractA, buildRo, buildOwn, fillE, buildSt, fillA, stS, storeV, recell, putC, lenSl, lenStr, idxAddrSl, idxAddrArr, allSome, finL, fin39]
theorem has_none (G : Globs) (k : Nat) (n : Int) (h : n < 1 ∨ 24 < n) : isa_Has.f G (k + 15) [.int .i64 n] [] = some (.tup [.bool false, .bool false, .bool false, .bool false, .int .i64 0], []) := by
  have r : ∀ H, pureCall (isa_of.f G (k + 14)) [.int .i64 n] H = _ := fun H => pureCall_of (H := H) (of_none G (k + 4) n h) rfl rfl
  rw [isa_Has.step]
  unfold isa_Has.c
  repeat first
    | refine oB (by first | (with_reducible exact rfl) | (simp [pu_val, boxRoA, boxA, fieldAddrV, loadV, loadC, storable, AV.cells, extractA, buildRo, buildOwn, fillE, buildSt, fillA, stS, storeV, recell, putC, lenSl, lenStr, idxAddrSl, idxAddrArr, allSome, r]; first | done | (with_reducible exact rfl) | (with_reducible exact ⟨rfl, rfl⟩))) ?_
    | refine lB (by first | (with_reducible exact rfl) | (simp [pu_val, boxRoA, boxA, fieldAddrV, loadV, loadC, storable, AV.cells, extractA, buildRo, buildOwn, fillE, buildSt, fillA, stS, storeV, recell, putC, lenSl, lenStr, idxAddrSl, idxAddrArr, allSome, r]; first | done | (with_reducible exact rfl) | (with_reducible exact ⟨rfl, rfl⟩))) ?_
    | refine oT ?_
    | refine oN ?_
    | refine oX ?_
    | refine oXn ?_
    | refine oXr ?_
    | exact oF (finV_bool ..)
    | apply oK
    | refine lT ?_
    | refine lN ?_
    | refine lX ?_
    | refine lXn ?_
    | refine lXr ?_
    | apply lK
    | refine oI ?_
    | refine oJ rfl ?_
    | refine lI ?_
    | refine lJ rfl ?_
    | (with_reducible exact rfl)
  refine oF ?_
  simp [finV, packR, frz, belowB, belowL, cutH_zero]
theorem word_none (G : Globs) (k : Nat) (n a b c d e : Int) (h : n < 1 ∨ 24 < n) : isa_Word.f G (k + 15) [.agg [.int .i64 n, .int .i64 a, .int .i64 b, .int .i64 c, .int .i64 d, .int .i64 e]] [] = some (.tup [.int .u32 0, .bool false], []) := by
  have r : ∀ H, pureCall (isa_of.f G (k + 14)) [.int .i64 n] H = _ := fun H => pureCall_of (H := H) (of_none G (k + 4) n h) rfl rfl
  rw [isa_Word.step]
  unfold isa_Word.c
  repeat first
    | refine oB (by first | (with_reducible exact rfl) | (simp [pu_val, boxRoA, boxA, fieldAddrV, loadV, loadC, storable, AV.cells, extractA, buildRo, buildOwn, fillE, buildSt, fillA, stS, storeV, recell, putC, lenSl, lenStr, idxAddrSl, idxAddrArr, allSome, r]; first | done | (with_reducible exact rfl) | (with_reducible exact ⟨rfl, rfl⟩))) ?_
    | refine lB (by first | (with_reducible exact rfl) | (simp [pu_val, boxRoA, boxA, fieldAddrV, loadV, loadC, storable, AV.cells, extractA, buildRo, buildOwn, fillE, buildSt, fillA, stS, storeV, recell, putC, lenSl, lenStr, idxAddrSl, idxAddrArr, allSome, r]; first | done | (with_reducible exact rfl) | (with_reducible exact ⟨rfl, rfl⟩))) ?_
    | refine oT ?_
    | refine oN ?_
    | refine oX ?_
    | refine oXn ?_
    | refine oXr ?_
    | exact oF (finV_bool ..)
    | apply oK
    | refine lT ?_
    | refine lN ?_
    | refine lX ?_
    | refine lXn ?_
    | refine lXr ?_
    | apply lK
    | refine oI ?_
    | refine oJ rfl ?_
    | refine lI ?_
    | refine lJ rfl ?_
    | (with_reducible exact rfl)
  exact oF (finV_two rfl rfl _)

/-- What is known of an instruction's word. -/
abbrev WordOf (G : Globs) (o : Int) (w K0 : Nat) (d n m : Bool) (ma : Bool) : Prop :=
  ∀ D N M A : Int, (0 ≤ D ∧ D < 16) → (0 ≤ N ∧ N < 16) → (0 ≤ M ∧ M < 16) → (0 ≤ A ∧ A < 16) → (d = false → D = 0) → (n = false → N = 0) → (m = false → M = 0) → (ma = false → A = 0) →
    isa_Word.f G 60 [Ins o D N M A 0] [] = some (.tup [W32 ((((w ||| D.toNat) ||| N.toNat * 32) ||| M.toNat * 65536) ||| (K0 ||| A.toNat * 1024)), .bool true], [])
theorem convN (n : Nat) (h : n ≤ 31) : convInt .u32 (I (n : Int)) = some (W32 n) := by
  rw [convInt_int, wrap_of_u32 (by omega) (by omega)]
theorem le31 {x : Int} (h : 0 ≤ x ∧ x < 16) : 0 ≤ x ∧ x ≤ 31 := ⟨h.1, by omega⟩
theorem b32 {x : Nat} (h : x < 16) : x < 2 ^ 32 ∧ x * 32 < 2 ^ 32 ∧ x * 1024 < 2 ^ 32 ∧ x * 65536 < 2 ^ 32 := ⟨by omega, by omega, by omega, by omega⟩
theorem nat16 {x : Int} (h : 0 ≤ x ∧ x < 16) : x.toNat < 16 := by omega

/-- What the two words have of each other. -/
theorem words_x (w K0 : Nat) (D D0 N M A : Int) (hD : 0 ≤ D ∧ D < 16) (hD0 : 0 ≤ D0 ∧ D0 < 16) (hN : 0 ≤ N ∧ N < 16) (hM : 0 ≤ M ∧ M < 16) (hA : 0 ≤ A ∧ A < 16)
    (tD : (w ||| K0) &&& 15 = 0 ∨ (D = 0 ∧ D0 = 0)) (tN : (w ||| K0) &&& 480 = 0 ∨ N = 0) (tM : (w ||| K0) &&& 983040 = 0 ∨ M = 0) (tA : (w ||| K0) &&& 15360 = 0 ∨ A = 0) :
    ((((w ||| D.toNat) ||| N.toNat * 32) ||| M.toNat * 65536) ||| (K0 ||| A.toNat * 1024)) ^^^ ((((w ||| D0.toNat) ||| (0 : Int).toNat * 32) ||| (0 : Int).toNat * 65536) ||| (K0 ||| (0 : Int).toNat * 1024)) =
    (((D.toNat ^^^ D0.toNat) ||| N.toNat * 32) ||| M.toNat * 65536) ||| A.toNat * 1024 := by
  have h := fields (w ||| K0) D.toNat D0.toNat N.toNat M.toNat A.toNat (nat16 hD) (nat16 hD0) (nat16 hN) (nat16 hM) (nat16 hA)
    (tD.imp id (fun h => by rw [h.1, h.2]; exact ⟨rfl, rfl⟩)) (tN.imp id (fun h => by rw [h]; rfl)) (tM.imp id (fun h => by rw [h]; rfl)) (tA.imp id (fun h => by rw [h]; rfl))
  rw [← h]
  have e1 : ((((w ||| D.toNat) ||| N.toNat * 32) ||| M.toNat * 65536) ||| (K0 ||| A.toNat * 1024)) = ((((w ||| K0) ||| D.toNat) ||| N.toNat * 32) ||| M.toNat * 65536) ||| A.toNat * 1024 := by
    ac_rfl
  have e2 : ((((w ||| D0.toNat) ||| (0 : Int).toNat * 32) ||| (0 : Int).toNat * 65536) ||| (K0 ||| (0 : Int).toNat * 1024)) = (w ||| K0) ||| D0.toNat := by
    have z : (0 : Int).toNat = 0 := rfl
    simp only [z, Nat.zero_mul, Nat.or_zero]; ac_rfl
  rw [e1, e2]

set_option maxRecDepth 100000 in
set_option maxHeartbeats 4000000 in
theorem run_da_x (G : Globs) (o bt : Int) (w K0 : Nat) (hwK : w < 2 ^ 32 ∧ K0 < 2 ^ 32) (e8 : bin Try.prog .eql 3 true (I o) (.int .i64 8) = some (.bool false)) (e10 : bin Try.prog .eql 3 true (I o) (.int .i64 10) = some (.bool false)) (e11 : bin Try.prog .eql 3 true (I o) (.int .i64 11) = some (.bool false))
    (hh : isa_Has.f G 60 [I o] [] = some (.tup [.bool true, .bool false, .bool false, .bool true, I bt], [])) (hW : WordOf G o w K0 true false false false)
    (tD : (w ||| K0) &&& 15 = 0) (tN : True) (tM : True) (tA : True) (x1 x2 x3 x4 : Int) : alembiclaw22_IsaFields.f G 61 [I o, I x1, I x2, I x3, I x4] [] = some (.bool true, []) := by
  have rf : ∀ H, pureCall (alembiclaw22_first.f G 60) [] H = _ := fun H => pureCall_of (H := H) (first_ok G 30) rfl rfl
  have rh : ∀ H, pureCall (isa_Has.f G 60) [I o] H = _ := fun H => pureCall_of (H := H) hh rfl rfl
  have z16 : (0 : Int) ≤ 0 ∧ (0 : Int) < 16 := ⟨by decide, by decide⟩
  have o16 : (0 : Int) ≤ 1 ∧ (1 : Int) < 16 := ⟨by decide, by decide⟩
  obtain ⟨D, hD, cD⟩ := and15 true x1
  obtain ⟨V, hV⟩ : ∃ V : Nat, V = ((((w ||| (D : Int).toNat) ||| (0 : Int).toNat * 32) ||| (0 : Int).toNat * 65536) ||| (K0 ||| (0 : Int).toNat * 1024)) := ⟨_, rfl⟩
  obtain ⟨U, hU⟩ : ∃ U : Nat, U = ((((w ||| (0 : Int).toNat) ||| (0 : Int).toNat * 32) ||| (0 : Int).toNat * 65536) ||| (K0 ||| (0 : Int).toNat * 1024)) := ⟨_, rfl⟩
  obtain ⟨X, hX⟩ : ∃ X : Nat, X = (D : Int).toNat ^^^ (0 : Int).toNat := ⟨_, rfl⟩
  have w0 : isa_Word.f G 60 [Ins o 0 0 0 0 0] [] = some (.tup [W32 U, .bool true], []) := by
    rw [hU]; exact hW 0 0 0 0 z16 z16 z16 z16 (fun _ => rfl) (fun _ => rfl) (fun _ => rfl) (fun _ => rfl)
  have w1 : isa_Word.f G 60 [Ins o D 0 0 0 0] [] = some (.tup [W32 V, .bool true], []) := by
    rw [hV]; exact hW D 0 0 0 hD z16 z16 z16 (fun h => by cases h) (fun _ => rfl) (fun _ => rfl) (fun _ => rfl)
  have hx : V ^^^ U = ((X ||| (0 : Int).toNat * 32) ||| (0 : Int).toNat * 65536) ||| (0 : Int).toNat * 1024 := by
    rw [hV, hU, hX]; exact words_x w K0 D 0 0 0 0 hD z16 z16 z16 z16 (.inl tD) (.inr rfl) (.inr rfl) (.inr rfl)
  have p1 : bin Try.prog .xor 3 false (I D) (I 0) = some (I (X : Int)) := by rw [hX]; exact xor64 false D 0 hD z16
  have bx : X < 2 ^ 4 := by rw [hX]; exact Nat.xor_lt_two_pow (nat16 hD) (nat16 z16)
  have bV : V < 2 ^ 32 := by rw [hV]; exact or_lt (or_lt (or_lt (or_lt hwK.1 (b32 (nat16 hD)).1) (b32 (nat16 z16)).2.1) (b32 (nat16 z16)).2.2.2) (or_lt hwK.2 (b32 (nat16 z16)).2.2.1)
  have bU : U < 2 ^ 32 := by rw [hU]; exact or_lt (or_lt (or_lt (or_lt hwK.1 (b32 (nat16 z16)).1) (b32 (nat16 z16)).2.1) (b32 (nat16 z16)).2.2.2) (or_lt hwK.2 (b32 (nat16 z16)).2.2.1)
  clear hV hU hX
  have r0 : ∀ H, pureCall (isa_Word.f G 60) [Ins o 0 0 0 0 0] H = _ := fun H => pureCall_of (H := H) w0 rfl rfl
  have r1 : ∀ H, pureCall (isa_Word.f G 60) [Ins o D 0 0 0 0] H = _ := fun H => pureCall_of (H := H) w1 rfl rfl
  have p2 := convN X (by omega)
  have p3 := conv32 0 (le31 z16)
  have p4 := shl5 (0 : Int).toNat (Nat.le_of_lt_succ (Nat.lt_of_lt_of_le (nat16 z16) (by decide)))
  have l0 : X < 2 ^ 32 := by omega
  have p5 := or32 false X ((0 : Int).toNat * 32) l0 (b32 (nat16 z16)).2.1
  have p6 := conv32 0 (le31 z16)
  have p7 := shl16 (0 : Int).toNat (Nat.le_of_lt_succ (Nat.lt_of_lt_of_le (nat16 z16) (by decide)))
  have l1 : X ||| (0 : Int).toNat * 32 < 2 ^ 32 := or_lt l0 (b32 (nat16 z16)).2.1
  have p8 := or32 false (X ||| (0 : Int).toNat * 32) ((0 : Int).toNat * 65536) l1 (b32 (nat16 z16)).2.2.2
  have p9 := conv32 0 (le31 z16)
  have p10 := shl10 (0 : Int).toNat (Nat.le_of_lt_succ (Nat.lt_of_lt_of_le (nat16 z16) (by decide)))
  have l2 : (X ||| (0 : Int).toNat * 32) ||| (0 : Int).toNat * 65536 < 2 ^ 32 := or_lt l1 (b32 (nat16 z16)).2.2.2
  have p11 := or32 false ((X ||| (0 : Int).toNat * 32) ||| (0 : Int).toNat * 65536) ((0 : Int).toNat * 1024) l2 (b32 (nat16 z16)).2.2.1
  have p12 := xor32 false V U bV bU
  rw [hx] at p12
  obtain ⟨E, hE⟩ : ∃ E : Nat, E = ((X ||| (0 : Int).toNat * 32) ||| (0 : Int).toNat * 65536) ||| (0 : Int).toNat * 1024 := ⟨_, rfl⟩
  rw [← hE] at p11 p12
  have p13 : bin Try.prog .eql 27 false (W32 E) (W32 E) = some (.bool true) := by rw [bin_eql]; simp
  generalize (X ||| (0 : Int).toNat * 32) ||| (0 : Int).toNat * 65536 = Y2 at *
  generalize X ||| (0 : Int).toNat * 32 = Y1 at *
  rw [alembiclaw22_IsaFields.step]
  unfold alembiclaw22_IsaFields.c
  repeat first
    | refine oB (by first | (with_reducible exact rfl) | ((first | (simp only [pu_val, nth_zero, nth_succ, gd_tt, gd_ff, gd_tf, gd_ft, gd_no, pickA_true, pickA_false, un_not, rf, rh, e8, e10, e11, cD, r0, r1, p1, p2, p3, p4, p5, p6, p7, p8, p9, p10, p11, p12, p13, Bool.not_true, Bool.not_false]; first | done | (with_reducible exact rfl) | (with_reducible exact ⟨rfl, rfl⟩)) | simp [pu_val, boxRoA, boxA, fieldAddrV, loadV, loadC, storable, AV.cells, extractA, buildRo, buildOwn, fillE, buildSt, fillA, stS, storeV, recell, putC, lenSl, lenStr, idxAddrSl, idxAddrArr, allSome]); first | done | (with_reducible exact rfl) | (with_reducible exact ⟨rfl, rfl⟩))) ?_
    | refine lB (by first | (with_reducible exact rfl) | ((first | (simp only [pu_val, nth_zero, nth_succ, gd_tt, gd_ff, gd_tf, gd_ft, gd_no, pickA_true, pickA_false, un_not, rf, rh, e8, e10, e11, cD, r0, r1, p1, p2, p3, p4, p5, p6, p7, p8, p9, p10, p11, p12, p13, Bool.not_true, Bool.not_false]; first | done | (with_reducible exact rfl) | (with_reducible exact ⟨rfl, rfl⟩)) | simp [pu_val, boxRoA, boxA, fieldAddrV, loadV, loadC, storable, AV.cells, extractA, buildRo, buildOwn, fillE, buildSt, fillA, stS, storeV, recell, putC, lenSl, lenStr, idxAddrSl, idxAddrArr, allSome]); first | done | (with_reducible exact rfl) | (with_reducible exact ⟨rfl, rfl⟩))) ?_
    | refine oT ?_
    | refine oN ?_
    | refine oX ?_
    | refine oXn ?_
    | refine oXr ?_
    | exact oF (finV_bool ..)
    | apply oK
    | refine lT ?_
    | refine lN ?_
    | refine lX ?_
    | refine lXn ?_
    | refine lXr ?_
    | apply lK
    | refine oI ?_
    | refine oJ rfl ?_
    | refine lI ?_
    | refine lJ rfl ?_
    | (with_reducible exact rfl)

set_option maxRecDepth 100000 in
set_option maxHeartbeats 4000000 in
theorem run_dnm_x (G : Globs) (o bt : Int) (w K0 : Nat) (hwK : w < 2 ^ 32 ∧ K0 < 2 ^ 32) (e8 : bin Try.prog .eql 3 true (I o) (.int .i64 8) = some (.bool false)) (e10 : bin Try.prog .eql 3 true (I o) (.int .i64 10) = some (.bool false)) (e11 : bin Try.prog .eql 3 true (I o) (.int .i64 11) = some (.bool false))
    (hh : isa_Has.f G 60 [I o] [] = some (.tup [.bool true, .bool true, .bool true, .bool false, I bt], [])) (hW : WordOf G o w K0 true true true false)
    (tD : (w ||| K0) &&& 15 = 0) (tN : (w ||| K0) &&& 480 = 0) (tM : (w ||| K0) &&& 983040 = 0) (tA : True) (x1 x2 x3 x4 : Int) : alembiclaw22_IsaFields.f G 61 [I o, I x1, I x2, I x3, I x4] [] = some (.bool true, []) := by
  have rf : ∀ H, pureCall (alembiclaw22_first.f G 60) [] H = _ := fun H => pureCall_of (H := H) (first_ok G 30) rfl rfl
  have rh : ∀ H, pureCall (isa_Has.f G 60) [I o] H = _ := fun H => pureCall_of (H := H) hh rfl rfl
  have z16 : (0 : Int) ≤ 0 ∧ (0 : Int) < 16 := ⟨by decide, by decide⟩
  have o16 : (0 : Int) ≤ 1 ∧ (1 : Int) < 16 := ⟨by decide, by decide⟩
  obtain ⟨D, hD, cD⟩ := and15 true x1
  obtain ⟨N, hN, cN⟩ := and15 true x2
  obtain ⟨M, hM, cM⟩ := and15 true x3
  obtain ⟨V, hV⟩ : ∃ V : Nat, V = ((((w ||| (D : Int).toNat) ||| (N : Int).toNat * 32) ||| (M : Int).toNat * 65536) ||| (K0 ||| (0 : Int).toNat * 1024)) := ⟨_, rfl⟩
  obtain ⟨U, hU⟩ : ∃ U : Nat, U = ((((w ||| (0 : Int).toNat) ||| (0 : Int).toNat * 32) ||| (0 : Int).toNat * 65536) ||| (K0 ||| (0 : Int).toNat * 1024)) := ⟨_, rfl⟩
  obtain ⟨X, hX⟩ : ∃ X : Nat, X = (D : Int).toNat ^^^ (0 : Int).toNat := ⟨_, rfl⟩
  have w0 : isa_Word.f G 60 [Ins o 0 0 0 0 0] [] = some (.tup [W32 U, .bool true], []) := by
    rw [hU]; exact hW 0 0 0 0 z16 z16 z16 z16 (fun _ => rfl) (fun _ => rfl) (fun _ => rfl) (fun _ => rfl)
  have w1 : isa_Word.f G 60 [Ins o D N M 0 0] [] = some (.tup [W32 V, .bool true], []) := by
    rw [hV]; exact hW D N M 0 hD hN hM z16 (fun h => by cases h) (fun h => by cases h) (fun h => by cases h) (fun _ => rfl)
  have hx : V ^^^ U = ((X ||| (N : Int).toNat * 32) ||| (M : Int).toNat * 65536) ||| (0 : Int).toNat * 1024 := by
    rw [hV, hU, hX]; exact words_x w K0 D 0 N M 0 hD z16 hN hM z16 (.inl tD) (.inl tN) (.inl tM) (.inr rfl)
  have p1 : bin Try.prog .xor 3 false (I D) (I 0) = some (I (X : Int)) := by rw [hX]; exact xor64 false D 0 hD z16
  have bx : X < 2 ^ 4 := by rw [hX]; exact Nat.xor_lt_two_pow (nat16 hD) (nat16 z16)
  have bV : V < 2 ^ 32 := by rw [hV]; exact or_lt (or_lt (or_lt (or_lt hwK.1 (b32 (nat16 hD)).1) (b32 (nat16 hN)).2.1) (b32 (nat16 hM)).2.2.2) (or_lt hwK.2 (b32 (nat16 z16)).2.2.1)
  have bU : U < 2 ^ 32 := by rw [hU]; exact or_lt (or_lt (or_lt (or_lt hwK.1 (b32 (nat16 z16)).1) (b32 (nat16 z16)).2.1) (b32 (nat16 z16)).2.2.2) (or_lt hwK.2 (b32 (nat16 z16)).2.2.1)
  clear hV hU hX
  have r0 : ∀ H, pureCall (isa_Word.f G 60) [Ins o 0 0 0 0 0] H = _ := fun H => pureCall_of (H := H) w0 rfl rfl
  have r1 : ∀ H, pureCall (isa_Word.f G 60) [Ins o D N M 0 0] H = _ := fun H => pureCall_of (H := H) w1 rfl rfl
  have p2 := convN X (by omega)
  have p3 := conv32 N (le31 hN)
  have p4 := shl5 (N : Int).toNat (Nat.le_of_lt_succ (Nat.lt_of_lt_of_le (nat16 hN) (by decide)))
  have l0 : X < 2 ^ 32 := by omega
  have p5 := or32 false X ((N : Int).toNat * 32) l0 (b32 (nat16 hN)).2.1
  have p6 := conv32 M (le31 hM)
  have p7 := shl16 (M : Int).toNat (Nat.le_of_lt_succ (Nat.lt_of_lt_of_le (nat16 hM) (by decide)))
  have l1 : X ||| (N : Int).toNat * 32 < 2 ^ 32 := or_lt l0 (b32 (nat16 hN)).2.1
  have p8 := or32 false (X ||| (N : Int).toNat * 32) ((M : Int).toNat * 65536) l1 (b32 (nat16 hM)).2.2.2
  have p9 := conv32 0 (le31 z16)
  have p10 := shl10 (0 : Int).toNat (Nat.le_of_lt_succ (Nat.lt_of_lt_of_le (nat16 z16) (by decide)))
  have l2 : (X ||| (N : Int).toNat * 32) ||| (M : Int).toNat * 65536 < 2 ^ 32 := or_lt l1 (b32 (nat16 hM)).2.2.2
  have p11 := or32 false ((X ||| (N : Int).toNat * 32) ||| (M : Int).toNat * 65536) ((0 : Int).toNat * 1024) l2 (b32 (nat16 z16)).2.2.1
  have p12 := xor32 false V U bV bU
  rw [hx] at p12
  obtain ⟨E, hE⟩ : ∃ E : Nat, E = ((X ||| (N : Int).toNat * 32) ||| (M : Int).toNat * 65536) ||| (0 : Int).toNat * 1024 := ⟨_, rfl⟩
  rw [← hE] at p11 p12
  have p13 : bin Try.prog .eql 27 false (W32 E) (W32 E) = some (.bool true) := by rw [bin_eql]; simp
  generalize (X ||| (N : Int).toNat * 32) ||| (M : Int).toNat * 65536 = Y2 at *
  generalize X ||| (N : Int).toNat * 32 = Y1 at *
  rw [alembiclaw22_IsaFields.step]
  unfold alembiclaw22_IsaFields.c
  repeat first
    | refine oB (by first | (with_reducible exact rfl) | ((first | (simp only [pu_val, nth_zero, nth_succ, gd_tt, gd_ff, gd_tf, gd_ft, gd_no, pickA_true, pickA_false, un_not, rf, rh, e8, e10, e11, cD, cN, cM, r0, r1, p1, p2, p3, p4, p5, p6, p7, p8, p9, p10, p11, p12, p13, Bool.not_true, Bool.not_false]; first | done | (with_reducible exact rfl) | (with_reducible exact ⟨rfl, rfl⟩)) | simp [pu_val, boxRoA, boxA, fieldAddrV, loadV, loadC, storable, AV.cells, extractA, buildRo, buildOwn, fillE, buildSt, fillA, stS, storeV, recell, putC, lenSl, lenStr, idxAddrSl, idxAddrArr, allSome]); first | done | (with_reducible exact rfl) | (with_reducible exact ⟨rfl, rfl⟩))) ?_
    | refine lB (by first | (with_reducible exact rfl) | ((first | (simp only [pu_val, nth_zero, nth_succ, gd_tt, gd_ff, gd_tf, gd_ft, gd_no, pickA_true, pickA_false, un_not, rf, rh, e8, e10, e11, cD, cN, cM, r0, r1, p1, p2, p3, p4, p5, p6, p7, p8, p9, p10, p11, p12, p13, Bool.not_true, Bool.not_false]; first | done | (with_reducible exact rfl) | (with_reducible exact ⟨rfl, rfl⟩)) | simp [pu_val, boxRoA, boxA, fieldAddrV, loadV, loadC, storable, AV.cells, extractA, buildRo, buildOwn, fillE, buildSt, fillA, stS, storeV, recell, putC, lenSl, lenStr, idxAddrSl, idxAddrArr, allSome]); first | done | (with_reducible exact rfl) | (with_reducible exact ⟨rfl, rfl⟩))) ?_
    | refine oT ?_
    | refine oN ?_
    | refine oX ?_
    | refine oXn ?_
    | refine oXr ?_
    | exact oF (finV_bool ..)
    | apply oK
    | refine lT ?_
    | refine lN ?_
    | refine lX ?_
    | refine lXn ?_
    | refine lXr ?_
    | apply lK
    | refine oI ?_
    | refine oJ rfl ?_
    | refine lI ?_
    | refine lJ rfl ?_
    | (with_reducible exact rfl)

set_option maxRecDepth 100000 in
set_option maxHeartbeats 4000000 in
theorem run_dnma_madd (G : Globs) (o bt : Int) (w K0 : Nat) (hwK : w < 2 ^ 32 ∧ K0 < 2 ^ 32) (e8 : bin Try.prog .eql 3 true (I o) (.int .i64 8) = some (.bool true)) (e10 : bin Try.prog .eql 3 true (I o) (.int .i64 10) = some (.bool false)) (e11 : bin Try.prog .eql 3 true (I o) (.int .i64 11) = some (.bool false))
    (hh : isa_Has.f G 60 [I o] [] = some (.tup [.bool true, .bool true, .bool true, .bool true, I bt], [])) (hW : WordOf G o w K0 true true true true)
    (tD : (w ||| K0) &&& 15 = 0) (tN : (w ||| K0) &&& 480 = 0) (tM : (w ||| K0) &&& 983040 = 0) (tA : (w ||| K0) &&& 15360 = 0) (x1 x2 x3 x4 : Int) : alembiclaw22_IsaFields.f G 61 [I o, I x1, I x2, I x3, I x4] [] = some (.bool true, []) := by
  have rf : ∀ H, pureCall (alembiclaw22_first.f G 60) [] H = _ := fun H => pureCall_of (H := H) (first_ok G 30) rfl rfl
  have rh : ∀ H, pureCall (isa_Has.f G 60) [I o] H = _ := fun H => pureCall_of (H := H) hh rfl rfl
  have z16 : (0 : Int) ≤ 0 ∧ (0 : Int) < 16 := ⟨by decide, by decide⟩
  have o16 : (0 : Int) ≤ 1 ∧ (1 : Int) < 16 := ⟨by decide, by decide⟩
  obtain ⟨D, hD, cD⟩ := and15 true x1
  obtain ⟨N, hN, cN⟩ := and15 true x2
  obtain ⟨M, hM, cM⟩ := and15 true x3
  obtain ⟨A, hA, cA⟩ := and15 true x4
  obtain ⟨V, hV⟩ : ∃ V : Nat, V = ((((w ||| (D : Int).toNat) ||| (N : Int).toNat * 32) ||| (M : Int).toNat * 65536) ||| (K0 ||| (A : Int).toNat * 1024)) := ⟨_, rfl⟩
  obtain ⟨U, hU⟩ : ∃ U : Nat, U = ((((w ||| (0 : Int).toNat) ||| (0 : Int).toNat * 32) ||| (0 : Int).toNat * 65536) ||| (K0 ||| (0 : Int).toNat * 1024)) := ⟨_, rfl⟩
  obtain ⟨X, hX⟩ : ∃ X : Nat, X = (D : Int).toNat ^^^ (0 : Int).toNat := ⟨_, rfl⟩
  have w0 : isa_Word.f G 60 [Ins o 0 0 0 0 0] [] = some (.tup [W32 U, .bool true], []) := by
    rw [hU]; exact hW 0 0 0 0 z16 z16 z16 z16 (fun _ => rfl) (fun _ => rfl) (fun _ => rfl) (fun _ => rfl)
  have w1 : isa_Word.f G 60 [Ins o D N M A 0] [] = some (.tup [W32 V, .bool true], []) := by
    rw [hV]; exact hW D N M A hD hN hM hA (fun h => by cases h) (fun h => by cases h) (fun h => by cases h) (fun h => by cases h)
  have hx : V ^^^ U = ((X ||| (N : Int).toNat * 32) ||| (M : Int).toNat * 65536) ||| (A : Int).toNat * 1024 := by
    rw [hV, hU, hX]; exact words_x w K0 D 0 N M A hD z16 hN hM hA (.inl tD) (.inl tN) (.inl tM) (.inl tA)
  have p1 : bin Try.prog .xor 3 false (I D) (I 0) = some (I (X : Int)) := by rw [hX]; exact xor64 false D 0 hD z16
  have bx : X < 2 ^ 4 := by rw [hX]; exact Nat.xor_lt_two_pow (nat16 hD) (nat16 z16)
  have bV : V < 2 ^ 32 := by rw [hV]; exact or_lt (or_lt (or_lt (or_lt hwK.1 (b32 (nat16 hD)).1) (b32 (nat16 hN)).2.1) (b32 (nat16 hM)).2.2.2) (or_lt hwK.2 (b32 (nat16 hA)).2.2.1)
  have bU : U < 2 ^ 32 := by rw [hU]; exact or_lt (or_lt (or_lt (or_lt hwK.1 (b32 (nat16 z16)).1) (b32 (nat16 z16)).2.1) (b32 (nat16 z16)).2.2.2) (or_lt hwK.2 (b32 (nat16 z16)).2.2.1)
  clear hV hU hX
  have r0 : ∀ H, pureCall (isa_Word.f G 60) [Ins o 0 0 0 0 0] H = _ := fun H => pureCall_of (H := H) w0 rfl rfl
  have r1 : ∀ H, pureCall (isa_Word.f G 60) [Ins o D N M A 0] H = _ := fun H => pureCall_of (H := H) w1 rfl rfl
  have p2 := convN X (by omega)
  have p3 := conv32 N (le31 hN)
  have p4 := shl5 (N : Int).toNat (Nat.le_of_lt_succ (Nat.lt_of_lt_of_le (nat16 hN) (by decide)))
  have l0 : X < 2 ^ 32 := by omega
  have p5 := or32 false X ((N : Int).toNat * 32) l0 (b32 (nat16 hN)).2.1
  have p6 := conv32 M (le31 hM)
  have p7 := shl16 (M : Int).toNat (Nat.le_of_lt_succ (Nat.lt_of_lt_of_le (nat16 hM) (by decide)))
  have l1 : X ||| (N : Int).toNat * 32 < 2 ^ 32 := or_lt l0 (b32 (nat16 hN)).2.1
  have p8 := or32 false (X ||| (N : Int).toNat * 32) ((M : Int).toNat * 65536) l1 (b32 (nat16 hM)).2.2.2
  have p9 := conv32 A (le31 hA)
  have p10 := shl10 (A : Int).toNat (Nat.le_of_lt_succ (Nat.lt_of_lt_of_le (nat16 hA) (by decide)))
  have l2 : (X ||| (N : Int).toNat * 32) ||| (M : Int).toNat * 65536 < 2 ^ 32 := or_lt l1 (b32 (nat16 hM)).2.2.2
  have p11 := or32 false ((X ||| (N : Int).toNat * 32) ||| (M : Int).toNat * 65536) ((A : Int).toNat * 1024) l2 (b32 (nat16 hA)).2.2.1
  have p12 := xor32 false V U bV bU
  rw [hx] at p12
  obtain ⟨E, hE⟩ : ∃ E : Nat, E = ((X ||| (N : Int).toNat * 32) ||| (M : Int).toNat * 65536) ||| (A : Int).toNat * 1024 := ⟨_, rfl⟩
  rw [← hE] at p11 p12
  have p13 : bin Try.prog .eql 27 false (W32 E) (W32 E) = some (.bool true) := by rw [bin_eql]; simp
  generalize (X ||| (N : Int).toNat * 32) ||| (M : Int).toNat * 65536 = Y2 at *
  generalize X ||| (N : Int).toNat * 32 = Y1 at *
  rw [alembiclaw22_IsaFields.step]
  unfold alembiclaw22_IsaFields.c
  repeat first
    | refine oB (by first | (with_reducible exact rfl) | ((first | (simp only [pu_val, nth_zero, nth_succ, gd_tt, gd_ff, gd_tf, gd_ft, gd_no, pickA_true, pickA_false, un_not, rf, rh, e8, e10, e11, cD, cN, cM, cA, r0, r1, p1, p2, p3, p4, p5, p6, p7, p8, p9, p10, p11, p12, p13, Bool.not_true, Bool.not_false]; first | done | (with_reducible exact rfl) | (with_reducible exact ⟨rfl, rfl⟩)) | simp [pu_val, boxRoA, boxA, fieldAddrV, loadV, loadC, storable, AV.cells, extractA, buildRo, buildOwn, fillE, buildSt, fillA, stS, storeV, recell, putC, lenSl, lenStr, idxAddrSl, idxAddrArr, allSome]); first | done | (with_reducible exact rfl) | (with_reducible exact ⟨rfl, rfl⟩))) ?_
    | refine lB (by first | (with_reducible exact rfl) | ((first | (simp only [pu_val, nth_zero, nth_succ, gd_tt, gd_ff, gd_tf, gd_ft, gd_no, pickA_true, pickA_false, un_not, rf, rh, e8, e10, e11, cD, cN, cM, cA, r0, r1, p1, p2, p3, p4, p5, p6, p7, p8, p9, p10, p11, p12, p13, Bool.not_true, Bool.not_false]; first | done | (with_reducible exact rfl) | (with_reducible exact ⟨rfl, rfl⟩)) | simp [pu_val, boxRoA, boxA, fieldAddrV, loadV, loadC, storable, AV.cells, extractA, buildRo, buildOwn, fillE, buildSt, fillA, stS, storeV, recell, putC, lenSl, lenStr, idxAddrSl, idxAddrArr, allSome]); first | done | (with_reducible exact rfl) | (with_reducible exact ⟨rfl, rfl⟩))) ?_
    | refine oT ?_
    | refine oN ?_
    | refine oX ?_
    | refine oXn ?_
    | refine oXr ?_
    | exact oF (finV_bool ..)
    | apply oK
    | refine lT ?_
    | refine lN ?_
    | refine lX ?_
    | refine lXn ?_
    | refine lXr ?_
    | apply lK
    | refine oI ?_
    | refine oJ rfl ?_
    | refine lI ?_
    | refine lJ rfl ?_
    | (with_reducible exact rfl)

set_option maxRecDepth 100000 in
set_option maxHeartbeats 4000000 in
theorem run_dn_10 (G : Globs) (o bt : Int) (w K0 : Nat) (hwK : w < 2 ^ 32 ∧ K0 < 2 ^ 32) (e8 : bin Try.prog .eql 3 true (I o) (.int .i64 8) = some (.bool false)) (e10 : bin Try.prog .eql 3 true (I o) (.int .i64 10) = some (.bool true)) (e11 : bin Try.prog .eql 3 true (I o) (.int .i64 11) = some (.bool false))
    (hh : isa_Has.f G 60 [I o] [] = some (.tup [.bool true, .bool true, .bool false, .bool false, I bt], [])) (hW : WordOf G o w K0 true true false false)
    (tD : (w ||| K0) &&& 15 = 0) (tN : (w ||| K0) &&& 480 = 0) (tM : True) (tA : True) (x1 x2 x3 x4 : Int) : alembiclaw22_IsaFields.f G 61 [I o, I x1, I x2, I x3, I x4] [] = some (.bool true, []) := by
  have rf : ∀ H, pureCall (alembiclaw22_first.f G 60) [] H = _ := fun H => pureCall_of (H := H) (first_ok G 30) rfl rfl
  have rh : ∀ H, pureCall (isa_Has.f G 60) [I o] H = _ := fun H => pureCall_of (H := H) hh rfl rfl
  have z16 : (0 : Int) ≤ 0 ∧ (0 : Int) < 16 := ⟨by decide, by decide⟩
  have o16 : (0 : Int) ≤ 1 ∧ (1 : Int) < 16 := ⟨by decide, by decide⟩
  obtain ⟨Dq, hDq, cD⟩ := and15 true x1
  obtain ⟨N, hN, cN⟩ := and15 true x2
  have cq : bin Try.prog .eql 3 true (I Dq) (.int .i64 0) = some (.bool (decide (Dq = 0))) := bin_eql ..
  obtain ⟨D, hD, hDq⟩ : ∃ D : Int, (0 ≤ D ∧ D < 16) ∧ ((Dq = 0 ∧ D = 1) ∨ (Dq ≠ 0 ∧ D = Dq)) := by
    by_cases h : Dq = 0
    · exact ⟨1, o16, .inl ⟨h, rfl⟩⟩
    · exact ⟨Dq, hDq, .inr ⟨h, rfl⟩⟩
  obtain ⟨V, hV⟩ : ∃ V : Nat, V = ((((w ||| (D : Int).toNat) ||| (N : Int).toNat * 32) ||| (0 : Int).toNat * 65536) ||| (K0 ||| (0 : Int).toNat * 1024)) := ⟨_, rfl⟩
  obtain ⟨U, hU⟩ : ∃ U : Nat, U = ((((w ||| (1 : Int).toNat) ||| (0 : Int).toNat * 32) ||| (0 : Int).toNat * 65536) ||| (K0 ||| (0 : Int).toNat * 1024)) := ⟨_, rfl⟩
  obtain ⟨X, hX⟩ : ∃ X : Nat, X = (D : Int).toNat ^^^ (1 : Int).toNat := ⟨_, rfl⟩
  have w0 : isa_Word.f G 60 [Ins o 1 0 0 0 0] [] = some (.tup [W32 U, .bool true], []) := by
    rw [hU]; exact hW 1 0 0 0 o16 z16 z16 z16 (fun h => by cases h) (fun _ => rfl) (fun _ => rfl) (fun _ => rfl)
  have w1 : isa_Word.f G 60 [Ins o D N 0 0 0] [] = some (.tup [W32 V, .bool true], []) := by
    rw [hV]; exact hW D N 0 0 hD hN z16 z16 (fun h => by cases h) (fun h => by cases h) (fun _ => rfl) (fun _ => rfl)
  have hx : V ^^^ U = ((X ||| (N : Int).toNat * 32) ||| (0 : Int).toNat * 65536) ||| (0 : Int).toNat * 1024 := by
    rw [hV, hU, hX]; exact words_x w K0 D 1 N 0 0 hD o16 hN z16 z16 (.inl tD) (.inl tN) (.inr rfl) (.inr rfl)
  have p1 : bin Try.prog .xor 3 false (I D) (I 1) = some (I (X : Int)) := by rw [hX]; exact xor64 false D 1 hD o16
  have bx : X < 2 ^ 4 := by rw [hX]; exact Nat.xor_lt_two_pow (nat16 hD) (nat16 o16)
  have bV : V < 2 ^ 32 := by rw [hV]; exact or_lt (or_lt (or_lt (or_lt hwK.1 (b32 (nat16 hD)).1) (b32 (nat16 hN)).2.1) (b32 (nat16 z16)).2.2.2) (or_lt hwK.2 (b32 (nat16 z16)).2.2.1)
  have bU : U < 2 ^ 32 := by rw [hU]; exact or_lt (or_lt (or_lt (or_lt hwK.1 (b32 (nat16 o16)).1) (b32 (nat16 z16)).2.1) (b32 (nat16 z16)).2.2.2) (or_lt hwK.2 (b32 (nat16 z16)).2.2.1)
  clear hV hU hX
  have r0 : ∀ H, pureCall (isa_Word.f G 60) [Ins o 1 0 0 0 0] H = _ := fun H => pureCall_of (H := H) w0 rfl rfl
  have r1 : ∀ H, pureCall (isa_Word.f G 60) [Ins o D N 0 0 0] H = _ := fun H => pureCall_of (H := H) w1 rfl rfl
  have p2 := convN X (by omega)
  have p3 := conv32 N (le31 hN)
  have p4 := shl5 (N : Int).toNat (Nat.le_of_lt_succ (Nat.lt_of_lt_of_le (nat16 hN) (by decide)))
  have l0 : X < 2 ^ 32 := by omega
  have p5 := or32 false X ((N : Int).toNat * 32) l0 (b32 (nat16 hN)).2.1
  have p6 := conv32 0 (le31 z16)
  have p7 := shl16 (0 : Int).toNat (Nat.le_of_lt_succ (Nat.lt_of_lt_of_le (nat16 z16) (by decide)))
  have l1 : X ||| (N : Int).toNat * 32 < 2 ^ 32 := or_lt l0 (b32 (nat16 hN)).2.1
  have p8 := or32 false (X ||| (N : Int).toNat * 32) ((0 : Int).toNat * 65536) l1 (b32 (nat16 z16)).2.2.2
  have p9 := conv32 0 (le31 z16)
  have p10 := shl10 (0 : Int).toNat (Nat.le_of_lt_succ (Nat.lt_of_lt_of_le (nat16 z16) (by decide)))
  have l2 : (X ||| (N : Int).toNat * 32) ||| (0 : Int).toNat * 65536 < 2 ^ 32 := or_lt l1 (b32 (nat16 z16)).2.2.2
  have p11 := or32 false ((X ||| (N : Int).toNat * 32) ||| (0 : Int).toNat * 65536) ((0 : Int).toNat * 1024) l2 (b32 (nat16 z16)).2.2.1
  have p12 := xor32 false V U bV bU
  rw [hx] at p12
  obtain ⟨E, hE⟩ : ∃ E : Nat, E = ((X ||| (N : Int).toNat * 32) ||| (0 : Int).toNat * 65536) ||| (0 : Int).toNat * 1024 := ⟨_, rfl⟩
  rw [← hE] at p11 p12
  have p13 : bin Try.prog .eql 27 false (W32 E) (W32 E) = some (.bool true) := by rw [bin_eql]; simp
  generalize (X ||| (N : Int).toNat * 32) ||| (0 : Int).toNat * 65536 = Y2 at *
  generalize X ||| (N : Int).toNat * 32 = Y1 at *
  rw [alembiclaw22_IsaFields.step]
  unfold alembiclaw22_IsaFields.c
  rcases hDq with ⟨h1, h2⟩ | ⟨h1, h2⟩
  · simp only [decide_eq_true h1] at cq
    subst h2
    repeat first
      | refine oB (by first | (with_reducible exact rfl) | ((first | (simp only [pu_val, nth_zero, nth_succ, gd_tt, gd_ff, gd_tf, gd_ft, gd_no, pickA_true, pickA_false, un_not, cq, rf, rh, e8, e10, e11, cD, cN, r0, r1, p1, p2, p3, p4, p5, p6, p7, p8, p9, p10, p11, p12, p13, Bool.not_true, Bool.not_false]; first | done | (with_reducible exact rfl) | (with_reducible exact ⟨rfl, rfl⟩)) | simp [pu_val, boxRoA, boxA, fieldAddrV, loadV, loadC, storable, AV.cells, extractA, buildRo, buildOwn, fillE, buildSt, fillA, stS, storeV, recell, putC, lenSl, lenStr, idxAddrSl, idxAddrArr, allSome]); first | done | (with_reducible exact rfl) | (with_reducible exact ⟨rfl, rfl⟩))) ?_
      | refine lB (by first | (with_reducible exact rfl) | ((first | (simp only [pu_val, nth_zero, nth_succ, gd_tt, gd_ff, gd_tf, gd_ft, gd_no, pickA_true, pickA_false, un_not, cq, rf, rh, e8, e10, e11, cD, cN, r0, r1, p1, p2, p3, p4, p5, p6, p7, p8, p9, p10, p11, p12, p13, Bool.not_true, Bool.not_false]; first | done | (with_reducible exact rfl) | (with_reducible exact ⟨rfl, rfl⟩)) | simp [pu_val, boxRoA, boxA, fieldAddrV, loadV, loadC, storable, AV.cells, extractA, buildRo, buildOwn, fillE, buildSt, fillA, stS, storeV, recell, putC, lenSl, lenStr, idxAddrSl, idxAddrArr, allSome]); first | done | (with_reducible exact rfl) | (with_reducible exact ⟨rfl, rfl⟩))) ?_
      | refine oT ?_
      | refine oN ?_
      | refine oX ?_
      | refine oXn ?_
      | refine oXr ?_
      | exact oF (finV_bool ..)
      | apply oK
      | refine lT ?_
      | refine lN ?_
      | refine lX ?_
      | refine lXn ?_
      | refine lXr ?_
      | apply lK
      | refine oI ?_
      | refine oJ rfl ?_
      | refine lI ?_
      | refine lJ rfl ?_
      | (with_reducible exact rfl)
  · simp only [decide_eq_false h1] at cq
    subst h2
    repeat first
      | refine oB (by first | (with_reducible exact rfl) | ((first | (simp only [pu_val, nth_zero, nth_succ, gd_tt, gd_ff, gd_tf, gd_ft, gd_no, pickA_true, pickA_false, un_not, cq, rf, rh, e8, e10, e11, cD, cN, r0, r1, p1, p2, p3, p4, p5, p6, p7, p8, p9, p10, p11, p12, p13, Bool.not_true, Bool.not_false]; first | done | (with_reducible exact rfl) | (with_reducible exact ⟨rfl, rfl⟩)) | simp [pu_val, boxRoA, boxA, fieldAddrV, loadV, loadC, storable, AV.cells, extractA, buildRo, buildOwn, fillE, buildSt, fillA, stS, storeV, recell, putC, lenSl, lenStr, idxAddrSl, idxAddrArr, allSome]); first | done | (with_reducible exact rfl) | (with_reducible exact ⟨rfl, rfl⟩))) ?_
      | refine lB (by first | (with_reducible exact rfl) | ((first | (simp only [pu_val, nth_zero, nth_succ, gd_tt, gd_ff, gd_tf, gd_ft, gd_no, pickA_true, pickA_false, un_not, cq, rf, rh, e8, e10, e11, cD, cN, r0, r1, p1, p2, p3, p4, p5, p6, p7, p8, p9, p10, p11, p12, p13, Bool.not_true, Bool.not_false]; first | done | (with_reducible exact rfl) | (with_reducible exact ⟨rfl, rfl⟩)) | simp [pu_val, boxRoA, boxA, fieldAddrV, loadV, loadC, storable, AV.cells, extractA, buildRo, buildOwn, fillE, buildSt, fillA, stS, storeV, recell, putC, lenSl, lenStr, idxAddrSl, idxAddrArr, allSome]); first | done | (with_reducible exact rfl) | (with_reducible exact ⟨rfl, rfl⟩))) ?_
      | refine oT ?_
      | refine oN ?_
      | refine oX ?_
      | refine oXn ?_
      | refine oXr ?_
      | exact oF (finV_bool ..)
      | apply oK
      | refine lT ?_
      | refine lN ?_
      | refine lX ?_
      | refine lXn ?_
      | refine lXr ?_
      | apply lK
      | refine oI ?_
      | refine oJ rfl ?_
      | refine lI ?_
      | refine lJ rfl ?_
      | (with_reducible exact rfl)

set_option maxRecDepth 100000 in
set_option maxHeartbeats 4000000 in
theorem run_dn_11 (G : Globs) (o bt : Int) (w K0 : Nat) (hwK : w < 2 ^ 32 ∧ K0 < 2 ^ 32) (e8 : bin Try.prog .eql 3 true (I o) (.int .i64 8) = some (.bool false)) (e10 : bin Try.prog .eql 3 true (I o) (.int .i64 10) = some (.bool false)) (e11 : bin Try.prog .eql 3 true (I o) (.int .i64 11) = some (.bool true))
    (hh : isa_Has.f G 60 [I o] [] = some (.tup [.bool true, .bool true, .bool false, .bool false, I bt], [])) (hW : WordOf G o w K0 true true false false)
    (tD : (w ||| K0) &&& 15 = 0) (tN : (w ||| K0) &&& 480 = 0) (tM : True) (tA : True) (x1 x2 x3 x4 : Int) : alembiclaw22_IsaFields.f G 61 [I o, I x1, I x2, I x3, I x4] [] = some (.bool true, []) := by
  have rf : ∀ H, pureCall (alembiclaw22_first.f G 60) [] H = _ := fun H => pureCall_of (H := H) (first_ok G 30) rfl rfl
  have rh : ∀ H, pureCall (isa_Has.f G 60) [I o] H = _ := fun H => pureCall_of (H := H) hh rfl rfl
  have z16 : (0 : Int) ≤ 0 ∧ (0 : Int) < 16 := ⟨by decide, by decide⟩
  have o16 : (0 : Int) ≤ 1 ∧ (1 : Int) < 16 := ⟨by decide, by decide⟩
  obtain ⟨Dq, hDq, cD⟩ := and15 true x1
  obtain ⟨N, hN, cN⟩ := and15 true x2
  have cq : bin Try.prog .eql 3 true (I Dq) (.int .i64 0) = some (.bool (decide (Dq = 0))) := bin_eql ..
  obtain ⟨D, hD, hDq⟩ : ∃ D : Int, (0 ≤ D ∧ D < 16) ∧ ((Dq = 0 ∧ D = 1) ∨ (Dq ≠ 0 ∧ D = Dq)) := by
    by_cases h : Dq = 0
    · exact ⟨1, o16, .inl ⟨h, rfl⟩⟩
    · exact ⟨Dq, hDq, .inr ⟨h, rfl⟩⟩
  obtain ⟨V, hV⟩ : ∃ V : Nat, V = ((((w ||| (D : Int).toNat) ||| (N : Int).toNat * 32) ||| (0 : Int).toNat * 65536) ||| (K0 ||| (0 : Int).toNat * 1024)) := ⟨_, rfl⟩
  obtain ⟨U, hU⟩ : ∃ U : Nat, U = ((((w ||| (1 : Int).toNat) ||| (0 : Int).toNat * 32) ||| (0 : Int).toNat * 65536) ||| (K0 ||| (0 : Int).toNat * 1024)) := ⟨_, rfl⟩
  obtain ⟨X, hX⟩ : ∃ X : Nat, X = (D : Int).toNat ^^^ (1 : Int).toNat := ⟨_, rfl⟩
  have w0 : isa_Word.f G 60 [Ins o 1 0 0 0 0] [] = some (.tup [W32 U, .bool true], []) := by
    rw [hU]; exact hW 1 0 0 0 o16 z16 z16 z16 (fun h => by cases h) (fun _ => rfl) (fun _ => rfl) (fun _ => rfl)
  have w1 : isa_Word.f G 60 [Ins o D N 0 0 0] [] = some (.tup [W32 V, .bool true], []) := by
    rw [hV]; exact hW D N 0 0 hD hN z16 z16 (fun h => by cases h) (fun h => by cases h) (fun _ => rfl) (fun _ => rfl)
  have hx : V ^^^ U = ((X ||| (N : Int).toNat * 32) ||| (0 : Int).toNat * 65536) ||| (0 : Int).toNat * 1024 := by
    rw [hV, hU, hX]; exact words_x w K0 D 1 N 0 0 hD o16 hN z16 z16 (.inl tD) (.inl tN) (.inr rfl) (.inr rfl)
  have p1 : bin Try.prog .xor 3 false (I D) (I 1) = some (I (X : Int)) := by rw [hX]; exact xor64 false D 1 hD o16
  have bx : X < 2 ^ 4 := by rw [hX]; exact Nat.xor_lt_two_pow (nat16 hD) (nat16 o16)
  have bV : V < 2 ^ 32 := by rw [hV]; exact or_lt (or_lt (or_lt (or_lt hwK.1 (b32 (nat16 hD)).1) (b32 (nat16 hN)).2.1) (b32 (nat16 z16)).2.2.2) (or_lt hwK.2 (b32 (nat16 z16)).2.2.1)
  have bU : U < 2 ^ 32 := by rw [hU]; exact or_lt (or_lt (or_lt (or_lt hwK.1 (b32 (nat16 o16)).1) (b32 (nat16 z16)).2.1) (b32 (nat16 z16)).2.2.2) (or_lt hwK.2 (b32 (nat16 z16)).2.2.1)
  clear hV hU hX
  have r0 : ∀ H, pureCall (isa_Word.f G 60) [Ins o 1 0 0 0 0] H = _ := fun H => pureCall_of (H := H) w0 rfl rfl
  have r1 : ∀ H, pureCall (isa_Word.f G 60) [Ins o D N 0 0 0] H = _ := fun H => pureCall_of (H := H) w1 rfl rfl
  have p2 := convN X (by omega)
  have p3 := conv32 N (le31 hN)
  have p4 := shl5 (N : Int).toNat (Nat.le_of_lt_succ (Nat.lt_of_lt_of_le (nat16 hN) (by decide)))
  have l0 : X < 2 ^ 32 := by omega
  have p5 := or32 false X ((N : Int).toNat * 32) l0 (b32 (nat16 hN)).2.1
  have p6 := conv32 0 (le31 z16)
  have p7 := shl16 (0 : Int).toNat (Nat.le_of_lt_succ (Nat.lt_of_lt_of_le (nat16 z16) (by decide)))
  have l1 : X ||| (N : Int).toNat * 32 < 2 ^ 32 := or_lt l0 (b32 (nat16 hN)).2.1
  have p8 := or32 false (X ||| (N : Int).toNat * 32) ((0 : Int).toNat * 65536) l1 (b32 (nat16 z16)).2.2.2
  have p9 := conv32 0 (le31 z16)
  have p10 := shl10 (0 : Int).toNat (Nat.le_of_lt_succ (Nat.lt_of_lt_of_le (nat16 z16) (by decide)))
  have l2 : (X ||| (N : Int).toNat * 32) ||| (0 : Int).toNat * 65536 < 2 ^ 32 := or_lt l1 (b32 (nat16 z16)).2.2.2
  have p11 := or32 false ((X ||| (N : Int).toNat * 32) ||| (0 : Int).toNat * 65536) ((0 : Int).toNat * 1024) l2 (b32 (nat16 z16)).2.2.1
  have p12 := xor32 false V U bV bU
  rw [hx] at p12
  obtain ⟨E, hE⟩ : ∃ E : Nat, E = ((X ||| (N : Int).toNat * 32) ||| (0 : Int).toNat * 65536) ||| (0 : Int).toNat * 1024 := ⟨_, rfl⟩
  rw [← hE] at p11 p12
  have p13 : bin Try.prog .eql 27 false (W32 E) (W32 E) = some (.bool true) := by rw [bin_eql]; simp
  generalize (X ||| (N : Int).toNat * 32) ||| (0 : Int).toNat * 65536 = Y2 at *
  generalize X ||| (N : Int).toNat * 32 = Y1 at *
  rw [alembiclaw22_IsaFields.step]
  unfold alembiclaw22_IsaFields.c
  rcases hDq with ⟨h1, h2⟩ | ⟨h1, h2⟩
  · simp only [decide_eq_true h1] at cq
    subst h2
    repeat first
      | refine oB (by first | (with_reducible exact rfl) | ((first | (simp only [pu_val, nth_zero, nth_succ, gd_tt, gd_ff, gd_tf, gd_ft, gd_no, pickA_true, pickA_false, un_not, cq, rf, rh, e8, e10, e11, cD, cN, r0, r1, p1, p2, p3, p4, p5, p6, p7, p8, p9, p10, p11, p12, p13, Bool.not_true, Bool.not_false]; first | done | (with_reducible exact rfl) | (with_reducible exact ⟨rfl, rfl⟩)) | simp [pu_val, boxRoA, boxA, fieldAddrV, loadV, loadC, storable, AV.cells, extractA, buildRo, buildOwn, fillE, buildSt, fillA, stS, storeV, recell, putC, lenSl, lenStr, idxAddrSl, idxAddrArr, allSome]); first | done | (with_reducible exact rfl) | (with_reducible exact ⟨rfl, rfl⟩))) ?_
      | refine lB (by first | (with_reducible exact rfl) | ((first | (simp only [pu_val, nth_zero, nth_succ, gd_tt, gd_ff, gd_tf, gd_ft, gd_no, pickA_true, pickA_false, un_not, cq, rf, rh, e8, e10, e11, cD, cN, r0, r1, p1, p2, p3, p4, p5, p6, p7, p8, p9, p10, p11, p12, p13, Bool.not_true, Bool.not_false]; first | done | (with_reducible exact rfl) | (with_reducible exact ⟨rfl, rfl⟩)) | simp [pu_val, boxRoA, boxA, fieldAddrV, loadV, loadC, storable, AV.cells, extractA, buildRo, buildOwn, fillE, buildSt, fillA, stS, storeV, recell, putC, lenSl, lenStr, idxAddrSl, idxAddrArr, allSome]); first | done | (with_reducible exact rfl) | (with_reducible exact ⟨rfl, rfl⟩))) ?_
      | refine oT ?_
      | refine oN ?_
      | refine oX ?_
      | refine oXn ?_
      | refine oXr ?_
      | exact oF (finV_bool ..)
      | apply oK
      | refine lT ?_
      | refine lN ?_
      | refine lX ?_
      | refine lXn ?_
      | refine lXr ?_
      | apply lK
      | refine oI ?_
      | refine oJ rfl ?_
      | refine lI ?_
      | refine lJ rfl ?_
      | (with_reducible exact rfl)
  · simp only [decide_eq_false h1] at cq
    subst h2
    repeat first
      | refine oB (by first | (with_reducible exact rfl) | ((first | (simp only [pu_val, nth_zero, nth_succ, gd_tt, gd_ff, gd_tf, gd_ft, gd_no, pickA_true, pickA_false, un_not, cq, rf, rh, e8, e10, e11, cD, cN, r0, r1, p1, p2, p3, p4, p5, p6, p7, p8, p9, p10, p11, p12, p13, Bool.not_true, Bool.not_false]; first | done | (with_reducible exact rfl) | (with_reducible exact ⟨rfl, rfl⟩)) | simp [pu_val, boxRoA, boxA, fieldAddrV, loadV, loadC, storable, AV.cells, extractA, buildRo, buildOwn, fillE, buildSt, fillA, stS, storeV, recell, putC, lenSl, lenStr, idxAddrSl, idxAddrArr, allSome]); first | done | (with_reducible exact rfl) | (with_reducible exact ⟨rfl, rfl⟩))) ?_
      | refine lB (by first | (with_reducible exact rfl) | ((first | (simp only [pu_val, nth_zero, nth_succ, gd_tt, gd_ff, gd_tf, gd_ft, gd_no, pickA_true, pickA_false, un_not, cq, rf, rh, e8, e10, e11, cD, cN, r0, r1, p1, p2, p3, p4, p5, p6, p7, p8, p9, p10, p11, p12, p13, Bool.not_true, Bool.not_false]; first | done | (with_reducible exact rfl) | (with_reducible exact ⟨rfl, rfl⟩)) | simp [pu_val, boxRoA, boxA, fieldAddrV, loadV, loadC, storable, AV.cells, extractA, buildRo, buildOwn, fillE, buildSt, fillA, stS, storeV, recell, putC, lenSl, lenStr, idxAddrSl, idxAddrArr, allSome]); first | done | (with_reducible exact rfl) | (with_reducible exact ⟨rfl, rfl⟩))) ?_
      | refine oT ?_
      | refine oN ?_
      | refine oX ?_
      | refine oXn ?_
      | refine oXr ?_
      | exact oF (finV_bool ..)
      | apply oK
      | refine lT ?_
      | refine lN ?_
      | refine lX ?_
      | refine lXn ?_
      | refine lXr ?_
      | apply lK
      | refine oI ?_
      | refine oJ rfl ?_
      | refine lI ?_
      | refine lJ rfl ?_
      | (with_reducible exact rfl)

set_option maxRecDepth 100000 in
set_option maxHeartbeats 4000000 in
theorem run_dn_x (G : Globs) (o bt : Int) (w K0 : Nat) (hwK : w < 2 ^ 32 ∧ K0 < 2 ^ 32) (e8 : bin Try.prog .eql 3 true (I o) (.int .i64 8) = some (.bool false)) (e10 : bin Try.prog .eql 3 true (I o) (.int .i64 10) = some (.bool false)) (e11 : bin Try.prog .eql 3 true (I o) (.int .i64 11) = some (.bool false))
    (hh : isa_Has.f G 60 [I o] [] = some (.tup [.bool true, .bool true, .bool false, .bool false, I bt], [])) (hW : WordOf G o w K0 true true false false)
    (tD : (w ||| K0) &&& 15 = 0) (tN : (w ||| K0) &&& 480 = 0) (tM : True) (tA : True) (x1 x2 x3 x4 : Int) : alembiclaw22_IsaFields.f G 61 [I o, I x1, I x2, I x3, I x4] [] = some (.bool true, []) := by
  have rf : ∀ H, pureCall (alembiclaw22_first.f G 60) [] H = _ := fun H => pureCall_of (H := H) (first_ok G 30) rfl rfl
  have rh : ∀ H, pureCall (isa_Has.f G 60) [I o] H = _ := fun H => pureCall_of (H := H) hh rfl rfl
  have z16 : (0 : Int) ≤ 0 ∧ (0 : Int) < 16 := ⟨by decide, by decide⟩
  have o16 : (0 : Int) ≤ 1 ∧ (1 : Int) < 16 := ⟨by decide, by decide⟩
  obtain ⟨D, hD, cD⟩ := and15 true x1
  obtain ⟨N, hN, cN⟩ := and15 true x2
  obtain ⟨V, hV⟩ : ∃ V : Nat, V = ((((w ||| (D : Int).toNat) ||| (N : Int).toNat * 32) ||| (0 : Int).toNat * 65536) ||| (K0 ||| (0 : Int).toNat * 1024)) := ⟨_, rfl⟩
  obtain ⟨U, hU⟩ : ∃ U : Nat, U = ((((w ||| (0 : Int).toNat) ||| (0 : Int).toNat * 32) ||| (0 : Int).toNat * 65536) ||| (K0 ||| (0 : Int).toNat * 1024)) := ⟨_, rfl⟩
  obtain ⟨X, hX⟩ : ∃ X : Nat, X = (D : Int).toNat ^^^ (0 : Int).toNat := ⟨_, rfl⟩
  have w0 : isa_Word.f G 60 [Ins o 0 0 0 0 0] [] = some (.tup [W32 U, .bool true], []) := by
    rw [hU]; exact hW 0 0 0 0 z16 z16 z16 z16 (fun _ => rfl) (fun _ => rfl) (fun _ => rfl) (fun _ => rfl)
  have w1 : isa_Word.f G 60 [Ins o D N 0 0 0] [] = some (.tup [W32 V, .bool true], []) := by
    rw [hV]; exact hW D N 0 0 hD hN z16 z16 (fun h => by cases h) (fun h => by cases h) (fun _ => rfl) (fun _ => rfl)
  have hx : V ^^^ U = ((X ||| (N : Int).toNat * 32) ||| (0 : Int).toNat * 65536) ||| (0 : Int).toNat * 1024 := by
    rw [hV, hU, hX]; exact words_x w K0 D 0 N 0 0 hD z16 hN z16 z16 (.inl tD) (.inl tN) (.inr rfl) (.inr rfl)
  have p1 : bin Try.prog .xor 3 false (I D) (I 0) = some (I (X : Int)) := by rw [hX]; exact xor64 false D 0 hD z16
  have bx : X < 2 ^ 4 := by rw [hX]; exact Nat.xor_lt_two_pow (nat16 hD) (nat16 z16)
  have bV : V < 2 ^ 32 := by rw [hV]; exact or_lt (or_lt (or_lt (or_lt hwK.1 (b32 (nat16 hD)).1) (b32 (nat16 hN)).2.1) (b32 (nat16 z16)).2.2.2) (or_lt hwK.2 (b32 (nat16 z16)).2.2.1)
  have bU : U < 2 ^ 32 := by rw [hU]; exact or_lt (or_lt (or_lt (or_lt hwK.1 (b32 (nat16 z16)).1) (b32 (nat16 z16)).2.1) (b32 (nat16 z16)).2.2.2) (or_lt hwK.2 (b32 (nat16 z16)).2.2.1)
  clear hV hU hX
  have r0 : ∀ H, pureCall (isa_Word.f G 60) [Ins o 0 0 0 0 0] H = _ := fun H => pureCall_of (H := H) w0 rfl rfl
  have r1 : ∀ H, pureCall (isa_Word.f G 60) [Ins o D N 0 0 0] H = _ := fun H => pureCall_of (H := H) w1 rfl rfl
  have p2 := convN X (by omega)
  have p3 := conv32 N (le31 hN)
  have p4 := shl5 (N : Int).toNat (Nat.le_of_lt_succ (Nat.lt_of_lt_of_le (nat16 hN) (by decide)))
  have l0 : X < 2 ^ 32 := by omega
  have p5 := or32 false X ((N : Int).toNat * 32) l0 (b32 (nat16 hN)).2.1
  have p6 := conv32 0 (le31 z16)
  have p7 := shl16 (0 : Int).toNat (Nat.le_of_lt_succ (Nat.lt_of_lt_of_le (nat16 z16) (by decide)))
  have l1 : X ||| (N : Int).toNat * 32 < 2 ^ 32 := or_lt l0 (b32 (nat16 hN)).2.1
  have p8 := or32 false (X ||| (N : Int).toNat * 32) ((0 : Int).toNat * 65536) l1 (b32 (nat16 z16)).2.2.2
  have p9 := conv32 0 (le31 z16)
  have p10 := shl10 (0 : Int).toNat (Nat.le_of_lt_succ (Nat.lt_of_lt_of_le (nat16 z16) (by decide)))
  have l2 : (X ||| (N : Int).toNat * 32) ||| (0 : Int).toNat * 65536 < 2 ^ 32 := or_lt l1 (b32 (nat16 z16)).2.2.2
  have p11 := or32 false ((X ||| (N : Int).toNat * 32) ||| (0 : Int).toNat * 65536) ((0 : Int).toNat * 1024) l2 (b32 (nat16 z16)).2.2.1
  have p12 := xor32 false V U bV bU
  rw [hx] at p12
  obtain ⟨E, hE⟩ : ∃ E : Nat, E = ((X ||| (N : Int).toNat * 32) ||| (0 : Int).toNat * 65536) ||| (0 : Int).toNat * 1024 := ⟨_, rfl⟩
  rw [← hE] at p11 p12
  have p13 : bin Try.prog .eql 27 false (W32 E) (W32 E) = some (.bool true) := by rw [bin_eql]; simp
  generalize (X ||| (N : Int).toNat * 32) ||| (0 : Int).toNat * 65536 = Y2 at *
  generalize X ||| (N : Int).toNat * 32 = Y1 at *
  rw [alembiclaw22_IsaFields.step]
  unfold alembiclaw22_IsaFields.c
  repeat first
    | refine oB (by first | (with_reducible exact rfl) | ((first | (simp only [pu_val, nth_zero, nth_succ, gd_tt, gd_ff, gd_tf, gd_ft, gd_no, pickA_true, pickA_false, un_not, rf, rh, e8, e10, e11, cD, cN, r0, r1, p1, p2, p3, p4, p5, p6, p7, p8, p9, p10, p11, p12, p13, Bool.not_true, Bool.not_false]; first | done | (with_reducible exact rfl) | (with_reducible exact ⟨rfl, rfl⟩)) | simp [pu_val, boxRoA, boxA, fieldAddrV, loadV, loadC, storable, AV.cells, extractA, buildRo, buildOwn, fillE, buildSt, fillA, stS, storeV, recell, putC, lenSl, lenStr, idxAddrSl, idxAddrArr, allSome]); first | done | (with_reducible exact rfl) | (with_reducible exact ⟨rfl, rfl⟩))) ?_
    | refine lB (by first | (with_reducible exact rfl) | ((first | (simp only [pu_val, nth_zero, nth_succ, gd_tt, gd_ff, gd_tf, gd_ft, gd_no, pickA_true, pickA_false, un_not, rf, rh, e8, e10, e11, cD, cN, r0, r1, p1, p2, p3, p4, p5, p6, p7, p8, p9, p10, p11, p12, p13, Bool.not_true, Bool.not_false]; first | done | (with_reducible exact rfl) | (with_reducible exact ⟨rfl, rfl⟩)) | simp [pu_val, boxRoA, boxA, fieldAddrV, loadV, loadC, storable, AV.cells, extractA, buildRo, buildOwn, fillE, buildSt, fillA, stS, storeV, recell, putC, lenSl, lenStr, idxAddrSl, idxAddrArr, allSome]); first | done | (with_reducible exact rfl) | (with_reducible exact ⟨rfl, rfl⟩))) ?_
    | refine oT ?_
    | refine oN ?_
    | refine oX ?_
    | refine oXn ?_
    | refine oXr ?_
    | exact oF (finV_bool ..)
    | apply oK
    | refine lT ?_
    | refine lN ?_
    | refine lX ?_
    | refine lXn ?_
    | refine lXr ?_
    | apply lK
    | refine oI ?_
    | refine oJ rfl ?_
    | refine lI ?_
    | refine lJ rfl ?_
    | (with_reducible exact rfl)

set_option maxRecDepth 100000 in
set_option maxHeartbeats 4000000 in
theorem run_nm_x (G : Globs) (o bt : Int) (w K0 : Nat) (hwK : w < 2 ^ 32 ∧ K0 < 2 ^ 32) (e8 : bin Try.prog .eql 3 true (I o) (.int .i64 8) = some (.bool false)) (e10 : bin Try.prog .eql 3 true (I o) (.int .i64 10) = some (.bool false)) (e11 : bin Try.prog .eql 3 true (I o) (.int .i64 11) = some (.bool false))
    (hh : isa_Has.f G 60 [I o] [] = some (.tup [.bool false, .bool true, .bool true, .bool false, I bt], [])) (hW : WordOf G o w K0 false true true false)
    (tD : True) (tN : (w ||| K0) &&& 480 = 0) (tM : (w ||| K0) &&& 983040 = 0) (tA : True) (x1 x2 x3 x4 : Int) : alembiclaw22_IsaFields.f G 61 [I o, I x1, I x2, I x3, I x4] [] = some (.bool true, []) := by
  have rf : ∀ H, pureCall (alembiclaw22_first.f G 60) [] H = _ := fun H => pureCall_of (H := H) (first_ok G 30) rfl rfl
  have rh : ∀ H, pureCall (isa_Has.f G 60) [I o] H = _ := fun H => pureCall_of (H := H) hh rfl rfl
  have z16 : (0 : Int) ≤ 0 ∧ (0 : Int) < 16 := ⟨by decide, by decide⟩
  have o16 : (0 : Int) ≤ 1 ∧ (1 : Int) < 16 := ⟨by decide, by decide⟩
  obtain ⟨N, hN, cN⟩ := and15 true x2
  obtain ⟨M, hM, cM⟩ := and15 true x3
  obtain ⟨V, hV⟩ : ∃ V : Nat, V = ((((w ||| (0 : Int).toNat) ||| (N : Int).toNat * 32) ||| (M : Int).toNat * 65536) ||| (K0 ||| (0 : Int).toNat * 1024)) := ⟨_, rfl⟩
  obtain ⟨U, hU⟩ : ∃ U : Nat, U = ((((w ||| (0 : Int).toNat) ||| (0 : Int).toNat * 32) ||| (0 : Int).toNat * 65536) ||| (K0 ||| (0 : Int).toNat * 1024)) := ⟨_, rfl⟩
  obtain ⟨X, hX⟩ : ∃ X : Nat, X = (0 : Int).toNat ^^^ (0 : Int).toNat := ⟨_, rfl⟩
  have w0 : isa_Word.f G 60 [Ins o 0 0 0 0 0] [] = some (.tup [W32 U, .bool true], []) := by
    rw [hU]; exact hW 0 0 0 0 z16 z16 z16 z16 (fun _ => rfl) (fun _ => rfl) (fun _ => rfl) (fun _ => rfl)
  have w1 : isa_Word.f G 60 [Ins o 0 N M 0 0] [] = some (.tup [W32 V, .bool true], []) := by
    rw [hV]; exact hW 0 N M 0 z16 hN hM z16 (fun _ => rfl) (fun h => by cases h) (fun h => by cases h) (fun _ => rfl)
  have hx : V ^^^ U = ((X ||| (N : Int).toNat * 32) ||| (M : Int).toNat * 65536) ||| (0 : Int).toNat * 1024 := by
    rw [hV, hU, hX]; exact words_x w K0 0 0 N M 0 z16 z16 hN hM z16 (.inr ⟨rfl, rfl⟩) (.inl tN) (.inl tM) (.inr rfl)
  have p1 : bin Try.prog .xor 3 false (I 0) (I 0) = some (I (X : Int)) := by rw [hX]; exact xor64 false 0 0 z16 z16
  have bx : X < 2 ^ 4 := by rw [hX]; exact Nat.xor_lt_two_pow (nat16 z16) (nat16 z16)
  have bV : V < 2 ^ 32 := by rw [hV]; exact or_lt (or_lt (or_lt (or_lt hwK.1 (b32 (nat16 z16)).1) (b32 (nat16 hN)).2.1) (b32 (nat16 hM)).2.2.2) (or_lt hwK.2 (b32 (nat16 z16)).2.2.1)
  have bU : U < 2 ^ 32 := by rw [hU]; exact or_lt (or_lt (or_lt (or_lt hwK.1 (b32 (nat16 z16)).1) (b32 (nat16 z16)).2.1) (b32 (nat16 z16)).2.2.2) (or_lt hwK.2 (b32 (nat16 z16)).2.2.1)
  clear hV hU hX
  have r0 : ∀ H, pureCall (isa_Word.f G 60) [Ins o 0 0 0 0 0] H = _ := fun H => pureCall_of (H := H) w0 rfl rfl
  have r1 : ∀ H, pureCall (isa_Word.f G 60) [Ins o 0 N M 0 0] H = _ := fun H => pureCall_of (H := H) w1 rfl rfl
  have p2 := convN X (by omega)
  have p3 := conv32 N (le31 hN)
  have p4 := shl5 (N : Int).toNat (Nat.le_of_lt_succ (Nat.lt_of_lt_of_le (nat16 hN) (by decide)))
  have l0 : X < 2 ^ 32 := by omega
  have p5 := or32 false X ((N : Int).toNat * 32) l0 (b32 (nat16 hN)).2.1
  have p6 := conv32 M (le31 hM)
  have p7 := shl16 (M : Int).toNat (Nat.le_of_lt_succ (Nat.lt_of_lt_of_le (nat16 hM) (by decide)))
  have l1 : X ||| (N : Int).toNat * 32 < 2 ^ 32 := or_lt l0 (b32 (nat16 hN)).2.1
  have p8 := or32 false (X ||| (N : Int).toNat * 32) ((M : Int).toNat * 65536) l1 (b32 (nat16 hM)).2.2.2
  have p9 := conv32 0 (le31 z16)
  have p10 := shl10 (0 : Int).toNat (Nat.le_of_lt_succ (Nat.lt_of_lt_of_le (nat16 z16) (by decide)))
  have l2 : (X ||| (N : Int).toNat * 32) ||| (M : Int).toNat * 65536 < 2 ^ 32 := or_lt l1 (b32 (nat16 hM)).2.2.2
  have p11 := or32 false ((X ||| (N : Int).toNat * 32) ||| (M : Int).toNat * 65536) ((0 : Int).toNat * 1024) l2 (b32 (nat16 z16)).2.2.1
  have p12 := xor32 false V U bV bU
  rw [hx] at p12
  obtain ⟨E, hE⟩ : ∃ E : Nat, E = ((X ||| (N : Int).toNat * 32) ||| (M : Int).toNat * 65536) ||| (0 : Int).toNat * 1024 := ⟨_, rfl⟩
  rw [← hE] at p11 p12
  have p13 : bin Try.prog .eql 27 false (W32 E) (W32 E) = some (.bool true) := by rw [bin_eql]; simp
  generalize (X ||| (N : Int).toNat * 32) ||| (M : Int).toNat * 65536 = Y2 at *
  generalize X ||| (N : Int).toNat * 32 = Y1 at *
  rw [alembiclaw22_IsaFields.step]
  unfold alembiclaw22_IsaFields.c
  repeat first
    | refine oB (by first | (with_reducible exact rfl) | ((first | (simp only [pu_val, nth_zero, nth_succ, gd_tt, gd_ff, gd_tf, gd_ft, gd_no, pickA_true, pickA_false, un_not, rf, rh, e8, e10, e11, cN, cM, r0, r1, p1, p2, p3, p4, p5, p6, p7, p8, p9, p10, p11, p12, p13, Bool.not_true, Bool.not_false]; first | done | (with_reducible exact rfl) | (with_reducible exact ⟨rfl, rfl⟩)) | simp [pu_val, boxRoA, boxA, fieldAddrV, loadV, loadC, storable, AV.cells, extractA, buildRo, buildOwn, fillE, buildSt, fillA, stS, storeV, recell, putC, lenSl, lenStr, idxAddrSl, idxAddrArr, allSome]); first | done | (with_reducible exact rfl) | (with_reducible exact ⟨rfl, rfl⟩))) ?_
    | refine lB (by first | (with_reducible exact rfl) | ((first | (simp only [pu_val, nth_zero, nth_succ, gd_tt, gd_ff, gd_tf, gd_ft, gd_no, pickA_true, pickA_false, un_not, rf, rh, e8, e10, e11, cN, cM, r0, r1, p1, p2, p3, p4, p5, p6, p7, p8, p9, p10, p11, p12, p13, Bool.not_true, Bool.not_false]; first | done | (with_reducible exact rfl) | (with_reducible exact ⟨rfl, rfl⟩)) | simp [pu_val, boxRoA, boxA, fieldAddrV, loadV, loadC, storable, AV.cells, extractA, buildRo, buildOwn, fillE, buildSt, fillA, stS, storeV, recell, putC, lenSl, lenStr, idxAddrSl, idxAddrArr, allSome]); first | done | (with_reducible exact rfl) | (with_reducible exact ⟨rfl, rfl⟩))) ?_
    | refine oT ?_
    | refine oN ?_
    | refine oX ?_
    | refine oXn ?_
    | refine oXr ?_
    | exact oF (finV_bool ..)
    | apply oK
    | refine lT ?_
    | refine lN ?_
    | refine lX ?_
    | refine lXn ?_
    | refine lXr ?_
    | apply lK
    | refine oI ?_
    | refine oJ rfl ?_
    | refine lI ?_
    | refine lJ rfl ?_
    | (with_reducible exact rfl)

set_option maxRecDepth 100000 in
set_option maxHeartbeats 4000000 in
theorem run_dnma_x (G : Globs) (o bt : Int) (w K0 : Nat) (hwK : w < 2 ^ 32 ∧ K0 < 2 ^ 32) (e8 : bin Try.prog .eql 3 true (I o) (.int .i64 8) = some (.bool false)) (e10 : bin Try.prog .eql 3 true (I o) (.int .i64 10) = some (.bool false)) (e11 : bin Try.prog .eql 3 true (I o) (.int .i64 11) = some (.bool false))
    (hh : isa_Has.f G 60 [I o] [] = some (.tup [.bool true, .bool true, .bool true, .bool true, I bt], [])) (hW : WordOf G o w K0 true true true false)
    (tD : (w ||| K0) &&& 15 = 0) (tN : (w ||| K0) &&& 480 = 0) (tM : (w ||| K0) &&& 983040 = 0) (tA : True) (x1 x2 x3 x4 : Int) : alembiclaw22_IsaFields.f G 61 [I o, I x1, I x2, I x3, I x4] [] = some (.bool true, []) := by
  have rf : ∀ H, pureCall (alembiclaw22_first.f G 60) [] H = _ := fun H => pureCall_of (H := H) (first_ok G 30) rfl rfl
  have rh : ∀ H, pureCall (isa_Has.f G 60) [I o] H = _ := fun H => pureCall_of (H := H) hh rfl rfl
  have z16 : (0 : Int) ≤ 0 ∧ (0 : Int) < 16 := ⟨by decide, by decide⟩
  have o16 : (0 : Int) ≤ 1 ∧ (1 : Int) < 16 := ⟨by decide, by decide⟩
  obtain ⟨D, hD, cD⟩ := and15 true x1
  obtain ⟨N, hN, cN⟩ := and15 true x2
  obtain ⟨M, hM, cM⟩ := and15 true x3
  obtain ⟨V, hV⟩ : ∃ V : Nat, V = ((((w ||| (D : Int).toNat) ||| (N : Int).toNat * 32) ||| (M : Int).toNat * 65536) ||| (K0 ||| (0 : Int).toNat * 1024)) := ⟨_, rfl⟩
  obtain ⟨U, hU⟩ : ∃ U : Nat, U = ((((w ||| (0 : Int).toNat) ||| (0 : Int).toNat * 32) ||| (0 : Int).toNat * 65536) ||| (K0 ||| (0 : Int).toNat * 1024)) := ⟨_, rfl⟩
  obtain ⟨X, hX⟩ : ∃ X : Nat, X = (D : Int).toNat ^^^ (0 : Int).toNat := ⟨_, rfl⟩
  have w0 : isa_Word.f G 60 [Ins o 0 0 0 0 0] [] = some (.tup [W32 U, .bool true], []) := by
    rw [hU]; exact hW 0 0 0 0 z16 z16 z16 z16 (fun _ => rfl) (fun _ => rfl) (fun _ => rfl) (fun _ => rfl)
  have w1 : isa_Word.f G 60 [Ins o D N M 0 0] [] = some (.tup [W32 V, .bool true], []) := by
    rw [hV]; exact hW D N M 0 hD hN hM z16 (fun h => by cases h) (fun h => by cases h) (fun h => by cases h) (fun _ => rfl)
  have hx : V ^^^ U = ((X ||| (N : Int).toNat * 32) ||| (M : Int).toNat * 65536) ||| (0 : Int).toNat * 1024 := by
    rw [hV, hU, hX]; exact words_x w K0 D 0 N M 0 hD z16 hN hM z16 (.inl tD) (.inl tN) (.inl tM) (.inr rfl)
  have p1 : bin Try.prog .xor 3 false (I D) (I 0) = some (I (X : Int)) := by rw [hX]; exact xor64 false D 0 hD z16
  have bx : X < 2 ^ 4 := by rw [hX]; exact Nat.xor_lt_two_pow (nat16 hD) (nat16 z16)
  have bV : V < 2 ^ 32 := by rw [hV]; exact or_lt (or_lt (or_lt (or_lt hwK.1 (b32 (nat16 hD)).1) (b32 (nat16 hN)).2.1) (b32 (nat16 hM)).2.2.2) (or_lt hwK.2 (b32 (nat16 z16)).2.2.1)
  have bU : U < 2 ^ 32 := by rw [hU]; exact or_lt (or_lt (or_lt (or_lt hwK.1 (b32 (nat16 z16)).1) (b32 (nat16 z16)).2.1) (b32 (nat16 z16)).2.2.2) (or_lt hwK.2 (b32 (nat16 z16)).2.2.1)
  clear hV hU hX
  have r0 : ∀ H, pureCall (isa_Word.f G 60) [Ins o 0 0 0 0 0] H = _ := fun H => pureCall_of (H := H) w0 rfl rfl
  have r1 : ∀ H, pureCall (isa_Word.f G 60) [Ins o D N M 0 0] H = _ := fun H => pureCall_of (H := H) w1 rfl rfl
  have p2 := convN X (by omega)
  have p3 := conv32 N (le31 hN)
  have p4 := shl5 (N : Int).toNat (Nat.le_of_lt_succ (Nat.lt_of_lt_of_le (nat16 hN) (by decide)))
  have l0 : X < 2 ^ 32 := by omega
  have p5 := or32 false X ((N : Int).toNat * 32) l0 (b32 (nat16 hN)).2.1
  have p6 := conv32 M (le31 hM)
  have p7 := shl16 (M : Int).toNat (Nat.le_of_lt_succ (Nat.lt_of_lt_of_le (nat16 hM) (by decide)))
  have l1 : X ||| (N : Int).toNat * 32 < 2 ^ 32 := or_lt l0 (b32 (nat16 hN)).2.1
  have p8 := or32 false (X ||| (N : Int).toNat * 32) ((M : Int).toNat * 65536) l1 (b32 (nat16 hM)).2.2.2
  have p9 := conv32 0 (le31 z16)
  have p10 := shl10 (0 : Int).toNat (Nat.le_of_lt_succ (Nat.lt_of_lt_of_le (nat16 z16) (by decide)))
  have l2 : (X ||| (N : Int).toNat * 32) ||| (M : Int).toNat * 65536 < 2 ^ 32 := or_lt l1 (b32 (nat16 hM)).2.2.2
  have p11 := or32 false ((X ||| (N : Int).toNat * 32) ||| (M : Int).toNat * 65536) ((0 : Int).toNat * 1024) l2 (b32 (nat16 z16)).2.2.1
  have p12 := xor32 false V U bV bU
  rw [hx] at p12
  obtain ⟨E, hE⟩ : ∃ E : Nat, E = ((X ||| (N : Int).toNat * 32) ||| (M : Int).toNat * 65536) ||| (0 : Int).toNat * 1024 := ⟨_, rfl⟩
  rw [← hE] at p11 p12
  have p13 : bin Try.prog .eql 27 false (W32 E) (W32 E) = some (.bool true) := by rw [bin_eql]; simp
  generalize (X ||| (N : Int).toNat * 32) ||| (M : Int).toNat * 65536 = Y2 at *
  generalize X ||| (N : Int).toNat * 32 = Y1 at *
  rw [alembiclaw22_IsaFields.step]
  unfold alembiclaw22_IsaFields.c
  repeat first
    | refine oB (by first | (with_reducible exact rfl) | ((first | (simp only [pu_val, nth_zero, nth_succ, gd_tt, gd_ff, gd_tf, gd_ft, gd_no, pickA_true, pickA_false, un_not, rf, rh, e8, e10, e11, cD, cN, cM, r0, r1, p1, p2, p3, p4, p5, p6, p7, p8, p9, p10, p11, p12, p13, Bool.not_true, Bool.not_false]; first | done | (with_reducible exact rfl) | (with_reducible exact ⟨rfl, rfl⟩)) | simp [pu_val, boxRoA, boxA, fieldAddrV, loadV, loadC, storable, AV.cells, extractA, buildRo, buildOwn, fillE, buildSt, fillA, stS, storeV, recell, putC, lenSl, lenStr, idxAddrSl, idxAddrArr, allSome]); first | done | (with_reducible exact rfl) | (with_reducible exact ⟨rfl, rfl⟩))) ?_
    | refine lB (by first | (with_reducible exact rfl) | ((first | (simp only [pu_val, nth_zero, nth_succ, gd_tt, gd_ff, gd_tf, gd_ft, gd_no, pickA_true, pickA_false, un_not, rf, rh, e8, e10, e11, cD, cN, cM, r0, r1, p1, p2, p3, p4, p5, p6, p7, p8, p9, p10, p11, p12, p13, Bool.not_true, Bool.not_false]; first | done | (with_reducible exact rfl) | (with_reducible exact ⟨rfl, rfl⟩)) | simp [pu_val, boxRoA, boxA, fieldAddrV, loadV, loadC, storable, AV.cells, extractA, buildRo, buildOwn, fillE, buildSt, fillA, stS, storeV, recell, putC, lenSl, lenStr, idxAddrSl, idxAddrArr, allSome]); first | done | (with_reducible exact rfl) | (with_reducible exact ⟨rfl, rfl⟩))) ?_
    | refine oT ?_
    | refine oN ?_
    | refine oX ?_
    | refine oXn ?_
    | refine oXr ?_
    | exact oF (finV_bool ..)
    | apply oK
    | refine lT ?_
    | refine lN ?_
    | refine lX ?_
    | refine lXn ?_
    | refine lXr ?_
    | apply lK
    | refine oI ?_
    | refine oJ rfl ?_
    | refine lI ?_
    | refine lJ rfl ?_
    | (with_reducible exact rfl)

set_option maxRecDepth 100000 in
set_option maxHeartbeats 4000000 in
theorem run__x (G : Globs) (o bt : Int) (w K0 : Nat) (hwK : w < 2 ^ 32 ∧ K0 < 2 ^ 32) (e8 : bin Try.prog .eql 3 true (I o) (.int .i64 8) = some (.bool false)) (e10 : bin Try.prog .eql 3 true (I o) (.int .i64 10) = some (.bool false)) (e11 : bin Try.prog .eql 3 true (I o) (.int .i64 11) = some (.bool false))
    (hh : isa_Has.f G 60 [I o] [] = some (.tup [.bool false, .bool false, .bool false, .bool false, I bt], [])) (hW : WordOf G o w K0 false false false false)
    (tD : True) (tN : True) (tM : True) (tA : True) (x1 x2 x3 x4 : Int) : alembiclaw22_IsaFields.f G 61 [I o, I x1, I x2, I x3, I x4] [] = some (.bool true, []) := by
  have rf : ∀ H, pureCall (alembiclaw22_first.f G 60) [] H = _ := fun H => pureCall_of (H := H) (first_ok G 30) rfl rfl
  have rh : ∀ H, pureCall (isa_Has.f G 60) [I o] H = _ := fun H => pureCall_of (H := H) hh rfl rfl
  have z16 : (0 : Int) ≤ 0 ∧ (0 : Int) < 16 := ⟨by decide, by decide⟩
  have o16 : (0 : Int) ≤ 1 ∧ (1 : Int) < 16 := ⟨by decide, by decide⟩
  obtain ⟨V, hV⟩ : ∃ V : Nat, V = ((((w ||| (0 : Int).toNat) ||| (0 : Int).toNat * 32) ||| (0 : Int).toNat * 65536) ||| (K0 ||| (0 : Int).toNat * 1024)) := ⟨_, rfl⟩
  obtain ⟨U, hU⟩ : ∃ U : Nat, U = ((((w ||| (0 : Int).toNat) ||| (0 : Int).toNat * 32) ||| (0 : Int).toNat * 65536) ||| (K0 ||| (0 : Int).toNat * 1024)) := ⟨_, rfl⟩
  obtain ⟨X, hX⟩ : ∃ X : Nat, X = (0 : Int).toNat ^^^ (0 : Int).toNat := ⟨_, rfl⟩
  have w0 : isa_Word.f G 60 [Ins o 0 0 0 0 0] [] = some (.tup [W32 U, .bool true], []) := by
    rw [hU]; exact hW 0 0 0 0 z16 z16 z16 z16 (fun _ => rfl) (fun _ => rfl) (fun _ => rfl) (fun _ => rfl)
  have w1 : isa_Word.f G 60 [Ins o 0 0 0 0 0] [] = some (.tup [W32 V, .bool true], []) := by
    rw [hV]; exact hW 0 0 0 0 z16 z16 z16 z16 (fun _ => rfl) (fun _ => rfl) (fun _ => rfl) (fun _ => rfl)
  have hx : V ^^^ U = ((X ||| (0 : Int).toNat * 32) ||| (0 : Int).toNat * 65536) ||| (0 : Int).toNat * 1024 := by
    rw [hV, hU, hX]; exact words_x w K0 0 0 0 0 0 z16 z16 z16 z16 z16 (.inr ⟨rfl, rfl⟩) (.inr rfl) (.inr rfl) (.inr rfl)
  have p1 : bin Try.prog .xor 3 false (I 0) (I 0) = some (I (X : Int)) := by rw [hX]; exact xor64 false 0 0 z16 z16
  have bx : X < 2 ^ 4 := by rw [hX]; exact Nat.xor_lt_two_pow (nat16 z16) (nat16 z16)
  have bV : V < 2 ^ 32 := by rw [hV]; exact or_lt (or_lt (or_lt (or_lt hwK.1 (b32 (nat16 z16)).1) (b32 (nat16 z16)).2.1) (b32 (nat16 z16)).2.2.2) (or_lt hwK.2 (b32 (nat16 z16)).2.2.1)
  have bU : U < 2 ^ 32 := by rw [hU]; exact or_lt (or_lt (or_lt (or_lt hwK.1 (b32 (nat16 z16)).1) (b32 (nat16 z16)).2.1) (b32 (nat16 z16)).2.2.2) (or_lt hwK.2 (b32 (nat16 z16)).2.2.1)
  have hVU : V = U := hV.trans hU.symm
  clear hV hU hX
  have r0 : ∀ H, pureCall (isa_Word.f G 60) [Ins o 0 0 0 0 0] H = _ := fun H => pureCall_of (H := H) w0 rfl rfl
  have r1 : ∀ H, pureCall (isa_Word.f G 60) [Ins o 0 0 0 0 0] H = _ := fun H => pureCall_of (H := H) w1 rfl rfl
  have p2 := convN X (by omega)
  have p3 := conv32 0 (le31 z16)
  have p4 := shl5 (0 : Int).toNat (Nat.le_of_lt_succ (Nat.lt_of_lt_of_le (nat16 z16) (by decide)))
  have l0 : X < 2 ^ 32 := by omega
  have p5 := or32 false X ((0 : Int).toNat * 32) l0 (b32 (nat16 z16)).2.1
  have p6 := conv32 0 (le31 z16)
  have p7 := shl16 (0 : Int).toNat (Nat.le_of_lt_succ (Nat.lt_of_lt_of_le (nat16 z16) (by decide)))
  have l1 : X ||| (0 : Int).toNat * 32 < 2 ^ 32 := or_lt l0 (b32 (nat16 z16)).2.1
  have p8 := or32 false (X ||| (0 : Int).toNat * 32) ((0 : Int).toNat * 65536) l1 (b32 (nat16 z16)).2.2.2
  have p9 := conv32 0 (le31 z16)
  have p10 := shl10 (0 : Int).toNat (Nat.le_of_lt_succ (Nat.lt_of_lt_of_le (nat16 z16) (by decide)))
  have l2 : (X ||| (0 : Int).toNat * 32) ||| (0 : Int).toNat * 65536 < 2 ^ 32 := or_lt l1 (b32 (nat16 z16)).2.2.2
  have p11 := or32 false ((X ||| (0 : Int).toNat * 32) ||| (0 : Int).toNat * 65536) ((0 : Int).toNat * 1024) l2 (b32 (nat16 z16)).2.2.1
  have p12 := xor32 false V U bV bU
  rw [hx] at p12
  obtain ⟨E, hE⟩ : ∃ E : Nat, E = ((X ||| (0 : Int).toNat * 32) ||| (0 : Int).toNat * 65536) ||| (0 : Int).toNat * 1024 := ⟨_, rfl⟩
  rw [← hE] at p11 p12
  have p13 : bin Try.prog .eql 27 false (W32 E) (W32 E) = some (.bool true) := by rw [bin_eql]; simp
  generalize (X ||| (0 : Int).toNat * 32) ||| (0 : Int).toNat * 65536 = Y2 at *
  generalize X ||| (0 : Int).toNat * 32 = Y1 at *
  rw [hVU] at p12
  rw [alembiclaw22_IsaFields.step]
  unfold alembiclaw22_IsaFields.c
  repeat first
    | refine oB (by first | (with_reducible exact rfl) | ((first | (simp only [pu_val, nth_zero, nth_succ, gd_tt, gd_ff, gd_tf, gd_ft, gd_no, pickA_true, pickA_false, un_not, rf, rh, e8, e10, e11, r0, r1, p1, p2, p3, p4, p5, p6, p7, p8, p9, p10, p11, p12, p13, Bool.not_true, Bool.not_false]; first | done | (with_reducible exact rfl) | (with_reducible exact ⟨rfl, rfl⟩)) | simp [pu_val, boxRoA, boxA, fieldAddrV, loadV, loadC, storable, AV.cells, extractA, buildRo, buildOwn, fillE, buildSt, fillA, stS, storeV, recell, putC, lenSl, lenStr, idxAddrSl, idxAddrArr, allSome]); first | done | (with_reducible exact rfl) | (with_reducible exact ⟨rfl, rfl⟩))) ?_
    | refine lB (by first | (with_reducible exact rfl) | ((first | (simp only [pu_val, nth_zero, nth_succ, gd_tt, gd_ff, gd_tf, gd_ft, gd_no, pickA_true, pickA_false, un_not, rf, rh, e8, e10, e11, r0, r1, p1, p2, p3, p4, p5, p6, p7, p8, p9, p10, p11, p12, p13, Bool.not_true, Bool.not_false]; first | done | (with_reducible exact rfl) | (with_reducible exact ⟨rfl, rfl⟩)) | simp [pu_val, boxRoA, boxA, fieldAddrV, loadV, loadC, storable, AV.cells, extractA, buildRo, buildOwn, fillE, buildSt, fillA, stS, storeV, recell, putC, lenSl, lenStr, idxAddrSl, idxAddrArr, allSome]); first | done | (with_reducible exact rfl) | (with_reducible exact ⟨rfl, rfl⟩))) ?_
    | refine oT ?_
    | refine oN ?_
    | refine oX ?_
    | refine oXn ?_
    | refine oXr ?_
    | exact oF (finV_bool ..)
    | apply oK
    | refine lT ?_
    | refine lN ?_
    | refine lX ?_
    | refine lXn ?_
    | refine lXr ?_
    | apply lK
    | refine oI ?_
    | refine oJ rfl ?_
    | refine lI ?_
    | refine lJ rfl ?_
    | (with_reducible exact rfl)

set_option maxRecDepth 100000 in
set_option maxHeartbeats 4000000 in
theorem run_a_x (G : Globs) (o bt : Int) (w K0 : Nat) (hwK : w < 2 ^ 32 ∧ K0 < 2 ^ 32) (e8 : bin Try.prog .eql 3 true (I o) (.int .i64 8) = some (.bool false)) (e10 : bin Try.prog .eql 3 true (I o) (.int .i64 10) = some (.bool false)) (e11 : bin Try.prog .eql 3 true (I o) (.int .i64 11) = some (.bool false))
    (hh : isa_Has.f G 60 [I o] [] = some (.tup [.bool false, .bool false, .bool false, .bool true, I bt], [])) (hW : WordOf G o w K0 false false false false)
    (tD : True) (tN : True) (tM : True) (tA : True) (x1 x2 x3 x4 : Int) : alembiclaw22_IsaFields.f G 61 [I o, I x1, I x2, I x3, I x4] [] = some (.bool true, []) := by
  have rf : ∀ H, pureCall (alembiclaw22_first.f G 60) [] H = _ := fun H => pureCall_of (H := H) (first_ok G 30) rfl rfl
  have rh : ∀ H, pureCall (isa_Has.f G 60) [I o] H = _ := fun H => pureCall_of (H := H) hh rfl rfl
  have z16 : (0 : Int) ≤ 0 ∧ (0 : Int) < 16 := ⟨by decide, by decide⟩
  have o16 : (0 : Int) ≤ 1 ∧ (1 : Int) < 16 := ⟨by decide, by decide⟩
  obtain ⟨V, hV⟩ : ∃ V : Nat, V = ((((w ||| (0 : Int).toNat) ||| (0 : Int).toNat * 32) ||| (0 : Int).toNat * 65536) ||| (K0 ||| (0 : Int).toNat * 1024)) := ⟨_, rfl⟩
  obtain ⟨U, hU⟩ : ∃ U : Nat, U = ((((w ||| (0 : Int).toNat) ||| (0 : Int).toNat * 32) ||| (0 : Int).toNat * 65536) ||| (K0 ||| (0 : Int).toNat * 1024)) := ⟨_, rfl⟩
  obtain ⟨X, hX⟩ : ∃ X : Nat, X = (0 : Int).toNat ^^^ (0 : Int).toNat := ⟨_, rfl⟩
  have w0 : isa_Word.f G 60 [Ins o 0 0 0 0 0] [] = some (.tup [W32 U, .bool true], []) := by
    rw [hU]; exact hW 0 0 0 0 z16 z16 z16 z16 (fun _ => rfl) (fun _ => rfl) (fun _ => rfl) (fun _ => rfl)
  have w1 : isa_Word.f G 60 [Ins o 0 0 0 0 0] [] = some (.tup [W32 V, .bool true], []) := by
    rw [hV]; exact hW 0 0 0 0 z16 z16 z16 z16 (fun _ => rfl) (fun _ => rfl) (fun _ => rfl) (fun _ => rfl)
  have hx : V ^^^ U = ((X ||| (0 : Int).toNat * 32) ||| (0 : Int).toNat * 65536) ||| (0 : Int).toNat * 1024 := by
    rw [hV, hU, hX]; exact words_x w K0 0 0 0 0 0 z16 z16 z16 z16 z16 (.inr ⟨rfl, rfl⟩) (.inr rfl) (.inr rfl) (.inr rfl)
  have p1 : bin Try.prog .xor 3 false (I 0) (I 0) = some (I (X : Int)) := by rw [hX]; exact xor64 false 0 0 z16 z16
  have bx : X < 2 ^ 4 := by rw [hX]; exact Nat.xor_lt_two_pow (nat16 z16) (nat16 z16)
  have bV : V < 2 ^ 32 := by rw [hV]; exact or_lt (or_lt (or_lt (or_lt hwK.1 (b32 (nat16 z16)).1) (b32 (nat16 z16)).2.1) (b32 (nat16 z16)).2.2.2) (or_lt hwK.2 (b32 (nat16 z16)).2.2.1)
  have bU : U < 2 ^ 32 := by rw [hU]; exact or_lt (or_lt (or_lt (or_lt hwK.1 (b32 (nat16 z16)).1) (b32 (nat16 z16)).2.1) (b32 (nat16 z16)).2.2.2) (or_lt hwK.2 (b32 (nat16 z16)).2.2.1)
  have hVU : V = U := hV.trans hU.symm
  clear hV hU hX
  have r0 : ∀ H, pureCall (isa_Word.f G 60) [Ins o 0 0 0 0 0] H = _ := fun H => pureCall_of (H := H) w0 rfl rfl
  have r1 : ∀ H, pureCall (isa_Word.f G 60) [Ins o 0 0 0 0 0] H = _ := fun H => pureCall_of (H := H) w1 rfl rfl
  have p2 := convN X (by omega)
  have p3 := conv32 0 (le31 z16)
  have p4 := shl5 (0 : Int).toNat (Nat.le_of_lt_succ (Nat.lt_of_lt_of_le (nat16 z16) (by decide)))
  have l0 : X < 2 ^ 32 := by omega
  have p5 := or32 false X ((0 : Int).toNat * 32) l0 (b32 (nat16 z16)).2.1
  have p6 := conv32 0 (le31 z16)
  have p7 := shl16 (0 : Int).toNat (Nat.le_of_lt_succ (Nat.lt_of_lt_of_le (nat16 z16) (by decide)))
  have l1 : X ||| (0 : Int).toNat * 32 < 2 ^ 32 := or_lt l0 (b32 (nat16 z16)).2.1
  have p8 := or32 false (X ||| (0 : Int).toNat * 32) ((0 : Int).toNat * 65536) l1 (b32 (nat16 z16)).2.2.2
  have p9 := conv32 0 (le31 z16)
  have p10 := shl10 (0 : Int).toNat (Nat.le_of_lt_succ (Nat.lt_of_lt_of_le (nat16 z16) (by decide)))
  have l2 : (X ||| (0 : Int).toNat * 32) ||| (0 : Int).toNat * 65536 < 2 ^ 32 := or_lt l1 (b32 (nat16 z16)).2.2.2
  have p11 := or32 false ((X ||| (0 : Int).toNat * 32) ||| (0 : Int).toNat * 65536) ((0 : Int).toNat * 1024) l2 (b32 (nat16 z16)).2.2.1
  have p12 := xor32 false V U bV bU
  rw [hx] at p12
  obtain ⟨E, hE⟩ : ∃ E : Nat, E = ((X ||| (0 : Int).toNat * 32) ||| (0 : Int).toNat * 65536) ||| (0 : Int).toNat * 1024 := ⟨_, rfl⟩
  rw [← hE] at p11 p12
  have p13 : bin Try.prog .eql 27 false (W32 E) (W32 E) = some (.bool true) := by rw [bin_eql]; simp
  generalize (X ||| (0 : Int).toNat * 32) ||| (0 : Int).toNat * 65536 = Y2 at *
  generalize X ||| (0 : Int).toNat * 32 = Y1 at *
  rw [hVU] at p12
  rw [alembiclaw22_IsaFields.step]
  unfold alembiclaw22_IsaFields.c
  repeat first
    | refine oB (by first | (with_reducible exact rfl) | ((first | (simp only [pu_val, nth_zero, nth_succ, gd_tt, gd_ff, gd_tf, gd_ft, gd_no, pickA_true, pickA_false, un_not, rf, rh, e8, e10, e11, r0, r1, p1, p2, p3, p4, p5, p6, p7, p8, p9, p10, p11, p12, p13, Bool.not_true, Bool.not_false]; first | done | (with_reducible exact rfl) | (with_reducible exact ⟨rfl, rfl⟩)) | simp [pu_val, boxRoA, boxA, fieldAddrV, loadV, loadC, storable, AV.cells, extractA, buildRo, buildOwn, fillE, buildSt, fillA, stS, storeV, recell, putC, lenSl, lenStr, idxAddrSl, idxAddrArr, allSome]); first | done | (with_reducible exact rfl) | (with_reducible exact ⟨rfl, rfl⟩))) ?_
    | refine lB (by first | (with_reducible exact rfl) | ((first | (simp only [pu_val, nth_zero, nth_succ, gd_tt, gd_ff, gd_tf, gd_ft, gd_no, pickA_true, pickA_false, un_not, rf, rh, e8, e10, e11, r0, r1, p1, p2, p3, p4, p5, p6, p7, p8, p9, p10, p11, p12, p13, Bool.not_true, Bool.not_false]; first | done | (with_reducible exact rfl) | (with_reducible exact ⟨rfl, rfl⟩)) | simp [pu_val, boxRoA, boxA, fieldAddrV, loadV, loadC, storable, AV.cells, extractA, buildRo, buildOwn, fillE, buildSt, fillA, stS, storeV, recell, putC, lenSl, lenStr, idxAddrSl, idxAddrArr, allSome]); first | done | (with_reducible exact rfl) | (with_reducible exact ⟨rfl, rfl⟩))) ?_
    | refine oT ?_
    | refine oN ?_
    | refine oX ?_
    | refine oXn ?_
    | refine oXr ?_
    | exact oF (finV_bool ..)
    | apply oK
    | refine lT ?_
    | refine lN ?_
    | refine lX ?_
    | refine lXn ?_
    | refine lXr ?_
    | apply lK
    | refine oI ?_
    | refine oJ rfl ?_
    | refine lI ?_
    | refine lJ rfl ?_
    | (with_reducible exact rfl)

set_option maxRecDepth 100000 in
set_option maxHeartbeats 4000000 in
theorem run_d_x (G : Globs) (o bt : Int) (w K0 : Nat) (hwK : w < 2 ^ 32 ∧ K0 < 2 ^ 32) (e8 : bin Try.prog .eql 3 true (I o) (.int .i64 8) = some (.bool false)) (e10 : bin Try.prog .eql 3 true (I o) (.int .i64 10) = some (.bool false)) (e11 : bin Try.prog .eql 3 true (I o) (.int .i64 11) = some (.bool false))
    (hh : isa_Has.f G 60 [I o] [] = some (.tup [.bool true, .bool false, .bool false, .bool false, I bt], [])) (hW : WordOf G o w K0 true false false false)
    (tD : (w ||| K0) &&& 15 = 0) (tN : True) (tM : True) (tA : True) (x1 x2 x3 x4 : Int) : alembiclaw22_IsaFields.f G 61 [I o, I x1, I x2, I x3, I x4] [] = some (.bool true, []) := by
  have rf : ∀ H, pureCall (alembiclaw22_first.f G 60) [] H = _ := fun H => pureCall_of (H := H) (first_ok G 30) rfl rfl
  have rh : ∀ H, pureCall (isa_Has.f G 60) [I o] H = _ := fun H => pureCall_of (H := H) hh rfl rfl
  have z16 : (0 : Int) ≤ 0 ∧ (0 : Int) < 16 := ⟨by decide, by decide⟩
  have o16 : (0 : Int) ≤ 1 ∧ (1 : Int) < 16 := ⟨by decide, by decide⟩
  obtain ⟨D, hD, cD⟩ := and15 true x1
  obtain ⟨V, hV⟩ : ∃ V : Nat, V = ((((w ||| (D : Int).toNat) ||| (0 : Int).toNat * 32) ||| (0 : Int).toNat * 65536) ||| (K0 ||| (0 : Int).toNat * 1024)) := ⟨_, rfl⟩
  obtain ⟨U, hU⟩ : ∃ U : Nat, U = ((((w ||| (0 : Int).toNat) ||| (0 : Int).toNat * 32) ||| (0 : Int).toNat * 65536) ||| (K0 ||| (0 : Int).toNat * 1024)) := ⟨_, rfl⟩
  obtain ⟨X, hX⟩ : ∃ X : Nat, X = (D : Int).toNat ^^^ (0 : Int).toNat := ⟨_, rfl⟩
  have w0 : isa_Word.f G 60 [Ins o 0 0 0 0 0] [] = some (.tup [W32 U, .bool true], []) := by
    rw [hU]; exact hW 0 0 0 0 z16 z16 z16 z16 (fun _ => rfl) (fun _ => rfl) (fun _ => rfl) (fun _ => rfl)
  have w1 : isa_Word.f G 60 [Ins o D 0 0 0 0] [] = some (.tup [W32 V, .bool true], []) := by
    rw [hV]; exact hW D 0 0 0 hD z16 z16 z16 (fun h => by cases h) (fun _ => rfl) (fun _ => rfl) (fun _ => rfl)
  have hx : V ^^^ U = ((X ||| (0 : Int).toNat * 32) ||| (0 : Int).toNat * 65536) ||| (0 : Int).toNat * 1024 := by
    rw [hV, hU, hX]; exact words_x w K0 D 0 0 0 0 hD z16 z16 z16 z16 (.inl tD) (.inr rfl) (.inr rfl) (.inr rfl)
  have p1 : bin Try.prog .xor 3 false (I D) (I 0) = some (I (X : Int)) := by rw [hX]; exact xor64 false D 0 hD z16
  have bx : X < 2 ^ 4 := by rw [hX]; exact Nat.xor_lt_two_pow (nat16 hD) (nat16 z16)
  have bV : V < 2 ^ 32 := by rw [hV]; exact or_lt (or_lt (or_lt (or_lt hwK.1 (b32 (nat16 hD)).1) (b32 (nat16 z16)).2.1) (b32 (nat16 z16)).2.2.2) (or_lt hwK.2 (b32 (nat16 z16)).2.2.1)
  have bU : U < 2 ^ 32 := by rw [hU]; exact or_lt (or_lt (or_lt (or_lt hwK.1 (b32 (nat16 z16)).1) (b32 (nat16 z16)).2.1) (b32 (nat16 z16)).2.2.2) (or_lt hwK.2 (b32 (nat16 z16)).2.2.1)
  clear hV hU hX
  have r0 : ∀ H, pureCall (isa_Word.f G 60) [Ins o 0 0 0 0 0] H = _ := fun H => pureCall_of (H := H) w0 rfl rfl
  have r1 : ∀ H, pureCall (isa_Word.f G 60) [Ins o D 0 0 0 0] H = _ := fun H => pureCall_of (H := H) w1 rfl rfl
  have p2 := convN X (by omega)
  have p3 := conv32 0 (le31 z16)
  have p4 := shl5 (0 : Int).toNat (Nat.le_of_lt_succ (Nat.lt_of_lt_of_le (nat16 z16) (by decide)))
  have l0 : X < 2 ^ 32 := by omega
  have p5 := or32 false X ((0 : Int).toNat * 32) l0 (b32 (nat16 z16)).2.1
  have p6 := conv32 0 (le31 z16)
  have p7 := shl16 (0 : Int).toNat (Nat.le_of_lt_succ (Nat.lt_of_lt_of_le (nat16 z16) (by decide)))
  have l1 : X ||| (0 : Int).toNat * 32 < 2 ^ 32 := or_lt l0 (b32 (nat16 z16)).2.1
  have p8 := or32 false (X ||| (0 : Int).toNat * 32) ((0 : Int).toNat * 65536) l1 (b32 (nat16 z16)).2.2.2
  have p9 := conv32 0 (le31 z16)
  have p10 := shl10 (0 : Int).toNat (Nat.le_of_lt_succ (Nat.lt_of_lt_of_le (nat16 z16) (by decide)))
  have l2 : (X ||| (0 : Int).toNat * 32) ||| (0 : Int).toNat * 65536 < 2 ^ 32 := or_lt l1 (b32 (nat16 z16)).2.2.2
  have p11 := or32 false ((X ||| (0 : Int).toNat * 32) ||| (0 : Int).toNat * 65536) ((0 : Int).toNat * 1024) l2 (b32 (nat16 z16)).2.2.1
  have p12 := xor32 false V U bV bU
  rw [hx] at p12
  obtain ⟨E, hE⟩ : ∃ E : Nat, E = ((X ||| (0 : Int).toNat * 32) ||| (0 : Int).toNat * 65536) ||| (0 : Int).toNat * 1024 := ⟨_, rfl⟩
  rw [← hE] at p11 p12
  have p13 : bin Try.prog .eql 27 false (W32 E) (W32 E) = some (.bool true) := by rw [bin_eql]; simp
  generalize (X ||| (0 : Int).toNat * 32) ||| (0 : Int).toNat * 65536 = Y2 at *
  generalize X ||| (0 : Int).toNat * 32 = Y1 at *
  rw [alembiclaw22_IsaFields.step]
  unfold alembiclaw22_IsaFields.c
  repeat first
    | refine oB (by first | (with_reducible exact rfl) | ((first | (simp only [pu_val, nth_zero, nth_succ, gd_tt, gd_ff, gd_tf, gd_ft, gd_no, pickA_true, pickA_false, un_not, rf, rh, e8, e10, e11, cD, r0, r1, p1, p2, p3, p4, p5, p6, p7, p8, p9, p10, p11, p12, p13, Bool.not_true, Bool.not_false]; first | done | (with_reducible exact rfl) | (with_reducible exact ⟨rfl, rfl⟩)) | simp [pu_val, boxRoA, boxA, fieldAddrV, loadV, loadC, storable, AV.cells, extractA, buildRo, buildOwn, fillE, buildSt, fillA, stS, storeV, recell, putC, lenSl, lenStr, idxAddrSl, idxAddrArr, allSome]); first | done | (with_reducible exact rfl) | (with_reducible exact ⟨rfl, rfl⟩))) ?_
    | refine lB (by first | (with_reducible exact rfl) | ((first | (simp only [pu_val, nth_zero, nth_succ, gd_tt, gd_ff, gd_tf, gd_ft, gd_no, pickA_true, pickA_false, un_not, rf, rh, e8, e10, e11, cD, r0, r1, p1, p2, p3, p4, p5, p6, p7, p8, p9, p10, p11, p12, p13, Bool.not_true, Bool.not_false]; first | done | (with_reducible exact rfl) | (with_reducible exact ⟨rfl, rfl⟩)) | simp [pu_val, boxRoA, boxA, fieldAddrV, loadV, loadC, storable, AV.cells, extractA, buildRo, buildOwn, fillE, buildSt, fillA, stS, storeV, recell, putC, lenSl, lenStr, idxAddrSl, idxAddrArr, allSome]); first | done | (with_reducible exact rfl) | (with_reducible exact ⟨rfl, rfl⟩))) ?_
    | refine oT ?_
    | refine oN ?_
    | refine oX ?_
    | refine oXn ?_
    | refine oXr ?_
    | exact oF (finV_bool ..)
    | apply oK
    | refine lT ?_
    | refine lN ?_
    | refine lX ?_
    | refine lXn ?_
    | refine lXr ?_
    | apply lK
    | refine oI ?_
    | refine oJ rfl ?_
    | refine lI ?_
    | refine lJ rfl ?_
    | (with_reducible exact rfl)

end Go.Proofs.Ytofhkjacpjfclaa
