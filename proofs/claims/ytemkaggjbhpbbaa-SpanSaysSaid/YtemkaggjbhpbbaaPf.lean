/- What the document's spans give: products, shifts, masks. -/
import Derived.Test.YtemkaggjbhpbbaaPe
namespace Go.Proofs.Ytemkaggjbhpbbaa.Mir
open Go
set_option linter.unusedVariables false
set_option linter.unusedSimpArgs false

abbrev mulXs (a b : Int) : AV := .ro false [I a, I a, I b, I b]
abbrev mulYs (c d : Int) : AV := .ro false [I c, I d, I c, I d]
abbrev mulH (lo hi : Int) : AHeap := [⟨24, 2, [Sp 0 0]⟩, ⟨24, 2, [Sp lo hi]⟩]
abbrev mulS (X xs ys : AV) (i : Int) : List AV := [.ptr 0 1 0 0, X, xs, ys, .ptr 1 1 0 0, .int .i64 i]

theorem l5_step (G : Globs) (k : Nat) (self : Den) (lp : LoopF) (X : AV) (xs ys : AV) (hX : belowB 2 X = true) (hxs : belowB 2 xs = true) (hys : belowB 2 ys = true) (lo hi : Int) (i : Nat) (hi4 : i < 4) (x y : Int) (p : Bool) (z : Int)
    (h1 : idxAddrSl 1 xs (.int .i64 (i : Int)) = some (.rp false (I x) 0)) (h2 : idxAddrSl 1 ys (.int .i64 (i : Int)) = some (.rp false (I y) 0))
    (h3 : ∀ H, pureCall (alembicref17_Product.f G k) [I x, I y] H = some (.tup [I z, .bool p], H)) (hj : ∀ (a b c d : Int) H, pureCall (alembicref17_Join.f G k) [Sp a b, Sp c d] H = some (Sp (min a c) (max b d), H)) :
    (p = true → alembicref17_Mul.l5 G k 2 self lp (mulS X xs ys i) (mulH lo hi) = lp (mulS X xs ys ((i + 1 : Nat) : Int)) (mulH (min lo z) (max hi z))) ∧
    (p = false → alembicref17_Mul.l5 G k 2 self lp (mulS X xs ys i) (mulH lo hi) = some (.ret, mulS (.bool false) xs ys i, mulH lo hi)) := by
  have hcut : cutH 2 (mulS X xs ys i) (mulH lo hi) = some (mulH lo hi) := by
    simp [cutH, belowL, belowB, hX, hxs, hys, heapBelow]
  have c1 : bin Try.prog .lss 3 true (.int .i64 (i : Int)) (.int .i64 4) = some (.bool true) := by rw [bin_lss, decide_eq_true (by omega)]
  have c2 : bin Try.prog .add 3 true (.int .i64 (i : Int)) (.int .i64 1) = some (.int .i64 ((i + 1 : Nat) : Int)) := by
    rw [bin_add, wrap_of_i64 (by omega) (by omega)]; congr 2
  have e1 : min (min lo z) z = min lo z := by omega
  have e2 : max (max hi z) z = max hi z := by omega
  have j1 : ∀ H, pureCall (alembicref17_Join.f G k) [Sp (min lo z) (max hi z), Sp z z] H = some (Sp (min lo z) (max hi z), H) := fun H => by rw [hj, e1, e2]
  have m1 : foldA min2A (I lo) [I z] = some (I (min lo z)) := min2' ..
  have m2 : foldA max2A (I hi) [I z] = some (I (max hi z)) := max_two ..
  generalize min lo z = lo' at *
  generalize max hi z = hi' at *
  constructor
  · intro hp; subst hp
    rw [alembicref17_Mul.l5]
    refine lC hcut ?_
    repeat first
      | refine oB (by first | (with_reducible exact rfl) | ((first | (simp only [pu_val, nth_zero, nth_succ, gd_tt, gd_ff, gd_tf, gd_ft, gd_no, pickA_true, pickA_false, un_not, c1, h1, h2, h3, m1, m2, j1, c2, Bool.not_true]; first | done | (with_reducible exact rfl) | (with_reducible exact ⟨rfl, rfl⟩)) | simp [pu_val, boxRoA, boxA, fieldAddrV, loadV, loadC, storable, AV.cells, extractA, buildRo, buildOwn, fillE, buildSt, fillA, stS, storeV, recell, putC, lenSl, lenStr, idxAddrSl, idxAddrArr, allSome]); first | done | (with_reducible exact rfl) | (with_reducible exact ⟨rfl, rfl⟩))) ?_
      | refine lB (by first | (with_reducible exact rfl) | ((first | (simp only [pu_val, nth_zero, nth_succ, gd_tt, gd_ff, gd_tf, gd_ft, gd_no, pickA_true, pickA_false, un_not, c1, h1, h2, h3, m1, m2, j1, c2, Bool.not_true]; first | done | (with_reducible exact rfl) | (with_reducible exact ⟨rfl, rfl⟩)) | simp [pu_val, boxRoA, boxA, fieldAddrV, loadV, loadC, storable, AV.cells, extractA, buildRo, buildOwn, fillE, buildSt, fillA, stS, storeV, recell, putC, lenSl, lenStr, idxAddrSl, idxAddrArr, allSome]); first | done | (with_reducible exact rfl) | (with_reducible exact ⟨rfl, rfl⟩))) ?_
      | refine oT ?_
      | refine oN ?_
      | refine oX ?_
      | refine oXn ?_
      | refine oXr ?_
      | exact oF (finV_bool ..)
      | apply oK
      | refine lT ?_
      | refine lN ?_
      | refine lX ?_
      | refine lXn ?_
      | refine lXr ?_
      | apply lK
      | refine oI ?_
      | refine oJ rfl ?_
      | refine lI ?_
      | refine lJ rfl ?_
      | (with_reducible exact rfl)
    rfl
  · intro hp; subst hp
    rw [alembicref17_Mul.l5]
    refine lC hcut ?_
    repeat first
      | refine oB (by first | (with_reducible exact rfl) | ((first | (simp only [pu_val, nth_zero, nth_succ, gd_tt, gd_ff, gd_tf, gd_ft, gd_no, pickA_true, pickA_false, un_not, c1, h1, h2, h3, c2, Bool.not_false]; first | done | (with_reducible exact rfl) | (with_reducible exact ⟨rfl, rfl⟩)) | simp [pu_val, boxRoA, boxA, fieldAddrV, loadV, loadC, storable, AV.cells, extractA, buildRo, buildOwn, fillE, buildSt, fillA, stS, storeV, recell, putC, lenSl, lenStr, idxAddrSl, idxAddrArr, allSome]); first | done | (with_reducible exact rfl) | (with_reducible exact ⟨rfl, rfl⟩))) ?_
      | refine lB (by first | (with_reducible exact rfl) | ((first | (simp only [pu_val, nth_zero, nth_succ, gd_tt, gd_ff, gd_tf, gd_ft, gd_no, pickA_true, pickA_false, un_not, c1, h1, h2, h3, c2, Bool.not_false]; first | done | (with_reducible exact rfl) | (with_reducible exact ⟨rfl, rfl⟩)) | simp [pu_val, boxRoA, boxA, fieldAddrV, loadV, loadC, storable, AV.cells, extractA, buildRo, buildOwn, fillE, buildSt, fillA, stS, storeV, recell, putC, lenSl, lenStr, idxAddrSl, idxAddrArr, allSome]); first | done | (with_reducible exact rfl) | (with_reducible exact ⟨rfl, rfl⟩))) ?_
      | refine oT ?_
      | refine oN ?_
      | refine oX ?_
      | refine oXn ?_
      | refine oXr ?_
      | exact oF (finV_bool ..)
      | apply oK
      | refine lT ?_
      | refine lN ?_
      | refine lX ?_
      | refine lXn ?_
      | refine lXr ?_
      | apply lK
      | refine oI ?_
      | refine oJ rfl ?_
      | refine lI ?_
      | refine lJ rfl ?_
      | (with_reducible exact rfl)
    rfl

theorem l5_end (G : Globs) (k : Nat) (self : Den) (lp : LoopF) (X : AV) (xs ys : AV) (hX : belowB 2 X = true) (hxs : belowB 2 xs = true) (hys : belowB 2 ys = true) (lo hi : Int) :
    alembicref17_Mul.l5 G k 2 self lp (mulS X xs ys ((4 : Nat) : Int)) (mulH lo hi) = some (.exit 0, mulS X xs ys ((4 : Nat) : Int), mulH lo hi) := by
  have hcut : cutH 2 (mulS X xs ys ((4 : Nat) : Int)) (mulH lo hi) = some (mulH lo hi) := by
    simp [cutH, belowL, belowB, hX, hxs, hys, heapBelow]
  have c1 : bin Try.prog .lss 3 true (.int .i64 ((4 : Nat) : Int)) (.int .i64 4) = some (.bool false) := by rw [bin_lss, decide_eq_false (by omega)]
  rw [alembicref17_Mul.l5]
  refine lC hcut ?_
  repeat first
    | refine oB (by first | (with_reducible exact rfl) | ((first | (simp only [pu_val, nth_zero, nth_succ, gd_tt, gd_ff, gd_tf, gd_ft, gd_no, pickA_true, pickA_false, un_not, c1]; first | done | (with_reducible exact rfl) | (with_reducible exact ⟨rfl, rfl⟩)) | simp [pu_val, boxRoA, boxA, fieldAddrV, loadV, loadC, storable, AV.cells, extractA, buildRo, buildOwn, fillE, buildSt, fillA, stS, storeV, recell, putC, lenSl, lenStr, idxAddrSl, idxAddrArr, allSome]); first | done | (with_reducible exact rfl) | (with_reducible exact ⟨rfl, rfl⟩))) ?_
    | refine lB (by first | (with_reducible exact rfl) | ((first | (simp only [pu_val, nth_zero, nth_succ, gd_tt, gd_ff, gd_tf, gd_ft, gd_no, pickA_true, pickA_false, un_not, c1]; first | done | (with_reducible exact rfl) | (with_reducible exact ⟨rfl, rfl⟩)) | simp [pu_val, boxRoA, boxA, fieldAddrV, loadV, loadC, storable, AV.cells, extractA, buildRo, buildOwn, fillE, buildSt, fillA, stS, storeV, recell, putC, lenSl, lenStr, idxAddrSl, idxAddrArr, allSome]); first | done | (with_reducible exact rfl) | (with_reducible exact ⟨rfl, rfl⟩))) ?_
    | refine oT ?_
    | refine oN ?_
    | refine oX ?_
    | refine oXn ?_
    | refine oXr ?_
    | exact oF (finV_bool ..)
    | apply oK
    | refine lT ?_
    | refine lN ?_
    | refine lX ?_
    | refine lXn ?_
    | refine lXr ?_
    | apply lK
    | refine oI ?_
    | refine oJ rfl ?_
    | refine lI ?_
    | refine lJ rfl ?_
    | (with_reducible exact rfl)
  rfl

theorem fin_sb {H : AHeap} {a b : Int} {q : Bool} (h : H[0]? = some ⟨24, 2, [Sp a b]⟩) (G : Globs) : finL [loadV G true 2 (.ptr 0 1 0 0) H, some (.bool q)] 0 H = some (.ret, [.tup [Sp a b, .bool q]], []) := by
  simp [finL, allSome, loadV, h, loadC, AV.cells, finV_span]

theorem rmul_spec (G : Globs) (k : Nat) (a b c d : Int) (ha : Rg a) (hb : Rg b) (hc : Rg c) (hd : Rg d) : alembicref17_Mul.f G (k + 20) [Sp a b, Sp c d] [] =
    some (spanS (numB (a * c) && numB (a * d) && numB (b * c) && numB (b * d)) (min (a * c) (min (a * d) (min (b * c) (b * d)))) (max (a * c) (max (a * d) (max (b * c) (b * d)))), []) := by
  have hj : ∀ (a b c d : Int) H, pureCall (alembicref17_Join.f G (k + 19)) [Sp a b, Sp c d] H = some (Sp (min a c) (max b d), H) := fun a b c d H => pureCall_of (rjoin_spec G (k + 18) a b c d) rfl rfl
  obtain ⟨z1, p1, e1⟩ := rprod_spec G (k + 9) a c ha hc
  obtain ⟨z2, p2, e2⟩ := rprod_spec G (k + 9) a d ha hd
  obtain ⟨z3, p3, e3⟩ := rprod_spec G (k + 9) b c hb hc
  obtain ⟨z4, p4, e4⟩ := rprod_spec G (k + 9) b d hb hd
  have q1 : ∀ H, pureCall (alembicref17_Product.f G (k + 19)) [I a, I c] H = _ := fun H => pureCall_of (H := H) p1 rfl rfl
  have q2 : ∀ H, pureCall (alembicref17_Product.f G (k + 19)) [I a, I d] H = _ := fun H => pureCall_of (H := H) p2 rfl rfl
  have q3 : ∀ H, pureCall (alembicref17_Product.f G (k + 19)) [I b, I c] H = _ := fun H => pureCall_of (H := H) p3 rfl rfl
  have q4 : ∀ H, pureCall (alembicref17_Product.f G (k + 19)) [I b, I d] H = _ := fun H => pureCall_of (H := H) p4 rfl rfl
  have ix : ∀ (xs : List AV) (i : Nat) (x : Int), xs[i]? = some (I x) → idxAddrSl 1 (.ro false xs) (.int .i64 (i : Int)) = some (.rp false (I x) 0) := fun xs i x h => by
    have h' : ¬ ((i : Int) < 0) := by omega
    simp [idxAddrSl, h, AV.cells]
  have st := fun (X : AV) (hX : belowB 2 X = true) (f : Nat) => fun (lo hi : Int) (i : Nat) (hi4 : i < 4) (x y : Int) (p : Bool) (z : Int) (h1 : [I a, I a, I b, I b][i]? = some (I x)) (h2 : [I c, I d, I c, I d][i]? = some (I y)) (h3 : ∀ H, pureCall (alembicref17_Product.f G (k + 19)) [I x, I y] H = some (.tup [I z, .bool p], H)) =>
    l5_step G (k + 19) (alembicref17_Mul.f G (k + 19)) (loopN (alembicref17_Mul.l5 G (k + 19) 2 (alembicref17_Mul.f G (k + 19))) f) X (mulXs a b) (mulYs c d) hX rfl rfl lo hi i hi4 x y p z (ix _ i x h1) (ix _ i y h2) h3 hj
  have build : ∀ w x y z : Int, ∀ H, buildRo 1 4 (.int .i64 0) [(0, I w), (1, I x), (2, I y), (3, I z)] H = some (.ro false [I w, I x, I y, I z], H) := fun w x y z H => rfl
  rw [alembicref17_Mul.step]
  unfold alembicref17_Mul.c
  -- the loop
  have one := (st (.bool false) rfl (k + 18) 9223372036854775807 (-9223372036854775808) 0 (by decide) a c _ z1 rfl rfl q1)
  have two := fun lo hi => (st (.bool false) rfl (k + 17) lo hi 1 (by decide) a d _ z2 rfl rfl q2)
  have three := fun lo hi => (st (.bool false) rfl (k + 16) lo hi 2 (by decide) b c _ z3 rfl rfl q3)
  have four := fun lo hi => (st (.bool false) rfl (k + 15) lo hi 3 (by decide) b d _ z4 rfl rfl q4)
  have bad : ∀ lo hi, finL [loadV G true 2 (.ptr 0 1 0 0) (mulH lo hi), some (.bool false)] 0 (mulH lo hi) = some (.ret, [.tup [Sp 0 0, .bool false]], []) := fun lo hi => fin_sb rfl G
  cases h1 : numB (a * c)
  · have l := (one).2 h1
    repeat first
      | refine oB (by first | (with_reducible exact rfl) | ((first | (simp only [pu_val, nth_zero, nth_succ, gd_tt, gd_ff, gd_tf, gd_ft, gd_no, pickA_true, pickA_false, un_not, build, Bool.false_and]; first | done | (with_reducible exact rfl) | (with_reducible exact ⟨rfl, rfl⟩)) | simp [pu_val, boxRoA, boxA, fieldAddrV, loadV, loadC, storable, AV.cells, extractA, buildRo, buildOwn, fillE, buildSt, fillA, stS, storeV, recell, putC, lenSl, lenStr, idxAddrSl, idxAddrArr, allSome]); first | done | (with_reducible exact rfl) | (with_reducible exact ⟨rfl, rfl⟩))) ?_
      | refine lB (by first | (with_reducible exact rfl) | ((first | (simp only [pu_val, nth_zero, nth_succ, gd_tt, gd_ff, gd_tf, gd_ft, gd_no, pickA_true, pickA_false, un_not, build, Bool.false_and]; first | done | (with_reducible exact rfl) | (with_reducible exact ⟨rfl, rfl⟩)) | simp [pu_val, boxRoA, boxA, fieldAddrV, loadV, loadC, storable, AV.cells, extractA, buildRo, buildOwn, fillE, buildSt, fillA, stS, storeV, recell, putC, lenSl, lenStr, idxAddrSl, idxAddrArr, allSome]); first | done | (with_reducible exact rfl) | (with_reducible exact ⟨rfl, rfl⟩))) ?_
      | refine oT ?_
      | refine oN ?_
      | refine oX ?_
      | refine oXn ?_
      | refine oXr ?_
      | exact oF (finV_bool ..)
      | apply oK
      | refine lT ?_
      | refine lN ?_
      | refine lX ?_
      | refine lXn ?_
      | refine lXr ?_
      | apply lK
      | refine oI ?_
      | refine oJ rfl ?_
      | refine lI ?_
      | refine lJ rfl ?_
      | (with_reducible exact rfl)
    exact (by rw [loopN_succ]; exact l)
    repeat first
      | refine oB (by first | (with_reducible exact rfl) | ((first | (simp only [pu_val, nth_zero, nth_succ, gd_tt, gd_ff, gd_tf, gd_ft, gd_no, pickA_true, pickA_false, un_not, build]; first | done | (with_reducible exact rfl) | (with_reducible exact ⟨rfl, rfl⟩)) | simp [pu_val, boxRoA, boxA, fieldAddrV, loadV, loadC, storable, AV.cells, extractA, buildRo, buildOwn, fillE, buildSt, fillA, stS, storeV, recell, putC, lenSl, lenStr, idxAddrSl, idxAddrArr, allSome]); first | done | (with_reducible exact rfl) | (with_reducible exact ⟨rfl, rfl⟩))) ?_
      | refine lB (by first | (with_reducible exact rfl) | ((first | (simp only [pu_val, nth_zero, nth_succ, gd_tt, gd_ff, gd_tf, gd_ft, gd_no, pickA_true, pickA_false, un_not, build]; first | done | (with_reducible exact rfl) | (with_reducible exact ⟨rfl, rfl⟩)) | simp [pu_val, boxRoA, boxA, fieldAddrV, loadV, loadC, storable, AV.cells, extractA, buildRo, buildOwn, fillE, buildSt, fillA, stS, storeV, recell, putC, lenSl, lenStr, idxAddrSl, idxAddrArr, allSome]); first | done | (with_reducible exact rfl) | (with_reducible exact ⟨rfl, rfl⟩))) ?_
      | refine oT ?_
      | refine oN ?_
      | refine oX ?_
      | refine oXn ?_
      | refine oXr ?_
      | exact oF (finV_bool ..)
      | apply oK
      | refine lT ?_
      | refine lN ?_
      | refine lX ?_
      | refine lXn ?_
      | refine lXr ?_
      | apply lK
      | refine oI ?_
      | refine oJ rfl ?_
      | refine lI ?_
      | refine lJ rfl ?_
      | (with_reducible exact rfl)
    exact oF (bad _ _)
  · have l1 := one.1 h1
    cases h2 : numB (a * d)
    · have l2 := (two (min 9223372036854775807 z1) (max (-9223372036854775808) z1)).2 h2
      repeat first
        | refine oB (by first | (with_reducible exact rfl) | ((first | (simp only [pu_val, nth_zero, nth_succ, gd_tt, gd_ff, gd_tf, gd_ft, gd_no, pickA_true, pickA_false, un_not, build]; first | done | (with_reducible exact rfl) | (with_reducible exact ⟨rfl, rfl⟩)) | simp [pu_val, boxRoA, boxA, fieldAddrV, loadV, loadC, storable, AV.cells, extractA, buildRo, buildOwn, fillE, buildSt, fillA, stS, storeV, recell, putC, lenSl, lenStr, idxAddrSl, idxAddrArr, allSome]); first | done | (with_reducible exact rfl) | (with_reducible exact ⟨rfl, rfl⟩))) ?_
        | refine lB (by first | (with_reducible exact rfl) | ((first | (simp only [pu_val, nth_zero, nth_succ, gd_tt, gd_ff, gd_tf, gd_ft, gd_no, pickA_true, pickA_false, un_not, build]; first | done | (with_reducible exact rfl) | (with_reducible exact ⟨rfl, rfl⟩)) | simp [pu_val, boxRoA, boxA, fieldAddrV, loadV, loadC, storable, AV.cells, extractA, buildRo, buildOwn, fillE, buildSt, fillA, stS, storeV, recell, putC, lenSl, lenStr, idxAddrSl, idxAddrArr, allSome]); first | done | (with_reducible exact rfl) | (with_reducible exact ⟨rfl, rfl⟩))) ?_
        | refine oT ?_
        | refine oN ?_
        | refine oX ?_
        | refine oXn ?_
        | refine oXr ?_
        | exact oF (finV_bool ..)
        | apply oK
        | refine lT ?_
        | refine lN ?_
        | refine lX ?_
        | refine lXn ?_
        | refine lXr ?_
        | apply lK
        | refine oI ?_
        | refine oJ rfl ?_
        | refine lI ?_
        | refine lJ rfl ?_
        | (with_reducible exact rfl)
      exact (by rw [loopN_succ]; refine l1.trans ?_; rw [loopN_succ]; exact l2)
      repeat first
        | refine oB (by first | (with_reducible exact rfl) | ((first | (simp only [pu_val, nth_zero, nth_succ, gd_tt, gd_ff, gd_tf, gd_ft, gd_no, pickA_true, pickA_false, un_not, build]; first | done | (with_reducible exact rfl) | (with_reducible exact ⟨rfl, rfl⟩)) | simp [pu_val, boxRoA, boxA, fieldAddrV, loadV, loadC, storable, AV.cells, extractA, buildRo, buildOwn, fillE, buildSt, fillA, stS, storeV, recell, putC, lenSl, lenStr, idxAddrSl, idxAddrArr, allSome]); first | done | (with_reducible exact rfl) | (with_reducible exact ⟨rfl, rfl⟩))) ?_
        | refine lB (by first | (with_reducible exact rfl) | ((first | (simp only [pu_val, nth_zero, nth_succ, gd_tt, gd_ff, gd_tf, gd_ft, gd_no, pickA_true, pickA_false, un_not, build]; first | done | (with_reducible exact rfl) | (with_reducible exact ⟨rfl, rfl⟩)) | simp [pu_val, boxRoA, boxA, fieldAddrV, loadV, loadC, storable, AV.cells, extractA, buildRo, buildOwn, fillE, buildSt, fillA, stS, storeV, recell, putC, lenSl, lenStr, idxAddrSl, idxAddrArr, allSome]); first | done | (with_reducible exact rfl) | (with_reducible exact ⟨rfl, rfl⟩))) ?_
        | refine oT ?_
        | refine oN ?_
        | refine oX ?_
        | refine oXn ?_
        | refine oXr ?_
        | exact oF (finV_bool ..)
        | apply oK
        | refine lT ?_
        | refine lN ?_
        | refine lX ?_
        | refine lXn ?_
        | refine lXr ?_
        | apply lK
        | refine oI ?_
        | refine oJ rfl ?_
        | refine lI ?_
        | refine lJ rfl ?_
        | (with_reducible exact rfl)
      exact oF (bad _ _)
    · have l2 := (two (min 9223372036854775807 z1) (max (-9223372036854775808) z1)).1 h2
      cases h3 : numB (b * c)
      · have l3 := (three (min (min 9223372036854775807 z1) z2) (max (max (-9223372036854775808) z1) z2)).2 h3
        repeat first
          | refine oB (by first | (with_reducible exact rfl) | ((first | (simp only [pu_val, nth_zero, nth_succ, gd_tt, gd_ff, gd_tf, gd_ft, gd_no, pickA_true, pickA_false, un_not, build]; first | done | (with_reducible exact rfl) | (with_reducible exact ⟨rfl, rfl⟩)) | simp [pu_val, boxRoA, boxA, fieldAddrV, loadV, loadC, storable, AV.cells, extractA, buildRo, buildOwn, fillE, buildSt, fillA, stS, storeV, recell, putC, lenSl, lenStr, idxAddrSl, idxAddrArr, allSome]); first | done | (with_reducible exact rfl) | (with_reducible exact ⟨rfl, rfl⟩))) ?_
          | refine lB (by first | (with_reducible exact rfl) | ((first | (simp only [pu_val, nth_zero, nth_succ, gd_tt, gd_ff, gd_tf, gd_ft, gd_no, pickA_true, pickA_false, un_not, build]; first | done | (with_reducible exact rfl) | (with_reducible exact ⟨rfl, rfl⟩)) | simp [pu_val, boxRoA, boxA, fieldAddrV, loadV, loadC, storable, AV.cells, extractA, buildRo, buildOwn, fillE, buildSt, fillA, stS, storeV, recell, putC, lenSl, lenStr, idxAddrSl, idxAddrArr, allSome]); first | done | (with_reducible exact rfl) | (with_reducible exact ⟨rfl, rfl⟩))) ?_
          | refine oT ?_
          | refine oN ?_
          | refine oX ?_
          | refine oXn ?_
          | refine oXr ?_
          | exact oF (finV_bool ..)
          | apply oK
          | refine lT ?_
          | refine lN ?_
          | refine lX ?_
          | refine lXn ?_
          | refine lXr ?_
          | apply lK
          | refine oI ?_
          | refine oJ rfl ?_
          | refine lI ?_
          | refine lJ rfl ?_
          | (with_reducible exact rfl)
        exact (by rw [loopN_succ]; refine l1.trans ?_; rw [loopN_succ]; refine l2.trans ?_; rw [loopN_succ]; exact l3)
        repeat first
          | refine oB (by first | (with_reducible exact rfl) | ((first | (simp only [pu_val, nth_zero, nth_succ, gd_tt, gd_ff, gd_tf, gd_ft, gd_no, pickA_true, pickA_false, un_not, build]; first | done | (with_reducible exact rfl) | (with_reducible exact ⟨rfl, rfl⟩)) | simp [pu_val, boxRoA, boxA, fieldAddrV, loadV, loadC, storable, AV.cells, extractA, buildRo, buildOwn, fillE, buildSt, fillA, stS, storeV, recell, putC, lenSl, lenStr, idxAddrSl, idxAddrArr, allSome]); first | done | (with_reducible exact rfl) | (with_reducible exact ⟨rfl, rfl⟩))) ?_
          | refine lB (by first | (with_reducible exact rfl) | ((first | (simp only [pu_val, nth_zero, nth_succ, gd_tt, gd_ff, gd_tf, gd_ft, gd_no, pickA_true, pickA_false, un_not, build]; first | done | (with_reducible exact rfl) | (with_reducible exact ⟨rfl, rfl⟩)) | simp [pu_val, boxRoA, boxA, fieldAddrV, loadV, loadC, storable, AV.cells, extractA, buildRo, buildOwn, fillE, buildSt, fillA, stS, storeV, recell, putC, lenSl, lenStr, idxAddrSl, idxAddrArr, allSome]); first | done | (with_reducible exact rfl) | (with_reducible exact ⟨rfl, rfl⟩))) ?_
          | refine oT ?_
          | refine oN ?_
          | refine oX ?_
          | refine oXn ?_
          | refine oXr ?_
          | exact oF (finV_bool ..)
          | apply oK
          | refine lT ?_
          | refine lN ?_
          | refine lX ?_
          | refine lXn ?_
          | refine lXr ?_
          | apply lK
          | refine oI ?_
          | refine oJ rfl ?_
          | refine lI ?_
          | refine lJ rfl ?_
          | (with_reducible exact rfl)
        exact oF (bad _ _)
      · have l3 := (three (min (min 9223372036854775807 z1) z2) (max (max (-9223372036854775808) z1) z2)).1 h3
        cases h4 : numB (b * d)
        · have l4 := (four (min (min (min 9223372036854775807 z1) z2) z3) (max (max (max (-9223372036854775808) z1) z2) z3)).2 h4
          repeat first
            | refine oB (by first | (with_reducible exact rfl) | ((first | (simp only [pu_val, nth_zero, nth_succ, gd_tt, gd_ff, gd_tf, gd_ft, gd_no, pickA_true, pickA_false, un_not, build]; first | done | (with_reducible exact rfl) | (with_reducible exact ⟨rfl, rfl⟩)) | simp [pu_val, boxRoA, boxA, fieldAddrV, loadV, loadC, storable, AV.cells, extractA, buildRo, buildOwn, fillE, buildSt, fillA, stS, storeV, recell, putC, lenSl, lenStr, idxAddrSl, idxAddrArr, allSome]); first | done | (with_reducible exact rfl) | (with_reducible exact ⟨rfl, rfl⟩))) ?_
            | refine lB (by first | (with_reducible exact rfl) | ((first | (simp only [pu_val, nth_zero, nth_succ, gd_tt, gd_ff, gd_tf, gd_ft, gd_no, pickA_true, pickA_false, un_not, build]; first | done | (with_reducible exact rfl) | (with_reducible exact ⟨rfl, rfl⟩)) | simp [pu_val, boxRoA, boxA, fieldAddrV, loadV, loadC, storable, AV.cells, extractA, buildRo, buildOwn, fillE, buildSt, fillA, stS, storeV, recell, putC, lenSl, lenStr, idxAddrSl, idxAddrArr, allSome]); first | done | (with_reducible exact rfl) | (with_reducible exact ⟨rfl, rfl⟩))) ?_
            | refine oT ?_
            | refine oN ?_
            | refine oX ?_
            | refine oXn ?_
            | refine oXr ?_
            | exact oF (finV_bool ..)
            | apply oK
            | refine lT ?_
            | refine lN ?_
            | refine lX ?_
            | refine lXn ?_
            | refine lXr ?_
            | apply lK
            | refine oI ?_
            | refine oJ rfl ?_
            | refine lI ?_
            | refine lJ rfl ?_
            | (with_reducible exact rfl)
          exact (by rw [loopN_succ]; refine l1.trans ?_; rw [loopN_succ]; refine l2.trans ?_; rw [loopN_succ]; refine l3.trans ?_; rw [loopN_succ]; exact l4)
          repeat first
            | refine oB (by first | (with_reducible exact rfl) | ((first | (simp only [pu_val, nth_zero, nth_succ, gd_tt, gd_ff, gd_tf, gd_ft, gd_no, pickA_true, pickA_false, un_not, build]; first | done | (with_reducible exact rfl) | (with_reducible exact ⟨rfl, rfl⟩)) | simp [pu_val, boxRoA, boxA, fieldAddrV, loadV, loadC, storable, AV.cells, extractA, buildRo, buildOwn, fillE, buildSt, fillA, stS, storeV, recell, putC, lenSl, lenStr, idxAddrSl, idxAddrArr, allSome]); first | done | (with_reducible exact rfl) | (with_reducible exact ⟨rfl, rfl⟩))) ?_
            | refine lB (by first | (with_reducible exact rfl) | ((first | (simp only [pu_val, nth_zero, nth_succ, gd_tt, gd_ff, gd_tf, gd_ft, gd_no, pickA_true, pickA_false, un_not, build]; first | done | (with_reducible exact rfl) | (with_reducible exact ⟨rfl, rfl⟩)) | simp [pu_val, boxRoA, boxA, fieldAddrV, loadV, loadC, storable, AV.cells, extractA, buildRo, buildOwn, fillE, buildSt, fillA, stS, storeV, recell, putC, lenSl, lenStr, idxAddrSl, idxAddrArr, allSome]); first | done | (with_reducible exact rfl) | (with_reducible exact ⟨rfl, rfl⟩))) ?_
            | refine oT ?_
            | refine oN ?_
            | refine oX ?_
            | refine oXn ?_
            | refine oXr ?_
            | exact oF (finV_bool ..)
            | apply oK
            | refine lT ?_
            | refine lN ?_
            | refine lX ?_
            | refine lXn ?_
            | refine lXr ?_
            | apply lK
            | refine oI ?_
            | refine oJ rfl ?_
            | refine lI ?_
            | refine lJ rfl ?_
            | (with_reducible exact rfl)
          exact oF (bad _ _)
        · have l4 := (four (min (min (min 9223372036854775807 z1) z2) z3) (max (max (max (-9223372036854775808) z1) z2) z3)).1 h4
          have l5 := l5_end G (k + 19) (alembicref17_Mul.f G (k + 19)) (loopN (alembicref17_Mul.l5 G (k + 19) 2 (alembicref17_Mul.f G (k + 19))) (k + 14)) (.bool false) (mulXs a b) (mulYs c d) rfl rfl rfl (min (min (min (min 9223372036854775807 z1) z2) z3) z4) (max (max (max (max (-9223372036854775808) z1) z2) z3) z4)
          have f1 : min (min (min (min 9223372036854775807 z1) z2) z3) z4 = min (a * c) (min (a * d) (min (b * c) (b * d))) := by
            rw [e1 h1, e2 h2, e3 h3, e4 h4]
            simp only [numB, decide_eq_true_eq] at h1
            omega
          have f2 : max (max (max (max (-9223372036854775808) z1) z2) z3) z4 = max (a * c) (max (a * d) (max (b * c) (b * d))) := by
            rw [e1 h1, e2 h2, e3 h3, e4 h4]
            simp only [numB, decide_eq_true_eq] at h1
            omega
          rw [f1, f2] at l4 l5
          generalize min (a * c) (min (a * d) (min (b * c) (b * d))) = lo at *
          generalize max (a * c) (max (a * d) (max (b * c) (b * d))) = hi at *
          repeat first
            | refine oB (by first | (with_reducible exact rfl) | ((first | (simp only [pu_val, nth_zero, nth_succ, gd_tt, gd_ff, gd_tf, gd_ft, gd_no, pickA_true, pickA_false, un_not, build]; first | done | (with_reducible exact rfl) | (with_reducible exact ⟨rfl, rfl⟩)) | simp [pu_val, boxRoA, boxA, fieldAddrV, loadV, loadC, storable, AV.cells, extractA, buildRo, buildOwn, fillE, buildSt, fillA, stS, storeV, recell, putC, lenSl, lenStr, idxAddrSl, idxAddrArr, allSome]); first | done | (with_reducible exact rfl) | (with_reducible exact ⟨rfl, rfl⟩))) ?_
            | refine lB (by first | (with_reducible exact rfl) | ((first | (simp only [pu_val, nth_zero, nth_succ, gd_tt, gd_ff, gd_tf, gd_ft, gd_no, pickA_true, pickA_false, un_not, build]; first | done | (with_reducible exact rfl) | (with_reducible exact ⟨rfl, rfl⟩)) | simp [pu_val, boxRoA, boxA, fieldAddrV, loadV, loadC, storable, AV.cells, extractA, buildRo, buildOwn, fillE, buildSt, fillA, stS, storeV, recell, putC, lenSl, lenStr, idxAddrSl, idxAddrArr, allSome]); first | done | (with_reducible exact rfl) | (with_reducible exact ⟨rfl, rfl⟩))) ?_
            | refine oT ?_
            | refine oN ?_
            | refine oX ?_
            | refine oXn ?_
            | refine oXr ?_
            | exact oF (finV_bool ..)
            | apply oK
            | refine lT ?_
            | refine lN ?_
            | refine lX ?_
            | refine lXn ?_
            | refine lXr ?_
            | apply lK
            | refine oI ?_
            | refine oJ rfl ?_
            | refine lI ?_
            | refine lJ rfl ?_
            | (with_reducible exact rfl)
          exact (by rw [loopN_succ]; refine l1.trans ?_; rw [loopN_succ]; refine l2.trans ?_; rw [loopN_succ]; refine l3.trans ?_; rw [loopN_succ]; refine l4.trans ?_; rw [loopN_succ]; exact l5)
          repeat first
            | refine oB (by first | (with_reducible exact rfl) | ((first | (simp only [pu_val, nth_zero, nth_succ, gd_tt, gd_ff, gd_tf, gd_ft, gd_no, pickA_true, pickA_false, un_not, build]; first | done | (with_reducible exact rfl) | (with_reducible exact ⟨rfl, rfl⟩)) | simp [pu_val, boxRoA, boxA, fieldAddrV, loadV, loadC, storable, AV.cells, extractA, buildRo, buildOwn, fillE, buildSt, fillA, stS, storeV, recell, putC, lenSl, lenStr, idxAddrSl, idxAddrArr, allSome]); first | done | (with_reducible exact rfl) | (with_reducible exact ⟨rfl, rfl⟩))) ?_
            | refine lB (by first | (with_reducible exact rfl) | ((first | (simp only [pu_val, nth_zero, nth_succ, gd_tt, gd_ff, gd_tf, gd_ft, gd_no, pickA_true, pickA_false, un_not, build]; first | done | (with_reducible exact rfl) | (with_reducible exact ⟨rfl, rfl⟩)) | simp [pu_val, boxRoA, boxA, fieldAddrV, loadV, loadC, storable, AV.cells, extractA, buildRo, buildOwn, fillE, buildSt, fillA, stS, storeV, recell, putC, lenSl, lenStr, idxAddrSl, idxAddrArr, allSome]); first | done | (with_reducible exact rfl) | (with_reducible exact ⟨rfl, rfl⟩))) ?_
            | refine oT ?_
            | refine oN ?_
            | refine oX ?_
            | refine oXn ?_
            | refine oXr ?_
            | exact oF (finV_bool ..)
            | apply oK
            | refine lT ?_
            | refine lN ?_
            | refine lX ?_
            | refine lXn ?_
            | refine lXr ?_
            | apply lK
            | refine oI ?_
            | refine oJ rfl ?_
            | refine lI ?_
            | refine lJ rfl ?_
            | (with_reducible exact rfl)
          exact oF (fin_sb rfl G)

def rshlV (a b k : Int) : AV := if k < 0 ∨ 62 < k then .tup [Sp 0 0, .bool false] else
  spanS (numB (a * 2 ^ k.toNat) && numB (b * 2 ^ k.toNat)) (a * 2 ^ k.toNat) (b * 2 ^ k.toNat)

theorem rshl_spec (G : Globs) (j : Nat) (a b k : Int) (ha : Rg a) (hb : Rg b) (hab : a ≤ b) : alembicref17_Shl.f G (j + 30) [Sp a b, I k] [] = some (rshlV a b k, []) := by
  rw [alembicref17_Shl.step]
  unfold alembicref17_Shl.c rshlV
  by_cases h1 : k < 0
  · rw [if_pos (.inl h1)]
    repeat first
      | refine oB (by first | (with_reducible exact rfl) | (simp [pu_val, boxRoA, boxA, fieldAddrV, loadV, loadC, storable, AV.cells, extractA, buildRo, buildOwn, fillE, buildSt, fillA, stS, storeV, recell, putC, lenSl, lenStr, idxAddrSl, idxAddrArr, allSome, h1]; first | done | (with_reducible exact rfl) | (with_reducible exact ⟨rfl, rfl⟩))) ?_
      | refine lB (by first | (with_reducible exact rfl) | (simp [pu_val, boxRoA, boxA, fieldAddrV, loadV, loadC, storable, AV.cells, extractA, buildRo, buildOwn, fillE, buildSt, fillA, stS, storeV, recell, putC, lenSl, lenStr, idxAddrSl, idxAddrArr, allSome, h1]; first | done | (with_reducible exact rfl) | (with_reducible exact ⟨rfl, rfl⟩))) ?_
      | refine oT ?_
      | refine oN ?_
      | refine oX ?_
      | refine oXn ?_
      | refine oXr ?_
      | exact oF (finV_bool ..)
      | apply oK
      | refine lT ?_
      | refine lN ?_
      | refine lX ?_
      | refine lXn ?_
      | refine lXr ?_
      | apply lK
      | refine oI ?_
      | refine oJ rfl ?_
      | refine lI ?_
      | refine lJ rfl ?_
      | (with_reducible exact rfl)
    refine oF ?_
    simp [pu_val, boxRoA, boxA, fieldAddrV, loadV, loadC, storable, AV.cells, extractA, buildRo, buildOwn, fillE, buildSt, fillA, stS, storeV, recell, putC, lenSl, lenStr, idxAddrSl, idxAddrArr, allSome, finL, finV_span]
  by_cases h2 : 62 < k
  · rw [if_pos (.inr h2)]
    repeat first
      | refine oB (by first | (with_reducible exact rfl) | (simp [pu_val, boxRoA, boxA, fieldAddrV, loadV, loadC, storable, AV.cells, extractA, buildRo, buildOwn, fillE, buildSt, fillA, stS, storeV, recell, putC, lenSl, lenStr, idxAddrSl, idxAddrArr, allSome, h1, h2]; first | done | (with_reducible exact rfl) | (with_reducible exact ⟨rfl, rfl⟩))) ?_
      | refine lB (by first | (with_reducible exact rfl) | (simp [pu_val, boxRoA, boxA, fieldAddrV, loadV, loadC, storable, AV.cells, extractA, buildRo, buildOwn, fillE, buildSt, fillA, stS, storeV, recell, putC, lenSl, lenStr, idxAddrSl, idxAddrArr, allSome, h1, h2]; first | done | (with_reducible exact rfl) | (with_reducible exact ⟨rfl, rfl⟩))) ?_
      | refine oT ?_
      | refine oN ?_
      | refine oX ?_
      | refine oXn ?_
      | refine oXr ?_
      | exact oF (finV_bool ..)
      | apply oK
      | refine lT ?_
      | refine lN ?_
      | refine lX ?_
      | refine lXn ?_
      | refine lXr ?_
      | apply lK
      | refine oI ?_
      | refine oJ rfl ?_
      | refine lI ?_
      | refine lJ rfl ?_
      | (with_reducible exact rfl)
    refine oF ?_
    simp [pu_val, boxRoA, boxA, fieldAddrV, loadV, loadC, storable, AV.cells, extractA, buildRo, buildOwn, fillE, buildSt, fillA, stS, storeV, recell, putC, lenSl, lenStr, idxAddrSl, idxAddrArr, allSome, finL, finV_span]
  rw [if_neg (by omega)]
  obtain ⟨n, rfl⟩ : ∃ n : Nat, k = n := ⟨k.toNat, by omega⟩
  obtain ⟨e1, e2, e3⟩ := pow62 n (by omega)
  have c0 : convInt .u64 (I (n : Int)) = some (.int .u64 (n : Int)) := by rw [convInt_int, wrap_of_u64 (by omega) (by omega)]
  have c1 : bin Try.prog .shl 2 true (.int .i64 1) (.int .u64 (n : Int)) = some (I (2 ^ n)) := by
    rw [bin_shl _ _ _ _ _ _ _ (Int.natCast_nonneg n)]
    have e : min ((n : Int)).toNat IntKind.i64.bits = n := by rw [Int.toNat_natCast]; exact Nat.min_eq_left (by have : IntKind.i64.bits = 64 := rfl; omega)
    rw [e, Int.one_mul, wrap_of_i64 (by omega) (by omega)]
  have s : ((n : Int)).toNat = n := Int.toNat_natCast n
  rw [s]
  have m := rmul_spec G (j + 9) a b (2 ^ n) (2 ^ n) ha hb ⟨by omega, by omega⟩ ⟨by omega, by omega⟩
  have e4 : (numB (a * 2 ^ n) && numB (a * 2 ^ n) && numB (b * 2 ^ n) && numB (b * 2 ^ n)) = (numB (a * 2 ^ n) && numB (b * 2 ^ n)) := by
    rw [Bool.and_self, Bool.and_assoc, Bool.and_self]
  rw [e4] at m
  have hm : ∀ H, pureCall (alembicref17_Mul.f G (j + 29)) [Sp a b, Sp (2 ^ n) (2 ^ n)] H = some (spanS (numB (a * 2 ^ n) && numB (b * 2 ^ n)) (a * 2 ^ n) (b * 2 ^ n), H) := fun H => by
    have h3 : a * 2 ^ n ≤ b * 2 ^ n := Int.mul_le_mul_of_nonneg_right hab (by omega)
    have e5 : min (a * 2 ^ n) (min (a * 2 ^ n) (min (b * 2 ^ n) (b * 2 ^ n))) = a * 2 ^ n := by omega
    have e6 : max (a * 2 ^ n) (max (a * 2 ^ n) (max (b * 2 ^ n) (b * 2 ^ n))) = b * 2 ^ n := by omega
    rw [e5, e6] at m
    exact pureCall_of m rfl (by unfold spanS; split <;> rfl)
  generalize (numB (a * 2 ^ n) && numB (b * 2 ^ n)) = p at hm
  generalize (2 : Int) ^ n = w at c1 hm
  cases p <;>
    simp [pu_val, boxRoA, boxA, fieldAddrV, loadV, loadC, storable, AV.cells, extractA, buildRo, buildOwn, fillE, buildSt, fillA, stS, storeV, recell, putC, lenSl, lenStr, idxAddrSl, idxAddrArr, allSome, h1, h2, c0, c1, hm, spanS, finL, finV_span]

def rsarV (a b k : Int) : AV := if k < 0 ∨ 63 < k then Sp 0 0 else Sp (a.fdiv (2 ^ k.toNat)) (b.fdiv (2 ^ k.toNat))
theorem rsar_spec (G : Globs) (j : Nat) (a b k : Int) : alembicref17_Sar.f G (j + 30) [Sp a b, I k] [] = some (rsarV a b k, []) := by
  rw [alembicref17_Sar.step]
  unfold alembicref17_Sar.c rsarV
  by_cases h1 : k < 0
  · rw [if_pos (.inl h1)]
    repeat first
      | refine oB (by first | (with_reducible exact rfl) | (simp [pu_val, boxRoA, boxA, fieldAddrV, loadV, loadC, storable, AV.cells, extractA, buildRo, buildOwn, fillE, buildSt, fillA, stS, storeV, recell, putC, lenSl, lenStr, idxAddrSl, idxAddrArr, allSome, h1]; first | done | (with_reducible exact rfl) | (with_reducible exact ⟨rfl, rfl⟩))) ?_
      | refine lB (by first | (with_reducible exact rfl) | (simp [pu_val, boxRoA, boxA, fieldAddrV, loadV, loadC, storable, AV.cells, extractA, buildRo, buildOwn, fillE, buildSt, fillA, stS, storeV, recell, putC, lenSl, lenStr, idxAddrSl, idxAddrArr, allSome, h1]; first | done | (with_reducible exact rfl) | (with_reducible exact ⟨rfl, rfl⟩))) ?_
      | refine oT ?_
      | refine oN ?_
      | refine oX ?_
      | refine oXn ?_
      | refine oXr ?_
      | exact oF (finV_bool ..)
      | apply oK
      | refine lT ?_
      | refine lN ?_
      | refine lX ?_
      | refine lXn ?_
      | refine lXr ?_
      | apply lK
      | refine oI ?_
      | refine oJ rfl ?_
      | refine lI ?_
      | refine lJ rfl ?_
      | (with_reducible exact rfl)
    refine oF ?_
    simp [pu_val, boxRoA, boxA, fieldAddrV, loadV, loadC, storable, AV.cells, extractA, buildRo, buildOwn, fillE, buildSt, fillA, stS, storeV, recell, putC, lenSl, lenStr, idxAddrSl, idxAddrArr, allSome, finL, finV_sp]
  by_cases h2 : 63 < k
  · rw [if_pos (.inr h2)]
    repeat first
      | refine oB (by first | (with_reducible exact rfl) | (simp [pu_val, boxRoA, boxA, fieldAddrV, loadV, loadC, storable, AV.cells, extractA, buildRo, buildOwn, fillE, buildSt, fillA, stS, storeV, recell, putC, lenSl, lenStr, idxAddrSl, idxAddrArr, allSome, h1, h2]; first | done | (with_reducible exact rfl) | (with_reducible exact ⟨rfl, rfl⟩))) ?_
      | refine lB (by first | (with_reducible exact rfl) | (simp [pu_val, boxRoA, boxA, fieldAddrV, loadV, loadC, storable, AV.cells, extractA, buildRo, buildOwn, fillE, buildSt, fillA, stS, storeV, recell, putC, lenSl, lenStr, idxAddrSl, idxAddrArr, allSome, h1, h2]; first | done | (with_reducible exact rfl) | (with_reducible exact ⟨rfl, rfl⟩))) ?_
      | refine oT ?_
      | refine oN ?_
      | refine oX ?_
      | refine oXn ?_
      | refine oXr ?_
      | exact oF (finV_bool ..)
      | apply oK
      | refine lT ?_
      | refine lN ?_
      | refine lX ?_
      | refine lXn ?_
      | refine lXr ?_
      | apply lK
      | refine oI ?_
      | refine oJ rfl ?_
      | refine lI ?_
      | refine lJ rfl ?_
      | (with_reducible exact rfl)
    refine oF ?_
    simp [pu_val, boxRoA, boxA, fieldAddrV, loadV, loadC, storable, AV.cells, extractA, buildRo, buildOwn, fillE, buildSt, fillA, stS, storeV, recell, putC, lenSl, lenStr, idxAddrSl, idxAddrArr, allSome, finL, finV_sp]
  rw [if_neg (by omega)]
  have e : min k.toNat IntKind.i64.bits = k.toNat := Nat.min_eq_left (by have : IntKind.i64.bits = 64 := rfl; omega)
  have c0 : convInt .u64 (.int .i64 k) = some (.int .u64 k) := by rw [convInt_int, wrap_of_u64 (by omega) (by omega)]
  have c1 : bin Try.prog .shr 2 false (.int .i64 a) (.int .u64 k) = some (I (a.fdiv (2 ^ k.toNat))) := by
    rw [bin_shr _ _ _ _ _ _ _ (by omega), e]
  have c2 : bin Try.prog .shr 2 false (.int .i64 b) (.int .u64 k) = some (I (b.fdiv (2 ^ k.toNat))) := by
    rw [bin_shr _ _ _ _ _ _ _ (by omega), e]
  have l1 : bin Try.prog .lss 3 true (.int .i64 k) (.int .i64 0) = some (.bool false) := by rw [bin_lss, decide_eq_false h1]
  have l2 : bin Try.prog .gtr 3 true (.int .i64 k) (.int .i64 63) = some (.bool false) := by rw [bin_gtr, decide_eq_false h2]
  repeat first
    | refine oB (by first | (with_reducible exact rfl) | ((first | (simp only [pu_val, nth_zero, nth_succ, gd_tt, gd_ff, gd_tf, gd_ft, gd_no, pickA_true, pickA_false, un_not, l1, l2, c0, c1, c2]; first | done | (with_reducible exact rfl) | (with_reducible exact ⟨rfl, rfl⟩)) | simp [pu_val, boxRoA, boxA, fieldAddrV, loadV, loadC, storable, AV.cells, extractA, buildRo, buildOwn, fillE, buildSt, fillA, stS, storeV, recell, putC, lenSl, lenStr, idxAddrSl, idxAddrArr, allSome]); first | done | (with_reducible exact rfl) | (with_reducible exact ⟨rfl, rfl⟩))) ?_
    | refine lB (by first | (with_reducible exact rfl) | ((first | (simp only [pu_val, nth_zero, nth_succ, gd_tt, gd_ff, gd_tf, gd_ft, gd_no, pickA_true, pickA_false, un_not, l1, l2, c0, c1, c2]; first | done | (with_reducible exact rfl) | (with_reducible exact ⟨rfl, rfl⟩)) | simp [pu_val, boxRoA, boxA, fieldAddrV, loadV, loadC, storable, AV.cells, extractA, buildRo, buildOwn, fillE, buildSt, fillA, stS, storeV, recell, putC, lenSl, lenStr, idxAddrSl, idxAddrArr, allSome]); first | done | (with_reducible exact rfl) | (with_reducible exact ⟨rfl, rfl⟩))) ?_
    | refine oT ?_
    | refine oN ?_
    | refine oX ?_
    | refine oXn ?_
    | refine oXr ?_
    | exact oF (finV_bool ..)
    | apply oK
    | refine lT ?_
    | refine lN ?_
    | refine lX ?_
    | refine lXn ?_
    | refine lXr ?_
    | apply lK
    | refine oI ?_
    | refine oJ rfl ?_
    | refine lI ?_
    | refine lJ rfl ?_
    | (with_reducible exact rfl)
  refine oF ?_
  simp [pu_val, boxRoA, boxA, fieldAddrV, loadV, loadC, storable, AV.cells, extractA, buildRo, buildOwn, fillE, buildSt, fillA, stS, storeV, recell, putC, lenSl, lenStr, idxAddrSl, idxAddrArr, allSome, finL, finV_sp]

def randV (a b c d : Int) : AV :=
  if 0 ≤ a ∧ 0 ≤ c then Sp 0 (min b d) else if 0 ≤ a then Sp 0 b else if 0 ≤ c then Sp 0 d else Sp (-9223372036854775808) 9223372036854775807
theorem rand_spec (G : Globs) (j : Nat) (a b c d : Int) : alembicref17_And.f G (j + 30) [Sp a b, Sp c d] [] = some (randV a b c d, []) := by
  rw [alembicref17_And.step]
  unfold alembicref17_And.c randV
  by_cases h3 : 0 ≤ a <;> by_cases h4 : 0 ≤ c
  all_goals repeat first
    | refine oB (by first | (with_reducible exact rfl) | (simp [pu_val, boxRoA, boxA, fieldAddrV, loadV, loadC, storable, AV.cells, extractA, buildRo, buildOwn, fillE, buildSt, fillA, stS, storeV, recell, putC, lenSl, lenStr, idxAddrSl, idxAddrArr, allSome, h3, h4, min2']; first | done | (with_reducible exact rfl) | (with_reducible exact ⟨rfl, rfl⟩))) ?_
    | refine lB (by first | (with_reducible exact rfl) | (simp [pu_val, boxRoA, boxA, fieldAddrV, loadV, loadC, storable, AV.cells, extractA, buildRo, buildOwn, fillE, buildSt, fillA, stS, storeV, recell, putC, lenSl, lenStr, idxAddrSl, idxAddrArr, allSome, h3, h4, min2']; first | done | (with_reducible exact rfl) | (with_reducible exact ⟨rfl, rfl⟩))) ?_
    | refine oT ?_
    | refine oN ?_
    | refine oX ?_
    | refine oXn ?_
    | refine oXr ?_
    | exact oF (finV_bool ..)
    | apply oK
    | refine lT ?_
    | refine lN ?_
    | refine lX ?_
    | refine lXn ?_
    | refine lXr ?_
    | apply lK
    | refine oI ?_
    | refine oJ rfl ?_
    | refine lI ?_
    | refine lJ rfl ?_
    | (with_reducible exact rfl)
  all_goals refine oF ?_
  all_goals simp [pu_val, boxRoA, boxA, fieldAddrV, loadV, loadC, storable, AV.cells, extractA, buildRo, buildOwn, fillE, buildSt, fillA, stS, storeV, recell, putC, lenSl, lenStr, idxAddrSl, idxAddrArr, allSome, finL, finV_sp, h3, h4]
end Go.Proofs.Ytemkaggjbhpbbaa.Mir
