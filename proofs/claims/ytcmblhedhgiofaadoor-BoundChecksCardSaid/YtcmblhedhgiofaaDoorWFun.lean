/- Printed by Print.lean: the functions that the statements reach. -/
import Derived.Test.YtcmblhedhgiofaaDoorMirW
import Derived.Test.YtcmblhedhgiofaaDoorProg
namespace Go.Proofs.YtcmblhedhgiofaaDoor.Mir
open Go
set_option linter.unusedVariables false
/-! alembic/words.name: function 83 -/
noncomputable def words_name.ann : Ann := mkAnn [] [] [] []
noncomputable def words_name.env (G : Globs) (k : Nat) (self : Den) : List (Nat × Bool × Den) := []
noncomputable def words_name.c (G : Globs) (k : Nat) (self : Den) (x0 : AV) (h : AHeap) : Option (AV × AHeap) := outV (
  bnd (pu h (bin Tryd.prog .eql 3 true x0 (.int .i64 3))) fun v0 h0 =>
  condA v0
  (finV [(.str ⟨#[97, 100, 100]⟩)] h.length h0)
  (bnd (pu h0 (bin Tryd.prog .eql 3 true x0 (.int .i64 4))) fun v1 h1 =>
  condA v1
  (finV [(.str ⟨#[115, 117, 98]⟩)] h.length h1)
  (bnd (pu h1 (bin Tryd.prog .eql 3 true x0 (.int .i64 5))) fun v2 h2 =>
  condA v2
  (finV [(.str ⟨#[109, 117, 108]⟩)] h.length h2)
  (bnd (pu h2 (bin Tryd.prog .eql 3 true x0 (.int .i64 6))) fun v3 h3 =>
  condA v3
  (finV [(.str ⟨#[104, 105, 103, 104]⟩)] h.length h3)
  (bnd (pu h3 (bin Tryd.prog .eql 3 true x0 (.int .i64 7))) fun v4 h4 =>
  condA v4
  (finV [(.str ⟨#[97, 110, 100]⟩)] h.length h4)
  (bnd (pu h4 (bin Tryd.prog .eql 3 true x0 (.int .i64 8))) fun v5 h5 =>
  condA v5
  (finV [(.str ⟨#[111, 114]⟩)] h.length h5)
  (bnd (pu h5 (bin Tryd.prog .eql 3 true x0 (.int .i64 9))) fun v6 h6 =>
  condA v6
  (finV [(.str ⟨#[120, 111, 114]⟩)] h.length h6)
  (bnd (pu h6 (bin Tryd.prog .eql 3 true x0 (.int .i64 13))) fun v7 h7 =>
  condA v7
  (finV [(.str ⟨#[108, 101, 115, 115]⟩)] h.length h7)
  (bnd (pu h7 (bin Tryd.prog .eql 3 true x0 (.int .i64 10))) fun v8 h8 =>
  condA v8
  (finV [(.str ⟨#[115, 104, 108]⟩)] h.length h8)
  (bnd (pu h8 (bin Tryd.prog .eql 3 true x0 (.int .i64 11))) fun v9 h9 =>
  condA v9
  (finV [(.str ⟨#[115, 104, 114]⟩)] h.length h9)
  (bnd (pu h9 (bin Tryd.prog .eql 3 true x0 (.int .i64 12))) fun v10 h10 =>
  condA v10
  (finV [(.str ⟨#[115, 97, 114]⟩)] h.length h10)
  (bnd (pu h10 (bin Tryd.prog .eql 3 true x0 (.int .i64 15))) fun v11 h11 =>
  condA v11
  (finV [(.str ⟨#[108, 100]⟩)] h.length h11)
  (bnd (pu h11 (bin Tryd.prog .eql 3 true x0 (.int .i64 17))) fun v12 h12 =>
  condA v12
  (finV [(.str ⟨#[98, 114]⟩)] h.length h12)
  (bnd (pu h12 (bin Tryd.prog .eql 3 true x0 (.int .i64 20))) fun v13 h13 =>
  condA v13
  (finV [(.str ⟨#[104, 97, 108, 116]⟩)] h.length h13)
  (bnd (pu h13 (bin Tryd.prog .eql 3 true x0 (.int .i64 18))) fun v14 h14 =>
  condA v14
  (finV [(.str ⟨#[98, 122]⟩)] h.length h14)
  (finV [(.str ⟨#[98, 110, 122]⟩)] h.length h14))))))))))))))))
noncomputable def words_name.f (G : Globs) : Nat → Den
  | 0 => fun _ _ => none
  | k + 1 => fun args h => arg1 args fun x0 => (words_name.c G k (words_name.f G k) x0 h)
theorem words_name.step (G : Globs) (k : Nat) (x0 : AV) (h : AHeap) : words_name.f G (k + 1) [x0] h = words_name.c G k (words_name.f G k) x0 h := rfl
/-! alembic/words.Of: function 66 -/
noncomputable def words_Of.ann : Ann := mkAnn [] [] [] [(30, [2, 3]), (29, [0, 2, 43]), (26, [0, 2, 4, 37]), (19, [0, 2, 4, 23]), (14, [0, 2, 4, 11])]
noncomputable def words_Of.env (G : Globs) (k : Nat) (self : Den) : List (Nat × Bool × Den) := [(83, true, words_name.f G k)]
noncomputable def words_Of.c (G : Globs) (k : Nat) (self : Den) (x0 : AV) (h : AHeap) : Option (AV × AHeap) := outV (
  bnd (boxA 113 (.agg [(.str ⟨#[]⟩), (.bool false), (.bool false), (.bool false), (.bool false), (.bool false)]) h) fun v0 h0 =>
  thenK (
  bnd (pu h0 (bin Tryd.prog .eql 3 true x0 (.int .i64 1))) fun v1 h1 =>
  condA v1
  (bnd (pu h1 (buildSt [(0, 1), (1, 1), (2, 1), (3, 1), (4, 1), (5, 1)] [(.str ⟨#[]⟩), (.bool false), (.bool false), (.bool false), (.bool false), (.bool false)] [(0, (.str ⟨#[99, 111, 110, 115, 116]⟩)), (1, (.bool true)), (5, (.bool true))])) fun v2 h2 =>
  bnd (stS (storeV 6 v0 v2 h2)) fun v3 h3 =>
  some (.ret, [v0, (.bool true)], h3))
  (bnd (pu h1 (bin Tryd.prog .eql 3 true x0 (.int .i64 2))) fun v4 h4 =>
  condA v4
  (bnd (pu h4 (buildSt [(0, 1), (1, 1), (2, 1), (3, 1), (4, 1), (5, 1)] [(.str ⟨#[]⟩), (.bool false), (.bool false), (.bool false), (.bool false), (.bool false)] [(0, (.str ⟨#[109, 111, 118]⟩)), (1, (.bool true)), (2, (.bool true))])) fun v5 h5 =>
  bnd (stS (storeV 6 v0 v5 h5)) fun v6 h6 =>
  some (.ret, [v0, (.bool true)], h6))
  (thenK (
  bnd (pu h4 (bin Tryd.prog .eql 3 true x0 (.int .i64 3))) fun v7 h7 =>
  condA v7
  (some (.normal, [x0, v0, x0, v7], h7))
  (bnd (pu h7 (bin Tryd.prog .eql 3 true x0 (.int .i64 4))) fun v8 h8 =>
  condA v8
  (some (.normal, [x0, v0, x0, v8], h8))
  (bnd (pu h8 (bin Tryd.prog .eql 3 true x0 (.int .i64 5))) fun v9 h9 =>
  condA v9
  (some (.normal, [x0, v0, x0, v9], h9))
  (bnd (pu h9 (bin Tryd.prog .eql 3 true x0 (.int .i64 6))) fun v10 h10 =>
  condA v10
  (some (.normal, [x0, v0, x0, v10], h10))
  (bnd (pu h10 (bin Tryd.prog .eql 3 true x0 (.int .i64 7))) fun v11 h11 =>
  condA v11
  (some (.normal, [x0, v0, x0, v11], h11))
  (bnd (pu h11 (bin Tryd.prog .eql 3 true x0 (.int .i64 8))) fun v12 h12 =>
  condA v12
  (some (.normal, [x0, v0, x0, v12], h12))
  (bnd (pu h12 (bin Tryd.prog .eql 3 true x0 (.int .i64 9))) fun v13 h13 =>
  condA v13
  (some (.normal, [x0, v0, x0, v13], h13))
  (bnd (pu h13 (bin Tryd.prog .eql 3 true x0 (.int .i64 13))) fun v14 h14 =>
  some (.normal, [x0, v0, x0, v14], h14))))))))) fun e15 x15 h15 => exK e15
  (condA (nth x15 3)
  (bnd (pureCall (words_name.f G k) [(nth x15 0)] h15) fun v16 h16 =>
  bnd (pu h16 (buildSt [(0, 1), (1, 1), (2, 1), (3, 1), (4, 1), (5, 1)] [(.str ⟨#[]⟩), (.bool false), (.bool false), (.bool false), (.bool false), (.bool false)] [(0, v16), (1, (.bool true)), (2, (.bool true)), (3, (.bool true))])) fun v17 h17 =>
  bnd (stS (storeV 6 (nth x15 1) v17 h17)) fun v18 h18 =>
  some (.ret, [(nth x15 1), (.bool true)], h18))
  (thenK (
  bnd (pu h15 (bin Tryd.prog .eql 3 true (nth x15 2) (.int .i64 10))) fun v19 h19 =>
  condA v19
  (some (.normal, [(nth x15 0), (nth x15 1), (nth x15 2), v19], h19))
  (bnd (pu h19 (bin Tryd.prog .eql 3 true (nth x15 2) (.int .i64 11))) fun v20 h20 =>
  condA v20
  (some (.normal, [(nth x15 0), (nth x15 1), (nth x15 2), v20], h20))
  (bnd (pu h20 (bin Tryd.prog .eql 3 true (nth x15 2) (.int .i64 12))) fun v21 h21 =>
  condA v21
  (some (.normal, [(nth x15 0), (nth x15 1), (nth x15 2), v21], h21))
  (bnd (pu h21 (bin Tryd.prog .eql 3 true (nth x15 2) (.int .i64 15))) fun v22 h22 =>
  some (.normal, [(nth x15 0), (nth x15 1), (nth x15 2), v22], h22))))) fun e23 x23 h23 => exK e23
  (condA (nth x23 3)
  (bnd (pureCall (words_name.f G k) [(nth x23 0)] h23) fun v24 h24 =>
  bnd (pu h24 (buildSt [(0, 1), (1, 1), (2, 1), (3, 1), (4, 1), (5, 1)] [(.str ⟨#[]⟩), (.bool false), (.bool false), (.bool false), (.bool false), (.bool false)] [(0, v24), (1, (.bool true)), (2, (.bool true)), (5, (.bool true))])) fun v25 h25 =>
  bnd (stS (storeV 6 (nth x23 1) v25 h25)) fun v26 h26 =>
  some (.ret, [(nth x23 1), (.bool true)], h26))
  (bnd (pu h23 (bin Tryd.prog .eql 3 true (nth x23 2) (.int .i64 14))) fun v27 h27 =>
  condA v27
  (bnd (pu h27 (buildSt [(0, 1), (1, 1), (2, 1), (3, 1), (4, 1), (5, 1)] [(.str ⟨#[]⟩), (.bool false), (.bool false), (.bool false), (.bool false), (.bool false)] [(0, (.str ⟨#[115, 101, 108]⟩)), (1, (.bool true)), (2, (.bool true)), (3, (.bool true)), (4, (.bool true))])) fun v28 h28 =>
  bnd (stS (storeV 6 (nth x23 1) v28 h28)) fun v29 h29 =>
  some (.ret, [(nth x23 1), (.bool true)], h29))
  (bnd (pu h27 (bin Tryd.prog .eql 3 true (nth x23 2) (.int .i64 16))) fun v30 h30 =>
  condA v30
  (bnd (pu h30 (buildSt [(0, 1), (1, 1), (2, 1), (3, 1), (4, 1), (5, 1)] [(.str ⟨#[]⟩), (.bool false), (.bool false), (.bool false), (.bool false), (.bool false)] [(0, (.str ⟨#[115, 116]⟩)), (2, (.bool true)), (3, (.bool true)), (5, (.bool true))])) fun v31 h31 =>
  bnd (stS (storeV 6 (nth x23 1) v31 h31)) fun v32 h32 =>
  some (.ret, [(nth x23 1), (.bool true)], h32))
  (thenK (
  bnd (pu h30 (bin Tryd.prog .eql 3 true (nth x23 2) (.int .i64 17))) fun v33 h33 =>
  condA v33
  (some (.normal, [(nth x23 0), (nth x23 1), (nth x23 2), v33], h33))
  (bnd (pu h33 (bin Tryd.prog .eql 3 true (nth x23 2) (.int .i64 20))) fun v34 h34 =>
  some (.normal, [(nth x23 0), (nth x23 1), (nth x23 2), v34], h34))) fun e35 x35 h35 => exK e35
  (condA (nth x35 3)
  (bnd (pureCall (words_name.f G k) [(nth x35 0)] h35) fun v36 h36 =>
  bnd (pu h36 (buildSt [(0, 1), (1, 1), (2, 1), (3, 1), (4, 1), (5, 1)] [(.str ⟨#[]⟩), (.bool false), (.bool false), (.bool false), (.bool false), (.bool false)] [(0, v36), (5, (.bool true))])) fun v37 h37 =>
  bnd (stS (storeV 6 (nth x35 1) v37 h37)) fun v38 h38 =>
  some (.ret, [(nth x35 1), (.bool true)], h38))
  (thenK (
  bnd (pu h35 (bin Tryd.prog .eql 3 true (nth x35 2) (.int .i64 18))) fun v39 h39 =>
  condA v39
  (some (.normal, [(nth x35 0), (nth x35 1), v39], h39))
  (bnd (pu h39 (bin Tryd.prog .eql 3 true (nth x35 2) (.int .i64 19))) fun v40 h40 =>
  some (.normal, [(nth x35 0), (nth x35 1), v40], h40))) fun e41 x41 h41 => exK e41
  (condA (nth x41 2)
  (bnd (pureCall (words_name.f G k) [(nth x41 0)] h41) fun v42 h42 =>
  bnd (pu h42 (buildSt [(0, 1), (1, 1), (2, 1), (3, 1), (4, 1), (5, 1)] [(.str ⟨#[]⟩), (.bool false), (.bool false), (.bool false), (.bool false), (.bool false)] [(0, v42), (2, (.bool true)), (5, (.bool true))])) fun v43 h43 =>
  bnd (stS (storeV 6 (nth x41 1) v43 h43)) fun v44 h44 =>
  some (.ret, [(nth x41 1), (.bool true)], h44))
  (some (.normal, [(nth x41 1), .undef], h41)))
  (fun i41 => if i41 = 0 then (some (.normal, [(nth x41 1), .undef], h41)) else (some (.exit i41, [(nth x41 1), .undef], h41)))
  (some (.ret, [(nth x41 1), .undef], h41))))
  (fun i35 => if i35 = 0 then (some (.normal, [(nth x35 1), .undef], h35)) else (some (.exit i35, [(nth x35 1), .undef], h35)))
  (some (.ret, [(nth x35 1), .undef], h35))))))
  (fun i23 => if i23 = 0 then (some (.normal, [(nth x23 1), .undef], h23)) else (some (.exit i23, [(nth x23 1), .undef], h23)))
  (some (.ret, [(nth x23 1), .undef], h23))))
  (fun i15 => if i15 = 0 then (some (.normal, [(nth x15 1), .undef], h15)) else (some (.exit i15, [(nth x15 1), .undef], h15)))
  (some (.ret, [(nth x15 1), .undef], h15))))) fun e45 x45 h45 => exK e45
  (bnd (pu h45 (buildSt [(0, 1), (1, 1), (2, 1), (3, 1), (4, 1), (5, 1)] [(.str ⟨#[]⟩), (.bool false), (.bool false), (.bool false), (.bool false), (.bool false)] [(0, (.str ⟨#[110, 111, 110, 101]⟩))])) fun v46 h46 =>
  bnd (stS (storeV 6 (nth x45 0) v46 h46)) fun v47 h47 =>
  finL [loadV G true 6 (nth x45 0) h47, some (.bool false)] h.length h47)
  (fun i45 => none)
  (finL [loadV G true 6 (nth x45 0) h45, some (nth x45 1)] h.length h45))
noncomputable def words_Of.f (G : Globs) : Nat → Den
  | 0 => fun _ _ => none
  | k + 1 => fun args h => arg1 args fun x0 => (words_Of.c G k (words_Of.f G k) x0 h)
theorem words_Of.step (G : Globs) (k : Nat) (x0 : AV) (h : AHeap) : words_Of.f G (k + 1) [x0] h = words_Of.c G k (words_Of.f G k) x0 h := rfl
/-! alembic/words.has: function 68 -/
noncomputable def words_has.ann : Ann := mkAnn [] [] [] []
noncomputable def words_has.env (G : Globs) (k : Nat) (self : Den) : List (Nat × Bool × Den) := []
noncomputable def words_has.c (G : Globs) (k : Nat) (self : Den) (x0 x1 : AV) (h : AHeap) : Option (AV × AHeap) := outV (
  bnd (boxRoA x0 h) fun v0 h0 =>
  bnd (boxRoA x1 h0) fun v1 h1 =>
  bnd (pu h1 (fieldAddrV 1 v1)) fun v2 h2 =>
  bnd (pu h2 (loadV G false 1 v2 h2)) fun v3 h3 =>
  bnd (pu h3 (fieldAddrV 2 v1)) fun v4 h4 =>
  bnd (pu h4 (loadV G false 1 v4 h4)) fun v5 h5 =>
  bnd (pu h5 (fieldAddrV 3 v1)) fun v6 h6 =>
  bnd (pu h6 (loadV G false 1 v6 h6)) fun v7 h7 =>
  bnd (pu h7 (fieldAddrV 4 v1)) fun v8 h8 =>
  bnd (pu h8 (loadV G false 1 v8 h8)) fun v9 h9 =>
  bnd (pu h9 (fieldAddrV 5 v1)) fun v10 h10 =>
  bnd (pu h10 (loadV G false 1 v10 h10)) fun v11 h11 =>
  bnd (buildRo 1 5 (.bool false) [(0, v3), (1, v5), (2, v7), (3, v9), (4, v11)] h11) fun v12 h12 =>
  bnd (pu h12 (fieldAddrV 1 v0)) fun v13 h13 =>
  bnd (pu h13 (loadV G false 1 v13 h13)) fun v14 h14 =>
  bnd (pu h14 (fieldAddrV 2 v0)) fun v15 h15 =>
  bnd (pu h15 (loadV G false 1 v15 h15)) fun v16 h16 =>
  bnd (pu h16 (fieldAddrV 3 v0)) fun v17 h17 =>
  bnd (pu h17 (loadV G false 1 v17 h17)) fun v18 h18 =>
  bnd (pu h18 (fieldAddrV 4 v0)) fun v19 h19 =>
  bnd (pu h19 (loadV G false 1 v19 h19)) fun v20 h20 =>
  bnd (pu h20 (fieldAddrV 5 v0)) fun v21 h21 =>
  bnd (pu h21 (loadV G false 1 v21 h21)) fun v22 h22 =>
  bnd (buildRo 1 5 (.int .i64 0) [(0, v14), (1, v16), (2, v18), (3, v20), (4, v22)] h22) fun v23 h23 =>
  finV [v12, v23] h.length h23)
noncomputable def words_has.f (G : Globs) : Nat → Den
  | 0 => fun _ _ => none
  | k + 1 => fun args h => arg2 args fun x0 x1 => (words_has.c G k (words_has.f G k) x0 x1 h)
theorem words_has.step (G : Globs) (k : Nat) (x0 x1 : AV) (h : AHeap) : words_has.f G (k + 1) [x0, x1] h = words_has.c G k (words_has.f G k) x0 x1 h := rfl
/-! alembic/words.one: function 43 -/
noncomputable def words_one.ann : Ann := mkAnn [] [] [(12, [2, 3, 4, 8, 53, 54, 55]), (6, [2, 3, 4, 7, 8, 28])] [(33, [3, 4, 12]), (31, [2, 3, 12, 82]), (27, [2, 3, 12, 72, 79]), (22, [2, 3, 12, 72, 73])]
noncomputable def words_one.env (G : Globs) (k : Nat) (self : Den) : List (Nat × Bool × Den) := [(66, true, words_Of.f G k), (68, true, words_has.f G k)]
noncomputable def words_one.l6 (G : Globs) (k n0 : Nat) (self : Den) (lp : LoopF) : LoopF := fun xs h0 => cutK n0 xs h0 fun h =>
  bnd (pu h (bin Tryd.prog .lss 3 true (nth xs 5) (.int .i64 4))) fun v17 h17 =>
  condA v17
  (bnd (pu h17 (idxAddrSl 1 (nth xs 3) (nth xs 5))) fun v18 h18 =>
  bnd (pu h18 (loadV G false 1 v18 h18)) fun v19 h19 =>
  bnd (gd v19 true h19 (some ((nth xs 4), h19))) fun v20 h20 =>
  bnd (gd v19 true h20 (some ((nth xs 5), h20))) fun v21 h21 =>
  bnd (gd v19 true h21 (pu h21 (idxAddrSl 1 v20 v21))) fun v22 h22 =>
  bnd (gd v19 true h22 (pu h22 (loadV G false 1 v22 h22))) fun v23 h23 =>
  bnd (gd v19 true h23 (pu h23 (bin Tryd.prog .lss 2 true v23 (.int .i64 0)))) fun v24 h24 =>
  bnd (gd v19 true h24 (some (v24, h24))) fun v25 h25 =>
  bnd (gd v25 false h25 (some ((nth xs 4), h25))) fun v26 h26 =>
  bnd (gd v25 false h26 (some ((nth xs 5), h26))) fun v27 h27 =>
  bnd (gd v25 false h27 (pu h27 (idxAddrSl 1 v26 v27))) fun v28 h28 =>
  bnd (gd v25 false h28 (pu h28 (loadV G false 1 v28 h28))) fun v29 h29 =>
  bnd (gd v25 false h29 (pu h29 (fieldAddrV 1 (nth xs 0)))) fun v30 h30 =>
  bnd (gd v25 false h30 (pu h30 (loadV G false 1 v30 h30))) fun v31 h31 =>
  bnd (gd v25 false h31 (pu h31 (bin Tryd.prog .geq 2 false v29 v31))) fun v32 h32 =>
  bnd (gd v19 true h32 (pu h32 (pickA v25 (.bool true) v32))) fun v33 h33 =>
  bnd (pu h33 (pickA v19 v33 (.bool false))) fun v34 h34 =>
  condA v34
  (bnd (pu h34 (loadV G false 1 (.gl 2) h34)) fun v35 h35 =>
  some (.ret, [(nth xs 0), (nth xs 1), v35, (nth xs 3), (nth xs 4), (nth xs 5)], h35))
  (bnd (pu h34 (bin Tryd.prog .add 3 true (nth xs 5) (.int .i64 1))) fun v36 h36 =>
  lp [(nth xs 0), (nth xs 1), (nth xs 2), (nth xs 3), (nth xs 4), v36] h36))
  (some (.exit 0, [(nth xs 0), (nth xs 1), (nth xs 2), (nth xs 3), (nth xs 4), (nth xs 5)], h17))
noncomputable def words_one.l12 (G : Globs) (k n0 : Nat) (self : Den) (lp : LoopF) : LoopF := fun xs h0 => cutK n0 xs h0 fun h =>
  bnd (pu h (bin Tryd.prog .lss 3 false (nth xs 6) (nth xs 5))) fun v39 h39 =>
  condA v39
  (bnd (pu h39 (idxAddrSl 1 (nth xs 4) (nth xs 6))) fun v40 h40 =>
  bnd (pu h40 (loadV G false 1 v40 h40)) fun v41 h41 =>
  bnd (pu h41 (un .not v41)) fun v42 h42 =>
  bnd (gd v42 true h42 (some ((nth xs 3), h42))) fun v43 h43 =>
  bnd (gd v42 true h43 (some ((nth xs 6), h43))) fun v44 h44 =>
  bnd (gd v42 true h44 (pu h44 (idxAddrSl 1 v43 v44))) fun v45 h45 =>
  bnd (gd v42 true h45 (pu h45 (loadV G false 1 v45 h45))) fun v46 h46 =>
  bnd (gd v42 true h46 (pu h46 (bin Tryd.prog .neq 2 true v46 (.int .i64 0)))) fun v47 h47 =>
  bnd (pu h47 (pickA v42 v47 (.bool false))) fun v48 h48 =>
  condA v48
  (bnd (pu h48 (loadV G false 1 (.gl 3) h48)) fun v49 h49 =>
  some (.ret, [(nth xs 0), (nth xs 1), v49, (nth xs 3), (nth xs 4), (nth xs 5), (nth xs 6)], h49))
  (bnd (pu h48 (bin Tryd.prog .add 3 true (nth xs 6) (.int .i64 1))) fun v50 h50 =>
  lp [(nth xs 0), (nth xs 1), (nth xs 2), (nth xs 3), (nth xs 4), (nth xs 5), v50] h50))
  (some (.exit 2, [(nth xs 0), (nth xs 1), (nth xs 2), (nth xs 3), (nth xs 4), (nth xs 5), (nth xs 6)], h39))
noncomputable def words_one.c (G : Globs) (k : Nat) (self : Den) (x0 x1 : AV) (h : AHeap) : Option (AV × AHeap) := outV (
  bnd (boxRoA x0 h) fun v0 h0 =>
  bnd (boxRoA x1 h0) fun v1 h1 =>
  bnd (pu h1 (fieldAddrV 0 v1)) fun v2 h2 =>
  bnd (pu h2 (loadV G false 1 v2 h2)) fun v3 h3 =>
  bnd (pureCall (words_Of.f G k) [v3] h3) fun v4 h4 =>
  bnd (pu h4 (extractA v4 0)) fun v5 h5 =>
  bnd (pu h5 (extractA v4 1)) fun v6 h6 =>
  bnd (boxA 113 (.agg [(.str ⟨#[]⟩), (.bool false), (.bool false), (.bool false), (.bool false), (.bool false)]) h6) fun v7 h7 =>
  bnd (stS (storeV 6 v7 v5 h7)) fun v8 h8 =>
  bnd (pu h8 (un .not v6)) fun v9 h9 =>
  condA v9
  (bnd (pu h9 (loadV G false 1 (.gl 4) h9)) fun v10 h10 =>
  finV [v10] h.length h10)
  (bnd (pu h9 (loadV G true 6 v1 h9)) fun v11 h11 =>
  bnd (pu h11 (loadV G true 6 v7 h11)) fun v12 h12 =>
  bnd (pureCall (words_has.f G k) [v11, v12] h12) fun v13 h13 =>
  bnd (pu h13 (extractA v13 0)) fun v14 h14 =>
  bnd (pu h14 (extractA v13 1)) fun v15 h15 =>
  thenK (loopN (words_one.l6 G k h15.length self) k [v0, v1, .nili, v14, v15, (.int .i64 0)] h15) fun e16 x16 h16 => exK e16
  (bnd (pu h16 (lenSl (nth x16 3))) fun v37 h37 =>
  thenK (loopN (words_one.l12 G k h37.length self) k [(nth x16 0), (nth x16 1), (nth x16 2), (nth x16 4), (nth x16 3), v37, (.int .i64 0)] h37) fun e38 x38 h38 => exK e38
  (thenK (
  bnd (pu h38 (fieldAddrV 0 (nth x38 1))) fun v51 h51 =>
  bnd (pu h51 (loadV G false 1 v51 h51)) fun v52 h52 =>
  thenK (
  bnd (pu h52 (bin Tryd.prog .eql 3 true v52 (.int .i64 10))) fun v53 h53 =>
  condA v53
  (some (.normal, [(nth x38 0), (nth x38 1), (.int .i64 (-1)), v52, v53], h53))
  (bnd (pu h53 (bin Tryd.prog .eql 3 true v52 (.int .i64 11))) fun v54 h54 =>
  condA v54
  (some (.normal, [(nth x38 0), (nth x38 1), (.int .i64 (-1)), v52, v54], h54))
  (bnd (pu h54 (bin Tryd.prog .eql 3 true v52 (.int .i64 12))) fun v55 h55 =>
  some (.normal, [(nth x38 0), (nth x38 1), (.int .i64 (-1)), v52, v55], h55)))) fun e56 x56 h56 => exK e56
  (condA (nth x56 4)
  (some (.normal, [(nth x56 1), .undef, (.int .i64 63)], h56))
  (bnd (pu h56 (bin Tryd.prog .eql 3 true (nth x56 3) (.int .i64 20))) fun v57 h57 =>
  condA v57
  (some (.normal, [(nth x56 1), .undef, (.int .i64 2)], h57))
  (thenK (
  bnd (pu h57 (bin Tryd.prog .eql 3 true (nth x56 3) (.int .i64 15))) fun v58 h58 =>
  condA v58
  (some (.normal, [(nth x56 0), (nth x56 1), (nth x56 2), (nth x56 3), v58], h58))
  (bnd (pu h58 (bin Tryd.prog .eql 3 true (nth x56 3) (.int .i64 16))) fun v59 h59 =>
  some (.normal, [(nth x56 0), (nth x56 1), (nth x56 2), (nth x56 3), v59], h59))) fun e60 x60 h60 => exK e60
  (condA (nth x60 4)
  (some (.normal, [(nth x60 1), .undef, (.int .i64 65535)], h60))
  (thenK (
  bnd (pu h60 (bin Tryd.prog .eql 3 true (nth x60 3) (.int .i64 17))) fun v61 h61 =>
  condA v61
  (some (.normal, [(nth x60 0), (nth x60 1), (nth x60 2), v61], h61))
  (bnd (pu h61 (bin Tryd.prog .eql 3 true (nth x60 3) (.int .i64 18))) fun v62 h62 =>
  condA v62
  (some (.normal, [(nth x60 0), (nth x60 1), (nth x60 2), v62], h62))
  (bnd (pu h62 (bin Tryd.prog .eql 3 true (nth x60 3) (.int .i64 19))) fun v63 h63 =>
  some (.normal, [(nth x60 0), (nth x60 1), (nth x60 2), v63], h63)))) fun e64 x64 h64 => exK e64
  (condA (nth x64 3)
  (bnd (pu h64 (fieldAddrV 5 (nth x64 1))) fun v65 h65 =>
  bnd (pu h65 (loadV G false 1 v65 h65)) fun v66 h66 =>
  bnd (pu h66 (bin Tryd.prog .lss 2 true v66 (.int .i64 0))) fun v67 h67 =>
  bnd (gd v67 false h67 (pu h67 (fieldAddrV 5 (nth x64 1)))) fun v68 h68 =>
  bnd (gd v67 false h68 (pu h68 (loadV G false 1 v68 h68))) fun v69 h69 =>
  bnd (gd v67 false h69 (pu h69 (fieldAddrV 0 (nth x64 0)))) fun v70 h70 =>
  bnd (gd v67 false h70 (pu h70 (loadV G false 1 v70 h70))) fun v71 h71 =>
  bnd (gd v67 false h71 (pu h71 (lenSl v71))) fun v72 h72 =>
  bnd (gd v67 false h72 (pu h72 (bin Tryd.prog .gtr 2 false v69 v72))) fun v73 h73 =>
  bnd (pu h73 (pickA v67 (.bool true) v73)) fun v74 h74 =>
  condA v74
  (bnd (pu h74 (loadV G false 1 (.gl 5) h74)) fun v75 h75 =>
  some (.ret, [(nth x64 1), v75, (nth x64 2)], h75))
  (some (.normal, [(nth x64 1), .undef, (nth x64 2)], h74)))
  (some (.normal, [(nth x64 1), .undef, (nth x64 2)], h64)))
  (fun i64 => if i64 = 4 then (some (.normal, [(nth x64 1), .undef, (nth x64 2)], h64)) else (some (.exit i64, [(nth x64 1), .undef, (nth x64 2)], h64)))
  (some (.ret, [(nth x64 1), .undef, (nth x64 2)], h64))))
  (fun i60 => if i60 = 4 then (some (.normal, [(nth x60 1), .undef, (nth x60 2)], h60)) else (some (.exit i60, [(nth x60 1), .undef, (nth x60 2)], h60)))
  (some (.ret, [(nth x60 1), .undef, (nth x60 2)], h60)))))
  (fun i56 => if i56 = 4 then (some (.normal, [(nth x56 1), .undef, (nth x56 2)], h56)) else (some (.exit i56, [(nth x56 1), .undef, (nth x56 2)], h56)))
  (some (.ret, [(nth x56 1), .undef, (nth x56 2)], h56))) fun e76 x76 h76 => exK e76
  (bnd (pu h76 (bin Tryd.prog .geq 2 true (nth x76 2) (.int .i64 0))) fun v77 h77 =>
  bnd (gd v77 true h77 (pu h77 (fieldAddrV 5 (nth x76 0)))) fun v78 h78 =>
  bnd (gd v77 true h78 (pu h78 (loadV G false 1 v78 h78))) fun v79 h79 =>
  bnd (gd v77 true h79 (pu h79 (bin Tryd.prog .lss 2 true v79 (.int .i64 0)))) fun v80 h80 =>
  bnd (gd v77 true h80 (some (v80, h80))) fun v81 h81 =>
  bnd (gd v81 false h81 (pu h81 (fieldAddrV 5 (nth x76 0)))) fun v82 h82 =>
  bnd (gd v81 false h82 (pu h82 (loadV G false 1 v82 h82))) fun v83 h83 =>
  bnd (gd v81 false h83 (some ((nth x76 2), h83))) fun v84 h84 =>
  bnd (gd v81 false h84 (pu h84 (bin Tryd.prog .gtr 2 false v83 v84))) fun v85 h85 =>
  bnd (gd v77 true h85 (pu h85 (pickA v81 (.bool true) v85))) fun v86 h86 =>
  bnd (pu h86 (pickA v77 v86 (.bool false))) fun v87 h87 =>
  condA v87
  (bnd (pu h87 (loadV G false 1 (.gl 2) h87)) fun v88 h88 =>
  finV [v88] h.length h88)
  (finV [.nili] h.length h87))
  (fun i76 => none)
  (finV [(nth x76 1)] h.length h76))
  (fun i38 => if i38 = 2 then (thenK (
  bnd (pu h38 (fieldAddrV 0 (nth x38 1))) fun v89 h89 =>
  bnd (pu h89 (loadV G false 1 v89 h89)) fun v90 h90 =>
  thenK (
  bnd (pu h90 (bin Tryd.prog .eql 3 true v90 (.int .i64 10))) fun v91 h91 =>
  condA v91
  (some (.normal, [(nth x38 0), (nth x38 1), (.int .i64 (-1)), v90, v91], h91))
  (bnd (pu h91 (bin Tryd.prog .eql 3 true v90 (.int .i64 11))) fun v92 h92 =>
  condA v92
  (some (.normal, [(nth x38 0), (nth x38 1), (.int .i64 (-1)), v90, v92], h92))
  (bnd (pu h92 (bin Tryd.prog .eql 3 true v90 (.int .i64 12))) fun v93 h93 =>
  some (.normal, [(nth x38 0), (nth x38 1), (.int .i64 (-1)), v90, v93], h93)))) fun e94 x94 h94 => exK e94
  (condA (nth x94 4)
  (some (.normal, [(nth x94 1), .undef, (.int .i64 63)], h94))
  (bnd (pu h94 (bin Tryd.prog .eql 3 true (nth x94 3) (.int .i64 20))) fun v95 h95 =>
  condA v95
  (some (.normal, [(nth x94 1), .undef, (.int .i64 2)], h95))
  (thenK (
  bnd (pu h95 (bin Tryd.prog .eql 3 true (nth x94 3) (.int .i64 15))) fun v96 h96 =>
  condA v96
  (some (.normal, [(nth x94 0), (nth x94 1), (nth x94 2), (nth x94 3), v96], h96))
  (bnd (pu h96 (bin Tryd.prog .eql 3 true (nth x94 3) (.int .i64 16))) fun v97 h97 =>
  some (.normal, [(nth x94 0), (nth x94 1), (nth x94 2), (nth x94 3), v97], h97))) fun e98 x98 h98 => exK e98
  (condA (nth x98 4)
  (some (.normal, [(nth x98 1), .undef, (.int .i64 65535)], h98))
  (thenK (
  bnd (pu h98 (bin Tryd.prog .eql 3 true (nth x98 3) (.int .i64 17))) fun v99 h99 =>
  condA v99
  (some (.normal, [(nth x98 0), (nth x98 1), (nth x98 2), v99], h99))
  (bnd (pu h99 (bin Tryd.prog .eql 3 true (nth x98 3) (.int .i64 18))) fun v100 h100 =>
  condA v100
  (some (.normal, [(nth x98 0), (nth x98 1), (nth x98 2), v100], h100))
  (bnd (pu h100 (bin Tryd.prog .eql 3 true (nth x98 3) (.int .i64 19))) fun v101 h101 =>
  some (.normal, [(nth x98 0), (nth x98 1), (nth x98 2), v101], h101)))) fun e102 x102 h102 => exK e102
  (condA (nth x102 3)
  (bnd (pu h102 (fieldAddrV 5 (nth x102 1))) fun v103 h103 =>
  bnd (pu h103 (loadV G false 1 v103 h103)) fun v104 h104 =>
  bnd (pu h104 (bin Tryd.prog .lss 2 true v104 (.int .i64 0))) fun v105 h105 =>
  bnd (gd v105 false h105 (pu h105 (fieldAddrV 5 (nth x102 1)))) fun v106 h106 =>
  bnd (gd v105 false h106 (pu h106 (loadV G false 1 v106 h106))) fun v107 h107 =>
  bnd (gd v105 false h107 (pu h107 (fieldAddrV 0 (nth x102 0)))) fun v108 h108 =>
  bnd (gd v105 false h108 (pu h108 (loadV G false 1 v108 h108))) fun v109 h109 =>
  bnd (gd v105 false h109 (pu h109 (lenSl v109))) fun v110 h110 =>
  bnd (gd v105 false h110 (pu h110 (bin Tryd.prog .gtr 2 false v107 v110))) fun v111 h111 =>
  bnd (pu h111 (pickA v105 (.bool true) v111)) fun v112 h112 =>
  condA v112
  (bnd (pu h112 (loadV G false 1 (.gl 5) h112)) fun v113 h113 =>
  some (.ret, [(nth x102 1), v113, (nth x102 2)], h113))
  (some (.normal, [(nth x102 1), .undef, (nth x102 2)], h112)))
  (some (.normal, [(nth x102 1), .undef, (nth x102 2)], h102)))
  (fun i102 => if i102 = 4 then (some (.normal, [(nth x102 1), .undef, (nth x102 2)], h102)) else (some (.exit i102, [(nth x102 1), .undef, (nth x102 2)], h102)))
  (some (.ret, [(nth x102 1), .undef, (nth x102 2)], h102))))
  (fun i98 => if i98 = 4 then (some (.normal, [(nth x98 1), .undef, (nth x98 2)], h98)) else (some (.exit i98, [(nth x98 1), .undef, (nth x98 2)], h98)))
  (some (.ret, [(nth x98 1), .undef, (nth x98 2)], h98)))))
  (fun i94 => if i94 = 4 then (some (.normal, [(nth x94 1), .undef, (nth x94 2)], h94)) else (some (.exit i94, [(nth x94 1), .undef, (nth x94 2)], h94)))
  (some (.ret, [(nth x94 1), .undef, (nth x94 2)], h94))) fun e114 x114 h114 => exK e114
  (bnd (pu h114 (bin Tryd.prog .geq 2 true (nth x114 2) (.int .i64 0))) fun v115 h115 =>
  bnd (gd v115 true h115 (pu h115 (fieldAddrV 5 (nth x114 0)))) fun v116 h116 =>
  bnd (gd v115 true h116 (pu h116 (loadV G false 1 v116 h116))) fun v117 h117 =>
  bnd (gd v115 true h117 (pu h117 (bin Tryd.prog .lss 2 true v117 (.int .i64 0)))) fun v118 h118 =>
  bnd (gd v115 true h118 (some (v118, h118))) fun v119 h119 =>
  bnd (gd v119 false h119 (pu h119 (fieldAddrV 5 (nth x114 0)))) fun v120 h120 =>
  bnd (gd v119 false h120 (pu h120 (loadV G false 1 v120 h120))) fun v121 h121 =>
  bnd (gd v119 false h121 (some ((nth x114 2), h121))) fun v122 h122 =>
  bnd (gd v119 false h122 (pu h122 (bin Tryd.prog .gtr 2 false v121 v122))) fun v123 h123 =>
  bnd (gd v115 true h123 (pu h123 (pickA v119 (.bool true) v123))) fun v124 h124 =>
  bnd (pu h124 (pickA v115 v124 (.bool false))) fun v125 h125 =>
  condA v125
  (bnd (pu h125 (loadV G false 1 (.gl 2) h125)) fun v126 h126 =>
  finV [v126] h.length h126)
  (finV [.nili] h.length h125))
  (fun i114 => none)
  (finV [(nth x114 1)] h.length h114)) else (none))
  (finV [(nth x38 2)] h.length h38))
  (fun i16 => if i16 = 0 then (bnd (pu h16 (lenSl (nth x16 3))) fun v127 h127 =>
  thenK (loopN (words_one.l12 G k h127.length self) k [(nth x16 0), (nth x16 1), (nth x16 2), (nth x16 4), (nth x16 3), v127, (.int .i64 0)] h127) fun e128 x128 h128 => exK e128
  (thenK (
  bnd (pu h128 (fieldAddrV 0 (nth x128 1))) fun v141 h141 =>
  bnd (pu h141 (loadV G false 1 v141 h141)) fun v142 h142 =>
  thenK (
  bnd (pu h142 (bin Tryd.prog .eql 3 true v142 (.int .i64 10))) fun v143 h143 =>
  condA v143
  (some (.normal, [(nth x128 0), (nth x128 1), (.int .i64 (-1)), v142, v143], h143))
  (bnd (pu h143 (bin Tryd.prog .eql 3 true v142 (.int .i64 11))) fun v144 h144 =>
  condA v144
  (some (.normal, [(nth x128 0), (nth x128 1), (.int .i64 (-1)), v142, v144], h144))
  (bnd (pu h144 (bin Tryd.prog .eql 3 true v142 (.int .i64 12))) fun v145 h145 =>
  some (.normal, [(nth x128 0), (nth x128 1), (.int .i64 (-1)), v142, v145], h145)))) fun e146 x146 h146 => exK e146
  (condA (nth x146 4)
  (some (.normal, [(nth x146 1), .undef, (.int .i64 63)], h146))
  (bnd (pu h146 (bin Tryd.prog .eql 3 true (nth x146 3) (.int .i64 20))) fun v147 h147 =>
  condA v147
  (some (.normal, [(nth x146 1), .undef, (.int .i64 2)], h147))
  (thenK (
  bnd (pu h147 (bin Tryd.prog .eql 3 true (nth x146 3) (.int .i64 15))) fun v148 h148 =>
  condA v148
  (some (.normal, [(nth x146 0), (nth x146 1), (nth x146 2), (nth x146 3), v148], h148))
  (bnd (pu h148 (bin Tryd.prog .eql 3 true (nth x146 3) (.int .i64 16))) fun v149 h149 =>
  some (.normal, [(nth x146 0), (nth x146 1), (nth x146 2), (nth x146 3), v149], h149))) fun e150 x150 h150 => exK e150
  (condA (nth x150 4)
  (some (.normal, [(nth x150 1), .undef, (.int .i64 65535)], h150))
  (thenK (
  bnd (pu h150 (bin Tryd.prog .eql 3 true (nth x150 3) (.int .i64 17))) fun v151 h151 =>
  condA v151
  (some (.normal, [(nth x150 0), (nth x150 1), (nth x150 2), v151], h151))
  (bnd (pu h151 (bin Tryd.prog .eql 3 true (nth x150 3) (.int .i64 18))) fun v152 h152 =>
  condA v152
  (some (.normal, [(nth x150 0), (nth x150 1), (nth x150 2), v152], h152))
  (bnd (pu h152 (bin Tryd.prog .eql 3 true (nth x150 3) (.int .i64 19))) fun v153 h153 =>
  some (.normal, [(nth x150 0), (nth x150 1), (nth x150 2), v153], h153)))) fun e154 x154 h154 => exK e154
  (condA (nth x154 3)
  (bnd (pu h154 (fieldAddrV 5 (nth x154 1))) fun v155 h155 =>
  bnd (pu h155 (loadV G false 1 v155 h155)) fun v156 h156 =>
  bnd (pu h156 (bin Tryd.prog .lss 2 true v156 (.int .i64 0))) fun v157 h157 =>
  bnd (gd v157 false h157 (pu h157 (fieldAddrV 5 (nth x154 1)))) fun v158 h158 =>
  bnd (gd v157 false h158 (pu h158 (loadV G false 1 v158 h158))) fun v159 h159 =>
  bnd (gd v157 false h159 (pu h159 (fieldAddrV 0 (nth x154 0)))) fun v160 h160 =>
  bnd (gd v157 false h160 (pu h160 (loadV G false 1 v160 h160))) fun v161 h161 =>
  bnd (gd v157 false h161 (pu h161 (lenSl v161))) fun v162 h162 =>
  bnd (gd v157 false h162 (pu h162 (bin Tryd.prog .gtr 2 false v159 v162))) fun v163 h163 =>
  bnd (pu h163 (pickA v157 (.bool true) v163)) fun v164 h164 =>
  condA v164
  (bnd (pu h164 (loadV G false 1 (.gl 5) h164)) fun v165 h165 =>
  some (.ret, [(nth x154 1), v165, (nth x154 2)], h165))
  (some (.normal, [(nth x154 1), .undef, (nth x154 2)], h164)))
  (some (.normal, [(nth x154 1), .undef, (nth x154 2)], h154)))
  (fun i154 => if i154 = 4 then (some (.normal, [(nth x154 1), .undef, (nth x154 2)], h154)) else (some (.exit i154, [(nth x154 1), .undef, (nth x154 2)], h154)))
  (some (.ret, [(nth x154 1), .undef, (nth x154 2)], h154))))
  (fun i150 => if i150 = 4 then (some (.normal, [(nth x150 1), .undef, (nth x150 2)], h150)) else (some (.exit i150, [(nth x150 1), .undef, (nth x150 2)], h150)))
  (some (.ret, [(nth x150 1), .undef, (nth x150 2)], h150)))))
  (fun i146 => if i146 = 4 then (some (.normal, [(nth x146 1), .undef, (nth x146 2)], h146)) else (some (.exit i146, [(nth x146 1), .undef, (nth x146 2)], h146)))
  (some (.ret, [(nth x146 1), .undef, (nth x146 2)], h146))) fun e166 x166 h166 => exK e166
  (bnd (pu h166 (bin Tryd.prog .geq 2 true (nth x166 2) (.int .i64 0))) fun v167 h167 =>
  bnd (gd v167 true h167 (pu h167 (fieldAddrV 5 (nth x166 0)))) fun v168 h168 =>
  bnd (gd v167 true h168 (pu h168 (loadV G false 1 v168 h168))) fun v169 h169 =>
  bnd (gd v167 true h169 (pu h169 (bin Tryd.prog .lss 2 true v169 (.int .i64 0)))) fun v170 h170 =>
  bnd (gd v167 true h170 (some (v170, h170))) fun v171 h171 =>
  bnd (gd v171 false h171 (pu h171 (fieldAddrV 5 (nth x166 0)))) fun v172 h172 =>
  bnd (gd v171 false h172 (pu h172 (loadV G false 1 v172 h172))) fun v173 h173 =>
  bnd (gd v171 false h173 (some ((nth x166 2), h173))) fun v174 h174 =>
  bnd (gd v171 false h174 (pu h174 (bin Tryd.prog .gtr 2 false v173 v174))) fun v175 h175 =>
  bnd (gd v167 true h175 (pu h175 (pickA v171 (.bool true) v175))) fun v176 h176 =>
  bnd (pu h176 (pickA v167 v176 (.bool false))) fun v177 h177 =>
  condA v177
  (bnd (pu h177 (loadV G false 1 (.gl 2) h177)) fun v178 h178 =>
  finV [v178] h.length h178)
  (finV [.nili] h.length h177))
  (fun i166 => none)
  (finV [(nth x166 1)] h.length h166))
  (fun i128 => if i128 = 2 then (thenK (
  bnd (pu h128 (fieldAddrV 0 (nth x128 1))) fun v179 h179 =>
  bnd (pu h179 (loadV G false 1 v179 h179)) fun v180 h180 =>
  thenK (
  bnd (pu h180 (bin Tryd.prog .eql 3 true v180 (.int .i64 10))) fun v181 h181 =>
  condA v181
  (some (.normal, [(nth x128 0), (nth x128 1), (.int .i64 (-1)), v180, v181], h181))
  (bnd (pu h181 (bin Tryd.prog .eql 3 true v180 (.int .i64 11))) fun v182 h182 =>
  condA v182
  (some (.normal, [(nth x128 0), (nth x128 1), (.int .i64 (-1)), v180, v182], h182))
  (bnd (pu h182 (bin Tryd.prog .eql 3 true v180 (.int .i64 12))) fun v183 h183 =>
  some (.normal, [(nth x128 0), (nth x128 1), (.int .i64 (-1)), v180, v183], h183)))) fun e184 x184 h184 => exK e184
  (condA (nth x184 4)
  (some (.normal, [(nth x184 1), .undef, (.int .i64 63)], h184))
  (bnd (pu h184 (bin Tryd.prog .eql 3 true (nth x184 3) (.int .i64 20))) fun v185 h185 =>
  condA v185
  (some (.normal, [(nth x184 1), .undef, (.int .i64 2)], h185))
  (thenK (
  bnd (pu h185 (bin Tryd.prog .eql 3 true (nth x184 3) (.int .i64 15))) fun v186 h186 =>
  condA v186
  (some (.normal, [(nth x184 0), (nth x184 1), (nth x184 2), (nth x184 3), v186], h186))
  (bnd (pu h186 (bin Tryd.prog .eql 3 true (nth x184 3) (.int .i64 16))) fun v187 h187 =>
  some (.normal, [(nth x184 0), (nth x184 1), (nth x184 2), (nth x184 3), v187], h187))) fun e188 x188 h188 => exK e188
  (condA (nth x188 4)
  (some (.normal, [(nth x188 1), .undef, (.int .i64 65535)], h188))
  (thenK (
  bnd (pu h188 (bin Tryd.prog .eql 3 true (nth x188 3) (.int .i64 17))) fun v189 h189 =>
  condA v189
  (some (.normal, [(nth x188 0), (nth x188 1), (nth x188 2), v189], h189))
  (bnd (pu h189 (bin Tryd.prog .eql 3 true (nth x188 3) (.int .i64 18))) fun v190 h190 =>
  condA v190
  (some (.normal, [(nth x188 0), (nth x188 1), (nth x188 2), v190], h190))
  (bnd (pu h190 (bin Tryd.prog .eql 3 true (nth x188 3) (.int .i64 19))) fun v191 h191 =>
  some (.normal, [(nth x188 0), (nth x188 1), (nth x188 2), v191], h191)))) fun e192 x192 h192 => exK e192
  (condA (nth x192 3)
  (bnd (pu h192 (fieldAddrV 5 (nth x192 1))) fun v193 h193 =>
  bnd (pu h193 (loadV G false 1 v193 h193)) fun v194 h194 =>
  bnd (pu h194 (bin Tryd.prog .lss 2 true v194 (.int .i64 0))) fun v195 h195 =>
  bnd (gd v195 false h195 (pu h195 (fieldAddrV 5 (nth x192 1)))) fun v196 h196 =>
  bnd (gd v195 false h196 (pu h196 (loadV G false 1 v196 h196))) fun v197 h197 =>
  bnd (gd v195 false h197 (pu h197 (fieldAddrV 0 (nth x192 0)))) fun v198 h198 =>
  bnd (gd v195 false h198 (pu h198 (loadV G false 1 v198 h198))) fun v199 h199 =>
  bnd (gd v195 false h199 (pu h199 (lenSl v199))) fun v200 h200 =>
  bnd (gd v195 false h200 (pu h200 (bin Tryd.prog .gtr 2 false v197 v200))) fun v201 h201 =>
  bnd (pu h201 (pickA v195 (.bool true) v201)) fun v202 h202 =>
  condA v202
  (bnd (pu h202 (loadV G false 1 (.gl 5) h202)) fun v203 h203 =>
  some (.ret, [(nth x192 1), v203, (nth x192 2)], h203))
  (some (.normal, [(nth x192 1), .undef, (nth x192 2)], h202)))
  (some (.normal, [(nth x192 1), .undef, (nth x192 2)], h192)))
  (fun i192 => if i192 = 4 then (some (.normal, [(nth x192 1), .undef, (nth x192 2)], h192)) else (some (.exit i192, [(nth x192 1), .undef, (nth x192 2)], h192)))
  (some (.ret, [(nth x192 1), .undef, (nth x192 2)], h192))))
  (fun i188 => if i188 = 4 then (some (.normal, [(nth x188 1), .undef, (nth x188 2)], h188)) else (some (.exit i188, [(nth x188 1), .undef, (nth x188 2)], h188)))
  (some (.ret, [(nth x188 1), .undef, (nth x188 2)], h188)))))
  (fun i184 => if i184 = 4 then (some (.normal, [(nth x184 1), .undef, (nth x184 2)], h184)) else (some (.exit i184, [(nth x184 1), .undef, (nth x184 2)], h184)))
  (some (.ret, [(nth x184 1), .undef, (nth x184 2)], h184))) fun e204 x204 h204 => exK e204
  (bnd (pu h204 (bin Tryd.prog .geq 2 true (nth x204 2) (.int .i64 0))) fun v205 h205 =>
  bnd (gd v205 true h205 (pu h205 (fieldAddrV 5 (nth x204 0)))) fun v206 h206 =>
  bnd (gd v205 true h206 (pu h206 (loadV G false 1 v206 h206))) fun v207 h207 =>
  bnd (gd v205 true h207 (pu h207 (bin Tryd.prog .lss 2 true v207 (.int .i64 0)))) fun v208 h208 =>
  bnd (gd v205 true h208 (some (v208, h208))) fun v209 h209 =>
  bnd (gd v209 false h209 (pu h209 (fieldAddrV 5 (nth x204 0)))) fun v210 h210 =>
  bnd (gd v209 false h210 (pu h210 (loadV G false 1 v210 h210))) fun v211 h211 =>
  bnd (gd v209 false h211 (some ((nth x204 2), h211))) fun v212 h212 =>
  bnd (gd v209 false h212 (pu h212 (bin Tryd.prog .gtr 2 false v211 v212))) fun v213 h213 =>
  bnd (gd v205 true h213 (pu h213 (pickA v209 (.bool true) v213))) fun v214 h214 =>
  bnd (pu h214 (pickA v205 v214 (.bool false))) fun v215 h215 =>
  condA v215
  (bnd (pu h215 (loadV G false 1 (.gl 2) h215)) fun v216 h216 =>
  finV [v216] h.length h216)
  (finV [.nili] h.length h215))
  (fun i204 => none)
  (finV [(nth x204 1)] h.length h204)) else (none))
  (finV [(nth x128 2)] h.length h128)) else (none))
  (finV [(nth x16 2)] h.length h16)))
noncomputable def words_one.f (G : Globs) : Nat → Den
  | 0 => fun _ _ => none
  | k + 1 => fun args h => arg2 args fun x0 x1 => (words_one.c G k (words_one.f G k) x0 x1 h)
theorem words_one.step (G : Globs) (k : Nat) (x0 x1 : AV) (h : AHeap) : words_one.f G (k + 1) [x0, x1] h = words_one.c G k (words_one.f G k) x0 x1 h := rfl
/-! alembic/words.Valid: function 17 -/
noncomputable def words_Valid.ann : Ann := mkAnn [] [] [(6, [1, 2, 33, 34, 35])] []
noncomputable def words_Valid.env (G : Globs) (k : Nat) (self : Den) : List (Nat × Bool × Den) := [(43, true, words_one.f G k)]
noncomputable def words_Valid.l6 (G : Globs) (k n0 : Nat) (self : Den) (lp : LoopF) : LoopF := fun xs h0 => cutK n0 xs h0 fun h =>
  bnd (pu h (bin Tryd.prog .lss 3 false (nth xs 4) (nth xs 3))) fun v26 h26 =>
  condA v26
  (bnd (pu h26 (idxAddrSl 6 (nth xs 2) (nth xs 4))) fun v27 h27 =>
  bnd (pu h27 (loadV G true 6 v27 h27)) fun v28 h28 =>
  bnd (boxA 52 (.agg [(.int .i64 0), (.int .i64 0), (.int .i64 0), (.int .i64 0), (.int .i64 0), (.int .i64 0)]) h28) fun v29 h29 =>
  bnd (stS (storeV 6 v29 v28 h29)) fun v30 h30 =>
  bnd (pu h30 (loadV G true 3 (nth xs 0) h30)) fun v31 h31 =>
  bnd (pu h31 (loadV G true 6 v29 h31)) fun v32 h32 =>
  bnd (pureCall (words_one.f G k) [v31, v32] h32) fun v33 h33 =>
  bnd (pu h33 (bin Tryd.prog .neq 35 true v33 .nili)) fun v34 h34 =>
  condA v34
  (bnd (pu h34 (buildSt [(0, 1), (1, 1)] [(.int .i64 0), .nili] [(0, (nth xs 4)), (1, v33)])) fun v35 h35 =>
  bnd (boxRoA v35 h35) fun v36 h36 =>
  some (.ret, [(nth xs 0), (.iface 89 v36), (nth xs 2), (nth xs 3), (nth xs 4)], h36))
  (bnd (pu h34 (bin Tryd.prog .add 3 true (nth xs 4) (.int .i64 1))) fun v37 h37 =>
  lp [(nth xs 0), (nth xs 1), (nth xs 2), (nth xs 3), v37] h37))
  (some (.exit 1, [(nth xs 0), (nth xs 1), (nth xs 2), (nth xs 3), (nth xs 4)], h26))
noncomputable def words_Valid.c (G : Globs) (k : Nat) (self : Den) (x0 : AV) (h : AHeap) : Option (AV × AHeap) := outV (
  bnd (boxRoA x0 h) fun v0 h0 =>
  bnd (pu h0 (fieldAddrV 0 v0)) fun v1 h1 =>
  bnd (pu h1 (loadV G false 1 v1 h1)) fun v2 h2 =>
  bnd (pu h2 (lenSl v2)) fun v3 h3 =>
  bnd (pu h3 (bin Tryd.prog .gtr 3 true v3 (.int .i64 262144))) fun v4 h4 =>
  condA v4
  (bnd (pu h4 (loadV G false 1 (.gl 0) h4)) fun v5 h5 =>
  finV [v5] h.length h5)
  (bnd (pu h4 (fieldAddrV 1 v0)) fun v6 h6 =>
  bnd (pu h6 (loadV G false 1 v6 h6)) fun v7 h7 =>
  bnd (pu h7 (bin Tryd.prog .lss 3 true v7 (.int .i64 0))) fun v8 h8 =>
  bnd (gd v8 false h8 (pu h8 (fieldAddrV 1 v0))) fun v9 h9 =>
  bnd (gd v8 false h9 (pu h9 (loadV G false 1 v9 h9))) fun v10 h10 =>
  bnd (gd v8 false h10 (pu h10 (bin Tryd.prog .gtr 3 true v10 (.int .i64 65536)))) fun v11 h11 =>
  bnd (pu h11 (pickA v8 (.bool true) v11)) fun v12 h12 =>
  bnd (gd v12 false h12 (pu h12 (fieldAddrV 2 v0))) fun v13 h13 =>
  bnd (gd v12 false h13 (pu h13 (loadV G false 1 v13 h13))) fun v14 h14 =>
  bnd (gd v12 false h14 (pu h14 (bin Tryd.prog .lss 3 true v14 (.int .i64 0)))) fun v15 h15 =>
  bnd (pu h15 (pickA v12 (.bool true) v15)) fun v16 h16 =>
  bnd (gd v16 false h16 (pu h16 (fieldAddrV 2 v0))) fun v17 h17 =>
  bnd (gd v16 false h17 (pu h17 (loadV G false 1 v17 h17))) fun v18 h18 =>
  bnd (gd v16 false h18 (pu h18 (bin Tryd.prog .gtr 3 true v18 (.int .i64 65536)))) fun v19 h19 =>
  bnd (pu h19 (pickA v16 (.bool true) v19)) fun v20 h20 =>
  condA v20
  (bnd (pu h20 (loadV G false 1 (.gl 0) h20)) fun v21 h21 =>
  finV [v21] h.length h21)
  (bnd (pu h20 (fieldAddrV 0 v0)) fun v22 h22 =>
  bnd (pu h22 (loadV G false 1 v22 h22)) fun v23 h23 =>
  bnd (pu h23 (lenSl v23)) fun v24 h24 =>
  thenK (loopN (words_Valid.l6 G k h24.length self) k [v0, .nili, v23, v24, (.int .i64 0)] h24) fun e25 x25 h25 => exK e25
  (finV [.nili] h.length h25)
  (fun i25 => if i25 = 1 then (finV [.nili] h.length h25) else (none))
  (finV [(nth x25 1)] h.length h25))))
noncomputable def words_Valid.f (G : Globs) : Nat → Den
  | 0 => fun _ _ => none
  | k + 1 => fun args h => arg1 args fun x0 => (words_Valid.c G k (words_Valid.f G k) x0 h)
theorem words_Valid.step (G : Globs) (k : Nat) (x0 : AV) (h : AHeap) : words_Valid.f G (k + 1) [x0] h = words_Valid.c G k (words_Valid.f G k) x0 h := rfl
/-! alembic/words.Given: function 44 -/
noncomputable def words_Given.ann : Ann := mkAnn [] [] [] []
noncomputable def words_Given.env (G : Globs) (k : Nat) (self : Den) : List (Nat × Bool × Den) := []
noncomputable def words_Given.c (G : Globs) (k : Nat) (self : Den) (x0 x1 x2 : AV) (h : AHeap) : Option (AV × AHeap) := outV (
  bnd (boxRoA x0 h) fun v0 h0 =>
  bnd (pu h0 (lenSl x1)) fun v1 h1 =>
  bnd (pu h1 (fieldAddrV 2 v0)) fun v2 h2 =>
  bnd (pu h2 (loadV G false 1 v2 h2)) fun v3 h3 =>
  bnd (pu h3 (bin Tryd.prog .neq 3 false v1 v3)) fun v4 h4 =>
  condA v4
  (bnd (pu h4 (loadV G false 1 (.gl 1) h4)) fun v5 h5 =>
  finV [v5] h.length h5)
  (bnd (pu h4 (bin Tryd.prog .lss 2 true x2 (.int .i64 0))) fun v6 h6 =>
  bnd (gd v6 false h6 (some (x2, h6))) fun v7 h7 =>
  bnd (gd v6 false h7 (pu h7 (bin Tryd.prog .gtr 2 true v7 (.int .i64 1073741824)))) fun v8 h8 =>
  bnd (pu h8 (pickA v6 (.bool true) v8)) fun v9 h9 =>
  condA v9
  (bnd (pu h9 (loadV G false 1 (.gl 2) h9)) fun v10 h10 =>
  finV [v10] h.length h10)
  (finV [.nili] h.length h9)))
noncomputable def words_Given.f (G : Globs) : Nat → Den
  | 0 => fun _ _ => none
  | k + 1 => fun args h => arg3 args fun x0 x1 x2 => (words_Given.c G k (words_Given.f G k) x0 x1 x2 h)
theorem words_Given.step (G : Globs) (k : Nat) (x0 x1 x2 : AV) (h : AHeap) : words_Given.f G (k + 1) [x0, x1, x2] h = words_Given.c G k (words_Given.f G k) x0 x1 x2 h := rfl
/-! slices.Clone[[]uint64,uint64]: function 72 -/
noncomputable def slices_Clone___uint64uint64_.ann : Ann := mkAnn [5] [2] [] []
noncomputable def slices_Clone___uint64uint64_.env (G : Globs) (k : Nat) (self : Den) : List (Nat × Bool × Den) := []
noncomputable def slices_Clone___uint64uint64_.c (G : Globs) (k : Nat) (self : Den) (x0 : AV) (h : AHeap) : Option (AV × AHeap) := outV (
  bnd (some (.sl h.length 0 0 0 1, h ++ [⟨48, 1, []⟩])) fun v0 h0 =>
  bnd (pu h0 (bin Tryd.prog .eql 25 true x0 .nils)) fun v1 h1 =>
  condA v1
  (bnd (some (.sl h1.length 0 0 0 1, h1 ++ [⟨48, 1, []⟩])) fun v2 h2 =>
  finO [v2] h2)
  (bnd (buildOwn 48 1 0 (.int .u64 0) [] h1) fun v3 h3 =>
  bnd (appendV 48 1 v3 x0 h3) fun v4 h4 =>
  finO [v4] h4))
noncomputable def slices_Clone___uint64uint64_.f (G : Globs) : Nat → Den
  | 0 => fun _ _ => none
  | k + 1 => fun args h => arg1 args fun x0 => (slices_Clone___uint64uint64_.c G k (slices_Clone___uint64uint64_.f G k) x0 h)
theorem slices_Clone___uint64uint64_.step (G : Globs) (k : Nat) (x0 : AV) (h : AHeap) : slices_Clone___uint64uint64_.f G (k + 1) [x0] h = slices_Clone___uint64uint64_.c G k (slices_Clone___uint64uint64_.f G k) x0 h := rfl
/-! (*alembic/words.run).leak: function 73 -/
noncomputable def words_run_leak.ann : Ann := mkAnn [] [] [] []
noncomputable def words_run_leak.env (G : Globs) (k : Nat) (self : Den) : List (Nat × Bool × Den) := []
noncomputable def words_run_leak.c (G : Globs) (k : Nat) (self : Den) (x0 x1 x2 : AV) (h : AHeap) : Option (AV × AHeap) := outV (
  bnd (pu h (nilA x0)) fun v0 h0 =>
  bnd (pu h0 (fieldAddrV 5 v0)) fun v1 h1 =>
  bnd (pu h1 (fieldAddrV 2 v1)) fun v2 h2 =>
  bnd (pu h2 (loadV G false 1 v2 h2)) fun v3 h3 =>
  bnd (pu h3 (buildSt [(0, 1), (1, 1)] [(.int .i64 0), (.int .i64 0)] [(0, x1), (1, x2)])) fun v4 h4 =>
  bnd (buildRo 2 1 (.agg [(.int .i64 0), (.int .i64 0)]) [(0, v4)] h4) fun v5 h5 =>
  bnd (appendV 96 2 v3 v5 h5) fun v6 h6 =>
  bnd (pu h6 (nilA x0)) fun v7 h7 =>
  bnd (pu h7 (fieldAddrV 5 v7)) fun v8 h8 =>
  bnd (pu h8 (fieldAddrV 2 v8)) fun v9 h9 =>
  bnd (stS (storeV 1 v9 v6 h9)) fun v10 h10 =>
  finV [] h.length h10)
noncomputable def words_run_leak.f (G : Globs) : Nat → Den
  | 0 => fun _ _ => none
  | k + 1 => fun args h => arg3 args fun x0 x1 x2 => (words_run_leak.c G k (words_run_leak.f G k) x0 x1 x2 h)
theorem words_run_leak.step (G : Globs) (k : Nat) (x0 x1 x2 : AV) (h : AHeap) : words_run_leak.f G (k + 1) [x0, x1, x2] h = words_run_leak.c G k (words_run_leak.f G k) x0 x1 x2 h := rfl
/-! math/bits.Mul64: function 49 -/
noncomputable def math_bits_Mul64.ann : Ann := mkAnn [] [] [] []
noncomputable def math_bits_Mul64.env (G : Globs) (k : Nat) (self : Den) : List (Nat × Bool × Den) := []
noncomputable def math_bits_Mul64.c (G : Globs) (k : Nat) (self : Den) (x0 x1 : AV) (h : AHeap) : Option (AV × AHeap) := outV (
  bnd (pu h (bin Tryd.prog .and 48 true x0 (.int .u64 4294967295))) fun v0 h0 =>
  bnd (pu h0 (bin Tryd.prog .shr 48 true x0 (.int .u64 32))) fun v1 h1 =>
  bnd (pu h1 (bin Tryd.prog .and 48 true x1 (.int .u64 4294967295))) fun v2 h2 =>
  bnd (pu h2 (bin Tryd.prog .shr 48 true x1 (.int .u64 32))) fun v3 h3 =>
  bnd (pu h3 (bin Tryd.prog .mul 48 false v0 v2)) fun v4 h4 =>
  bnd (pu h4 (bin Tryd.prog .mul 48 false v1 v2)) fun v5 h5 =>
  bnd (pu h5 (bin Tryd.prog .shr 48 true v4 (.int .u64 32))) fun v6 h6 =>
  bnd (pu h6 (bin Tryd.prog .add 48 false v5 v6)) fun v7 h7 =>
  bnd (pu h7 (bin Tryd.prog .and 48 true v7 (.int .u64 4294967295))) fun v8 h8 =>
  bnd (pu h8 (bin Tryd.prog .shr 48 true v7 (.int .u64 32))) fun v9 h9 =>
  bnd (pu h9 (bin Tryd.prog .mul 48 false v0 v3)) fun v10 h10 =>
  bnd (pu h10 (bin Tryd.prog .add 48 false v8 v10)) fun v11 h11 =>
  bnd (pu h11 (bin Tryd.prog .mul 48 false v1 v3)) fun v12 h12 =>
  bnd (pu h12 (bin Tryd.prog .add 48 false v12 v9)) fun v13 h13 =>
  bnd (pu h13 (bin Tryd.prog .shr 48 true v11 (.int .u64 32))) fun v14 h14 =>
  bnd (pu h14 (bin Tryd.prog .add 48 false v13 v14)) fun v15 h15 =>
  bnd (pu h15 (bin Tryd.prog .mul 48 false x0 x1)) fun v16 h16 =>
  finV [v15, v16] h.length h16)
noncomputable def math_bits_Mul64.f (G : Globs) : Nat → Den
  | 0 => fun _ _ => none
  | k + 1 => fun args h => arg2 args fun x0 x1 => (math_bits_Mul64.c G k (math_bits_Mul64.f G k) x0 x1 h)
theorem math_bits_Mul64.step (G : Globs) (k : Nat) (x0 x1 : AV) (h : AHeap) : math_bits_Mul64.f G (k + 1) [x0, x1] h = math_bits_Mul64.c G k (math_bits_Mul64.f G k) x0 x1 h := rfl
/-! alembic/words.shifted: function 50 -/
noncomputable def words_shifted.ann : Ann := mkAnn [] [] [] []
noncomputable def words_shifted.env (G : Globs) (k : Nat) (self : Den) : List (Nat × Bool × Den) := []
noncomputable def words_shifted.c (G : Globs) (k : Nat) (self : Den) (x0 x1 : AV) (h : AHeap) : Option (AV × AHeap) := outV (
  bnd (boxRoA x0 h) fun v0 h0 =>
  bnd (pu h0 (fieldAddrV 5 v0)) fun v1 h1 =>
  bnd (pu h1 (loadV G false 1 v1 h1)) fun v2 h2 =>
  bnd (pu h2 (bin Tryd.prog .lss 2 true v2 (.int .i64 0))) fun v3 h3 =>
  bnd (gd v3 false h3 (pu h3 (fieldAddrV 5 v0))) fun v4 h4 =>
  bnd (gd v3 false h4 (pu h4 (loadV G false 1 v4 h4))) fun v5 h5 =>
  bnd (gd v3 false h5 (pu h5 (bin Tryd.prog .gtr 2 true v5 (.int .i64 63)))) fun v6 h6 =>
  bnd (pu h6 (pickA v3 (.bool true) v6)) fun v7 h7 =>
  condA v7
  (finV [(.int .u64 0), (.bool false)] h.length h7)
  (bnd (pu h7 (fieldAddrV 0 v0)) fun v8 h8 =>
  bnd (pu h8 (loadV G false 1 v8 h8)) fun v9 h9 =>
  bnd (pu h9 (bin Tryd.prog .eql 3 true v9 (.int .i64 10))) fun v10 h10 =>
  condA v10
  (bnd (pu h10 (fieldAddrV 5 v0)) fun v11 h11 =>
  bnd (pu h11 (loadV G false 1 v11 h11)) fun v12 h12 =>
  bnd (pu h12 (bin Tryd.prog .shl 48 false x1 v12)) fun v13 h13 =>
  finV [v13, (.bool true)] h.length h13)
  (bnd (pu h10 (fieldAddrV 0 v0)) fun v14 h14 =>
  bnd (pu h14 (loadV G false 1 v14 h14)) fun v15 h15 =>
  bnd (pu h15 (bin Tryd.prog .eql 3 true v15 (.int .i64 11))) fun v16 h16 =>
  condA v16
  (bnd (pu h16 (fieldAddrV 5 v0)) fun v17 h17 =>
  bnd (pu h17 (loadV G false 1 v17 h17)) fun v18 h18 =>
  bnd (pu h18 (bin Tryd.prog .shr 48 false x1 v18)) fun v19 h19 =>
  finV [v19, (.bool true)] h.length h19)
  (bnd (pu h16 (convInt .i64 x1)) fun v20 h20 =>
  bnd (pu h20 (fieldAddrV 5 v0)) fun v21 h21 =>
  bnd (pu h21 (loadV G false 1 v21 h21)) fun v22 h22 =>
  bnd (pu h22 (bin Tryd.prog .shr 2 false v20 v22)) fun v23 h23 =>
  bnd (pu h23 (convInt .u64 v23)) fun v24 h24 =>
  finV [v24, (.bool true)] h.length h24))))
noncomputable def words_shifted.f (G : Globs) : Nat → Den
  | 0 => fun _ _ => none
  | k + 1 => fun args h => arg2 args fun x0 x1 => (words_shifted.c G k (words_shifted.f G k) x0 x1 h)
theorem words_shifted.step (G : Globs) (k : Nat) (x0 x1 : AV) (h : AHeap) : words_shifted.f G (k + 1) [x0, x1] h = words_shifted.c G k (words_shifted.f G k) x0 x1 h := rfl
/-! alembic/words.bit: function 51 -/
noncomputable def words_bit.ann : Ann := mkAnn [] [] [] []
noncomputable def words_bit.env (G : Globs) (k : Nat) (self : Den) : List (Nat × Bool × Den) := []
noncomputable def words_bit.c (G : Globs) (k : Nat) (self : Den) (x0 : AV) (h : AHeap) : Option (AV × AHeap) := outV (
  condA x0
  (finV [(.int .u64 1)] h.length h)
  (finV [(.int .u64 0)] h.length h))
noncomputable def words_bit.f (G : Globs) : Nat → Den
  | 0 => fun _ _ => none
  | k + 1 => fun args h => arg1 args fun x0 => (words_bit.c G k (words_bit.f G k) x0 h)
theorem words_bit.step (G : Globs) (k : Nat) (x0 : AV) (h : AHeap) : words_bit.f G (k + 1) [x0] h = words_bit.c G k (words_bit.f G k) x0 h := rfl
/-! alembic/words.Value: function 24 -/
noncomputable def words_Value.ann : Ann := mkAnn [] [] [] [(24, [1, 2, 3, 4, 13, 61])]
noncomputable def words_Value.env (G : Globs) (k : Nat) (self : Den) : List (Nat × Bool × Den) := [(49, true, math_bits_Mul64.f G k), (50, true, words_shifted.f G k), (51, true, words_bit.f G k)]
noncomputable def words_Value.c (G : Globs) (k : Nat) (self : Den) (x0 x1 x2 x3 : AV) (h : AHeap) : Option (AV × AHeap) := outV (
  bnd (boxRoA x0 h) fun v0 h0 =>
  bnd (pu h0 (fieldAddrV 0 v0)) fun v1 h1 =>
  bnd (pu h1 (loadV G false 1 v1 h1)) fun v2 h2 =>
  bnd (pu h2 (bin Tryd.prog .eql 3 true v2 (.int .i64 1))) fun v3 h3 =>
  condA v3
  (bnd (pu h3 (fieldAddrV 5 v0)) fun v4 h4 =>
  bnd (pu h4 (loadV G false 1 v4 h4)) fun v5 h5 =>
  bnd (pu h5 (convInt .u64 v5)) fun v6 h6 =>
  finV [v6, (.bool true)] h.length h6)
  (bnd (pu h3 (bin Tryd.prog .eql 3 true v2 (.int .i64 2))) fun v7 h7 =>
  condA v7
  (finV [x1, (.bool true)] h.length h7)
  (bnd (pu h7 (bin Tryd.prog .eql 3 true v2 (.int .i64 3))) fun v8 h8 =>
  condA v8
  (bnd (pu h8 (bin Tryd.prog .add 48 false x1 x2)) fun v9 h9 =>
  finV [v9, (.bool true)] h.length h9)
  (bnd (pu h8 (bin Tryd.prog .eql 3 true v2 (.int .i64 4))) fun v10 h10 =>
  condA v10
  (bnd (pu h10 (bin Tryd.prog .sub 48 false x1 x2)) fun v11 h11 =>
  finV [v11, (.bool true)] h.length h11)
  (bnd (pu h10 (bin Tryd.prog .eql 3 true v2 (.int .i64 5))) fun v12 h12 =>
  condA v12
  (bnd (pu h12 (bin Tryd.prog .mul 48 false x1 x2)) fun v13 h13 =>
  finV [v13, (.bool true)] h.length h13)
  (bnd (pu h12 (bin Tryd.prog .eql 3 true v2 (.int .i64 6))) fun v14 h14 =>
  condA v14
  (bnd (pureCall (math_bits_Mul64.f G k) [x1, x2] h14) fun v15 h15 =>
  bnd (pu h15 (extractA v15 0)) fun v16 h16 =>
  bnd (pu h16 (extractA v15 1)) fun v17 h17 =>
  finV [v16, (.bool true)] h.length h17)
  (bnd (pu h14 (bin Tryd.prog .eql 3 true v2 (.int .i64 7))) fun v18 h18 =>
  condA v18
  (bnd (pu h18 (bin Tryd.prog .and 48 false x1 x2)) fun v19 h19 =>
  finV [v19, (.bool true)] h.length h19)
  (bnd (pu h18 (bin Tryd.prog .eql 3 true v2 (.int .i64 8))) fun v20 h20 =>
  condA v20
  (bnd (pu h20 (bin Tryd.prog .or 48 false x1 x2)) fun v21 h21 =>
  finV [v21, (.bool true)] h.length h21)
  (bnd (pu h20 (bin Tryd.prog .eql 3 true v2 (.int .i64 9))) fun v22 h22 =>
  condA v22
  (bnd (pu h22 (bin Tryd.prog .xor 48 false x1 x2)) fun v23 h23 =>
  finV [v23, (.bool true)] h.length h23)
  (thenK (
  bnd (pu h22 (bin Tryd.prog .eql 3 true v2 (.int .i64 10))) fun v24 h24 =>
  condA v24
  (some (.normal, [x1, x2, x3, v0, v2, v24], h24))
  (bnd (pu h24 (bin Tryd.prog .eql 3 true v2 (.int .i64 11))) fun v25 h25 =>
  condA v25
  (some (.normal, [x1, x2, x3, v0, v2, v25], h25))
  (bnd (pu h25 (bin Tryd.prog .eql 3 true v2 (.int .i64 12))) fun v26 h26 =>
  some (.normal, [x1, x2, x3, v0, v2, v26], h26)))) fun e27 x27 h27 => exK e27
  (condA (nth x27 5)
  (bnd (pu h27 (loadV G true 6 (nth x27 3) h27)) fun v28 h28 =>
  bnd (pureCall (words_shifted.f G k) [v28, (nth x27 0)] h28) fun v29 h29 =>
  bnd (pu h29 (extractA v29 0)) fun v30 h30 =>
  bnd (pu h30 (extractA v29 1)) fun v31 h31 =>
  finV [v30, v31] h.length h31)
  (bnd (pu h27 (bin Tryd.prog .eql 3 true (nth x27 4) (.int .i64 13))) fun v32 h32 =>
  condA v32
  (bnd (pu h32 (bin Tryd.prog .lss 48 false (nth x27 0) (nth x27 1))) fun v33 h33 =>
  bnd (pureCall (words_bit.f G k) [v33] h33) fun v34 h34 =>
  finV [v34, (.bool true)] h.length h34)
  (bnd (pu h32 (bin Tryd.prog .eql 3 true (nth x27 4) (.int .i64 14))) fun v35 h35 =>
  condA v35
  (bnd (pu h35 (bin Tryd.prog .neq 48 true (nth x27 0) (.int .u64 0))) fun v36 h36 =>
  condA v36
  (finV [(nth x27 1), (.bool true)] h.length h36)
  (finV [(nth x27 2), (.bool true)] h.length h36))
  (finV [(.int .u64 0), (.bool false)] h.length h35))))
  (fun i27 => if i27 = 0 then (finV [(.int .u64 0), (.bool false)] h.length h27) else (none))
  (finV [.undef, .undef] h.length h27)))))))))))
noncomputable def words_Value.f (G : Globs) : Nat → Den
  | 0 => fun _ _ => none
  | k + 1 => fun args h => arg4 args fun x0 x1 x2 x3 => (words_Value.c G k (words_Value.f G k) x0 x1 x2 x3 h)
theorem words_Value.step (G : Globs) (k : Nat) (x0 x1 x2 x3 : AV) (h : AHeap) : words_Value.f G (k + 1) [x0, x1, x2, x3] h = words_Value.c G k (words_Value.f G k) x0 x1 x2 x3 h := rfl
/-! (*alembic/words.run).touch: function 88 -/
noncomputable def words_run_touch.ann : Ann := mkAnn [] [] [] []
noncomputable def words_run_touch.env (G : Globs) (k : Nat) (self : Den) : List (Nat × Bool × Den) := [(73, false, words_run_leak.f G k)]
noncomputable def words_run_touch.c (G : Globs) (k : Nat) (self : Den) (x0 x1 : AV) (h : AHeap) : Option (AV × AHeap) := outV (
  bnd (boxRoA x1 h) fun v0 h0 =>
  bnd (pu h0 (nilA x0)) fun v1 h1 =>
  bnd (pu h1 (fieldAddrV 3 v1)) fun v2 h2 =>
  bnd (pu h2 (loadV G false 1 v2 h2)) fun v3 h3 =>
  bnd (pu h3 (fieldAddrV 2 v0)) fun v4 h4 =>
  bnd (pu h4 (loadV G false 1 v4 h4)) fun v5 h5 =>
  bnd (pu h5 (idxAddrSl 1 v3 v5)) fun v6 h6 =>
  bnd (pu h6 (loadV G false 1 v6 h6)) fun v7 h7 =>
  bnd (pu h7 (fieldAddrV 5 v0)) fun v8 h8 =>
  bnd (pu h8 (loadV G false 1 v8 h8)) fun v9 h9 =>
  bnd (pu h9 (convInt .u64 v9)) fun v10 h10 =>
  bnd (pu h10 (bin Tryd.prog .add 48 false v7 v10)) fun v11 h11 =>
  bnd (pu h11 (convInt .i64 v11)) fun v12 h12 =>
  bnd (heapCall (words_run_leak.f G k) [x0, (.int .i64 3), v12] h12) fun v13 h13 =>
  bnd (pu h13 (nilA x0)) fun v14 h14 =>
  bnd (pu h14 (fieldAddrV 5 v14)) fun v15 h15 =>
  bnd (pu h15 (fieldAddrV 1 v15)) fun v16 h16 =>
  bnd (pu h16 (loadV G false 1 v16 h16)) fun v17 h17 =>
  bnd (pu h17 (lenSl v17)) fun v18 h18 =>
  bnd (pu h18 (convInt .u64 v18)) fun v19 h19 =>
  bnd (pu h19 (bin Tryd.prog .geq 48 false v11 v19)) fun v20 h20 =>
  condA v20
  (bnd (pu h20 (nilA x0)) fun v21 h21 =>
  bnd (pu h21 (fieldAddrV 5 v21)) fun v22 h22 =>
  bnd (pu h22 (fieldAddrV 0 v22)) fun v23 h23 =>
  bnd (stS (storeV 1 v23 (.int .i64 3) h23)) fun v24 h24 =>
  finV [(.bool false)] h.length h24)
  (bnd (pu h20 (fieldAddrV 0 v0)) fun v25 h25 =>
  bnd (pu h25 (loadV G false 1 v25 h25)) fun v26 h26 =>
  bnd (pu h26 (bin Tryd.prog .eql 3 true v26 (.int .i64 15))) fun v27 h27 =>
  condA v27
  (bnd (pu h27 (nilA x0)) fun v28 h28 =>
  bnd (pu h28 (fieldAddrV 3 v28)) fun v29 h29 =>
  bnd (pu h29 (loadV G false 1 v29 h29)) fun v30 h30 =>
  bnd (pu h30 (fieldAddrV 1 v0)) fun v31 h31 =>
  bnd (pu h31 (loadV G false 1 v31 h31)) fun v32 h32 =>
  bnd (pu h32 (nilA x0)) fun v33 h33 =>
  bnd (pu h33 (fieldAddrV 5 v33)) fun v34 h34 =>
  bnd (pu h34 (fieldAddrV 1 v34)) fun v35 h35 =>
  bnd (pu h35 (loadV G false 1 v35 h35)) fun v36 h36 =>
  bnd (pu h36 (idxAddrSl 1 v36 v11)) fun v37 h37 =>
  bnd (pu h37 (loadV G false 1 v37 h37)) fun v38 h38 =>
  bnd (pu h38 (idxAddrSl 1 v30 v32)) fun v39 h39 =>
  bnd (stS (storeV 1 v39 v38 h39)) fun v40 h40 =>
  finV [(.bool true)] h.length h40)
  (bnd (pu h27 (nilA x0)) fun v41 h41 =>
  bnd (pu h41 (fieldAddrV 5 v41)) fun v42 h42 =>
  bnd (pu h42 (fieldAddrV 1 v42)) fun v43 h43 =>
  bnd (pu h43 (loadV G false 1 v43 h43)) fun v44 h44 =>
  bnd (pu h44 (nilA x0)) fun v45 h45 =>
  bnd (pu h45 (fieldAddrV 3 v45)) fun v46 h46 =>
  bnd (pu h46 (loadV G false 1 v46 h46)) fun v47 h47 =>
  bnd (pu h47 (fieldAddrV 3 v0)) fun v48 h48 =>
  bnd (pu h48 (loadV G false 1 v48 h48)) fun v49 h49 =>
  bnd (pu h49 (idxAddrSl 1 v47 v49)) fun v50 h50 =>
  bnd (pu h50 (loadV G false 1 v50 h50)) fun v51 h51 =>
  bnd (pu h51 (idxAddrSl 1 v44 v11)) fun v52 h52 =>
  bnd (stS (storeV 1 v52 v51 h52)) fun v53 h53 =>
  finV [(.bool true)] h.length h53)))
noncomputable def words_run_touch.f (G : Globs) : Nat → Den
  | 0 => fun _ _ => none
  | k + 1 => fun args h => arg2 args fun x0 x1 => (words_run_touch.c G k (words_run_touch.f G k) x0 x1 h)
theorem words_run_touch.step (G : Globs) (k : Nat) (x0 x1 : AV) (h : AHeap) : words_run_touch.f G (k + 1) [x0, x1] h = words_run_touch.c G k (words_run_touch.f G k) x0 x1 h := rfl
/-! (*alembic/words.run).branch: function 89 -/
noncomputable def words_run_branch.ann : Ann := mkAnn [] [] [] [(5, [0, 3])]
noncomputable def words_run_branch.env (G : Globs) (k : Nat) (self : Den) : List (Nat × Bool × Den) := [(51, true, words_bit.f G k), (73, false, words_run_leak.f G k)]
noncomputable def words_run_branch.c (G : Globs) (k : Nat) (self : Den) (x0 x1 : AV) (h : AHeap) : Option (AV × AHeap) := outV (
  bnd (boxRoA x1 h) fun v0 h0 =>
  thenK (
  bnd (pu h0 (fieldAddrV 0 v0)) fun v1 h1 =>
  bnd (pu h1 (loadV G false 1 v1 h1)) fun v2 h2 =>
  bnd (pu h2 (bin Tryd.prog .neq 3 true v2 (.int .i64 17))) fun v3 h3 =>
  condA v3
  (bnd (pu h3 (nilA x0)) fun v4 h4 =>
  bnd (pu h4 (fieldAddrV 3 v4)) fun v5 h5 =>
  bnd (pu h5 (loadV G false 1 v5 h5)) fun v6 h6 =>
  bnd (pu h6 (fieldAddrV 2 v0)) fun v7 h7 =>
  bnd (pu h7 (loadV G false 1 v7 h7)) fun v8 h8 =>
  bnd (pu h8 (idxAddrSl 1 v6 v8)) fun v9 h9 =>
  bnd (pu h9 (loadV G false 1 v9 h9)) fun v10 h10 =>
  bnd (pu h10 (bin Tryd.prog .eql 48 true v10 (.int .u64 0))) fun v11 h11 =>
  bnd (pu h11 (fieldAddrV 0 v0)) fun v12 h12 =>
  bnd (pu h12 (loadV G false 1 v12 h12)) fun v13 h13 =>
  bnd (pu h13 (bin Tryd.prog .eql 3 true v13 (.int .i64 18))) fun v14 h14 =>
  bnd (pu h14 (bin Tryd.prog .eql 4 false v11 v14)) fun v15 h15 =>
  bnd (pureCall (words_bit.f G k) [v15] h15) fun v16 h16 =>
  bnd (pu h16 (convInt .i64 v16)) fun v17 h17 =>
  bnd (heapCall (words_run_leak.f G k) [x0, (.int .i64 2), v17] h17) fun v18 h18 =>
  bnd (pu h18 (un .not v15)) fun v19 h19 =>
  condA v19
  (some (.ret, [x0, v0], h19))
  (some (.normal, [x0, v0], h19)))
  (some (.normal, [x0, v0], h3))) fun e20 x20 h20 => exK e20
  (bnd (pu h20 (fieldAddrV 5 (nth x20 1))) fun v21 h21 =>
  bnd (pu h21 (loadV G false 1 v21 h21)) fun v22 h22 =>
  bnd (pu h22 (nilA (nth x20 0))) fun v23 h23 =>
  bnd (pu h23 (fieldAddrV 4 v23)) fun v24 h24 =>
  bnd (stS (storeV 1 v24 v22 h24)) fun v25 h25 =>
  finV [] h.length h25)
  (fun i20 => none)
  (finV [] h.length h20))
noncomputable def words_run_branch.f (G : Globs) : Nat → Den
  | 0 => fun _ _ => none
  | k + 1 => fun args h => arg2 args fun x0 x1 => (words_run_branch.c G k (words_run_branch.f G k) x0 x1 h)
theorem words_run_branch.step (G : Globs) (k : Nat) (x0 x1 : AV) (h : AHeap) : words_run_branch.f G (k + 1) [x0, x1] h = words_run_branch.c G k (words_run_branch.f G k) x0 x1 h := rfl
/-! (*alembic/words.run).step: function 74 -/
noncomputable def words_run_step.ann : Ann := mkAnn [] [] [] [(14, [0, 3, 4]), (9, [0, 3, 15, 22]), (5, [0, 3, 15, 16])]
noncomputable def words_run_step.env (G : Globs) (k : Nat) (self : Den) : List (Nat × Bool × Den) := [(24, true, words_Value.f G k), (88, false, words_run_touch.f G k), (89, false, words_run_branch.f G k)]
noncomputable def words_run_step.c (G : Globs) (k : Nat) (self : Den) (x0 x1 : AV) (h : AHeap) : Option (AV × AHeap) := outV (
  bnd (boxRoA x1 h) fun v0 h0 =>
  bnd (pu h0 (nilA x0)) fun v1 h1 =>
  bnd (pu h1 (fieldAddrV 4 v1)) fun v2 h2 =>
  bnd (pu h2 (loadV G false 1 v2 h2)) fun v3 h3 =>
  bnd (pu h3 (bin Tryd.prog .add 3 true v3 (.int .i64 1))) fun v4 h4 =>
  bnd (pu h4 (nilA x0)) fun v5 h5 =>
  bnd (pu h5 (fieldAddrV 4 v5)) fun v6 h6 =>
  bnd (stS (storeV 1 v6 v4 h6)) fun v7 h7 =>
  thenK (
  bnd (pu h7 (fieldAddrV 0 v0)) fun v8 h8 =>
  bnd (pu h8 (loadV G false 1 v8 h8)) fun v9 h9 =>
  thenK (
  bnd (pu h9 (bin Tryd.prog .eql 3 true v9 (.int .i64 15))) fun v10 h10 =>
  condA v10
  (some (.normal, [x0, v0, v9, v10], h10))
  (bnd (pu h10 (bin Tryd.prog .eql 3 true v9 (.int .i64 16))) fun v11 h11 =>
  some (.normal, [x0, v0, v9, v11], h11))) fun e12 x12 h12 => exK e12
  (condA (nth x12 3)
  (bnd (pu h12 (loadV G true 6 (nth x12 1) h12)) fun v13 h13 =>
  bnd (heapCall (words_run_touch.f G k) [(nth x12 0), v13] h13) fun v14 h14 =>
  some (.ret, [(nth x12 0), (nth x12 1), v14], h14))
  (thenK (
  bnd (pu h12 (bin Tryd.prog .eql 3 true (nth x12 2) (.int .i64 17))) fun v15 h15 =>
  condA v15
  (some (.normal, [(nth x12 0), (nth x12 1), (nth x12 2), v15], h15))
  (bnd (pu h15 (bin Tryd.prog .eql 3 true (nth x12 2) (.int .i64 18))) fun v16 h16 =>
  condA v16
  (some (.normal, [(nth x12 0), (nth x12 1), (nth x12 2), v16], h16))
  (bnd (pu h16 (bin Tryd.prog .eql 3 true (nth x12 2) (.int .i64 19))) fun v17 h17 =>
  some (.normal, [(nth x12 0), (nth x12 1), (nth x12 2), v17], h17)))) fun e18 x18 h18 => exK e18
  (condA (nth x18 3)
  (bnd (pu h18 (loadV G true 6 (nth x18 1) h18)) fun v19 h19 =>
  bnd (heapCall (words_run_branch.f G k) [(nth x18 0), v19] h19) fun v20 h20 =>
  some (.ret, [(nth x18 0), (nth x18 1), (.bool true)], h20))
  (bnd (pu h18 (bin Tryd.prog .eql 3 true (nth x18 2) (.int .i64 20))) fun v21 h21 =>
  condA v21
  (bnd (pu h21 (fieldAddrV 5 (nth x18 1))) fun v22 h22 =>
  bnd (pu h22 (loadV G false 1 v22 h22)) fun v23 h23 =>
  bnd (pu h23 (nilA (nth x18 0))) fun v24 h24 =>
  bnd (pu h24 (fieldAddrV 5 v24)) fun v25 h25 =>
  bnd (pu h25 (fieldAddrV 0 v25)) fun v26 h26 =>
  bnd (stS (storeV 1 v26 v23 h26)) fun v27 h27 =>
  some (.ret, [(nth x18 0), (nth x18 1), (.bool false)], h27))
  (some (.normal, [(nth x18 0), (nth x18 1), .undef], h21))))
  (fun i18 => if i18 = 0 then (some (.normal, [(nth x18 0), (nth x18 1), .undef], h18)) else (some (.exit i18, [(nth x18 0), (nth x18 1), .undef], h18)))
  (some (.ret, [(nth x18 0), (nth x18 1), .undef], h18))))
  (fun i12 => if i12 = 0 then (some (.normal, [(nth x12 0), (nth x12 1), .undef], h12)) else (some (.exit i12, [(nth x12 0), (nth x12 1), .undef], h12)))
  (some (.ret, [(nth x12 0), (nth x12 1), .undef], h12))) fun e28 x28 h28 => exK e28
  (bnd (pu h28 (loadV G true 6 (nth x28 1) h28)) fun v29 h29 =>
  bnd (pu h29 (nilA (nth x28 0))) fun v30 h30 =>
  bnd (pu h30 (fieldAddrV 3 v30)) fun v31 h31 =>
  bnd (pu h31 (loadV G false 1 v31 h31)) fun v32 h32 =>
  bnd (pu h32 (fieldAddrV 2 (nth x28 1))) fun v33 h33 =>
  bnd (pu h33 (loadV G false 1 v33 h33)) fun v34 h34 =>
  bnd (pu h34 (idxAddrSl 1 v32 v34)) fun v35 h35 =>
  bnd (pu h35 (loadV G false 1 v35 h35)) fun v36 h36 =>
  bnd (pu h36 (nilA (nth x28 0))) fun v37 h37 =>
  bnd (pu h37 (fieldAddrV 3 v37)) fun v38 h38 =>
  bnd (pu h38 (loadV G false 1 v38 h38)) fun v39 h39 =>
  bnd (pu h39 (fieldAddrV 3 (nth x28 1))) fun v40 h40 =>
  bnd (pu h40 (loadV G false 1 v40 h40)) fun v41 h41 =>
  bnd (pu h41 (idxAddrSl 1 v39 v41)) fun v42 h42 =>
  bnd (pu h42 (loadV G false 1 v42 h42)) fun v43 h43 =>
  bnd (pu h43 (nilA (nth x28 0))) fun v44 h44 =>
  bnd (pu h44 (fieldAddrV 3 v44)) fun v45 h45 =>
  bnd (pu h45 (loadV G false 1 v45 h45)) fun v46 h46 =>
  bnd (pu h46 (fieldAddrV 4 (nth x28 1))) fun v47 h47 =>
  bnd (pu h47 (loadV G false 1 v47 h47)) fun v48 h48 =>
  bnd (pu h48 (idxAddrSl 1 v46 v48)) fun v49 h49 =>
  bnd (pu h49 (loadV G false 1 v49 h49)) fun v50 h50 =>
  bnd (pureCall (words_Value.f G k) [v29, v36, v43, v50] h50) fun v51 h51 =>
  bnd (pu h51 (extractA v51 0)) fun v52 h52 =>
  bnd (pu h52 (extractA v51 1)) fun v53 h53 =>
  condA v53
  (bnd (pu h53 (nilA (nth x28 0))) fun v54 h54 =>
  bnd (pu h54 (fieldAddrV 3 v54)) fun v55 h55 =>
  bnd (pu h55 (loadV G false 1 v55 h55)) fun v56 h56 =>
  bnd (pu h56 (fieldAddrV 1 (nth x28 1))) fun v57 h57 =>
  bnd (pu h57 (loadV G false 1 v57 h57)) fun v58 h58 =>
  bnd (pu h58 (idxAddrSl 1 v56 v58)) fun v59 h59 =>
  bnd (stS (storeV 1 v59 v52 h59)) fun v60 h60 =>
  finV [(.bool true)] h.length h60)
  (finV [(.bool true)] h.length h53))
  (fun i28 => none)
  (finV [(nth x28 2)] h.length h28))
noncomputable def words_run_step.f (G : Globs) : Nat → Den
  | 0 => fun _ _ => none
  | k + 1 => fun args h => arg2 args fun x0 x1 => (words_run_step.c G k (words_run_step.f G k) x0 x1 h)
theorem words_run_step.step (G : Globs) (k : Nat) (x0 x1 : AV) (h : AHeap) : words_run_step.f G (k + 1) [x0, x1] h = words_run_step.c G k (words_run_step.f G k) x0 x1 h := rfl
/-! alembic/span.Sum: function 52 -/
noncomputable def span_Sum.ann : Ann := mkAnn [] [] [] []
noncomputable def span_Sum.env (G : Globs) (k : Nat) (self : Den) : List (Nat × Bool × Den) := []
noncomputable def span_Sum.c (G : Globs) (k : Nat) (self : Den) (x0 x1 : AV) (h : AHeap) : Option (AV × AHeap) := outV (
  bnd (pu h (bin Tryd.prog .add 2 false x0 x1)) fun v0 h0 =>
  bnd (pu h0 (bin Tryd.prog .gtr 2 false v0 x0)) fun v1 h1 =>
  bnd (pu h1 (bin Tryd.prog .gtr 2 true x1 (.int .i64 0))) fun v2 h2 =>
  bnd (pu h2 (bin Tryd.prog .neq 4 false v1 v2)) fun v3 h3 =>
  bnd (gd v3 true h3 (some (x1, h3))) fun v4 h4 =>
  bnd (gd v3 true h4 (pu h4 (bin Tryd.prog .neq 2 true v4 (.int .i64 0)))) fun v5 h5 =>
  bnd (pu h5 (pickA v3 v5 (.bool false))) fun v6 h6 =>
  condA v6
  (finV [(.int .i64 0), (.bool false)] h.length h6)
  (finV [v0, (.bool true)] h.length h6))
noncomputable def span_Sum.f (G : Globs) : Nat → Den
  | 0 => fun _ _ => none
  | k + 1 => fun args h => arg2 args fun x0 x1 => (span_Sum.c G k (span_Sum.f G k) x0 x1 h)
theorem span_Sum.step (G : Globs) (k : Nat) (x0 x1 : AV) (h : AHeap) : span_Sum.f G (k + 1) [x0, x1] h = span_Sum.c G k (span_Sum.f G k) x0 x1 h := rfl
/-! alembic/span.Less: function 53 -/
noncomputable def span_Less.ann : Ann := mkAnn [] [] [] []
noncomputable def span_Less.env (G : Globs) (k : Nat) (self : Den) : List (Nat × Bool × Den) := []
noncomputable def span_Less.c (G : Globs) (k : Nat) (self : Den) (x0 x1 : AV) (h : AHeap) : Option (AV × AHeap) := outV (
  bnd (pu h (bin Tryd.prog .sub 2 false x0 x1)) fun v0 h0 =>
  bnd (pu h0 (bin Tryd.prog .lss 2 false v0 x0)) fun v1 h1 =>
  bnd (pu h1 (bin Tryd.prog .gtr 2 true x1 (.int .i64 0))) fun v2 h2 =>
  bnd (pu h2 (bin Tryd.prog .neq 4 false v1 v2)) fun v3 h3 =>
  bnd (gd v3 true h3 (some (x1, h3))) fun v4 h4 =>
  bnd (gd v3 true h4 (pu h4 (bin Tryd.prog .neq 2 true v4 (.int .i64 0)))) fun v5 h5 =>
  bnd (pu h5 (pickA v3 v5 (.bool false))) fun v6 h6 =>
  condA v6
  (finV [(.int .i64 0), (.bool false)] h.length h6)
  (finV [v0, (.bool true)] h.length h6))
noncomputable def span_Less.f (G : Globs) : Nat → Den
  | 0 => fun _ _ => none
  | k + 1 => fun args h => arg2 args fun x0 x1 => (span_Less.c G k (span_Less.f G k) x0 x1 h)
theorem span_Less.step (G : Globs) (k : Nat) (x0 x1 : AV) (h : AHeap) : span_Less.f G (k + 1) [x0, x1] h = span_Less.c G k (span_Less.f G k) x0 x1 h := rfl
/-! alembic/span.Product: function 54 -/
noncomputable def span_Product.ann : Ann := mkAnn [] [] [] []
noncomputable def span_Product.env (G : Globs) (k : Nat) (self : Den) : List (Nat × Bool × Den) := []
noncomputable def span_Product.c (G : Globs) (k : Nat) (self : Den) (x0 x1 : AV) (h : AHeap) : Option (AV × AHeap) := outV (
  bnd (pu h (bin Tryd.prog .eql 2 true x0 (.int .i64 0))) fun v0 h0 =>
  bnd (gd v0 false h0 (some (x1, h0))) fun v1 h1 =>
  bnd (gd v0 false h1 (pu h1 (bin Tryd.prog .eql 2 true v1 (.int .i64 0)))) fun v2 h2 =>
  bnd (pu h2 (pickA v0 (.bool true) v2)) fun v3 h3 =>
  condA v3
  (finV [(.int .i64 0), (.bool true)] h.length h3)
  (bnd (pu h3 (bin Tryd.prog .eql 2 true x0 (.int .i64 (-1)))) fun v4 h4 =>
  bnd (gd v4 true h4 (some (x1, h4))) fun v5 h5 =>
  bnd (gd v4 true h5 (pu h5 (bin Tryd.prog .eql 2 true v5 (.int .i64 (-9223372036854775808))))) fun v6 h6 =>
  bnd (pu h6 (pickA v4 v6 (.bool false))) fun v7 h7 =>
  bnd (gd v7 false h7 (some (x1, h7))) fun v8 h8 =>
  bnd (gd v7 false h8 (pu h8 (bin Tryd.prog .eql 2 true v8 (.int .i64 (-1))))) fun v9 h9 =>
  bnd (gd v7 false h9 (some (v9, h9))) fun v10 h10 =>
  bnd (gd v10 true h10 (some (x0, h10))) fun v11 h11 =>
  bnd (gd v10 true h11 (pu h11 (bin Tryd.prog .eql 2 true v11 (.int .i64 (-9223372036854775808))))) fun v12 h12 =>
  bnd (gd v7 false h12 (pu h12 (pickA v10 v12 (.bool false)))) fun v13 h13 =>
  bnd (pu h13 (pickA v7 (.bool true) v13)) fun v14 h14 =>
  condA v14
  (finV [(.int .i64 0), (.bool false)] h.length h14)
  (bnd (pu h14 (bin Tryd.prog .mul 2 false x0 x1)) fun v15 h15 =>
  bnd (pu h15 (bin Tryd.prog .quo 2 false v15 x1)) fun v16 h16 =>
  bnd (pu h16 (bin Tryd.prog .eql 2 false v16 x0)) fun v17 h17 =>
  condA v17
  (finV [v15, (.bool true)] h.length h17)
  (finV [(.int .i64 0), (.bool false)] h.length h17))))
noncomputable def span_Product.f (G : Globs) : Nat → Den
  | 0 => fun _ _ => none
  | k + 1 => fun args h => arg2 args fun x0 x1 => (span_Product.c G k (span_Product.f G k) x0 x1 h)
theorem span_Product.step (G : Globs) (k : Nat) (x0 x1 : AV) (h : AHeap) : span_Product.f G (k + 1) [x0, x1] h = span_Product.c G k (span_Product.f G k) x0 x1 h := rfl
/-! alembic/bound.shl: function 55 -/
noncomputable def bound_shl.ann : Ann := mkAnn [] [] [] []
noncomputable def bound_shl.env (G : Globs) (k : Nat) (self : Den) : List (Nat × Bool × Den) := []
noncomputable def bound_shl.c (G : Globs) (k : Nat) (self : Den) (x0 x1 : AV) (h : AHeap) : Option (AV × AHeap) := outV (
  bnd (pu h (bin Tryd.prog .lss 2 true x1 (.int .i64 0))) fun v0 h0 =>
  bnd (gd v0 false h0 (some (x1, h0))) fun v1 h1 =>
  bnd (gd v0 false h1 (pu h1 (bin Tryd.prog .gtr 2 true v1 (.int .i64 63)))) fun v2 h2 =>
  bnd (pu h2 (pickA v0 (.bool true) v2)) fun v3 h3 =>
  condA v3
  (finV [(.int .i64 0), (.bool false)] h.length h3)
  (bnd (pu h3 (bin Tryd.prog .shl 2 false x0 x1)) fun v4 h4 =>
  bnd (pu h4 (bin Tryd.prog .shr 2 false v4 x1)) fun v5 h5 =>
  bnd (pu h5 (bin Tryd.prog .neq 2 false v5 x0)) fun v6 h6 =>
  condA v6
  (finV [(.int .i64 0), (.bool false)] h.length h6)
  (finV [v4, (.bool true)] h.length h6)))
noncomputable def bound_shl.f (G : Globs) : Nat → Den
  | 0 => fun _ _ => none
  | k + 1 => fun args h => arg2 args fun x0 x1 => (bound_shl.c G k (bound_shl.f G k) x0 x1 h)
theorem bound_shl.step (G : Globs) (k : Nat) (x0 x1 : AV) (h : AHeap) : bound_shl.f G (k + 1) [x0, x1] h = bound_shl.c G k (bound_shl.f G k) x0 x1 h := rfl
/-! alembic/bound.Exact: function 28 -/
noncomputable def bound_Exact.ann : Ann := mkAnn [] [] [] []
noncomputable def bound_Exact.env (G : Globs) (k : Nat) (self : Den) : List (Nat × Bool × Den) := [(52, true, span_Sum.f G k), (53, true, span_Less.f G k), (54, true, span_Product.f G k), (55, true, bound_shl.f G k)]
noncomputable def bound_Exact.c (G : Globs) (k : Nat) (self : Den) (x0 x1 x2 : AV) (h : AHeap) : Option (AV × AHeap) := outV (
  bnd (boxRoA x0 h) fun v0 h0 =>
  bnd (pu h0 (convInt .i64 x1)) fun v1 h1 =>
  bnd (pu h1 (convInt .i64 x2)) fun v2 h2 =>
  bnd (pu h2 (fieldAddrV 0 v0)) fun v3 h3 =>
  bnd (pu h3 (loadV G false 1 v3 h3)) fun v4 h4 =>
  bnd (pu h4 (bin Tryd.prog .eql 3 true v4 (.int .i64 3))) fun v5 h5 =>
  condA v5
  (bnd (pureCall (span_Sum.f G k) [v1, v2] h5) fun v6 h6 =>
  bnd (pu h6 (extractA v6 0)) fun v7 h7 =>
  bnd (pu h7 (extractA v6 1)) fun v8 h8 =>
  finV [v7, v8] h.length h8)
  (bnd (pu h5 (bin Tryd.prog .eql 3 true v4 (.int .i64 4))) fun v9 h9 =>
  condA v9
  (bnd (pureCall (span_Less.f G k) [v1, v2] h9) fun v10 h10 =>
  bnd (pu h10 (extractA v10 0)) fun v11 h11 =>
  bnd (pu h11 (extractA v10 1)) fun v12 h12 =>
  finV [v11, v12] h.length h12)
  (bnd (pu h9 (bin Tryd.prog .eql 3 true v4 (.int .i64 5))) fun v13 h13 =>
  condA v13
  (bnd (pureCall (span_Product.f G k) [v1, v2] h13) fun v14 h14 =>
  bnd (pu h14 (extractA v14 0)) fun v15 h15 =>
  bnd (pu h15 (extractA v14 1)) fun v16 h16 =>
  finV [v15, v16] h.length h16)
  (bnd (pu h13 (bin Tryd.prog .eql 3 true v4 (.int .i64 10))) fun v17 h17 =>
  condA v17
  (bnd (pu h17 (fieldAddrV 5 v0)) fun v18 h18 =>
  bnd (pu h18 (loadV G false 1 v18 h18)) fun v19 h19 =>
  bnd (pureCall (bound_shl.f G k) [v1, v19] h19) fun v20 h20 =>
  bnd (pu h20 (extractA v20 0)) fun v21 h21 =>
  bnd (pu h21 (extractA v20 1)) fun v22 h22 =>
  finV [v21, v22] h.length h22)
  (finV [(.int .i64 0), (.bool false)] h.length h17)))))
noncomputable def bound_Exact.f (G : Globs) : Nat → Den
  | 0 => fun _ _ => none
  | k + 1 => fun args h => arg3 args fun x0 x1 x2 => (bound_Exact.c G k (bound_Exact.f G k) x0 x1 x2 h)
theorem bound_Exact.step (G : Globs) (k : Nat) (x0 x1 x2 : AV) (h : AHeap) : bound_Exact.f G (k + 1) [x0, x1, x2] h = bound_Exact.c G k (bound_Exact.f G k) x0 x1 x2 h := rfl
/-! alembic/bound.asked: function 61 -/
noncomputable def bound_asked.ann : Ann := mkAnn [] [] [] []
noncomputable def bound_asked.env (G : Globs) (k : Nat) (self : Den) : List (Nat × Bool × Den) := []
noncomputable def bound_asked.c (G : Globs) (k : Nat) (self : Den) (x0 : AV) (h : AHeap) : Option (AV × AHeap) := outV (
  bnd (pu h (bin Tryd.prog .eql 3 true x0 (.int .i64 3))) fun v0 h0 =>
  bnd (gd v0 false h0 (some (x0, h0))) fun v1 h1 =>
  bnd (gd v0 false h1 (pu h1 (bin Tryd.prog .eql 3 true v1 (.int .i64 4)))) fun v2 h2 =>
  bnd (pu h2 (pickA v0 (.bool true) v2)) fun v3 h3 =>
  bnd (gd v3 false h3 (some (x0, h3))) fun v4 h4 =>
  bnd (gd v3 false h4 (pu h4 (bin Tryd.prog .eql 3 true v4 (.int .i64 5)))) fun v5 h5 =>
  bnd (pu h5 (pickA v3 (.bool true) v5)) fun v6 h6 =>
  bnd (gd v6 false h6 (some (x0, h6))) fun v7 h7 =>
  bnd (gd v6 false h7 (pu h7 (bin Tryd.prog .eql 3 true v7 (.int .i64 10)))) fun v8 h8 =>
  bnd (pu h8 (pickA v6 (.bool true) v8)) fun v9 h9 =>
  finV [v9] h.length h9)
noncomputable def bound_asked.f (G : Globs) : Nat → Den
  | 0 => fun _ _ => none
  | k + 1 => fun args h => arg1 args fun x0 => (bound_asked.c G k (bound_asked.f G k) x0 h)
theorem bound_asked.step (G : Globs) (k : Nat) (x0 : AV) (h : AHeap) : bound_asked.f G (k + 1) [x0] h = bound_asked.c G k (bound_asked.f G k) x0 h := rfl
/-! alembic/span.Has: function 62 -/
noncomputable def span_Has.ann : Ann := mkAnn [] [] [] []
noncomputable def span_Has.env (G : Globs) (k : Nat) (self : Den) : List (Nat × Bool × Den) := []
noncomputable def span_Has.c (G : Globs) (k : Nat) (self : Den) (x0 x1 : AV) (h : AHeap) : Option (AV × AHeap) := outV (
  bnd (boxRoA x0 h) fun v0 h0 =>
  bnd (pu h0 (fieldAddrV 0 v0)) fun v1 h1 =>
  bnd (pu h1 (loadV G false 1 v1 h1)) fun v2 h2 =>
  bnd (pu h2 (bin Tryd.prog .leq 2 false v2 x1)) fun v3 h3 =>
  bnd (gd v3 true h3 (some (x1, h3))) fun v4 h4 =>
  bnd (gd v3 true h4 (pu h4 (fieldAddrV 1 v0))) fun v5 h5 =>
  bnd (gd v3 true h5 (pu h5 (loadV G false 1 v5 h5))) fun v6 h6 =>
  bnd (gd v3 true h6 (pu h6 (bin Tryd.prog .leq 2 false v4 v6))) fun v7 h7 =>
  bnd (pu h7 (pickA v3 v7 (.bool false))) fun v8 h8 =>
  finV [v8] h.length h8)
noncomputable def span_Has.f (G : Globs) : Nat → Den
  | 0 => fun _ _ => none
  | k + 1 => fun args h => arg2 args fun x0 x1 => (span_Has.c G k (span_Has.f G k) x0 x1 h)
theorem span_Has.step (G : Globs) (k : Nat) (x0 x1 : AV) (h : AHeap) : span_Has.f G (k + 1) [x0, x1] h = span_Has.c G k (span_Has.f G k) x0 x1 h := rfl
/-! alembic/bound.Check$1: function 60 -/
noncomputable def bound_Check_1.ann : Ann := mkAnn [] [] [] [(7, [4])]
noncomputable def bound_Check_1.env (G : Globs) (k : Nat) (self : Den) : List (Nat × Bool × Den) := [(28, true, bound_Exact.f G k), (61, true, bound_asked.f G k), (62, true, span_Has.f G k)]
noncomputable def bound_Check_1.c (G : Globs) (k : Nat) (self : Den) (x0 x1 x2 x3 x4 : AV) (h : AHeap) : Option (AV × AHeap) := outV (
  bnd (pu h (fieldAddrV 0 x2)) fun v0 h0 =>
  bnd (pu h0 (loadV G false 1 v0 h0)) fun v1 h1 =>
  bnd (pu h1 (idxAddrSl 6 v1 x0)) fun v2 h2 =>
  bnd (pu h2 (loadV G true 6 v2 h2)) fun v3 h3 =>
  bnd (boxA 52 (.agg [(.int .i64 0), (.int .i64 0), (.int .i64 0), (.int .i64 0), (.int .i64 0), (.int .i64 0)]) h3) fun v4 h4 =>
  bnd (stS (storeV 6 v4 v3 h4)) fun v5 h5 =>
  bnd (pu h5 (fieldAddrV 0 v4)) fun v6 h6 =>
  bnd (pu h6 (loadV G false 1 v6 h6)) fun v7 h7 =>
  bnd (pureCall (bound_asked.f G k) [v7] h7) fun v8 h8 =>
  bnd (pu h8 (un .not v8)) fun v9 h9 =>
  condA v9
  (finV [(.bool true)] h.length h9)
  (bnd (pu h9 (loadV G true 6 v4 h9)) fun v10 h10 =>
  bnd (pu h10 (fieldAddrV 2 v4)) fun v11 h11 =>
  bnd (pu h11 (loadV G false 1 v11 h11)) fun v12 h12 =>
  bnd (pu h12 (idxAddrSl 1 x1 v12)) fun v13 h13 =>
  bnd (pu h13 (loadV G false 1 v13 h13)) fun v14 h14 =>
  bnd (pu h14 (fieldAddrV 3 v4)) fun v15 h15 =>
  bnd (pu h15 (loadV G false 1 v15 h15)) fun v16 h16 =>
  bnd (pu h16 (idxAddrSl 1 x1 v16)) fun v17 h17 =>
  bnd (pu h17 (loadV G false 1 v17 h17)) fun v18 h18 =>
  bnd (pureCall (bound_Exact.f G k) [v10, v14, v18] h18) fun v19 h19 =>
  bnd (pu h19 (extractA v19 0)) fun v20 h20 =>
  bnd (pu h20 (extractA v19 1)) fun v21 h21 =>
  thenK (
  bnd (pu h21 (un .not v21)) fun v22 h22 =>
  bnd (gd v22 false h22 (pu h22 (loadV G false 1 x3 h22))) fun v23 h23 =>
  bnd (gd v22 false h23 (some (x0, h23))) fun v24 h24 =>
  bnd (gd v22 false h24 (pu h24 (idxAddrSl 2 v23 v24))) fun v25 h25 =>
  bnd (gd v22 false h25 (pu h25 (loadV G true 2 v25 h25))) fun v26 h26 =>
  bnd (gd v22 false h26 (some (v20, h26))) fun v27 h27 =>
  bnd (gd v22 false h27 (pureCall (span_Has.f G k) [v26, v27] h27)) fun v28 h28 =>
  bnd (gd v22 false h28 (pu h28 (un .not v28))) fun v29 h29 =>
  bnd (pu h29 (pickA v22 (.bool true) v29)) fun v30 h30 =>
  condA v30
  (bnd (stS (storeV 1 x4 x0 h30)) fun v31 h31 =>
  some (.normal, [x4], h31))
  (some (.normal, [x4], h30))) fun e32 x32 h32 => exK e32
  (bnd (pu h32 (loadV G false 1 (nth x32 0) h32)) fun v33 h33 =>
  bnd (pu h33 (bin Tryd.prog .lss 3 true v33 (.int .i64 0))) fun v34 h34 =>
  finV [v34] h.length h34)
  (fun i32 => none)
  (finV [.undef] h.length h32)))
noncomputable def bound_Check_1.f (G : Globs) : Nat → Den
  | 0 => fun _ _ => none
  | k + 1 => fun args h => arg5 args fun x0 x1 x2 x3 x4 => (bound_Check_1.c G k (bound_Check_1.f G k) x0 x1 x2 x3 x4 h)
theorem bound_Check_1.step (G : Globs) (k : Nat) (x0 x1 x2 x3 x4 : AV) (h : AHeap) : bound_Check_1.f G (k + 1) [x0, x1, x2, x3, x4] h = bound_Check_1.c G k (bound_Check_1.f G k) x0 x1 x2 x3 x4 h := rfl
/-! alembic/words.Watch: function 45 -/
noncomputable def words_Watch.ann : Ann := mkAnnV [15] [] [(3, [2, 3, 4, 8, 9])] [] [(3, [(9, 7, 96, 2)])] []
noncomputable def words_Watch.env (G : Globs) (k : Nat) (self : Den) : List (Nat × Bool × Den) := [(60, false, bound_Check_1.f G k), (72, false, slices_Clone___uint64uint64_.f G k), (73, false, words_run_leak.f G k), (74, false, words_run_step.f G k)]
noncomputable def words_Watch.l3 (G : Globs) (k n0 : Nat) (self : Den) (lp : LoopF) : LoopF := fun xs h0 => cutK n0 xs h0 fun h =>
  bnd (pu h (nilA (nth xs 4))) fun v14 h14 =>
  bnd (pu h14 (fieldAddrV 4 v14)) fun v15 h15 =>
  bnd (pu h15 (loadV G false 1 v15 h15)) fun v16 h16 =>
  bnd (pu h16 (fieldAddrV 0 (nth xs 2))) fun v17 h17 =>
  bnd (pu h17 (loadV G false 1 v17 h17)) fun v18 h18 =>
  bnd (pu h18 (lenSl v18)) fun v19 h19 =>
  bnd (pu h19 (bin Tryd.prog .geq 3 false v16 v19)) fun v20 h20 =>
  condA v20
  (bnd (pu h20 (nilA (nth xs 4))) fun v21 h21 =>
  bnd (pu h21 (fieldAddrV 5 v21)) fun v22 h22 =>
  bnd (pu h22 (fieldAddrV 0 v22)) fun v23 h23 =>
  bnd (stS (storeV 1 v23 (.int .i64 3) h23)) fun v24 h24 =>
  bnd (pu h24 (nilA (nth xs 4))) fun v25 h25 =>
  bnd (pu h25 (fieldAddrV 5 v25)) fun v26 h26 =>
  bnd (pu h26 (loadV G true 4 v26 h26)) fun v27 h27 =>
  bnd (stS (storeV 4 (nth xs 3) v27 h27)) fun v28 h28 =>
  some (.ret, [(nth xs 0), (nth xs 1), (nth xs 2), (nth xs 3), (nth xs 4)], h28))
  (bnd (pu h20 (nilA (nth xs 4))) fun v29 h29 =>
  bnd (pu h29 (fieldAddrV 5 v29)) fun v30 h30 =>
  bnd (pu h30 (fieldAddrV 3 v30)) fun v31 h31 =>
  bnd (pu h31 (loadV G false 1 v31 h31)) fun v32 h32 =>
  bnd (pu h32 (bin Tryd.prog .eql 2 false v32 (nth xs 0))) fun v33 h33 =>
  condA v33
  (bnd (pu h33 (nilA (nth xs 4))) fun v34 h34 =>
  bnd (pu h34 (fieldAddrV 5 v34)) fun v35 h35 =>
  bnd (pu h35 (fieldAddrV 0 v35)) fun v36 h36 =>
  bnd (stS (storeV 1 v36 (.int .i64 4) h36)) fun v37 h37 =>
  bnd (pu h37 (nilA (nth xs 4))) fun v38 h38 =>
  bnd (pu h38 (fieldAddrV 5 v38)) fun v39 h39 =>
  bnd (pu h39 (loadV G true 4 v39 h39)) fun v40 h40 =>
  bnd (stS (storeV 4 (nth xs 3) v40 h40)) fun v41 h41 =>
  some (.ret, [(nth xs 0), (nth xs 1), (nth xs 2), (nth xs 3), (nth xs 4)], h41))
  (bnd (pu h33 (bin Tryd.prog .neq 107 true (nth xs 1) .nilf)) fun v42 h42 =>
  bnd (gd v42 true h42 (some ((nth xs 1), h42))) fun v43 h43 =>
  bnd (gd v42 true h43 (some ((nth xs 4), h43))) fun v44 h44 =>
  bnd (gd v42 true h44 (pu h44 (nilA v44))) fun v45 h45 =>
  bnd (gd v42 true h45 (pu h45 (fieldAddrV 4 v45))) fun v46 h46 =>
  bnd (gd v42 true h46 (pu h46 (loadV G false 1 v46 h46))) fun v47 h47 =>
  bnd (gd v42 true h47 (some ((nth xs 4), h47))) fun v48 h48 =>
  bnd (gd v42 true h48 (pu h48 (nilA v48))) fun v49 h49 =>
  bnd (gd v42 true h49 (pu h49 (fieldAddrV 3 v49))) fun v50 h50 =>
  bnd (gd v42 true h50 (pu h50 (loadV G false 1 v50 h50))) fun v51 h51 =>
  bnd (gd v42 true h51 (callV (envL (words_Watch.env G k self)) v43 [v47, v51] h51)) fun v52 h52 =>
  bnd (gd v42 true h52 (pu h52 (un .not v52))) fun v53 h53 =>
  bnd (pu h53 (pickA v42 v53 (.bool false))) fun v54 h54 =>
  condA v54
  (bnd (pu h54 (nilA (nth xs 4))) fun v55 h55 =>
  bnd (pu h55 (fieldAddrV 5 v55)) fun v56 h56 =>
  bnd (pu h56 (loadV G true 4 v56 h56)) fun v57 h57 =>
  bnd (stS (storeV 4 (nth xs 3) v57 h57)) fun v58 h58 =>
  some (.ret, [(nth xs 0), (nth xs 1), (nth xs 2), (nth xs 3), (nth xs 4)], h58))
  (bnd (pu h54 (nilA (nth xs 4))) fun v59 h59 =>
  bnd (pu h59 (fieldAddrV 5 v59)) fun v60 h60 =>
  bnd (pu h60 (fieldAddrV 3 v60)) fun v61 h61 =>
  bnd (pu h61 (loadV G false 1 v61 h61)) fun v62 h62 =>
  bnd (pu h62 (bin Tryd.prog .add 2 true v62 (.int .i64 1))) fun v63 h63 =>
  bnd (pu h63 (nilA (nth xs 4))) fun v64 h64 =>
  bnd (pu h64 (fieldAddrV 5 v64)) fun v65 h65 =>
  bnd (pu h65 (fieldAddrV 3 v65)) fun v66 h66 =>
  bnd (stS (storeV 1 v66 v63 h66)) fun v67 h67 =>
  bnd (pu h67 (nilA (nth xs 4))) fun v68 h68 =>
  bnd (pu h68 (fieldAddrV 4 v68)) fun v69 h69 =>
  bnd (pu h69 (loadV G false 1 v69 h69)) fun v70 h70 =>
  bnd (heapCall (words_run_leak.f G k) [(nth xs 4), (.int .i64 1), v70] h70) fun v71 h71 =>
  bnd (pu h71 (fieldAddrV 0 (nth xs 2))) fun v72 h72 =>
  bnd (pu h72 (loadV G false 1 v72 h72)) fun v73 h73 =>
  bnd (pu h73 (nilA (nth xs 4))) fun v74 h74 =>
  bnd (pu h74 (fieldAddrV 4 v74)) fun v75 h75 =>
  bnd (pu h75 (loadV G false 1 v75 h75)) fun v76 h76 =>
  bnd (pu h76 (idxAddrSl 6 v73 v76)) fun v77 h77 =>
  bnd (pu h77 (loadV G true 6 v77 h77)) fun v78 h78 =>
  bnd (heapCall (words_run_step.f G k) [(nth xs 4), v78] h78) fun v79 h79 =>
  bnd (pu h79 (un .not v79)) fun v80 h80 =>
  condA v80
  (bnd (pu h80 (nilA (nth xs 4))) fun v81 h81 =>
  bnd (pu h81 (fieldAddrV 5 v81)) fun v82 h82 =>
  bnd (pu h82 (loadV G true 4 v82 h82)) fun v83 h83 =>
  bnd (stS (storeV 4 (nth xs 3) v83 h83)) fun v84 h84 =>
  some (.ret, [(nth xs 0), (nth xs 1), (nth xs 2), (nth xs 3), (nth xs 4)], h84))
  (lp [(nth xs 0), (nth xs 1), (nth xs 2), (nth xs 3), (nth xs 4)] h80))))
noncomputable def words_Watch.c (G : Globs) (k : Nat) (self : Den) (x0 x1 x2 x3 : AV) (h : AHeap) : Option (AV × AHeap) := outV (
  bnd (boxRoA x0 h) fun v0 h0 =>
  bnd (boxA 40 (.agg [(.int .i64 0), .nils, .nils, (.int .i64 0)]) h0) fun v1 h1 =>
  bnd (pu h1 (loadV G true 3 v0 h1)) fun v2 h2 =>
  bnd (pu h2 (fieldAddrV 1 v0)) fun v3 h3 =>
  bnd (pu h3 (loadV G false 1 v3 h3)) fun v4 h4 =>
  bnd (makeSliceV 48 1 (.int .u64 0) v4 v4 h4) fun v5 h5 =>
  bnd (pu h5 (buildSt [(0, 3), (3, 1), (4, 1), (5, 4)] [.nils, (.int .i64 0), (.int .i64 0), .nils, (.int .i64 0), (.int .i64 0), .nils, .nils, (.int .i64 0)] [(0, v2), (1, v5)])) fun v6 h6 =>
  bnd (boxA 126 v6 h6) fun v7 h7 =>
  bnd (heapCall (slices_Clone___uint64uint64_.f G k) [x1] h7) fun v8 h8 =>
  bnd (pu h8 (nilA v7)) fun v9 h9 =>
  bnd (pu h9 (fieldAddrV 5 v9)) fun v10 h10 =>
  bnd (pu h10 (fieldAddrV 1 v10)) fun v11 h11 =>
  bnd (stS (storeV 1 v11 v8 h11)) fun v12 h12 =>
  vK [(v7, 7, 96, 2)] h12 fun hv13 =>
  thenK (loopN (words_Watch.l3 G k hv13.length self) k [x2, x3, v0, v1, v7] hv13) fun e13 x13 h13 => exK e13
  (finL [loadV G true 4 (nth x13 3) h13] h.length h13)
  (fun i13 => if i13 = 0 then (finL [loadV G true 4 (nth x13 3) h13] h.length h13) else (none))
  (finL [loadV G true 4 (nth x13 3) h13] h.length h13))
noncomputable def words_Watch.f (G : Globs) : Nat → Den
  | 0 => fun _ _ => none
  | k + 1 => fun args h => arg4 args fun x0 x1 x2 x3 => (words_Watch.c G k (words_Watch.f G k) x0 x1 x2 x3 h)
theorem words_Watch.step (G : Globs) (k : Nat) (x0 x1 x2 x3 : AV) (h : AHeap) : words_Watch.f G (k + 1) [x0, x1, x2, x3] h = words_Watch.c G k (words_Watch.f G k) x0 x1 x2 x3 h := rfl
/-! alembic/words.Run: function 19 -/
noncomputable def words_Run.ann : Ann := mkAnn [] [] [] []
noncomputable def words_Run.env (G : Globs) (k : Nat) (self : Den) : List (Nat × Bool × Den) := [(17, true, words_Valid.f G k), (44, true, words_Given.f G k), (45, false, words_Watch.f G k)]
noncomputable def words_Run.c (G : Globs) (k : Nat) (self : Den) (x0 x1 x2 : AV) (h : AHeap) : Option (AV × AHeap) := outV (
  bnd (boxRoA x0 h) fun v0 h0 =>
  bnd (boxA 40 (.agg [(.int .i64 0), .nils, .nils, (.int .i64 0)]) h0) fun v1 h1 =>
  bnd (pu h1 (loadV G true 3 v0 h1)) fun v2 h2 =>
  bnd (pureCall (words_Valid.f G k) [v2] h2) fun v3 h3 =>
  bnd (pu h3 (bin Tryd.prog .neq 35 true v3 .nili)) fun v4 h4 =>
  condA v4
  (bnd (pu h4 (buildSt [(0, 1), (1, 1), (2, 1), (3, 1)] [(.int .i64 0), .nils, .nils, (.int .i64 0)] [])) fun v5 h5 =>
  bnd (stS (storeV 4 v1 v5 h5)) fun v6 h6 =>
  finL [loadV G true 4 v1 h6, some v3] h.length h6)
  (bnd (pu h4 (loadV G true 3 v0 h4)) fun v7 h7 =>
  bnd (pureCall (words_Given.f G k) [v7, x1, x2] h7) fun v8 h8 =>
  bnd (pu h8 (bin Tryd.prog .neq 35 true v8 .nili)) fun v9 h9 =>
  condA v9
  (bnd (pu h9 (buildSt [(0, 1), (1, 1), (2, 1), (3, 1)] [(.int .i64 0), .nils, .nils, (.int .i64 0)] [])) fun v10 h10 =>
  bnd (stS (storeV 4 v1 v10 h10)) fun v11 h11 =>
  finL [loadV G true 4 v1 h11, some v8] h.length h11)
  (bnd (pu h9 (loadV G true 3 v0 h9)) fun v12 h12 =>
  bnd (heapCall (words_Watch.f G k) [v12, x1, x2, .nilf] h12) fun v13 h13 =>
  bnd (stS (storeV 4 v1 v13 h13)) fun v14 h14 =>
  finL [loadV G true 4 v1 h14, some .nili] h.length h14)))
noncomputable def words_Run.f (G : Globs) : Nat → Den
  | 0 => fun _ _ => none
  | k + 1 => fun args h => arg3 args fun x0 x1 x2 => (words_Run.c G k (words_Run.f G k) x0 x1 x2 h)
theorem words_Run.step (G : Globs) (k : Nat) (x0 x1 x2 : AV) (h : AHeap) : words_Run.f G (k + 1) [x0, x1, x2] h = words_Run.c G k (words_Run.f G k) x0 x1 x2 h := rfl
/-! alembic/alembiclaw17.first: function 12 -/
noncomputable def alembiclaw17_first.ann : Ann := mkAnn [] [] [] []
noncomputable def alembiclaw17_first.env (G : Globs) (k : Nat) (self : Den) : List (Nat × Bool × Den) := [(19, true, words_Run.f G k), (24, true, words_Value.f G k)]
noncomputable def alembiclaw17_first.c (G : Globs) (k : Nat) (self : Den) (h : AHeap) : Option (AV × AHeap) := outV (
  bnd (pu h (buildSt [(0, 1), (1, 1), (2, 1)] [.nils, (.int .i64 0), (.int .i64 0)] [])) fun v0 h0 =>
  bnd (pureCall (words_Run.f G k) [v0, .nils, (.int .i64 9)] h0) fun v1 h1 =>
  bnd (pu h1 (extractA v1 0)) fun v2 h2 =>
  bnd (pu h2 (extractA v1 1)) fun v3 h3 =>
  bnd (boxA 40 (.agg [(.int .i64 0), .nils, .nils, (.int .i64 0)]) h3) fun v4 h4 =>
  bnd (stS (storeV 4 v4 v2 h4)) fun v5 h5 =>
  bnd (pu h5 (buildSt [(0, 1), (1, 1), (2, 1), (3, 1), (4, 1), (5, 1)] [(.int .i64 0), (.int .i64 0), (.int .i64 0), (.int .i64 0), (.int .i64 0), (.int .i64 0)] [(0, (.int .i64 3))])) fun v6 h6 =>
  bnd (pureCall (words_Value.f G k) [v6, (.int .u64 3), (.int .u64 4), (.int .u64 0)] h6) fun v7 h7 =>
  bnd (pu h7 (extractA v7 0)) fun v8 h8 =>
  bnd (pu h8 (extractA v7 1)) fun v9 h9 =>
  bnd (pu h9 (bin Tryd.prog .eql 35 true v3 .nili)) fun v10 h10 =>
  bnd (gd v10 true h10 (pu h10 (fieldAddrV 0 v4))) fun v11 h11 =>
  bnd (gd v10 true h11 (pu h11 (loadV G false 1 v11 h11))) fun v12 h12 =>
  bnd (gd v10 true h12 (pu h12 (bin Tryd.prog .eql 3 true v12 (.int .i64 3)))) fun v13 h13 =>
  bnd (pu h13 (pickA v10 v13 (.bool false))) fun v14 h14 =>
  bnd (gd v14 true h14 (pu h14 (fieldAddrV 3 v4))) fun v15 h15 =>
  bnd (gd v14 true h15 (pu h15 (loadV G false 1 v15 h15))) fun v16 h16 =>
  bnd (gd v14 true h16 (pu h16 (bin Tryd.prog .eql 2 true v16 (.int .i64 0)))) fun v17 h17 =>
  bnd (pu h17 (pickA v14 v17 (.bool false))) fun v18 h18 =>
  bnd (gd v18 true h18 (some (v9, h18))) fun v19 h19 =>
  bnd (pu h19 (pickA v18 v19 (.bool false))) fun v20 h20 =>
  bnd (gd v20 true h20 (some (v8, h20))) fun v21 h21 =>
  bnd (gd v20 true h21 (pu h21 (bin Tryd.prog .eql 48 true v21 (.int .u64 7)))) fun v22 h22 =>
  bnd (pu h22 (pickA v20 v22 (.bool false))) fun v23 h23 =>
  finV [v23] h.length h23)
noncomputable def alembiclaw17_first.f (G : Globs) : Nat → Den
  | 0 => fun _ _ => none
  | k + 1 => fun args h => arg0 args (alembiclaw17_first.c G k (alembiclaw17_first.f G k) h)
theorem alembiclaw17_first.step (G : Globs) (k : Nat) (h : AHeap) : alembiclaw17_first.f G (k + 1) [] h = alembiclaw17_first.c G k (alembiclaw17_first.f G k) h := rfl
/-! alembic/alembiclaw17.light: function 13 -/
noncomputable def alembiclaw17_light.ann : Ann := mkAnn [] [] [] []
noncomputable def alembiclaw17_light.env (G : Globs) (k : Nat) (self : Den) : List (Nat × Bool × Den) := []
noncomputable def alembiclaw17_light.c (G : Globs) (k : Nat) (self : Den) (x0 x1 x2 : AV) (h : AHeap) : Option (AV × AHeap) := outV (
  bnd (boxRoA x0 h) fun v0 h0 =>
  bnd (pu h0 (fieldAddrV 0 v0)) fun v1 h1 =>
  bnd (pu h1 (loadV G false 1 v1 h1)) fun v2 h2 =>
  bnd (pu h2 (lenSl v2)) fun v3 h3 =>
  bnd (pu h3 (bin Tryd.prog .leq 3 true v3 (.int .i64 80))) fun v4 h4 =>
  bnd (gd v4 true h4 (pu h4 (fieldAddrV 1 v0))) fun v5 h5 =>
  bnd (gd v4 true h5 (pu h5 (loadV G false 1 v5 h5))) fun v6 h6 =>
  bnd (gd v4 true h6 (pu h6 (bin Tryd.prog .leq 3 true v6 (.int .i64 100)))) fun v7 h7 =>
  bnd (pu h7 (pickA v4 v7 (.bool false))) fun v8 h8 =>
  bnd (gd v8 true h8 (pu h8 (fieldAddrV 2 v0))) fun v9 h9 =>
  bnd (gd v8 true h9 (pu h9 (loadV G false 1 v9 h9))) fun v10 h10 =>
  bnd (gd v8 true h10 (pu h10 (bin Tryd.prog .leq 3 true v10 (.int .i64 200)))) fun v11 h11 =>
  bnd (pu h11 (pickA v8 v11 (.bool false))) fun v12 h12 =>
  bnd (gd v12 true h12 (some (x1, h12))) fun v13 h13 =>
  bnd (gd v12 true h13 (pu h13 (lenSl v13))) fun v14 h14 =>
  bnd (gd v12 true h14 (pu h14 (bin Tryd.prog .leq 3 true v14 (.int .i64 220)))) fun v15 h15 =>
  bnd (pu h15 (pickA v12 v15 (.bool false))) fun v16 h16 =>
  bnd (gd v16 true h16 (some (x2, h16))) fun v17 h17 =>
  bnd (gd v16 true h17 (pu h17 (bin Tryd.prog .leq 2 true v17 (.int .i64 2000)))) fun v18 h18 =>
  bnd (gd v16 true h18 (some (v18, h18))) fun v19 h19 =>
  bnd (gd v19 false h19 (some (x2, h19))) fun v20 h20 =>
  bnd (gd v19 false h20 (pu h20 (bin Tryd.prog .gtr 2 true v20 (.int .i64 1073741824)))) fun v21 h21 =>
  bnd (gd v16 true h21 (pu h21 (pickA v19 (.bool true) v21))) fun v22 h22 =>
  bnd (pu h22 (pickA v16 v22 (.bool false))) fun v23 h23 =>
  finV [v23] h.length h23)
noncomputable def alembiclaw17_light.f (G : Globs) : Nat → Den
  | 0 => fun _ _ => none
  | k + 1 => fun args h => arg3 args fun x0 x1 x2 => (alembiclaw17_light.c G k (alembiclaw17_light.f G k) x0 x1 x2 h)
theorem alembiclaw17_light.step (G : Globs) (k : Nat) (x0 x1 x2 : AV) (h : AHeap) : alembiclaw17_light.f G (k + 1) [x0, x1, x2] h = alembiclaw17_light.c G k (alembiclaw17_light.f G k) x0 x1 x2 h := rfl
/-! alembic/alembicref.Bare: function 18 -/
noncomputable def alembicref_Bare.ann : Ann := mkAnn [] [] [] []
noncomputable def alembicref_Bare.env (G : Globs) (k : Nat) (self : Den) : List (Nat × Bool × Den) := []
noncomputable def alembicref_Bare.c (G : Globs) (k : Nat) (self : Den) (x0 : AV) (h : AHeap) : Option (AV × AHeap) := outV (
  bnd (boxA 29 (.agg [(.int .i64 0), (.bool false), (.int .i64 0)]) h) fun v0 h0 =>
  bnd (pu h0 (buildSt [(0, 1), (1, 1), (2, 1)] [(.int .i64 0), (.bool false), (.int .i64 0)] [(0, x0)])) fun v1 h1 =>
  bnd (stS (storeV 3 v0 v1 h1)) fun v2 h2 =>
  finL [loadV G true 3 v0 h2] h.length h2)
noncomputable def alembicref_Bare.f (G : Globs) : Nat → Den
  | 0 => fun _ _ => none
  | k + 1 => fun args h => arg1 args fun x0 => (alembicref_Bare.c G k (alembicref_Bare.f G k) x0 h)
theorem alembicref_Bare.step (G : Globs) (k : Nat) (x0 : AV) (h : AHeap) : alembicref_Bare.f G (k + 1) [x0] h = alembicref_Bare.c G k (alembicref_Bare.f G k) x0 h := rfl
/-! alembic/alembicref17.of: function 36 -/
noncomputable def alembicref17_of.ann : Ann := mkAnn [] [] [] []
noncomputable def alembicref17_of.env (G : Globs) (k : Nat) (self : Den) : List (Nat × Bool × Den) := []
noncomputable def alembicref17_of.c (G : Globs) (k : Nat) (self : Den) (x0 : AV) (h : AHeap) : Option (AV × AHeap) := outV (
  bnd (boxA 79 (.agg [(.bool false), (.bool false), (.bool false), (.bool false), (.int .i64 0)]) h) fun v0 h0 =>
  bnd (pu h0 (bin Tryd.prog .eql 3 true x0 (.int .i64 1))) fun v1 h1 =>
  condA v1
  (bnd (pu h1 (buildSt [(0, 1), (1, 1), (2, 1), (3, 1), (4, 1)] [(.bool false), (.bool false), (.bool false), (.bool false), (.int .i64 0)] [(0, (.bool true)), (4, (.int .i64 1))])) fun v2 h2 =>
  bnd (stS (storeV 5 v0 v2 h2)) fun v3 h3 =>
  finL [loadV G true 5 v0 h3, some (.bool true)] h.length h3)
  (bnd (pu h1 (bin Tryd.prog .eql 3 true x0 (.int .i64 2))) fun v4 h4 =>
  condA v4
  (bnd (pu h4 (buildSt [(0, 1), (1, 1), (2, 1), (3, 1), (4, 1)] [(.bool false), (.bool false), (.bool false), (.bool false), (.int .i64 0)] [(0, (.bool true)), (1, (.bool true))])) fun v5 h5 =>
  bnd (stS (storeV 5 v0 v5 h5)) fun v6 h6 =>
  finL [loadV G true 5 v0 h6, some (.bool true)] h.length h6)
  (bnd (pu h4 (bin Tryd.prog .geq 3 true x0 (.int .i64 3))) fun v7 h7 =>
  bnd (gd v7 true h7 (some (x0, h7))) fun v8 h8 =>
  bnd (gd v7 true h8 (pu h8 (bin Tryd.prog .leq 3 true v8 (.int .i64 9)))) fun v9 h9 =>
  bnd (pu h9 (pickA v7 v9 (.bool false))) fun v10 h10 =>
  bnd (gd v10 false h10 (some (x0, h10))) fun v11 h11 =>
  bnd (gd v10 false h11 (pu h11 (bin Tryd.prog .eql 3 true v11 (.int .i64 13)))) fun v12 h12 =>
  bnd (pu h12 (pickA v10 (.bool true) v12)) fun v13 h13 =>
  condA v13
  (bnd (pu h13 (buildSt [(0, 1), (1, 1), (2, 1), (3, 1), (4, 1)] [(.bool false), (.bool false), (.bool false), (.bool false), (.int .i64 0)] [(0, (.bool true)), (1, (.bool true)), (2, (.bool true))])) fun v14 h14 =>
  bnd (stS (storeV 5 v0 v14 h14)) fun v15 h15 =>
  finL [loadV G true 5 v0 h15, some (.bool true)] h.length h15)
  (bnd (pu h13 (bin Tryd.prog .geq 3 true x0 (.int .i64 10))) fun v16 h16 =>
  bnd (gd v16 true h16 (some (x0, h16))) fun v17 h17 =>
  bnd (gd v16 true h17 (pu h17 (bin Tryd.prog .leq 3 true v17 (.int .i64 12)))) fun v18 h18 =>
  bnd (pu h18 (pickA v16 v18 (.bool false))) fun v19 h19 =>
  condA v19
  (bnd (pu h19 (buildSt [(0, 1), (1, 1), (2, 1), (3, 1), (4, 1)] [(.bool false), (.bool false), (.bool false), (.bool false), (.int .i64 0)] [(0, (.bool true)), (1, (.bool true)), (4, (.int .i64 2))])) fun v20 h20 =>
  bnd (stS (storeV 5 v0 v20 h20)) fun v21 h21 =>
  finL [loadV G true 5 v0 h21, some (.bool true)] h.length h21)
  (bnd (pu h19 (bin Tryd.prog .eql 3 true x0 (.int .i64 14))) fun v22 h22 =>
  condA v22
  (bnd (pu h22 (buildSt [(0, 1), (1, 1), (2, 1), (3, 1), (4, 1)] [(.bool false), (.bool false), (.bool false), (.bool false), (.int .i64 0)] [(0, (.bool true)), (1, (.bool true)), (2, (.bool true)), (3, (.bool true))])) fun v23 h23 =>
  bnd (stS (storeV 5 v0 v23 h23)) fun v24 h24 =>
  finL [loadV G true 5 v0 h24, some (.bool true)] h.length h24)
  (bnd (pu h22 (bin Tryd.prog .eql 3 true x0 (.int .i64 15))) fun v25 h25 =>
  condA v25
  (bnd (pu h25 (buildSt [(0, 1), (1, 1), (2, 1), (3, 1), (4, 1)] [(.bool false), (.bool false), (.bool false), (.bool false), (.int .i64 0)] [(0, (.bool true)), (1, (.bool true)), (4, (.int .i64 3))])) fun v26 h26 =>
  bnd (stS (storeV 5 v0 v26 h26)) fun v27 h27 =>
  finL [loadV G true 5 v0 h27, some (.bool true)] h.length h27)
  (bnd (pu h25 (bin Tryd.prog .eql 3 true x0 (.int .i64 16))) fun v28 h28 =>
  condA v28
  (bnd (pu h28 (buildSt [(0, 1), (1, 1), (2, 1), (3, 1), (4, 1)] [(.bool false), (.bool false), (.bool false), (.bool false), (.int .i64 0)] [(1, (.bool true)), (2, (.bool true)), (4, (.int .i64 3))])) fun v29 h29 =>
  bnd (stS (storeV 5 v0 v29 h29)) fun v30 h30 =>
  finL [loadV G true 5 v0 h30, some (.bool true)] h.length h30)
  (bnd (pu h28 (bin Tryd.prog .eql 3 true x0 (.int .i64 17))) fun v31 h31 =>
  condA v31
  (bnd (pu h31 (buildSt [(0, 1), (1, 1), (2, 1), (3, 1), (4, 1)] [(.bool false), (.bool false), (.bool false), (.bool false), (.int .i64 0)] [(4, (.int .i64 4))])) fun v32 h32 =>
  bnd (stS (storeV 5 v0 v32 h32)) fun v33 h33 =>
  finL [loadV G true 5 v0 h33, some (.bool true)] h.length h33)
  (bnd (pu h31 (bin Tryd.prog .eql 3 true x0 (.int .i64 18))) fun v34 h34 =>
  bnd (gd v34 false h34 (some (x0, h34))) fun v35 h35 =>
  bnd (gd v34 false h35 (pu h35 (bin Tryd.prog .eql 3 true v35 (.int .i64 19)))) fun v36 h36 =>
  bnd (pu h36 (pickA v34 (.bool true) v36)) fun v37 h37 =>
  condA v37
  (bnd (pu h37 (buildSt [(0, 1), (1, 1), (2, 1), (3, 1), (4, 1)] [(.bool false), (.bool false), (.bool false), (.bool false), (.int .i64 0)] [(1, (.bool true)), (4, (.int .i64 4))])) fun v38 h38 =>
  bnd (stS (storeV 5 v0 v38 h38)) fun v39 h39 =>
  finL [loadV G true 5 v0 h39, some (.bool true)] h.length h39)
  (bnd (pu h37 (bin Tryd.prog .eql 3 true x0 (.int .i64 20))) fun v40 h40 =>
  condA v40
  (bnd (pu h40 (buildSt [(0, 1), (1, 1), (2, 1), (3, 1), (4, 1)] [(.bool false), (.bool false), (.bool false), (.bool false), (.int .i64 0)] [(4, (.int .i64 5))])) fun v41 h41 =>
  bnd (stS (storeV 5 v0 v41 h41)) fun v42 h42 =>
  finL [loadV G true 5 v0 h42, some (.bool true)] h.length h42)
  (bnd (pu h40 (buildSt [(0, 1), (1, 1), (2, 1), (3, 1), (4, 1)] [(.bool false), (.bool false), (.bool false), (.bool false), (.int .i64 0)] [])) fun v43 h43 =>
  bnd (stS (storeV 5 v0 v43 h43)) fun v44 h44 =>
  finL [loadV G true 5 v0 h44, some (.bool false)] h.length h44)))))))))))
noncomputable def alembicref17_of.f (G : Globs) : Nat → Den
  | 0 => fun _ _ => none
  | k + 1 => fun args h => arg1 args fun x0 => (alembicref17_of.c G k (alembicref17_of.f G k) x0 h)
theorem alembicref17_of.step (G : Globs) (k : Nat) (x0 : AV) (h : AHeap) : alembicref17_of.f G (k + 1) [x0] h = alembicref17_of.c G k (alembicref17_of.f G k) x0 h := rfl
/-! alembic/alembicref17.outside: function 37 -/
noncomputable def alembicref17_outside.ann : Ann := mkAnn [] [] [] []
noncomputable def alembicref17_outside.env (G : Globs) (k : Nat) (self : Den) : List (Nat × Bool × Den) := []
noncomputable def alembicref17_outside.c (G : Globs) (k : Nat) (self : Den) (x0 x1 x2 : AV) (h : AHeap) : Option (AV × AHeap) := outV (
  bnd (gd x0 true h (some (x1, h))) fun v0 h0 =>
  bnd (gd x0 true h0 (pu h0 (bin Tryd.prog .lss 3 true v0 (.int .i64 0)))) fun v1 h1 =>
  bnd (gd x0 true h1 (some (v1, h1))) fun v2 h2 =>
  bnd (gd v2 false h2 (some (x1, h2))) fun v3 h3 =>
  bnd (gd v2 false h3 (some (x2, h3))) fun v4 h4 =>
  bnd (gd v2 false h4 (pu h4 (bin Tryd.prog .geq 3 false v3 v4))) fun v5 h5 =>
  bnd (gd x0 true h5 (pu h5 (pickA v2 (.bool true) v5))) fun v6 h6 =>
  bnd (pu h6 (pickA x0 v6 (.bool false))) fun v7 h7 =>
  finV [v7] h.length h7)
noncomputable def alembicref17_outside.f (G : Globs) : Nat → Den
  | 0 => fun _ _ => none
  | k + 1 => fun args h => arg3 args fun x0 x1 x2 => (alembicref17_outside.c G k (alembicref17_outside.f G k) x0 x1 x2 h)
theorem alembicref17_outside.step (G : Globs) (k : Nat) (x0 x1 x2 : AV) (h : AHeap) : alembicref17_outside.f G (k + 1) [x0, x1, x2] h = alembicref17_outside.c G k (alembicref17_outside.f G k) x0 x1 x2 h := rfl
/-! alembic/alembicref17.within: function 38 -/
noncomputable def alembicref17_within.ann : Ann := mkAnn [] [] [] []
noncomputable def alembicref17_within.env (G : Globs) (k : Nat) (self : Den) : List (Nat × Bool × Den) := []
noncomputable def alembicref17_within.c (G : Globs) (k : Nat) (self : Den) (x0 x1 : AV) (h : AHeap) : Option (AV × AHeap) := outV (
  bnd (pu h (bin Tryd.prog .geq 2 true x0 (.int .i64 0))) fun v0 h0 =>
  bnd (gd v0 true h0 (some (x0, h0))) fun v1 h1 =>
  bnd (gd v0 true h1 (some (x1, h1))) fun v2 h2 =>
  bnd (gd v0 true h2 (pu h2 (bin Tryd.prog .lss 2 false v1 v2))) fun v3 h3 =>
  bnd (pu h3 (pickA v0 v3 (.bool false))) fun v4 h4 =>
  finV [v4] h.length h4)
noncomputable def alembicref17_within.f (G : Globs) : Nat → Den
  | 0 => fun _ _ => none
  | k + 1 => fun args h => arg2 args fun x0 x1 => (alembicref17_within.c G k (alembicref17_within.f G k) x0 x1 h)
theorem alembicref17_within.step (G : Globs) (k : Nat) (x0 x1 : AV) (h : AHeap) : alembicref17_within.f G (k + 1) [x0, x1] h = alembicref17_within.c G k (alembicref17_within.f G k) x0 x1 h := rfl
/-! alembic/alembicref.None: function 40 -/
noncomputable def alembicref_None.ann : Ann := mkAnn [] [] [] []
noncomputable def alembicref_None.env (G : Globs) (k : Nat) (self : Den) : List (Nat × Bool × Den) := []
noncomputable def alembicref_None.c (G : Globs) (k : Nat) (self : Den) (h : AHeap) : Option (AV × AHeap) := outV (
  bnd (boxA 29 (.agg [(.int .i64 0), (.bool false), (.int .i64 0)]) h) fun v0 h0 =>
  bnd (pu h0 (buildSt [(0, 1), (1, 1), (2, 1)] [(.int .i64 0), (.bool false), (.int .i64 0)] [])) fun v1 h1 =>
  bnd (stS (storeV 3 v0 v1 h1)) fun v2 h2 =>
  finL [loadV G true 3 v0 h2] h.length h2)
noncomputable def alembicref_None.f (G : Globs) : Nat → Den
  | 0 => fun _ _ => none
  | k + 1 => fun args h => arg0 args (alembicref_None.c G k (alembicref_None.f G k) h)
theorem alembicref_None.step (G : Globs) (k : Nat) (h : AHeap) : alembicref_None.f G (k + 1) [] h = alembicref_None.c G k (alembicref_None.f G k) h := rfl
/-! alembic/alembicref.Placed: function 39 -/
noncomputable def alembicref_Placed.ann : Ann := mkAnn [] [] [] []
noncomputable def alembicref_Placed.env (G : Globs) (k : Nat) (self : Den) : List (Nat × Bool × Den) := [(40, true, alembicref_None.f G k)]
noncomputable def alembicref_Placed.c (G : Globs) (k : Nat) (self : Den) (x0 x1 : AV) (h : AHeap) : Option (AV × AHeap) := outV (
  bnd (boxA 29 (.agg [(.int .i64 0), (.bool false), (.int .i64 0)]) h) fun v0 h0 =>
  bnd (pu h0 (bin Tryd.prog .eql 3 true x0 (.int .i64 0))) fun v1 h1 =>
  condA v1
  (bnd (pureCall (alembicref_None.f G k) [] h1) fun v2 h2 =>
  bnd (stS (storeV 3 v0 v2 h2)) fun v3 h3 =>
  finL [loadV G true 3 v0 h3] h.length h3)
  (bnd (pu h1 (buildSt [(0, 1), (1, 1), (2, 1)] [(.int .i64 0), (.bool false), (.int .i64 0)] [(0, x0), (1, (.bool true)), (2, x1)])) fun v4 h4 =>
  bnd (stS (storeV 3 v0 v4 h4)) fun v5 h5 =>
  finL [loadV G true 3 v0 h5] h.length h5))
noncomputable def alembicref_Placed.f (G : Globs) : Nat → Den
  | 0 => fun _ _ => none
  | k + 1 => fun args h => arg2 args fun x0 x1 => (alembicref_Placed.c G k (alembicref_Placed.f G k) x0 x1 h)
theorem alembicref_Placed.step (G : Globs) (k : Nat) (x0 x1 : AV) (h : AHeap) : alembicref_Placed.f G (k + 1) [x0, x1] h = alembicref_Placed.c G k (alembicref_Placed.f G k) x0 x1 h := rfl
/-! alembic/alembicref17.Valid: function 14 -/
noncomputable def alembicref17_Valid.ann : Ann := mkAnn [] [] [(4, [1, 2, 3])] [(5, [1, 2, 3]), (19, [1, 2, 3, 7])]
noncomputable def alembicref17_Valid.env (G : Globs) (k : Nat) (self : Den) : List (Nat × Bool × Den) := [(18, true, alembicref_Bare.f G k), (36, true, alembicref17_of.f G k), (37, true, alembicref17_outside.f G k), (38, true, alembicref17_within.f G k), (39, true, alembicref_Placed.f G k), (40, true, alembicref_None.f G k)]
noncomputable def alembicref17_Valid.l4 (G : Globs) (k n0 : Nat) (self : Den) (lp : LoopF) : LoopF := fun xs h0 => cutK n0 xs h0 fun h =>
  bnd (pu h (fieldAddrV 0 (nth xs 0))) fun v25 h25 =>
  bnd (pu h25 (loadV G false 1 v25 h25)) fun v26 h26 =>
  bnd (pu h26 (lenSl v26)) fun v27 h27 =>
  bnd (pu h27 (bin Tryd.prog .lss 3 false (nth xs 2) v27)) fun v28 h28 =>
  condA v28
  (thenK (
  bnd (pu h28 (fieldAddrV 0 (nth xs 0))) fun v29 h29 =>
  bnd (pu h29 (loadV G false 1 v29 h29)) fun v30 h30 =>
  bnd (pu h30 (idxAddrSl 6 v30 (nth xs 2))) fun v31 h31 =>
  bnd (pu h31 (loadV G true 6 v31 h31)) fun v32 h32 =>
  bnd (boxA 52 (.agg [(.int .i64 0), (.int .i64 0), (.int .i64 0), (.int .i64 0), (.int .i64 0), (.int .i64 0)]) h32) fun v33 h33 =>
  bnd (stS (storeV 6 v33 v32 h33)) fun v34 h34 =>
  bnd (pu h34 (fieldAddrV 0 v33)) fun v35 h35 =>
  bnd (pu h35 (loadV G false 1 v35 h35)) fun v36 h36 =>
  bnd (pureCall (alembicref17_of.f G k) [v36] h36) fun v37 h37 =>
  bnd (pu h37 (extractA v37 0)) fun v38 h38 =>
  bnd (pu h38 (extractA v37 1)) fun v39 h39 =>
  bnd (boxA 79 (.agg [(.bool false), (.bool false), (.bool false), (.bool false), (.int .i64 0)]) h39) fun v40 h40 =>
  bnd (stS (storeV 5 v40 v38 h40)) fun v41 h41 =>
  thenK (
  bnd (pu h41 (un .not v39)) fun v42 h42 =>
  condA v42
  (some (.normal, [(nth xs 0), (nth xs 1), (nth xs 2), (.int .i64 106)], h42))
  (bnd (pu h42 (fieldAddrV 0 v40)) fun v43 h43 =>
  bnd (pu h43 (loadV G false 1 v43 h43)) fun v44 h44 =>
  bnd (pu h44 (fieldAddrV 1 v33)) fun v45 h45 =>
  bnd (pu h45 (loadV G false 1 v45 h45)) fun v46 h46 =>
  bnd (pu h46 (fieldAddrV 1 (nth xs 0))) fun v47 h47 =>
  bnd (pu h47 (loadV G false 1 v47 h47)) fun v48 h48 =>
  bnd (pureCall (alembicref17_outside.f G k) [v44, v46, v48] h48) fun v49 h49 =>
  bnd (gd v49 false h49 (pu h49 (fieldAddrV 1 v40))) fun v50 h50 =>
  bnd (gd v49 false h50 (pu h50 (loadV G false 1 v50 h50))) fun v51 h51 =>
  bnd (gd v49 false h51 (pu h51 (fieldAddrV 2 v33))) fun v52 h52 =>
  bnd (gd v49 false h52 (pu h52 (loadV G false 1 v52 h52))) fun v53 h53 =>
  bnd (gd v49 false h53 (pu h53 (fieldAddrV 1 (nth xs 0)))) fun v54 h54 =>
  bnd (gd v49 false h54 (pu h54 (loadV G false 1 v54 h54))) fun v55 h55 =>
  bnd (gd v49 false h55 (pureCall (alembicref17_outside.f G k) [v51, v53, v55] h55)) fun v56 h56 =>
  bnd (pu h56 (pickA v49 (.bool true) v56)) fun v57 h57 =>
  bnd (gd v57 false h57 (pu h57 (fieldAddrV 2 v40))) fun v58 h58 =>
  bnd (gd v57 false h58 (pu h58 (loadV G false 1 v58 h58))) fun v59 h59 =>
  bnd (gd v57 false h59 (pu h59 (fieldAddrV 3 v33))) fun v60 h60 =>
  bnd (gd v57 false h60 (pu h60 (loadV G false 1 v60 h60))) fun v61 h61 =>
  bnd (gd v57 false h61 (pu h61 (fieldAddrV 1 (nth xs 0)))) fun v62 h62 =>
  bnd (gd v57 false h62 (pu h62 (loadV G false 1 v62 h62))) fun v63 h63 =>
  bnd (gd v57 false h63 (pureCall (alembicref17_outside.f G k) [v59, v61, v63] h63)) fun v64 h64 =>
  bnd (pu h64 (pickA v57 (.bool true) v64)) fun v65 h65 =>
  bnd (gd v65 false h65 (pu h65 (fieldAddrV 3 v40))) fun v66 h66 =>
  bnd (gd v65 false h66 (pu h66 (loadV G false 1 v66 h66))) fun v67 h67 =>
  bnd (gd v65 false h67 (pu h67 (fieldAddrV 4 v33))) fun v68 h68 =>
  bnd (gd v65 false h68 (pu h68 (loadV G false 1 v68 h68))) fun v69 h69 =>
  bnd (gd v65 false h69 (pu h69 (fieldAddrV 1 (nth xs 0)))) fun v70 h70 =>
  bnd (gd v65 false h70 (pu h70 (loadV G false 1 v70 h70))) fun v71 h71 =>
  bnd (gd v65 false h71 (pureCall (alembicref17_outside.f G k) [v67, v69, v71] h71)) fun v72 h72 =>
  bnd (pu h72 (pickA v65 (.bool true) v72)) fun v73 h73 =>
  condA v73
  (some (.normal, [(nth xs 0), (nth xs 1), (nth xs 2), (.int .i64 101)], h73))
  (bnd (pu h73 (fieldAddrV 0 v40)) fun v74 h74 =>
  bnd (pu h74 (loadV G false 1 v74 h74)) fun v75 h75 =>
  bnd (pu h75 (un .not v75)) fun v76 h76 =>
  bnd (gd v76 true h76 (pu h76 (fieldAddrV 1 v33))) fun v77 h77 =>
  bnd (gd v76 true h77 (pu h77 (loadV G false 1 v77 h77))) fun v78 h78 =>
  bnd (gd v76 true h78 (pu h78 (bin Tryd.prog .neq 3 true v78 (.int .i64 0)))) fun v79 h79 =>
  bnd (pu h79 (pickA v76 v79 (.bool false))) fun v80 h80 =>
  bnd (gd v80 false h80 (pu h80 (fieldAddrV 1 v40))) fun v81 h81 =>
  bnd (gd v80 false h81 (pu h81 (loadV G false 1 v81 h81))) fun v82 h82 =>
  bnd (gd v80 false h82 (pu h82 (un .not v82))) fun v83 h83 =>
  bnd (gd v80 false h83 (some (v83, h83))) fun v84 h84 =>
  bnd (gd v84 true h84 (pu h84 (fieldAddrV 2 v33))) fun v85 h85 =>
  bnd (gd v84 true h85 (pu h85 (loadV G false 1 v85 h85))) fun v86 h86 =>
  bnd (gd v84 true h86 (pu h86 (bin Tryd.prog .neq 3 true v86 (.int .i64 0)))) fun v87 h87 =>
  bnd (gd v80 false h87 (pu h87 (pickA v84 v87 (.bool false)))) fun v88 h88 =>
  bnd (pu h88 (pickA v80 (.bool true) v88)) fun v89 h89 =>
  bnd (gd v89 false h89 (pu h89 (fieldAddrV 2 v40))) fun v90 h90 =>
  bnd (gd v89 false h90 (pu h90 (loadV G false 1 v90 h90))) fun v91 h91 =>
  bnd (gd v89 false h91 (pu h91 (un .not v91))) fun v92 h92 =>
  bnd (gd v89 false h92 (some (v92, h92))) fun v93 h93 =>
  bnd (gd v93 true h93 (pu h93 (fieldAddrV 3 v33))) fun v94 h94 =>
  bnd (gd v93 true h94 (pu h94 (loadV G false 1 v94 h94))) fun v95 h95 =>
  bnd (gd v93 true h95 (pu h95 (bin Tryd.prog .neq 3 true v95 (.int .i64 0)))) fun v96 h96 =>
  bnd (gd v89 false h96 (pu h96 (pickA v93 v96 (.bool false)))) fun v97 h97 =>
  bnd (pu h97 (pickA v89 (.bool true) v97)) fun v98 h98 =>
  bnd (gd v98 false h98 (pu h98 (fieldAddrV 3 v40))) fun v99 h99 =>
  bnd (gd v98 false h99 (pu h99 (loadV G false 1 v99 h99))) fun v100 h100 =>
  bnd (gd v98 false h100 (pu h100 (un .not v100))) fun v101 h101 =>
  bnd (gd v98 false h101 (some (v101, h101))) fun v102 h102 =>
  bnd (gd v102 true h102 (pu h102 (fieldAddrV 4 v33))) fun v103 h103 =>
  bnd (gd v102 true h103 (pu h103 (loadV G false 1 v103 h103))) fun v104 h104 =>
  bnd (gd v102 true h104 (pu h104 (bin Tryd.prog .neq 3 true v104 (.int .i64 0)))) fun v105 h105 =>
  bnd (gd v98 false h105 (pu h105 (pickA v102 v105 (.bool false)))) fun v106 h106 =>
  bnd (pu h106 (pickA v98 (.bool true) v106)) fun v107 h107 =>
  bnd (gd v107 false h107 (pu h107 (fieldAddrV 4 v40))) fun v108 h108 =>
  bnd (gd v107 false h108 (pu h108 (loadV G false 1 v108 h108))) fun v109 h109 =>
  bnd (gd v107 false h109 (pu h109 (bin Tryd.prog .eql 3 true v109 (.int .i64 0)))) fun v110 h110 =>
  bnd (gd v107 false h110 (some (v110, h110))) fun v111 h111 =>
  bnd (gd v111 true h111 (pu h111 (fieldAddrV 5 v33))) fun v112 h112 =>
  bnd (gd v111 true h112 (pu h112 (loadV G false 1 v112 h112))) fun v113 h113 =>
  bnd (gd v111 true h113 (pu h113 (bin Tryd.prog .neq 2 true v113 (.int .i64 0)))) fun v114 h114 =>
  bnd (gd v107 false h114 (pu h114 (pickA v111 v114 (.bool false)))) fun v115 h115 =>
  bnd (pu h115 (pickA v107 (.bool true) v115)) fun v116 h116 =>
  condA v116
  (some (.normal, [(nth xs 0), (nth xs 1), (nth xs 2), (.int .i64 104)], h116))
  (bnd (pu h116 (fieldAddrV 4 v40)) fun v117 h117 =>
  bnd (pu h117 (loadV G false 1 v117 h117)) fun v118 h118 =>
  bnd (pu h118 (bin Tryd.prog .eql 3 true v118 (.int .i64 2))) fun v119 h119 =>
  bnd (gd v119 true h119 (pu h119 (fieldAddrV 5 v33))) fun v120 h120 =>
  bnd (gd v119 true h120 (pu h120 (loadV G false 1 v120 h120))) fun v121 h121 =>
  bnd (gd v119 true h121 (pureCall (alembicref17_within.f G k) [v121, (.int .i64 64)] h121)) fun v122 h122 =>
  bnd (gd v119 true h122 (pu h122 (un .not v122))) fun v123 h123 =>
  bnd (pu h123 (pickA v119 v123 (.bool false))) fun v124 h124 =>
  bnd (gd v124 false h124 (pu h124 (fieldAddrV 4 v40))) fun v125 h125 =>
  bnd (gd v124 false h125 (pu h125 (loadV G false 1 v125 h125))) fun v126 h126 =>
  bnd (gd v124 false h126 (pu h126 (bin Tryd.prog .eql 3 true v126 (.int .i64 5)))) fun v127 h127 =>
  bnd (gd v124 false h127 (some (v127, h127))) fun v128 h128 =>
  bnd (gd v128 true h128 (pu h128 (fieldAddrV 5 v33))) fun v129 h129 =>
  bnd (gd v128 true h129 (pu h129 (loadV G false 1 v129 h129))) fun v130 h130 =>
  bnd (gd v128 true h130 (pureCall (alembicref17_within.f G k) [v130, (.int .i64 3)] h130)) fun v131 h131 =>
  bnd (gd v128 true h131 (pu h131 (un .not v131))) fun v132 h132 =>
  bnd (gd v124 false h132 (pu h132 (pickA v128 v132 (.bool false)))) fun v133 h133 =>
  bnd (pu h133 (pickA v124 (.bool true) v133)) fun v134 h134 =>
  bnd (gd v134 false h134 (pu h134 (fieldAddrV 4 v40))) fun v135 h135 =>
  bnd (gd v134 false h135 (pu h135 (loadV G false 1 v135 h135))) fun v136 h136 =>
  bnd (gd v134 false h136 (pu h136 (bin Tryd.prog .eql 3 true v136 (.int .i64 3)))) fun v137 h137 =>
  bnd (gd v134 false h137 (some (v137, h137))) fun v138 h138 =>
  bnd (gd v138 true h138 (pu h138 (fieldAddrV 5 v33))) fun v139 h139 =>
  bnd (gd v138 true h139 (pu h139 (loadV G false 1 v139 h139))) fun v140 h140 =>
  bnd (gd v138 true h140 (pureCall (alembicref17_within.f G k) [v140, (.int .i64 65536)] h140)) fun v141 h141 =>
  bnd (gd v138 true h141 (pu h141 (un .not v141))) fun v142 h142 =>
  bnd (gd v134 false h142 (pu h142 (pickA v138 v142 (.bool false)))) fun v143 h143 =>
  bnd (pu h143 (pickA v134 (.bool true) v143)) fun v144 h144 =>
  condA v144
  (some (.normal, [(nth xs 0), (nth xs 1), (nth xs 2), (.int .i64 101)], h144))
  (bnd (pu h144 (fieldAddrV 4 v40)) fun v145 h145 =>
  bnd (pu h145 (loadV G false 1 v145 h145)) fun v146 h146 =>
  bnd (pu h146 (bin Tryd.prog .eql 3 true v146 (.int .i64 4))) fun v147 h147 =>
  bnd (gd v147 true h147 (pu h147 (fieldAddrV 5 v33))) fun v148 h148 =>
  bnd (gd v147 true h148 (pu h148 (loadV G false 1 v148 h148))) fun v149 h149 =>
  bnd (gd v147 true h149 (pu h149 (fieldAddrV 0 (nth xs 0)))) fun v150 h150 =>
  bnd (gd v147 true h150 (pu h150 (loadV G false 1 v150 h150))) fun v151 h151 =>
  bnd (gd v147 true h151 (pu h151 (lenSl v151))) fun v152 h152 =>
  bnd (gd v147 true h152 (pu h152 (bin Tryd.prog .add 3 true v152 (.int .i64 1)))) fun v153 h153 =>
  bnd (gd v147 true h153 (pureCall (alembicref17_within.f G k) [v149, v153] h153)) fun v154 h154 =>
  bnd (gd v147 true h154 (pu h154 (un .not v154))) fun v155 h155 =>
  bnd (pu h155 (pickA v147 v155 (.bool false))) fun v156 h156 =>
  condA v156
  (some (.normal, [(nth xs 0), (nth xs 1), (nth xs 2), (.int .i64 109)], h156))
  (some (.normal, [(nth xs 0), (nth xs 1), (nth xs 2), (.int .i64 0)], h156))))))) fun e157 x157 h157 => exK e157
  (bnd (pu h157 (bin Tryd.prog .neq 3 true (nth x157 3) (.int .i64 0))) fun v158 h158 =>
  condA v158
  (bnd (pureCall (alembicref_Placed.f G k) [(nth x157 3), (nth x157 2)] h158) fun v159 h159 =>
  bnd (stS (storeV 3 (nth x157 1) v159 h159)) fun v160 h160 =>
  some (.ret, [(nth x157 0), (nth x157 1), (nth x157 2)], h160))
  (some (.normal, [(nth x157 0), (nth x157 1), (nth x157 2)], h158)))
  (fun i157 => if i157 = 1 then (some (.normal, [(nth x157 0), (nth x157 1), (nth x157 2)], h157)) else (some (.exit i157, [(nth x157 0), (nth x157 1), (nth x157 2)], h157)))
  (some (.ret, [(nth x157 0), (nth x157 1), (nth x157 2)], h157))) fun e161 x161 h161 => exK e161
  (bnd (pu h161 (bin Tryd.prog .add 3 true (nth x161 2) (.int .i64 1))) fun v162 h162 =>
  lp [(nth x161 0), (nth x161 1), v162] h162)
  (fun i161 => some (.exit i161, [(nth x161 0), (nth x161 1), (nth x161 2)], h161))
  (some (.ret, [(nth x161 0), (nth x161 1), (nth x161 2)], h161)))
  (some (.exit 0, [(nth xs 0), (nth xs 1), (nth xs 2)], h28))
noncomputable def alembicref17_Valid.c (G : Globs) (k : Nat) (self : Den) (x0 : AV) (h : AHeap) : Option (AV × AHeap) := outV (
  bnd (boxRoA x0 h) fun v0 h0 =>
  bnd (boxA 29 (.agg [(.int .i64 0), (.bool false), (.int .i64 0)]) h0) fun v1 h1 =>
  bnd (pu h1 (fieldAddrV 0 v0)) fun v2 h2 =>
  bnd (pu h2 (loadV G false 1 v2 h2)) fun v3 h3 =>
  bnd (pu h3 (lenSl v3)) fun v4 h4 =>
  bnd (pu h4 (bin Tryd.prog .gtr 3 true v4 (.int .i64 262144))) fun v5 h5 =>
  bnd (gd v5 false h5 (pu h5 (fieldAddrV 1 v0))) fun v6 h6 =>
  bnd (gd v5 false h6 (pu h6 (loadV G false 1 v6 h6))) fun v7 h7 =>
  bnd (gd v5 false h7 (pu h7 (bin Tryd.prog .lss 3 true v7 (.int .i64 0)))) fun v8 h8 =>
  bnd (pu h8 (pickA v5 (.bool true) v8)) fun v9 h9 =>
  bnd (gd v9 false h9 (pu h9 (fieldAddrV 1 v0))) fun v10 h10 =>
  bnd (gd v9 false h10 (pu h10 (loadV G false 1 v10 h10))) fun v11 h11 =>
  bnd (gd v9 false h11 (pu h11 (bin Tryd.prog .gtr 3 true v11 (.int .i64 65536)))) fun v12 h12 =>
  bnd (pu h12 (pickA v9 (.bool true) v12)) fun v13 h13 =>
  bnd (gd v13 false h13 (pu h13 (fieldAddrV 2 v0))) fun v14 h14 =>
  bnd (gd v13 false h14 (pu h14 (loadV G false 1 v14 h14))) fun v15 h15 =>
  bnd (gd v13 false h15 (pu h15 (bin Tryd.prog .lss 3 true v15 (.int .i64 0)))) fun v16 h16 =>
  bnd (pu h16 (pickA v13 (.bool true) v16)) fun v17 h17 =>
  bnd (gd v17 false h17 (pu h17 (fieldAddrV 2 v0))) fun v18 h18 =>
  bnd (gd v17 false h18 (pu h18 (loadV G false 1 v18 h18))) fun v19 h19 =>
  bnd (gd v17 false h19 (pu h19 (bin Tryd.prog .gtr 3 true v19 (.int .i64 65536)))) fun v20 h20 =>
  bnd (pu h20 (pickA v17 (.bool true) v20)) fun v21 h21 =>
  condA v21
  (bnd (pureCall (alembicref_Bare.f G k) [(.int .i64 103)] h21) fun v22 h22 =>
  bnd (stS (storeV 3 v1 v22 h22)) fun v23 h23 =>
  finL [loadV G true 3 v1 h23] h.length h23)
  (thenK (loopN (alembicref17_Valid.l4 G k h21.length self) k [v0, v1, (.int .i64 0)] h21) fun e24 x24 h24 => exK e24
  (bnd (pureCall (alembicref_None.f G k) [] h24) fun v163 h163 =>
  bnd (stS (storeV 3 (nth x24 1) v163 h163)) fun v164 h164 =>
  finL [loadV G true 3 (nth x24 1) h164] h.length h164)
  (fun i24 => if i24 = 0 then (bnd (pureCall (alembicref_None.f G k) [] h24) fun v165 h165 =>
  bnd (stS (storeV 3 (nth x24 1) v165 h165)) fun v166 h166 =>
  finL [loadV G true 3 (nth x24 1) h166] h.length h166) else (none))
  (finL [loadV G true 3 (nth x24 1) h24] h.length h24)))
noncomputable def alembicref17_Valid.f (G : Globs) : Nat → Den
  | 0 => fun _ _ => none
  | k + 1 => fun args h => arg1 args fun x0 => (alembicref17_Valid.c G k (alembicref17_Valid.f G k) x0 h)
theorem alembicref17_Valid.step (G : Globs) (k : Nat) (x0 : AV) (h : AHeap) : alembicref17_Valid.f G (k + 1) [x0] h = alembicref17_Valid.c G k (alembicref17_Valid.f G k) x0 h := rfl
/-! alembic/alembiclaw17.other: function 15 -/
noncomputable def alembiclaw17_other.ann : Ann := mkAnn [] [] [] []
noncomputable def alembiclaw17_other.env (G : Globs) (k : Nat) (self : Den) : List (Nat × Bool × Den) := []
noncomputable def alembiclaw17_other.c (G : Globs) (k : Nat) (self : Den) (x0 : AV) (h : AHeap) : Option (AV × AHeap) := outV (
  bnd (boxRoA x0 h) fun v0 h0 =>
  bnd (boxA 31 (.agg [.nils, (.int .i64 0), (.int .i64 0)]) h0) fun v1 h1 =>
  bnd (pu h1 (fieldAddrV 0 v0)) fun v2 h2 =>
  bnd (pu h2 (loadV G false 1 v2 h2)) fun v3 h3 =>
  bnd (pu h3 (fieldAddrV 1 v0)) fun v4 h4 =>
  bnd (pu h4 (loadV G false 1 v4 h4)) fun v5 h5 =>
  bnd (pu h5 (fieldAddrV 2 v0)) fun v6 h6 =>
  bnd (pu h6 (loadV G false 1 v6 h6)) fun v7 h7 =>
  bnd (pu h7 (buildSt [(0, 1), (1, 1), (2, 1)] [.nils, (.int .i64 0), (.int .i64 0)] [(0, v3), (1, v5), (2, v7)])) fun v8 h8 =>
  bnd (stS (storeV 3 v1 v8 h8)) fun v9 h9 =>
  finL [loadV G true 3 v1 h9] h.length h9)
noncomputable def alembiclaw17_other.f (G : Globs) : Nat → Den
  | 0 => fun _ _ => none
  | k + 1 => fun args h => arg1 args fun x0 => (alembiclaw17_other.c G k (alembiclaw17_other.f G k) x0 h)
theorem alembiclaw17_other.step (G : Globs) (k : Nat) (x0 : AV) (h : AHeap) : alembiclaw17_other.f G (k + 1) [x0] h = alembiclaw17_other.c G k (alembiclaw17_other.f G k) x0 h := rfl
/-! alembic/alembicref.SameFault: function 41 -/
noncomputable def alembicref_SameFault.ann : Ann := mkAnn [] [] [] []
noncomputable def alembicref_SameFault.env (G : Globs) (k : Nat) (self : Den) : List (Nat × Bool × Den) := []
noncomputable def alembicref_SameFault.c (G : Globs) (k : Nat) (self : Den) (x0 x1 : AV) (h : AHeap) : Option (AV × AHeap) := outV (
  bnd (boxRoA x0 h) fun v0 h0 =>
  bnd (boxRoA x1 h0) fun v1 h1 =>
  bnd (pu h1 (fieldAddrV 0 v0)) fun v2 h2 =>
  bnd (pu h2 (loadV G false 1 v2 h2)) fun v3 h3 =>
  bnd (pu h3 (fieldAddrV 0 v1)) fun v4 h4 =>
  bnd (pu h4 (loadV G false 1 v4 h4)) fun v5 h5 =>
  bnd (pu h5 (bin Tryd.prog .eql 3 false v3 v5)) fun v6 h6 =>
  bnd (gd v6 true h6 (pu h6 (fieldAddrV 1 v0))) fun v7 h7 =>
  bnd (gd v6 true h7 (pu h7 (loadV G false 1 v7 h7))) fun v8 h8 =>
  bnd (gd v6 true h8 (pu h8 (fieldAddrV 1 v1))) fun v9 h9 =>
  bnd (gd v6 true h9 (pu h9 (loadV G false 1 v9 h9))) fun v10 h10 =>
  bnd (gd v6 true h10 (pu h10 (bin Tryd.prog .eql 4 false v8 v10))) fun v11 h11 =>
  bnd (pu h11 (pickA v6 v11 (.bool false))) fun v12 h12 =>
  bnd (gd v12 true h12 (pu h12 (fieldAddrV 2 v0))) fun v13 h13 =>
  bnd (gd v12 true h13 (pu h13 (loadV G false 1 v13 h13))) fun v14 h14 =>
  bnd (gd v12 true h14 (pu h14 (fieldAddrV 2 v1))) fun v15 h15 =>
  bnd (gd v12 true h15 (pu h15 (loadV G false 1 v15 h15))) fun v16 h16 =>
  bnd (gd v12 true h16 (pu h16 (bin Tryd.prog .eql 3 false v14 v16))) fun v17 h17 =>
  bnd (pu h17 (pickA v12 v17 (.bool false))) fun v18 h18 =>
  finV [v18] h.length h18)
noncomputable def alembicref_SameFault.f (G : Globs) : Nat → Den
  | 0 => fun _ _ => none
  | k + 1 => fun args h => arg2 args fun x0 x1 => (alembicref_SameFault.c G k (alembicref_SameFault.f G k) x0 x1 h)
theorem alembicref_SameFault.step (G : Globs) (k : Nat) (x0 x1 : AV) (h : AHeap) : alembicref_SameFault.f G (k + 1) [x0, x1] h = alembicref_SameFault.c G k (alembicref_SameFault.f G k) x0 x1 h := rfl
/-! alembic/alembicsee.sentinels: function 86 -/
noncomputable def alembicsee_sentinels.ann : Ann := mkAnn [] [] [] []
noncomputable def alembicsee_sentinels.env (G : Globs) (k : Nat) (self : Den) : List (Nat × Bool × Den) := []
noncomputable def alembicsee_sentinels.c (G : Globs) (k : Nat) (self : Den) (h : AHeap) : Option (AV × AHeap) := outV (
  bnd (pu h (loadV G false 1 (.gl 2) h)) fun v0 h0 =>
  bnd (pu h0 (loadV G false 1 (.gl 1) h0)) fun v1 h1 =>
  bnd (pu h1 (loadV G false 1 (.gl 0) h1)) fun v2 h2 =>
  bnd (pu h2 (loadV G false 1 (.gl 3) h2)) fun v3 h3 =>
  bnd (pu h3 (loadV G false 1 (.gl 6) h3)) fun v4 h4 =>
  bnd (pu h4 (loadV G false 1 (.gl 4) h4)) fun v5 h5 =>
  bnd (pu h5 (loadV G false 1 (.gl 7) h5)) fun v6 h6 =>
  bnd (pu h6 (loadV G false 1 (.gl 8) h6)) fun v7 h7 =>
  bnd (pu h7 (loadV G false 1 (.gl 5) h7)) fun v8 h8 =>
  bnd (pu h8 (loadV G false 1 (.gl 9) h8)) fun v9 h9 =>
  bnd (pu h9 (loadV G false 1 (.gl 10) h9)) fun v10 h10 =>
  bnd (pu h10 (loadV G false 1 (.gl 11) h10)) fun v11 h11 =>
  bnd (pu h11 (loadV G false 1 (.gl 12) h11)) fun v12 h12 =>
  bnd (pu h12 (loadV G false 1 (.gl 13) h12)) fun v13 h13 =>
  bnd (buildRo 1 14 .nili [(0, v0), (1, v1), (2, v2), (3, v3), (4, v4), (5, v5), (6, v6), (7, v7), (8, v8), (9, v9), (10, v10), (11, v11), (12, v12), (13, v13)] h13) fun v14 h14 =>
  finV [v14] h.length h14)
noncomputable def alembicsee_sentinels.f (G : Globs) : Nat → Den
  | 0 => fun _ _ => none
  | k + 1 => fun args h => arg0 args (alembicsee_sentinels.c G k (alembicsee_sentinels.f G k) h)
theorem alembicsee_sentinels.step (G : Globs) (k : Nat) (h : AHeap) : alembicsee_sentinels.f G (k + 1) [] h = alembicsee_sentinels.c G k (alembicsee_sentinels.f G k) h := rfl
/-! alembic/alembicsee.Alike: function 87 -/
noncomputable def alembicsee_Alike.ann : Ann := mkAnn [] [] [] []
noncomputable def alembicsee_Alike.env (G : Globs) (k : Nat) (self : Den) : List (Nat × Bool × Den) := []
noncomputable def alembicsee_Alike.c (G : Globs) (k : Nat) (self : Den) (x0 x1 : AV) (h : AHeap) : Option (AV × AHeap) := outV (
  bnd (pu h (bin Tryd.prog .eql 35 true x0 .nili)) fun v0 h0 =>
  bnd (gd v0 false h0 (some (x1, h0))) fun v1 h1 =>
  bnd (gd v0 false h1 (pu h1 (bin Tryd.prog .eql 35 true v1 .nili))) fun v2 h2 =>
  bnd (pu h2 (pickA v0 (.bool true) v2)) fun v3 h3 =>
  condA v3
  (bnd (pu h3 (bin Tryd.prog .eql 35 true x0 .nili)) fun v4 h4 =>
  bnd (gd v4 true h4 (some (x1, h4))) fun v5 h5 =>
  bnd (gd v4 true h5 (pu h5 (bin Tryd.prog .eql 35 true v5 .nili))) fun v6 h6 =>
  bnd (pu h6 (pickA v4 v6 (.bool false))) fun v7 h7 =>
  finV [v7] h.length h7)
  (bnd (pu h3 (bin Tryd.prog .eql 35 false x0 x1)) fun v8 h8 =>
  finV [v8] h.length h8))
noncomputable def alembicsee_Alike.f (G : Globs) : Nat → Den
  | 0 => fun _ _ => none
  | k + 1 => fun args h => arg2 args fun x0 x1 => (alembicsee_Alike.c G k (alembicsee_Alike.f G k) x0 x1 h)
theorem alembicsee_Alike.step (G : Globs) (k : Nat) (x0 x1 : AV) (h : AHeap) : alembicsee_Alike.f G (k + 1) [x0, x1] h = alembicsee_Alike.c G k (alembicsee_Alike.f G k) x0 x1 h := rfl
/-! alembic/alembicsee.sentinel: function 71 -/
noncomputable def alembicsee_sentinel.ann : Ann := mkAnn [] [] [(3, [0, 2, 3, 4])] []
noncomputable def alembicsee_sentinel.env (G : Globs) (k : Nat) (self : Den) : List (Nat × Bool × Den) := [(86, true, alembicsee_sentinels.f G k), (87, true, alembicsee_Alike.f G k)]
noncomputable def alembicsee_sentinel.l3 (G : Globs) (k n0 : Nat) (self : Den) (lp : LoopF) : LoopF := fun xs h0 => cutK n0 xs h0 fun h =>
  bnd (pu h (lenSl (nth xs 2))) fun v2 h2 =>
  bnd (pu h2 (bin Tryd.prog .lss 3 false (nth xs 3) v2)) fun v3 h3 =>
  condA v3
  (bnd (pu h3 (idxAddrSl 1 (nth xs 2) (nth xs 3))) fun v4 h4 =>
  bnd (pu h4 (loadV G false 1 v4 h4)) fun v5 h5 =>
  bnd (pureCall (alembicsee_Alike.f G k) [(nth xs 0), v5] h5) fun v6 h6 =>
  condA v6
  (bnd (pu h6 (bin Tryd.prog .add 3 true (.int .i64 101) (nth xs 3))) fun v7 h7 =>
  some (.ret, [(nth xs 0), v7, (nth xs 2), (nth xs 3)], h7))
  (bnd (pu h6 (bin Tryd.prog .add 3 true (nth xs 3) (.int .i64 1))) fun v8 h8 =>
  lp [(nth xs 0), (nth xs 1), (nth xs 2), v8] h8))
  (some (.exit 0, [(nth xs 0), (nth xs 1), (nth xs 2), (nth xs 3)], h3))
noncomputable def alembicsee_sentinel.c (G : Globs) (k : Nat) (self : Den) (x0 : AV) (h : AHeap) : Option (AV × AHeap) := outV (
  bnd (pureCall (alembicsee_sentinels.f G k) [] h) fun v0 h0 =>
  thenK (loopN (alembicsee_sentinel.l3 G k h0.length self) k [x0, (.int .i64 0), v0, (.int .i64 0)] h0) fun e1 x1 h1 => exK e1
  (finV [(.int .i64 (-1))] h.length h1)
  (fun i1 => if i1 = 0 then (finV [(.int .i64 (-1))] h.length h1) else (none))
  (finV [(nth x1 1)] h.length h1))
noncomputable def alembicsee_sentinel.f (G : Globs) : Nat → Den
  | 0 => fun _ _ => none
  | k + 1 => fun args h => arg1 args fun x0 => (alembicsee_sentinel.c G k (alembicsee_sentinel.f G k) x0 h)
theorem alembicsee_sentinel.step (G : Globs) (k : Nat) (x0 : AV) (h : AHeap) : alembicsee_sentinel.f G (k + 1) [x0] h = alembicsee_sentinel.c G k (alembicsee_sentinel.f G k) x0 h := rfl
/-! alembic/alembicsee.Fault: function 42 -/
noncomputable def alembicsee_Fault.ann : Ann := mkAnn [] [] [] []
noncomputable def alembicsee_Fault.env (G : Globs) (k : Nat) (self : Den) : List (Nat × Bool × Den) := [(18, true, alembicref_Bare.f G k), (39, true, alembicref_Placed.f G k), (40, true, alembicref_None.f G k), (71, true, alembicsee_sentinel.f G k)]
noncomputable def alembicsee_Fault.c (G : Globs) (k : Nat) (self : Den) (x0 : AV) (h : AHeap) : Option (AV × AHeap) := outV (
  bnd (boxA 29 (.agg [(.int .i64 0), (.bool false), (.int .i64 0)]) h) fun v0 h0 =>
  bnd (pu h0 (bin Tryd.prog .eql 35 true x0 .nili)) fun v1 h1 =>
  condA v1
  (bnd (pureCall (alembicref_None.f G k) [] h1) fun v2 h2 =>
  bnd (stS (storeV 3 v0 v2 h2)) fun v3 h3 =>
  finL [loadV G true 3 v0 h3] h.length h3)
  (bnd (pu h1 (assertV 89 .nilp true x0)) fun v4 h4 =>
  bnd (pu h4 (extractA v4 0)) fun v5 h5 =>
  bnd (pu h5 (extractA v4 1)) fun v6 h6 =>
  bnd (pu h6 (un .not v6)) fun v7 h7 =>
  condA v7
  (bnd (pureCall (alembicsee_sentinel.f G k) [x0] h7) fun v8 h8 =>
  bnd (pureCall (alembicref_Bare.f G k) [v8] h8) fun v9 h9 =>
  bnd (stS (storeV 3 v0 v9 h9)) fun v10 h10 =>
  finL [loadV G true 3 v0 h10] h.length h10)
  (bnd (pu h7 (bin Tryd.prog .eql 89 true v5 .nilp)) fun v11 h11 =>
  bnd (gd v11 false h11 (some (v5, h11))) fun v12 h12 =>
  bnd (gd v11 false h12 (pu h12 (nilA v12))) fun v13 h13 =>
  bnd (gd v11 false h13 (pu h13 (fieldAddrV 1 v13))) fun v14 h14 =>
  bnd (gd v11 false h14 (pu h14 (loadV G false 1 v14 h14))) fun v15 h15 =>
  bnd (gd v11 false h15 (pu h15 (bin Tryd.prog .eql 35 true v15 .nili))) fun v16 h16 =>
  bnd (pu h16 (pickA v11 (.bool true) v16)) fun v17 h17 =>
  condA v17
  (bnd (pureCall (alembicref_Bare.f G k) [(.int .i64 (-1))] h17) fun v18 h18 =>
  bnd (stS (storeV 3 v0 v18 h18)) fun v19 h19 =>
  finL [loadV G true 3 v0 h19] h.length h19)
  (bnd (pu h17 (nilA v5)) fun v20 h20 =>
  bnd (pu h20 (fieldAddrV 1 v20)) fun v21 h21 =>
  bnd (pu h21 (loadV G false 1 v21 h21)) fun v22 h22 =>
  bnd (pureCall (alembicsee_sentinel.f G k) [v22] h22) fun v23 h23 =>
  bnd (pu h23 (nilA v5)) fun v24 h24 =>
  bnd (pu h24 (fieldAddrV 0 v24)) fun v25 h25 =>
  bnd (pu h25 (loadV G false 1 v25 h25)) fun v26 h26 =>
  bnd (pureCall (alembicref_Placed.f G k) [v23, v26] h26) fun v27 h27 =>
  bnd (stS (storeV 3 v0 v27 h27)) fun v28 h28 =>
  finL [loadV G true 3 v0 h28] h.length h28))))
noncomputable def alembicsee_Fault.f (G : Globs) : Nat → Den
  | 0 => fun _ _ => none
  | k + 1 => fun args h => arg1 args fun x0 => (alembicsee_Fault.c G k (alembicsee_Fault.f G k) x0 h)
theorem alembicsee_Fault.step (G : Globs) (k : Nat) (x0 : AV) (h : AHeap) : alembicsee_Fault.f G (k + 1) [x0] h = alembicsee_Fault.c G k (alembicsee_Fault.f G k) x0 h := rfl
/-! alembic/alembicsee.Same: function 16 -/
noncomputable def alembicsee_Same.ann : Ann := mkAnn [] [] [] []
noncomputable def alembicsee_Same.env (G : Globs) (k : Nat) (self : Den) : List (Nat × Bool × Den) := [(41, true, alembicref_SameFault.f G k), (42, true, alembicsee_Fault.f G k)]
noncomputable def alembicsee_Same.c (G : Globs) (k : Nat) (self : Den) (x0 x1 : AV) (h : AHeap) : Option (AV × AHeap) := outV (
  bnd (boxRoA x1 h) fun v0 h0 =>
  bnd (pureCall (alembicsee_Fault.f G k) [x0] h0) fun v1 h1 =>
  bnd (pu h1 (loadV G true 3 v0 h1)) fun v2 h2 =>
  bnd (pureCall (alembicref_SameFault.f G k) [v1, v2] h2) fun v3 h3 =>
  finV [v3] h.length h3)
noncomputable def alembicsee_Same.f (G : Globs) : Nat → Den
  | 0 => fun _ _ => none
  | k + 1 => fun args h => arg2 args fun x0 x1 => (alembicsee_Same.c G k (alembicsee_Same.f G k) x0 x1 h)
theorem alembicsee_Same.step (G : Globs) (k : Nat) (x0 x1 : AV) (h : AHeap) : alembicsee_Same.f G (k + 1) [x0, x1] h = alembicsee_Same.c G k (alembicsee_Same.f G k) x0 x1 h := rfl
/-! alembic/alembicref17.Sum: function 56 -/
noncomputable def alembicref17_Sum.ann : Ann := mkAnn [] [] [] []
noncomputable def alembicref17_Sum.env (G : Globs) (k : Nat) (self : Den) : List (Nat × Bool × Den) := []
noncomputable def alembicref17_Sum.c (G : Globs) (k : Nat) (self : Den) (x0 x1 : AV) (h : AHeap) : Option (AV × AHeap) := outV (
  bnd (pu h (bin Tryd.prog .add 2 false x0 x1)) fun v0 h0 =>
  bnd (pu h0 (bin Tryd.prog .gtr 2 false v0 x0)) fun v1 h1 =>
  bnd (pu h1 (bin Tryd.prog .gtr 2 true x1 (.int .i64 0))) fun v2 h2 =>
  bnd (pu h2 (bin Tryd.prog .eql 4 false v1 v2)) fun v3 h3 =>
  bnd (gd v3 false h3 (some (x1, h3))) fun v4 h4 =>
  bnd (gd v3 false h4 (pu h4 (bin Tryd.prog .eql 2 true v4 (.int .i64 0)))) fun v5 h5 =>
  bnd (pu h5 (pickA v3 (.bool true) v5)) fun v6 h6 =>
  finV [v0, v6] h.length h6)
noncomputable def alembicref17_Sum.f (G : Globs) : Nat → Den
  | 0 => fun _ _ => none
  | k + 1 => fun args h => arg2 args fun x0 x1 => (alembicref17_Sum.c G k (alembicref17_Sum.f G k) x0 x1 h)
theorem alembicref17_Sum.step (G : Globs) (k : Nat) (x0 x1 : AV) (h : AHeap) : alembicref17_Sum.f G (k + 1) [x0, x1] h = alembicref17_Sum.c G k (alembicref17_Sum.f G k) x0 x1 h := rfl
/-! alembic/alembicref17.cut: function 57 -/
noncomputable def alembicref17_cut.ann : Ann := mkAnn [] [] [] []
noncomputable def alembicref17_cut.env (G : Globs) (k : Nat) (self : Den) : List (Nat × Bool × Den) := []
noncomputable def alembicref17_cut.c (G : Globs) (k : Nat) (self : Den) (x0 x1 : AV) (h : AHeap) : Option (AV × AHeap) := outV (
  bnd (pu h (un .not x1)) fun v0 h0 =>
  condA v0
  (finV [(.int .i64 0), (.bool false)] h.length h0)
  (finV [x0, (.bool true)] h.length h0))
noncomputable def alembicref17_cut.f (G : Globs) : Nat → Den
  | 0 => fun _ _ => none
  | k + 1 => fun args h => arg2 args fun x0 x1 => (alembicref17_cut.c G k (alembicref17_cut.f G k) x0 x1 h)
theorem alembicref17_cut.step (G : Globs) (k : Nat) (x0 x1 : AV) (h : AHeap) : alembicref17_cut.f G (k + 1) [x0, x1] h = alembicref17_cut.c G k (alembicref17_cut.f G k) x0 x1 h := rfl
/-! alembic/alembicref17.Less: function 58 -/
noncomputable def alembicref17_Less.ann : Ann := mkAnn [] [] [] []
noncomputable def alembicref17_Less.env (G : Globs) (k : Nat) (self : Den) : List (Nat × Bool × Den) := []
noncomputable def alembicref17_Less.c (G : Globs) (k : Nat) (self : Den) (x0 x1 : AV) (h : AHeap) : Option (AV × AHeap) := outV (
  bnd (pu h (bin Tryd.prog .sub 2 false x0 x1)) fun v0 h0 =>
  bnd (pu h0 (bin Tryd.prog .lss 2 false v0 x0)) fun v1 h1 =>
  bnd (pu h1 (bin Tryd.prog .gtr 2 true x1 (.int .i64 0))) fun v2 h2 =>
  bnd (pu h2 (bin Tryd.prog .eql 4 false v1 v2)) fun v3 h3 =>
  bnd (gd v3 false h3 (some (x1, h3))) fun v4 h4 =>
  bnd (gd v3 false h4 (pu h4 (bin Tryd.prog .eql 2 true v4 (.int .i64 0)))) fun v5 h5 =>
  bnd (pu h5 (pickA v3 (.bool true) v5)) fun v6 h6 =>
  finV [v0, v6] h.length h6)
noncomputable def alembicref17_Less.f (G : Globs) : Nat → Den
  | 0 => fun _ _ => none
  | k + 1 => fun args h => arg2 args fun x0 x1 => (alembicref17_Less.c G k (alembicref17_Less.f G k) x0 x1 h)
theorem alembicref17_Less.step (G : Globs) (k : Nat) (x0 x1 : AV) (h : AHeap) : alembicref17_Less.f G (k + 1) [x0, x1] h = alembicref17_Less.c G k (alembicref17_Less.f G k) x0 x1 h := rfl
/-! alembic/alembicref17.Product: function 59 -/
noncomputable def alembicref17_Product.ann : Ann := mkAnn [] [] [] [(7, [0, 1, 6, 7]), (5, [0, 1, 6, 7])]
noncomputable def alembicref17_Product.env (G : Globs) (k : Nat) (self : Den) : List (Nat × Bool × Den) := [(49, true, math_bits_Mul64.f G k), (57, true, alembicref17_cut.f G k)]
noncomputable def alembicref17_Product.c (G : Globs) (k : Nat) (self : Den) (x0 x1 : AV) (h : AHeap) : Option (AV × AHeap) := outV (
  bnd (pu h (convInt .u64 x0)) fun v0 h0 =>
  bnd (pu h0 (convInt .u64 x1)) fun v1 h1 =>
  thenK (
  bnd (pu h1 (bin Tryd.prog .lss 2 true x0 (.int .i64 0))) fun v2 h2 =>
  condA v2
  (bnd (pu h2 (un .neg v0)) fun v3 h3 =>
  some (.normal, [x0, x1, v3, v1], h3))
  (some (.normal, [x0, x1, v0, v1], h2))) fun e4 x4 h4 => exK e4
  (thenK (
  bnd (pu h4 (bin Tryd.prog .lss 2 true (nth x4 1) (.int .i64 0))) fun v5 h5 =>
  condA v5
  (bnd (pu h5 (un .neg (nth x4 3))) fun v6 h6 =>
  some (.normal, [(nth x4 0), (nth x4 1), (nth x4 2), v6], h6))
  (some (.normal, [(nth x4 0), (nth x4 1), (nth x4 2), (nth x4 3)], h5))) fun e7 x7 h7 => exK e7
  (bnd (pureCall (math_bits_Mul64.f G k) [(nth x7 2), (nth x7 3)] h7) fun v8 h8 =>
  bnd (pu h8 (extractA v8 0)) fun v9 h9 =>
  bnd (pu h9 (extractA v8 1)) fun v10 h10 =>
  bnd (pu h10 (bin Tryd.prog .neq 48 true v9 (.int .u64 0))) fun v11 h11 =>
  condA v11
  (finV [(.int .i64 0), (.bool false)] h.length h11)
  (bnd (pu h11 (bin Tryd.prog .lss 2 true (nth x7 0) (.int .i64 0))) fun v12 h12 =>
  bnd (pu h12 (bin Tryd.prog .lss 2 true (nth x7 1) (.int .i64 0))) fun v13 h13 =>
  bnd (pu h13 (bin Tryd.prog .neq 4 false v12 v13)) fun v14 h14 =>
  condA v14
  (bnd (pu h14 (bin Tryd.prog .eql 48 true v10 (.int .u64 9223372036854775808))) fun v15 h15 =>
  condA v15
  (finV [(.int .i64 (-9223372036854775808)), (.bool true)] h.length h15)
  (bnd (pu h15 (bin Tryd.prog .and 48 true v10 (.int .u64 9223372036854775807))) fun v16 h16 =>
  bnd (pu h16 (convInt .i64 v16)) fun v17 h17 =>
  bnd (pu h17 (un .neg v17)) fun v18 h18 =>
  bnd (pu h18 (bin Tryd.prog .lss 48 true v10 (.int .u64 9223372036854775808))) fun v19 h19 =>
  bnd (pureCall (alembicref17_cut.f G k) [v18, v19] h19) fun v20 h20 =>
  bnd (pu h20 (extractA v20 0)) fun v21 h21 =>
  bnd (pu h21 (extractA v20 1)) fun v22 h22 =>
  finV [v21, v22] h.length h22))
  (bnd (pu h14 (convInt .i64 v10)) fun v23 h23 =>
  bnd (pu h23 (bin Tryd.prog .lss 48 true v10 (.int .u64 9223372036854775808))) fun v24 h24 =>
  finV [v23, v24] h.length h24)))
  (fun i7 => none)
  (finV [.undef, .undef] h.length h7))
  (fun i4 => none)
  (finV [.undef, .undef] h.length h4))
noncomputable def alembicref17_Product.f (G : Globs) : Nat → Den
  | 0 => fun _ _ => none
  | k + 1 => fun args h => arg2 args fun x0 x1 => (alembicref17_Product.c G k (alembicref17_Product.f G k) x0 x1 h)
theorem alembicref17_Product.step (G : Globs) (k : Nat) (x0 x1 : AV) (h : AHeap) : alembicref17_Product.f G (k + 1) [x0, x1] h = alembicref17_Product.c G k (alembicref17_Product.f G k) x0 x1 h := rfl
/-! alembic/alembicref17.Exact: function 29 -/
noncomputable def alembicref17_Exact.ann : Ann := mkAnn [] [] [] []
noncomputable def alembicref17_Exact.env (G : Globs) (k : Nat) (self : Den) : List (Nat × Bool × Den) := [(56, true, alembicref17_Sum.f G k), (57, true, alembicref17_cut.f G k), (58, true, alembicref17_Less.f G k), (59, true, alembicref17_Product.f G k)]
noncomputable def alembicref17_Exact.c (G : Globs) (k : Nat) (self : Den) (x0 x1 x2 : AV) (h : AHeap) : Option (AV × AHeap) := outV (
  bnd (boxRoA x0 h) fun v0 h0 =>
  bnd (pu h0 (fieldAddrV 0 v0)) fun v1 h1 =>
  bnd (pu h1 (loadV G false 1 v1 h1)) fun v2 h2 =>
  bnd (pu h2 (bin Tryd.prog .eql 3 true v2 (.int .i64 3))) fun v3 h3 =>
  condA v3
  (bnd (pu h3 (convInt .i64 x1)) fun v4 h4 =>
  bnd (pu h4 (convInt .i64 x2)) fun v5 h5 =>
  bnd (pureCall (alembicref17_Sum.f G k) [v4, v5] h5) fun v6 h6 =>
  bnd (pu h6 (extractA v6 0)) fun v7 h7 =>
  bnd (pu h7 (extractA v6 1)) fun v8 h8 =>
  bnd (pureCall (alembicref17_cut.f G k) [v7, v8] h8) fun v9 h9 =>
  bnd (pu h9 (extractA v9 0)) fun v10 h10 =>
  bnd (pu h10 (extractA v9 1)) fun v11 h11 =>
  finV [v10, v11] h.length h11)
  (bnd (pu h3 (bin Tryd.prog .eql 3 true v2 (.int .i64 4))) fun v12 h12 =>
  condA v12
  (bnd (pu h12 (convInt .i64 x1)) fun v13 h13 =>
  bnd (pu h13 (convInt .i64 x2)) fun v14 h14 =>
  bnd (pureCall (alembicref17_Less.f G k) [v13, v14] h14) fun v15 h15 =>
  bnd (pu h15 (extractA v15 0)) fun v16 h16 =>
  bnd (pu h16 (extractA v15 1)) fun v17 h17 =>
  bnd (pureCall (alembicref17_cut.f G k) [v16, v17] h17) fun v18 h18 =>
  bnd (pu h18 (extractA v18 0)) fun v19 h19 =>
  bnd (pu h19 (extractA v18 1)) fun v20 h20 =>
  finV [v19, v20] h.length h20)
  (bnd (pu h12 (bin Tryd.prog .eql 3 true v2 (.int .i64 5))) fun v21 h21 =>
  condA v21
  (bnd (pu h21 (convInt .i64 x1)) fun v22 h22 =>
  bnd (pu h22 (convInt .i64 x2)) fun v23 h23 =>
  bnd (pureCall (alembicref17_Product.f G k) [v22, v23] h23) fun v24 h24 =>
  bnd (pu h24 (extractA v24 0)) fun v25 h25 =>
  bnd (pu h25 (extractA v24 1)) fun v26 h26 =>
  bnd (pureCall (alembicref17_cut.f G k) [v25, v26] h26) fun v27 h27 =>
  bnd (pu h27 (extractA v27 0)) fun v28 h28 =>
  bnd (pu h28 (extractA v27 1)) fun v29 h29 =>
  finV [v28, v29] h.length h29)
  (bnd (pu h21 (bin Tryd.prog .eql 3 true v2 (.int .i64 10))) fun v30 h30 =>
  condA v30
  (bnd (pu h30 (fieldAddrV 5 v0)) fun v31 h31 =>
  bnd (pu h31 (loadV G false 1 v31 h31)) fun v32 h32 =>
  bnd (pu h32 (bin Tryd.prog .lss 2 true v32 (.int .i64 0))) fun v33 h33 =>
  bnd (gd v33 false h33 (pu h33 (fieldAddrV 5 v0))) fun v34 h34 =>
  bnd (gd v33 false h34 (pu h34 (loadV G false 1 v34 h34))) fun v35 h35 =>
  bnd (gd v33 false h35 (pu h35 (bin Tryd.prog .gtr 2 true v35 (.int .i64 63)))) fun v36 h36 =>
  bnd (pu h36 (pickA v33 (.bool true) v36)) fun v37 h37 =>
  condA v37
  (finV [(.int .i64 0), (.bool false)] h.length h37)
  (bnd (pu h37 (convInt .i64 x1)) fun v38 h38 =>
  bnd (pu h38 (fieldAddrV 5 v0)) fun v39 h39 =>
  bnd (pu h39 (loadV G false 1 v39 h39)) fun v40 h40 =>
  bnd (pu h40 (convInt .u64 v40)) fun v41 h41 =>
  bnd (pu h41 (bin Tryd.prog .shl 2 false v38 v41)) fun v42 h42 =>
  bnd (pu h42 (fieldAddrV 5 v0)) fun v43 h43 =>
  bnd (pu h43 (loadV G false 1 v43 h43)) fun v44 h44 =>
  bnd (pu h44 (convInt .u64 v44)) fun v45 h45 =>
  bnd (pu h45 (bin Tryd.prog .shr 2 false v42 v45)) fun v46 h46 =>
  bnd (pu h46 (convInt .i64 x1)) fun v47 h47 =>
  bnd (pu h47 (bin Tryd.prog .eql 2 false v46 v47)) fun v48 h48 =>
  bnd (pureCall (alembicref17_cut.f G k) [v42, v48] h48) fun v49 h49 =>
  bnd (pu h49 (extractA v49 0)) fun v50 h50 =>
  bnd (pu h50 (extractA v49 1)) fun v51 h51 =>
  finV [v50, v51] h.length h51))
  (finV [(.int .i64 0), (.bool false)] h.length h30)))))
noncomputable def alembicref17_Exact.f (G : Globs) : Nat → Den
  | 0 => fun _ _ => none
  | k + 1 => fun args h => arg3 args fun x0 x1 x2 => (alembicref17_Exact.c G k (alembicref17_Exact.f G k) x0 x1 x2 h)
theorem alembicref17_Exact.step (G : Globs) (k : Nat) (x0 x1 x2 : AV) (h : AHeap) : alembicref17_Exact.f G (k + 1) [x0, x1, x2] h = alembicref17_Exact.c G k (alembicref17_Exact.f G k) x0 x1 x2 h := rfl
/-! alembic/alembicref17.Value: function 32 -/
noncomputable def alembicref17_Value.ann : Ann := mkAnn [] [] [] []
noncomputable def alembicref17_Value.env (G : Globs) (k : Nat) (self : Den) : List (Nat × Bool × Den) := [(49, true, math_bits_Mul64.f G k)]
noncomputable def alembicref17_Value.c (G : Globs) (k : Nat) (self : Den) (x0 x1 x2 x3 : AV) (h : AHeap) : Option (AV × AHeap) := outV (
  bnd (boxRoA x0 h) fun v0 h0 =>
  bnd (pu h0 (fieldAddrV 5 v0)) fun v1 h1 =>
  bnd (pu h1 (loadV G false 1 v1 h1)) fun v2 h2 =>
  bnd (pu h2 (bin Tryd.prog .and 2 true v2 (.int .i64 63))) fun v3 h3 =>
  bnd (pu h3 (convInt .u64 v3)) fun v4 h4 =>
  bnd (pu h4 (fieldAddrV 5 v0)) fun v5 h5 =>
  bnd (pu h5 (loadV G false 1 v5 h5)) fun v6 h6 =>
  bnd (pu h6 (bin Tryd.prog .geq 2 true v6 (.int .i64 0))) fun v7 h7 =>
  bnd (gd v7 true h7 (pu h7 (fieldAddrV 5 v0))) fun v8 h8 =>
  bnd (gd v7 true h8 (pu h8 (loadV G false 1 v8 h8))) fun v9 h9 =>
  bnd (gd v7 true h9 (pu h9 (bin Tryd.prog .leq 2 true v9 (.int .i64 63)))) fun v10 h10 =>
  bnd (pu h10 (pickA v7 v10 (.bool false))) fun v11 h11 =>
  bnd (pu h11 (fieldAddrV 0 v0)) fun v12 h12 =>
  bnd (pu h12 (loadV G false 1 v12 h12)) fun v13 h13 =>
  bnd (pu h13 (bin Tryd.prog .eql 3 true v13 (.int .i64 1))) fun v14 h14 =>
  condA v14
  (bnd (pu h14 (fieldAddrV 5 v0)) fun v15 h15 =>
  bnd (pu h15 (loadV G false 1 v15 h15)) fun v16 h16 =>
  bnd (pu h16 (convInt .u64 v16)) fun v17 h17 =>
  finV [v17, (.bool true)] h.length h17)
  (bnd (pu h14 (bin Tryd.prog .eql 3 true v13 (.int .i64 2))) fun v18 h18 =>
  condA v18
  (finV [x1, (.bool true)] h.length h18)
  (bnd (pu h18 (bin Tryd.prog .eql 3 true v13 (.int .i64 3))) fun v19 h19 =>
  condA v19
  (bnd (pu h19 (bin Tryd.prog .add 48 false x1 x2)) fun v20 h20 =>
  finV [v20, (.bool true)] h.length h20)
  (bnd (pu h19 (bin Tryd.prog .eql 3 true v13 (.int .i64 4))) fun v21 h21 =>
  condA v21
  (bnd (pu h21 (bin Tryd.prog .sub 48 false x1 x2)) fun v22 h22 =>
  finV [v22, (.bool true)] h.length h22)
  (bnd (pu h21 (bin Tryd.prog .eql 3 true v13 (.int .i64 5))) fun v23 h23 =>
  condA v23
  (bnd (pu h23 (bin Tryd.prog .mul 48 false x1 x2)) fun v24 h24 =>
  finV [v24, (.bool true)] h.length h24)
  (bnd (pu h23 (bin Tryd.prog .eql 3 true v13 (.int .i64 6))) fun v25 h25 =>
  condA v25
  (bnd (pureCall (math_bits_Mul64.f G k) [x1, x2] h25) fun v26 h26 =>
  bnd (pu h26 (extractA v26 0)) fun v27 h27 =>
  bnd (pu h27 (extractA v26 1)) fun v28 h28 =>
  finV [v27, (.bool true)] h.length h28)
  (bnd (pu h25 (bin Tryd.prog .eql 3 true v13 (.int .i64 7))) fun v29 h29 =>
  condA v29
  (bnd (pu h29 (bin Tryd.prog .and 48 false x1 x2)) fun v30 h30 =>
  finV [v30, (.bool true)] h.length h30)
  (bnd (pu h29 (bin Tryd.prog .eql 3 true v13 (.int .i64 8))) fun v31 h31 =>
  condA v31
  (bnd (pu h31 (bin Tryd.prog .or 48 false x1 x2)) fun v32 h32 =>
  finV [v32, (.bool true)] h.length h32)
  (bnd (pu h31 (bin Tryd.prog .eql 3 true v13 (.int .i64 9))) fun v33 h33 =>
  condA v33
  (bnd (pu h33 (bin Tryd.prog .xor 48 false x1 x2)) fun v34 h34 =>
  finV [v34, (.bool true)] h.length h34)
  (bnd (pu h33 (bin Tryd.prog .eql 3 true v13 (.int .i64 13))) fun v35 h35 =>
  condA v35
  (bnd (pu h35 (bin Tryd.prog .lss 48 false x1 x2)) fun v36 h36 =>
  condA v36
  (finV [(.int .u64 1), (.bool true)] h.length h36)
  (finV [(.int .u64 0), (.bool true)] h.length h36))
  (bnd (pu h35 (bin Tryd.prog .eql 3 true v13 (.int .i64 14))) fun v37 h37 =>
  condA v37
  (bnd (pu h37 (bin Tryd.prog .neq 48 true x1 (.int .u64 0))) fun v38 h38 =>
  condA v38
  (finV [x2, (.bool true)] h.length h38)
  (finV [x3, (.bool true)] h.length h38))
  (bnd (pu h37 (un .not v11)) fun v39 h39 =>
  condA v39
  (finV [(.int .u64 0), (.bool false)] h.length h39)
  (bnd (pu h39 (fieldAddrV 0 v0)) fun v40 h40 =>
  bnd (pu h40 (loadV G false 1 v40 h40)) fun v41 h41 =>
  bnd (pu h41 (bin Tryd.prog .eql 3 true v41 (.int .i64 10))) fun v42 h42 =>
  condA v42
  (bnd (pu h42 (bin Tryd.prog .shl 48 false x1 v4)) fun v43 h43 =>
  finV [v43, (.bool true)] h.length h43)
  (bnd (pu h42 (bin Tryd.prog .eql 3 true v41 (.int .i64 11))) fun v44 h44 =>
  condA v44
  (bnd (pu h44 (bin Tryd.prog .shr 48 false x1 v4)) fun v45 h45 =>
  finV [v45, (.bool true)] h.length h45)
  (bnd (pu h44 (bin Tryd.prog .eql 3 true v41 (.int .i64 12))) fun v46 h46 =>
  condA v46
  (bnd (pu h46 (convInt .i64 x1)) fun v47 h47 =>
  bnd (pu h47 (bin Tryd.prog .shr 2 false v47 v4)) fun v48 h48 =>
  bnd (pu h48 (convInt .u64 v48)) fun v49 h49 =>
  finV [v49, (.bool true)] h.length h49)
  (finV [(.int .u64 0), (.bool false)] h.length h46))))))))))))))))
noncomputable def alembicref17_Value.f (G : Globs) : Nat → Den
  | 0 => fun _ _ => none
  | k + 1 => fun args h => arg4 args fun x0 x1 x2 x3 => (alembicref17_Value.c G k (alembicref17_Value.f G k) x0 x1 x2 x3 h)
theorem alembicref17_Value.step (G : Globs) (k : Nat) (x0 x1 x2 x3 : AV) (h : AHeap) : alembicref17_Value.f G (k + 1) [x0, x1, x2, x3] h = alembicref17_Value.c G k (alembicref17_Value.f G k) x0 x1 x2 x3 h := rfl
/-! alembic/alembicref.Words: function 46 -/
noncomputable def alembicref_Words.ann : Ann := mkAnn [] [2] [(3, [0, 3, 4])] []
noncomputable def alembicref_Words.env (G : Globs) (k : Nat) (self : Den) : List (Nat × Bool × Den) := []
noncomputable def alembicref_Words.l3 (G : Globs) (k n0 : Nat) (self : Den) (lp : LoopF) : LoopF := fun xs h0 => cutK n0 xs h0 fun h =>
  bnd (pu h (lenSl (nth xs 0))) fun v4 h4 =>
  bnd (pu h4 (bin Tryd.prog .lss 3 false (nth xs 2) v4)) fun v5 h5 =>
  condA v5
  (bnd (pu h5 (idxAddrSl 1 (nth xs 0) (nth xs 2))) fun v6 h6 =>
  bnd (pu h6 (loadV G false 1 v6 h6)) fun v7 h7 =>
  bnd (buildRo 1 1 (.int .u64 0) [(0, v7)] h7) fun v8 h8 =>
  bnd (appendV 48 1 (nth xs 1) v8 h8) fun v9 h9 =>
  bnd (pu h9 (bin Tryd.prog .add 3 true (nth xs 2) (.int .i64 1))) fun v10 h10 =>
  lp [(nth xs 0), v9, v10] h10)
  (some (.exit 0, [(nth xs 0), (nth xs 1), (nth xs 2)], h5))
noncomputable def alembicref_Words.c (G : Globs) (k : Nat) (self : Den) (x0 : AV) (h : AHeap) : Option (AV × AHeap) := outV (
  bnd (some (.sl h.length 0 0 0 1, h ++ [⟨48, 1, []⟩])) fun v0 h0 =>
  bnd (pu h0 (lenSl x0)) fun v1 h1 =>
  bnd (makeSliceV 48 1 (.int .u64 0) (.int .i64 0) v1 h1) fun v2 h2 =>
  thenK (loopN (alembicref_Words.l3 G k h2.length self) k [x0, v2, (.int .i64 0)] h2) fun e3 x3 h3 => exK e3
  (finO [(nth x3 1)] h3)
  (fun i3 => if i3 = 0 then (finO [(nth x3 1)] h3) else (none))
  (finO [.undef] h3))
noncomputable def alembicref_Words.f (G : Globs) : Nat → Den
  | 0 => fun _ _ => none
  | k + 1 => fun args h => arg1 args fun x0 => (alembicref_Words.c G k (alembicref_Words.f G k) x0 h)
theorem alembicref_Words.step (G : Globs) (k : Nat) (x0 : AV) (h : AHeap) : alembicref_Words.f G (k + 1) [x0] h = alembicref_Words.c G k (alembicref_Words.f G k) x0 h := rfl
/-! alembic/alembicref17.one: function 47 -/
noncomputable def alembicref17_one.ann : Ann := mkAnn [] [] [] []
noncomputable def alembicref17_one.env (G : Globs) (k : Nat) (self : Den) : List (Nat × Bool × Den) := []
noncomputable def alembicref17_one.c (G : Globs) (k : Nat) (self : Den) (x0 : AV) (h : AHeap) : Option (AV × AHeap) := outV (
  condA x0
  (finV [(.int .i64 1)] h.length h)
  (finV [(.int .i64 0)] h.length h))
noncomputable def alembicref17_one.f (G : Globs) : Nat → Den
  | 0 => fun _ _ => none
  | k + 1 => fun args h => arg1 args fun x0 => (alembicref17_one.c G k (alembicref17_one.f G k) x0 h)
theorem alembicref17_one.step (G : Globs) (k : Nat) (x0 : AV) (h : AHeap) : alembicref17_one.f G (k + 1) [x0] h = alembicref17_one.c G k (alembicref17_one.f G k) x0 h := rfl
/-! alembic/alembicref17.Run: function 20 -/
noncomputable def alembicref17_Run.ann : Ann := mkAnnV [] [] [(4, [1, 3, 4, 8, 9, 10, 11])] [(22, [1, 3, 4, 8, 9, 10, 12, 13, 14, 15]), (38, [1, 3, 4, 8, 9, 10, 11, 12, 13, 14, 15, 71, 186]), (26, [1, 3, 4, 8, 9, 10, 11, 12, 13, 14, 15, 71, 142])] [(4, [(8, 2, 96, 2), (9, 2, 96, 2)])] []
noncomputable def alembicref17_Run.env (G : Globs) (k : Nat) (self : Den) : List (Nat × Bool × Den) := [(29, true, alembicref17_Exact.f G k), (32, true, alembicref17_Value.f G k), (46, false, alembicref_Words.f G k), (47, true, alembicref17_one.f G k)]
noncomputable def alembicref17_Run.l4 (G : Globs) (k n0 : Nat) (self : Den) (lp : LoopF) : LoopF := fun xs h0 => cutK n0 xs h0 fun h =>
  bnd (pu h (fieldAddrV 0 (nth xs 2))) fun v11 h11 =>
  bnd (pu h11 (loadV G false 1 v11 h11)) fun v12 h12 =>
  bnd (pu h12 (lenSl v12)) fun v13 h13 =>
  bnd (pu h13 (bin Tryd.prog .geq 3 false (nth xs 6) v13)) fun v14 h14 =>
  condA v14
  (bnd (pu h14 (fieldAddrV 0 (nth xs 4))) fun v15 h15 =>
  bnd (stS (storeV 1 v15 (.int .i64 3) h15)) fun v16 h16 =>
  bnd (pu h16 (loadV G true 5 (nth xs 4) h16)) fun v17 h17 =>
  bnd (stS (storeV 5 (nth xs 3) v17 h17)) fun v18 h18 =>
  some (.ret, [(nth xs 0), (nth xs 1), (nth xs 2), (nth xs 3), (nth xs 4), (nth xs 5), (nth xs 6)], h18))
  (bnd (pu h14 (fieldAddrV 3 (nth xs 4))) fun v19 h19 =>
  bnd (pu h19 (loadV G false 1 v19 h19)) fun v20 h20 =>
  bnd (pu h20 (bin Tryd.prog .geq 2 false v20 (nth xs 1))) fun v21 h21 =>
  condA v21
  (bnd (pu h21 (fieldAddrV 0 (nth xs 4))) fun v22 h22 =>
  bnd (stS (storeV 1 v22 (.int .i64 4) h22)) fun v23 h23 =>
  bnd (pu h23 (loadV G true 5 (nth xs 4) h23)) fun v24 h24 =>
  bnd (stS (storeV 5 (nth xs 3) v24 h24)) fun v25 h25 =>
  some (.ret, [(nth xs 0), (nth xs 1), (nth xs 2), (nth xs 3), (nth xs 4), (nth xs 5), (nth xs 6)], h25))
  (bnd (pu h21 (fieldAddrV 0 (nth xs 2))) fun v26 h26 =>
  bnd (pu h26 (loadV G false 1 v26 h26)) fun v27 h27 =>
  bnd (pu h27 (idxAddrSl 6 v27 (nth xs 6))) fun v28 h28 =>
  bnd (pu h28 (loadV G true 6 v28 h28)) fun v29 h29 =>
  bnd (boxA 52 (.agg [(.int .i64 0), (.int .i64 0), (.int .i64 0), (.int .i64 0), (.int .i64 0), (.int .i64 0)]) h29) fun v30 h30 =>
  bnd (stS (storeV 6 v30 v29 h30)) fun v31 h31 =>
  bnd (pu h31 (fieldAddrV 3 (nth xs 4))) fun v32 h32 =>
  bnd (pu h32 (loadV G false 1 v32 h32)) fun v33 h33 =>
  bnd (pu h33 (bin Tryd.prog .add 2 true v33 (.int .i64 1))) fun v34 h34 =>
  bnd (pu h34 (fieldAddrV 3 (nth xs 4))) fun v35 h35 =>
  bnd (stS (storeV 1 v35 v34 h35)) fun v36 h36 =>
  bnd (pu h36 (fieldAddrV 2 (nth xs 4))) fun v37 h37 =>
  bnd (pu h37 (loadV G false 1 v37 h37)) fun v38 h38 =>
  bnd (pu h38 (buildSt [(0, 1), (1, 1)] [(.int .i64 0), (.int .i64 0)] [(0, (.int .i64 1)), (1, (nth xs 6))])) fun v39 h39 =>
  bnd (buildRo 2 1 (.agg [(.int .i64 0), (.int .i64 0)]) [(0, v39)] h39) fun v40 h40 =>
  bnd (appendV 96 2 v38 v40 h40) fun v41 h41 =>
  bnd (pu h41 (fieldAddrV 2 (nth xs 4))) fun v42 h42 =>
  bnd (stS (storeV 1 v42 v41 h42)) fun v43 h43 =>
  bnd (pu h43 (fieldAddrV 2 v30)) fun v44 h44 =>
  bnd (pu h44 (loadV G false 1 v44 h44)) fun v45 h45 =>
  bnd (pu h45 (idxAddrSl 1 (nth xs 5) v45)) fun v46 h46 =>
  bnd (pu h46 (loadV G false 1 v46 h46)) fun v47 h47 =>
  bnd (pu h47 (fieldAddrV 3 v30)) fun v48 h48 =>
  bnd (pu h48 (loadV G false 1 v48 h48)) fun v49 h49 =>
  bnd (pu h49 (idxAddrSl 1 (nth xs 5) v49)) fun v50 h50 =>
  bnd (pu h50 (loadV G false 1 v50 h50)) fun v51 h51 =>
  bnd (pu h51 (bin Tryd.prog .add 3 true (nth xs 6) (.int .i64 1))) fun v52 h52 =>
  bnd (pu h52 (fieldAddrV 0 v30)) fun v53 h53 =>
  bnd (pu h53 (loadV G false 1 v53 h53)) fun v54 h54 =>
  thenK (
  bnd (pu h54 (bin Tryd.prog .eql 3 true v54 (.int .i64 15))) fun v55 h55 =>
  condA v55
  (some (.normal, [(nth xs 0), (nth xs 1), (nth xs 2), (nth xs 3), (nth xs 4), (nth xs 5), (nth xs 6), v30, v47, v51, v52, v54, v55], h55))
  (bnd (pu h55 (bin Tryd.prog .eql 3 true v54 (.int .i64 16))) fun v56 h56 =>
  some (.normal, [(nth xs 0), (nth xs 1), (nth xs 2), (nth xs 3), (nth xs 4), (nth xs 5), (nth xs 6), v30, v47, v51, v52, v54, v56], h56))) fun e57 x57 h57 => exK e57
  (condA (nth x57 12)
  (bnd (pu h57 (fieldAddrV 5 (nth x57 7))) fun v58 h58 =>
  bnd (pu h58 (loadV G false 1 v58 h58)) fun v59 h59 =>
  bnd (pu h59 (convInt .u64 v59)) fun v60 h60 =>
  bnd (pu h60 (bin Tryd.prog .add 48 false (nth x57 8) v60)) fun v61 h61 =>
  bnd (pu h61 (fieldAddrV 2 (nth x57 4))) fun v62 h62 =>
  bnd (pu h62 (loadV G false 1 v62 h62)) fun v63 h63 =>
  bnd (pu h63 (convInt .i64 v61)) fun v64 h64 =>
  bnd (pu h64 (buildSt [(0, 1), (1, 1)] [(.int .i64 0), (.int .i64 0)] [(0, (.int .i64 3)), (1, v64)])) fun v65 h65 =>
  bnd (buildRo 2 1 (.agg [(.int .i64 0), (.int .i64 0)]) [(0, v65)] h65) fun v66 h66 =>
  bnd (appendV 96 2 v63 v66 h66) fun v67 h67 =>
  bnd (pu h67 (fieldAddrV 2 (nth x57 4))) fun v68 h68 =>
  bnd (stS (storeV 1 v68 v67 h68)) fun v69 h69 =>
  bnd (pu h69 (fieldAddrV 2 (nth x57 2))) fun v70 h70 =>
  bnd (pu h70 (loadV G false 1 v70 h70)) fun v71 h71 =>
  bnd (pu h71 (convInt .u64 v71)) fun v72 h72 =>
  bnd (pu h72 (bin Tryd.prog .geq 48 false v61 v72)) fun v73 h73 =>
  condA v73
  (bnd (pu h73 (fieldAddrV 0 (nth x57 4))) fun v74 h74 =>
  bnd (stS (storeV 1 v74 (.int .i64 3) h74)) fun v75 h75 =>
  bnd (pu h75 (loadV G true 5 (nth x57 4) h75)) fun v76 h76 =>
  bnd (stS (storeV 5 (nth x57 3) v76 h76)) fun v77 h77 =>
  some (.ret, [(nth x57 0), (nth x57 1), (nth x57 2), (nth x57 3), (nth x57 4), (nth x57 5), (nth x57 6)], h77))
  (bnd (pu h73 (fieldAddrV 0 (nth x57 7))) fun v78 h78 =>
  bnd (pu h78 (loadV G false 1 v78 h78)) fun v79 h79 =>
  bnd (pu h79 (bin Tryd.prog .eql 3 true v79 (.int .i64 15))) fun v80 h80 =>
  condA v80
  (bnd (pu h80 (fieldAddrV 1 (nth x57 7))) fun v81 h81 =>
  bnd (pu h81 (loadV G false 1 v81 h81)) fun v82 h82 =>
  bnd (pu h82 (fieldAddrV 1 (nth x57 4))) fun v83 h83 =>
  bnd (pu h83 (loadV G false 1 v83 h83)) fun v84 h84 =>
  bnd (pu h84 (idxAddrSl 1 v84 v61)) fun v85 h85 =>
  bnd (pu h85 (loadV G false 1 v85 h85)) fun v86 h86 =>
  bnd (pu h86 (idxAddrSl 1 (nth x57 5) v82)) fun v87 h87 =>
  bnd (stS (storeV 1 v87 v86 h87)) fun v88 h88 =>
  lp [(nth x57 0), (nth x57 1), (nth x57 2), (nth x57 3), (nth x57 4), (nth x57 5), (nth x57 10)] h88)
  (bnd (pu h80 (fieldAddrV 1 (nth x57 4))) fun v89 h89 =>
  bnd (pu h89 (loadV G false 1 v89 h89)) fun v90 h90 =>
  bnd (pu h90 (idxAddrSl 1 v90 v61)) fun v91 h91 =>
  bnd (stS (storeV 1 v91 (nth x57 9) h91)) fun v92 h92 =>
  lp [(nth x57 0), (nth x57 1), (nth x57 2), (nth x57 3), (nth x57 4), (nth x57 5), (nth x57 10)] h92)))
  (bnd (pu h57 (bin Tryd.prog .eql 3 true (nth x57 11) (.int .i64 17))) fun v93 h93 =>
  condA v93
  (bnd (pu h93 (fieldAddrV 5 (nth x57 7))) fun v94 h94 =>
  bnd (pu h94 (loadV G false 1 v94 h94)) fun v95 h95 =>
  lp [(nth x57 0), (nth x57 1), (nth x57 2), (nth x57 3), (nth x57 4), (nth x57 5), v95] h95)
  (thenK (
  bnd (pu h93 (bin Tryd.prog .eql 3 true (nth x57 11) (.int .i64 18))) fun v96 h96 =>
  condA v96
  (some (.normal, [(nth x57 0), (nth x57 1), (nth x57 2), (nth x57 3), (nth x57 4), (nth x57 5), (nth x57 6), (nth x57 7), (nth x57 8), (nth x57 9), (nth x57 10), (nth x57 11), v96], h96))
  (bnd (pu h96 (bin Tryd.prog .eql 3 true (nth x57 11) (.int .i64 19))) fun v97 h97 =>
  some (.normal, [(nth x57 0), (nth x57 1), (nth x57 2), (nth x57 3), (nth x57 4), (nth x57 5), (nth x57 6), (nth x57 7), (nth x57 8), (nth x57 9), (nth x57 10), (nth x57 11), v97], h97))) fun e98 x98 h98 => exK e98
  (condA (nth x98 12)
  (bnd (pu h98 (bin Tryd.prog .eql 48 true (nth x98 8) (.int .u64 0))) fun v99 h99 =>
  bnd (pu h99 (fieldAddrV 0 (nth x98 7))) fun v100 h100 =>
  bnd (pu h100 (loadV G false 1 v100 h100)) fun v101 h101 =>
  bnd (pu h101 (bin Tryd.prog .eql 3 true v101 (.int .i64 18))) fun v102 h102 =>
  bnd (pu h102 (bin Tryd.prog .eql 4 false v99 v102)) fun v103 h103 =>
  bnd (pu h103 (fieldAddrV 2 (nth x98 4))) fun v104 h104 =>
  bnd (pu h104 (loadV G false 1 v104 h104)) fun v105 h105 =>
  bnd (pureCall (alembicref17_one.f G k) [v103] h105) fun v106 h106 =>
  bnd (pu h106 (buildSt [(0, 1), (1, 1)] [(.int .i64 0), (.int .i64 0)] [(0, (.int .i64 2)), (1, v106)])) fun v107 h107 =>
  bnd (buildRo 2 1 (.agg [(.int .i64 0), (.int .i64 0)]) [(0, v107)] h107) fun v108 h108 =>
  bnd (appendV 96 2 v105 v108 h108) fun v109 h109 =>
  bnd (pu h109 (fieldAddrV 2 (nth x98 4))) fun v110 h110 =>
  bnd (stS (storeV 1 v110 v109 h110)) fun v111 h111 =>
  condA v103
  (bnd (pu h111 (fieldAddrV 5 (nth x98 7))) fun v112 h112 =>
  bnd (pu h112 (loadV G false 1 v112 h112)) fun v113 h113 =>
  lp [(nth x98 0), (nth x98 1), (nth x98 2), (nth x98 3), (nth x98 4), (nth x98 5), v113] h113)
  (lp [(nth x98 0), (nth x98 1), (nth x98 2), (nth x98 3), (nth x98 4), (nth x98 5), (nth x98 10)] h111))
  (bnd (pu h98 (bin Tryd.prog .eql 3 true (nth x98 11) (.int .i64 20))) fun v114 h114 =>
  condA v114
  (bnd (pu h114 (fieldAddrV 5 (nth x98 7))) fun v115 h115 =>
  bnd (pu h115 (loadV G false 1 v115 h115)) fun v116 h116 =>
  bnd (pu h116 (fieldAddrV 0 (nth x98 4))) fun v117 h117 =>
  bnd (stS (storeV 1 v117 v116 h117)) fun v118 h118 =>
  bnd (pu h118 (loadV G true 5 (nth x98 4) h118)) fun v119 h119 =>
  bnd (stS (storeV 5 (nth x98 3) v119 h119)) fun v120 h120 =>
  some (.ret, [(nth x98 0), (nth x98 1), (nth x98 2), (nth x98 3), (nth x98 4), (nth x98 5), (nth x98 6)], h120))
  (thenK (
  bnd (pu h114 (lenSl (nth x98 0))) fun v121 h121 =>
  bnd (pu h121 (bin Tryd.prog .gtr 3 true v121 (.int .i64 0))) fun v122 h122 =>
  bnd (gd v122 true h122 (pu h122 (fieldAddrV 4 (nth x98 4)))) fun v123 h123 =>
  bnd (gd v122 true h123 (pu h123 (loadV G false 1 v123 h123))) fun v124 h124 =>
  bnd (gd v122 true h124 (pu h124 (bin Tryd.prog .lss 3 true v124 (.int .i64 0)))) fun v125 h125 =>
  bnd (pu h125 (pickA v122 v125 (.bool false))) fun v126 h126 =>
  bnd (gd v126 true h126 (pu h126 (fieldAddrV 0 (nth x98 7)))) fun v127 h127 =>
  bnd (gd v126 true h127 (pu h127 (loadV G false 1 v127 h127))) fun v128 h128 =>
  bnd (gd v126 true h128 (pu h128 (bin Tryd.prog .geq 3 true v128 (.int .i64 3)))) fun v129 h129 =>
  bnd (gd v126 true h129 (some (v129, h129))) fun v130 h130 =>
  bnd (gd v130 true h130 (pu h130 (fieldAddrV 0 (nth x98 7)))) fun v131 h131 =>
  bnd (gd v130 true h131 (pu h131 (loadV G false 1 v131 h131))) fun v132 h132 =>
  bnd (gd v130 true h132 (pu h132 (bin Tryd.prog .leq 3 true v132 (.int .i64 5)))) fun v133 h133 =>
  bnd (gd v126 true h133 (pu h133 (pickA v130 v133 (.bool false)))) fun v134 h134 =>
  bnd (gd v126 true h134 (some (v134, h134))) fun v135 h135 =>
  bnd (gd v135 false h135 (pu h135 (fieldAddrV 0 (nth x98 7)))) fun v136 h136 =>
  bnd (gd v135 false h136 (pu h136 (loadV G false 1 v136 h136))) fun v137 h137 =>
  bnd (gd v135 false h137 (pu h137 (bin Tryd.prog .eql 3 true v137 (.int .i64 10)))) fun v138 h138 =>
  bnd (gd v126 true h138 (pu h138 (pickA v135 (.bool true) v138))) fun v139 h139 =>
  bnd (pu h139 (pickA v126 v139 (.bool false))) fun v140 h140 =>
  condA v140
  (bnd (pu h140 (loadV G true 6 (nth x98 7) h140)) fun v141 h141 =>
  bnd (pureCall (alembicref17_Exact.f G k) [v141, (nth x98 8), (nth x98 9)] h141) fun v142 h142 =>
  bnd (pu h142 (extractA v142 0)) fun v143 h143 =>
  bnd (pu h143 (extractA v142 1)) fun v144 h144 =>
  bnd (pu h144 (un .not v144)) fun v145 h145 =>
  bnd (gd v145 false h145 (some (v143, h145))) fun v146 h146 =>
  bnd (gd v145 false h146 (some ((nth x98 0), h146))) fun v147 h147 =>
  bnd (gd v145 false h147 (some ((nth x98 6), h147))) fun v148 h148 =>
  bnd (gd v145 false h148 (pu h148 (idxAddrSl 2 v147 v148))) fun v149 h149 =>
  bnd (gd v145 false h149 (pu h149 (fieldAddrV 0 v149))) fun v150 h150 =>
  bnd (gd v145 false h150 (pu h150 (loadV G false 1 v150 h150))) fun v151 h151 =>
  bnd (gd v145 false h151 (pu h151 (bin Tryd.prog .lss 2 false v146 v151))) fun v152 h152 =>
  bnd (pu h152 (pickA v145 (.bool true) v152)) fun v153 h153 =>
  bnd (gd v153 false h153 (some (v143, h153))) fun v154 h154 =>
  bnd (gd v153 false h154 (some ((nth x98 0), h154))) fun v155 h155 =>
  bnd (gd v153 false h155 (some ((nth x98 6), h155))) fun v156 h156 =>
  bnd (gd v153 false h156 (pu h156 (idxAddrSl 2 v155 v156))) fun v157 h157 =>
  bnd (gd v153 false h157 (pu h157 (fieldAddrV 1 v157))) fun v158 h158 =>
  bnd (gd v153 false h158 (pu h158 (loadV G false 1 v158 h158))) fun v159 h159 =>
  bnd (gd v153 false h159 (pu h159 (bin Tryd.prog .gtr 2 false v154 v159))) fun v160 h160 =>
  bnd (pu h160 (pickA v153 (.bool true) v160)) fun v161 h161 =>
  condA v161
  (bnd (pu h161 (fieldAddrV 4 (nth x98 4))) fun v162 h162 =>
  bnd (stS (storeV 1 v162 (nth x98 6) h162)) fun v163 h163 =>
  bnd (pu h163 (loadV G true 5 (nth x98 4) h163)) fun v164 h164 =>
  bnd (stS (storeV 5 (nth x98 3) v164 h164)) fun v165 h165 =>
  some (.ret, [(nth x98 0), (nth x98 1), (nth x98 2), (nth x98 3), (nth x98 4), (nth x98 5), (nth x98 7), (nth x98 8), (nth x98 9), (nth x98 10)], h165))
  (some (.normal, [(nth x98 0), (nth x98 1), (nth x98 2), (nth x98 3), (nth x98 4), (nth x98 5), (nth x98 7), (nth x98 8), (nth x98 9), (nth x98 10)], h161)))
  (some (.normal, [(nth x98 0), (nth x98 1), (nth x98 2), (nth x98 3), (nth x98 4), (nth x98 5), (nth x98 7), (nth x98 8), (nth x98 9), (nth x98 10)], h140))) fun e166 x166 h166 => exK e166
  (bnd (pu h166 (loadV G true 6 (nth x166 6) h166)) fun v167 h167 =>
  bnd (pu h167 (fieldAddrV 4 (nth x166 6))) fun v168 h168 =>
  bnd (pu h168 (loadV G false 1 v168 h168)) fun v169 h169 =>
  bnd (pu h169 (idxAddrSl 1 (nth x166 5) v169)) fun v170 h170 =>
  bnd (pu h170 (loadV G false 1 v170 h170)) fun v171 h171 =>
  bnd (pureCall (alembicref17_Value.f G k) [v167, (nth x166 7), (nth x166 8), v171] h171) fun v172 h172 =>
  bnd (pu h172 (extractA v172 0)) fun v173 h173 =>
  bnd (pu h173 (extractA v172 1)) fun v174 h174 =>
  bnd (pu h174 (fieldAddrV 1 (nth x166 6))) fun v175 h175 =>
  bnd (pu h175 (loadV G false 1 v175 h175)) fun v176 h176 =>
  bnd (pu h176 (idxAddrSl 1 (nth x166 5) v176)) fun v177 h177 =>
  bnd (stS (storeV 1 v177 v173 h177)) fun v178 h178 =>
  lp [(nth x166 0), (nth x166 1), (nth x166 2), (nth x166 3), (nth x166 4), (nth x166 5), (nth x166 9)] h178)
  (fun i166 => if i166 = 2 then (lp [(nth x166 0), (nth x166 1), (nth x166 2), (nth x166 3), (nth x166 4), (nth x166 5), (nth x166 9)] h166) else (if i166 = 1 then (lp [(nth x166 0), (nth x166 1), (nth x166 2), (nth x166 3), (nth x166 4), (nth x166 5), .undef] h166) else (some (.exit i166, [(nth x166 0), (nth x166 1), (nth x166 2), (nth x166 3), (nth x166 4), (nth x166 5), .undef], h166))))
  (some (.ret, [(nth x166 0), (nth x166 1), (nth x166 2), (nth x166 3), (nth x166 4), (nth x166 5), .undef], h166)))))
  (fun i98 => if i98 = 2 then (lp [(nth x98 0), (nth x98 1), (nth x98 2), (nth x98 3), (nth x98 4), (nth x98 5), (nth x98 10)] h98) else (if i98 = 1 then (lp [(nth x98 0), (nth x98 1), (nth x98 2), (nth x98 3), (nth x98 4), (nth x98 5), (nth x98 6)] h98) else (some (.exit i98, [(nth x98 0), (nth x98 1), (nth x98 2), (nth x98 3), (nth x98 4), (nth x98 5), (nth x98 6)], h98))))
  (some (.ret, [(nth x98 0), (nth x98 1), (nth x98 2), (nth x98 3), (nth x98 4), (nth x98 5), (nth x98 6)], h98)))))
  (fun i57 => if i57 = 2 then (lp [(nth x57 0), (nth x57 1), (nth x57 2), (nth x57 3), (nth x57 4), (nth x57 5), (nth x57 10)] h57) else (if i57 = 1 then (lp [(nth x57 0), (nth x57 1), (nth x57 2), (nth x57 3), (nth x57 4), (nth x57 5), (nth x57 6)] h57) else (some (.exit i57, [(nth x57 0), (nth x57 1), (nth x57 2), (nth x57 3), (nth x57 4), (nth x57 5), (nth x57 6)], h57))))
  (some (.ret, [(nth x57 0), (nth x57 1), (nth x57 2), (nth x57 3), (nth x57 4), (nth x57 5), (nth x57 6)], h57))))
noncomputable def alembicref17_Run.c (G : Globs) (k : Nat) (self : Den) (x0 x1 x2 x3 : AV) (h : AHeap) : Option (AV × AHeap) := outV (
  bnd (boxRoA x0 h) fun v0 h0 =>
  bnd (boxA 44 (.agg [(.int .i64 0), .nils, .nils, (.int .i64 0), (.int .i64 0)]) h0) fun v1 h1 =>
  bnd (heapCall (alembicref_Words.f G k) [x2] h1) fun v2 h2 =>
  bnd (pu h2 (buildSt [(0, 1), (1, 1), (2, 1), (3, 1), (4, 1)] [(.int .i64 0), .nils, .nils, (.int .i64 0), (.int .i64 0)] [(1, v2), (4, (.int .i64 (-1)))])) fun v3 h3 =>
  bnd (boxA 44 (.agg [(.int .i64 0), .nils, .nils, (.int .i64 0), (.int .i64 0)]) h3) fun v4 h4 =>
  bnd (stS (storeV 5 v4 v3 h4)) fun v5 h5 =>
  bnd (pu h5 (fieldAddrV 1 v0)) fun v6 h6 =>
  bnd (pu h6 (loadV G false 1 v6 h6)) fun v7 h7 =>
  bnd (pu h7 (bin Tryd.prog .add 3 true v7 (.int .i64 1))) fun v8 h8 =>
  bnd (makeSliceV 48 1 (.int .u64 0) v8 v8 h8) fun v9 h9 =>
  vK [(v1, 2, 96, 2), (v4, 2, 96, 2)] h9 fun hv10 =>
  thenK (loopN (alembicref17_Run.l4 G k hv10.length self) k [x1, x3, v0, v1, v4, v9, (.int .i64 0)] hv10) fun e10 x10 h10 => exK e10
  (finL [loadV G true 5 (nth x10 3) h10] h.length h10)
  (fun i10 => if i10 = 0 then (finL [loadV G true 5 (nth x10 3) h10] h.length h10) else (none))
  (finL [loadV G true 5 (nth x10 3) h10] h.length h10))
noncomputable def alembicref17_Run.f (G : Globs) : Nat → Den
  | 0 => fun _ _ => none
  | k + 1 => fun args h => arg4 args fun x0 x1 x2 x3 => (alembicref17_Run.c G k (alembicref17_Run.f G k) x0 x1 x2 x3 h)
theorem alembicref17_Run.step (G : Globs) (k : Nat) (x0 x1 x2 x3 : AV) (h : AHeap) : alembicref17_Run.f G (k + 1) [x0, x1, x2, x3] h = alembicref17_Run.c G k (alembicref17_Run.f G k) x0 x1 x2 x3 h := rfl
/-! alembic/alembicref.SameWords: function 21 -/
noncomputable def alembicref_SameWords.ann : Ann := mkAnn [] [] [(4, [0, 1, 4, 5])] []
noncomputable def alembicref_SameWords.env (G : Globs) (k : Nat) (self : Den) : List (Nat × Bool × Den) := []
noncomputable def alembicref_SameWords.l4 (G : Globs) (k n0 : Nat) (self : Den) (lp : LoopF) : LoopF := fun xs h0 => cutK n0 xs h0 fun h =>
  bnd (pu h (lenSl (nth xs 0))) fun v4 h4 =>
  bnd (pu h4 (bin Tryd.prog .lss 3 false (nth xs 3) v4)) fun v5 h5 =>
  condA v5
  (bnd (pu h5 (idxAddrSl 1 (nth xs 0) (nth xs 3))) fun v6 h6 =>
  bnd (pu h6 (loadV G false 1 v6 h6)) fun v7 h7 =>
  bnd (pu h7 (idxAddrSl 1 (nth xs 1) (nth xs 3))) fun v8 h8 =>
  bnd (pu h8 (loadV G false 1 v8 h8)) fun v9 h9 =>
  bnd (pu h9 (bin Tryd.prog .eql 48 false v7 v9)) fun v10 h10 =>
  bnd (pu h10 (un .not v10)) fun v11 h11 =>
  condA v11
  (some (.ret, [(nth xs 0), (nth xs 1), (.bool false), (nth xs 3)], h11))
  (bnd (pu h11 (bin Tryd.prog .add 3 true (nth xs 3) (.int .i64 1))) fun v12 h12 =>
  lp [(nth xs 0), (nth xs 1), (nth xs 2), v12] h12))
  (some (.exit 0, [(nth xs 0), (nth xs 1), (nth xs 2), (nth xs 3)], h5))
noncomputable def alembicref_SameWords.c (G : Globs) (k : Nat) (self : Den) (x0 x1 : AV) (h : AHeap) : Option (AV × AHeap) := outV (
  bnd (pu h (lenSl x0)) fun v0 h0 =>
  bnd (pu h0 (lenSl x1)) fun v1 h1 =>
  bnd (pu h1 (bin Tryd.prog .neq 3 false v0 v1)) fun v2 h2 =>
  condA v2
  (finV [(.bool false)] h.length h2)
  (thenK (loopN (alembicref_SameWords.l4 G k h2.length self) k [x0, x1, (.bool false), (.int .i64 0)] h2) fun e3 x3 h3 => exK e3
  (finV [(.bool true)] h.length h3)
  (fun i3 => if i3 = 0 then (finV [(.bool true)] h.length h3) else (none))
  (finV [(nth x3 2)] h.length h3)))
noncomputable def alembicref_SameWords.f (G : Globs) : Nat → Den
  | 0 => fun _ _ => none
  | k + 1 => fun args h => arg2 args fun x0 x1 => (alembicref_SameWords.c G k (alembicref_SameWords.f G k) x0 x1 h)
theorem alembicref_SameWords.step (G : Globs) (k : Nat) (x0 x1 : AV) (h : AHeap) : alembicref_SameWords.f G (k + 1) [x0, x1] h = alembicref_SameWords.c G k (alembicref_SameWords.f G k) x0 x1 h := rfl
/-! alembic/alembicref.SameLeak1: function 48 -/
noncomputable def alembicref_SameLeak1.ann : Ann := mkAnn [] [] [] []
noncomputable def alembicref_SameLeak1.env (G : Globs) (k : Nat) (self : Den) : List (Nat × Bool × Den) := []
noncomputable def alembicref_SameLeak1.c (G : Globs) (k : Nat) (self : Den) (x0 x1 : AV) (h : AHeap) : Option (AV × AHeap) := outV (
  bnd (boxRoA x0 h) fun v0 h0 =>
  bnd (boxRoA x1 h0) fun v1 h1 =>
  bnd (pu h1 (fieldAddrV 0 v0)) fun v2 h2 =>
  bnd (pu h2 (loadV G false 1 v2 h2)) fun v3 h3 =>
  bnd (pu h3 (fieldAddrV 0 v1)) fun v4 h4 =>
  bnd (pu h4 (loadV G false 1 v4 h4)) fun v5 h5 =>
  bnd (pu h5 (bin Tryd.prog .eql 3 false v3 v5)) fun v6 h6 =>
  bnd (gd v6 true h6 (pu h6 (fieldAddrV 1 v0))) fun v7 h7 =>
  bnd (gd v6 true h7 (pu h7 (loadV G false 1 v7 h7))) fun v8 h8 =>
  bnd (gd v6 true h8 (pu h8 (fieldAddrV 1 v1))) fun v9 h9 =>
  bnd (gd v6 true h9 (pu h9 (loadV G false 1 v9 h9))) fun v10 h10 =>
  bnd (gd v6 true h10 (pu h10 (bin Tryd.prog .eql 2 false v8 v10))) fun v11 h11 =>
  bnd (pu h11 (pickA v6 v11 (.bool false))) fun v12 h12 =>
  finV [v12] h.length h12)
noncomputable def alembicref_SameLeak1.f (G : Globs) : Nat → Den
  | 0 => fun _ _ => none
  | k + 1 => fun args h => arg2 args fun x0 x1 => (alembicref_SameLeak1.c G k (alembicref_SameLeak1.f G k) x0 x1 h)
theorem alembicref_SameLeak1.step (G : Globs) (k : Nat) (x0 x1 : AV) (h : AHeap) : alembicref_SameLeak1.f G (k + 1) [x0, x1] h = alembicref_SameLeak1.c G k (alembicref_SameLeak1.f G k) x0 x1 h := rfl
/-! alembic/alembicref.SameLeaks: function 22 -/
noncomputable def alembicref_SameLeaks.ann : Ann := mkAnn [] [] [(4, [0, 1, 4, 5])] []
noncomputable def alembicref_SameLeaks.env (G : Globs) (k : Nat) (self : Den) : List (Nat × Bool × Den) := [(48, true, alembicref_SameLeak1.f G k)]
noncomputable def alembicref_SameLeaks.l4 (G : Globs) (k n0 : Nat) (self : Den) (lp : LoopF) : LoopF := fun xs h0 => cutK n0 xs h0 fun h =>
  bnd (pu h (lenSl (nth xs 0))) fun v4 h4 =>
  bnd (pu h4 (bin Tryd.prog .lss 3 false (nth xs 3) v4)) fun v5 h5 =>
  condA v5
  (bnd (pu h5 (idxAddrSl 2 (nth xs 0) (nth xs 3))) fun v6 h6 =>
  bnd (pu h6 (loadV G true 2 v6 h6)) fun v7 h7 =>
  bnd (pu h7 (idxAddrSl 2 (nth xs 1) (nth xs 3))) fun v8 h8 =>
  bnd (pu h8 (loadV G true 2 v8 h8)) fun v9 h9 =>
  bnd (pureCall (alembicref_SameLeak1.f G k) [v7, v9] h9) fun v10 h10 =>
  bnd (pu h10 (un .not v10)) fun v11 h11 =>
  condA v11
  (some (.ret, [(nth xs 0), (nth xs 1), (.bool false), (nth xs 3)], h11))
  (bnd (pu h11 (bin Tryd.prog .add 3 true (nth xs 3) (.int .i64 1))) fun v12 h12 =>
  lp [(nth xs 0), (nth xs 1), (nth xs 2), v12] h12))
  (some (.exit 0, [(nth xs 0), (nth xs 1), (nth xs 2), (nth xs 3)], h5))
noncomputable def alembicref_SameLeaks.c (G : Globs) (k : Nat) (self : Den) (x0 x1 : AV) (h : AHeap) : Option (AV × AHeap) := outV (
  bnd (pu h (lenSl x0)) fun v0 h0 =>
  bnd (pu h0 (lenSl x1)) fun v1 h1 =>
  bnd (pu h1 (bin Tryd.prog .neq 3 false v0 v1)) fun v2 h2 =>
  condA v2
  (finV [(.bool false)] h.length h2)
  (thenK (loopN (alembicref_SameLeaks.l4 G k h2.length self) k [x0, x1, (.bool false), (.int .i64 0)] h2) fun e3 x3 h3 => exK e3
  (finV [(.bool true)] h.length h3)
  (fun i3 => if i3 = 0 then (finV [(.bool true)] h.length h3) else (none))
  (finV [(nth x3 2)] h.length h3)))
noncomputable def alembicref_SameLeaks.f (G : Globs) : Nat → Den
  | 0 => fun _ _ => none
  | k + 1 => fun args h => arg2 args fun x0 x1 => (alembicref_SameLeaks.c G k (alembicref_SameLeaks.f G k) x0 x1 h)
theorem alembicref_SameLeaks.step (G : Globs) (k : Nat) (x0 x1 : AV) (h : AHeap) : alembicref_SameLeaks.f G (k + 1) [x0, x1] h = alembicref_SameLeaks.c G k (alembicref_SameLeaks.f G k) x0 x1 h := rfl
/-! alembic/alembiclaw17.WordsRun: function 3 -/
noncomputable def alembiclaw17_WordsRun.ann : Ann := mkAnn [] [] [] [(13, [1, 2, 3, 7, 8]), (11, [1, 2, 3, 7, 8])]
noncomputable def alembiclaw17_WordsRun.env (G : Globs) (k : Nat) (self : Den) : List (Nat × Bool × Den) := [(12, true, alembiclaw17_first.f G k), (13, true, alembiclaw17_light.f G k), (14, true, alembicref17_Valid.f G k), (15, true, alembiclaw17_other.f G k), (16, true, alembicsee_Same.f G k), (17, true, words_Valid.f G k), (18, true, alembicref_Bare.f G k), (19, true, words_Run.f G k), (20, true, alembicref17_Run.f G k), (21, true, alembicref_SameWords.f G k), (22, true, alembicref_SameLeaks.f G k)]
noncomputable def alembiclaw17_WordsRun.c (G : Globs) (k : Nat) (self : Den) (x0 x1 x2 : AV) (h : AHeap) : Option (AV × AHeap) := outV (
  bnd (boxRoA x0 h) fun v0 h0 =>
  bnd (pureCall (alembiclaw17_first.f G k) [] h0) fun v1 h1 =>
  bnd (pu h1 (un .not v1)) fun v2 h2 =>
  condA v2
  (finV [(.bool false)] h.length h2)
  (bnd (pu h2 (loadV G true 3 v0 h2)) fun v3 h3 =>
  bnd (pureCall (alembiclaw17_light.f G k) [v3, x1, x2] h3) fun v4 h4 =>
  bnd (pu h4 (un .not v4)) fun v5 h5 =>
  condA v5
  (finV [v1] h.length h5)
  (bnd (pu h5 (loadV G true 3 v0 h5)) fun v6 h6 =>
  bnd (pureCall (alembiclaw17_other.f G k) [v6] h6) fun v7 h7 =>
  bnd (pureCall (alembicref17_Valid.f G k) [v7] h7) fun v8 h8 =>
  bnd (boxA 29 (.agg [(.int .i64 0), (.bool false), (.int .i64 0)]) h8) fun v9 h9 =>
  bnd (stS (storeV 3 v9 v8 h9)) fun v10 h10 =>
  bnd (pu h10 (loadV G true 3 v0 h10)) fun v11 h11 =>
  bnd (pureCall (words_Valid.f G k) [v11] h11) fun v12 h12 =>
  bnd (pu h12 (loadV G true 3 v9 h12)) fun v13 h13 =>
  bnd (pureCall (alembicsee_Same.f G k) [v12, v13] h13) fun v14 h14 =>
  bnd (pu h14 (un .not v14)) fun v15 h15 =>
  condA v15
  (finV [(.bool false)] h.length h15)
  (thenK (
  bnd (pu h15 (fieldAddrV 0 v9)) fun v16 h16 =>
  bnd (pu h16 (loadV G false 1 v16 h16)) fun v17 h17 =>
  bnd (pu h17 (bin Tryd.prog .eql 3 true v17 (.int .i64 0))) fun v18 h18 =>
  bnd (gd v18 true h18 (some (x1, h18))) fun v19 h19 =>
  bnd (gd v18 true h19 (pu h19 (lenSl v19))) fun v20 h20 =>
  bnd (gd v18 true h20 (pu h20 (fieldAddrV 2 v0))) fun v21 h21 =>
  bnd (gd v18 true h21 (pu h21 (loadV G false 1 v21 h21))) fun v22 h22 =>
  bnd (gd v18 true h22 (pu h22 (bin Tryd.prog .neq 3 false v20 v22))) fun v23 h23 =>
  bnd (pu h23 (pickA v18 v23 (.bool false))) fun v24 h24 =>
  condA v24
  (bnd (pureCall (alembicref_Bare.f G k) [(.int .i64 102)] h24) fun v25 h25 =>
  bnd (stS (storeV 3 v9 v25 h25)) fun v26 h26 =>
  some (.normal, [x1, x2, v0, v1, v9], h26))
  (some (.normal, [x1, x2, v0, v1, v9], h24))) fun e27 x27 h27 => exK e27
  (thenK (
  bnd (pu h27 (fieldAddrV 0 (nth x27 4))) fun v28 h28 =>
  bnd (pu h28 (loadV G false 1 v28 h28)) fun v29 h29 =>
  bnd (pu h29 (bin Tryd.prog .eql 3 true v29 (.int .i64 0))) fun v30 h30 =>
  bnd (gd v30 true h30 (some ((nth x27 1), h30))) fun v31 h31 =>
  bnd (gd v30 true h31 (pu h31 (bin Tryd.prog .lss 2 true v31 (.int .i64 0)))) fun v32 h32 =>
  bnd (gd v30 true h32 (some (v32, h32))) fun v33 h33 =>
  bnd (gd v33 false h33 (some ((nth x27 1), h33))) fun v34 h34 =>
  bnd (gd v33 false h34 (pu h34 (bin Tryd.prog .gtr 2 true v34 (.int .i64 1073741824)))) fun v35 h35 =>
  bnd (gd v30 true h35 (pu h35 (pickA v33 (.bool true) v35))) fun v36 h36 =>
  bnd (pu h36 (pickA v30 v36 (.bool false))) fun v37 h37 =>
  condA v37
  (bnd (pureCall (alembicref_Bare.f G k) [(.int .i64 101)] h37) fun v38 h38 =>
  bnd (stS (storeV 3 (nth x27 4) v38 h38)) fun v39 h39 =>
  some (.normal, [(nth x27 0), (nth x27 1), (nth x27 2), (nth x27 3), (nth x27 4)], h39))
  (some (.normal, [(nth x27 0), (nth x27 1), (nth x27 2), (nth x27 3), (nth x27 4)], h37))) fun e40 x40 h40 => exK e40
  (bnd (pu h40 (loadV G true 3 (nth x40 2) h40)) fun v41 h41 =>
  bnd (pureCall (words_Run.f G k) [v41, (nth x40 0), (nth x40 1)] h41) fun v42 h42 =>
  bnd (pu h42 (extractA v42 0)) fun v43 h43 =>
  bnd (pu h43 (extractA v42 1)) fun v44 h44 =>
  bnd (boxA 40 (.agg [(.int .i64 0), .nils, .nils, (.int .i64 0)]) h44) fun v45 h45 =>
  bnd (stS (storeV 4 v45 v43 h45)) fun v46 h46 =>
  bnd (pu h46 (loadV G true 3 (nth x40 4) h46)) fun v47 h47 =>
  bnd (pureCall (alembicsee_Same.f G k) [v44, v47] h47) fun v48 h48 =>
  bnd (pu h48 (un .not v48)) fun v49 h49 =>
  condA v49
  (finV [(.bool false)] h.length h49)
  (bnd (pu h49 (fieldAddrV 0 (nth x40 4))) fun v50 h50 =>
  bnd (pu h50 (loadV G false 1 v50 h50)) fun v51 h51 =>
  bnd (pu h51 (bin Tryd.prog .neq 3 true v51 (.int .i64 0))) fun v52 h52 =>
  condA v52
  (bnd (gd (nth x40 3) true h52 (pu h52 (fieldAddrV 0 v45))) fun v53 h53 =>
  bnd (gd (nth x40 3) true h53 (pu h53 (loadV G false 1 v53 h53))) fun v54 h54 =>
  bnd (gd (nth x40 3) true h54 (pu h54 (bin Tryd.prog .eql 3 true v54 (.int .i64 0)))) fun v55 h55 =>
  bnd (pu h55 (pickA (nth x40 3) v55 (.bool false))) fun v56 h56 =>
  bnd (gd v56 true h56 (pu h56 (fieldAddrV 1 v45))) fun v57 h57 =>
  bnd (gd v56 true h57 (pu h57 (loadV G false 1 v57 h57))) fun v58 h58 =>
  bnd (gd v56 true h58 (pu h58 (lenSl v58))) fun v59 h59 =>
  bnd (gd v56 true h59 (pu h59 (fieldAddrV 2 v45))) fun v60 h60 =>
  bnd (gd v56 true h60 (pu h60 (loadV G false 1 v60 h60))) fun v61 h61 =>
  bnd (gd v56 true h61 (pu h61 (lenSl v61))) fun v62 h62 =>
  bnd (gd v56 true h62 (pu h62 (bin Tryd.prog .add 3 false v59 v62))) fun v63 h63 =>
  bnd (gd v56 true h63 (pu h63 (bin Tryd.prog .eql 3 true v63 (.int .i64 0)))) fun v64 h64 =>
  bnd (pu h64 (pickA v56 v64 (.bool false))) fun v65 h65 =>
  bnd (gd v65 true h65 (pu h65 (fieldAddrV 3 v45))) fun v66 h66 =>
  bnd (gd v65 true h66 (pu h66 (loadV G false 1 v66 h66))) fun v67 h67 =>
  bnd (gd v65 true h67 (pu h67 (bin Tryd.prog .eql 2 true v67 (.int .i64 0)))) fun v68 h68 =>
  bnd (pu h68 (pickA v65 v68 (.bool false))) fun v69 h69 =>
  finV [v69] h.length h69)
  (bnd (pu h52 (loadV G true 3 (nth x40 2) h52)) fun v70 h70 =>
  bnd (pureCall (alembiclaw17_other.f G k) [v70] h70) fun v71 h71 =>
  bnd (pureCall (alembicref17_Run.f G k) [v71, .nils, (nth x40 0), (nth x40 1)] h71) fun v72 h72 =>
  bnd (boxA 44 (.agg [(.int .i64 0), .nils, .nils, (.int .i64 0), (.int .i64 0)]) h72) fun v73 h73 =>
  bnd (stS (storeV 5 v73 v72 h73)) fun v74 h74 =>
  bnd (gd (nth x40 3) true h74 (pu h74 (fieldAddrV 0 v45))) fun v75 h75 =>
  bnd (gd (nth x40 3) true h75 (pu h75 (loadV G false 1 v75 h75))) fun v76 h76 =>
  bnd (gd (nth x40 3) true h76 (pu h76 (fieldAddrV 0 v73))) fun v77 h77 =>
  bnd (gd (nth x40 3) true h77 (pu h77 (loadV G false 1 v77 h77))) fun v78 h78 =>
  bnd (gd (nth x40 3) true h78 (pu h78 (bin Tryd.prog .eql 3 false v76 v78))) fun v79 h79 =>
  bnd (pu h79 (pickA (nth x40 3) v79 (.bool false))) fun v80 h80 =>
  bnd (gd v80 true h80 (pu h80 (fieldAddrV 1 v45))) fun v81 h81 =>
  bnd (gd v80 true h81 (pu h81 (loadV G false 1 v81 h81))) fun v82 h82 =>
  bnd (gd v80 true h82 (pu h82 (fieldAddrV 1 v73))) fun v83 h83 =>
  bnd (gd v80 true h83 (pu h83 (loadV G false 1 v83 h83))) fun v84 h84 =>
  bnd (gd v80 true h84 (pureCall (alembicref_SameWords.f G k) [v82, v84] h84)) fun v85 h85 =>
  bnd (pu h85 (pickA v80 v85 (.bool false))) fun v86 h86 =>
  bnd (gd v86 true h86 (pu h86 (fieldAddrV 2 v45))) fun v87 h87 =>
  bnd (gd v86 true h87 (pu h87 (loadV G false 1 v87 h87))) fun v88 h88 =>
  bnd (gd v86 true h88 (pu h88 (fieldAddrV 2 v73))) fun v89 h89 =>
  bnd (gd v86 true h89 (pu h89 (loadV G false 1 v89 h89))) fun v90 h90 =>
  bnd (gd v86 true h90 (pureCall (alembicref_SameLeaks.f G k) [v88, v90] h90)) fun v91 h91 =>
  bnd (pu h91 (pickA v86 v91 (.bool false))) fun v92 h92 =>
  bnd (gd v92 true h92 (pu h92 (fieldAddrV 3 v45))) fun v93 h93 =>
  bnd (gd v92 true h93 (pu h93 (loadV G false 1 v93 h93))) fun v94 h94 =>
  bnd (gd v92 true h94 (pu h94 (fieldAddrV 3 v73))) fun v95 h95 =>
  bnd (gd v92 true h95 (pu h95 (loadV G false 1 v95 h95))) fun v96 h96 =>
  bnd (gd v92 true h96 (pu h96 (bin Tryd.prog .eql 2 false v94 v96))) fun v97 h97 =>
  bnd (pu h97 (pickA v92 v97 (.bool false))) fun v98 h98 =>
  finV [v98] h.length h98)))
  (fun i40 => none)
  (finV [.undef] h.length h40))
  (fun i27 => none)
  (finV [.undef] h.length h27)))))
noncomputable def alembiclaw17_WordsRun.f (G : Globs) : Nat → Den
  | 0 => fun _ _ => none
  | k + 1 => fun args h => arg3 args fun x0 x1 x2 => (alembiclaw17_WordsRun.c G k (alembiclaw17_WordsRun.f G k) x0 x1 x2 h)
theorem alembiclaw17_WordsRun.step (G : Globs) (k : Nat) (x0 x1 x2 : AV) (h : AHeap) : alembiclaw17_WordsRun.f G (k + 1) [x0, x1, x2] h = alembiclaw17_WordsRun.c G k (alembiclaw17_WordsRun.f G k) x0 x1 x2 h := rfl
/-! alembic/alembiclaw17.WordsMeans$1: function 23 -/
noncomputable def alembiclaw17_WordsMeans_1.ann : Ann := mkAnn [] [] [] []
noncomputable def alembiclaw17_WordsMeans_1.env (G : Globs) (k : Nat) (self : Den) : List (Nat × Bool × Den) := [(24, true, words_Value.f G k)]
noncomputable def alembiclaw17_WordsMeans_1.c (G : Globs) (k : Nat) (self : Den) (x0 x1 x2 x3 x4 : AV) (h : AHeap) : Option (AV × AHeap) := outV (
  bnd (pu h (buildSt [(0, 1), (1, 1), (2, 1), (3, 1), (4, 1), (5, 1)] [(.int .i64 0), (.int .i64 0), (.int .i64 0), (.int .i64 0), (.int .i64 0), (.int .i64 0)] [(0, x0), (5, x3)])) fun v0 h0 =>
  bnd (pu h0 (loadV G false 1 x4 h0)) fun v1 h1 =>
  bnd (pureCall (words_Value.f G k) [v0, x1, x2, v1] h1) fun v2 h2 =>
  bnd (pu h2 (extractA v2 0)) fun v3 h3 =>
  bnd (pu h3 (extractA v2 1)) fun v4 h4 =>
  bnd (pu h4 (un .not v4)) fun v5 h5 =>
  condA v5
  (finV [(.int .u64 7777777)] h.length h5)
  (finV [v3] h.length h5))
noncomputable def alembiclaw17_WordsMeans_1.f (G : Globs) : Nat → Den
  | 0 => fun _ _ => none
  | k + 1 => fun args h => arg5 args fun x0 x1 x2 x3 x4 => (alembiclaw17_WordsMeans_1.c G k (alembiclaw17_WordsMeans_1.f G k) x0 x1 x2 x3 x4 h)
theorem alembiclaw17_WordsMeans_1.step (G : Globs) (k : Nat) (x0 x1 x2 x3 x4 : AV) (h : AHeap) : alembiclaw17_WordsMeans_1.f G (k + 1) [x0, x1, x2, x3, x4] h = alembiclaw17_WordsMeans_1.c G k (alembiclaw17_WordsMeans_1.f G k) x0 x1 x2 x3 x4 h := rfl
/-! alembic/alembicworld.Number: function 25 -/
noncomputable def alembicworld_Number.ann : Ann := mkAnn [] [] [] []
noncomputable def alembicworld_Number.env (G : Globs) (k : Nat) (self : Den) : List (Nat × Bool × Den) := []
noncomputable def alembicworld_Number.c (G : Globs) (k : Nat) (self : Den) (x0 x1 : AV) (h : AHeap) : Option (AV × AHeap) := outV (
  bnd (pu h (bin Tryd.prog .rem 3 false x0 x1)) fun v0 h0 =>
  bnd (pu h0 (bin Tryd.prog .lss 3 true v0 (.int .i64 0))) fun v1 h1 =>
  condA v1
  (bnd (pu h1 (bin Tryd.prog .add 3 false v0 x1)) fun v2 h2 =>
  finV [v2] h.length h2)
  (finV [v0] h.length h1))
noncomputable def alembicworld_Number.f (G : Globs) : Nat → Den
  | 0 => fun _ _ => none
  | k + 1 => fun args h => arg2 args fun x0 x1 => (alembicworld_Number.c G k (alembicworld_Number.f G k) x0 x1 h)
theorem alembicworld_Number.step (G : Globs) (k : Nat) (x0 x1 : AV) (h : AHeap) : alembicworld_Number.f G (k + 1) [x0, x1] h = alembicworld_Number.c G k (alembicworld_Number.f G k) x0 x1 h := rfl
/-! alembic/alembiclaw17.WordsMeans: function 4 -/
noncomputable def alembiclaw17_WordsMeans.ann : Ann := mkAnnV [6] [] [] [] [] [29, 33, 37, 78, 79, 85, 86, 92, 98, 150, 151, 161, 165, 174, 178, 186, 197, 204]
noncomputable def alembiclaw17_WordsMeans.env (G : Globs) (k : Nat) (self : Den) : List (Nat × Bool × Den) := [(12, true, alembiclaw17_first.f G k), (23, true, alembiclaw17_WordsMeans_1.f G k), (25, true, alembicworld_Number.f G k)]
noncomputable def alembiclaw17_WordsMeans.c (G : Globs) (k : Nat) (self : Den) (x0 x1 x2 x3 : AV) (h : AHeap) : Option (AV × AHeap) := outV (
  bnd (boxA 48 x2 h) fun v0 h0 =>
  bnd (pureCall (alembiclaw17_first.f G k) [] h0) fun v1 h1 =>
  bnd (pu h1 (un .not v1)) fun v2 h2 =>
  condA v2
  (finV [(.bool false)] h.length h2)
  (bnd (pureCall (alembicworld_Number.f G k) [x3, (.int .i64 63)] h2) fun v3 h3 =>
  bnd (pu h3 (bin Tryd.prog .add 3 true v3 (.int .i64 1))) fun v4 h4 =>
  bnd (callPV (envL (alembiclaw17_WordsMeans.env G k self)) (.fn 23 [v0]) [(.int .i64 3), x0, x1, (.int .i64 0)] h4) fun v5 h5 =>
  bnd (callPV (envL (alembiclaw17_WordsMeans.env G k self)) (.fn 23 [v0]) [(.int .i64 5), x0, x1, (.int .i64 0)] h5) fun v6 h6 =>
  bnd (callPV (envL (alembiclaw17_WordsMeans.env G k self)) (.fn 23 [v0]) [(.int .i64 6), x0, x1, (.int .i64 0)] h6) fun v7 h7 =>
  bnd (pu h7 (bin Tryd.prog .and 48 true x0 (.int .u64 4294967295))) fun v8 h8 =>
  bnd (pu h8 (bin Tryd.prog .and 48 true x1 (.int .u64 4294967295))) fun v9 h9 =>
  bnd (pu h9 (bin Tryd.prog .mul 48 false v8 v9)) fun v10 h10 =>
  bnd (pu h10 (bin Tryd.prog .shr 48 true x0 (.int .u64 32))) fun v11 h11 =>
  bnd (pu h11 (bin Tryd.prog .and 48 true x1 (.int .u64 4294967295))) fun v12 h12 =>
  bnd (pu h12 (bin Tryd.prog .mul 48 false v11 v12)) fun v13 h13 =>
  bnd (pu h13 (bin Tryd.prog .and 48 true x0 (.int .u64 4294967295))) fun v14 h14 =>
  bnd (pu h14 (bin Tryd.prog .shr 48 true x1 (.int .u64 32))) fun v15 h15 =>
  bnd (pu h15 (bin Tryd.prog .mul 48 false v14 v15)) fun v16 h16 =>
  bnd (pu h16 (bin Tryd.prog .shr 48 true v10 (.int .u64 32))) fun v17 h17 =>
  bnd (pu h17 (bin Tryd.prog .and 48 true v13 (.int .u64 4294967295))) fun v18 h18 =>
  bnd (pu h18 (bin Tryd.prog .add 48 false v17 v18)) fun v19 h19 =>
  bnd (pu h19 (bin Tryd.prog .and 48 true v16 (.int .u64 4294967295))) fun v20 h20 =>
  bnd (pu h20 (bin Tryd.prog .add 48 false v19 v20)) fun v21 h21 =>
  bnd (pu h21 (bin Tryd.prog .shr 48 true x0 (.int .u64 32))) fun v22 h22 =>
  bnd (pu h22 (bin Tryd.prog .shr 48 true x1 (.int .u64 32))) fun v23 h23 =>
  bnd (pu h23 (bin Tryd.prog .mul 48 false v22 v23)) fun v24 h24 =>
  bnd (pu h24 (bin Tryd.prog .shr 48 true v13 (.int .u64 32))) fun v25 h25 =>
  bnd (pu h25 (bin Tryd.prog .add 48 false v24 v25)) fun v26 h26 =>
  bnd (pu h26 (bin Tryd.prog .shr 48 true v16 (.int .u64 32))) fun v27 h27 =>
  bnd (pu h27 (bin Tryd.prog .add 48 false v26 v27)) fun v28 h28 =>
  bnd (pu h28 (bin Tryd.prog .shr 48 true v21 (.int .u64 32))) fun v29 h29 =>
  bnd (pu h29 (bin Tryd.prog .add 48 false v28 v29)) fun v30 h30 =>
  bnd (callPV (envL (alembiclaw17_WordsMeans.env G k self)) (.fn 23 [v0]) [(.int .i64 10), x0, (.int .u64 0), v4] h30) fun v31 h31 =>
  bnd (callPV (envL (alembiclaw17_WordsMeans.env G k self)) (.fn 23 [v0]) [(.int .i64 11), v31, (.int .u64 0), v4] h31) fun v32 h32 =>
  bnd (callPV (envL (alembiclaw17_WordsMeans.env G k self)) (.fn 23 [v0]) [(.int .i64 11), x0, (.int .u64 0), v4] h32) fun v33 h33 =>
  bnd (callPV (envL (alembiclaw17_WordsMeans.env G k self)) (.fn 23 [v0]) [(.int .i64 10), v33, (.int .u64 0), v4] h33) fun v34 h34 =>
  bnd (callPV (envL (alembiclaw17_WordsMeans.env G k self)) (.fn 23 [v0]) [(.int .i64 12), x0, (.int .u64 0), v4] h34) fun v35 h35 =>
  bnd (gd v1 true h35 (some ((.fn 23 [v0]), h35))) fun v36 h36 =>
  bnd (gd v1 true h36 (some (v5, h36))) fun v37 h37 =>
  bnd (gd v1 true h37 (some (x1, h37))) fun v38 h38 =>
  bnd (gd v1 true h38 (callPV (envL (alembiclaw17_WordsMeans.env G k self)) v36 [(.int .i64 4), v37, v38, (.int .i64 0)] h38)) fun v39 h39 =>
  bnd (gd v1 true h39 (some (x0, h39))) fun v40 h40 =>
  bnd (gd v1 true h40 (pu h40 (bin Tryd.prog .eql 48 false v39 v40))) fun v41 h41 =>
  bnd (pu h41 (pickA v1 v41 (.bool false))) fun v42 h42 =>
  bnd (gd v42 true h42 (some (v6, h42))) fun v43 h43 =>
  bnd (gd v42 true h43 (some (x0, h43))) fun v44 h44 =>
  bnd (gd v42 true h44 (some (x1, h44))) fun v45 h45 =>
  bnd (gd v42 true h45 (pu h45 (bin Tryd.prog .mul 48 false v44 v45))) fun v46 h46 =>
  bnd (gd v42 true h46 (pu h46 (bin Tryd.prog .eql 48 false v43 v46))) fun v47 h47 =>
  bnd (pu h47 (pickA v42 v47 (.bool false))) fun v48 h48 =>
  bnd (gd v48 true h48 (some (v7, h48))) fun v49 h49 =>
  bnd (gd v48 true h49 (some (v30, h49))) fun v50 h50 =>
  bnd (gd v48 true h50 (pu h50 (bin Tryd.prog .eql 48 false v49 v50))) fun v51 h51 =>
  bnd (pu h51 (pickA v48 v51 (.bool false))) fun v52 h52 =>
  bnd (gd v52 true h52 (some (v32, h52))) fun v53 h53 =>
  bnd (gd v52 true h53 (some (x0, h53))) fun v54 h54 =>
  bnd (gd v52 true h54 (some (v4, h54))) fun v55 h55 =>
  bnd (gd v52 true h55 (pu h55 (bin Tryd.prog .sub 3 true (.int .i64 64) v55))) fun v56 h56 =>
  bnd (gd v52 true h56 (pu h56 (convInt .u64 v56))) fun v57 h57 =>
  bnd (gd v52 true h57 (pu h57 (bin Tryd.prog .shl 48 true (.int .u64 1) v57))) fun v58 h58 =>
  bnd (gd v52 true h58 (pu h58 (bin Tryd.prog .sub 48 true v58 (.int .u64 1)))) fun v59 h59 =>
  bnd (gd v52 true h59 (pu h59 (bin Tryd.prog .and 48 false v54 v59))) fun v60 h60 =>
  bnd (gd v52 true h60 (pu h60 (bin Tryd.prog .eql 48 false v53 v60))) fun v61 h61 =>
  bnd (pu h61 (pickA v52 v61 (.bool false))) fun v62 h62 =>
  bnd (gd v62 true h62 (some (v34, h62))) fun v63 h63 =>
  bnd (gd v62 true h63 (some (x0, h63))) fun v64 h64 =>
  bnd (gd v62 true h64 (some (v4, h64))) fun v65 h65 =>
  bnd (gd v62 true h65 (pu h65 (convInt .u64 v65))) fun v66 h66 =>
  bnd (gd v62 true h66 (pu h66 (bin Tryd.prog .shr 48 false v64 v66))) fun v67 h67 =>
  bnd (gd v62 true h67 (some (v4, h67))) fun v68 h68 =>
  bnd (gd v62 true h68 (pu h68 (convInt .u64 v68))) fun v69 h69 =>
  bnd (gd v62 true h69 (pu h69 (bin Tryd.prog .shl 48 false v67 v69))) fun v70 h70 =>
  bnd (gd v62 true h70 (pu h70 (bin Tryd.prog .eql 48 false v63 v70))) fun v71 h71 =>
  bnd (pu h71 (pickA v62 v71 (.bool false))) fun v72 h72 =>
  bnd (gd v72 true h72 (some (v35, h72))) fun v73 h73 =>
  bnd (gd v72 true h73 (some (x0, h73))) fun v74 h74 =>
  bnd (gd v72 true h74 (pu h74 (convInt .i64 v74))) fun v75 h75 =>
  bnd (gd v72 true h75 (some (v4, h75))) fun v76 h76 =>
  bnd (gd v72 true h76 (pu h76 (convInt .u64 v76))) fun v77 h77 =>
  bnd (gd v72 true h77 (pu h77 (bin Tryd.prog .shr 2 false v75 v77))) fun v78 h78 =>
  bnd (gd v72 true h78 (pu h78 (convInt .u64 v78))) fun v79 h79 =>
  bnd (gd v72 true h79 (pu h79 (bin Tryd.prog .eql 48 false v73 v79))) fun v80 h80 =>
  bnd (pu h80 (pickA v72 v80 (.bool false))) fun v81 h81 =>
  bnd (gd v81 true h81 (some ((.fn 23 [v0]), h81))) fun v82 h82 =>
  bnd (gd v81 true h82 (some ((.fn 23 [v0]), h82))) fun v83 h83 =>
  bnd (gd v81 true h83 (some (x0, h83))) fun v84 h84 =>
  bnd (gd v81 true h84 (some (x1, h84))) fun v85 h85 =>
  bnd (gd v81 true h85 (callPV (envL (alembiclaw17_WordsMeans.env G k self)) v83 [(.int .i64 9), v84, v85, (.int .i64 0)] h85)) fun v86 h86 =>
  bnd (gd v81 true h86 (some (x1, h86))) fun v87 h87 =>
  bnd (gd v81 true h87 (callPV (envL (alembiclaw17_WordsMeans.env G k self)) v82 [(.int .i64 9), v86, v87, (.int .i64 0)] h87)) fun v88 h88 =>
  bnd (gd v81 true h88 (some (x0, h88))) fun v89 h89 =>
  bnd (gd v81 true h89 (pu h89 (bin Tryd.prog .eql 48 false v88 v89))) fun v90 h90 =>
  bnd (pu h90 (pickA v81 v90 (.bool false))) fun v91 h91 =>
  bnd (gd v91 true h91 (some ((.fn 23 [v0]), h91))) fun v92 h92 =>
  bnd (gd v91 true h92 (some (x0, h92))) fun v93 h93 =>
  bnd (gd v91 true h93 (some (x1, h93))) fun v94 h94 =>
  bnd (gd v91 true h94 (callPV (envL (alembiclaw17_WordsMeans.env G k self)) v92 [(.int .i64 7), v93, v94, (.int .i64 0)] h94)) fun v95 h95 =>
  bnd (gd v91 true h95 (some ((.fn 23 [v0]), h95))) fun v96 h96 =>
  bnd (gd v91 true h96 (some (x0, h96))) fun v97 h97 =>
  bnd (gd v91 true h97 (some (x1, h97))) fun v98 h98 =>
  bnd (gd v91 true h98 (callPV (envL (alembiclaw17_WordsMeans.env G k self)) v96 [(.int .i64 8), v97, v98, (.int .i64 0)] h98)) fun v99 h99 =>
  bnd (gd v91 true h99 (pu h99 (bin Tryd.prog .add 48 false v95 v99))) fun v100 h100 =>
  bnd (gd v91 true h100 (some (v5, h100))) fun v101 h101 =>
  bnd (gd v91 true h101 (pu h101 (bin Tryd.prog .eql 48 false v100 v101))) fun v102 h102 =>
  bnd (pu h102 (pickA v91 v102 (.bool false))) fun v103 h103 =>
  bnd (gd v103 true h103 (some ((.fn 23 [v0]), h103))) fun v104 h104 =>
  bnd (gd v103 true h104 (some (x0, h104))) fun v105 h105 =>
  bnd (gd v103 true h105 (some (x1, h105))) fun v106 h106 =>
  bnd (gd v103 true h106 (callPV (envL (alembiclaw17_WordsMeans.env G k self)) v104 [(.int .i64 13), v105, v106, (.int .i64 0)] h106)) fun v107 h107 =>
  bnd (gd v103 true h107 (some ((.fn 23 [v0]), h107))) fun v108 h108 =>
  bnd (gd v103 true h108 (some (x1, h108))) fun v109 h109 =>
  bnd (gd v103 true h109 (some (x0, h109))) fun v110 h110 =>
  bnd (gd v103 true h110 (callPV (envL (alembiclaw17_WordsMeans.env G k self)) v108 [(.int .i64 13), v109, v110, (.int .i64 0)] h110)) fun v111 h111 =>
  bnd (gd v103 true h111 (pu h111 (bin Tryd.prog .add 48 false v107 v111))) fun v112 h112 =>
  bnd (gd v103 true h112 (pu h112 (bin Tryd.prog .leq 48 true v112 (.int .u64 1)))) fun v113 h113 =>
  bnd (pu h113 (pickA v103 v113 (.bool false))) fun v114 h114 =>
  bnd (gd v114 true h114 (some ((.fn 23 [v0]), h114))) fun v115 h115 =>
  bnd (gd v114 true h115 (some (x0, h115))) fun v116 h116 =>
  bnd (gd v114 true h116 (some (x1, h116))) fun v117 h117 =>
  bnd (gd v114 true h117 (callPV (envL (alembiclaw17_WordsMeans.env G k self)) v115 [(.int .i64 13), v116, v117, (.int .i64 0)] h117)) fun v118 h118 =>
  bnd (gd v114 true h118 (pu h118 (bin Tryd.prog .eql 48 true v118 (.int .u64 1)))) fun v119 h119 =>
  bnd (gd v114 true h119 (some (x0, h119))) fun v120 h120 =>
  bnd (gd v114 true h120 (some (x1, h120))) fun v121 h121 =>
  bnd (gd v114 true h121 (pu h121 (bin Tryd.prog .lss 48 false v120 v121))) fun v122 h122 =>
  bnd (gd v114 true h122 (pu h122 (bin Tryd.prog .eql 4 false v119 v122))) fun v123 h123 =>
  bnd (pu h123 (pickA v114 v123 (.bool false))) fun v124 h124 =>
  bnd (gd v124 true h124 (some ((.fn 23 [v0]), h124))) fun v125 h125 =>
  bnd (gd v124 true h125 (some (x1, h125))) fun v126 h126 =>
  bnd (gd v124 true h126 (callPV (envL (alembiclaw17_WordsMeans.env G k self)) v125 [(.int .i64 14), (.int .u64 0), v126, (.int .i64 0)] h126)) fun v127 h127 =>
  bnd (gd v124 true h127 (pu h127 (loadV G false 1 v0 h127))) fun v128 h128 =>
  bnd (gd v124 true h128 (pu h128 (bin Tryd.prog .eql 48 false v127 v128))) fun v129 h129 =>
  bnd (pu h129 (pickA v124 v129 (.bool false))) fun v130 h130 =>
  bnd (gd v130 true h130 (some ((.fn 23 [v0]), h130))) fun v131 h131 =>
  bnd (gd v130 true h131 (some (x0, h131))) fun v132 h132 =>
  bnd (gd v130 true h132 (pu h132 (bin Tryd.prog .or 48 true v132 (.int .u64 1)))) fun v133 h133 =>
  bnd (gd v130 true h133 (some (x1, h133))) fun v134 h134 =>
  bnd (gd v130 true h134 (callPV (envL (alembiclaw17_WordsMeans.env G k self)) v131 [(.int .i64 14), v133, v134, (.int .i64 0)] h134)) fun v135 h135 =>
  bnd (gd v130 true h135 (some (x1, h135))) fun v136 h136 =>
  bnd (gd v130 true h136 (pu h136 (bin Tryd.prog .eql 48 false v135 v136))) fun v137 h137 =>
  bnd (pu h137 (pickA v130 v137 (.bool false))) fun v138 h138 =>
  finV [v138] h.length h138))
noncomputable def alembiclaw17_WordsMeans.f (G : Globs) : Nat → Den
  | 0 => fun _ _ => none
  | k + 1 => fun args h => arg4 args fun x0 x1 x2 x3 => (alembiclaw17_WordsMeans.c G k (alembiclaw17_WordsMeans.f G k) x0 x1 x2 x3 h)
theorem alembiclaw17_WordsMeans.step (G : Globs) (k : Nat) (x0 x1 x2 x3 : AV) (h : AHeap) : alembiclaw17_WordsMeans.f G (k + 1) [x0, x1, x2, x3] h = alembiclaw17_WordsMeans.c G k (alembiclaw17_WordsMeans.f G k) x0 x1 x2 x3 h := rfl
/-! alembic/alembiclaw17.WordsLoops: function 6 -/
noncomputable def alembiclaw17_WordsLoops.ann : Ann := mkAnn [39] [] [(12, [0, 3, 4, 5, 6, 7, 8])] []
noncomputable def alembiclaw17_WordsLoops.env (G : Globs) (k : Nat) (self : Den) : List (Nat × Bool × Den) := [(12, true, alembiclaw17_first.f G k), (19, true, words_Run.f G k)]
noncomputable def alembiclaw17_WordsLoops.l12 (G : Globs) (k n0 : Nat) (self : Den) (lp : LoopF) : LoopF := fun xs h0 => cutK n0 xs h0 fun h =>
  bnd (pu h (bin Tryd.prog .lss 3 false (nth xs 6) (nth xs 2))) fun v27 h27 =>
  condA v27
  (bnd (pu h27 (idxAddrSl 1 (nth xs 0) (nth xs 6))) fun v28 h28 =>
  bnd (pu h28 (loadV G false 1 v28 h28)) fun v29 h29 =>
  bnd (pu h29 (bin Tryd.prog .add 48 false (nth xs 5) v29)) fun v30 h30 =>
  bnd (pu h30 (bin Tryd.prog .add 3 true (nth xs 6) (.int .i64 1))) fun v31 h31 =>
  lp [(nth xs 0), (nth xs 1), (nth xs 2), (nth xs 3), (nth xs 4), v30, v31] h31)
  (some (.exit 0, [(nth xs 0), (nth xs 1), (nth xs 2), (nth xs 3), (nth xs 4), (nth xs 5), (nth xs 6)], h27))
noncomputable def alembiclaw17_WordsLoops.c (G : Globs) (k : Nat) (self : Den) (x0 : AV) (h : AHeap) : Option (AV × AHeap) := outV (
  bnd (pureCall (alembiclaw17_first.f G k) [] h) fun v0 h0 =>
  bnd (pu h0 (un .not v0)) fun v1 h1 =>
  condA v1
  (finV [(.bool false)] h.length h1)
  (bnd (pu h1 (lenSl x0)) fun v2 h2 =>
  bnd (pu h2 (bin Tryd.prog .gtr 3 true v2 (.int .i64 40))) fun v3 h3 =>
  condA v3
  (finV [v0] h.length h3)
  (bnd (pu h3 (lenSl x0)) fun v4 h4 =>
  bnd (pu h4 (bin Tryd.prog .add 3 true v4 (.int .i64 1))) fun v5 h5 =>
  bnd (pu h5 (buildSt [(0, 1), (1, 1), (2, 1)] [.nils, (.int .i64 0), (.int .i64 0)] [(1, (.int .i64 6)), (2, v5)])) fun v6 h6 =>
  bnd (boxA 24 (.agg [.nils, (.int .i64 0), (.int .i64 0)]) h6) fun v7 h7 =>
  bnd (stS (storeV 3 v7 v6 h7)) fun v8 h8 =>
  bnd (pu h8 (buildSt [(0, 1), (1, 1), (2, 1), (3, 1), (4, 1), (5, 1)] [(.int .i64 0), (.int .i64 0), (.int .i64 0), (.int .i64 0), (.int .i64 0), (.int .i64 0)] [(0, (.int .i64 1)), (1, (.int .i64 2)), (5, (.int .i64 1))])) fun v9 h9 =>
  bnd (pu h9 (buildSt [(0, 1), (1, 1), (2, 1), (3, 1), (4, 1), (5, 1)] [(.int .i64 0), (.int .i64 0), (.int .i64 0), (.int .i64 0), (.int .i64 0), (.int .i64 0)] [(0, (.int .i64 1)), (1, (.int .i64 3)), (5, v4)])) fun v10 h10 =>
  bnd (pu h10 (buildSt [(0, 1), (1, 1), (2, 1), (3, 1), (4, 1), (5, 1)] [(.int .i64 0), (.int .i64 0), (.int .i64 0), (.int .i64 0), (.int .i64 0), (.int .i64 0)] [(0, (.int .i64 13)), (1, (.int .i64 5)), (2, (.int .i64 0)), (3, (.int .i64 3))])) fun v11 h11 =>
  bnd (pu h11 (buildSt [(0, 1), (1, 1), (2, 1), (3, 1), (4, 1), (5, 1)] [(.int .i64 0), (.int .i64 0), (.int .i64 0), (.int .i64 0), (.int .i64 0), (.int .i64 0)] [(0, (.int .i64 18)), (2, (.int .i64 5)), (5, (.int .i64 8))])) fun v12 h12 =>
  bnd (pu h12 (buildSt [(0, 1), (1, 1), (2, 1), (3, 1), (4, 1), (5, 1)] [(.int .i64 0), (.int .i64 0), (.int .i64 0), (.int .i64 0), (.int .i64 0), (.int .i64 0)] [(0, (.int .i64 15)), (1, (.int .i64 4)), (2, (.int .i64 0))])) fun v13 h13 =>
  bnd (pu h13 (buildSt [(0, 1), (1, 1), (2, 1), (3, 1), (4, 1), (5, 1)] [(.int .i64 0), (.int .i64 0), (.int .i64 0), (.int .i64 0), (.int .i64 0), (.int .i64 0)] [(0, (.int .i64 3)), (1, (.int .i64 1)), (2, (.int .i64 1)), (3, (.int .i64 4))])) fun v14 h14 =>
  bnd (pu h14 (buildSt [(0, 1), (1, 1), (2, 1), (3, 1), (4, 1), (5, 1)] [(.int .i64 0), (.int .i64 0), (.int .i64 0), (.int .i64 0), (.int .i64 0), (.int .i64 0)] [(0, (.int .i64 3)), (1, (.int .i64 0)), (2, (.int .i64 0)), (3, (.int .i64 2))])) fun v15 h15 =>
  bnd (pu h15 (buildSt [(0, 1), (1, 1), (2, 1), (3, 1), (4, 1), (5, 1)] [(.int .i64 0), (.int .i64 0), (.int .i64 0), (.int .i64 0), (.int .i64 0), (.int .i64 0)] [(0, (.int .i64 17)), (5, (.int .i64 2))])) fun v16 h16 =>
  bnd (pu h16 (buildSt [(0, 1), (1, 1), (2, 1), (3, 1), (4, 1), (5, 1)] [(.int .i64 0), (.int .i64 0), (.int .i64 0), (.int .i64 0), (.int .i64 0), (.int .i64 0)] [(0, (.int .i64 16)), (2, (.int .i64 0)), (3, (.int .i64 1))])) fun v17 h17 =>
  bnd (pu h17 (buildSt [(0, 1), (1, 1), (2, 1), (3, 1), (4, 1), (5, 1)] [(.int .i64 0), (.int .i64 0), (.int .i64 0), (.int .i64 0), (.int .i64 0), (.int .i64 0)] [(0, (.int .i64 20))])) fun v18 h18 =>
  bnd (buildRo 6 10 (.agg [(.int .i64 0), (.int .i64 0), (.int .i64 0), (.int .i64 0), (.int .i64 0), (.int .i64 0)]) [(0, v9), (1, v10), (2, v11), (3, v12), (4, v13), (5, v14), (6, v15), (7, v16), (8, v17), (9, v18)] h18) fun v19 h19 =>
  bnd (pu h19 (fieldAddrV 0 v7)) fun v20 h20 =>
  bnd (stS (storeV 1 v20 v19 h20)) fun v21 h21 =>
  bnd (buildOwn 48 1 0 (.int .u64 0) [] h21) fun v22 h22 =>
  bnd (appendV 48 1 v22 x0 h22) fun v23 h23 =>
  bnd (buildRo 1 1 (.int .u64 0) [(0, (.int .u64 0))] h23) fun v24 h24 =>
  bnd (appendV 48 1 v23 v24 h24) fun v25 h25 =>
  thenK (loopN (alembiclaw17_WordsLoops.l12 G k h25.length self) k [x0, v0, v4, v7, v25, (.int .u64 0), (.int .i64 0)] h25) fun e26 x26 h26 => exK e26
  (bnd (pu h26 (bin Tryd.prog .mul 3 true (.int .i64 6) (nth x26 2))) fun v32 h32 =>
  bnd (pu h32 (bin Tryd.prog .add 3 true v32 (.int .i64 6))) fun v33 h33 =>
  bnd (pu h33 (loadV G true 3 (nth x26 3) h33)) fun v34 h34 =>
  bnd (pureCall (words_Run.f G k) [v34, (nth x26 4), v33] h34) fun v35 h35 =>
  bnd (pu h35 (extractA v35 0)) fun v36 h36 =>
  bnd (pu h36 (extractA v35 1)) fun v37 h37 =>
  bnd (boxA 40 (.agg [(.int .i64 0), .nils, .nils, (.int .i64 0)]) h37) fun v38 h38 =>
  bnd (stS (storeV 4 v38 v36 h38)) fun v39 h39 =>
  bnd (pu h39 (loadV G true 3 (nth x26 3) h39)) fun v40 h40 =>
  bnd (pu h40 (bin Tryd.prog .sub 2 true v33 (.int .i64 1))) fun v41 h41 =>
  bnd (pureCall (words_Run.f G k) [v40, (nth x26 4), v41] h41) fun v42 h42 =>
  bnd (pu h42 (extractA v42 0)) fun v43 h43 =>
  bnd (pu h43 (extractA v42 1)) fun v44 h44 =>
  bnd (boxA 40 (.agg [(.int .i64 0), .nils, .nils, (.int .i64 0)]) h44) fun v45 h45 =>
  bnd (stS (storeV 4 v45 v43 h45)) fun v46 h46 =>
  bnd (gd (nth x26 1) true h46 (some (v37, h46))) fun v47 h47 =>
  bnd (gd (nth x26 1) true h47 (pu h47 (bin Tryd.prog .eql 35 true v47 .nili))) fun v48 h48 =>
  bnd (pu h48 (pickA (nth x26 1) v48 (.bool false))) fun v49 h49 =>
  bnd (gd v49 true h49 (some (v44, h49))) fun v50 h50 =>
  bnd (gd v49 true h50 (pu h50 (bin Tryd.prog .eql 35 true v50 .nili))) fun v51 h51 =>
  bnd (pu h51 (pickA v49 v51 (.bool false))) fun v52 h52 =>
  bnd (gd v52 true h52 (pu h52 (fieldAddrV 0 v38))) fun v53 h53 =>
  bnd (gd v52 true h53 (pu h53 (loadV G false 1 v53 h53))) fun v54 h54 =>
  bnd (gd v52 true h54 (pu h54 (bin Tryd.prog .eql 3 true v54 (.int .i64 0)))) fun v55 h55 =>
  bnd (pu h55 (pickA v52 v55 (.bool false))) fun v56 h56 =>
  bnd (gd v56 true h56 (pu h56 (fieldAddrV 3 v38))) fun v57 h57 =>
  bnd (gd v56 true h57 (pu h57 (loadV G false 1 v57 h57))) fun v58 h58 =>
  bnd (gd v56 true h58 (some (v33, h58))) fun v59 h59 =>
  bnd (gd v56 true h59 (pu h59 (bin Tryd.prog .eql 2 false v58 v59))) fun v60 h60 =>
  bnd (pu h60 (pickA v56 v60 (.bool false))) fun v61 h61 =>
  bnd (gd v61 true h61 (pu h61 (fieldAddrV 1 v38))) fun v62 h62 =>
  bnd (gd v61 true h62 (pu h62 (loadV G false 1 v62 h62))) fun v63 h63 =>
  bnd (gd v61 true h63 (some ((nth x26 2), h63))) fun v64 h64 =>
  bnd (gd v61 true h64 (pu h64 (idxAddrSl 1 v63 v64))) fun v65 h65 =>
  bnd (gd v61 true h65 (pu h65 (loadV G false 1 v65 h65))) fun v66 h66 =>
  bnd (gd v61 true h66 (some ((nth x26 5), h66))) fun v67 h67 =>
  bnd (gd v61 true h67 (pu h67 (bin Tryd.prog .eql 48 false v66 v67))) fun v68 h68 =>
  bnd (pu h68 (pickA v61 v68 (.bool false))) fun v69 h69 =>
  bnd (gd v69 true h69 (pu h69 (fieldAddrV 0 v45))) fun v70 h70 =>
  bnd (gd v69 true h70 (pu h70 (loadV G false 1 v70 h70))) fun v71 h71 =>
  bnd (gd v69 true h71 (pu h71 (bin Tryd.prog .eql 3 true v71 (.int .i64 4)))) fun v72 h72 =>
  bnd (pu h72 (pickA v69 v72 (.bool false))) fun v73 h73 =>
  bnd (gd v73 true h73 (pu h73 (fieldAddrV 3 v45))) fun v74 h74 =>
  bnd (gd v73 true h74 (pu h74 (loadV G false 1 v74 h74))) fun v75 h75 =>
  bnd (gd v73 true h75 (some (v33, h75))) fun v76 h76 =>
  bnd (gd v73 true h76 (pu h76 (bin Tryd.prog .sub 2 true v76 (.int .i64 1)))) fun v77 h77 =>
  bnd (gd v73 true h77 (pu h77 (bin Tryd.prog .eql 2 false v75 v77))) fun v78 h78 =>
  bnd (pu h78 (pickA v73 v78 (.bool false))) fun v79 h79 =>
  bnd (gd v79 true h79 (pu h79 (fieldAddrV 2 v38))) fun v80 h80 =>
  bnd (gd v79 true h80 (pu h80 (loadV G false 1 v80 h80))) fun v81 h81 =>
  bnd (gd v79 true h81 (pu h81 (lenSl v81))) fun v82 h82 =>
  bnd (gd v79 true h82 (some ((nth x26 2), h82))) fun v83 h83 =>
  bnd (gd v79 true h83 (pu h83 (bin Tryd.prog .mul 3 true (.int .i64 6) v83))) fun v84 h84 =>
  bnd (gd v79 true h84 (pu h84 (bin Tryd.prog .add 3 true v84 (.int .i64 6)))) fun v85 h85 =>
  bnd (gd v79 true h85 (some ((nth x26 2), h85))) fun v86 h86 =>
  bnd (gd v79 true h86 (pu h86 (bin Tryd.prog .add 3 false v85 v86))) fun v87 h87 =>
  bnd (gd v79 true h87 (pu h87 (bin Tryd.prog .add 3 true v87 (.int .i64 1)))) fun v88 h88 =>
  bnd (gd v79 true h88 (some ((nth x26 2), h88))) fun v89 h89 =>
  bnd (gd v79 true h89 (pu h89 (bin Tryd.prog .add 3 false v88 v89))) fun v90 h90 =>
  bnd (gd v79 true h90 (pu h90 (bin Tryd.prog .add 3 true v90 (.int .i64 1)))) fun v91 h91 =>
  bnd (gd v79 true h91 (pu h91 (bin Tryd.prog .eql 3 false v82 v91))) fun v92 h92 =>
  bnd (pu h92 (pickA v79 v92 (.bool false))) fun v93 h93 =>
  finV [v93] h.length h93)
  (fun i26 => if i26 = 0 then (bnd (pu h26 (bin Tryd.prog .mul 3 true (.int .i64 6) (nth x26 2))) fun v94 h94 =>
  bnd (pu h94 (bin Tryd.prog .add 3 true v94 (.int .i64 6))) fun v95 h95 =>
  bnd (pu h95 (loadV G true 3 (nth x26 3) h95)) fun v96 h96 =>
  bnd (pureCall (words_Run.f G k) [v96, (nth x26 4), v95] h96) fun v97 h97 =>
  bnd (pu h97 (extractA v97 0)) fun v98 h98 =>
  bnd (pu h98 (extractA v97 1)) fun v99 h99 =>
  bnd (boxA 40 (.agg [(.int .i64 0), .nils, .nils, (.int .i64 0)]) h99) fun v100 h100 =>
  bnd (stS (storeV 4 v100 v98 h100)) fun v101 h101 =>
  bnd (pu h101 (loadV G true 3 (nth x26 3) h101)) fun v102 h102 =>
  bnd (pu h102 (bin Tryd.prog .sub 2 true v95 (.int .i64 1))) fun v103 h103 =>
  bnd (pureCall (words_Run.f G k) [v102, (nth x26 4), v103] h103) fun v104 h104 =>
  bnd (pu h104 (extractA v104 0)) fun v105 h105 =>
  bnd (pu h105 (extractA v104 1)) fun v106 h106 =>
  bnd (boxA 40 (.agg [(.int .i64 0), .nils, .nils, (.int .i64 0)]) h106) fun v107 h107 =>
  bnd (stS (storeV 4 v107 v105 h107)) fun v108 h108 =>
  bnd (gd (nth x26 1) true h108 (some (v99, h108))) fun v109 h109 =>
  bnd (gd (nth x26 1) true h109 (pu h109 (bin Tryd.prog .eql 35 true v109 .nili))) fun v110 h110 =>
  bnd (pu h110 (pickA (nth x26 1) v110 (.bool false))) fun v111 h111 =>
  bnd (gd v111 true h111 (some (v106, h111))) fun v112 h112 =>
  bnd (gd v111 true h112 (pu h112 (bin Tryd.prog .eql 35 true v112 .nili))) fun v113 h113 =>
  bnd (pu h113 (pickA v111 v113 (.bool false))) fun v114 h114 =>
  bnd (gd v114 true h114 (pu h114 (fieldAddrV 0 v100))) fun v115 h115 =>
  bnd (gd v114 true h115 (pu h115 (loadV G false 1 v115 h115))) fun v116 h116 =>
  bnd (gd v114 true h116 (pu h116 (bin Tryd.prog .eql 3 true v116 (.int .i64 0)))) fun v117 h117 =>
  bnd (pu h117 (pickA v114 v117 (.bool false))) fun v118 h118 =>
  bnd (gd v118 true h118 (pu h118 (fieldAddrV 3 v100))) fun v119 h119 =>
  bnd (gd v118 true h119 (pu h119 (loadV G false 1 v119 h119))) fun v120 h120 =>
  bnd (gd v118 true h120 (some (v95, h120))) fun v121 h121 =>
  bnd (gd v118 true h121 (pu h121 (bin Tryd.prog .eql 2 false v120 v121))) fun v122 h122 =>
  bnd (pu h122 (pickA v118 v122 (.bool false))) fun v123 h123 =>
  bnd (gd v123 true h123 (pu h123 (fieldAddrV 1 v100))) fun v124 h124 =>
  bnd (gd v123 true h124 (pu h124 (loadV G false 1 v124 h124))) fun v125 h125 =>
  bnd (gd v123 true h125 (some ((nth x26 2), h125))) fun v126 h126 =>
  bnd (gd v123 true h126 (pu h126 (idxAddrSl 1 v125 v126))) fun v127 h127 =>
  bnd (gd v123 true h127 (pu h127 (loadV G false 1 v127 h127))) fun v128 h128 =>
  bnd (gd v123 true h128 (some ((nth x26 5), h128))) fun v129 h129 =>
  bnd (gd v123 true h129 (pu h129 (bin Tryd.prog .eql 48 false v128 v129))) fun v130 h130 =>
  bnd (pu h130 (pickA v123 v130 (.bool false))) fun v131 h131 =>
  bnd (gd v131 true h131 (pu h131 (fieldAddrV 0 v107))) fun v132 h132 =>
  bnd (gd v131 true h132 (pu h132 (loadV G false 1 v132 h132))) fun v133 h133 =>
  bnd (gd v131 true h133 (pu h133 (bin Tryd.prog .eql 3 true v133 (.int .i64 4)))) fun v134 h134 =>
  bnd (pu h134 (pickA v131 v134 (.bool false))) fun v135 h135 =>
  bnd (gd v135 true h135 (pu h135 (fieldAddrV 3 v107))) fun v136 h136 =>
  bnd (gd v135 true h136 (pu h136 (loadV G false 1 v136 h136))) fun v137 h137 =>
  bnd (gd v135 true h137 (some (v95, h137))) fun v138 h138 =>
  bnd (gd v135 true h138 (pu h138 (bin Tryd.prog .sub 2 true v138 (.int .i64 1)))) fun v139 h139 =>
  bnd (gd v135 true h139 (pu h139 (bin Tryd.prog .eql 2 false v137 v139))) fun v140 h140 =>
  bnd (pu h140 (pickA v135 v140 (.bool false))) fun v141 h141 =>
  bnd (gd v141 true h141 (pu h141 (fieldAddrV 2 v100))) fun v142 h142 =>
  bnd (gd v141 true h142 (pu h142 (loadV G false 1 v142 h142))) fun v143 h143 =>
  bnd (gd v141 true h143 (pu h143 (lenSl v143))) fun v144 h144 =>
  bnd (gd v141 true h144 (some ((nth x26 2), h144))) fun v145 h145 =>
  bnd (gd v141 true h145 (pu h145 (bin Tryd.prog .mul 3 true (.int .i64 6) v145))) fun v146 h146 =>
  bnd (gd v141 true h146 (pu h146 (bin Tryd.prog .add 3 true v146 (.int .i64 6)))) fun v147 h147 =>
  bnd (gd v141 true h147 (some ((nth x26 2), h147))) fun v148 h148 =>
  bnd (gd v141 true h148 (pu h148 (bin Tryd.prog .add 3 false v147 v148))) fun v149 h149 =>
  bnd (gd v141 true h149 (pu h149 (bin Tryd.prog .add 3 true v149 (.int .i64 1)))) fun v150 h150 =>
  bnd (gd v141 true h150 (some ((nth x26 2), h150))) fun v151 h151 =>
  bnd (gd v141 true h151 (pu h151 (bin Tryd.prog .add 3 false v150 v151))) fun v152 h152 =>
  bnd (gd v141 true h152 (pu h152 (bin Tryd.prog .add 3 true v152 (.int .i64 1)))) fun v153 h153 =>
  bnd (gd v141 true h153 (pu h153 (bin Tryd.prog .eql 3 false v144 v153))) fun v154 h154 =>
  bnd (pu h154 (pickA v141 v154 (.bool false))) fun v155 h155 =>
  finV [v155] h.length h155) else (none))
  (finV [.undef] h.length h26))))
noncomputable def alembiclaw17_WordsLoops.f (G : Globs) : Nat → Den
  | 0 => fun _ _ => none
  | k + 1 => fun args h => arg1 args fun x0 => (alembiclaw17_WordsLoops.c G k (alembiclaw17_WordsLoops.f G k) x0 h)
theorem alembiclaw17_WordsLoops.step (G : Globs) (k : Nat) (x0 : AV) (h : AHeap) : alembiclaw17_WordsLoops.f G (k + 1) [x0] h = alembiclaw17_WordsLoops.c G k (alembiclaw17_WordsLoops.f G k) x0 h := rfl
/-! alembic/alembiclaw17.WordsFaults: function 7 -/
noncomputable def alembiclaw17_WordsFaults.ann : Ann := mkAnn [] [] [] [(18, [0, 1, 2, 7, 11, 12, 13, 14]), (12, [0, 1, 2, 7, 9]), (8, [0, 1, 2, 7, 8])]
noncomputable def alembiclaw17_WordsFaults.env (G : Globs) (k : Nat) (self : Den) : List (Nat × Bool × Den) := [(12, true, alembiclaw17_first.f G k), (19, true, words_Run.f G k), (25, true, alembicworld_Number.f G k)]
noncomputable def alembiclaw17_WordsFaults.c (G : Globs) (k : Nat) (self : Den) (x0 x1 x2 : AV) (h : AHeap) : Option (AV × AHeap) := outV (
  bnd (pureCall (alembiclaw17_first.f G k) [] h) fun v0 h0 =>
  bnd (pu h0 (un .not v0)) fun v1 h1 =>
  condA v1
  (finV [(.bool false)] h.length h1)
  (bnd (pureCall (alembicworld_Number.f G k) [x1, (.int .i64 50)] h1) fun v2 h2 =>
  bnd (pu h2 (bin Tryd.prog .add 3 true v2 (.int .i64 1))) fun v3 h3 =>
  thenK (
  condA x2
  (some (.normal, [x0, v3, x2, v0, (.int .i64 15)], h3))
  (some (.normal, [x0, v3, x2, v0, (.int .i64 16)], h3))) fun e4 x4 h4 => exK e4
  (bnd (pu h4 (buildSt [(0, 1), (1, 1), (2, 1), (3, 1), (4, 1), (5, 1)] [(.int .i64 0), (.int .i64 0), (.int .i64 0), (.int .i64 0), (.int .i64 0), (.int .i64 0)] [(0, (nth x4 4)), (2, (.int .i64 0)), (5, (.int .i64 3))])) fun v5 h5 =>
  bnd (boxA 52 (.agg [(.int .i64 0), (.int .i64 0), (.int .i64 0), (.int .i64 0), (.int .i64 0), (.int .i64 0)]) h5) fun v6 h6 =>
  bnd (stS (storeV 6 v6 v5 h6)) fun v7 h7 =>
  thenK (
  condA (nth x4 2)
  (bnd (pu h7 (fieldAddrV 1 v6)) fun v8 h8 =>
  bnd (stS (storeV 1 v8 (.int .i64 1) h8)) fun v9 h9 =>
  some (.normal, [(nth x4 0), (nth x4 1), (nth x4 2), (nth x4 3), v6], h9))
  (bnd (pu h7 (fieldAddrV 3 v6)) fun v10 h10 =>
  bnd (stS (storeV 1 v10 (.int .i64 1) h10)) fun v11 h11 =>
  some (.normal, [(nth x4 0), (nth x4 1), (nth x4 2), (nth x4 3), v6], h11))) fun e12 x12 h12 => exK e12
  (bnd (pu h12 (buildSt [(0, 1), (1, 1), (2, 1), (3, 1), (4, 1), (5, 1)] [(.int .i64 0), (.int .i64 0), (.int .i64 0), (.int .i64 0), (.int .i64 0), (.int .i64 0)] [(0, (.int .i64 1)), (1, (.int .i64 1)), (5, (.int .i64 77))])) fun v13 h13 =>
  bnd (pu h13 (buildSt [(0, 1), (1, 1), (2, 1), (3, 1), (4, 1), (5, 1)] [(.int .i64 0), (.int .i64 0), (.int .i64 0), (.int .i64 0), (.int .i64 0), (.int .i64 0)] [(0, (.int .i64 16)), (2, (.int .i64 0)), (3, (.int .i64 1)), (5, (.int .i64 0))])) fun v14 h14 =>
  bnd (pu h14 (convInt .i64 (nth x12 0))) fun v15 h15 =>
  bnd (pu h15 (buildSt [(0, 1), (1, 1), (2, 1), (3, 1), (4, 1), (5, 1)] [(.int .i64 0), (.int .i64 0), (.int .i64 0), (.int .i64 0), (.int .i64 0), (.int .i64 0)] [(0, (.int .i64 1)), (1, (.int .i64 0)), (5, v15)])) fun v16 h16 =>
  bnd (pu h16 (loadV G true 6 (nth x12 4) h16)) fun v17 h17 =>
  bnd (pu h17 (buildSt [(0, 1), (1, 1), (2, 1), (3, 1), (4, 1), (5, 1)] [(.int .i64 0), (.int .i64 0), (.int .i64 0), (.int .i64 0), (.int .i64 0), (.int .i64 0)] [(0, (.int .i64 17)), (5, (.int .i64 5))])) fun v18 h18 =>
  bnd (buildRo 6 5 (.agg [(.int .i64 0), (.int .i64 0), (.int .i64 0), (.int .i64 0), (.int .i64 0), (.int .i64 0)]) [(0, v13), (1, v14), (2, v16), (3, v17), (4, v18)] h18) fun v19 h19 =>
  bnd (pu h19 (buildSt [(0, 1), (1, 1), (2, 1)] [.nils, (.int .i64 0), (.int .i64 0)] [(1, (.int .i64 2)), (2, (nth x12 1)), (0, v19)])) fun v20 h20 =>
  bnd (boxA 24 (.agg [.nils, (.int .i64 0), (.int .i64 0)]) h20) fun v21 h21 =>
  bnd (stS (storeV 3 v21 v20 h21)) fun v22 h22 =>
  bnd (pu h22 (loadV G true 3 v21 h22)) fun v23 h23 =>
  bnd (makeSliceV 48 1 (.int .u64 0) (nth x12 1) (nth x12 1) h23) fun v24 h24 =>
  bnd (pureCall (words_Run.f G k) [v23, v24, (.int .i64 100)] h24) fun v25 h25 =>
  bnd (pu h25 (extractA v25 0)) fun v26 h26 =>
  bnd (pu h26 (extractA v25 1)) fun v27 h27 =>
  bnd (boxA 40 (.agg [(.int .i64 0), .nils, .nils, (.int .i64 0)]) h27) fun v28 h28 =>
  bnd (stS (storeV 4 v28 v26 h28)) fun v29 h29 =>
  bnd (pu h29 (bin Tryd.prog .add 48 true (nth x12 0) (.int .u64 3))) fun v30 h30 =>
  bnd (pu h30 (convInt .u64 (nth x12 1))) fun v31 h31 =>
  bnd (pu h31 (bin Tryd.prog .geq 48 false v30 v31)) fun v32 h32 =>
  thenK (
  condA v32
  (some (.normal, [(nth x12 0), (nth x12 1), (nth x12 2), (nth x12 3), v28, v27, v32, (.int .i64 4)], h32))
  (some (.normal, [(nth x12 0), (nth x12 1), (nth x12 2), (nth x12 3), v28, v27, v32, (.int .i64 5)], h32))) fun e33 x33 h33 => exK e33
  (bnd (gd (nth x33 3) true h33 (some ((nth x33 5), h33))) fun v34 h34 =>
  bnd (gd (nth x33 3) true h34 (pu h34 (bin Tryd.prog .eql 35 true v34 .nili))) fun v35 h35 =>
  bnd (pu h35 (pickA (nth x33 3) v35 (.bool false))) fun v36 h36 =>
  bnd (gd v36 true h36 (pu h36 (fieldAddrV 0 (nth x33 4)))) fun v37 h37 =>
  bnd (gd v36 true h37 (pu h37 (loadV G false 1 v37 h37))) fun v38 h38 =>
  bnd (gd v36 true h38 (pu h38 (bin Tryd.prog .eql 3 true v38 (.int .i64 3)))) fun v39 h39 =>
  bnd (pu h39 (pickA v36 v39 (.bool false))) fun v40 h40 =>
  bnd (gd v40 true h40 (pu h40 (fieldAddrV 3 (nth x33 4)))) fun v41 h41 =>
  bnd (gd v40 true h41 (pu h41 (loadV G false 1 v41 h41))) fun v42 h42 =>
  bnd (gd v40 true h42 (some ((nth x33 7), h42))) fun v43 h43 =>
  bnd (gd v40 true h43 (pu h43 (bin Tryd.prog .eql 2 false v42 v43))) fun v44 h44 =>
  bnd (pu h44 (pickA v40 v44 (.bool false))) fun v45 h45 =>
  bnd (gd v45 true h45 (pu h45 (fieldAddrV 1 (nth x33 4)))) fun v46 h46 =>
  bnd (gd v45 true h46 (pu h46 (loadV G false 1 v46 h46))) fun v47 h47 =>
  bnd (gd v45 true h47 (pu h47 (lenSl v47))) fun v48 h48 =>
  bnd (gd v45 true h48 (some ((nth x33 1), h48))) fun v49 h49 =>
  bnd (gd v45 true h49 (pu h49 (bin Tryd.prog .eql 3 false v48 v49))) fun v50 h50 =>
  bnd (pu h50 (pickA v45 v50 (.bool false))) fun v51 h51 =>
  bnd (gd v51 true h51 (pu h51 (fieldAddrV 1 (nth x33 4)))) fun v52 h52 =>
  bnd (gd v51 true h52 (pu h52 (loadV G false 1 v52 h52))) fun v53 h53 =>
  bnd (gd v51 true h53 (pu h53 (idxAddrSl 1 v53 (.int .i64 0)))) fun v54 h54 =>
  bnd (gd v51 true h54 (pu h54 (loadV G false 1 v54 h54))) fun v55 h55 =>
  bnd (gd v51 true h55 (pu h55 (bin Tryd.prog .eql 48 true v55 (.int .u64 77)))) fun v56 h56 =>
  bnd (gd v51 true h56 (some (v56, h56))) fun v57 h57 =>
  bnd (gd v57 false h57 (some ((nth x33 6), h57))) fun v58 h58 =>
  bnd (gd v57 false h58 (pu h58 (un .not v58))) fun v59 h59 =>
  bnd (gd v57 false h59 (some (v59, h59))) fun v60 h60 =>
  bnd (gd v60 true h60 (some ((nth x33 2), h60))) fun v61 h61 =>
  bnd (gd v60 true h61 (pu h61 (un .not v61))) fun v62 h62 =>
  bnd (gd v57 false h62 (pu h62 (pickA v60 v62 (.bool false)))) fun v63 h63 =>
  bnd (gd v57 false h63 (some (v63, h63))) fun v64 h64 =>
  bnd (gd v64 true h64 (some ((nth x33 0), h64))) fun v65 h65 =>
  bnd (gd v64 true h65 (pu h65 (bin Tryd.prog .add 48 true v65 (.int .u64 3)))) fun v66 h66 =>
  bnd (gd v64 true h66 (pu h66 (bin Tryd.prog .eql 48 true v66 (.int .u64 0)))) fun v67 h67 =>
  bnd (gd v57 false h67 (pu h67 (pickA v64 v67 (.bool false)))) fun v68 h68 =>
  bnd (gd v51 true h68 (pu h68 (pickA v57 (.bool true) v68))) fun v69 h69 =>
  bnd (pu h69 (pickA v51 v69 (.bool false))) fun v70 h70 =>
  finV [v70] h.length h70)
  (fun i33 => none)
  (finV [.undef] h.length h33))
  (fun i12 => none)
  (finV [.undef] h.length h12))
  (fun i4 => none)
  (finV [.undef] h.length h4)))
noncomputable def alembiclaw17_WordsFaults.f (G : Globs) : Nat → Den
  | 0 => fun _ _ => none
  | k + 1 => fun args h => arg3 args fun x0 x1 x2 => (alembiclaw17_WordsFaults.c G k (alembiclaw17_WordsFaults.f G k) x0 x1 x2 h)
theorem alembiclaw17_WordsFaults.step (G : Globs) (k : Nat) (x0 x1 x2 : AV) (h : AHeap) : alembiclaw17_WordsFaults.f G (k + 1) [x0, x1, x2] h = alembiclaw17_WordsFaults.c G k (alembiclaw17_WordsFaults.f G k) x0 x1 x2 h := rfl
/-! alembic/bound.Check: function 30 -/
noncomputable def bound_Check.ann : Ann := mkAnn [4, 5] [] [] []
noncomputable def bound_Check.env (G : Globs) (k : Nat) (self : Den) : List (Nat × Bool × Den) := [(17, true, words_Valid.f G k), (44, true, words_Given.f G k), (45, false, words_Watch.f G k), (60, false, bound_Check_1.f G k)]
noncomputable def bound_Check.c (G : Globs) (k : Nat) (self : Den) (x0 x1 x2 x3 : AV) (h : AHeap) : Option (AV × AHeap) := outV (
  bnd (boxA 24 x0 h) fun v0 h0 =>
  bnd (boxA 60 x1 h0) fun v1 h1 =>
  bnd (pu h1 (loadV G true 3 v0 h1)) fun v2 h2 =>
  bnd (pureCall (words_Valid.f G k) [v2] h2) fun v3 h3 =>
  bnd (pu h3 (bin Tryd.prog .neq 35 true v3 .nili)) fun v4 h4 =>
  condA v4
  (finV [(.int .i64 0), v3] h.length h4)
  (bnd (pu h4 (loadV G false 1 v1 h4)) fun v5 h5 =>
  bnd (pu h5 (lenSl v5)) fun v6 h6 =>
  bnd (pu h6 (fieldAddrV 0 v0)) fun v7 h7 =>
  bnd (pu h7 (loadV G false 1 v7 h7)) fun v8 h8 =>
  bnd (pu h8 (lenSl v8)) fun v9 h9 =>
  bnd (pu h9 (bin Tryd.prog .neq 3 false v6 v9)) fun v10 h10 =>
  condA v10
  (bnd (pu h10 (loadV G false 1 (.gl 1) h10)) fun v11 h11 =>
  finV [(.int .i64 0), v11] h.length h11)
  (bnd (pu h10 (loadV G true 3 v0 h10)) fun v12 h12 =>
  bnd (pureCall (words_Given.f G k) [v12, x2, x3] h12) fun v13 h13 =>
  bnd (pu h13 (bin Tryd.prog .neq 35 true v13 .nili)) fun v14 h14 =>
  condA v14
  (finV [(.int .i64 0), v13] h.length h14)
  (bnd (boxA 3 (.int .i64 0) h14) fun v15 h15 =>
  bnd (stS (storeV 1 v15 (.int .i64 (-1)) h15)) fun v16 h16 =>
  bnd (pu h16 (loadV G true 3 v0 h16)) fun v17 h17 =>
  bnd (heapCall (words_Watch.f G k) [v17, x2, x3, (.fn 60 [v0, v1, v15])] h17) fun v18 h18 =>
  bnd (pu h18 (loadV G false 1 v15 h18)) fun v19 h19 =>
  finV [v19, .nili] h.length h19))))
noncomputable def bound_Check.f (G : Globs) : Nat → Den
  | 0 => fun _ _ => none
  | k + 1 => fun args h => arg4 args fun x0 x1 x2 x3 => (bound_Check.c G k (bound_Check.f G k) x0 x1 x2 x3 h)
theorem bound_Check.step (G : Globs) (k : Nat) (x0 x1 x2 x3 : AV) (h : AHeap) : bound_Check.f G (k + 1) [x0, x1, x2, x3] h = bound_Check.c G k (bound_Check.f G k) x0 x1 x2 x3 h := rfl
/-! alembic/alembiclaw18.first: function 26 -/
noncomputable def alembiclaw18_first.ann : Ann := mkAnn [] [] [] []
noncomputable def alembiclaw18_first.env (G : Globs) (k : Nat) (self : Den) : List (Nat × Bool × Den) := [(28, true, bound_Exact.f G k), (30, true, bound_Check.f G k)]
noncomputable def alembiclaw18_first.c (G : Globs) (k : Nat) (self : Den) (h : AHeap) : Option (AV × AHeap) := outV (
  bnd (pu h (buildSt [(0, 1), (1, 1), (2, 1)] [.nils, (.int .i64 0), (.int .i64 0)] [])) fun v0 h0 =>
  bnd (pureCall (bound_Check.f G k) [v0, .nils, .nils, (.int .i64 5)] h0) fun v1 h1 =>
  bnd (pu h1 (extractA v1 0)) fun v2 h2 =>
  bnd (pu h2 (extractA v1 1)) fun v3 h3 =>
  bnd (pu h3 (buildSt [(0, 1), (1, 1), (2, 1), (3, 1), (4, 1), (5, 1)] [(.int .i64 0), (.int .i64 0), (.int .i64 0), (.int .i64 0), (.int .i64 0), (.int .i64 0)] [(0, (.int .i64 3))])) fun v4 h4 =>
  bnd (pureCall (bound_Exact.f G k) [v4, (.int .u64 3), (.int .u64 4)] h4) fun v5 h5 =>
  bnd (pu h5 (extractA v5 0)) fun v6 h6 =>
  bnd (pu h6 (extractA v5 1)) fun v7 h7 =>
  bnd (pu h7 (bin Tryd.prog .eql 35 true v3 .nili)) fun v8 h8 =>
  bnd (gd v8 true h8 (some (v2, h8))) fun v9 h9 =>
  bnd (gd v8 true h9 (pu h9 (bin Tryd.prog .eql 3 true v9 (.int .i64 (-1))))) fun v10 h10 =>
  bnd (pu h10 (pickA v8 v10 (.bool false))) fun v11 h11 =>
  bnd (gd v11 true h11 (some (v7, h11))) fun v12 h12 =>
  bnd (pu h12 (pickA v11 v12 (.bool false))) fun v13 h13 =>
  bnd (gd v13 true h13 (some (v6, h13))) fun v14 h14 =>
  bnd (gd v13 true h14 (pu h14 (bin Tryd.prog .eql 2 true v14 (.int .i64 7)))) fun v15 h15 =>
  bnd (pu h15 (pickA v13 v15 (.bool false))) fun v16 h16 =>
  finV [v16] h.length h16)
noncomputable def alembiclaw18_first.f (G : Globs) : Nat → Den
  | 0 => fun _ _ => none
  | k + 1 => fun args h => arg0 args (alembiclaw18_first.c G k (alembiclaw18_first.f G k) h)
theorem alembiclaw18_first.step (G : Globs) (k : Nat) (h : AHeap) : alembiclaw18_first.f G (k + 1) [] h = alembiclaw18_first.c G k (alembiclaw18_first.f G k) h := rfl
/-! alembic/alembiclaw18.other: function 27 -/
noncomputable def alembiclaw18_other.ann : Ann := mkAnn [] [] [] []
noncomputable def alembiclaw18_other.env (G : Globs) (k : Nat) (self : Den) : List (Nat × Bool × Den) := []
noncomputable def alembiclaw18_other.c (G : Globs) (k : Nat) (self : Den) (x0 : AV) (h : AHeap) : Option (AV × AHeap) := outV (
  bnd (boxRoA x0 h) fun v0 h0 =>
  bnd (boxA 31 (.agg [.nils, (.int .i64 0), (.int .i64 0)]) h0) fun v1 h1 =>
  bnd (pu h1 (fieldAddrV 0 v0)) fun v2 h2 =>
  bnd (pu h2 (loadV G false 1 v2 h2)) fun v3 h3 =>
  bnd (pu h3 (fieldAddrV 1 v0)) fun v4 h4 =>
  bnd (pu h4 (loadV G false 1 v4 h4)) fun v5 h5 =>
  bnd (pu h5 (fieldAddrV 2 v0)) fun v6 h6 =>
  bnd (pu h6 (loadV G false 1 v6 h6)) fun v7 h7 =>
  bnd (pu h7 (buildSt [(0, 1), (1, 1), (2, 1)] [.nils, (.int .i64 0), (.int .i64 0)] [(0, v3), (1, v5), (2, v7)])) fun v8 h8 =>
  bnd (stS (storeV 3 v1 v8 h8)) fun v9 h9 =>
  finL [loadV G true 3 v1 h9] h.length h9)
noncomputable def alembiclaw18_other.f (G : Globs) : Nat → Den
  | 0 => fun _ _ => none
  | k + 1 => fun args h => arg1 args fun x0 => (alembiclaw18_other.c G k (alembiclaw18_other.f G k) x0 h)
theorem alembiclaw18_other.step (G : Globs) (k : Nat) (x0 : AV) (h : AHeap) : alembiclaw18_other.f G (k + 1) [x0] h = alembiclaw18_other.c G k (alembiclaw18_other.f G k) x0 h := rfl
/-! alembic/alembiclaw18.BoundChecks: function 8 -/
noncomputable def alembiclaw18_BoundChecks.ann : Ann := mkAnn [] [] [] [(11, [1, 2, 3, 5, 6, 7, 11, 15, 16]), (9, [1, 2, 3, 5, 6, 7, 11, 15, 16])]
noncomputable def alembiclaw18_BoundChecks.env (G : Globs) (k : Nat) (self : Den) : List (Nat × Bool × Den) := [(14, true, alembicref17_Valid.f G k), (16, true, alembicsee_Same.f G k), (18, true, alembicref_Bare.f G k), (20, true, alembicref17_Run.f G k), (26, true, alembiclaw18_first.f G k), (27, true, alembiclaw18_other.f G k), (28, true, bound_Exact.f G k), (29, true, alembicref17_Exact.f G k), (30, true, bound_Check.f G k)]
noncomputable def alembiclaw18_BoundChecks.c (G : Globs) (k : Nat) (self : Den) (x0 x1 x2 x3 x4 x5 x6 : AV) (h : AHeap) : Option (AV × AHeap) := outV (
  bnd (boxRoA x0 h) fun v0 h0 =>
  bnd (boxRoA x4 h0) fun v1 h1 =>
  bnd (pureCall (alembiclaw18_first.f G k) [] h1) fun v2 h2 =>
  bnd (pu h2 (un .not v2)) fun v3 h3 =>
  condA v3
  (finV [(.bool false)] h.length h3)
  (bnd (pu h3 (fieldAddrV 0 v0)) fun v4 h4 =>
  bnd (pu h4 (loadV G false 1 v4 h4)) fun v5 h5 =>
  bnd (pu h5 (lenSl v5)) fun v6 h6 =>
  bnd (pu h6 (bin Tryd.prog .gtr 3 true v6 (.int .i64 80))) fun v7 h7 =>
  bnd (gd v7 false h7 (pu h7 (fieldAddrV 1 v0))) fun v8 h8 =>
  bnd (gd v7 false h8 (pu h8 (loadV G false 1 v8 h8))) fun v9 h9 =>
  bnd (gd v7 false h9 (pu h9 (bin Tryd.prog .gtr 3 true v9 (.int .i64 100)))) fun v10 h10 =>
  bnd (pu h10 (pickA v7 (.bool true) v10)) fun v11 h11 =>
  bnd (gd v11 false h11 (pu h11 (fieldAddrV 2 v0))) fun v12 h12 =>
  bnd (gd v11 false h12 (pu h12 (loadV G false 1 v12 h12))) fun v13 h13 =>
  bnd (gd v11 false h13 (pu h13 (bin Tryd.prog .gtr 3 true v13 (.int .i64 200)))) fun v14 h14 =>
  bnd (pu h14 (pickA v11 (.bool true) v14)) fun v15 h15 =>
  bnd (gd v15 false h15 (some (x2, h15))) fun v16 h16 =>
  bnd (gd v15 false h16 (pu h16 (lenSl v16))) fun v17 h17 =>
  bnd (gd v15 false h17 (pu h17 (bin Tryd.prog .gtr 3 true v17 (.int .i64 220)))) fun v18 h18 =>
  bnd (pu h18 (pickA v15 (.bool true) v18)) fun v19 h19 =>
  bnd (gd v19 false h19 (some (x1, h19))) fun v20 h20 =>
  bnd (gd v19 false h20 (pu h20 (lenSl v20))) fun v21 h21 =>
  bnd (gd v19 false h21 (pu h21 (bin Tryd.prog .gtr 3 true v21 (.int .i64 90)))) fun v22 h22 =>
  bnd (pu h22 (pickA v19 (.bool true) v22)) fun v23 h23 =>
  bnd (gd v23 false h23 (some (x3, h23))) fun v24 h24 =>
  bnd (gd v23 false h24 (pu h24 (bin Tryd.prog .gtr 2 true v24 (.int .i64 2000)))) fun v25 h25 =>
  bnd (gd v23 false h25 (some (v25, h25))) fun v26 h26 =>
  bnd (gd v26 true h26 (some (x3, h26))) fun v27 h27 =>
  bnd (gd v26 true h27 (pu h27 (bin Tryd.prog .leq 2 true v27 (.int .i64 1073741824)))) fun v28 h28 =>
  bnd (gd v23 false h28 (pu h28 (pickA v26 v28 (.bool false)))) fun v29 h29 =>
  bnd (pu h29 (pickA v23 (.bool true) v29)) fun v30 h30 =>
  condA v30
  (finV [v2] h.length h30)
  (bnd (pu h30 (loadV G true 3 v0 h30)) fun v31 h31 =>
  bnd (pureCall (alembiclaw18_other.f G k) [v31] h31) fun v32 h32 =>
  bnd (pureCall (alembicref17_Valid.f G k) [v32] h32) fun v33 h33 =>
  bnd (boxA 29 (.agg [(.int .i64 0), (.bool false), (.int .i64 0)]) h33) fun v34 h34 =>
  bnd (stS (storeV 3 v34 v33 h34)) fun v35 h35 =>
  thenK (
  bnd (pu h35 (fieldAddrV 0 v34)) fun v36 h36 =>
  bnd (pu h36 (loadV G false 1 v36 h36)) fun v37 h37 =>
  bnd (pu h37 (bin Tryd.prog .eql 3 true v37 (.int .i64 0))) fun v38 h38 =>
  bnd (gd v38 true h38 (some (x1, h38))) fun v39 h39 =>
  bnd (gd v38 true h39 (pu h39 (lenSl v39))) fun v40 h40 =>
  bnd (gd v38 true h40 (pu h40 (fieldAddrV 0 v0))) fun v41 h41 =>
  bnd (gd v38 true h41 (pu h41 (loadV G false 1 v41 h41))) fun v42 h42 =>
  bnd (gd v38 true h42 (pu h42 (lenSl v42))) fun v43 h43 =>
  bnd (gd v38 true h43 (pu h43 (bin Tryd.prog .neq 3 false v40 v43))) fun v44 h44 =>
  bnd (gd v38 true h44 (some (v44, h44))) fun v45 h45 =>
  bnd (gd v45 false h45 (some (x2, h45))) fun v46 h46 =>
  bnd (gd v45 false h46 (pu h46 (lenSl v46))) fun v47 h47 =>
  bnd (gd v45 false h47 (pu h47 (fieldAddrV 2 v0))) fun v48 h48 =>
  bnd (gd v45 false h48 (pu h48 (loadV G false 1 v48 h48))) fun v49 h49 =>
  bnd (gd v45 false h49 (pu h49 (bin Tryd.prog .neq 3 false v47 v49))) fun v50 h50 =>
  bnd (gd v38 true h50 (pu h50 (pickA v45 (.bool true) v50))) fun v51 h51 =>
  bnd (pu h51 (pickA v38 v51 (.bool false))) fun v52 h52 =>
  condA v52
  (bnd (pureCall (alembicref_Bare.f G k) [(.int .i64 102)] h52) fun v53 h53 =>
  bnd (stS (storeV 3 v34 v53 h53)) fun v54 h54 =>
  some (.normal, [x1, x2, x3, x5, x6, v0, v1, v2, v34], h54))
  (some (.normal, [x1, x2, x3, x5, x6, v0, v1, v2, v34], h52))) fun e55 x55 h55 => exK e55
  (thenK (
  bnd (pu h55 (fieldAddrV 0 (nth x55 8))) fun v56 h56 =>
  bnd (pu h56 (loadV G false 1 v56 h56)) fun v57 h57 =>
  bnd (pu h57 (bin Tryd.prog .eql 3 true v57 (.int .i64 0))) fun v58 h58 =>
  bnd (gd v58 true h58 (some ((nth x55 2), h58))) fun v59 h59 =>
  bnd (gd v58 true h59 (pu h59 (bin Tryd.prog .lss 2 true v59 (.int .i64 0)))) fun v60 h60 =>
  bnd (gd v58 true h60 (some (v60, h60))) fun v61 h61 =>
  bnd (gd v61 false h61 (some ((nth x55 2), h61))) fun v62 h62 =>
  bnd (gd v61 false h62 (pu h62 (bin Tryd.prog .gtr 2 true v62 (.int .i64 1073741824)))) fun v63 h63 =>
  bnd (gd v58 true h63 (pu h63 (pickA v61 (.bool true) v63))) fun v64 h64 =>
  bnd (pu h64 (pickA v58 v64 (.bool false))) fun v65 h65 =>
  condA v65
  (bnd (pureCall (alembicref_Bare.f G k) [(.int .i64 101)] h65) fun v66 h66 =>
  bnd (stS (storeV 3 (nth x55 8) v66 h66)) fun v67 h67 =>
  some (.normal, [(nth x55 0), (nth x55 1), (nth x55 2), (nth x55 3), (nth x55 4), (nth x55 5), (nth x55 6), (nth x55 7), (nth x55 8)], h67))
  (some (.normal, [(nth x55 0), (nth x55 1), (nth x55 2), (nth x55 3), (nth x55 4), (nth x55 5), (nth x55 6), (nth x55 7), (nth x55 8)], h65))) fun e68 x68 h68 => exK e68
  (bnd (pu h68 (loadV G true 6 (nth x68 6) h68)) fun v69 h69 =>
  bnd (pureCall (bound_Exact.f G k) [v69, (nth x68 3), (nth x68 4)] h69) fun v70 h70 =>
  bnd (pu h70 (extractA v70 0)) fun v71 h71 =>
  bnd (pu h71 (extractA v70 1)) fun v72 h72 =>
  bnd (pu h72 (loadV G true 6 (nth x68 6) h72)) fun v73 h73 =>
  bnd (pureCall (alembicref17_Exact.f G k) [v73, (nth x68 3), (nth x68 4)] h73) fun v74 h74 =>
  bnd (pu h74 (extractA v74 0)) fun v75 h75 =>
  bnd (pu h75 (extractA v74 1)) fun v76 h76 =>
  bnd (pu h76 (loadV G true 3 (nth x68 5) h76)) fun v77 h77 =>
  bnd (pureCall (bound_Check.f G k) [v77, (nth x68 0), (nth x68 1), (nth x68 2)] h77) fun v78 h78 =>
  bnd (pu h78 (extractA v78 0)) fun v79 h79 =>
  bnd (pu h79 (extractA v78 1)) fun v80 h80 =>
  bnd (pu h80 (bin Tryd.prog .neq 2 false v71 v75)) fun v81 h81 =>
  bnd (gd v81 false h81 (some (v72, h81))) fun v82 h82 =>
  bnd (gd v81 false h82 (some (v76, h82))) fun v83 h83 =>
  bnd (gd v81 false h83 (pu h83 (bin Tryd.prog .neq 4 false v82 v83))) fun v84 h84 =>
  bnd (pu h84 (pickA v81 (.bool true) v84)) fun v85 h85 =>
  bnd (gd v85 false h85 (some (v80, h85))) fun v86 h86 =>
  bnd (gd v85 false h86 (pu h86 (loadV G true 3 (nth x68 8) h86))) fun v87 h87 =>
  bnd (gd v85 false h87 (pureCall (alembicsee_Same.f G k) [v86, v87] h87)) fun v88 h88 =>
  bnd (gd v85 false h88 (pu h88 (un .not v88))) fun v89 h89 =>
  bnd (pu h89 (pickA v85 (.bool true) v89)) fun v90 h90 =>
  condA v90
  (finV [(.bool false)] h.length h90)
  (bnd (pu h90 (fieldAddrV 0 (nth x68 8))) fun v91 h91 =>
  bnd (pu h91 (loadV G false 1 v91 h91)) fun v92 h92 =>
  bnd (pu h92 (bin Tryd.prog .neq 3 true v92 (.int .i64 0))) fun v93 h93 =>
  condA v93
  (bnd (gd (nth x68 7) true h93 (some (v79, h93))) fun v94 h94 =>
  bnd (gd (nth x68 7) true h94 (pu h94 (bin Tryd.prog .eql 3 true v94 (.int .i64 0)))) fun v95 h95 =>
  bnd (pu h95 (pickA (nth x68 7) v95 (.bool false))) fun v96 h96 =>
  finV [v96] h.length h96)
  (bnd (gd (nth x68 7) true h93 (some (v79, h93))) fun v97 h97 =>
  bnd (gd (nth x68 7) true h97 (pu h97 (loadV G true 3 (nth x68 5) h97))) fun v98 h98 =>
  bnd (gd (nth x68 7) true h98 (pureCall (alembiclaw18_other.f G k) [v98] h98)) fun v99 h99 =>
  bnd (gd (nth x68 7) true h99 (some ((nth x68 0), h99))) fun v100 h100 =>
  bnd (gd (nth x68 7) true h100 (some ((nth x68 1), h100))) fun v101 h101 =>
  bnd (gd (nth x68 7) true h101 (some ((nth x68 2), h101))) fun v102 h102 =>
  bnd (gd (nth x68 7) true h102 (pureCall (alembicref17_Run.f G k) [v99, v100, v101, v102] h102)) fun v103 h103 =>
  bnd (gd (nth x68 7) true h103 (pu h103 (fieldV false 1 4 v103))) fun v104 h104 =>
  bnd (gd (nth x68 7) true h104 (pu h104 (bin Tryd.prog .eql 3 false v97 v104))) fun v105 h105 =>
  bnd (pu h105 (pickA (nth x68 7) v105 (.bool false))) fun v106 h106 =>
  finV [v106] h.length h106)))
  (fun i68 => none)
  (finV [.undef] h.length h68))
  (fun i55 => none)
  (finV [.undef] h.length h55))))
noncomputable def alembiclaw18_BoundChecks.f (G : Globs) : Nat → Den
  | 0 => fun _ _ => none
  | k + 1 => fun args h => arg7 args fun x0 x1 x2 x3 x4 x5 x6 => (alembiclaw18_BoundChecks.c G k (alembiclaw18_BoundChecks.f G k) x0 x1 x2 x3 x4 x5 x6 h)
theorem alembiclaw18_BoundChecks.step (G : Globs) (k : Nat) (x0 x1 x2 x3 x4 x5 x6 : AV) (h : AHeap) : alembiclaw18_BoundChecks.f G (k + 1) [x0, x1, x2, x3, x4, x5, x6] h = alembiclaw18_BoundChecks.c G k (alembiclaw18_BoundChecks.f G k) x0 x1 x2 x3 x4 x5 x6 h := rfl
/-! alembic/alembiclaw18.BoundExact: function 9 -/
noncomputable def alembiclaw18_BoundExact.ann : Ann := mkAnn [] [] [(7, [0, 1, 2, 6, 7, 8, 9])] [(8, [0, 1, 2, 6, 7, 8, 9]), (12, [0, 1, 2, 7, 8, 9, 10])]
noncomputable def alembiclaw18_BoundExact.env (G : Globs) (k : Nat) (self : Den) : List (Nat × Bool × Den) := [(24, true, words_Value.f G k), (25, true, alembicworld_Number.f G k), (26, true, alembiclaw18_first.f G k), (28, true, bound_Exact.f G k)]
noncomputable def alembiclaw18_BoundExact.l7 (G : Globs) (k n0 : Nat) (self : Den) (lp : LoopF) : LoopF := fun xs h0 => cutK n0 xs h0 fun h =>
  bnd (pu h (bin Tryd.prog .lss 3 true (nth xs 6) (.int .i64 4))) fun v5 h5 =>
  condA v5
  (thenK (
  bnd (pu h5 (idxAddrSl 1 (nth xs 5) (nth xs 6))) fun v6 h6 =>
  bnd (pu h6 (loadV G false 1 v6 h6)) fun v7 h7 =>
  bnd (pu h7 (buildSt [(0, 1), (1, 1), (2, 1), (3, 1), (4, 1), (5, 1)] [(.int .i64 0), (.int .i64 0), (.int .i64 0), (.int .i64 0), (.int .i64 0), (.int .i64 0)] [(0, v7)])) fun v8 h8 =>
  bnd (boxA 52 (.agg [(.int .i64 0), (.int .i64 0), (.int .i64 0), (.int .i64 0), (.int .i64 0), (.int .i64 0)]) h8) fun v9 h9 =>
  bnd (stS (storeV 6 v9 v8 h9)) fun v10 h10 =>
  thenK (
  bnd (pu h10 (idxAddrSl 1 (nth xs 5) (nth xs 6))) fun v11 h11 =>
  bnd (pu h11 (loadV G false 1 v11 h11)) fun v12 h12 =>
  bnd (pu h12 (bin Tryd.prog .eql 3 true v12 (.int .i64 10))) fun v13 h13 =>
  condA v13
  (bnd (pu h13 (fieldAddrV 5 v9)) fun v14 h14 =>
  bnd (stS (storeV 1 v14 (nth xs 2) h14)) fun v15 h15 =>
  some (.normal, [(nth xs 0), (nth xs 1), (nth xs 2), (nth xs 4), (nth xs 5), (nth xs 6), v9], h15))
  (some (.normal, [(nth xs 0), (nth xs 1), (nth xs 2), (nth xs 4), (nth xs 5), (nth xs 6), v9], h13))) fun e16 x16 h16 => exK e16
  (bnd (pu h16 (loadV G true 6 (nth x16 6) h16)) fun v17 h17 =>
  bnd (pu h17 (convInt .u64 (nth x16 0))) fun v18 h18 =>
  bnd (pu h18 (convInt .u64 (nth x16 1))) fun v19 h19 =>
  bnd (pureCall (bound_Exact.f G k) [v17, v18, v19] h19) fun v20 h20 =>
  bnd (pu h20 (extractA v20 0)) fun v21 h21 =>
  bnd (pu h21 (extractA v20 1)) fun v22 h22 =>
  bnd (pu h22 (loadV G true 6 (nth x16 6) h22)) fun v23 h23 =>
  bnd (pu h23 (convInt .u64 (nth x16 0))) fun v24 h24 =>
  bnd (pu h24 (convInt .u64 (nth x16 1))) fun v25 h25 =>
  bnd (pureCall (words_Value.f G k) [v23, v24, v25, (.int .u64 0)] h25) fun v26 h26 =>
  bnd (pu h26 (extractA v26 0)) fun v27 h27 =>
  bnd (pu h27 (extractA v26 1)) fun v28 h28 =>
  bnd (pu h28 (un .not v28)) fun v29 h29 =>
  bnd (gd v29 false h29 (some (v22, h29))) fun v30 h30 =>
  bnd (gd v29 false h30 (some (v30, h30))) fun v31 h31 =>
  bnd (gd v31 true h31 (some (v21, h31))) fun v32 h32 =>
  bnd (gd v31 true h32 (pu h32 (convInt .u64 v32))) fun v33 h33 =>
  bnd (gd v31 true h33 (some (v27, h33))) fun v34 h34 =>
  bnd (gd v31 true h34 (pu h34 (bin Tryd.prog .neq 48 false v33 v34))) fun v35 h35 =>
  bnd (gd v29 false h35 (pu h35 (pickA v31 v35 (.bool false)))) fun v36 h36 =>
  bnd (pu h36 (pickA v29 (.bool true) v36)) fun v37 h37 =>
  bnd (gd v37 false h37 (some (v22, h37))) fun v38 h38 =>
  bnd (gd v37 false h38 (pu h38 (un .not v38))) fun v39 h39 =>
  bnd (gd v37 false h39 (some (v39, h39))) fun v40 h40 =>
  bnd (gd v40 true h40 (some (v21, h40))) fun v41 h41 =>
  bnd (gd v40 true h41 (pu h41 (bin Tryd.prog .neq 2 true v41 (.int .i64 0)))) fun v42 h42 =>
  bnd (gd v37 false h42 (pu h42 (pickA v40 v42 (.bool false)))) fun v43 h43 =>
  bnd (pu h43 (pickA v37 (.bool true) v43)) fun v44 h44 =>
  condA v44
  (some (.ret, [(nth x16 0), (nth x16 1), (nth x16 2), (.bool false), (nth x16 3), (nth x16 4), (nth x16 5)], h44))
  (bnd (pu h44 (bin Tryd.prog .gtr 2 true (nth x16 0) (.int .i64 (-1073741824)))) fun v45 h45 =>
  bnd (gd v45 true h45 (some ((nth x16 0), h45))) fun v46 h46 =>
  bnd (gd v45 true h46 (pu h46 (bin Tryd.prog .lss 2 true v46 (.int .i64 1073741824)))) fun v47 h47 =>
  bnd (pu h47 (pickA v45 v47 (.bool false))) fun v48 h48 =>
  bnd (gd v48 true h48 (some ((nth x16 1), h48))) fun v49 h49 =>
  bnd (gd v48 true h49 (pu h49 (bin Tryd.prog .gtr 2 true v49 (.int .i64 (-1073741824))))) fun v50 h50 =>
  bnd (pu h50 (pickA v48 v50 (.bool false))) fun v51 h51 =>
  bnd (gd v51 true h51 (some ((nth x16 1), h51))) fun v52 h52 =>
  bnd (gd v51 true h52 (pu h52 (bin Tryd.prog .lss 2 true v52 (.int .i64 1073741824)))) fun v53 h53 =>
  bnd (pu h53 (pickA v51 v53 (.bool false))) fun v54 h54 =>
  bnd (gd v54 true h54 (some (v22, h54))) fun v55 h55 =>
  bnd (gd v54 true h55 (pu h55 (un .not v55))) fun v56 h56 =>
  bnd (pu h56 (pickA v54 v56 (.bool false))) fun v57 h57 =>
  bnd (gd v57 true h57 (some ((nth x16 4), h57))) fun v58 h58 =>
  bnd (gd v57 true h58 (some ((nth x16 5), h58))) fun v59 h59 =>
  bnd (gd v57 true h59 (pu h59 (idxAddrSl 1 v58 v59))) fun v60 h60 =>
  bnd (gd v57 true h60 (pu h60 (loadV G false 1 v60 h60))) fun v61 h61 =>
  bnd (gd v57 true h61 (pu h61 (bin Tryd.prog .neq 3 true v61 (.int .i64 10)))) fun v62 h62 =>
  bnd (gd v57 true h62 (some (v62, h62))) fun v63 h63 =>
  bnd (gd v63 false h63 (some ((nth x16 2), h63))) fun v64 h64 =>
  bnd (gd v63 false h64 (pu h64 (bin Tryd.prog .lss 3 true v64 (.int .i64 33)))) fun v65 h65 =>
  bnd (gd v57 true h65 (pu h65 (pickA v63 (.bool true) v65))) fun v66 h66 =>
  bnd (pu h66 (pickA v57 v66 (.bool false))) fun v67 h67 =>
  condA v67
  (some (.ret, [(nth x16 0), (nth x16 1), (nth x16 2), (.bool false), (nth x16 3), (nth x16 4), (nth x16 5)], h67))
  (some (.normal, [(nth x16 0), (nth x16 1), (nth x16 2), .undef, (nth x16 3), (nth x16 4), (nth x16 5)], h67))))
  (fun i16 => if i16 = 1 then (some (.normal, [(nth x16 0), (nth x16 1), (nth x16 2), .undef, (nth x16 3), (nth x16 4), (nth x16 5)], h16)) else (some (.exit i16, [(nth x16 0), (nth x16 1), (nth x16 2), .undef, (nth x16 3), (nth x16 4), (nth x16 5)], h16)))
  (some (.ret, [(nth x16 0), (nth x16 1), (nth x16 2), .undef, (nth x16 3), (nth x16 4), (nth x16 5)], h16))) fun e68 x68 h68 => exK e68
  (bnd (pu h68 (bin Tryd.prog .add 3 true (nth x68 6) (.int .i64 1))) fun v69 h69 =>
  lp [(nth x68 0), (nth x68 1), (nth x68 2), (nth x68 3), (nth x68 4), (nth x68 5), v69] h69)
  (fun i68 => some (.exit i68, [(nth x68 0), (nth x68 1), (nth x68 2), (nth x68 3), (nth x68 4), (nth x68 5), (nth x68 6)], h68))
  (some (.ret, [(nth x68 0), (nth x68 1), (nth x68 2), (nth x68 3), (nth x68 4), (nth x68 5), (nth x68 6)], h68)))
  (some (.exit 0, [(nth xs 0), (nth xs 1), (nth xs 2), (nth xs 3), (nth xs 4), (nth xs 5), (nth xs 6)], h5))
noncomputable def alembiclaw18_BoundExact.c (G : Globs) (k : Nat) (self : Den) (x0 x1 x2 : AV) (h : AHeap) : Option (AV × AHeap) := outV (
  bnd (pureCall (alembiclaw18_first.f G k) [] h) fun v0 h0 =>
  bnd (pu h0 (un .not v0)) fun v1 h1 =>
  condA v1
  (finV [(.bool false)] h.length h1)
  (bnd (pureCall (alembicworld_Number.f G k) [x2, (.int .i64 64)] h1) fun v2 h2 =>
  bnd (buildRo 1 4 (.int .i64 0) [(0, (.int .i64 3)), (1, (.int .i64 4)), (2, (.int .i64 5)), (3, (.int .i64 10))] h2) fun v3 h3 =>
  thenK (loopN (alembiclaw18_BoundExact.l7 G k h3.length self) k [x0, x1, v2, (.bool false), v0, v3, (.int .i64 0)] h3) fun e4 x4 h4 => exK e4
  (bnd (pu h4 (buildSt [(0, 1), (1, 1), (2, 1), (3, 1), (4, 1), (5, 1)] [(.int .i64 0), (.int .i64 0), (.int .i64 0), (.int .i64 0), (.int .i64 0), (.int .i64 0)] [(0, (.int .i64 9))])) fun v70 h70 =>
  bnd (pureCall (bound_Exact.f G k) [v70, (.int .u64 1), (.int .u64 2)] h70) fun v71 h71 =>
  bnd (pu h71 (extractA v71 0)) fun v72 h72 =>
  bnd (pu h72 (extractA v71 1)) fun v73 h73 =>
  bnd (pu h73 (buildSt [(0, 1), (1, 1), (2, 1), (3, 1), (4, 1), (5, 1)] [(.int .i64 0), (.int .i64 0), (.int .i64 0), (.int .i64 0), (.int .i64 0), (.int .i64 0)] [(0, (.int .i64 10)), (5, (.int .i64 64))])) fun v74 h74 =>
  bnd (pureCall (bound_Exact.f G k) [v74, (.int .u64 1), (.int .u64 0)] h74) fun v75 h75 =>
  bnd (pu h75 (extractA v75 0)) fun v76 h76 =>
  bnd (pu h76 (extractA v75 1)) fun v77 h77 =>
  bnd (pu h77 (buildSt [(0, 1), (1, 1), (2, 1), (3, 1), (4, 1), (5, 1)] [(.int .i64 0), (.int .i64 0), (.int .i64 0), (.int .i64 0), (.int .i64 0), (.int .i64 0)] [(0, (.int .i64 3))])) fun v78 h78 =>
  bnd (pureCall (bound_Exact.f G k) [v78, (.int .u64 9223372036854775807), (.int .u64 1)] h78) fun v79 h79 =>
  bnd (pu h79 (extractA v79 0)) fun v80 h80 =>
  bnd (pu h80 (extractA v79 1)) fun v81 h81 =>
  bnd (pu h81 (buildSt [(0, 1), (1, 1), (2, 1), (3, 1), (4, 1), (5, 1)] [(.int .i64 0), (.int .i64 0), (.int .i64 0), (.int .i64 0), (.int .i64 0), (.int .i64 0)] [(0, (.int .i64 4))])) fun v82 h82 =>
  bnd (pureCall (bound_Exact.f G k) [v82, (.int .u64 9223372036854775808), (.int .u64 1)] h82) fun v83 h83 =>
  bnd (pu h83 (extractA v83 0)) fun v84 h84 =>
  bnd (pu h84 (extractA v83 1)) fun v85 h85 =>
  bnd (gd (nth x4 4) true h85 (some (v73, h85))) fun v86 h86 =>
  bnd (gd (nth x4 4) true h86 (pu h86 (un .not v86))) fun v87 h87 =>
  bnd (pu h87 (pickA (nth x4 4) v87 (.bool false))) fun v88 h88 =>
  bnd (gd v88 true h88 (some (v77, h88))) fun v89 h89 =>
  bnd (gd v88 true h89 (pu h89 (un .not v89))) fun v90 h90 =>
  bnd (pu h90 (pickA v88 v90 (.bool false))) fun v91 h91 =>
  bnd (gd v91 true h91 (some (v81, h91))) fun v92 h92 =>
  bnd (gd v91 true h92 (pu h92 (un .not v92))) fun v93 h93 =>
  bnd (pu h93 (pickA v91 v93 (.bool false))) fun v94 h94 =>
  bnd (gd v94 true h94 (some (v85, h94))) fun v95 h95 =>
  bnd (gd v94 true h95 (pu h95 (un .not v95))) fun v96 h96 =>
  bnd (pu h96 (pickA v94 v96 (.bool false))) fun v97 h97 =>
  finV [v97] h.length h97)
  (fun i4 => if i4 = 0 then (bnd (pu h4 (buildSt [(0, 1), (1, 1), (2, 1), (3, 1), (4, 1), (5, 1)] [(.int .i64 0), (.int .i64 0), (.int .i64 0), (.int .i64 0), (.int .i64 0), (.int .i64 0)] [(0, (.int .i64 9))])) fun v98 h98 =>
  bnd (pureCall (bound_Exact.f G k) [v98, (.int .u64 1), (.int .u64 2)] h98) fun v99 h99 =>
  bnd (pu h99 (extractA v99 0)) fun v100 h100 =>
  bnd (pu h100 (extractA v99 1)) fun v101 h101 =>
  bnd (pu h101 (buildSt [(0, 1), (1, 1), (2, 1), (3, 1), (4, 1), (5, 1)] [(.int .i64 0), (.int .i64 0), (.int .i64 0), (.int .i64 0), (.int .i64 0), (.int .i64 0)] [(0, (.int .i64 10)), (5, (.int .i64 64))])) fun v102 h102 =>
  bnd (pureCall (bound_Exact.f G k) [v102, (.int .u64 1), (.int .u64 0)] h102) fun v103 h103 =>
  bnd (pu h103 (extractA v103 0)) fun v104 h104 =>
  bnd (pu h104 (extractA v103 1)) fun v105 h105 =>
  bnd (pu h105 (buildSt [(0, 1), (1, 1), (2, 1), (3, 1), (4, 1), (5, 1)] [(.int .i64 0), (.int .i64 0), (.int .i64 0), (.int .i64 0), (.int .i64 0), (.int .i64 0)] [(0, (.int .i64 3))])) fun v106 h106 =>
  bnd (pureCall (bound_Exact.f G k) [v106, (.int .u64 9223372036854775807), (.int .u64 1)] h106) fun v107 h107 =>
  bnd (pu h107 (extractA v107 0)) fun v108 h108 =>
  bnd (pu h108 (extractA v107 1)) fun v109 h109 =>
  bnd (pu h109 (buildSt [(0, 1), (1, 1), (2, 1), (3, 1), (4, 1), (5, 1)] [(.int .i64 0), (.int .i64 0), (.int .i64 0), (.int .i64 0), (.int .i64 0), (.int .i64 0)] [(0, (.int .i64 4))])) fun v110 h110 =>
  bnd (pureCall (bound_Exact.f G k) [v110, (.int .u64 9223372036854775808), (.int .u64 1)] h110) fun v111 h111 =>
  bnd (pu h111 (extractA v111 0)) fun v112 h112 =>
  bnd (pu h112 (extractA v111 1)) fun v113 h113 =>
  bnd (gd (nth x4 4) true h113 (some (v101, h113))) fun v114 h114 =>
  bnd (gd (nth x4 4) true h114 (pu h114 (un .not v114))) fun v115 h115 =>
  bnd (pu h115 (pickA (nth x4 4) v115 (.bool false))) fun v116 h116 =>
  bnd (gd v116 true h116 (some (v105, h116))) fun v117 h117 =>
  bnd (gd v116 true h117 (pu h117 (un .not v117))) fun v118 h118 =>
  bnd (pu h118 (pickA v116 v118 (.bool false))) fun v119 h119 =>
  bnd (gd v119 true h119 (some (v109, h119))) fun v120 h120 =>
  bnd (gd v119 true h120 (pu h120 (un .not v120))) fun v121 h121 =>
  bnd (pu h121 (pickA v119 v121 (.bool false))) fun v122 h122 =>
  bnd (gd v122 true h122 (some (v113, h122))) fun v123 h123 =>
  bnd (gd v122 true h123 (pu h123 (un .not v123))) fun v124 h124 =>
  bnd (pu h124 (pickA v122 v124 (.bool false))) fun v125 h125 =>
  finV [v125] h.length h125) else (none))
  (finV [(nth x4 3)] h.length h4)))
noncomputable def alembiclaw18_BoundExact.f (G : Globs) : Nat → Den
  | 0 => fun _ _ => none
  | k + 1 => fun args h => arg3 args fun x0 x1 x2 => (alembiclaw18_BoundExact.c G k (alembiclaw18_BoundExact.f G k) x0 x1 x2 h)
theorem alembiclaw18_BoundExact.step (G : Globs) (k : Nat) (x0 x1 x2 : AV) (h : AHeap) : alembiclaw18_BoundExact.f G (k + 1) [x0, x1, x2] h = alembiclaw18_BoundExact.c G k (alembiclaw18_BoundExact.f G k) x0 x1 x2 h := rfl
/-! alembic/alembiclaw17.WordsLeak: function 5 -/
noncomputable def alembiclaw17_WordsLeak.ann : Ann := mkAnnV [] [] [(11, [0, 1, 2, 7, 8, 9])] [] [(11, [(8, 0, 52, 6)])] []
noncomputable def alembiclaw17_WordsLeak.env (G : Globs) (k : Nat) (self : Den) : List (Nat × Bool × Den) := [(12, true, alembiclaw17_first.f G k), (19, true, words_Run.f G k), (22, true, alembicref_SameLeaks.f G k), (25, true, alembicworld_Number.f G k)]
noncomputable def alembiclaw17_WordsLeak.l11 (G : Globs) (k n0 : Nat) (self : Den) (lp : LoopF) : LoopF := fun xs h0 => cutK n0 xs h0 fun h =>
  bnd (pu h (bin Tryd.prog .lss 3 false (nth xs 5) (nth xs 2))) fun v16 h16 =>
  condA v16
  (bnd (pu h16 (fieldAddrV 0 (nth xs 4))) fun v17 h17 =>
  bnd (pu h17 (loadV G false 1 v17 h17)) fun v18 h18 =>
  bnd (pu h18 (buildSt [(0, 1), (1, 1), (2, 1), (3, 1), (4, 1), (5, 1)] [(.int .i64 0), (.int .i64 0), (.int .i64 0), (.int .i64 0), (.int .i64 0), (.int .i64 0)] [(0, (.int .i64 15)), (1, (.int .i64 1)), (2, (.int .i64 0)), (5, (nth xs 5))])) fun v19 h19 =>
  bnd (pu h19 (buildSt [(0, 1), (1, 1), (2, 1), (3, 1), (4, 1), (5, 1)] [(.int .i64 0), (.int .i64 0), (.int .i64 0), (.int .i64 0), (.int .i64 0), (.int .i64 0)] [(0, (.int .i64 5)), (1, (.int .i64 2)), (2, (.int .i64 1)), (3, (.int .i64 1))])) fun v20 h20 =>
  bnd (pu h20 (buildSt [(0, 1), (1, 1), (2, 1), (3, 1), (4, 1), (5, 1)] [(.int .i64 0), (.int .i64 0), (.int .i64 0), (.int .i64 0), (.int .i64 0), (.int .i64 0)] [(0, (.int .i64 13)), (1, (.int .i64 3)), (2, (.int .i64 1)), (3, (.int .i64 2))])) fun v21 h21 =>
  bnd (pu h21 (buildSt [(0, 1), (1, 1), (2, 1), (3, 1), (4, 1), (5, 1)] [(.int .i64 0), (.int .i64 0), (.int .i64 0), (.int .i64 0), (.int .i64 0), (.int .i64 0)] [(0, (.int .i64 14)), (1, (.int .i64 2)), (2, (.int .i64 3)), (3, (.int .i64 1)), (4, (.int .i64 2))])) fun v22 h22 =>
  bnd (pu h22 (bin Tryd.prog .add 3 true (nth xs 5) (.int .i64 1))) fun v23 h23 =>
  bnd (pu h23 (buildSt [(0, 1), (1, 1), (2, 1), (3, 1), (4, 1), (5, 1)] [(.int .i64 0), (.int .i64 0), (.int .i64 0), (.int .i64 0), (.int .i64 0), (.int .i64 0)] [(0, (.int .i64 16)), (2, (.int .i64 0)), (3, (.int .i64 2)), (5, v23)])) fun v24 h24 =>
  bnd (buildRo 6 5 (.agg [(.int .i64 0), (.int .i64 0), (.int .i64 0), (.int .i64 0), (.int .i64 0), (.int .i64 0)]) [(0, v19), (1, v20), (2, v21), (3, v22), (4, v24)] h24) fun v25 h25 =>
  bnd (appendV 52 6 v18 v25 h25) fun v26 h26 =>
  bnd (pu h26 (fieldAddrV 0 (nth xs 4))) fun v27 h27 =>
  bnd (stS (storeV 1 v27 v26 h27)) fun v28 h28 =>
  bnd (pu h28 (bin Tryd.prog .add 3 true (nth xs 5) (.int .i64 1))) fun v29 h29 =>
  lp [(nth xs 0), (nth xs 1), (nth xs 2), (nth xs 3), (nth xs 4), v29] h29)
  (some (.exit 0, [(nth xs 0), (nth xs 1), (nth xs 2), (nth xs 3), (nth xs 4), (nth xs 5)], h16))
noncomputable def alembiclaw17_WordsLeak.c (G : Globs) (k : Nat) (self : Den) (x0 x1 x2 : AV) (h : AHeap) : Option (AV × AHeap) := outV (
  bnd (pureCall (alembiclaw17_first.f G k) [] h) fun v0 h0 =>
  bnd (pu h0 (un .not v0)) fun v1 h1 =>
  condA v1
  (finV [(.bool false)] h.length h1)
  (bnd (pu h1 (lenSl x0)) fun v2 h2 =>
  bnd (pu h2 (bin Tryd.prog .gtr 3 true v2 (.int .i64 40))) fun v3 h3 =>
  bnd (gd v3 false h3 (some (x1, h3))) fun v4 h4 =>
  bnd (gd v3 false h4 (pu h4 (lenSl v4))) fun v5 h5 =>
  bnd (gd v3 false h5 (pu h5 (bin Tryd.prog .gtr 3 true v5 (.int .i64 40)))) fun v6 h6 =>
  bnd (pu h6 (pickA v3 (.bool true) v6)) fun v7 h7 =>
  condA v7
  (finV [v0] h.length h7)
  (bnd (pureCall (alembicworld_Number.f G k) [x2, (.int .i64 20)] h7) fun v8 h8 =>
  bnd (pu h8 (bin Tryd.prog .add 3 true v8 (.int .i64 1))) fun v9 h9 =>
  bnd (boxA 24 (.agg [.nils, (.int .i64 0), (.int .i64 0)]) h9) fun v10 h10 =>
  bnd (pu h10 (fieldAddrV 1 v10)) fun v11 h11 =>
  bnd (stS (storeV 1 v11 (.int .i64 4) h11)) fun v12 h12 =>
  bnd (pu h12 (fieldAddrV 2 v10)) fun v13 h13 =>
  bnd (stS (storeV 1 v13 (.int .i64 42) h13)) fun v14 h14 =>
  vK [(v10, 0, 52, 6)] h14 fun hv15 =>
  thenK (loopN (alembiclaw17_WordsLeak.l11 G k hv15.length self) k [x0, x1, v9, v0, v10, (.int .i64 0)] hv15) fun e15 x15 h15 => exK e15
  (bnd (pu h15 (fieldAddrV 0 (nth x15 4))) fun v30 h30 =>
  bnd (pu h30 (loadV G false 1 v30 h30)) fun v31 h31 =>
  bnd (pu h31 (buildSt [(0, 1), (1, 1), (2, 1), (3, 1), (4, 1), (5, 1)] [(.int .i64 0), (.int .i64 0), (.int .i64 0), (.int .i64 0), (.int .i64 0), (.int .i64 0)] [(0, (.int .i64 20)), (5, (.int .i64 0))])) fun v32 h32 =>
  bnd (buildRo 6 1 (.agg [(.int .i64 0), (.int .i64 0), (.int .i64 0), (.int .i64 0), (.int .i64 0), (.int .i64 0)]) [(0, v32)] h32) fun v33 h33 =>
  bnd (appendV 52 6 v31 v33 h33) fun v34 h34 =>
  bnd (pu h34 (fieldAddrV 0 (nth x15 4))) fun v35 h35 =>
  bnd (stS (storeV 1 v35 v34 h35)) fun v36 h36 =>
  bnd (makeSliceV 48 1 (.int .u64 0) (.int .i64 42) (.int .i64 42) h36) fun v37 h37 =>
  bnd (copyV v37 (nth x15 0) h37) fun v38 h38 =>
  bnd (makeSliceV 48 1 (.int .u64 0) (.int .i64 42) (.int .i64 42) h38) fun v39 h39 =>
  bnd (copyV v39 (nth x15 1) h39) fun v40 h40 =>
  bnd (pu h40 (loadV G true 3 (nth x15 4) h40)) fun v41 h41 =>
  bnd (pureCall (words_Run.f G k) [v41, v37, (.int .i64 1000)] h41) fun v42 h42 =>
  bnd (pu h42 (extractA v42 0)) fun v43 h43 =>
  bnd (pu h43 (extractA v42 1)) fun v44 h44 =>
  bnd (boxA 40 (.agg [(.int .i64 0), .nils, .nils, (.int .i64 0)]) h44) fun v45 h45 =>
  bnd (stS (storeV 4 v45 v43 h45)) fun v46 h46 =>
  bnd (pu h46 (loadV G true 3 (nth x15 4) h46)) fun v47 h47 =>
  bnd (pureCall (words_Run.f G k) [v47, v39, (.int .i64 1000)] h47) fun v48 h48 =>
  bnd (pu h48 (extractA v48 0)) fun v49 h49 =>
  bnd (pu h49 (extractA v48 1)) fun v50 h50 =>
  bnd (boxA 40 (.agg [(.int .i64 0), .nils, .nils, (.int .i64 0)]) h50) fun v51 h51 =>
  bnd (stS (storeV 4 v51 v49 h51)) fun v52 h52 =>
  bnd (gd (nth x15 3) true h52 (some (v44, h52))) fun v53 h53 =>
  bnd (gd (nth x15 3) true h53 (pu h53 (bin Tryd.prog .eql 35 true v53 .nili))) fun v54 h54 =>
  bnd (pu h54 (pickA (nth x15 3) v54 (.bool false))) fun v55 h55 =>
  bnd (gd v55 true h55 (some (v50, h55))) fun v56 h56 =>
  bnd (gd v55 true h56 (pu h56 (bin Tryd.prog .eql 35 true v56 .nili))) fun v57 h57 =>
  bnd (pu h57 (pickA v55 v57 (.bool false))) fun v58 h58 =>
  bnd (gd v58 true h58 (pu h58 (fieldAddrV 0 v45))) fun v59 h59 =>
  bnd (gd v58 true h59 (pu h59 (loadV G false 1 v59 h59))) fun v60 h60 =>
  bnd (gd v58 true h60 (pu h60 (bin Tryd.prog .eql 3 true v60 (.int .i64 0)))) fun v61 h61 =>
  bnd (pu h61 (pickA v58 v61 (.bool false))) fun v62 h62 =>
  bnd (gd v62 true h62 (pu h62 (fieldAddrV 0 v51))) fun v63 h63 =>
  bnd (gd v62 true h63 (pu h63 (loadV G false 1 v63 h63))) fun v64 h64 =>
  bnd (gd v62 true h64 (pu h64 (bin Tryd.prog .eql 3 true v64 (.int .i64 0)))) fun v65 h65 =>
  bnd (pu h65 (pickA v62 v65 (.bool false))) fun v66 h66 =>
  bnd (gd v66 true h66 (pu h66 (fieldAddrV 2 v45))) fun v67 h67 =>
  bnd (gd v66 true h67 (pu h67 (loadV G false 1 v67 h67))) fun v68 h68 =>
  bnd (gd v66 true h68 (pu h68 (fieldAddrV 2 v51))) fun v69 h69 =>
  bnd (gd v66 true h69 (pu h69 (loadV G false 1 v69 h69))) fun v70 h70 =>
  bnd (gd v66 true h70 (pureCall (alembicref_SameLeaks.f G k) [v68, v70] h70)) fun v71 h71 =>
  bnd (pu h71 (pickA v66 v71 (.bool false))) fun v72 h72 =>
  bnd (gd v72 true h72 (pu h72 (fieldAddrV 2 v45))) fun v73 h73 =>
  bnd (gd v72 true h73 (pu h73 (loadV G false 1 v73 h73))) fun v74 h74 =>
  bnd (gd v72 true h74 (pu h74 (lenSl v74))) fun v75 h75 =>
  bnd (gd v72 true h75 (some ((nth x15 2), h75))) fun v76 h76 =>
  bnd (gd v72 true h76 (pu h76 (bin Tryd.prog .mul 3 true (.int .i64 7) v76))) fun v77 h77 =>
  bnd (gd v72 true h77 (pu h77 (bin Tryd.prog .add 3 true v77 (.int .i64 1)))) fun v78 h78 =>
  bnd (gd v72 true h78 (pu h78 (bin Tryd.prog .eql 3 false v75 v78))) fun v79 h79 =>
  bnd (pu h79 (pickA v72 v79 (.bool false))) fun v80 h80 =>
  bnd (gd v80 true h80 (pu h80 (fieldAddrV 3 v45))) fun v81 h81 =>
  bnd (gd v80 true h81 (pu h81 (loadV G false 1 v81 h81))) fun v82 h82 =>
  bnd (gd v80 true h82 (some ((nth x15 2), h82))) fun v83 h83 =>
  bnd (gd v80 true h83 (pu h83 (bin Tryd.prog .mul 3 true (.int .i64 5) v83))) fun v84 h84 =>
  bnd (gd v80 true h84 (pu h84 (bin Tryd.prog .add 3 true v84 (.int .i64 1)))) fun v85 h85 =>
  bnd (gd v80 true h85 (pu h85 (bin Tryd.prog .eql 2 false v82 v85))) fun v86 h86 =>
  bnd (pu h86 (pickA v80 v86 (.bool false))) fun v87 h87 =>
  finV [v87] h.length h87)
  (fun i15 => if i15 = 0 then (bnd (pu h15 (fieldAddrV 0 (nth x15 4))) fun v88 h88 =>
  bnd (pu h88 (loadV G false 1 v88 h88)) fun v89 h89 =>
  bnd (pu h89 (buildSt [(0, 1), (1, 1), (2, 1), (3, 1), (4, 1), (5, 1)] [(.int .i64 0), (.int .i64 0), (.int .i64 0), (.int .i64 0), (.int .i64 0), (.int .i64 0)] [(0, (.int .i64 20)), (5, (.int .i64 0))])) fun v90 h90 =>
  bnd (buildRo 6 1 (.agg [(.int .i64 0), (.int .i64 0), (.int .i64 0), (.int .i64 0), (.int .i64 0), (.int .i64 0)]) [(0, v90)] h90) fun v91 h91 =>
  bnd (appendV 52 6 v89 v91 h91) fun v92 h92 =>
  bnd (pu h92 (fieldAddrV 0 (nth x15 4))) fun v93 h93 =>
  bnd (stS (storeV 1 v93 v92 h93)) fun v94 h94 =>
  bnd (makeSliceV 48 1 (.int .u64 0) (.int .i64 42) (.int .i64 42) h94) fun v95 h95 =>
  bnd (copyV v95 (nth x15 0) h95) fun v96 h96 =>
  bnd (makeSliceV 48 1 (.int .u64 0) (.int .i64 42) (.int .i64 42) h96) fun v97 h97 =>
  bnd (copyV v97 (nth x15 1) h97) fun v98 h98 =>
  bnd (pu h98 (loadV G true 3 (nth x15 4) h98)) fun v99 h99 =>
  bnd (pureCall (words_Run.f G k) [v99, v95, (.int .i64 1000)] h99) fun v100 h100 =>
  bnd (pu h100 (extractA v100 0)) fun v101 h101 =>
  bnd (pu h101 (extractA v100 1)) fun v102 h102 =>
  bnd (boxA 40 (.agg [(.int .i64 0), .nils, .nils, (.int .i64 0)]) h102) fun v103 h103 =>
  bnd (stS (storeV 4 v103 v101 h103)) fun v104 h104 =>
  bnd (pu h104 (loadV G true 3 (nth x15 4) h104)) fun v105 h105 =>
  bnd (pureCall (words_Run.f G k) [v105, v97, (.int .i64 1000)] h105) fun v106 h106 =>
  bnd (pu h106 (extractA v106 0)) fun v107 h107 =>
  bnd (pu h107 (extractA v106 1)) fun v108 h108 =>
  bnd (boxA 40 (.agg [(.int .i64 0), .nils, .nils, (.int .i64 0)]) h108) fun v109 h109 =>
  bnd (stS (storeV 4 v109 v107 h109)) fun v110 h110 =>
  bnd (gd (nth x15 3) true h110 (some (v102, h110))) fun v111 h111 =>
  bnd (gd (nth x15 3) true h111 (pu h111 (bin Tryd.prog .eql 35 true v111 .nili))) fun v112 h112 =>
  bnd (pu h112 (pickA (nth x15 3) v112 (.bool false))) fun v113 h113 =>
  bnd (gd v113 true h113 (some (v108, h113))) fun v114 h114 =>
  bnd (gd v113 true h114 (pu h114 (bin Tryd.prog .eql 35 true v114 .nili))) fun v115 h115 =>
  bnd (pu h115 (pickA v113 v115 (.bool false))) fun v116 h116 =>
  bnd (gd v116 true h116 (pu h116 (fieldAddrV 0 v103))) fun v117 h117 =>
  bnd (gd v116 true h117 (pu h117 (loadV G false 1 v117 h117))) fun v118 h118 =>
  bnd (gd v116 true h118 (pu h118 (bin Tryd.prog .eql 3 true v118 (.int .i64 0)))) fun v119 h119 =>
  bnd (pu h119 (pickA v116 v119 (.bool false))) fun v120 h120 =>
  bnd (gd v120 true h120 (pu h120 (fieldAddrV 0 v109))) fun v121 h121 =>
  bnd (gd v120 true h121 (pu h121 (loadV G false 1 v121 h121))) fun v122 h122 =>
  bnd (gd v120 true h122 (pu h122 (bin Tryd.prog .eql 3 true v122 (.int .i64 0)))) fun v123 h123 =>
  bnd (pu h123 (pickA v120 v123 (.bool false))) fun v124 h124 =>
  bnd (gd v124 true h124 (pu h124 (fieldAddrV 2 v103))) fun v125 h125 =>
  bnd (gd v124 true h125 (pu h125 (loadV G false 1 v125 h125))) fun v126 h126 =>
  bnd (gd v124 true h126 (pu h126 (fieldAddrV 2 v109))) fun v127 h127 =>
  bnd (gd v124 true h127 (pu h127 (loadV G false 1 v127 h127))) fun v128 h128 =>
  bnd (gd v124 true h128 (pureCall (alembicref_SameLeaks.f G k) [v126, v128] h128)) fun v129 h129 =>
  bnd (pu h129 (pickA v124 v129 (.bool false))) fun v130 h130 =>
  bnd (gd v130 true h130 (pu h130 (fieldAddrV 2 v103))) fun v131 h131 =>
  bnd (gd v130 true h131 (pu h131 (loadV G false 1 v131 h131))) fun v132 h132 =>
  bnd (gd v130 true h132 (pu h132 (lenSl v132))) fun v133 h133 =>
  bnd (gd v130 true h133 (some ((nth x15 2), h133))) fun v134 h134 =>
  bnd (gd v130 true h134 (pu h134 (bin Tryd.prog .mul 3 true (.int .i64 7) v134))) fun v135 h135 =>
  bnd (gd v130 true h135 (pu h135 (bin Tryd.prog .add 3 true v135 (.int .i64 1)))) fun v136 h136 =>
  bnd (gd v130 true h136 (pu h136 (bin Tryd.prog .eql 3 false v133 v136))) fun v137 h137 =>
  bnd (pu h137 (pickA v130 v137 (.bool false))) fun v138 h138 =>
  bnd (gd v138 true h138 (pu h138 (fieldAddrV 3 v103))) fun v139 h139 =>
  bnd (gd v138 true h139 (pu h139 (loadV G false 1 v139 h139))) fun v140 h140 =>
  bnd (gd v138 true h140 (some ((nth x15 2), h140))) fun v141 h141 =>
  bnd (gd v138 true h141 (pu h141 (bin Tryd.prog .mul 3 true (.int .i64 5) v141))) fun v142 h142 =>
  bnd (gd v138 true h142 (pu h142 (bin Tryd.prog .add 3 true v142 (.int .i64 1)))) fun v143 h143 =>
  bnd (gd v138 true h143 (pu h143 (bin Tryd.prog .eql 2 false v140 v143))) fun v144 h144 =>
  bnd (pu h144 (pickA v138 v144 (.bool false))) fun v145 h145 =>
  finV [v145] h.length h145) else (none))
  (finV [.undef] h.length h15))))
noncomputable def alembiclaw17_WordsLeak.f (G : Globs) : Nat → Den
  | 0 => fun _ _ => none
  | k + 1 => fun args h => arg3 args fun x0 x1 x2 => (alembiclaw17_WordsLeak.c G k (alembiclaw17_WordsLeak.f G k) x0 x1 x2 h)
theorem alembiclaw17_WordsLeak.step (G : Globs) (k : Nat) (x0 x1 x2 : AV) (h : AHeap) : alembiclaw17_WordsLeak.f G (k + 1) [x0, x1, x2] h = alembiclaw17_WordsLeak.c G k (alembiclaw17_WordsLeak.f G k) x0 x1 x2 h := rfl
end Go.Proofs.YtcmblhedhgiofaaDoor.Mir
