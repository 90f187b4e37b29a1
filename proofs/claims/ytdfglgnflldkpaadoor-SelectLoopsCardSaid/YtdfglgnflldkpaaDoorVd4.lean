/- Part 4 of the proof: the functions that the statement reaches, and their contracts. -/
import Derived.Test.YtdfglgnflldkpaaDoorVd3
import Derived.Test.YtdfglgnflldkpaaDoorProg
import Derived.KernelRfl
namespace Go.Proofs.YtdfglgnflldkpaaDoor.Mir
open Go
set_option linter.unusedVariables false
/-! alembic/words.name: function 106 -/
noncomputable def words_name.ann : Ann := mkAnn [] [] [] []
noncomputable def words_name.env (G : Globs) (k : Nat) (self : Den) : List (Nat × Bool × Den) := []
noncomputable def words_name.c (G : Globs) (k : Nat) (self : Den) (x0 : AV) (h : AHeap) : Option (AV × AHeap) := outV (
  bnd (pu h (bin Tryd.prog .eql 3 true x0 (.int .i64 3))) fun v0 h0 =>
  condA v0
  (finV [(.str ⟨#[97, 100, 100]⟩)] h.length h0)
  (bnd (pu h0 (bin Tryd.prog .eql 3 true x0 (.int .i64 4))) fun v1 h1 =>
  condA v1
  (finV [(.str ⟨#[115, 117, 98]⟩)] h.length h1)
  (bnd (pu h1 (bin Tryd.prog .eql 3 true x0 (.int .i64 5))) fun v2 h2 =>
  condA v2
  (finV [(.str ⟨#[109, 117, 108]⟩)] h.length h2)
  (bnd (pu h2 (bin Tryd.prog .eql 3 true x0 (.int .i64 6))) fun v3 h3 =>
  condA v3
  (finV [(.str ⟨#[104, 105, 103, 104]⟩)] h.length h3)
  (bnd (pu h3 (bin Tryd.prog .eql 3 true x0 (.int .i64 7))) fun v4 h4 =>
  condA v4
  (finV [(.str ⟨#[97, 110, 100]⟩)] h.length h4)
  (bnd (pu h4 (bin Tryd.prog .eql 3 true x0 (.int .i64 8))) fun v5 h5 =>
  condA v5
  (finV [(.str ⟨#[111, 114]⟩)] h.length h5)
  (bnd (pu h5 (bin Tryd.prog .eql 3 true x0 (.int .i64 9))) fun v6 h6 =>
  condA v6
  (finV [(.str ⟨#[120, 111, 114]⟩)] h.length h6)
  (bnd (pu h6 (bin Tryd.prog .eql 3 true x0 (.int .i64 13))) fun v7 h7 =>
  condA v7
  (finV [(.str ⟨#[108, 101, 115, 115]⟩)] h.length h7)
  (bnd (pu h7 (bin Tryd.prog .eql 3 true x0 (.int .i64 10))) fun v8 h8 =>
  condA v8
  (finV [(.str ⟨#[115, 104, 108]⟩)] h.length h8)
  (bnd (pu h8 (bin Tryd.prog .eql 3 true x0 (.int .i64 11))) fun v9 h9 =>
  condA v9
  (finV [(.str ⟨#[115, 104, 114]⟩)] h.length h9)
  (bnd (pu h9 (bin Tryd.prog .eql 3 true x0 (.int .i64 12))) fun v10 h10 =>
  condA v10
  (finV [(.str ⟨#[115, 97, 114]⟩)] h.length h10)
  (bnd (pu h10 (bin Tryd.prog .eql 3 true x0 (.int .i64 15))) fun v11 h11 =>
  condA v11
  (finV [(.str ⟨#[108, 100]⟩)] h.length h11)
  (bnd (pu h11 (bin Tryd.prog .eql 3 true x0 (.int .i64 17))) fun v12 h12 =>
  condA v12
  (finV [(.str ⟨#[98, 114]⟩)] h.length h12)
  (bnd (pu h12 (bin Tryd.prog .eql 3 true x0 (.int .i64 20))) fun v13 h13 =>
  condA v13
  (finV [(.str ⟨#[104, 97, 108, 116]⟩)] h.length h13)
  (bnd (pu h13 (bin Tryd.prog .eql 3 true x0 (.int .i64 18))) fun v14 h14 =>
  condA v14
  (finV [(.str ⟨#[98, 122]⟩)] h.length h14)
  (finV [(.str ⟨#[98, 110, 122]⟩)] h.length h14))))))))))))))))
noncomputable def words_name.f (G : Globs) : Nat → Den
  | 0 => fun _ _ => none
  | k + 1 => fun args h => arg1 args fun x0 => (words_name.c G k (words_name.f G k) x0 h)
/-! alembic/words.Of: function 90 -/
noncomputable def words_Of.ann : Ann := mkAnn [] [] [] [(30, [2, 3]), (29, [0, 2, 43]), (26, [0, 2, 4, 37]), (19, [0, 2, 4, 23]), (14, [0, 2, 4, 11])]
noncomputable def words_Of.env (G : Globs) (k : Nat) (self : Den) : List (Nat × Bool × Den) := [(106, true, words_name.f G k)]
noncomputable def words_Of.c (G : Globs) (k : Nat) (self : Den) (x0 : AV) (h : AHeap) : Option (AV × AHeap) := outV (
  bnd (boxA 163 (.agg [(.str ⟨#[]⟩), (.bool false), (.bool false), (.bool false), (.bool false), (.bool false)]) h) fun v0 h0 =>
  thenK (
  bnd (pu h0 (bin Tryd.prog .eql 3 true x0 (.int .i64 1))) fun v1 h1 =>
  condA v1
  (bnd (pu h1 (buildSt [(0, 1), (1, 1), (2, 1), (3, 1), (4, 1), (5, 1)] [(.str ⟨#[]⟩), (.bool false), (.bool false), (.bool false), (.bool false), (.bool false)] [(0, (.str ⟨#[99, 111, 110, 115, 116]⟩)), (1, (.bool true)), (5, (.bool true))])) fun v2 h2 =>
  bnd (stS (storeV 6 v0 v2 h2)) fun v3 h3 =>
  some (.ret, [v0, (.bool true)], h3))
  (bnd (pu h1 (bin Tryd.prog .eql 3 true x0 (.int .i64 2))) fun v4 h4 =>
  condA v4
  (bnd (pu h4 (buildSt [(0, 1), (1, 1), (2, 1), (3, 1), (4, 1), (5, 1)] [(.str ⟨#[]⟩), (.bool false), (.bool false), (.bool false), (.bool false), (.bool false)] [(0, (.str ⟨#[109, 111, 118]⟩)), (1, (.bool true)), (2, (.bool true))])) fun v5 h5 =>
  bnd (stS (storeV 6 v0 v5 h5)) fun v6 h6 =>
  some (.ret, [v0, (.bool true)], h6))
  (thenK (
  bnd (pu h4 (bin Tryd.prog .eql 3 true x0 (.int .i64 3))) fun v7 h7 =>
  condA v7
  (some (.normal, [x0, v0, x0, v7], h7))
  (bnd (pu h7 (bin Tryd.prog .eql 3 true x0 (.int .i64 4))) fun v8 h8 =>
  condA v8
  (some (.normal, [x0, v0, x0, v8], h8))
  (bnd (pu h8 (bin Tryd.prog .eql 3 true x0 (.int .i64 5))) fun v9 h9 =>
  condA v9
  (some (.normal, [x0, v0, x0, v9], h9))
  (bnd (pu h9 (bin Tryd.prog .eql 3 true x0 (.int .i64 6))) fun v10 h10 =>
  condA v10
  (some (.normal, [x0, v0, x0, v10], h10))
  (bnd (pu h10 (bin Tryd.prog .eql 3 true x0 (.int .i64 7))) fun v11 h11 =>
  condA v11
  (some (.normal, [x0, v0, x0, v11], h11))
  (bnd (pu h11 (bin Tryd.prog .eql 3 true x0 (.int .i64 8))) fun v12 h12 =>
  condA v12
  (some (.normal, [x0, v0, x0, v12], h12))
  (bnd (pu h12 (bin Tryd.prog .eql 3 true x0 (.int .i64 9))) fun v13 h13 =>
  condA v13
  (some (.normal, [x0, v0, x0, v13], h13))
  (bnd (pu h13 (bin Tryd.prog .eql 3 true x0 (.int .i64 13))) fun v14 h14 =>
  some (.normal, [x0, v0, x0, v14], h14))))))))) fun e15 x15 h15 => exK e15
  (condA (nth x15 3)
  (bnd (pureCall (words_name.f G k) [(nth x15 0)] h15) fun v16 h16 =>
  bnd (pu h16 (buildSt [(0, 1), (1, 1), (2, 1), (3, 1), (4, 1), (5, 1)] [(.str ⟨#[]⟩), (.bool false), (.bool false), (.bool false), (.bool false), (.bool false)] [(0, v16), (1, (.bool true)), (2, (.bool true)), (3, (.bool true))])) fun v17 h17 =>
  bnd (stS (storeV 6 (nth x15 1) v17 h17)) fun v18 h18 =>
  some (.ret, [(nth x15 1), (.bool true)], h18))
  (thenK (
  bnd (pu h15 (bin Tryd.prog .eql 3 true (nth x15 2) (.int .i64 10))) fun v19 h19 =>
  condA v19
  (some (.normal, [(nth x15 0), (nth x15 1), (nth x15 2), v19], h19))
  (bnd (pu h19 (bin Tryd.prog .eql 3 true (nth x15 2) (.int .i64 11))) fun v20 h20 =>
  condA v20
  (some (.normal, [(nth x15 0), (nth x15 1), (nth x15 2), v20], h20))
  (bnd (pu h20 (bin Tryd.prog .eql 3 true (nth x15 2) (.int .i64 12))) fun v21 h21 =>
  condA v21
  (some (.normal, [(nth x15 0), (nth x15 1), (nth x15 2), v21], h21))
  (bnd (pu h21 (bin Tryd.prog .eql 3 true (nth x15 2) (.int .i64 15))) fun v22 h22 =>
  some (.normal, [(nth x15 0), (nth x15 1), (nth x15 2), v22], h22))))) fun e23 x23 h23 => exK e23
  (condA (nth x23 3)
  (bnd (pureCall (words_name.f G k) [(nth x23 0)] h23) fun v24 h24 =>
  bnd (pu h24 (buildSt [(0, 1), (1, 1), (2, 1), (3, 1), (4, 1), (5, 1)] [(.str ⟨#[]⟩), (.bool false), (.bool false), (.bool false), (.bool false), (.bool false)] [(0, v24), (1, (.bool true)), (2, (.bool true)), (5, (.bool true))])) fun v25 h25 =>
  bnd (stS (storeV 6 (nth x23 1) v25 h25)) fun v26 h26 =>
  some (.ret, [(nth x23 1), (.bool true)], h26))
  (bnd (pu h23 (bin Tryd.prog .eql 3 true (nth x23 2) (.int .i64 14))) fun v27 h27 =>
  condA v27
  (bnd (pu h27 (buildSt [(0, 1), (1, 1), (2, 1), (3, 1), (4, 1), (5, 1)] [(.str ⟨#[]⟩), (.bool false), (.bool false), (.bool false), (.bool false), (.bool false)] [(0, (.str ⟨#[115, 101, 108]⟩)), (1, (.bool true)), (2, (.bool true)), (3, (.bool true)), (4, (.bool true))])) fun v28 h28 =>
  bnd (stS (storeV 6 (nth x23 1) v28 h28)) fun v29 h29 =>
  some (.ret, [(nth x23 1), (.bool true)], h29))
  (bnd (pu h27 (bin Tryd.prog .eql 3 true (nth x23 2) (.int .i64 16))) fun v30 h30 =>
  condA v30
  (bnd (pu h30 (buildSt [(0, 1), (1, 1), (2, 1), (3, 1), (4, 1), (5, 1)] [(.str ⟨#[]⟩), (.bool false), (.bool false), (.bool false), (.bool false), (.bool false)] [(0, (.str ⟨#[115, 116]⟩)), (2, (.bool true)), (3, (.bool true)), (5, (.bool true))])) fun v31 h31 =>
  bnd (stS (storeV 6 (nth x23 1) v31 h31)) fun v32 h32 =>
  some (.ret, [(nth x23 1), (.bool true)], h32))
  (thenK (
  bnd (pu h30 (bin Tryd.prog .eql 3 true (nth x23 2) (.int .i64 17))) fun v33 h33 =>
  condA v33
  (some (.normal, [(nth x23 0), (nth x23 1), (nth x23 2), v33], h33))
  (bnd (pu h33 (bin Tryd.prog .eql 3 true (nth x23 2) (.int .i64 20))) fun v34 h34 =>
  some (.normal, [(nth x23 0), (nth x23 1), (nth x23 2), v34], h34))) fun e35 x35 h35 => exK e35
  (condA (nth x35 3)
  (bnd (pureCall (words_name.f G k) [(nth x35 0)] h35) fun v36 h36 =>
  bnd (pu h36 (buildSt [(0, 1), (1, 1), (2, 1), (3, 1), (4, 1), (5, 1)] [(.str ⟨#[]⟩), (.bool false), (.bool false), (.bool false), (.bool false), (.bool false)] [(0, v36), (5, (.bool true))])) fun v37 h37 =>
  bnd (stS (storeV 6 (nth x35 1) v37 h37)) fun v38 h38 =>
  some (.ret, [(nth x35 1), (.bool true)], h38))
  (thenK (
  bnd (pu h35 (bin Tryd.prog .eql 3 true (nth x35 2) (.int .i64 18))) fun v39 h39 =>
  condA v39
  (some (.normal, [(nth x35 0), (nth x35 1), v39], h39))
  (bnd (pu h39 (bin Tryd.prog .eql 3 true (nth x35 2) (.int .i64 19))) fun v40 h40 =>
  some (.normal, [(nth x35 0), (nth x35 1), v40], h40))) fun e41 x41 h41 => exK e41
  (condA (nth x41 2)
  (bnd (pureCall (words_name.f G k) [(nth x41 0)] h41) fun v42 h42 =>
  bnd (pu h42 (buildSt [(0, 1), (1, 1), (2, 1), (3, 1), (4, 1), (5, 1)] [(.str ⟨#[]⟩), (.bool false), (.bool false), (.bool false), (.bool false), (.bool false)] [(0, v42), (2, (.bool true)), (5, (.bool true))])) fun v43 h43 =>
  bnd (stS (storeV 6 (nth x41 1) v43 h43)) fun v44 h44 =>
  some (.ret, [(nth x41 1), (.bool true)], h44))
  (some (.normal, [(nth x41 1), .undef], h41)))
  (fun i41 => if i41 = 0 then (some (.normal, [(nth x41 1), .undef], h41)) else (some (.exit i41, [(nth x41 1), .undef], h41)))
  (some (.ret, [(nth x41 1), .undef], h41))))
  (fun i35 => if i35 = 0 then (some (.normal, [(nth x35 1), .undef], h35)) else (some (.exit i35, [(nth x35 1), .undef], h35)))
  (some (.ret, [(nth x35 1), .undef], h35))))))
  (fun i23 => if i23 = 0 then (some (.normal, [(nth x23 1), .undef], h23)) else (some (.exit i23, [(nth x23 1), .undef], h23)))
  (some (.ret, [(nth x23 1), .undef], h23))))
  (fun i15 => if i15 = 0 then (some (.normal, [(nth x15 1), .undef], h15)) else (some (.exit i15, [(nth x15 1), .undef], h15)))
  (some (.ret, [(nth x15 1), .undef], h15))))) fun e45 x45 h45 => exK e45
  (bnd (pu h45 (buildSt [(0, 1), (1, 1), (2, 1), (3, 1), (4, 1), (5, 1)] [(.str ⟨#[]⟩), (.bool false), (.bool false), (.bool false), (.bool false), (.bool false)] [(0, (.str ⟨#[110, 111, 110, 101]⟩))])) fun v46 h46 =>
  bnd (stS (storeV 6 (nth x45 0) v46 h46)) fun v47 h47 =>
  finL [loadV G true 6 (nth x45 0) h47, some (.bool false)] h.length h47)
  (fun i45 => none)
  (finL [loadV G true 6 (nth x45 0) h45, some (nth x45 1)] h.length h45))
noncomputable def words_Of.f (G : Globs) : Nat → Den
  | 0 => fun _ _ => none
  | k + 1 => fun args h => arg1 args fun x0 => (words_Of.c G k (words_Of.f G k) x0 h)
/-! alembic/words.has: function 91 -/
noncomputable def words_has.ann : Ann := mkAnn [] [] [] []
noncomputable def words_has.env (G : Globs) (k : Nat) (self : Den) : List (Nat × Bool × Den) := []
noncomputable def words_has.c (G : Globs) (k : Nat) (self : Den) (x0 x1 : AV) (h : AHeap) : Option (AV × AHeap) := outV (
  bnd (boxRoA x0 h) fun v0 h0 =>
  bnd (boxRoA x1 h0) fun v1 h1 =>
  bnd (pu h1 (fieldAddrV 1 v1)) fun v2 h2 =>
  bnd (pu h2 (loadV G false 1 v2 h2)) fun v3 h3 =>
  bnd (pu h3 (fieldAddrV 2 v1)) fun v4 h4 =>
  bnd (pu h4 (loadV G false 1 v4 h4)) fun v5 h5 =>
  bnd (pu h5 (fieldAddrV 3 v1)) fun v6 h6 =>
  bnd (pu h6 (loadV G false 1 v6 h6)) fun v7 h7 =>
  bnd (pu h7 (fieldAddrV 4 v1)) fun v8 h8 =>
  bnd (pu h8 (loadV G false 1 v8 h8)) fun v9 h9 =>
  bnd (pu h9 (fieldAddrV 5 v1)) fun v10 h10 =>
  bnd (pu h10 (loadV G false 1 v10 h10)) fun v11 h11 =>
  bnd (buildRo 1 5 (.bool false) [(0, v3), (1, v5), (2, v7), (3, v9), (4, v11)] h11) fun v12 h12 =>
  bnd (pu h12 (fieldAddrV 1 v0)) fun v13 h13 =>
  bnd (pu h13 (loadV G false 1 v13 h13)) fun v14 h14 =>
  bnd (pu h14 (fieldAddrV 2 v0)) fun v15 h15 =>
  bnd (pu h15 (loadV G false 1 v15 h15)) fun v16 h16 =>
  bnd (pu h16 (fieldAddrV 3 v0)) fun v17 h17 =>
  bnd (pu h17 (loadV G false 1 v17 h17)) fun v18 h18 =>
  bnd (pu h18 (fieldAddrV 4 v0)) fun v19 h19 =>
  bnd (pu h19 (loadV G false 1 v19 h19)) fun v20 h20 =>
  bnd (pu h20 (fieldAddrV 5 v0)) fun v21 h21 =>
  bnd (pu h21 (loadV G false 1 v21 h21)) fun v22 h22 =>
  bnd (buildRo 1 5 (.int .i64 0) [(0, v14), (1, v16), (2, v18), (3, v20), (4, v22)] h22) fun v23 h23 =>
  finV [v12, v23] h.length h23)
noncomputable def words_has.f (G : Globs) : Nat → Den
  | 0 => fun _ _ => none
  | k + 1 => fun args h => arg2 args fun x0 x1 => (words_has.c G k (words_has.f G k) x0 x1 h)
/-! alembic/words.one: function 64 -/
noncomputable def words_one.ann : Ann := mkAnn [] [] [(12, [2, 3, 4, 8, 53, 54, 55]), (6, [2, 3, 4, 7, 8, 28])] [(33, [3, 4, 12]), (31, [2, 3, 12, 82]), (27, [2, 3, 12, 72, 79]), (22, [2, 3, 12, 72, 73])]
noncomputable def words_one.env (G : Globs) (k : Nat) (self : Den) : List (Nat × Bool × Den) := [(90, true, words_Of.f G k), (91, true, words_has.f G k)]
noncomputable def words_one.l6 (G : Globs) (k n0 : Nat) (self : Den) (lp : LoopF) : LoopF := fun xs h0 => cutK n0 xs h0 fun h =>
  bnd (pu h (bin Tryd.prog .lss 3 true (nth xs 5) (.int .i64 4))) fun v17 h17 =>
  condA v17
  (bnd (pu h17 (idxAddrSl 1 (nth xs 3) (nth xs 5))) fun v18 h18 =>
  bnd (pu h18 (loadV G false 1 v18 h18)) fun v19 h19 =>
  bnd (gd v19 true h19 (some ((nth xs 4), h19))) fun v20 h20 =>
  bnd (gd v19 true h20 (some ((nth xs 5), h20))) fun v21 h21 =>
  bnd (gd v19 true h21 (pu h21 (idxAddrSl 1 v20 v21))) fun v22 h22 =>
  bnd (gd v19 true h22 (pu h22 (loadV G false 1 v22 h22))) fun v23 h23 =>
  bnd (gd v19 true h23 (pu h23 (bin Tryd.prog .lss 2 true v23 (.int .i64 0)))) fun v24 h24 =>
  bnd (gd v19 true h24 (some (v24, h24))) fun v25 h25 =>
  bnd (gd v25 false h25 (some ((nth xs 4), h25))) fun v26 h26 =>
  bnd (gd v25 false h26 (some ((nth xs 5), h26))) fun v27 h27 =>
  bnd (gd v25 false h27 (pu h27 (idxAddrSl 1 v26 v27))) fun v28 h28 =>
  bnd (gd v25 false h28 (pu h28 (loadV G false 1 v28 h28))) fun v29 h29 =>
  bnd (gd v25 false h29 (pu h29 (fieldAddrV 1 (nth xs 0)))) fun v30 h30 =>
  bnd (gd v25 false h30 (pu h30 (loadV G false 1 v30 h30))) fun v31 h31 =>
  bnd (gd v25 false h31 (pu h31 (bin Tryd.prog .geq 2 false v29 v31))) fun v32 h32 =>
  bnd (gd v19 true h32 (pu h32 (pickA v25 (.bool true) v32))) fun v33 h33 =>
  bnd (pu h33 (pickA v19 v33 (.bool false))) fun v34 h34 =>
  condA v34
  (bnd (pu h34 (loadV G false 1 (.gl 1) h34)) fun v35 h35 =>
  some (.ret, [(nth xs 0), (nth xs 1), v35, (nth xs 3), (nth xs 4), (nth xs 5)], h35))
  (bnd (pu h34 (bin Tryd.prog .add 3 true (nth xs 5) (.int .i64 1))) fun v36 h36 =>
  lp [(nth xs 0), (nth xs 1), (nth xs 2), (nth xs 3), (nth xs 4), v36] h36))
  (some (.exit 0, [(nth xs 0), (nth xs 1), (nth xs 2), (nth xs 3), (nth xs 4), (nth xs 5)], h17))
noncomputable def words_one.l12 (G : Globs) (k n0 : Nat) (self : Den) (lp : LoopF) : LoopF := fun xs h0 => cutK n0 xs h0 fun h =>
  bnd (pu h (bin Tryd.prog .lss 3 false (nth xs 6) (nth xs 5))) fun v39 h39 =>
  condA v39
  (bnd (pu h39 (idxAddrSl 1 (nth xs 4) (nth xs 6))) fun v40 h40 =>
  bnd (pu h40 (loadV G false 1 v40 h40)) fun v41 h41 =>
  bnd (pu h41 (un .not v41)) fun v42 h42 =>
  bnd (gd v42 true h42 (some ((nth xs 3), h42))) fun v43 h43 =>
  bnd (gd v42 true h43 (some ((nth xs 6), h43))) fun v44 h44 =>
  bnd (gd v42 true h44 (pu h44 (idxAddrSl 1 v43 v44))) fun v45 h45 =>
  bnd (gd v42 true h45 (pu h45 (loadV G false 1 v45 h45))) fun v46 h46 =>
  bnd (gd v42 true h46 (pu h46 (bin Tryd.prog .neq 2 true v46 (.int .i64 0)))) fun v47 h47 =>
  bnd (pu h47 (pickA v42 v47 (.bool false))) fun v48 h48 =>
  condA v48
  (bnd (pu h48 (loadV G false 1 (.gl 3) h48)) fun v49 h49 =>
  some (.ret, [(nth xs 0), (nth xs 1), v49, (nth xs 3), (nth xs 4), (nth xs 5), (nth xs 6)], h49))
  (bnd (pu h48 (bin Tryd.prog .add 3 true (nth xs 6) (.int .i64 1))) fun v50 h50 =>
  lp [(nth xs 0), (nth xs 1), (nth xs 2), (nth xs 3), (nth xs 4), (nth xs 5), v50] h50))
  (some (.exit 2, [(nth xs 0), (nth xs 1), (nth xs 2), (nth xs 3), (nth xs 4), (nth xs 5), (nth xs 6)], h39))
noncomputable def words_one.c (G : Globs) (k : Nat) (self : Den) (x0 x1 : AV) (h : AHeap) : Option (AV × AHeap) := outV (
  bnd (boxRoA x0 h) fun v0 h0 =>
  bnd (boxRoA x1 h0) fun v1 h1 =>
  bnd (pu h1 (fieldAddrV 0 v1)) fun v2 h2 =>
  bnd (pu h2 (loadV G false 1 v2 h2)) fun v3 h3 =>
  bnd (pureCall (words_Of.f G k) [v3] h3) fun v4 h4 =>
  bnd (pu h4 (extractA v4 0)) fun v5 h5 =>
  bnd (pu h5 (extractA v4 1)) fun v6 h6 =>
  bnd (boxA 163 (.agg [(.str ⟨#[]⟩), (.bool false), (.bool false), (.bool false), (.bool false), (.bool false)]) h6) fun v7 h7 =>
  bnd (stS (storeV 6 v7 v5 h7)) fun v8 h8 =>
  bnd (pu h8 (un .not v6)) fun v9 h9 =>
  condA v9
  (bnd (pu h9 (loadV G false 1 (.gl 2) h9)) fun v10 h10 =>
  finV [v10] h.length h10)
  (bnd (pu h9 (loadV G true 6 v1 h9)) fun v11 h11 =>
  bnd (pu h11 (loadV G true 6 v7 h11)) fun v12 h12 =>
  bnd (pureCall (words_has.f G k) [v11, v12] h12) fun v13 h13 =>
  bnd (pu h13 (extractA v13 0)) fun v14 h14 =>
  bnd (pu h14 (extractA v13 1)) fun v15 h15 =>
  thenK (loopN (words_one.l6 G k h15.length self) k [v0, v1, .nili, v14, v15, (.int .i64 0)] h15) fun e16 x16 h16 => exK e16
  (bnd (pu h16 (lenSl (nth x16 3))) fun v37 h37 =>
  thenK (loopN (words_one.l12 G k h37.length self) k [(nth x16 0), (nth x16 1), (nth x16 2), (nth x16 4), (nth x16 3), v37, (.int .i64 0)] h37) fun e38 x38 h38 => exK e38
  (thenK (
  bnd (pu h38 (fieldAddrV 0 (nth x38 1))) fun v51 h51 =>
  bnd (pu h51 (loadV G false 1 v51 h51)) fun v52 h52 =>
  thenK (
  bnd (pu h52 (bin Tryd.prog .eql 3 true v52 (.int .i64 10))) fun v53 h53 =>
  condA v53
  (some (.normal, [(nth x38 0), (nth x38 1), (.int .i64 (-1)), v52, v53], h53))
  (bnd (pu h53 (bin Tryd.prog .eql 3 true v52 (.int .i64 11))) fun v54 h54 =>
  condA v54
  (some (.normal, [(nth x38 0), (nth x38 1), (.int .i64 (-1)), v52, v54], h54))
  (bnd (pu h54 (bin Tryd.prog .eql 3 true v52 (.int .i64 12))) fun v55 h55 =>
  some (.normal, [(nth x38 0), (nth x38 1), (.int .i64 (-1)), v52, v55], h55)))) fun e56 x56 h56 => exK e56
  (condA (nth x56 4)
  (some (.normal, [(nth x56 1), .undef, (.int .i64 63)], h56))
  (bnd (pu h56 (bin Tryd.prog .eql 3 true (nth x56 3) (.int .i64 20))) fun v57 h57 =>
  condA v57
  (some (.normal, [(nth x56 1), .undef, (.int .i64 2)], h57))
  (thenK (
  bnd (pu h57 (bin Tryd.prog .eql 3 true (nth x56 3) (.int .i64 15))) fun v58 h58 =>
  condA v58
  (some (.normal, [(nth x56 0), (nth x56 1), (nth x56 2), (nth x56 3), v58], h58))
  (bnd (pu h58 (bin Tryd.prog .eql 3 true (nth x56 3) (.int .i64 16))) fun v59 h59 =>
  some (.normal, [(nth x56 0), (nth x56 1), (nth x56 2), (nth x56 3), v59], h59))) fun e60 x60 h60 => exK e60
  (condA (nth x60 4)
  (some (.normal, [(nth x60 1), .undef, (.int .i64 65535)], h60))
  (thenK (
  bnd (pu h60 (bin Tryd.prog .eql 3 true (nth x60 3) (.int .i64 17))) fun v61 h61 =>
  condA v61
  (some (.normal, [(nth x60 0), (nth x60 1), (nth x60 2), v61], h61))
  (bnd (pu h61 (bin Tryd.prog .eql 3 true (nth x60 3) (.int .i64 18))) fun v62 h62 =>
  condA v62
  (some (.normal, [(nth x60 0), (nth x60 1), (nth x60 2), v62], h62))
  (bnd (pu h62 (bin Tryd.prog .eql 3 true (nth x60 3) (.int .i64 19))) fun v63 h63 =>
  some (.normal, [(nth x60 0), (nth x60 1), (nth x60 2), v63], h63)))) fun e64 x64 h64 => exK e64
  (condA (nth x64 3)
  (bnd (pu h64 (fieldAddrV 5 (nth x64 1))) fun v65 h65 =>
  bnd (pu h65 (loadV G false 1 v65 h65)) fun v66 h66 =>
  bnd (pu h66 (bin Tryd.prog .lss 2 true v66 (.int .i64 0))) fun v67 h67 =>
  bnd (gd v67 false h67 (pu h67 (fieldAddrV 5 (nth x64 1)))) fun v68 h68 =>
  bnd (gd v67 false h68 (pu h68 (loadV G false 1 v68 h68))) fun v69 h69 =>
  bnd (gd v67 false h69 (pu h69 (fieldAddrV 0 (nth x64 0)))) fun v70 h70 =>
  bnd (gd v67 false h70 (pu h70 (loadV G false 1 v70 h70))) fun v71 h71 =>
  bnd (gd v67 false h71 (pu h71 (lenSl v71))) fun v72 h72 =>
  bnd (gd v67 false h72 (pu h72 (bin Tryd.prog .gtr 2 false v69 v72))) fun v73 h73 =>
  bnd (pu h73 (pickA v67 (.bool true) v73)) fun v74 h74 =>
  condA v74
  (bnd (pu h74 (loadV G false 1 (.gl 4) h74)) fun v75 h75 =>
  some (.ret, [(nth x64 1), v75, (nth x64 2)], h75))
  (some (.normal, [(nth x64 1), .undef, (nth x64 2)], h74)))
  (some (.normal, [(nth x64 1), .undef, (nth x64 2)], h64)))
  (fun i64 => if i64 = 4 then (some (.normal, [(nth x64 1), .undef, (nth x64 2)], h64)) else (some (.exit i64, [(nth x64 1), .undef, (nth x64 2)], h64)))
  (some (.ret, [(nth x64 1), .undef, (nth x64 2)], h64))))
  (fun i60 => if i60 = 4 then (some (.normal, [(nth x60 1), .undef, (nth x60 2)], h60)) else (some (.exit i60, [(nth x60 1), .undef, (nth x60 2)], h60)))
  (some (.ret, [(nth x60 1), .undef, (nth x60 2)], h60)))))
  (fun i56 => if i56 = 4 then (some (.normal, [(nth x56 1), .undef, (nth x56 2)], h56)) else (some (.exit i56, [(nth x56 1), .undef, (nth x56 2)], h56)))
  (some (.ret, [(nth x56 1), .undef, (nth x56 2)], h56))) fun e76 x76 h76 => exK e76
  (bnd (pu h76 (bin Tryd.prog .geq 2 true (nth x76 2) (.int .i64 0))) fun v77 h77 =>
  bnd (gd v77 true h77 (pu h77 (fieldAddrV 5 (nth x76 0)))) fun v78 h78 =>
  bnd (gd v77 true h78 (pu h78 (loadV G false 1 v78 h78))) fun v79 h79 =>
  bnd (gd v77 true h79 (pu h79 (bin Tryd.prog .lss 2 true v79 (.int .i64 0)))) fun v80 h80 =>
  bnd (gd v77 true h80 (some (v80, h80))) fun v81 h81 =>
  bnd (gd v81 false h81 (pu h81 (fieldAddrV 5 (nth x76 0)))) fun v82 h82 =>
  bnd (gd v81 false h82 (pu h82 (loadV G false 1 v82 h82))) fun v83 h83 =>
  bnd (gd v81 false h83 (some ((nth x76 2), h83))) fun v84 h84 =>
  bnd (gd v81 false h84 (pu h84 (bin Tryd.prog .gtr 2 false v83 v84))) fun v85 h85 =>
  bnd (gd v77 true h85 (pu h85 (pickA v81 (.bool true) v85))) fun v86 h86 =>
  bnd (pu h86 (pickA v77 v86 (.bool false))) fun v87 h87 =>
  condA v87
  (bnd (pu h87 (loadV G false 1 (.gl 1) h87)) fun v88 h88 =>
  finV [v88] h.length h88)
  (finV [.nili] h.length h87))
  (fun i76 => none)
  (finV [(nth x76 1)] h.length h76))
  (fun i38 => if i38 = 2 then (thenK (
  bnd (pu h38 (fieldAddrV 0 (nth x38 1))) fun v89 h89 =>
  bnd (pu h89 (loadV G false 1 v89 h89)) fun v90 h90 =>
  thenK (
  bnd (pu h90 (bin Tryd.prog .eql 3 true v90 (.int .i64 10))) fun v91 h91 =>
  condA v91
  (some (.normal, [(nth x38 0), (nth x38 1), (.int .i64 (-1)), v90, v91], h91))
  (bnd (pu h91 (bin Tryd.prog .eql 3 true v90 (.int .i64 11))) fun v92 h92 =>
  condA v92
  (some (.normal, [(nth x38 0), (nth x38 1), (.int .i64 (-1)), v90, v92], h92))
  (bnd (pu h92 (bin Tryd.prog .eql 3 true v90 (.int .i64 12))) fun v93 h93 =>
  some (.normal, [(nth x38 0), (nth x38 1), (.int .i64 (-1)), v90, v93], h93)))) fun e94 x94 h94 => exK e94
  (condA (nth x94 4)
  (some (.normal, [(nth x94 1), .undef, (.int .i64 63)], h94))
  (bnd (pu h94 (bin Tryd.prog .eql 3 true (nth x94 3) (.int .i64 20))) fun v95 h95 =>
  condA v95
  (some (.normal, [(nth x94 1), .undef, (.int .i64 2)], h95))
  (thenK (
  bnd (pu h95 (bin Tryd.prog .eql 3 true (nth x94 3) (.int .i64 15))) fun v96 h96 =>
  condA v96
  (some (.normal, [(nth x94 0), (nth x94 1), (nth x94 2), (nth x94 3), v96], h96))
  (bnd (pu h96 (bin Tryd.prog .eql 3 true (nth x94 3) (.int .i64 16))) fun v97 h97 =>
  some (.normal, [(nth x94 0), (nth x94 1), (nth x94 2), (nth x94 3), v97], h97))) fun e98 x98 h98 => exK e98
  (condA (nth x98 4)
  (some (.normal, [(nth x98 1), .undef, (.int .i64 65535)], h98))
  (thenK (
  bnd (pu h98 (bin Tryd.prog .eql 3 true (nth x98 3) (.int .i64 17))) fun v99 h99 =>
  condA v99
  (some (.normal, [(nth x98 0), (nth x98 1), (nth x98 2), v99], h99))
  (bnd (pu h99 (bin Tryd.prog .eql 3 true (nth x98 3) (.int .i64 18))) fun v100 h100 =>
  condA v100
  (some (.normal, [(nth x98 0), (nth x98 1), (nth x98 2), v100], h100))
  (bnd (pu h100 (bin Tryd.prog .eql 3 true (nth x98 3) (.int .i64 19))) fun v101 h101 =>
  some (.normal, [(nth x98 0), (nth x98 1), (nth x98 2), v101], h101)))) fun e102 x102 h102 => exK e102
  (condA (nth x102 3)
  (bnd (pu h102 (fieldAddrV 5 (nth x102 1))) fun v103 h103 =>
  bnd (pu h103 (loadV G false 1 v103 h103)) fun v104 h104 =>
  bnd (pu h104 (bin Tryd.prog .lss 2 true v104 (.int .i64 0))) fun v105 h105 =>
  bnd (gd v105 false h105 (pu h105 (fieldAddrV 5 (nth x102 1)))) fun v106 h106 =>
  bnd (gd v105 false h106 (pu h106 (loadV G false 1 v106 h106))) fun v107 h107 =>
  bnd (gd v105 false h107 (pu h107 (fieldAddrV 0 (nth x102 0)))) fun v108 h108 =>
  bnd (gd v105 false h108 (pu h108 (loadV G false 1 v108 h108))) fun v109 h109 =>
  bnd (gd v105 false h109 (pu h109 (lenSl v109))) fun v110 h110 =>
  bnd (gd v105 false h110 (pu h110 (bin Tryd.prog .gtr 2 false v107 v110))) fun v111 h111 =>
  bnd (pu h111 (pickA v105 (.bool true) v111)) fun v112 h112 =>
  condA v112
  (bnd (pu h112 (loadV G false 1 (.gl 4) h112)) fun v113 h113 =>
  some (.ret, [(nth x102 1), v113, (nth x102 2)], h113))
  (some (.normal, [(nth x102 1), .undef, (nth x102 2)], h112)))
  (some (.normal, [(nth x102 1), .undef, (nth x102 2)], h102)))
  (fun i102 => if i102 = 4 then (some (.normal, [(nth x102 1), .undef, (nth x102 2)], h102)) else (some (.exit i102, [(nth x102 1), .undef, (nth x102 2)], h102)))
  (some (.ret, [(nth x102 1), .undef, (nth x102 2)], h102))))
  (fun i98 => if i98 = 4 then (some (.normal, [(nth x98 1), .undef, (nth x98 2)], h98)) else (some (.exit i98, [(nth x98 1), .undef, (nth x98 2)], h98)))
  (some (.ret, [(nth x98 1), .undef, (nth x98 2)], h98)))))
  (fun i94 => if i94 = 4 then (some (.normal, [(nth x94 1), .undef, (nth x94 2)], h94)) else (some (.exit i94, [(nth x94 1), .undef, (nth x94 2)], h94)))
  (some (.ret, [(nth x94 1), .undef, (nth x94 2)], h94))) fun e114 x114 h114 => exK e114
  (bnd (pu h114 (bin Tryd.prog .geq 2 true (nth x114 2) (.int .i64 0))) fun v115 h115 =>
  bnd (gd v115 true h115 (pu h115 (fieldAddrV 5 (nth x114 0)))) fun v116 h116 =>
  bnd (gd v115 true h116 (pu h116 (loadV G false 1 v116 h116))) fun v117 h117 =>
  bnd (gd v115 true h117 (pu h117 (bin Tryd.prog .lss 2 true v117 (.int .i64 0)))) fun v118 h118 =>
  bnd (gd v115 true h118 (some (v118, h118))) fun v119 h119 =>
  bnd (gd v119 false h119 (pu h119 (fieldAddrV 5 (nth x114 0)))) fun v120 h120 =>
  bnd (gd v119 false h120 (pu h120 (loadV G false 1 v120 h120))) fun v121 h121 =>
  bnd (gd v119 false h121 (some ((nth x114 2), h121))) fun v122 h122 =>
  bnd (gd v119 false h122 (pu h122 (bin Tryd.prog .gtr 2 false v121 v122))) fun v123 h123 =>
  bnd (gd v115 true h123 (pu h123 (pickA v119 (.bool true) v123))) fun v124 h124 =>
  bnd (pu h124 (pickA v115 v124 (.bool false))) fun v125 h125 =>
  condA v125
  (bnd (pu h125 (loadV G false 1 (.gl 1) h125)) fun v126 h126 =>
  finV [v126] h.length h126)
  (finV [.nili] h.length h125))
  (fun i114 => none)
  (finV [(nth x114 1)] h.length h114)) else (none))
  (finV [(nth x38 2)] h.length h38))
  (fun i16 => if i16 = 0 then (bnd (pu h16 (lenSl (nth x16 3))) fun v127 h127 =>
  thenK (loopN (words_one.l12 G k h127.length self) k [(nth x16 0), (nth x16 1), (nth x16 2), (nth x16 4), (nth x16 3), v127, (.int .i64 0)] h127) fun e128 x128 h128 => exK e128
  (thenK (
  bnd (pu h128 (fieldAddrV 0 (nth x128 1))) fun v141 h141 =>
  bnd (pu h141 (loadV G false 1 v141 h141)) fun v142 h142 =>
  thenK (
  bnd (pu h142 (bin Tryd.prog .eql 3 true v142 (.int .i64 10))) fun v143 h143 =>
  condA v143
  (some (.normal, [(nth x128 0), (nth x128 1), (.int .i64 (-1)), v142, v143], h143))
  (bnd (pu h143 (bin Tryd.prog .eql 3 true v142 (.int .i64 11))) fun v144 h144 =>
  condA v144
  (some (.normal, [(nth x128 0), (nth x128 1), (.int .i64 (-1)), v142, v144], h144))
  (bnd (pu h144 (bin Tryd.prog .eql 3 true v142 (.int .i64 12))) fun v145 h145 =>
  some (.normal, [(nth x128 0), (nth x128 1), (.int .i64 (-1)), v142, v145], h145)))) fun e146 x146 h146 => exK e146
  (condA (nth x146 4)
  (some (.normal, [(nth x146 1), .undef, (.int .i64 63)], h146))
  (bnd (pu h146 (bin Tryd.prog .eql 3 true (nth x146 3) (.int .i64 20))) fun v147 h147 =>
  condA v147
  (some (.normal, [(nth x146 1), .undef, (.int .i64 2)], h147))
  (thenK (
  bnd (pu h147 (bin Tryd.prog .eql 3 true (nth x146 3) (.int .i64 15))) fun v148 h148 =>
  condA v148
  (some (.normal, [(nth x146 0), (nth x146 1), (nth x146 2), (nth x146 3), v148], h148))
  (bnd (pu h148 (bin Tryd.prog .eql 3 true (nth x146 3) (.int .i64 16))) fun v149 h149 =>
  some (.normal, [(nth x146 0), (nth x146 1), (nth x146 2), (nth x146 3), v149], h149))) fun e150 x150 h150 => exK e150
  (condA (nth x150 4)
  (some (.normal, [(nth x150 1), .undef, (.int .i64 65535)], h150))
  (thenK (
  bnd (pu h150 (bin Tryd.prog .eql 3 true (nth x150 3) (.int .i64 17))) fun v151 h151 =>
  condA v151
  (some (.normal, [(nth x150 0), (nth x150 1), (nth x150 2), v151], h151))
  (bnd (pu h151 (bin Tryd.prog .eql 3 true (nth x150 3) (.int .i64 18))) fun v152 h152 =>
  condA v152
  (some (.normal, [(nth x150 0), (nth x150 1), (nth x150 2), v152], h152))
  (bnd (pu h152 (bin Tryd.prog .eql 3 true (nth x150 3) (.int .i64 19))) fun v153 h153 =>
  some (.normal, [(nth x150 0), (nth x150 1), (nth x150 2), v153], h153)))) fun e154 x154 h154 => exK e154
  (condA (nth x154 3)
  (bnd (pu h154 (fieldAddrV 5 (nth x154 1))) fun v155 h155 =>
  bnd (pu h155 (loadV G false 1 v155 h155)) fun v156 h156 =>
  bnd (pu h156 (bin Tryd.prog .lss 2 true v156 (.int .i64 0))) fun v157 h157 =>
  bnd (gd v157 false h157 (pu h157 (fieldAddrV 5 (nth x154 1)))) fun v158 h158 =>
  bnd (gd v157 false h158 (pu h158 (loadV G false 1 v158 h158))) fun v159 h159 =>
  bnd (gd v157 false h159 (pu h159 (fieldAddrV 0 (nth x154 0)))) fun v160 h160 =>
  bnd (gd v157 false h160 (pu h160 (loadV G false 1 v160 h160))) fun v161 h161 =>
  bnd (gd v157 false h161 (pu h161 (lenSl v161))) fun v162 h162 =>
  bnd (gd v157 false h162 (pu h162 (bin Tryd.prog .gtr 2 false v159 v162))) fun v163 h163 =>
  bnd (pu h163 (pickA v157 (.bool true) v163)) fun v164 h164 =>
  condA v164
  (bnd (pu h164 (loadV G false 1 (.gl 4) h164)) fun v165 h165 =>
  some (.ret, [(nth x154 1), v165, (nth x154 2)], h165))
  (some (.normal, [(nth x154 1), .undef, (nth x154 2)], h164)))
  (some (.normal, [(nth x154 1), .undef, (nth x154 2)], h154)))
  (fun i154 => if i154 = 4 then (some (.normal, [(nth x154 1), .undef, (nth x154 2)], h154)) else (some (.exit i154, [(nth x154 1), .undef, (nth x154 2)], h154)))
  (some (.ret, [(nth x154 1), .undef, (nth x154 2)], h154))))
  (fun i150 => if i150 = 4 then (some (.normal, [(nth x150 1), .undef, (nth x150 2)], h150)) else (some (.exit i150, [(nth x150 1), .undef, (nth x150 2)], h150)))
  (some (.ret, [(nth x150 1), .undef, (nth x150 2)], h150)))))
  (fun i146 => if i146 = 4 then (some (.normal, [(nth x146 1), .undef, (nth x146 2)], h146)) else (some (.exit i146, [(nth x146 1), .undef, (nth x146 2)], h146)))
  (some (.ret, [(nth x146 1), .undef, (nth x146 2)], h146))) fun e166 x166 h166 => exK e166
  (bnd (pu h166 (bin Tryd.prog .geq 2 true (nth x166 2) (.int .i64 0))) fun v167 h167 =>
  bnd (gd v167 true h167 (pu h167 (fieldAddrV 5 (nth x166 0)))) fun v168 h168 =>
  bnd (gd v167 true h168 (pu h168 (loadV G false 1 v168 h168))) fun v169 h169 =>
  bnd (gd v167 true h169 (pu h169 (bin Tryd.prog .lss 2 true v169 (.int .i64 0)))) fun v170 h170 =>
  bnd (gd v167 true h170 (some (v170, h170))) fun v171 h171 =>
  bnd (gd v171 false h171 (pu h171 (fieldAddrV 5 (nth x166 0)))) fun v172 h172 =>
  bnd (gd v171 false h172 (pu h172 (loadV G false 1 v172 h172))) fun v173 h173 =>
  bnd (gd v171 false h173 (some ((nth x166 2), h173))) fun v174 h174 =>
  bnd (gd v171 false h174 (pu h174 (bin Tryd.prog .gtr 2 false v173 v174))) fun v175 h175 =>
  bnd (gd v167 true h175 (pu h175 (pickA v171 (.bool true) v175))) fun v176 h176 =>
  bnd (pu h176 (pickA v167 v176 (.bool false))) fun v177 h177 =>
  condA v177
  (bnd (pu h177 (loadV G false 1 (.gl 1) h177)) fun v178 h178 =>
  finV [v178] h.length h178)
  (finV [.nili] h.length h177))
  (fun i166 => none)
  (finV [(nth x166 1)] h.length h166))
  (fun i128 => if i128 = 2 then (thenK (
  bnd (pu h128 (fieldAddrV 0 (nth x128 1))) fun v179 h179 =>
  bnd (pu h179 (loadV G false 1 v179 h179)) fun v180 h180 =>
  thenK (
  bnd (pu h180 (bin Tryd.prog .eql 3 true v180 (.int .i64 10))) fun v181 h181 =>
  condA v181
  (some (.normal, [(nth x128 0), (nth x128 1), (.int .i64 (-1)), v180, v181], h181))
  (bnd (pu h181 (bin Tryd.prog .eql 3 true v180 (.int .i64 11))) fun v182 h182 =>
  condA v182
  (some (.normal, [(nth x128 0), (nth x128 1), (.int .i64 (-1)), v180, v182], h182))
  (bnd (pu h182 (bin Tryd.prog .eql 3 true v180 (.int .i64 12))) fun v183 h183 =>
  some (.normal, [(nth x128 0), (nth x128 1), (.int .i64 (-1)), v180, v183], h183)))) fun e184 x184 h184 => exK e184
  (condA (nth x184 4)
  (some (.normal, [(nth x184 1), .undef, (.int .i64 63)], h184))
  (bnd (pu h184 (bin Tryd.prog .eql 3 true (nth x184 3) (.int .i64 20))) fun v185 h185 =>
  condA v185
  (some (.normal, [(nth x184 1), .undef, (.int .i64 2)], h185))
  (thenK (
  bnd (pu h185 (bin Tryd.prog .eql 3 true (nth x184 3) (.int .i64 15))) fun v186 h186 =>
  condA v186
  (some (.normal, [(nth x184 0), (nth x184 1), (nth x184 2), (nth x184 3), v186], h186))
  (bnd (pu h186 (bin Tryd.prog .eql 3 true (nth x184 3) (.int .i64 16))) fun v187 h187 =>
  some (.normal, [(nth x184 0), (nth x184 1), (nth x184 2), (nth x184 3), v187], h187))) fun e188 x188 h188 => exK e188
  (condA (nth x188 4)
  (some (.normal, [(nth x188 1), .undef, (.int .i64 65535)], h188))
  (thenK (
  bnd (pu h188 (bin Tryd.prog .eql 3 true (nth x188 3) (.int .i64 17))) fun v189 h189 =>
  condA v189
  (some (.normal, [(nth x188 0), (nth x188 1), (nth x188 2), v189], h189))
  (bnd (pu h189 (bin Tryd.prog .eql 3 true (nth x188 3) (.int .i64 18))) fun v190 h190 =>
  condA v190
  (some (.normal, [(nth x188 0), (nth x188 1), (nth x188 2), v190], h190))
  (bnd (pu h190 (bin Tryd.prog .eql 3 true (nth x188 3) (.int .i64 19))) fun v191 h191 =>
  some (.normal, [(nth x188 0), (nth x188 1), (nth x188 2), v191], h191)))) fun e192 x192 h192 => exK e192
  (condA (nth x192 3)
  (bnd (pu h192 (fieldAddrV 5 (nth x192 1))) fun v193 h193 =>
  bnd (pu h193 (loadV G false 1 v193 h193)) fun v194 h194 =>
  bnd (pu h194 (bin Tryd.prog .lss 2 true v194 (.int .i64 0))) fun v195 h195 =>
  bnd (gd v195 false h195 (pu h195 (fieldAddrV 5 (nth x192 1)))) fun v196 h196 =>
  bnd (gd v195 false h196 (pu h196 (loadV G false 1 v196 h196))) fun v197 h197 =>
  bnd (gd v195 false h197 (pu h197 (fieldAddrV 0 (nth x192 0)))) fun v198 h198 =>
  bnd (gd v195 false h198 (pu h198 (loadV G false 1 v198 h198))) fun v199 h199 =>
  bnd (gd v195 false h199 (pu h199 (lenSl v199))) fun v200 h200 =>
  bnd (gd v195 false h200 (pu h200 (bin Tryd.prog .gtr 2 false v197 v200))) fun v201 h201 =>
  bnd (pu h201 (pickA v195 (.bool true) v201)) fun v202 h202 =>
  condA v202
  (bnd (pu h202 (loadV G false 1 (.gl 4) h202)) fun v203 h203 =>
  some (.ret, [(nth x192 1), v203, (nth x192 2)], h203))
  (some (.normal, [(nth x192 1), .undef, (nth x192 2)], h202)))
  (some (.normal, [(nth x192 1), .undef, (nth x192 2)], h192)))
  (fun i192 => if i192 = 4 then (some (.normal, [(nth x192 1), .undef, (nth x192 2)], h192)) else (some (.exit i192, [(nth x192 1), .undef, (nth x192 2)], h192)))
  (some (.ret, [(nth x192 1), .undef, (nth x192 2)], h192))))
  (fun i188 => if i188 = 4 then (some (.normal, [(nth x188 1), .undef, (nth x188 2)], h188)) else (some (.exit i188, [(nth x188 1), .undef, (nth x188 2)], h188)))
  (some (.ret, [(nth x188 1), .undef, (nth x188 2)], h188)))))
  (fun i184 => if i184 = 4 then (some (.normal, [(nth x184 1), .undef, (nth x184 2)], h184)) else (some (.exit i184, [(nth x184 1), .undef, (nth x184 2)], h184)))
  (some (.ret, [(nth x184 1), .undef, (nth x184 2)], h184))) fun e204 x204 h204 => exK e204
  (bnd (pu h204 (bin Tryd.prog .geq 2 true (nth x204 2) (.int .i64 0))) fun v205 h205 =>
  bnd (gd v205 true h205 (pu h205 (fieldAddrV 5 (nth x204 0)))) fun v206 h206 =>
  bnd (gd v205 true h206 (pu h206 (loadV G false 1 v206 h206))) fun v207 h207 =>
  bnd (gd v205 true h207 (pu h207 (bin Tryd.prog .lss 2 true v207 (.int .i64 0)))) fun v208 h208 =>
  bnd (gd v205 true h208 (some (v208, h208))) fun v209 h209 =>
  bnd (gd v209 false h209 (pu h209 (fieldAddrV 5 (nth x204 0)))) fun v210 h210 =>
  bnd (gd v209 false h210 (pu h210 (loadV G false 1 v210 h210))) fun v211 h211 =>
  bnd (gd v209 false h211 (some ((nth x204 2), h211))) fun v212 h212 =>
  bnd (gd v209 false h212 (pu h212 (bin Tryd.prog .gtr 2 false v211 v212))) fun v213 h213 =>
  bnd (gd v205 true h213 (pu h213 (pickA v209 (.bool true) v213))) fun v214 h214 =>
  bnd (pu h214 (pickA v205 v214 (.bool false))) fun v215 h215 =>
  condA v215
  (bnd (pu h215 (loadV G false 1 (.gl 1) h215)) fun v216 h216 =>
  finV [v216] h.length h216)
  (finV [.nili] h.length h215))
  (fun i204 => none)
  (finV [(nth x204 1)] h.length h204)) else (none))
  (finV [(nth x128 2)] h.length h128)) else (none))
  (finV [(nth x16 2)] h.length h16)))
noncomputable def words_one.f (G : Globs) : Nat → Den
  | 0 => fun _ _ => none
  | k + 1 => fun args h => arg2 args fun x0 x1 => (words_one.c G k (words_one.f G k) x0 x1 h)
/-! alembic/words.Valid: function 38 -/
noncomputable def words_Valid.ann : Ann := mkAnn [] [] [(6, [1, 2, 33, 34, 35])] []
noncomputable def words_Valid.env (G : Globs) (k : Nat) (self : Den) : List (Nat × Bool × Den) := [(64, true, words_one.f G k)]
noncomputable def words_Valid.l6 (G : Globs) (k n0 : Nat) (self : Den) (lp : LoopF) : LoopF := fun xs h0 => cutK n0 xs h0 fun h =>
  bnd (pu h (bin Tryd.prog .lss 3 false (nth xs 4) (nth xs 3))) fun v26 h26 =>
  condA v26
  (bnd (pu h26 (idxAddrSl 6 (nth xs 2) (nth xs 4))) fun v27 h27 =>
  bnd (pu h27 (loadV G true 6 v27 h27)) fun v28 h28 =>
  bnd (boxA 60 (.agg [(.int .i64 0), (.int .i64 0), (.int .i64 0), (.int .i64 0), (.int .i64 0), (.int .i64 0)]) h28) fun v29 h29 =>
  bnd (stS (storeV 6 v29 v28 h29)) fun v30 h30 =>
  bnd (pu h30 (loadV G true 3 (nth xs 0) h30)) fun v31 h31 =>
  bnd (pu h31 (loadV G true 6 v29 h31)) fun v32 h32 =>
  bnd (pureCall (words_one.f G k) [v31, v32] h32) fun v33 h33 =>
  bnd (pu h33 (bin Tryd.prog .neq 30 true v33 .nili)) fun v34 h34 =>
  condA v34
  (bnd (pu h34 (buildSt [(0, 1), (1, 1)] [(.int .i64 0), .nili] [(0, (nth xs 4)), (1, v33)])) fun v35 h35 =>
  bnd (boxRoA v35 h35) fun v36 h36 =>
  some (.ret, [(nth xs 0), (.iface 133 v36), (nth xs 2), (nth xs 3), (nth xs 4)], h36))
  (bnd (pu h34 (bin Tryd.prog .add 3 true (nth xs 4) (.int .i64 1))) fun v37 h37 =>
  lp [(nth xs 0), (nth xs 1), (nth xs 2), (nth xs 3), v37] h37))
  (some (.exit 1, [(nth xs 0), (nth xs 1), (nth xs 2), (nth xs 3), (nth xs 4)], h26))
noncomputable def words_Valid.c (G : Globs) (k : Nat) (self : Den) (x0 : AV) (h : AHeap) : Option (AV × AHeap) := outV (
  bnd (boxRoA x0 h) fun v0 h0 =>
  bnd (pu h0 (fieldAddrV 0 v0)) fun v1 h1 =>
  bnd (pu h1 (loadV G false 1 v1 h1)) fun v2 h2 =>
  bnd (pu h2 (lenSl v2)) fun v3 h3 =>
  bnd (pu h3 (bin Tryd.prog .gtr 3 true v3 (.int .i64 262144))) fun v4 h4 =>
  condA v4
  (bnd (pu h4 (loadV G false 1 (.gl 0) h4)) fun v5 h5 =>
  finV [v5] h.length h5)
  (bnd (pu h4 (fieldAddrV 1 v0)) fun v6 h6 =>
  bnd (pu h6 (loadV G false 1 v6 h6)) fun v7 h7 =>
  bnd (pu h7 (bin Tryd.prog .lss 3 true v7 (.int .i64 0))) fun v8 h8 =>
  bnd (gd v8 false h8 (pu h8 (fieldAddrV 1 v0))) fun v9 h9 =>
  bnd (gd v8 false h9 (pu h9 (loadV G false 1 v9 h9))) fun v10 h10 =>
  bnd (gd v8 false h10 (pu h10 (bin Tryd.prog .gtr 3 true v10 (.int .i64 65536)))) fun v11 h11 =>
  bnd (pu h11 (pickA v8 (.bool true) v11)) fun v12 h12 =>
  bnd (gd v12 false h12 (pu h12 (fieldAddrV 2 v0))) fun v13 h13 =>
  bnd (gd v12 false h13 (pu h13 (loadV G false 1 v13 h13))) fun v14 h14 =>
  bnd (gd v12 false h14 (pu h14 (bin Tryd.prog .lss 3 true v14 (.int .i64 0)))) fun v15 h15 =>
  bnd (pu h15 (pickA v12 (.bool true) v15)) fun v16 h16 =>
  bnd (gd v16 false h16 (pu h16 (fieldAddrV 2 v0))) fun v17 h17 =>
  bnd (gd v16 false h17 (pu h17 (loadV G false 1 v17 h17))) fun v18 h18 =>
  bnd (gd v16 false h18 (pu h18 (bin Tryd.prog .gtr 3 true v18 (.int .i64 65536)))) fun v19 h19 =>
  bnd (pu h19 (pickA v16 (.bool true) v19)) fun v20 h20 =>
  condA v20
  (bnd (pu h20 (loadV G false 1 (.gl 0) h20)) fun v21 h21 =>
  finV [v21] h.length h21)
  (bnd (pu h20 (fieldAddrV 0 v0)) fun v22 h22 =>
  bnd (pu h22 (loadV G false 1 v22 h22)) fun v23 h23 =>
  bnd (pu h23 (lenSl v23)) fun v24 h24 =>
  thenK (loopN (words_Valid.l6 G k h24.length self) k [v0, .nili, v23, v24, (.int .i64 0)] h24) fun e25 x25 h25 => exK e25
  (finV [.nili] h.length h25)
  (fun i25 => if i25 = 1 then (finV [.nili] h.length h25) else (none))
  (finV [(nth x25 1)] h.length h25))))
noncomputable def words_Valid.f (G : Globs) : Nat → Den
  | 0 => fun _ _ => none
  | k + 1 => fun args h => arg1 args fun x0 => (words_Valid.c G k (words_Valid.f G k) x0 h)
/-! alembic/sel.constant: function 54 -/
noncomputable def sel_constant.ann : Ann := mkAnn [] [4, 5] [(3, [0, 1, 5, 9])] [(10, [0, 1, 5, 6, 7, 8, 9])]
noncomputable def sel_constant.env (G : Globs) (k : Nat) (self : Den) : List (Nat × Bool × Den) := []
noncomputable def sel_constant.l3 (G : Globs) (k n0 : Nat) (self : Den) (lp : LoopF) : LoopF := fun xs h0 => cutK n0 xs h0 fun h =>
  bnd (pu h (bin Tryd.prog .lss 3 true (nth xs 3) (.int .i64 4))) fun v3 h3 =>
  condA v3
  (bnd (pu h3 (convInt .u64 (nth xs 1))) fun v4 h4 =>
  bnd (pu h4 (bin Tryd.prog .mul 3 true (.int .i64 16) (nth xs 3))) fun v5 h5 =>
  bnd (pu h5 (bin Tryd.prog .shr 43 false v4 v5)) fun v6 h6 =>
  bnd (pu h6 (bin Tryd.prog .and 43 true v6 (.int .u64 65535))) fun v7 h7 =>
  bnd (pu h7 (convInt .i64 v7)) fun v8 h8 =>
  bnd (pu h8 (bin Tryd.prog .eql 3 true v8 (.int .i64 0))) fun v9 h9 =>
  condA v9
  (bnd (pu h9 (bin Tryd.prog .add 3 true (nth xs 3) (.int .i64 1))) fun v10 h10 =>
  lp [(nth xs 0), (nth xs 1), (nth xs 2), v10] h10)
  (thenK (
  bnd (pu h9 (lenSl (nth xs 2))) fun v11 h11 =>
  bnd (pu h11 (bin Tryd.prog .eql 3 true v11 (.int .i64 0))) fun v12 h12 =>
  condA v12
  (some (.normal, [(nth xs 0), (nth xs 1), (nth xs 2), (nth xs 3), v8, (.int .i64 1), (nth xs 3)], h12))
  (some (.normal, [(nth xs 0), (nth xs 1), (nth xs 2), (nth xs 3), v8, (.int .i64 2), (nth xs 3)], h12))) fun e13 x13 h13 => exK e13
  (bnd (pu h13 (buildSt [(0, 1), (1, 1), (2, 1), (3, 1), (4, 1), (5, 1)] [(.int .i64 0), (.int .i64 0), (.int .i64 0), (.int .i64 0), (.int .i64 0), (.int .i64 0)] [(0, (nth x13 5)), (1, (nth x13 0)), (4, (nth x13 3)), (5, (nth x13 4))])) fun v14 h14 =>
  bnd (buildRo 6 1 (.agg [(.int .i64 0), (.int .i64 0), (.int .i64 0), (.int .i64 0), (.int .i64 0), (.int .i64 0)]) [(0, v14)] h14) fun v15 h15 =>
  bnd (appendV 57 6 (nth x13 2) v15 h15) fun v16 h16 =>
  bnd (pu h16 (bin Tryd.prog .add 3 true (nth x13 6) (.int .i64 1))) fun v17 h17 =>
  lp [(nth x13 0), (nth x13 1), v16, v17] h17)
  (fun i13 => if i13 = 1 then (bnd (pu h13 (bin Tryd.prog .add 3 true (nth x13 6) (.int .i64 1))) fun v18 h18 =>
  lp [(nth x13 0), (nth x13 1), (nth x13 2), v18] h18) else (some (.exit i13, [(nth x13 0), (nth x13 1), (nth x13 2), (nth x13 6)], h13)))
  (some (.ret, [(nth x13 0), (nth x13 1), (nth x13 2), (nth x13 6)], h13))))
  (some (.exit 0, [(nth xs 0), (nth xs 1), (nth xs 2), (nth xs 3)], h3))
noncomputable def sel_constant.c (G : Globs) (k : Nat) (self : Den) (x0 x1 : AV) (h : AHeap) : Option (AV × AHeap) := outV (
  bnd (some (.sl h.length 0 0 0 6, h ++ [⟨57, 6, []⟩])) fun v0 h0 =>
  bnd (some (.sl h0.length 0 0 0 6, h0 ++ [⟨57, 6, []⟩])) fun v1 h1 =>
  thenK (loopN (sel_constant.l3 G k h1.length self) k [x0, x1, v1, (.int .i64 0)] h1) fun e2 x2 h2 => exK e2
  (bnd (pu h2 (lenSl (nth x2 2))) fun v19 h19 =>
  bnd (pu h19 (bin Tryd.prog .eql 3 true v19 (.int .i64 0))) fun v20 h20 =>
  condA v20
  (bnd (pu h20 (buildSt [(0, 1), (1, 1), (2, 1), (3, 1), (4, 1), (5, 1)] [(.int .i64 0), (.int .i64 0), (.int .i64 0), (.int .i64 0), (.int .i64 0), (.int .i64 0)] [(0, (.int .i64 1)), (1, (nth x2 0))])) fun v21 h21 =>
  bnd (buildRo 6 1 (.agg [(.int .i64 0), (.int .i64 0), (.int .i64 0), (.int .i64 0), (.int .i64 0), (.int .i64 0)]) [(0, v21)] h21) fun v22 h22 =>
  bnd (appendV 57 6 (nth x2 2) v22 h22) fun v23 h23 =>
  finO [v23] h23)
  (finO [(nth x2 2)] h20))
  (fun i2 => if i2 = 0 then (bnd (pu h2 (lenSl (nth x2 2))) fun v24 h24 =>
  bnd (pu h24 (bin Tryd.prog .eql 3 true v24 (.int .i64 0))) fun v25 h25 =>
  condA v25
  (bnd (pu h25 (buildSt [(0, 1), (1, 1), (2, 1), (3, 1), (4, 1), (5, 1)] [(.int .i64 0), (.int .i64 0), (.int .i64 0), (.int .i64 0), (.int .i64 0), (.int .i64 0)] [(0, (.int .i64 1)), (1, (nth x2 0))])) fun v26 h26 =>
  bnd (buildRo 6 1 (.agg [(.int .i64 0), (.int .i64 0), (.int .i64 0), (.int .i64 0), (.int .i64 0), (.int .i64 0)]) [(0, v26)] h26) fun v27 h27 =>
  bnd (appendV 57 6 (nth x2 2) v27 h27) fun v28 h28 =>
  finO [v28] h28)
  (finO [(nth x2 2)] h25)) else (none))
  (finO [.undef] h2))
noncomputable def sel_constant.f (G : Globs) : Nat → Den
  | 0 => fun _ _ => none
  | k + 1 => fun args h => arg2 args fun x0 x1 => (sel_constant.c G k (sel_constant.f G k) x0 x1 h)
/-! (*alembic/sel.maker).put: function 65 -/
noncomputable def sel_maker_put.ann : Ann := mkAnn [] [] [] []
noncomputable def sel_maker_put.env (G : Globs) (k : Nat) (self : Den) : List (Nat × Bool × Den) := []
noncomputable def sel_maker_put.c (G : Globs) (k : Nat) (self : Den) (x0 x1 : AV) (h : AHeap) : Option (AV × AHeap) := outV (
  bnd (pu h (nilA x0)) fun v0 h0 =>
  bnd (pu h0 (fieldAddrV 0 v0)) fun v1 h1 =>
  bnd (pu h1 (loadV G false 1 v1 h1)) fun v2 h2 =>
  bnd (appendV 57 6 v2 x1 h2) fun v3 h3 =>
  bnd (pu h3 (nilA x0)) fun v4 h4 =>
  bnd (pu h4 (fieldAddrV 0 v4)) fun v5 h5 =>
  bnd (stS (storeV 1 v5 v3 h5)) fun v6 h6 =>
  finV [] h.length h6)
noncomputable def sel_maker_put.f (G : Globs) : Nat → Den
  | 0 => fun _ _ => none
  | k + 1 => fun args h => arg2 args fun x0 x1 => (sel_maker_put.c G k (sel_maker_put.f G k) x0 x1 h)
/-! (*alembic/sel.maker).three: function 66 -/
noncomputable def sel_maker_three.ann : Ann := mkAnn [15] [] [] []
noncomputable def sel_maker_three.env (G : Globs) (k : Nat) (self : Den) : List (Nat × Bool × Den) := [(65, false, sel_maker_put.f G k)]
noncomputable def sel_maker_three.c (G : Globs) (k : Nat) (self : Den) (x0 x1 x2 : AV) (h : AHeap) : Option (AV × AHeap) := outV (
  bnd (boxRoA x2 h) fun v0 h0 =>
  bnd (pu h0 (fieldAddrV 1 v0)) fun v1 h1 =>
  bnd (pu h1 (loadV G false 1 v1 h1)) fun v2 h2 =>
  bnd (pu h2 (fieldAddrV 2 v0)) fun v3 h3 =>
  bnd (pu h3 (loadV G false 1 v3 h3)) fun v4 h4 =>
  bnd (pu h4 (fieldAddrV 3 v0)) fun v5 h5 =>
  bnd (pu h5 (loadV G false 1 v5 h5)) fun v6 h6 =>
  bnd (pu h6 (buildSt [(0, 1), (1, 1), (2, 1), (3, 1), (4, 1), (5, 1)] [(.int .i64 0), (.int .i64 0), (.int .i64 0), (.int .i64 0), (.int .i64 0), (.int .i64 0)] [(0, x1), (1, v2), (2, v4), (3, v6)])) fun v7 h7 =>
  bnd (buildOwn 57 6 1 (.agg [(.int .i64 0), (.int .i64 0), (.int .i64 0), (.int .i64 0), (.int .i64 0), (.int .i64 0)]) [(0, v7)] h7) fun v8 h8 =>
  bnd (heapCall (sel_maker_put.f G k) [x0, v8] h8) fun v9 h9 =>
  finV [] h.length h9)
noncomputable def sel_maker_three.f (G : Globs) : Nat → Den
  | 0 => fun _ _ => none
  | k + 1 => fun args h => arg3 args fun x0 x1 x2 => (sel_maker_three.c G k (sel_maker_three.f G k) x0 x1 x2 h)
/-! (*alembic/sel.maker).shift: function 67 -/
noncomputable def sel_maker_shift.ann : Ann := mkAnn [15] [] [] []
noncomputable def sel_maker_shift.env (G : Globs) (k : Nat) (self : Den) : List (Nat × Bool × Den) := [(65, false, sel_maker_put.f G k)]
noncomputable def sel_maker_shift.c (G : Globs) (k : Nat) (self : Den) (x0 x1 x2 : AV) (h : AHeap) : Option (AV × AHeap) := outV (
  bnd (boxRoA x2 h) fun v0 h0 =>
  bnd (pu h0 (fieldAddrV 1 v0)) fun v1 h1 =>
  bnd (pu h1 (loadV G false 1 v1 h1)) fun v2 h2 =>
  bnd (pu h2 (fieldAddrV 2 v0)) fun v3 h3 =>
  bnd (pu h3 (loadV G false 1 v3 h3)) fun v4 h4 =>
  bnd (pu h4 (fieldAddrV 5 v0)) fun v5 h5 =>
  bnd (pu h5 (loadV G false 1 v5 h5)) fun v6 h6 =>
  bnd (pu h6 (buildSt [(0, 1), (1, 1), (2, 1), (3, 1), (4, 1), (5, 1)] [(.int .i64 0), (.int .i64 0), (.int .i64 0), (.int .i64 0), (.int .i64 0), (.int .i64 0)] [(0, x1), (1, v2), (2, v4), (5, v6)])) fun v7 h7 =>
  bnd (buildOwn 57 6 1 (.agg [(.int .i64 0), (.int .i64 0), (.int .i64 0), (.int .i64 0), (.int .i64 0), (.int .i64 0)]) [(0, v7)] h7) fun v8 h8 =>
  bnd (heapCall (sel_maker_put.f G k) [x0, v8] h8) fun v9 h9 =>
  finV [] h.length h9)
noncomputable def sel_maker_shift.f (G : Globs) : Nat → Den
  | 0 => fun _ _ => none
  | k + 1 => fun args h => arg3 args fun x0 x1 x2 => (sel_maker_shift.c G k (sel_maker_shift.f G k) x0 x1 x2 h)
/-! (*alembic/sel.maker).jump: function 69 -/
noncomputable def sel_maker_jump.ann : Ann := mkAnn [24] [] [] []
noncomputable def sel_maker_jump.env (G : Globs) (k : Nat) (self : Den) : List (Nat × Bool × Den) := [(65, false, sel_maker_put.f G k)]
noncomputable def sel_maker_jump.c (G : Globs) (k : Nat) (self : Den) (x0 x1 x2 : AV) (h : AHeap) : Option (AV × AHeap) := outV (
  bnd (boxRoA x1 h) fun v0 h0 =>
  bnd (pu h0 (nilA x0)) fun v1 h1 =>
  bnd (pu h1 (fieldAddrV 2 v1)) fun v2 h2 =>
  bnd (pu h2 (loadV G false 1 v2 h2)) fun v3 h3 =>
  bnd (pu h3 (nilA x0)) fun v4 h4 =>
  bnd (pu h4 (fieldAddrV 0 v4)) fun v5 h5 =>
  bnd (pu h5 (loadV G false 1 v5 h5)) fun v6 h6 =>
  bnd (pu h6 (lenSl v6)) fun v7 h7 =>
  bnd (pu h7 (buildSt [(0, 1), (1, 1)] [(.int .i64 0), (.int .i64 0)] [(0, v7), (1, x2)])) fun v8 h8 =>
  bnd (buildRo 2 1 (.agg [(.int .i64 0), (.int .i64 0)]) [(0, v8)] h8) fun v9 h9 =>
  bnd (appendV 93 2 v3 v9 h9) fun v10 h10 =>
  bnd (pu h10 (nilA x0)) fun v11 h11 =>
  bnd (pu h11 (fieldAddrV 2 v11)) fun v12 h12 =>
  bnd (stS (storeV 1 v12 v10 h12)) fun v13 h13 =>
  bnd (pu h13 (loadV G true 6 v0 h13)) fun v14 h14 =>
  bnd (buildOwn 57 6 1 (.agg [(.int .i64 0), (.int .i64 0), (.int .i64 0), (.int .i64 0), (.int .i64 0), (.int .i64 0)]) [(0, v14)] h14) fun v15 h15 =>
  bnd (heapCall (sel_maker_put.f G k) [x0, v15] h15) fun v16 h16 =>
  finV [] h.length h16)
noncomputable def sel_maker_jump.f (G : Globs) : Nat → Den
  | 0 => fun _ _ => none
  | k + 1 => fun args h => arg3 args fun x0 x1 x2 => (sel_maker_jump.c G k (sel_maker_jump.f G k) x0 x1 x2 h)
/-! (*alembic/sel.maker).touch: function 68 -/
noncomputable def sel_maker_touch.ann : Ann := mkAnn [19, 30, 34, 45] [] [] [(5, [0, 1, 2, 4])]
noncomputable def sel_maker_touch.env (G : Globs) (k : Nat) (self : Den) : List (Nat × Bool × Den) := [(54, false, sel_constant.f G k), (65, false, sel_maker_put.f G k), (69, false, sel_maker_jump.f G k)]
noncomputable def sel_maker_touch.c (G : Globs) (k : Nat) (self : Den) (x0 x1 x2 x3 x4 : AV) (h : AHeap) : Option (AV × AHeap) := outV (
  bnd (boxRoA x3 h) fun v0 h0 =>
  thenK (
  bnd (pu h0 (fieldAddrV 5 v0)) fun v1 h1 =>
  bnd (pu h1 (loadV G false 1 v1 h1)) fun v2 h2 =>
  bnd (pu h2 (bin Tryd.prog .leq 2 true v2 (.int .i64 4095))) fun v3 h3 =>
  condA v3
  (bnd (pu h3 (fieldAddrV 2 v0)) fun v4 h4 =>
  bnd (pu h4 (loadV G false 1 v4 h4)) fun v5 h5 =>
  bnd (pu h5 (fieldAddrV 5 v0)) fun v6 h6 =>
  bnd (pu h6 (loadV G false 1 v6 h6)) fun v7 h7 =>
  bnd (pu h7 (buildSt [(0, 1), (1, 1), (2, 1), (3, 1), (4, 1), (5, 1)] [(.int .i64 0), (.int .i64 0), (.int .i64 0), (.int .i64 0), (.int .i64 0), (.int .i64 0)] [(0, (.int .i64 10)), (1, (.int .i64 28)), (2, v5), (5, v7)])) fun v8 h8 =>
  bnd (buildOwn 57 6 1 (.agg [(.int .i64 0), (.int .i64 0), (.int .i64 0), (.int .i64 0), (.int .i64 0), (.int .i64 0)]) [(0, v8)] h8) fun v9 h9 =>
  bnd (heapCall (sel_maker_put.f G k) [x0, v9] h9) fun v10 h10 =>
  some (.normal, [x0, x1, x2, x4], h10))
  (bnd (pu h3 (fieldAddrV 5 v0)) fun v11 h11 =>
  bnd (pu h11 (loadV G false 1 v11 h11)) fun v12 h12 =>
  bnd (heapCall (sel_constant.f G k) [(.int .i64 28), v12] h12) fun v13 h13 =>
  bnd (heapCall (sel_maker_put.f G k) [x0, v13] h13) fun v14 h14 =>
  bnd (pu h14 (fieldAddrV 2 v0)) fun v15 h15 =>
  bnd (pu h15 (loadV G false 1 v15 h15)) fun v16 h16 =>
  bnd (pu h16 (buildSt [(0, 1), (1, 1), (2, 1), (3, 1), (4, 1), (5, 1)] [(.int .i64 0), (.int .i64 0), (.int .i64 0), (.int .i64 0), (.int .i64 0), (.int .i64 0)] [(0, (.int .i64 3)), (1, (.int .i64 28)), (2, v16), (3, (.int .i64 28))])) fun v17 h17 =>
  bnd (buildOwn 57 6 1 (.agg [(.int .i64 0), (.int .i64 0), (.int .i64 0), (.int .i64 0), (.int .i64 0), (.int .i64 0)]) [(0, v17)] h17) fun v18 h18 =>
  bnd (heapCall (sel_maker_put.f G k) [x0, v18] h18) fun v19 h19 =>
  some (.normal, [x0, x1, x2, x4], h19))) fun e20 x20 h20 => exK e20
  (bnd (pu h20 (buildSt [(0, 1), (1, 1), (2, 1), (3, 1), (4, 1), (5, 1)] [(.int .i64 0), (.int .i64 0), (.int .i64 0), (.int .i64 0), (.int .i64 0), (.int .i64 0)] [(0, (.int .i64 13)), (1, (.int .i64 29)), (2, (.int .i64 28)), (5, (.int .i64 16))])) fun v21 h21 =>
  bnd (buildOwn 57 6 1 (.agg [(.int .i64 0), (.int .i64 0), (.int .i64 0), (.int .i64 0), (.int .i64 0), (.int .i64 0)]) [(0, v21)] h21) fun v22 h22 =>
  bnd (heapCall (sel_maker_put.f G k) [(nth x20 0), v22] h22) fun v23 h23 =>
  bnd (pu h23 (buildSt [(0, 1), (1, 1), (2, 1), (3, 1), (4, 1), (5, 1)] [(.int .i64 0), (.int .i64 0), (.int .i64 0), (.int .i64 0), (.int .i64 0), (.int .i64 0)] [(0, (.int .i64 23)), (1, (.int .i64 29))])) fun v24 h24 =>
  bnd (heapCall (sel_maker_jump.f G k) [(nth x20 0), v24, (nth x20 3)] h24) fun v25 h25 =>
  bnd (pu h25 (buildSt [(0, 1), (1, 1), (2, 1), (3, 1), (4, 1), (5, 1)] [(.int .i64 0), (.int .i64 0), (.int .i64 0), (.int .i64 0), (.int .i64 0), (.int .i64 0)] [(0, (.int .i64 12)), (1, (.int .i64 28)), (2, (.int .i64 28)), (5, (.int .i64 3))])) fun v26 h26 =>
  bnd (pu h26 (buildSt [(0, 1), (1, 1), (2, 1), (3, 1), (4, 1), (5, 1)] [(.int .i64 0), (.int .i64 0), (.int .i64 0), (.int .i64 0), (.int .i64 0), (.int .i64 0)] [(0, (nth x20 1)), (1, (nth x20 2)), (2, (.int .i64 28))])) fun v27 h27 =>
  bnd (buildOwn 57 6 2 (.agg [(.int .i64 0), (.int .i64 0), (.int .i64 0), (.int .i64 0), (.int .i64 0), (.int .i64 0)]) [(0, v26), (1, v27)] h27) fun v28 h28 =>
  bnd (heapCall (sel_maker_put.f G k) [(nth x20 0), v28] h28) fun v29 h29 =>
  finV [] h.length h29)
  (fun i20 => none)
  (finV [] h.length h20))
noncomputable def sel_maker_touch.f (G : Globs) : Nat → Den
  | 0 => fun _ _ => none
  | k + 1 => fun args h => arg5 args fun x0 x1 x2 x3 x4 => (sel_maker_touch.c G k (sel_maker_touch.f G k) x0 x1 x2 x3 x4 h)
/-! (*alembic/sel.maker).one: function 39 -/
noncomputable def sel_maker_one.ann : Ann := mkAnn [25, 47, 95, 110, 159] [] [] []
noncomputable def sel_maker_one.env (G : Globs) (k : Nat) (self : Den) : List (Nat × Bool × Den) := [(54, false, sel_constant.f G k), (65, false, sel_maker_put.f G k), (66, false, sel_maker_three.f G k), (67, false, sel_maker_shift.f G k), (68, false, sel_maker_touch.f G k), (69, false, sel_maker_jump.f G k)]
noncomputable def sel_maker_one.c (G : Globs) (k : Nat) (self : Den) (x0 x1 x2 : AV) (h : AHeap) : Option (AV × AHeap) := outV (
  bnd (boxRoA x1 h) fun v0 h0 =>
  bnd (pu h0 (fieldAddrV 0 v0)) fun v1 h1 =>
  bnd (pu h1 (loadV G false 1 v1 h1)) fun v2 h2 =>
  bnd (pu h2 (bin Tryd.prog .eql 3 true v2 (.int .i64 1))) fun v3 h3 =>
  condA v3
  (bnd (pu h3 (fieldAddrV 1 v0)) fun v4 h4 =>
  bnd (pu h4 (loadV G false 1 v4 h4)) fun v5 h5 =>
  bnd (pu h5 (fieldAddrV 5 v0)) fun v6 h6 =>
  bnd (pu h6 (loadV G false 1 v6 h6)) fun v7 h7 =>
  bnd (heapCall (sel_constant.f G k) [v5, v7] h7) fun v8 h8 =>
  bnd (heapCall (sel_maker_put.f G k) [x0, v8] h8) fun v9 h9 =>
  finV [] h.length h9)
  (bnd (pu h3 (bin Tryd.prog .eql 3 true v2 (.int .i64 2))) fun v10 h10 =>
  condA v10
  (bnd (pu h10 (fieldAddrV 1 v0)) fun v11 h11 =>
  bnd (pu h11 (loadV G false 1 v11 h11)) fun v12 h12 =>
  bnd (pu h12 (fieldAddrV 2 v0)) fun v13 h13 =>
  bnd (pu h13 (loadV G false 1 v13 h13)) fun v14 h14 =>
  bnd (pu h14 (buildSt [(0, 1), (1, 1), (2, 1), (3, 1), (4, 1), (5, 1)] [(.int .i64 0), (.int .i64 0), (.int .i64 0), (.int .i64 0), (.int .i64 0), (.int .i64 0)] [(0, (.int .i64 6)), (1, v12), (2, v14), (3, (.int .i64 31))])) fun v15 h15 =>
  bnd (buildOwn 57 6 1 (.agg [(.int .i64 0), (.int .i64 0), (.int .i64 0), (.int .i64 0), (.int .i64 0), (.int .i64 0)]) [(0, v15)] h15) fun v16 h16 =>
  bnd (heapCall (sel_maker_put.f G k) [x0, v16] h16) fun v17 h17 =>
  finV [] h.length h17)
  (bnd (pu h10 (bin Tryd.prog .eql 3 true v2 (.int .i64 3))) fun v18 h18 =>
  condA v18
  (bnd (pu h18 (loadV G true 6 v0 h18)) fun v19 h19 =>
  bnd (heapCall (sel_maker_three.f G k) [x0, (.int .i64 3), v19] h19) fun v20 h20 =>
  finV [] h.length h20)
  (bnd (pu h18 (bin Tryd.prog .eql 3 true v2 (.int .i64 4))) fun v21 h21 =>
  condA v21
  (bnd (pu h21 (loadV G true 6 v0 h21)) fun v22 h22 =>
  bnd (heapCall (sel_maker_three.f G k) [x0, (.int .i64 4), v22] h22) fun v23 h23 =>
  finV [] h.length h23)
  (bnd (pu h21 (bin Tryd.prog .eql 3 true v2 (.int .i64 5))) fun v24 h24 =>
  condA v24
  (bnd (pu h24 (fieldAddrV 1 v0)) fun v25 h25 =>
  bnd (pu h25 (loadV G false 1 v25 h25)) fun v26 h26 =>
  bnd (pu h26 (fieldAddrV 2 v0)) fun v27 h27 =>
  bnd (pu h27 (loadV G false 1 v27 h27)) fun v28 h28 =>
  bnd (pu h28 (fieldAddrV 3 v0)) fun v29 h29 =>
  bnd (pu h29 (loadV G false 1 v29 h29)) fun v30 h30 =>
  bnd (pu h30 (buildSt [(0, 1), (1, 1), (2, 1), (3, 1), (4, 1), (5, 1)] [(.int .i64 0), (.int .i64 0), (.int .i64 0), (.int .i64 0), (.int .i64 0), (.int .i64 0)] [(0, (.int .i64 8)), (1, v26), (2, v28), (3, v30), (4, (.int .i64 31))])) fun v31 h31 =>
  bnd (buildOwn 57 6 1 (.agg [(.int .i64 0), (.int .i64 0), (.int .i64 0), (.int .i64 0), (.int .i64 0), (.int .i64 0)]) [(0, v31)] h31) fun v32 h32 =>
  bnd (heapCall (sel_maker_put.f G k) [x0, v32] h32) fun v33 h33 =>
  finV [] h.length h33)
  (bnd (pu h24 (bin Tryd.prog .eql 3 true v2 (.int .i64 6))) fun v34 h34 =>
  condA v34
  (bnd (pu h34 (loadV G true 6 v0 h34)) fun v35 h35 =>
  bnd (heapCall (sel_maker_three.f G k) [x0, (.int .i64 9), v35] h35) fun v36 h36 =>
  finV [] h.length h36)
  (bnd (pu h34 (bin Tryd.prog .eql 3 true v2 (.int .i64 7))) fun v37 h37 =>
  condA v37
  (bnd (pu h37 (loadV G true 6 v0 h37)) fun v38 h38 =>
  bnd (heapCall (sel_maker_three.f G k) [x0, (.int .i64 5), v38] h38) fun v39 h39 =>
  finV [] h.length h39)
  (bnd (pu h37 (bin Tryd.prog .eql 3 true v2 (.int .i64 8))) fun v40 h40 =>
  condA v40
  (bnd (pu h40 (loadV G true 6 v0 h40)) fun v41 h41 =>
  bnd (heapCall (sel_maker_three.f G k) [x0, (.int .i64 6), v41] h41) fun v42 h42 =>
  finV [] h.length h42)
  (bnd (pu h40 (bin Tryd.prog .eql 3 true v2 (.int .i64 9))) fun v43 h43 =>
  condA v43
  (bnd (pu h43 (loadV G true 6 v0 h43)) fun v44 h44 =>
  bnd (heapCall (sel_maker_three.f G k) [x0, (.int .i64 7), v44] h44) fun v45 h45 =>
  finV [] h.length h45)
  (bnd (pu h43 (bin Tryd.prog .eql 3 true v2 (.int .i64 10))) fun v46 h46 =>
  condA v46
  (bnd (pu h46 (loadV G true 6 v0 h46)) fun v47 h47 =>
  bnd (heapCall (sel_maker_shift.f G k) [x0, (.int .i64 12), v47] h47) fun v48 h48 =>
  finV [] h.length h48)
  (bnd (pu h46 (bin Tryd.prog .eql 3 true v2 (.int .i64 11))) fun v49 h49 =>
  condA v49
  (bnd (pu h49 (loadV G true 6 v0 h49)) fun v50 h50 =>
  bnd (heapCall (sel_maker_shift.f G k) [x0, (.int .i64 13), v50] h50) fun v51 h51 =>
  finV [] h.length h51)
  (bnd (pu h49 (bin Tryd.prog .eql 3 true v2 (.int .i64 12))) fun v52 h52 =>
  condA v52
  (bnd (pu h52 (loadV G true 6 v0 h52)) fun v53 h53 =>
  bnd (heapCall (sel_maker_shift.f G k) [x0, (.int .i64 14), v53] h53) fun v54 h54 =>
  finV [] h.length h54)
  (bnd (pu h52 (bin Tryd.prog .eql 3 true v2 (.int .i64 13))) fun v55 h55 =>
  condA v55
  (bnd (pu h55 (fieldAddrV 2 v0)) fun v56 h56 =>
  bnd (pu h56 (loadV G false 1 v56 h56)) fun v57 h57 =>
  bnd (pu h57 (fieldAddrV 3 v0)) fun v58 h58 =>
  bnd (pu h58 (loadV G false 1 v58 h58)) fun v59 h59 =>
  bnd (pu h59 (buildSt [(0, 1), (1, 1), (2, 1), (3, 1), (4, 1), (5, 1)] [(.int .i64 0), (.int .i64 0), (.int .i64 0), (.int .i64 0), (.int .i64 0), (.int .i64 0)] [(0, (.int .i64 15)), (2, v57), (3, v59)])) fun v60 h60 =>
  bnd (pu h60 (fieldAddrV 1 v0)) fun v61 h61 =>
  bnd (pu h61 (loadV G false 1 v61 h61)) fun v62 h62 =>
  bnd (pu h62 (buildSt [(0, 1), (1, 1), (2, 1), (3, 1), (4, 1), (5, 1)] [(.int .i64 0), (.int .i64 0), (.int .i64 0), (.int .i64 0), (.int .i64 0), (.int .i64 0)] [(0, (.int .i64 17)), (1, v62), (4, (.int .i64 3))])) fun v63 h63 =>
  bnd (buildOwn 57 6 2 (.agg [(.int .i64 0), (.int .i64 0), (.int .i64 0), (.int .i64 0), (.int .i64 0), (.int .i64 0)]) [(0, v60), (1, v63)] h63) fun v64 h64 =>
  bnd (heapCall (sel_maker_put.f G k) [x0, v64] h64) fun v65 h65 =>
  finV [] h.length h65)
  (bnd (pu h55 (bin Tryd.prog .eql 3 true v2 (.int .i64 14))) fun v66 h66 =>
  condA v66
  (bnd (pu h66 (fieldAddrV 2 v0)) fun v67 h67 =>
  bnd (pu h67 (loadV G false 1 v67 h67)) fun v68 h68 =>
  bnd (pu h68 (buildSt [(0, 1), (1, 1), (2, 1), (3, 1), (4, 1), (5, 1)] [(.int .i64 0), (.int .i64 0), (.int .i64 0), (.int .i64 0), (.int .i64 0), (.int .i64 0)] [(0, (.int .i64 15)), (2, v68), (3, (.int .i64 31))])) fun v69 h69 =>
  bnd (pu h69 (fieldAddrV 1 v0)) fun v70 h70 =>
  bnd (pu h70 (loadV G false 1 v70 h70)) fun v71 h71 =>
  bnd (pu h71 (fieldAddrV 3 v0)) fun v72 h72 =>
  bnd (pu h72 (loadV G false 1 v72 h72)) fun v73 h73 =>
  bnd (pu h73 (fieldAddrV 4 v0)) fun v74 h74 =>
  bnd (pu h74 (loadV G false 1 v74 h74)) fun v75 h75 =>
  bnd (pu h75 (buildSt [(0, 1), (1, 1), (2, 1), (3, 1), (4, 1), (5, 1)] [(.int .i64 0), (.int .i64 0), (.int .i64 0), (.int .i64 0), (.int .i64 0), (.int .i64 0)] [(0, (.int .i64 16)), (1, v71), (2, v73), (3, v75), (4, (.int .i64 1))])) fun v76 h76 =>
  bnd (buildOwn 57 6 2 (.agg [(.int .i64 0), (.int .i64 0), (.int .i64 0), (.int .i64 0), (.int .i64 0), (.int .i64 0)]) [(0, v69), (1, v76)] h76) fun v77 h77 =>
  bnd (heapCall (sel_maker_put.f G k) [x0, v77] h77) fun v78 h78 =>
  finV [] h.length h78)
  (bnd (pu h66 (bin Tryd.prog .eql 3 true v2 (.int .i64 15))) fun v79 h79 =>
  condA v79
  (bnd (pu h79 (fieldAddrV 1 v0)) fun v80 h80 =>
  bnd (pu h80 (loadV G false 1 v80 h80)) fun v81 h81 =>
  bnd (pu h81 (loadV G true 6 v0 h81)) fun v82 h82 =>
  bnd (heapCall (sel_maker_touch.f G k) [x0, (.int .i64 18), v81, v82, x2] h82) fun v83 h83 =>
  finV [] h.length h83)
  (bnd (pu h79 (bin Tryd.prog .eql 3 true v2 (.int .i64 16))) fun v84 h84 =>
  condA v84
  (bnd (pu h84 (fieldAddrV 3 v0)) fun v85 h85 =>
  bnd (pu h85 (loadV G false 1 v85 h85)) fun v86 h86 =>
  bnd (pu h86 (loadV G true 6 v0 h86)) fun v87 h87 =>
  bnd (heapCall (sel_maker_touch.f G k) [x0, (.int .i64 19), v86, v87, x2] h87) fun v88 h88 =>
  finV [] h.length h88)
  (bnd (pu h84 (bin Tryd.prog .eql 3 true v2 (.int .i64 17))) fun v89 h89 =>
  condA v89
  (bnd (pu h89 (buildSt [(0, 1), (1, 1), (2, 1), (3, 1), (4, 1), (5, 1)] [(.int .i64 0), (.int .i64 0), (.int .i64 0), (.int .i64 0), (.int .i64 0), (.int .i64 0)] [(0, (.int .i64 20))])) fun v90 h90 =>
  bnd (pu h90 (fieldAddrV 5 v0)) fun v91 h91 =>
  bnd (pu h91 (loadV G false 1 v91 h91)) fun v92 h92 =>
  bnd (heapCall (sel_maker_jump.f G k) [x0, v90, v92] h92) fun v93 h93 =>
  finV [] h.length h93)
  (bnd (pu h89 (bin Tryd.prog .eql 3 true v2 (.int .i64 18))) fun v94 h94 =>
  condA v94
  (bnd (pu h94 (fieldAddrV 2 v0)) fun v95 h95 =>
  bnd (pu h95 (loadV G false 1 v95 h95)) fun v96 h96 =>
  bnd (pu h96 (buildSt [(0, 1), (1, 1), (2, 1), (3, 1), (4, 1), (5, 1)] [(.int .i64 0), (.int .i64 0), (.int .i64 0), (.int .i64 0), (.int .i64 0), (.int .i64 0)] [(0, (.int .i64 22)), (1, v96)])) fun v97 h97 =>
  bnd (pu h97 (fieldAddrV 5 v0)) fun v98 h98 =>
  bnd (pu h98 (loadV G false 1 v98 h98)) fun v99 h99 =>
  bnd (heapCall (sel_maker_jump.f G k) [x0, v97, v99] h99) fun v100 h100 =>
  finV [] h.length h100)
  (bnd (pu h94 (bin Tryd.prog .eql 3 true v2 (.int .i64 19))) fun v101 h101 =>
  condA v101
  (bnd (pu h101 (fieldAddrV 2 v0)) fun v102 h102 =>
  bnd (pu h102 (loadV G false 1 v102 h102)) fun v103 h103 =>
  bnd (pu h103 (buildSt [(0, 1), (1, 1), (2, 1), (3, 1), (4, 1), (5, 1)] [(.int .i64 0), (.int .i64 0), (.int .i64 0), (.int .i64 0), (.int .i64 0), (.int .i64 0)] [(0, (.int .i64 23)), (1, v103)])) fun v104 h104 =>
  bnd (pu h104 (fieldAddrV 5 v0)) fun v105 h105 =>
  bnd (pu h105 (loadV G false 1 v105 h105)) fun v106 h106 =>
  bnd (heapCall (sel_maker_jump.f G k) [x0, v104, v106] h106) fun v107 h107 =>
  finV [] h.length h107)
  (bnd (pu h101 (bin Tryd.prog .eql 3 true v2 (.int .i64 20))) fun v108 h108 =>
  condA v108
  (bnd (pu h108 (fieldAddrV 5 v0)) fun v109 h109 =>
  bnd (pu h109 (loadV G false 1 v109 h109)) fun v110 h110 =>
  bnd (pu h110 (buildSt [(0, 1), (1, 1), (2, 1), (3, 1), (4, 1), (5, 1)] [(.int .i64 0), (.int .i64 0), (.int .i64 0), (.int .i64 0), (.int .i64 0), (.int .i64 0)] [(0, (.int .i64 24)), (5, v110)])) fun v111 h111 =>
  bnd (buildOwn 57 6 1 (.agg [(.int .i64 0), (.int .i64 0), (.int .i64 0), (.int .i64 0), (.int .i64 0), (.int .i64 0)]) [(0, v111)] h111) fun v112 h112 =>
  bnd (heapCall (sel_maker_put.f G k) [x0, v112] h112) fun v113 h113 =>
  finV [] h.length h113)
  (finV [] h.length h108)))))))))))))))))))))
noncomputable def sel_maker_one.f (G : Globs) : Nat → Den
  | 0 => fun _ _ => none
  | k + 1 => fun args h => arg3 args fun x0 x1 x2 => (sel_maker_one.c G k (sel_maker_one.f G k) x0 x1 x2 h)
/-! alembic/sel.Select: function 17 -/
noncomputable def sel_Select.ann : Ann := mkAnnV [25] [2, 10] [(23, [2, 3, 10, 107, 108, 109]), (15, [5, 71, 72, 73]), (8, [1, 5, 27, 28, 29])] [] [(8, [(5, 0, 57, 6), (5, 1, 3, 1), (5, 2, 93, 2)]), (15, [(5, 0, 57, 6), (5, 1, 3, 1), (5, 2, 93, 2)])] []
noncomputable def sel_Select.env (G : Globs) (k : Nat) (self : Den) : List (Nat × Bool × Den) := [(38, true, words_Valid.f G k), (39, false, sel_maker_one.f G k), (40, true, isa_Word.f G k)]
noncomputable def sel_Select.l8 (G : Globs) (k n0 : Nat) (self : Den) (lp : LoopF) : LoopF := fun xs h0 => cutK n0 xs h0 fun h =>
  bnd (pu h (bin Tryd.prog .lss 3 false (nth xs 4) (nth xs 3))) fun v17 h17 =>
  condA v17
  (bnd (pu h17 (idxAddrSl 6 (nth xs 2) (nth xs 4))) fun v18 h18 =>
  bnd (pu h18 (loadV G true 6 v18 h18)) fun v19 h19 =>
  bnd (boxA 60 (.agg [(.int .i64 0), (.int .i64 0), (.int .i64 0), (.int .i64 0), (.int .i64 0), (.int .i64 0)]) h19) fun v20 h20 =>
  bnd (stS (storeV 6 v20 v19 h20)) fun v21 h21 =>
  bnd (pu h21 (nilA (nth xs 1))) fun v22 h22 =>
  bnd (pu h22 (fieldAddrV 1 v22)) fun v23 h23 =>
  bnd (pu h23 (loadV G false 1 v23 h23)) fun v24 h24 =>
  bnd (pu h24 (nilA (nth xs 1))) fun v25 h25 =>
  bnd (pu h25 (fieldAddrV 0 v25)) fun v26 h26 =>
  bnd (pu h26 (loadV G false 1 v26 h26)) fun v27 h27 =>
  bnd (pu h27 (lenSl v27)) fun v28 h28 =>
  bnd (buildRo 1 1 (.int .i64 0) [(0, v28)] h28) fun v29 h29 =>
  bnd (appendV 3 1 v24 v29 h29) fun v30 h30 =>
  bnd (pu h30 (nilA (nth xs 1))) fun v31 h31 =>
  bnd (pu h31 (fieldAddrV 1 v31)) fun v32 h32 =>
  bnd (stS (storeV 1 v32 v30 h32)) fun v33 h33 =>
  bnd (pu h33 (loadV G true 6 v20 h33)) fun v34 h34 =>
  bnd (pu h34 (fieldAddrV 0 (nth xs 0))) fun v35 h35 =>
  bnd (pu h35 (loadV G false 1 v35 h35)) fun v36 h36 =>
  bnd (pu h36 (lenSl v36)) fun v37 h37 =>
  bnd (heapCall (sel_maker_one.f G k) [(nth xs 1), v34, v37] h37) fun v38 h38 =>
  bnd (pu h38 (bin Tryd.prog .add 3 true (nth xs 4) (.int .i64 1))) fun v39 h39 =>
  lp [(nth xs 0), (nth xs 1), (nth xs 2), (nth xs 3), v39] h39)
  (some (.exit 0, [(nth xs 0), (nth xs 1), (nth xs 2), (nth xs 3), (nth xs 4)], h17))
noncomputable def sel_Select.l15 (G : Globs) (k n0 : Nat) (self : Den) (lp : LoopF) : LoopF := fun xs h0 => cutK n0 xs h0 fun h =>
  bnd (pu h (bin Tryd.prog .lss 3 false (nth xs 3) (nth xs 2))) fun v57 h57 =>
  condA v57
  (bnd (pu h57 (idxAddrSl 2 (nth xs 1) (nth xs 3))) fun v58 h58 =>
  bnd (pu h58 (loadV G true 2 v58 h58)) fun v59 h59 =>
  bnd (boxA 93 (.agg [(.int .i64 0), (.int .i64 0)]) h59) fun v60 h60 =>
  bnd (stS (storeV 2 v60 v59 h60)) fun v61 h61 =>
  bnd (pu h61 (nilA (nth xs 0))) fun v62 h62 =>
  bnd (pu h62 (fieldAddrV 0 v62)) fun v63 h63 =>
  bnd (pu h63 (loadV G false 1 v63 h63)) fun v64 h64 =>
  bnd (pu h64 (fieldAddrV 0 v60)) fun v65 h65 =>
  bnd (pu h65 (loadV G false 1 v65 h65)) fun v66 h66 =>
  bnd (pu h66 (nilA (nth xs 0))) fun v67 h67 =>
  bnd (pu h67 (fieldAddrV 1 v67)) fun v68 h68 =>
  bnd (pu h68 (loadV G false 1 v68 h68)) fun v69 h69 =>
  bnd (pu h69 (fieldAddrV 1 v60)) fun v70 h70 =>
  bnd (pu h70 (loadV G false 1 v70 h70)) fun v71 h71 =>
  bnd (pu h71 (idxAddrSl 1 v69 v71)) fun v72 h72 =>
  bnd (pu h72 (loadV G false 1 v72 h72)) fun v73 h73 =>
  bnd (pu h73 (fieldAddrV 0 v60)) fun v74 h74 =>
  bnd (pu h74 (loadV G false 1 v74 h74)) fun v75 h75 =>
  bnd (pu h75 (bin Tryd.prog .sub 3 false v73 v75)) fun v76 h76 =>
  bnd (pu h76 (idxAddrSl 6 v64 v66)) fun v77 h77 =>
  bnd (pu h77 (fieldAddrV 5 v77)) fun v78 h78 =>
  bnd (stS (storeV 1 v78 v76 h78)) fun v79 h79 =>
  bnd (pu h79 (bin Tryd.prog .add 3 true (nth xs 3) (.int .i64 1))) fun v80 h80 =>
  lp [(nth xs 0), (nth xs 1), (nth xs 2), v80] h80)
  (some (.exit 2, [(nth xs 0), (nth xs 1), (nth xs 2), (nth xs 3)], h57))
noncomputable def sel_Select.l23 (G : Globs) (k n0 : Nat) (self : Den) (lp : LoopF) : LoopF := fun xs h0 => cutK n0 xs h0 fun h =>
  bnd (pu h (bin Tryd.prog .lss 3 false (nth xs 5) (nth xs 4))) fun v94 h94 =>
  condA v94
  (bnd (pu h94 (idxAddrSl 6 (nth xs 3) (nth xs 5))) fun v95 h95 =>
  bnd (pu h95 (loadV G true 6 v95 h95)) fun v96 h96 =>
  bnd (boxA 57 (.agg [(.int .i64 0), (.int .i64 0), (.int .i64 0), (.int .i64 0), (.int .i64 0), (.int .i64 0)]) h96) fun v97 h97 =>
  bnd (stS (storeV 6 v97 v96 h97)) fun v98 h98 =>
  bnd (pu h98 (loadV G true 6 v97 h98)) fun v99 h99 =>
  bnd (pureCall (isa_Word.f G k) [v99] h99) fun v100 h100 =>
  bnd (pu h100 (extractA v100 0)) fun v101 h101 =>
  bnd (pu h101 (extractA v100 1)) fun v102 h102 =>
  bnd (pu h102 (un .not v102)) fun v103 h103 =>
  condA v103
  (bnd (pu h103 (loadV G false 1 (.gl 0) h103)) fun v104 h104 =>
  bnd (some (.sl h104.length 0 0 0 1, h104 ++ [⟨71, 1, []⟩])) fun v105 h105 =>
  some (.ret, [v105, v104, (nth xs 2), (nth xs 3), (nth xs 4), (nth xs 5)], h105))
  (bnd (buildRo 1 1 (.int .u32 0) [(0, v101)] h103) fun v106 h106 =>
  bnd (appendV 71 1 (nth xs 2) v106 h106) fun v107 h107 =>
  bnd (pu h107 (bin Tryd.prog .add 3 true (nth xs 5) (.int .i64 1))) fun v108 h108 =>
  lp [(nth xs 0), (nth xs 1), v107, (nth xs 3), (nth xs 4), v108] h108))
  (some (.exit 4, [(nth xs 0), (nth xs 1), (nth xs 2), (nth xs 3), (nth xs 4), (nth xs 5)], h94))
noncomputable def sel_Select.c (G : Globs) (k : Nat) (self : Den) (x0 : AV) (h : AHeap) : Option (AV × AHeap) := outV (
  bnd (boxRoA x0 h) fun v0 h0 =>
  bnd (some (.sl h0.length 0 0 0 1, h0 ++ [⟨71, 1, []⟩])) fun v1 h1 =>
  bnd (pu h1 (loadV G true 3 v0 h1)) fun v2 h2 =>
  bnd (pureCall (words_Valid.f G k) [v2] h2) fun v3 h3 =>
  bnd (pu h3 (bin Tryd.prog .neq 30 true v3 .nili)) fun v4 h4 =>
  condA v4
  (bnd (some (.sl h4.length 0 0 0 1, h4 ++ [⟨71, 1, []⟩])) fun v5 h5 =>
  finV [v5, v3] h.length h5)
  (bnd (pu h4 (fieldAddrV 1 v0)) fun v6 h6 =>
  bnd (pu h6 (loadV G false 1 v6 h6)) fun v7 h7 =>
  bnd (pu h7 (bin Tryd.prog .gtr 3 true v7 (.int .i64 28))) fun v8 h8 =>
  condA v8
  (bnd (pu h8 (loadV G false 1 (.gl 0) h8)) fun v9 h9 =>
  bnd (some (.sl h9.length 0 0 0 1, h9 ++ [⟨71, 1, []⟩])) fun v10 h10 =>
  finV [v10, v9] h.length h10)
  (bnd (pu h8 (buildSt [(0, 1), (1, 1), (2, 1)] [.nils, .nils, .nils] [])) fun v11 h11 =>
  bnd (boxA 90 v11 h11) fun v12 h12 =>
  bnd (pu h12 (fieldAddrV 0 v0)) fun v13 h13 =>
  bnd (pu h13 (loadV G false 1 v13 h13)) fun v14 h14 =>
  bnd (pu h14 (lenSl v14)) fun v15 h15 =>
  vK [(v12, 0, 57, 6), (v12, 1, 3, 1), (v12, 2, 93, 2)] h15 fun hv16 =>
  thenK (loopN (sel_Select.l8 G k hv16.length self) k [v0, v12, v14, v15, (.int .i64 0)] hv16) fun e16 x16 h16 => exK e16
  (bnd (pu h16 (nilA (nth x16 1))) fun v40 h40 =>
  bnd (pu h40 (fieldAddrV 1 v40)) fun v41 h41 =>
  bnd (pu h41 (loadV G false 1 v41 h41)) fun v42 h42 =>
  bnd (pu h42 (nilA (nth x16 1))) fun v43 h43 =>
  bnd (pu h43 (fieldAddrV 0 v43)) fun v44 h44 =>
  bnd (pu h44 (loadV G false 1 v44 h44)) fun v45 h45 =>
  bnd (pu h45 (lenSl v45)) fun v46 h46 =>
  bnd (buildRo 1 1 (.int .i64 0) [(0, v46)] h46) fun v47 h47 =>
  bnd (appendV 3 1 v42 v47 h47) fun v48 h48 =>
  bnd (pu h48 (nilA (nth x16 1))) fun v49 h49 =>
  bnd (pu h49 (fieldAddrV 1 v49)) fun v50 h50 =>
  bnd (stS (storeV 1 v50 v48 h50)) fun v51 h51 =>
  bnd (pu h51 (nilA (nth x16 1))) fun v52 h52 =>
  bnd (pu h52 (fieldAddrV 2 v52)) fun v53 h53 =>
  bnd (pu h53 (loadV G false 1 v53 h53)) fun v54 h54 =>
  bnd (pu h54 (lenSl v54)) fun v55 h55 =>
  vK [((nth x16 1), 0, 57, 6), ((nth x16 1), 1, 3, 1), ((nth x16 1), 2, 93, 2)] h55 fun hv56 =>
  thenK (loopN (sel_Select.l15 G k hv56.length self) k [(nth x16 1), v54, v55, (.int .i64 0)] hv56) fun e56 x56 h56 => exK e56
  (bnd (pu h56 (nilA (nth x56 0))) fun v81 h81 =>
  bnd (pu h81 (fieldAddrV 0 v81)) fun v82 h82 =>
  bnd (pu h82 (loadV G false 1 v82 h82)) fun v83 h83 =>
  bnd (pu h83 (lenSl v83)) fun v84 h84 =>
  bnd (pu h84 (bin Tryd.prog .gtr 3 true v84 (.int .i64 262144))) fun v85 h85 =>
  condA v85
  (bnd (pu h85 (loadV G false 1 (.gl 0) h85)) fun v86 h86 =>
  bnd (some (.sl h86.length 0 0 0 1, h86 ++ [⟨71, 1, []⟩])) fun v87 h87 =>
  finV [v87, v86] h.length h87)
  (bnd (some (.sl h85.length 0 0 0 1, h85 ++ [⟨71, 1, []⟩])) fun v88 h88 =>
  bnd (pu h88 (nilA (nth x56 0))) fun v89 h89 =>
  bnd (pu h89 (fieldAddrV 0 v89)) fun v90 h90 =>
  bnd (pu h90 (loadV G false 1 v90 h90)) fun v91 h91 =>
  bnd (pu h91 (lenSl v91)) fun v92 h92 =>
  thenK (loopN (sel_Select.l23 G k h92.length self) k [.undef, .undef, v88, v91, v92, (.int .i64 0)] h92) fun e93 x93 h93 => exK e93
  (finV [(nth x93 2), .nili] h.length h93)
  (fun i93 => if i93 = 4 then (finV [(nth x93 2), .nili] h.length h93) else (none))
  (finV [(nth x93 0), (nth x93 1)] h.length h93)))
  (fun i56 => if i56 = 2 then (bnd (pu h56 (nilA (nth x56 0))) fun v109 h109 =>
  bnd (pu h109 (fieldAddrV 0 v109)) fun v110 h110 =>
  bnd (pu h110 (loadV G false 1 v110 h110)) fun v111 h111 =>
  bnd (pu h111 (lenSl v111)) fun v112 h112 =>
  bnd (pu h112 (bin Tryd.prog .gtr 3 true v112 (.int .i64 262144))) fun v113 h113 =>
  condA v113
  (bnd (pu h113 (loadV G false 1 (.gl 0) h113)) fun v114 h114 =>
  bnd (some (.sl h114.length 0 0 0 1, h114 ++ [⟨71, 1, []⟩])) fun v115 h115 =>
  finV [v115, v114] h.length h115)
  (bnd (some (.sl h113.length 0 0 0 1, h113 ++ [⟨71, 1, []⟩])) fun v116 h116 =>
  bnd (pu h116 (nilA (nth x56 0))) fun v117 h117 =>
  bnd (pu h117 (fieldAddrV 0 v117)) fun v118 h118 =>
  bnd (pu h118 (loadV G false 1 v118 h118)) fun v119 h119 =>
  bnd (pu h119 (lenSl v119)) fun v120 h120 =>
  thenK (loopN (sel_Select.l23 G k h120.length self) k [.undef, .undef, v116, v119, v120, (.int .i64 0)] h120) fun e121 x121 h121 => exK e121
  (finV [(nth x121 2), .nili] h.length h121)
  (fun i121 => if i121 = 4 then (finV [(nth x121 2), .nili] h.length h121) else (none))
  (finV [(nth x121 0), (nth x121 1)] h.length h121))) else (none))
  (finV [.undef, .undef] h.length h56))
  (fun i16 => if i16 = 0 then (bnd (pu h16 (nilA (nth x16 1))) fun v137 h137 =>
  bnd (pu h137 (fieldAddrV 1 v137)) fun v138 h138 =>
  bnd (pu h138 (loadV G false 1 v138 h138)) fun v139 h139 =>
  bnd (pu h139 (nilA (nth x16 1))) fun v140 h140 =>
  bnd (pu h140 (fieldAddrV 0 v140)) fun v141 h141 =>
  bnd (pu h141 (loadV G false 1 v141 h141)) fun v142 h142 =>
  bnd (pu h142 (lenSl v142)) fun v143 h143 =>
  bnd (buildRo 1 1 (.int .i64 0) [(0, v143)] h143) fun v144 h144 =>
  bnd (appendV 3 1 v139 v144 h144) fun v145 h145 =>
  bnd (pu h145 (nilA (nth x16 1))) fun v146 h146 =>
  bnd (pu h146 (fieldAddrV 1 v146)) fun v147 h147 =>
  bnd (stS (storeV 1 v147 v145 h147)) fun v148 h148 =>
  bnd (pu h148 (nilA (nth x16 1))) fun v149 h149 =>
  bnd (pu h149 (fieldAddrV 2 v149)) fun v150 h150 =>
  bnd (pu h150 (loadV G false 1 v150 h150)) fun v151 h151 =>
  bnd (pu h151 (lenSl v151)) fun v152 h152 =>
  vK [((nth x16 1), 0, 57, 6), ((nth x16 1), 1, 3, 1), ((nth x16 1), 2, 93, 2)] h152 fun hv153 =>
  thenK (loopN (sel_Select.l15 G k hv153.length self) k [(nth x16 1), v151, v152, (.int .i64 0)] hv153) fun e153 x153 h153 => exK e153
  (bnd (pu h153 (nilA (nth x153 0))) fun v178 h178 =>
  bnd (pu h178 (fieldAddrV 0 v178)) fun v179 h179 =>
  bnd (pu h179 (loadV G false 1 v179 h179)) fun v180 h180 =>
  bnd (pu h180 (lenSl v180)) fun v181 h181 =>
  bnd (pu h181 (bin Tryd.prog .gtr 3 true v181 (.int .i64 262144))) fun v182 h182 =>
  condA v182
  (bnd (pu h182 (loadV G false 1 (.gl 0) h182)) fun v183 h183 =>
  bnd (some (.sl h183.length 0 0 0 1, h183 ++ [⟨71, 1, []⟩])) fun v184 h184 =>
  finV [v184, v183] h.length h184)
  (bnd (some (.sl h182.length 0 0 0 1, h182 ++ [⟨71, 1, []⟩])) fun v185 h185 =>
  bnd (pu h185 (nilA (nth x153 0))) fun v186 h186 =>
  bnd (pu h186 (fieldAddrV 0 v186)) fun v187 h187 =>
  bnd (pu h187 (loadV G false 1 v187 h187)) fun v188 h188 =>
  bnd (pu h188 (lenSl v188)) fun v189 h189 =>
  thenK (loopN (sel_Select.l23 G k h189.length self) k [.undef, .undef, v185, v188, v189, (.int .i64 0)] h189) fun e190 x190 h190 => exK e190
  (finV [(nth x190 2), .nili] h.length h190)
  (fun i190 => if i190 = 4 then (finV [(nth x190 2), .nili] h.length h190) else (none))
  (finV [(nth x190 0), (nth x190 1)] h.length h190)))
  (fun i153 => if i153 = 2 then (bnd (pu h153 (nilA (nth x153 0))) fun v206 h206 =>
  bnd (pu h206 (fieldAddrV 0 v206)) fun v207 h207 =>
  bnd (pu h207 (loadV G false 1 v207 h207)) fun v208 h208 =>
  bnd (pu h208 (lenSl v208)) fun v209 h209 =>
  bnd (pu h209 (bin Tryd.prog .gtr 3 true v209 (.int .i64 262144))) fun v210 h210 =>
  condA v210
  (bnd (pu h210 (loadV G false 1 (.gl 0) h210)) fun v211 h211 =>
  bnd (some (.sl h211.length 0 0 0 1, h211 ++ [⟨71, 1, []⟩])) fun v212 h212 =>
  finV [v212, v211] h.length h212)
  (bnd (some (.sl h210.length 0 0 0 1, h210 ++ [⟨71, 1, []⟩])) fun v213 h213 =>
  bnd (pu h213 (nilA (nth x153 0))) fun v214 h214 =>
  bnd (pu h214 (fieldAddrV 0 v214)) fun v215 h215 =>
  bnd (pu h215 (loadV G false 1 v215 h215)) fun v216 h216 =>
  bnd (pu h216 (lenSl v216)) fun v217 h217 =>
  thenK (loopN (sel_Select.l23 G k h217.length self) k [.undef, .undef, v213, v216, v217, (.int .i64 0)] h217) fun e218 x218 h218 => exK e218
  (finV [(nth x218 2), .nili] h.length h218)
  (fun i218 => if i218 = 4 then (finV [(nth x218 2), .nili] h.length h218) else (none))
  (finV [(nth x218 0), (nth x218 1)] h.length h218))) else (none))
  (finV [.undef, .undef] h.length h153)) else (none))
  (finV [.undef, .undef] h.length h16))))
noncomputable def sel_Select.f (G : Globs) : Nat → Den
  | 0 => fun _ _ => none
  | k + 1 => fun args h => arg1 args fun x0 => (sel_Select.c G k (sel_Select.f G k) x0 h)
/-! alembic/sel.Const: function 23 -/
noncomputable def sel_Const.ann : Ann := mkAnn [] [] [] []
noncomputable def sel_Const.env (G : Globs) (k : Nat) (self : Den) : List (Nat × Bool × Den) := [(54, false, sel_constant.f G k)]
noncomputable def sel_Const.c (G : Globs) (k : Nat) (self : Den) (x0 x1 : AV) (h : AHeap) : Option (AV × AHeap) := outV (
  bnd (pu h (bin Tryd.prog .lss 3 true x0 (.int .i64 0))) fun v0 h0 =>
  bnd (gd v0 false h0 (some (x0, h0))) fun v1 h1 =>
  bnd (gd v0 false h1 (pu h1 (bin Tryd.prog .gtr 3 true v1 (.int .i64 30)))) fun v2 h2 =>
  bnd (pu h2 (pickA v0 (.bool true) v2)) fun v3 h3 =>
  condA v3
  (bnd (pu h3 (loadV G false 1 (.gl 1) h3)) fun v4 h4 =>
  finV [.nils, v4] h.length h4)
  (bnd (heapCall (sel_constant.f G k) [x0, x1] h3) fun v5 h5 =>
  finV [v5, .nili] h.length h5))
noncomputable def sel_Const.f (G : Globs) : Nat → Den
  | 0 => fun _ _ => none
  | k + 1 => fun args h => arg2 args fun x0 x1 => (sel_Const.c G k (sel_Const.f G k) x0 x1 h)
/-! alembic/alembiclaw24.first: function 15 -/
noncomputable def alembiclaw24_first.ann : Ann := mkAnn [] [] [] []
noncomputable def alembiclaw24_first.env (G : Globs) (k : Nat) (self : Den) : List (Nat × Bool × Den) := [(17, true, sel_Select.f G k), (23, true, sel_Const.f G k)]
noncomputable def alembiclaw24_first.c (G : Globs) (k : Nat) (self : Den) (h : AHeap) : Option (AV × AHeap) := outV (
  bnd (pu h (buildSt [(0, 1), (1, 1), (2, 1)] [.nils, (.int .i64 0), (.int .i64 0)] [])) fun v0 h0 =>
  bnd (pureCall (sel_Select.f G k) [v0] h0) fun v1 h1 =>
  bnd (pu h1 (extractA v1 0)) fun v2 h2 =>
  bnd (pu h2 (extractA v1 1)) fun v3 h3 =>
  bnd (pureCall (sel_Const.f G k) [(.int .i64 3), (.int .i64 7)] h3) fun v4 h4 =>
  bnd (pu h4 (extractA v4 0)) fun v5 h5 =>
  bnd (pu h5 (extractA v4 1)) fun v6 h6 =>
  bnd (pu h6 (bin Tryd.prog .eql 30 true v3 .nili)) fun v7 h7 =>
  bnd (gd v7 true h7 (some (v6, h7))) fun v8 h8 =>
  bnd (gd v7 true h8 (pu h8 (bin Tryd.prog .eql 30 true v8 .nili))) fun v9 h9 =>
  bnd (pu h9 (pickA v7 v9 (.bool false))) fun v10 h10 =>
  bnd (gd v10 true h10 (some (v2, h10))) fun v11 h11 =>
  bnd (gd v10 true h11 (pu h11 (lenSl v11))) fun v12 h12 =>
  bnd (gd v10 true h12 (pu h12 (bin Tryd.prog .eql 3 true v12 (.int .i64 0)))) fun v13 h13 =>
  bnd (pu h13 (pickA v10 v13 (.bool false))) fun v14 h14 =>
  bnd (gd v14 true h14 (some (v5, h14))) fun v15 h15 =>
  bnd (gd v14 true h15 (pu h15 (lenSl v15))) fun v16 h16 =>
  bnd (gd v14 true h16 (pu h16 (bin Tryd.prog .gtr 3 true v16 (.int .i64 0)))) fun v17 h17 =>
  bnd (pu h17 (pickA v14 v17 (.bool false))) fun v18 h18 =>
  finV [v18] h.length h18)
noncomputable def alembiclaw24_first.f (G : Globs) : Nat → Den
  | 0 => fun _ _ => none
  | k + 1 => fun args h => arg0 args (alembiclaw24_first.c G k (alembiclaw24_first.f G k) h)
/-! alembic/alembiclaw24.SelectLoops: function 6 -/
noncomputable def alembiclaw24_SelectLoops.ann : Ann := mkAnn [37] [] [(12, [0, 3, 4, 5, 6, 7, 8])] []
noncomputable def alembiclaw24_SelectLoops.env (G : Globs) (k : Nat) (self : Den) : List (Nat × Bool × Den) := [(15, true, alembiclaw24_first.f G k), (17, true, sel_Select.f G k), (22, true, alembicref17_RunMach.f G k)]
noncomputable def alembiclaw24_SelectLoops.l12 (G : Globs) (k n0 : Nat) (self : Den) (lp : LoopF) : LoopF := fun xs h0 => cutK n0 xs h0 fun h =>
  bnd (pu h (bin Tryd.prog .lss 3 false (nth xs 6) (nth xs 2))) fun v27 h27 =>
  condA v27
  (bnd (pu h27 (idxAddrSl 1 (nth xs 0) (nth xs 6))) fun v28 h28 =>
  bnd (pu h28 (loadV G false 1 v28 h28)) fun v29 h29 =>
  bnd (pu h29 (bin Tryd.prog .add 43 false (nth xs 5) v29)) fun v30 h30 =>
  bnd (pu h30 (bin Tryd.prog .add 3 true (nth xs 6) (.int .i64 1))) fun v31 h31 =>
  lp [(nth xs 0), (nth xs 1), (nth xs 2), (nth xs 3), (nth xs 4), v30, v31] h31)
  (some (.exit 0, [(nth xs 0), (nth xs 1), (nth xs 2), (nth xs 3), (nth xs 4), (nth xs 5), (nth xs 6)], h27))
noncomputable def alembiclaw24_SelectLoops.c (G : Globs) (k : Nat) (self : Den) (x0 : AV) (h : AHeap) : Option (AV × AHeap) := outV (
  bnd (pureCall (alembiclaw24_first.f G k) [] h) fun v0 h0 =>
  bnd (pu h0 (un .not v0)) fun v1 h1 =>
  condA v1
  (finV [(.bool false)] h.length h1)
  (bnd (pu h1 (lenSl x0)) fun v2 h2 =>
  bnd (pu h2 (bin Tryd.prog .gtr 3 true v2 (.int .i64 40))) fun v3 h3 =>
  condA v3
  (finV [v0] h.length h3)
  (bnd (pu h3 (lenSl x0)) fun v4 h4 =>
  bnd (pu h4 (bin Tryd.prog .add 3 true v4 (.int .i64 1))) fun v5 h5 =>
  bnd (pu h5 (buildSt [(0, 1), (1, 1), (2, 1)] [.nils, (.int .i64 0), (.int .i64 0)] [(1, (.int .i64 6)), (2, v5)])) fun v6 h6 =>
  bnd (boxA 24 (.agg [.nils, (.int .i64 0), (.int .i64 0)]) h6) fun v7 h7 =>
  bnd (stS (storeV 3 v7 v6 h7)) fun v8 h8 =>
  bnd (pu h8 (buildSt [(0, 1), (1, 1), (2, 1), (3, 1), (4, 1), (5, 1)] [(.int .i64 0), (.int .i64 0), (.int .i64 0), (.int .i64 0), (.int .i64 0), (.int .i64 0)] [(0, (.int .i64 1)), (1, (.int .i64 2)), (5, (.int .i64 1))])) fun v9 h9 =>
  bnd (pu h9 (buildSt [(0, 1), (1, 1), (2, 1), (3, 1), (4, 1), (5, 1)] [(.int .i64 0), (.int .i64 0), (.int .i64 0), (.int .i64 0), (.int .i64 0), (.int .i64 0)] [(0, (.int .i64 1)), (1, (.int .i64 3)), (5, v4)])) fun v10 h10 =>
  bnd (pu h10 (buildSt [(0, 1), (1, 1), (2, 1), (3, 1), (4, 1), (5, 1)] [(.int .i64 0), (.int .i64 0), (.int .i64 0), (.int .i64 0), (.int .i64 0), (.int .i64 0)] [(0, (.int .i64 13)), (1, (.int .i64 5)), (2, (.int .i64 0)), (3, (.int .i64 3))])) fun v11 h11 =>
  bnd (pu h11 (buildSt [(0, 1), (1, 1), (2, 1), (3, 1), (4, 1), (5, 1)] [(.int .i64 0), (.int .i64 0), (.int .i64 0), (.int .i64 0), (.int .i64 0), (.int .i64 0)] [(0, (.int .i64 18)), (2, (.int .i64 5)), (5, (.int .i64 8))])) fun v12 h12 =>
  bnd (pu h12 (buildSt [(0, 1), (1, 1), (2, 1), (3, 1), (4, 1), (5, 1)] [(.int .i64 0), (.int .i64 0), (.int .i64 0), (.int .i64 0), (.int .i64 0), (.int .i64 0)] [(0, (.int .i64 15)), (1, (.int .i64 4)), (2, (.int .i64 0))])) fun v13 h13 =>
  bnd (pu h13 (buildSt [(0, 1), (1, 1), (2, 1), (3, 1), (4, 1), (5, 1)] [(.int .i64 0), (.int .i64 0), (.int .i64 0), (.int .i64 0), (.int .i64 0), (.int .i64 0)] [(0, (.int .i64 3)), (1, (.int .i64 1)), (2, (.int .i64 1)), (3, (.int .i64 4))])) fun v14 h14 =>
  bnd (pu h14 (buildSt [(0, 1), (1, 1), (2, 1), (3, 1), (4, 1), (5, 1)] [(.int .i64 0), (.int .i64 0), (.int .i64 0), (.int .i64 0), (.int .i64 0), (.int .i64 0)] [(0, (.int .i64 3)), (1, (.int .i64 0)), (2, (.int .i64 0)), (3, (.int .i64 2))])) fun v15 h15 =>
  bnd (pu h15 (buildSt [(0, 1), (1, 1), (2, 1), (3, 1), (4, 1), (5, 1)] [(.int .i64 0), (.int .i64 0), (.int .i64 0), (.int .i64 0), (.int .i64 0), (.int .i64 0)] [(0, (.int .i64 17)), (5, (.int .i64 2))])) fun v16 h16 =>
  bnd (pu h16 (buildSt [(0, 1), (1, 1), (2, 1), (3, 1), (4, 1), (5, 1)] [(.int .i64 0), (.int .i64 0), (.int .i64 0), (.int .i64 0), (.int .i64 0), (.int .i64 0)] [(0, (.int .i64 16)), (2, (.int .i64 0)), (3, (.int .i64 1))])) fun v17 h17 =>
  bnd (pu h17 (buildSt [(0, 1), (1, 1), (2, 1), (3, 1), (4, 1), (5, 1)] [(.int .i64 0), (.int .i64 0), (.int .i64 0), (.int .i64 0), (.int .i64 0), (.int .i64 0)] [(0, (.int .i64 20)), (5, (.int .i64 1))])) fun v18 h18 =>
  bnd (buildRo 6 10 (.agg [(.int .i64 0), (.int .i64 0), (.int .i64 0), (.int .i64 0), (.int .i64 0), (.int .i64 0)]) [(0, v9), (1, v10), (2, v11), (3, v12), (4, v13), (5, v14), (6, v15), (7, v16), (8, v17), (9, v18)] h18) fun v19 h19 =>
  bnd (pu h19 (fieldAddrV 0 v7)) fun v20 h20 =>
  bnd (stS (storeV 1 v20 v19 h20)) fun v21 h21 =>
  bnd (buildOwn 43 1 0 (.int .u64 0) [] h21) fun v22 h22 =>
  bnd (appendV 43 1 v22 x0 h22) fun v23 h23 =>
  bnd (buildRo 1 1 (.int .u64 0) [(0, (.int .u64 0))] h23) fun v24 h24 =>
  bnd (appendV 43 1 v23 v24 h24) fun v25 h25 =>
  thenK (loopN (alembiclaw24_SelectLoops.l12 G k h25.length self) k [x0, v0, v4, v7, v25, (.int .u64 0), (.int .i64 0)] h25) fun e26 x26 h26 => exK e26
  (bnd (pu h26 (loadV G true 3 (nth x26 3) h26)) fun v32 h32 =>
  bnd (pureCall (sel_Select.f G k) [v32] h32) fun v33 h33 =>
  bnd (pu h33 (extractA v33 0)) fun v34 h34 =>
  bnd (pu h34 (extractA v33 1)) fun v35 h35 =>
  bnd (pu h35 (bin Tryd.prog .mul 3 true (.int .i64 6) (nth x26 2))) fun v36 h36 =>
  bnd (pu h36 (bin Tryd.prog .add 3 true v36 (.int .i64 6))) fun v37 h37 =>
  bnd (pu h37 (bin Tryd.prog .mul 3 true (.int .i64 16) v37)) fun v38 h38 =>
  bnd (pu h38 (bin Tryd.prog .add 3 true v38 (.int .i64 64))) fun v39 h39 =>
  bnd (pureCall (alembicref17_RunMach.f G k) [v34, (nth x26 4), v39] h39) fun v40 h40 =>
  bnd (boxA 46 (.agg [(.int .i64 0), .nils, (.int .u64 0), (.int .u64 0), (.int .u64 0), (.int .u64 0), (.int .u64 0), (.int .u64 0), (.int .u64 0), (.int .u64 0), (.int .u64 0), (.int .u64 0), (.int .u64 0), (.int .u64 0), (.int .u64 0), (.int .u64 0), (.int .u64 0), (.int .u64 0), (.int .u64 0), (.int .u64 0), (.int .u64 0), (.int .u64 0), (.int .u64 0), (.int .u64 0), (.int .u64 0), (.int .u64 0), (.int .u64 0), (.int .u64 0), (.int .u64 0), (.int .u64 0), (.int .u64 0), (.int .u64 0), (.int .u64 0), .nils, (.int .i64 0)]) h40) fun v41 h41 =>
  bnd (stS (storeV 35 v41 v40 h41)) fun v42 h42 =>
  bnd (gd (nth x26 1) true h42 (some (v35, h42))) fun v43 h43 =>
  bnd (gd (nth x26 1) true h43 (pu h43 (bin Tryd.prog .eql 30 true v43 .nili))) fun v44 h44 =>
  bnd (pu h44 (pickA (nth x26 1) v44 (.bool false))) fun v45 h45 =>
  bnd (gd v45 true h45 (pu h45 (fieldAddrV 0 v41))) fun v46 h46 =>
  bnd (gd v45 true h46 (pu h46 (loadV G false 1 v46 h46))) fun v47 h47 =>
  bnd (gd v45 true h47 (pu h47 (bin Tryd.prog .eql 3 true v47 (.int .i64 1)))) fun v48 h48 =>
  bnd (pu h48 (pickA v45 v48 (.bool false))) fun v49 h49 =>
  bnd (gd v49 true h49 (pu h49 (fieldAddrV 1 v41))) fun v50 h50 =>
  bnd (gd v49 true h50 (pu h50 (loadV G false 1 v50 h50))) fun v51 h51 =>
  bnd (gd v49 true h51 (pu h51 (lenSl v51))) fun v52 h52 =>
  bnd (gd v49 true h52 (some ((nth x26 2), h52))) fun v53 h53 =>
  bnd (gd v49 true h53 (pu h53 (bin Tryd.prog .add 3 true v53 (.int .i64 1)))) fun v54 h54 =>
  bnd (gd v49 true h54 (pu h54 (bin Tryd.prog .eql 3 false v52 v54))) fun v55 h55 =>
  bnd (pu h55 (pickA v49 v55 (.bool false))) fun v56 h56 =>
  bnd (gd v56 true h56 (pu h56 (fieldAddrV 1 v41))) fun v57 h57 =>
  bnd (gd v56 true h57 (pu h57 (loadV G false 1 v57 h57))) fun v58 h58 =>
  bnd (gd v56 true h58 (some ((nth x26 2), h58))) fun v59 h59 =>
  bnd (gd v56 true h59 (pu h59 (idxAddrSl 1 v58 v59))) fun v60 h60 =>
  bnd (gd v56 true h60 (pu h60 (loadV G false 1 v60 h60))) fun v61 h61 =>
  bnd (gd v56 true h61 (some ((nth x26 5), h61))) fun v62 h62 =>
  bnd (gd v56 true h62 (pu h62 (bin Tryd.prog .eql 43 false v61 v62))) fun v63 h63 =>
  bnd (pu h63 (pickA v56 v63 (.bool false))) fun v64 h64 =>
  finV [v64] h.length h64)
  (fun i26 => if i26 = 0 then (bnd (pu h26 (loadV G true 3 (nth x26 3) h26)) fun v65 h65 =>
  bnd (pureCall (sel_Select.f G k) [v65] h65) fun v66 h66 =>
  bnd (pu h66 (extractA v66 0)) fun v67 h67 =>
  bnd (pu h67 (extractA v66 1)) fun v68 h68 =>
  bnd (pu h68 (bin Tryd.prog .mul 3 true (.int .i64 6) (nth x26 2))) fun v69 h69 =>
  bnd (pu h69 (bin Tryd.prog .add 3 true v69 (.int .i64 6))) fun v70 h70 =>
  bnd (pu h70 (bin Tryd.prog .mul 3 true (.int .i64 16) v70)) fun v71 h71 =>
  bnd (pu h71 (bin Tryd.prog .add 3 true v71 (.int .i64 64))) fun v72 h72 =>
  bnd (pureCall (alembicref17_RunMach.f G k) [v67, (nth x26 4), v72] h72) fun v73 h73 =>
  bnd (boxA 46 (.agg [(.int .i64 0), .nils, (.int .u64 0), (.int .u64 0), (.int .u64 0), (.int .u64 0), (.int .u64 0), (.int .u64 0), (.int .u64 0), (.int .u64 0), (.int .u64 0), (.int .u64 0), (.int .u64 0), (.int .u64 0), (.int .u64 0), (.int .u64 0), (.int .u64 0), (.int .u64 0), (.int .u64 0), (.int .u64 0), (.int .u64 0), (.int .u64 0), (.int .u64 0), (.int .u64 0), (.int .u64 0), (.int .u64 0), (.int .u64 0), (.int .u64 0), (.int .u64 0), (.int .u64 0), (.int .u64 0), (.int .u64 0), (.int .u64 0), .nils, (.int .i64 0)]) h73) fun v74 h74 =>
  bnd (stS (storeV 35 v74 v73 h74)) fun v75 h75 =>
  bnd (gd (nth x26 1) true h75 (some (v68, h75))) fun v76 h76 =>
  bnd (gd (nth x26 1) true h76 (pu h76 (bin Tryd.prog .eql 30 true v76 .nili))) fun v77 h77 =>
  bnd (pu h77 (pickA (nth x26 1) v77 (.bool false))) fun v78 h78 =>
  bnd (gd v78 true h78 (pu h78 (fieldAddrV 0 v74))) fun v79 h79 =>
  bnd (gd v78 true h79 (pu h79 (loadV G false 1 v79 h79))) fun v80 h80 =>
  bnd (gd v78 true h80 (pu h80 (bin Tryd.prog .eql 3 true v80 (.int .i64 1)))) fun v81 h81 =>
  bnd (pu h81 (pickA v78 v81 (.bool false))) fun v82 h82 =>
  bnd (gd v82 true h82 (pu h82 (fieldAddrV 1 v74))) fun v83 h83 =>
  bnd (gd v82 true h83 (pu h83 (loadV G false 1 v83 h83))) fun v84 h84 =>
  bnd (gd v82 true h84 (pu h84 (lenSl v84))) fun v85 h85 =>
  bnd (gd v82 true h85 (some ((nth x26 2), h85))) fun v86 h86 =>
  bnd (gd v82 true h86 (pu h86 (bin Tryd.prog .add 3 true v86 (.int .i64 1)))) fun v87 h87 =>
  bnd (gd v82 true h87 (pu h87 (bin Tryd.prog .eql 3 false v85 v87))) fun v88 h88 =>
  bnd (pu h88 (pickA v82 v88 (.bool false))) fun v89 h89 =>
  bnd (gd v89 true h89 (pu h89 (fieldAddrV 1 v74))) fun v90 h90 =>
  bnd (gd v89 true h90 (pu h90 (loadV G false 1 v90 h90))) fun v91 h91 =>
  bnd (gd v89 true h91 (some ((nth x26 2), h91))) fun v92 h92 =>
  bnd (gd v89 true h92 (pu h92 (idxAddrSl 1 v91 v92))) fun v93 h93 =>
  bnd (gd v89 true h93 (pu h93 (loadV G false 1 v93 h93))) fun v94 h94 =>
  bnd (gd v89 true h94 (some ((nth x26 5), h94))) fun v95 h95 =>
  bnd (gd v89 true h95 (pu h95 (bin Tryd.prog .eql 43 false v94 v95))) fun v96 h96 =>
  bnd (pu h96 (pickA v89 v96 (.bool false))) fun v97 h97 =>
  finV [v97] h.length h97) else (none))
  (finV [.undef] h.length h26))))
noncomputable def alembiclaw24_SelectLoops.f (G : Globs) : Nat → Den
  | 0 => fun _ _ => none
  | k + 1 => fun args h => arg1 args fun x0 => (alembiclaw24_SelectLoops.c G k (alembiclaw24_SelectLoops.f G k) x0 h)
theorem alembiclaw24_SelectLoops.step (G : Globs) (k : Nat) (x0 : AV) (h : AHeap) : alembiclaw24_SelectLoops.f G (k + 1) [x0] h = alembiclaw24_SelectLoops.c G k (alembiclaw24_SelectLoops.f G k) x0 h := rfl
end Go.Proofs.YtdfglgnflldkpaaDoor.Mir
namespace Go.Proofs.YtdfglgnflldkpaaDoor.Mir
open Go
set_option linter.unusedVariables false
theorem orders : Tryd.prog.follows .mixedOrders = true := by kernel_rfl
theorem isa_two.here : ∃ fn, Tryd.prog.funcs[92]? = some fn ∧ fn.body.isSome = true ∧ (fn.name == "runtime.NumGoroutine") = false := ⟨_, Tryd.func92, by kernel_rfl, by kernel_rfl⟩
theorem isa_two.eq (G : Globs) (k : Nat) (self : Den) (x0 x1 x2 : AV) (h : AHeap) : absFn Tryd.prog G (envL (isa_two.env G k self)) isa_two.ann Tryd.f92.results.toList (codeOf Tryd.f92) Tryd.f92.ntmps k [x0, x1, x2] h = isa_two.c G k self x0 x1 x2 h := by kernel_rfl
theorem isa_two.sound {G : Globs} (hG : ∀ g x, G g = some x → plainB x = true) : ∀ k, Sound Tryd.prog G 92 (isa_two.f G k)
  | 0 => sound_zero isa_two.here (fun _ _ => rfl)
  | k + 1 => sound_succ (l := isa_two.env G k (isa_two.f G k)) (ann := isa_two.ann) (n := k) (envSound_of hG envNil) orders Tryd.func92 (by kernel_rfl) (by kernel_rfl) rfl (by kernel_rfl) (arg3_of fun x0 x1 x2 h => isa_two.eq G k _ x0 x1 x2 h)
theorem isa_three.here : ∃ fn, Tryd.prog.funcs[107]? = some fn ∧ fn.body.isSome = true ∧ (fn.name == "runtime.NumGoroutine") = false := ⟨_, Tryd.func107, by kernel_rfl, by kernel_rfl⟩
theorem isa_three.eq (G : Globs) (k : Nat) (self : Den) (x0 x1 : AV) (h : AHeap) : absFn Tryd.prog G (envL (isa_three.env G k self)) isa_three.ann Tryd.f107.results.toList (codeOf Tryd.f107) Tryd.f107.ntmps k [x0, x1] h = isa_three.c G k self x0 x1 h := by kernel_rfl
theorem isa_three.sound {G : Globs} (hG : ∀ g x, G g = some x → plainB x = true) : ∀ k, Sound Tryd.prog G 107 (isa_three.f G k)
  | 0 => sound_zero isa_three.here (fun _ _ => rfl)
  | k + 1 => sound_succ (l := isa_three.env G k (isa_three.f G k)) (ann := isa_three.ann) (n := k) (envSound_of hG envNil) orders Tryd.func107 (by kernel_rfl) (by kernel_rfl) rfl (by kernel_rfl) (arg2_of fun x0 x1 h => isa_three.eq G k _ x0 x1 h)
theorem isa_plain.here : ∃ fn, Tryd.prog.funcs[93]? = some fn ∧ fn.body.isSome = true ∧ (fn.name == "runtime.NumGoroutine") = false := ⟨_, Tryd.func93, by kernel_rfl, by kernel_rfl⟩
theorem isa_plain.eq (G : Globs) (k : Nat) (self : Den) (x0 : AV) (h : AHeap) : absFn Tryd.prog G (envL (isa_plain.env G k self)) isa_plain.ann Tryd.f93.results.toList (codeOf Tryd.f93) Tryd.f93.ntmps k [x0] h = isa_plain.c G k self x0 h := by kernel_rfl
theorem isa_plain.sound {G : Globs} (hG : ∀ g x, G g = some x → plainB x = true) : ∀ k, Sound Tryd.prog G 93 (isa_plain.f G k)
  | 0 => sound_zero isa_plain.here (fun _ _ => rfl)
  | k + 1 => sound_succ (l := isa_plain.env G k (isa_plain.f G k)) (ann := isa_plain.ann) (n := k) (envSound_of hG (envCons (isa_two.sound hG k) (envCons (isa_three.sound hG k) envNil))) orders Tryd.func93 (by kernel_rfl) (by kernel_rfl) rfl (by kernel_rfl) (arg1_of fun x0 h => isa_plain.eq G k _ x0 h)
theorem isa_of.here : ∃ fn, Tryd.prog.funcs[70]? = some fn ∧ fn.body.isSome = true ∧ (fn.name == "runtime.NumGoroutine") = false := ⟨_, Tryd.func70, by kernel_rfl, by kernel_rfl⟩
theorem isa_of.eq (G : Globs) (k : Nat) (self : Den) (x0 : AV) (h : AHeap) : absFn Tryd.prog G (envL (isa_of.env G k self)) isa_of.ann Tryd.f70.results.toList (codeOf Tryd.f70) Tryd.f70.ntmps k [x0] h = isa_of.c G k self x0 h := by kernel_rfl
theorem isa_of.sound {G : Globs} (hG : ∀ g x, G g = some x → plainB x = true) : ∀ k, Sound Tryd.prog G 70 (isa_of.f G k)
  | 0 => sound_zero isa_of.here (fun _ _ => rfl)
  | k + 1 => sound_succ (l := isa_of.env G k (isa_of.f G k)) (ann := isa_of.ann) (n := k) (envSound_of hG (envCons (isa_two.sound hG k) (envCons (isa_plain.sound hG k) envNil))) orders Tryd.func70 (by kernel_rfl) (by kernel_rfl) rfl (by kernel_rfl) (arg1_of fun x0 h => isa_of.eq G k _ x0 h)
theorem isa_register.here : ∃ fn, Tryd.prog.funcs[94]? = some fn ∧ fn.body.isSome = true ∧ (fn.name == "runtime.NumGoroutine") = false := ⟨_, Tryd.func94, by kernel_rfl, by kernel_rfl⟩
theorem isa_register.eq (G : Globs) (k : Nat) (self : Den) (x0 x1 : AV) (h : AHeap) : absFn Tryd.prog G (envL (isa_register.env G k self)) isa_register.ann Tryd.f94.results.toList (codeOf Tryd.f94) Tryd.f94.ntmps k [x0, x1] h = isa_register.c G k self x0 x1 h := by kernel_rfl
theorem isa_register.sound {G : Globs} (hG : ∀ g x, G g = some x → plainB x = true) : ∀ k, Sound Tryd.prog G 94 (isa_register.f G k)
  | 0 => sound_zero isa_register.here (fun _ _ => rfl)
  | k + 1 => sound_succ (l := isa_register.env G k (isa_register.f G k)) (ann := isa_register.ann) (n := k) (envSound_of hG envNil) orders Tryd.func94 (by kernel_rfl) (by kernel_rfl) rfl (by kernel_rfl) (arg2_of fun x0 x1 h => isa_register.eq G k _ x0 x1 h)
theorem isa_extra.here : ∃ fn, Tryd.prog.funcs[95]? = some fn ∧ fn.body.isSome = true ∧ (fn.name == "runtime.NumGoroutine") = false := ⟨_, Tryd.func95, by kernel_rfl, by kernel_rfl⟩
theorem isa_extra.eq (G : Globs) (k : Nat) (self : Den) (x0 : AV) (h : AHeap) : absFn Tryd.prog G (envL (isa_extra.env G k self)) isa_extra.ann Tryd.f95.results.toList (codeOf Tryd.f95) Tryd.f95.ntmps k [x0] h = isa_extra.c G k self x0 h := by kernel_rfl
theorem isa_extra.sound {G : Globs} (hG : ∀ g x, G g = some x → plainB x = true) : ∀ k, Sound Tryd.prog G 95 (isa_extra.f G k)
  | 0 => sound_zero isa_extra.here (fun _ _ => rfl)
  | k + 1 => sound_succ (l := isa_extra.env G k (isa_extra.f G k)) (ann := isa_extra.ann) (n := k) (envSound_of hG envNil) orders Tryd.func95 (by kernel_rfl) (by kernel_rfl) rfl (by kernel_rfl) (arg1_of fun x0 h => isa_extra.eq G k _ x0 h)
theorem isa_signed.here : ∃ fn, Tryd.prog.funcs[108]? = some fn ∧ fn.body.isSome = true ∧ (fn.name == "runtime.NumGoroutine") = false := ⟨_, Tryd.func108, by kernel_rfl, by kernel_rfl⟩
theorem isa_signed.eq (G : Globs) (k : Nat) (self : Den) (x0 : AV) (h : AHeap) : absFn Tryd.prog G (envL (isa_signed.env G k self)) isa_signed.ann Tryd.f108.results.toList (codeOf Tryd.f108) Tryd.f108.ntmps k [x0] h = isa_signed.c G k self x0 h := by kernel_rfl
theorem isa_signed.sound {G : Globs} (hG : ∀ g x, G g = some x → plainB x = true) : ∀ k, Sound Tryd.prog G 108 (isa_signed.f G k)
  | 0 => sound_zero isa_signed.here (fun _ _ => rfl)
  | k + 1 => sound_succ (l := isa_signed.env G k (isa_signed.f G k)) (ann := isa_signed.ann) (n := k) (envSound_of hG envNil) orders Tryd.func108 (by kernel_rfl) (by kernel_rfl) rfl (by kernel_rfl) (arg1_of fun x0 h => isa_signed.eq G k _ x0 h)
theorem isa_imm.here : ∃ fn, Tryd.prog.funcs[96]? = some fn ∧ fn.body.isSome = true ∧ (fn.name == "runtime.NumGoroutine") = false := ⟨_, Tryd.func96, by kernel_rfl, by kernel_rfl⟩
theorem isa_imm.eq (G : Globs) (k : Nat) (self : Den) (x0 x1 : AV) (h : AHeap) : absFn Tryd.prog G (envL (isa_imm.env G k self)) isa_imm.ann Tryd.f96.results.toList (codeOf Tryd.f96) Tryd.f96.ntmps k [x0, x1] h = isa_imm.c G k self x0 x1 h := by kernel_rfl
theorem isa_imm.sound {G : Globs} (hG : ∀ g x, G g = some x → plainB x = true) : ∀ k, Sound Tryd.prog G 96 (isa_imm.f G k)
  | 0 => sound_zero isa_imm.here (fun _ _ => rfl)
  | k + 1 => sound_succ (l := isa_imm.env G k (isa_imm.f G k)) (ann := isa_imm.ann) (n := k) (envSound_of hG (envCons (isa_signed.sound hG k) envNil)) orders Tryd.func96 (by kernel_rfl) (by kernel_rfl) rfl (by kernel_rfl) (arg2_of fun x0 x1 h => isa_imm.eq G k _ x0 x1 h)
theorem isa_stack.here : ∃ fn, Tryd.prog.funcs[97]? = some fn ∧ fn.body.isSome = true ∧ (fn.name == "runtime.NumGoroutine") = false := ⟨_, Tryd.func97, by kernel_rfl, by kernel_rfl⟩
theorem isa_stack.eq (G : Globs) (k : Nat) (self : Den) (x0 : AV) (h : AHeap) : absFn Tryd.prog G (envL (isa_stack.env G k self)) isa_stack.ann Tryd.f97.results.toList (codeOf Tryd.f97) Tryd.f97.ntmps k [x0] h = isa_stack.c G k self x0 h := by kernel_rfl
theorem isa_stack.sound {G : Globs} (hG : ∀ g x, G g = some x → plainB x = true) : ∀ k, Sound Tryd.prog G 97 (isa_stack.f G k)
  | 0 => sound_zero isa_stack.here (fun _ _ => rfl)
  | k + 1 => sound_succ (l := isa_stack.env G k (isa_stack.f G k)) (ann := isa_stack.ann) (n := k) (envSound_of hG envNil) orders Tryd.func97 (by kernel_rfl) (by kernel_rfl) rfl (by kernel_rfl) (arg1_of fun x0 h => isa_stack.eq G k _ x0 h)
theorem isa_fair.here : ∃ fn, Tryd.prog.funcs[71]? = some fn ∧ fn.body.isSome = true ∧ (fn.name == "runtime.NumGoroutine") = false := ⟨_, Tryd.func71, by kernel_rfl, by kernel_rfl⟩
theorem isa_fair.eq (G : Globs) (k : Nat) (self : Den) (x0 x1 : AV) (h : AHeap) : absFn Tryd.prog G (envL (isa_fair.env G k self)) isa_fair.ann Tryd.f71.results.toList (codeOf Tryd.f71) Tryd.f71.ntmps k [x0, x1] h = isa_fair.c G k self x0 x1 h := by kernel_rfl
theorem isa_fair.sound {G : Globs} (hG : ∀ g x, G g = some x → plainB x = true) : ∀ k, Sound Tryd.prog G 71 (isa_fair.f G k)
  | 0 => sound_zero isa_fair.here (fun _ _ => rfl)
  | k + 1 => sound_succ (l := isa_fair.env G k (isa_fair.f G k)) (ann := isa_fair.ann) (n := k) (envSound_of hG (envCons (isa_register.sound hG k) (envCons (isa_extra.sound hG k) (envCons (isa_imm.sound hG k) (envCons (isa_stack.sound hG k) envNil))))) orders Tryd.func71 (by kernel_rfl) (by kernel_rfl) rfl (by kernel_rfl) (arg2_of fun x0 x1 h => isa_fair.eq G k _ x0 x1 h)
theorem isa_number.here : ∃ fn, Tryd.prog.funcs[72]? = some fn ∧ fn.body.isSome = true ∧ (fn.name == "runtime.NumGoroutine") = false := ⟨_, Tryd.func72, by kernel_rfl, by kernel_rfl⟩
theorem isa_number.eq (G : Globs) (k : Nat) (self : Den) (x0 : AV) (h : AHeap) : absFn Tryd.prog G (envL (isa_number.env G k self)) isa_number.ann Tryd.f72.results.toList (codeOf Tryd.f72) Tryd.f72.ntmps k [x0] h = isa_number.c G k self x0 h := by kernel_rfl
theorem isa_number.sound {G : Globs} (hG : ∀ g x, G g = some x → plainB x = true) : ∀ k, Sound Tryd.prog G 72 (isa_number.f G k)
  | 0 => sound_zero isa_number.here (fun _ _ => rfl)
  | k + 1 => sound_succ (l := isa_number.env G k (isa_number.f G k)) (ann := isa_number.ann) (n := k) (envSound_of hG envNil) orders Tryd.func72 (by kernel_rfl) (by kernel_rfl) rfl (by kernel_rfl) (arg1_of fun x0 h => isa_number.eq G k _ x0 h)
theorem isa_Word.here : ∃ fn, Tryd.prog.funcs[40]? = some fn ∧ fn.body.isSome = true ∧ (fn.name == "runtime.NumGoroutine") = false := ⟨_, Tryd.func40, by kernel_rfl, by kernel_rfl⟩
theorem isa_Word.eq (G : Globs) (k : Nat) (self : Den) (x0 : AV) (h : AHeap) : absFn Tryd.prog G (envL (isa_Word.env G k self)) isa_Word.ann Tryd.f40.results.toList (codeOf Tryd.f40) Tryd.f40.ntmps k [x0] h = isa_Word.c G k self x0 h := by kernel_rfl
theorem isa_Word.sound {G : Globs} (hG : ∀ g x, G g = some x → plainB x = true) : ∀ k, Sound Tryd.prog G 40 (isa_Word.f G k)
  | 0 => sound_zero isa_Word.here (fun _ _ => rfl)
  | k + 1 => sound_succ (l := isa_Word.env G k (isa_Word.f G k)) (ann := isa_Word.ann) (n := k) (envSound_of hG (envCons (isa_of.sound hG k) (envCons (isa_fair.sound hG k) (envCons (isa_number.sound hG k) envNil)))) orders Tryd.func40 (by kernel_rfl) (by kernel_rfl) rfl (by kernel_rfl) (arg1_of fun x0 h => isa_Word.eq G k _ x0 h)
theorem isa_field.here : ∃ fn, Tryd.prog.funcs[88]? = some fn ∧ fn.body.isSome = true ∧ (fn.name == "runtime.NumGoroutine") = false := ⟨_, Tryd.func88, by kernel_rfl, by kernel_rfl⟩
theorem isa_field.eq (G : Globs) (k : Nat) (self : Den) (x0 x1 x2 : AV) (h : AHeap) : absFn Tryd.prog G (envL (isa_field.env G k self)) isa_field.ann Tryd.f88.results.toList (codeOf Tryd.f88) Tryd.f88.ntmps k [x0, x1, x2] h = isa_field.c G k self x0 x1 x2 h := by kernel_rfl
theorem isa_field.sound {G : Globs} (hG : ∀ g x, G g = some x → plainB x = true) : ∀ k, Sound Tryd.prog G 88 (isa_field.f G k)
  | 0 => sound_zero isa_field.here (fun _ _ => rfl)
  | k + 1 => sound_succ (l := isa_field.env G k (isa_field.f G k)) (ann := isa_field.ann) (n := k) (envSound_of hG envNil) orders Tryd.func88 (by kernel_rfl) (by kernel_rfl) rfl (by kernel_rfl) (arg3_of fun x0 x1 x2 h => isa_field.eq G k _ x0 x1 x2 h)
theorem isa_sign.here : ∃ fn, Tryd.prog.funcs[105]? = some fn ∧ fn.body.isSome = true ∧ (fn.name == "runtime.NumGoroutine") = false := ⟨_, Tryd.func105, by kernel_rfl, by kernel_rfl⟩
theorem isa_sign.eq (G : Globs) (k : Nat) (self : Den) (x0 x1 : AV) (h : AHeap) : absFn Tryd.prog G (envL (isa_sign.env G k self)) isa_sign.ann Tryd.f105.results.toList (codeOf Tryd.f105) Tryd.f105.ntmps k [x0, x1] h = isa_sign.c G k self x0 x1 h := by kernel_rfl
theorem isa_sign.sound {G : Globs} (hG : ∀ g x, G g = some x → plainB x = true) : ∀ k, Sound Tryd.prog G 105 (isa_sign.f G k)
  | 0 => sound_zero isa_sign.here (fun _ _ => rfl)
  | k + 1 => sound_succ (l := isa_sign.env G k (isa_sign.f G k)) (ann := isa_sign.ann) (n := k) (envSound_of hG envNil) orders Tryd.func105 (by kernel_rfl) (by kernel_rfl) rfl (by kernel_rfl) (arg2_of fun x0 x1 h => isa_sign.eq G k _ x0 x1 h)
theorem isa_extras.here : ∃ fn, Tryd.prog.funcs[89]? = some fn ∧ fn.body.isSome = true ∧ (fn.name == "runtime.NumGoroutine") = false := ⟨_, Tryd.func89, by kernel_rfl, by kernel_rfl⟩
theorem isa_extras.eq (G : Globs) (k : Nat) (self : Den) (x0 x1 : AV) (h : AHeap) : absFn Tryd.prog G (envL (isa_extras.env G k self)) isa_extras.ann Tryd.f89.results.toList (codeOf Tryd.f89) Tryd.f89.ntmps k [x0, x1] h = isa_extras.c G k self x0 x1 h := by kernel_rfl
theorem isa_extras.sound {G : Globs} (hG : ∀ g x, G g = some x → plainB x = true) : ∀ k, Sound Tryd.prog G 89 (isa_extras.f G k)
  | 0 => sound_zero isa_extras.here (fun _ _ => rfl)
  | k + 1 => sound_succ (l := isa_extras.env G k (isa_extras.f G k)) (ann := isa_extras.ann) (n := k) (envSound_of hG (envCons (isa_field.sound hG k) (envCons (isa_sign.sound hG k) envNil))) orders Tryd.func89 (by kernel_rfl) (by kernel_rfl) rfl (by kernel_rfl) (arg2_of fun x0 x1 h => isa_extras.eq G k _ x0 x1 h)
theorem isa_as.here : ∃ fn, Tryd.prog.funcs[63]? = some fn ∧ fn.body.isSome = true ∧ (fn.name == "runtime.NumGoroutine") = false := ⟨_, Tryd.func63, by kernel_rfl, by kernel_rfl⟩
theorem isa_as.eq (G : Globs) (k : Nat) (self : Den) (x0 x1 : AV) (h : AHeap) : absFn Tryd.prog G (envL (isa_as.env G k self)) isa_as.ann Tryd.f63.results.toList (codeOf Tryd.f63) Tryd.f63.ntmps k [x0, x1] h = isa_as.c G k self x0 x1 h := by kernel_rfl
theorem isa_as.sound {G : Globs} (hG : ∀ g x, G g = some x → plainB x = true) : ∀ k, Sound Tryd.prog G 63 (isa_as.f G k)
  | 0 => sound_zero isa_as.here (fun _ _ => rfl)
  | k + 1 => sound_succ (l := isa_as.env G k (isa_as.f G k)) (ann := isa_as.ann) (n := k) (envSound_of hG (envCons (isa_Word.sound hG k) (envCons (isa_of.sound hG k) (envCons (isa_field.sound hG k) (envCons (isa_extras.sound hG k) envNil))))) orders Tryd.func63 (by kernel_rfl) (by kernel_rfl) rfl (by kernel_rfl) (arg2_of fun x0 x1 h => isa_as.eq G k _ x0 x1 h)
theorem isa_Of.here : ∃ fn, Tryd.prog.funcs[37]? = some fn ∧ fn.body.isSome = true ∧ (fn.name == "runtime.NumGoroutine") = false := ⟨_, Tryd.func37, by kernel_rfl, by kernel_rfl⟩
theorem isa_Of.eq (G : Globs) (k : Nat) (self : Den) (x0 : AV) (h : AHeap) : absFn Tryd.prog G (envL (isa_Of.env G k self)) isa_Of.ann Tryd.f37.results.toList (codeOf Tryd.f37) Tryd.f37.ntmps k [x0] h = isa_Of.c G k self x0 h := by kernel_rfl
theorem isa_Of.sound {G : Globs} (hG : ∀ g x, G g = some x → plainB x = true) : ∀ k, Sound Tryd.prog G 37 (isa_Of.f G k)
  | 0 => sound_zero isa_Of.here (fun _ _ => rfl)
  | k + 1 => sound_succ (l := isa_Of.env G k (isa_Of.f G k)) (ann := isa_Of.ann) (n := k) (envSound_of hG (envCons (isa_as.sound hG k) envNil)) orders Tryd.func37 (by kernel_rfl) (by kernel_rfl) rfl (by kernel_rfl) (arg1_of fun x0 h => isa_Of.eq G k _ x0 h)
theorem alembicref17_partsOf.here : ∃ fn, Tryd.prog.funcs[79]? = some fn ∧ fn.body.isSome = true ∧ (fn.name == "runtime.NumGoroutine") = false := ⟨_, Tryd.func79, by kernel_rfl, by kernel_rfl⟩
theorem alembicref17_partsOf.eq (G : Globs) (k : Nat) (self : Den) (x0 : AV) (h : AHeap) : absFn Tryd.prog G (envL (alembicref17_partsOf.env G k self)) alembicref17_partsOf.ann Tryd.f79.results.toList (codeOf Tryd.f79) Tryd.f79.ntmps k [x0] h = alembicref17_partsOf.c G k self x0 h := by kernel_rfl
theorem alembicref17_partsOf.sound {G : Globs} (hG : ∀ g x, G g = some x → plainB x = true) : ∀ k, Sound Tryd.prog G 79 (alembicref17_partsOf.f G k)
  | 0 => sound_zero alembicref17_partsOf.here (fun _ _ => rfl)
  | k + 1 => sound_succ (l := alembicref17_partsOf.env G k (alembicref17_partsOf.f G k)) (ann := alembicref17_partsOf.ann) (n := k) (envSound_of hG envNil) orders Tryd.func79 (by kernel_rfl) (by kernel_rfl) rfl (by kernel_rfl) (arg1_of fun x0 h => alembicref17_partsOf.eq G k _ x0 h)
theorem alembicref17_reg.here : ∃ fn, Tryd.prog.funcs[99]? = some fn ∧ fn.body.isSome = true ∧ (fn.name == "runtime.NumGoroutine") = false := ⟨_, Tryd.func99, by kernel_rfl, by kernel_rfl⟩
theorem alembicref17_reg.eq (G : Globs) (k : Nat) (self : Den) (x0 x1 : AV) (h : AHeap) : absFn Tryd.prog G (envL (alembicref17_reg.env G k self)) alembicref17_reg.ann Tryd.f99.results.toList (codeOf Tryd.f99) Tryd.f99.ntmps k [x0, x1] h = alembicref17_reg.c G k self x0 x1 h := by kernel_rfl
theorem alembicref17_reg.sound {G : Globs} (hG : ∀ g x, G g = some x → plainB x = true) : ∀ k, Sound Tryd.prog G 99 (alembicref17_reg.f G k)
  | 0 => sound_zero alembicref17_reg.here (fun _ _ => rfl)
  | k + 1 => sound_succ (l := alembicref17_reg.env G k (alembicref17_reg.f G k)) (ann := alembicref17_reg.ann) (n := k) (envSound_of hG envNil) orders Tryd.func99 (by kernel_rfl) (by kernel_rfl) rfl (by kernel_rfl) (arg2_of fun x0 x1 h => alembicref17_reg.eq G k _ x0 x1 h)
theorem alembicref17_cond.here : ∃ fn, Tryd.prog.funcs[100]? = some fn ∧ fn.body.isSome = true ∧ (fn.name == "runtime.NumGoroutine") = false := ⟨_, Tryd.func100, by kernel_rfl, by kernel_rfl⟩
theorem alembicref17_cond.eq (G : Globs) (k : Nat) (self : Den) (x0 : AV) (h : AHeap) : absFn Tryd.prog G (envL (alembicref17_cond.env G k self)) alembicref17_cond.ann Tryd.f100.results.toList (codeOf Tryd.f100) Tryd.f100.ntmps k [x0] h = alembicref17_cond.c G k self x0 h := by kernel_rfl
theorem alembicref17_cond.sound {G : Globs} (hG : ∀ g x, G g = some x → plainB x = true) : ∀ k, Sound Tryd.prog G 100 (alembicref17_cond.f G k)
  | 0 => sound_zero alembicref17_cond.here (fun _ _ => rfl)
  | k + 1 => sound_succ (l := alembicref17_cond.env G k (alembicref17_cond.f G k)) (ann := alembicref17_cond.ann) (n := k) (envSound_of hG envNil) orders Tryd.func100 (by kernel_rfl) (by kernel_rfl) rfl (by kernel_rfl) (arg1_of fun x0 h => alembicref17_cond.eq G k _ x0 h)
theorem alembicref17_far.here : ∃ fn, Tryd.prog.funcs[101]? = some fn ∧ fn.body.isSome = true ∧ (fn.name == "runtime.NumGoroutine") = false := ⟨_, Tryd.func101, by kernel_rfl, by kernel_rfl⟩
theorem alembicref17_far.eq (G : Globs) (k : Nat) (self : Den) (x0 x1 : AV) (h : AHeap) : absFn Tryd.prog G (envL (alembicref17_far.env G k self)) alembicref17_far.ann Tryd.f101.results.toList (codeOf Tryd.f101) Tryd.f101.ntmps k [x0, x1] h = alembicref17_far.c G k self x0 x1 h := by kernel_rfl
theorem alembicref17_far.sound {G : Globs} (hG : ∀ g x, G g = some x → plainB x = true) : ∀ k, Sound Tryd.prog G 101 (alembicref17_far.f G k)
  | 0 => sound_zero alembicref17_far.here (fun _ _ => rfl)
  | k + 1 => sound_succ (l := alembicref17_far.env G k (alembicref17_far.f G k)) (ann := alembicref17_far.ann) (n := k) (envSound_of hG envNil) orders Tryd.func101 (by kernel_rfl) (by kernel_rfl) rfl (by kernel_rfl) (arg2_of fun x0 x1 h => alembicref17_far.eq G k _ x0 x1 h)
theorem alembicref17_right.here : ∃ fn, Tryd.prog.funcs[78]? = some fn ∧ fn.body.isSome = true ∧ (fn.name == "runtime.NumGoroutine") = false := ⟨_, Tryd.func78, by kernel_rfl, by kernel_rfl⟩
theorem alembicref17_right.eq (G : Globs) (k : Nat) (self : Den) (x0 : AV) (h : AHeap) : absFn Tryd.prog G (envL (alembicref17_right.env G k self)) alembicref17_right.ann Tryd.f78.results.toList (codeOf Tryd.f78) Tryd.f78.ntmps k [x0] h = alembicref17_right.c G k self x0 h := by kernel_rfl
theorem alembicref17_right.sound {G : Globs} (hG : ∀ g x, G g = some x → plainB x = true) : ∀ k, Sound Tryd.prog G 78 (alembicref17_right.f G k)
  | 0 => sound_zero alembicref17_right.here (fun _ _ => rfl)
  | k + 1 => sound_succ (l := alembicref17_right.env G k (alembicref17_right.f G k)) (ann := alembicref17_right.ann) (n := k) (envSound_of hG (envCons (alembicref17_partsOf.sound hG k) (envCons (alembicref17_reg.sound hG k) (envCons (alembicref17_cond.sound hG k) (envCons (alembicref17_far.sound hG k) envNil))))) orders Tryd.func78 (by kernel_rfl) (by kernel_rfl) rfl (by kernel_rfl) (arg1_of fun x0 h => alembicref17_right.eq G k _ x0 h)
theorem alembicref17_base.here : ∃ fn, Tryd.prog.funcs[80]? = some fn ∧ fn.body.isSome = true ∧ (fn.name == "runtime.NumGoroutine") = false := ⟨_, Tryd.func80, by kernel_rfl, by kernel_rfl⟩
theorem alembicref17_base.eq (G : Globs) (k : Nat) (self : Den) (x0 : AV) (h : AHeap) : absFn Tryd.prog G (envL (alembicref17_base.env G k self)) alembicref17_base.ann Tryd.f80.results.toList (codeOf Tryd.f80) Tryd.f80.ntmps k [x0] h = alembicref17_base.c G k self x0 h := by kernel_rfl
theorem alembicref17_base.sound {G : Globs} (hG : ∀ g x, G g = some x → plainB x = true) : ∀ k, Sound Tryd.prog G 80 (alembicref17_base.f G k)
  | 0 => sound_zero alembicref17_base.here (fun _ _ => rfl)
  | k + 1 => sound_succ (l := alembicref17_base.env G k (alembicref17_base.f G k)) (ann := alembicref17_base.ann) (n := k) (envSound_of hG envNil) orders Tryd.func80 (by kernel_rfl) (by kernel_rfl) rfl (by kernel_rfl) (arg1_of fun x0 h => alembicref17_base.eq G k _ x0 h)
theorem alembicref17_Word.here : ∃ fn, Tryd.prog.funcs[55]? = some fn ∧ fn.body.isSome = true ∧ (fn.name == "runtime.NumGoroutine") = false := ⟨_, Tryd.func55, by kernel_rfl, by kernel_rfl⟩
theorem alembicref17_Word.eq (G : Globs) (k : Nat) (self : Den) (x0 : AV) (h : AHeap) : absFn Tryd.prog G (envL (alembicref17_Word.env G k self)) alembicref17_Word.ann Tryd.f55.results.toList (codeOf Tryd.f55) Tryd.f55.ntmps k [x0] h = alembicref17_Word.c G k self x0 h := by kernel_rfl
theorem alembicref17_Word.sound {G : Globs} (hG : ∀ g x, G g = some x → plainB x = true) : ∀ k, Sound Tryd.prog G 55 (alembicref17_Word.f G k)
  | 0 => sound_zero alembicref17_Word.here (fun _ _ => rfl)
  | k + 1 => sound_succ (l := alembicref17_Word.env G k (alembicref17_Word.f G k)) (ann := alembicref17_Word.ann) (n := k) (envSound_of hG (envCons (alembicref17_right.sound hG k) (envCons (alembicref17_partsOf.sound hG k) (envCons (alembicref17_base.sound hG k) envNil)))) orders Tryd.func55 (by kernel_rfl) (by kernel_rfl) rfl (by kernel_rfl) (arg1_of fun x0 h => alembicref17_Word.eq G k _ x0 h)
theorem alembicref17_signed.here : ∃ fn, Tryd.prog.funcs[98]? = some fn ∧ fn.body.isSome = true ∧ (fn.name == "runtime.NumGoroutine") = false := ⟨_, Tryd.func98, by kernel_rfl, by kernel_rfl⟩
theorem alembicref17_signed.eq (G : Globs) (k : Nat) (self : Den) (x0 x1 : AV) (h : AHeap) : absFn Tryd.prog G (envL (alembicref17_signed.env G k self)) alembicref17_signed.ann Tryd.f98.results.toList (codeOf Tryd.f98) Tryd.f98.ntmps k [x0, x1] h = alembicref17_signed.c G k self x0 x1 h := by kernel_rfl
theorem alembicref17_signed.sound {G : Globs} (hG : ∀ g x, G g = some x → plainB x = true) : ∀ k, Sound Tryd.prog G 98 (alembicref17_signed.f G k)
  | 0 => sound_zero alembicref17_signed.here (fun _ _ => rfl)
  | k + 1 => sound_succ (l := alembicref17_signed.env G k (alembicref17_signed.f G k)) (ann := alembicref17_signed.ann) (n := k) (envSound_of hG envNil) orders Tryd.func98 (by kernel_rfl) (by kernel_rfl) rfl (by kernel_rfl) (arg2_of fun x0 x1 h => alembicref17_signed.eq G k _ x0 x1 h)
theorem alembicref17_as.here : ∃ fn, Tryd.prog.funcs[77]? = some fn ∧ fn.body.isSome = true ∧ (fn.name == "runtime.NumGoroutine") = false := ⟨_, Tryd.func77, by kernel_rfl, by kernel_rfl⟩
theorem alembicref17_as.eq (G : Globs) (k : Nat) (self : Den) (x0 x1 : AV) (h : AHeap) : absFn Tryd.prog G (envL (alembicref17_as.env G k self)) alembicref17_as.ann Tryd.f77.results.toList (codeOf Tryd.f77) Tryd.f77.ntmps k [x0, x1] h = alembicref17_as.c G k self x0 x1 h := by kernel_rfl
theorem alembicref17_as.sound {G : Globs} (hG : ∀ g x, G g = some x → plainB x = true) : ∀ k, Sound Tryd.prog G 77 (alembicref17_as.f G k)
  | 0 => sound_zero alembicref17_as.here (fun _ _ => rfl)
  | k + 1 => sound_succ (l := alembicref17_as.env G k (alembicref17_as.f G k)) (ann := alembicref17_as.ann) (n := k) (envSound_of hG (envCons (alembicref17_Word.sound hG k) (envCons (alembicref17_partsOf.sound hG k) (envCons (alembicref17_signed.sound hG k) envNil)))) orders Tryd.func77 (by kernel_rfl) (by kernel_rfl) rfl (by kernel_rfl) (arg2_of fun x0 x1 h => alembicref17_as.eq G k _ x0 x1 h)
theorem alembicref17_Of.here : ∃ fn, Tryd.prog.funcs[51]? = some fn ∧ fn.body.isSome = true ∧ (fn.name == "runtime.NumGoroutine") = false := ⟨_, Tryd.func51, by kernel_rfl, by kernel_rfl⟩
theorem alembicref17_Of.eq (G : Globs) (k : Nat) (self : Den) (x0 : AV) (h : AHeap) : absFn Tryd.prog G (envL (alembicref17_Of.env G k self)) alembicref17_Of.ann Tryd.f51.results.toList (codeOf Tryd.f51) Tryd.f51.ntmps k [x0] h = alembicref17_Of.c G k self x0 h := by kernel_rfl
theorem alembicref17_Of.sound {G : Globs} (hG : ∀ g x, G g = some x → plainB x = true) : ∀ k, Sound Tryd.prog G 51 (alembicref17_Of.f G k)
  | 0 => sound_zero alembicref17_Of.here (fun _ _ => rfl)
  | k + 1 => sound_succ (l := alembicref17_Of.env G k (alembicref17_Of.f G k)) (ann := alembicref17_Of.ann) (n := k) (envSound_of hG (envCons (alembicref17_as.sound hG k) envNil)) orders Tryd.func51 (by kernel_rfl) (by kernel_rfl) rfl (by kernel_rfl) (arg1_of fun x0 h => alembicref17_Of.eq G k _ x0 h)
theorem mach_Holds.here : ∃ fn, Tryd.prog.funcs[33]? = some fn ∧ fn.body.isSome = true ∧ (fn.name == "runtime.NumGoroutine") = false := ⟨_, Tryd.func33, by kernel_rfl, by kernel_rfl⟩
theorem mach_Holds.eq (G : Globs) (k : Nat) (self : Den) (x0 x1 : AV) (h : AHeap) : absFn Tryd.prog G (envL (mach_Holds.env G k self)) mach_Holds.ann Tryd.f33.results.toList (codeOf Tryd.f33) Tryd.f33.ntmps k [x0, x1] h = mach_Holds.c G k self x0 x1 h := by kernel_rfl
theorem mach_Holds.sound {G : Globs} (hG : ∀ g x, G g = some x → plainB x = true) : ∀ k, Sound Tryd.prog G 33 (mach_Holds.f G k)
  | 0 => sound_zero mach_Holds.here (fun _ _ => rfl)
  | k + 1 => sound_succ (l := mach_Holds.env G k (mach_Holds.f G k)) (ann := mach_Holds.ann) (n := k) (envSound_of hG envNil) orders Tryd.func33 (by kernel_rfl) (by kernel_rfl) rfl (by kernel_rfl) (arg2_of fun x0 x1 h => mach_Holds.eq G k _ x0 x1 h)
theorem mach_get.here : ∃ fn, Tryd.prog.funcs[83]? = some fn ∧ fn.body.isSome = true ∧ (fn.name == "runtime.NumGoroutine") = false := ⟨_, Tryd.func83, by kernel_rfl, by kernel_rfl⟩
theorem mach_get.eq (G : Globs) (k : Nat) (self : Den) (x0 x1 : AV) (h : AHeap) : absFn Tryd.prog G (envL (mach_get.env G k self)) mach_get.ann Tryd.f83.results.toList (codeOf Tryd.f83) Tryd.f83.ntmps k [x0, x1] h = mach_get.c G k self x0 x1 h := by kernel_rfl
theorem mach_get.sound {G : Globs} (hG : ∀ g x, G g = some x → plainB x = true) : ∀ k, Sound Tryd.prog G 83 (mach_get.f G k)
  | 0 => sound_zero mach_get.here (fun _ _ => rfl)
  | k + 1 => sound_succ (l := mach_get.env G k (mach_get.f G k)) (ann := mach_get.ann) (n := k) (envSound_of hG envNil) orders Tryd.func83 (by kernel_rfl) (by kernel_rfl) rfl (by kernel_rfl) (arg2_of fun x0 x1 h => mach_get.eq G k _ x0 x1 h)
theorem mach_less.here : ∃ fn, Tryd.prog.funcs[84]? = some fn ∧ fn.body.isSome = true ∧ (fn.name == "runtime.NumGoroutine") = false := ⟨_, Tryd.func84, by kernel_rfl, by kernel_rfl⟩
theorem mach_less.eq (G : Globs) (k : Nat) (self : Den) (x0 x1 : AV) (h : AHeap) : absFn Tryd.prog G (envL (mach_less.env G k self)) mach_less.ann Tryd.f84.results.toList (codeOf Tryd.f84) Tryd.f84.ntmps k [x0, x1] h = mach_less.c G k self x0 x1 h := by kernel_rfl
theorem mach_less.sound {G : Globs} (hG : ∀ g x, G g = some x → plainB x = true) : ∀ k, Sound Tryd.prog G 84 (mach_less.f G k)
  | 0 => sound_zero mach_less.here (fun _ _ => rfl)
  | k + 1 => sound_succ (l := mach_less.env G k (mach_less.f G k)) (ann := mach_less.ann) (n := k) (envSound_of hG envNil) orders Tryd.func84 (by kernel_rfl) (by kernel_rfl) rfl (by kernel_rfl) (arg2_of fun x0 x1 h => mach_less.eq G k _ x0 x1 h)
theorem mach_set.here : ∃ fn, Tryd.prog.funcs[85]? = some fn ∧ fn.body.isSome = true ∧ (fn.name == "runtime.NumGoroutine") = false := ⟨_, Tryd.func85, by kernel_rfl, by kernel_rfl⟩
theorem mach_set.eq (G : Globs) (k : Nat) (self : Den) (x0 x1 x2 : AV) (h : AHeap) : absFn Tryd.prog G (envL (mach_set.env G k self)) mach_set.ann Tryd.f85.results.toList (codeOf Tryd.f85) Tryd.f85.ntmps k [x0, x1, x2] h = mach_set.c G k self x0 x1 x2 h := by kernel_rfl
theorem mach_set.sound {G : Globs} (hG : ∀ g x, G g = some x → plainB x = true) : ∀ k, Sound Tryd.prog G 85 (mach_set.f G k)
  | 0 => sound_zero mach_set.here (fun _ _ => rfl)
  | k + 1 => sound_succ (l := mach_set.env G k (mach_set.f G k)) (ann := mach_set.ann) (n := k) (envSound_of hG envNil) orders Tryd.func85 (by kernel_rfl) (by kernel_rfl) rfl (by kernel_rfl) (arg3_of fun x0 x1 x2 h => mach_set.eq G k _ x0 x1 x2 h)
theorem math_bits_Mul64.here : ∃ fn, Tryd.prog.funcs[56]? = some fn ∧ fn.body.isSome = true ∧ (fn.name == "runtime.NumGoroutine") = false := ⟨_, Tryd.func56, by kernel_rfl, by kernel_rfl⟩
theorem math_bits_Mul64.eq (G : Globs) (k : Nat) (self : Den) (x0 x1 : AV) (h : AHeap) : absFn Tryd.prog G (envL (math_bits_Mul64.env G k self)) math_bits_Mul64.ann Tryd.f56.results.toList (codeOf Tryd.f56) Tryd.f56.ntmps k [x0, x1] h = math_bits_Mul64.c G k self x0 x1 h := by kernel_rfl
theorem math_bits_Mul64.sound {G : Globs} (hG : ∀ g x, G g = some x → plainB x = true) : ∀ k, Sound Tryd.prog G 56 (math_bits_Mul64.f G k)
  | 0 => sound_zero math_bits_Mul64.here (fun _ _ => rfl)
  | k + 1 => sound_succ (l := math_bits_Mul64.env G k (math_bits_Mul64.f G k)) (ann := math_bits_Mul64.ann) (n := k) (envSound_of hG envNil) orders Tryd.func56 (by kernel_rfl) (by kernel_rfl) rfl (by kernel_rfl) (arg2_of fun x0 x1 h => math_bits_Mul64.eq G k _ x0 x1 h)
theorem mach_made.here : ∃ fn, Tryd.prog.funcs[86]? = some fn ∧ fn.body.isSome = true ∧ (fn.name == "runtime.NumGoroutine") = false := ⟨_, Tryd.func86, by kernel_rfl, by kernel_rfl⟩
theorem mach_made.eq (G : Globs) (k : Nat) (self : Den) (x0 x1 x2 x3 x4 x5 : AV) (h : AHeap) : absFn Tryd.prog G (envL (mach_made.env G k self)) mach_made.ann Tryd.f86.results.toList (codeOf Tryd.f86) Tryd.f86.ntmps k [x0, x1, x2, x3, x4, x5] h = mach_made.c G k self x0 x1 x2 x3 x4 x5 h := by kernel_rfl
theorem mach_made.sound {G : Globs} (hG : ∀ g x, G g = some x → plainB x = true) : ∀ k, Sound Tryd.prog G 86 (mach_made.f G k)
  | 0 => sound_zero mach_made.here (fun _ _ => rfl)
  | k + 1 => sound_succ (l := mach_made.env G k (mach_made.f G k)) (ann := mach_made.ann) (n := k) (envSound_of hG (envCons (math_bits_Mul64.sound hG k) envNil)) orders Tryd.func86 (by kernel_rfl) (by kernel_rfl) rfl (by kernel_rfl) (arg6_of fun x0 x1 x2 x3 x4 x5 h => mach_made.eq G k _ x0 x1 x2 x3 x4 x5 h)
theorem mach_does.here : ∃ fn, Tryd.prog.funcs[60]? = some fn ∧ fn.body.isSome = true ∧ (fn.name == "runtime.NumGoroutine") = false := ⟨_, Tryd.func60, by kernel_rfl, by kernel_rfl⟩
theorem mach_does.eq (G : Globs) (k : Nat) (self : Den) (x0 x1 x2 : AV) (h : AHeap) : absFn Tryd.prog G (envL (mach_does.env G k self)) mach_does.ann Tryd.f60.results.toList (codeOf Tryd.f60) Tryd.f60.ntmps k [x0, x1, x2] h = mach_does.c G k self x0 x1 x2 h := by kernel_rfl
theorem mach_does.sound {G : Globs} (hG : ∀ g x, G g = some x → plainB x = true) : ∀ k, Sound Tryd.prog G 60 (mach_does.f G k)
  | 0 => sound_zero mach_does.here (fun _ _ => rfl)
  | k + 1 => sound_succ (l := mach_does.env G k (mach_does.f G k)) (ann := mach_does.ann) (n := k) (envSound_of hG (envCons (mach_Holds.sound hG k) (envCons (mach_get.sound hG k) (envCons (mach_less.sound hG k) (envCons (mach_set.sound hG k) (envCons (mach_made.sound hG k) envNil)))))) orders Tryd.func60 (by kernel_rfl) (by kernel_rfl) rfl (by kernel_rfl) (arg3_of fun x0 x1 x2 h => mach_does.eq G k _ x0 x1 x2 h)
theorem alembicref17_Holds.here : ∃ fn, Tryd.prog.funcs[34]? = some fn ∧ fn.body.isSome = true ∧ (fn.name == "runtime.NumGoroutine") = false := ⟨_, Tryd.func34, by kernel_rfl, by kernel_rfl⟩
theorem alembicref17_Holds.eq (G : Globs) (k : Nat) (self : Den) (x0 x1 : AV) (h : AHeap) : absFn Tryd.prog G (envL (alembicref17_Holds.env G k self)) alembicref17_Holds.ann Tryd.f34.results.toList (codeOf Tryd.f34) Tryd.f34.ntmps k [x0, x1] h = alembicref17_Holds.c G k self x0 x1 h := by kernel_rfl
theorem alembicref17_Holds.sound {G : Globs} (hG : ∀ g x, G g = some x → plainB x = true) : ∀ k, Sound Tryd.prog G 34 (alembicref17_Holds.f G k)
  | 0 => sound_zero alembicref17_Holds.here (fun _ _ => rfl)
  | k + 1 => sound_succ (l := alembicref17_Holds.env G k (alembicref17_Holds.f G k)) (ann := alembicref17_Holds.ann) (n := k) (envSound_of hG envNil) orders Tryd.func34 (by kernel_rfl) (by kernel_rfl) rfl (by kernel_rfl) (arg2_of fun x0 x1 h => alembicref17_Holds.eq G k _ x0 x1 h)
theorem alembicref17_get.here : ∃ fn, Tryd.prog.funcs[52]? = some fn ∧ fn.body.isSome = true ∧ (fn.name == "runtime.NumGoroutine") = false := ⟨_, Tryd.func52, by kernel_rfl, by kernel_rfl⟩
theorem alembicref17_get.eq (G : Globs) (k : Nat) (self : Den) (x0 x1 : AV) (h : AHeap) : absFn Tryd.prog G (envL (alembicref17_get.env G k self)) alembicref17_get.ann Tryd.f52.results.toList (codeOf Tryd.f52) Tryd.f52.ntmps k [x0, x1] h = alembicref17_get.c G k self x0 x1 h := by kernel_rfl
theorem alembicref17_get.sound {G : Globs} (hG : ∀ g x, G g = some x → plainB x = true) : ∀ k, Sound Tryd.prog G 52 (alembicref17_get.f G k)
  | 0 => sound_zero alembicref17_get.here (fun _ _ => rfl)
  | k + 1 => sound_succ (l := alembicref17_get.env G k (alembicref17_get.f G k)) (ann := alembicref17_get.ann) (n := k) (envSound_of hG envNil) orders Tryd.func52 (by kernel_rfl) (by kernel_rfl) rfl (by kernel_rfl) (arg2_of fun x0 x1 h => alembicref17_get.eq G k _ x0 x1 h)
theorem alembicref17_set.here : ∃ fn, Tryd.prog.funcs[53]? = some fn ∧ fn.body.isSome = true ∧ (fn.name == "runtime.NumGoroutine") = false := ⟨_, Tryd.func53, by kernel_rfl, by kernel_rfl⟩
theorem alembicref17_set.eq (G : Globs) (k : Nat) (self : Den) (x0 x1 x2 : AV) (h : AHeap) : absFn Tryd.prog G (envL (alembicref17_set.env G k self)) alembicref17_set.ann Tryd.f53.results.toList (codeOf Tryd.f53) Tryd.f53.ntmps k [x0, x1, x2] h = alembicref17_set.c G k self x0 x1 x2 h := by kernel_rfl
theorem alembicref17_set.sound {G : Globs} (hG : ∀ g x, G g = some x → plainB x = true) : ∀ k, Sound Tryd.prog G 53 (alembicref17_set.f G k)
  | 0 => sound_zero alembicref17_set.here (fun _ _ => rfl)
  | k + 1 => sound_succ (l := alembicref17_set.env G k (alembicref17_set.f G k)) (ann := alembicref17_set.ann) (n := k) (envSound_of hG envNil) orders Tryd.func53 (by kernel_rfl) (by kernel_rfl) rfl (by kernel_rfl) (arg3_of fun x0 x1 x2 h => alembicref17_set.eq G k _ x0 x1 x2 h)
theorem alembicref17_One.here : ∃ fn, Tryd.prog.funcs[25]? = some fn ∧ fn.body.isSome = true ∧ (fn.name == "runtime.NumGoroutine") = false := ⟨_, Tryd.func25, by kernel_rfl, by kernel_rfl⟩
theorem alembicref17_One.eq (G : Globs) (k : Nat) (self : Den) (x0 x1 x2 : AV) (h : AHeap) : absFn Tryd.prog G (envL (alembicref17_One.env G k self)) alembicref17_One.ann Tryd.f25.results.toList (codeOf Tryd.f25) Tryd.f25.ntmps k [x0, x1, x2] h = alembicref17_One.c G k self x0 x1 x2 h := by kernel_rfl
theorem alembicref17_One.sound {G : Globs} (hG : ∀ g x, G g = some x → plainB x = true) : ∀ k, Sound Tryd.prog G 25 (alembicref17_One.f G k)
  | 0 => sound_zero alembicref17_One.here (fun _ _ => rfl)
  | k + 1 => sound_succ (l := alembicref17_One.env G k (alembicref17_One.f G k)) (ann := alembicref17_One.ann) (n := k) (envSound_of hG (envCons (alembicref17_Holds.sound hG k) (envCons (alembicref17_get.sound hG k) (envCons (alembicref17_set.sound hG k) (envCons (alembicref17_Word.sound hG k) (envCons (math_bits_Mul64.sound hG k) envNil)))))) orders Tryd.func25 (by kernel_rfl) (by kernel_rfl) rfl (by kernel_rfl) (arg3_of fun x0 x1 x2 h => alembicref17_One.eq G k _ x0 x1 x2 h)
theorem slices_Clone___uint64uint64_.here : ∃ fn, Tryd.prog.funcs[57]? = some fn ∧ fn.body.isSome = true ∧ (fn.name == "runtime.NumGoroutine") = false := ⟨_, Tryd.func57, by kernel_rfl, by kernel_rfl⟩
theorem slices_Clone___uint64uint64_.eq (G : Globs) (k : Nat) (self : Den) (x0 : AV) (h : AHeap) : absFnO Tryd.prog G (envL (slices_Clone___uint64uint64_.env G k self)) slices_Clone___uint64uint64_.ann Tryd.f57.results.toList (codeOf Tryd.f57) Tryd.f57.ntmps k [x0] h = slices_Clone___uint64uint64_.c G k self x0 h := by kernel_rfl
theorem slices_Clone___uint64uint64_.sound {G : Globs} (hG : ∀ g x, G g = some x → plainB x = true) : ∀ k, Sound Tryd.prog G 57 (slices_Clone___uint64uint64_.f G k)
  | 0 => sound_zero slices_Clone___uint64uint64_.here (fun _ _ => rfl)
  | k + 1 => sound_succO (l := slices_Clone___uint64uint64_.env G k (slices_Clone___uint64uint64_.f G k)) (ann := slices_Clone___uint64uint64_.ann) (n := k) (envSound_of hG envNil) orders Tryd.func57 (by kernel_rfl) (by kernel_rfl) rfl (by kernel_rfl) (arg1_of fun x0 h => slices_Clone___uint64uint64_.eq G k _ x0 h)
theorem mach_run_leak.here : ∃ fn, Tryd.prog.funcs[58]? = some fn ∧ fn.body.isSome = true ∧ (fn.name == "runtime.NumGoroutine") = false := ⟨_, Tryd.func58, by kernel_rfl, by kernel_rfl⟩
theorem mach_run_leak.eq (G : Globs) (k : Nat) (self : Den) (x0 x1 x2 : AV) (h : AHeap) : absFn Tryd.prog G (envL (mach_run_leak.env G k self)) mach_run_leak.ann Tryd.f58.results.toList (codeOf Tryd.f58) Tryd.f58.ntmps k [x0, x1, x2] h = mach_run_leak.c G k self x0 x1 x2 h := by kernel_rfl
theorem mach_run_leak.sound {G : Globs} (hG : ∀ g x, G g = some x → plainB x = true) : ∀ k, Sound Tryd.prog G 58 (mach_run_leak.f G k)
  | 0 => sound_zero mach_run_leak.here (fun _ _ => rfl)
  | k + 1 => sound_succ (l := mach_run_leak.env G k (mach_run_leak.f G k)) (ann := mach_run_leak.ann) (n := k) (envSound_of hG envNil) orders Tryd.func58 (by kernel_rfl) (by kernel_rfl) rfl (by kernel_rfl) (arg3_of fun x0 x1 x2 h => mach_run_leak.eq G k _ x0 x1 x2 h)
theorem mach_run_touch.here : ∃ fn, Tryd.prog.funcs[81]? = some fn ∧ fn.body.isSome = true ∧ (fn.name == "runtime.NumGoroutine") = false := ⟨_, Tryd.func81, by kernel_rfl, by kernel_rfl⟩
theorem mach_run_touch.eq (G : Globs) (k : Nat) (self : Den) (x0 x1 : AV) (h : AHeap) : absFn Tryd.prog G (envL (mach_run_touch.env G k self)) mach_run_touch.ann Tryd.f81.results.toList (codeOf Tryd.f81) Tryd.f81.ntmps k [x0, x1] h = mach_run_touch.c G k self x0 x1 h := by kernel_rfl
theorem mach_run_touch.sound {G : Globs} (hG : ∀ g x, G g = some x → plainB x = true) : ∀ k, Sound Tryd.prog G 81 (mach_run_touch.f G k)
  | 0 => sound_zero mach_run_touch.here (fun _ _ => rfl)
  | k + 1 => sound_succ (l := mach_run_touch.env G k (mach_run_touch.f G k)) (ann := mach_run_touch.ann) (n := k) (envSound_of hG (envCons (mach_run_leak.sound hG k) (envCons (mach_get.sound hG k) (envCons (mach_set.sound hG k) envNil)))) orders Tryd.func81 (by kernel_rfl) (by kernel_rfl) rfl (by kernel_rfl) (arg2_of fun x0 x1 h => mach_run_touch.eq G k _ x0 x1 h)
theorem mach_run_goes.here : ∃ fn, Tryd.prog.funcs[102]? = some fn ∧ fn.body.isSome = true ∧ (fn.name == "runtime.NumGoroutine") = false := ⟨_, Tryd.func102, by kernel_rfl, by kernel_rfl⟩
theorem mach_run_goes.eq (G : Globs) (k : Nat) (self : Den) (x0 x1 : AV) (h : AHeap) : absFn Tryd.prog G (envL (mach_run_goes.env G k self)) mach_run_goes.ann Tryd.f102.results.toList (codeOf Tryd.f102) Tryd.f102.ntmps k [x0, x1] h = mach_run_goes.c G k self x0 x1 h := by kernel_rfl
theorem mach_run_goes.sound {G : Globs} (hG : ∀ g x, G g = some x → plainB x = true) : ∀ k, Sound Tryd.prog G 102 (mach_run_goes.f G k)
  | 0 => sound_zero mach_run_goes.here (fun _ _ => rfl)
  | k + 1 => sound_succ (l := mach_run_goes.env G k (mach_run_goes.f G k)) (ann := mach_run_goes.ann) (n := k) (envSound_of hG (envCons (mach_Holds.sound hG k) (envCons (mach_get.sound hG k) envNil))) orders Tryd.func102 (by kernel_rfl) (by kernel_rfl) rfl (by kernel_rfl) (arg2_of fun x0 x1 h => mach_run_goes.eq G k _ x0 x1 h)
theorem mach_run_branch.here : ∃ fn, Tryd.prog.funcs[82]? = some fn ∧ fn.body.isSome = true ∧ (fn.name == "runtime.NumGoroutine") = false := ⟨_, Tryd.func82, by kernel_rfl, by kernel_rfl⟩
theorem mach_run_branch.eq (G : Globs) (k : Nat) (self : Den) (x0 x1 : AV) (h : AHeap) : absFn Tryd.prog G (envL (mach_run_branch.env G k self)) mach_run_branch.ann Tryd.f82.results.toList (codeOf Tryd.f82) Tryd.f82.ntmps k [x0, x1] h = mach_run_branch.c G k self x0 x1 h := by kernel_rfl
theorem mach_run_branch.sound {G : Globs} (hG : ∀ g x, G g = some x → plainB x = true) : ∀ k, Sound Tryd.prog G 82 (mach_run_branch.f G k)
  | 0 => sound_zero mach_run_branch.here (fun _ _ => rfl)
  | k + 1 => sound_succ (l := mach_run_branch.env G k (mach_run_branch.f G k)) (ann := mach_run_branch.ann) (n := k) (envSound_of hG (envCons (mach_run_leak.sound hG k) (envCons (mach_run_goes.sound hG k) envNil))) orders Tryd.func82 (by kernel_rfl) (by kernel_rfl) rfl (by kernel_rfl) (arg2_of fun x0 x1 h => mach_run_branch.eq G k _ x0 x1 h)
theorem mach_run_step.here : ∃ fn, Tryd.prog.funcs[59]? = some fn ∧ fn.body.isSome = true ∧ (fn.name == "runtime.NumGoroutine") = false := ⟨_, Tryd.func59, by kernel_rfl, by kernel_rfl⟩
theorem mach_run_step.eq (G : Globs) (k : Nat) (self : Den) (x0 x1 : AV) (h : AHeap) : absFn Tryd.prog G (envL (mach_run_step.env G k self)) mach_run_step.ann Tryd.f59.results.toList (codeOf Tryd.f59) Tryd.f59.ntmps k [x0, x1] h = mach_run_step.c G k self x0 x1 h := by kernel_rfl
theorem mach_run_step.sound {G : Globs} (hG : ∀ g x, G g = some x → plainB x = true) : ∀ k, Sound Tryd.prog G 59 (mach_run_step.f G k)
  | 0 => sound_zero mach_run_step.here (fun _ _ => rfl)
  | k + 1 => sound_succ (l := mach_run_step.env G k (mach_run_step.f G k)) (ann := mach_run_step.ann) (n := k) (envSound_of hG (envCons (isa_Of.sound hG k) (envCons (mach_does.sound hG k) (envCons (mach_run_touch.sound hG k) (envCons (mach_run_branch.sound hG k) envNil))))) orders Tryd.func59 (by kernel_rfl) (by kernel_rfl) rfl (by kernel_rfl) (arg2_of fun x0 x1 h => mach_run_step.eq G k _ x0 x1 h)
theorem mach_Run.here : ∃ fn, Tryd.prog.funcs[28]? = some fn ∧ fn.body.isSome = true ∧ (fn.name == "runtime.NumGoroutine") = false := ⟨_, Tryd.func28, by kernel_rfl, by kernel_rfl⟩
theorem mach_Run.eq (G : Globs) (k : Nat) (self : Den) (x0 x1 x2 : AV) (h : AHeap) : absFn Tryd.prog G (envL (mach_Run.env G k self)) mach_Run.ann Tryd.f28.results.toList (codeOf Tryd.f28) Tryd.f28.ntmps k [x0, x1, x2] h = mach_Run.c G k self x0 x1 x2 h := by kernel_rfl
theorem mach_Run.sound {G : Globs} (hG : ∀ g x, G g = some x → plainB x = true) : ∀ k, Sound Tryd.prog G 28 (mach_Run.f G k)
  | 0 => sound_zero mach_Run.here (fun _ _ => rfl)
  | k + 1 => sound_succ (l := mach_Run.env G k (mach_Run.f G k)) (ann := mach_Run.ann) (n := k) (envSound_of hG (envCons (slices_Clone___uint64uint64_.sound hG k) (envCons (mach_run_leak.sound hG k) (envCons (mach_run_step.sound hG k) envNil)))) orders Tryd.func28 (by kernel_rfl) (by kernel_rfl) rfl (by kernel_rfl) (arg3_of fun x0 x1 x2 h => mach_Run.eq G k _ x0 x1 x2 h)
theorem alembiclaw23_first.here : ∃ fn, Tryd.prog.funcs[27]? = some fn ∧ fn.body.isSome = true ∧ (fn.name == "runtime.NumGoroutine") = false := ⟨_, Tryd.func27, by kernel_rfl, by kernel_rfl⟩
theorem alembiclaw23_first.eq (G : Globs) (k : Nat) (self : Den) (h : AHeap) : absFn Tryd.prog G (envL (alembiclaw23_first.env G k self)) alembiclaw23_first.ann Tryd.f27.results.toList (codeOf Tryd.f27) Tryd.f27.ntmps k [] h = alembiclaw23_first.c G k self h := by kernel_rfl
theorem alembiclaw23_first.sound {G : Globs} (hG : ∀ g x, G g = some x → plainB x = true) : ∀ k, Sound Tryd.prog G 27 (alembiclaw23_first.f G k)
  | 0 => sound_zero alembiclaw23_first.here (fun _ _ => rfl)
  | k + 1 => sound_succ (l := alembiclaw23_first.env G k (alembiclaw23_first.f G k)) (ann := alembiclaw23_first.ann) (n := k) (envSound_of hG (envCons (mach_Run.sound hG k) (envCons (mach_Holds.sound hG k) envNil))) orders Tryd.func27 (by kernel_rfl) (by kernel_rfl) rfl (by kernel_rfl) (arg0_of fun h => alembiclaw23_first.eq G k _ h)
theorem alembiclaw23_regs.here : ∃ fn, Tryd.prog.funcs[30]? = some fn ∧ fn.body.isSome = true ∧ (fn.name == "runtime.NumGoroutine") = false := ⟨_, Tryd.func30, by kernel_rfl, by kernel_rfl⟩
theorem alembiclaw23_regs.eq (G : Globs) (k : Nat) (self : Den) (x0 x1 : AV) (h : AHeap) : absFn Tryd.prog G (envL (alembiclaw23_regs.env G k self)) alembiclaw23_regs.ann Tryd.f30.results.toList (codeOf Tryd.f30) Tryd.f30.ntmps k [x0, x1] h = alembiclaw23_regs.c G k self x0 x1 h := by kernel_rfl
theorem alembiclaw23_regs.sound {G : Globs} (hG : ∀ g x, G g = some x → plainB x = true) : ∀ k, Sound Tryd.prog G 30 (alembiclaw23_regs.f G k)
  | 0 => sound_zero alembiclaw23_regs.here (fun _ _ => rfl)
  | k + 1 => sound_succ (l := alembiclaw23_regs.env G k (alembiclaw23_regs.f G k)) (ann := alembiclaw23_regs.ann) (n := k) (envSound_of hG envNil) orders Tryd.func30 (by kernel_rfl) (by kernel_rfl) rfl (by kernel_rfl) (arg2_of fun x0 x1 h => alembiclaw23_regs.eq G k _ x0 x1 h)
theorem alembicworld_Number.here : ∃ fn, Tryd.prog.funcs[26]? = some fn ∧ fn.body.isSome = true ∧ (fn.name == "runtime.NumGoroutine") = false := ⟨_, Tryd.func26, by kernel_rfl, by kernel_rfl⟩
theorem alembicworld_Number.eq (G : Globs) (k : Nat) (self : Den) (x0 x1 : AV) (h : AHeap) : absFn Tryd.prog G (envL (alembicworld_Number.env G k self)) alembicworld_Number.ann Tryd.f26.results.toList (codeOf Tryd.f26) Tryd.f26.ntmps k [x0, x1] h = alembicworld_Number.c G k self x0 x1 h := by kernel_rfl
theorem alembicworld_Number.sound {G : Globs} (hG : ∀ g x, G g = some x → plainB x = true) : ∀ k, Sound Tryd.prog G 26 (alembicworld_Number.f G k)
  | 0 => sound_zero alembicworld_Number.here (fun _ _ => rfl)
  | k + 1 => sound_succ (l := alembicworld_Number.env G k (alembicworld_Number.f G k)) (ann := alembicworld_Number.ann) (n := k) (envSound_of hG envNil) orders Tryd.func26 (by kernel_rfl) (by kernel_rfl) rfl (by kernel_rfl) (arg2_of fun x0 x1 h => alembicworld_Number.eq G k _ x0 x1 h)
end Go.Proofs.YtdfglgnflldkpaaDoor.Mir
namespace Go.Proofs.YtdfglgnflldkpaaDoor.Mir
open Go
set_option linter.unusedVariables false
theorem alembicref_Words.here : ∃ fn, Tryd.prog.funcs[46]? = some fn ∧ fn.body.isSome = true ∧ (fn.name == "runtime.NumGoroutine") = false := ⟨_, Tryd.func46, by kernel_rfl, by kernel_rfl⟩
theorem alembicref_Words.eq (G : Globs) (k : Nat) (self : Den) (x0 : AV) (h : AHeap) : absFnO Tryd.prog G (envL (alembicref_Words.env G k self)) alembicref_Words.ann Tryd.f46.results.toList (codeOf Tryd.f46) Tryd.f46.ntmps k [x0] h = alembicref_Words.c G k self x0 h := by kernel_rfl
theorem alembicref_Words.sound {G : Globs} (hG : ∀ g x, G g = some x → plainB x = true) : ∀ k, Sound Tryd.prog G 46 (alembicref_Words.f G k)
  | 0 => sound_zero alembicref_Words.here (fun _ _ => rfl)
  | k + 1 => sound_succO (l := alembicref_Words.env G k (alembicref_Words.f G k)) (ann := alembicref_Words.ann) (n := k) (envSound_of hG envNil) orders Tryd.func46 (by kernel_rfl) (by kernel_rfl) rfl (by kernel_rfl) (arg1_of fun x0 h => alembicref_Words.eq G k _ x0 h)
theorem alembicref17_one.here : ∃ fn, Tryd.prog.funcs[47]? = some fn ∧ fn.body.isSome = true ∧ (fn.name == "runtime.NumGoroutine") = false := ⟨_, Tryd.func47, by kernel_rfl, by kernel_rfl⟩
theorem alembicref17_one.eq (G : Globs) (k : Nat) (self : Den) (x0 : AV) (h : AHeap) : absFn Tryd.prog G (envL (alembicref17_one.env G k self)) alembicref17_one.ann Tryd.f47.results.toList (codeOf Tryd.f47) Tryd.f47.ntmps k [x0] h = alembicref17_one.c G k self x0 h := by kernel_rfl
theorem alembicref17_one.sound {G : Globs} (hG : ∀ g x, G g = some x → plainB x = true) : ∀ k, Sound Tryd.prog G 47 (alembicref17_one.f G k)
  | 0 => sound_zero alembicref17_one.here (fun _ _ => rfl)
  | k + 1 => sound_succ (l := alembicref17_one.env G k (alembicref17_one.f G k)) (ann := alembicref17_one.ann) (n := k) (envSound_of hG envNil) orders Tryd.func47 (by kernel_rfl) (by kernel_rfl) rfl (by kernel_rfl) (arg1_of fun x0 h => alembicref17_one.eq G k _ x0 h)
theorem alembicref17_RunMach.here : ∃ fn, Tryd.prog.funcs[22]? = some fn ∧ fn.body.isSome = true ∧ (fn.name == "runtime.NumGoroutine") = false := ⟨_, Tryd.func22, by kernel_rfl, by kernel_rfl⟩
theorem alembicref17_RunMach.eq (G : Globs) (k : Nat) (self : Den) (x0 x1 x2 : AV) (h : AHeap) : absFn Tryd.prog G (envL (alembicref17_RunMach.env G k self)) alembicref17_RunMach.ann Tryd.f22.results.toList (codeOf Tryd.f22) Tryd.f22.ntmps k [x0, x1, x2] h = alembicref17_RunMach.c G k self x0 x1 x2 h := by kernel_rfl
theorem alembicref17_RunMach.sound {G : Globs} (hG : ∀ g x, G g = some x → plainB x = true) : ∀ k, Sound Tryd.prog G 22 (alembicref17_RunMach.f G k)
  | 0 => sound_zero alembicref17_RunMach.here (fun _ _ => rfl)
  | k + 1 => sound_succ (l := alembicref17_RunMach.env G k (alembicref17_RunMach.f G k)) (ann := alembicref17_RunMach.ann) (n := k) (envSound_of hG (envCons (alembicref17_One.sound hG k) (envCons (alembicref17_Holds.sound hG k) (envCons (alembicref_Words.sound hG k) (envCons (alembicref17_one.sound hG k) (envCons (alembicref17_Of.sound hG k) (envCons (alembicref17_get.sound hG k) (envCons (alembicref17_set.sound hG k) envNil)))))))) orders Tryd.func22 (by kernel_rfl) (by kernel_rfl) rfl (by kernel_rfl) (arg3_of fun x0 x1 x2 h => alembicref17_RunMach.eq G k _ x0 x1 x2 h)
end Go.Proofs.YtdfglgnflldkpaaDoor.Mir
namespace Go.Proofs.YtdfglgnflldkpaaDoor.Mir
open Go
set_option linter.unusedVariables false
theorem words_name.here : ∃ fn, Tryd.prog.funcs[106]? = some fn ∧ fn.body.isSome = true ∧ (fn.name == "runtime.NumGoroutine") = false := ⟨_, Tryd.func106, by kernel_rfl, by kernel_rfl⟩
theorem words_name.eq (G : Globs) (k : Nat) (self : Den) (x0 : AV) (h : AHeap) : absFn Tryd.prog G (envL (words_name.env G k self)) words_name.ann Tryd.f106.results.toList (codeOf Tryd.f106) Tryd.f106.ntmps k [x0] h = words_name.c G k self x0 h := by kernel_rfl
theorem words_name.sound {G : Globs} (hG : ∀ g x, G g = some x → plainB x = true) : ∀ k, Sound Tryd.prog G 106 (words_name.f G k)
  | 0 => sound_zero words_name.here (fun _ _ => rfl)
  | k + 1 => sound_succ (l := words_name.env G k (words_name.f G k)) (ann := words_name.ann) (n := k) (envSound_of hG envNil) orders Tryd.func106 (by kernel_rfl) (by kernel_rfl) rfl (by kernel_rfl) (arg1_of fun x0 h => words_name.eq G k _ x0 h)
theorem words_Of.here : ∃ fn, Tryd.prog.funcs[90]? = some fn ∧ fn.body.isSome = true ∧ (fn.name == "runtime.NumGoroutine") = false := ⟨_, Tryd.func90, by kernel_rfl, by kernel_rfl⟩
theorem words_Of.eq (G : Globs) (k : Nat) (self : Den) (x0 : AV) (h : AHeap) : absFn Tryd.prog G (envL (words_Of.env G k self)) words_Of.ann Tryd.f90.results.toList (codeOf Tryd.f90) Tryd.f90.ntmps k [x0] h = words_Of.c G k self x0 h := by kernel_rfl
theorem words_Of.sound {G : Globs} (hG : ∀ g x, G g = some x → plainB x = true) : ∀ k, Sound Tryd.prog G 90 (words_Of.f G k)
  | 0 => sound_zero words_Of.here (fun _ _ => rfl)
  | k + 1 => sound_succ (l := words_Of.env G k (words_Of.f G k)) (ann := words_Of.ann) (n := k) (envSound_of hG (envCons (words_name.sound hG k) envNil)) orders Tryd.func90 (by kernel_rfl) (by kernel_rfl) rfl (by kernel_rfl) (arg1_of fun x0 h => words_Of.eq G k _ x0 h)
theorem words_has.here : ∃ fn, Tryd.prog.funcs[91]? = some fn ∧ fn.body.isSome = true ∧ (fn.name == "runtime.NumGoroutine") = false := ⟨_, Tryd.func91, by kernel_rfl, by kernel_rfl⟩
theorem words_has.eq (G : Globs) (k : Nat) (self : Den) (x0 x1 : AV) (h : AHeap) : absFn Tryd.prog G (envL (words_has.env G k self)) words_has.ann Tryd.f91.results.toList (codeOf Tryd.f91) Tryd.f91.ntmps k [x0, x1] h = words_has.c G k self x0 x1 h := by kernel_rfl
theorem words_has.sound {G : Globs} (hG : ∀ g x, G g = some x → plainB x = true) : ∀ k, Sound Tryd.prog G 91 (words_has.f G k)
  | 0 => sound_zero words_has.here (fun _ _ => rfl)
  | k + 1 => sound_succ (l := words_has.env G k (words_has.f G k)) (ann := words_has.ann) (n := k) (envSound_of hG envNil) orders Tryd.func91 (by kernel_rfl) (by kernel_rfl) rfl (by kernel_rfl) (arg2_of fun x0 x1 h => words_has.eq G k _ x0 x1 h)
theorem words_one.here : ∃ fn, Tryd.prog.funcs[64]? = some fn ∧ fn.body.isSome = true ∧ (fn.name == "runtime.NumGoroutine") = false := ⟨_, Tryd.func64, by kernel_rfl, by kernel_rfl⟩
theorem words_one.eq (G : Globs) (k : Nat) (self : Den) (x0 x1 : AV) (h : AHeap) : absFn Tryd.prog G (envL (words_one.env G k self)) words_one.ann Tryd.f64.results.toList (codeOf Tryd.f64) Tryd.f64.ntmps k [x0, x1] h = words_one.c G k self x0 x1 h := by kernel_rfl
theorem words_one.sound {G : Globs} (hG : ∀ g x, G g = some x → plainB x = true) : ∀ k, Sound Tryd.prog G 64 (words_one.f G k)
  | 0 => sound_zero words_one.here (fun _ _ => rfl)
  | k + 1 => sound_succ (l := words_one.env G k (words_one.f G k)) (ann := words_one.ann) (n := k) (envSound_of hG (envCons (words_Of.sound hG k) (envCons (words_has.sound hG k) envNil))) orders Tryd.func64 (by kernel_rfl) (by kernel_rfl) rfl (by kernel_rfl) (arg2_of fun x0 x1 h => words_one.eq G k _ x0 x1 h)
theorem words_Valid.here : ∃ fn, Tryd.prog.funcs[38]? = some fn ∧ fn.body.isSome = true ∧ (fn.name == "runtime.NumGoroutine") = false := ⟨_, Tryd.func38, by kernel_rfl, by kernel_rfl⟩
theorem words_Valid.eq (G : Globs) (k : Nat) (self : Den) (x0 : AV) (h : AHeap) : absFn Tryd.prog G (envL (words_Valid.env G k self)) words_Valid.ann Tryd.f38.results.toList (codeOf Tryd.f38) Tryd.f38.ntmps k [x0] h = words_Valid.c G k self x0 h := by kernel_rfl
theorem words_Valid.sound {G : Globs} (hG : ∀ g x, G g = some x → plainB x = true) : ∀ k, Sound Tryd.prog G 38 (words_Valid.f G k)
  | 0 => sound_zero words_Valid.here (fun _ _ => rfl)
  | k + 1 => sound_succ (l := words_Valid.env G k (words_Valid.f G k)) (ann := words_Valid.ann) (n := k) (envSound_of hG (envCons (words_one.sound hG k) envNil)) orders Tryd.func38 (by kernel_rfl) (by kernel_rfl) rfl (by kernel_rfl) (arg1_of fun x0 h => words_Valid.eq G k _ x0 h)
theorem sel_constant.here : ∃ fn, Tryd.prog.funcs[54]? = some fn ∧ fn.body.isSome = true ∧ (fn.name == "runtime.NumGoroutine") = false := ⟨_, Tryd.func54, by kernel_rfl, by kernel_rfl⟩
theorem sel_constant.eq (G : Globs) (k : Nat) (self : Den) (x0 x1 : AV) (h : AHeap) : absFnO Tryd.prog G (envL (sel_constant.env G k self)) sel_constant.ann Tryd.f54.results.toList (codeOf Tryd.f54) Tryd.f54.ntmps k [x0, x1] h = sel_constant.c G k self x0 x1 h := by kernel_rfl
theorem sel_constant.sound {G : Globs} (hG : ∀ g x, G g = some x → plainB x = true) : ∀ k, Sound Tryd.prog G 54 (sel_constant.f G k)
  | 0 => sound_zero sel_constant.here (fun _ _ => rfl)
  | k + 1 => sound_succO (l := sel_constant.env G k (sel_constant.f G k)) (ann := sel_constant.ann) (n := k) (envSound_of hG envNil) orders Tryd.func54 (by kernel_rfl) (by kernel_rfl) rfl (by kernel_rfl) (arg2_of fun x0 x1 h => sel_constant.eq G k _ x0 x1 h)
theorem sel_maker_put.here : ∃ fn, Tryd.prog.funcs[65]? = some fn ∧ fn.body.isSome = true ∧ (fn.name == "runtime.NumGoroutine") = false := ⟨_, Tryd.func65, by kernel_rfl, by kernel_rfl⟩
theorem sel_maker_put.eq (G : Globs) (k : Nat) (self : Den) (x0 x1 : AV) (h : AHeap) : absFn Tryd.prog G (envL (sel_maker_put.env G k self)) sel_maker_put.ann Tryd.f65.results.toList (codeOf Tryd.f65) Tryd.f65.ntmps k [x0, x1] h = sel_maker_put.c G k self x0 x1 h := by kernel_rfl
theorem sel_maker_put.sound {G : Globs} (hG : ∀ g x, G g = some x → plainB x = true) : ∀ k, Sound Tryd.prog G 65 (sel_maker_put.f G k)
  | 0 => sound_zero sel_maker_put.here (fun _ _ => rfl)
  | k + 1 => sound_succ (l := sel_maker_put.env G k (sel_maker_put.f G k)) (ann := sel_maker_put.ann) (n := k) (envSound_of hG envNil) orders Tryd.func65 (by kernel_rfl) (by kernel_rfl) rfl (by kernel_rfl) (arg2_of fun x0 x1 h => sel_maker_put.eq G k _ x0 x1 h)
theorem sel_maker_three.here : ∃ fn, Tryd.prog.funcs[66]? = some fn ∧ fn.body.isSome = true ∧ (fn.name == "runtime.NumGoroutine") = false := ⟨_, Tryd.func66, by kernel_rfl, by kernel_rfl⟩
theorem sel_maker_three.eq (G : Globs) (k : Nat) (self : Den) (x0 x1 x2 : AV) (h : AHeap) : absFn Tryd.prog G (envL (sel_maker_three.env G k self)) sel_maker_three.ann Tryd.f66.results.toList (codeOf Tryd.f66) Tryd.f66.ntmps k [x0, x1, x2] h = sel_maker_three.c G k self x0 x1 x2 h := by kernel_rfl
theorem sel_maker_three.sound {G : Globs} (hG : ∀ g x, G g = some x → plainB x = true) : ∀ k, Sound Tryd.prog G 66 (sel_maker_three.f G k)
  | 0 => sound_zero sel_maker_three.here (fun _ _ => rfl)
  | k + 1 => sound_succ (l := sel_maker_three.env G k (sel_maker_three.f G k)) (ann := sel_maker_three.ann) (n := k) (envSound_of hG (envCons (sel_maker_put.sound hG k) envNil)) orders Tryd.func66 (by kernel_rfl) (by kernel_rfl) rfl (by kernel_rfl) (arg3_of fun x0 x1 x2 h => sel_maker_three.eq G k _ x0 x1 x2 h)
theorem sel_maker_shift.here : ∃ fn, Tryd.prog.funcs[67]? = some fn ∧ fn.body.isSome = true ∧ (fn.name == "runtime.NumGoroutine") = false := ⟨_, Tryd.func67, by kernel_rfl, by kernel_rfl⟩
theorem sel_maker_shift.eq (G : Globs) (k : Nat) (self : Den) (x0 x1 x2 : AV) (h : AHeap) : absFn Tryd.prog G (envL (sel_maker_shift.env G k self)) sel_maker_shift.ann Tryd.f67.results.toList (codeOf Tryd.f67) Tryd.f67.ntmps k [x0, x1, x2] h = sel_maker_shift.c G k self x0 x1 x2 h := by kernel_rfl
theorem sel_maker_shift.sound {G : Globs} (hG : ∀ g x, G g = some x → plainB x = true) : ∀ k, Sound Tryd.prog G 67 (sel_maker_shift.f G k)
  | 0 => sound_zero sel_maker_shift.here (fun _ _ => rfl)
  | k + 1 => sound_succ (l := sel_maker_shift.env G k (sel_maker_shift.f G k)) (ann := sel_maker_shift.ann) (n := k) (envSound_of hG (envCons (sel_maker_put.sound hG k) envNil)) orders Tryd.func67 (by kernel_rfl) (by kernel_rfl) rfl (by kernel_rfl) (arg3_of fun x0 x1 x2 h => sel_maker_shift.eq G k _ x0 x1 x2 h)
theorem sel_maker_jump.here : ∃ fn, Tryd.prog.funcs[69]? = some fn ∧ fn.body.isSome = true ∧ (fn.name == "runtime.NumGoroutine") = false := ⟨_, Tryd.func69, by kernel_rfl, by kernel_rfl⟩
theorem sel_maker_jump.eq (G : Globs) (k : Nat) (self : Den) (x0 x1 x2 : AV) (h : AHeap) : absFn Tryd.prog G (envL (sel_maker_jump.env G k self)) sel_maker_jump.ann Tryd.f69.results.toList (codeOf Tryd.f69) Tryd.f69.ntmps k [x0, x1, x2] h = sel_maker_jump.c G k self x0 x1 x2 h := by kernel_rfl
theorem sel_maker_jump.sound {G : Globs} (hG : ∀ g x, G g = some x → plainB x = true) : ∀ k, Sound Tryd.prog G 69 (sel_maker_jump.f G k)
  | 0 => sound_zero sel_maker_jump.here (fun _ _ => rfl)
  | k + 1 => sound_succ (l := sel_maker_jump.env G k (sel_maker_jump.f G k)) (ann := sel_maker_jump.ann) (n := k) (envSound_of hG (envCons (sel_maker_put.sound hG k) envNil)) orders Tryd.func69 (by kernel_rfl) (by kernel_rfl) rfl (by kernel_rfl) (arg3_of fun x0 x1 x2 h => sel_maker_jump.eq G k _ x0 x1 x2 h)
theorem sel_maker_touch.here : ∃ fn, Tryd.prog.funcs[68]? = some fn ∧ fn.body.isSome = true ∧ (fn.name == "runtime.NumGoroutine") = false := ⟨_, Tryd.func68, by kernel_rfl, by kernel_rfl⟩
theorem sel_maker_touch.eq (G : Globs) (k : Nat) (self : Den) (x0 x1 x2 x3 x4 : AV) (h : AHeap) : absFn Tryd.prog G (envL (sel_maker_touch.env G k self)) sel_maker_touch.ann Tryd.f68.results.toList (codeOf Tryd.f68) Tryd.f68.ntmps k [x0, x1, x2, x3, x4] h = sel_maker_touch.c G k self x0 x1 x2 x3 x4 h := by kernel_rfl
theorem sel_maker_touch.sound {G : Globs} (hG : ∀ g x, G g = some x → plainB x = true) : ∀ k, Sound Tryd.prog G 68 (sel_maker_touch.f G k)
  | 0 => sound_zero sel_maker_touch.here (fun _ _ => rfl)
  | k + 1 => sound_succ (l := sel_maker_touch.env G k (sel_maker_touch.f G k)) (ann := sel_maker_touch.ann) (n := k) (envSound_of hG (envCons (sel_constant.sound hG k) (envCons (sel_maker_put.sound hG k) (envCons (sel_maker_jump.sound hG k) envNil)))) orders Tryd.func68 (by kernel_rfl) (by kernel_rfl) rfl (by kernel_rfl) (arg5_of fun x0 x1 x2 x3 x4 h => sel_maker_touch.eq G k _ x0 x1 x2 x3 x4 h)
theorem sel_maker_one.here : ∃ fn, Tryd.prog.funcs[39]? = some fn ∧ fn.body.isSome = true ∧ (fn.name == "runtime.NumGoroutine") = false := ⟨_, Tryd.func39, by kernel_rfl, by kernel_rfl⟩
theorem sel_maker_one.eq (G : Globs) (k : Nat) (self : Den) (x0 x1 x2 : AV) (h : AHeap) : absFn Tryd.prog G (envL (sel_maker_one.env G k self)) sel_maker_one.ann Tryd.f39.results.toList (codeOf Tryd.f39) Tryd.f39.ntmps k [x0, x1, x2] h = sel_maker_one.c G k self x0 x1 x2 h := by kernel_rfl
theorem sel_maker_one.sound {G : Globs} (hG : ∀ g x, G g = some x → plainB x = true) : ∀ k, Sound Tryd.prog G 39 (sel_maker_one.f G k)
  | 0 => sound_zero sel_maker_one.here (fun _ _ => rfl)
  | k + 1 => sound_succ (l := sel_maker_one.env G k (sel_maker_one.f G k)) (ann := sel_maker_one.ann) (n := k) (envSound_of hG (envCons (sel_constant.sound hG k) (envCons (sel_maker_put.sound hG k) (envCons (sel_maker_three.sound hG k) (envCons (sel_maker_shift.sound hG k) (envCons (sel_maker_touch.sound hG k) (envCons (sel_maker_jump.sound hG k) envNil))))))) orders Tryd.func39 (by kernel_rfl) (by kernel_rfl) rfl (by kernel_rfl) (arg3_of fun x0 x1 x2 h => sel_maker_one.eq G k _ x0 x1 x2 h)
theorem sel_Select.here : ∃ fn, Tryd.prog.funcs[17]? = some fn ∧ fn.body.isSome = true ∧ (fn.name == "runtime.NumGoroutine") = false := ⟨_, Tryd.func17, by kernel_rfl, by kernel_rfl⟩
theorem sel_Select.eq (G : Globs) (k : Nat) (self : Den) (x0 : AV) (h : AHeap) : absFn Tryd.prog G (envL (sel_Select.env G k self)) sel_Select.ann Tryd.f17.results.toList (codeOf Tryd.f17) Tryd.f17.ntmps k [x0] h = sel_Select.c G k self x0 h := by kernel_rfl
theorem sel_Select.sound {G : Globs} (hG : ∀ g x, G g = some x → plainB x = true) : ∀ k, Sound Tryd.prog G 17 (sel_Select.f G k)
  | 0 => sound_zero sel_Select.here (fun _ _ => rfl)
  | k + 1 => sound_succ (l := sel_Select.env G k (sel_Select.f G k)) (ann := sel_Select.ann) (n := k) (envSound_of hG (envCons (words_Valid.sound hG k) (envCons (sel_maker_one.sound hG k) (envCons (isa_Word.sound hG k) envNil)))) orders Tryd.func17 (by kernel_rfl) (by kernel_rfl) rfl (by kernel_rfl) (arg1_of fun x0 h => sel_Select.eq G k _ x0 h)
theorem sel_Const.here : ∃ fn, Tryd.prog.funcs[23]? = some fn ∧ fn.body.isSome = true ∧ (fn.name == "runtime.NumGoroutine") = false := ⟨_, Tryd.func23, by kernel_rfl, by kernel_rfl⟩
theorem sel_Const.eq (G : Globs) (k : Nat) (self : Den) (x0 x1 : AV) (h : AHeap) : absFn Tryd.prog G (envL (sel_Const.env G k self)) sel_Const.ann Tryd.f23.results.toList (codeOf Tryd.f23) Tryd.f23.ntmps k [x0, x1] h = sel_Const.c G k self x0 x1 h := by kernel_rfl
theorem sel_Const.sound {G : Globs} (hG : ∀ g x, G g = some x → plainB x = true) : ∀ k, Sound Tryd.prog G 23 (sel_Const.f G k)
  | 0 => sound_zero sel_Const.here (fun _ _ => rfl)
  | k + 1 => sound_succ (l := sel_Const.env G k (sel_Const.f G k)) (ann := sel_Const.ann) (n := k) (envSound_of hG (envCons (sel_constant.sound hG k) envNil)) orders Tryd.func23 (by kernel_rfl) (by kernel_rfl) rfl (by kernel_rfl) (arg2_of fun x0 x1 h => sel_Const.eq G k _ x0 x1 h)
theorem alembiclaw24_first.here : ∃ fn, Tryd.prog.funcs[15]? = some fn ∧ fn.body.isSome = true ∧ (fn.name == "runtime.NumGoroutine") = false := ⟨_, Tryd.func15, by kernel_rfl, by kernel_rfl⟩
theorem alembiclaw24_first.eq (G : Globs) (k : Nat) (self : Den) (h : AHeap) : absFn Tryd.prog G (envL (alembiclaw24_first.env G k self)) alembiclaw24_first.ann Tryd.f15.results.toList (codeOf Tryd.f15) Tryd.f15.ntmps k [] h = alembiclaw24_first.c G k self h := by kernel_rfl
theorem alembiclaw24_first.sound {G : Globs} (hG : ∀ g x, G g = some x → plainB x = true) : ∀ k, Sound Tryd.prog G 15 (alembiclaw24_first.f G k)
  | 0 => sound_zero alembiclaw24_first.here (fun _ _ => rfl)
  | k + 1 => sound_succ (l := alembiclaw24_first.env G k (alembiclaw24_first.f G k)) (ann := alembiclaw24_first.ann) (n := k) (envSound_of hG (envCons (sel_Select.sound hG k) (envCons (sel_Const.sound hG k) envNil))) orders Tryd.func15 (by kernel_rfl) (by kernel_rfl) rfl (by kernel_rfl) (arg0_of fun h => alembiclaw24_first.eq G k _ h)
theorem alembiclaw24_SelectLoops.here : ∃ fn, Tryd.prog.funcs[6]? = some fn ∧ fn.body.isSome = true ∧ (fn.name == "runtime.NumGoroutine") = false := ⟨_, Tryd.func6, by kernel_rfl, by kernel_rfl⟩
theorem alembiclaw24_SelectLoops.eq (G : Globs) (k : Nat) (self : Den) (x0 : AV) (h : AHeap) : absFn Tryd.prog G (envL (alembiclaw24_SelectLoops.env G k self)) alembiclaw24_SelectLoops.ann Tryd.f6.results.toList (codeOf Tryd.f6) Tryd.f6.ntmps k [x0] h = alembiclaw24_SelectLoops.c G k self x0 h := by kernel_rfl
theorem alembiclaw24_SelectLoops.sound {G : Globs} (hG : ∀ g x, G g = some x → plainB x = true) : ∀ k, Sound Tryd.prog G 6 (alembiclaw24_SelectLoops.f G k)
  | 0 => sound_zero alembiclaw24_SelectLoops.here (fun _ _ => rfl)
  | k + 1 => sound_succ (l := alembiclaw24_SelectLoops.env G k (alembiclaw24_SelectLoops.f G k)) (ann := alembiclaw24_SelectLoops.ann) (n := k) (envSound_of hG (envCons (alembiclaw24_first.sound hG k) (envCons (sel_Select.sound hG k) (envCons (alembicref17_RunMach.sound hG k) envNil)))) orders Tryd.func6 (by kernel_rfl) (by kernel_rfl) rfl (by kernel_rfl) (arg1_of fun x0 h => alembiclaw24_SelectLoops.eq G k _ x0 h)
end Go.Proofs.YtdfglgnflldkpaaDoor.Mir
namespace Go.Proofs.YtdfglgnflldkpaaDoor.Mir
open Go
set_option linter.unusedVariables false
/-! alembic/alembicref.SameLeak1: function 50 -/
noncomputable def alembicref_SameLeak1.ann : Ann := mkAnn [] [] [] []
noncomputable def alembicref_SameLeak1.env (G : Globs) (k : Nat) (self : Den) : List (Nat × Bool × Den) := []
noncomputable def alembicref_SameLeak1.c (G : Globs) (k : Nat) (self : Den) (x0 x1 : AV) (h : AHeap) : Option (AV × AHeap) := outV (
  bnd (boxRoA x0 h) fun v0 h0 =>
  bnd (boxRoA x1 h0) fun v1 h1 =>
  bnd (pu h1 (fieldAddrV 0 v0)) fun v2 h2 =>
  bnd (pu h2 (loadV G false 1 v2 h2)) fun v3 h3 =>
  bnd (pu h3 (fieldAddrV 0 v1)) fun v4 h4 =>
  bnd (pu h4 (loadV G false 1 v4 h4)) fun v5 h5 =>
  bnd (pu h5 (bin Tryd.prog .eql 3 false v3 v5)) fun v6 h6 =>
  bnd (gd v6 true h6 (pu h6 (fieldAddrV 1 v0))) fun v7 h7 =>
  bnd (gd v6 true h7 (pu h7 (loadV G false 1 v7 h7))) fun v8 h8 =>
  bnd (gd v6 true h8 (pu h8 (fieldAddrV 1 v1))) fun v9 h9 =>
  bnd (gd v6 true h9 (pu h9 (loadV G false 1 v9 h9))) fun v10 h10 =>
  bnd (gd v6 true h10 (pu h10 (bin Tryd.prog .eql 2 false v8 v10))) fun v11 h11 =>
  bnd (pu h11 (pickA v6 v11 (.bool false))) fun v12 h12 =>
  finV [v12] h.length h12)
noncomputable def alembicref_SameLeak1.f (G : Globs) : Nat → Den
  | 0 => fun _ _ => none
  | k + 1 => fun args h => arg2 args fun x0 x1 => (alembicref_SameLeak1.c G k (alembicref_SameLeak1.f G k) x0 x1 h)
theorem alembicref_SameLeak1.step (G : Globs) (k : Nat) (x0 x1 : AV) (h : AHeap) : alembicref_SameLeak1.f G (k + 1) [x0, x1] h = alembicref_SameLeak1.c G k (alembicref_SameLeak1.f G k) x0 x1 h := rfl
/-! alembic/alembicref.SameLeaks: function 21 -/
noncomputable def alembicref_SameLeaks.ann : Ann := mkAnn [] [] [(4, [0, 1, 4, 5])] []
noncomputable def alembicref_SameLeaks.env (G : Globs) (k : Nat) (self : Den) : List (Nat × Bool × Den) := [(50, true, alembicref_SameLeak1.f G k)]
noncomputable def alembicref_SameLeaks.l4 (G : Globs) (k n0 : Nat) (self : Den) (lp : LoopF) : LoopF := fun xs h0 => cutK n0 xs h0 fun h =>
  bnd (pu h (lenSl (nth xs 0))) fun v4 h4 =>
  bnd (pu h4 (bin Tryd.prog .lss 3 false (nth xs 3) v4)) fun v5 h5 =>
  condA v5
  (bnd (pu h5 (idxAddrSl 2 (nth xs 0) (nth xs 3))) fun v6 h6 =>
  bnd (pu h6 (loadV G true 2 v6 h6)) fun v7 h7 =>
  bnd (pu h7 (idxAddrSl 2 (nth xs 1) (nth xs 3))) fun v8 h8 =>
  bnd (pu h8 (loadV G true 2 v8 h8)) fun v9 h9 =>
  bnd (pureCall (alembicref_SameLeak1.f G k) [v7, v9] h9) fun v10 h10 =>
  bnd (pu h10 (un .not v10)) fun v11 h11 =>
  condA v11
  (some (.ret, [(nth xs 0), (nth xs 1), (.bool false), (nth xs 3)], h11))
  (bnd (pu h11 (bin Tryd.prog .add 3 true (nth xs 3) (.int .i64 1))) fun v12 h12 =>
  lp [(nth xs 0), (nth xs 1), (nth xs 2), v12] h12))
  (some (.exit 0, [(nth xs 0), (nth xs 1), (nth xs 2), (nth xs 3)], h5))
noncomputable def alembicref_SameLeaks.c (G : Globs) (k : Nat) (self : Den) (x0 x1 : AV) (h : AHeap) : Option (AV × AHeap) := outV (
  bnd (pu h (lenSl x0)) fun v0 h0 =>
  bnd (pu h0 (lenSl x1)) fun v1 h1 =>
  bnd (pu h1 (bin Tryd.prog .neq 3 false v0 v1)) fun v2 h2 =>
  condA v2
  (finV [(.bool false)] h.length h2)
  (thenK (loopN (alembicref_SameLeaks.l4 G k h2.length self) k [x0, x1, (.bool false), (.int .i64 0)] h2) fun e3 x3 h3 => exK e3
  (finV [(.bool true)] h.length h3)
  (fun i3 => if i3 = 0 then (finV [(.bool true)] h.length h3) else (none))
  (finV [(nth x3 2)] h.length h3)))
noncomputable def alembicref_SameLeaks.f (G : Globs) : Nat → Den
  | 0 => fun _ _ => none
  | k + 1 => fun args h => arg2 args fun x0 x1 => (alembicref_SameLeaks.c G k (alembicref_SameLeaks.f G k) x0 x1 h)
theorem alembicref_SameLeaks.step (G : Globs) (k : Nat) (x0 x1 : AV) (h : AHeap) : alembicref_SameLeaks.f G (k + 1) [x0, x1] h = alembicref_SameLeaks.c G k (alembicref_SameLeaks.f G k) x0 x1 h := rfl
/-! alembic/alembicref.Bare: function 35 -/
noncomputable def alembicref_Bare.ann : Ann := mkAnn [] [] [] []
noncomputable def alembicref_Bare.env (G : Globs) (k : Nat) (self : Den) : List (Nat × Bool × Den) := []
noncomputable def alembicref_Bare.c (G : Globs) (k : Nat) (self : Den) (x0 : AV) (h : AHeap) : Option (AV × AHeap) := outV (
  bnd (boxA 34 (.agg [(.int .i64 0), (.bool false), (.int .i64 0)]) h) fun v0 h0 =>
  bnd (pu h0 (buildSt [(0, 1), (1, 1), (2, 1)] [(.int .i64 0), (.bool false), (.int .i64 0)] [(0, x0)])) fun v1 h1 =>
  bnd (stS (storeV 3 v0 v1 h1)) fun v2 h2 =>
  finL [loadV G true 3 v0 h2] h.length h2)
noncomputable def alembicref_Bare.f (G : Globs) : Nat → Den
  | 0 => fun _ _ => none
  | k + 1 => fun args h => arg1 args fun x0 => (alembicref_Bare.c G k (alembicref_Bare.f G k) x0 h)
theorem alembicref_Bare.step (G : Globs) (k : Nat) (x0 : AV) (h : AHeap) : alembicref_Bare.f G (k + 1) [x0] h = alembicref_Bare.c G k (alembicref_Bare.f G k) x0 h := rfl
/-! alembic/alembicref.SameFault: function 61 -/
noncomputable def alembicref_SameFault.ann : Ann := mkAnn [] [] [] []
noncomputable def alembicref_SameFault.env (G : Globs) (k : Nat) (self : Den) : List (Nat × Bool × Den) := []
noncomputable def alembicref_SameFault.c (G : Globs) (k : Nat) (self : Den) (x0 x1 : AV) (h : AHeap) : Option (AV × AHeap) := outV (
  bnd (boxRoA x0 h) fun v0 h0 =>
  bnd (boxRoA x1 h0) fun v1 h1 =>
  bnd (pu h1 (fieldAddrV 0 v0)) fun v2 h2 =>
  bnd (pu h2 (loadV G false 1 v2 h2)) fun v3 h3 =>
  bnd (pu h3 (fieldAddrV 0 v1)) fun v4 h4 =>
  bnd (pu h4 (loadV G false 1 v4 h4)) fun v5 h5 =>
  bnd (pu h5 (bin Tryd.prog .eql 3 false v3 v5)) fun v6 h6 =>
  bnd (gd v6 true h6 (pu h6 (fieldAddrV 1 v0))) fun v7 h7 =>
  bnd (gd v6 true h7 (pu h7 (loadV G false 1 v7 h7))) fun v8 h8 =>
  bnd (gd v6 true h8 (pu h8 (fieldAddrV 1 v1))) fun v9 h9 =>
  bnd (gd v6 true h9 (pu h9 (loadV G false 1 v9 h9))) fun v10 h10 =>
  bnd (gd v6 true h10 (pu h10 (bin Tryd.prog .eql 4 false v8 v10))) fun v11 h11 =>
  bnd (pu h11 (pickA v6 v11 (.bool false))) fun v12 h12 =>
  bnd (gd v12 true h12 (pu h12 (fieldAddrV 2 v0))) fun v13 h13 =>
  bnd (gd v12 true h13 (pu h13 (loadV G false 1 v13 h13))) fun v14 h14 =>
  bnd (gd v12 true h14 (pu h14 (fieldAddrV 2 v1))) fun v15 h15 =>
  bnd (gd v12 true h15 (pu h15 (loadV G false 1 v15 h15))) fun v16 h16 =>
  bnd (gd v12 true h16 (pu h16 (bin Tryd.prog .eql 3 false v14 v16))) fun v17 h17 =>
  bnd (pu h17 (pickA v12 v17 (.bool false))) fun v18 h18 =>
  finV [v18] h.length h18)
noncomputable def alembicref_SameFault.f (G : Globs) : Nat → Den
  | 0 => fun _ _ => none
  | k + 1 => fun args h => arg2 args fun x0 x1 => (alembicref_SameFault.c G k (alembicref_SameFault.f G k) x0 x1 h)
theorem alembicref_SameFault.step (G : Globs) (k : Nat) (x0 x1 : AV) (h : AHeap) : alembicref_SameFault.f G (k + 1) [x0, x1] h = alembicref_SameFault.c G k (alembicref_SameFault.f G k) x0 x1 h := rfl
/-! alembic/alembicref.None: function 45 -/
noncomputable def alembicref_None.ann : Ann := mkAnn [] [] [] []
noncomputable def alembicref_None.env (G : Globs) (k : Nat) (self : Den) : List (Nat × Bool × Den) := []
noncomputable def alembicref_None.c (G : Globs) (k : Nat) (self : Den) (h : AHeap) : Option (AV × AHeap) := outV (
  bnd (boxA 34 (.agg [(.int .i64 0), (.bool false), (.int .i64 0)]) h) fun v0 h0 =>
  bnd (pu h0 (buildSt [(0, 1), (1, 1), (2, 1)] [(.int .i64 0), (.bool false), (.int .i64 0)] [])) fun v1 h1 =>
  bnd (stS (storeV 3 v0 v1 h1)) fun v2 h2 =>
  finL [loadV G true 3 v0 h2] h.length h2)
noncomputable def alembicref_None.f (G : Globs) : Nat → Den
  | 0 => fun _ _ => none
  | k + 1 => fun args h => arg0 args (alembicref_None.c G k (alembicref_None.f G k) h)
theorem alembicref_None.step (G : Globs) (k : Nat) (h : AHeap) : alembicref_None.f G (k + 1) [] h = alembicref_None.c G k (alembicref_None.f G k) h := rfl
/-! alembic/alembicref.Placed: function 44 -/
noncomputable def alembicref_Placed.ann : Ann := mkAnn [] [] [] []
noncomputable def alembicref_Placed.env (G : Globs) (k : Nat) (self : Den) : List (Nat × Bool × Den) := [(45, true, alembicref_None.f G k)]
noncomputable def alembicref_Placed.c (G : Globs) (k : Nat) (self : Den) (x0 x1 : AV) (h : AHeap) : Option (AV × AHeap) := outV (
  bnd (boxA 34 (.agg [(.int .i64 0), (.bool false), (.int .i64 0)]) h) fun v0 h0 =>
  bnd (pu h0 (bin Tryd.prog .eql 3 true x0 (.int .i64 0))) fun v1 h1 =>
  condA v1
  (bnd (pureCall (alembicref_None.f G k) [] h1) fun v2 h2 =>
  bnd (stS (storeV 3 v0 v2 h2)) fun v3 h3 =>
  finL [loadV G true 3 v0 h3] h.length h3)
  (bnd (pu h1 (buildSt [(0, 1), (1, 1), (2, 1)] [(.int .i64 0), (.bool false), (.int .i64 0)] [(0, x0), (1, (.bool true)), (2, x1)])) fun v4 h4 =>
  bnd (stS (storeV 3 v0 v4 h4)) fun v5 h5 =>
  finL [loadV G true 3 v0 h5] h.length h5))
noncomputable def alembicref_Placed.f (G : Globs) : Nat → Den
  | 0 => fun _ _ => none
  | k + 1 => fun args h => arg2 args fun x0 x1 => (alembicref_Placed.c G k (alembicref_Placed.f G k) x0 x1 h)
theorem alembicref_Placed.step (G : Globs) (k : Nat) (x0 x1 : AV) (h : AHeap) : alembicref_Placed.f G (k + 1) [x0, x1] h = alembicref_Placed.c G k (alembicref_Placed.f G k) x0 x1 h := rfl
/-! alembic/alembicsee.sentinels: function 103 -/
noncomputable def alembicsee_sentinels.ann : Ann := mkAnn [] [] [] []
noncomputable def alembicsee_sentinels.env (G : Globs) (k : Nat) (self : Den) : List (Nat × Bool × Den) := []
noncomputable def alembicsee_sentinels.c (G : Globs) (k : Nat) (self : Den) (h : AHeap) : Option (AV × AHeap) := outV (
  bnd (pu h (loadV G false 1 (.gl 1) h)) fun v0 h0 =>
  bnd (pu h0 (loadV G false 1 (.gl 5) h0)) fun v1 h1 =>
  bnd (pu h1 (loadV G false 1 (.gl 0) h1)) fun v2 h2 =>
  bnd (pu h2 (loadV G false 1 (.gl 3) h2)) fun v3 h3 =>
  bnd (pu h3 (loadV G false 1 (.gl 6) h3)) fun v4 h4 =>
  bnd (pu h4 (loadV G false 1 (.gl 2) h4)) fun v5 h5 =>
  bnd (pu h5 (loadV G false 1 (.gl 7) h5)) fun v6 h6 =>
  bnd (pu h6 (loadV G false 1 (.gl 8) h6)) fun v7 h7 =>
  bnd (pu h7 (loadV G false 1 (.gl 4) h7)) fun v8 h8 =>
  bnd (pu h8 (loadV G false 1 (.gl 9) h8)) fun v9 h9 =>
  bnd (pu h9 (loadV G false 1 (.gl 10) h9)) fun v10 h10 =>
  bnd (pu h10 (loadV G false 1 (.gl 11) h10)) fun v11 h11 =>
  bnd (pu h11 (loadV G false 1 (.gl 12) h11)) fun v12 h12 =>
  bnd (pu h12 (loadV G false 1 (.gl 13) h12)) fun v13 h13 =>
  bnd (buildRo 1 14 .nili [(0, v0), (1, v1), (2, v2), (3, v3), (4, v4), (5, v5), (6, v6), (7, v7), (8, v8), (9, v9), (10, v10), (11, v11), (12, v12), (13, v13)] h13) fun v14 h14 =>
  finV [v14] h.length h14)
noncomputable def alembicsee_sentinels.f (G : Globs) : Nat → Den
  | 0 => fun _ _ => none
  | k + 1 => fun args h => arg0 args (alembicsee_sentinels.c G k (alembicsee_sentinels.f G k) h)
theorem alembicsee_sentinels.step (G : Globs) (k : Nat) (h : AHeap) : alembicsee_sentinels.f G (k + 1) [] h = alembicsee_sentinels.c G k (alembicsee_sentinels.f G k) h := rfl
/-! alembic/alembicsee.Alike: function 104 -/
noncomputable def alembicsee_Alike.ann : Ann := mkAnn [] [] [] []
noncomputable def alembicsee_Alike.env (G : Globs) (k : Nat) (self : Den) : List (Nat × Bool × Den) := []
noncomputable def alembicsee_Alike.c (G : Globs) (k : Nat) (self : Den) (x0 x1 : AV) (h : AHeap) : Option (AV × AHeap) := outV (
  bnd (pu h (bin Tryd.prog .eql 30 true x0 .nili)) fun v0 h0 =>
  bnd (gd v0 false h0 (some (x1, h0))) fun v1 h1 =>
  bnd (gd v0 false h1 (pu h1 (bin Tryd.prog .eql 30 true v1 .nili))) fun v2 h2 =>
  bnd (pu h2 (pickA v0 (.bool true) v2)) fun v3 h3 =>
  condA v3
  (bnd (pu h3 (bin Tryd.prog .eql 30 true x0 .nili)) fun v4 h4 =>
  bnd (gd v4 true h4 (some (x1, h4))) fun v5 h5 =>
  bnd (gd v4 true h5 (pu h5 (bin Tryd.prog .eql 30 true v5 .nili))) fun v6 h6 =>
  bnd (pu h6 (pickA v4 v6 (.bool false))) fun v7 h7 =>
  finV [v7] h.length h7)
  (bnd (pu h3 (bin Tryd.prog .eql 30 false x0 x1)) fun v8 h8 =>
  finV [v8] h.length h8))
noncomputable def alembicsee_Alike.f (G : Globs) : Nat → Den
  | 0 => fun _ _ => none
  | k + 1 => fun args h => arg2 args fun x0 x1 => (alembicsee_Alike.c G k (alembicsee_Alike.f G k) x0 x1 h)
theorem alembicsee_Alike.step (G : Globs) (k : Nat) (x0 x1 : AV) (h : AHeap) : alembicsee_Alike.f G (k + 1) [x0, x1] h = alembicsee_Alike.c G k (alembicsee_Alike.f G k) x0 x1 h := rfl
/-! alembic/alembicsee.sentinel: function 87 -/
noncomputable def alembicsee_sentinel.ann : Ann := mkAnn [] [] [(3, [0, 2, 3, 4])] []
noncomputable def alembicsee_sentinel.env (G : Globs) (k : Nat) (self : Den) : List (Nat × Bool × Den) := [(103, true, alembicsee_sentinels.f G k), (104, true, alembicsee_Alike.f G k)]
noncomputable def alembicsee_sentinel.l3 (G : Globs) (k n0 : Nat) (self : Den) (lp : LoopF) : LoopF := fun xs h0 => cutK n0 xs h0 fun h =>
  bnd (pu h (lenSl (nth xs 2))) fun v2 h2 =>
  bnd (pu h2 (bin Tryd.prog .lss 3 false (nth xs 3) v2)) fun v3 h3 =>
  condA v3
  (bnd (pu h3 (idxAddrSl 1 (nth xs 2) (nth xs 3))) fun v4 h4 =>
  bnd (pu h4 (loadV G false 1 v4 h4)) fun v5 h5 =>
  bnd (pureCall (alembicsee_Alike.f G k) [(nth xs 0), v5] h5) fun v6 h6 =>
  condA v6
  (bnd (pu h6 (bin Tryd.prog .add 3 true (.int .i64 101) (nth xs 3))) fun v7 h7 =>
  some (.ret, [(nth xs 0), v7, (nth xs 2), (nth xs 3)], h7))
  (bnd (pu h6 (bin Tryd.prog .add 3 true (nth xs 3) (.int .i64 1))) fun v8 h8 =>
  lp [(nth xs 0), (nth xs 1), (nth xs 2), v8] h8))
  (some (.exit 0, [(nth xs 0), (nth xs 1), (nth xs 2), (nth xs 3)], h3))
noncomputable def alembicsee_sentinel.c (G : Globs) (k : Nat) (self : Den) (x0 : AV) (h : AHeap) : Option (AV × AHeap) := outV (
  bnd (pureCall (alembicsee_sentinels.f G k) [] h) fun v0 h0 =>
  thenK (loopN (alembicsee_sentinel.l3 G k h0.length self) k [x0, (.int .i64 0), v0, (.int .i64 0)] h0) fun e1 x1 h1 => exK e1
  (finV [(.int .i64 (-1))] h.length h1)
  (fun i1 => if i1 = 0 then (finV [(.int .i64 (-1))] h.length h1) else (none))
  (finV [(nth x1 1)] h.length h1))
noncomputable def alembicsee_sentinel.f (G : Globs) : Nat → Den
  | 0 => fun _ _ => none
  | k + 1 => fun args h => arg1 args fun x0 => (alembicsee_sentinel.c G k (alembicsee_sentinel.f G k) x0 h)
theorem alembicsee_sentinel.step (G : Globs) (k : Nat) (x0 : AV) (h : AHeap) : alembicsee_sentinel.f G (k + 1) [x0] h = alembicsee_sentinel.c G k (alembicsee_sentinel.f G k) x0 h := rfl
/-! alembic/alembicsee.Fault: function 62 -/
noncomputable def alembicsee_Fault.ann : Ann := mkAnn [] [] [] []
noncomputable def alembicsee_Fault.env (G : Globs) (k : Nat) (self : Den) : List (Nat × Bool × Den) := [(35, true, alembicref_Bare.f G k), (44, true, alembicref_Placed.f G k), (45, true, alembicref_None.f G k), (87, true, alembicsee_sentinel.f G k)]
noncomputable def alembicsee_Fault.c (G : Globs) (k : Nat) (self : Den) (x0 : AV) (h : AHeap) : Option (AV × AHeap) := outV (
  bnd (boxA 34 (.agg [(.int .i64 0), (.bool false), (.int .i64 0)]) h) fun v0 h0 =>
  bnd (pu h0 (bin Tryd.prog .eql 30 true x0 .nili)) fun v1 h1 =>
  condA v1
  (bnd (pureCall (alembicref_None.f G k) [] h1) fun v2 h2 =>
  bnd (stS (storeV 3 v0 v2 h2)) fun v3 h3 =>
  finL [loadV G true 3 v0 h3] h.length h3)
  (bnd (pu h1 (assertV 133 .nilp true x0)) fun v4 h4 =>
  bnd (pu h4 (extractA v4 0)) fun v5 h5 =>
  bnd (pu h5 (extractA v4 1)) fun v6 h6 =>
  bnd (pu h6 (un .not v6)) fun v7 h7 =>
  condA v7
  (bnd (pureCall (alembicsee_sentinel.f G k) [x0] h7) fun v8 h8 =>
  bnd (pureCall (alembicref_Bare.f G k) [v8] h8) fun v9 h9 =>
  bnd (stS (storeV 3 v0 v9 h9)) fun v10 h10 =>
  finL [loadV G true 3 v0 h10] h.length h10)
  (bnd (pu h7 (bin Tryd.prog .eql 133 true v5 .nilp)) fun v11 h11 =>
  bnd (gd v11 false h11 (some (v5, h11))) fun v12 h12 =>
  bnd (gd v11 false h12 (pu h12 (nilA v12))) fun v13 h13 =>
  bnd (gd v11 false h13 (pu h13 (fieldAddrV 1 v13))) fun v14 h14 =>
  bnd (gd v11 false h14 (pu h14 (loadV G false 1 v14 h14))) fun v15 h15 =>
  bnd (gd v11 false h15 (pu h15 (bin Tryd.prog .eql 30 true v15 .nili))) fun v16 h16 =>
  bnd (pu h16 (pickA v11 (.bool true) v16)) fun v17 h17 =>
  condA v17
  (bnd (pureCall (alembicref_Bare.f G k) [(.int .i64 (-1))] h17) fun v18 h18 =>
  bnd (stS (storeV 3 v0 v18 h18)) fun v19 h19 =>
  finL [loadV G true 3 v0 h19] h.length h19)
  (bnd (pu h17 (nilA v5)) fun v20 h20 =>
  bnd (pu h20 (fieldAddrV 1 v20)) fun v21 h21 =>
  bnd (pu h21 (loadV G false 1 v21 h21)) fun v22 h22 =>
  bnd (pureCall (alembicsee_sentinel.f G k) [v22] h22) fun v23 h23 =>
  bnd (pu h23 (nilA v5)) fun v24 h24 =>
  bnd (pu h24 (fieldAddrV 0 v24)) fun v25 h25 =>
  bnd (pu h25 (loadV G false 1 v25 h25)) fun v26 h26 =>
  bnd (pureCall (alembicref_Placed.f G k) [v23, v26] h26) fun v27 h27 =>
  bnd (stS (storeV 3 v0 v27 h27)) fun v28 h28 =>
  finL [loadV G true 3 v0 h28] h.length h28))))
noncomputable def alembicsee_Fault.f (G : Globs) : Nat → Den
  | 0 => fun _ _ => none
  | k + 1 => fun args h => arg1 args fun x0 => (alembicsee_Fault.c G k (alembicsee_Fault.f G k) x0 h)
theorem alembicsee_Fault.step (G : Globs) (k : Nat) (x0 : AV) (h : AHeap) : alembicsee_Fault.f G (k + 1) [x0] h = alembicsee_Fault.c G k (alembicsee_Fault.f G k) x0 h := rfl
/-! alembic/alembicsee.Same: function 36 -/
noncomputable def alembicsee_Same.ann : Ann := mkAnn [] [] [] []
noncomputable def alembicsee_Same.env (G : Globs) (k : Nat) (self : Den) : List (Nat × Bool × Den) := [(61, true, alembicref_SameFault.f G k), (62, true, alembicsee_Fault.f G k)]
noncomputable def alembicsee_Same.c (G : Globs) (k : Nat) (self : Den) (x0 x1 : AV) (h : AHeap) : Option (AV × AHeap) := outV (
  bnd (boxRoA x1 h) fun v0 h0 =>
  bnd (pureCall (alembicsee_Fault.f G k) [x0] h0) fun v1 h1 =>
  bnd (pu h1 (loadV G true 3 v0 h1)) fun v2 h2 =>
  bnd (pureCall (alembicref_SameFault.f G k) [v1, v2] h2) fun v3 h3 =>
  finV [v3] h.length h3)
noncomputable def alembicsee_Same.f (G : Globs) : Nat → Den
  | 0 => fun _ _ => none
  | k + 1 => fun args h => arg2 args fun x0 x1 => (alembicsee_Same.c G k (alembicsee_Same.f G k) x0 x1 h)
theorem alembicsee_Same.step (G : Globs) (k : Nat) (x0 x1 : AV) (h : AHeap) : alembicsee_Same.f G (k + 1) [x0, x1] h = alembicsee_Same.c G k (alembicsee_Same.f G k) x0 x1 h := rfl
/-! alembic/alembicsee.Is: function 24 -/
noncomputable def alembicsee_Is.ann : Ann := mkAnn [] [] [] []
noncomputable def alembicsee_Is.env (G : Globs) (k : Nat) (self : Den) : List (Nat × Bool × Den) := [(35, true, alembicref_Bare.f G k), (36, true, alembicsee_Same.f G k)]
noncomputable def alembicsee_Is.c (G : Globs) (k : Nat) (self : Den) (x0 x1 : AV) (h : AHeap) : Option (AV × AHeap) := outV (
  bnd (pureCall (alembicref_Bare.f G k) [x1] h) fun v0 h0 =>
  bnd (pureCall (alembicsee_Same.f G k) [x0, v0] h0) fun v1 h1 =>
  finV [v1] h.length h1)
noncomputable def alembicsee_Is.f (G : Globs) : Nat → Den
  | 0 => fun _ _ => none
  | k + 1 => fun args h => arg2 args fun x0 x1 => (alembicsee_Is.c G k (alembicsee_Is.f G k) x0 x1 h)
theorem alembicsee_Is.step (G : Globs) (k : Nat) (x0 x1 : AV) (h : AHeap) : alembicsee_Is.f G (k + 1) [x0, x1] h = alembicsee_Is.c G k (alembicsee_Is.f G k) x0 x1 h := rfl
/-! alembic/alembicref.SameWords: function 29 -/
noncomputable def alembicref_SameWords.ann : Ann := mkAnn [] [] [(4, [0, 1, 4, 5])] []
noncomputable def alembicref_SameWords.env (G : Globs) (k : Nat) (self : Den) : List (Nat × Bool × Den) := []
noncomputable def alembicref_SameWords.l4 (G : Globs) (k n0 : Nat) (self : Den) (lp : LoopF) : LoopF := fun xs h0 => cutK n0 xs h0 fun h =>
  bnd (pu h (lenSl (nth xs 0))) fun v4 h4 =>
  bnd (pu h4 (bin Tryd.prog .lss 3 false (nth xs 3) v4)) fun v5 h5 =>
  condA v5
  (bnd (pu h5 (idxAddrSl 1 (nth xs 0) (nth xs 3))) fun v6 h6 =>
  bnd (pu h6 (loadV G false 1 v6 h6)) fun v7 h7 =>
  bnd (pu h7 (idxAddrSl 1 (nth xs 1) (nth xs 3))) fun v8 h8 =>
  bnd (pu h8 (loadV G false 1 v8 h8)) fun v9 h9 =>
  bnd (pu h9 (bin Tryd.prog .eql 43 false v7 v9)) fun v10 h10 =>
  bnd (pu h10 (un .not v10)) fun v11 h11 =>
  condA v11
  (some (.ret, [(nth xs 0), (nth xs 1), (.bool false), (nth xs 3)], h11))
  (bnd (pu h11 (bin Tryd.prog .add 3 true (nth xs 3) (.int .i64 1))) fun v12 h12 =>
  lp [(nth xs 0), (nth xs 1), (nth xs 2), v12] h12))
  (some (.exit 0, [(nth xs 0), (nth xs 1), (nth xs 2), (nth xs 3)], h5))
noncomputable def alembicref_SameWords.c (G : Globs) (k : Nat) (self : Den) (x0 x1 : AV) (h : AHeap) : Option (AV × AHeap) := outV (
  bnd (pu h (lenSl x0)) fun v0 h0 =>
  bnd (pu h0 (lenSl x1)) fun v1 h1 =>
  bnd (pu h1 (bin Tryd.prog .neq 3 false v0 v1)) fun v2 h2 =>
  condA v2
  (finV [(.bool false)] h.length h2)
  (thenK (loopN (alembicref_SameWords.l4 G k h2.length self) k [x0, x1, (.bool false), (.int .i64 0)] h2) fun e3 x3 h3 => exK e3
  (finV [(.bool true)] h.length h3)
  (fun i3 => if i3 = 0 then (finV [(.bool true)] h.length h3) else (none))
  (finV [(nth x3 2)] h.length h3)))
noncomputable def alembicref_SameWords.f (G : Globs) : Nat → Den
  | 0 => fun _ _ => none
  | k + 1 => fun args h => arg2 args fun x0 x1 => (alembicref_SameWords.c G k (alembicref_SameWords.f G k) x0 x1 h)
theorem alembicref_SameWords.step (G : Globs) (k : Nat) (x0 x1 : AV) (h : AHeap) : alembicref_SameWords.f G (k + 1) [x0, x1] h = alembicref_SameWords.c G k (alembicref_SameWords.f G k) x0 x1 h := rfl
/-! alembic/alembiclaw23.MachRuns: function 8 -/
noncomputable def alembiclaw23_MachRuns.ann : Ann := mkAnn [] [] [] []
noncomputable def alembiclaw23_MachRuns.env (G : Globs) (k : Nat) (self : Den) : List (Nat × Bool × Den) := [(21, true, alembicref_SameLeaks.f G k), (22, true, alembicref17_RunMach.f G k), (24, true, alembicsee_Is.f G k), (27, true, alembiclaw23_first.f G k), (28, true, mach_Run.f G k), (29, true, alembicref_SameWords.f G k), (30, true, alembiclaw23_regs.f G k)]
noncomputable def alembiclaw23_MachRuns.c (G : Globs) (k : Nat) (self : Den) (x0 x1 x2 : AV) (h : AHeap) : Option (AV × AHeap) := outV (
  bnd (pureCall (alembiclaw23_first.f G k) [] h) fun v0 h0 =>
  bnd (pu h0 (un .not v0)) fun v1 h1 =>
  condA v1
  (finV [(.bool false)] h.length h1)
  (bnd (pu h1 (lenSl x0)) fun v2 h2 =>
  bnd (pu h2 (bin Tryd.prog .gtr 3 true v2 (.int .i64 80))) fun v3 h3 =>
  bnd (gd v3 false h3 (some (x1, h3))) fun v4 h4 =>
  bnd (gd v3 false h4 (pu h4 (lenSl v4))) fun v5 h5 =>
  bnd (gd v3 false h5 (pu h5 (bin Tryd.prog .gtr 3 true v5 (.int .i64 80)))) fun v6 h6 =>
  bnd (pu h6 (pickA v3 (.bool true) v6)) fun v7 h7 =>
  bnd (gd v7 false h7 (some (x2, h7))) fun v8 h8 =>
  bnd (gd v7 false h8 (pu h8 (bin Tryd.prog .gtr 2 true v8 (.int .i64 1000)))) fun v9 h9 =>
  bnd (gd v7 false h9 (some (v9, h9))) fun v10 h10 =>
  bnd (gd v10 true h10 (some (x2, h10))) fun v11 h11 =>
  bnd (gd v10 true h11 (pu h11 (bin Tryd.prog .leq 2 true v11 (.int .i64 1073741824)))) fun v12 h12 =>
  bnd (gd v7 false h12 (pu h12 (pickA v10 v12 (.bool false)))) fun v13 h13 =>
  bnd (pu h13 (pickA v7 (.bool true) v13)) fun v14 h14 =>
  condA v14
  (finV [v0] h.length h14)
  (bnd (pureCall (mach_Run.f G k) [x0, x1, x2] h14) fun v15 h15 =>
  bnd (pu h15 (extractA v15 0)) fun v16 h16 =>
  bnd (pu h16 (extractA v15 1)) fun v17 h17 =>
  bnd (boxA 65 (.agg [(.int .i64 0), .nils, (.int .u64 0), (.int .u64 0), (.int .u64 0), (.int .u64 0), (.int .u64 0), (.int .u64 0), (.int .u64 0), (.int .u64 0), (.int .u64 0), (.int .u64 0), (.int .u64 0), (.int .u64 0), (.int .u64 0), (.int .u64 0), (.int .u64 0), (.int .u64 0), (.int .u64 0), (.int .u64 0), (.int .u64 0), (.int .u64 0), (.int .u64 0), (.int .u64 0), (.int .u64 0), (.int .u64 0), (.int .u64 0), (.int .u64 0), (.int .u64 0), (.int .u64 0), (.int .u64 0), (.int .u64 0), (.int .u64 0), .nils, (.int .i64 0)]) h17) fun v18 h18 =>
  bnd (stS (storeV 35 v18 v16 h18)) fun v19 h19 =>
  bnd (pu h19 (bin Tryd.prog .lss 2 true x2 (.int .i64 0))) fun v20 h20 =>
  bnd (gd v20 false h20 (some (x2, h20))) fun v21 h21 =>
  bnd (gd v20 false h21 (pu h21 (bin Tryd.prog .gtr 2 true v21 (.int .i64 1073741824)))) fun v22 h22 =>
  bnd (pu h22 (pickA v20 (.bool true) v22)) fun v23 h23 =>
  condA v23
  (bnd (gd v0 true h23 (some (v17, h23))) fun v24 h24 =>
  bnd (gd v0 true h24 (pureCall (alembicsee_Is.f G k) [v24, (.int .i64 101)] h24)) fun v25 h25 =>
  bnd (pu h25 (pickA v0 v25 (.bool false))) fun v26 h26 =>
  bnd (gd v26 true h26 (pu h26 (fieldAddrV 33 v18))) fun v27 h27 =>
  bnd (gd v26 true h27 (pu h27 (loadV G false 1 v27 h27))) fun v28 h28 =>
  bnd (gd v26 true h28 (pu h28 (lenSl v28))) fun v29 h29 =>
  bnd (gd v26 true h29 (pu h29 (fieldAddrV 1 v18))) fun v30 h30 =>
  bnd (gd v26 true h30 (pu h30 (loadV G false 1 v30 h30))) fun v31 h31 =>
  bnd (gd v26 true h31 (pu h31 (lenSl v31))) fun v32 h32 =>
  bnd (gd v26 true h32 (pu h32 (bin Tryd.prog .add 3 false v29 v32))) fun v33 h33 =>
  bnd (gd v26 true h33 (pu h33 (bin Tryd.prog .eql 3 true v33 (.int .i64 0)))) fun v34 h34 =>
  bnd (pu h34 (pickA v26 v34 (.bool false))) fun v35 h35 =>
  finV [v35] h.length h35)
  (bnd (pureCall (alembicref17_RunMach.f G k) [x0, x1, x2] h23) fun v36 h36 =>
  bnd (boxA 46 (.agg [(.int .i64 0), .nils, (.int .u64 0), (.int .u64 0), (.int .u64 0), (.int .u64 0), (.int .u64 0), (.int .u64 0), (.int .u64 0), (.int .u64 0), (.int .u64 0), (.int .u64 0), (.int .u64 0), (.int .u64 0), (.int .u64 0), (.int .u64 0), (.int .u64 0), (.int .u64 0), (.int .u64 0), (.int .u64 0), (.int .u64 0), (.int .u64 0), (.int .u64 0), (.int .u64 0), (.int .u64 0), (.int .u64 0), (.int .u64 0), (.int .u64 0), (.int .u64 0), (.int .u64 0), (.int .u64 0), (.int .u64 0), (.int .u64 0), .nils, (.int .i64 0)]) h36) fun v37 h37 =>
  bnd (stS (storeV 35 v37 v36 h37)) fun v38 h38 =>
  bnd (gd v0 true h38 (some (v17, h38))) fun v39 h39 =>
  bnd (gd v0 true h39 (pu h39 (bin Tryd.prog .eql 30 true v39 .nili))) fun v40 h40 =>
  bnd (pu h40 (pickA v0 v40 (.bool false))) fun v41 h41 =>
  bnd (gd v41 true h41 (pu h41 (fieldAddrV 0 v18))) fun v42 h42 =>
  bnd (gd v41 true h42 (pu h42 (loadV G false 1 v42 h42))) fun v43 h43 =>
  bnd (gd v41 true h43 (pu h43 (fieldAddrV 0 v37))) fun v44 h44 =>
  bnd (gd v41 true h44 (pu h44 (loadV G false 1 v44 h44))) fun v45 h45 =>
  bnd (gd v41 true h45 (pu h45 (bin Tryd.prog .eql 3 false v43 v45))) fun v46 h46 =>
  bnd (pu h46 (pickA v41 v46 (.bool false))) fun v47 h47 =>
  bnd (gd v47 true h47 (pu h47 (fieldAddrV 1 v18))) fun v48 h48 =>
  bnd (gd v47 true h48 (pu h48 (loadV G false 1 v48 h48))) fun v49 h49 =>
  bnd (gd v47 true h49 (pu h49 (fieldAddrV 1 v37))) fun v50 h50 =>
  bnd (gd v47 true h50 (pu h50 (loadV G false 1 v50 h50))) fun v51 h51 =>
  bnd (gd v47 true h51 (pureCall (alembicref_SameWords.f G k) [v49, v51] h51)) fun v52 h52 =>
  bnd (pu h52 (pickA v47 v52 (.bool false))) fun v53 h53 =>
  bnd (gd v53 true h53 (pu h53 (fieldAddrV 2 v18))) fun v54 h54 =>
  bnd (gd v53 true h54 (pu h54 (loadV G true 31 v54 h54))) fun v55 h55 =>
  bnd (gd v53 true h55 (pu h55 (fieldAddrV 2 v37))) fun v56 h56 =>
  bnd (gd v53 true h56 (pu h56 (loadV G true 31 v56 h56))) fun v57 h57 =>
  bnd (gd v53 true h57 (pureCall (alembiclaw23_regs.f G k) [v55, v57] h57)) fun v58 h58 =>
  bnd (pu h58 (pickA v53 v58 (.bool false))) fun v59 h59 =>
  bnd (gd v59 true h59 (pu h59 (fieldAddrV 33 v18))) fun v60 h60 =>
  bnd (gd v59 true h60 (pu h60 (loadV G false 1 v60 h60))) fun v61 h61 =>
  bnd (gd v59 true h61 (pu h61 (fieldAddrV 33 v37))) fun v62 h62 =>
  bnd (gd v59 true h62 (pu h62 (loadV G false 1 v62 h62))) fun v63 h63 =>
  bnd (gd v59 true h63 (pureCall (alembicref_SameLeaks.f G k) [v61, v63] h63)) fun v64 h64 =>
  bnd (pu h64 (pickA v59 v64 (.bool false))) fun v65 h65 =>
  bnd (gd v65 true h65 (pu h65 (fieldAddrV 34 v18))) fun v66 h66 =>
  bnd (gd v65 true h66 (pu h66 (loadV G false 1 v66 h66))) fun v67 h67 =>
  bnd (gd v65 true h67 (pu h67 (fieldAddrV 34 v37))) fun v68 h68 =>
  bnd (gd v65 true h68 (pu h68 (loadV G false 1 v68 h68))) fun v69 h69 =>
  bnd (gd v65 true h69 (pu h69 (bin Tryd.prog .eql 2 false v67 v69))) fun v70 h70 =>
  bnd (pu h70 (pickA v65 v70 (.bool false))) fun v71 h71 =>
  finV [v71] h.length h71))))
noncomputable def alembiclaw23_MachRuns.f (G : Globs) : Nat → Den
  | 0 => fun _ _ => none
  | k + 1 => fun args h => arg3 args fun x0 x1 x2 => (alembiclaw23_MachRuns.c G k (alembiclaw23_MachRuns.f G k) x0 x1 x2 h)
theorem alembiclaw23_MachRuns.step (G : Globs) (k : Nat) (x0 x1 x2 : AV) (h : AHeap) : alembiclaw23_MachRuns.f G (k + 1) [x0, x1, x2] h = alembiclaw23_MachRuns.c G k (alembiclaw23_MachRuns.f G k) x0 x1 x2 h := rfl
/-! alembic/alembiclaw23.word: function 31 -/
noncomputable def alembiclaw23_word.ann : Ann := mkAnn [] [] [] []
noncomputable def alembiclaw23_word.env (G : Globs) (k : Nat) (self : Den) : List (Nat × Bool × Den) := [(55, true, alembicref17_Word.f G k)]
noncomputable def alembiclaw23_word.c (G : Globs) (k : Nat) (self : Den) (x0 : AV) (h : AHeap) : Option (AV × AHeap) := outV (
  bnd (boxRoA x0 h) fun v0 h0 =>
  bnd (pu h0 (loadV G true 6 v0 h0)) fun v1 h1 =>
  bnd (pureCall (alembicref17_Word.f G k) [v1] h1) fun v2 h2 =>
  bnd (pu h2 (extractA v2 0)) fun v3 h3 =>
  bnd (pu h3 (extractA v2 1)) fun v4 h4 =>
  finV [v3] h.length h4)
noncomputable def alembiclaw23_word.f (G : Globs) : Nat → Den
  | 0 => fun _ _ => none
  | k + 1 => fun args h => arg1 args fun x0 => (alembiclaw23_word.c G k (alembiclaw23_word.f G k) x0 h)
theorem alembiclaw23_word.step (G : Globs) (k : Nat) (x0 : AV) (h : AHeap) : alembiclaw23_word.f G (k + 1) [x0] h = alembiclaw23_word.c G k (alembiclaw23_word.f G k) x0 h := rfl
/-! alembic/alembiclaw23.MachLoops: function 9 -/
noncomputable def alembiclaw23_MachLoops.ann : Ann := mkAnn [50] [] [(12, [0, 1, 5, 6, 7, 8, 9, 10])] [(21, [5, 6, 9, 11, 12, 13, 14, 15, 16])]
noncomputable def alembiclaw23_MachLoops.env (G : Globs) (k : Nat) (self : Den) : List (Nat × Bool × Den) := [(26, true, alembicworld_Number.f G k), (27, true, alembiclaw23_first.f G k), (28, true, mach_Run.f G k), (31, true, alembiclaw23_word.f G k)]
noncomputable def alembiclaw23_MachLoops.l12 (G : Globs) (k n0 : Nat) (self : Den) (lp : LoopF) : LoopF := fun xs h0 => cutK n0 xs h0 fun h =>
  bnd (pu h (bin Tryd.prog .lss 3 false (nth xs 7) (nth xs 3))) fun v31 h31 =>
  condA v31
  (bnd (pu h31 (idxAddrSl 1 (nth xs 0) (nth xs 7))) fun v32 h32 =>
  bnd (pu h32 (loadV G false 1 v32 h32)) fun v33 h33 =>
  bnd (pu h33 (bin Tryd.prog .add 43 false (nth xs 6) v33)) fun v34 h34 =>
  bnd (pu h34 (bin Tryd.prog .add 3 true (nth xs 7) (.int .i64 1))) fun v35 h35 =>
  lp [(nth xs 0), (nth xs 1), (nth xs 2), (nth xs 3), (nth xs 4), (nth xs 5), v34, v35] h35)
  (some (.exit 0, [(nth xs 0), (nth xs 1), (nth xs 2), (nth xs 3), (nth xs 4), (nth xs 5), (nth xs 6), (nth xs 7)], h31))
noncomputable def alembiclaw23_MachLoops.c (G : Globs) (k : Nat) (self : Den) (x0 x1 : AV) (h : AHeap) : Option (AV × AHeap) := outV (
  bnd (pureCall (alembiclaw23_first.f G k) [] h) fun v0 h0 =>
  bnd (pu h0 (un .not v0)) fun v1 h1 =>
  condA v1
  (finV [(.bool false)] h.length h1)
  (bnd (pu h1 (lenSl x0)) fun v2 h2 =>
  bnd (pu h2 (bin Tryd.prog .gtr 3 true v2 (.int .i64 40))) fun v3 h3 =>
  condA v3
  (finV [v0] h.length h3)
  (bnd (pureCall (alembicworld_Number.f G k) [x1, (.int .i64 5)] h3) fun v4 h4 =>
  bnd (pu h4 (lenSl x0)) fun v5 h5 =>
  bnd (pu h5 (bin Tryd.prog .mul 3 true (.int .i64 8) v5)) fun v6 h6 =>
  bnd (pu h6 (buildSt [(0, 1), (1, 1), (2, 1), (3, 1), (4, 1), (5, 1)] [(.int .i64 0), (.int .i64 0), (.int .i64 0), (.int .i64 0), (.int .i64 0), (.int .i64 0)] [(0, (.int .i64 1)), (1, (.int .i64 3)), (5, v6)])) fun v7 h7 =>
  bnd (pureCall (alembiclaw23_word.f G k) [v7] h7) fun v8 h8 =>
  bnd (pu h8 (buildSt [(0, 1), (1, 1), (2, 1), (3, 1), (4, 1), (5, 1)] [(.int .i64 0), (.int .i64 0), (.int .i64 0), (.int .i64 0), (.int .i64 0), (.int .i64 0)] [(0, (.int .i64 15)), (2, (.int .i64 1)), (3, (.int .i64 3))])) fun v9 h9 =>
  bnd (pureCall (alembiclaw23_word.f G k) [v9] h9) fun v10 h10 =>
  bnd (pu h10 (buildSt [(0, 1), (1, 1), (2, 1), (3, 1), (4, 1), (5, 1)] [(.int .i64 0), (.int .i64 0), (.int .i64 0), (.int .i64 0), (.int .i64 0), (.int .i64 0)] [(0, (.int .i64 21)), (4, (.int .i64 2)), (5, (.int .i64 5))])) fun v11 h11 =>
  bnd (pureCall (alembiclaw23_word.f G k) [v11] h11) fun v12 h12 =>
  bnd (pu h12 (buildSt [(0, 1), (1, 1), (2, 1), (3, 1), (4, 1), (5, 1)] [(.int .i64 0), (.int .i64 0), (.int .i64 0), (.int .i64 0), (.int .i64 0), (.int .i64 0)] [(0, (.int .i64 18)), (1, (.int .i64 4)), (2, (.int .i64 1))])) fun v13 h13 =>
  bnd (pureCall (alembiclaw23_word.f G k) [v13] h13) fun v14 h14 =>
  bnd (pu h14 (buildSt [(0, 1), (1, 1), (2, 1), (3, 1), (4, 1), (5, 1)] [(.int .i64 0), (.int .i64 0), (.int .i64 0), (.int .i64 0), (.int .i64 0), (.int .i64 0)] [(0, (.int .i64 3)), (1, (.int .i64 2)), (2, (.int .i64 2)), (3, (.int .i64 4))])) fun v15 h15 =>
  bnd (pureCall (alembiclaw23_word.f G k) [v15] h15) fun v16 h16 =>
  bnd (pu h16 (buildSt [(0, 1), (1, 1), (2, 1), (3, 1), (4, 1), (5, 1)] [(.int .i64 0), (.int .i64 0), (.int .i64 0), (.int .i64 0), (.int .i64 0), (.int .i64 0)] [(0, (.int .i64 10)), (1, (.int .i64 1)), (2, (.int .i64 1)), (5, (.int .i64 8))])) fun v17 h17 =>
  bnd (pureCall (alembiclaw23_word.f G k) [v17] h17) fun v18 h18 =>
  bnd (pu h18 (buildSt [(0, 1), (1, 1), (2, 1), (3, 1), (4, 1), (5, 1)] [(.int .i64 0), (.int .i64 0), (.int .i64 0), (.int .i64 0), (.int .i64 0), (.int .i64 0)] [(0, (.int .i64 20)), (5, (.int .i64 (-5)))])) fun v19 h19 =>
  bnd (pureCall (alembiclaw23_word.f G k) [v19] h19) fun v20 h20 =>
  bnd (pu h20 (buildSt [(0, 1), (1, 1), (2, 1), (3, 1), (4, 1), (5, 1)] [(.int .i64 0), (.int .i64 0), (.int .i64 0), (.int .i64 0), (.int .i64 0), (.int .i64 0)] [(0, (.int .i64 19)), (1, (.int .i64 2)), (2, (.int .i64 1))])) fun v21 h21 =>
  bnd (pureCall (alembiclaw23_word.f G k) [v21] h21) fun v22 h22 =>
  bnd (pu h22 (buildSt [(0, 1), (1, 1), (2, 1), (3, 1), (4, 1), (5, 1)] [(.int .i64 0), (.int .i64 0), (.int .i64 0), (.int .i64 0), (.int .i64 0), (.int .i64 0)] [(0, (.int .i64 24)), (5, v4)])) fun v23 h23 =>
  bnd (pureCall (alembiclaw23_word.f G k) [v23] h23) fun v24 h24 =>
  bnd (buildRo 1 9 (.int .u32 0) [(0, v8), (1, v10), (2, v12), (3, v14), (4, v16), (5, v18), (6, v20), (7, v22), (8, v24)] h24) fun v25 h25 =>
  bnd (buildOwn 43 1 0 (.int .u64 0) [] h25) fun v26 h26 =>
  bnd (appendV 43 1 v26 x0 h26) fun v27 h27 =>
  bnd (buildRo 1 1 (.int .u64 0) [(0, (.int .u64 0))] h27) fun v28 h28 =>
  bnd (appendV 43 1 v27 v28 h28) fun v29 h29 =>
  thenK (loopN (alembiclaw23_MachLoops.l12 G k h29.length self) k [x0, v4, v0, v5, v25, v29, (.int .u64 0), (.int .i64 0)] h29) fun e30 x30 h30 => exK e30
  (bnd (pu h30 (bin Tryd.prog .mul 3 true (.int .i64 6) (nth x30 3))) fun v36 h36 =>
  bnd (pu h36 (bin Tryd.prog .add 3 true v36 (.int .i64 5))) fun v37 h37 =>
  bnd (pureCall (mach_Run.f G k) [(nth x30 4), (nth x30 5), v37] h37) fun v38 h38 =>
  bnd (pu h38 (extractA v38 0)) fun v39 h39 =>
  bnd (pu h39 (extractA v38 1)) fun v40 h40 =>
  bnd (boxA 65 (.agg [(.int .i64 0), .nils, (.int .u64 0), (.int .u64 0), (.int .u64 0), (.int .u64 0), (.int .u64 0), (.int .u64 0), (.int .u64 0), (.int .u64 0), (.int .u64 0), (.int .u64 0), (.int .u64 0), (.int .u64 0), (.int .u64 0), (.int .u64 0), (.int .u64 0), (.int .u64 0), (.int .u64 0), (.int .u64 0), (.int .u64 0), (.int .u64 0), (.int .u64 0), (.int .u64 0), (.int .u64 0), (.int .u64 0), (.int .u64 0), (.int .u64 0), (.int .u64 0), (.int .u64 0), (.int .u64 0), (.int .u64 0), (.int .u64 0), .nils, (.int .i64 0)]) h40) fun v41 h41 =>
  bnd (stS (storeV 35 v41 v39 h41)) fun v42 h42 =>
  bnd (pu h42 (bin Tryd.prog .sub 2 true v37 (.int .i64 1))) fun v43 h43 =>
  bnd (pureCall (mach_Run.f G k) [(nth x30 4), (nth x30 5), v43] h43) fun v44 h44 =>
  bnd (pu h44 (extractA v44 0)) fun v45 h45 =>
  bnd (pu h45 (extractA v44 1)) fun v46 h46 =>
  bnd (boxA 65 (.agg [(.int .i64 0), .nils, (.int .u64 0), (.int .u64 0), (.int .u64 0), (.int .u64 0), (.int .u64 0), (.int .u64 0), (.int .u64 0), (.int .u64 0), (.int .u64 0), (.int .u64 0), (.int .u64 0), (.int .u64 0), (.int .u64 0), (.int .u64 0), (.int .u64 0), (.int .u64 0), (.int .u64 0), (.int .u64 0), (.int .u64 0), (.int .u64 0), (.int .u64 0), (.int .u64 0), (.int .u64 0), (.int .u64 0), (.int .u64 0), (.int .u64 0), (.int .u64 0), (.int .u64 0), (.int .u64 0), (.int .u64 0), (.int .u64 0), .nils, (.int .i64 0)]) h46) fun v47 h47 =>
  bnd (stS (storeV 35 v47 v45 h47)) fun v48 h48 =>
  thenK (
  bnd (pu h48 (bin Tryd.prog .gtr 3 true (nth x30 1) (.int .i64 2))) fun v49 h49 =>
  condA v49
  (some (.normal, [(nth x30 2), (nth x30 3), (nth x30 6), v37, v41, v40, v47, v46, (.int .i64 3)], h49))
  (some (.normal, [(nth x30 2), (nth x30 3), (nth x30 6), v37, v41, v40, v47, v46, (nth x30 1)], h49))) fun e50 x50 h50 => exK e50
  (bnd (gd (nth x50 0) true h50 (some ((nth x50 5), h50))) fun v51 h51 =>
  bnd (gd (nth x50 0) true h51 (pu h51 (bin Tryd.prog .eql 30 true v51 .nili))) fun v52 h52 =>
  bnd (pu h52 (pickA (nth x50 0) v52 (.bool false))) fun v53 h53 =>
  bnd (gd v53 true h53 (some ((nth x50 7), h53))) fun v54 h54 =>
  bnd (gd v53 true h54 (pu h54 (bin Tryd.prog .eql 30 true v54 .nili))) fun v55 h55 =>
  bnd (pu h55 (pickA v53 v55 (.bool false))) fun v56 h56 =>
  bnd (gd v56 true h56 (pu h56 (fieldAddrV 0 (nth x50 4)))) fun v57 h57 =>
  bnd (gd v56 true h57 (pu h57 (loadV G false 1 v57 h57))) fun v58 h58 =>
  bnd (gd v56 true h58 (some ((nth x50 8), h58))) fun v59 h59 =>
  bnd (gd v56 true h59 (pu h59 (bin Tryd.prog .eql 3 false v58 v59))) fun v60 h60 =>
  bnd (pu h60 (pickA v56 v60 (.bool false))) fun v61 h61 =>
  bnd (gd v61 true h61 (pu h61 (fieldAddrV 34 (nth x50 4)))) fun v62 h62 =>
  bnd (gd v61 true h62 (pu h62 (loadV G false 1 v62 h62))) fun v63 h63 =>
  bnd (gd v61 true h63 (some ((nth x50 3), h63))) fun v64 h64 =>
  bnd (gd v61 true h64 (pu h64 (bin Tryd.prog .eql 2 false v63 v64))) fun v65 h65 =>
  bnd (pu h65 (pickA v61 v65 (.bool false))) fun v66 h66 =>
  bnd (gd v66 true h66 (pu h66 (fieldAddrV 1 (nth x50 4)))) fun v67 h67 =>
  bnd (gd v66 true h67 (pu h67 (loadV G false 1 v67 h67))) fun v68 h68 =>
  bnd (gd v66 true h68 (some ((nth x50 1), h68))) fun v69 h69 =>
  bnd (gd v66 true h69 (pu h69 (idxAddrSl 1 v68 v69))) fun v70 h70 =>
  bnd (gd v66 true h70 (pu h70 (loadV G false 1 v70 h70))) fun v71 h71 =>
  bnd (gd v66 true h71 (some ((nth x50 2), h71))) fun v72 h72 =>
  bnd (gd v66 true h72 (pu h72 (bin Tryd.prog .eql 43 false v71 v72))) fun v73 h73 =>
  bnd (pu h73 (pickA v66 v73 (.bool false))) fun v74 h74 =>
  bnd (gd v74 true h74 (pu h74 (fieldAddrV 2 (nth x50 4)))) fun v75 h75 =>
  bnd (gd v74 true h75 (pu h75 (idxAddrArr 31 1 v75 (.int .i64 2)))) fun v76 h76 =>
  bnd (gd v74 true h76 (pu h76 (loadV G false 1 v76 h76))) fun v77 h77 =>
  bnd (gd v74 true h77 (some ((nth x50 2), h77))) fun v78 h78 =>
  bnd (gd v74 true h78 (pu h78 (bin Tryd.prog .eql 43 false v77 v78))) fun v79 h79 =>
  bnd (pu h79 (pickA v74 v79 (.bool false))) fun v80 h80 =>
  bnd (gd v80 true h80 (pu h80 (fieldAddrV 0 (nth x50 6)))) fun v81 h81 =>
  bnd (gd v80 true h81 (pu h81 (loadV G false 1 v81 h81))) fun v82 h82 =>
  bnd (gd v80 true h82 (pu h82 (bin Tryd.prog .eql 3 true v82 (.int .i64 4)))) fun v83 h83 =>
  bnd (pu h83 (pickA v80 v83 (.bool false))) fun v84 h84 =>
  bnd (gd v84 true h84 (pu h84 (fieldAddrV 33 (nth x50 4)))) fun v85 h85 =>
  bnd (gd v84 true h85 (pu h85 (loadV G false 1 v85 h85))) fun v86 h86 =>
  bnd (gd v84 true h86 (pu h86 (lenSl v86))) fun v87 h87 =>
  bnd (gd v84 true h87 (some ((nth x50 1), h87))) fun v88 h88 =>
  bnd (gd v84 true h88 (pu h88 (bin Tryd.prog .mul 3 true (.int .i64 6) v88))) fun v89 h89 =>
  bnd (gd v84 true h89 (pu h89 (bin Tryd.prog .add 3 true v89 (.int .i64 5)))) fun v90 h90 =>
  bnd (gd v84 true h90 (some ((nth x50 1), h90))) fun v91 h91 =>
  bnd (gd v84 true h91 (pu h91 (bin Tryd.prog .add 3 false v90 v91))) fun v92 h92 =>
  bnd (gd v84 true h92 (pu h92 (bin Tryd.prog .add 3 true v92 (.int .i64 1)))) fun v93 h93 =>
  bnd (gd v84 true h93 (some ((nth x50 1), h93))) fun v94 h94 =>
  bnd (gd v84 true h94 (pu h94 (bin Tryd.prog .add 3 false v93 v94))) fun v95 h95 =>
  bnd (gd v84 true h95 (pu h95 (bin Tryd.prog .add 3 true v95 (.int .i64 1)))) fun v96 h96 =>
  bnd (gd v84 true h96 (pu h96 (bin Tryd.prog .eql 3 false v87 v96))) fun v97 h97 =>
  bnd (pu h97 (pickA v84 v97 (.bool false))) fun v98 h98 =>
  finV [v98] h.length h98)
  (fun i50 => none)
  (finV [.undef] h.length h50))
  (fun i30 => if i30 = 0 then (bnd (pu h30 (bin Tryd.prog .mul 3 true (.int .i64 6) (nth x30 3))) fun v99 h99 =>
  bnd (pu h99 (bin Tryd.prog .add 3 true v99 (.int .i64 5))) fun v100 h100 =>
  bnd (pureCall (mach_Run.f G k) [(nth x30 4), (nth x30 5), v100] h100) fun v101 h101 =>
  bnd (pu h101 (extractA v101 0)) fun v102 h102 =>
  bnd (pu h102 (extractA v101 1)) fun v103 h103 =>
  bnd (boxA 65 (.agg [(.int .i64 0), .nils, (.int .u64 0), (.int .u64 0), (.int .u64 0), (.int .u64 0), (.int .u64 0), (.int .u64 0), (.int .u64 0), (.int .u64 0), (.int .u64 0), (.int .u64 0), (.int .u64 0), (.int .u64 0), (.int .u64 0), (.int .u64 0), (.int .u64 0), (.int .u64 0), (.int .u64 0), (.int .u64 0), (.int .u64 0), (.int .u64 0), (.int .u64 0), (.int .u64 0), (.int .u64 0), (.int .u64 0), (.int .u64 0), (.int .u64 0), (.int .u64 0), (.int .u64 0), (.int .u64 0), (.int .u64 0), (.int .u64 0), .nils, (.int .i64 0)]) h103) fun v104 h104 =>
  bnd (stS (storeV 35 v104 v102 h104)) fun v105 h105 =>
  bnd (pu h105 (bin Tryd.prog .sub 2 true v100 (.int .i64 1))) fun v106 h106 =>
  bnd (pureCall (mach_Run.f G k) [(nth x30 4), (nth x30 5), v106] h106) fun v107 h107 =>
  bnd (pu h107 (extractA v107 0)) fun v108 h108 =>
  bnd (pu h108 (extractA v107 1)) fun v109 h109 =>
  bnd (boxA 65 (.agg [(.int .i64 0), .nils, (.int .u64 0), (.int .u64 0), (.int .u64 0), (.int .u64 0), (.int .u64 0), (.int .u64 0), (.int .u64 0), (.int .u64 0), (.int .u64 0), (.int .u64 0), (.int .u64 0), (.int .u64 0), (.int .u64 0), (.int .u64 0), (.int .u64 0), (.int .u64 0), (.int .u64 0), (.int .u64 0), (.int .u64 0), (.int .u64 0), (.int .u64 0), (.int .u64 0), (.int .u64 0), (.int .u64 0), (.int .u64 0), (.int .u64 0), (.int .u64 0), (.int .u64 0), (.int .u64 0), (.int .u64 0), (.int .u64 0), .nils, (.int .i64 0)]) h109) fun v110 h110 =>
  bnd (stS (storeV 35 v110 v108 h110)) fun v111 h111 =>
  thenK (
  bnd (pu h111 (bin Tryd.prog .gtr 3 true (nth x30 1) (.int .i64 2))) fun v112 h112 =>
  condA v112
  (some (.normal, [(nth x30 2), (nth x30 3), (nth x30 6), v100, v104, v103, v110, v109, (.int .i64 3)], h112))
  (some (.normal, [(nth x30 2), (nth x30 3), (nth x30 6), v100, v104, v103, v110, v109, (nth x30 1)], h112))) fun e113 x113 h113 => exK e113
  (bnd (gd (nth x113 0) true h113 (some ((nth x113 5), h113))) fun v114 h114 =>
  bnd (gd (nth x113 0) true h114 (pu h114 (bin Tryd.prog .eql 30 true v114 .nili))) fun v115 h115 =>
  bnd (pu h115 (pickA (nth x113 0) v115 (.bool false))) fun v116 h116 =>
  bnd (gd v116 true h116 (some ((nth x113 7), h116))) fun v117 h117 =>
  bnd (gd v116 true h117 (pu h117 (bin Tryd.prog .eql 30 true v117 .nili))) fun v118 h118 =>
  bnd (pu h118 (pickA v116 v118 (.bool false))) fun v119 h119 =>
  bnd (gd v119 true h119 (pu h119 (fieldAddrV 0 (nth x113 4)))) fun v120 h120 =>
  bnd (gd v119 true h120 (pu h120 (loadV G false 1 v120 h120))) fun v121 h121 =>
  bnd (gd v119 true h121 (some ((nth x113 8), h121))) fun v122 h122 =>
  bnd (gd v119 true h122 (pu h122 (bin Tryd.prog .eql 3 false v121 v122))) fun v123 h123 =>
  bnd (pu h123 (pickA v119 v123 (.bool false))) fun v124 h124 =>
  bnd (gd v124 true h124 (pu h124 (fieldAddrV 34 (nth x113 4)))) fun v125 h125 =>
  bnd (gd v124 true h125 (pu h125 (loadV G false 1 v125 h125))) fun v126 h126 =>
  bnd (gd v124 true h126 (some ((nth x113 3), h126))) fun v127 h127 =>
  bnd (gd v124 true h127 (pu h127 (bin Tryd.prog .eql 2 false v126 v127))) fun v128 h128 =>
  bnd (pu h128 (pickA v124 v128 (.bool false))) fun v129 h129 =>
  bnd (gd v129 true h129 (pu h129 (fieldAddrV 1 (nth x113 4)))) fun v130 h130 =>
  bnd (gd v129 true h130 (pu h130 (loadV G false 1 v130 h130))) fun v131 h131 =>
  bnd (gd v129 true h131 (some ((nth x113 1), h131))) fun v132 h132 =>
  bnd (gd v129 true h132 (pu h132 (idxAddrSl 1 v131 v132))) fun v133 h133 =>
  bnd (gd v129 true h133 (pu h133 (loadV G false 1 v133 h133))) fun v134 h134 =>
  bnd (gd v129 true h134 (some ((nth x113 2), h134))) fun v135 h135 =>
  bnd (gd v129 true h135 (pu h135 (bin Tryd.prog .eql 43 false v134 v135))) fun v136 h136 =>
  bnd (pu h136 (pickA v129 v136 (.bool false))) fun v137 h137 =>
  bnd (gd v137 true h137 (pu h137 (fieldAddrV 2 (nth x113 4)))) fun v138 h138 =>
  bnd (gd v137 true h138 (pu h138 (idxAddrArr 31 1 v138 (.int .i64 2)))) fun v139 h139 =>
  bnd (gd v137 true h139 (pu h139 (loadV G false 1 v139 h139))) fun v140 h140 =>
  bnd (gd v137 true h140 (some ((nth x113 2), h140))) fun v141 h141 =>
  bnd (gd v137 true h141 (pu h141 (bin Tryd.prog .eql 43 false v140 v141))) fun v142 h142 =>
  bnd (pu h142 (pickA v137 v142 (.bool false))) fun v143 h143 =>
  bnd (gd v143 true h143 (pu h143 (fieldAddrV 0 (nth x113 6)))) fun v144 h144 =>
  bnd (gd v143 true h144 (pu h144 (loadV G false 1 v144 h144))) fun v145 h145 =>
  bnd (gd v143 true h145 (pu h145 (bin Tryd.prog .eql 3 true v145 (.int .i64 4)))) fun v146 h146 =>
  bnd (pu h146 (pickA v143 v146 (.bool false))) fun v147 h147 =>
  bnd (gd v147 true h147 (pu h147 (fieldAddrV 33 (nth x113 4)))) fun v148 h148 =>
  bnd (gd v147 true h148 (pu h148 (loadV G false 1 v148 h148))) fun v149 h149 =>
  bnd (gd v147 true h149 (pu h149 (lenSl v149))) fun v150 h150 =>
  bnd (gd v147 true h150 (some ((nth x113 1), h150))) fun v151 h151 =>
  bnd (gd v147 true h151 (pu h151 (bin Tryd.prog .mul 3 true (.int .i64 6) v151))) fun v152 h152 =>
  bnd (gd v147 true h152 (pu h152 (bin Tryd.prog .add 3 true v152 (.int .i64 5)))) fun v153 h153 =>
  bnd (gd v147 true h153 (some ((nth x113 1), h153))) fun v154 h154 =>
  bnd (gd v147 true h154 (pu h154 (bin Tryd.prog .add 3 false v153 v154))) fun v155 h155 =>
  bnd (gd v147 true h155 (pu h155 (bin Tryd.prog .add 3 true v155 (.int .i64 1)))) fun v156 h156 =>
  bnd (gd v147 true h156 (some ((nth x113 1), h156))) fun v157 h157 =>
  bnd (gd v147 true h157 (pu h157 (bin Tryd.prog .add 3 false v156 v157))) fun v158 h158 =>
  bnd (gd v147 true h158 (pu h158 (bin Tryd.prog .add 3 true v158 (.int .i64 1)))) fun v159 h159 =>
  bnd (gd v147 true h159 (pu h159 (bin Tryd.prog .eql 3 false v150 v159))) fun v160 h160 =>
  bnd (pu h160 (pickA v147 v160 (.bool false))) fun v161 h161 =>
  finV [v161] h.length h161)
  (fun i113 => none)
  (finV [.undef] h.length h113)) else (none))
  (finV [.undef] h.length h30))))
noncomputable def alembiclaw23_MachLoops.f (G : Globs) : Nat → Den
  | 0 => fun _ _ => none
  | k + 1 => fun args h => arg2 args fun x0 x1 => (alembiclaw23_MachLoops.c G k (alembiclaw23_MachLoops.f G k) x0 x1 h)
theorem alembiclaw23_MachLoops.step (G : Globs) (k : Nat) (x0 x1 : AV) (h : AHeap) : alembiclaw23_MachLoops.f G (k + 1) [x0, x1] h = alembiclaw23_MachLoops.c G k (alembiclaw23_MachLoops.f G k) x0 x1 h := rfl
/-! alembic/alembiclaw23.MachFaults: function 10 -/
noncomputable def alembiclaw23_MachFaults.ann : Ann := mkAnn [21] [] [] [(18, [5, 6, 7, 8])]
noncomputable def alembiclaw23_MachFaults.env (G : Globs) (k : Nat) (self : Den) : List (Nat × Bool × Den) := [(26, true, alembicworld_Number.f G k), (27, true, alembiclaw23_first.f G k), (28, true, mach_Run.f G k), (31, true, alembiclaw23_word.f G k)]
noncomputable def alembiclaw23_MachFaults.c (G : Globs) (k : Nat) (self : Den) (x0 x1 : AV) (h : AHeap) : Option (AV × AHeap) := outV (
  bnd (pureCall (alembiclaw23_first.f G k) [] h) fun v0 h0 =>
  bnd (pu h0 (un .not v0)) fun v1 h1 =>
  condA v1
  (finV [(.bool false)] h.length h1)
  (bnd (pureCall (alembicworld_Number.f G k) [x0, (.int .i64 5)] h1) fun v2 h2 =>
  bnd (makeSliceV 43 1 (.int .u64 0) (.int .i64 4) (.int .i64 4) h2) fun v3 h3 =>
  bnd (pu h3 (buildSt [(0, 1), (1, 1), (2, 1), (3, 1), (4, 1), (5, 1)] [(.int .i64 0), (.int .i64 0), (.int .i64 0), (.int .i64 0), (.int .i64 0), (.int .i64 0)] [(0, (.int .i64 1)), (1, (.int .i64 1)), (5, (.int .i64 99))])) fun v4 h4 =>
  bnd (pureCall (alembiclaw23_word.f G k) [v4] h4) fun v5 h5 =>
  bnd (pu h5 (buildSt [(0, 1), (1, 1), (2, 1), (3, 1), (4, 1), (5, 1)] [(.int .i64 0), (.int .i64 0), (.int .i64 0), (.int .i64 0), (.int .i64 0), (.int .i64 0)] [(0, (.int .i64 19)), (1, (.int .i64 1)), (2, (.int .i64 2))])) fun v6 h6 =>
  bnd (pureCall (alembiclaw23_word.f G k) [v6] h6) fun v7 h7 =>
  bnd (buildOwn 71 1 2 (.int .u32 0) [(0, v5), (1, v7)] h7) fun v8 h8 =>
  thenK (
  bnd (pu h8 (bin Tryd.prog .eql 3 true v2 (.int .i64 0))) fun v9 h9 =>
  condA v9
  (bnd (buildRo 1 1 (.int .u32 0) [(0, (.int .u32 0))] h9) fun v10 h10 =>
  bnd (appendV 71 1 v8 v10 h10) fun v11 h11 =>
  some (.normal, [v0, v3, v11, (.int .i64 3)], h11))
  (bnd (pu h9 (bin Tryd.prog .eql 3 true v2 (.int .i64 1))) fun v12 h12 =>
  condA v12
  (bnd (pu h12 (bin Tryd.prog .rem 43 true x1 (.int .u64 4000))) fun v13 h13 =>
  bnd (pu h13 (convInt .i64 v13)) fun v14 h14 =>
  bnd (pu h14 (bin Tryd.prog .add 3 true (.int .i64 4) v14)) fun v15 h15 =>
  bnd (pu h15 (buildSt [(0, 1), (1, 1), (2, 1), (3, 1), (4, 1), (5, 1)] [(.int .i64 0), (.int .i64 0), (.int .i64 0), (.int .i64 0), (.int .i64 0), (.int .i64 0)] [(0, (.int .i64 18)), (1, (.int .i64 3)), (2, (.int .i64 2)), (5, v15)])) fun v16 h16 =>
  bnd (pureCall (alembiclaw23_word.f G k) [v16] h16) fun v17 h17 =>
  bnd (buildRo 1 1 (.int .u32 0) [(0, v17)] h17) fun v18 h18 =>
  bnd (appendV 71 1 v8 v18 h18) fun v19 h19 =>
  some (.normal, [v0, v3, v19, (.int .i64 3)], h19))
  (bnd (pu h12 (bin Tryd.prog .eql 3 true v2 (.int .i64 2))) fun v20 h20 =>
  condA v20
  (bnd (pu h20 (buildSt [(0, 1), (1, 1), (2, 1), (3, 1), (4, 1), (5, 1)] [(.int .i64 0), (.int .i64 0), (.int .i64 0), (.int .i64 0), (.int .i64 0), (.int .i64 0)] [(0, (.int .i64 18)), (1, (.int .i64 3)), (2, (.int .i64 1))])) fun v21 h21 =>
  bnd (pureCall (alembiclaw23_word.f G k) [v21] h21) fun v22 h22 =>
  bnd (buildRo 1 1 (.int .u32 0) [(0, v22)] h22) fun v23 h23 =>
  bnd (appendV 71 1 v8 v23 h23) fun v24 h24 =>
  some (.normal, [v0, v3, v24, (.int .i64 3)], h24))
  (bnd (pu h20 (bin Tryd.prog .eql 3 true v2 (.int .i64 3))) fun v25 h25 =>
  condA v25
  (bnd (pu h25 (bin Tryd.prog .rem 43 true x1 (.int .u64 1000))) fun v26 h26 =>
  bnd (pu h26 (convInt .i64 v26)) fun v27 h27 =>
  bnd (pu h27 (bin Tryd.prog .add 3 true (.int .i64 1) v27)) fun v28 h28 =>
  bnd (pu h28 (buildSt [(0, 1), (1, 1), (2, 1), (3, 1), (4, 1), (5, 1)] [(.int .i64 0), (.int .i64 0), (.int .i64 0), (.int .i64 0), (.int .i64 0), (.int .i64 0)] [(0, (.int .i64 20)), (5, v28)])) fun v29 h29 =>
  bnd (pureCall (alembiclaw23_word.f G k) [v29] h29) fun v30 h30 =>
  bnd (buildRo 1 1 (.int .u32 0) [(0, v30)] h30) fun v31 h31 =>
  bnd (appendV 71 1 v8 v31 h31) fun v32 h32 =>
  some (.normal, [v0, v3, v32, (.int .i64 3)], h32))
  (bnd (pu h25 (bin Tryd.prog .rem 43 true x1 (.int .u64 1000))) fun v33 h33 =>
  bnd (pu h33 (convInt .i64 v33)) fun v34 h34 =>
  bnd (pu h34 (bin Tryd.prog .sub 3 true (.int .i64 (-3)) v34)) fun v35 h35 =>
  bnd (pu h35 (buildSt [(0, 1), (1, 1), (2, 1), (3, 1), (4, 1), (5, 1)] [(.int .i64 0), (.int .i64 0), (.int .i64 0), (.int .i64 0), (.int .i64 0), (.int .i64 0)] [(0, (.int .i64 20)), (5, v35)])) fun v36 h36 =>
  bnd (pureCall (alembiclaw23_word.f G k) [v36] h36) fun v37 h37 =>
  bnd (buildRo 1 1 (.int .u32 0) [(0, v37)] h37) fun v38 h38 =>
  bnd (appendV 71 1 v8 v38 h38) fun v39 h39 =>
  some (.normal, [v0, v3, v39, (.int .i64 3)], h39)))))) fun e40 x40 h40 => exK e40
  (bnd (pureCall (mach_Run.f G k) [(nth x40 2), (nth x40 1), (.int .i64 100)] h40) fun v41 h41 =>
  bnd (pu h41 (extractA v41 0)) fun v42 h42 =>
  bnd (pu h42 (extractA v41 1)) fun v43 h43 =>
  bnd (boxA 65 (.agg [(.int .i64 0), .nils, (.int .u64 0), (.int .u64 0), (.int .u64 0), (.int .u64 0), (.int .u64 0), (.int .u64 0), (.int .u64 0), (.int .u64 0), (.int .u64 0), (.int .u64 0), (.int .u64 0), (.int .u64 0), (.int .u64 0), (.int .u64 0), (.int .u64 0), (.int .u64 0), (.int .u64 0), (.int .u64 0), (.int .u64 0), (.int .u64 0), (.int .u64 0), (.int .u64 0), (.int .u64 0), (.int .u64 0), (.int .u64 0), (.int .u64 0), (.int .u64 0), (.int .u64 0), (.int .u64 0), (.int .u64 0), (.int .u64 0), .nils, (.int .i64 0)]) h43) fun v44 h44 =>
  bnd (stS (storeV 35 v44 v42 h44)) fun v45 h45 =>
  bnd (gd (nth x40 0) true h45 (some (v43, h45))) fun v46 h46 =>
  bnd (gd (nth x40 0) true h46 (pu h46 (bin Tryd.prog .eql 30 true v46 .nili))) fun v47 h47 =>
  bnd (pu h47 (pickA (nth x40 0) v47 (.bool false))) fun v48 h48 =>
  bnd (gd v48 true h48 (pu h48 (fieldAddrV 0 v44))) fun v49 h49 =>
  bnd (gd v48 true h49 (pu h49 (loadV G false 1 v49 h49))) fun v50 h50 =>
  bnd (gd v48 true h50 (pu h50 (bin Tryd.prog .eql 3 true v50 (.int .i64 3)))) fun v51 h51 =>
  bnd (pu h51 (pickA v48 v51 (.bool false))) fun v52 h52 =>
  bnd (gd v52 true h52 (pu h52 (fieldAddrV 34 v44))) fun v53 h53 =>
  bnd (gd v52 true h53 (pu h53 (loadV G false 1 v53 h53))) fun v54 h54 =>
  bnd (gd v52 true h54 (some ((nth x40 3), h54))) fun v55 h55 =>
  bnd (gd v52 true h55 (pu h55 (bin Tryd.prog .eql 2 false v54 v55))) fun v56 h56 =>
  bnd (pu h56 (pickA v52 v56 (.bool false))) fun v57 h57 =>
  bnd (gd v57 true h57 (pu h57 (fieldAddrV 1 v44))) fun v58 h58 =>
  bnd (gd v57 true h58 (pu h58 (loadV G false 1 v58 h58))) fun v59 h59 =>
  bnd (gd v57 true h59 (pu h59 (lenSl v59))) fun v60 h60 =>
  bnd (gd v57 true h60 (pu h60 (bin Tryd.prog .eql 3 true v60 (.int .i64 4)))) fun v61 h61 =>
  bnd (pu h61 (pickA v57 v61 (.bool false))) fun v62 h62 =>
  bnd (gd v62 true h62 (pu h62 (fieldAddrV 1 v44))) fun v63 h63 =>
  bnd (gd v62 true h63 (pu h63 (loadV G false 1 v63 h63))) fun v64 h64 =>
  bnd (gd v62 true h64 (pu h64 (idxAddrSl 1 v64 (.int .i64 0)))) fun v65 h65 =>
  bnd (gd v62 true h65 (pu h65 (loadV G false 1 v65 h65))) fun v66 h66 =>
  bnd (gd v62 true h66 (pu h66 (bin Tryd.prog .eql 43 true v66 (.int .u64 99)))) fun v67 h67 =>
  bnd (pu h67 (pickA v62 v67 (.bool false))) fun v68 h68 =>
  bnd (gd v68 true h68 (pu h68 (fieldAddrV 2 v44))) fun v69 h69 =>
  bnd (gd v68 true h69 (pu h69 (idxAddrArr 31 1 v69 (.int .i64 1)))) fun v70 h70 =>
  bnd (gd v68 true h70 (pu h70 (loadV G false 1 v70 h70))) fun v71 h71 =>
  bnd (gd v68 true h71 (pu h71 (bin Tryd.prog .eql 43 true v71 (.int .u64 99)))) fun v72 h72 =>
  bnd (pu h72 (pickA v68 v72 (.bool false))) fun v73 h73 =>
  bnd (gd v73 true h73 (pu h73 (fieldAddrV 2 v44))) fun v74 h74 =>
  bnd (gd v73 true h74 (pu h74 (idxAddrArr 31 1 v74 (.int .i64 3)))) fun v75 h75 =>
  bnd (gd v73 true h75 (pu h75 (loadV G false 1 v75 h75))) fun v76 h76 =>
  bnd (gd v73 true h76 (pu h76 (bin Tryd.prog .eql 43 true v76 (.int .u64 0)))) fun v77 h77 =>
  bnd (pu h77 (pickA v73 v77 (.bool false))) fun v78 h78 =>
  finV [v78] h.length h78)
  (fun i40 => none)
  (finV [.undef] h.length h40)))
noncomputable def alembiclaw23_MachFaults.f (G : Globs) : Nat → Den
  | 0 => fun _ _ => none
  | k + 1 => fun args h => arg2 args fun x0 x1 => (alembiclaw23_MachFaults.c G k (alembiclaw23_MachFaults.f G k) x0 x1 h)
theorem alembiclaw23_MachFaults.step (G : Globs) (k : Nat) (x0 x1 : AV) (h : AHeap) : alembiclaw23_MachFaults.f G (k + 1) [x0, x1] h = alembiclaw23_MachFaults.c G k (alembiclaw23_MachFaults.f G k) x0 x1 h := rfl
end Go.Proofs.YtdfglgnflldkpaaDoor.Mir
namespace Go.Proofs.YtdfglgnflldkpaaDoor.Mir
open Go
set_option linter.unusedVariables false
theorem alembicref_SameLeak1.here : ∃ fn, Tryd.prog.funcs[50]? = some fn ∧ fn.body.isSome = true ∧ (fn.name == "runtime.NumGoroutine") = false := ⟨_, Tryd.func50, by kernel_rfl, by kernel_rfl⟩
theorem alembicref_SameLeak1.eq (G : Globs) (k : Nat) (self : Den) (x0 x1 : AV) (h : AHeap) : absFn Tryd.prog G (envL (alembicref_SameLeak1.env G k self)) alembicref_SameLeak1.ann Tryd.f50.results.toList (codeOf Tryd.f50) Tryd.f50.ntmps k [x0, x1] h = alembicref_SameLeak1.c G k self x0 x1 h := by kernel_rfl
theorem alembicref_SameLeak1.sound {G : Globs} (hG : ∀ g x, G g = some x → plainB x = true) : ∀ k, Sound Tryd.prog G 50 (alembicref_SameLeak1.f G k)
  | 0 => sound_zero alembicref_SameLeak1.here (fun _ _ => rfl)
  | k + 1 => sound_succ (l := alembicref_SameLeak1.env G k (alembicref_SameLeak1.f G k)) (ann := alembicref_SameLeak1.ann) (n := k) (envSound_of hG envNil) orders Tryd.func50 (by kernel_rfl) (by kernel_rfl) rfl (by kernel_rfl) (arg2_of fun x0 x1 h => alembicref_SameLeak1.eq G k _ x0 x1 h)
theorem alembicref_SameLeaks.here : ∃ fn, Tryd.prog.funcs[21]? = some fn ∧ fn.body.isSome = true ∧ (fn.name == "runtime.NumGoroutine") = false := ⟨_, Tryd.func21, by kernel_rfl, by kernel_rfl⟩
theorem alembicref_SameLeaks.eq (G : Globs) (k : Nat) (self : Den) (x0 x1 : AV) (h : AHeap) : absFn Tryd.prog G (envL (alembicref_SameLeaks.env G k self)) alembicref_SameLeaks.ann Tryd.f21.results.toList (codeOf Tryd.f21) Tryd.f21.ntmps k [x0, x1] h = alembicref_SameLeaks.c G k self x0 x1 h := by kernel_rfl
theorem alembicref_SameLeaks.sound {G : Globs} (hG : ∀ g x, G g = some x → plainB x = true) : ∀ k, Sound Tryd.prog G 21 (alembicref_SameLeaks.f G k)
  | 0 => sound_zero alembicref_SameLeaks.here (fun _ _ => rfl)
  | k + 1 => sound_succ (l := alembicref_SameLeaks.env G k (alembicref_SameLeaks.f G k)) (ann := alembicref_SameLeaks.ann) (n := k) (envSound_of hG (envCons (alembicref_SameLeak1.sound hG k) envNil)) orders Tryd.func21 (by kernel_rfl) (by kernel_rfl) rfl (by kernel_rfl) (arg2_of fun x0 x1 h => alembicref_SameLeaks.eq G k _ x0 x1 h)
theorem alembicref_Bare.here : ∃ fn, Tryd.prog.funcs[35]? = some fn ∧ fn.body.isSome = true ∧ (fn.name == "runtime.NumGoroutine") = false := ⟨_, Tryd.func35, by kernel_rfl, by kernel_rfl⟩
theorem alembicref_Bare.eq (G : Globs) (k : Nat) (self : Den) (x0 : AV) (h : AHeap) : absFn Tryd.prog G (envL (alembicref_Bare.env G k self)) alembicref_Bare.ann Tryd.f35.results.toList (codeOf Tryd.f35) Tryd.f35.ntmps k [x0] h = alembicref_Bare.c G k self x0 h := by kernel_rfl
theorem alembicref_Bare.sound {G : Globs} (hG : ∀ g x, G g = some x → plainB x = true) : ∀ k, Sound Tryd.prog G 35 (alembicref_Bare.f G k)
  | 0 => sound_zero alembicref_Bare.here (fun _ _ => rfl)
  | k + 1 => sound_succ (l := alembicref_Bare.env G k (alembicref_Bare.f G k)) (ann := alembicref_Bare.ann) (n := k) (envSound_of hG envNil) orders Tryd.func35 (by kernel_rfl) (by kernel_rfl) rfl (by kernel_rfl) (arg1_of fun x0 h => alembicref_Bare.eq G k _ x0 h)
theorem alembicref_SameFault.here : ∃ fn, Tryd.prog.funcs[61]? = some fn ∧ fn.body.isSome = true ∧ (fn.name == "runtime.NumGoroutine") = false := ⟨_, Tryd.func61, by kernel_rfl, by kernel_rfl⟩
theorem alembicref_SameFault.eq (G : Globs) (k : Nat) (self : Den) (x0 x1 : AV) (h : AHeap) : absFn Tryd.prog G (envL (alembicref_SameFault.env G k self)) alembicref_SameFault.ann Tryd.f61.results.toList (codeOf Tryd.f61) Tryd.f61.ntmps k [x0, x1] h = alembicref_SameFault.c G k self x0 x1 h := by kernel_rfl
theorem alembicref_SameFault.sound {G : Globs} (hG : ∀ g x, G g = some x → plainB x = true) : ∀ k, Sound Tryd.prog G 61 (alembicref_SameFault.f G k)
  | 0 => sound_zero alembicref_SameFault.here (fun _ _ => rfl)
  | k + 1 => sound_succ (l := alembicref_SameFault.env G k (alembicref_SameFault.f G k)) (ann := alembicref_SameFault.ann) (n := k) (envSound_of hG envNil) orders Tryd.func61 (by kernel_rfl) (by kernel_rfl) rfl (by kernel_rfl) (arg2_of fun x0 x1 h => alembicref_SameFault.eq G k _ x0 x1 h)
theorem alembicref_None.here : ∃ fn, Tryd.prog.funcs[45]? = some fn ∧ fn.body.isSome = true ∧ (fn.name == "runtime.NumGoroutine") = false := ⟨_, Tryd.func45, by kernel_rfl, by kernel_rfl⟩
theorem alembicref_None.eq (G : Globs) (k : Nat) (self : Den) (h : AHeap) : absFn Tryd.prog G (envL (alembicref_None.env G k self)) alembicref_None.ann Tryd.f45.results.toList (codeOf Tryd.f45) Tryd.f45.ntmps k [] h = alembicref_None.c G k self h := by kernel_rfl
theorem alembicref_None.sound {G : Globs} (hG : ∀ g x, G g = some x → plainB x = true) : ∀ k, Sound Tryd.prog G 45 (alembicref_None.f G k)
  | 0 => sound_zero alembicref_None.here (fun _ _ => rfl)
  | k + 1 => sound_succ (l := alembicref_None.env G k (alembicref_None.f G k)) (ann := alembicref_None.ann) (n := k) (envSound_of hG envNil) orders Tryd.func45 (by kernel_rfl) (by kernel_rfl) rfl (by kernel_rfl) (arg0_of fun h => alembicref_None.eq G k _ h)
theorem alembicref_Placed.here : ∃ fn, Tryd.prog.funcs[44]? = some fn ∧ fn.body.isSome = true ∧ (fn.name == "runtime.NumGoroutine") = false := ⟨_, Tryd.func44, by kernel_rfl, by kernel_rfl⟩
theorem alembicref_Placed.eq (G : Globs) (k : Nat) (self : Den) (x0 x1 : AV) (h : AHeap) : absFn Tryd.prog G (envL (alembicref_Placed.env G k self)) alembicref_Placed.ann Tryd.f44.results.toList (codeOf Tryd.f44) Tryd.f44.ntmps k [x0, x1] h = alembicref_Placed.c G k self x0 x1 h := by kernel_rfl
theorem alembicref_Placed.sound {G : Globs} (hG : ∀ g x, G g = some x → plainB x = true) : ∀ k, Sound Tryd.prog G 44 (alembicref_Placed.f G k)
  | 0 => sound_zero alembicref_Placed.here (fun _ _ => rfl)
  | k + 1 => sound_succ (l := alembicref_Placed.env G k (alembicref_Placed.f G k)) (ann := alembicref_Placed.ann) (n := k) (envSound_of hG (envCons (alembicref_None.sound hG k) envNil)) orders Tryd.func44 (by kernel_rfl) (by kernel_rfl) rfl (by kernel_rfl) (arg2_of fun x0 x1 h => alembicref_Placed.eq G k _ x0 x1 h)
theorem alembicsee_sentinels.here : ∃ fn, Tryd.prog.funcs[103]? = some fn ∧ fn.body.isSome = true ∧ (fn.name == "runtime.NumGoroutine") = false := ⟨_, Tryd.func103, by kernel_rfl, by kernel_rfl⟩
theorem alembicsee_sentinels.eq (G : Globs) (k : Nat) (self : Den) (h : AHeap) : absFn Tryd.prog G (envL (alembicsee_sentinels.env G k self)) alembicsee_sentinels.ann Tryd.f103.results.toList (codeOf Tryd.f103) Tryd.f103.ntmps k [] h = alembicsee_sentinels.c G k self h := by kernel_rfl
theorem alembicsee_sentinels.sound {G : Globs} (hG : ∀ g x, G g = some x → plainB x = true) : ∀ k, Sound Tryd.prog G 103 (alembicsee_sentinels.f G k)
  | 0 => sound_zero alembicsee_sentinels.here (fun _ _ => rfl)
  | k + 1 => sound_succ (l := alembicsee_sentinels.env G k (alembicsee_sentinels.f G k)) (ann := alembicsee_sentinels.ann) (n := k) (envSound_of hG envNil) orders Tryd.func103 (by kernel_rfl) (by kernel_rfl) rfl (by kernel_rfl) (arg0_of fun h => alembicsee_sentinels.eq G k _ h)
theorem alembicsee_Alike.here : ∃ fn, Tryd.prog.funcs[104]? = some fn ∧ fn.body.isSome = true ∧ (fn.name == "runtime.NumGoroutine") = false := ⟨_, Tryd.func104, by kernel_rfl, by kernel_rfl⟩
theorem alembicsee_Alike.eq (G : Globs) (k : Nat) (self : Den) (x0 x1 : AV) (h : AHeap) : absFn Tryd.prog G (envL (alembicsee_Alike.env G k self)) alembicsee_Alike.ann Tryd.f104.results.toList (codeOf Tryd.f104) Tryd.f104.ntmps k [x0, x1] h = alembicsee_Alike.c G k self x0 x1 h := by kernel_rfl
theorem alembicsee_Alike.sound {G : Globs} (hG : ∀ g x, G g = some x → plainB x = true) : ∀ k, Sound Tryd.prog G 104 (alembicsee_Alike.f G k)
  | 0 => sound_zero alembicsee_Alike.here (fun _ _ => rfl)
  | k + 1 => sound_succ (l := alembicsee_Alike.env G k (alembicsee_Alike.f G k)) (ann := alembicsee_Alike.ann) (n := k) (envSound_of hG envNil) orders Tryd.func104 (by kernel_rfl) (by kernel_rfl) rfl (by kernel_rfl) (arg2_of fun x0 x1 h => alembicsee_Alike.eq G k _ x0 x1 h)
theorem alembicsee_sentinel.here : ∃ fn, Tryd.prog.funcs[87]? = some fn ∧ fn.body.isSome = true ∧ (fn.name == "runtime.NumGoroutine") = false := ⟨_, Tryd.func87, by kernel_rfl, by kernel_rfl⟩
theorem alembicsee_sentinel.eq (G : Globs) (k : Nat) (self : Den) (x0 : AV) (h : AHeap) : absFn Tryd.prog G (envL (alembicsee_sentinel.env G k self)) alembicsee_sentinel.ann Tryd.f87.results.toList (codeOf Tryd.f87) Tryd.f87.ntmps k [x0] h = alembicsee_sentinel.c G k self x0 h := by kernel_rfl
theorem alembicsee_sentinel.sound {G : Globs} (hG : ∀ g x, G g = some x → plainB x = true) : ∀ k, Sound Tryd.prog G 87 (alembicsee_sentinel.f G k)
  | 0 => sound_zero alembicsee_sentinel.here (fun _ _ => rfl)
  | k + 1 => sound_succ (l := alembicsee_sentinel.env G k (alembicsee_sentinel.f G k)) (ann := alembicsee_sentinel.ann) (n := k) (envSound_of hG (envCons (alembicsee_sentinels.sound hG k) (envCons (alembicsee_Alike.sound hG k) envNil))) orders Tryd.func87 (by kernel_rfl) (by kernel_rfl) rfl (by kernel_rfl) (arg1_of fun x0 h => alembicsee_sentinel.eq G k _ x0 h)
theorem alembicsee_Fault.here : ∃ fn, Tryd.prog.funcs[62]? = some fn ∧ fn.body.isSome = true ∧ (fn.name == "runtime.NumGoroutine") = false := ⟨_, Tryd.func62, by kernel_rfl, by kernel_rfl⟩
theorem alembicsee_Fault.eq (G : Globs) (k : Nat) (self : Den) (x0 : AV) (h : AHeap) : absFn Tryd.prog G (envL (alembicsee_Fault.env G k self)) alembicsee_Fault.ann Tryd.f62.results.toList (codeOf Tryd.f62) Tryd.f62.ntmps k [x0] h = alembicsee_Fault.c G k self x0 h := by kernel_rfl
theorem alembicsee_Fault.sound {G : Globs} (hG : ∀ g x, G g = some x → plainB x = true) : ∀ k, Sound Tryd.prog G 62 (alembicsee_Fault.f G k)
  | 0 => sound_zero alembicsee_Fault.here (fun _ _ => rfl)
  | k + 1 => sound_succ (l := alembicsee_Fault.env G k (alembicsee_Fault.f G k)) (ann := alembicsee_Fault.ann) (n := k) (envSound_of hG (envCons (alembicref_Bare.sound hG k) (envCons (alembicref_Placed.sound hG k) (envCons (alembicref_None.sound hG k) (envCons (alembicsee_sentinel.sound hG k) envNil))))) orders Tryd.func62 (by kernel_rfl) (by kernel_rfl) rfl (by kernel_rfl) (arg1_of fun x0 h => alembicsee_Fault.eq G k _ x0 h)
theorem alembicsee_Same.here : ∃ fn, Tryd.prog.funcs[36]? = some fn ∧ fn.body.isSome = true ∧ (fn.name == "runtime.NumGoroutine") = false := ⟨_, Tryd.func36, by kernel_rfl, by kernel_rfl⟩
theorem alembicsee_Same.eq (G : Globs) (k : Nat) (self : Den) (x0 x1 : AV) (h : AHeap) : absFn Tryd.prog G (envL (alembicsee_Same.env G k self)) alembicsee_Same.ann Tryd.f36.results.toList (codeOf Tryd.f36) Tryd.f36.ntmps k [x0, x1] h = alembicsee_Same.c G k self x0 x1 h := by kernel_rfl
theorem alembicsee_Same.sound {G : Globs} (hG : ∀ g x, G g = some x → plainB x = true) : ∀ k, Sound Tryd.prog G 36 (alembicsee_Same.f G k)
  | 0 => sound_zero alembicsee_Same.here (fun _ _ => rfl)
  | k + 1 => sound_succ (l := alembicsee_Same.env G k (alembicsee_Same.f G k)) (ann := alembicsee_Same.ann) (n := k) (envSound_of hG (envCons (alembicref_SameFault.sound hG k) (envCons (alembicsee_Fault.sound hG k) envNil))) orders Tryd.func36 (by kernel_rfl) (by kernel_rfl) rfl (by kernel_rfl) (arg2_of fun x0 x1 h => alembicsee_Same.eq G k _ x0 x1 h)
theorem alembicsee_Is.here : ∃ fn, Tryd.prog.funcs[24]? = some fn ∧ fn.body.isSome = true ∧ (fn.name == "runtime.NumGoroutine") = false := ⟨_, Tryd.func24, by kernel_rfl, by kernel_rfl⟩
theorem alembicsee_Is.eq (G : Globs) (k : Nat) (self : Den) (x0 x1 : AV) (h : AHeap) : absFn Tryd.prog G (envL (alembicsee_Is.env G k self)) alembicsee_Is.ann Tryd.f24.results.toList (codeOf Tryd.f24) Tryd.f24.ntmps k [x0, x1] h = alembicsee_Is.c G k self x0 x1 h := by kernel_rfl
theorem alembicsee_Is.sound {G : Globs} (hG : ∀ g x, G g = some x → plainB x = true) : ∀ k, Sound Tryd.prog G 24 (alembicsee_Is.f G k)
  | 0 => sound_zero alembicsee_Is.here (fun _ _ => rfl)
  | k + 1 => sound_succ (l := alembicsee_Is.env G k (alembicsee_Is.f G k)) (ann := alembicsee_Is.ann) (n := k) (envSound_of hG (envCons (alembicref_Bare.sound hG k) (envCons (alembicsee_Same.sound hG k) envNil))) orders Tryd.func24 (by kernel_rfl) (by kernel_rfl) rfl (by kernel_rfl) (arg2_of fun x0 x1 h => alembicsee_Is.eq G k _ x0 x1 h)
theorem alembicref_SameWords.here : ∃ fn, Tryd.prog.funcs[29]? = some fn ∧ fn.body.isSome = true ∧ (fn.name == "runtime.NumGoroutine") = false := ⟨_, Tryd.func29, by kernel_rfl, by kernel_rfl⟩
theorem alembicref_SameWords.eq (G : Globs) (k : Nat) (self : Den) (x0 x1 : AV) (h : AHeap) : absFn Tryd.prog G (envL (alembicref_SameWords.env G k self)) alembicref_SameWords.ann Tryd.f29.results.toList (codeOf Tryd.f29) Tryd.f29.ntmps k [x0, x1] h = alembicref_SameWords.c G k self x0 x1 h := by kernel_rfl
theorem alembicref_SameWords.sound {G : Globs} (hG : ∀ g x, G g = some x → plainB x = true) : ∀ k, Sound Tryd.prog G 29 (alembicref_SameWords.f G k)
  | 0 => sound_zero alembicref_SameWords.here (fun _ _ => rfl)
  | k + 1 => sound_succ (l := alembicref_SameWords.env G k (alembicref_SameWords.f G k)) (ann := alembicref_SameWords.ann) (n := k) (envSound_of hG envNil) orders Tryd.func29 (by kernel_rfl) (by kernel_rfl) rfl (by kernel_rfl) (arg2_of fun x0 x1 h => alembicref_SameWords.eq G k _ x0 x1 h)
theorem alembiclaw23_MachRuns.here : ∃ fn, Tryd.prog.funcs[8]? = some fn ∧ fn.body.isSome = true ∧ (fn.name == "runtime.NumGoroutine") = false := ⟨_, Tryd.func8, by kernel_rfl, by kernel_rfl⟩
theorem alembiclaw23_MachRuns.eq (G : Globs) (k : Nat) (self : Den) (x0 x1 x2 : AV) (h : AHeap) : absFn Tryd.prog G (envL (alembiclaw23_MachRuns.env G k self)) alembiclaw23_MachRuns.ann Tryd.f8.results.toList (codeOf Tryd.f8) Tryd.f8.ntmps k [x0, x1, x2] h = alembiclaw23_MachRuns.c G k self x0 x1 x2 h := by kernel_rfl
theorem alembiclaw23_MachRuns.sound {G : Globs} (hG : ∀ g x, G g = some x → plainB x = true) : ∀ k, Sound Tryd.prog G 8 (alembiclaw23_MachRuns.f G k)
  | 0 => sound_zero alembiclaw23_MachRuns.here (fun _ _ => rfl)
  | k + 1 => sound_succ (l := alembiclaw23_MachRuns.env G k (alembiclaw23_MachRuns.f G k)) (ann := alembiclaw23_MachRuns.ann) (n := k) (envSound_of hG (envCons (alembicref_SameLeaks.sound hG k) (envCons (alembicref17_RunMach.sound hG k) (envCons (alembicsee_Is.sound hG k) (envCons (alembiclaw23_first.sound hG k) (envCons (mach_Run.sound hG k) (envCons (alembicref_SameWords.sound hG k) (envCons (alembiclaw23_regs.sound hG k) envNil)))))))) orders Tryd.func8 (by kernel_rfl) (by kernel_rfl) rfl (by kernel_rfl) (arg3_of fun x0 x1 x2 h => alembiclaw23_MachRuns.eq G k _ x0 x1 x2 h)
theorem alembiclaw23_word.here : ∃ fn, Tryd.prog.funcs[31]? = some fn ∧ fn.body.isSome = true ∧ (fn.name == "runtime.NumGoroutine") = false := ⟨_, Tryd.func31, by kernel_rfl, by kernel_rfl⟩
theorem alembiclaw23_word.eq (G : Globs) (k : Nat) (self : Den) (x0 : AV) (h : AHeap) : absFn Tryd.prog G (envL (alembiclaw23_word.env G k self)) alembiclaw23_word.ann Tryd.f31.results.toList (codeOf Tryd.f31) Tryd.f31.ntmps k [x0] h = alembiclaw23_word.c G k self x0 h := by kernel_rfl
theorem alembiclaw23_word.sound {G : Globs} (hG : ∀ g x, G g = some x → plainB x = true) : ∀ k, Sound Tryd.prog G 31 (alembiclaw23_word.f G k)
  | 0 => sound_zero alembiclaw23_word.here (fun _ _ => rfl)
  | k + 1 => sound_succ (l := alembiclaw23_word.env G k (alembiclaw23_word.f G k)) (ann := alembiclaw23_word.ann) (n := k) (envSound_of hG (envCons (alembicref17_Word.sound hG k) envNil)) orders Tryd.func31 (by kernel_rfl) (by kernel_rfl) rfl (by kernel_rfl) (arg1_of fun x0 h => alembiclaw23_word.eq G k _ x0 h)
theorem alembiclaw23_MachLoops.here : ∃ fn, Tryd.prog.funcs[9]? = some fn ∧ fn.body.isSome = true ∧ (fn.name == "runtime.NumGoroutine") = false := ⟨_, Tryd.func9, by kernel_rfl, by kernel_rfl⟩
theorem alembiclaw23_MachLoops.eq (G : Globs) (k : Nat) (self : Den) (x0 x1 : AV) (h : AHeap) : absFn Tryd.prog G (envL (alembiclaw23_MachLoops.env G k self)) alembiclaw23_MachLoops.ann Tryd.f9.results.toList (codeOf Tryd.f9) Tryd.f9.ntmps k [x0, x1] h = alembiclaw23_MachLoops.c G k self x0 x1 h := by kernel_rfl
theorem alembiclaw23_MachLoops.sound {G : Globs} (hG : ∀ g x, G g = some x → plainB x = true) : ∀ k, Sound Tryd.prog G 9 (alembiclaw23_MachLoops.f G k)
  | 0 => sound_zero alembiclaw23_MachLoops.here (fun _ _ => rfl)
  | k + 1 => sound_succ (l := alembiclaw23_MachLoops.env G k (alembiclaw23_MachLoops.f G k)) (ann := alembiclaw23_MachLoops.ann) (n := k) (envSound_of hG (envCons (alembicworld_Number.sound hG k) (envCons (alembiclaw23_first.sound hG k) (envCons (mach_Run.sound hG k) (envCons (alembiclaw23_word.sound hG k) envNil))))) orders Tryd.func9 (by kernel_rfl) (by kernel_rfl) rfl (by kernel_rfl) (arg2_of fun x0 x1 h => alembiclaw23_MachLoops.eq G k _ x0 x1 h)
theorem alembiclaw23_MachFaults.here : ∃ fn, Tryd.prog.funcs[10]? = some fn ∧ fn.body.isSome = true ∧ (fn.name == "runtime.NumGoroutine") = false := ⟨_, Tryd.func10, by kernel_rfl, by kernel_rfl⟩
theorem alembiclaw23_MachFaults.eq (G : Globs) (k : Nat) (self : Den) (x0 x1 : AV) (h : AHeap) : absFn Tryd.prog G (envL (alembiclaw23_MachFaults.env G k self)) alembiclaw23_MachFaults.ann Tryd.f10.results.toList (codeOf Tryd.f10) Tryd.f10.ntmps k [x0, x1] h = alembiclaw23_MachFaults.c G k self x0 x1 h := by kernel_rfl
theorem alembiclaw23_MachFaults.sound {G : Globs} (hG : ∀ g x, G g = some x → plainB x = true) : ∀ k, Sound Tryd.prog G 10 (alembiclaw23_MachFaults.f G k)
  | 0 => sound_zero alembiclaw23_MachFaults.here (fun _ _ => rfl)
  | k + 1 => sound_succ (l := alembiclaw23_MachFaults.env G k (alembiclaw23_MachFaults.f G k)) (ann := alembiclaw23_MachFaults.ann) (n := k) (envSound_of hG (envCons (alembicworld_Number.sound hG k) (envCons (alembiclaw23_first.sound hG k) (envCons (mach_Run.sound hG k) (envCons (alembiclaw23_word.sound hG k) envNil))))) orders Tryd.func10 (by kernel_rfl) (by kernel_rfl) rfl (by kernel_rfl) (arg2_of fun x0 x1 h => alembiclaw23_MachFaults.eq G k _ x0 x1 h)
end Go.Proofs.YtdfglgnflldkpaaDoor.Mir
