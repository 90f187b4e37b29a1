/- Printed by Print.lean: the functions that the statements reach. -/
import Derived.Test.YtofhkjacpjfclaaDoorMirW
import Derived.Test.YtofhkjacpjfclaaDoorProg
namespace Go.Proofs.YtofhkjacpjfclaaDoor.Mir
open Go
set_option linter.unusedVariables false
/-! alembic/src.Valid$1: function 49 -/
noncomputable def src_Valid_1.ann : Ann := mkAnn [] [] [] []
noncomputable def src_Valid_1.env (G : Globs) (k : Nat) (self : Den) : List (Nat × Bool × Den) := []
noncomputable def src_Valid_1.c (G : Globs) (k : Nat) (self : Den) (x0 x1 x2 x3 : AV) (h : AHeap) : Option (AV × AHeap) := outV (
  bnd (boxRoA x0 h) fun v0 h0 =>
  bnd (pu h0 (loadV G false 1 x2 h0)) fun v1 h1 =>
  bnd (pu h1 (bin Tryd.prog .add 3 true v1 (.int .i64 1))) fun v2 h2 =>
  bnd (stS (storeV 1 x2 v2 h2)) fun v3 h3 =>
  bnd (pu h3 (loadV G false 1 x2 h3)) fun v4 h4 =>
  bnd (pu h4 (bin Tryd.prog .gtr 3 true v4 (.int .i64 100))) fun v5 h5 =>
  bnd (gd v5 false h5 (some (x1, h5))) fun v6 h6 =>
  bnd (gd v5 false h6 (pu h6 (bin Tryd.prog .gtr 3 true v6 (.int .i64 6)))) fun v7 h7 =>
  bnd (pu h7 (pickA v5 (.bool true) v7)) fun v8 h8 =>
  bnd (stS (storeV 1 x3 v8 h8)) fun v9 h9 =>
  bnd (pu h9 (loadV G false 1 x3 h9)) fun v10 h10 =>
  bnd (pu h10 (un .not v10)) fun v11 h11 =>
  finV [v11] h.length h11)
noncomputable def src_Valid_1.f (G : Globs) : Nat → Den
  | 0 => fun _ _ => none
  | k + 1 => fun args h => arg4 args fun x0 x1 x2 x3 => (src_Valid_1.c G k (src_Valid_1.f G k) x0 x1 x2 x3 h)
theorem src_Valid_1.step (G : Globs) (k : Nat) (x0 x1 x2 x3 : AV) (h : AHeap) : src_Valid_1.f G (k + 1) [x0, x1, x2, x3] h = src_Valid_1.c G k (src_Valid_1.f G k) x0 x1 x2 x3 h := rfl
/-! alembic/src.of: function 80 -/
noncomputable def src_of.ann : Ann := mkAnn [] [] [] []
noncomputable def src_of.env (G : Globs) (k : Nat) (self : Den) : List (Nat × Bool × Den) := []
noncomputable def src_of.c (G : Globs) (k : Nat) (self : Den) (x0 : AV) (h : AHeap) : Option (AV × AHeap) := outV (
  bnd (boxA 119 (.agg [(.str ⟨#[]⟩), (.bool false), (.bool false), (.bool false), (.bool false), (.bool false), (.bool false), (.bool false)]) h) fun v0 h0 =>
  bnd (pu h0 (buildSt [(0, 1), (1, 1), (2, 1), (3, 1), (4, 1), (5, 1), (6, 1), (7, 1)] [(.str ⟨#[]⟩), (.bool false), (.bool false), (.bool false), (.bool false), (.bool false), (.bool false), (.bool false)] [(0, (.str ⟨#[122, 101, 114, 111]⟩)), (1, (.bool true))])) fun v1 h1 =>
  bnd (pu h1 (buildSt [(0, 1), (1, 1), (2, 1), (3, 1), (4, 1), (5, 1), (6, 1), (7, 1)] [(.str ⟨#[]⟩), (.bool false), (.bool false), (.bool false), (.bool false), (.bool false), (.bool false), (.bool false)] [(0, (.str ⟨#[99, 111, 112, 121]⟩)), (1, (.bool true)), (2, (.bool true))])) fun v2 h2 =>
  bnd (pu h2 (buildSt [(0, 1), (1, 1), (2, 1), (3, 1), (4, 1), (5, 1), (6, 1), (7, 1)] [(.str ⟨#[]⟩), (.bool false), (.bool false), (.bool false), (.bool false), (.bool false), (.bool false), (.bool false)] [(0, (.str ⟨#[97, 100, 100]⟩)), (1, (.bool true)), (2, (.bool true)), (3, (.bool true))])) fun v3 h3 =>
  bnd (pu h3 (buildSt [(0, 1), (1, 1), (2, 1), (3, 1), (4, 1), (5, 1), (6, 1), (7, 1)] [(.str ⟨#[]⟩), (.bool false), (.bool false), (.bool false), (.bool false), (.bool false), (.bool false), (.bool false)] [(0, (.str ⟨#[115, 117, 98]⟩)), (1, (.bool true)), (2, (.bool true)), (3, (.bool true))])) fun v4 h4 =>
  bnd (pu h4 (buildSt [(0, 1), (1, 1), (2, 1), (3, 1), (4, 1), (5, 1), (6, 1), (7, 1)] [(.str ⟨#[]⟩), (.bool false), (.bool false), (.bool false), (.bool false), (.bool false), (.bool false), (.bool false)] [(0, (.str ⟨#[109, 117, 108]⟩)), (1, (.bool true)), (2, (.bool true)), (3, (.bool true))])) fun v5 h5 =>
  bnd (pu h5 (buildSt [(0, 1), (1, 1), (2, 1), (3, 1), (4, 1), (5, 1), (6, 1), (7, 1)] [(.str ⟨#[]⟩), (.bool false), (.bool false), (.bool false), (.bool false), (.bool false), (.bool false), (.bool false)] [(0, (.str ⟨#[115, 99, 97, 108, 101]⟩)), (1, (.bool true)), (2, (.bool true)), (5, (.bool true))])) fun v6 h6 =>
  bnd (pu h6 (buildSt [(0, 1), (1, 1), (2, 1), (3, 1), (4, 1), (5, 1), (6, 1), (7, 1)] [(.str ⟨#[]⟩), (.bool false), (.bool false), (.bool false), (.bool false), (.bool false), (.bool false), (.bool false)] [(0, (.str ⟨#[99, 111, 110, 118]⟩)), (1, (.bool true)), (2, (.bool true)), (3, (.bool true))])) fun v7 h7 =>
  bnd (pu h7 (buildSt [(0, 1), (1, 1), (2, 1), (3, 1), (4, 1), (5, 1), (6, 1), (7, 1)] [(.str ⟨#[]⟩), (.bool false), (.bool false), (.bool false), (.bool false), (.bool false), (.bool false), (.bool false)] [(0, (.str ⟨#[114, 111, 117, 110, 100]⟩)), (1, (.bool true)), (2, (.bool true)), (5, (.bool true))])) fun v8 h8 =>
  bnd (pu h8 (buildSt [(0, 1), (1, 1), (2, 1), (3, 1), (4, 1), (5, 1), (6, 1), (7, 1)] [(.str ⟨#[]⟩), (.bool false), (.bool false), (.bool false), (.bool false), (.bool false), (.bool false), (.bool false)] [(0, (.str ⟨#[101, 120, 112, 97, 110, 100]⟩)), (1, (.bool true)), (2, (.bool true)), (5, (.bool true))])) fun v9 h9 =>
  bnd (pu h9 (buildSt [(0, 1), (1, 1), (2, 1), (3, 1), (4, 1), (5, 1), (6, 1), (7, 1)] [(.str ⟨#[]⟩), (.bool false), (.bool false), (.bool false), (.bool false), (.bool false), (.bool false), (.bool false)] [(0, (.str ⟨#[112, 105, 99, 107]⟩)), (1, (.bool true)), (2, (.bool true)), (3, (.bool true)), (4, (.bool true))])) fun v10 h10 =>
  bnd (pu h10 (buildSt [(0, 1), (1, 1), (2, 1), (3, 1), (4, 1), (5, 1), (6, 1), (7, 1)] [(.str ⟨#[]⟩), (.bool false), (.bool false), (.bool false), (.bool false), (.bool false), (.bool false), (.bool false)] [(0, (.str ⟨#[110, 111, 114, 109]⟩)), (1, (.bool true)), (2, (.bool true)), (5, (.bool true))])) fun v11 h11 =>
  bnd (pu h11 (buildSt [(0, 1), (1, 1), (2, 1), (3, 1), (4, 1), (5, 1), (6, 1), (7, 1)] [(.str ⟨#[]⟩), (.bool false), (.bool false), (.bool false), (.bool false), (.bool false), (.bool false), (.bool false)] [(0, (.str ⟨#[115, 104, 111, 119]⟩)), (1, (.bool true)), (2, (.bool true))])) fun v12 h12 =>
  bnd (pu h12 (buildSt [(0, 1), (1, 1), (2, 1), (3, 1), (4, 1), (5, 1), (6, 1), (7, 1)] [(.str ⟨#[]⟩), (.bool false), (.bool false), (.bool false), (.bool false), (.bool false), (.bool false), (.bool false)] [(0, (.str ⟨#[100, 114, 97, 119]⟩)), (1, (.bool true))])) fun v13 h13 =>
  bnd (pu h13 (buildSt [(0, 1), (1, 1), (2, 1), (3, 1), (4, 1), (5, 1), (6, 1), (7, 1)] [(.str ⟨#[]⟩), (.bool false), (.bool false), (.bool false), (.bool false), (.bool false), (.bool false), (.bool false)] [(0, (.str ⟨#[105, 102]⟩)), (2, (.bool true)), (6, (.bool true)), (7, (.bool true))])) fun v14 h14 =>
  bnd (pu h14 (buildSt [(0, 1), (1, 1), (2, 1), (3, 1), (4, 1), (5, 1), (6, 1), (7, 1)] [(.str ⟨#[]⟩), (.bool false), (.bool false), (.bool false), (.bool false), (.bool false), (.bool false), (.bool false)] [(0, (.str ⟨#[116, 105, 109, 101, 115]⟩)), (5, (.bool true)), (6, (.bool true))])) fun v15 h15 =>
  bnd (pu h15 (buildSt [(0, 1), (1, 1), (2, 1), (3, 1), (4, 1), (5, 1), (6, 1), (7, 1)] [(.str ⟨#[]⟩), (.bool false), (.bool false), (.bool false), (.bool false), (.bool false), (.bool false), (.bool false)] [(0, (.str ⟨#[117, 110, 116, 105, 108]⟩)), (2, (.bool true)), (5, (.bool true)), (6, (.bool true))])) fun v16 h16 =>
  bnd (buildRo 8 17 (.agg [(.str ⟨#[]⟩), (.bool false), (.bool false), (.bool false), (.bool false), (.bool false), (.bool false), (.bool false)]) [(1, v1), (2, v2), (3, v3), (4, v4), (5, v5), (6, v6), (7, v7), (8, v8), (9, v9), (10, v10), (11, v11), (12, v12), (13, v13), (14, v14), (15, v15), (16, v16)] h16) fun v17 h17 =>
  bnd (pu h17 (bin Tryd.prog .lss 3 true x0 (.int .i64 1))) fun v18 h18 =>
  bnd (gd v18 false h18 (some (x0, h18))) fun v19 h19 =>
  bnd (gd v18 false h19 (some (v17, h19))) fun v20 h20 =>
  bnd (gd v18 false h20 (pu h20 (lenSl v20))) fun v21 h21 =>
  bnd (gd v18 false h21 (pu h21 (bin Tryd.prog .geq 3 false v19 v21))) fun v22 h22 =>
  bnd (pu h22 (pickA v18 (.bool true) v22)) fun v23 h23 =>
  condA v23
  (bnd (pu h23 (buildSt [(0, 1), (1, 1), (2, 1), (3, 1), (4, 1), (5, 1), (6, 1), (7, 1)] [(.str ⟨#[]⟩), (.bool false), (.bool false), (.bool false), (.bool false), (.bool false), (.bool false), (.bool false)] [(0, (.str ⟨#[110, 111, 110, 101]⟩))])) fun v24 h24 =>
  bnd (stS (storeV 8 v0 v24 h24)) fun v25 h25 =>
  finL [loadV G true 8 v0 h25, some (.bool false)] h.length h25)
  (bnd (pu h23 (idxAddrSl 8 v17 x0)) fun v26 h26 =>
  bnd (pu h26 (loadV G true 8 v26 h26)) fun v27 h27 =>
  bnd (stS (storeV 8 v0 v27 h27)) fun v28 h28 =>
  finL [loadV G true 8 v0 h28, some (.bool true)] h.length h28))
noncomputable def src_of.f (G : Globs) : Nat → Den
  | 0 => fun _ _ => none
  | k + 1 => fun args h => arg1 args fun x0 => (src_of.c G k (src_of.f G k) x0 h)
theorem src_of.step (G : Globs) (k : Nat) (x0 : AV) (h : AHeap) : src_of.f G (k + 1) [x0] h = src_of.c G k (src_of.f G k) x0 h := rfl
/-! alembic/src.Writes: function 37 -/
noncomputable def src_Writes.ann : Ann := mkAnn [] [] [] []
noncomputable def src_Writes.env (G : Globs) (k : Nat) (self : Den) : List (Nat × Bool × Den) := [(80, true, src_of.f G k)]
noncomputable def src_Writes.c (G : Globs) (k : Nat) (self : Den) (x0 : AV) (h : AHeap) : Option (AV × AHeap) := outV (
  bnd (boxRoA x0 h) fun v0 h0 =>
  bnd (pu h0 (fieldAddrV 0 v0)) fun v1 h1 =>
  bnd (pu h1 (loadV G false 1 v1 h1)) fun v2 h2 =>
  bnd (pureCall (src_of.f G k) [v2] h2) fun v3 h3 =>
  bnd (pu h3 (extractA v3 0)) fun v4 h4 =>
  bnd (pu h4 (extractA v3 1)) fun v5 h5 =>
  bnd (boxA 119 (.agg [(.str ⟨#[]⟩), (.bool false), (.bool false), (.bool false), (.bool false), (.bool false), (.bool false), (.bool false)]) h5) fun v6 h6 =>
  bnd (stS (storeV 8 v6 v4 h6)) fun v7 h7 =>
  bnd (pu h7 (fieldAddrV 1 v6)) fun v8 h8 =>
  bnd (pu h8 (loadV G false 1 v8 h8)) fun v9 h9 =>
  bnd (pu h9 (un .not v9)) fun v10 h10 =>
  condA v10
  (finV [(.int .i64 0), (.bool false)] h.length h10)
  (bnd (pu h10 (fieldAddrV 1 v0)) fun v11 h11 =>
  bnd (pu h11 (loadV G false 1 v11 h11)) fun v12 h12 =>
  finV [v12, (.bool true)] h.length h12))
noncomputable def src_Writes.f (G : Globs) : Nat → Den
  | 0 => fun _ _ => none
  | k + 1 => fun args h => arg1 args fun x0 => (src_Writes.c G k (src_Writes.f G k) x0 h)
theorem src_Writes.step (G : Globs) (k : Nat) (x0 : AV) (h : AHeap) : src_Writes.f G (k + 1) [x0] h = src_Writes.c G k (src_Writes.f G k) x0 h := rfl
/-! alembic/src.Uses: function 42 -/
noncomputable def src_Uses.ann : Ann := mkAnn [] [2, 5] [(4, [1, 5, 20, 21, 22])] []
noncomputable def src_Uses.env (G : Globs) (k : Nat) (self : Den) : List (Nat × Bool × Den) := [(80, true, src_of.f G k)]
noncomputable def src_Uses.l4 (G : Globs) (k n0 : Nat) (self : Den) (lp : LoopF) : LoopF := fun xs h0 => cutK n0 xs h0 fun h =>
  bnd (pu h (bin Tryd.prog .lss 3 false (nth xs 4) (nth xs 3))) fun v19 h19 =>
  condA v19
  (bnd (pu h19 (idxAddrSl 1 (nth xs 2) (nth xs 4))) fun v20 h20 =>
  bnd (pu h20 (loadV G false 1 v20 h20)) fun v21 h21 =>
  condA v21
  (bnd (pu h21 (fieldAddrV 2 (nth xs 0))) fun v22 h22 =>
  bnd (pu h22 (loadV G false 1 v22 h22)) fun v23 h23 =>
  bnd (pu h23 (fieldAddrV 3 (nth xs 0))) fun v24 h24 =>
  bnd (pu h24 (loadV G false 1 v24 h24)) fun v25 h25 =>
  bnd (pu h25 (fieldAddrV 4 (nth xs 0))) fun v26 h26 =>
  bnd (pu h26 (loadV G false 1 v26 h26)) fun v27 h27 =>
  bnd (buildRo 1 3 (.int .i64 0) [(0, v23), (1, v25), (2, v27)] h27) fun v28 h28 =>
  bnd (pu h28 (idxAddrSl 1 v28 (nth xs 4))) fun v29 h29 =>
  bnd (pu h29 (loadV G false 1 v29 h29)) fun v30 h30 =>
  bnd (buildRo 1 1 (.int .i64 0) [(0, v30)] h30) fun v31 h31 =>
  bnd (appendV 3 1 (nth xs 1) v31 h31) fun v32 h32 =>
  bnd (pu h32 (bin Tryd.prog .add 3 true (nth xs 4) (.int .i64 1))) fun v33 h33 =>
  lp [(nth xs 0), v32, (nth xs 2), (nth xs 3), v33] h33)
  (bnd (pu h21 (bin Tryd.prog .add 3 true (nth xs 4) (.int .i64 1))) fun v34 h34 =>
  lp [(nth xs 0), (nth xs 1), (nth xs 2), (nth xs 3), v34] h34))
  (some (.exit 0, [(nth xs 0), (nth xs 1), (nth xs 2), (nth xs 3), (nth xs 4)], h19))
noncomputable def src_Uses.c (G : Globs) (k : Nat) (self : Den) (x0 : AV) (h : AHeap) : Option (AV × AHeap) := outV (
  bnd (boxRoA x0 h) fun v0 h0 =>
  bnd (some (.sl h0.length 0 0 0 1, h0 ++ [⟨3, 1, []⟩])) fun v1 h1 =>
  bnd (pu h1 (fieldAddrV 0 v0)) fun v2 h2 =>
  bnd (pu h2 (loadV G false 1 v2 h2)) fun v3 h3 =>
  bnd (pureCall (src_of.f G k) [v3] h3) fun v4 h4 =>
  bnd (pu h4 (extractA v4 0)) fun v5 h5 =>
  bnd (pu h5 (extractA v4 1)) fun v6 h6 =>
  bnd (boxA 119 (.agg [(.str ⟨#[]⟩), (.bool false), (.bool false), (.bool false), (.bool false), (.bool false), (.bool false), (.bool false)]) h6) fun v7 h7 =>
  bnd (stS (storeV 8 v7 v5 h7)) fun v8 h8 =>
  bnd (some (.sl h8.length 0 0 0 1, h8 ++ [⟨3, 1, []⟩])) fun v9 h9 =>
  bnd (pu h9 (fieldAddrV 2 v7)) fun v10 h10 =>
  bnd (pu h10 (loadV G false 1 v10 h10)) fun v11 h11 =>
  bnd (pu h11 (fieldAddrV 3 v7)) fun v12 h12 =>
  bnd (pu h12 (loadV G false 1 v12 h12)) fun v13 h13 =>
  bnd (pu h13 (fieldAddrV 4 v7)) fun v14 h14 =>
  bnd (pu h14 (loadV G false 1 v14 h14)) fun v15 h15 =>
  bnd (buildRo 1 3 (.bool false) [(0, v11), (1, v13), (2, v15)] h15) fun v16 h16 =>
  bnd (pu h16 (lenSl v16)) fun v17 h17 =>
  thenK (loopN (src_Uses.l4 G k h17.length self) k [v0, v9, v16, v17, (.int .i64 0)] h17) fun e18 x18 h18 => exK e18
  (finO [(nth x18 1)] h18)
  (fun i18 => if i18 = 0 then (finO [(nth x18 1)] h18) else (none))
  (finO [.undef] h18))
noncomputable def src_Uses.f (G : Globs) : Nat → Den
  | 0 => fun _ _ => none
  | k + 1 => fun args h => arg1 args fun x0 => (src_Uses.c G k (src_Uses.f G k) x0 h)
theorem src_Uses.step (G : Globs) (k : Nat) (x0 : AV) (h : AHeap) : src_Uses.f G (k + 1) [x0] h = src_Uses.c G k (src_Uses.f G k) x0 h := rfl
/-! alembic/src.shape: function 88 -/
noncomputable def src_shape.ann : Ann := mkAnn [] [] [(2, [2, 3, 4, 17, 18, 19])] []
noncomputable def src_shape.env (G : Globs) (k : Nat) (self : Den) : List (Nat × Bool × Den) := []
noncomputable def src_shape.l2 (G : Globs) (k n0 : Nat) (self : Den) (lp : LoopF) : LoopF := fun xs h0 => cutK n0 xs h0 fun h =>
  bnd (pu h (bin Tryd.prog .lss 3 false (nth xs 5) (nth xs 4))) fun v15 h15 =>
  condA v15
  (bnd (pu h15 (idxAddrSl 1 (nth xs 3) (nth xs 5))) fun v16 h16 =>
  bnd (pu h16 (loadV G false 1 v16 h16)) fun v17 h17 =>
  bnd (pu h17 (un .not v17)) fun v18 h18 =>
  bnd (gd v18 true h18 (pu h18 (fieldAddrV 1 (nth xs 0)))) fun v19 h19 =>
  bnd (gd v18 true h19 (pu h19 (loadV G false 1 v19 h19))) fun v20 h20 =>
  bnd (gd v18 true h20 (pu h20 (fieldAddrV 2 (nth xs 0)))) fun v21 h21 =>
  bnd (gd v18 true h21 (pu h21 (loadV G false 1 v21 h21))) fun v22 h22 =>
  bnd (gd v18 true h22 (pu h22 (fieldAddrV 3 (nth xs 0)))) fun v23 h23 =>
  bnd (gd v18 true h23 (pu h23 (loadV G false 1 v23 h23))) fun v24 h24 =>
  bnd (gd v18 true h24 (pu h24 (fieldAddrV 4 (nth xs 0)))) fun v25 h25 =>
  bnd (gd v18 true h25 (pu h25 (loadV G false 1 v25 h25))) fun v26 h26 =>
  bnd (gd v18 true h26 (pu h26 (fieldAddrV 5 (nth xs 0)))) fun v27 h27 =>
  bnd (gd v18 true h27 (pu h27 (loadV G false 1 v27 h27))) fun v28 h28 =>
  bnd (gd v18 true h28 (buildRo 1 5 (.int .i64 0) [(0, v20), (1, v22), (2, v24), (3, v26), (4, v28)] h28)) fun v29 h29 =>
  bnd (gd v18 true h29 (some ((nth xs 5), h29))) fun v30 h30 =>
  bnd (gd v18 true h30 (pu h30 (idxAddrSl 1 v29 v30))) fun v31 h31 =>
  bnd (gd v18 true h31 (pu h31 (loadV G false 1 v31 h31))) fun v32 h32 =>
  bnd (gd v18 true h32 (pu h32 (bin Tryd.prog .neq 2 true v32 (.int .i64 0)))) fun v33 h33 =>
  bnd (pu h33 (pickA v18 v33 (.bool false))) fun v34 h34 =>
  condA v34
  (some (.ret, [(nth xs 0), (nth xs 1), (.bool false), (nth xs 3), (nth xs 4), (nth xs 5)], h34))
  (bnd (pu h34 (bin Tryd.prog .add 3 true (nth xs 5) (.int .i64 1))) fun v35 h35 =>
  lp [(nth xs 0), (nth xs 1), (nth xs 2), (nth xs 3), (nth xs 4), v35] h35))
  (some (.exit 0, [(nth xs 0), (nth xs 1), (nth xs 2), (nth xs 3), (nth xs 4), (nth xs 5)], h15))
noncomputable def src_shape.c (G : Globs) (k : Nat) (self : Den) (x0 x1 : AV) (h : AHeap) : Option (AV × AHeap) := outV (
  bnd (boxRoA x0 h) fun v0 h0 =>
  bnd (boxRoA x1 h0) fun v1 h1 =>
  bnd (pu h1 (fieldAddrV 1 v1)) fun v2 h2 =>
  bnd (pu h2 (loadV G false 1 v2 h2)) fun v3 h3 =>
  bnd (pu h3 (fieldAddrV 2 v1)) fun v4 h4 =>
  bnd (pu h4 (loadV G false 1 v4 h4)) fun v5 h5 =>
  bnd (pu h5 (fieldAddrV 3 v1)) fun v6 h6 =>
  bnd (pu h6 (loadV G false 1 v6 h6)) fun v7 h7 =>
  bnd (pu h7 (fieldAddrV 4 v1)) fun v8 h8 =>
  bnd (pu h8 (loadV G false 1 v8 h8)) fun v9 h9 =>
  bnd (pu h9 (fieldAddrV 5 v1)) fun v10 h10 =>
  bnd (pu h10 (loadV G false 1 v10 h10)) fun v11 h11 =>
  bnd (buildRo 1 5 (.bool false) [(0, v3), (1, v5), (2, v7), (3, v9), (4, v11)] h11) fun v12 h12 =>
  bnd (pu h12 (lenSl v12)) fun v13 h13 =>
  thenK (loopN (src_shape.l2 G k h13.length self) k [v0, v1, (.bool false), v12, v13, (.int .i64 0)] h13) fun e14 x14 h14 => exK e14
  (bnd (pu h14 (fieldAddrV 6 (nth x14 1))) fun v36 h36 =>
  bnd (pu h36 (loadV G false 1 v36 h36)) fun v37 h37 =>
  bnd (gd v37 false h37 (pu h37 (fieldAddrV 6 (nth x14 0)))) fun v38 h38 =>
  bnd (gd v37 false h38 (pu h38 (loadV G false 1 v38 h38))) fun v39 h39 =>
  bnd (gd v37 false h39 (pu h39 (lenSl v39))) fun v40 h40 =>
  bnd (gd v37 false h40 (pu h40 (bin Tryd.prog .eql 3 true v40 (.int .i64 0)))) fun v41 h41 =>
  bnd (pu h41 (pickA v37 (.bool true) v41)) fun v42 h42 =>
  bnd (gd v42 true h42 (pu h42 (fieldAddrV 7 (nth x14 1)))) fun v43 h43 =>
  bnd (gd v42 true h43 (pu h43 (loadV G false 1 v43 h43))) fun v44 h44 =>
  bnd (gd v42 true h44 (some (v44, h44))) fun v45 h45 =>
  bnd (gd v45 false h45 (pu h45 (fieldAddrV 7 (nth x14 0)))) fun v46 h46 =>
  bnd (gd v45 false h46 (pu h46 (loadV G false 1 v46 h46))) fun v47 h47 =>
  bnd (gd v45 false h47 (pu h47 (lenSl v47))) fun v48 h48 =>
  bnd (gd v45 false h48 (pu h48 (bin Tryd.prog .eql 3 true v48 (.int .i64 0)))) fun v49 h49 =>
  bnd (gd v42 true h49 (pu h49 (pickA v45 (.bool true) v49))) fun v50 h50 =>
  bnd (pu h50 (pickA v42 v50 (.bool false))) fun v51 h51 =>
  finV [v51] h.length h51)
  (fun i14 => if i14 = 0 then (bnd (pu h14 (fieldAddrV 6 (nth x14 1))) fun v52 h52 =>
  bnd (pu h52 (loadV G false 1 v52 h52)) fun v53 h53 =>
  bnd (gd v53 false h53 (pu h53 (fieldAddrV 6 (nth x14 0)))) fun v54 h54 =>
  bnd (gd v53 false h54 (pu h54 (loadV G false 1 v54 h54))) fun v55 h55 =>
  bnd (gd v53 false h55 (pu h55 (lenSl v55))) fun v56 h56 =>
  bnd (gd v53 false h56 (pu h56 (bin Tryd.prog .eql 3 true v56 (.int .i64 0)))) fun v57 h57 =>
  bnd (pu h57 (pickA v53 (.bool true) v57)) fun v58 h58 =>
  bnd (gd v58 true h58 (pu h58 (fieldAddrV 7 (nth x14 1)))) fun v59 h59 =>
  bnd (gd v58 true h59 (pu h59 (loadV G false 1 v59 h59))) fun v60 h60 =>
  bnd (gd v58 true h60 (some (v60, h60))) fun v61 h61 =>
  bnd (gd v61 false h61 (pu h61 (fieldAddrV 7 (nth x14 0)))) fun v62 h62 =>
  bnd (gd v61 false h62 (pu h62 (loadV G false 1 v62 h62))) fun v63 h63 =>
  bnd (gd v61 false h63 (pu h63 (lenSl v63))) fun v64 h64 =>
  bnd (gd v61 false h64 (pu h64 (bin Tryd.prog .eql 3 true v64 (.int .i64 0)))) fun v65 h65 =>
  bnd (gd v58 true h65 (pu h65 (pickA v61 (.bool true) v65))) fun v66 h66 =>
  bnd (pu h66 (pickA v58 v66 (.bool false))) fun v67 h67 =>
  finV [v67] h.length h67) else (none))
  (finV [(nth x14 2)] h.length h14))
noncomputable def src_shape.f (G : Globs) : Nat → Den
  | 0 => fun _ _ => none
  | k + 1 => fun args h => arg2 args fun x0 x1 => (src_shape.c G k (src_shape.f G k) x0 x1 h)
theorem src_shape.step (G : Globs) (k : Nat) (x0 x1 : AV) (h : AHeap) : src_shape.f G (k + 1) [x0, x1] h = src_shape.c G k (src_shape.f G k) x0 x1 h := rfl
/-! alembic/src.Number: function 89 -/
noncomputable def src_Number.ann : Ann := mkAnn [] [] [] [(11, [3, 50]), (6, [2, 3, 6, 19])]
noncomputable def src_Number.env (G : Globs) (k : Nat) (self : Den) : List (Nat × Bool × Den) := []
noncomputable def src_Number.c (G : Globs) (k : Nat) (self : Den) (x0 x1 : AV) (h : AHeap) : Option (AV × AHeap) := outV (
  bnd (boxRoA x0 h) fun v0 h0 =>
  bnd (boxRoA x1 h0) fun v1 h1 =>
  bnd (pu h1 (fieldAddrV 0 v1)) fun v2 h2 =>
  bnd (pu h2 (loadV G false 1 v2 h2)) fun v3 h3 =>
  bnd (pu h3 (bin Tryd.prog .eql 3 true v3 (.int .i64 6))) fun v4 h4 =>
  condA v4
  (bnd (pu h4 (fieldAddrV 5 v1)) fun v5 h5 =>
  bnd (pu h5 (loadV G false 1 v5 h5)) fun v6 h6 =>
  bnd (pu h6 (bin Tryd.prog .geq 2 true v6 (.int .i64 0))) fun v7 h7 =>
  bnd (gd v7 true h7 (pu h7 (fieldAddrV 5 v1))) fun v8 h8 =>
  bnd (gd v7 true h8 (pu h8 (loadV G false 1 v8 h8))) fun v9 h9 =>
  bnd (gd v7 true h9 (pu h9 (fieldAddrV 0 v0))) fun v10 h10 =>
  bnd (gd v7 true h10 (pu h10 (loadV G false 1 v10 h10))) fun v11 h11 =>
  bnd (gd v7 true h11 (pu h11 (bin Tryd.prog .lss 2 false v9 v11))) fun v12 h12 =>
  bnd (pu h12 (pickA v7 v12 (.bool false))) fun v13 h13 =>
  finV [v13] h.length h13)
  (thenK (
  bnd (pu h4 (bin Tryd.prog .eql 3 true v3 (.int .i64 8))) fun v14 h14 =>
  condA v14
  (some (.normal, [v0, v1, v3, v14], h14))
  (bnd (pu h14 (bin Tryd.prog .eql 3 true v3 (.int .i64 9))) fun v15 h15 =>
  some (.normal, [v0, v1, v3, v15], h15))) fun e16 x16 h16 => exK e16
  (condA (nth x16 3)
  (bnd (pu h16 (fieldAddrV 5 (nth x16 1))) fun v17 h17 =>
  bnd (pu h17 (loadV G false 1 v17 h17)) fun v18 h18 =>
  bnd (pu h18 (bin Tryd.prog .geq 2 true v18 (.int .i64 1))) fun v19 h19 =>
  bnd (gd v19 true h19 (pu h19 (fieldAddrV 5 (nth x16 1)))) fun v20 h20 =>
  bnd (gd v19 true h20 (pu h20 (loadV G false 1 v20 h20))) fun v21 h21 =>
  bnd (gd v19 true h21 (pu h21 (bin Tryd.prog .leq 2 true v21 (.int .i64 30)))) fun v22 h22 =>
  bnd (pu h22 (pickA v19 v22 (.bool false))) fun v23 h23 =>
  bnd (gd v23 true h23 (pu h23 (fieldAddrV 5 (nth x16 1)))) fun v24 h24 =>
  bnd (gd v23 true h24 (pu h24 (loadV G false 1 v24 h24))) fun v25 h25 =>
  bnd (gd v23 true h25 (pu h25 (bin Tryd.prog .shl 2 true (.int .i64 1) v25))) fun v26 h26 =>
  bnd (gd v23 true h26 (pu h26 (fieldAddrV 0 (nth x16 0)))) fun v27 h27 =>
  bnd (gd v23 true h27 (pu h27 (loadV G false 1 v27 h27))) fun v28 h28 =>
  bnd (gd v23 true h28 (pu h28 (bin Tryd.prog .lss 2 false v26 v28))) fun v29 h29 =>
  bnd (pu h29 (pickA v23 v29 (.bool false))) fun v30 h30 =>
  finV [v30] h.length h30)
  (bnd (pu h16 (bin Tryd.prog .eql 3 true (nth x16 2) (.int .i64 11))) fun v31 h31 =>
  condA v31
  (bnd (pu h31 (fieldAddrV 5 (nth x16 1))) fun v32 h32 =>
  bnd (pu h32 (loadV G false 1 v32 h32)) fun v33 h33 =>
  bnd (pu h33 (bin Tryd.prog .geq 2 true v33 (.int .i64 0))) fun v34 h34 =>
  bnd (gd v34 true h34 (pu h34 (fieldAddrV 5 (nth x16 1)))) fun v35 h35 =>
  bnd (gd v34 true h35 (pu h35 (loadV G false 1 v35 h35))) fun v36 h36 =>
  bnd (gd v34 true h36 (pu h36 (fieldAddrV 0 (nth x16 0)))) fun v37 h37 =>
  bnd (gd v34 true h37 (pu h37 (loadV G false 1 v37 h37))) fun v38 h38 =>
  bnd (gd v34 true h38 (pu h38 (bin Tryd.prog .leq 2 false v36 v38))) fun v39 h39 =>
  bnd (pu h39 (pickA v34 v39 (.bool false))) fun v40 h40 =>
  finV [v40] h.length h40)
  (thenK (
  bnd (pu h31 (bin Tryd.prog .eql 3 true (nth x16 2) (.int .i64 15))) fun v41 h41 =>
  condA v41
  (some (.normal, [(nth x16 1), v41], h41))
  (bnd (pu h41 (bin Tryd.prog .eql 3 true (nth x16 2) (.int .i64 16))) fun v42 h42 =>
  some (.normal, [(nth x16 1), v42], h42))) fun e43 x43 h43 => exK e43
  (condA (nth x43 1)
  (bnd (pu h43 (fieldAddrV 5 (nth x43 0))) fun v44 h44 =>
  bnd (pu h44 (loadV G false 1 v44 h44)) fun v45 h45 =>
  bnd (pu h45 (bin Tryd.prog .geq 2 true v45 (.int .i64 1))) fun v46 h46 =>
  bnd (gd v46 true h46 (pu h46 (fieldAddrV 5 (nth x43 0)))) fun v47 h47 =>
  bnd (gd v46 true h47 (pu h47 (loadV G false 1 v47 h47))) fun v48 h48 =>
  bnd (gd v46 true h48 (pu h48 (bin Tryd.prog .leq 2 true v48 (.int .i64 50)))) fun v49 h49 =>
  bnd (pu h49 (pickA v46 v49 (.bool false))) fun v50 h50 =>
  finV [v50] h.length h50)
  (finV [(.bool true)] h.length h43))
  (fun i43 => if i43 = 0 then (finV [(.bool true)] h.length h43) else (none))
  (finV [.undef] h.length h43))))
  (fun i16 => if i16 = 0 then (finV [(.bool true)] h.length h16) else (none))
  (finV [.undef] h.length h16)))
noncomputable def src_Number.f (G : Globs) : Nat → Den
  | 0 => fun _ _ => none
  | k + 1 => fun args h => arg2 args fun x0 x1 => (src_Number.c G k (src_Number.f G k) x0 x1 h)
theorem src_Number.step (G : Globs) (k : Nat) (x0 x1 : AV) (h : AHeap) : src_Number.f G (k + 1) [x0, x1] h = src_Number.c G k (src_Number.f G k) x0 x1 h := rfl
/-! alembic/src.one: function 51 -/
noncomputable def src_one.ann : Ann := mkAnn [] [] [(9, [2, 3, 4, 5, 8, 9, 33, 34, 35])] [(8, [2, 3, 5, 7, 8, 9])]
noncomputable def src_one.env (G : Globs) (k : Nat) (self : Den) : List (Nat × Bool × Den) := [(37, true, src_Writes.f G k), (42, false, src_Uses.f G k), (80, true, src_of.f G k), (88, true, src_shape.f G k), (89, true, src_Number.f G k)]
noncomputable def src_one.l9 (G : Globs) (k n0 : Nat) (self : Den) (lp : LoopF) : LoopF := fun xs h0 => cutK n0 xs h0 fun h =>
  bnd (pu h (bin Tryd.prog .lss 3 false (nth xs 8) (nth xs 7))) fun v22 h22 =>
  condA v22
  (bnd (pu h22 (idxAddrSl 1 (nth xs 6) (nth xs 8))) fun v23 h23 =>
  bnd (pu h23 (loadV G false 1 v23 h23)) fun v24 h24 =>
  bnd (pu h24 (bin Tryd.prog .lss 3 true v24 (.int .i64 0))) fun v25 h25 =>
  bnd (gd v25 false h25 (some (v24, h25))) fun v26 h26 =>
  bnd (gd v25 false h26 (pu h26 (fieldAddrV 2 (nth xs 0)))) fun v27 h27 =>
  bnd (gd v25 false h27 (pu h27 (loadV G false 1 v27 h27))) fun v28 h28 =>
  bnd (gd v25 false h28 (pu h28 (lenSl v28))) fun v29 h29 =>
  bnd (gd v25 false h29 (pu h29 (bin Tryd.prog .geq 3 false v26 v29))) fun v30 h30 =>
  bnd (pu h30 (pickA v25 (.bool true) v30)) fun v31 h31 =>
  condA v31
  (bnd (pu h31 (loadV G false 1 (.gl 5) h31)) fun v32 h32 =>
  some (.ret, [(nth xs 0), (nth xs 1), v32, (nth xs 3), (nth xs 4), (nth xs 5), (nth xs 6), (nth xs 7), (nth xs 8)], h32))
  (bnd (pu h31 (bin Tryd.prog .add 3 true (nth xs 8) (.int .i64 1))) fun v33 h33 =>
  lp [(nth xs 0), (nth xs 1), (nth xs 2), (nth xs 3), (nth xs 4), (nth xs 5), (nth xs 6), (nth xs 7), v33] h33))
  (some (.exit 0, [(nth xs 0), (nth xs 1), (nth xs 2), (nth xs 3), (nth xs 4), (nth xs 5), (nth xs 6), (nth xs 7), (nth xs 8)], h22))
noncomputable def src_one.c (G : Globs) (k : Nat) (self : Den) (x0 x1 : AV) (h : AHeap) : Option (AV × AHeap) := outV (
  bnd (boxRoA x0 h) fun v0 h0 =>
  bnd (boxRoA x1 h0) fun v1 h1 =>
  bnd (pu h1 (fieldAddrV 0 v1)) fun v2 h2 =>
  bnd (pu h2 (loadV G false 1 v2 h2)) fun v3 h3 =>
  bnd (pureCall (src_of.f G k) [v3] h3) fun v4 h4 =>
  bnd (pu h4 (extractA v4 0)) fun v5 h5 =>
  bnd (pu h5 (extractA v4 1)) fun v6 h6 =>
  bnd (boxA 119 (.agg [(.str ⟨#[]⟩), (.bool false), (.bool false), (.bool false), (.bool false), (.bool false), (.bool false), (.bool false)]) h6) fun v7 h7 =>
  bnd (stS (storeV 8 v7 v5 h7)) fun v8 h8 =>
  bnd (pu h8 (un .not v6)) fun v9 h9 =>
  condA v9
  (bnd (pu h9 (loadV G false 1 (.gl 2) h9)) fun v10 h10 =>
  finV [v10] h.length h10)
  (bnd (pu h9 (loadV G true 8 v1 h9)) fun v11 h11 =>
  bnd (heapCall (src_Uses.f G k) [v11] h11) fun v12 h12 =>
  bnd (pu h12 (loadV G true 8 v1 h12)) fun v13 h13 =>
  bnd (pureCall (src_Writes.f G k) [v13] h13) fun v14 h14 =>
  bnd (pu h14 (extractA v14 0)) fun v15 h15 =>
  bnd (pu h15 (extractA v14 1)) fun v16 h16 =>
  thenK (
  condA v16
  (bnd (buildRo 1 1 (.int .i64 0) [(0, v15)] h16) fun v17 h17 =>
  bnd (appendV 3 1 v12 v17 h17) fun v18 h18 =>
  some (.normal, [v0, v1, v7, v18, v15, v16], h18))
  (some (.normal, [v0, v1, v7, v12, v15, v16], h16))) fun e19 x19 h19 => exK e19
  (bnd (pu h19 (lenSl (nth x19 3))) fun v20 h20 =>
  thenK (loopN (src_one.l9 G k h20.length self) k [(nth x19 0), (nth x19 1), .undef, (nth x19 2), (nth x19 4), (nth x19 5), (nth x19 3), v20, (.int .i64 0)] h20) fun e21 x21 h21 => exK e21
  (bnd (pu h21 (loadV G true 8 (nth x21 1) h21)) fun v34 h34 =>
  bnd (pu h34 (loadV G true 8 (nth x21 3) h34)) fun v35 h35 =>
  bnd (pureCall (src_shape.f G k) [v34, v35] h35) fun v36 h36 =>
  bnd (pu h36 (un .not v36)) fun v37 h37 =>
  bnd (gd v37 false h37 (some ((nth x21 5), h37))) fun v38 h38 =>
  bnd (gd v37 false h38 (some (v38, h38))) fun v39 h39 =>
  bnd (gd v39 true h39 (pu h39 (fieldAddrV 2 (nth x21 0)))) fun v40 h40 =>
  bnd (gd v39 true h40 (pu h40 (loadV G false 1 v40 h40))) fun v41 h41 =>
  bnd (gd v39 true h41 (some ((nth x21 4), h41))) fun v42 h42 =>
  bnd (gd v39 true h42 (pu h42 (idxAddrSl 2 v41 v42))) fun v43 h43 =>
  bnd (gd v39 true h43 (pu h43 (fieldAddrV 0 v43))) fun v44 h44 =>
  bnd (gd v39 true h44 (pu h44 (loadV G false 1 v44 h44))) fun v45 h45 =>
  bnd (gd v39 true h45 (pu h45 (bin Tryd.prog .eql 3 true v45 (.int .i64 1)))) fun v46 h46 =>
  bnd (gd v37 false h46 (pu h46 (pickA v39 v46 (.bool false)))) fun v47 h47 =>
  bnd (pu h47 (pickA v37 (.bool true) v47)) fun v48 h48 =>
  condA v48
  (bnd (pu h48 (loadV G false 1 (.gl 4) h48)) fun v49 h49 =>
  finV [v49] h.length h49)
  (bnd (pu h48 (fieldAddrV 0 (nth x21 0))) fun v50 h50 =>
  bnd (pu h50 (loadV G true 2 v50 h50)) fun v51 h51 =>
  bnd (pu h51 (loadV G true 8 (nth x21 1) h51)) fun v52 h52 =>
  bnd (pureCall (src_Number.f G k) [v51, v52] h52) fun v53 h53 =>
  bnd (pu h53 (un .not v53)) fun v54 h54 =>
  condA v54
  (bnd (pu h54 (loadV G false 1 (.gl 1) h54)) fun v55 h55 =>
  finV [v55] h.length h55)
  (finV [.nili] h.length h54)))
  (fun i21 => if i21 = 0 then (bnd (pu h21 (loadV G true 8 (nth x21 1) h21)) fun v56 h56 =>
  bnd (pu h56 (loadV G true 8 (nth x21 3) h56)) fun v57 h57 =>
  bnd (pureCall (src_shape.f G k) [v56, v57] h57) fun v58 h58 =>
  bnd (pu h58 (un .not v58)) fun v59 h59 =>
  bnd (gd v59 false h59 (some ((nth x21 5), h59))) fun v60 h60 =>
  bnd (gd v59 false h60 (some (v60, h60))) fun v61 h61 =>
  bnd (gd v61 true h61 (pu h61 (fieldAddrV 2 (nth x21 0)))) fun v62 h62 =>
  bnd (gd v61 true h62 (pu h62 (loadV G false 1 v62 h62))) fun v63 h63 =>
  bnd (gd v61 true h63 (some ((nth x21 4), h63))) fun v64 h64 =>
  bnd (gd v61 true h64 (pu h64 (idxAddrSl 2 v63 v64))) fun v65 h65 =>
  bnd (gd v61 true h65 (pu h65 (fieldAddrV 0 v65))) fun v66 h66 =>
  bnd (gd v61 true h66 (pu h66 (loadV G false 1 v66 h66))) fun v67 h67 =>
  bnd (gd v61 true h67 (pu h67 (bin Tryd.prog .eql 3 true v67 (.int .i64 1)))) fun v68 h68 =>
  bnd (gd v59 false h68 (pu h68 (pickA v61 v68 (.bool false)))) fun v69 h69 =>
  bnd (pu h69 (pickA v59 (.bool true) v69)) fun v70 h70 =>
  condA v70
  (bnd (pu h70 (loadV G false 1 (.gl 4) h70)) fun v71 h71 =>
  finV [v71] h.length h71)
  (bnd (pu h70 (fieldAddrV 0 (nth x21 0))) fun v72 h72 =>
  bnd (pu h72 (loadV G true 2 v72 h72)) fun v73 h73 =>
  bnd (pu h73 (loadV G true 8 (nth x21 1) h73)) fun v74 h74 =>
  bnd (pureCall (src_Number.f G k) [v73, v74] h74) fun v75 h75 =>
  bnd (pu h75 (un .not v75)) fun v76 h76 =>
  condA v76
  (bnd (pu h76 (loadV G false 1 (.gl 1) h76)) fun v77 h77 =>
  finV [v77] h.length h77)
  (finV [.nili] h.length h76))) else (none))
  (finV [(nth x21 2)] h.length h21))
  (fun i19 => none)
  (finV [.undef] h.length h19)))
noncomputable def src_one.f (G : Globs) : Nat → Den
  | 0 => fun _ _ => none
  | k + 1 => fun args h => arg2 args fun x0 x1 => (src_one.c G k (src_one.f G k) x0 x1 h)
theorem src_one.step (G : Globs) (k : Nat) (x0 x1 : AV) (h : AHeap) : src_one.f G (k + 1) [x0, x1] h = src_one.c G k (src_one.f G k) x0 x1 h := rfl
/-! alembic/src.Valid$2: function 50 -/
noncomputable def src_Valid_2.ann : Ann := mkAnn [] [] [] [(4, [3, 4])]
noncomputable def src_Valid_2.env (G : Globs) (k : Nat) (self : Den) : List (Nat × Bool × Den) := [(51, true, src_one.f G k)]
noncomputable def src_Valid_2.c (G : Globs) (k : Nat) (self : Den) (x0 x1 x2 x3 x4 : AV) (h : AHeap) : Option (AV × AHeap) := outV (
  bnd (boxRoA x0 h) fun v0 h0 =>
  thenK (
  bnd (pu h0 (loadV G true 4 x2 h0)) fun v1 h1 =>
  bnd (pu h1 (loadV G true 8 v0 h1)) fun v2 h2 =>
  bnd (pureCall (src_one.f G k) [v1, v2] h2) fun v3 h3 =>
  bnd (pu h3 (bin Tryd.prog .neq 35 true v3 .nili)) fun v4 h4 =>
  condA v4
  (bnd (pu h4 (loadV G false 1 x3 h4)) fun v5 h5 =>
  bnd (pu h5 (buildSt [(0, 1), (1, 1)] [(.int .i64 0), .nili] [(0, v5), (1, v3)])) fun v6 h6 =>
  bnd (boxRoA v6 h6) fun v7 h7 =>
  bnd (stS (storeV 1 x4 (.iface 89 v7) h7)) fun v8 h8 =>
  some (.normal, [x3, x4], h8))
  (some (.normal, [x3, x4], h4))) fun e9 x9 h9 => exK e9
  (bnd (pu h9 (loadV G false 1 (nth x9 0) h9)) fun v10 h10 =>
  bnd (pu h10 (bin Tryd.prog .add 3 true v10 (.int .i64 1))) fun v11 h11 =>
  bnd (stS (storeV 1 (nth x9 0) v11 h11)) fun v12 h12 =>
  bnd (pu h12 (loadV G false 1 (nth x9 1) h12)) fun v13 h13 =>
  bnd (pu h13 (bin Tryd.prog .eql 35 true v13 .nili)) fun v14 h14 =>
  finV [v14] h.length h14)
  (fun i9 => none)
  (finV [.undef] h.length h9))
noncomputable def src_Valid_2.f (G : Globs) : Nat → Den
  | 0 => fun _ _ => none
  | k + 1 => fun args h => arg5 args fun x0 x1 x2 x3 x4 => (src_Valid_2.c G k (src_Valid_2.f G k) x0 x1 x2 x3 x4 h)
theorem src_Valid_2.step (G : Globs) (k : Nat) (x0 x1 x2 x3 x4 : AV) (h : AHeap) : src_Valid_2.f G (k + 1) [x0, x1, x2, x3, x4] h = src_Valid_2.c G k (src_Valid_2.f G k) x0 x1 x2 x3 x4 h := rfl
/-! alembic/src.Count$1: function 79 -/
noncomputable def src_Count_1.ann : Ann := mkAnn [] [] [] []
noncomputable def src_Count_1.env (G : Globs) (k : Nat) (self : Den) : List (Nat × Bool × Den) := []
noncomputable def src_Count_1.c (G : Globs) (k : Nat) (self : Den) (x0 x1 x2 : AV) (h : AHeap) : Option (AV × AHeap) := outV (
  bnd (boxRoA x0 h) fun v0 h0 =>
  bnd (pu h0 (loadV G false 1 x2 h0)) fun v1 h1 =>
  bnd (pu h1 (bin Tryd.prog .add 3 true v1 (.int .i64 1))) fun v2 h2 =>
  bnd (stS (storeV 1 x2 v2 h2)) fun v3 h3 =>
  finV [(.bool true)] h.length h3)
noncomputable def src_Count_1.f (G : Globs) : Nat → Den
  | 0 => fun _ _ => none
  | k + 1 => fun args h => arg3 args fun x0 x1 x2 => (src_Count_1.c G k (src_Count_1.f G k) x0 x1 x2 h)
theorem src_Count_1.step (G : Globs) (k : Nat) (x0 x1 x2 : AV) (h : AHeap) : src_Count_1.f G (k + 1) [x0, x1, x2] h = src_Count_1.c G k (src_Count_1.f G k) x0 x1 x2 h := rfl
/-! alembic/zq.Is: function 86 -/
noncomputable def zq_Is.ann : Ann := mkAnn [] [] [] []
noncomputable def zq_Is.env (G : Globs) (k : Nat) (self : Den) : List (Nat × Bool × Den) := []
noncomputable def zq_Is.c (G : Globs) (k : Nat) (self : Den) (x0 : AV) (h : AHeap) : Option (AV × AHeap) := outV (
  bnd (pu h (bin Tryd.prog .eql 3 true x0 (.int .i64 17))) fun v0 h0 =>
  condA v0
  (condA v0
  (finV [(.bool true)] h.length h0)
  (finV [(.bool false)] h.length h0))
  (bnd (pu h0 (bin Tryd.prog .eql 3 true x0 (.int .i64 97))) fun v1 h1 =>
  condA v1
  (condA v1
  (finV [(.bool true)] h.length h1)
  (finV [(.bool false)] h.length h1))
  (bnd (pu h1 (bin Tryd.prog .eql 3 true x0 (.int .i64 257))) fun v2 h2 =>
  condA v2
  (condA v2
  (finV [(.bool true)] h.length h2)
  (finV [(.bool false)] h.length h2))
  (bnd (pu h2 (bin Tryd.prog .eql 3 true x0 (.int .i64 3329))) fun v3 h3 =>
  condA v3
  (condA v3
  (finV [(.bool true)] h.length h3)
  (finV [(.bool false)] h.length h3))
  (bnd (pu h3 (bin Tryd.prog .eql 3 true x0 (.int .i64 7681))) fun v4 h4 =>
  condA v4
  (condA v4
  (finV [(.bool true)] h.length h4)
  (finV [(.bool false)] h.length h4))
  (bnd (pu h4 (bin Tryd.prog .eql 3 true x0 (.int .i64 12289))) fun v5 h5 =>
  condA v5
  (condA v5
  (finV [(.bool true)] h.length h5)
  (finV [(.bool false)] h.length h5))
  (bnd (pu h5 (bin Tryd.prog .eql 3 true x0 (.int .i64 8380417))) fun v6 h6 =>
  condA v6
  (finV [(.bool true)] h.length h6)
  (finV [(.bool false)] h.length h6))))))))
noncomputable def zq_Is.f (G : Globs) : Nat → Den
  | 0 => fun _ _ => none
  | k + 1 => fun args h => arg1 args fun x0 => (zq_Is.c G k (zq_Is.f G k) x0 h)
theorem zq_Is.step (G : Globs) (k : Nat) (x0 : AV) (h : AHeap) : zq_Is.f G (k + 1) [x0] h = zq_Is.c G k (zq_Is.f G k) x0 h := rfl
/-! alembic/ring.Valid: function 47 -/
noncomputable def ring_Valid.ann : Ann := mkAnn [] [] [] [(10, [1, 2])]
noncomputable def ring_Valid.env (G : Globs) (k : Nat) (self : Den) : List (Nat × Bool × Den) := [(86, true, zq_Is.f G k)]
noncomputable def ring_Valid.c (G : Globs) (k : Nat) (self : Den) (x0 : AV) (h : AHeap) : Option (AV × AHeap) := outV (
  bnd (boxRoA x0 h) fun v0 h0 =>
  thenK (
  bnd (pu h0 (fieldAddrV 1 v0)) fun v1 h1 =>
  bnd (pu h1 (loadV G false 1 v1 h1)) fun v2 h2 =>
  bnd (pu h2 (bin Tryd.prog .eql 3 true v2 (.int .i64 4))) fun v3 h3 =>
  condA v3
  (condA v3
  (some (.normal, [v0, .nili], h3))
  (bnd (pu h3 (loadV G false 1 (.gl 1) h3)) fun v4 h4 =>
  some (.ret, [v0, v4], h4)))
  (bnd (pu h3 (bin Tryd.prog .eql 3 true v2 (.int .i64 8))) fun v5 h5 =>
  condA v5
  (condA v5
  (some (.normal, [v0, .nili], h5))
  (bnd (pu h5 (loadV G false 1 (.gl 1) h5)) fun v6 h6 =>
  some (.ret, [v0, v6], h6)))
  (bnd (pu h5 (bin Tryd.prog .eql 3 true v2 (.int .i64 16))) fun v7 h7 =>
  condA v7
  (condA v7
  (some (.normal, [v0, .nili], h7))
  (bnd (pu h7 (loadV G false 1 (.gl 1) h7)) fun v8 h8 =>
  some (.ret, [v0, v8], h8)))
  (bnd (pu h7 (bin Tryd.prog .eql 3 true v2 (.int .i64 32))) fun v9 h9 =>
  condA v9
  (condA v9
  (some (.normal, [v0, .nili], h9))
  (bnd (pu h9 (loadV G false 1 (.gl 1) h9)) fun v10 h10 =>
  some (.ret, [v0, v10], h10)))
  (bnd (pu h9 (bin Tryd.prog .eql 3 true v2 (.int .i64 64))) fun v11 h11 =>
  condA v11
  (condA v11
  (some (.normal, [v0, .nili], h11))
  (bnd (pu h11 (loadV G false 1 (.gl 1) h11)) fun v12 h12 =>
  some (.ret, [v0, v12], h12)))
  (bnd (pu h11 (bin Tryd.prog .eql 3 true v2 (.int .i64 128))) fun v13 h13 =>
  condA v13
  (condA v13
  (some (.normal, [v0, .nili], h13))
  (bnd (pu h13 (loadV G false 1 (.gl 1) h13)) fun v14 h14 =>
  some (.ret, [v0, v14], h14)))
  (bnd (pu h13 (bin Tryd.prog .eql 3 true v2 (.int .i64 256))) fun v15 h15 =>
  condA v15
  (some (.normal, [v0, .nili], h15))
  (bnd (pu h15 (loadV G false 1 (.gl 1) h15)) fun v16 h16 =>
  some (.ret, [v0, v16], h16))))))))) fun e17 x17 h17 => exK e17
  (bnd (pu h17 (fieldAddrV 0 (nth x17 0))) fun v18 h18 =>
  bnd (pu h18 (loadV G false 1 v18 h18)) fun v19 h19 =>
  bnd (pureCall (zq_Is.f G k) [v19] h19) fun v20 h20 =>
  bnd (pu h20 (un .not v20)) fun v21 h21 =>
  condA v21
  (bnd (pu h21 (loadV G false 1 (.gl 1) h21)) fun v22 h22 =>
  finV [v22] h.length h22)
  (finV [.nili] h.length h21))
  (fun i17 => none)
  (finV [(nth x17 1)] h.length h17))
noncomputable def ring_Valid.f (G : Globs) : Nat → Den
  | 0 => fun _ _ => none
  | k + 1 => fun args h => arg1 args fun x0 => (ring_Valid.c G k (ring_Valid.f G k) x0 h)
theorem ring_Valid.step (G : Globs) (k : Nat) (x0 : AV) (h : AHeap) : ring_Valid.f G (k + 1) [x0] h = ring_Valid.c G k (ring_Valid.f G k) x0 h := rfl
/-! alembic/src.each: function 87 -/
noncomputable def src_each.ann : Ann := mkAnn [] [] [(2, [1, 2, 6, 9, 10, 11])] []
noncomputable def src_each.env (G : Globs) (k : Nat) (self : Den) : List (Nat × Bool × Den) := [(49, false, src_Valid_1.f G k), (50, false, src_Valid_2.f G k), (79, false, src_Count_1.f G k), (87, false, self)]
noncomputable def src_each.l2 (G : Globs) (k n0 : Nat) (self : Den) (lp : LoopF) : LoopF := fun xs h0 => cutK n0 xs h0 fun h =>
  bnd (pu h (bin Tryd.prog .lss 3 false (nth xs 5) (nth xs 4))) fun v2 h2 =>
  condA v2
  (bnd (pu h2 (idxAddrSl 8 (nth xs 3) (nth xs 5))) fun v3 h3 =>
  bnd (pu h3 (loadV G true 8 v3 h3)) fun v4 h4 =>
  bnd (boxA 33 (.agg [(.int .i64 0), (.int .i64 0), (.int .i64 0), (.int .i64 0), (.int .i64 0), (.int .i64 0), .nils, .nils]) h4) fun v5 h5 =>
  bnd (stS (storeV 8 v5 v4 h5)) fun v6 h6 =>
  bnd (pu h6 (loadV G true 8 v5 h6)) fun v7 h7 =>
  bnd (callV (envL (src_each.env G k self)) (nth xs 1) [v7, (nth xs 0)] h7) fun v8 h8 =>
  bnd (pu h8 (un .not v8)) fun v9 h9 =>
  bnd (gd v9 false h9 (pu h9 (fieldAddrV 6 v5))) fun v10 h10 =>
  bnd (gd v9 false h10 (pu h10 (loadV G false 1 v10 h10))) fun v11 h11 =>
  bnd (gd v9 false h11 (some ((nth xs 0), h11))) fun v12 h12 =>
  bnd (gd v9 false h12 (pu h12 (bin Tryd.prog .add 3 true v12 (.int .i64 1)))) fun v13 h13 =>
  bnd (gd v9 false h13 (some ((nth xs 1), h13))) fun v14 h14 =>
  bnd (gd v9 false h14 (heapCall self [v11, v13, v14] h14)) fun v15 h15 =>
  bnd (gd v9 false h15 (pu h15 (un .not v15))) fun v16 h16 =>
  bnd (pu h16 (pickA v9 (.bool true) v16)) fun v17 h17 =>
  bnd (gd v17 false h17 (pu h17 (fieldAddrV 7 v5))) fun v18 h18 =>
  bnd (gd v17 false h18 (pu h18 (loadV G false 1 v18 h18))) fun v19 h19 =>
  bnd (gd v17 false h19 (some ((nth xs 0), h19))) fun v20 h20 =>
  bnd (gd v17 false h20 (pu h20 (bin Tryd.prog .add 3 true v20 (.int .i64 1)))) fun v21 h21 =>
  bnd (gd v17 false h21 (some ((nth xs 1), h21))) fun v22 h22 =>
  bnd (gd v17 false h22 (heapCall self [v19, v21, v22] h22)) fun v23 h23 =>
  bnd (gd v17 false h23 (pu h23 (un .not v23))) fun v24 h24 =>
  bnd (pu h24 (pickA v17 (.bool true) v24)) fun v25 h25 =>
  condA v25
  (some (.ret, [(nth xs 0), (nth xs 1), (.bool false), (nth xs 3), (nth xs 4), (nth xs 5)], h25))
  (bnd (pu h25 (bin Tryd.prog .add 3 true (nth xs 5) (.int .i64 1))) fun v26 h26 =>
  lp [(nth xs 0), (nth xs 1), (nth xs 2), (nth xs 3), (nth xs 4), v26] h26))
  (some (.exit 0, [(nth xs 0), (nth xs 1), (nth xs 2), (nth xs 3), (nth xs 4), (nth xs 5)], h2))
noncomputable def src_each.c (G : Globs) (k : Nat) (self : Den) (x0 x1 x2 : AV) (h : AHeap) : Option (AV × AHeap) := outV (
  bnd (pu h (lenSl x0)) fun v0 h0 =>
  thenK (loopN (src_each.l2 G k h0.length self) k [x1, x2, (.bool false), x0, v0, (.int .i64 0)] h0) fun e1 x1 h1 => exK e1
  (finV [(.bool true)] h.length h1)
  (fun i1 => if i1 = 0 then (finV [(.bool true)] h.length h1) else (none))
  (finV [(nth x1 2)] h.length h1))
noncomputable def src_each.f (G : Globs) : Nat → Den
  | 0 => fun _ _ => none
  | k + 1 => fun args h => arg3 args fun x0 x1 x2 => (src_each.c G k (src_each.f G k) x0 x1 x2 h)
theorem src_each.step (G : Globs) (k : Nat) (x0 x1 x2 : AV) (h : AHeap) : src_each.f G (k + 1) [x0, x1, x2] h = src_each.c G k (src_each.f G k) x0 x1 x2 h := rfl
/-! alembic/src.Each: function 48 -/
noncomputable def src_Each.ann : Ann := mkAnn [] [] [] []
noncomputable def src_Each.env (G : Globs) (k : Nat) (self : Den) : List (Nat × Bool × Den) := [(87, false, src_each.f G k)]
noncomputable def src_Each.c (G : Globs) (k : Nat) (self : Den) (x0 x1 : AV) (h : AHeap) : Option (AV × AHeap) := outV (
  bnd (heapCall (src_each.f G k) [x0, (.int .i64 0), x1] h) fun v0 h0 =>
  finV [] h.length h0)
noncomputable def src_Each.f (G : Globs) : Nat → Den
  | 0 => fun _ _ => none
  | k + 1 => fun args h => arg2 args fun x0 x1 => (src_Each.c G k (src_Each.f G k) x0 x1 h)
theorem src_Each.step (G : Globs) (k : Nat) (x0 x1 : AV) (h : AHeap) : src_Each.f G (k + 1) [x0, x1] h = src_Each.c G k (src_Each.f G k) x0 x1 h := rfl
/-! alembic/src.Valid: function 12 -/
noncomputable def src_Valid.ann : Ann := mkAnn [1] [] [(7, [1, 2, 21, 22, 23])] []
noncomputable def src_Valid.env (G : Globs) (k : Nat) (self : Den) : List (Nat × Bool × Den) := [(47, true, ring_Valid.f G k), (48, false, src_Each.f G k), (49, false, src_Valid_1.f G k), (50, false, src_Valid_2.f G k)]
noncomputable def src_Valid.l7 (G : Globs) (k n0 : Nat) (self : Den) (lp : LoopF) : LoopF := fun xs h0 => cutK n0 xs h0 fun h =>
  bnd (pu h (bin Tryd.prog .lss 3 false (nth xs 4) (nth xs 3))) fun v14 h14 =>
  condA v14
  (bnd (pu h14 (idxAddrSl 2 (nth xs 2) (nth xs 4))) fun v15 h15 =>
  bnd (pu h15 (loadV G true 2 v15 h15)) fun v16 h16 =>
  bnd (boxA 27 (.agg [(.int .i64 0), (.bool false)]) h16) fun v17 h17 =>
  bnd (stS (storeV 2 v17 v16 h17)) fun v18 h18 =>
  bnd (pu h18 (fieldAddrV 0 v17)) fun v19 h19 =>
  bnd (pu h19 (loadV G false 1 v19 h19)) fun v20 h20 =>
  bnd (pu h20 (bin Tryd.prog .lss 3 true v20 (.int .i64 1))) fun v21 h21 =>
  bnd (gd v21 false h21 (pu h21 (fieldAddrV 0 v17))) fun v22 h22 =>
  bnd (gd v21 false h22 (pu h22 (loadV G false 1 v22 h22))) fun v23 h23 =>
  bnd (gd v21 false h23 (pu h23 (bin Tryd.prog .gtr 3 true v23 (.int .i64 3)))) fun v24 h24 =>
  bnd (pu h24 (pickA v21 (.bool true) v24)) fun v25 h25 =>
  condA v25
  (bnd (pu h25 (loadV G false 1 (.gl 1) h25)) fun v26 h26 =>
  bnd (pu h26 (buildSt [(0, 1), (1, 1)] [(.int .i64 0), .nili] [(0, (nth xs 4)), (1, v26)])) fun v27 h27 =>
  bnd (boxRoA v27 h27) fun v28 h28 =>
  some (.ret, [(nth xs 0), (.iface 89 v28), (nth xs 2), (nth xs 3), (nth xs 4)], h28))
  (bnd (pu h25 (bin Tryd.prog .add 3 true (nth xs 4) (.int .i64 1))) fun v29 h29 =>
  lp [(nth xs 0), (nth xs 1), (nth xs 2), (nth xs 3), v29] h29))
  (some (.exit 0, [(nth xs 0), (nth xs 1), (nth xs 2), (nth xs 3), (nth xs 4)], h14))
noncomputable def src_Valid.c (G : Globs) (k : Nat) (self : Den) (x0 : AV) (h : AHeap) : Option (AV × AHeap) := outV (
  bnd (boxA 31 x0 h) fun v0 h0 =>
  bnd (pu h0 (fieldAddrV 0 v0)) fun v1 h1 =>
  bnd (pu h1 (loadV G true 2 v1 h1)) fun v2 h2 =>
  bnd (pureCall (ring_Valid.f G k) [v2] h2) fun v3 h3 =>
  bnd (pu h3 (bin Tryd.prog .neq 35 true v3 .nili)) fun v4 h4 =>
  condA v4
  (finV [v3] h.length h4)
  (bnd (pu h4 (fieldAddrV 2 v0)) fun v5 h5 =>
  bnd (pu h5 (loadV G false 1 v5 h5)) fun v6 h6 =>
  bnd (pu h6 (lenSl v6)) fun v7 h7 =>
  bnd (pu h7 (bin Tryd.prog .gtr 3 true v7 (.int .i64 12))) fun v8 h8 =>
  condA v8
  (bnd (pu h8 (loadV G false 1 (.gl 0) h8)) fun v9 h9 =>
  finV [v9] h.length h9)
  (bnd (pu h8 (fieldAddrV 2 v0)) fun v10 h10 =>
  bnd (pu h10 (loadV G false 1 v10 h10)) fun v11 h11 =>
  bnd (pu h11 (lenSl v11)) fun v12 h12 =>
  thenK (loopN (src_Valid.l7 G k h12.length self) k [v0, .nili, v11, v12, (.int .i64 0)] h12) fun e13 x13 h13 => exK e13
  (bnd (boxA 3 (.int .i64 0) h13) fun v30 h30 =>
  bnd (boxA 4 (.bool false) h30) fun v31 h31 =>
  bnd (stS (storeV 1 v30 (.int .i64 0) h31)) fun v32 h32 =>
  bnd (stS (storeV 1 v31 (.bool false) h32)) fun v33 h33 =>
  bnd (pu h33 (fieldAddrV 3 (nth x13 0))) fun v34 h34 =>
  bnd (pu h34 (loadV G false 1 v34 h34)) fun v35 h35 =>
  bnd (heapCall (src_Each.f G k) [v35, (.fn 49 [v30, v31])] h35) fun v36 h36 =>
  bnd (pu h36 (loadV G false 1 v31 h36)) fun v37 h37 =>
  condA v37
  (bnd (pu h37 (loadV G false 1 (.gl 0) h37)) fun v38 h38 =>
  finV [v38] h.length h38)
  (bnd (boxA 35 .nili h37) fun v39 h39 =>
  bnd (stS (storeV 1 v30 (.int .i64 0) h39)) fun v40 h40 =>
  bnd (pu h40 (fieldAddrV 3 (nth x13 0))) fun v41 h41 =>
  bnd (pu h41 (loadV G false 1 v41 h41)) fun v42 h42 =>
  bnd (heapCall (src_Each.f G k) [v42, (.fn 50 [(nth x13 0), v30, v39])] h42) fun v43 h43 =>
  bnd (pu h43 (loadV G false 1 v39 h43)) fun v44 h44 =>
  finV [v44] h.length h44))
  (fun i13 => if i13 = 0 then (bnd (boxA 3 (.int .i64 0) h13) fun v45 h45 =>
  bnd (boxA 4 (.bool false) h45) fun v46 h46 =>
  bnd (stS (storeV 1 v45 (.int .i64 0) h46)) fun v47 h47 =>
  bnd (stS (storeV 1 v46 (.bool false) h47)) fun v48 h48 =>
  bnd (pu h48 (fieldAddrV 3 (nth x13 0))) fun v49 h49 =>
  bnd (pu h49 (loadV G false 1 v49 h49)) fun v50 h50 =>
  bnd (heapCall (src_Each.f G k) [v50, (.fn 49 [v45, v46])] h50) fun v51 h51 =>
  bnd (pu h51 (loadV G false 1 v46 h51)) fun v52 h52 =>
  condA v52
  (bnd (pu h52 (loadV G false 1 (.gl 0) h52)) fun v53 h53 =>
  finV [v53] h.length h53)
  (bnd (boxA 35 .nili h52) fun v54 h54 =>
  bnd (stS (storeV 1 v45 (.int .i64 0) h54)) fun v55 h55 =>
  bnd (pu h55 (fieldAddrV 3 (nth x13 0))) fun v56 h56 =>
  bnd (pu h56 (loadV G false 1 v56 h56)) fun v57 h57 =>
  bnd (heapCall (src_Each.f G k) [v57, (.fn 50 [(nth x13 0), v45, v54])] h57) fun v58 h58 =>
  bnd (pu h58 (loadV G false 1 v54 h58)) fun v59 h59 =>
  finV [v59] h.length h59)) else (none))
  (finV [(nth x13 1)] h.length h13))))
noncomputable def src_Valid.f (G : Globs) : Nat → Den
  | 0 => fun _ _ => none
  | k + 1 => fun args h => arg1 args fun x0 => (src_Valid.c G k (src_Valid.f G k) x0 h)
theorem src_Valid.step (G : Globs) (k : Nat) (x0 : AV) (h : AHeap) : src_Valid.f G (k + 1) [x0] h = src_Valid.c G k (src_Valid.f G k) x0 h := rfl
/-! alembic/src.Count: function 34 -/
noncomputable def src_Count.ann : Ann := mkAnn [] [] [] []
noncomputable def src_Count.env (G : Globs) (k : Nat) (self : Den) : List (Nat × Bool × Den) := [(48, false, src_Each.f G k), (79, false, src_Count_1.f G k)]
noncomputable def src_Count.c (G : Globs) (k : Nat) (self : Den) (x0 : AV) (h : AHeap) : Option (AV × AHeap) := outV (
  bnd (boxRoA x0 h) fun v0 h0 =>
  bnd (boxA 3 (.int .i64 0) h0) fun v1 h1 =>
  bnd (stS (storeV 1 v1 (.int .i64 0) h1)) fun v2 h2 =>
  bnd (pu h2 (fieldAddrV 3 v0)) fun v3 h3 =>
  bnd (pu h3 (loadV G false 1 v3 h3)) fun v4 h4 =>
  bnd (heapCall (src_Each.f G k) [v4, (.fn 79 [v1])] h4) fun v5 h5 =>
  bnd (pu h5 (loadV G false 1 v1 h5)) fun v6 h6 =>
  finV [v6] h.length h6)
noncomputable def src_Count.f (G : Globs) : Nat → Den
  | 0 => fun _ _ => none
  | k + 1 => fun args h => arg1 args fun x0 => (src_Count.c G k (src_Count.f G k) x0 h)
theorem src_Count.step (G : Globs) (k : Nat) (x0 : AV) (h : AHeap) : src_Count.f G (k + 1) [x0] h = src_Count.c G k (src_Count.f G k) x0 h := rfl
/-! alembic/alembiclaw13.first: function 10 -/
noncomputable def alembiclaw13_first.ann : Ann := mkAnn [] [] [] []
noncomputable def alembiclaw13_first.env (G : Globs) (k : Nat) (self : Den) : List (Nat × Bool × Den) := [(12, true, src_Valid.f G k), (34, true, src_Count.f G k)]
noncomputable def alembiclaw13_first.c (G : Globs) (k : Nat) (self : Den) (h : AHeap) : Option (AV × AHeap) := outV (
  bnd (pu h (buildSt [(0, 2), (2, 1), (3, 1)] [(.int .i64 0), (.int .i64 0), .nils, .nils] [])) fun v0 h0 =>
  bnd (pureCall (src_Count.f G k) [v0] h0) fun v1 h1 =>
  bnd (pu h1 (bin Tryd.prog .eql 3 true v1 (.int .i64 0))) fun v2 h2 =>
  bnd (gd v2 true h2 (pu h2 (buildSt [(0, 1), (1, 1), (2, 1), (3, 1), (4, 1), (5, 1), (6, 1), (7, 1)] [(.int .i64 0), (.int .i64 0), (.int .i64 0), (.int .i64 0), (.int .i64 0), (.int .i64 0), .nils, .nils] [(0, (.int .i64 1))]))) fun v3 h3 =>
  bnd (gd v2 true h3 (buildRo 8 1 (.agg [(.int .i64 0), (.int .i64 0), (.int .i64 0), (.int .i64 0), (.int .i64 0), (.int .i64 0), .nils, .nils]) [(0, v3)] h3)) fun v4 h4 =>
  bnd (gd v2 true h4 (pu h4 (buildSt [(0, 2), (2, 1), (3, 1)] [(.int .i64 0), (.int .i64 0), .nils, .nils] [(2, v4)]))) fun v5 h5 =>
  bnd (gd v2 true h5 (pureCall (src_Count.f G k) [v5] h5)) fun v6 h6 =>
  bnd (gd v2 true h6 (pu h6 (bin Tryd.prog .eql 3 true v6 (.int .i64 1)))) fun v7 h7 =>
  bnd (pu h7 (pickA v2 v7 (.bool false))) fun v8 h8 =>
  bnd (gd v8 true h8 (pu h8 (buildSt [(0, 1), (1, 1)] [(.int .i64 0), (.int .i64 0)] [(0, (.int .i64 17)), (1, (.int .i64 4))]))) fun v9 h9 =>
  bnd (gd v8 true h9 (pu h9 (buildSt [(0, 2), (2, 1), (3, 1)] [(.int .i64 0), (.int .i64 0), .nils, .nils] [(0, v9)]))) fun v10 h10 =>
  bnd (gd v8 true h10 (pureCall (src_Valid.f G k) [v10] h10)) fun v11 h11 =>
  bnd (gd v8 true h11 (pu h11 (bin Tryd.prog .eql 35 true v11 .nili))) fun v12 h12 =>
  bnd (pu h12 (pickA v8 v12 (.bool false))) fun v13 h13 =>
  finV [v13] h.length h13)
noncomputable def alembiclaw13_first.f (G : Globs) : Nat → Den
  | 0 => fun _ _ => none
  | k + 1 => fun args h => arg0 args (alembiclaw13_first.c G k (alembiclaw13_first.f G k) h)
theorem alembiclaw13_first.step (G : Globs) (k : Nat) (h : AHeap) : alembiclaw13_first.f G (k + 1) [] h = alembiclaw13_first.c G k (alembiclaw13_first.f G k) h := rfl
/-! alembic/alembicworld.Number: function 11 -/
noncomputable def alembicworld_Number.ann : Ann := mkAnn [] [] [] []
noncomputable def alembicworld_Number.env (G : Globs) (k : Nat) (self : Den) : List (Nat × Bool × Den) := []
noncomputable def alembicworld_Number.c (G : Globs) (k : Nat) (self : Den) (x0 x1 : AV) (h : AHeap) : Option (AV × AHeap) := outV (
  bnd (pu h (bin Tryd.prog .rem 3 false x0 x1)) fun v0 h0 =>
  bnd (pu h0 (bin Tryd.prog .lss 3 true v0 (.int .i64 0))) fun v1 h1 =>
  condA v1
  (bnd (pu h1 (bin Tryd.prog .add 3 false v0 x1)) fun v2 h2 =>
  finV [v2] h.length h2)
  (finV [v0] h.length h1))
noncomputable def alembicworld_Number.f (G : Globs) : Nat → Den
  | 0 => fun _ _ => none
  | k + 1 => fun args h => arg2 args fun x0 x1 => (alembicworld_Number.c G k (alembicworld_Number.f G k) x0 x1 h)
theorem alembicworld_Number.step (G : Globs) (k : Nat) (x0 x1 : AV) (h : AHeap) : alembicworld_Number.f G (k + 1) [x0, x1] h = alembicworld_Number.c G k (alembicworld_Number.f G k) x0 x1 h := rfl
/-! alembic/alembicref.SameFault: function 65 -/
noncomputable def alembicref_SameFault.ann : Ann := mkAnn [] [] [] []
noncomputable def alembicref_SameFault.env (G : Globs) (k : Nat) (self : Den) : List (Nat × Bool × Den) := []
noncomputable def alembicref_SameFault.c (G : Globs) (k : Nat) (self : Den) (x0 x1 : AV) (h : AHeap) : Option (AV × AHeap) := outV (
  bnd (boxRoA x0 h) fun v0 h0 =>
  bnd (boxRoA x1 h0) fun v1 h1 =>
  bnd (pu h1 (fieldAddrV 0 v0)) fun v2 h2 =>
  bnd (pu h2 (loadV G false 1 v2 h2)) fun v3 h3 =>
  bnd (pu h3 (fieldAddrV 0 v1)) fun v4 h4 =>
  bnd (pu h4 (loadV G false 1 v4 h4)) fun v5 h5 =>
  bnd (pu h5 (bin Tryd.prog .eql 3 false v3 v5)) fun v6 h6 =>
  bnd (gd v6 true h6 (pu h6 (fieldAddrV 1 v0))) fun v7 h7 =>
  bnd (gd v6 true h7 (pu h7 (loadV G false 1 v7 h7))) fun v8 h8 =>
  bnd (gd v6 true h8 (pu h8 (fieldAddrV 1 v1))) fun v9 h9 =>
  bnd (gd v6 true h9 (pu h9 (loadV G false 1 v9 h9))) fun v10 h10 =>
  bnd (gd v6 true h10 (pu h10 (bin Tryd.prog .eql 4 false v8 v10))) fun v11 h11 =>
  bnd (pu h11 (pickA v6 v11 (.bool false))) fun v12 h12 =>
  bnd (gd v12 true h12 (pu h12 (fieldAddrV 2 v0))) fun v13 h13 =>
  bnd (gd v12 true h13 (pu h13 (loadV G false 1 v13 h13))) fun v14 h14 =>
  bnd (gd v12 true h14 (pu h14 (fieldAddrV 2 v1))) fun v15 h15 =>
  bnd (gd v12 true h15 (pu h15 (loadV G false 1 v15 h15))) fun v16 h16 =>
  bnd (gd v12 true h16 (pu h16 (bin Tryd.prog .eql 3 false v14 v16))) fun v17 h17 =>
  bnd (pu h17 (pickA v12 v17 (.bool false))) fun v18 h18 =>
  finV [v18] h.length h18)
noncomputable def alembicref_SameFault.f (G : Globs) : Nat → Den
  | 0 => fun _ _ => none
  | k + 1 => fun args h => arg2 args fun x0 x1 => (alembicref_SameFault.c G k (alembicref_SameFault.f G k) x0 x1 h)
theorem alembicref_SameFault.step (G : Globs) (k : Nat) (x0 x1 : AV) (h : AHeap) : alembicref_SameFault.f G (k + 1) [x0, x1] h = alembicref_SameFault.c G k (alembicref_SameFault.f G k) x0 x1 h := rfl
/-! alembic/alembicref.Bare: function 52 -/
noncomputable def alembicref_Bare.ann : Ann := mkAnn [] [] [] []
noncomputable def alembicref_Bare.env (G : Globs) (k : Nat) (self : Den) : List (Nat × Bool × Den) := []
noncomputable def alembicref_Bare.c (G : Globs) (k : Nat) (self : Den) (x0 : AV) (h : AHeap) : Option (AV × AHeap) := outV (
  bnd (boxA 48 (.agg [(.int .i64 0), (.bool false), (.int .i64 0)]) h) fun v0 h0 =>
  bnd (pu h0 (buildSt [(0, 1), (1, 1), (2, 1)] [(.int .i64 0), (.bool false), (.int .i64 0)] [(0, x0)])) fun v1 h1 =>
  bnd (stS (storeV 3 v0 v1 h1)) fun v2 h2 =>
  finL [loadV G true 3 v0 h2] h.length h2)
noncomputable def alembicref_Bare.f (G : Globs) : Nat → Den
  | 0 => fun _ _ => none
  | k + 1 => fun args h => arg1 args fun x0 => (alembicref_Bare.c G k (alembicref_Bare.f G k) x0 h)
theorem alembicref_Bare.step (G : Globs) (k : Nat) (x0 : AV) (h : AHeap) : alembicref_Bare.f G (k + 1) [x0] h = alembicref_Bare.c G k (alembicref_Bare.f G k) x0 h := rfl
/-! alembic/alembicref.None: function 63 -/
noncomputable def alembicref_None.ann : Ann := mkAnn [] [] [] []
noncomputable def alembicref_None.env (G : Globs) (k : Nat) (self : Den) : List (Nat × Bool × Den) := []
noncomputable def alembicref_None.c (G : Globs) (k : Nat) (self : Den) (h : AHeap) : Option (AV × AHeap) := outV (
  bnd (boxA 48 (.agg [(.int .i64 0), (.bool false), (.int .i64 0)]) h) fun v0 h0 =>
  bnd (pu h0 (buildSt [(0, 1), (1, 1), (2, 1)] [(.int .i64 0), (.bool false), (.int .i64 0)] [])) fun v1 h1 =>
  bnd (stS (storeV 3 v0 v1 h1)) fun v2 h2 =>
  finL [loadV G true 3 v0 h2] h.length h2)
noncomputable def alembicref_None.f (G : Globs) : Nat → Den
  | 0 => fun _ _ => none
  | k + 1 => fun args h => arg0 args (alembicref_None.c G k (alembicref_None.f G k) h)
theorem alembicref_None.step (G : Globs) (k : Nat) (h : AHeap) : alembicref_None.f G (k + 1) [] h = alembicref_None.c G k (alembicref_None.f G k) h := rfl
/-! alembic/alembicref.Placed: function 61 -/
noncomputable def alembicref_Placed.ann : Ann := mkAnn [] [] [] []
noncomputable def alembicref_Placed.env (G : Globs) (k : Nat) (self : Den) : List (Nat × Bool × Den) := [(63, true, alembicref_None.f G k)]
noncomputable def alembicref_Placed.c (G : Globs) (k : Nat) (self : Den) (x0 x1 : AV) (h : AHeap) : Option (AV × AHeap) := outV (
  bnd (boxA 48 (.agg [(.int .i64 0), (.bool false), (.int .i64 0)]) h) fun v0 h0 =>
  bnd (pu h0 (bin Tryd.prog .eql 3 true x0 (.int .i64 0))) fun v1 h1 =>
  condA v1
  (bnd (pureCall (alembicref_None.f G k) [] h1) fun v2 h2 =>
  bnd (stS (storeV 3 v0 v2 h2)) fun v3 h3 =>
  finL [loadV G true 3 v0 h3] h.length h3)
  (bnd (pu h1 (buildSt [(0, 1), (1, 1), (2, 1)] [(.int .i64 0), (.bool false), (.int .i64 0)] [(0, x0), (1, (.bool true)), (2, x1)])) fun v4 h4 =>
  bnd (stS (storeV 3 v0 v4 h4)) fun v5 h5 =>
  finL [loadV G true 3 v0 h5] h.length h5))
noncomputable def alembicref_Placed.f (G : Globs) : Nat → Den
  | 0 => fun _ _ => none
  | k + 1 => fun args h => arg2 args fun x0 x1 => (alembicref_Placed.c G k (alembicref_Placed.f G k) x0 x1 h)
theorem alembicref_Placed.step (G : Globs) (k : Nat) (x0 x1 : AV) (h : AHeap) : alembicref_Placed.f G (k + 1) [x0, x1] h = alembicref_Placed.c G k (alembicref_Placed.f G k) x0 x1 h := rfl
/-! alembic/alembicsee.sentinels: function 110 -/
noncomputable def alembicsee_sentinels.ann : Ann := mkAnn [] [] [] []
noncomputable def alembicsee_sentinels.env (G : Globs) (k : Nat) (self : Den) : List (Nat × Bool × Den) := []
noncomputable def alembicsee_sentinels.c (G : Globs) (k : Nat) (self : Den) (h : AHeap) : Option (AV × AHeap) := outV (
  bnd (pu h (loadV G false 1 (.gl 1) h)) fun v0 h0 =>
  bnd (pu h0 (loadV G false 1 (.gl 3) h0)) fun v1 h1 =>
  bnd (pu h1 (loadV G false 1 (.gl 0) h1)) fun v2 h2 =>
  bnd (pu h2 (loadV G false 1 (.gl 4) h2)) fun v3 h3 =>
  bnd (pu h3 (loadV G false 1 (.gl 6) h3)) fun v4 h4 =>
  bnd (pu h4 (loadV G false 1 (.gl 2) h4)) fun v5 h5 =>
  bnd (pu h5 (loadV G false 1 (.gl 5) h5)) fun v6 h6 =>
  bnd (pu h6 (loadV G false 1 (.gl 7) h6)) fun v7 h7 =>
  bnd (pu h7 (loadV G false 1 (.gl 8) h7)) fun v8 h8 =>
  bnd (pu h8 (loadV G false 1 (.gl 9) h8)) fun v9 h9 =>
  bnd (pu h9 (loadV G false 1 (.gl 10) h9)) fun v10 h10 =>
  bnd (pu h10 (loadV G false 1 (.gl 11) h10)) fun v11 h11 =>
  bnd (pu h11 (loadV G false 1 (.gl 12) h11)) fun v12 h12 =>
  bnd (pu h12 (loadV G false 1 (.gl 13) h12)) fun v13 h13 =>
  bnd (buildRo 1 14 .nili [(0, v0), (1, v1), (2, v2), (3, v3), (4, v4), (5, v5), (6, v6), (7, v7), (8, v8), (9, v9), (10, v10), (11, v11), (12, v12), (13, v13)] h13) fun v14 h14 =>
  finV [v14] h.length h14)
noncomputable def alembicsee_sentinels.f (G : Globs) : Nat → Den
  | 0 => fun _ _ => none
  | k + 1 => fun args h => arg0 args (alembicsee_sentinels.c G k (alembicsee_sentinels.f G k) h)
theorem alembicsee_sentinels.step (G : Globs) (k : Nat) (h : AHeap) : alembicsee_sentinels.f G (k + 1) [] h = alembicsee_sentinels.c G k (alembicsee_sentinels.f G k) h := rfl
/-! alembic/alembicsee.Alike: function 111 -/
noncomputable def alembicsee_Alike.ann : Ann := mkAnn [] [] [] []
noncomputable def alembicsee_Alike.env (G : Globs) (k : Nat) (self : Den) : List (Nat × Bool × Den) := []
noncomputable def alembicsee_Alike.c (G : Globs) (k : Nat) (self : Den) (x0 x1 : AV) (h : AHeap) : Option (AV × AHeap) := outV (
  bnd (pu h (bin Tryd.prog .eql 35 true x0 .nili)) fun v0 h0 =>
  bnd (gd v0 false h0 (some (x1, h0))) fun v1 h1 =>
  bnd (gd v0 false h1 (pu h1 (bin Tryd.prog .eql 35 true v1 .nili))) fun v2 h2 =>
  bnd (pu h2 (pickA v0 (.bool true) v2)) fun v3 h3 =>
  condA v3
  (bnd (pu h3 (bin Tryd.prog .eql 35 true x0 .nili)) fun v4 h4 =>
  bnd (gd v4 true h4 (some (x1, h4))) fun v5 h5 =>
  bnd (gd v4 true h5 (pu h5 (bin Tryd.prog .eql 35 true v5 .nili))) fun v6 h6 =>
  bnd (pu h6 (pickA v4 v6 (.bool false))) fun v7 h7 =>
  finV [v7] h.length h7)
  (bnd (pu h3 (bin Tryd.prog .eql 35 false x0 x1)) fun v8 h8 =>
  finV [v8] h.length h8))
noncomputable def alembicsee_Alike.f (G : Globs) : Nat → Den
  | 0 => fun _ _ => none
  | k + 1 => fun args h => arg2 args fun x0 x1 => (alembicsee_Alike.c G k (alembicsee_Alike.f G k) x0 x1 h)
theorem alembicsee_Alike.step (G : Globs) (k : Nat) (x0 x1 : AV) (h : AHeap) : alembicsee_Alike.f G (k + 1) [x0, x1] h = alembicsee_Alike.c G k (alembicsee_Alike.f G k) x0 x1 h := rfl
/-! alembic/alembicsee.sentinel: function 95 -/
noncomputable def alembicsee_sentinel.ann : Ann := mkAnn [] [] [(3, [0, 2, 3, 4])] []
noncomputable def alembicsee_sentinel.env (G : Globs) (k : Nat) (self : Den) : List (Nat × Bool × Den) := [(110, true, alembicsee_sentinels.f G k), (111, true, alembicsee_Alike.f G k)]
noncomputable def alembicsee_sentinel.l3 (G : Globs) (k n0 : Nat) (self : Den) (lp : LoopF) : LoopF := fun xs h0 => cutK n0 xs h0 fun h =>
  bnd (pu h (lenSl (nth xs 2))) fun v2 h2 =>
  bnd (pu h2 (bin Tryd.prog .lss 3 false (nth xs 3) v2)) fun v3 h3 =>
  condA v3
  (bnd (pu h3 (idxAddrSl 1 (nth xs 2) (nth xs 3))) fun v4 h4 =>
  bnd (pu h4 (loadV G false 1 v4 h4)) fun v5 h5 =>
  bnd (pureCall (alembicsee_Alike.f G k) [(nth xs 0), v5] h5) fun v6 h6 =>
  condA v6
  (bnd (pu h6 (bin Tryd.prog .add 3 true (.int .i64 101) (nth xs 3))) fun v7 h7 =>
  some (.ret, [(nth xs 0), v7, (nth xs 2), (nth xs 3)], h7))
  (bnd (pu h6 (bin Tryd.prog .add 3 true (nth xs 3) (.int .i64 1))) fun v8 h8 =>
  lp [(nth xs 0), (nth xs 1), (nth xs 2), v8] h8))
  (some (.exit 0, [(nth xs 0), (nth xs 1), (nth xs 2), (nth xs 3)], h3))
noncomputable def alembicsee_sentinel.c (G : Globs) (k : Nat) (self : Den) (x0 : AV) (h : AHeap) : Option (AV × AHeap) := outV (
  bnd (pureCall (alembicsee_sentinels.f G k) [] h) fun v0 h0 =>
  thenK (loopN (alembicsee_sentinel.l3 G k h0.length self) k [x0, (.int .i64 0), v0, (.int .i64 0)] h0) fun e1 x1 h1 => exK e1
  (finV [(.int .i64 (-1))] h.length h1)
  (fun i1 => if i1 = 0 then (finV [(.int .i64 (-1))] h.length h1) else (none))
  (finV [(nth x1 1)] h.length h1))
noncomputable def alembicsee_sentinel.f (G : Globs) : Nat → Den
  | 0 => fun _ _ => none
  | k + 1 => fun args h => arg1 args fun x0 => (alembicsee_sentinel.c G k (alembicsee_sentinel.f G k) x0 h)
theorem alembicsee_sentinel.step (G : Globs) (k : Nat) (x0 : AV) (h : AHeap) : alembicsee_sentinel.f G (k + 1) [x0] h = alembicsee_sentinel.c G k (alembicsee_sentinel.f G k) x0 h := rfl
/-! alembic/alembicsee.Fault: function 66 -/
noncomputable def alembicsee_Fault.ann : Ann := mkAnn [] [] [] []
noncomputable def alembicsee_Fault.env (G : Globs) (k : Nat) (self : Den) : List (Nat × Bool × Den) := [(52, true, alembicref_Bare.f G k), (61, true, alembicref_Placed.f G k), (63, true, alembicref_None.f G k), (95, true, alembicsee_sentinel.f G k)]
noncomputable def alembicsee_Fault.c (G : Globs) (k : Nat) (self : Den) (x0 : AV) (h : AHeap) : Option (AV × AHeap) := outV (
  bnd (boxA 48 (.agg [(.int .i64 0), (.bool false), (.int .i64 0)]) h) fun v0 h0 =>
  bnd (pu h0 (bin Tryd.prog .eql 35 true x0 .nili)) fun v1 h1 =>
  condA v1
  (bnd (pureCall (alembicref_None.f G k) [] h1) fun v2 h2 =>
  bnd (stS (storeV 3 v0 v2 h2)) fun v3 h3 =>
  finL [loadV G true 3 v0 h3] h.length h3)
  (bnd (pu h1 (assertV 89 .nilp true x0)) fun v4 h4 =>
  bnd (pu h4 (extractA v4 0)) fun v5 h5 =>
  bnd (pu h5 (extractA v4 1)) fun v6 h6 =>
  bnd (pu h6 (un .not v6)) fun v7 h7 =>
  condA v7
  (bnd (pureCall (alembicsee_sentinel.f G k) [x0] h7) fun v8 h8 =>
  bnd (pureCall (alembicref_Bare.f G k) [v8] h8) fun v9 h9 =>
  bnd (stS (storeV 3 v0 v9 h9)) fun v10 h10 =>
  finL [loadV G true 3 v0 h10] h.length h10)
  (bnd (pu h7 (bin Tryd.prog .eql 89 true v5 .nilp)) fun v11 h11 =>
  bnd (gd v11 false h11 (some (v5, h11))) fun v12 h12 =>
  bnd (gd v11 false h12 (pu h12 (nilA v12))) fun v13 h13 =>
  bnd (gd v11 false h13 (pu h13 (fieldAddrV 1 v13))) fun v14 h14 =>
  bnd (gd v11 false h14 (pu h14 (loadV G false 1 v14 h14))) fun v15 h15 =>
  bnd (gd v11 false h15 (pu h15 (bin Tryd.prog .eql 35 true v15 .nili))) fun v16 h16 =>
  bnd (pu h16 (pickA v11 (.bool true) v16)) fun v17 h17 =>
  condA v17
  (bnd (pureCall (alembicref_Bare.f G k) [(.int .i64 (-1))] h17) fun v18 h18 =>
  bnd (stS (storeV 3 v0 v18 h18)) fun v19 h19 =>
  finL [loadV G true 3 v0 h19] h.length h19)
  (bnd (pu h17 (nilA v5)) fun v20 h20 =>
  bnd (pu h20 (fieldAddrV 1 v20)) fun v21 h21 =>
  bnd (pu h21 (loadV G false 1 v21 h21)) fun v22 h22 =>
  bnd (pureCall (alembicsee_sentinel.f G k) [v22] h22) fun v23 h23 =>
  bnd (pu h23 (nilA v5)) fun v24 h24 =>
  bnd (pu h24 (fieldAddrV 0 v24)) fun v25 h25 =>
  bnd (pu h25 (loadV G false 1 v25 h25)) fun v26 h26 =>
  bnd (pureCall (alembicref_Placed.f G k) [v23, v26] h26) fun v27 h27 =>
  bnd (stS (storeV 3 v0 v27 h27)) fun v28 h28 =>
  finL [loadV G true 3 v0 h28] h.length h28))))
noncomputable def alembicsee_Fault.f (G : Globs) : Nat → Den
  | 0 => fun _ _ => none
  | k + 1 => fun args h => arg1 args fun x0 => (alembicsee_Fault.c G k (alembicsee_Fault.f G k) x0 h)
theorem alembicsee_Fault.step (G : Globs) (k : Nat) (x0 : AV) (h : AHeap) : alembicsee_Fault.f G (k + 1) [x0] h = alembicsee_Fault.c G k (alembicsee_Fault.f G k) x0 h := rfl
/-! alembic/alembicsee.Same: function 21 -/
noncomputable def alembicsee_Same.ann : Ann := mkAnn [] [] [] []
noncomputable def alembicsee_Same.env (G : Globs) (k : Nat) (self : Den) : List (Nat × Bool × Den) := [(65, true, alembicref_SameFault.f G k), (66, true, alembicsee_Fault.f G k)]
noncomputable def alembicsee_Same.c (G : Globs) (k : Nat) (self : Den) (x0 x1 : AV) (h : AHeap) : Option (AV × AHeap) := outV (
  bnd (boxRoA x1 h) fun v0 h0 =>
  bnd (pureCall (alembicsee_Fault.f G k) [x0] h0) fun v1 h1 =>
  bnd (pu h1 (loadV G true 3 v0 h1)) fun v2 h2 =>
  bnd (pureCall (alembicref_SameFault.f G k) [v1, v2] h2) fun v3 h3 =>
  finV [v3] h.length h3)
noncomputable def alembicsee_Same.f (G : Globs) : Nat → Den
  | 0 => fun _ _ => none
  | k + 1 => fun args h => arg2 args fun x0 x1 => (alembicsee_Same.c G k (alembicsee_Same.f G k) x0 x1 h)
theorem alembicsee_Same.step (G : Globs) (k : Nat) (x0 x1 : AV) (h : AHeap) : alembicsee_Same.f G (k + 1) [x0, x1] h = alembicsee_Same.c G k (alembicsee_Same.f G k) x0 x1 h := rfl
/-! alembic/alembicsee.Is: function 13 -/
noncomputable def alembicsee_Is.ann : Ann := mkAnn [] [] [] []
noncomputable def alembicsee_Is.env (G : Globs) (k : Nat) (self : Den) : List (Nat × Bool × Den) := [(21, true, alembicsee_Same.f G k), (52, true, alembicref_Bare.f G k)]
noncomputable def alembicsee_Is.c (G : Globs) (k : Nat) (self : Den) (x0 x1 : AV) (h : AHeap) : Option (AV × AHeap) := outV (
  bnd (pureCall (alembicref_Bare.f G k) [x1] h) fun v0 h0 =>
  bnd (pureCall (alembicsee_Same.f G k) [x0, v0] h0) fun v1 h1 =>
  finV [v1] h.length h1)
noncomputable def alembicsee_Is.f (G : Globs) : Nat → Den
  | 0 => fun _ _ => none
  | k + 1 => fun args h => arg2 args fun x0 x1 => (alembicsee_Is.c G k (alembicsee_Is.f G k) x0 x1 h)
theorem alembicsee_Is.step (G : Globs) (k : Nat) (x0 x1 : AV) (h : AHeap) : alembicsee_Is.f G (k + 1) [x0, x1] h = alembicsee_Is.c G k (alembicsee_Is.f G k) x0 x1 h := rfl
/-! alembic/alembiclaw13.SrcDeep: function 3 -/
noncomputable def alembiclaw13_SrcDeep.ann : Ann := mkAnnV [21] [] [(9, [0, 5, 6, 11]), (20, [0, 5, 6, 9, 10]), (14, [0, 5, 6, 7, 8])] [(24, [0, 5, 6])] [(14, [(6, 3, 33, 8)]), (20, [(6, 3, 33, 8)]), (9, [(6, 3, 33, 8)])]
noncomputable def alembiclaw13_SrcDeep.env (G : Globs) (k : Nat) (self : Den) : List (Nat × Bool × Den) := [(10, true, alembiclaw13_first.f G k), (11, true, alembicworld_Number.f G k), (12, true, src_Valid.f G k), (13, true, alembicsee_Is.f G k)]
noncomputable def alembiclaw13_SrcDeep.l14 (G : Globs) (k n0 : Nat) (self : Den) (lp : LoopF) : LoopF := fun xs h0 => cutK n0 xs h0 fun h =>
  bnd (pu h (bin Tryd.prog .add 3 true (.int .i64 100) (nth xs 0))) fun v16 h16 =>
  bnd (pu h16 (bin Tryd.prog .lss 3 false (nth xs 4) v16)) fun v17 h17 =>
  condA v17
  (bnd (pu h17 (fieldAddrV 3 (nth xs 2))) fun v18 h18 =>
  bnd (pu h18 (loadV G false 1 v18 h18)) fun v19 h19 =>
  bnd (pu h19 (loadV G true 8 (nth xs 3) h19)) fun v20 h20 =>
  bnd (buildRo 8 1 (.agg [(.int .i64 0), (.int .i64 0), (.int .i64 0), (.int .i64 0), (.int .i64 0), (.int .i64 0), .nils, .nils]) [(0, v20)] h20) fun v21 h21 =>
  bnd (appendV 33 8 v19 v21 h21) fun v22 h22 =>
  bnd (pu h22 (fieldAddrV 3 (nth xs 2))) fun v23 h23 =>
  bnd (stS (storeV 1 v23 v22 h23)) fun v24 h24 =>
  bnd (pu h24 (bin Tryd.prog .add 3 true (nth xs 4) (.int .i64 1))) fun v25 h25 =>
  lp [(nth xs 0), (nth xs 1), (nth xs 2), (nth xs 3), v25] h25)
  (some (.exit 3, [(nth xs 0), (nth xs 1), (nth xs 2), (nth xs 3), (nth xs 4)], h17))
noncomputable def alembiclaw13_SrcDeep.l20 (G : Globs) (k n0 : Nat) (self : Den) (lp : LoopF) : LoopF := fun xs h0 => cutK n0 xs h0 fun h =>
  bnd (pu h (bin Tryd.prog .add 3 true (.int .i64 6) (nth xs 0))) fun v31 h31 =>
  bnd (pu h31 (bin Tryd.prog .lss 3 false (nth xs 4) v31)) fun v32 h32 =>
  condA v32
  (bnd (pu h32 (loadV G true 8 (nth xs 3) h32)) fun v33 h33 =>
  bnd (buildRo 8 1 (.agg [(.int .i64 0), (.int .i64 0), (.int .i64 0), (.int .i64 0), (.int .i64 0), (.int .i64 0), .nils, .nils]) [(0, v33)] h33) fun v34 h34 =>
  bnd (pu h34 (buildSt [(0, 1), (1, 1), (2, 1), (3, 1), (4, 1), (5, 1), (6, 1), (7, 1)] [(.int .i64 0), (.int .i64 0), (.int .i64 0), (.int .i64 0), (.int .i64 0), (.int .i64 0), .nils, .nils] [(0, (.int .i64 15)), (5, (.int .i64 2)), (6, v34)])) fun v35 h35 =>
  bnd (stS (storeV 8 (nth xs 3) v35 h35)) fun v36 h36 =>
  bnd (pu h36 (bin Tryd.prog .add 3 true (nth xs 4) (.int .i64 1))) fun v37 h37 =>
  lp [(nth xs 0), (nth xs 1), (nth xs 2), (nth xs 3), v37] h37)
  (some (.exit 5, [(nth xs 0), (nth xs 1), (nth xs 2), (nth xs 3), (nth xs 4)], h32))
noncomputable def alembiclaw13_SrcDeep.l9 (G : Globs) (k n0 : Nat) (self : Den) (lp : LoopF) : LoopF := fun xs h0 => cutK n0 xs h0 fun h =>
  bnd (pu h (bin Tryd.prog .add 3 true (.int .i64 12) (nth xs 0))) fun v47 h47 =>
  bnd (pu h47 (bin Tryd.prog .lss 3 false (nth xs 3) v47)) fun v48 h48 =>
  condA v48
  (bnd (pu h48 (fieldAddrV 2 (nth xs 2))) fun v49 h49 =>
  bnd (pu h49 (loadV G false 1 v49 h49)) fun v50 h50 =>
  bnd (pu h50 (buildSt [(0, 1), (1, 1)] [(.int .i64 0), (.bool false)] [(0, (.int .i64 2))])) fun v51 h51 =>
  bnd (buildRo 2 1 (.agg [(.int .i64 0), (.bool false)]) [(0, v51)] h51) fun v52 h52 =>
  bnd (appendV 27 2 v50 v52 h52) fun v53 h53 =>
  bnd (pu h53 (fieldAddrV 2 (nth xs 2))) fun v54 h54 =>
  bnd (stS (storeV 1 v54 v53 h54)) fun v55 h55 =>
  bnd (pu h55 (bin Tryd.prog .add 3 true (nth xs 3) (.int .i64 1))) fun v56 h56 =>
  lp [(nth xs 0), (nth xs 1), (nth xs 2), v56] h56)
  (some (.exit 1, [(nth xs 0), (nth xs 1), (nth xs 2), (nth xs 3)], h48))
noncomputable def alembiclaw13_SrcDeep.c (G : Globs) (k : Nat) (self : Den) (x0 x1 : AV) (h : AHeap) : Option (AV × AHeap) := outV (
  bnd (pureCall (alembiclaw13_first.f G k) [] h) fun v0 h0 =>
  bnd (pu h0 (un .not v0)) fun v1 h1 =>
  condA v1
  (finV [(.bool false)] h.length h1)
  (bnd (pureCall (alembicworld_Number.f G k) [x0, (.int .i64 5)] h1) fun v2 h2 =>
  bnd (pu h2 (bin Tryd.prog .sub 3 true v2 (.int .i64 2))) fun v3 h3 =>
  bnd (pu h3 (buildSt [(0, 1), (1, 1)] [(.int .i64 0), (.int .i64 0)] [(0, (.int .i64 17)), (1, (.int .i64 4))])) fun v4 h4 =>
  bnd (pu h4 (buildSt [(0, 1), (1, 1)] [(.int .i64 0), (.bool false)] [(0, (.int .i64 3))])) fun v5 h5 =>
  bnd (buildOwn 27 2 1 (.agg [(.int .i64 0), (.bool false)]) [(0, v5)] h5) fun v6 h6 =>
  bnd (pu h6 (buildSt [(0, 2), (2, 1), (3, 1)] [(.int .i64 0), (.int .i64 0), .nils, .nils] [(0, v4), (1, v6)])) fun v7 h7 =>
  bnd (boxA 31 (.agg [(.int .i64 0), (.int .i64 0), .nils, .nils]) h7) fun v8 h8 =>
  bnd (stS (storeV 4 v8 v7 h8)) fun v9 h9 =>
  bnd (pu h9 (buildSt [(0, 1), (1, 1), (2, 1), (3, 1), (4, 1), (5, 1), (6, 1), (7, 1)] [(.int .i64 0), (.int .i64 0), (.int .i64 0), (.int .i64 0), (.int .i64 0), (.int .i64 0), .nils, .nils] [(0, (.int .i64 1))])) fun v10 h10 =>
  bnd (boxA 33 (.agg [(.int .i64 0), (.int .i64 0), (.int .i64 0), (.int .i64 0), (.int .i64 0), (.int .i64 0), .nils, .nils]) h10) fun v11 h11 =>
  bnd (stS (storeV 8 v11 v10 h11)) fun v12 h12 =>
  thenK (
  bnd (pureCall (alembicworld_Number.f G k) [x1, (.int .i64 3)] h12) fun v13 h13 =>
  bnd (pu h13 (bin Tryd.prog .eql 3 true v13 (.int .i64 0))) fun v14 h14 =>
  condA v14
  (vK [(v8, 3, 33, 8)] h14 fun hv15 =>
  thenK (loopN (alembiclaw13_SrcDeep.l14 G k hv15.length self) k [v3, v0, v8, v11, (.int .i64 0)] hv15) fun e15 x15 h15 => exK e15
  (some (.normal, [(nth x15 0), (nth x15 1), (nth x15 2)], h15))
  (fun i15 => if i15 = 3 then (some (.normal, [(nth x15 0), (nth x15 1), (nth x15 2)], h15)) else (if i15 = 0 then (some (.normal, [(nth x15 0), (nth x15 1), (nth x15 2)], h15)) else (some (.exit i15, [(nth x15 0), (nth x15 1), (nth x15 2)], h15))))
  (some (.ret, [(nth x15 0), (nth x15 1), (nth x15 2)], h15)))
  (bnd (pu h14 (bin Tryd.prog .eql 3 true v13 (.int .i64 1))) fun v26 h26 =>
  condA v26
  (bnd (pu h26 (loadV G true 8 v11 h26)) fun v27 h27 =>
  bnd (boxA 33 (.agg [(.int .i64 0), (.int .i64 0), (.int .i64 0), (.int .i64 0), (.int .i64 0), (.int .i64 0), .nils, .nils]) h27) fun v28 h28 =>
  bnd (stS (storeV 8 v28 v27 h28)) fun v29 h29 =>
  vK [(v8, 3, 33, 8)] h29 fun hv30 =>
  thenK (loopN (alembiclaw13_SrcDeep.l20 G k hv30.length self) k [v3, v0, v8, v28, (.int .i64 0)] hv30) fun e30 x30 h30 => exK e30
  (bnd (pu h30 (loadV G true 8 (nth x30 3) h30)) fun v38 h38 =>
  bnd (buildRo 8 1 (.agg [(.int .i64 0), (.int .i64 0), (.int .i64 0), (.int .i64 0), (.int .i64 0), (.int .i64 0), .nils, .nils]) [(0, v38)] h38) fun v39 h39 =>
  bnd (pu h39 (fieldAddrV 3 (nth x30 2))) fun v40 h40 =>
  bnd (stS (storeV 1 v40 v39 h40)) fun v41 h41 =>
  some (.normal, [(nth x30 0), (nth x30 1), (nth x30 2)], h41))
  (fun i30 => if i30 = 5 then (bnd (pu h30 (loadV G true 8 (nth x30 3) h30)) fun v42 h42 =>
  bnd (buildRo 8 1 (.agg [(.int .i64 0), (.int .i64 0), (.int .i64 0), (.int .i64 0), (.int .i64 0), (.int .i64 0), .nils, .nils]) [(0, v42)] h42) fun v43 h43 =>
  bnd (pu h43 (fieldAddrV 3 (nth x30 2))) fun v44 h44 =>
  bnd (stS (storeV 1 v44 v43 h44)) fun v45 h45 =>
  some (.normal, [(nth x30 0), (nth x30 1), (nth x30 2)], h45)) else (if i30 = 0 then (some (.normal, [(nth x30 0), (nth x30 1), (nth x30 2)], h30)) else (some (.exit i30, [(nth x30 0), (nth x30 1), (nth x30 2)], h30))))
  (some (.ret, [(nth x30 0), (nth x30 1), (nth x30 2)], h30)))
  (vK [(v8, 3, 33, 8)] h26 fun hv46 =>
  thenK (loopN (alembiclaw13_SrcDeep.l9 G k hv46.length self) k [v3, v0, v8, (.int .i64 1)] hv46) fun e46 x46 h46 => exK e46
  (some (.normal, [(nth x46 0), (nth x46 1), (nth x46 2)], h46))
  (fun i46 => if i46 = 1 then (some (.normal, [(nth x46 0), (nth x46 1), (nth x46 2)], h46)) else (if i46 = 0 then (some (.normal, [(nth x46 0), (nth x46 1), (nth x46 2)], h46)) else (some (.exit i46, [(nth x46 0), (nth x46 1), (nth x46 2)], h46))))
  (some (.ret, [(nth x46 0), (nth x46 1), (nth x46 2)], h46))))) fun e57 x57 h57 => exK e57
  (bnd (pu h57 (loadV G true 4 (nth x57 2) h57)) fun v58 h58 =>
  bnd (pureCall (src_Valid.f G k) [v58] h58) fun v59 h59 =>
  bnd (gd (nth x57 1) true h59 (some ((nth x57 0), h59))) fun v60 h60 =>
  bnd (gd (nth x57 1) true h60 (pu h60 (bin Tryd.prog .leq 3 true v60 (.int .i64 0)))) fun v61 h61 =>
  bnd (gd (nth x57 1) true h61 (some (v61, h61))) fun v62 h62 =>
  bnd (gd v62 true h62 (some (v59, h62))) fun v63 h63 =>
  bnd (gd v62 true h63 (pu h63 (bin Tryd.prog .eql 35 true v63 .nili))) fun v64 h64 =>
  bnd (gd (nth x57 1) true h64 (pu h64 (pickA v62 v64 (.bool false)))) fun v65 h65 =>
  bnd (gd (nth x57 1) true h65 (some (v65, h65))) fun v66 h66 =>
  bnd (gd v66 false h66 (some ((nth x57 0), h66))) fun v67 h67 =>
  bnd (gd v66 false h67 (pu h67 (bin Tryd.prog .gtr 3 true v67 (.int .i64 0)))) fun v68 h68 =>
  bnd (gd v66 false h68 (some (v68, h68))) fun v69 h69 =>
  bnd (gd v69 true h69 (some (v59, h69))) fun v70 h70 =>
  bnd (gd v69 true h70 (pureCall (alembicsee_Is.f G k) [v70, (.int .i64 103)] h70)) fun v71 h71 =>
  bnd (gd v66 false h71 (pu h71 (pickA v69 v71 (.bool false)))) fun v72 h72 =>
  bnd (gd (nth x57 1) true h72 (pu h72 (pickA v66 (.bool true) v72))) fun v73 h73 =>
  bnd (pu h73 (pickA (nth x57 1) v73 (.bool false))) fun v74 h74 =>
  finV [v74] h.length h74)
  (fun i57 => none)
  (finV [.undef] h.length h57)))
noncomputable def alembiclaw13_SrcDeep.f (G : Globs) : Nat → Den
  | 0 => fun _ _ => none
  | k + 1 => fun args h => arg2 args fun x0 x1 => (alembiclaw13_SrcDeep.c G k (alembiclaw13_SrcDeep.f G k) x0 x1 h)
theorem alembiclaw13_SrcDeep.step (G : Globs) (k : Nat) (x0 x1 : AV) (h : AHeap) : alembiclaw13_SrcDeep.f G (k + 1) [x0, x1] h = alembiclaw13_SrcDeep.c G k (alembiclaw13_SrcDeep.f G k) x0 x1 h := rfl
end Go.Proofs.YtofhkjacpjfclaaDoor.Mir
