/- Printed by Print.lean: the functions that the statements reach. -/
import Derived.Test.YtemkaggjbhpbbaaMirW
import Derived.Test.YtemkaggjbhpbbaaProg
namespace Go.Proofs.Ytemkaggjbhpbbaa.Mir
open Go
set_option linter.unusedVariables false
/-! alembic/span.Is: function 13 -/
noncomputable def span_Is.ann : Ann := mkAnn [] [] [] []
noncomputable def span_Is.env (G : Globs) (k : Nat) (self : Den) : List (Nat × Bool × Den) := []
noncomputable def span_Is.c (G : Globs) (k : Nat) (self : Den) (x0 : AV) (h : AHeap) : Option (AV × AHeap) := outV (
  bnd (boxRoA x0 h) fun v0 h0 =>
  bnd (pu h0 (fieldAddrV 0 v0)) fun v1 h1 =>
  bnd (pu h1 (loadV G false 1 v1 h1)) fun v2 h2 =>
  bnd (pu h2 (fieldAddrV 1 v0)) fun v3 h3 =>
  bnd (pu h3 (loadV G false 1 v3 h3)) fun v4 h4 =>
  bnd (pu h4 (bin Try.prog .leq 2 false v2 v4)) fun v5 h5 =>
  finV [v5] h.length h5)
noncomputable def span_Is.f (G : Globs) : Nat → Den
  | 0 => fun _ _ => none
  | k + 1 => fun args h => arg1 args fun x0 => (span_Is.c G k (span_Is.f G k) x0 h)
theorem span_Is.step (G : Globs) (k : Nat) (x0 : AV) (h : AHeap) : span_Is.f G (k + 1) [x0] h = span_Is.c G k (span_Is.f G k) x0 h := rfl
/-! alembic/span.of: function 30 -/
noncomputable def span_of.ann : Ann := mkAnn [] [] [(2, [0, 1, 6, 7, 10, 11, 12])] []
noncomputable def span_of.env (G : Globs) (k : Nat) (self : Den) : List (Nat × Bool × Den) := []
noncomputable def span_of.l2 (G : Globs) (k n0 : Nat) (self : Den) (lp : LoopF) : LoopF := fun xs h0 => cutK n0 xs h0 fun h =>
  bnd (pu h (bin Try.prog .lss 3 false (nth xs 6) (nth xs 5))) fun v3 h3 =>
  condA v3
  (bnd (pu h3 (idxAddrSl 1 (nth xs 4) (nth xs 6))) fun v4 h4 =>
  bnd (pu h4 (loadV G false 1 v4 h4)) fun v5 h5 =>
  bnd (pu h5 (un .not v5)) fun v6 h6 =>
  condA v6
  (bnd (pu h6 (buildSt [(0, 1), (1, 1)] [(.int .i64 0), (.int .i64 0)] [])) fun v7 h7 =>
  bnd (stS (storeV 2 (nth xs 2) v7 h7)) fun v8 h8 =>
  some (.ret, [(nth xs 0), (nth xs 1), (nth xs 2), (.bool false), (nth xs 4), (nth xs 5), (nth xs 6)], h8))
  (bnd (pu h6 (bin Try.prog .add 3 true (nth xs 6) (.int .i64 1))) fun v9 h9 =>
  lp [(nth xs 0), (nth xs 1), (nth xs 2), (nth xs 3), (nth xs 4), (nth xs 5), v9] h9))
  (some (.exit 0, [(nth xs 0), (nth xs 1), (nth xs 2), (nth xs 3), (nth xs 4), (nth xs 5), (nth xs 6)], h3))
noncomputable def span_of.c (G : Globs) (k : Nat) (self : Den) (x0 x1 x2 : AV) (h : AHeap) : Option (AV × AHeap) := outV (
  bnd (boxA 24 (.agg [(.int .i64 0), (.int .i64 0)]) h) fun v0 h0 =>
  bnd (pu h0 (lenSl x2)) fun v1 h1 =>
  thenK (loopN (span_of.l2 G k h1.length self) k [x0, x1, v0, (.bool false), x2, v1, (.int .i64 0)] h1) fun e2 x2 h2 => exK e2
  (bnd (pu h2 (buildSt [(0, 1), (1, 1)] [(.int .i64 0), (.int .i64 0)] [(0, (nth x2 0)), (1, (nth x2 1))])) fun v10 h10 =>
  bnd (stS (storeV 2 (nth x2 2) v10 h10)) fun v11 h11 =>
  finL [loadV G true 2 (nth x2 2) h11, some (.bool true)] h.length h11)
  (fun i2 => if i2 = 0 then (bnd (pu h2 (buildSt [(0, 1), (1, 1)] [(.int .i64 0), (.int .i64 0)] [(0, (nth x2 0)), (1, (nth x2 1))])) fun v12 h12 =>
  bnd (stS (storeV 2 (nth x2 2) v12 h12)) fun v13 h13 =>
  finL [loadV G true 2 (nth x2 2) h13, some (.bool true)] h.length h13) else (none))
  (finL [loadV G true 2 (nth x2 2) h2, some (nth x2 3)] h.length h2))
noncomputable def span_of.f (G : Globs) : Nat → Den
  | 0 => fun _ _ => none
  | k + 1 => fun args h => arg3 args fun x0 x1 x2 => (span_of.c G k (span_of.f G k) x0 x1 x2 h)
theorem span_of.step (G : Globs) (k : Nat) (x0 x1 x2 : AV) (h : AHeap) : span_of.f G (k + 1) [x0, x1, x2] h = span_of.c G k (span_of.f G k) x0 x1 x2 h := rfl
/-! alembic/span.Product: function 32 -/
noncomputable def span_Product.ann : Ann := mkAnn [] [] [] []
noncomputable def span_Product.env (G : Globs) (k : Nat) (self : Den) : List (Nat × Bool × Den) := []
noncomputable def span_Product.c (G : Globs) (k : Nat) (self : Den) (x0 x1 : AV) (h : AHeap) : Option (AV × AHeap) := outV (
  bnd (pu h (bin Try.prog .eql 2 true x0 (.int .i64 0))) fun v0 h0 =>
  bnd (gd v0 false h0 (some (x1, h0))) fun v1 h1 =>
  bnd (gd v0 false h1 (pu h1 (bin Try.prog .eql 2 true v1 (.int .i64 0)))) fun v2 h2 =>
  bnd (pu h2 (pickA v0 (.bool true) v2)) fun v3 h3 =>
  condA v3
  (finV [(.int .i64 0), (.bool true)] h.length h3)
  (bnd (pu h3 (bin Try.prog .eql 2 true x0 (.int .i64 (-1)))) fun v4 h4 =>
  bnd (gd v4 true h4 (some (x1, h4))) fun v5 h5 =>
  bnd (gd v4 true h5 (pu h5 (bin Try.prog .eql 2 true v5 (.int .i64 (-9223372036854775808))))) fun v6 h6 =>
  bnd (pu h6 (pickA v4 v6 (.bool false))) fun v7 h7 =>
  bnd (gd v7 false h7 (some (x1, h7))) fun v8 h8 =>
  bnd (gd v7 false h8 (pu h8 (bin Try.prog .eql 2 true v8 (.int .i64 (-1))))) fun v9 h9 =>
  bnd (gd v7 false h9 (some (v9, h9))) fun v10 h10 =>
  bnd (gd v10 true h10 (some (x0, h10))) fun v11 h11 =>
  bnd (gd v10 true h11 (pu h11 (bin Try.prog .eql 2 true v11 (.int .i64 (-9223372036854775808))))) fun v12 h12 =>
  bnd (gd v7 false h12 (pu h12 (pickA v10 v12 (.bool false)))) fun v13 h13 =>
  bnd (pu h13 (pickA v7 (.bool true) v13)) fun v14 h14 =>
  condA v14
  (finV [(.int .i64 0), (.bool false)] h.length h14)
  (bnd (pu h14 (bin Try.prog .mul 2 false x0 x1)) fun v15 h15 =>
  bnd (pu h15 (bin Try.prog .quo 2 false v15 x1)) fun v16 h16 =>
  bnd (pu h16 (bin Try.prog .eql 2 false v16 x0)) fun v17 h17 =>
  condA v17
  (finV [v15, (.bool true)] h.length h17)
  (finV [(.int .i64 0), (.bool false)] h.length h17))))
noncomputable def span_Product.f (G : Globs) : Nat → Den
  | 0 => fun _ _ => none
  | k + 1 => fun args h => arg2 args fun x0 x1 => (span_Product.c G k (span_Product.f G k) x0 x1 h)
theorem span_Product.step (G : Globs) (k : Nat) (x0 x1 : AV) (h : AHeap) : span_Product.f G (k + 1) [x0, x1] h = span_Product.c G k (span_Product.f G k) x0 x1 h := rfl
/-! alembic/span.Mul: function 11 -/
noncomputable def span_Mul.ann : Ann := mkAnn [] [] [] []
noncomputable def span_Mul.env (G : Globs) (k : Nat) (self : Den) : List (Nat × Bool × Den) := [(13, true, span_Is.f G k), (30, true, span_of.f G k), (32, true, span_Product.f G k)]
noncomputable def span_Mul.c (G : Globs) (k : Nat) (self : Den) (x0 x1 : AV) (h : AHeap) : Option (AV × AHeap) := outV (
  bnd (boxRoA x0 h) fun v0 h0 =>
  bnd (boxRoA x1 h0) fun v1 h1 =>
  bnd (boxA 24 (.agg [(.int .i64 0), (.int .i64 0)]) h1) fun v2 h2 =>
  bnd (pu h2 (fieldAddrV 0 v0)) fun v3 h3 =>
  bnd (pu h3 (loadV G false 1 v3 h3)) fun v4 h4 =>
  bnd (pu h4 (fieldAddrV 0 v1)) fun v5 h5 =>
  bnd (pu h5 (loadV G false 1 v5 h5)) fun v6 h6 =>
  bnd (pureCall (span_Product.f G k) [v4, v6] h6) fun v7 h7 =>
  bnd (pu h7 (extractA v7 0)) fun v8 h8 =>
  bnd (pu h8 (extractA v7 1)) fun v9 h9 =>
  bnd (pu h9 (fieldAddrV 0 v0)) fun v10 h10 =>
  bnd (pu h10 (loadV G false 1 v10 h10)) fun v11 h11 =>
  bnd (pu h11 (fieldAddrV 1 v1)) fun v12 h12 =>
  bnd (pu h12 (loadV G false 1 v12 h12)) fun v13 h13 =>
  bnd (pureCall (span_Product.f G k) [v11, v13] h13) fun v14 h14 =>
  bnd (pu h14 (extractA v14 0)) fun v15 h15 =>
  bnd (pu h15 (extractA v14 1)) fun v16 h16 =>
  bnd (pu h16 (fieldAddrV 1 v0)) fun v17 h17 =>
  bnd (pu h17 (loadV G false 1 v17 h17)) fun v18 h18 =>
  bnd (pu h18 (fieldAddrV 0 v1)) fun v19 h19 =>
  bnd (pu h19 (loadV G false 1 v19 h19)) fun v20 h20 =>
  bnd (pureCall (span_Product.f G k) [v18, v20] h20) fun v21 h21 =>
  bnd (pu h21 (extractA v21 0)) fun v22 h22 =>
  bnd (pu h22 (extractA v21 1)) fun v23 h23 =>
  bnd (pu h23 (fieldAddrV 1 v0)) fun v24 h24 =>
  bnd (pu h24 (loadV G false 1 v24 h24)) fun v25 h25 =>
  bnd (pu h25 (fieldAddrV 1 v1)) fun v26 h26 =>
  bnd (pu h26 (loadV G false 1 v26 h26)) fun v27 h27 =>
  bnd (pureCall (span_Product.f G k) [v25, v27] h27) fun v28 h28 =>
  bnd (pu h28 (extractA v28 0)) fun v29 h29 =>
  bnd (pu h29 (extractA v28 1)) fun v30 h30 =>
  bnd (pu h30 (foldA min2A v8 [v15, v22, v29])) fun v31 h31 =>
  bnd (pu h31 (foldA max2A v8 [v15, v22, v29])) fun v32 h32 =>
  bnd (pu h32 (loadV G true 2 v0 h32)) fun v33 h33 =>
  bnd (pureCall (span_Is.f G k) [v33] h33) fun v34 h34 =>
  bnd (pu h34 (loadV G true 2 v1 h34)) fun v35 h35 =>
  bnd (pureCall (span_Is.f G k) [v35] h35) fun v36 h36 =>
  bnd (buildRo 1 6 (.bool false) [(0, v34), (1, v36), (2, v9), (3, v16), (4, v23), (5, v30)] h36) fun v37 h37 =>
  bnd (pureCall (span_of.f G k) [v31, v32, v37] h37) fun v38 h38 =>
  bnd (pu h38 (extractA v38 0)) fun v39 h39 =>
  bnd (pu h39 (extractA v38 1)) fun v40 h40 =>
  bnd (stS (storeV 2 v2 v39 h40)) fun v41 h41 =>
  finL [loadV G true 2 v2 h41, some v40] h.length h41)
noncomputable def span_Mul.f (G : Globs) : Nat → Den
  | 0 => fun _ _ => none
  | k + 1 => fun args h => arg2 args fun x0 x1 => (span_Mul.c G k (span_Mul.f G k) x0 x1 h)
theorem span_Mul.step (G : Globs) (k : Nat) (x0 x1 : AV) (h : AHeap) : span_Mul.f G (k + 1) [x0, x1] h = span_Mul.c G k (span_Mul.f G k) x0 x1 h := rfl
/-! alembic/alembiclaw16.first: function 7 -/
noncomputable def alembiclaw16_first.ann : Ann := mkAnn [] [] [] []
noncomputable def alembiclaw16_first.env (G : Globs) (k : Nat) (self : Den) : List (Nat × Bool × Den) := [(11, true, span_Mul.f G k)]
noncomputable def alembiclaw16_first.c (G : Globs) (k : Nat) (self : Den) (h : AHeap) : Option (AV × AHeap) := outV (
  bnd (pu h (buildSt [(0, 1), (1, 1)] [(.int .i64 0), (.int .i64 0)] [(0, (.int .i64 (-2))), (1, (.int .i64 3))])) fun v0 h0 =>
  bnd (pu h0 (buildSt [(0, 1), (1, 1)] [(.int .i64 0), (.int .i64 0)] [(0, (.int .i64 (-5))), (1, (.int .i64 7))])) fun v1 h1 =>
  bnd (pureCall (span_Mul.f G k) [v0, v1] h1) fun v2 h2 =>
  bnd (pu h2 (extractA v2 0)) fun v3 h3 =>
  bnd (pu h3 (extractA v2 1)) fun v4 h4 =>
  bnd (boxA 24 (.agg [(.int .i64 0), (.int .i64 0)]) h4) fun v5 h5 =>
  bnd (stS (storeV 2 v5 v3 h5)) fun v6 h6 =>
  bnd (gd v4 true h6 (pu h6 (fieldAddrV 0 v5))) fun v7 h7 =>
  bnd (gd v4 true h7 (pu h7 (loadV G false 1 v7 h7))) fun v8 h8 =>
  bnd (gd v4 true h8 (pu h8 (bin Try.prog .eql 2 true v8 (.int .i64 (-15))))) fun v9 h9 =>
  bnd (pu h9 (pickA v4 v9 (.bool false))) fun v10 h10 =>
  bnd (gd v10 true h10 (pu h10 (fieldAddrV 1 v5))) fun v11 h11 =>
  bnd (gd v10 true h11 (pu h11 (loadV G false 1 v11 h11))) fun v12 h12 =>
  bnd (gd v10 true h12 (pu h12 (bin Try.prog .eql 2 true v12 (.int .i64 21)))) fun v13 h13 =>
  bnd (pu h13 (pickA v10 v13 (.bool false))) fun v14 h14 =>
  finV [v14] h.length h14)
noncomputable def alembiclaw16_first.f (G : Globs) : Nat → Den
  | 0 => fun _ _ => none
  | k + 1 => fun args h => arg0 args (alembiclaw16_first.c G k (alembiclaw16_first.f G k) h)
theorem alembiclaw16_first.step (G : Globs) (k : Nat) (h : AHeap) : alembiclaw16_first.f G (k + 1) [] h = alembiclaw16_first.c G k (alembiclaw16_first.f G k) h := rfl
/-! alembic/alembiclaw16.SpanEdges$1: function 8 -/
noncomputable def alembiclaw16_SpanEdges_1.ann : Ann := mkAnn [] [] [] []
noncomputable def alembiclaw16_SpanEdges_1.env (G : Globs) (k : Nat) (self : Den) : List (Nat × Bool × Den) := []
noncomputable def alembiclaw16_SpanEdges_1.c (G : Globs) (k : Nat) (self : Den) (x0 : AV) (h : AHeap) : Option (AV × AHeap) := outV (
  bnd (boxA 24 (.agg [(.int .i64 0), (.int .i64 0)]) h) fun v0 h0 =>
  bnd (pu h0 (buildSt [(0, 1), (1, 1)] [(.int .i64 0), (.int .i64 0)] [(0, x0), (1, x0)])) fun v1 h1 =>
  bnd (stS (storeV 2 v0 v1 h1)) fun v2 h2 =>
  finL [loadV G true 2 v0 h2] h.length h2)
noncomputable def alembiclaw16_SpanEdges_1.f (G : Globs) : Nat → Den
  | 0 => fun _ _ => none
  | k + 1 => fun args h => arg1 args fun x0 => (alembiclaw16_SpanEdges_1.c G k (alembiclaw16_SpanEdges_1.f G k) x0 h)
theorem alembiclaw16_SpanEdges_1.step (G : Globs) (k : Nat) (x0 : AV) (h : AHeap) : alembiclaw16_SpanEdges_1.f G (k + 1) [x0] h = alembiclaw16_SpanEdges_1.c G k (alembiclaw16_SpanEdges_1.f G k) x0 h := rfl
/-! alembic/span.Sum: function 29 -/
noncomputable def span_Sum.ann : Ann := mkAnn [] [] [] []
noncomputable def span_Sum.env (G : Globs) (k : Nat) (self : Den) : List (Nat × Bool × Den) := []
noncomputable def span_Sum.c (G : Globs) (k : Nat) (self : Den) (x0 x1 : AV) (h : AHeap) : Option (AV × AHeap) := outV (
  bnd (pu h (bin Try.prog .add 2 false x0 x1)) fun v0 h0 =>
  bnd (pu h0 (bin Try.prog .gtr 2 false v0 x0)) fun v1 h1 =>
  bnd (pu h1 (bin Try.prog .gtr 2 true x1 (.int .i64 0))) fun v2 h2 =>
  bnd (pu h2 (bin Try.prog .neq 4 false v1 v2)) fun v3 h3 =>
  bnd (gd v3 true h3 (some (x1, h3))) fun v4 h4 =>
  bnd (gd v3 true h4 (pu h4 (bin Try.prog .neq 2 true v4 (.int .i64 0)))) fun v5 h5 =>
  bnd (pu h5 (pickA v3 v5 (.bool false))) fun v6 h6 =>
  condA v6
  (finV [(.int .i64 0), (.bool false)] h.length h6)
  (finV [v0, (.bool true)] h.length h6))
noncomputable def span_Sum.f (G : Globs) : Nat → Den
  | 0 => fun _ _ => none
  | k + 1 => fun args h => arg2 args fun x0 x1 => (span_Sum.c G k (span_Sum.f G k) x0 x1 h)
theorem span_Sum.step (G : Globs) (k : Nat) (x0 x1 : AV) (h : AHeap) : span_Sum.f G (k + 1) [x0, x1] h = span_Sum.c G k (span_Sum.f G k) x0 x1 h := rfl
/-! alembic/span.Add: function 9 -/
noncomputable def span_Add.ann : Ann := mkAnn [] [] [] []
noncomputable def span_Add.env (G : Globs) (k : Nat) (self : Den) : List (Nat × Bool × Den) := [(13, true, span_Is.f G k), (29, true, span_Sum.f G k), (30, true, span_of.f G k)]
noncomputable def span_Add.c (G : Globs) (k : Nat) (self : Den) (x0 x1 : AV) (h : AHeap) : Option (AV × AHeap) := outV (
  bnd (boxRoA x0 h) fun v0 h0 =>
  bnd (boxRoA x1 h0) fun v1 h1 =>
  bnd (boxA 24 (.agg [(.int .i64 0), (.int .i64 0)]) h1) fun v2 h2 =>
  bnd (pu h2 (fieldAddrV 0 v0)) fun v3 h3 =>
  bnd (pu h3 (loadV G false 1 v3 h3)) fun v4 h4 =>
  bnd (pu h4 (fieldAddrV 0 v1)) fun v5 h5 =>
  bnd (pu h5 (loadV G false 1 v5 h5)) fun v6 h6 =>
  bnd (pureCall (span_Sum.f G k) [v4, v6] h6) fun v7 h7 =>
  bnd (pu h7 (extractA v7 0)) fun v8 h8 =>
  bnd (pu h8 (extractA v7 1)) fun v9 h9 =>
  bnd (pu h9 (fieldAddrV 1 v0)) fun v10 h10 =>
  bnd (pu h10 (loadV G false 1 v10 h10)) fun v11 h11 =>
  bnd (pu h11 (fieldAddrV 1 v1)) fun v12 h12 =>
  bnd (pu h12 (loadV G false 1 v12 h12)) fun v13 h13 =>
  bnd (pureCall (span_Sum.f G k) [v11, v13] h13) fun v14 h14 =>
  bnd (pu h14 (extractA v14 0)) fun v15 h15 =>
  bnd (pu h15 (extractA v14 1)) fun v16 h16 =>
  bnd (pu h16 (loadV G true 2 v0 h16)) fun v17 h17 =>
  bnd (pureCall (span_Is.f G k) [v17] h17) fun v18 h18 =>
  bnd (pu h18 (loadV G true 2 v1 h18)) fun v19 h19 =>
  bnd (pureCall (span_Is.f G k) [v19] h19) fun v20 h20 =>
  bnd (buildRo 1 4 (.bool false) [(0, v18), (1, v20), (2, v9), (3, v16)] h20) fun v21 h21 =>
  bnd (pureCall (span_of.f G k) [v8, v15, v21] h21) fun v22 h22 =>
  bnd (pu h22 (extractA v22 0)) fun v23 h23 =>
  bnd (pu h23 (extractA v22 1)) fun v24 h24 =>
  bnd (stS (storeV 2 v2 v23 h24)) fun v25 h25 =>
  finL [loadV G true 2 v2 h25, some v24] h.length h25)
noncomputable def span_Add.f (G : Globs) : Nat → Den
  | 0 => fun _ _ => none
  | k + 1 => fun args h => arg2 args fun x0 x1 => (span_Add.c G k (span_Add.f G k) x0 x1 h)
theorem span_Add.step (G : Globs) (k : Nat) (x0 x1 : AV) (h : AHeap) : span_Add.f G (k + 1) [x0, x1] h = span_Add.c G k (span_Add.f G k) x0 x1 h := rfl
/-! alembic/span.Less: function 31 -/
noncomputable def span_Less.ann : Ann := mkAnn [] [] [] []
noncomputable def span_Less.env (G : Globs) (k : Nat) (self : Den) : List (Nat × Bool × Den) := []
noncomputable def span_Less.c (G : Globs) (k : Nat) (self : Den) (x0 x1 : AV) (h : AHeap) : Option (AV × AHeap) := outV (
  bnd (pu h (bin Try.prog .sub 2 false x0 x1)) fun v0 h0 =>
  bnd (pu h0 (bin Try.prog .lss 2 false v0 x0)) fun v1 h1 =>
  bnd (pu h1 (bin Try.prog .gtr 2 true x1 (.int .i64 0))) fun v2 h2 =>
  bnd (pu h2 (bin Try.prog .neq 4 false v1 v2)) fun v3 h3 =>
  bnd (gd v3 true h3 (some (x1, h3))) fun v4 h4 =>
  bnd (gd v3 true h4 (pu h4 (bin Try.prog .neq 2 true v4 (.int .i64 0)))) fun v5 h5 =>
  bnd (pu h5 (pickA v3 v5 (.bool false))) fun v6 h6 =>
  condA v6
  (finV [(.int .i64 0), (.bool false)] h.length h6)
  (finV [v0, (.bool true)] h.length h6))
noncomputable def span_Less.f (G : Globs) : Nat → Den
  | 0 => fun _ _ => none
  | k + 1 => fun args h => arg2 args fun x0 x1 => (span_Less.c G k (span_Less.f G k) x0 x1 h)
theorem span_Less.step (G : Globs) (k : Nat) (x0 x1 : AV) (h : AHeap) : span_Less.f G (k + 1) [x0, x1] h = span_Less.c G k (span_Less.f G k) x0 x1 h := rfl
/-! alembic/span.Sub: function 10 -/
noncomputable def span_Sub.ann : Ann := mkAnn [] [] [] []
noncomputable def span_Sub.env (G : Globs) (k : Nat) (self : Den) : List (Nat × Bool × Den) := [(13, true, span_Is.f G k), (30, true, span_of.f G k), (31, true, span_Less.f G k)]
noncomputable def span_Sub.c (G : Globs) (k : Nat) (self : Den) (x0 x1 : AV) (h : AHeap) : Option (AV × AHeap) := outV (
  bnd (boxRoA x0 h) fun v0 h0 =>
  bnd (boxRoA x1 h0) fun v1 h1 =>
  bnd (boxA 24 (.agg [(.int .i64 0), (.int .i64 0)]) h1) fun v2 h2 =>
  bnd (pu h2 (fieldAddrV 0 v0)) fun v3 h3 =>
  bnd (pu h3 (loadV G false 1 v3 h3)) fun v4 h4 =>
  bnd (pu h4 (fieldAddrV 1 v1)) fun v5 h5 =>
  bnd (pu h5 (loadV G false 1 v5 h5)) fun v6 h6 =>
  bnd (pureCall (span_Less.f G k) [v4, v6] h6) fun v7 h7 =>
  bnd (pu h7 (extractA v7 0)) fun v8 h8 =>
  bnd (pu h8 (extractA v7 1)) fun v9 h9 =>
  bnd (pu h9 (fieldAddrV 1 v0)) fun v10 h10 =>
  bnd (pu h10 (loadV G false 1 v10 h10)) fun v11 h11 =>
  bnd (pu h11 (fieldAddrV 0 v1)) fun v12 h12 =>
  bnd (pu h12 (loadV G false 1 v12 h12)) fun v13 h13 =>
  bnd (pureCall (span_Less.f G k) [v11, v13] h13) fun v14 h14 =>
  bnd (pu h14 (extractA v14 0)) fun v15 h15 =>
  bnd (pu h15 (extractA v14 1)) fun v16 h16 =>
  bnd (pu h16 (loadV G true 2 v0 h16)) fun v17 h17 =>
  bnd (pureCall (span_Is.f G k) [v17] h17) fun v18 h18 =>
  bnd (pu h18 (loadV G true 2 v1 h18)) fun v19 h19 =>
  bnd (pureCall (span_Is.f G k) [v19] h19) fun v20 h20 =>
  bnd (buildRo 1 4 (.bool false) [(0, v18), (1, v20), (2, v9), (3, v16)] h20) fun v21 h21 =>
  bnd (pureCall (span_of.f G k) [v8, v15, v21] h21) fun v22 h22 =>
  bnd (pu h22 (extractA v22 0)) fun v23 h23 =>
  bnd (pu h23 (extractA v22 1)) fun v24 h24 =>
  bnd (stS (storeV 2 v2 v23 h24)) fun v25 h25 =>
  finL [loadV G true 2 v2 h25, some v24] h.length h25)
noncomputable def span_Sub.f (G : Globs) : Nat → Den
  | 0 => fun _ _ => none
  | k + 1 => fun args h => arg2 args fun x0 x1 => (span_Sub.c G k (span_Sub.f G k) x0 x1 h)
theorem span_Sub.step (G : Globs) (k : Nat) (x0 x1 : AV) (h : AHeap) : span_Sub.f G (k + 1) [x0, x1] h = span_Sub.c G k (span_Sub.f G k) x0 x1 h := rfl
/-! alembic/span.Shl: function 12 -/
noncomputable def span_Shl.ann : Ann := mkAnn [] [] [] []
noncomputable def span_Shl.env (G : Globs) (k : Nat) (self : Den) : List (Nat × Bool × Den) := [(11, true, span_Mul.f G k)]
noncomputable def span_Shl.c (G : Globs) (k : Nat) (self : Den) (x0 x1 : AV) (h : AHeap) : Option (AV × AHeap) := outV (
  bnd (boxRoA x0 h) fun v0 h0 =>
  bnd (boxA 24 (.agg [(.int .i64 0), (.int .i64 0)]) h0) fun v1 h1 =>
  bnd (pu h1 (bin Try.prog .lss 3 true x1 (.int .i64 0))) fun v2 h2 =>
  bnd (gd v2 false h2 (some (x1, h2))) fun v3 h3 =>
  bnd (gd v2 false h3 (pu h3 (bin Try.prog .gtr 3 true v3 (.int .i64 62)))) fun v4 h4 =>
  bnd (pu h4 (pickA v2 (.bool true) v4)) fun v5 h5 =>
  condA v5
  (bnd (pu h5 (buildSt [(0, 1), (1, 1)] [(.int .i64 0), (.int .i64 0)] [])) fun v6 h6 =>
  bnd (stS (storeV 2 v1 v6 h6)) fun v7 h7 =>
  finL [loadV G true 2 v1 h7, some (.bool false)] h.length h7)
  (bnd (pu h5 (bin Try.prog .shl 2 true (.int .i64 1) x1)) fun v8 h8 =>
  bnd (pu h8 (loadV G true 2 v0 h8)) fun v9 h9 =>
  bnd (pu h9 (buildSt [(0, 1), (1, 1)] [(.int .i64 0), (.int .i64 0)] [(0, v8), (1, v8)])) fun v10 h10 =>
  bnd (pureCall (span_Mul.f G k) [v9, v10] h10) fun v11 h11 =>
  bnd (pu h11 (extractA v11 0)) fun v12 h12 =>
  bnd (pu h12 (extractA v11 1)) fun v13 h13 =>
  bnd (stS (storeV 2 v1 v12 h13)) fun v14 h14 =>
  finL [loadV G true 2 v1 h14, some v13] h.length h14))
noncomputable def span_Shl.f (G : Globs) : Nat → Den
  | 0 => fun _ _ => none
  | k + 1 => fun args h => arg2 args fun x0 x1 => (span_Shl.c G k (span_Shl.f G k) x0 x1 h)
theorem span_Shl.step (G : Globs) (k : Nat) (x0 x1 : AV) (h : AHeap) : span_Shl.f G (k + 1) [x0, x1] h = span_Shl.c G k (span_Shl.f G k) x0 x1 h := rfl
/-! alembic/alembiclaw16.SpanEdges: function 3 -/
noncomputable def alembiclaw16_SpanEdges.ann : Ann := mkAnn [] [] [] [(6, [0, 3])]
noncomputable def alembiclaw16_SpanEdges.env (G : Globs) (k : Nat) (self : Den) : List (Nat × Bool × Den) := [(7, true, alembiclaw16_first.f G k), (8, true, alembiclaw16_SpanEdges_1.f G k), (9, true, span_Add.f G k), (10, true, span_Sub.f G k), (11, true, span_Mul.f G k), (12, true, span_Shl.f G k)]
noncomputable def alembiclaw16_SpanEdges.c (G : Globs) (k : Nat) (self : Den) (x0 : AV) (h : AHeap) : Option (AV × AHeap) := outV (
  bnd (pureCall (alembiclaw16_first.f G k) [] h) fun v0 h0 =>
  bnd (pu h0 (un .not v0)) fun v1 h1 =>
  condA v1
  (finV [(.bool false)] h.length h1)
  (thenK (
  bnd (pu h1 (bin Try.prog .lss 2 true x0 (.int .i64 0))) fun v2 h2 =>
  condA v2
  (bnd (pu h2 (bin Try.prog .add 2 true x0 (.int .i64 1))) fun v3 h3 =>
  bnd (pu h3 (un .neg v3)) fun v4 h4 =>
  some (.normal, [v4, v0], h4))
  (some (.normal, [x0, v0], h2))) fun e5 x5 h5 => exK e5
  (bnd (pu h5 (bin Try.prog .sub 2 false (.int .i64 9223372036854775807) (nth x5 0))) fun v6 h6 =>
  bnd (callV (envL (alembiclaw16_SpanEdges.env G k self)) (.fn 8 []) [v6] h6) fun v7 h7 =>
  bnd (callV (envL (alembiclaw16_SpanEdges.env G k self)) (.fn 8 []) [(nth x5 0)] h7) fun v8 h8 =>
  bnd (pureCall (span_Add.f G k) [v7, v8] h8) fun v9 h9 =>
  bnd (pu h9 (extractA v9 0)) fun v10 h10 =>
  bnd (pu h10 (extractA v9 1)) fun v11 h11 =>
  bnd (boxA 24 (.agg [(.int .i64 0), (.int .i64 0)]) h11) fun v12 h12 =>
  bnd (stS (storeV 2 v12 v10 h12)) fun v13 h13 =>
  bnd (pu h13 (bin Try.prog .sub 2 false (.int .i64 9223372036854775807) (nth x5 0))) fun v14 h14 =>
  bnd (callV (envL (alembiclaw16_SpanEdges.env G k self)) (.fn 8 []) [v14] h14) fun v15 h15 =>
  bnd (pu h15 (bin Try.prog .add 2 true (nth x5 0) (.int .i64 1))) fun v16 h16 =>
  bnd (pu h16 (buildSt [(0, 1), (1, 1)] [(.int .i64 0), (.int .i64 0)] [(0, (.int .i64 0)), (1, v16)])) fun v17 h17 =>
  bnd (pureCall (span_Add.f G k) [v15, v17] h17) fun v18 h18 =>
  bnd (pu h18 (extractA v18 0)) fun v19 h19 =>
  bnd (pu h19 (extractA v18 1)) fun v20 h20 =>
  bnd (boxA 24 (.agg [(.int .i64 0), (.int .i64 0)]) h20) fun v21 h21 =>
  bnd (stS (storeV 2 v21 v19 h21)) fun v22 h22 =>
  bnd (pu h22 (bin Try.prog .add 2 false (.int .i64 (-9223372036854775808)) (nth x5 0))) fun v23 h23 =>
  bnd (callV (envL (alembiclaw16_SpanEdges.env G k self)) (.fn 8 []) [v23] h23) fun v24 h24 =>
  bnd (callV (envL (alembiclaw16_SpanEdges.env G k self)) (.fn 8 []) [(nth x5 0)] h24) fun v25 h25 =>
  bnd (pureCall (span_Sub.f G k) [v24, v25] h25) fun v26 h26 =>
  bnd (pu h26 (extractA v26 0)) fun v27 h27 =>
  bnd (pu h27 (extractA v26 1)) fun v28 h28 =>
  bnd (boxA 24 (.agg [(.int .i64 0), (.int .i64 0)]) h28) fun v29 h29 =>
  bnd (stS (storeV 2 v29 v27 h29)) fun v30 h30 =>
  bnd (pu h30 (bin Try.prog .add 2 false (.int .i64 (-9223372036854775808)) (nth x5 0))) fun v31 h31 =>
  bnd (callV (envL (alembiclaw16_SpanEdges.env G k self)) (.fn 8 []) [v31] h31) fun v32 h32 =>
  bnd (pu h32 (buildSt [(0, 1), (1, 1)] [(.int .i64 0), (.int .i64 0)] [(0, (.int .i64 0)), (1, (nth x5 0))])) fun v33 h33 =>
  bnd (pureCall (span_Sub.f G k) [v32, v33] h33) fun v34 h34 =>
  bnd (pu h34 (extractA v34 0)) fun v35 h35 =>
  bnd (pu h35 (extractA v34 1)) fun v36 h36 =>
  bnd (boxA 24 (.agg [(.int .i64 0), (.int .i64 0)]) h36) fun v37 h37 =>
  bnd (stS (storeV 2 v37 v35 h37)) fun v38 h38 =>
  bnd (callV (envL (alembiclaw16_SpanEdges.env G k self)) (.fn 8 []) [(.int .i64 (-9223372036854775808))] h38) fun v39 h39 =>
  bnd (callV (envL (alembiclaw16_SpanEdges.env G k self)) (.fn 8 []) [(.int .i64 (-1))] h39) fun v40 h40 =>
  bnd (pureCall (span_Mul.f G k) [v39, v40] h40) fun v41 h41 =>
  bnd (pu h41 (extractA v41 0)) fun v42 h42 =>
  bnd (pu h42 (extractA v41 1)) fun v43 h43 =>
  bnd (boxA 24 (.agg [(.int .i64 0), (.int .i64 0)]) h43) fun v44 h44 =>
  bnd (stS (storeV 2 v44 v42 h44)) fun v45 h45 =>
  bnd (pu h45 (bin Try.prog .quo 2 true (.int .i64 (-9223372036854775808)) (.int .i64 2))) fun v46 h46 =>
  bnd (callV (envL (alembiclaw16_SpanEdges.env G k self)) (.fn 8 []) [v46] h46) fun v47 h47 =>
  bnd (callV (envL (alembiclaw16_SpanEdges.env G k self)) (.fn 8 []) [(.int .i64 2)] h47) fun v48 h48 =>
  bnd (pureCall (span_Mul.f G k) [v47, v48] h48) fun v49 h49 =>
  bnd (pu h49 (extractA v49 0)) fun v50 h50 =>
  bnd (pu h50 (extractA v49 1)) fun v51 h51 =>
  bnd (boxA 24 (.agg [(.int .i64 0), (.int .i64 0)]) h51) fun v52 h52 =>
  bnd (stS (storeV 2 v52 v50 h52)) fun v53 h53 =>
  bnd (callV (envL (alembiclaw16_SpanEdges.env G k self)) (.fn 8 []) [(.int .i64 4611686018427387904)] h53) fun v54 h54 =>
  bnd (pureCall (span_Shl.f G k) [v54, (.int .i64 1)] h54) fun v55 h55 =>
  bnd (pu h55 (extractA v55 0)) fun v56 h56 =>
  bnd (pu h56 (extractA v55 1)) fun v57 h57 =>
  bnd (boxA 24 (.agg [(.int .i64 0), (.int .i64 0)]) h57) fun v58 h58 =>
  bnd (stS (storeV 2 v58 v56 h58)) fun v59 h59 =>
  bnd (callV (envL (alembiclaw16_SpanEdges.env G k self)) (.fn 8 []) [(.int .i64 (-4611686018427387904))] h59) fun v60 h60 =>
  bnd (pureCall (span_Shl.f G k) [v60, (.int .i64 1)] h60) fun v61 h61 =>
  bnd (pu h61 (extractA v61 0)) fun v62 h62 =>
  bnd (pu h62 (extractA v61 1)) fun v63 h63 =>
  bnd (boxA 24 (.agg [(.int .i64 0), (.int .i64 0)]) h63) fun v64 h64 =>
  bnd (stS (storeV 2 v64 v62 h64)) fun v65 h65 =>
  bnd (callV (envL (alembiclaw16_SpanEdges.env G k self)) (.fn 8 []) [(.int .i64 0)] h65) fun v66 h66 =>
  bnd (callV (envL (alembiclaw16_SpanEdges.env G k self)) (.fn 8 []) [(.int .i64 (-9223372036854775808))] h66) fun v67 h67 =>
  bnd (pureCall (span_Sub.f G k) [v66, v67] h67) fun v68 h68 =>
  bnd (pu h68 (extractA v68 0)) fun v69 h69 =>
  bnd (pu h69 (extractA v68 1)) fun v70 h70 =>
  bnd (boxA 24 (.agg [(.int .i64 0), (.int .i64 0)]) h70) fun v71 h71 =>
  bnd (stS (storeV 2 v71 v69 h71)) fun v72 h72 =>
  bnd (gd (nth x5 1) true h72 (some (v11, h72))) fun v73 h73 =>
  bnd (pu h73 (pickA (nth x5 1) v73 (.bool false))) fun v74 h74 =>
  bnd (gd v74 true h74 (pu h74 (fieldAddrV 1 v12))) fun v75 h75 =>
  bnd (gd v74 true h75 (pu h75 (loadV G false 1 v75 h75))) fun v76 h76 =>
  bnd (gd v74 true h76 (some ((.int .i64 9223372036854775807), h76))) fun v77 h77 =>
  bnd (gd v74 true h77 (pu h77 (bin Try.prog .eql 2 false v76 v77))) fun v78 h78 =>
  bnd (pu h78 (pickA v74 v78 (.bool false))) fun v79 h79 =>
  bnd (gd v79 true h79 (some ((nth x5 0), h79))) fun v80 h80 =>
  bnd (gd v79 true h80 (some ((.int .i64 9223372036854775807), h80))) fun v81 h81 =>
  bnd (gd v79 true h81 (pu h81 (bin Try.prog .eql 2 false v80 v81))) fun v82 h82 =>
  bnd (gd v79 true h82 (some (v82, h82))) fun v83 h83 =>
  bnd (gd v83 true h83 (some (v20, h83))) fun v84 h84 =>
  bnd (gd v83 true h84 (pu h84 (un .not v84))) fun v85 h85 =>
  bnd (gd v79 true h85 (pu h85 (pickA v83 v85 (.bool false)))) fun v86 h86 =>
  bnd (gd v79 true h86 (some (v86, h86))) fun v87 h87 =>
  bnd (gd v87 false h87 (some ((nth x5 0), h87))) fun v88 h88 =>
  bnd (gd v87 false h88 (some ((.int .i64 9223372036854775807), h88))) fun v89 h89 =>
  bnd (gd v87 false h89 (pu h89 (bin Try.prog .lss 2 false v88 v89))) fun v90 h90 =>
  bnd (gd v87 false h90 (some (v90, h90))) fun v91 h91 =>
  bnd (gd v91 true h91 (some (v20, h91))) fun v92 h92 =>
  bnd (gd v91 true h92 (pu h92 (un .not v92))) fun v93 h93 =>
  bnd (gd v87 false h93 (pu h93 (pickA v91 v93 (.bool false)))) fun v94 h94 =>
  bnd (gd v79 true h94 (pu h94 (pickA v87 (.bool true) v94))) fun v95 h95 =>
  bnd (pu h95 (pickA v79 v95 (.bool false))) fun v96 h96 =>
  bnd (gd v96 true h96 (some (v28, h96))) fun v97 h97 =>
  bnd (pu h97 (pickA v96 v97 (.bool false))) fun v98 h98 =>
  bnd (gd v98 true h98 (pu h98 (fieldAddrV 0 v29))) fun v99 h99 =>
  bnd (gd v98 true h99 (pu h99 (loadV G false 1 v99 h99))) fun v100 h100 =>
  bnd (gd v98 true h100 (some ((.int .i64 (-9223372036854775808)), h100))) fun v101 h101 =>
  bnd (gd v98 true h101 (pu h101 (bin Try.prog .eql 2 false v100 v101))) fun v102 h102 =>
  bnd (pu h102 (pickA v98 v102 (.bool false))) fun v103 h103 =>
  bnd (gd v103 true h103 (some (v36, h103))) fun v104 h104 =>
  bnd (pu h104 (pickA v103 v104 (.bool false))) fun v105 h105 =>
  bnd (gd v105 true h105 (some (v43, h105))) fun v106 h106 =>
  bnd (gd v105 true h106 (pu h106 (un .not v106))) fun v107 h107 =>
  bnd (pu h107 (pickA v105 v107 (.bool false))) fun v108 h108 =>
  bnd (gd v108 true h108 (some (v51, h108))) fun v109 h109 =>
  bnd (pu h109 (pickA v108 v109 (.bool false))) fun v110 h110 =>
  bnd (gd v110 true h110 (pu h110 (fieldAddrV 0 v52))) fun v111 h111 =>
  bnd (gd v110 true h111 (pu h111 (loadV G false 1 v111 h111))) fun v112 h112 =>
  bnd (gd v110 true h112 (some ((.int .i64 (-9223372036854775808)), h112))) fun v113 h113 =>
  bnd (gd v110 true h113 (pu h113 (bin Try.prog .eql 2 false v112 v113))) fun v114 h114 =>
  bnd (pu h114 (pickA v110 v114 (.bool false))) fun v115 h115 =>
  bnd (gd v115 true h115 (some (v57, h115))) fun v116 h116 =>
  bnd (gd v115 true h116 (pu h116 (un .not v116))) fun v117 h117 =>
  bnd (pu h117 (pickA v115 v117 (.bool false))) fun v118 h118 =>
  bnd (gd v118 true h118 (some (v63, h118))) fun v119 h119 =>
  bnd (pu h119 (pickA v118 v119 (.bool false))) fun v120 h120 =>
  bnd (gd v120 true h120 (pu h120 (fieldAddrV 1 v64))) fun v121 h121 =>
  bnd (gd v120 true h121 (pu h121 (loadV G false 1 v121 h121))) fun v122 h122 =>
  bnd (gd v120 true h122 (some ((.int .i64 (-9223372036854775808)), h122))) fun v123 h123 =>
  bnd (gd v120 true h123 (pu h123 (bin Try.prog .eql 2 false v122 v123))) fun v124 h124 =>
  bnd (pu h124 (pickA v120 v124 (.bool false))) fun v125 h125 =>
  bnd (gd v125 true h125 (some (v70, h125))) fun v126 h126 =>
  bnd (gd v125 true h126 (pu h126 (un .not v126))) fun v127 h127 =>
  bnd (pu h127 (pickA v125 v127 (.bool false))) fun v128 h128 =>
  finV [v128] h.length h128)
  (fun i5 => none)
  (finV [.undef] h.length h5)))
noncomputable def alembiclaw16_SpanEdges.f (G : Globs) : Nat → Den
  | 0 => fun _ _ => none
  | k + 1 => fun args h => arg1 args fun x0 => (alembiclaw16_SpanEdges.c G k (alembiclaw16_SpanEdges.f G k) x0 h)
theorem alembiclaw16_SpanEdges.step (G : Globs) (k : Nat) (x0 : AV) (h : AHeap) : alembiclaw16_SpanEdges.f G (k + 1) [x0] h = alembiclaw16_SpanEdges.c G k (alembiclaw16_SpanEdges.f G k) x0 h := rfl
/-! alembic/alembiclaw16.same: function 14 -/
noncomputable def alembiclaw16_same.ann : Ann := mkAnn [] [] [] []
noncomputable def alembiclaw16_same.env (G : Globs) (k : Nat) (self : Den) : List (Nat × Bool × Den) := []
noncomputable def alembiclaw16_same.c (G : Globs) (k : Nat) (self : Den) (x0 x1 : AV) (h : AHeap) : Option (AV × AHeap) := outV (
  bnd (boxRoA x0 h) fun v0 h0 =>
  bnd (boxRoA x1 h0) fun v1 h1 =>
  bnd (pu h1 (fieldAddrV 0 v0)) fun v2 h2 =>
  bnd (pu h2 (loadV G false 1 v2 h2)) fun v3 h3 =>
  bnd (pu h3 (fieldAddrV 0 v1)) fun v4 h4 =>
  bnd (pu h4 (loadV G false 1 v4 h4)) fun v5 h5 =>
  bnd (pu h5 (bin Try.prog .eql 2 false v3 v5)) fun v6 h6 =>
  bnd (gd v6 true h6 (pu h6 (fieldAddrV 1 v0))) fun v7 h7 =>
  bnd (gd v6 true h7 (pu h7 (loadV G false 1 v7 h7))) fun v8 h8 =>
  bnd (gd v6 true h8 (pu h8 (fieldAddrV 1 v1))) fun v9 h9 =>
  bnd (gd v6 true h9 (pu h9 (loadV G false 1 v9 h9))) fun v10 h10 =>
  bnd (gd v6 true h10 (pu h10 (bin Try.prog .eql 2 false v8 v10))) fun v11 h11 =>
  bnd (pu h11 (pickA v6 v11 (.bool false))) fun v12 h12 =>
  finV [v12] h.length h12)
noncomputable def alembiclaw16_same.f (G : Globs) : Nat → Den
  | 0 => fun _ _ => none
  | k + 1 => fun args h => arg2 args fun x0 x1 => (alembiclaw16_same.c G k (alembiclaw16_same.f G k) x0 x1 h)
theorem alembiclaw16_same.step (G : Globs) (k : Nat) (x0 x1 : AV) (h : AHeap) : alembiclaw16_same.f G (k + 1) [x0, x1] h = alembiclaw16_same.c G k (alembiclaw16_same.f G k) x0 x1 h := rfl
/-! alembic/span.Join: function 15 -/
noncomputable def span_Join.ann : Ann := mkAnn [] [] [] []
noncomputable def span_Join.env (G : Globs) (k : Nat) (self : Den) : List (Nat × Bool × Den) := [(13, true, span_Is.f G k)]
noncomputable def span_Join.c (G : Globs) (k : Nat) (self : Den) (x0 x1 : AV) (h : AHeap) : Option (AV × AHeap) := outV (
  bnd (boxRoA x0 h) fun v0 h0 =>
  bnd (boxRoA x1 h0) fun v1 h1 =>
  bnd (boxA 24 (.agg [(.int .i64 0), (.int .i64 0)]) h1) fun v2 h2 =>
  bnd (pu h2 (loadV G true 2 v0 h2)) fun v3 h3 =>
  bnd (pureCall (span_Is.f G k) [v3] h3) fun v4 h4 =>
  bnd (pu h4 (un .not v4)) fun v5 h5 =>
  bnd (gd v5 false h5 (pu h5 (loadV G true 2 v1 h5))) fun v6 h6 =>
  bnd (gd v5 false h6 (pureCall (span_Is.f G k) [v6] h6)) fun v7 h7 =>
  bnd (gd v5 false h7 (pu h7 (un .not v7))) fun v8 h8 =>
  bnd (pu h8 (pickA v5 (.bool true) v8)) fun v9 h9 =>
  condA v9
  (bnd (pu h9 (buildSt [(0, 1), (1, 1)] [(.int .i64 0), (.int .i64 0)] [])) fun v10 h10 =>
  bnd (stS (storeV 2 v2 v10 h10)) fun v11 h11 =>
  finL [loadV G true 2 v2 h11] h.length h11)
  (bnd (pu h9 (fieldAddrV 0 v0)) fun v12 h12 =>
  bnd (pu h12 (loadV G false 1 v12 h12)) fun v13 h13 =>
  bnd (pu h13 (fieldAddrV 0 v1)) fun v14 h14 =>
  bnd (pu h14 (loadV G false 1 v14 h14)) fun v15 h15 =>
  bnd (pu h15 (foldA min2A v13 [v15])) fun v16 h16 =>
  bnd (pu h16 (fieldAddrV 1 v0)) fun v17 h17 =>
  bnd (pu h17 (loadV G false 1 v17 h17)) fun v18 h18 =>
  bnd (pu h18 (fieldAddrV 1 v1)) fun v19 h19 =>
  bnd (pu h19 (loadV G false 1 v19 h19)) fun v20 h20 =>
  bnd (pu h20 (foldA max2A v18 [v20])) fun v21 h21 =>
  bnd (pu h21 (buildSt [(0, 1), (1, 1)] [(.int .i64 0), (.int .i64 0)] [(0, v16), (1, v21)])) fun v22 h22 =>
  bnd (stS (storeV 2 v2 v22 h22)) fun v23 h23 =>
  finL [loadV G true 2 v2 h23] h.length h23))
noncomputable def span_Join.f (G : Globs) : Nat → Den
  | 0 => fun _ _ => none
  | k + 1 => fun args h => arg2 args fun x0 x1 => (span_Join.c G k (span_Join.f G k) x0 x1 h)
theorem span_Join.step (G : Globs) (k : Nat) (x0 x1 : AV) (h : AHeap) : span_Join.f G (k + 1) [x0, x1] h = span_Join.c G k (span_Join.f G k) x0 x1 h := rfl
/-! alembic/span.Within: function 16 -/
noncomputable def span_Within.ann : Ann := mkAnn [] [] [] []
noncomputable def span_Within.env (G : Globs) (k : Nat) (self : Den) : List (Nat × Bool × Den) := [(13, true, span_Is.f G k)]
noncomputable def span_Within.c (G : Globs) (k : Nat) (self : Den) (x0 x1 : AV) (h : AHeap) : Option (AV × AHeap) := outV (
  bnd (boxRoA x0 h) fun v0 h0 =>
  bnd (boxRoA x1 h0) fun v1 h1 =>
  bnd (pu h1 (loadV G true 2 v0 h1)) fun v2 h2 =>
  bnd (pureCall (span_Is.f G k) [v2] h2) fun v3 h3 =>
  bnd (gd v3 true h3 (pu h3 (loadV G true 2 v1 h3))) fun v4 h4 =>
  bnd (gd v3 true h4 (pureCall (span_Is.f G k) [v4] h4)) fun v5 h5 =>
  bnd (pu h5 (pickA v3 v5 (.bool false))) fun v6 h6 =>
  bnd (gd v6 true h6 (pu h6 (fieldAddrV 0 v1))) fun v7 h7 =>
  bnd (gd v6 true h7 (pu h7 (loadV G false 1 v7 h7))) fun v8 h8 =>
  bnd (gd v6 true h8 (pu h8 (fieldAddrV 0 v0))) fun v9 h9 =>
  bnd (gd v6 true h9 (pu h9 (loadV G false 1 v9 h9))) fun v10 h10 =>
  bnd (gd v6 true h10 (pu h10 (bin Try.prog .leq 2 false v8 v10))) fun v11 h11 =>
  bnd (pu h11 (pickA v6 v11 (.bool false))) fun v12 h12 =>
  bnd (gd v12 true h12 (pu h12 (fieldAddrV 1 v0))) fun v13 h13 =>
  bnd (gd v12 true h13 (pu h13 (loadV G false 1 v13 h13))) fun v14 h14 =>
  bnd (gd v12 true h14 (pu h14 (fieldAddrV 1 v1))) fun v15 h15 =>
  bnd (gd v12 true h15 (pu h15 (loadV G false 1 v15 h15))) fun v16 h16 =>
  bnd (gd v12 true h16 (pu h16 (bin Try.prog .leq 2 false v14 v16))) fun v17 h17 =>
  bnd (pu h17 (pickA v12 v17 (.bool false))) fun v18 h18 =>
  finV [v18] h.length h18)
noncomputable def span_Within.f (G : Globs) : Nat → Den
  | 0 => fun _ _ => none
  | k + 1 => fun args h => arg2 args fun x0 x1 => (span_Within.c G k (span_Within.f G k) x0 x1 h)
theorem span_Within.step (G : Globs) (k : Nat) (x0 x1 : AV) (h : AHeap) : span_Within.f G (k + 1) [x0, x1] h = span_Within.c G k (span_Within.f G k) x0 x1 h := rfl
/-! alembic/alembiclaw16.SpanOrders: function 4 -/
noncomputable def alembiclaw16_SpanOrders.ann : Ann := mkAnn [] [] [] []
noncomputable def alembiclaw16_SpanOrders.env (G : Globs) (k : Nat) (self : Den) : List (Nat × Bool × Den) := [(7, true, alembiclaw16_first.f G k), (9, true, span_Add.f G k), (10, true, span_Sub.f G k), (11, true, span_Mul.f G k), (13, true, span_Is.f G k), (14, true, alembiclaw16_same.f G k), (15, true, span_Join.f G k), (16, true, span_Within.f G k)]
noncomputable def alembiclaw16_SpanOrders.c (G : Globs) (k : Nat) (self : Den) (x0 x1 x2 : AV) (h : AHeap) : Option (AV × AHeap) := outV (
  bnd (boxRoA x0 h) fun v0 h0 =>
  bnd (boxRoA x1 h0) fun v1 h1 =>
  bnd (boxRoA x2 h1) fun v2 h2 =>
  bnd (pureCall (alembiclaw16_first.f G k) [] h2) fun v3 h3 =>
  bnd (pu h3 (un .not v3)) fun v4 h4 =>
  condA v4
  (finV [(.bool false)] h.length h4)
  (bnd (pu h4 (loadV G true 2 v0 h4)) fun v5 h5 =>
  bnd (pureCall (span_Is.f G k) [v5] h5) fun v6 h6 =>
  bnd (pu h6 (un .not v6)) fun v7 h7 =>
  bnd (gd v7 false h7 (pu h7 (loadV G true 2 v1 h7))) fun v8 h8 =>
  bnd (gd v7 false h8 (pureCall (span_Is.f G k) [v8] h8)) fun v9 h9 =>
  bnd (gd v7 false h9 (pu h9 (un .not v9))) fun v10 h10 =>
  bnd (pu h10 (pickA v7 (.bool true) v10)) fun v11 h11 =>
  bnd (gd v11 false h11 (pu h11 (loadV G true 2 v2 h11))) fun v12 h12 =>
  bnd (gd v11 false h12 (pureCall (span_Is.f G k) [v12] h12)) fun v13 h13 =>
  bnd (gd v11 false h13 (pu h13 (un .not v13))) fun v14 h14 =>
  bnd (pu h14 (pickA v11 (.bool true) v14)) fun v15 h15 =>
  condA v15
  (bnd (gd v3 true h15 (pu h15 (buildSt [(0, 1), (1, 1)] [(.int .i64 0), (.int .i64 0)] [(0, (.int .i64 1))]))) fun v16 h16 =>
  bnd (gd v3 true h16 (pu h16 (loadV G true 2 v1 h16))) fun v17 h17 =>
  bnd (gd v3 true h17 (pureCall (span_Join.f G k) [v16, v17] h17)) fun v18 h18 =>
  bnd (gd v3 true h18 (pu h18 (buildSt [(0, 1), (1, 1)] [(.int .i64 0), (.int .i64 0)] []))) fun v19 h19 =>
  bnd (gd v3 true h19 (pureCall (alembiclaw16_same.f G k) [v18, v19] h19)) fun v20 h20 =>
  bnd (pu h20 (pickA v3 v20 (.bool false))) fun v21 h21 =>
  finV [v21] h.length h21)
  (bnd (pu h15 (loadV G true 2 v0 h15)) fun v22 h22 =>
  bnd (pu h22 (loadV G true 2 v1 h22)) fun v23 h23 =>
  bnd (pureCall (span_Join.f G k) [v22, v23] h23) fun v24 h24 =>
  bnd (boxA 24 (.agg [(.int .i64 0), (.int .i64 0)]) h24) fun v25 h25 =>
  bnd (stS (storeV 2 v25 v24 h25)) fun v26 h26 =>
  bnd (pu h26 (loadV G true 2 v1 h26)) fun v27 h27 =>
  bnd (pu h27 (loadV G true 2 v0 h27)) fun v28 h28 =>
  bnd (pureCall (span_Join.f G k) [v27, v28] h28) fun v29 h29 =>
  bnd (boxA 24 (.agg [(.int .i64 0), (.int .i64 0)]) h29) fun v30 h30 =>
  bnd (stS (storeV 2 v30 v29 h30)) fun v31 h31 =>
  bnd (pu h31 (loadV G true 2 v25 h31)) fun v32 h32 =>
  bnd (pu h32 (loadV G true 2 v2 h32)) fun v33 h33 =>
  bnd (pureCall (span_Join.f G k) [v32, v33] h33) fun v34 h34 =>
  bnd (boxA 24 (.agg [(.int .i64 0), (.int .i64 0)]) h34) fun v35 h35 =>
  bnd (stS (storeV 2 v35 v34 h35)) fun v36 h36 =>
  bnd (pu h36 (loadV G true 2 v0 h36)) fun v37 h37 =>
  bnd (pu h37 (loadV G true 2 v1 h37)) fun v38 h38 =>
  bnd (pu h38 (loadV G true 2 v2 h38)) fun v39 h39 =>
  bnd (pureCall (span_Join.f G k) [v38, v39] h39) fun v40 h40 =>
  bnd (pureCall (span_Join.f G k) [v37, v40] h40) fun v41 h41 =>
  bnd (boxA 24 (.agg [(.int .i64 0), (.int .i64 0)]) h41) fun v42 h42 =>
  bnd (stS (storeV 2 v42 v41 h42)) fun v43 h43 =>
  bnd (pu h43 (loadV G true 2 v25 h43)) fun v44 h44 =>
  bnd (pu h44 (loadV G true 2 v30 h44)) fun v45 h45 =>
  bnd (pureCall (alembiclaw16_same.f G k) [v44, v45] h45) fun v46 h46 =>
  bnd (pu h46 (un .not v46)) fun v47 h47 =>
  bnd (gd v47 false h47 (pu h47 (loadV G true 2 v35 h47))) fun v48 h48 =>
  bnd (gd v47 false h48 (pu h48 (loadV G true 2 v42 h48))) fun v49 h49 =>
  bnd (gd v47 false h49 (pureCall (alembiclaw16_same.f G k) [v48, v49] h49)) fun v50 h50 =>
  bnd (gd v47 false h50 (pu h50 (un .not v50))) fun v51 h51 =>
  bnd (pu h51 (pickA v47 (.bool true) v51)) fun v52 h52 =>
  bnd (gd v52 false h52 (pu h52 (loadV G true 2 v0 h52))) fun v53 h53 =>
  bnd (gd v52 false h53 (pu h53 (loadV G true 2 v25 h53))) fun v54 h54 =>
  bnd (gd v52 false h54 (pureCall (span_Within.f G k) [v53, v54] h54)) fun v55 h55 =>
  bnd (gd v52 false h55 (pu h55 (un .not v55))) fun v56 h56 =>
  bnd (pu h56 (pickA v52 (.bool true) v56)) fun v57 h57 =>
  bnd (gd v57 false h57 (pu h57 (loadV G true 2 v25 h57))) fun v58 h58 =>
  bnd (gd v57 false h58 (pu h58 (loadV G true 2 v35 h58))) fun v59 h59 =>
  bnd (gd v57 false h59 (pureCall (span_Within.f G k) [v58, v59] h59)) fun v60 h60 =>
  bnd (gd v57 false h60 (pu h60 (un .not v60))) fun v61 h61 =>
  bnd (pu h61 (pickA v57 (.bool true) v61)) fun v62 h62 =>
  bnd (gd v62 false h62 (pu h62 (loadV G true 2 v0 h62))) fun v63 h63 =>
  bnd (gd v62 false h63 (pu h63 (loadV G true 2 v0 h63))) fun v64 h64 =>
  bnd (gd v62 false h64 (pureCall (span_Within.f G k) [v63, v64] h64)) fun v65 h65 =>
  bnd (gd v62 false h65 (pu h65 (un .not v65))) fun v66 h66 =>
  bnd (pu h66 (pickA v62 (.bool true) v66)) fun v67 h67 =>
  bnd (gd v67 false h67 (pu h67 (loadV G true 2 v0 h67))) fun v68 h68 =>
  bnd (gd v67 false h68 (pu h68 (loadV G true 2 v1 h68))) fun v69 h69 =>
  bnd (gd v67 false h69 (pureCall (span_Within.f G k) [v68, v69] h69)) fun v70 h70 =>
  bnd (gd v67 false h70 (some (v70, h70))) fun v71 h71 =>
  bnd (gd v71 true h71 (pu h71 (loadV G true 2 v1 h71))) fun v72 h72 =>
  bnd (gd v71 true h72 (pu h72 (loadV G true 2 v0 h72))) fun v73 h73 =>
  bnd (gd v71 true h73 (pureCall (span_Within.f G k) [v72, v73] h73)) fun v74 h74 =>
  bnd (gd v71 true h74 (pu h74 (loadV G true 2 v0 h74))) fun v75 h75 =>
  bnd (gd v71 true h75 (pu h75 (loadV G true 2 v1 h75))) fun v76 h76 =>
  bnd (gd v71 true h76 (pureCall (alembiclaw16_same.f G k) [v75, v76] h76)) fun v77 h77 =>
  bnd (gd v71 true h77 (pu h77 (bin Try.prog .neq 4 false v74 v77))) fun v78 h78 =>
  bnd (gd v67 false h78 (pu h78 (pickA v71 v78 (.bool false)))) fun v79 h79 =>
  bnd (pu h79 (pickA v67 (.bool true) v79)) fun v80 h80 =>
  bnd (gd v80 false h80 (pu h80 (loadV G true 2 v0 h80))) fun v81 h81 =>
  bnd (gd v80 false h81 (pu h81 (loadV G true 2 v0 h81))) fun v82 h82 =>
  bnd (gd v80 false h82 (pureCall (span_Join.f G k) [v81, v82] h82)) fun v83 h83 =>
  bnd (gd v80 false h83 (pu h83 (loadV G true 2 v0 h83))) fun v84 h84 =>
  bnd (gd v80 false h84 (pureCall (alembiclaw16_same.f G k) [v83, v84] h84)) fun v85 h85 =>
  bnd (gd v80 false h85 (pu h85 (un .not v85))) fun v86 h86 =>
  bnd (pu h86 (pickA v80 (.bool true) v86)) fun v87 h87 =>
  condA v87
  (finV [(.bool false)] h.length h87)
  (bnd (pu h87 (loadV G true 2 v0 h87)) fun v88 h88 =>
  bnd (pu h88 (loadV G true 2 v1 h88)) fun v89 h89 =>
  bnd (pureCall (span_Add.f G k) [v88, v89] h89) fun v90 h90 =>
  bnd (pu h90 (extractA v90 0)) fun v91 h91 =>
  bnd (pu h91 (extractA v90 1)) fun v92 h92 =>
  bnd (boxA 24 (.agg [(.int .i64 0), (.int .i64 0)]) h92) fun v93 h93 =>
  bnd (stS (storeV 2 v93 v91 h93)) fun v94 h94 =>
  bnd (pu h94 (un .not v92)) fun v95 h95 =>
  condA v95
  (finV [v3] h.length h95)
  (bnd (pu h95 (loadV G true 2 v93 h95)) fun v96 h96 =>
  bnd (pu h96 (loadV G true 2 v1 h96)) fun v97 h97 =>
  bnd (pureCall (span_Sub.f G k) [v96, v97] h97) fun v98 h98 =>
  bnd (pu h98 (extractA v98 0)) fun v99 h99 =>
  bnd (pu h99 (extractA v98 1)) fun v100 h100 =>
  bnd (boxA 24 (.agg [(.int .i64 0), (.int .i64 0)]) h100) fun v101 h101 =>
  bnd (stS (storeV 2 v101 v99 h101)) fun v102 h102 =>
  bnd (pu h102 (loadV G true 2 v0 h102)) fun v103 h103 =>
  bnd (pu h103 (loadV G true 2 v1 h103)) fun v104 h104 =>
  bnd (pureCall (span_Mul.f G k) [v103, v104] h104) fun v105 h105 =>
  bnd (pu h105 (extractA v105 0)) fun v106 h106 =>
  bnd (pu h106 (extractA v105 1)) fun v107 h107 =>
  bnd (boxA 24 (.agg [(.int .i64 0), (.int .i64 0)]) h107) fun v108 h108 =>
  bnd (stS (storeV 2 v108 v106 h108)) fun v109 h109 =>
  bnd (pu h109 (loadV G true 2 v1 h109)) fun v110 h110 =>
  bnd (pu h110 (loadV G true 2 v0 h110)) fun v111 h111 =>
  bnd (pureCall (span_Mul.f G k) [v110, v111] h111) fun v112 h112 =>
  bnd (pu h112 (extractA v112 0)) fun v113 h113 =>
  bnd (pu h113 (extractA v112 1)) fun v114 h114 =>
  bnd (boxA 24 (.agg [(.int .i64 0), (.int .i64 0)]) h114) fun v115 h115 =>
  bnd (stS (storeV 2 v115 v113 h115)) fun v116 h116 =>
  bnd (gd v3 true h116 (some (v100, h116))) fun v117 h117 =>
  bnd (gd v3 true h117 (pu h117 (un .not v117))) fun v118 h118 =>
  bnd (gd v3 true h118 (some (v118, h118))) fun v119 h119 =>
  bnd (gd v119 false h119 (pu h119 (loadV G true 2 v0 h119))) fun v120 h120 =>
  bnd (gd v119 false h120 (pu h120 (loadV G true 2 v101 h120))) fun v121 h121 =>
  bnd (gd v119 false h121 (pureCall (span_Within.f G k) [v120, v121] h121)) fun v122 h122 =>
  bnd (gd v3 true h122 (pu h122 (pickA v119 (.bool true) v122))) fun v123 h123 =>
  bnd (pu h123 (pickA v3 v123 (.bool false))) fun v124 h124 =>
  bnd (gd v124 true h124 (some (v107, h124))) fun v125 h125 =>
  bnd (gd v124 true h125 (some (v114, h125))) fun v126 h126 =>
  bnd (gd v124 true h126 (pu h126 (bin Try.prog .eql 4 false v125 v126))) fun v127 h127 =>
  bnd (pu h127 (pickA v124 v127 (.bool false))) fun v128 h128 =>
  bnd (gd v128 true h128 (pu h128 (loadV G true 2 v108 h128))) fun v129 h129 =>
  bnd (gd v128 true h129 (pu h129 (loadV G true 2 v115 h129))) fun v130 h130 =>
  bnd (gd v128 true h130 (pureCall (alembiclaw16_same.f G k) [v129, v130] h130)) fun v131 h131 =>
  bnd (pu h131 (pickA v128 v131 (.bool false))) fun v132 h132 =>
  finV [v132] h.length h132)))))
noncomputable def alembiclaw16_SpanOrders.f (G : Globs) : Nat → Den
  | 0 => fun _ _ => none
  | k + 1 => fun args h => arg3 args fun x0 x1 x2 => (alembiclaw16_SpanOrders.c G k (alembiclaw16_SpanOrders.f G k) x0 x1 x2 h)
theorem alembiclaw16_SpanOrders.step (G : Globs) (k : Nat) (x0 x1 x2 : AV) (h : AHeap) : alembiclaw16_SpanOrders.f G (k + 1) [x0, x1, x2] h = alembiclaw16_SpanOrders.c G k (alembiclaw16_SpanOrders.f G k) x0 x1 x2 h := rfl
/-! alembic/alembicworld.Number: function 17 -/
noncomputable def alembicworld_Number.ann : Ann := mkAnn [] [] [] []
noncomputable def alembicworld_Number.env (G : Globs) (k : Nat) (self : Den) : List (Nat × Bool × Den) := []
noncomputable def alembicworld_Number.c (G : Globs) (k : Nat) (self : Den) (x0 x1 : AV) (h : AHeap) : Option (AV × AHeap) := outV (
  bnd (pu h (bin Try.prog .rem 3 false x0 x1)) fun v0 h0 =>
  bnd (pu h0 (bin Try.prog .lss 3 true v0 (.int .i64 0))) fun v1 h1 =>
  condA v1
  (bnd (pu h1 (bin Try.prog .add 3 false v0 x1)) fun v2 h2 =>
  finV [v2] h.length h2)
  (finV [v0] h.length h1))
noncomputable def alembicworld_Number.f (G : Globs) : Nat → Den
  | 0 => fun _ _ => none
  | k + 1 => fun args h => arg2 args fun x0 x1 => (alembicworld_Number.c G k (alembicworld_Number.f G k) x0 x1 h)
theorem alembicworld_Number.step (G : Globs) (k : Nat) (x0 x1 : AV) (h : AHeap) : alembicworld_Number.f G (k + 1) [x0, x1] h = alembicworld_Number.c G k (alembicworld_Number.f G k) x0 x1 h := rfl
/-! alembic/span.Has: function 18 -/
noncomputable def span_Has.ann : Ann := mkAnn [] [] [] []
noncomputable def span_Has.env (G : Globs) (k : Nat) (self : Den) : List (Nat × Bool × Den) := []
noncomputable def span_Has.c (G : Globs) (k : Nat) (self : Den) (x0 x1 : AV) (h : AHeap) : Option (AV × AHeap) := outV (
  bnd (boxRoA x0 h) fun v0 h0 =>
  bnd (pu h0 (fieldAddrV 0 v0)) fun v1 h1 =>
  bnd (pu h1 (loadV G false 1 v1 h1)) fun v2 h2 =>
  bnd (pu h2 (bin Try.prog .leq 2 false v2 x1)) fun v3 h3 =>
  bnd (gd v3 true h3 (some (x1, h3))) fun v4 h4 =>
  bnd (gd v3 true h4 (pu h4 (fieldAddrV 1 v0))) fun v5 h5 =>
  bnd (gd v3 true h5 (pu h5 (loadV G false 1 v5 h5))) fun v6 h6 =>
  bnd (gd v3 true h6 (pu h6 (bin Try.prog .leq 2 false v4 v6))) fun v7 h7 =>
  bnd (pu h7 (pickA v3 v7 (.bool false))) fun v8 h8 =>
  finV [v8] h.length h8)
noncomputable def span_Has.f (G : Globs) : Nat → Den
  | 0 => fun _ _ => none
  | k + 1 => fun args h => arg2 args fun x0 x1 => (span_Has.c G k (span_Has.f G k) x0 x1 h)
theorem span_Has.step (G : Globs) (k : Nat) (x0 x1 : AV) (h : AHeap) : span_Has.f G (k + 1) [x0, x1] h = span_Has.c G k (span_Has.f G k) x0 x1 h := rfl
/-! alembic/span.Sar: function 19 -/
noncomputable def span_Sar.ann : Ann := mkAnn [] [] [] []
noncomputable def span_Sar.env (G : Globs) (k : Nat) (self : Den) : List (Nat × Bool × Den) := [(13, true, span_Is.f G k)]
noncomputable def span_Sar.c (G : Globs) (k : Nat) (self : Den) (x0 x1 : AV) (h : AHeap) : Option (AV × AHeap) := outV (
  bnd (boxRoA x0 h) fun v0 h0 =>
  bnd (boxA 24 (.agg [(.int .i64 0), (.int .i64 0)]) h0) fun v1 h1 =>
  bnd (pu h1 (loadV G true 2 v0 h1)) fun v2 h2 =>
  bnd (pureCall (span_Is.f G k) [v2] h2) fun v3 h3 =>
  bnd (pu h3 (un .not v3)) fun v4 h4 =>
  bnd (gd v4 false h4 (some (x1, h4))) fun v5 h5 =>
  bnd (gd v4 false h5 (pu h5 (bin Try.prog .lss 3 true v5 (.int .i64 0)))) fun v6 h6 =>
  bnd (pu h6 (pickA v4 (.bool true) v6)) fun v7 h7 =>
  bnd (gd v7 false h7 (some (x1, h7))) fun v8 h8 =>
  bnd (gd v7 false h8 (pu h8 (bin Try.prog .gtr 3 true v8 (.int .i64 63)))) fun v9 h9 =>
  bnd (pu h9 (pickA v7 (.bool true) v9)) fun v10 h10 =>
  condA v10
  (bnd (pu h10 (buildSt [(0, 1), (1, 1)] [(.int .i64 0), (.int .i64 0)] [])) fun v11 h11 =>
  bnd (stS (storeV 2 v1 v11 h11)) fun v12 h12 =>
  finL [loadV G true 2 v1 h12] h.length h12)
  (bnd (pu h10 (fieldAddrV 0 v0)) fun v13 h13 =>
  bnd (pu h13 (loadV G false 1 v13 h13)) fun v14 h14 =>
  bnd (pu h14 (bin Try.prog .shr 2 false v14 x1)) fun v15 h15 =>
  bnd (pu h15 (fieldAddrV 1 v0)) fun v16 h16 =>
  bnd (pu h16 (loadV G false 1 v16 h16)) fun v17 h17 =>
  bnd (pu h17 (bin Try.prog .shr 2 false v17 x1)) fun v18 h18 =>
  bnd (pu h18 (buildSt [(0, 1), (1, 1)] [(.int .i64 0), (.int .i64 0)] [(0, v15), (1, v18)])) fun v19 h19 =>
  bnd (stS (storeV 2 v1 v19 h19)) fun v20 h20 =>
  finL [loadV G true 2 v1 h20] h.length h20))
noncomputable def span_Sar.f (G : Globs) : Nat → Den
  | 0 => fun _ _ => none
  | k + 1 => fun args h => arg2 args fun x0 x1 => (span_Sar.c G k (span_Sar.f G k) x0 x1 h)
theorem span_Sar.step (G : Globs) (k : Nat) (x0 x1 : AV) (h : AHeap) : span_Sar.f G (k + 1) [x0, x1] h = span_Sar.c G k (span_Sar.f G k) x0 x1 h := rfl
/-! alembic/span.All: function 33 -/
noncomputable def span_All.ann : Ann := mkAnn [] [] [] []
noncomputable def span_All.env (G : Globs) (k : Nat) (self : Den) : List (Nat × Bool × Den) := []
noncomputable def span_All.c (G : Globs) (k : Nat) (self : Den) (h : AHeap) : Option (AV × AHeap) := outV (
  bnd (boxA 24 (.agg [(.int .i64 0), (.int .i64 0)]) h) fun v0 h0 =>
  bnd (pu h0 (buildSt [(0, 1), (1, 1)] [(.int .i64 0), (.int .i64 0)] [(0, (.int .i64 (-9223372036854775808))), (1, (.int .i64 9223372036854775807))])) fun v1 h1 =>
  bnd (stS (storeV 2 v0 v1 h1)) fun v2 h2 =>
  finL [loadV G true 2 v0 h2] h.length h2)
noncomputable def span_All.f (G : Globs) : Nat → Den
  | 0 => fun _ _ => none
  | k + 1 => fun args h => arg0 args (span_All.c G k (span_All.f G k) h)
theorem span_All.step (G : Globs) (k : Nat) (h : AHeap) : span_All.f G (k + 1) [] h = span_All.c G k (span_All.f G k) h := rfl
/-! alembic/span.And: function 20 -/
noncomputable def span_And.ann : Ann := mkAnn [] [] [] []
noncomputable def span_And.env (G : Globs) (k : Nat) (self : Den) : List (Nat × Bool × Den) := [(13, true, span_Is.f G k), (33, true, span_All.f G k)]
noncomputable def span_And.c (G : Globs) (k : Nat) (self : Den) (x0 x1 : AV) (h : AHeap) : Option (AV × AHeap) := outV (
  bnd (boxRoA x0 h) fun v0 h0 =>
  bnd (boxRoA x1 h0) fun v1 h1 =>
  bnd (boxA 24 (.agg [(.int .i64 0), (.int .i64 0)]) h1) fun v2 h2 =>
  bnd (pu h2 (loadV G true 2 v0 h2)) fun v3 h3 =>
  bnd (pureCall (span_Is.f G k) [v3] h3) fun v4 h4 =>
  bnd (pu h4 (un .not v4)) fun v5 h5 =>
  bnd (gd v5 false h5 (pu h5 (loadV G true 2 v1 h5))) fun v6 h6 =>
  bnd (gd v5 false h6 (pureCall (span_Is.f G k) [v6] h6)) fun v7 h7 =>
  bnd (gd v5 false h7 (pu h7 (un .not v7))) fun v8 h8 =>
  bnd (pu h8 (pickA v5 (.bool true) v8)) fun v9 h9 =>
  condA v9
  (bnd (pu h9 (buildSt [(0, 1), (1, 1)] [(.int .i64 0), (.int .i64 0)] [])) fun v10 h10 =>
  bnd (stS (storeV 2 v2 v10 h10)) fun v11 h11 =>
  finL [loadV G true 2 v2 h11] h.length h11)
  (bnd (pu h9 (fieldAddrV 0 v0)) fun v12 h12 =>
  bnd (pu h12 (loadV G false 1 v12 h12)) fun v13 h13 =>
  bnd (pu h13 (bin Try.prog .geq 2 true v13 (.int .i64 0))) fun v14 h14 =>
  bnd (gd v14 true h14 (pu h14 (fieldAddrV 0 v1))) fun v15 h15 =>
  bnd (gd v14 true h15 (pu h15 (loadV G false 1 v15 h15))) fun v16 h16 =>
  bnd (gd v14 true h16 (pu h16 (bin Try.prog .geq 2 true v16 (.int .i64 0)))) fun v17 h17 =>
  bnd (pu h17 (pickA v14 v17 (.bool false))) fun v18 h18 =>
  condA v18
  (bnd (pu h18 (fieldAddrV 1 v0)) fun v19 h19 =>
  bnd (pu h19 (loadV G false 1 v19 h19)) fun v20 h20 =>
  bnd (pu h20 (fieldAddrV 1 v1)) fun v21 h21 =>
  bnd (pu h21 (loadV G false 1 v21 h21)) fun v22 h22 =>
  bnd (pu h22 (foldA min2A v20 [v22])) fun v23 h23 =>
  bnd (pu h23 (buildSt [(0, 1), (1, 1)] [(.int .i64 0), (.int .i64 0)] [(1, v23)])) fun v24 h24 =>
  bnd (stS (storeV 2 v2 v24 h24)) fun v25 h25 =>
  finL [loadV G true 2 v2 h25] h.length h25)
  (bnd (pu h18 (fieldAddrV 0 v0)) fun v26 h26 =>
  bnd (pu h26 (loadV G false 1 v26 h26)) fun v27 h27 =>
  bnd (pu h27 (bin Try.prog .geq 2 true v27 (.int .i64 0))) fun v28 h28 =>
  condA v28
  (bnd (pu h28 (fieldAddrV 1 v0)) fun v29 h29 =>
  bnd (pu h29 (loadV G false 1 v29 h29)) fun v30 h30 =>
  bnd (pu h30 (buildSt [(0, 1), (1, 1)] [(.int .i64 0), (.int .i64 0)] [(1, v30)])) fun v31 h31 =>
  bnd (stS (storeV 2 v2 v31 h31)) fun v32 h32 =>
  finL [loadV G true 2 v2 h32] h.length h32)
  (bnd (pu h28 (fieldAddrV 0 v1)) fun v33 h33 =>
  bnd (pu h33 (loadV G false 1 v33 h33)) fun v34 h34 =>
  bnd (pu h34 (bin Try.prog .geq 2 true v34 (.int .i64 0))) fun v35 h35 =>
  condA v35
  (bnd (pu h35 (fieldAddrV 1 v1)) fun v36 h36 =>
  bnd (pu h36 (loadV G false 1 v36 h36)) fun v37 h37 =>
  bnd (pu h37 (buildSt [(0, 1), (1, 1)] [(.int .i64 0), (.int .i64 0)] [(1, v37)])) fun v38 h38 =>
  bnd (stS (storeV 2 v2 v38 h38)) fun v39 h39 =>
  finL [loadV G true 2 v2 h39] h.length h39)
  (bnd (pureCall (span_All.f G k) [] h35) fun v40 h40 =>
  bnd (stS (storeV 2 v2 v40 h40)) fun v41 h41 =>
  finL [loadV G true 2 v2 h41] h.length h41)))))
noncomputable def span_And.f (G : Globs) : Nat → Den
  | 0 => fun _ _ => none
  | k + 1 => fun args h => arg2 args fun x0 x1 => (span_And.c G k (span_And.f G k) x0 x1 h)
theorem span_And.step (G : Globs) (k : Nat) (x0 x1 : AV) (h : AHeap) : span_And.f G (k + 1) [x0, x1] h = span_And.c G k (span_And.f G k) x0 x1 h := rfl
/-! alembic/alembiclaw16.SpanHolds: function 5 -/
noncomputable def alembiclaw16_SpanHolds.ann : Ann := mkAnn [] [] [] []
noncomputable def alembiclaw16_SpanHolds.env (G : Globs) (k : Nat) (self : Den) : List (Nat × Bool × Den) := [(7, true, alembiclaw16_first.f G k), (9, true, span_Add.f G k), (10, true, span_Sub.f G k), (11, true, span_Mul.f G k), (12, true, span_Shl.f G k), (15, true, span_Join.f G k), (16, true, span_Within.f G k), (17, true, alembicworld_Number.f G k), (18, true, span_Has.f G k), (19, true, span_Sar.f G k), (20, true, span_And.f G k)]
noncomputable def alembiclaw16_SpanHolds.c (G : Globs) (k : Nat) (self : Den) (x0 x1 x2 x3 x4 x5 x6 : AV) (h : AHeap) : Option (AV × AHeap) := outV (
  bnd (pureCall (alembiclaw16_first.f G k) [] h) fun v0 h0 =>
  bnd (pu h0 (un .not v0)) fun v1 h1 =>
  condA v1
  (finV [(.bool false)] h.length h1)
  (bnd (pu h1 (foldA min2A x0 [x1])) fun v2 h2 =>
  bnd (pu h2 (foldA max2A x0 [x1])) fun v3 h3 =>
  bnd (pu h3 (buildSt [(0, 1), (1, 1)] [(.int .i64 0), (.int .i64 0)] [(0, v2), (1, v3)])) fun v4 h4 =>
  bnd (boxA 24 (.agg [(.int .i64 0), (.int .i64 0)]) h4) fun v5 h5 =>
  bnd (stS (storeV 2 v5 v4 h5)) fun v6 h6 =>
  bnd (pu h6 (foldA min2A x2 [x3])) fun v7 h7 =>
  bnd (pu h7 (foldA max2A x2 [x3])) fun v8 h8 =>
  bnd (pu h8 (buildSt [(0, 1), (1, 1)] [(.int .i64 0), (.int .i64 0)] [(0, v7), (1, v8)])) fun v9 h9 =>
  bnd (boxA 24 (.agg [(.int .i64 0), (.int .i64 0)]) h9) fun v10 h10 =>
  bnd (stS (storeV 2 v10 v9 h10)) fun v11 h11 =>
  bnd (pu h11 (fieldAddrV 0 v5)) fun v12 h12 =>
  bnd (pu h12 (loadV G false 1 v12 h12)) fun v13 h13 =>
  bnd (pu h13 (bin Try.prog .lss 2 true v13 (.int .i64 (-1073741824)))) fun v14 h14 =>
  bnd (gd v14 false h14 (pu h14 (fieldAddrV 1 v5))) fun v15 h15 =>
  bnd (gd v14 false h15 (pu h15 (loadV G false 1 v15 h15))) fun v16 h16 =>
  bnd (gd v14 false h16 (pu h16 (bin Try.prog .gtr 2 true v16 (.int .i64 1073741824)))) fun v17 h17 =>
  bnd (pu h17 (pickA v14 (.bool true) v17)) fun v18 h18 =>
  bnd (gd v18 false h18 (pu h18 (fieldAddrV 0 v10))) fun v19 h19 =>
  bnd (gd v18 false h19 (pu h19 (loadV G false 1 v19 h19))) fun v20 h20 =>
  bnd (gd v18 false h20 (pu h20 (bin Try.prog .lss 2 true v20 (.int .i64 (-1073741824))))) fun v21 h21 =>
  bnd (pu h21 (pickA v18 (.bool true) v21)) fun v22 h22 =>
  bnd (gd v22 false h22 (pu h22 (fieldAddrV 1 v10))) fun v23 h23 =>
  bnd (gd v22 false h23 (pu h23 (loadV G false 1 v23 h23))) fun v24 h24 =>
  bnd (gd v22 false h24 (pu h24 (bin Try.prog .gtr 2 true v24 (.int .i64 1073741824)))) fun v25 h25 =>
  bnd (pu h25 (pickA v22 (.bool true) v25)) fun v26 h26 =>
  condA v26
  (finV [v0] h.length h26)
  (bnd (pu h26 (fieldAddrV 0 v5)) fun v27 h27 =>
  bnd (pu h27 (loadV G false 1 v27 h27)) fun v28 h28 =>
  bnd (pu h28 (fieldAddrV 1 v5)) fun v29 h29 =>
  bnd (pu h29 (loadV G false 1 v29 h29)) fun v30 h30 =>
  bnd (pu h30 (fieldAddrV 0 v5)) fun v31 h31 =>
  bnd (pu h31 (loadV G false 1 v31 h31)) fun v32 h32 =>
  bnd (pu h32 (bin Try.prog .sub 2 false v30 v32)) fun v33 h33 =>
  bnd (pu h33 (bin Try.prog .add 3 true v33 (.int .i64 1))) fun v34 h34 =>
  bnd (pureCall (alembicworld_Number.f G k) [x4, v34] h34) fun v35 h35 =>
  bnd (pu h35 (bin Try.prog .add 2 false v28 v35)) fun v36 h36 =>
  bnd (pu h36 (fieldAddrV 0 v10)) fun v37 h37 =>
  bnd (pu h37 (loadV G false 1 v37 h37)) fun v38 h38 =>
  bnd (pu h38 (fieldAddrV 1 v10)) fun v39 h39 =>
  bnd (pu h39 (loadV G false 1 v39 h39)) fun v40 h40 =>
  bnd (pu h40 (fieldAddrV 0 v10)) fun v41 h41 =>
  bnd (pu h41 (loadV G false 1 v41 h41)) fun v42 h42 =>
  bnd (pu h42 (bin Try.prog .sub 2 false v40 v42)) fun v43 h43 =>
  bnd (pu h43 (bin Try.prog .add 3 true v43 (.int .i64 1))) fun v44 h44 =>
  bnd (pureCall (alembicworld_Number.f G k) [x5, v44] h44) fun v45 h45 =>
  bnd (pu h45 (bin Try.prog .add 2 false v38 v45)) fun v46 h46 =>
  bnd (pureCall (alembicworld_Number.f G k) [x6, (.int .i64 30)] h46) fun v47 h47 =>
  bnd (pu h47 (loadV G true 2 v5 h47)) fun v48 h48 =>
  bnd (pu h48 (loadV G true 2 v10 h48)) fun v49 h49 =>
  bnd (pureCall (span_Add.f G k) [v48, v49] h49) fun v50 h50 =>
  bnd (pu h50 (extractA v50 0)) fun v51 h51 =>
  bnd (pu h51 (extractA v50 1)) fun v52 h52 =>
  bnd (boxA 24 (.agg [(.int .i64 0), (.int .i64 0)]) h52) fun v53 h53 =>
  bnd (stS (storeV 2 v53 v51 h53)) fun v54 h54 =>
  bnd (pu h54 (loadV G true 2 v5 h54)) fun v55 h55 =>
  bnd (pu h55 (loadV G true 2 v10 h55)) fun v56 h56 =>
  bnd (pureCall (span_Sub.f G k) [v55, v56] h56) fun v57 h57 =>
  bnd (pu h57 (extractA v57 0)) fun v58 h58 =>
  bnd (pu h58 (extractA v57 1)) fun v59 h59 =>
  bnd (boxA 24 (.agg [(.int .i64 0), (.int .i64 0)]) h59) fun v60 h60 =>
  bnd (stS (storeV 2 v60 v58 h60)) fun v61 h61 =>
  bnd (pu h61 (loadV G true 2 v5 h61)) fun v62 h62 =>
  bnd (pu h62 (loadV G true 2 v10 h62)) fun v63 h63 =>
  bnd (pureCall (span_Mul.f G k) [v62, v63] h63) fun v64 h64 =>
  bnd (pu h64 (extractA v64 0)) fun v65 h65 =>
  bnd (pu h65 (extractA v64 1)) fun v66 h66 =>
  bnd (boxA 24 (.agg [(.int .i64 0), (.int .i64 0)]) h66) fun v67 h67 =>
  bnd (stS (storeV 2 v67 v65 h67)) fun v68 h68 =>
  bnd (pu h68 (loadV G true 2 v5 h68)) fun v69 h69 =>
  bnd (pureCall (span_Shl.f G k) [v69, v47] h69) fun v70 h70 =>
  bnd (pu h70 (extractA v70 0)) fun v71 h71 =>
  bnd (pu h71 (extractA v70 1)) fun v72 h72 =>
  bnd (boxA 24 (.agg [(.int .i64 0), (.int .i64 0)]) h72) fun v73 h73 =>
  bnd (stS (storeV 2 v73 v71 h73)) fun v74 h74 =>
  bnd (pu h74 (un .not v52)) fun v75 h75 =>
  bnd (gd v75 false h75 (some (v59, h75))) fun v76 h76 =>
  bnd (gd v75 false h76 (pu h76 (un .not v76))) fun v77 h77 =>
  bnd (pu h77 (pickA v75 (.bool true) v77)) fun v78 h78 =>
  bnd (gd v78 false h78 (some (v66, h78))) fun v79 h79 =>
  bnd (gd v78 false h79 (pu h79 (un .not v79))) fun v80 h80 =>
  bnd (pu h80 (pickA v78 (.bool true) v80)) fun v81 h81 =>
  bnd (gd v81 false h81 (some (v72, h81))) fun v82 h82 =>
  bnd (gd v81 false h82 (pu h82 (un .not v82))) fun v83 h83 =>
  bnd (pu h83 (pickA v81 (.bool true) v83)) fun v84 h84 =>
  bnd (gd v84 false h84 (pu h84 (loadV G true 2 v53 h84))) fun v85 h85 =>
  bnd (gd v84 false h85 (some (v36, h85))) fun v86 h86 =>
  bnd (gd v84 false h86 (some (v46, h86))) fun v87 h87 =>
  bnd (gd v84 false h87 (pu h87 (bin Try.prog .add 2 false v86 v87))) fun v88 h88 =>
  bnd (gd v84 false h88 (pureCall (span_Has.f G k) [v85, v88] h88)) fun v89 h89 =>
  bnd (gd v84 false h89 (pu h89 (un .not v89))) fun v90 h90 =>
  bnd (pu h90 (pickA v84 (.bool true) v90)) fun v91 h91 =>
  bnd (gd v91 false h91 (pu h91 (loadV G true 2 v60 h91))) fun v92 h92 =>
  bnd (gd v91 false h92 (some (v36, h92))) fun v93 h93 =>
  bnd (gd v91 false h93 (some (v46, h93))) fun v94 h94 =>
  bnd (gd v91 false h94 (pu h94 (bin Try.prog .sub 2 false v93 v94))) fun v95 h95 =>
  bnd (gd v91 false h95 (pureCall (span_Has.f G k) [v92, v95] h95)) fun v96 h96 =>
  bnd (gd v91 false h96 (pu h96 (un .not v96))) fun v97 h97 =>
  bnd (pu h97 (pickA v91 (.bool true) v97)) fun v98 h98 =>
  bnd (gd v98 false h98 (pu h98 (loadV G true 2 v67 h98))) fun v99 h99 =>
  bnd (gd v98 false h99 (some (v36, h99))) fun v100 h100 =>
  bnd (gd v98 false h100 (some (v46, h100))) fun v101 h101 =>
  bnd (gd v98 false h101 (pu h101 (bin Try.prog .mul 2 false v100 v101))) fun v102 h102 =>
  bnd (gd v98 false h102 (pureCall (span_Has.f G k) [v99, v102] h102)) fun v103 h103 =>
  bnd (gd v98 false h103 (pu h103 (un .not v103))) fun v104 h104 =>
  bnd (pu h104 (pickA v98 (.bool true) v104)) fun v105 h105 =>
  bnd (gd v105 false h105 (pu h105 (loadV G true 2 v73 h105))) fun v106 h106 =>
  bnd (gd v105 false h106 (some (v36, h106))) fun v107 h107 =>
  bnd (gd v105 false h107 (some (v47, h107))) fun v108 h108 =>
  bnd (gd v105 false h108 (pu h108 (convInt .u64 v108))) fun v109 h109 =>
  bnd (gd v105 false h109 (pu h109 (bin Try.prog .shl 2 false v107 v109))) fun v110 h110 =>
  bnd (gd v105 false h110 (pureCall (span_Has.f G k) [v106, v110] h110)) fun v111 h111 =>
  bnd (gd v105 false h111 (pu h111 (un .not v111))) fun v112 h112 =>
  bnd (pu h112 (pickA v105 (.bool true) v112)) fun v113 h113 =>
  bnd (gd v113 false h113 (pu h113 (loadV G true 2 v5 h113))) fun v114 h114 =>
  bnd (gd v113 false h114 (some (v47, h114))) fun v115 h115 =>
  bnd (gd v113 false h115 (pureCall (span_Sar.f G k) [v114, v115] h115)) fun v116 h116 =>
  bnd (gd v113 false h116 (some (v36, h116))) fun v117 h117 =>
  bnd (gd v113 false h117 (some (v47, h117))) fun v118 h118 =>
  bnd (gd v113 false h118 (pu h118 (convInt .u64 v118))) fun v119 h119 =>
  bnd (gd v113 false h119 (pu h119 (bin Try.prog .shr 2 false v117 v119))) fun v120 h120 =>
  bnd (gd v113 false h120 (pureCall (span_Has.f G k) [v116, v120] h120)) fun v121 h121 =>
  bnd (gd v113 false h121 (pu h121 (un .not v121))) fun v122 h122 =>
  bnd (pu h122 (pickA v113 (.bool true) v122)) fun v123 h123 =>
  bnd (gd v123 false h123 (pu h123 (loadV G true 2 v5 h123))) fun v124 h124 =>
  bnd (gd v123 false h124 (pu h124 (loadV G true 2 v10 h124))) fun v125 h125 =>
  bnd (gd v123 false h125 (pureCall (span_And.f G k) [v124, v125] h125)) fun v126 h126 =>
  bnd (gd v123 false h126 (some (v36, h126))) fun v127 h127 =>
  bnd (gd v123 false h127 (some (v46, h127))) fun v128 h128 =>
  bnd (gd v123 false h128 (pu h128 (bin Try.prog .and 2 false v127 v128))) fun v129 h129 =>
  bnd (gd v123 false h129 (pureCall (span_Has.f G k) [v126, v129] h129)) fun v130 h130 =>
  bnd (gd v123 false h130 (pu h130 (un .not v130))) fun v131 h131 =>
  bnd (pu h131 (pickA v123 (.bool true) v131)) fun v132 h132 =>
  condA v132
  (finV [(.bool false)] h.length h132)
  (bnd (pu h132 (loadV G true 2 v5 h132)) fun v133 h133 =>
  bnd (pu h133 (loadV G true 2 v10 h133)) fun v134 h134 =>
  bnd (pureCall (span_Join.f G k) [v133, v134] h134) fun v135 h135 =>
  bnd (boxA 24 (.agg [(.int .i64 0), (.int .i64 0)]) h135) fun v136 h136 =>
  bnd (stS (storeV 2 v136 v135 h136)) fun v137 h137 =>
  bnd (gd v0 true h137 (pu h137 (loadV G true 2 v136 h137))) fun v138 h138 =>
  bnd (gd v0 true h138 (some (v36, h138))) fun v139 h139 =>
  bnd (gd v0 true h139 (pureCall (span_Has.f G k) [v138, v139] h139)) fun v140 h140 =>
  bnd (pu h140 (pickA v0 v140 (.bool false))) fun v141 h141 =>
  bnd (gd v141 true h141 (pu h141 (loadV G true 2 v136 h141))) fun v142 h142 =>
  bnd (gd v141 true h142 (some (v46, h142))) fun v143 h143 =>
  bnd (gd v141 true h143 (pureCall (span_Has.f G k) [v142, v143] h143)) fun v144 h144 =>
  bnd (pu h144 (pickA v141 v144 (.bool false))) fun v145 h145 =>
  bnd (gd v145 true h145 (pu h145 (loadV G true 2 v5 h145))) fun v146 h146 =>
  bnd (gd v145 true h146 (pu h146 (loadV G true 2 v136 h146))) fun v147 h147 =>
  bnd (gd v145 true h147 (pureCall (span_Within.f G k) [v146, v147] h147)) fun v148 h148 =>
  bnd (pu h148 (pickA v145 v148 (.bool false))) fun v149 h149 =>
  bnd (gd v149 true h149 (pu h149 (loadV G true 2 v10 h149))) fun v150 h150 =>
  bnd (gd v149 true h150 (pu h150 (loadV G true 2 v136 h150))) fun v151 h151 =>
  bnd (gd v149 true h151 (pureCall (span_Within.f G k) [v150, v151] h151)) fun v152 h152 =>
  bnd (pu h152 (pickA v149 v152 (.bool false))) fun v153 h153 =>
  bnd (gd v153 true h153 (pu h153 (fieldAddrV 0 v53))) fun v154 h154 =>
  bnd (gd v153 true h154 (pu h154 (loadV G false 1 v154 h154))) fun v155 h155 =>
  bnd (gd v153 true h155 (pu h155 (fieldAddrV 0 v5))) fun v156 h156 =>
  bnd (gd v153 true h156 (pu h156 (loadV G false 1 v156 h156))) fun v157 h157 =>
  bnd (gd v153 true h157 (pu h157 (fieldAddrV 0 v10))) fun v158 h158 =>
  bnd (gd v153 true h158 (pu h158 (loadV G false 1 v158 h158))) fun v159 h159 =>
  bnd (gd v153 true h159 (pu h159 (bin Try.prog .add 2 false v157 v159))) fun v160 h160 =>
  bnd (gd v153 true h160 (pu h160 (bin Try.prog .eql 2 false v155 v160))) fun v161 h161 =>
  bnd (pu h161 (pickA v153 v161 (.bool false))) fun v162 h162 =>
  bnd (gd v162 true h162 (pu h162 (fieldAddrV 1 v53))) fun v163 h163 =>
  bnd (gd v162 true h163 (pu h163 (loadV G false 1 v163 h163))) fun v164 h164 =>
  bnd (gd v162 true h164 (pu h164 (fieldAddrV 1 v5))) fun v165 h165 =>
  bnd (gd v162 true h165 (pu h165 (loadV G false 1 v165 h165))) fun v166 h166 =>
  bnd (gd v162 true h166 (pu h166 (fieldAddrV 1 v10))) fun v167 h167 =>
  bnd (gd v162 true h167 (pu h167 (loadV G false 1 v167 h167))) fun v168 h168 =>
  bnd (gd v162 true h168 (pu h168 (bin Try.prog .add 2 false v166 v168))) fun v169 h169 =>
  bnd (gd v162 true h169 (pu h169 (bin Try.prog .eql 2 false v164 v169))) fun v170 h170 =>
  bnd (pu h170 (pickA v162 v170 (.bool false))) fun v171 h171 =>
  bnd (gd v171 true h171 (pu h171 (fieldAddrV 0 v60))) fun v172 h172 =>
  bnd (gd v171 true h172 (pu h172 (loadV G false 1 v172 h172))) fun v173 h173 =>
  bnd (gd v171 true h173 (pu h173 (fieldAddrV 0 v5))) fun v174 h174 =>
  bnd (gd v171 true h174 (pu h174 (loadV G false 1 v174 h174))) fun v175 h175 =>
  bnd (gd v171 true h175 (pu h175 (fieldAddrV 1 v10))) fun v176 h176 =>
  bnd (gd v171 true h176 (pu h176 (loadV G false 1 v176 h176))) fun v177 h177 =>
  bnd (gd v171 true h177 (pu h177 (bin Try.prog .sub 2 false v175 v177))) fun v178 h178 =>
  bnd (gd v171 true h178 (pu h178 (bin Try.prog .eql 2 false v173 v178))) fun v179 h179 =>
  bnd (pu h179 (pickA v171 v179 (.bool false))) fun v180 h180 =>
  bnd (gd v180 true h180 (pu h180 (fieldAddrV 1 v60))) fun v181 h181 =>
  bnd (gd v180 true h181 (pu h181 (loadV G false 1 v181 h181))) fun v182 h182 =>
  bnd (gd v180 true h182 (pu h182 (fieldAddrV 1 v5))) fun v183 h183 =>
  bnd (gd v180 true h183 (pu h183 (loadV G false 1 v183 h183))) fun v184 h184 =>
  bnd (gd v180 true h184 (pu h184 (fieldAddrV 0 v10))) fun v185 h185 =>
  bnd (gd v180 true h185 (pu h185 (loadV G false 1 v185 h185))) fun v186 h186 =>
  bnd (gd v180 true h186 (pu h186 (bin Try.prog .sub 2 false v184 v186))) fun v187 h187 =>
  bnd (gd v180 true h187 (pu h187 (bin Try.prog .eql 2 false v182 v187))) fun v188 h188 =>
  bnd (pu h188 (pickA v180 v188 (.bool false))) fun v189 h189 =>
  bnd (gd v189 true h189 (pu h189 (loadV G true 2 v53 h189))) fun v190 h190 =>
  bnd (gd v189 true h190 (pu h190 (fieldAddrV 1 v53))) fun v191 h191 =>
  bnd (gd v189 true h191 (pu h191 (loadV G false 1 v191 h191))) fun v192 h192 =>
  bnd (gd v189 true h192 (pu h192 (bin Try.prog .add 2 true v192 (.int .i64 1)))) fun v193 h193 =>
  bnd (gd v189 true h193 (pureCall (span_Has.f G k) [v190, v193] h193)) fun v194 h194 =>
  bnd (gd v189 true h194 (pu h194 (un .not v194))) fun v195 h195 =>
  bnd (pu h195 (pickA v189 v195 (.bool false))) fun v196 h196 =>
  bnd (gd v196 true h196 (pu h196 (loadV G true 2 v53 h196))) fun v197 h197 =>
  bnd (gd v196 true h197 (pu h197 (fieldAddrV 0 v53))) fun v198 h198 =>
  bnd (gd v196 true h198 (pu h198 (loadV G false 1 v198 h198))) fun v199 h199 =>
  bnd (gd v196 true h199 (pu h199 (bin Try.prog .sub 2 true v199 (.int .i64 1)))) fun v200 h200 =>
  bnd (gd v196 true h200 (pureCall (span_Has.f G k) [v197, v200] h200)) fun v201 h201 =>
  bnd (gd v196 true h201 (pu h201 (un .not v201))) fun v202 h202 =>
  bnd (pu h202 (pickA v196 v202 (.bool false))) fun v203 h203 =>
  finV [v203] h.length h203))))
noncomputable def alembiclaw16_SpanHolds.f (G : Globs) : Nat → Den
  | 0 => fun _ _ => none
  | k + 1 => fun args h => arg7 args fun x0 x1 x2 x3 x4 x5 x6 => (alembiclaw16_SpanHolds.c G k (alembiclaw16_SpanHolds.f G k) x0 x1 x2 x3 x4 x5 x6 h)
theorem alembiclaw16_SpanHolds.step (G : Globs) (k : Nat) (x0 x1 x2 x3 x4 x5 x6 : AV) (h : AHeap) : alembiclaw16_SpanHolds.f G (k + 1) [x0, x1, x2, x3, x4, x5, x6] h = alembiclaw16_SpanHolds.c G k (alembiclaw16_SpanHolds.f G k) x0 x1 x2 x3 x4 x5 x6 h := rfl
/-! alembic/alembicref17.Is: function 21 -/
noncomputable def alembicref17_Is.ann : Ann := mkAnn [] [] [] []
noncomputable def alembicref17_Is.env (G : Globs) (k : Nat) (self : Den) : List (Nat × Bool × Den) := []
noncomputable def alembicref17_Is.c (G : Globs) (k : Nat) (self : Den) (x0 : AV) (h : AHeap) : Option (AV × AHeap) := outV (
  bnd (boxRoA x0 h) fun v0 h0 =>
  bnd (pu h0 (fieldAddrV 0 v0)) fun v1 h1 =>
  bnd (pu h1 (loadV G false 1 v1 h1)) fun v2 h2 =>
  bnd (pu h2 (fieldAddrV 1 v0)) fun v3 h3 =>
  bnd (pu h3 (loadV G false 1 v3 h3)) fun v4 h4 =>
  bnd (pu h4 (bin Try.prog .leq 2 false v2 v4)) fun v5 h5 =>
  finV [v5] h.length h5)
noncomputable def alembicref17_Is.f (G : Globs) : Nat → Den
  | 0 => fun _ _ => none
  | k + 1 => fun args h => arg1 args fun x0 => (alembicref17_Is.c G k (alembicref17_Is.f G k) x0 h)
theorem alembicref17_Is.step (G : Globs) (k : Nat) (x0 : AV) (h : AHeap) : alembicref17_Is.f G (k + 1) [x0] h = alembicref17_Is.c G k (alembicref17_Is.f G k) x0 h := rfl
/-! alembic/alembicref17.Join: function 28 -/
noncomputable def alembicref17_Join.ann : Ann := mkAnn [] [] [] []
noncomputable def alembicref17_Join.env (G : Globs) (k : Nat) (self : Den) : List (Nat × Bool × Den) := []
noncomputable def alembicref17_Join.c (G : Globs) (k : Nat) (self : Den) (x0 x1 : AV) (h : AHeap) : Option (AV × AHeap) := outV (
  bnd (boxRoA x0 h) fun v0 h0 =>
  bnd (boxRoA x1 h0) fun v1 h1 =>
  bnd (boxA 24 (.agg [(.int .i64 0), (.int .i64 0)]) h1) fun v2 h2 =>
  bnd (pu h2 (fieldAddrV 0 v0)) fun v3 h3 =>
  bnd (pu h3 (loadV G false 1 v3 h3)) fun v4 h4 =>
  bnd (pu h4 (fieldAddrV 0 v1)) fun v5 h5 =>
  bnd (pu h5 (loadV G false 1 v5 h5)) fun v6 h6 =>
  bnd (pu h6 (foldA min2A v4 [v6])) fun v7 h7 =>
  bnd (pu h7 (fieldAddrV 1 v0)) fun v8 h8 =>
  bnd (pu h8 (loadV G false 1 v8 h8)) fun v9 h9 =>
  bnd (pu h9 (fieldAddrV 1 v1)) fun v10 h10 =>
  bnd (pu h10 (loadV G false 1 v10 h10)) fun v11 h11 =>
  bnd (pu h11 (foldA max2A v9 [v11])) fun v12 h12 =>
  bnd (pu h12 (buildSt [(0, 1), (1, 1)] [(.int .i64 0), (.int .i64 0)] [(0, v7), (1, v12)])) fun v13 h13 =>
  bnd (stS (storeV 2 v2 v13 h13)) fun v14 h14 =>
  finL [loadV G true 2 v2 h14] h.length h14)
noncomputable def alembicref17_Join.f (G : Globs) : Nat → Den
  | 0 => fun _ _ => none
  | k + 1 => fun args h => arg2 args fun x0 x1 => (alembicref17_Join.c G k (alembicref17_Join.f G k) x0 x1 h)
theorem alembicref17_Join.step (G : Globs) (k : Nat) (x0 x1 : AV) (h : AHeap) : alembicref17_Join.f G (k + 1) [x0, x1] h = alembicref17_Join.c G k (alembicref17_Join.f G k) x0 x1 h := rfl
/-! math/bits.Mul64: function 37 -/
noncomputable def math_bits_Mul64.ann : Ann := mkAnn [] [] [] []
noncomputable def math_bits_Mul64.env (G : Globs) (k : Nat) (self : Den) : List (Nat × Bool × Den) := []
noncomputable def math_bits_Mul64.c (G : Globs) (k : Nat) (self : Den) (x0 x1 : AV) (h : AHeap) : Option (AV × AHeap) := outV (
  bnd (pu h (bin Try.prog .and 46 true x0 (.int .u64 4294967295))) fun v0 h0 =>
  bnd (pu h0 (bin Try.prog .shr 46 true x0 (.int .u64 32))) fun v1 h1 =>
  bnd (pu h1 (bin Try.prog .and 46 true x1 (.int .u64 4294967295))) fun v2 h2 =>
  bnd (pu h2 (bin Try.prog .shr 46 true x1 (.int .u64 32))) fun v3 h3 =>
  bnd (pu h3 (bin Try.prog .mul 46 false v0 v2)) fun v4 h4 =>
  bnd (pu h4 (bin Try.prog .mul 46 false v1 v2)) fun v5 h5 =>
  bnd (pu h5 (bin Try.prog .shr 46 true v4 (.int .u64 32))) fun v6 h6 =>
  bnd (pu h6 (bin Try.prog .add 46 false v5 v6)) fun v7 h7 =>
  bnd (pu h7 (bin Try.prog .and 46 true v7 (.int .u64 4294967295))) fun v8 h8 =>
  bnd (pu h8 (bin Try.prog .shr 46 true v7 (.int .u64 32))) fun v9 h9 =>
  bnd (pu h9 (bin Try.prog .mul 46 false v0 v3)) fun v10 h10 =>
  bnd (pu h10 (bin Try.prog .add 46 false v8 v10)) fun v11 h11 =>
  bnd (pu h11 (bin Try.prog .mul 46 false v1 v3)) fun v12 h12 =>
  bnd (pu h12 (bin Try.prog .add 46 false v12 v9)) fun v13 h13 =>
  bnd (pu h13 (bin Try.prog .shr 46 true v11 (.int .u64 32))) fun v14 h14 =>
  bnd (pu h14 (bin Try.prog .add 46 false v13 v14)) fun v15 h15 =>
  bnd (pu h15 (bin Try.prog .mul 46 false x0 x1)) fun v16 h16 =>
  finV [v15, v16] h.length h16)
noncomputable def math_bits_Mul64.f (G : Globs) : Nat → Den
  | 0 => fun _ _ => none
  | k + 1 => fun args h => arg2 args fun x0 x1 => (math_bits_Mul64.c G k (math_bits_Mul64.f G k) x0 x1 h)
theorem math_bits_Mul64.step (G : Globs) (k : Nat) (x0 x1 : AV) (h : AHeap) : math_bits_Mul64.f G (k + 1) [x0, x1] h = math_bits_Mul64.c G k (math_bits_Mul64.f G k) x0 x1 h := rfl
/-! alembic/alembicref17.cut: function 38 -/
noncomputable def alembicref17_cut.ann : Ann := mkAnn [] [] [] []
noncomputable def alembicref17_cut.env (G : Globs) (k : Nat) (self : Den) : List (Nat × Bool × Den) := []
noncomputable def alembicref17_cut.c (G : Globs) (k : Nat) (self : Den) (x0 x1 : AV) (h : AHeap) : Option (AV × AHeap) := outV (
  bnd (pu h (un .not x1)) fun v0 h0 =>
  condA v0
  (finV [(.int .i64 0), (.bool false)] h.length h0)
  (finV [x0, (.bool true)] h.length h0))
noncomputable def alembicref17_cut.f (G : Globs) : Nat → Den
  | 0 => fun _ _ => none
  | k + 1 => fun args h => arg2 args fun x0 x1 => (alembicref17_cut.c G k (alembicref17_cut.f G k) x0 x1 h)
theorem alembicref17_cut.step (G : Globs) (k : Nat) (x0 x1 : AV) (h : AHeap) : alembicref17_cut.f G (k + 1) [x0, x1] h = alembicref17_cut.c G k (alembicref17_cut.f G k) x0 x1 h := rfl
/-! alembic/alembicref17.Product: function 36 -/
noncomputable def alembicref17_Product.ann : Ann := mkAnn [] [] [] [(7, [0, 1, 6, 7]), (5, [0, 1, 6, 7])]
noncomputable def alembicref17_Product.env (G : Globs) (k : Nat) (self : Den) : List (Nat × Bool × Den) := [(37, true, math_bits_Mul64.f G k), (38, true, alembicref17_cut.f G k)]
noncomputable def alembicref17_Product.c (G : Globs) (k : Nat) (self : Den) (x0 x1 : AV) (h : AHeap) : Option (AV × AHeap) := outV (
  bnd (pu h (convInt .u64 x0)) fun v0 h0 =>
  bnd (pu h0 (convInt .u64 x1)) fun v1 h1 =>
  thenK (
  bnd (pu h1 (bin Try.prog .lss 2 true x0 (.int .i64 0))) fun v2 h2 =>
  condA v2
  (bnd (pu h2 (un .neg v0)) fun v3 h3 =>
  some (.normal, [x0, x1, v3, v1], h3))
  (some (.normal, [x0, x1, v0, v1], h2))) fun e4 x4 h4 => exK e4
  (thenK (
  bnd (pu h4 (bin Try.prog .lss 2 true (nth x4 1) (.int .i64 0))) fun v5 h5 =>
  condA v5
  (bnd (pu h5 (un .neg (nth x4 3))) fun v6 h6 =>
  some (.normal, [(nth x4 0), (nth x4 1), (nth x4 2), v6], h6))
  (some (.normal, [(nth x4 0), (nth x4 1), (nth x4 2), (nth x4 3)], h5))) fun e7 x7 h7 => exK e7
  (bnd (pureCall (math_bits_Mul64.f G k) [(nth x7 2), (nth x7 3)] h7) fun v8 h8 =>
  bnd (pu h8 (extractA v8 0)) fun v9 h9 =>
  bnd (pu h9 (extractA v8 1)) fun v10 h10 =>
  bnd (pu h10 (bin Try.prog .neq 46 true v9 (.int .u64 0))) fun v11 h11 =>
  condA v11
  (finV [(.int .i64 0), (.bool false)] h.length h11)
  (bnd (pu h11 (bin Try.prog .lss 2 true (nth x7 0) (.int .i64 0))) fun v12 h12 =>
  bnd (pu h12 (bin Try.prog .lss 2 true (nth x7 1) (.int .i64 0))) fun v13 h13 =>
  bnd (pu h13 (bin Try.prog .neq 4 false v12 v13)) fun v14 h14 =>
  condA v14
  (bnd (pu h14 (bin Try.prog .eql 46 true v10 (.int .u64 9223372036854775808))) fun v15 h15 =>
  condA v15
  (finV [(.int .i64 (-9223372036854775808)), (.bool true)] h.length h15)
  (bnd (pu h15 (bin Try.prog .and 46 true v10 (.int .u64 9223372036854775807))) fun v16 h16 =>
  bnd (pu h16 (convInt .i64 v16)) fun v17 h17 =>
  bnd (pu h17 (un .neg v17)) fun v18 h18 =>
  bnd (pu h18 (bin Try.prog .lss 46 true v10 (.int .u64 9223372036854775808))) fun v19 h19 =>
  bnd (pureCall (alembicref17_cut.f G k) [v18, v19] h19) fun v20 h20 =>
  bnd (pu h20 (extractA v20 0)) fun v21 h21 =>
  bnd (pu h21 (extractA v20 1)) fun v22 h22 =>
  finV [v21, v22] h.length h22))
  (bnd (pu h14 (convInt .i64 v10)) fun v23 h23 =>
  bnd (pu h23 (bin Try.prog .lss 46 true v10 (.int .u64 9223372036854775808))) fun v24 h24 =>
  finV [v23, v24] h.length h24)))
  (fun i7 => none)
  (finV [.undef, .undef] h.length h7))
  (fun i4 => none)
  (finV [.undef, .undef] h.length h4))
noncomputable def alembicref17_Product.f (G : Globs) : Nat → Den
  | 0 => fun _ _ => none
  | k + 1 => fun args h => arg2 args fun x0 x1 => (alembicref17_Product.c G k (alembicref17_Product.f G k) x0 x1 h)
theorem alembicref17_Product.step (G : Globs) (k : Nat) (x0 x1 : AV) (h : AHeap) : alembicref17_Product.f G (k + 1) [x0, x1] h = alembicref17_Product.c G k (alembicref17_Product.f G k) x0 x1 h := rfl
/-! alembic/alembicref17.Mul: function 26 -/
noncomputable def alembicref17_Mul.ann : Ann := mkAnn [] [] [(5, [4, 5, 6, 7, 8, 9])] []
noncomputable def alembicref17_Mul.env (G : Globs) (k : Nat) (self : Den) : List (Nat × Bool × Den) := [(28, true, alembicref17_Join.f G k), (36, true, alembicref17_Product.f G k)]
noncomputable def alembicref17_Mul.l5 (G : Globs) (k n0 : Nat) (self : Den) (lp : LoopF) : LoopF := fun xs h0 => cutK n0 xs h0 fun h =>
  bnd (pu h (bin Try.prog .lss 3 true (nth xs 5) (.int .i64 4))) fun v25 h25 =>
  condA v25
  (bnd (pu h25 (idxAddrSl 1 (nth xs 2) (nth xs 5))) fun v26 h26 =>
  bnd (pu h26 (loadV G false 1 v26 h26)) fun v27 h27 =>
  bnd (pu h27 (idxAddrSl 1 (nth xs 3) (nth xs 5))) fun v28 h28 =>
  bnd (pu h28 (loadV G false 1 v28 h28)) fun v29 h29 =>
  bnd (pureCall (alembicref17_Product.f G k) [v27, v29] h29) fun v30 h30 =>
  bnd (pu h30 (extractA v30 0)) fun v31 h31 =>
  bnd (pu h31 (extractA v30 1)) fun v32 h32 =>
  bnd (pu h32 (un .not v32)) fun v33 h33 =>
  condA v33
  (bnd (pu h33 (buildSt [(0, 1), (1, 1)] [(.int .i64 0), (.int .i64 0)] [])) fun v34 h34 =>
  bnd (stS (storeV 2 (nth xs 0) v34 h34)) fun v35 h35 =>
  some (.ret, [(nth xs 0), (.bool false), (nth xs 2), (nth xs 3), (nth xs 4), (nth xs 5)], h35))
  (bnd (pu h33 (fieldAddrV 0 (nth xs 4))) fun v36 h36 =>
  bnd (pu h36 (loadV G false 1 v36 h36)) fun v37 h37 =>
  bnd (pu h37 (foldA min2A v37 [v31])) fun v38 h38 =>
  bnd (pu h38 (fieldAddrV 1 (nth xs 4))) fun v39 h39 =>
  bnd (pu h39 (loadV G false 1 v39 h39)) fun v40 h40 =>
  bnd (pu h40 (foldA max2A v40 [v31])) fun v41 h41 =>
  bnd (pu h41 (buildSt [(0, 1), (1, 1)] [(.int .i64 0), (.int .i64 0)] [(0, v38), (1, v41)])) fun v42 h42 =>
  bnd (pu h42 (buildSt [(0, 1), (1, 1)] [(.int .i64 0), (.int .i64 0)] [(0, v31), (1, v31)])) fun v43 h43 =>
  bnd (pureCall (alembicref17_Join.f G k) [v42, v43] h43) fun v44 h44 =>
  bnd (stS (storeV 2 (nth xs 4) v44 h44)) fun v45 h45 =>
  bnd (pu h45 (bin Try.prog .add 3 true (nth xs 5) (.int .i64 1))) fun v46 h46 =>
  lp [(nth xs 0), (nth xs 1), (nth xs 2), (nth xs 3), (nth xs 4), v46] h46))
  (some (.exit 0, [(nth xs 0), (nth xs 1), (nth xs 2), (nth xs 3), (nth xs 4), (nth xs 5)], h25))
noncomputable def alembicref17_Mul.c (G : Globs) (k : Nat) (self : Den) (x0 x1 : AV) (h : AHeap) : Option (AV × AHeap) := outV (
  bnd (boxRoA x0 h) fun v0 h0 =>
  bnd (boxRoA x1 h0) fun v1 h1 =>
  bnd (boxA 24 (.agg [(.int .i64 0), (.int .i64 0)]) h1) fun v2 h2 =>
  bnd (pu h2 (fieldAddrV 0 v0)) fun v3 h3 =>
  bnd (pu h3 (loadV G false 1 v3 h3)) fun v4 h4 =>
  bnd (pu h4 (fieldAddrV 0 v0)) fun v5 h5 =>
  bnd (pu h5 (loadV G false 1 v5 h5)) fun v6 h6 =>
  bnd (pu h6 (fieldAddrV 1 v0)) fun v7 h7 =>
  bnd (pu h7 (loadV G false 1 v7 h7)) fun v8 h8 =>
  bnd (pu h8 (fieldAddrV 1 v0)) fun v9 h9 =>
  bnd (pu h9 (loadV G false 1 v9 h9)) fun v10 h10 =>
  bnd (buildRo 1 4 (.int .i64 0) [(0, v4), (1, v6), (2, v8), (3, v10)] h10) fun v11 h11 =>
  bnd (pu h11 (fieldAddrV 0 v1)) fun v12 h12 =>
  bnd (pu h12 (loadV G false 1 v12 h12)) fun v13 h13 =>
  bnd (pu h13 (fieldAddrV 1 v1)) fun v14 h14 =>
  bnd (pu h14 (loadV G false 1 v14 h14)) fun v15 h15 =>
  bnd (pu h15 (fieldAddrV 0 v1)) fun v16 h16 =>
  bnd (pu h16 (loadV G false 1 v16 h16)) fun v17 h17 =>
  bnd (pu h17 (fieldAddrV 1 v1)) fun v18 h18 =>
  bnd (pu h18 (loadV G false 1 v18 h18)) fun v19 h19 =>
  bnd (buildRo 1 4 (.int .i64 0) [(0, v13), (1, v15), (2, v17), (3, v19)] h19) fun v20 h20 =>
  bnd (pu h20 (buildSt [(0, 1), (1, 1)] [(.int .i64 0), (.int .i64 0)] [(0, (.int .i64 9223372036854775807)), (1, (.int .i64 (-9223372036854775808)))])) fun v21 h21 =>
  bnd (boxA 24 (.agg [(.int .i64 0), (.int .i64 0)]) h21) fun v22 h22 =>
  bnd (stS (storeV 2 v22 v21 h22)) fun v23 h23 =>
  thenK (loopN (alembicref17_Mul.l5 G k h23.length self) k [v2, (.bool false), v11, v20, v22, (.int .i64 0)] h23) fun e24 x24 h24 => exK e24
  (bnd (pu h24 (loadV G true 2 (nth x24 4) h24)) fun v47 h47 =>
  bnd (stS (storeV 2 (nth x24 0) v47 h47)) fun v48 h48 =>
  finL [loadV G true 2 (nth x24 0) h48, some (.bool true)] h.length h48)
  (fun i24 => if i24 = 0 then (bnd (pu h24 (loadV G true 2 (nth x24 4) h24)) fun v49 h49 =>
  bnd (stS (storeV 2 (nth x24 0) v49 h49)) fun v50 h50 =>
  finL [loadV G true 2 (nth x24 0) h50, some (.bool true)] h.length h50) else (none))
  (finL [loadV G true 2 (nth x24 0) h24, some (nth x24 1)] h.length h24))
noncomputable def alembicref17_Mul.f (G : Globs) : Nat → Den
  | 0 => fun _ _ => none
  | k + 1 => fun args h => arg2 args fun x0 x1 => (alembicref17_Mul.c G k (alembicref17_Mul.f G k) x0 x1 h)
theorem alembicref17_Mul.step (G : Globs) (k : Nat) (x0 x1 : AV) (h : AHeap) : alembicref17_Mul.f G (k + 1) [x0, x1] h = alembicref17_Mul.c G k (alembicref17_Mul.f G k) x0 x1 h := rfl
/-! alembic/alembicref17.Shl: function 22 -/
noncomputable def alembicref17_Shl.ann : Ann := mkAnn [] [] [] []
noncomputable def alembicref17_Shl.env (G : Globs) (k : Nat) (self : Den) : List (Nat × Bool × Den) := [(26, true, alembicref17_Mul.f G k)]
noncomputable def alembicref17_Shl.c (G : Globs) (k : Nat) (self : Den) (x0 x1 : AV) (h : AHeap) : Option (AV × AHeap) := outV (
  bnd (boxRoA x0 h) fun v0 h0 =>
  bnd (boxA 24 (.agg [(.int .i64 0), (.int .i64 0)]) h0) fun v1 h1 =>
  bnd (pu h1 (bin Try.prog .lss 3 true x1 (.int .i64 0))) fun v2 h2 =>
  bnd (gd v2 false h2 (some (x1, h2))) fun v3 h3 =>
  bnd (gd v2 false h3 (pu h3 (bin Try.prog .gtr 3 true v3 (.int .i64 62)))) fun v4 h4 =>
  bnd (pu h4 (pickA v2 (.bool true) v4)) fun v5 h5 =>
  condA v5
  (bnd (pu h5 (buildSt [(0, 1), (1, 1)] [(.int .i64 0), (.int .i64 0)] [])) fun v6 h6 =>
  bnd (stS (storeV 2 v1 v6 h6)) fun v7 h7 =>
  finL [loadV G true 2 v1 h7, some (.bool false)] h.length h7)
  (bnd (pu h5 (loadV G true 2 v0 h5)) fun v8 h8 =>
  bnd (pu h8 (convInt .u64 x1)) fun v9 h9 =>
  bnd (pu h9 (bin Try.prog .shl 2 true (.int .i64 1) v9)) fun v10 h10 =>
  bnd (pu h10 (convInt .u64 x1)) fun v11 h11 =>
  bnd (pu h11 (bin Try.prog .shl 2 true (.int .i64 1) v11)) fun v12 h12 =>
  bnd (pu h12 (buildSt [(0, 1), (1, 1)] [(.int .i64 0), (.int .i64 0)] [(0, v10), (1, v12)])) fun v13 h13 =>
  bnd (pureCall (alembicref17_Mul.f G k) [v8, v13] h13) fun v14 h14 =>
  bnd (pu h14 (extractA v14 0)) fun v15 h15 =>
  bnd (pu h15 (extractA v14 1)) fun v16 h16 =>
  bnd (stS (storeV 2 v1 v15 h16)) fun v17 h17 =>
  finL [loadV G true 2 v1 h17, some v16] h.length h17))
noncomputable def alembicref17_Shl.f (G : Globs) : Nat → Den
  | 0 => fun _ _ => none
  | k + 1 => fun args h => arg2 args fun x0 x1 => (alembicref17_Shl.c G k (alembicref17_Shl.f G k) x0 x1 h)
theorem alembicref17_Shl.step (G : Globs) (k : Nat) (x0 x1 : AV) (h : AHeap) : alembicref17_Shl.f G (k + 1) [x0, x1] h = alembicref17_Shl.c G k (alembicref17_Shl.f G k) x0 x1 h := rfl
/-! alembic/alembicref17.Sar: function 23 -/
noncomputable def alembicref17_Sar.ann : Ann := mkAnn [] [] [] []
noncomputable def alembicref17_Sar.env (G : Globs) (k : Nat) (self : Den) : List (Nat × Bool × Den) := []
noncomputable def alembicref17_Sar.c (G : Globs) (k : Nat) (self : Den) (x0 x1 : AV) (h : AHeap) : Option (AV × AHeap) := outV (
  bnd (boxRoA x0 h) fun v0 h0 =>
  bnd (boxA 24 (.agg [(.int .i64 0), (.int .i64 0)]) h0) fun v1 h1 =>
  bnd (pu h1 (bin Try.prog .lss 3 true x1 (.int .i64 0))) fun v2 h2 =>
  bnd (gd v2 false h2 (some (x1, h2))) fun v3 h3 =>
  bnd (gd v2 false h3 (pu h3 (bin Try.prog .gtr 3 true v3 (.int .i64 63)))) fun v4 h4 =>
  bnd (pu h4 (pickA v2 (.bool true) v4)) fun v5 h5 =>
  condA v5
  (bnd (pu h5 (buildSt [(0, 1), (1, 1)] [(.int .i64 0), (.int .i64 0)] [])) fun v6 h6 =>
  bnd (stS (storeV 2 v1 v6 h6)) fun v7 h7 =>
  finL [loadV G true 2 v1 h7] h.length h7)
  (bnd (pu h5 (fieldAddrV 0 v0)) fun v8 h8 =>
  bnd (pu h8 (loadV G false 1 v8 h8)) fun v9 h9 =>
  bnd (pu h9 (convInt .u64 x1)) fun v10 h10 =>
  bnd (pu h10 (bin Try.prog .shr 2 false v9 v10)) fun v11 h11 =>
  bnd (pu h11 (fieldAddrV 1 v0)) fun v12 h12 =>
  bnd (pu h12 (loadV G false 1 v12 h12)) fun v13 h13 =>
  bnd (pu h13 (convInt .u64 x1)) fun v14 h14 =>
  bnd (pu h14 (bin Try.prog .shr 2 false v13 v14)) fun v15 h15 =>
  bnd (pu h15 (buildSt [(0, 1), (1, 1)] [(.int .i64 0), (.int .i64 0)] [(0, v11), (1, v15)])) fun v16 h16 =>
  bnd (stS (storeV 2 v1 v16 h16)) fun v17 h17 =>
  finL [loadV G true 2 v1 h17] h.length h17))
noncomputable def alembicref17_Sar.f (G : Globs) : Nat → Den
  | 0 => fun _ _ => none
  | k + 1 => fun args h => arg2 args fun x0 x1 => (alembicref17_Sar.c G k (alembicref17_Sar.f G k) x0 x1 h)
theorem alembicref17_Sar.step (G : Globs) (k : Nat) (x0 x1 : AV) (h : AHeap) : alembicref17_Sar.f G (k + 1) [x0, x1] h = alembicref17_Sar.c G k (alembicref17_Sar.f G k) x0 x1 h := rfl
/-! alembic/alembicref17.Sum: function 34 -/
noncomputable def alembicref17_Sum.ann : Ann := mkAnn [] [] [] []
noncomputable def alembicref17_Sum.env (G : Globs) (k : Nat) (self : Den) : List (Nat × Bool × Den) := []
noncomputable def alembicref17_Sum.c (G : Globs) (k : Nat) (self : Den) (x0 x1 : AV) (h : AHeap) : Option (AV × AHeap) := outV (
  bnd (pu h (bin Try.prog .add 2 false x0 x1)) fun v0 h0 =>
  bnd (pu h0 (bin Try.prog .gtr 2 false v0 x0)) fun v1 h1 =>
  bnd (pu h1 (bin Try.prog .gtr 2 true x1 (.int .i64 0))) fun v2 h2 =>
  bnd (pu h2 (bin Try.prog .eql 4 false v1 v2)) fun v3 h3 =>
  bnd (gd v3 false h3 (some (x1, h3))) fun v4 h4 =>
  bnd (gd v3 false h4 (pu h4 (bin Try.prog .eql 2 true v4 (.int .i64 0)))) fun v5 h5 =>
  bnd (pu h5 (pickA v3 (.bool true) v5)) fun v6 h6 =>
  finV [v0, v6] h.length h6)
noncomputable def alembicref17_Sum.f (G : Globs) : Nat → Den
  | 0 => fun _ _ => none
  | k + 1 => fun args h => arg2 args fun x0 x1 => (alembicref17_Sum.c G k (alembicref17_Sum.f G k) x0 x1 h)
theorem alembicref17_Sum.step (G : Globs) (k : Nat) (x0 x1 : AV) (h : AHeap) : alembicref17_Sum.f G (k + 1) [x0, x1] h = alembicref17_Sum.c G k (alembicref17_Sum.f G k) x0 x1 h := rfl
/-! alembic/alembicref17.Add: function 24 -/
noncomputable def alembicref17_Add.ann : Ann := mkAnn [] [] [] []
noncomputable def alembicref17_Add.env (G : Globs) (k : Nat) (self : Den) : List (Nat × Bool × Den) := [(34, true, alembicref17_Sum.f G k)]
noncomputable def alembicref17_Add.c (G : Globs) (k : Nat) (self : Den) (x0 x1 : AV) (h : AHeap) : Option (AV × AHeap) := outV (
  bnd (boxRoA x0 h) fun v0 h0 =>
  bnd (boxRoA x1 h0) fun v1 h1 =>
  bnd (boxA 24 (.agg [(.int .i64 0), (.int .i64 0)]) h1) fun v2 h2 =>
  bnd (pu h2 (fieldAddrV 0 v0)) fun v3 h3 =>
  bnd (pu h3 (loadV G false 1 v3 h3)) fun v4 h4 =>
  bnd (pu h4 (fieldAddrV 0 v1)) fun v5 h5 =>
  bnd (pu h5 (loadV G false 1 v5 h5)) fun v6 h6 =>
  bnd (pureCall (alembicref17_Sum.f G k) [v4, v6] h6) fun v7 h7 =>
  bnd (pu h7 (extractA v7 0)) fun v8 h8 =>
  bnd (pu h8 (extractA v7 1)) fun v9 h9 =>
  bnd (pu h9 (fieldAddrV 1 v0)) fun v10 h10 =>
  bnd (pu h10 (loadV G false 1 v10 h10)) fun v11 h11 =>
  bnd (pu h11 (fieldAddrV 1 v1)) fun v12 h12 =>
  bnd (pu h12 (loadV G false 1 v12 h12)) fun v13 h13 =>
  bnd (pureCall (alembicref17_Sum.f G k) [v11, v13] h13) fun v14 h14 =>
  bnd (pu h14 (extractA v14 0)) fun v15 h15 =>
  bnd (pu h15 (extractA v14 1)) fun v16 h16 =>
  bnd (pu h16 (un .not v9)) fun v17 h17 =>
  bnd (gd v17 false h17 (some (v16, h17))) fun v18 h18 =>
  bnd (gd v17 false h18 (pu h18 (un .not v18))) fun v19 h19 =>
  bnd (pu h19 (pickA v17 (.bool true) v19)) fun v20 h20 =>
  condA v20
  (bnd (pu h20 (buildSt [(0, 1), (1, 1)] [(.int .i64 0), (.int .i64 0)] [])) fun v21 h21 =>
  bnd (stS (storeV 2 v2 v21 h21)) fun v22 h22 =>
  finL [loadV G true 2 v2 h22, some (.bool false)] h.length h22)
  (bnd (pu h20 (buildSt [(0, 1), (1, 1)] [(.int .i64 0), (.int .i64 0)] [(0, v8), (1, v15)])) fun v23 h23 =>
  bnd (stS (storeV 2 v2 v23 h23)) fun v24 h24 =>
  finL [loadV G true 2 v2 h24, some (.bool true)] h.length h24))
noncomputable def alembicref17_Add.f (G : Globs) : Nat → Den
  | 0 => fun _ _ => none
  | k + 1 => fun args h => arg2 args fun x0 x1 => (alembicref17_Add.c G k (alembicref17_Add.f G k) x0 x1 h)
theorem alembicref17_Add.step (G : Globs) (k : Nat) (x0 x1 : AV) (h : AHeap) : alembicref17_Add.f G (k + 1) [x0, x1] h = alembicref17_Add.c G k (alembicref17_Add.f G k) x0 x1 h := rfl
/-! alembic/alembicref17.Less: function 35 -/
noncomputable def alembicref17_Less.ann : Ann := mkAnn [] [] [] []
noncomputable def alembicref17_Less.env (G : Globs) (k : Nat) (self : Den) : List (Nat × Bool × Den) := []
noncomputable def alembicref17_Less.c (G : Globs) (k : Nat) (self : Den) (x0 x1 : AV) (h : AHeap) : Option (AV × AHeap) := outV (
  bnd (pu h (bin Try.prog .sub 2 false x0 x1)) fun v0 h0 =>
  bnd (pu h0 (bin Try.prog .lss 2 false v0 x0)) fun v1 h1 =>
  bnd (pu h1 (bin Try.prog .gtr 2 true x1 (.int .i64 0))) fun v2 h2 =>
  bnd (pu h2 (bin Try.prog .eql 4 false v1 v2)) fun v3 h3 =>
  bnd (gd v3 false h3 (some (x1, h3))) fun v4 h4 =>
  bnd (gd v3 false h4 (pu h4 (bin Try.prog .eql 2 true v4 (.int .i64 0)))) fun v5 h5 =>
  bnd (pu h5 (pickA v3 (.bool true) v5)) fun v6 h6 =>
  finV [v0, v6] h.length h6)
noncomputable def alembicref17_Less.f (G : Globs) : Nat → Den
  | 0 => fun _ _ => none
  | k + 1 => fun args h => arg2 args fun x0 x1 => (alembicref17_Less.c G k (alembicref17_Less.f G k) x0 x1 h)
theorem alembicref17_Less.step (G : Globs) (k : Nat) (x0 x1 : AV) (h : AHeap) : alembicref17_Less.f G (k + 1) [x0, x1] h = alembicref17_Less.c G k (alembicref17_Less.f G k) x0 x1 h := rfl
/-! alembic/alembicref17.Sub: function 25 -/
noncomputable def alembicref17_Sub.ann : Ann := mkAnn [] [] [] []
noncomputable def alembicref17_Sub.env (G : Globs) (k : Nat) (self : Den) : List (Nat × Bool × Den) := [(35, true, alembicref17_Less.f G k)]
noncomputable def alembicref17_Sub.c (G : Globs) (k : Nat) (self : Den) (x0 x1 : AV) (h : AHeap) : Option (AV × AHeap) := outV (
  bnd (boxRoA x0 h) fun v0 h0 =>
  bnd (boxRoA x1 h0) fun v1 h1 =>
  bnd (boxA 24 (.agg [(.int .i64 0), (.int .i64 0)]) h1) fun v2 h2 =>
  bnd (pu h2 (fieldAddrV 0 v0)) fun v3 h3 =>
  bnd (pu h3 (loadV G false 1 v3 h3)) fun v4 h4 =>
  bnd (pu h4 (fieldAddrV 1 v1)) fun v5 h5 =>
  bnd (pu h5 (loadV G false 1 v5 h5)) fun v6 h6 =>
  bnd (pureCall (alembicref17_Less.f G k) [v4, v6] h6) fun v7 h7 =>
  bnd (pu h7 (extractA v7 0)) fun v8 h8 =>
  bnd (pu h8 (extractA v7 1)) fun v9 h9 =>
  bnd (pu h9 (fieldAddrV 1 v0)) fun v10 h10 =>
  bnd (pu h10 (loadV G false 1 v10 h10)) fun v11 h11 =>
  bnd (pu h11 (fieldAddrV 0 v1)) fun v12 h12 =>
  bnd (pu h12 (loadV G false 1 v12 h12)) fun v13 h13 =>
  bnd (pureCall (alembicref17_Less.f G k) [v11, v13] h13) fun v14 h14 =>
  bnd (pu h14 (extractA v14 0)) fun v15 h15 =>
  bnd (pu h15 (extractA v14 1)) fun v16 h16 =>
  bnd (pu h16 (un .not v9)) fun v17 h17 =>
  bnd (gd v17 false h17 (some (v16, h17))) fun v18 h18 =>
  bnd (gd v17 false h18 (pu h18 (un .not v18))) fun v19 h19 =>
  bnd (pu h19 (pickA v17 (.bool true) v19)) fun v20 h20 =>
  condA v20
  (bnd (pu h20 (buildSt [(0, 1), (1, 1)] [(.int .i64 0), (.int .i64 0)] [])) fun v21 h21 =>
  bnd (stS (storeV 2 v2 v21 h21)) fun v22 h22 =>
  finL [loadV G true 2 v2 h22, some (.bool false)] h.length h22)
  (bnd (pu h20 (buildSt [(0, 1), (1, 1)] [(.int .i64 0), (.int .i64 0)] [(0, v8), (1, v15)])) fun v23 h23 =>
  bnd (stS (storeV 2 v2 v23 h23)) fun v24 h24 =>
  finL [loadV G true 2 v2 h24, some (.bool true)] h.length h24))
noncomputable def alembicref17_Sub.f (G : Globs) : Nat → Den
  | 0 => fun _ _ => none
  | k + 1 => fun args h => arg2 args fun x0 x1 => (alembicref17_Sub.c G k (alembicref17_Sub.f G k) x0 x1 h)
theorem alembicref17_Sub.step (G : Globs) (k : Nat) (x0 x1 : AV) (h : AHeap) : alembicref17_Sub.f G (k + 1) [x0, x1] h = alembicref17_Sub.c G k (alembicref17_Sub.f G k) x0 x1 h := rfl
/-! alembic/alembicref17.And: function 27 -/
noncomputable def alembicref17_And.ann : Ann := mkAnn [] [] [] []
noncomputable def alembicref17_And.env (G : Globs) (k : Nat) (self : Den) : List (Nat × Bool × Den) := []
noncomputable def alembicref17_And.c (G : Globs) (k : Nat) (self : Den) (x0 x1 : AV) (h : AHeap) : Option (AV × AHeap) := outV (
  bnd (boxRoA x0 h) fun v0 h0 =>
  bnd (boxRoA x1 h0) fun v1 h1 =>
  bnd (boxA 24 (.agg [(.int .i64 0), (.int .i64 0)]) h1) fun v2 h2 =>
  bnd (pu h2 (fieldAddrV 0 v0)) fun v3 h3 =>
  bnd (pu h3 (loadV G false 1 v3 h3)) fun v4 h4 =>
  bnd (pu h4 (bin Try.prog .geq 2 true v4 (.int .i64 0))) fun v5 h5 =>
  bnd (gd v5 true h5 (pu h5 (fieldAddrV 0 v1))) fun v6 h6 =>
  bnd (gd v5 true h6 (pu h6 (loadV G false 1 v6 h6))) fun v7 h7 =>
  bnd (gd v5 true h7 (pu h7 (bin Try.prog .geq 2 true v7 (.int .i64 0)))) fun v8 h8 =>
  bnd (pu h8 (pickA v5 v8 (.bool false))) fun v9 h9 =>
  condA v9
  (bnd (pu h9 (fieldAddrV 1 v0)) fun v10 h10 =>
  bnd (pu h10 (loadV G false 1 v10 h10)) fun v11 h11 =>
  bnd (pu h11 (fieldAddrV 1 v1)) fun v12 h12 =>
  bnd (pu h12 (loadV G false 1 v12 h12)) fun v13 h13 =>
  bnd (pu h13 (foldA min2A v11 [v13])) fun v14 h14 =>
  bnd (pu h14 (buildSt [(0, 1), (1, 1)] [(.int .i64 0), (.int .i64 0)] [(1, v14)])) fun v15 h15 =>
  bnd (stS (storeV 2 v2 v15 h15)) fun v16 h16 =>
  finL [loadV G true 2 v2 h16] h.length h16)
  (bnd (pu h9 (fieldAddrV 0 v0)) fun v17 h17 =>
  bnd (pu h17 (loadV G false 1 v17 h17)) fun v18 h18 =>
  bnd (pu h18 (bin Try.prog .geq 2 true v18 (.int .i64 0))) fun v19 h19 =>
  condA v19
  (bnd (pu h19 (fieldAddrV 1 v0)) fun v20 h20 =>
  bnd (pu h20 (loadV G false 1 v20 h20)) fun v21 h21 =>
  bnd (pu h21 (buildSt [(0, 1), (1, 1)] [(.int .i64 0), (.int .i64 0)] [(1, v21)])) fun v22 h22 =>
  bnd (stS (storeV 2 v2 v22 h22)) fun v23 h23 =>
  finL [loadV G true 2 v2 h23] h.length h23)
  (bnd (pu h19 (fieldAddrV 0 v1)) fun v24 h24 =>
  bnd (pu h24 (loadV G false 1 v24 h24)) fun v25 h25 =>
  bnd (pu h25 (bin Try.prog .geq 2 true v25 (.int .i64 0))) fun v26 h26 =>
  condA v26
  (bnd (pu h26 (fieldAddrV 1 v1)) fun v27 h27 =>
  bnd (pu h27 (loadV G false 1 v27 h27)) fun v28 h28 =>
  bnd (pu h28 (buildSt [(0, 1), (1, 1)] [(.int .i64 0), (.int .i64 0)] [(1, v28)])) fun v29 h29 =>
  bnd (stS (storeV 2 v2 v29 h29)) fun v30 h30 =>
  finL [loadV G true 2 v2 h30] h.length h30)
  (bnd (pu h26 (buildSt [(0, 1), (1, 1)] [(.int .i64 0), (.int .i64 0)] [(0, (.int .i64 (-9223372036854775808))), (1, (.int .i64 9223372036854775807))])) fun v31 h31 =>
  bnd (stS (storeV 2 v2 v31 h31)) fun v32 h32 =>
  finL [loadV G true 2 v2 h32] h.length h32))))
noncomputable def alembicref17_And.f (G : Globs) : Nat → Den
  | 0 => fun _ _ => none
  | k + 1 => fun args h => arg2 args fun x0 x1 => (alembicref17_And.c G k (alembicref17_And.f G k) x0 x1 h)
theorem alembicref17_And.step (G : Globs) (k : Nat) (x0 x1 : AV) (h : AHeap) : alembicref17_And.f G (k + 1) [x0, x1] h = alembicref17_And.c G k (alembicref17_And.f G k) x0 x1 h := rfl
/-! alembic/alembiclaw16.SpanSays: function 6 -/
noncomputable def alembiclaw16_SpanSays.ann : Ann := mkAnn [] [] [] []
noncomputable def alembiclaw16_SpanSays.env (G : Globs) (k : Nat) (self : Den) : List (Nat × Bool × Den) := [(7, true, alembiclaw16_first.f G k), (9, true, span_Add.f G k), (10, true, span_Sub.f G k), (11, true, span_Mul.f G k), (12, true, span_Shl.f G k), (13, true, span_Is.f G k), (14, true, alembiclaw16_same.f G k), (15, true, span_Join.f G k), (16, true, span_Within.f G k), (19, true, span_Sar.f G k), (20, true, span_And.f G k), (21, true, alembicref17_Is.f G k), (22, true, alembicref17_Shl.f G k), (23, true, alembicref17_Sar.f G k), (24, true, alembicref17_Add.f G k), (25, true, alembicref17_Sub.f G k), (26, true, alembicref17_Mul.f G k), (27, true, alembicref17_And.f G k), (28, true, alembicref17_Join.f G k)]
noncomputable def alembiclaw16_SpanSays.c (G : Globs) (k : Nat) (self : Den) (x0 x1 x2 : AV) (h : AHeap) : Option (AV × AHeap) := outV (
  bnd (boxRoA x0 h) fun v0 h0 =>
  bnd (boxRoA x1 h0) fun v1 h1 =>
  bnd (pureCall (alembiclaw16_first.f G k) [] h1) fun v2 h2 =>
  bnd (pu h2 (un .not v2)) fun v3 h3 =>
  condA v3
  (finV [(.bool false)] h.length h3)
  (bnd (pu h3 (loadV G true 2 v0 h3)) fun v4 h4 =>
  bnd (pu h4 (loadV G true 2 v1 h4)) fun v5 h5 =>
  bnd (pureCall (span_Add.f G k) [v4, v5] h5) fun v6 h6 =>
  bnd (pu h6 (extractA v6 0)) fun v7 h7 =>
  bnd (pu h7 (extractA v6 1)) fun v8 h8 =>
  bnd (boxA 24 (.agg [(.int .i64 0), (.int .i64 0)]) h8) fun v9 h9 =>
  bnd (stS (storeV 2 v9 v7 h9)) fun v10 h10 =>
  bnd (pu h10 (loadV G true 2 v0 h10)) fun v11 h11 =>
  bnd (pu h11 (loadV G true 2 v1 h11)) fun v12 h12 =>
  bnd (pureCall (span_Sub.f G k) [v11, v12] h12) fun v13 h13 =>
  bnd (pu h13 (extractA v13 0)) fun v14 h14 =>
  bnd (pu h14 (extractA v13 1)) fun v15 h15 =>
  bnd (boxA 24 (.agg [(.int .i64 0), (.int .i64 0)]) h15) fun v16 h16 =>
  bnd (stS (storeV 2 v16 v14 h16)) fun v17 h17 =>
  bnd (pu h17 (loadV G true 2 v0 h17)) fun v18 h18 =>
  bnd (pu h18 (loadV G true 2 v1 h18)) fun v19 h19 =>
  bnd (pureCall (span_Mul.f G k) [v18, v19] h19) fun v20 h20 =>
  bnd (pu h20 (extractA v20 0)) fun v21 h21 =>
  bnd (pu h21 (extractA v20 1)) fun v22 h22 =>
  bnd (boxA 24 (.agg [(.int .i64 0), (.int .i64 0)]) h22) fun v23 h23 =>
  bnd (stS (storeV 2 v23 v21 h23)) fun v24 h24 =>
  bnd (pu h24 (loadV G true 2 v0 h24)) fun v25 h25 =>
  bnd (pureCall (span_Shl.f G k) [v25, x2] h25) fun v26 h26 =>
  bnd (pu h26 (extractA v26 0)) fun v27 h27 =>
  bnd (pu h27 (extractA v26 1)) fun v28 h28 =>
  bnd (boxA 24 (.agg [(.int .i64 0), (.int .i64 0)]) h28) fun v29 h29 =>
  bnd (stS (storeV 2 v29 v27 h29)) fun v30 h30 =>
  bnd (pu h30 (loadV G true 2 v0 h30)) fun v31 h31 =>
  bnd (pureCall (span_Is.f G k) [v31] h31) fun v32 h32 =>
  bnd (pu h32 (loadV G true 2 v0 h32)) fun v33 h33 =>
  bnd (pureCall (alembicref17_Is.f G k) [v33] h33) fun v34 h34 =>
  bnd (pu h34 (bin Try.prog .neq 4 false v32 v34)) fun v35 h35 =>
  bnd (gd v35 false h35 (pu h35 (loadV G true 2 v1 h35))) fun v36 h36 =>
  bnd (gd v35 false h36 (pureCall (span_Is.f G k) [v36] h36)) fun v37 h37 =>
  bnd (gd v35 false h37 (pu h37 (loadV G true 2 v1 h37))) fun v38 h38 =>
  bnd (gd v35 false h38 (pureCall (alembicref17_Is.f G k) [v38] h38)) fun v39 h39 =>
  bnd (gd v35 false h39 (pu h39 (bin Try.prog .neq 4 false v37 v39))) fun v40 h40 =>
  bnd (pu h40 (pickA v35 (.bool true) v40)) fun v41 h41 =>
  condA v41
  (finV [(.bool false)] h.length h41)
  (bnd (boxA 24 (.agg [(.int .i64 0), (.int .i64 0)]) h41) fun v42 h42 =>
  bnd (pu h42 (loadV G true 2 v0 h42)) fun v43 h43 =>
  bnd (pureCall (alembicref17_Is.f G k) [v43] h43) fun v44 h44 =>
  bnd (pu h44 (un .not v44)) fun v45 h45 =>
  condA v45
  (bnd (gd v2 true h45 (some (v8, h45))) fun v46 h46 =>
  bnd (gd v2 true h46 (pu h46 (un .not v46))) fun v47 h47 =>
  bnd (pu h47 (pickA v2 v47 (.bool false))) fun v48 h48 =>
  bnd (gd v48 true h48 (some (v15, h48))) fun v49 h49 =>
  bnd (gd v48 true h49 (pu h49 (un .not v49))) fun v50 h50 =>
  bnd (pu h50 (pickA v48 v50 (.bool false))) fun v51 h51 =>
  bnd (gd v51 true h51 (some (v22, h51))) fun v52 h52 =>
  bnd (gd v51 true h52 (pu h52 (un .not v52))) fun v53 h53 =>
  bnd (pu h53 (pickA v51 v53 (.bool false))) fun v54 h54 =>
  bnd (gd v54 true h54 (some (v28, h54))) fun v55 h55 =>
  bnd (gd v54 true h55 (pu h55 (un .not v55))) fun v56 h56 =>
  bnd (pu h56 (pickA v54 v56 (.bool false))) fun v57 h57 =>
  bnd (gd v57 true h57 (pu h57 (loadV G true 2 v9 h57))) fun v58 h58 =>
  bnd (gd v57 true h58 (pu h58 (loadV G true 2 v42 h58))) fun v59 h59 =>
  bnd (gd v57 true h59 (pureCall (alembiclaw16_same.f G k) [v58, v59] h59)) fun v60 h60 =>
  bnd (pu h60 (pickA v57 v60 (.bool false))) fun v61 h61 =>
  bnd (gd v61 true h61 (pu h61 (loadV G true 2 v16 h61))) fun v62 h62 =>
  bnd (gd v61 true h62 (pu h62 (loadV G true 2 v42 h62))) fun v63 h63 =>
  bnd (gd v61 true h63 (pureCall (alembiclaw16_same.f G k) [v62, v63] h63)) fun v64 h64 =>
  bnd (pu h64 (pickA v61 v64 (.bool false))) fun v65 h65 =>
  bnd (gd v65 true h65 (pu h65 (loadV G true 2 v23 h65))) fun v66 h66 =>
  bnd (gd v65 true h66 (pu h66 (loadV G true 2 v42 h66))) fun v67 h67 =>
  bnd (gd v65 true h67 (pureCall (alembiclaw16_same.f G k) [v66, v67] h67)) fun v68 h68 =>
  bnd (pu h68 (pickA v65 v68 (.bool false))) fun v69 h69 =>
  bnd (gd v69 true h69 (pu h69 (loadV G true 2 v29 h69))) fun v70 h70 =>
  bnd (gd v69 true h70 (pu h70 (loadV G true 2 v42 h70))) fun v71 h71 =>
  bnd (gd v69 true h71 (pureCall (alembiclaw16_same.f G k) [v70, v71] h71)) fun v72 h72 =>
  bnd (pu h72 (pickA v69 v72 (.bool false))) fun v73 h73 =>
  bnd (gd v73 true h73 (pu h73 (loadV G true 2 v0 h73))) fun v74 h74 =>
  bnd (gd v73 true h74 (some (x2, h74))) fun v75 h75 =>
  bnd (gd v73 true h75 (pureCall (span_Sar.f G k) [v74, v75] h75)) fun v76 h76 =>
  bnd (gd v73 true h76 (pu h76 (loadV G true 2 v42 h76))) fun v77 h77 =>
  bnd (gd v73 true h77 (pureCall (alembiclaw16_same.f G k) [v76, v77] h77)) fun v78 h78 =>
  bnd (pu h78 (pickA v73 v78 (.bool false))) fun v79 h79 =>
  bnd (gd v79 true h79 (pu h79 (loadV G true 2 v0 h79))) fun v80 h80 =>
  bnd (gd v79 true h80 (pu h80 (loadV G true 2 v1 h80))) fun v81 h81 =>
  bnd (gd v79 true h81 (pureCall (span_And.f G k) [v80, v81] h81)) fun v82 h82 =>
  bnd (gd v79 true h82 (pu h82 (loadV G true 2 v42 h82))) fun v83 h83 =>
  bnd (gd v79 true h83 (pureCall (alembiclaw16_same.f G k) [v82, v83] h83)) fun v84 h84 =>
  bnd (pu h84 (pickA v79 v84 (.bool false))) fun v85 h85 =>
  bnd (gd v85 true h85 (pu h85 (loadV G true 2 v0 h85))) fun v86 h86 =>
  bnd (gd v85 true h86 (pu h86 (loadV G true 2 v1 h86))) fun v87 h87 =>
  bnd (gd v85 true h87 (pureCall (span_Join.f G k) [v86, v87] h87)) fun v88 h88 =>
  bnd (gd v85 true h88 (pu h88 (loadV G true 2 v42 h88))) fun v89 h89 =>
  bnd (gd v85 true h89 (pureCall (alembiclaw16_same.f G k) [v88, v89] h89)) fun v90 h90 =>
  bnd (pu h90 (pickA v85 v90 (.bool false))) fun v91 h91 =>
  bnd (gd v91 true h91 (pu h91 (loadV G true 2 v0 h91))) fun v92 h92 =>
  bnd (gd v91 true h92 (pu h92 (loadV G true 2 v1 h92))) fun v93 h93 =>
  bnd (gd v91 true h93 (pureCall (span_Within.f G k) [v92, v93] h93)) fun v94 h94 =>
  bnd (gd v91 true h94 (pu h94 (un .not v94))) fun v95 h95 =>
  bnd (pu h95 (pickA v91 v95 (.bool false))) fun v96 h96 =>
  finV [v96] h.length h96)
  (bnd (pu h45 (loadV G true 2 v0 h45)) fun v97 h97 =>
  bnd (pureCall (alembicref17_Shl.f G k) [v97, x2] h97) fun v98 h98 =>
  bnd (pu h98 (extractA v98 0)) fun v99 h99 =>
  bnd (pu h99 (extractA v98 1)) fun v100 h100 =>
  bnd (boxA 24 (.agg [(.int .i64 0), (.int .i64 0)]) h100) fun v101 h101 =>
  bnd (stS (storeV 2 v101 v99 h101)) fun v102 h102 =>
  bnd (pu h102 (loadV G true 2 v29 h102)) fun v103 h103 =>
  bnd (pu h103 (loadV G true 2 v101 h103)) fun v104 h104 =>
  bnd (pureCall (alembiclaw16_same.f G k) [v103, v104] h104) fun v105 h105 =>
  bnd (pu h105 (un .not v105)) fun v106 h106 =>
  bnd (gd v106 false h106 (some (v28, h106))) fun v107 h107 =>
  bnd (gd v106 false h107 (some (v100, h107))) fun v108 h108 =>
  bnd (gd v106 false h108 (pu h108 (bin Try.prog .neq 4 false v107 v108))) fun v109 h109 =>
  bnd (pu h109 (pickA v106 (.bool true) v109)) fun v110 h110 =>
  bnd (gd v110 false h110 (pu h110 (loadV G true 2 v0 h110))) fun v111 h111 =>
  bnd (gd v110 false h111 (some (x2, h111))) fun v112 h112 =>
  bnd (gd v110 false h112 (pureCall (span_Sar.f G k) [v111, v112] h112)) fun v113 h113 =>
  bnd (gd v110 false h113 (pu h113 (loadV G true 2 v0 h113))) fun v114 h114 =>
  bnd (gd v110 false h114 (some (x2, h114))) fun v115 h115 =>
  bnd (gd v110 false h115 (pureCall (alembicref17_Sar.f G k) [v114, v115] h115)) fun v116 h116 =>
  bnd (gd v110 false h116 (pureCall (alembiclaw16_same.f G k) [v113, v116] h116)) fun v117 h117 =>
  bnd (gd v110 false h117 (pu h117 (un .not v117))) fun v118 h118 =>
  bnd (pu h118 (pickA v110 (.bool true) v118)) fun v119 h119 =>
  condA v119
  (finV [(.bool false)] h.length h119)
  (bnd (pu h119 (loadV G true 2 v1 h119)) fun v120 h120 =>
  bnd (pureCall (alembicref17_Is.f G k) [v120] h120) fun v121 h121 =>
  bnd (pu h121 (un .not v121)) fun v122 h122 =>
  condA v122
  (bnd (gd v2 true h122 (some (v8, h122))) fun v123 h123 =>
  bnd (gd v2 true h123 (pu h123 (un .not v123))) fun v124 h124 =>
  bnd (pu h124 (pickA v2 v124 (.bool false))) fun v125 h125 =>
  bnd (gd v125 true h125 (some (v15, h125))) fun v126 h126 =>
  bnd (gd v125 true h126 (pu h126 (un .not v126))) fun v127 h127 =>
  bnd (pu h127 (pickA v125 v127 (.bool false))) fun v128 h128 =>
  bnd (gd v128 true h128 (some (v22, h128))) fun v129 h129 =>
  bnd (gd v128 true h129 (pu h129 (un .not v129))) fun v130 h130 =>
  bnd (pu h130 (pickA v128 v130 (.bool false))) fun v131 h131 =>
  bnd (gd v131 true h131 (pu h131 (loadV G true 2 v9 h131))) fun v132 h132 =>
  bnd (gd v131 true h132 (pu h132 (loadV G true 2 v42 h132))) fun v133 h133 =>
  bnd (gd v131 true h133 (pureCall (alembiclaw16_same.f G k) [v132, v133] h133)) fun v134 h134 =>
  bnd (pu h134 (pickA v131 v134 (.bool false))) fun v135 h135 =>
  bnd (gd v135 true h135 (pu h135 (loadV G true 2 v0 h135))) fun v136 h136 =>
  bnd (gd v135 true h136 (pu h136 (loadV G true 2 v1 h136))) fun v137 h137 =>
  bnd (gd v135 true h137 (pureCall (span_And.f G k) [v136, v137] h137)) fun v138 h138 =>
  bnd (gd v135 true h138 (pu h138 (loadV G true 2 v42 h138))) fun v139 h139 =>
  bnd (gd v135 true h139 (pureCall (alembiclaw16_same.f G k) [v138, v139] h139)) fun v140 h140 =>
  bnd (pu h140 (pickA v135 v140 (.bool false))) fun v141 h141 =>
  bnd (gd v141 true h141 (pu h141 (loadV G true 2 v0 h141))) fun v142 h142 =>
  bnd (gd v141 true h142 (pu h142 (loadV G true 2 v1 h142))) fun v143 h143 =>
  bnd (gd v141 true h143 (pureCall (span_Join.f G k) [v142, v143] h143)) fun v144 h144 =>
  bnd (gd v141 true h144 (pu h144 (loadV G true 2 v42 h144))) fun v145 h145 =>
  bnd (gd v141 true h145 (pureCall (alembiclaw16_same.f G k) [v144, v145] h145)) fun v146 h146 =>
  bnd (pu h146 (pickA v141 v146 (.bool false))) fun v147 h147 =>
  bnd (gd v147 true h147 (pu h147 (loadV G true 2 v0 h147))) fun v148 h148 =>
  bnd (gd v147 true h148 (pu h148 (loadV G true 2 v1 h148))) fun v149 h149 =>
  bnd (gd v147 true h149 (pureCall (span_Within.f G k) [v148, v149] h149)) fun v150 h150 =>
  bnd (gd v147 true h150 (pu h150 (un .not v150))) fun v151 h151 =>
  bnd (pu h151 (pickA v147 v151 (.bool false))) fun v152 h152 =>
  finV [v152] h.length h152)
  (bnd (pu h122 (loadV G true 2 v0 h122)) fun v153 h153 =>
  bnd (pu h153 (loadV G true 2 v1 h153)) fun v154 h154 =>
  bnd (pureCall (alembicref17_Add.f G k) [v153, v154] h154) fun v155 h155 =>
  bnd (pu h155 (extractA v155 0)) fun v156 h156 =>
  bnd (pu h156 (extractA v155 1)) fun v157 h157 =>
  bnd (boxA 24 (.agg [(.int .i64 0), (.int .i64 0)]) h157) fun v158 h158 =>
  bnd (stS (storeV 2 v158 v156 h158)) fun v159 h159 =>
  bnd (pu h159 (loadV G true 2 v0 h159)) fun v160 h160 =>
  bnd (pu h160 (loadV G true 2 v1 h160)) fun v161 h161 =>
  bnd (pureCall (alembicref17_Sub.f G k) [v160, v161] h161) fun v162 h162 =>
  bnd (pu h162 (extractA v162 0)) fun v163 h163 =>
  bnd (pu h163 (extractA v162 1)) fun v164 h164 =>
  bnd (boxA 24 (.agg [(.int .i64 0), (.int .i64 0)]) h164) fun v165 h165 =>
  bnd (stS (storeV 2 v165 v163 h165)) fun v166 h166 =>
  bnd (pu h166 (loadV G true 2 v0 h166)) fun v167 h167 =>
  bnd (pu h167 (loadV G true 2 v1 h167)) fun v168 h168 =>
  bnd (pureCall (alembicref17_Mul.f G k) [v167, v168] h168) fun v169 h169 =>
  bnd (pu h169 (extractA v169 0)) fun v170 h170 =>
  bnd (pu h170 (extractA v169 1)) fun v171 h171 =>
  bnd (boxA 24 (.agg [(.int .i64 0), (.int .i64 0)]) h171) fun v172 h172 =>
  bnd (stS (storeV 2 v172 v170 h172)) fun v173 h173 =>
  bnd (gd v2 true h173 (pu h173 (loadV G true 2 v9 h173))) fun v174 h174 =>
  bnd (gd v2 true h174 (pu h174 (loadV G true 2 v158 h174))) fun v175 h175 =>
  bnd (gd v2 true h175 (pureCall (alembiclaw16_same.f G k) [v174, v175] h175)) fun v176 h176 =>
  bnd (pu h176 (pickA v2 v176 (.bool false))) fun v177 h177 =>
  bnd (gd v177 true h177 (some (v8, h177))) fun v178 h178 =>
  bnd (gd v177 true h178 (some (v157, h178))) fun v179 h179 =>
  bnd (gd v177 true h179 (pu h179 (bin Try.prog .eql 4 false v178 v179))) fun v180 h180 =>
  bnd (pu h180 (pickA v177 v180 (.bool false))) fun v181 h181 =>
  bnd (gd v181 true h181 (pu h181 (loadV G true 2 v16 h181))) fun v182 h182 =>
  bnd (gd v181 true h182 (pu h182 (loadV G true 2 v165 h182))) fun v183 h183 =>
  bnd (gd v181 true h183 (pureCall (alembiclaw16_same.f G k) [v182, v183] h183)) fun v184 h184 =>
  bnd (pu h184 (pickA v181 v184 (.bool false))) fun v185 h185 =>
  bnd (gd v185 true h185 (some (v15, h185))) fun v186 h186 =>
  bnd (gd v185 true h186 (some (v164, h186))) fun v187 h187 =>
  bnd (gd v185 true h187 (pu h187 (bin Try.prog .eql 4 false v186 v187))) fun v188 h188 =>
  bnd (pu h188 (pickA v185 v188 (.bool false))) fun v189 h189 =>
  bnd (gd v189 true h189 (pu h189 (loadV G true 2 v23 h189))) fun v190 h190 =>
  bnd (gd v189 true h190 (pu h190 (loadV G true 2 v172 h190))) fun v191 h191 =>
  bnd (gd v189 true h191 (pureCall (alembiclaw16_same.f G k) [v190, v191] h191)) fun v192 h192 =>
  bnd (pu h192 (pickA v189 v192 (.bool false))) fun v193 h193 =>
  bnd (gd v193 true h193 (some (v22, h193))) fun v194 h194 =>
  bnd (gd v193 true h194 (some (v171, h194))) fun v195 h195 =>
  bnd (gd v193 true h195 (pu h195 (bin Try.prog .eql 4 false v194 v195))) fun v196 h196 =>
  bnd (pu h196 (pickA v193 v196 (.bool false))) fun v197 h197 =>
  bnd (gd v197 true h197 (pu h197 (loadV G true 2 v0 h197))) fun v198 h198 =>
  bnd (gd v197 true h198 (pu h198 (loadV G true 2 v1 h198))) fun v199 h199 =>
  bnd (gd v197 true h199 (pureCall (span_And.f G k) [v198, v199] h199)) fun v200 h200 =>
  bnd (gd v197 true h200 (pu h200 (loadV G true 2 v0 h200))) fun v201 h201 =>
  bnd (gd v197 true h201 (pu h201 (loadV G true 2 v1 h201))) fun v202 h202 =>
  bnd (gd v197 true h202 (pureCall (alembicref17_And.f G k) [v201, v202] h202)) fun v203 h203 =>
  bnd (gd v197 true h203 (pureCall (alembiclaw16_same.f G k) [v200, v203] h203)) fun v204 h204 =>
  bnd (pu h204 (pickA v197 v204 (.bool false))) fun v205 h205 =>
  bnd (gd v205 true h205 (pu h205 (loadV G true 2 v0 h205))) fun v206 h206 =>
  bnd (gd v205 true h206 (pu h206 (loadV G true 2 v1 h206))) fun v207 h207 =>
  bnd (gd v205 true h207 (pureCall (span_Join.f G k) [v206, v207] h207)) fun v208 h208 =>
  bnd (gd v205 true h208 (pu h208 (loadV G true 2 v0 h208))) fun v209 h209 =>
  bnd (gd v205 true h209 (pu h209 (loadV G true 2 v1 h209))) fun v210 h210 =>
  bnd (gd v205 true h210 (pureCall (alembicref17_Join.f G k) [v209, v210] h210)) fun v211 h211 =>
  bnd (gd v205 true h211 (pureCall (alembiclaw16_same.f G k) [v208, v211] h211)) fun v212 h212 =>
  bnd (pu h212 (pickA v205 v212 (.bool false))) fun v213 h213 =>
  bnd (gd v213 true h213 (pu h213 (loadV G true 2 v0 h213))) fun v214 h214 =>
  bnd (gd v213 true h214 (pu h214 (loadV G true 2 v1 h214))) fun v215 h215 =>
  bnd (gd v213 true h215 (pureCall (span_Within.f G k) [v214, v215] h215)) fun v216 h216 =>
  bnd (gd v213 true h216 (pu h216 (fieldAddrV 0 v0))) fun v217 h217 =>
  bnd (gd v213 true h217 (pu h217 (loadV G false 1 v217 h217))) fun v218 h218 =>
  bnd (gd v213 true h218 (pu h218 (fieldAddrV 0 v1))) fun v219 h219 =>
  bnd (gd v213 true h219 (pu h219 (loadV G false 1 v219 h219))) fun v220 h220 =>
  bnd (gd v213 true h220 (pu h220 (bin Try.prog .geq 2 false v218 v220))) fun v221 h221 =>
  bnd (gd v213 true h221 (some (v221, h221))) fun v222 h222 =>
  bnd (gd v222 true h222 (pu h222 (fieldAddrV 1 v0))) fun v223 h223 =>
  bnd (gd v222 true h223 (pu h223 (loadV G false 1 v223 h223))) fun v224 h224 =>
  bnd (gd v222 true h224 (pu h224 (fieldAddrV 1 v1))) fun v225 h225 =>
  bnd (gd v222 true h225 (pu h225 (loadV G false 1 v225 h225))) fun v226 h226 =>
  bnd (gd v222 true h226 (pu h226 (bin Try.prog .leq 2 false v224 v226))) fun v227 h227 =>
  bnd (gd v213 true h227 (pu h227 (pickA v222 v227 (.bool false)))) fun v228 h228 =>
  bnd (gd v213 true h228 (pu h228 (bin Try.prog .eql 4 false v216 v228))) fun v229 h229 =>
  bnd (pu h229 (pickA v213 v229 (.bool false))) fun v230 h230 =>
  finV [v230] h.length h230))))))
noncomputable def alembiclaw16_SpanSays.f (G : Globs) : Nat → Den
  | 0 => fun _ _ => none
  | k + 1 => fun args h => arg3 args fun x0 x1 x2 => (alembiclaw16_SpanSays.c G k (alembiclaw16_SpanSays.f G k) x0 x1 x2 h)
theorem alembiclaw16_SpanSays.step (G : Globs) (k : Nat) (x0 x1 x2 : AV) (h : AHeap) : alembiclaw16_SpanSays.f G (k + 1) [x0, x1, x2] h = alembiclaw16_SpanSays.c G k (alembiclaw16_SpanSays.f G k) x0 x1 x2 h := rfl
end Go.Proofs.Ytemkaggjbhpbbaa.Mir
