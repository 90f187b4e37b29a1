/- Part 3 of the proof: the functions that the statement reaches, and their contracts. -/
import Derived.Test.YtdfglgnflldkpaaDoorVd2
import Derived.Test.YtdfglgnflldkpaaDoorProg
namespace Go.Proofs.YtdfglgnflldkpaaDoor.Mir
open Go
set_option linter.unusedVariables false
/-! alembic/isa.two: function 92 -/
noncomputable def isa_two.ann : Ann := mkAnn [] [] [] []
noncomputable def isa_two.env (G : Globs) (k : Nat) (self : Den) : List (Nat × Bool × Den) := []
noncomputable def isa_two.c (G : Globs) (k : Nat) (self : Den) (x0 x1 x2 : AV) (h : AHeap) : Option (AV × AHeap) := outV (
  bnd (boxA 141 (.agg [(.str ⟨#[]⟩), (.int .u32 0), (.bool false), (.bool false), (.bool false), (.bool false), (.int .i64 0)]) h) fun v0 h0 =>
  bnd (pu h0 (buildSt [(0, 1), (1, 1), (2, 1), (3, 1), (4, 1), (5, 1), (6, 1)] [(.str ⟨#[]⟩), (.int .u32 0), (.bool false), (.bool false), (.bool false), (.bool false), (.int .i64 0)] [(0, x0), (1, x1), (2, (.bool true)), (3, (.bool true)), (6, x2)])) fun v1 h1 =>
  bnd (stS (storeV 7 v0 v1 h1)) fun v2 h2 =>
  finL [loadV G true 7 v0 h2] h.length h2)
noncomputable def isa_two.f (G : Globs) : Nat → Den
  | 0 => fun _ _ => none
  | k + 1 => fun args h => arg3 args fun x0 x1 x2 => (isa_two.c G k (isa_two.f G k) x0 x1 x2 h)
/-! alembic/isa.three: function 107 -/
noncomputable def isa_three.ann : Ann := mkAnn [] [] [] []
noncomputable def isa_three.env (G : Globs) (k : Nat) (self : Den) : List (Nat × Bool × Den) := []
noncomputable def isa_three.c (G : Globs) (k : Nat) (self : Den) (x0 x1 : AV) (h : AHeap) : Option (AV × AHeap) := outV (
  bnd (boxA 141 (.agg [(.str ⟨#[]⟩), (.int .u32 0), (.bool false), (.bool false), (.bool false), (.bool false), (.int .i64 0)]) h) fun v0 h0 =>
  bnd (pu h0 (buildSt [(0, 1), (1, 1), (2, 1), (3, 1), (4, 1), (5, 1), (6, 1)] [(.str ⟨#[]⟩), (.int .u32 0), (.bool false), (.bool false), (.bool false), (.bool false), (.int .i64 0)] [(0, x0), (1, x1), (2, (.bool true)), (3, (.bool true)), (4, (.bool true))])) fun v1 h1 =>
  bnd (stS (storeV 7 v0 v1 h1)) fun v2 h2 =>
  finL [loadV G true 7 v0 h2] h.length h2)
noncomputable def isa_three.f (G : Globs) : Nat → Den
  | 0 => fun _ _ => none
  | k + 1 => fun args h => arg2 args fun x0 x1 => (isa_three.c G k (isa_three.f G k) x0 x1 h)
/-! alembic/isa.plain: function 93 -/
noncomputable def isa_plain.ann : Ann := mkAnn [] [] [] []
noncomputable def isa_plain.env (G : Globs) (k : Nat) (self : Den) : List (Nat × Bool × Den) := [(92, true, isa_two.f G k), (107, true, isa_three.f G k)]
noncomputable def isa_plain.c (G : Globs) (k : Nat) (self : Den) (x0 : AV) (h : AHeap) : Option (AV × AHeap) := outV (
  bnd (boxA 141 (.agg [(.str ⟨#[]⟩), (.int .u32 0), (.bool false), (.bool false), (.bool false), (.bool false), (.int .i64 0)]) h) fun v0 h0 =>
  bnd (pu h0 (bin Tryd.prog .eql 3 true x0 (.int .i64 1))) fun v1 h1 =>
  condA v1
  (bnd (pu h1 (buildSt [(0, 1), (1, 1), (2, 1), (3, 1), (4, 1), (5, 1), (6, 1)] [(.str ⟨#[]⟩), (.int .u32 0), (.bool false), (.bool false), (.bool false), (.bool false), (.int .i64 0)] [(0, (.str ⟨#[109, 111, 118, 122]⟩)), (1, (.int .u32 3531603968)), (2, (.bool true)), (5, (.bool true)), (6, (.int .i64 16))])) fun v2 h2 =>
  bnd (stS (storeV 7 v0 v2 h2)) fun v3 h3 =>
  finL [loadV G true 7 v0 h3, some (.bool true)] h.length h3)
  (bnd (pu h1 (bin Tryd.prog .eql 3 true x0 (.int .i64 2))) fun v4 h4 =>
  condA v4
  (bnd (pu h4 (buildSt [(0, 1), (1, 1), (2, 1), (3, 1), (4, 1), (5, 1), (6, 1)] [(.str ⟨#[]⟩), (.int .u32 0), (.bool false), (.bool false), (.bool false), (.bool false), (.int .i64 0)] [(0, (.str ⟨#[109, 111, 118, 107]⟩)), (1, (.int .u32 4068474880)), (2, (.bool true)), (5, (.bool true)), (6, (.int .i64 16))])) fun v5 h5 =>
  bnd (stS (storeV 7 v0 v5 h5)) fun v6 h6 =>
  finL [loadV G true 7 v0 h6, some (.bool true)] h.length h6)
  (bnd (pu h4 (bin Tryd.prog .eql 3 true x0 (.int .i64 3))) fun v7 h7 =>
  condA v7
  (bnd (pureCall (isa_three.f G k) [(.str ⟨#[97, 100, 100]⟩), (.int .u32 2332033024)] h7) fun v8 h8 =>
  bnd (stS (storeV 7 v0 v8 h8)) fun v9 h9 =>
  finL [loadV G true 7 v0 h9, some (.bool true)] h.length h9)
  (bnd (pu h7 (bin Tryd.prog .eql 3 true x0 (.int .i64 4))) fun v10 h10 =>
  condA v10
  (bnd (pureCall (isa_three.f G k) [(.str ⟨#[115, 117, 98]⟩), (.int .u32 3405774848)] h10) fun v11 h11 =>
  bnd (stS (storeV 7 v0 v11 h11)) fun v12 h12 =>
  finL [loadV G true 7 v0 h12, some (.bool true)] h.length h12)
  (bnd (pu h10 (bin Tryd.prog .eql 3 true x0 (.int .i64 5))) fun v13 h13 =>
  condA v13
  (bnd (pureCall (isa_three.f G k) [(.str ⟨#[97, 110, 100]⟩), (.int .u32 2315255808)] h13) fun v14 h14 =>
  bnd (stS (storeV 7 v0 v14 h14)) fun v15 h15 =>
  finL [loadV G true 7 v0 h15, some (.bool true)] h.length h15)
  (bnd (pu h13 (bin Tryd.prog .eql 3 true x0 (.int .i64 6))) fun v16 h16 =>
  condA v16
  (bnd (pureCall (isa_three.f G k) [(.str ⟨#[111, 114, 114]⟩), (.int .u32 2852126720)] h16) fun v17 h17 =>
  bnd (stS (storeV 7 v0 v17 h17)) fun v18 h18 =>
  finL [loadV G true 7 v0 h18, some (.bool true)] h.length h18)
  (bnd (pu h16 (bin Tryd.prog .eql 3 true x0 (.int .i64 7))) fun v19 h19 =>
  condA v19
  (bnd (pureCall (isa_three.f G k) [(.str ⟨#[101, 111, 114]⟩), (.int .u32 3388997632)] h19) fun v20 h20 =>
  bnd (stS (storeV 7 v0 v20 h20)) fun v21 h21 =>
  finL [loadV G true 7 v0 h21, some (.bool true)] h.length h21)
  (bnd (pu h19 (bin Tryd.prog .eql 3 true x0 (.int .i64 8))) fun v22 h22 =>
  condA v22
  (bnd (pu h22 (buildSt [(0, 1), (1, 1), (2, 1), (3, 1), (4, 1), (5, 1), (6, 1)] [(.str ⟨#[]⟩), (.int .u32 0), (.bool false), (.bool false), (.bool false), (.bool false), (.int .i64 0)] [(0, (.str ⟨#[109, 97, 100, 100]⟩)), (1, (.int .u32 2600468480)), (2, (.bool true)), (3, (.bool true)), (4, (.bool true)), (5, (.bool true))])) fun v23 h23 =>
  bnd (stS (storeV 7 v0 v23 h23)) fun v24 h24 =>
  finL [loadV G true 7 v0 h24, some (.bool true)] h.length h24)
  (bnd (pu h22 (bin Tryd.prog .eql 3 true x0 (.int .i64 9))) fun v25 h25 =>
  condA v25
  (bnd (pureCall (isa_three.f G k) [(.str ⟨#[117, 109, 117, 108, 104]⟩), (.int .u32 2613083136)] h25) fun v26 h26 =>
  bnd (stS (storeV 7 v0 v26 h26)) fun v27 h27 =>
  finL [loadV G true 7 v0 h27, some (.bool true)] h.length h27)
  (bnd (pu h25 (bin Tryd.prog .eql 3 true x0 (.int .i64 10))) fun v28 h28 =>
  condA v28
  (bnd (pureCall (isa_two.f G k) [(.str ⟨#[97, 100, 100, 105]⟩), (.int .u32 2432696320), (.int .i64 12)] h28) fun v29 h29 =>
  bnd (stS (storeV 7 v0 v29 h29)) fun v30 h30 =>
  finL [loadV G true 7 v0 h30, some (.bool true)] h.length h30)
  (bnd (pu h28 (bin Tryd.prog .eql 3 true x0 (.int .i64 11))) fun v31 h31 =>
  condA v31
  (bnd (pureCall (isa_two.f G k) [(.str ⟨#[115, 117, 98, 105]⟩), (.int .u32 3506438144), (.int .i64 12)] h31) fun v32 h32 =>
  bnd (stS (storeV 7 v0 v32 h32)) fun v33 h33 =>
  finL [loadV G true 7 v0 h33, some (.bool true)] h.length h33)
  (bnd (pu h31 (bin Tryd.prog .eql 3 true x0 (.int .i64 12))) fun v34 h34 =>
  condA v34
  (bnd (pureCall (isa_two.f G k) [(.str ⟨#[108, 115, 108]⟩), (.int .u32 3544186880), (.int .i64 6)] h34) fun v35 h35 =>
  bnd (stS (storeV 7 v0 v35 h35)) fun v36 h36 =>
  finL [loadV G true 7 v0 h36, some (.bool true)] h.length h36)
  (bnd (pu h34 (bin Tryd.prog .eql 3 true x0 (.int .i64 13))) fun v37 h37 =>
  condA v37
  (bnd (pureCall (isa_two.f G k) [(.str ⟨#[108, 115, 114]⟩), (.int .u32 3544186880), (.int .i64 6)] h37) fun v38 h38 =>
  bnd (stS (storeV 7 v0 v38 h38)) fun v39 h39 =>
  finL [loadV G true 7 v0 h39, some (.bool true)] h.length h39)
  (bnd (pu h37 (bin Tryd.prog .eql 3 true x0 (.int .i64 14))) fun v40 h40 =>
  condA v40
  (bnd (pureCall (isa_two.f G k) [(.str ⟨#[97, 115, 114]⟩), (.int .u32 2470509568), (.int .i64 6)] h40) fun v41 h41 =>
  bnd (stS (storeV 7 v0 v41 h41)) fun v42 h42 =>
  finL [loadV G true 7 v0 h42, some (.bool true)] h.length h42)
  (bnd (pu h40 (buildSt [(0, 1), (1, 1), (2, 1), (3, 1), (4, 1), (5, 1), (6, 1)] [(.str ⟨#[]⟩), (.int .u32 0), (.bool false), (.bool false), (.bool false), (.bool false), (.int .i64 0)] [])) fun v43 h43 =>
  bnd (stS (storeV 7 v0 v43 h43)) fun v44 h44 =>
  finL [loadV G true 7 v0 h44, some (.bool false)] h.length h44)))))))))))))))
noncomputable def isa_plain.f (G : Globs) : Nat → Den
  | 0 => fun _ _ => none
  | k + 1 => fun args h => arg1 args fun x0 => (isa_plain.c G k (isa_plain.f G k) x0 h)
/-! alembic/isa.of: function 70 -/
noncomputable def isa_of.ann : Ann := mkAnn [] [] [] []
noncomputable def isa_of.env (G : Globs) (k : Nat) (self : Den) : List (Nat × Bool × Den) := [(92, true, isa_two.f G k), (93, true, isa_plain.f G k)]
noncomputable def isa_of.c (G : Globs) (k : Nat) (self : Den) (x0 : AV) (h : AHeap) : Option (AV × AHeap) := outV (
  bnd (boxA 141 (.agg [(.str ⟨#[]⟩), (.int .u32 0), (.bool false), (.bool false), (.bool false), (.bool false), (.int .i64 0)]) h) fun v0 h0 =>
  bnd (pu h0 (bin Tryd.prog .eql 3 true x0 (.int .i64 15))) fun v1 h1 =>
  condA v1
  (bnd (pu h1 (buildSt [(0, 1), (1, 1), (2, 1), (3, 1), (4, 1), (5, 1), (6, 1)] [(.str ⟨#[]⟩), (.int .u32 0), (.bool false), (.bool false), (.bool false), (.bool false), (.int .i64 0)] [(0, (.str ⟨#[99, 109, 112]⟩)), (1, (.int .u32 3942645791)), (3, (.bool true)), (4, (.bool true))])) fun v2 h2 =>
  bnd (stS (storeV 7 v0 v2 h2)) fun v3 h3 =>
  finL [loadV G true 7 v0 h3, some (.bool true)] h.length h3)
  (bnd (pu h1 (bin Tryd.prog .eql 3 true x0 (.int .i64 16))) fun v4 h4 =>
  condA v4
  (bnd (pu h4 (buildSt [(0, 1), (1, 1), (2, 1), (3, 1), (4, 1), (5, 1), (6, 1)] [(.str ⟨#[]⟩), (.int .u32 0), (.bool false), (.bool false), (.bool false), (.bool false), (.int .i64 0)] [(0, (.str ⟨#[99, 115, 101, 108]⟩)), (1, (.int .u32 2592079872)), (2, (.bool true)), (3, (.bool true)), (4, (.bool true)), (5, (.bool true))])) fun v5 h5 =>
  bnd (stS (storeV 7 v0 v5 h5)) fun v6 h6 =>
  finL [loadV G true 7 v0 h6, some (.bool true)] h.length h6)
  (bnd (pu h4 (bin Tryd.prog .eql 3 true x0 (.int .i64 17))) fun v7 h7 =>
  condA v7
  (bnd (pu h7 (buildSt [(0, 1), (1, 1), (2, 1), (3, 1), (4, 1), (5, 1), (6, 1)] [(.str ⟨#[]⟩), (.int .u32 0), (.bool false), (.bool false), (.bool false), (.bool false), (.int .i64 0)] [(0, (.str ⟨#[99, 115, 101, 116]⟩)), (1, (.int .u32 2594113504)), (2, (.bool true)), (5, (.bool true))])) fun v8 h8 =>
  bnd (stS (storeV 7 v0 v8 h8)) fun v9 h9 =>
  finL [loadV G true 7 v0 h9, some (.bool true)] h.length h9)
  (bnd (pu h7 (bin Tryd.prog .eql 3 true x0 (.int .i64 18))) fun v10 h10 =>
  condA v10
  (bnd (pureCall (isa_two.f G k) [(.str ⟨#[108, 100, 114]⟩), (.int .u32 4181721088), (.int .i64 12)] h10) fun v11 h11 =>
  bnd (stS (storeV 7 v0 v11 h11)) fun v12 h12 =>
  finL [loadV G true 7 v0 h12, some (.bool true)] h.length h12)
  (bnd (pu h10 (bin Tryd.prog .eql 3 true x0 (.int .i64 19))) fun v13 h13 =>
  condA v13
  (bnd (pureCall (isa_two.f G k) [(.str ⟨#[115, 116, 114]⟩), (.int .u32 4177526784), (.int .i64 12)] h13) fun v14 h14 =>
  bnd (stS (storeV 7 v0 v14 h14)) fun v15 h15 =>
  finL [loadV G true 7 v0 h15, some (.bool true)] h.length h15)
  (bnd (pu h13 (bin Tryd.prog .eql 3 true x0 (.int .i64 20))) fun v16 h16 =>
  condA v16
  (bnd (pu h16 (buildSt [(0, 1), (1, 1), (2, 1), (3, 1), (4, 1), (5, 1), (6, 1)] [(.str ⟨#[]⟩), (.int .u32 0), (.bool false), (.bool false), (.bool false), (.bool false), (.int .i64 0)] [(0, (.str ⟨#[98]⟩)), (1, (.int .u32 335544320)), (6, (.int .i64 26))])) fun v17 h17 =>
  bnd (stS (storeV 7 v0 v17 h17)) fun v18 h18 =>
  finL [loadV G true 7 v0 h18, some (.bool true)] h.length h18)
  (bnd (pu h16 (bin Tryd.prog .eql 3 true x0 (.int .i64 21))) fun v19 h19 =>
  condA v19
  (bnd (pu h19 (buildSt [(0, 1), (1, 1), (2, 1), (3, 1), (4, 1), (5, 1), (6, 1)] [(.str ⟨#[]⟩), (.int .u32 0), (.bool false), (.bool false), (.bool false), (.bool false), (.int .i64 0)] [(0, (.str ⟨#[98, 99, 99]⟩)), (1, (.int .u32 1409286144)), (5, (.bool true)), (6, (.int .i64 19))])) fun v20 h20 =>
  bnd (stS (storeV 7 v0 v20 h20)) fun v21 h21 =>
  finL [loadV G true 7 v0 h21, some (.bool true)] h.length h21)
  (bnd (pu h19 (bin Tryd.prog .eql 3 true x0 (.int .i64 22))) fun v22 h22 =>
  condA v22
  (bnd (pu h22 (buildSt [(0, 1), (1, 1), (2, 1), (3, 1), (4, 1), (5, 1), (6, 1)] [(.str ⟨#[]⟩), (.int .u32 0), (.bool false), (.bool false), (.bool false), (.bool false), (.int .i64 0)] [(0, (.str ⟨#[99, 98, 122]⟩)), (1, (.int .u32 3019898880)), (2, (.bool true)), (6, (.int .i64 19))])) fun v23 h23 =>
  bnd (stS (storeV 7 v0 v23 h23)) fun v24 h24 =>
  finL [loadV G true 7 v0 h24, some (.bool true)] h.length h24)
  (bnd (pu h22 (bin Tryd.prog .eql 3 true x0 (.int .i64 23))) fun v25 h25 =>
  condA v25
  (bnd (pu h25 (buildSt [(0, 1), (1, 1), (2, 1), (3, 1), (4, 1), (5, 1), (6, 1)] [(.str ⟨#[]⟩), (.int .u32 0), (.bool false), (.bool false), (.bool false), (.bool false), (.int .i64 0)] [(0, (.str ⟨#[99, 98, 110, 122]⟩)), (1, (.int .u32 3036676096)), (2, (.bool true)), (6, (.int .i64 19))])) fun v26 h26 =>
  bnd (stS (storeV 7 v0 v26 h26)) fun v27 h27 =>
  finL [loadV G true 7 v0 h27, some (.bool true)] h.length h27)
  (bnd (pu h25 (bin Tryd.prog .eql 3 true x0 (.int .i64 24))) fun v28 h28 =>
  condA v28
  (bnd (pu h28 (buildSt [(0, 1), (1, 1), (2, 1), (3, 1), (4, 1), (5, 1), (6, 1)] [(.str ⟨#[]⟩), (.int .u32 0), (.bool false), (.bool false), (.bool false), (.bool false), (.int .i64 0)] [(0, (.str ⟨#[104, 108, 116]⟩)), (1, (.int .u32 3560964096)), (6, (.int .i64 16))])) fun v29 h29 =>
  bnd (stS (storeV 7 v0 v29 h29)) fun v30 h30 =>
  finL [loadV G true 7 v0 h30, some (.bool true)] h.length h30)
  (bnd (pureCall (isa_plain.f G k) [x0] h28) fun v31 h31 =>
  bnd (pu h31 (extractA v31 0)) fun v32 h32 =>
  bnd (pu h32 (extractA v31 1)) fun v33 h33 =>
  bnd (stS (storeV 7 v0 v32 h33)) fun v34 h34 =>
  finL [loadV G true 7 v0 h34, some v33] h.length h34)))))))))))
noncomputable def isa_of.f (G : Globs) : Nat → Den
  | 0 => fun _ _ => none
  | k + 1 => fun args h => arg1 args fun x0 => (isa_of.c G k (isa_of.f G k) x0 h)
/-! alembic/isa.register: function 94 -/
noncomputable def isa_register.ann : Ann := mkAnn [] [] [] []
noncomputable def isa_register.env (G : Globs) (k : Nat) (self : Den) : List (Nat × Bool × Den) := []
noncomputable def isa_register.c (G : Globs) (k : Nat) (self : Den) (x0 x1 : AV) (h : AHeap) : Option (AV × AHeap) := outV (
  bnd (pu h (bin Tryd.prog .eql 3 true x0 (.int .i64 0))) fun v0 h0 =>
  bnd (gd v0 false h0 (some (x1, h0))) fun v1 h1 =>
  bnd (gd v0 false h1 (some (v1, h1))) fun v2 h2 =>
  bnd (gd v2 true h2 (some (x0, h2))) fun v3 h3 =>
  bnd (gd v2 true h3 (pu h3 (bin Tryd.prog .gtr 3 true v3 (.int .i64 0)))) fun v4 h4 =>
  bnd (gd v0 false h4 (pu h4 (pickA v2 v4 (.bool false)))) fun v5 h5 =>
  bnd (gd v0 false h5 (some (v5, h5))) fun v6 h6 =>
  bnd (gd v6 true h6 (some (x0, h6))) fun v7 h7 =>
  bnd (gd v6 true h7 (pu h7 (bin Tryd.prog .leq 3 true v7 (.int .i64 31)))) fun v8 h8 =>
  bnd (gd v0 false h8 (pu h8 (pickA v6 v8 (.bool false)))) fun v9 h9 =>
  bnd (pu h9 (pickA v0 (.bool true) v9)) fun v10 h10 =>
  finV [v10] h.length h10)
noncomputable def isa_register.f (G : Globs) : Nat → Den
  | 0 => fun _ _ => none
  | k + 1 => fun args h => arg2 args fun x0 x1 => (isa_register.c G k (isa_register.f G k) x0 x1 h)
/-! alembic/isa.extra: function 95 -/
noncomputable def isa_extra.ann : Ann := mkAnn [] [] [] [(9, [1, 2]), (8, [1, 16]), (4, [1, 4, 5])]
noncomputable def isa_extra.env (G : Globs) (k : Nat) (self : Den) : List (Nat × Bool × Den) := []
noncomputable def isa_extra.c (G : Globs) (k : Nat) (self : Den) (x0 : AV) (h : AHeap) : Option (AV × AHeap) := outV (
  bnd (boxRoA x0 h) fun v0 h0 =>
  thenK (
  bnd (pu h0 (fieldAddrV 0 v0)) fun v1 h1 =>
  bnd (pu h1 (loadV G false 1 v1 h1)) fun v2 h2 =>
  thenK (
  bnd (pu h2 (bin Tryd.prog .eql 3 true v2 (.int .i64 1))) fun v3 h3 =>
  condA v3
  (some (.normal, [v0, v2, v3], h3))
  (bnd (pu h3 (bin Tryd.prog .eql 3 true v2 (.int .i64 2))) fun v4 h4 =>
  some (.normal, [v0, v2, v4], h4))) fun e5 x5 h5 => exK e5
  (condA (nth x5 2)
  (bnd (pu h5 (fieldAddrV 4 (nth x5 0))) fun v6 h6 =>
  bnd (pu h6 (loadV G false 1 v6 h6)) fun v7 h7 =>
  bnd (pu h7 (bin Tryd.prog .geq 3 true v7 (.int .i64 0))) fun v8 h8 =>
  bnd (gd v8 true h8 (pu h8 (fieldAddrV 4 (nth x5 0)))) fun v9 h9 =>
  bnd (gd v8 true h9 (pu h9 (loadV G false 1 v9 h9))) fun v10 h10 =>
  bnd (gd v8 true h10 (pu h10 (bin Tryd.prog .leq 3 true v10 (.int .i64 3)))) fun v11 h11 =>
  bnd (pu h11 (pickA v8 v11 (.bool false))) fun v12 h12 =>
  some (.ret, [(nth x5 0), v12], h12))
  (thenK (
  bnd (pu h5 (bin Tryd.prog .eql 3 true (nth x5 1) (.int .i64 16))) fun v13 h13 =>
  condA v13
  (some (.normal, [(nth x5 0), v13], h13))
  (bnd (pu h13 (bin Tryd.prog .eql 3 true (nth x5 1) (.int .i64 17))) fun v14 h14 =>
  condA v14
  (some (.normal, [(nth x5 0), v14], h14))
  (bnd (pu h14 (bin Tryd.prog .eql 3 true (nth x5 1) (.int .i64 21))) fun v15 h15 =>
  some (.normal, [(nth x5 0), v15], h15)))) fun e16 x16 h16 => exK e16
  (condA (nth x16 1)
  (bnd (pu h16 (fieldAddrV 4 (nth x16 0))) fun v17 h17 =>
  bnd (pu h17 (loadV G false 1 v17 h17)) fun v18 h18 =>
  bnd (pu h18 (bin Tryd.prog .geq 3 true v18 (.int .i64 0))) fun v19 h19 =>
  bnd (gd v19 true h19 (pu h19 (fieldAddrV 4 (nth x16 0)))) fun v20 h20 =>
  bnd (gd v19 true h20 (pu h20 (loadV G false 1 v20 h20))) fun v21 h21 =>
  bnd (gd v19 true h21 (pu h21 (bin Tryd.prog .leq 3 true v21 (.int .i64 3)))) fun v22 h22 =>
  bnd (pu h22 (pickA v19 v22 (.bool false))) fun v23 h23 =>
  bnd (gd v23 false h23 (pu h23 (fieldAddrV 4 (nth x16 0)))) fun v24 h24 =>
  bnd (gd v23 false h24 (pu h24 (loadV G false 1 v24 h24))) fun v25 h25 =>
  bnd (gd v23 false h25 (pu h25 (bin Tryd.prog .eql 3 true v25 (.int .i64 8)))) fun v26 h26 =>
  bnd (pu h26 (pickA v23 (.bool true) v26)) fun v27 h27 =>
  bnd (gd v27 false h27 (pu h27 (fieldAddrV 4 (nth x16 0)))) fun v28 h28 =>
  bnd (gd v27 false h28 (pu h28 (loadV G false 1 v28 h28))) fun v29 h29 =>
  bnd (gd v27 false h29 (pu h29 (bin Tryd.prog .eql 3 true v29 (.int .i64 9)))) fun v30 h30 =>
  bnd (pu h30 (pickA v27 (.bool true) v30)) fun v31 h31 =>
  some (.ret, [(nth x16 0), v31], h31))
  (some (.normal, [(nth x16 0), .undef], h16)))
  (fun i16 => if i16 = 0 then (some (.normal, [(nth x16 0), .undef], h16)) else (some (.exit i16, [(nth x16 0), .undef], h16)))
  (some (.ret, [(nth x16 0), .undef], h16))))
  (fun i5 => if i5 = 0 then (some (.normal, [(nth x5 0), .undef], h5)) else (some (.exit i5, [(nth x5 0), .undef], h5)))
  (some (.ret, [(nth x5 0), .undef], h5))) fun e32 x32 h32 => exK e32
  (bnd (pu h32 (fieldAddrV 4 (nth x32 0))) fun v33 h33 =>
  bnd (pu h33 (loadV G false 1 v33 h33)) fun v34 h34 =>
  bnd (pu h34 (bin Tryd.prog .geq 3 true v34 (.int .i64 0))) fun v35 h35 =>
  bnd (gd v35 true h35 (pu h35 (fieldAddrV 4 (nth x32 0)))) fun v36 h36 =>
  bnd (gd v35 true h36 (pu h36 (loadV G false 1 v36 h36))) fun v37 h37 =>
  bnd (gd v35 true h37 (pu h37 (bin Tryd.prog .leq 3 true v37 (.int .i64 31)))) fun v38 h38 =>
  bnd (pu h38 (pickA v35 v38 (.bool false))) fun v39 h39 =>
  finV [v39] h.length h39)
  (fun i32 => none)
  (finV [(nth x32 1)] h.length h32))
noncomputable def isa_extra.f (G : Globs) : Nat → Den
  | 0 => fun _ _ => none
  | k + 1 => fun args h => arg1 args fun x0 => (isa_extra.c G k (isa_extra.f G k) x0 h)
/-! alembic/isa.signed: function 108 -/
noncomputable def isa_signed.ann : Ann := mkAnn [] [] [] []
noncomputable def isa_signed.env (G : Globs) (k : Nat) (self : Den) : List (Nat × Bool × Den) := []
noncomputable def isa_signed.c (G : Globs) (k : Nat) (self : Den) (x0 : AV) (h : AHeap) : Option (AV × AHeap) := outV (
  bnd (pu h (bin Tryd.prog .geq 3 true x0 (.int .i64 20))) fun v0 h0 =>
  bnd (gd v0 true h0 (some (x0, h0))) fun v1 h1 =>
  bnd (gd v0 true h1 (pu h1 (bin Tryd.prog .leq 3 true v1 (.int .i64 23)))) fun v2 h2 =>
  bnd (pu h2 (pickA v0 v2 (.bool false))) fun v3 h3 =>
  finV [v3] h.length h3)
noncomputable def isa_signed.f (G : Globs) : Nat → Den
  | 0 => fun _ _ => none
  | k + 1 => fun args h => arg1 args fun x0 => (isa_signed.c G k (isa_signed.f G k) x0 h)
/-! alembic/isa.imm: function 96 -/
noncomputable def isa_imm.ann : Ann := mkAnn [] [] [] []
noncomputable def isa_imm.env (G : Globs) (k : Nat) (self : Den) : List (Nat × Bool × Den) := [(108, true, isa_signed.f G k)]
noncomputable def isa_imm.c (G : Globs) (k : Nat) (self : Den) (x0 x1 : AV) (h : AHeap) : Option (AV × AHeap) := outV (
  bnd (boxRoA x0 h) fun v0 h0 =>
  bnd (pu h0 (bin Tryd.prog .eql 3 true x1 (.int .i64 0))) fun v1 h1 =>
  condA v1
  (bnd (pu h1 (fieldAddrV 5 v0)) fun v2 h2 =>
  bnd (pu h2 (loadV G false 1 v2 h2)) fun v3 h3 =>
  bnd (pu h3 (bin Tryd.prog .eql 3 true v3 (.int .i64 0))) fun v4 h4 =>
  finV [v4] h.length h4)
  (bnd (pu h1 (fieldAddrV 0 v0)) fun v5 h5 =>
  bnd (pu h5 (loadV G false 1 v5 h5)) fun v6 h6 =>
  bnd (pureCall (isa_signed.f G k) [v6] h6) fun v7 h7 =>
  condA v7
  (bnd (pu h7 (fieldAddrV 5 v0)) fun v8 h8 =>
  bnd (pu h8 (loadV G false 1 v8 h8)) fun v9 h9 =>
  bnd (pu h9 (bin Tryd.prog .sub 3 true x1 (.int .i64 1))) fun v10 h10 =>
  bnd (pu h10 (bin Tryd.prog .shl 3 true (.int .i64 1) v10)) fun v11 h11 =>
  bnd (pu h11 (un .neg v11)) fun v12 h12 =>
  bnd (pu h12 (bin Tryd.prog .geq 3 false v9 v12)) fun v13 h13 =>
  bnd (gd v13 true h13 (pu h13 (fieldAddrV 5 v0))) fun v14 h14 =>
  bnd (gd v13 true h14 (pu h14 (loadV G false 1 v14 h14))) fun v15 h15 =>
  bnd (gd v13 true h15 (some (x1, h15))) fun v16 h16 =>
  bnd (gd v13 true h16 (pu h16 (bin Tryd.prog .sub 3 true v16 (.int .i64 1)))) fun v17 h17 =>
  bnd (gd v13 true h17 (pu h17 (bin Tryd.prog .shl 3 true (.int .i64 1) v17))) fun v18 h18 =>
  bnd (gd v13 true h18 (pu h18 (bin Tryd.prog .lss 3 false v15 v18))) fun v19 h19 =>
  bnd (pu h19 (pickA v13 v19 (.bool false))) fun v20 h20 =>
  finV [v20] h.length h20)
  (bnd (pu h7 (fieldAddrV 5 v0)) fun v21 h21 =>
  bnd (pu h21 (loadV G false 1 v21 h21)) fun v22 h22 =>
  bnd (pu h22 (bin Tryd.prog .geq 3 true v22 (.int .i64 0))) fun v23 h23 =>
  bnd (gd v23 true h23 (pu h23 (fieldAddrV 5 v0))) fun v24 h24 =>
  bnd (gd v23 true h24 (pu h24 (loadV G false 1 v24 h24))) fun v25 h25 =>
  bnd (gd v23 true h25 (some (x1, h25))) fun v26 h26 =>
  bnd (gd v23 true h26 (pu h26 (bin Tryd.prog .shl 3 true (.int .i64 1) v26))) fun v27 h27 =>
  bnd (gd v23 true h27 (pu h27 (bin Tryd.prog .lss 3 false v25 v27))) fun v28 h28 =>
  bnd (pu h28 (pickA v23 v28 (.bool false))) fun v29 h29 =>
  finV [v29] h.length h29)))
noncomputable def isa_imm.f (G : Globs) : Nat → Den
  | 0 => fun _ _ => none
  | k + 1 => fun args h => arg2 args fun x0 x1 => (isa_imm.c G k (isa_imm.f G k) x0 x1 h)
/-! alembic/isa.stack: function 97 -/
noncomputable def isa_stack.ann : Ann := mkAnn [] [] [] [(7, [1, 16]), (4, [1, 4, 5])]
noncomputable def isa_stack.env (G : Globs) (k : Nat) (self : Den) : List (Nat × Bool × Den) := []
noncomputable def isa_stack.c (G : Globs) (k : Nat) (self : Den) (x0 : AV) (h : AHeap) : Option (AV × AHeap) := outV (
  bnd (boxRoA x0 h) fun v0 h0 =>
  bnd (pu h0 (fieldAddrV 0 v0)) fun v1 h1 =>
  bnd (pu h1 (loadV G false 1 v1 h1)) fun v2 h2 =>
  thenK (
  bnd (pu h2 (bin Tryd.prog .eql 3 true v2 (.int .i64 10))) fun v3 h3 =>
  condA v3
  (some (.normal, [v0, v2, v3], h3))
  (bnd (pu h3 (bin Tryd.prog .eql 3 true v2 (.int .i64 11))) fun v4 h4 =>
  some (.normal, [v0, v2, v4], h4))) fun e5 x5 h5 => exK e5
  (condA (nth x5 2)
  (bnd (pu h5 (fieldAddrV 1 (nth x5 0))) fun v6 h6 =>
  bnd (pu h6 (loadV G false 1 v6 h6)) fun v7 h7 =>
  bnd (pu h7 (bin Tryd.prog .eql 3 true v7 (.int .i64 31))) fun v8 h8 =>
  bnd (gd v8 false h8 (pu h8 (fieldAddrV 2 (nth x5 0)))) fun v9 h9 =>
  bnd (gd v8 false h9 (pu h9 (loadV G false 1 v9 h9))) fun v10 h10 =>
  bnd (gd v8 false h10 (pu h10 (bin Tryd.prog .eql 3 true v10 (.int .i64 31)))) fun v11 h11 =>
  bnd (pu h11 (pickA v8 (.bool true) v11)) fun v12 h12 =>
  finV [v12] h.length h12)
  (thenK (
  bnd (pu h5 (bin Tryd.prog .eql 3 true (nth x5 1) (.int .i64 18))) fun v13 h13 =>
  condA v13
  (some (.normal, [(nth x5 0), v13], h13))
  (bnd (pu h13 (bin Tryd.prog .eql 3 true (nth x5 1) (.int .i64 19))) fun v14 h14 =>
  some (.normal, [(nth x5 0), v14], h14))) fun e15 x15 h15 => exK e15
  (condA (nth x15 1)
  (bnd (pu h15 (fieldAddrV 2 (nth x15 0))) fun v16 h16 =>
  bnd (pu h16 (loadV G false 1 v16 h16)) fun v17 h17 =>
  bnd (pu h17 (bin Tryd.prog .eql 3 true v17 (.int .i64 31))) fun v18 h18 =>
  finV [v18] h.length h18)
  (finV [(.bool false)] h.length h15))
  (fun i15 => if i15 = 0 then (finV [(.bool false)] h.length h15) else (none))
  (finV [.undef] h.length h15)))
  (fun i5 => if i5 = 0 then (finV [(.bool false)] h.length h5) else (none))
  (finV [.undef] h.length h5))
noncomputable def isa_stack.f (G : Globs) : Nat → Den
  | 0 => fun _ _ => none
  | k + 1 => fun args h => arg1 args fun x0 => (isa_stack.c G k (isa_stack.f G k) x0 h)
/-! alembic/isa.fair: function 71 -/
noncomputable def isa_fair.ann : Ann := mkAnn [] [] [] []
noncomputable def isa_fair.env (G : Globs) (k : Nat) (self : Den) : List (Nat × Bool × Den) := [(94, true, isa_register.f G k), (95, true, isa_extra.f G k), (96, true, isa_imm.f G k), (97, true, isa_stack.f G k)]
noncomputable def isa_fair.c (G : Globs) (k : Nat) (self : Den) (x0 x1 : AV) (h : AHeap) : Option (AV × AHeap) := outV (
  bnd (boxRoA x0 h) fun v0 h0 =>
  bnd (boxRoA x1 h0) fun v1 h1 =>
  bnd (pu h1 (fieldAddrV 1 v0)) fun v2 h2 =>
  bnd (pu h2 (loadV G false 1 v2 h2)) fun v3 h3 =>
  bnd (pu h3 (fieldAddrV 2 v1)) fun v4 h4 =>
  bnd (pu h4 (loadV G false 1 v4 h4)) fun v5 h5 =>
  bnd (pureCall (isa_register.f G k) [v3, v5] h5) fun v6 h6 =>
  bnd (pu h6 (un .not v6)) fun v7 h7 =>
  bnd (gd v7 false h7 (pu h7 (fieldAddrV 2 v0))) fun v8 h8 =>
  bnd (gd v7 false h8 (pu h8 (loadV G false 1 v8 h8))) fun v9 h9 =>
  bnd (gd v7 false h9 (pu h9 (fieldAddrV 3 v1))) fun v10 h10 =>
  bnd (gd v7 false h10 (pu h10 (loadV G false 1 v10 h10))) fun v11 h11 =>
  bnd (gd v7 false h11 (pureCall (isa_register.f G k) [v9, v11] h11)) fun v12 h12 =>
  bnd (gd v7 false h12 (pu h12 (un .not v12))) fun v13 h13 =>
  bnd (pu h13 (pickA v7 (.bool true) v13)) fun v14 h14 =>
  bnd (gd v14 false h14 (pu h14 (fieldAddrV 3 v0))) fun v15 h15 =>
  bnd (gd v14 false h15 (pu h15 (loadV G false 1 v15 h15))) fun v16 h16 =>
  bnd (gd v14 false h16 (pu h16 (fieldAddrV 4 v1))) fun v17 h17 =>
  bnd (gd v14 false h17 (pu h17 (loadV G false 1 v17 h17))) fun v18 h18 =>
  bnd (gd v14 false h18 (pureCall (isa_register.f G k) [v16, v18] h18)) fun v19 h19 =>
  bnd (gd v14 false h19 (pu h19 (un .not v19))) fun v20 h20 =>
  bnd (pu h20 (pickA v14 (.bool true) v20)) fun v21 h21 =>
  condA v21
  (finV [(.bool false)] h.length h21)
  (bnd (pu h21 (fieldAddrV 5 v1)) fun v22 h22 =>
  bnd (pu h22 (loadV G false 1 v22 h22)) fun v23 h23 =>
  bnd (gd v23 true h23 (pu h23 (loadV G true 6 v0 h23))) fun v24 h24 =>
  bnd (gd v23 true h24 (pureCall (isa_extra.f G k) [v24] h24)) fun v25 h25 =>
  bnd (gd v23 true h25 (pu h25 (un .not v25))) fun v26 h26 =>
  bnd (pu h26 (pickA v23 v26 (.bool false))) fun v27 h27 =>
  bnd (gd v27 false h27 (pu h27 (fieldAddrV 5 v1))) fun v28 h28 =>
  bnd (gd v27 false h28 (pu h28 (loadV G false 1 v28 h28))) fun v29 h29 =>
  bnd (gd v27 false h29 (pu h29 (un .not v29))) fun v30 h30 =>
  bnd (gd v27 false h30 (some (v30, h30))) fun v31 h31 =>
  bnd (gd v31 true h31 (pu h31 (fieldAddrV 4 v0))) fun v32 h32 =>
  bnd (gd v31 true h32 (pu h32 (loadV G false 1 v32 h32))) fun v33 h33 =>
  bnd (gd v31 true h33 (pu h33 (bin Tryd.prog .neq 3 true v33 (.int .i64 0)))) fun v34 h34 =>
  bnd (gd v27 false h34 (pu h34 (pickA v31 v34 (.bool false)))) fun v35 h35 =>
  bnd (pu h35 (pickA v27 (.bool true) v35)) fun v36 h36 =>
  condA v36
  (finV [(.bool false)] h.length h36)
  (bnd (pu h36 (loadV G true 6 v0 h36)) fun v37 h37 =>
  bnd (pu h37 (fieldAddrV 6 v1)) fun v38 h38 =>
  bnd (pu h38 (loadV G false 1 v38 h38)) fun v39 h39 =>
  bnd (pureCall (isa_imm.f G k) [v37, v39] h39) fun v40 h40 =>
  bnd (gd v40 true h40 (pu h40 (loadV G true 6 v0 h40))) fun v41 h41 =>
  bnd (gd v40 true h41 (pureCall (isa_stack.f G k) [v41] h41)) fun v42 h42 =>
  bnd (gd v40 true h42 (pu h42 (un .not v42))) fun v43 h43 =>
  bnd (pu h43 (pickA v40 v43 (.bool false))) fun v44 h44 =>
  finV [v44] h.length h44)))
noncomputable def isa_fair.f (G : Globs) : Nat → Den
  | 0 => fun _ _ => none
  | k + 1 => fun args h => arg2 args fun x0 x1 => (isa_fair.c G k (isa_fair.f G k) x0 x1 h)
/-! alembic/isa.number: function 72 -/
noncomputable def isa_number.ann : Ann := mkAnn [] [] [] [(28, [3, 4, 12, 64]), (16, [3, 4, 12, 34]), (5, [3, 4, 12, 13])]
noncomputable def isa_number.env (G : Globs) (k : Nat) (self : Den) : List (Nat × Bool × Den) := []
noncomputable def isa_number.c (G : Globs) (k : Nat) (self : Den) (x0 : AV) (h : AHeap) : Option (AV × AHeap) := outV (
  bnd (boxRoA x0 h) fun v0 h0 =>
  bnd (pu h0 (fieldAddrV 5 v0)) fun v1 h1 =>
  bnd (pu h1 (loadV G false 1 v1 h1)) fun v2 h2 =>
  bnd (pu h2 (convInt .u32 v2)) fun v3 h3 =>
  bnd (pu h3 (fieldAddrV 4 v0)) fun v4 h4 =>
  bnd (pu h4 (loadV G false 1 v4 h4)) fun v5 h5 =>
  bnd (pu h5 (convInt .u32 v5)) fun v6 h6 =>
  bnd (pu h6 (fieldAddrV 0 v0)) fun v7 h7 =>
  bnd (pu h7 (loadV G false 1 v7 h7)) fun v8 h8 =>
  thenK (
  bnd (pu h8 (bin Tryd.prog .eql 3 true v8 (.int .i64 1))) fun v9 h9 =>
  condA v9
  (some (.normal, [v3, v6, v8, v9], h9))
  (bnd (pu h9 (bin Tryd.prog .eql 3 true v8 (.int .i64 2))) fun v10 h10 =>
  some (.normal, [v3, v6, v8, v10], h10))) fun e11 x11 h11 => exK e11
  (condA (nth x11 3)
  (bnd (pu h11 (bin Tryd.prog .shl 71 true (nth x11 1) (.int .u64 21))) fun v12 h12 =>
  bnd (pu h12 (bin Tryd.prog .shl 71 true (nth x11 0) (.int .u64 5))) fun v13 h13 =>
  bnd (pu h13 (bin Tryd.prog .or 71 false v12 v13)) fun v14 h14 =>
  finV [v14] h.length h14)
  (bnd (pu h11 (bin Tryd.prog .eql 3 true (nth x11 2) (.int .i64 8))) fun v15 h15 =>
  condA v15
  (bnd (pu h15 (bin Tryd.prog .shl 71 true (nth x11 1) (.int .u64 10))) fun v16 h16 =>
  finV [v16] h.length h16)
  (bnd (pu h15 (bin Tryd.prog .eql 3 true (nth x11 2) (.int .i64 16))) fun v17 h17 =>
  condA v17
  (bnd (pu h17 (bin Tryd.prog .shl 71 true (nth x11 1) (.int .u64 12))) fun v18 h18 =>
  finV [v18] h.length h18)
  (bnd (pu h17 (bin Tryd.prog .eql 3 true (nth x11 2) (.int .i64 17))) fun v19 h19 =>
  condA v19
  (bnd (pu h19 (bin Tryd.prog .xor 71 true (nth x11 1) (.int .u32 1))) fun v20 h20 =>
  bnd (pu h20 (bin Tryd.prog .shl 71 true v20 (.int .u64 12))) fun v21 h21 =>
  finV [v21] h.length h21)
  (thenK (
  bnd (pu h19 (bin Tryd.prog .eql 3 true (nth x11 2) (.int .i64 10))) fun v22 h22 =>
  condA v22
  (some (.normal, [(nth x11 0), (nth x11 1), (nth x11 2), v22], h22))
  (bnd (pu h22 (bin Tryd.prog .eql 3 true (nth x11 2) (.int .i64 11))) fun v23 h23 =>
  condA v23
  (some (.normal, [(nth x11 0), (nth x11 1), (nth x11 2), v23], h23))
  (bnd (pu h23 (bin Tryd.prog .eql 3 true (nth x11 2) (.int .i64 18))) fun v24 h24 =>
  condA v24
  (some (.normal, [(nth x11 0), (nth x11 1), (nth x11 2), v24], h24))
  (bnd (pu h24 (bin Tryd.prog .eql 3 true (nth x11 2) (.int .i64 19))) fun v25 h25 =>
  some (.normal, [(nth x11 0), (nth x11 1), (nth x11 2), v25], h25))))) fun e26 x26 h26 => exK e26
  (condA (nth x26 3)
  (bnd (pu h26 (bin Tryd.prog .shl 71 true (nth x26 0) (.int .u64 10))) fun v27 h27 =>
  finV [v27] h.length h27)
  (bnd (pu h26 (bin Tryd.prog .eql 3 true (nth x26 2) (.int .i64 12))) fun v28 h28 =>
  condA v28
  (bnd (pu h28 (bin Tryd.prog .sub 71 true (.int .u32 64) (nth x26 0))) fun v29 h29 =>
  bnd (pu h29 (bin Tryd.prog .rem 71 true v29 (.int .u32 64))) fun v30 h30 =>
  bnd (pu h30 (bin Tryd.prog .shl 71 true v30 (.int .u64 16))) fun v31 h31 =>
  bnd (pu h31 (bin Tryd.prog .sub 71 true (.int .u32 63) (nth x26 0))) fun v32 h32 =>
  bnd (pu h32 (bin Tryd.prog .shl 71 true v32 (.int .u64 10))) fun v33 h33 =>
  bnd (pu h33 (bin Tryd.prog .or 71 false v31 v33)) fun v34 h34 =>
  finV [v34] h.length h34)
  (bnd (pu h28 (bin Tryd.prog .eql 3 true (nth x26 2) (.int .i64 13))) fun v35 h35 =>
  condA v35
  (bnd (pu h35 (bin Tryd.prog .shl 71 true (nth x26 0) (.int .u64 16))) fun v36 h36 =>
  bnd (pu h36 (bin Tryd.prog .or 71 true v36 (.int .u32 64512))) fun v37 h37 =>
  finV [v37] h.length h37)
  (bnd (pu h35 (bin Tryd.prog .eql 3 true (nth x26 2) (.int .i64 14))) fun v38 h38 =>
  condA v38
  (bnd (pu h38 (bin Tryd.prog .shl 71 true (nth x26 0) (.int .u64 16))) fun v39 h39 =>
  finV [v39] h.length h39)
  (bnd (pu h38 (bin Tryd.prog .eql 3 true (nth x26 2) (.int .i64 20))) fun v40 h40 =>
  condA v40
  (bnd (pu h40 (bin Tryd.prog .and 71 true (nth x26 0) (.int .u32 67108863))) fun v41 h41 =>
  finV [v41] h.length h41)
  (thenK (
  bnd (pu h40 (bin Tryd.prog .eql 3 true (nth x26 2) (.int .i64 21))) fun v42 h42 =>
  condA v42
  (some (.normal, [(nth x26 0), (nth x26 1), (nth x26 2), v42], h42))
  (bnd (pu h42 (bin Tryd.prog .eql 3 true (nth x26 2) (.int .i64 22))) fun v43 h43 =>
  condA v43
  (some (.normal, [(nth x26 0), (nth x26 1), (nth x26 2), v43], h43))
  (bnd (pu h43 (bin Tryd.prog .eql 3 true (nth x26 2) (.int .i64 23))) fun v44 h44 =>
  some (.normal, [(nth x26 0), (nth x26 1), (nth x26 2), v44], h44)))) fun e45 x45 h45 => exK e45
  (condA (nth x45 3)
  (bnd (pu h45 (bin Tryd.prog .and 71 true (nth x45 0) (.int .u32 524287))) fun v46 h46 =>
  bnd (pu h46 (bin Tryd.prog .shl 71 true v46 (.int .u64 5))) fun v47 h47 =>
  bnd (pu h47 (bin Tryd.prog .or 71 false (nth x45 1) v47)) fun v48 h48 =>
  finV [v48] h.length h48)
  (bnd (pu h45 (bin Tryd.prog .eql 3 true (nth x45 2) (.int .i64 24))) fun v49 h49 =>
  condA v49
  (bnd (pu h49 (bin Tryd.prog .shl 71 true (nth x45 0) (.int .u64 5))) fun v50 h50 =>
  finV [v50] h.length h50)
  (finV [(.int .u32 0)] h.length h49)))
  (fun i45 => if i45 = 0 then (finV [(.int .u32 0)] h.length h45) else (none))
  (finV [.undef] h.length h45)))))))
  (fun i26 => if i26 = 0 then (finV [(.int .u32 0)] h.length h26) else (none))
  (finV [.undef] h.length h26))))))
  (fun i11 => if i11 = 0 then (finV [(.int .u32 0)] h.length h11) else (none))
  (finV [.undef] h.length h11))
noncomputable def isa_number.f (G : Globs) : Nat → Den
  | 0 => fun _ _ => none
  | k + 1 => fun args h => arg1 args fun x0 => (isa_number.c G k (isa_number.f G k) x0 h)
/-! alembic/isa.Word: function 40 -/
noncomputable def isa_Word.ann : Ann := mkAnn [] [] [] []
noncomputable def isa_Word.env (G : Globs) (k : Nat) (self : Den) : List (Nat × Bool × Den) := [(70, true, isa_of.f G k), (71, true, isa_fair.f G k), (72, true, isa_number.f G k)]
noncomputable def isa_Word.c (G : Globs) (k : Nat) (self : Den) (x0 : AV) (h : AHeap) : Option (AV × AHeap) := outV (
  bnd (boxRoA x0 h) fun v0 h0 =>
  bnd (pu h0 (fieldAddrV 0 v0)) fun v1 h1 =>
  bnd (pu h1 (loadV G false 1 v1 h1)) fun v2 h2 =>
  bnd (pureCall (isa_of.f G k) [v2] h2) fun v3 h3 =>
  bnd (pu h3 (extractA v3 0)) fun v4 h4 =>
  bnd (pu h4 (extractA v3 1)) fun v5 h5 =>
  bnd (boxA 141 (.agg [(.str ⟨#[]⟩), (.int .u32 0), (.bool false), (.bool false), (.bool false), (.bool false), (.int .i64 0)]) h5) fun v6 h6 =>
  bnd (stS (storeV 7 v6 v4 h6)) fun v7 h7 =>
  bnd (pu h7 (un .not v5)) fun v8 h8 =>
  bnd (gd v8 false h8 (pu h8 (loadV G true 6 v0 h8))) fun v9 h9 =>
  bnd (gd v8 false h9 (pu h9 (loadV G true 7 v6 h9))) fun v10 h10 =>
  bnd (gd v8 false h10 (pureCall (isa_fair.f G k) [v9, v10] h10)) fun v11 h11 =>
  bnd (gd v8 false h11 (pu h11 (un .not v11))) fun v12 h12 =>
  bnd (pu h12 (pickA v8 (.bool true) v12)) fun v13 h13 =>
  condA v13
  (finV [(.int .u32 0), (.bool false)] h.length h13)
  (bnd (pu h13 (fieldAddrV 1 v6)) fun v14 h14 =>
  bnd (pu h14 (loadV G false 1 v14 h14)) fun v15 h15 =>
  bnd (pu h15 (fieldAddrV 1 v0)) fun v16 h16 =>
  bnd (pu h16 (loadV G false 1 v16 h16)) fun v17 h17 =>
  bnd (pu h17 (convInt .u32 v17)) fun v18 h18 =>
  bnd (pu h18 (bin Tryd.prog .or 71 false v15 v18)) fun v19 h19 =>
  bnd (pu h19 (fieldAddrV 2 v0)) fun v20 h20 =>
  bnd (pu h20 (loadV G false 1 v20 h20)) fun v21 h21 =>
  bnd (pu h21 (convInt .u32 v21)) fun v22 h22 =>
  bnd (pu h22 (bin Tryd.prog .shl 71 true v22 (.int .u64 5))) fun v23 h23 =>
  bnd (pu h23 (bin Tryd.prog .or 71 false v19 v23)) fun v24 h24 =>
  bnd (pu h24 (fieldAddrV 3 v0)) fun v25 h25 =>
  bnd (pu h25 (loadV G false 1 v25 h25)) fun v26 h26 =>
  bnd (pu h26 (convInt .u32 v26)) fun v27 h27 =>
  bnd (pu h27 (bin Tryd.prog .shl 71 true v27 (.int .u64 16))) fun v28 h28 =>
  bnd (pu h28 (bin Tryd.prog .or 71 false v24 v28)) fun v29 h29 =>
  bnd (pu h29 (loadV G true 6 v0 h29)) fun v30 h30 =>
  bnd (pureCall (isa_number.f G k) [v30] h30) fun v31 h31 =>
  bnd (pu h31 (bin Tryd.prog .or 71 false v29 v31)) fun v32 h32 =>
  finV [v32, (.bool true)] h.length h32))
noncomputable def isa_Word.f (G : Globs) : Nat → Den
  | 0 => fun _ _ => none
  | k + 1 => fun args h => arg1 args fun x0 => (isa_Word.c G k (isa_Word.f G k) x0 h)
/-! alembic/isa.field: function 88 -/
noncomputable def isa_field.ann : Ann := mkAnn [] [] [] []
noncomputable def isa_field.env (G : Globs) (k : Nat) (self : Den) : List (Nat × Bool × Den) := []
noncomputable def isa_field.c (G : Globs) (k : Nat) (self : Den) (x0 x1 x2 : AV) (h : AHeap) : Option (AV × AHeap) := outV (
  bnd (pu h (bin Tryd.prog .shr 71 false x0 x1)) fun v0 h0 =>
  bnd (pu h0 (bin Tryd.prog .shl 71 true (.int .u32 1) x2)) fun v1 h1 =>
  bnd (pu h1 (bin Tryd.prog .sub 71 true v1 (.int .u32 1))) fun v2 h2 =>
  bnd (pu h2 (bin Tryd.prog .and 71 false v0 v2)) fun v3 h3 =>
  bnd (pu h3 (convInt .i64 v3)) fun v4 h4 =>
  finV [v4] h.length h4)
noncomputable def isa_field.f (G : Globs) : Nat → Den
  | 0 => fun _ _ => none
  | k + 1 => fun args h => arg3 args fun x0 x1 x2 => (isa_field.c G k (isa_field.f G k) x0 x1 x2 h)
/-! alembic/isa.sign: function 105 -/
noncomputable def isa_sign.ann : Ann := mkAnn [] [] [] []
noncomputable def isa_sign.env (G : Globs) (k : Nat) (self : Den) : List (Nat × Bool × Den) := []
noncomputable def isa_sign.c (G : Globs) (k : Nat) (self : Den) (x0 x1 : AV) (h : AHeap) : Option (AV × AHeap) := outV (
  bnd (pu h (bin Tryd.prog .sub 3 true x1 (.int .i64 1))) fun v0 h0 =>
  bnd (pu h0 (bin Tryd.prog .shl 3 true (.int .i64 1) v0)) fun v1 h1 =>
  bnd (pu h1 (bin Tryd.prog .geq 3 false x0 v1)) fun v2 h2 =>
  condA v2
  (bnd (pu h2 (bin Tryd.prog .shl 3 true (.int .i64 1) x1)) fun v3 h3 =>
  bnd (pu h3 (bin Tryd.prog .sub 3 false x0 v3)) fun v4 h4 =>
  finV [v4] h.length h4)
  (finV [x0] h.length h2))
noncomputable def isa_sign.f (G : Globs) : Nat → Den
  | 0 => fun _ _ => none
  | k + 1 => fun args h => arg2 args fun x0 x1 => (isa_sign.c G k (isa_sign.f G k) x0 x1 h)
/-! alembic/isa.extras: function 89 -/
noncomputable def isa_extras.ann : Ann := mkAnn [] [] [] [(27, [1, 6, 56]), (20, [1, 6, 39]), (15, [1, 6, 27]), (4, [1, 6, 7])]
noncomputable def isa_extras.env (G : Globs) (k : Nat) (self : Den) : List (Nat × Bool × Den) := [(88, true, isa_field.f G k), (105, true, isa_sign.f G k)]
noncomputable def isa_extras.c (G : Globs) (k : Nat) (self : Den) (x0 x1 : AV) (h : AHeap) : Option (AV × AHeap) := outV (
  thenK (
  bnd (pu h (bin Tryd.prog .eql 3 true x0 (.int .i64 1))) fun v0 h0 =>
  condA v0
  (some (.normal, [x1, x0, v0], h0))
  (bnd (pu h0 (bin Tryd.prog .eql 3 true x0 (.int .i64 2))) fun v1 h1 =>
  some (.normal, [x1, x0, v1], h1))) fun e2 x2 h2 => exK e2
  (condA (nth x2 2)
  (bnd (pureCall (isa_field.f G k) [(nth x2 0), (.int .i64 21), (.int .i64 2)] h2) fun v3 h3 =>
  bnd (pureCall (isa_field.f G k) [(nth x2 0), (.int .i64 5), (.int .i64 16)] h3) fun v4 h4 =>
  finV [v3, v4] h.length h4)
  (bnd (pu h2 (bin Tryd.prog .eql 3 true (nth x2 1) (.int .i64 8))) fun v5 h5 =>
  condA v5
  (bnd (pureCall (isa_field.f G k) [(nth x2 0), (.int .i64 10), (.int .i64 5)] h5) fun v6 h6 =>
  finV [v6, (.int .i64 0)] h.length h6)
  (bnd (pu h5 (bin Tryd.prog .eql 3 true (nth x2 1) (.int .i64 16))) fun v7 h7 =>
  condA v7
  (bnd (pureCall (isa_field.f G k) [(nth x2 0), (.int .i64 12), (.int .i64 4)] h7) fun v8 h8 =>
  finV [v8, (.int .i64 0)] h.length h8)
  (bnd (pu h7 (bin Tryd.prog .eql 3 true (nth x2 1) (.int .i64 17))) fun v9 h9 =>
  condA v9
  (bnd (pureCall (isa_field.f G k) [(nth x2 0), (.int .i64 12), (.int .i64 4)] h9) fun v10 h10 =>
  bnd (pu h10 (bin Tryd.prog .xor 3 true v10 (.int .i64 1))) fun v11 h11 =>
  finV [v11, (.int .i64 0)] h.length h11)
  (thenK (
  bnd (pu h9 (bin Tryd.prog .eql 3 true (nth x2 1) (.int .i64 10))) fun v12 h12 =>
  condA v12
  (some (.normal, [(nth x2 0), (nth x2 1), v12], h12))
  (bnd (pu h12 (bin Tryd.prog .eql 3 true (nth x2 1) (.int .i64 11))) fun v13 h13 =>
  condA v13
  (some (.normal, [(nth x2 0), (nth x2 1), v13], h13))
  (bnd (pu h13 (bin Tryd.prog .eql 3 true (nth x2 1) (.int .i64 18))) fun v14 h14 =>
  condA v14
  (some (.normal, [(nth x2 0), (nth x2 1), v14], h14))
  (bnd (pu h14 (bin Tryd.prog .eql 3 true (nth x2 1) (.int .i64 19))) fun v15 h15 =>
  some (.normal, [(nth x2 0), (nth x2 1), v15], h15))))) fun e16 x16 h16 => exK e16
  (condA (nth x16 2)
  (bnd (pureCall (isa_field.f G k) [(nth x16 0), (.int .i64 10), (.int .i64 12)] h16) fun v17 h17 =>
  finV [(.int .i64 0), v17] h.length h17)
  (bnd (pu h16 (bin Tryd.prog .eql 3 true (nth x16 1) (.int .i64 12))) fun v18 h18 =>
  condA v18
  (bnd (pureCall (isa_field.f G k) [(nth x16 0), (.int .i64 10), (.int .i64 6)] h18) fun v19 h19 =>
  bnd (pu h19 (bin Tryd.prog .sub 3 true (.int .i64 63) v19)) fun v20 h20 =>
  finV [(.int .i64 0), v20] h.length h20)
  (thenK (
  bnd (pu h18 (bin Tryd.prog .eql 3 true (nth x16 1) (.int .i64 13))) fun v21 h21 =>
  condA v21
  (some (.normal, [(nth x16 0), (nth x16 1), v21], h21))
  (bnd (pu h21 (bin Tryd.prog .eql 3 true (nth x16 1) (.int .i64 14))) fun v22 h22 =>
  some (.normal, [(nth x16 0), (nth x16 1), v22], h22))) fun e23 x23 h23 => exK e23
  (condA (nth x23 2)
  (bnd (pureCall (isa_field.f G k) [(nth x23 0), (.int .i64 16), (.int .i64 6)] h23) fun v24 h24 =>
  finV [(.int .i64 0), v24] h.length h24)
  (bnd (pu h23 (bin Tryd.prog .eql 3 true (nth x23 1) (.int .i64 20))) fun v25 h25 =>
  condA v25
  (bnd (pureCall (isa_field.f G k) [(nth x23 0), (.int .i64 0), (.int .i64 26)] h25) fun v26 h26 =>
  bnd (pureCall (isa_sign.f G k) [v26, (.int .i64 26)] h26) fun v27 h27 =>
  finV [(.int .i64 0), v27] h.length h27)
  (bnd (pu h25 (bin Tryd.prog .eql 3 true (nth x23 1) (.int .i64 21))) fun v28 h28 =>
  condA v28
  (bnd (pureCall (isa_field.f G k) [(nth x23 0), (.int .i64 0), (.int .i64 4)] h28) fun v29 h29 =>
  bnd (pureCall (isa_field.f G k) [(nth x23 0), (.int .i64 5), (.int .i64 19)] h29) fun v30 h30 =>
  bnd (pureCall (isa_sign.f G k) [v30, (.int .i64 19)] h30) fun v31 h31 =>
  finV [v29, v31] h.length h31)
  (thenK (
  bnd (pu h28 (bin Tryd.prog .eql 3 true (nth x23 1) (.int .i64 22))) fun v32 h32 =>
  condA v32
  (some (.normal, [(nth x23 0), (nth x23 1), v32], h32))
  (bnd (pu h32 (bin Tryd.prog .eql 3 true (nth x23 1) (.int .i64 23))) fun v33 h33 =>
  some (.normal, [(nth x23 0), (nth x23 1), v33], h33))) fun e34 x34 h34 => exK e34
  (condA (nth x34 2)
  (bnd (pureCall (isa_field.f G k) [(nth x34 0), (.int .i64 5), (.int .i64 19)] h34) fun v35 h35 =>
  bnd (pureCall (isa_sign.f G k) [v35, (.int .i64 19)] h35) fun v36 h36 =>
  finV [(.int .i64 0), v36] h.length h36)
  (bnd (pu h34 (bin Tryd.prog .eql 3 true (nth x34 1) (.int .i64 24))) fun v37 h37 =>
  condA v37
  (bnd (pureCall (isa_field.f G k) [(nth x34 0), (.int .i64 5), (.int .i64 16)] h37) fun v38 h38 =>
  finV [(.int .i64 0), v38] h.length h38)
  (finV [(.int .i64 0), (.int .i64 0)] h.length h37)))
  (fun i34 => if i34 = 0 then (finV [(.int .i64 0), (.int .i64 0)] h.length h34) else (none))
  (finV [.undef, .undef] h.length h34)))))
  (fun i23 => if i23 = 0 then (finV [(.int .i64 0), (.int .i64 0)] h.length h23) else (none))
  (finV [.undef, .undef] h.length h23))))
  (fun i16 => if i16 = 0 then (finV [(.int .i64 0), (.int .i64 0)] h.length h16) else (none))
  (finV [.undef, .undef] h.length h16))))))
  (fun i2 => if i2 = 0 then (finV [(.int .i64 0), (.int .i64 0)] h.length h2) else (none))
  (finV [.undef, .undef] h.length h2))
noncomputable def isa_extras.f (G : Globs) : Nat → Den
  | 0 => fun _ _ => none
  | k + 1 => fun args h => arg2 args fun x0 x1 => (isa_extras.c G k (isa_extras.f G k) x0 x1 h)
/-! alembic/isa.as: function 63 -/
noncomputable def isa_as.ann : Ann := mkAnn [] [] [] [(9, [0, 1, 4, 8]), (7, [0, 1, 4, 6, 8]), (5, [0, 1, 4, 6, 8])]
noncomputable def isa_as.env (G : Globs) (k : Nat) (self : Den) : List (Nat × Bool × Den) := [(40, true, isa_Word.f G k), (70, true, isa_of.f G k), (88, true, isa_field.f G k), (89, true, isa_extras.f G k)]
noncomputable def isa_as.c (G : Globs) (k : Nat) (self : Den) (x0 x1 : AV) (h : AHeap) : Option (AV × AHeap) := outV (
  bnd (boxA 57 (.agg [(.int .i64 0), (.int .i64 0), (.int .i64 0), (.int .i64 0), (.int .i64 0), (.int .i64 0)]) h) fun v0 h0 =>
  bnd (pureCall (isa_of.f G k) [x0] h0) fun v1 h1 =>
  bnd (pu h1 (extractA v1 0)) fun v2 h2 =>
  bnd (pu h2 (extractA v1 1)) fun v3 h3 =>
  bnd (boxA 141 (.agg [(.str ⟨#[]⟩), (.int .u32 0), (.bool false), (.bool false), (.bool false), (.bool false), (.int .i64 0)]) h3) fun v4 h4 =>
  bnd (stS (storeV 7 v4 v2 h4)) fun v5 h5 =>
  bnd (pu h5 (buildSt [(0, 1), (1, 1), (2, 1), (3, 1), (4, 1), (5, 1)] [(.int .i64 0), (.int .i64 0), (.int .i64 0), (.int .i64 0), (.int .i64 0), (.int .i64 0)] [(0, x0)])) fun v6 h6 =>
  bnd (boxA 57 (.agg [(.int .i64 0), (.int .i64 0), (.int .i64 0), (.int .i64 0), (.int .i64 0), (.int .i64 0)]) h6) fun v7 h7 =>
  bnd (stS (storeV 6 v7 v6 h7)) fun v8 h8 =>
  thenK (
  bnd (pu h8 (fieldAddrV 2 v4)) fun v9 h9 =>
  bnd (pu h9 (loadV G false 1 v9 h9)) fun v10 h10 =>
  condA v10
  (bnd (pureCall (isa_field.f G k) [x1, (.int .i64 0), (.int .i64 5)] h10) fun v11 h11 =>
  bnd (pu h11 (fieldAddrV 1 v7)) fun v12 h12 =>
  bnd (stS (storeV 1 v12 v11 h12)) fun v13 h13 =>
  some (.normal, [x0, x1, v0, v4, v7], h13))
  (some (.normal, [x0, x1, v0, v4, v7], h10))) fun e14 x14 h14 => exK e14
  (thenK (
  bnd (pu h14 (fieldAddrV 3 (nth x14 3))) fun v15 h15 =>
  bnd (pu h15 (loadV G false 1 v15 h15)) fun v16 h16 =>
  condA v16
  (bnd (pureCall (isa_field.f G k) [(nth x14 1), (.int .i64 5), (.int .i64 5)] h16) fun v17 h17 =>
  bnd (pu h17 (fieldAddrV 2 (nth x14 4))) fun v18 h18 =>
  bnd (stS (storeV 1 v18 v17 h18)) fun v19 h19 =>
  some (.normal, [(nth x14 0), (nth x14 1), (nth x14 2), (nth x14 3), (nth x14 4)], h19))
  (some (.normal, [(nth x14 0), (nth x14 1), (nth x14 2), (nth x14 3), (nth x14 4)], h16))) fun e20 x20 h20 => exK e20
  (thenK (
  bnd (pu h20 (fieldAddrV 4 (nth x20 3))) fun v21 h21 =>
  bnd (pu h21 (loadV G false 1 v21 h21)) fun v22 h22 =>
  condA v22
  (bnd (pureCall (isa_field.f G k) [(nth x20 1), (.int .i64 16), (.int .i64 5)] h22) fun v23 h23 =>
  bnd (pu h23 (fieldAddrV 3 (nth x20 4))) fun v24 h24 =>
  bnd (stS (storeV 1 v24 v23 h24)) fun v25 h25 =>
  some (.normal, [(nth x20 0), (nth x20 1), (nth x20 2), (nth x20 4)], h25))
  (some (.normal, [(nth x20 0), (nth x20 1), (nth x20 2), (nth x20 4)], h22))) fun e26 x26 h26 => exK e26
  (bnd (pureCall (isa_extras.f G k) [(nth x26 0), (nth x26 1)] h26) fun v27 h27 =>
  bnd (pu h27 (extractA v27 0)) fun v28 h28 =>
  bnd (pu h28 (extractA v27 1)) fun v29 h29 =>
  bnd (pu h29 (fieldAddrV 4 (nth x26 3))) fun v30 h30 =>
  bnd (stS (storeV 1 v30 v28 h30)) fun v31 h31 =>
  bnd (pu h31 (fieldAddrV 5 (nth x26 3))) fun v32 h32 =>
  bnd (stS (storeV 1 v32 v29 h32)) fun v33 h33 =>
  bnd (pu h33 (loadV G true 6 (nth x26 3) h33)) fun v34 h34 =>
  bnd (pureCall (isa_Word.f G k) [v34] h34) fun v35 h35 =>
  bnd (pu h35 (extractA v35 0)) fun v36 h36 =>
  bnd (pu h36 (extractA v35 1)) fun v37 h37 =>
  bnd (pu h37 (loadV G true 6 (nth x26 3) h37)) fun v38 h38 =>
  bnd (gd v37 true h38 (some (v36, h38))) fun v39 h39 =>
  bnd (gd v37 true h39 (some ((nth x26 1), h39))) fun v40 h40 =>
  bnd (gd v37 true h40 (pu h40 (bin Tryd.prog .eql 71 false v39 v40))) fun v41 h41 =>
  bnd (pu h41 (pickA v37 v41 (.bool false))) fun v42 h42 =>
  bnd (stS (storeV 6 (nth x26 2) v38 h42)) fun v43 h43 =>
  finL [loadV G true 6 (nth x26 2) h43, some v42] h.length h43)
  (fun i26 => none)
  (finL [loadV G true 6 (nth x26 2) h26, some .undef] h.length h26))
  (fun i20 => none)
  (finL [loadV G true 6 (nth x20 2) h20, some .undef] h.length h20))
  (fun i14 => none)
  (finL [loadV G true 6 (nth x14 2) h14, some .undef] h.length h14))
noncomputable def isa_as.f (G : Globs) : Nat → Den
  | 0 => fun _ _ => none
  | k + 1 => fun args h => arg2 args fun x0 x1 => (isa_as.c G k (isa_as.f G k) x0 x1 h)
/-! alembic/isa.Of: function 37 -/
noncomputable def isa_Of.ann : Ann := mkAnn [] [] [(2, [0, 2, 3, 4])] []
noncomputable def isa_Of.env (G : Globs) (k : Nat) (self : Den) : List (Nat × Bool × Den) := [(63, true, isa_as.f G k)]
noncomputable def isa_Of.l2 (G : Globs) (k n0 : Nat) (self : Den) (lp : LoopF) : LoopF := fun xs h0 => cutK n0 xs h0 fun h =>
  bnd (pu h (bin Tryd.prog .leq 3 true (nth xs 3) (.int .i64 24))) fun v2 h2 =>
  condA v2
  (bnd (pureCall (isa_as.f G k) [(nth xs 3), (nth xs 0)] h2) fun v3 h3 =>
  bnd (pu h3 (extractA v3 0)) fun v4 h4 =>
  bnd (pu h4 (extractA v3 1)) fun v5 h5 =>
  bnd (boxA 57 (.agg [(.int .i64 0), (.int .i64 0), (.int .i64 0), (.int .i64 0), (.int .i64 0), (.int .i64 0)]) h5) fun v6 h6 =>
  bnd (stS (storeV 6 v6 v4 h6)) fun v7 h7 =>
  bnd (gd v5 true h7 (some ((nth xs 3), h7))) fun v8 h8 =>
  bnd (gd v5 true h8 (pu h8 (bin Tryd.prog .neq 3 true v8 (.int .i64 12)))) fun v9 h9 =>
  bnd (gd v5 true h9 (some (v9, h9))) fun v10 h10 =>
  bnd (gd v10 false h10 (pu h10 (fieldAddrV 5 v6))) fun v11 h11 =>
  bnd (gd v10 false h11 (pu h11 (loadV G false 1 v11 h11))) fun v12 h12 =>
  bnd (gd v10 false h12 (pu h12 (bin Tryd.prog .neq 3 true v12 (.int .i64 0)))) fun v13 h13 =>
  bnd (gd v5 true h13 (pu h13 (pickA v10 (.bool true) v13))) fun v14 h14 =>
  bnd (pu h14 (pickA v5 v14 (.bool false))) fun v15 h15 =>
  condA v15
  (bnd (pu h15 (loadV G true 6 v6 h15)) fun v16 h16 =>
  bnd (stS (storeV 6 (nth xs 1) v16 h16)) fun v17 h17 =>
  some (.ret, [(nth xs 0), (nth xs 1), (.bool true), (nth xs 3)], h17))
  (bnd (pu h15 (bin Tryd.prog .add 3 true (nth xs 3) (.int .i64 1))) fun v18 h18 =>
  lp [(nth xs 0), (nth xs 1), (nth xs 2), v18] h18))
  (some (.exit 0, [(nth xs 0), (nth xs 1), (nth xs 2), (nth xs 3)], h2))
noncomputable def isa_Of.c (G : Globs) (k : Nat) (self : Den) (x0 : AV) (h : AHeap) : Option (AV × AHeap) := outV (
  bnd (boxA 57 (.agg [(.int .i64 0), (.int .i64 0), (.int .i64 0), (.int .i64 0), (.int .i64 0), (.int .i64 0)]) h) fun v0 h0 =>
  thenK (loopN (isa_Of.l2 G k h0.length self) k [x0, v0, (.bool false), (.int .i64 1)] h0) fun e1 x1 h1 => exK e1
  (bnd (pu h1 (buildSt [(0, 1), (1, 1), (2, 1), (3, 1), (4, 1), (5, 1)] [(.int .i64 0), (.int .i64 0), (.int .i64 0), (.int .i64 0), (.int .i64 0), (.int .i64 0)] [])) fun v19 h19 =>
  bnd (stS (storeV 6 (nth x1 1) v19 h19)) fun v20 h20 =>
  finL [loadV G true 6 (nth x1 1) h20, some (.bool false)] h.length h20)
  (fun i1 => if i1 = 0 then (bnd (pu h1 (buildSt [(0, 1), (1, 1), (2, 1), (3, 1), (4, 1), (5, 1)] [(.int .i64 0), (.int .i64 0), (.int .i64 0), (.int .i64 0), (.int .i64 0), (.int .i64 0)] [])) fun v21 h21 =>
  bnd (stS (storeV 6 (nth x1 1) v21 h21)) fun v22 h22 =>
  finL [loadV G true 6 (nth x1 1) h22, some (.bool false)] h.length h22) else (none))
  (finL [loadV G true 6 (nth x1 1) h1, some (nth x1 2)] h.length h1))
noncomputable def isa_Of.f (G : Globs) : Nat → Den
  | 0 => fun _ _ => none
  | k + 1 => fun args h => arg1 args fun x0 => (isa_Of.c G k (isa_Of.f G k) x0 h)
/-! alembic/alembicref17.partsOf: function 79 -/
noncomputable def alembicref17_partsOf.ann : Ann := mkAnn [] [] [] [(34, [2, 3, 43]), (23, [2, 3, 26]), (19, [2, 3, 20]), (14, [2, 3, 16]), (11, [2, 3, 8]), (4, [2, 3, 4])]
noncomputable def alembicref17_partsOf.env (G : Globs) (k : Nat) (self : Den) : List (Nat × Bool × Den) := []
noncomputable def alembicref17_partsOf.c (G : Globs) (k : Nat) (self : Den) (x0 : AV) (h : AHeap) : Option (AV × AHeap) := outV (
  bnd (boxA 149 (.agg [(.bool false), (.bool false), (.bool false), (.bool false), (.int .i64 0)]) h) fun v0 h0 =>
  thenK (
  bnd (pu h0 (bin Tryd.prog .eql 3 true x0 (.int .i64 1))) fun v1 h1 =>
  condA v1
  (some (.normal, [v0, x0, v1], h1))
  (bnd (pu h1 (bin Tryd.prog .eql 3 true x0 (.int .i64 2))) fun v2 h2 =>
  some (.normal, [v0, x0, v2], h2))) fun e3 x3 h3 => exK e3
  (condA (nth x3 2)
  (bnd (pu h3 (buildSt [(0, 1), (1, 1), (2, 1), (3, 1), (4, 1)] [(.bool false), (.bool false), (.bool false), (.bool false), (.int .i64 0)] [(0, (.bool true)), (3, (.bool true)), (4, (.int .i64 16))])) fun v4 h4 =>
  bnd (stS (storeV 5 (nth x3 0) v4 h4)) fun v5 h5 =>
  finL [loadV G true 5 (nth x3 0) h5] h.length h5)
  (thenK (
  bnd (pu h3 (bin Tryd.prog .eql 3 true (nth x3 1) (.int .i64 3))) fun v6 h6 =>
  condA v6
  (some (.normal, [(nth x3 0), (nth x3 1), v6], h6))
  (bnd (pu h6 (bin Tryd.prog .eql 3 true (nth x3 1) (.int .i64 4))) fun v7 h7 =>
  condA v7
  (some (.normal, [(nth x3 0), (nth x3 1), v7], h7))
  (bnd (pu h7 (bin Tryd.prog .eql 3 true (nth x3 1) (.int .i64 5))) fun v8 h8 =>
  condA v8
  (some (.normal, [(nth x3 0), (nth x3 1), v8], h8))
  (bnd (pu h8 (bin Tryd.prog .eql 3 true (nth x3 1) (.int .i64 6))) fun v9 h9 =>
  condA v9
  (some (.normal, [(nth x3 0), (nth x3 1), v9], h9))
  (bnd (pu h9 (bin Tryd.prog .eql 3 true (nth x3 1) (.int .i64 7))) fun v10 h10 =>
  condA v10
  (some (.normal, [(nth x3 0), (nth x3 1), v10], h10))
  (bnd (pu h10 (bin Tryd.prog .eql 3 true (nth x3 1) (.int .i64 9))) fun v11 h11 =>
  some (.normal, [(nth x3 0), (nth x3 1), v11], h11))))))) fun e12 x12 h12 => exK e12
  (condA (nth x12 2)
  (bnd (pu h12 (buildSt [(0, 1), (1, 1), (2, 1), (3, 1), (4, 1)] [(.bool false), (.bool false), (.bool false), (.bool false), (.int .i64 0)] [(0, (.bool true)), (1, (.bool true)), (2, (.bool true))])) fun v13 h13 =>
  bnd (stS (storeV 5 (nth x12 0) v13 h13)) fun v14 h14 =>
  finL [loadV G true 5 (nth x12 0) h14] h.length h14)
  (thenK (
  bnd (pu h12 (bin Tryd.prog .eql 3 true (nth x12 1) (.int .i64 8))) fun v15 h15 =>
  condA v15
  (some (.normal, [(nth x12 0), (nth x12 1), v15], h15))
  (bnd (pu h15 (bin Tryd.prog .eql 3 true (nth x12 1) (.int .i64 16))) fun v16 h16 =>
  some (.normal, [(nth x12 0), (nth x12 1), v16], h16))) fun e17 x17 h17 => exK e17
  (condA (nth x17 2)
  (bnd (pu h17 (buildSt [(0, 1), (1, 1), (2, 1), (3, 1), (4, 1)] [(.bool false), (.bool false), (.bool false), (.bool false), (.int .i64 0)] [(0, (.bool true)), (1, (.bool true)), (2, (.bool true)), (3, (.bool true))])) fun v18 h18 =>
  bnd (stS (storeV 5 (nth x17 0) v18 h18)) fun v19 h19 =>
  finL [loadV G true 5 (nth x17 0) h19] h.length h19)
  (thenK (
  bnd (pu h17 (bin Tryd.prog .eql 3 true (nth x17 1) (.int .i64 10))) fun v20 h20 =>
  condA v20
  (some (.normal, [(nth x17 0), (nth x17 1), v20], h20))
  (bnd (pu h20 (bin Tryd.prog .eql 3 true (nth x17 1) (.int .i64 11))) fun v21 h21 =>
  condA v21
  (some (.normal, [(nth x17 0), (nth x17 1), v21], h21))
  (bnd (pu h21 (bin Tryd.prog .eql 3 true (nth x17 1) (.int .i64 18))) fun v22 h22 =>
  condA v22
  (some (.normal, [(nth x17 0), (nth x17 1), v22], h22))
  (bnd (pu h22 (bin Tryd.prog .eql 3 true (nth x17 1) (.int .i64 19))) fun v23 h23 =>
  some (.normal, [(nth x17 0), (nth x17 1), v23], h23))))) fun e24 x24 h24 => exK e24
  (condA (nth x24 2)
  (bnd (pu h24 (buildSt [(0, 1), (1, 1), (2, 1), (3, 1), (4, 1)] [(.bool false), (.bool false), (.bool false), (.bool false), (.int .i64 0)] [(0, (.bool true)), (1, (.bool true)), (4, (.int .i64 12))])) fun v25 h25 =>
  bnd (stS (storeV 5 (nth x24 0) v25 h25)) fun v26 h26 =>
  finL [loadV G true 5 (nth x24 0) h26] h.length h26)
  (thenK (
  bnd (pu h24 (bin Tryd.prog .eql 3 true (nth x24 1) (.int .i64 12))) fun v27 h27 =>
  condA v27
  (some (.normal, [(nth x24 0), (nth x24 1), v27], h27))
  (bnd (pu h27 (bin Tryd.prog .eql 3 true (nth x24 1) (.int .i64 13))) fun v28 h28 =>
  condA v28
  (some (.normal, [(nth x24 0), (nth x24 1), v28], h28))
  (bnd (pu h28 (bin Tryd.prog .eql 3 true (nth x24 1) (.int .i64 14))) fun v29 h29 =>
  some (.normal, [(nth x24 0), (nth x24 1), v29], h29)))) fun e30 x30 h30 => exK e30
  (condA (nth x30 2)
  (bnd (pu h30 (buildSt [(0, 1), (1, 1), (2, 1), (3, 1), (4, 1)] [(.bool false), (.bool false), (.bool false), (.bool false), (.int .i64 0)] [(0, (.bool true)), (1, (.bool true)), (4, (.int .i64 6))])) fun v31 h31 =>
  bnd (stS (storeV 5 (nth x30 0) v31 h31)) fun v32 h32 =>
  finL [loadV G true 5 (nth x30 0) h32] h.length h32)
  (bnd (pu h30 (bin Tryd.prog .eql 3 true (nth x30 1) (.int .i64 15))) fun v33 h33 =>
  condA v33
  (bnd (pu h33 (buildSt [(0, 1), (1, 1), (2, 1), (3, 1), (4, 1)] [(.bool false), (.bool false), (.bool false), (.bool false), (.int .i64 0)] [(1, (.bool true)), (2, (.bool true))])) fun v34 h34 =>
  bnd (stS (storeV 5 (nth x30 0) v34 h34)) fun v35 h35 =>
  finL [loadV G true 5 (nth x30 0) h35] h.length h35)
  (bnd (pu h33 (bin Tryd.prog .eql 3 true (nth x30 1) (.int .i64 17))) fun v36 h36 =>
  condA v36
  (bnd (pu h36 (buildSt [(0, 1), (1, 1), (2, 1), (3, 1), (4, 1)] [(.bool false), (.bool false), (.bool false), (.bool false), (.int .i64 0)] [(0, (.bool true)), (3, (.bool true))])) fun v37 h37 =>
  bnd (stS (storeV 5 (nth x30 0) v37 h37)) fun v38 h38 =>
  finL [loadV G true 5 (nth x30 0) h38] h.length h38)
  (bnd (pu h36 (bin Tryd.prog .eql 3 true (nth x30 1) (.int .i64 20))) fun v39 h39 =>
  condA v39
  (bnd (pu h39 (buildSt [(0, 1), (1, 1), (2, 1), (3, 1), (4, 1)] [(.bool false), (.bool false), (.bool false), (.bool false), (.int .i64 0)] [(4, (.int .i64 26))])) fun v40 h40 =>
  bnd (stS (storeV 5 (nth x30 0) v40 h40)) fun v41 h41 =>
  finL [loadV G true 5 (nth x30 0) h41] h.length h41)
  (bnd (pu h39 (bin Tryd.prog .eql 3 true (nth x30 1) (.int .i64 21))) fun v42 h42 =>
  condA v42
  (bnd (pu h42 (buildSt [(0, 1), (1, 1), (2, 1), (3, 1), (4, 1)] [(.bool false), (.bool false), (.bool false), (.bool false), (.int .i64 0)] [(3, (.bool true)), (4, (.int .i64 19))])) fun v43 h43 =>
  bnd (stS (storeV 5 (nth x30 0) v43 h43)) fun v44 h44 =>
  finL [loadV G true 5 (nth x30 0) h44] h.length h44)
  (thenK (
  bnd (pu h42 (bin Tryd.prog .eql 3 true (nth x30 1) (.int .i64 22))) fun v45 h45 =>
  condA v45
  (some (.normal, [(nth x30 0), (nth x30 1), v45], h45))
  (bnd (pu h45 (bin Tryd.prog .eql 3 true (nth x30 1) (.int .i64 23))) fun v46 h46 =>
  some (.normal, [(nth x30 0), (nth x30 1), v46], h46))) fun e47 x47 h47 => exK e47
  (condA (nth x47 2)
  (bnd (pu h47 (buildSt [(0, 1), (1, 1), (2, 1), (3, 1), (4, 1)] [(.bool false), (.bool false), (.bool false), (.bool false), (.int .i64 0)] [(0, (.bool true)), (4, (.int .i64 19))])) fun v48 h48 =>
  bnd (stS (storeV 5 (nth x47 0) v48 h48)) fun v49 h49 =>
  finL [loadV G true 5 (nth x47 0) h49] h.length h49)
  (bnd (pu h47 (bin Tryd.prog .eql 3 true (nth x47 1) (.int .i64 24))) fun v50 h50 =>
  condA v50
  (bnd (pu h50 (buildSt [(0, 1), (1, 1), (2, 1), (3, 1), (4, 1)] [(.bool false), (.bool false), (.bool false), (.bool false), (.int .i64 0)] [(4, (.int .i64 16))])) fun v51 h51 =>
  bnd (stS (storeV 5 (nth x47 0) v51 h51)) fun v52 h52 =>
  finL [loadV G true 5 (nth x47 0) h52] h.length h52)
  (bnd (pu h50 (buildSt [(0, 1), (1, 1), (2, 1), (3, 1), (4, 1)] [(.bool false), (.bool false), (.bool false), (.bool false), (.int .i64 0)] [])) fun v53 h53 =>
  bnd (stS (storeV 5 (nth x47 0) v53 h53)) fun v54 h54 =>
  finL [loadV G true 5 (nth x47 0) h54] h.length h54)))
  (fun i47 => if i47 = 0 then (bnd (pu h47 (buildSt [(0, 1), (1, 1), (2, 1), (3, 1), (4, 1)] [(.bool false), (.bool false), (.bool false), (.bool false), (.int .i64 0)] [])) fun v55 h55 =>
  bnd (stS (storeV 5 (nth x47 0) v55 h55)) fun v56 h56 =>
  finL [loadV G true 5 (nth x47 0) h56] h.length h56) else (none))
  (finL [loadV G true 5 (nth x47 0) h47] h.length h47)))))))
  (fun i30 => if i30 = 0 then (bnd (pu h30 (buildSt [(0, 1), (1, 1), (2, 1), (3, 1), (4, 1)] [(.bool false), (.bool false), (.bool false), (.bool false), (.int .i64 0)] [])) fun v57 h57 =>
  bnd (stS (storeV 5 (nth x30 0) v57 h57)) fun v58 h58 =>
  finL [loadV G true 5 (nth x30 0) h58] h.length h58) else (none))
  (finL [loadV G true 5 (nth x30 0) h30] h.length h30)))
  (fun i24 => if i24 = 0 then (bnd (pu h24 (buildSt [(0, 1), (1, 1), (2, 1), (3, 1), (4, 1)] [(.bool false), (.bool false), (.bool false), (.bool false), (.int .i64 0)] [])) fun v59 h59 =>
  bnd (stS (storeV 5 (nth x24 0) v59 h59)) fun v60 h60 =>
  finL [loadV G true 5 (nth x24 0) h60] h.length h60) else (none))
  (finL [loadV G true 5 (nth x24 0) h24] h.length h24)))
  (fun i17 => if i17 = 0 then (bnd (pu h17 (buildSt [(0, 1), (1, 1), (2, 1), (3, 1), (4, 1)] [(.bool false), (.bool false), (.bool false), (.bool false), (.int .i64 0)] [])) fun v61 h61 =>
  bnd (stS (storeV 5 (nth x17 0) v61 h61)) fun v62 h62 =>
  finL [loadV G true 5 (nth x17 0) h62] h.length h62) else (none))
  (finL [loadV G true 5 (nth x17 0) h17] h.length h17)))
  (fun i12 => if i12 = 0 then (bnd (pu h12 (buildSt [(0, 1), (1, 1), (2, 1), (3, 1), (4, 1)] [(.bool false), (.bool false), (.bool false), (.bool false), (.int .i64 0)] [])) fun v63 h63 =>
  bnd (stS (storeV 5 (nth x12 0) v63 h63)) fun v64 h64 =>
  finL [loadV G true 5 (nth x12 0) h64] h.length h64) else (none))
  (finL [loadV G true 5 (nth x12 0) h12] h.length h12)))
  (fun i3 => if i3 = 0 then (bnd (pu h3 (buildSt [(0, 1), (1, 1), (2, 1), (3, 1), (4, 1)] [(.bool false), (.bool false), (.bool false), (.bool false), (.int .i64 0)] [])) fun v65 h65 =>
  bnd (stS (storeV 5 (nth x3 0) v65 h65)) fun v66 h66 =>
  finL [loadV G true 5 (nth x3 0) h66] h.length h66) else (none))
  (finL [loadV G true 5 (nth x3 0) h3] h.length h3))
noncomputable def alembicref17_partsOf.f (G : Globs) : Nat → Den
  | 0 => fun _ _ => none
  | k + 1 => fun args h => arg1 args fun x0 => (alembicref17_partsOf.c G k (alembicref17_partsOf.f G k) x0 h)
theorem alembicref17_partsOf.step (G : Globs) (k : Nat) (x0 : AV) (h : AHeap) : alembicref17_partsOf.f G (k + 1) [x0] h = alembicref17_partsOf.c G k (alembicref17_partsOf.f G k) x0 h := rfl
/-! alembic/alembicref17.reg: function 99 -/
noncomputable def alembicref17_reg.ann : Ann := mkAnn [] [] [] []
noncomputable def alembicref17_reg.env (G : Globs) (k : Nat) (self : Den) : List (Nat × Bool × Den) := []
noncomputable def alembicref17_reg.c (G : Globs) (k : Nat) (self : Den) (x0 x1 : AV) (h : AHeap) : Option (AV × AHeap) := outV (
  bnd (pu h (bin Tryd.prog .eql 3 true x0 (.int .i64 0))) fun v0 h0 =>
  bnd (gd v0 false h0 (some (x1, h0))) fun v1 h1 =>
  bnd (gd v0 false h1 (some (v1, h1))) fun v2 h2 =>
  bnd (gd v2 true h2 (some (x0, h2))) fun v3 h3 =>
  bnd (gd v2 true h3 (pu h3 (bin Tryd.prog .gtr 3 true v3 (.int .i64 0)))) fun v4 h4 =>
  bnd (gd v0 false h4 (pu h4 (pickA v2 v4 (.bool false)))) fun v5 h5 =>
  bnd (gd v0 false h5 (some (v5, h5))) fun v6 h6 =>
  bnd (gd v6 true h6 (some (x0, h6))) fun v7 h7 =>
  bnd (gd v6 true h7 (pu h7 (bin Tryd.prog .leq 3 true v7 (.int .i64 31)))) fun v8 h8 =>
  bnd (gd v0 false h8 (pu h8 (pickA v6 v8 (.bool false)))) fun v9 h9 =>
  bnd (pu h9 (pickA v0 (.bool true) v9)) fun v10 h10 =>
  finV [v10] h.length h10)
noncomputable def alembicref17_reg.f (G : Globs) : Nat → Den
  | 0 => fun _ _ => none
  | k + 1 => fun args h => arg2 args fun x0 x1 => (alembicref17_reg.c G k (alembicref17_reg.f G k) x0 x1 h)
theorem alembicref17_reg.step (G : Globs) (k : Nat) (x0 x1 : AV) (h : AHeap) : alembicref17_reg.f G (k + 1) [x0, x1] h = alembicref17_reg.c G k (alembicref17_reg.f G k) x0 x1 h := rfl
/-! alembic/alembicref17.cond: function 100 -/
noncomputable def alembicref17_cond.ann : Ann := mkAnn [] [] [] []
noncomputable def alembicref17_cond.env (G : Globs) (k : Nat) (self : Den) : List (Nat × Bool × Den) := []
noncomputable def alembicref17_cond.c (G : Globs) (k : Nat) (self : Den) (x0 : AV) (h : AHeap) : Option (AV × AHeap) := outV (
  bnd (pu h (bin Tryd.prog .geq 3 true x0 (.int .i64 0))) fun v0 h0 =>
  bnd (gd v0 true h0 (some (x0, h0))) fun v1 h1 =>
  bnd (gd v0 true h1 (pu h1 (bin Tryd.prog .leq 3 true v1 (.int .i64 3)))) fun v2 h2 =>
  bnd (pu h2 (pickA v0 v2 (.bool false))) fun v3 h3 =>
  bnd (gd v3 false h3 (some (x0, h3))) fun v4 h4 =>
  bnd (gd v3 false h4 (pu h4 (bin Tryd.prog .eql 3 true v4 (.int .i64 8)))) fun v5 h5 =>
  bnd (pu h5 (pickA v3 (.bool true) v5)) fun v6 h6 =>
  bnd (gd v6 false h6 (some (x0, h6))) fun v7 h7 =>
  bnd (gd v6 false h7 (pu h7 (bin Tryd.prog .eql 3 true v7 (.int .i64 9)))) fun v8 h8 =>
  bnd (pu h8 (pickA v6 (.bool true) v8)) fun v9 h9 =>
  finV [v9] h.length h9)
noncomputable def alembicref17_cond.f (G : Globs) : Nat → Den
  | 0 => fun _ _ => none
  | k + 1 => fun args h => arg1 args fun x0 => (alembicref17_cond.c G k (alembicref17_cond.f G k) x0 h)
theorem alembicref17_cond.step (G : Globs) (k : Nat) (x0 : AV) (h : AHeap) : alembicref17_cond.f G (k + 1) [x0] h = alembicref17_cond.c G k (alembicref17_cond.f G k) x0 h := rfl
/-! alembic/alembicref17.far: function 101 -/
noncomputable def alembicref17_far.ann : Ann := mkAnn [] [] [] []
noncomputable def alembicref17_far.env (G : Globs) (k : Nat) (self : Den) : List (Nat × Bool × Den) := []
noncomputable def alembicref17_far.c (G : Globs) (k : Nat) (self : Den) (x0 x1 : AV) (h : AHeap) : Option (AV × AHeap) := outV (
  bnd (pu h (bin Tryd.prog .sub 3 true x1 (.int .i64 1))) fun v0 h0 =>
  bnd (pu h0 (convInt .u64 v0)) fun v1 h1 =>
  bnd (pu h1 (bin Tryd.prog .shl 3 true (.int .i64 (-1)) v1)) fun v2 h2 =>
  bnd (pu h2 (bin Tryd.prog .geq 3 false x0 v2)) fun v3 h3 =>
  bnd (gd v3 true h3 (some (x0, h3))) fun v4 h4 =>
  bnd (gd v3 true h4 (some (x1, h4))) fun v5 h5 =>
  bnd (gd v3 true h5 (pu h5 (bin Tryd.prog .sub 3 true v5 (.int .i64 1)))) fun v6 h6 =>
  bnd (gd v3 true h6 (pu h6 (convInt .u64 v6))) fun v7 h7 =>
  bnd (gd v3 true h7 (pu h7 (bin Tryd.prog .shl 3 true (.int .i64 1) v7))) fun v8 h8 =>
  bnd (gd v3 true h8 (pu h8 (bin Tryd.prog .lss 3 false v4 v8))) fun v9 h9 =>
  bnd (pu h9 (pickA v3 v9 (.bool false))) fun v10 h10 =>
  finV [v10] h.length h10)
noncomputable def alembicref17_far.f (G : Globs) : Nat → Den
  | 0 => fun _ _ => none
  | k + 1 => fun args h => arg2 args fun x0 x1 => (alembicref17_far.c G k (alembicref17_far.f G k) x0 x1 h)
theorem alembicref17_far.step (G : Globs) (k : Nat) (x0 x1 : AV) (h : AHeap) : alembicref17_far.f G (k + 1) [x0, x1] h = alembicref17_far.c G k (alembicref17_far.f G k) x0 x1 h := rfl
/-! alembic/alembicref17.right: function 78 -/
noncomputable def alembicref17_right.ann : Ann := mkAnn [] [] [] [(25, [1, 2, 3]), (23, [1, 3, 84]), (19, [1, 3, 72, 73]), (16, [1, 2, 3]), (14, [1, 3, 63]), (9, [1, 3, 45, 52])]
noncomputable def alembicref17_right.env (G : Globs) (k : Nat) (self : Den) : List (Nat × Bool × Den) := [(79, true, alembicref17_partsOf.f G k), (99, true, alembicref17_reg.f G k), (100, true, alembicref17_cond.f G k), (101, true, alembicref17_far.f G k)]
noncomputable def alembicref17_right.c (G : Globs) (k : Nat) (self : Den) (x0 : AV) (h : AHeap) : Option (AV × AHeap) := outV (
  bnd (boxRoA x0 h) fun v0 h0 =>
  bnd (pu h0 (fieldAddrV 0 v0)) fun v1 h1 =>
  bnd (pu h1 (loadV G false 1 v1 h1)) fun v2 h2 =>
  bnd (pureCall (alembicref17_partsOf.f G k) [v2] h2) fun v3 h3 =>
  bnd (boxA 149 (.agg [(.bool false), (.bool false), (.bool false), (.bool false), (.int .i64 0)]) h3) fun v4 h4 =>
  bnd (stS (storeV 5 v4 v3 h4)) fun v5 h5 =>
  bnd (pu h5 (fieldAddrV 0 v4)) fun v6 h6 =>
  bnd (pu h6 (loadV G false 1 v6 h6)) fun v7 h7 =>
  bnd (pu h7 (un .not v7)) fun v8 h8 =>
  bnd (gd v8 true h8 (pu h8 (fieldAddrV 1 v4))) fun v9 h9 =>
  bnd (gd v8 true h9 (pu h9 (loadV G false 1 v9 h9))) fun v10 h10 =>
  bnd (gd v8 true h10 (pu h10 (un .not v10))) fun v11 h11 =>
  bnd (pu h11 (pickA v8 v11 (.bool false))) fun v12 h12 =>
  bnd (gd v12 true h12 (pu h12 (fieldAddrV 4 v4))) fun v13 h13 =>
  bnd (gd v12 true h13 (pu h13 (loadV G false 1 v13 h13))) fun v14 h14 =>
  bnd (gd v12 true h14 (pu h14 (bin Tryd.prog .eql 3 true v14 (.int .i64 0)))) fun v15 h15 =>
  bnd (pu h15 (pickA v12 v15 (.bool false))) fun v16 h16 =>
  bnd (gd v16 false h16 (pu h16 (fieldAddrV 1 v0))) fun v17 h17 =>
  bnd (gd v16 false h17 (pu h17 (loadV G false 1 v17 h17))) fun v18 h18 =>
  bnd (gd v16 false h18 (pu h18 (fieldAddrV 0 v4))) fun v19 h19 =>
  bnd (gd v16 false h19 (pu h19 (loadV G false 1 v19 h19))) fun v20 h20 =>
  bnd (gd v16 false h20 (pureCall (alembicref17_reg.f G k) [v18, v20] h20)) fun v21 h21 =>
  bnd (gd v16 false h21 (pu h21 (un .not v21))) fun v22 h22 =>
  bnd (pu h22 (pickA v16 (.bool true) v22)) fun v23 h23 =>
  bnd (gd v23 false h23 (pu h23 (fieldAddrV 2 v0))) fun v24 h24 =>
  bnd (gd v23 false h24 (pu h24 (loadV G false 1 v24 h24))) fun v25 h25 =>
  bnd (gd v23 false h25 (pu h25 (fieldAddrV 1 v4))) fun v26 h26 =>
  bnd (gd v23 false h26 (pu h26 (loadV G false 1 v26 h26))) fun v27 h27 =>
  bnd (gd v23 false h27 (pureCall (alembicref17_reg.f G k) [v25, v27] h27)) fun v28 h28 =>
  bnd (gd v23 false h28 (pu h28 (un .not v28))) fun v29 h29 =>
  bnd (pu h29 (pickA v23 (.bool true) v29)) fun v30 h30 =>
  bnd (gd v30 false h30 (pu h30 (fieldAddrV 3 v0))) fun v31 h31 =>
  bnd (gd v30 false h31 (pu h31 (loadV G false 1 v31 h31))) fun v32 h32 =>
  bnd (gd v30 false h32 (pu h32 (fieldAddrV 2 v4))) fun v33 h33 =>
  bnd (gd v30 false h33 (pu h33 (loadV G false 1 v33 h33))) fun v34 h34 =>
  bnd (gd v30 false h34 (pureCall (alembicref17_reg.f G k) [v32, v34] h34)) fun v35 h35 =>
  bnd (gd v30 false h35 (pu h35 (un .not v35))) fun v36 h36 =>
  bnd (pu h36 (pickA v30 (.bool true) v36)) fun v37 h37 =>
  condA v37
  (finV [(.bool false)] h.length h37)
  (thenK (
  bnd (pu h37 (fieldAddrV 0 v0)) fun v38 h38 =>
  bnd (pu h38 (loadV G false 1 v38 h38)) fun v39 h39 =>
  thenK (
  bnd (pu h39 (bin Tryd.prog .eql 3 true v39 (.int .i64 1))) fun v40 h40 =>
  condA v40
  (some (.normal, [v0, v4, v39, v40], h40))
  (bnd (pu h40 (bin Tryd.prog .eql 3 true v39 (.int .i64 2))) fun v41 h41 =>
  some (.normal, [v0, v4, v39, v41], h41))) fun e42 x42 h42 => exK e42
  (condA (nth x42 3)
  (bnd (pu h42 (fieldAddrV 4 (nth x42 0))) fun v43 h43 =>
  bnd (pu h43 (loadV G false 1 v43 h43)) fun v44 h44 =>
  bnd (pu h44 (bin Tryd.prog .lss 3 true v44 (.int .i64 0))) fun v45 h45 =>
  bnd (gd v45 false h45 (pu h45 (fieldAddrV 4 (nth x42 0)))) fun v46 h46 =>
  bnd (gd v45 false h46 (pu h46 (loadV G false 1 v46 h46))) fun v47 h47 =>
  bnd (gd v45 false h47 (pu h47 (bin Tryd.prog .gtr 3 true v47 (.int .i64 3)))) fun v48 h48 =>
  bnd (pu h48 (pickA v45 (.bool true) v48)) fun v49 h49 =>
  condA v49
  (some (.ret, [(nth x42 0), (.bool false), (nth x42 1)], h49))
  (some (.normal, [(nth x42 0), .undef, (nth x42 1)], h49)))
  (thenK (
  bnd (pu h42 (bin Tryd.prog .eql 3 true (nth x42 2) (.int .i64 16))) fun v50 h50 =>
  condA v50
  (some (.normal, [(nth x42 0), (nth x42 1), v50], h50))
  (bnd (pu h50 (bin Tryd.prog .eql 3 true (nth x42 2) (.int .i64 17))) fun v51 h51 =>
  condA v51
  (some (.normal, [(nth x42 0), (nth x42 1), v51], h51))
  (bnd (pu h51 (bin Tryd.prog .eql 3 true (nth x42 2) (.int .i64 21))) fun v52 h52 =>
  some (.normal, [(nth x42 0), (nth x42 1), v52], h52)))) fun e53 x53 h53 => exK e53
  (condA (nth x53 2)
  (bnd (pu h53 (fieldAddrV 4 (nth x53 0))) fun v54 h54 =>
  bnd (pu h54 (loadV G false 1 v54 h54)) fun v55 h55 =>
  bnd (pureCall (alembicref17_cond.f G k) [v55] h55) fun v56 h56 =>
  bnd (pu h56 (un .not v56)) fun v57 h57 =>
  condA v57
  (some (.ret, [(nth x53 0), (.bool false), (nth x53 1)], h57))
  (some (.normal, [(nth x53 0), .undef, (nth x53 1)], h57)))
  (bnd (pu h53 (fieldAddrV 4 (nth x53 0))) fun v58 h58 =>
  bnd (pu h58 (loadV G false 1 v58 h58)) fun v59 h59 =>
  bnd (pu h59 (fieldAddrV 3 (nth x53 1))) fun v60 h60 =>
  bnd (pu h60 (loadV G false 1 v60 h60)) fun v61 h61 =>
  bnd (pureCall (alembicref17_reg.f G k) [v59, v61] h61) fun v62 h62 =>
  bnd (pu h62 (un .not v62)) fun v63 h63 =>
  condA v63
  (some (.ret, [(nth x53 0), (.bool false), (nth x53 1)], h63))
  (some (.normal, [(nth x53 0), .undef, (nth x53 1)], h63))))
  (fun i53 => if i53 = 0 then (some (.normal, [(nth x53 0), .undef, (nth x53 1)], h53)) else (some (.exit i53, [(nth x53 0), .undef, (nth x53 1)], h53)))
  (some (.ret, [(nth x53 0), .undef, (nth x53 1)], h53))))
  (fun i42 => if i42 = 0 then (some (.normal, [(nth x42 0), .undef, (nth x42 1)], h42)) else (some (.exit i42, [(nth x42 0), .undef, (nth x42 1)], h42)))
  (some (.ret, [(nth x42 0), .undef, (nth x42 1)], h42))) fun e64 x64 h64 => exK e64
  (thenK (
  bnd (pu h64 (fieldAddrV 0 (nth x64 0))) fun v65 h65 =>
  bnd (pu h65 (loadV G false 1 v65 h65)) fun v66 h66 =>
  thenK (
  bnd (pu h66 (bin Tryd.prog .eql 3 true v66 (.int .i64 10))) fun v67 h67 =>
  condA v67
  (some (.normal, [(nth x64 0), (nth x64 2), v66, v67], h67))
  (bnd (pu h67 (bin Tryd.prog .eql 3 true v66 (.int .i64 11))) fun v68 h68 =>
  some (.normal, [(nth x64 0), (nth x64 2), v66, v68], h68))) fun e69 x69 h69 => exK e69
  (condA (nth x69 3)
  (bnd (pu h69 (fieldAddrV 1 (nth x69 0))) fun v70 h70 =>
  bnd (pu h70 (loadV G false 1 v70 h70)) fun v71 h71 =>
  bnd (pu h71 (bin Tryd.prog .eql 3 true v71 (.int .i64 31))) fun v72 h72 =>
  bnd (gd v72 false h72 (pu h72 (fieldAddrV 2 (nth x69 0)))) fun v73 h73 =>
  bnd (gd v72 false h73 (pu h73 (loadV G false 1 v73 h73))) fun v74 h74 =>
  bnd (gd v72 false h74 (pu h74 (bin Tryd.prog .eql 3 true v74 (.int .i64 31)))) fun v75 h75 =>
  bnd (pu h75 (pickA v72 (.bool true) v75)) fun v76 h76 =>
  condA v76
  (some (.ret, [(nth x69 0), (.bool false), (nth x69 1)], h76))
  (some (.normal, [(nth x69 0), .undef, (nth x69 1)], h76)))
  (thenK (
  bnd (pu h69 (bin Tryd.prog .eql 3 true (nth x69 2) (.int .i64 18))) fun v77 h77 =>
  condA v77
  (some (.normal, [(nth x69 0), (nth x69 1), v77], h77))
  (bnd (pu h77 (bin Tryd.prog .eql 3 true (nth x69 2) (.int .i64 19))) fun v78 h78 =>
  some (.normal, [(nth x69 0), (nth x69 1), v78], h78))) fun e79 x79 h79 => exK e79
  (condA (nth x79 2)
  (bnd (pu h79 (fieldAddrV 2 (nth x79 0))) fun v80 h80 =>
  bnd (pu h80 (loadV G false 1 v80 h80)) fun v81 h81 =>
  bnd (pu h81 (bin Tryd.prog .eql 3 true v81 (.int .i64 31))) fun v82 h82 =>
  condA v82
  (some (.ret, [(nth x79 0), (.bool false), (nth x79 1)], h82))
  (some (.normal, [(nth x79 0), .undef, (nth x79 1)], h82)))
  (some (.normal, [(nth x79 0), .undef, (nth x79 1)], h79)))
  (fun i79 => if i79 = 1 then (some (.normal, [(nth x79 0), .undef, (nth x79 1)], h79)) else (some (.exit i79, [(nth x79 0), .undef, (nth x79 1)], h79)))
  (some (.ret, [(nth x79 0), .undef, (nth x79 1)], h79))))
  (fun i69 => if i69 = 1 then (some (.normal, [(nth x69 0), .undef, (nth x69 1)], h69)) else (some (.exit i69, [(nth x69 0), .undef, (nth x69 1)], h69)))
  (some (.ret, [(nth x69 0), .undef, (nth x69 1)], h69))) fun e83 x83 h83 => exK e83
  (bnd (pu h83 (fieldAddrV 4 (nth x83 2))) fun v84 h84 =>
  bnd (pu h84 (loadV G false 1 v84 h84)) fun v85 h85 =>
  bnd (pu h85 (bin Tryd.prog .eql 3 true v85 (.int .i64 19))) fun v86 h86 =>
  bnd (gd v86 false h86 (pu h86 (fieldAddrV 4 (nth x83 2)))) fun v87 h87 =>
  bnd (gd v86 false h87 (pu h87 (loadV G false 1 v87 h87))) fun v88 h88 =>
  bnd (gd v86 false h88 (pu h88 (bin Tryd.prog .eql 3 true v88 (.int .i64 26)))) fun v89 h89 =>
  bnd (pu h89 (pickA v86 (.bool true) v89)) fun v90 h90 =>
  condA v90
  (bnd (pu h90 (fieldAddrV 5 (nth x83 0))) fun v91 h91 =>
  bnd (pu h91 (loadV G false 1 v91 h91)) fun v92 h92 =>
  bnd (pu h92 (fieldAddrV 4 (nth x83 2))) fun v93 h93 =>
  bnd (pu h93 (loadV G false 1 v93 h93)) fun v94 h94 =>
  bnd (pureCall (alembicref17_far.f G k) [v92, v94] h94) fun v95 h95 =>
  finV [v95] h.length h95)
  (bnd (pu h90 (fieldAddrV 5 (nth x83 0))) fun v96 h96 =>
  bnd (pu h96 (loadV G false 1 v96 h96)) fun v97 h97 =>
  bnd (pu h97 (bin Tryd.prog .geq 3 true v97 (.int .i64 0))) fun v98 h98 =>
  bnd (gd v98 true h98 (pu h98 (fieldAddrV 5 (nth x83 0)))) fun v99 h99 =>
  bnd (gd v98 true h99 (pu h99 (loadV G false 1 v99 h99))) fun v100 h100 =>
  bnd (gd v98 true h100 (pu h100 (fieldAddrV 4 (nth x83 2)))) fun v101 h101 =>
  bnd (gd v98 true h101 (pu h101 (loadV G false 1 v101 h101))) fun v102 h102 =>
  bnd (gd v98 true h102 (pu h102 (convInt .u64 v102))) fun v103 h103 =>
  bnd (gd v98 true h103 (pu h103 (bin Tryd.prog .shl 3 true (.int .i64 1) v103))) fun v104 h104 =>
  bnd (gd v98 true h104 (pu h104 (bin Tryd.prog .lss 3 false v100 v104))) fun v105 h105 =>
  bnd (pu h105 (pickA v98 v105 (.bool false))) fun v106 h106 =>
  finV [v106] h.length h106))
  (fun i83 => none)
  (finV [(nth x83 1)] h.length h83))
  (fun i64 => none)
  (finV [(nth x64 1)] h.length h64)))
noncomputable def alembicref17_right.f (G : Globs) : Nat → Den
  | 0 => fun _ _ => none
  | k + 1 => fun args h => arg1 args fun x0 => (alembicref17_right.c G k (alembicref17_right.f G k) x0 h)
theorem alembicref17_right.step (G : Globs) (k : Nat) (x0 : AV) (h : AHeap) : alembicref17_right.f G (k + 1) [x0] h = alembicref17_right.c G k (alembicref17_right.f G k) x0 h := rfl
/-! alembic/alembicref17.base: function 80 -/
noncomputable def alembicref17_base.ann : Ann := mkAnn [] [] [] [(26, [3, 26])]
noncomputable def alembicref17_base.env (G : Globs) (k : Nat) (self : Den) : List (Nat × Bool × Den) := []
noncomputable def alembicref17_base.c (G : Globs) (k : Nat) (self : Den) (x0 : AV) (h : AHeap) : Option (AV × AHeap) := outV (
  bnd (pu h (bin Tryd.prog .eql 3 true x0 (.int .i64 1))) fun v0 h0 =>
  condA v0
  (finV [(.int .u32 3531603968)] h.length h0)
  (bnd (pu h0 (bin Tryd.prog .eql 3 true x0 (.int .i64 2))) fun v1 h1 =>
  condA v1
  (finV [(.int .u32 4068474880)] h.length h1)
  (bnd (pu h1 (bin Tryd.prog .eql 3 true x0 (.int .i64 3))) fun v2 h2 =>
  condA v2
  (finV [(.int .u32 2332033024)] h.length h2)
  (bnd (pu h2 (bin Tryd.prog .eql 3 true x0 (.int .i64 4))) fun v3 h3 =>
  condA v3
  (finV [(.int .u32 3405774848)] h.length h3)
  (bnd (pu h3 (bin Tryd.prog .eql 3 true x0 (.int .i64 5))) fun v4 h4 =>
  condA v4
  (finV [(.int .u32 2315255808)] h.length h4)
  (bnd (pu h4 (bin Tryd.prog .eql 3 true x0 (.int .i64 6))) fun v5 h5 =>
  condA v5
  (finV [(.int .u32 2852126720)] h.length h5)
  (bnd (pu h5 (bin Tryd.prog .eql 3 true x0 (.int .i64 7))) fun v6 h6 =>
  condA v6
  (finV [(.int .u32 3388997632)] h.length h6)
  (bnd (pu h6 (bin Tryd.prog .eql 3 true x0 (.int .i64 8))) fun v7 h7 =>
  condA v7
  (finV [(.int .u32 2600468480)] h.length h7)
  (bnd (pu h7 (bin Tryd.prog .eql 3 true x0 (.int .i64 9))) fun v8 h8 =>
  condA v8
  (finV [(.int .u32 2613083136)] h.length h8)
  (bnd (pu h8 (bin Tryd.prog .eql 3 true x0 (.int .i64 10))) fun v9 h9 =>
  condA v9
  (finV [(.int .u32 2432696320)] h.length h9)
  (bnd (pu h9 (bin Tryd.prog .eql 3 true x0 (.int .i64 11))) fun v10 h10 =>
  condA v10
  (finV [(.int .u32 3506438144)] h.length h10)
  (thenK (
  bnd (pu h10 (bin Tryd.prog .eql 3 true x0 (.int .i64 12))) fun v11 h11 =>
  condA v11
  (some (.normal, [x0, v11], h11))
  (bnd (pu h11 (bin Tryd.prog .eql 3 true x0 (.int .i64 13))) fun v12 h12 =>
  some (.normal, [x0, v12], h12))) fun e13 x13 h13 => exK e13
  (condA (nth x13 1)
  (finV [(.int .u32 3544186880)] h.length h13)
  (bnd (pu h13 (bin Tryd.prog .eql 3 true (nth x13 0) (.int .i64 14))) fun v14 h14 =>
  condA v14
  (finV [(.int .u32 2470509568)] h.length h14)
  (bnd (pu h14 (bin Tryd.prog .eql 3 true (nth x13 0) (.int .i64 15))) fun v15 h15 =>
  condA v15
  (finV [(.int .u32 3942645791)] h.length h15)
  (bnd (pu h15 (bin Tryd.prog .eql 3 true (nth x13 0) (.int .i64 16))) fun v16 h16 =>
  condA v16
  (finV [(.int .u32 2592079872)] h.length h16)
  (bnd (pu h16 (bin Tryd.prog .eql 3 true (nth x13 0) (.int .i64 17))) fun v17 h17 =>
  condA v17
  (finV [(.int .u32 2594113504)] h.length h17)
  (bnd (pu h17 (bin Tryd.prog .eql 3 true (nth x13 0) (.int .i64 18))) fun v18 h18 =>
  condA v18
  (finV [(.int .u32 4181721088)] h.length h18)
  (bnd (pu h18 (bin Tryd.prog .eql 3 true (nth x13 0) (.int .i64 19))) fun v19 h19 =>
  condA v19
  (finV [(.int .u32 4177526784)] h.length h19)
  (bnd (pu h19 (bin Tryd.prog .eql 3 true (nth x13 0) (.int .i64 20))) fun v20 h20 =>
  condA v20
  (finV [(.int .u32 335544320)] h.length h20)
  (bnd (pu h20 (bin Tryd.prog .eql 3 true (nth x13 0) (.int .i64 21))) fun v21 h21 =>
  condA v21
  (finV [(.int .u32 1409286144)] h.length h21)
  (bnd (pu h21 (bin Tryd.prog .eql 3 true (nth x13 0) (.int .i64 22))) fun v22 h22 =>
  condA v22
  (finV [(.int .u32 3019898880)] h.length h22)
  (bnd (pu h22 (bin Tryd.prog .eql 3 true (nth x13 0) (.int .i64 23))) fun v23 h23 =>
  condA v23
  (finV [(.int .u32 3036676096)] h.length h23)
  (bnd (pu h23 (bin Tryd.prog .eql 3 true (nth x13 0) (.int .i64 24))) fun v24 h24 =>
  condA v24
  (finV [(.int .u32 3560964096)] h.length h24)
  (finV [(.int .u32 0)] h.length h24)))))))))))))
  (fun i13 => if i13 = 0 then (finV [(.int .u32 0)] h.length h13) else (none))
  (finV [.undef] h.length h13)))))))))))))
noncomputable def alembicref17_base.f (G : Globs) : Nat → Den
  | 0 => fun _ _ => none
  | k + 1 => fun args h => arg1 args fun x0 => (alembicref17_base.c G k (alembicref17_base.f G k) x0 h)
/-! alembic/alembicref17.Word: function 55 -/
noncomputable def alembicref17_Word.ann : Ann := mkAnn [] [] [] [(18, [1, 4, 5, 6]), (9, [1, 4, 5, 6, 34, 35])]
noncomputable def alembicref17_Word.env (G : Globs) (k : Nat) (self : Den) : List (Nat × Bool × Den) := [(78, true, alembicref17_right.f G k), (79, true, alembicref17_partsOf.f G k), (80, true, alembicref17_base.f G k)]
noncomputable def alembicref17_Word.c (G : Globs) (k : Nat) (self : Den) (x0 : AV) (h : AHeap) : Option (AV × AHeap) := outV (
  bnd (boxRoA x0 h) fun v0 h0 =>
  bnd (pu h0 (loadV G true 6 v0 h0)) fun v1 h1 =>
  bnd (pureCall (alembicref17_right.f G k) [v1] h1) fun v2 h2 =>
  bnd (pu h2 (un .not v2)) fun v3 h3 =>
  condA v3
  (finV [(.int .u32 0), (.bool false)] h.length h3)
  (bnd (pu h3 (fieldAddrV 0 v0)) fun v4 h4 =>
  bnd (pu h4 (loadV G false 1 v4 h4)) fun v5 h5 =>
  bnd (pureCall (alembicref17_partsOf.f G k) [v5] h5) fun v6 h6 =>
  bnd (boxA 149 (.agg [(.bool false), (.bool false), (.bool false), (.bool false), (.int .i64 0)]) h6) fun v7 h7 =>
  bnd (stS (storeV 5 v7 v6 h7)) fun v8 h8 =>
  bnd (pu h8 (fieldAddrV 0 v0)) fun v9 h9 =>
  bnd (pu h9 (loadV G false 1 v9 h9)) fun v10 h10 =>
  bnd (pureCall (alembicref17_base.f G k) [v10] h10) fun v11 h11 =>
  bnd (pu h11 (fieldAddrV 1 v0)) fun v12 h12 =>
  bnd (pu h12 (loadV G false 1 v12 h12)) fun v13 h13 =>
  bnd (pu h13 (convInt .u32 v13)) fun v14 h14 =>
  bnd (pu h14 (bin Tryd.prog .or 71 false v11 v14)) fun v15 h15 =>
  bnd (pu h15 (fieldAddrV 2 v0)) fun v16 h16 =>
  bnd (pu h16 (loadV G false 1 v16 h16)) fun v17 h17 =>
  bnd (pu h17 (convInt .u32 v17)) fun v18 h18 =>
  bnd (pu h18 (bin Tryd.prog .shl 71 true v18 (.int .u64 5))) fun v19 h19 =>
  bnd (pu h19 (bin Tryd.prog .or 71 false v15 v19)) fun v20 h20 =>
  bnd (pu h20 (fieldAddrV 3 v0)) fun v21 h21 =>
  bnd (pu h21 (loadV G false 1 v21 h21)) fun v22 h22 =>
  bnd (pu h22 (convInt .u32 v22)) fun v23 h23 =>
  bnd (pu h23 (bin Tryd.prog .shl 71 true v23 (.int .u64 16))) fun v24 h24 =>
  bnd (pu h24 (bin Tryd.prog .or 71 false v20 v24)) fun v25 h25 =>
  bnd (pu h25 (fieldAddrV 5 v0)) fun v26 h26 =>
  bnd (pu h26 (loadV G false 1 v26 h26)) fun v27 h27 =>
  bnd (pu h27 (convInt .u32 v27)) fun v28 h28 =>
  thenK (
  bnd (pu h28 (fieldAddrV 0 v0)) fun v29 h29 =>
  bnd (pu h29 (loadV G false 1 v29 h29)) fun v30 h30 =>
  thenK (
  bnd (pu h30 (bin Tryd.prog .eql 3 true v30 (.int .i64 1))) fun v31 h31 =>
  condA v31
  (some (.normal, [v0, v7, v25, v28, v30, v31], h31))
  (bnd (pu h31 (bin Tryd.prog .eql 3 true v30 (.int .i64 2))) fun v32 h32 =>
  some (.normal, [v0, v7, v25, v28, v30, v32], h32))) fun e33 x33 h33 => exK e33
  (condA (nth x33 5)
  (bnd (pu h33 (fieldAddrV 4 (nth x33 0))) fun v34 h34 =>
  bnd (pu h34 (loadV G false 1 v34 h34)) fun v35 h35 =>
  bnd (pu h35 (convInt .u32 v35)) fun v36 h36 =>
  bnd (pu h36 (bin Tryd.prog .shl 71 true v36 (.int .u64 21))) fun v37 h37 =>
  bnd (pu h37 (bin Tryd.prog .or 71 false (nth x33 2) v37)) fun v38 h38 =>
  some (.normal, [(nth x33 0), (nth x33 1), v38, (nth x33 3)], h38))
  (bnd (pu h33 (bin Tryd.prog .eql 3 true (nth x33 4) (.int .i64 8))) fun v39 h39 =>
  condA v39
  (bnd (pu h39 (fieldAddrV 4 (nth x33 0))) fun v40 h40 =>
  bnd (pu h40 (loadV G false 1 v40 h40)) fun v41 h41 =>
  bnd (pu h41 (convInt .u32 v41)) fun v42 h42 =>
  bnd (pu h42 (bin Tryd.prog .shl 71 true v42 (.int .u64 10))) fun v43 h43 =>
  bnd (pu h43 (bin Tryd.prog .or 71 false (nth x33 2) v43)) fun v44 h44 =>
  some (.normal, [(nth x33 0), (nth x33 1), v44, (nth x33 3)], h44))
  (bnd (pu h39 (bin Tryd.prog .eql 3 true (nth x33 4) (.int .i64 16))) fun v45 h45 =>
  condA v45
  (bnd (pu h45 (fieldAddrV 4 (nth x33 0))) fun v46 h46 =>
  bnd (pu h46 (loadV G false 1 v46 h46)) fun v47 h47 =>
  bnd (pu h47 (convInt .u32 v47)) fun v48 h48 =>
  bnd (pu h48 (bin Tryd.prog .shl 71 true v48 (.int .u64 12))) fun v49 h49 =>
  bnd (pu h49 (bin Tryd.prog .or 71 false (nth x33 2) v49)) fun v50 h50 =>
  some (.normal, [(nth x33 0), (nth x33 1), v50, (nth x33 3)], h50))
  (bnd (pu h45 (bin Tryd.prog .eql 3 true (nth x33 4) (.int .i64 17))) fun v51 h51 =>
  condA v51
  (bnd (pu h51 (fieldAddrV 4 (nth x33 0))) fun v52 h52 =>
  bnd (pu h52 (loadV G false 1 v52 h52)) fun v53 h53 =>
  bnd (pu h53 (bin Tryd.prog .xor 3 true v53 (.int .i64 1))) fun v54 h54 =>
  bnd (pu h54 (convInt .u32 v54)) fun v55 h55 =>
  bnd (pu h55 (bin Tryd.prog .shl 71 true v55 (.int .u64 12))) fun v56 h56 =>
  bnd (pu h56 (bin Tryd.prog .or 71 false (nth x33 2) v56)) fun v57 h57 =>
  some (.normal, [(nth x33 0), (nth x33 1), v57, (nth x33 3)], h57))
  (bnd (pu h51 (bin Tryd.prog .eql 3 true (nth x33 4) (.int .i64 21))) fun v58 h58 =>
  condA v58
  (bnd (pu h58 (fieldAddrV 4 (nth x33 0))) fun v59 h59 =>
  bnd (pu h59 (loadV G false 1 v59 h59)) fun v60 h60 =>
  bnd (pu h60 (convInt .u32 v60)) fun v61 h61 =>
  bnd (pu h61 (bin Tryd.prog .or 71 false (nth x33 2) v61)) fun v62 h62 =>
  some (.normal, [(nth x33 0), (nth x33 1), v62, (nth x33 3)], h62))
  (some (.normal, [(nth x33 0), (nth x33 1), (nth x33 2), (nth x33 3)], h58)))))))
  (fun i33 => if i33 = 0 then (some (.normal, [(nth x33 0), (nth x33 1), (nth x33 2), (nth x33 3)], h33)) else (some (.exit i33, [(nth x33 0), (nth x33 1), (nth x33 2), (nth x33 3)], h33)))
  (some (.ret, [(nth x33 0), (nth x33 1), (nth x33 2), (nth x33 3)], h33))) fun e63 x63 h63 => exK e63
  (bnd (pu h63 (fieldAddrV 0 (nth x63 0))) fun v64 h64 =>
  bnd (pu h64 (loadV G false 1 v64 h64)) fun v65 h65 =>
  bnd (pu h65 (bin Tryd.prog .eql 3 true v65 (.int .i64 12))) fun v66 h66 =>
  condA v66
  (bnd (pu h66 (bin Tryd.prog .sub 71 true (.int .u32 64) (nth x63 3))) fun v67 h67 =>
  bnd (pu h67 (bin Tryd.prog .rem 71 true v67 (.int .u32 64))) fun v68 h68 =>
  bnd (pu h68 (bin Tryd.prog .shl 71 true v68 (.int .u64 16))) fun v69 h69 =>
  bnd (pu h69 (bin Tryd.prog .or 71 false (nth x63 2) v69)) fun v70 h70 =>
  bnd (pu h70 (bin Tryd.prog .sub 71 true (.int .u32 63) (nth x63 3))) fun v71 h71 =>
  bnd (pu h71 (bin Tryd.prog .shl 71 true v71 (.int .u64 10))) fun v72 h72 =>
  bnd (pu h72 (bin Tryd.prog .or 71 false v70 v72)) fun v73 h73 =>
  finV [v73, (.bool true)] h.length h73)
  (bnd (pu h66 (bin Tryd.prog .eql 3 true v65 (.int .i64 13))) fun v74 h74 =>
  condA v74
  (bnd (pu h74 (bin Tryd.prog .shl 71 true (nth x63 3) (.int .u64 16))) fun v75 h75 =>
  bnd (pu h75 (bin Tryd.prog .or 71 false (nth x63 2) v75)) fun v76 h76 =>
  bnd (pu h76 (bin Tryd.prog .or 71 true v76 (.int .u32 64512))) fun v77 h77 =>
  finV [v77, (.bool true)] h.length h77)
  (bnd (pu h74 (bin Tryd.prog .eql 3 true v65 (.int .i64 14))) fun v78 h78 =>
  condA v78
  (bnd (pu h78 (bin Tryd.prog .shl 71 true (nth x63 3) (.int .u64 16))) fun v79 h79 =>
  bnd (pu h79 (bin Tryd.prog .or 71 false (nth x63 2) v79)) fun v80 h80 =>
  finV [v80, (.bool true)] h.length h80)
  (bnd (pu h78 (fieldAddrV 4 (nth x63 1))) fun v81 h81 =>
  bnd (pu h81 (loadV G false 1 v81 h81)) fun v82 h82 =>
  bnd (pu h82 (bin Tryd.prog .eql 3 true v82 (.int .i64 12))) fun v83 h83 =>
  condA v83
  (bnd (pu h83 (bin Tryd.prog .shl 71 true (nth x63 3) (.int .u64 10))) fun v84 h84 =>
  bnd (pu h84 (bin Tryd.prog .or 71 false (nth x63 2) v84)) fun v85 h85 =>
  finV [v85, (.bool true)] h.length h85)
  (bnd (pu h83 (bin Tryd.prog .eql 3 true v82 (.int .i64 16))) fun v86 h86 =>
  condA v86
  (bnd (pu h86 (bin Tryd.prog .shl 71 true (nth x63 3) (.int .u64 5))) fun v87 h87 =>
  bnd (pu h87 (bin Tryd.prog .or 71 false (nth x63 2) v87)) fun v88 h88 =>
  finV [v88, (.bool true)] h.length h88)
  (bnd (pu h86 (bin Tryd.prog .eql 3 true v82 (.int .i64 19))) fun v89 h89 =>
  condA v89
  (bnd (pu h89 (bin Tryd.prog .and 71 true (nth x63 3) (.int .u32 524287))) fun v90 h90 =>
  bnd (pu h90 (bin Tryd.prog .shl 71 true v90 (.int .u64 5))) fun v91 h91 =>
  bnd (pu h91 (bin Tryd.prog .or 71 false (nth x63 2) v91)) fun v92 h92 =>
  finV [v92, (.bool true)] h.length h92)
  (bnd (pu h89 (bin Tryd.prog .eql 3 true v82 (.int .i64 26))) fun v93 h93 =>
  condA v93
  (bnd (pu h93 (bin Tryd.prog .and 71 true (nth x63 3) (.int .u32 67108863))) fun v94 h94 =>
  bnd (pu h94 (bin Tryd.prog .or 71 false (nth x63 2) v94)) fun v95 h95 =>
  finV [v95, (.bool true)] h.length h95)
  (finV [(nth x63 2), (.bool true)] h.length h93))))))))
  (fun i63 => none)
  (finV [.undef, .undef] h.length h63)))
noncomputable def alembicref17_Word.f (G : Globs) : Nat → Den
  | 0 => fun _ _ => none
  | k + 1 => fun args h => arg1 args fun x0 => (alembicref17_Word.c G k (alembicref17_Word.f G k) x0 h)
theorem alembicref17_Word.step (G : Globs) (k : Nat) (x0 : AV) (h : AHeap) : alembicref17_Word.f G (k + 1) [x0] h = alembicref17_Word.c G k (alembicref17_Word.f G k) x0 h := rfl
/-! alembic/alembicref17.signed: function 98 -/
noncomputable def alembicref17_signed.ann : Ann := mkAnn [] [] [] []
noncomputable def alembicref17_signed.env (G : Globs) (k : Nat) (self : Den) : List (Nat × Bool × Den) := []
noncomputable def alembicref17_signed.c (G : Globs) (k : Nat) (self : Den) (x0 x1 : AV) (h : AHeap) : Option (AV × AHeap) := outV (
  bnd (pu h (convInt .u64 x1)) fun v0 h0 =>
  bnd (pu h0 (bin Tryd.prog .shl 71 true (.int .u32 1) v0)) fun v1 h1 =>
  bnd (pu h1 (bin Tryd.prog .sub 71 true v1 (.int .u32 1))) fun v2 h2 =>
  bnd (pu h2 (bin Tryd.prog .and 71 false x0 v2)) fun v3 h3 =>
  bnd (pu h3 (convInt .i64 v3)) fun v4 h4 =>
  bnd (pu h4 (bin Tryd.prog .sub 3 true x1 (.int .i64 1))) fun v5 h5 =>
  bnd (pu h5 (convInt .u64 v5)) fun v6 h6 =>
  bnd (pu h6 (bin Tryd.prog .shl 3 true (.int .i64 1) v6)) fun v7 h7 =>
  bnd (pu h7 (bin Tryd.prog .geq 3 false v4 v7)) fun v8 h8 =>
  condA v8
  (bnd (pu h8 (convInt .u64 x1)) fun v9 h9 =>
  bnd (pu h9 (bin Tryd.prog .shl 3 true (.int .i64 1) v9)) fun v10 h10 =>
  bnd (pu h10 (bin Tryd.prog .sub 3 false v4 v10)) fun v11 h11 =>
  finV [v11] h.length h11)
  (finV [v4] h.length h8))
noncomputable def alembicref17_signed.f (G : Globs) : Nat → Den
  | 0 => fun _ _ => none
  | k + 1 => fun args h => arg2 args fun x0 x1 => (alembicref17_signed.c G k (alembicref17_signed.f G k) x0 x1 h)
theorem alembicref17_signed.step (G : Globs) (k : Nat) (x0 x1 : AV) (h : AHeap) : alembicref17_signed.f G (k + 1) [x0, x1] h = alembicref17_signed.c G k (alembicref17_signed.f G k) x0 x1 h := rfl
/-! alembic/alembicref17.as: function 77 -/
noncomputable def alembicref17_as.ann : Ann := mkAnn [] [] [] [(34, [1, 4, 7]), (21, [0, 1, 4, 6, 7]), (12, [0, 1, 4, 6, 7, 34, 35]), (9, [0, 1, 4, 6, 7]), (7, [0, 1, 4, 6, 7]), (5, [0, 1, 4, 6, 7])]
noncomputable def alembicref17_as.env (G : Globs) (k : Nat) (self : Den) : List (Nat × Bool × Den) := [(55, true, alembicref17_Word.f G k), (79, true, alembicref17_partsOf.f G k), (98, true, alembicref17_signed.f G k)]
noncomputable def alembicref17_as.c (G : Globs) (k : Nat) (self : Den) (x0 x1 : AV) (h : AHeap) : Option (AV × AHeap) := outV (
  bnd (boxA 57 (.agg [(.int .i64 0), (.int .i64 0), (.int .i64 0), (.int .i64 0), (.int .i64 0), (.int .i64 0)]) h) fun v0 h0 =>
  bnd (pureCall (alembicref17_partsOf.f G k) [x0] h0) fun v1 h1 =>
  bnd (boxA 149 (.agg [(.bool false), (.bool false), (.bool false), (.bool false), (.int .i64 0)]) h1) fun v2 h2 =>
  bnd (stS (storeV 5 v2 v1 h2)) fun v3 h3 =>
  bnd (pu h3 (buildSt [(0, 1), (1, 1), (2, 1), (3, 1), (4, 1), (5, 1)] [(.int .i64 0), (.int .i64 0), (.int .i64 0), (.int .i64 0), (.int .i64 0), (.int .i64 0)] [(0, x0)])) fun v4 h4 =>
  bnd (boxA 57 (.agg [(.int .i64 0), (.int .i64 0), (.int .i64 0), (.int .i64 0), (.int .i64 0), (.int .i64 0)]) h4) fun v5 h5 =>
  bnd (stS (storeV 6 v5 v4 h5)) fun v6 h6 =>
  thenK (
  bnd (pu h6 (fieldAddrV 0 v2)) fun v7 h7 =>
  bnd (pu h7 (loadV G false 1 v7 h7)) fun v8 h8 =>
  condA v8
  (bnd (pu h8 (bin Tryd.prog .and 71 true x1 (.int .u32 31))) fun v9 h9 =>
  bnd (pu h9 (convInt .i64 v9)) fun v10 h10 =>
  bnd (pu h10 (fieldAddrV 1 v5)) fun v11 h11 =>
  bnd (stS (storeV 1 v11 v10 h11)) fun v12 h12 =>
  some (.normal, [x0, x1, v0, v2, v5], h12))
  (some (.normal, [x0, x1, v0, v2, v5], h8))) fun e13 x13 h13 => exK e13
  (thenK (
  bnd (pu h13 (fieldAddrV 1 (nth x13 3))) fun v14 h14 =>
  bnd (pu h14 (loadV G false 1 v14 h14)) fun v15 h15 =>
  condA v15
  (bnd (pu h15 (bin Tryd.prog .shr 71 true (nth x13 1) (.int .u64 5))) fun v16 h16 =>
  bnd (pu h16 (bin Tryd.prog .and 71 true v16 (.int .u32 31))) fun v17 h17 =>
  bnd (pu h17 (convInt .i64 v17)) fun v18 h18 =>
  bnd (pu h18 (fieldAddrV 2 (nth x13 4))) fun v19 h19 =>
  bnd (stS (storeV 1 v19 v18 h19)) fun v20 h20 =>
  some (.normal, [(nth x13 0), (nth x13 1), (nth x13 2), (nth x13 3), (nth x13 4)], h20))
  (some (.normal, [(nth x13 0), (nth x13 1), (nth x13 2), (nth x13 3), (nth x13 4)], h15))) fun e21 x21 h21 => exK e21
  (thenK (
  bnd (pu h21 (fieldAddrV 2 (nth x21 3))) fun v22 h22 =>
  bnd (pu h22 (loadV G false 1 v22 h22)) fun v23 h23 =>
  condA v23
  (bnd (pu h23 (bin Tryd.prog .shr 71 true (nth x21 1) (.int .u64 16))) fun v24 h24 =>
  bnd (pu h24 (bin Tryd.prog .and 71 true v24 (.int .u32 31))) fun v25 h25 =>
  bnd (pu h25 (convInt .i64 v25)) fun v26 h26 =>
  bnd (pu h26 (fieldAddrV 3 (nth x21 4))) fun v27 h27 =>
  bnd (stS (storeV 1 v27 v26 h27)) fun v28 h28 =>
  some (.normal, [(nth x21 0), (nth x21 1), (nth x21 2), (nth x21 3), (nth x21 4)], h28))
  (some (.normal, [(nth x21 0), (nth x21 1), (nth x21 2), (nth x21 3), (nth x21 4)], h23))) fun e29 x29 h29 => exK e29
  (thenK (
  thenK (
  bnd (pu h29 (bin Tryd.prog .eql 3 true (nth x29 0) (.int .i64 1))) fun v30 h30 =>
  condA v30
  (some (.normal, [(nth x29 0), (nth x29 1), (nth x29 2), (nth x29 3), (nth x29 4), (nth x29 0), v30], h30))
  (bnd (pu h30 (bin Tryd.prog .eql 3 true (nth x29 0) (.int .i64 2))) fun v31 h31 =>
  some (.normal, [(nth x29 0), (nth x29 1), (nth x29 2), (nth x29 3), (nth x29 4), (nth x29 0), v31], h31))) fun e32 x32 h32 => exK e32
  (condA (nth x32 6)
  (bnd (pu h32 (bin Tryd.prog .shr 71 true (nth x32 1) (.int .u64 21))) fun v33 h33 =>
  bnd (pu h33 (bin Tryd.prog .and 71 true v33 (.int .u32 3))) fun v34 h34 =>
  bnd (pu h34 (convInt .i64 v34)) fun v35 h35 =>
  bnd (pu h35 (fieldAddrV 4 (nth x32 4))) fun v36 h36 =>
  bnd (stS (storeV 1 v36 v35 h36)) fun v37 h37 =>
  some (.normal, [(nth x32 0), (nth x32 1), (nth x32 2), (nth x32 3), (nth x32 4)], h37))
  (bnd (pu h32 (bin Tryd.prog .eql 3 true (nth x32 5) (.int .i64 8))) fun v38 h38 =>
  condA v38
  (bnd (pu h38 (bin Tryd.prog .shr 71 true (nth x32 1) (.int .u64 10))) fun v39 h39 =>
  bnd (pu h39 (bin Tryd.prog .and 71 true v39 (.int .u32 31))) fun v40 h40 =>
  bnd (pu h40 (convInt .i64 v40)) fun v41 h41 =>
  bnd (pu h41 (fieldAddrV 4 (nth x32 4))) fun v42 h42 =>
  bnd (stS (storeV 1 v42 v41 h42)) fun v43 h43 =>
  some (.normal, [(nth x32 0), (nth x32 1), (nth x32 2), (nth x32 3), (nth x32 4)], h43))
  (bnd (pu h38 (bin Tryd.prog .eql 3 true (nth x32 5) (.int .i64 16))) fun v44 h44 =>
  condA v44
  (bnd (pu h44 (bin Tryd.prog .shr 71 true (nth x32 1) (.int .u64 12))) fun v45 h45 =>
  bnd (pu h45 (bin Tryd.prog .and 71 true v45 (.int .u32 15))) fun v46 h46 =>
  bnd (pu h46 (convInt .i64 v46)) fun v47 h47 =>
  bnd (pu h47 (fieldAddrV 4 (nth x32 4))) fun v48 h48 =>
  bnd (stS (storeV 1 v48 v47 h48)) fun v49 h49 =>
  some (.normal, [(nth x32 0), (nth x32 1), (nth x32 2), (nth x32 3), (nth x32 4)], h49))
  (bnd (pu h44 (bin Tryd.prog .eql 3 true (nth x32 5) (.int .i64 17))) fun v50 h50 =>
  condA v50
  (bnd (pu h50 (bin Tryd.prog .shr 71 true (nth x32 1) (.int .u64 12))) fun v51 h51 =>
  bnd (pu h51 (bin Tryd.prog .and 71 true v51 (.int .u32 15))) fun v52 h52 =>
  bnd (pu h52 (convInt .i64 v52)) fun v53 h53 =>
  bnd (pu h53 (bin Tryd.prog .xor 3 true v53 (.int .i64 1))) fun v54 h54 =>
  bnd (pu h54 (fieldAddrV 4 (nth x32 4))) fun v55 h55 =>
  bnd (stS (storeV 1 v55 v54 h55)) fun v56 h56 =>
  some (.normal, [(nth x32 0), (nth x32 1), (nth x32 2), (nth x32 3), (nth x32 4)], h56))
  (bnd (pu h50 (bin Tryd.prog .eql 3 true (nth x32 5) (.int .i64 21))) fun v57 h57 =>
  condA v57
  (bnd (pu h57 (bin Tryd.prog .and 71 true (nth x32 1) (.int .u32 15))) fun v58 h58 =>
  bnd (pu h58 (convInt .i64 v58)) fun v59 h59 =>
  bnd (pu h59 (fieldAddrV 4 (nth x32 4))) fun v60 h60 =>
  bnd (stS (storeV 1 v60 v59 h60)) fun v61 h61 =>
  some (.normal, [(nth x32 0), (nth x32 1), (nth x32 2), (nth x32 3), (nth x32 4)], h61))
  (some (.normal, [(nth x32 0), (nth x32 1), (nth x32 2), (nth x32 3), (nth x32 4)], h57)))))))
  (fun i32 => if i32 = 0 then (some (.normal, [(nth x32 0), (nth x32 1), (nth x32 2), (nth x32 3), (nth x32 4)], h32)) else (some (.exit i32, [(nth x32 0), (nth x32 1), (nth x32 2), (nth x32 3), (nth x32 4)], h32)))
  (some (.ret, [(nth x32 0), (nth x32 1), (nth x32 2), (nth x32 3), (nth x32 4)], h32))) fun e62 x62 h62 => exK e62
  (thenK (
  bnd (pu h62 (fieldAddrV 4 (nth x62 3))) fun v63 h63 =>
  bnd (pu h63 (loadV G false 1 v63 h63)) fun v64 h64 =>
  bnd (pu h64 (bin Tryd.prog .eql 3 true v64 (.int .i64 6))) fun v65 h65 =>
  condA v65
  (bnd (pu h65 (bin Tryd.prog .shr 71 true (nth x62 1) (.int .u64 16))) fun v66 h66 =>
  bnd (pu h66 (bin Tryd.prog .and 71 true v66 (.int .u32 63))) fun v67 h67 =>
  bnd (pu h67 (convInt .i64 v67)) fun v68 h68 =>
  bnd (pu h68 (fieldAddrV 5 (nth x62 4))) fun v69 h69 =>
  bnd (stS (storeV 1 v69 v68 h69)) fun v70 h70 =>
  bnd (pu h70 (bin Tryd.prog .eql 3 true (nth x62 0) (.int .i64 12))) fun v71 h71 =>
  condA v71
  (bnd (pu h71 (fieldAddrV 5 (nth x62 4))) fun v72 h72 =>
  bnd (pu h72 (loadV G false 1 v72 h72)) fun v73 h73 =>
  bnd (pu h73 (bin Tryd.prog .sub 3 true (.int .i64 64) v73)) fun v74 h74 =>
  bnd (pu h74 (bin Tryd.prog .rem 3 true v74 (.int .i64 64))) fun v75 h75 =>
  bnd (pu h75 (fieldAddrV 5 (nth x62 4))) fun v76 h76 =>
  bnd (stS (storeV 1 v76 v75 h76)) fun v77 h77 =>
  some (.normal, [(nth x62 1), (nth x62 2), (nth x62 4)], h77))
  (some (.normal, [(nth x62 1), (nth x62 2), (nth x62 4)], h71)))
  (bnd (pu h65 (bin Tryd.prog .eql 3 true v64 (.int .i64 12))) fun v78 h78 =>
  condA v78
  (bnd (pu h78 (bin Tryd.prog .shr 71 true (nth x62 1) (.int .u64 10))) fun v79 h79 =>
  bnd (pu h79 (bin Tryd.prog .and 71 true v79 (.int .u32 4095))) fun v80 h80 =>
  bnd (pu h80 (convInt .i64 v80)) fun v81 h81 =>
  bnd (pu h81 (fieldAddrV 5 (nth x62 4))) fun v82 h82 =>
  bnd (stS (storeV 1 v82 v81 h82)) fun v83 h83 =>
  some (.normal, [(nth x62 1), (nth x62 2), (nth x62 4)], h83))
  (bnd (pu h78 (bin Tryd.prog .eql 3 true v64 (.int .i64 16))) fun v84 h84 =>
  condA v84
  (bnd (pu h84 (bin Tryd.prog .shr 71 true (nth x62 1) (.int .u64 5))) fun v85 h85 =>
  bnd (pu h85 (bin Tryd.prog .and 71 true v85 (.int .u32 65535))) fun v86 h86 =>
  bnd (pu h86 (convInt .i64 v86)) fun v87 h87 =>
  bnd (pu h87 (fieldAddrV 5 (nth x62 4))) fun v88 h88 =>
  bnd (stS (storeV 1 v88 v87 h88)) fun v89 h89 =>
  some (.normal, [(nth x62 1), (nth x62 2), (nth x62 4)], h89))
  (bnd (pu h84 (bin Tryd.prog .eql 3 true v64 (.int .i64 19))) fun v90 h90 =>
  condA v90
  (bnd (pu h90 (bin Tryd.prog .shr 71 true (nth x62 1) (.int .u64 5))) fun v91 h91 =>
  bnd (pureCall (alembicref17_signed.f G k) [v91, (.int .i64 19)] h91) fun v92 h92 =>
  bnd (pu h92 (fieldAddrV 5 (nth x62 4))) fun v93 h93 =>
  bnd (stS (storeV 1 v93 v92 h93)) fun v94 h94 =>
  some (.normal, [(nth x62 1), (nth x62 2), (nth x62 4)], h94))
  (bnd (pu h90 (bin Tryd.prog .eql 3 true v64 (.int .i64 26))) fun v95 h95 =>
  condA v95
  (bnd (pureCall (alembicref17_signed.f G k) [(nth x62 1), (.int .i64 26)] h95) fun v96 h96 =>
  bnd (pu h96 (fieldAddrV 5 (nth x62 4))) fun v97 h97 =>
  bnd (stS (storeV 1 v97 v96 h97)) fun v98 h98 =>
  some (.normal, [(nth x62 1), (nth x62 2), (nth x62 4)], h98))
  (some (.normal, [(nth x62 1), (nth x62 2), (nth x62 4)], h95))))))) fun e99 x99 h99 => exK e99
  (bnd (pu h99 (loadV G true 6 (nth x99 2) h99)) fun v100 h100 =>
  bnd (pureCall (alembicref17_Word.f G k) [v100] h100) fun v101 h101 =>
  bnd (pu h101 (extractA v101 0)) fun v102 h102 =>
  bnd (pu h102 (extractA v101 1)) fun v103 h103 =>
  bnd (pu h103 (un .not v103)) fun v104 h104 =>
  bnd (gd v104 false h104 (some (v102, h104))) fun v105 h105 =>
  bnd (gd v104 false h105 (some ((nth x99 0), h105))) fun v106 h106 =>
  bnd (gd v104 false h106 (pu h106 (bin Tryd.prog .neq 71 false v105 v106))) fun v107 h107 =>
  bnd (pu h107 (pickA v104 (.bool true) v107)) fun v108 h108 =>
  condA v108
  (bnd (pu h108 (buildSt [(0, 1), (1, 1), (2, 1), (3, 1), (4, 1), (5, 1)] [(.int .i64 0), (.int .i64 0), (.int .i64 0), (.int .i64 0), (.int .i64 0), (.int .i64 0)] [])) fun v109 h109 =>
  bnd (stS (storeV 6 (nth x99 1) v109 h109)) fun v110 h110 =>
  finL [loadV G true 6 (nth x99 1) h110, some (.bool false)] h.length h110)
  (bnd (pu h108 (loadV G true 6 (nth x99 2) h108)) fun v111 h111 =>
  bnd (stS (storeV 6 (nth x99 1) v111 h111)) fun v112 h112 =>
  finL [loadV G true 6 (nth x99 1) h112, some (.bool true)] h.length h112))
  (fun i99 => none)
  (finL [loadV G true 6 (nth x99 1) h99, some .undef] h.length h99))
  (fun i62 => none)
  (finL [loadV G true 6 (nth x62 2) h62, some .undef] h.length h62))
  (fun i29 => none)
  (finL [loadV G true 6 (nth x29 2) h29, some .undef] h.length h29))
  (fun i21 => none)
  (finL [loadV G true 6 (nth x21 2) h21, some .undef] h.length h21))
  (fun i13 => none)
  (finL [loadV G true 6 (nth x13 2) h13, some .undef] h.length h13))
noncomputable def alembicref17_as.f (G : Globs) : Nat → Den
  | 0 => fun _ _ => none
  | k + 1 => fun args h => arg2 args fun x0 x1 => (alembicref17_as.c G k (alembicref17_as.f G k) x0 x1 h)
theorem alembicref17_as.step (G : Globs) (k : Nat) (x0 x1 : AV) (h : AHeap) : alembicref17_as.f G (k + 1) [x0, x1] h = alembicref17_as.c G k (alembicref17_as.f G k) x0 x1 h := rfl
/-! alembic/alembicref17.Of: function 51 -/
noncomputable def alembicref17_Of.ann : Ann := mkAnn [] [] [(2, [0, 2, 3, 4])] [(3, [0, 2, 3, 4])]
noncomputable def alembicref17_Of.env (G : Globs) (k : Nat) (self : Den) : List (Nat × Bool × Den) := [(77, true, alembicref17_as.f G k)]
noncomputable def alembicref17_Of.l2 (G : Globs) (k n0 : Nat) (self : Den) (lp : LoopF) : LoopF := fun xs h0 => cutK n0 xs h0 fun h =>
  bnd (pu h (bin Tryd.prog .leq 3 true (nth xs 3) (.int .i64 24))) fun v2 h2 =>
  condA v2
  (thenK (
  bnd (pu h2 (bin Tryd.prog .eql 3 true (nth xs 3) (.int .i64 12))) fun v3 h3 =>
  condA v3
  (some (.normal, [(nth xs 0), (nth xs 1), (nth xs 2), (nth xs 3)], h3))
  (bnd (pureCall (alembicref17_as.f G k) [(nth xs 3), (nth xs 0)] h3) fun v4 h4 =>
  bnd (pu h4 (extractA v4 0)) fun v5 h5 =>
  bnd (pu h5 (extractA v4 1)) fun v6 h6 =>
  bnd (boxA 57 (.agg [(.int .i64 0), (.int .i64 0), (.int .i64 0), (.int .i64 0), (.int .i64 0), (.int .i64 0)]) h6) fun v7 h7 =>
  bnd (stS (storeV 6 v7 v5 h7)) fun v8 h8 =>
  condA v6
  (bnd (pu h8 (loadV G true 6 v7 h8)) fun v9 h9 =>
  bnd (stS (storeV 6 (nth xs 1) v9 h9)) fun v10 h10 =>
  some (.ret, [(nth xs 0), (nth xs 1), (.bool true), (nth xs 3)], h10))
  (some (.normal, [(nth xs 0), (nth xs 1), (nth xs 2), (nth xs 3)], h8)))) fun e11 x11 h11 => exK e11
  (bnd (pu h11 (bin Tryd.prog .add 3 true (nth x11 3) (.int .i64 1))) fun v12 h12 =>
  lp [(nth x11 0), (nth x11 1), (nth x11 2), v12] h12)
  (fun i11 => some (.exit i11, [(nth x11 0), (nth x11 1), (nth x11 2), (nth x11 3)], h11))
  (some (.ret, [(nth x11 0), (nth x11 1), (nth x11 2), (nth x11 3)], h11)))
  (some (.exit 0, [(nth xs 0), (nth xs 1), (nth xs 2), (nth xs 3)], h2))
noncomputable def alembicref17_Of.c (G : Globs) (k : Nat) (self : Den) (x0 : AV) (h : AHeap) : Option (AV × AHeap) := outV (
  bnd (boxA 57 (.agg [(.int .i64 0), (.int .i64 0), (.int .i64 0), (.int .i64 0), (.int .i64 0), (.int .i64 0)]) h) fun v0 h0 =>
  thenK (loopN (alembicref17_Of.l2 G k h0.length self) k [x0, v0, (.bool false), (.int .i64 1)] h0) fun e1 x1 h1 => exK e1
  (bnd (pureCall (alembicref17_as.f G k) [(.int .i64 12), (nth x1 0)] h1) fun v13 h13 =>
  bnd (pu h13 (extractA v13 0)) fun v14 h14 =>
  bnd (pu h14 (extractA v13 1)) fun v15 h15 =>
  bnd (stS (storeV 6 (nth x1 1) v14 h15)) fun v16 h16 =>
  finL [loadV G true 6 (nth x1 1) h16, some v15] h.length h16)
  (fun i1 => if i1 = 0 then (bnd (pureCall (alembicref17_as.f G k) [(.int .i64 12), (nth x1 0)] h1) fun v17 h17 =>
  bnd (pu h17 (extractA v17 0)) fun v18 h18 =>
  bnd (pu h18 (extractA v17 1)) fun v19 h19 =>
  bnd (stS (storeV 6 (nth x1 1) v18 h19)) fun v20 h20 =>
  finL [loadV G true 6 (nth x1 1) h20, some v19] h.length h20) else (none))
  (finL [loadV G true 6 (nth x1 1) h1, some (nth x1 2)] h.length h1))
noncomputable def alembicref17_Of.f (G : Globs) : Nat → Den
  | 0 => fun _ _ => none
  | k + 1 => fun args h => arg1 args fun x0 => (alembicref17_Of.c G k (alembicref17_Of.f G k) x0 h)
theorem alembicref17_Of.step (G : Globs) (k : Nat) (x0 : AV) (h : AHeap) : alembicref17_Of.f G (k + 1) [x0] h = alembicref17_Of.c G k (alembicref17_Of.f G k) x0 h := rfl
/-! alembic/mach.Holds: function 33 -/
noncomputable def mach_Holds.ann : Ann := mkAnn [] [] [] []
noncomputable def mach_Holds.env (G : Globs) (k : Nat) (self : Den) : List (Nat × Bool × Den) := []
noncomputable def mach_Holds.c (G : Globs) (k : Nat) (self : Den) (x0 x1 : AV) (h : AHeap) : Option (AV × AHeap) := outV (
  bnd (boxRoA x1 h) fun v0 h0 =>
  bnd (pu h0 (idxAddrArr 4 1 v0 (.int .i64 1))) fun v1 h1 =>
  bnd (pu h1 (loadV G false 1 v1 h1)) fun v2 h2 =>
  bnd (pu h2 (idxAddrArr 4 1 v0 (.int .i64 2))) fun v3 h3 =>
  bnd (pu h3 (loadV G false 1 v3 h3)) fun v4 h4 =>
  bnd (pu h4 (bin Tryd.prog .eql 3 true x0 (.int .i64 0))) fun v5 h5 =>
  condA v5
  (finV [v2] h.length h5)
  (bnd (pu h5 (bin Tryd.prog .eql 3 true x0 (.int .i64 1))) fun v6 h6 =>
  condA v6
  (bnd (pu h6 (un .not v2)) fun v7 h7 =>
  finV [v7] h.length h7)
  (bnd (pu h6 (bin Tryd.prog .eql 3 true x0 (.int .i64 2))) fun v8 h8 =>
  condA v8
  (finV [v4] h.length h8)
  (bnd (pu h8 (bin Tryd.prog .eql 3 true x0 (.int .i64 3))) fun v9 h9 =>
  condA v9
  (bnd (pu h9 (un .not v4)) fun v10 h10 =>
  finV [v10] h.length h10)
  (bnd (pu h9 (bin Tryd.prog .eql 3 true x0 (.int .i64 8))) fun v11 h11 =>
  condA v11
  (bnd (gd v4 true h11 (some (v2, h11))) fun v12 h12 =>
  bnd (gd v4 true h12 (pu h12 (un .not v12))) fun v13 h13 =>
  bnd (pu h13 (pickA v4 v13 (.bool false))) fun v14 h14 =>
  finV [v14] h.length h14)
  (bnd (pu h11 (bin Tryd.prog .eql 3 true x0 (.int .i64 9))) fun v15 h15 =>
  condA v15
  (bnd (pu h15 (un .not v4)) fun v16 h16 =>
  bnd (gd v16 false h16 (some (v2, h16))) fun v17 h17 =>
  bnd (pu h17 (pickA v16 (.bool true) v17)) fun v18 h18 =>
  finV [v18] h.length h18)
  (finV [(.bool false)] h.length h15)))))))
noncomputable def mach_Holds.f (G : Globs) : Nat → Den
  | 0 => fun _ _ => none
  | k + 1 => fun args h => arg2 args fun x0 x1 => (mach_Holds.c G k (mach_Holds.f G k) x0 x1 h)
/-! alembic/mach.get: function 83 -/
noncomputable def mach_get.ann : Ann := mkAnn [] [] [] []
noncomputable def mach_get.env (G : Globs) (k : Nat) (self : Den) : List (Nat × Bool × Den) := []
noncomputable def mach_get.c (G : Globs) (k : Nat) (self : Den) (x0 x1 : AV) (h : AHeap) : Option (AV × AHeap) := outV (
  bnd (pu h (bin Tryd.prog .eql 3 true x1 (.int .i64 31))) fun v0 h0 =>
  condA v0
  (finV [(.int .u64 0)] h.length h0)
  (bnd (pu h0 (nilA x0)) fun v1 h1 =>
  bnd (pu h1 (idxAddrArr 31 1 v1 x1)) fun v2 h2 =>
  bnd (pu h2 (loadV G false 1 v2 h2)) fun v3 h3 =>
  finV [v3] h.length h3))
noncomputable def mach_get.f (G : Globs) : Nat → Den
  | 0 => fun _ _ => none
  | k + 1 => fun args h => arg2 args fun x0 x1 => (mach_get.c G k (mach_get.f G k) x0 x1 h)
/-! alembic/mach.less: function 84 -/
noncomputable def mach_less.ann : Ann := mkAnn [] [] [] []
noncomputable def mach_less.env (G : Globs) (k : Nat) (self : Den) : List (Nat × Bool × Den) := []
noncomputable def mach_less.c (G : Globs) (k : Nat) (self : Den) (x0 x1 : AV) (h : AHeap) : Option (AV × AHeap) := outV (
  bnd (boxA 53 (.agg [(.bool false), (.bool false), (.bool false), (.bool false)]) h) fun v0 h0 =>
  bnd (pu h0 (bin Tryd.prog .sub 43 false x0 x1)) fun v1 h1 =>
  bnd (pu h1 (bin Tryd.prog .shr 43 true v1 (.int .u64 63))) fun v2 h2 =>
  bnd (pu h2 (bin Tryd.prog .eql 43 true v2 (.int .u64 1))) fun v3 h3 =>
  bnd (pu h3 (bin Tryd.prog .eql 43 true v1 (.int .u64 0))) fun v4 h4 =>
  bnd (pu h4 (bin Tryd.prog .geq 43 false x0 x1)) fun v5 h5 =>
  bnd (pu h5 (bin Tryd.prog .xor 43 false x0 x1)) fun v6 h6 =>
  bnd (pu h6 (bin Tryd.prog .xor 43 false x0 v1)) fun v7 h7 =>
  bnd (pu h7 (bin Tryd.prog .and 43 false v6 v7)) fun v8 h8 =>
  bnd (pu h8 (bin Tryd.prog .shr 43 true v8 (.int .u64 63))) fun v9 h9 =>
  bnd (pu h9 (bin Tryd.prog .eql 43 true v9 (.int .u64 1))) fun v10 h10 =>
  bnd (pu h10 (buildArr 1 [(.bool false), (.bool false), (.bool false), (.bool false)] [(0, v3), (1, v4), (2, v5), (3, v10)])) fun v11 h11 =>
  bnd (stS (storeV 4 v0 v11 h11)) fun v12 h12 =>
  finL [loadV G true 4 v0 h12] h.length h12)
noncomputable def mach_less.f (G : Globs) : Nat → Den
  | 0 => fun _ _ => none
  | k + 1 => fun args h => arg2 args fun x0 x1 => (mach_less.c G k (mach_less.f G k) x0 x1 h)
/-! alembic/mach.set: function 85 -/
noncomputable def mach_set.ann : Ann := mkAnn [] [] [] []
noncomputable def mach_set.env (G : Globs) (k : Nat) (self : Den) : List (Nat × Bool × Den) := []
noncomputable def mach_set.c (G : Globs) (k : Nat) (self : Den) (x0 x1 x2 : AV) (h : AHeap) : Option (AV × AHeap) := outV (
  bnd (pu h (bin Tryd.prog .neq 3 true x1 (.int .i64 31))) fun v0 h0 =>
  condA v0
  (bnd (pu h0 (nilA x0)) fun v1 h1 =>
  bnd (pu h1 (idxAddrArr 31 1 v1 x1)) fun v2 h2 =>
  bnd (stS (storeV 1 v2 x2 h2)) fun v3 h3 =>
  finV [] h.length h3)
  (finV [] h.length h0))
noncomputable def mach_set.f (G : Globs) : Nat → Den
  | 0 => fun _ _ => none
  | k + 1 => fun args h => arg3 args fun x0 x1 x2 => (mach_set.c G k (mach_set.f G k) x0 x1 x2 h)
/-! math/bits.Mul64: function 56 -/
noncomputable def math_bits_Mul64.ann : Ann := mkAnn [] [] [] []
noncomputable def math_bits_Mul64.env (G : Globs) (k : Nat) (self : Den) : List (Nat × Bool × Den) := []
noncomputable def math_bits_Mul64.c (G : Globs) (k : Nat) (self : Den) (x0 x1 : AV) (h : AHeap) : Option (AV × AHeap) := outV (
  bnd (pu h (bin Tryd.prog .and 43 true x0 (.int .u64 4294967295))) fun v0 h0 =>
  bnd (pu h0 (bin Tryd.prog .shr 43 true x0 (.int .u64 32))) fun v1 h1 =>
  bnd (pu h1 (bin Tryd.prog .and 43 true x1 (.int .u64 4294967295))) fun v2 h2 =>
  bnd (pu h2 (bin Tryd.prog .shr 43 true x1 (.int .u64 32))) fun v3 h3 =>
  bnd (pu h3 (bin Tryd.prog .mul 43 false v0 v2)) fun v4 h4 =>
  bnd (pu h4 (bin Tryd.prog .mul 43 false v1 v2)) fun v5 h5 =>
  bnd (pu h5 (bin Tryd.prog .shr 43 true v4 (.int .u64 32))) fun v6 h6 =>
  bnd (pu h6 (bin Tryd.prog .add 43 false v5 v6)) fun v7 h7 =>
  bnd (pu h7 (bin Tryd.prog .and 43 true v7 (.int .u64 4294967295))) fun v8 h8 =>
  bnd (pu h8 (bin Tryd.prog .shr 43 true v7 (.int .u64 32))) fun v9 h9 =>
  bnd (pu h9 (bin Tryd.prog .mul 43 false v0 v3)) fun v10 h10 =>
  bnd (pu h10 (bin Tryd.prog .add 43 false v8 v10)) fun v11 h11 =>
  bnd (pu h11 (bin Tryd.prog .mul 43 false v1 v3)) fun v12 h12 =>
  bnd (pu h12 (bin Tryd.prog .add 43 false v12 v9)) fun v13 h13 =>
  bnd (pu h13 (bin Tryd.prog .shr 43 true v11 (.int .u64 32))) fun v14 h14 =>
  bnd (pu h14 (bin Tryd.prog .add 43 false v13 v14)) fun v15 h15 =>
  bnd (pu h15 (bin Tryd.prog .mul 43 false x0 x1)) fun v16 h16 =>
  finV [v15, v16] h.length h16)
noncomputable def math_bits_Mul64.f (G : Globs) : Nat → Den
  | 0 => fun _ _ => none
  | k + 1 => fun args h => arg2 args fun x0 x1 => (math_bits_Mul64.c G k (math_bits_Mul64.f G k) x0 x1 h)
theorem math_bits_Mul64.step (G : Globs) (k : Nat) (x0 x1 : AV) (h : AHeap) : math_bits_Mul64.f G (k + 1) [x0, x1] h = math_bits_Mul64.c G k (math_bits_Mul64.f G k) x0 x1 h := rfl
/-! alembic/mach.made: function 86 -/
noncomputable def mach_made.ann : Ann := mkAnn [] [] [] []
noncomputable def mach_made.env (G : Globs) (k : Nat) (self : Den) : List (Nat × Bool × Den) := [(56, true, math_bits_Mul64.f G k)]
noncomputable def mach_made.c (G : Globs) (k : Nat) (self : Den) (x0 x1 x2 x3 x4 x5 : AV) (h : AHeap) : Option (AV × AHeap) := outV (
  bnd (boxRoA x0 h) fun v0 h0 =>
  bnd (pu h0 (fieldAddrV 5 v0)) fun v1 h1 =>
  bnd (pu h1 (loadV G false 1 v1 h1)) fun v2 h2 =>
  bnd (pu h2 (convInt .u64 v2)) fun v3 h3 =>
  bnd (pu h3 (fieldAddrV 0 v0)) fun v4 h4 =>
  bnd (pu h4 (loadV G false 1 v4 h4)) fun v5 h5 =>
  bnd (pu h5 (bin Tryd.prog .eql 3 true v5 (.int .i64 1))) fun v6 h6 =>
  condA v6
  (bnd (pu h6 (fieldAddrV 4 v0)) fun v7 h7 =>
  bnd (pu h7 (loadV G false 1 v7 h7)) fun v8 h8 =>
  bnd (pu h8 (bin Tryd.prog .mul 3 true (.int .i64 16) v8)) fun v9 h9 =>
  bnd (pu h9 (bin Tryd.prog .shl 43 false v3 v9)) fun v10 h10 =>
  finV [v10] h.length h10)
  (bnd (pu h6 (bin Tryd.prog .eql 3 true v5 (.int .i64 2))) fun v11 h11 =>
  condA v11
  (bnd (pu h11 (fieldAddrV 4 v0)) fun v12 h12 =>
  bnd (pu h12 (loadV G false 1 v12 h12)) fun v13 h13 =>
  bnd (pu h13 (bin Tryd.prog .mul 3 true (.int .i64 16) v13)) fun v14 h14 =>
  bnd (pu h14 (bin Tryd.prog .shl 43 true (.int .u64 65535) v14)) fun v15 h15 =>
  bnd (pu h15 (bin Tryd.prog .andNot 43 false x1 v15)) fun v16 h16 =>
  bnd (pu h16 (bin Tryd.prog .shl 43 false v3 v14)) fun v17 h17 =>
  bnd (pu h17 (bin Tryd.prog .or 43 false v16 v17)) fun v18 h18 =>
  finV [v18] h.length h18)
  (bnd (pu h11 (bin Tryd.prog .eql 3 true v5 (.int .i64 3))) fun v19 h19 =>
  condA v19
  (bnd (pu h19 (bin Tryd.prog .add 43 false x2 x3)) fun v20 h20 =>
  finV [v20] h.length h20)
  (bnd (pu h19 (bin Tryd.prog .eql 3 true v5 (.int .i64 4))) fun v21 h21 =>
  condA v21
  (bnd (pu h21 (bin Tryd.prog .sub 43 false x2 x3)) fun v22 h22 =>
  finV [v22] h.length h22)
  (bnd (pu h21 (bin Tryd.prog .eql 3 true v5 (.int .i64 5))) fun v23 h23 =>
  condA v23
  (bnd (pu h23 (bin Tryd.prog .and 43 false x2 x3)) fun v24 h24 =>
  finV [v24] h.length h24)
  (bnd (pu h23 (bin Tryd.prog .eql 3 true v5 (.int .i64 6))) fun v25 h25 =>
  condA v25
  (bnd (pu h25 (bin Tryd.prog .or 43 false x2 x3)) fun v26 h26 =>
  finV [v26] h.length h26)
  (bnd (pu h25 (bin Tryd.prog .eql 3 true v5 (.int .i64 7))) fun v27 h27 =>
  condA v27
  (bnd (pu h27 (bin Tryd.prog .xor 43 false x2 x3)) fun v28 h28 =>
  finV [v28] h.length h28)
  (bnd (pu h27 (bin Tryd.prog .eql 3 true v5 (.int .i64 8))) fun v29 h29 =>
  condA v29
  (bnd (pu h29 (bin Tryd.prog .mul 43 false x2 x3)) fun v30 h30 =>
  bnd (pu h30 (bin Tryd.prog .add 43 false v30 x4)) fun v31 h31 =>
  finV [v31] h.length h31)
  (bnd (pu h29 (bin Tryd.prog .eql 3 true v5 (.int .i64 9))) fun v32 h32 =>
  condA v32
  (bnd (pureCall (math_bits_Mul64.f G k) [x2, x3] h32) fun v33 h33 =>
  bnd (pu h33 (extractA v33 0)) fun v34 h34 =>
  bnd (pu h34 (extractA v33 1)) fun v35 h35 =>
  finV [v34] h.length h35)
  (bnd (pu h32 (bin Tryd.prog .eql 3 true v5 (.int .i64 10))) fun v36 h36 =>
  condA v36
  (bnd (pu h36 (bin Tryd.prog .add 43 false x2 v3)) fun v37 h37 =>
  finV [v37] h.length h37)
  (bnd (pu h36 (bin Tryd.prog .eql 3 true v5 (.int .i64 11))) fun v38 h38 =>
  condA v38
  (bnd (pu h38 (bin Tryd.prog .sub 43 false x2 v3)) fun v39 h39 =>
  finV [v39] h.length h39)
  (bnd (pu h38 (bin Tryd.prog .eql 3 true v5 (.int .i64 12))) fun v40 h40 =>
  condA v40
  (bnd (pu h40 (bin Tryd.prog .shl 43 false x2 v3)) fun v41 h41 =>
  finV [v41] h.length h41)
  (bnd (pu h40 (bin Tryd.prog .eql 3 true v5 (.int .i64 13))) fun v42 h42 =>
  condA v42
  (bnd (pu h42 (bin Tryd.prog .shr 43 false x2 v3)) fun v43 h43 =>
  finV [v43] h.length h43)
  (bnd (pu h42 (bin Tryd.prog .eql 3 true v5 (.int .i64 14))) fun v44 h44 =>
  condA v44
  (bnd (pu h44 (convInt .i64 x2)) fun v45 h45 =>
  bnd (pu h45 (bin Tryd.prog .shr 2 false v45 v3)) fun v46 h46 =>
  bnd (pu h46 (convInt .u64 v46)) fun v47 h47 =>
  finV [v47] h.length h47)
  (bnd (pu h44 (bin Tryd.prog .eql 3 true v5 (.int .i64 16))) fun v48 h48 =>
  condA v48
  (condA x5
  (finV [x2] h.length h48)
  (finV [x3] h.length h48))
  (condA x5
  (finV [(.int .u64 1)] h.length h48)
  (finV [(.int .u64 0)] h.length h48)))))))))))))))))
noncomputable def mach_made.f (G : Globs) : Nat → Den
  | 0 => fun _ _ => none
  | k + 1 => fun args h => arg6 args fun x0 x1 x2 x3 x4 x5 => (mach_made.c G k (mach_made.f G k) x0 x1 x2 x3 x4 x5 h)
/-! alembic/mach.does: function 60 -/
noncomputable def mach_does.ann : Ann := mkAnn [] [] [] [(8, [1, 2, 3, 6, 7, 8, 22, 39])]
noncomputable def mach_does.env (G : Globs) (k : Nat) (self : Den) : List (Nat × Bool × Den) := [(33, true, mach_Holds.f G k), (83, true, mach_get.f G k), (84, true, mach_less.f G k), (85, false, mach_set.f G k), (86, true, mach_made.f G k)]
noncomputable def mach_does.c (G : Globs) (k : Nat) (self : Den) (x0 x1 x2 : AV) (h : AHeap) : Option (AV × AHeap) := outV (
  bnd (boxRoA x0 h) fun v0 h0 =>
  bnd (pu h0 (fieldAddrV 1 v0)) fun v1 h1 =>
  bnd (pu h1 (loadV G false 1 v1 h1)) fun v2 h2 =>
  bnd (pureCall (mach_get.f G k) [x1, v2] h2) fun v3 h3 =>
  bnd (pu h3 (fieldAddrV 2 v0)) fun v4 h4 =>
  bnd (pu h4 (loadV G false 1 v4 h4)) fun v5 h5 =>
  bnd (pureCall (mach_get.f G k) [x1, v5] h5) fun v6 h6 =>
  bnd (pu h6 (fieldAddrV 3 v0)) fun v7 h7 =>
  bnd (pu h7 (loadV G false 1 v7 h7)) fun v8 h8 =>
  bnd (pureCall (mach_get.f G k) [x1, v8] h8) fun v9 h9 =>
  bnd (pu h9 (fieldAddrV 0 v0)) fun v10 h10 =>
  bnd (pu h10 (loadV G false 1 v10 h10)) fun v11 h11 =>
  bnd (pu h11 (bin Tryd.prog .eql 3 true v11 (.int .i64 15))) fun v12 h12 =>
  condA v12
  (bnd (pureCall (mach_less.f G k) [v6, v9] h12) fun v13 h13 =>
  bnd (pu h13 (nilA x2)) fun v14 h14 =>
  bnd (stS (storeV 4 v14 v13 h14)) fun v15 h15 =>
  finV [] h.length h15)
  (thenK (
  bnd (pu h12 (bin Tryd.prog .eql 3 true v11 (.int .i64 16))) fun v16 h16 =>
  condA v16
  (some (.normal, [x1, x2, v0, v3, v6, v9, v11, v16], h16))
  (bnd (pu h16 (bin Tryd.prog .eql 3 true v11 (.int .i64 17))) fun v17 h17 =>
  some (.normal, [x1, x2, v0, v3, v6, v9, v11, v17], h17))) fun e18 x18 h18 => exK e18
  (condA (nth x18 7)
  (bnd (pu h18 (fieldAddrV 1 (nth x18 2))) fun v19 h19 =>
  bnd (pu h19 (loadV G false 1 v19 h19)) fun v20 h20 =>
  bnd (pu h20 (loadV G true 6 (nth x18 2) h20)) fun v21 h21 =>
  bnd (pu h21 (fieldAddrV 4 (nth x18 2))) fun v22 h22 =>
  bnd (pu h22 (loadV G false 1 v22 h22)) fun v23 h23 =>
  bnd (pu h23 (nilA (nth x18 1))) fun v24 h24 =>
  bnd (pu h24 (loadV G true 4 v24 h24)) fun v25 h25 =>
  bnd (pureCall (mach_Holds.f G k) [v23, v25] h25) fun v26 h26 =>
  bnd (pureCall (mach_made.f G k) [v21, (nth x18 3), (nth x18 4), (nth x18 5), (.int .u64 0), v26] h26) fun v27 h27 =>
  bnd (heapCall (mach_set.f G k) [(nth x18 0), v20, v27] h27) fun v28 h28 =>
  finV [] h.length h28)
  (bnd (pu h18 (bin Tryd.prog .eql 3 true (nth x18 6) (.int .i64 8))) fun v29 h29 =>
  condA v29
  (bnd (pu h29 (fieldAddrV 1 (nth x18 2))) fun v30 h30 =>
  bnd (pu h30 (loadV G false 1 v30 h30)) fun v31 h31 =>
  bnd (pu h31 (loadV G true 6 (nth x18 2) h31)) fun v32 h32 =>
  bnd (pu h32 (fieldAddrV 4 (nth x18 2))) fun v33 h33 =>
  bnd (pu h33 (loadV G false 1 v33 h33)) fun v34 h34 =>
  bnd (pureCall (mach_get.f G k) [(nth x18 0), v34] h34) fun v35 h35 =>
  bnd (pureCall (mach_made.f G k) [v32, (nth x18 3), (nth x18 4), (nth x18 5), v35, (.bool false)] h35) fun v36 h36 =>
  bnd (heapCall (mach_set.f G k) [(nth x18 0), v31, v36] h36) fun v37 h37 =>
  finV [] h.length h37)
  (bnd (pu h29 (fieldAddrV 1 (nth x18 2))) fun v38 h38 =>
  bnd (pu h38 (loadV G false 1 v38 h38)) fun v39 h39 =>
  bnd (pu h39 (loadV G true 6 (nth x18 2) h39)) fun v40 h40 =>
  bnd (pureCall (mach_made.f G k) [v40, (nth x18 3), (nth x18 4), (nth x18 5), (.int .u64 0), (.bool false)] h40) fun v41 h41 =>
  bnd (heapCall (mach_set.f G k) [(nth x18 0), v39, v41] h41) fun v42 h42 =>
  finV [] h.length h42)))
  (fun i18 => if i18 = 0 then (finV [] h.length h18) else (none))
  (finV [] h.length h18)))
noncomputable def mach_does.f (G : Globs) : Nat → Den
  | 0 => fun _ _ => none
  | k + 1 => fun args h => arg3 args fun x0 x1 x2 => (mach_does.c G k (mach_does.f G k) x0 x1 x2 h)
/-! alembic/alembicref17.Holds: function 34 -/
noncomputable def alembicref17_Holds.ann : Ann := mkAnn [] [] [] []
noncomputable def alembicref17_Holds.env (G : Globs) (k : Nat) (self : Den) : List (Nat × Bool × Den) := []
noncomputable def alembicref17_Holds.c (G : Globs) (k : Nat) (self : Den) (x0 x1 : AV) (h : AHeap) : Option (AV × AHeap) := outV (
  bnd (boxRoA x1 h) fun v0 h0 =>
  bnd (pu h0 (idxAddrArr 4 1 v0 (.int .i64 1))) fun v1 h1 =>
  bnd (pu h1 (loadV G false 1 v1 h1)) fun v2 h2 =>
  bnd (pu h2 (idxAddrArr 4 1 v0 (.int .i64 2))) fun v3 h3 =>
  bnd (pu h3 (loadV G false 1 v3 h3)) fun v4 h4 =>
  bnd (pu h4 (bin Tryd.prog .eql 3 true x0 (.int .i64 0))) fun v5 h5 =>
  condA v5
  (finV [v2] h.length h5)
  (bnd (pu h5 (bin Tryd.prog .eql 3 true x0 (.int .i64 1))) fun v6 h6 =>
  condA v6
  (bnd (pu h6 (un .not v2)) fun v7 h7 =>
  finV [v7] h.length h7)
  (bnd (pu h6 (bin Tryd.prog .eql 3 true x0 (.int .i64 2))) fun v8 h8 =>
  condA v8
  (finV [v4] h.length h8)
  (bnd (pu h8 (bin Tryd.prog .eql 3 true x0 (.int .i64 3))) fun v9 h9 =>
  condA v9
  (bnd (pu h9 (un .not v4)) fun v10 h10 =>
  finV [v10] h.length h10)
  (bnd (pu h9 (bin Tryd.prog .eql 3 true x0 (.int .i64 8))) fun v11 h11 =>
  condA v11
  (bnd (gd v4 true h11 (some (v2, h11))) fun v12 h12 =>
  bnd (gd v4 true h12 (pu h12 (un .not v12))) fun v13 h13 =>
  bnd (pu h13 (pickA v4 v13 (.bool false))) fun v14 h14 =>
  finV [v14] h.length h14)
  (bnd (pu h11 (bin Tryd.prog .eql 3 true x0 (.int .i64 9))) fun v15 h15 =>
  condA v15
  (bnd (gd v4 true h15 (some (v2, h15))) fun v16 h16 =>
  bnd (gd v4 true h16 (pu h16 (un .not v16))) fun v17 h17 =>
  bnd (pu h17 (pickA v4 v17 (.bool false))) fun v18 h18 =>
  bnd (pu h18 (un .not v18)) fun v19 h19 =>
  finV [v19] h.length h19)
  (finV [(.bool false)] h.length h15)))))))
noncomputable def alembicref17_Holds.f (G : Globs) : Nat → Den
  | 0 => fun _ _ => none
  | k + 1 => fun args h => arg2 args fun x0 x1 => (alembicref17_Holds.c G k (alembicref17_Holds.f G k) x0 x1 h)
theorem alembicref17_Holds.step (G : Globs) (k : Nat) (x0 x1 : AV) (h : AHeap) : alembicref17_Holds.f G (k + 1) [x0, x1] h = alembicref17_Holds.c G k (alembicref17_Holds.f G k) x0 x1 h := rfl
/-! alembic/alembicref17.get: function 52 -/
noncomputable def alembicref17_get.ann : Ann := mkAnn [] [] [] []
noncomputable def alembicref17_get.env (G : Globs) (k : Nat) (self : Den) : List (Nat × Bool × Den) := []
noncomputable def alembicref17_get.c (G : Globs) (k : Nat) (self : Den) (x0 x1 : AV) (h : AHeap) : Option (AV × AHeap) := outV (
  bnd (boxRoA x0 h) fun v0 h0 =>
  bnd (pu h0 (bin Tryd.prog .eql 3 true x1 (.int .i64 31))) fun v1 h1 =>
  condA v1
  (finV [(.int .u64 0)] h.length h1)
  (bnd (pu h1 (idxAddrArr 31 1 v0 x1)) fun v2 h2 =>
  bnd (pu h2 (loadV G false 1 v2 h2)) fun v3 h3 =>
  finV [v3] h.length h3))
noncomputable def alembicref17_get.f (G : Globs) : Nat → Den
  | 0 => fun _ _ => none
  | k + 1 => fun args h => arg2 args fun x0 x1 => (alembicref17_get.c G k (alembicref17_get.f G k) x0 x1 h)
theorem alembicref17_get.step (G : Globs) (k : Nat) (x0 x1 : AV) (h : AHeap) : alembicref17_get.f G (k + 1) [x0, x1] h = alembicref17_get.c G k (alembicref17_get.f G k) x0 x1 h := rfl
/-! alembic/alembicref17.set: function 53 -/
noncomputable def alembicref17_set.ann : Ann := mkAnn [3] [] [] []
noncomputable def alembicref17_set.env (G : Globs) (k : Nat) (self : Den) : List (Nat × Bool × Den) := []
noncomputable def alembicref17_set.c (G : Globs) (k : Nat) (self : Den) (x0 x1 x2 : AV) (h : AHeap) : Option (AV × AHeap) := outV (
  bnd (boxA 44 x0 h) fun v0 h0 =>
  bnd (boxA 44 (.agg [(.int .u64 0), (.int .u64 0), (.int .u64 0), (.int .u64 0), (.int .u64 0), (.int .u64 0), (.int .u64 0), (.int .u64 0), (.int .u64 0), (.int .u64 0), (.int .u64 0), (.int .u64 0), (.int .u64 0), (.int .u64 0), (.int .u64 0), (.int .u64 0), (.int .u64 0), (.int .u64 0), (.int .u64 0), (.int .u64 0), (.int .u64 0), (.int .u64 0), (.int .u64 0), (.int .u64 0), (.int .u64 0), (.int .u64 0), (.int .u64 0), (.int .u64 0), (.int .u64 0), (.int .u64 0), (.int .u64 0)]) h0) fun v1 h1 =>
  bnd (pu h1 (bin Tryd.prog .neq 3 true x1 (.int .i64 31))) fun v2 h2 =>
  condA v2
  (bnd (pu h2 (idxAddrArr 31 1 v0 x1)) fun v3 h3 =>
  bnd (stS (storeV 1 v3 x2 h3)) fun v4 h4 =>
  bnd (pu h4 (loadV G true 31 v0 h4)) fun v5 h5 =>
  bnd (stS (storeV 31 v1 v5 h5)) fun v6 h6 =>
  finL [loadV G true 31 v1 h6] h.length h6)
  (bnd (pu h2 (loadV G true 31 v0 h2)) fun v7 h7 =>
  bnd (stS (storeV 31 v1 v7 h7)) fun v8 h8 =>
  finL [loadV G true 31 v1 h8] h.length h8))
noncomputable def alembicref17_set.f (G : Globs) : Nat → Den
  | 0 => fun _ _ => none
  | k + 1 => fun args h => arg3 args fun x0 x1 x2 => (alembicref17_set.c G k (alembicref17_set.f G k) x0 x1 x2 h)
theorem alembicref17_set.step (G : Globs) (k : Nat) (x0 x1 x2 : AV) (h : AHeap) : alembicref17_set.f G (k + 1) [x0, x1, x2] h = alembicref17_set.c G k (alembicref17_set.f G k) x0 x1 x2 h := rfl
/-! alembic/alembicref17.One: function 25 -/
noncomputable def alembicref17_One.ann : Ann := mkAnn [] [] [] [(48, [3, 4, 5, 6, 7, 8, 14])]
noncomputable def alembicref17_One.env (G : Globs) (k : Nat) (self : Den) : List (Nat × Bool × Den) := [(34, true, alembicref17_Holds.f G k), (52, true, alembicref17_get.f G k), (53, true, alembicref17_set.f G k), (55, true, alembicref17_Word.f G k), (56, true, math_bits_Mul64.f G k)]
noncomputable def alembicref17_One.c (G : Globs) (k : Nat) (self : Den) (x0 x1 x2 : AV) (h : AHeap) : Option (AV × AHeap) := outV (
  bnd (boxRoA x0 h) fun v0 h0 =>
  bnd (boxRoA x1 h0) fun v1 h1 =>
  bnd (boxRoA x2 h1) fun v2 h2 =>
  bnd (boxA 44 (.agg [(.int .u64 0), (.int .u64 0), (.int .u64 0), (.int .u64 0), (.int .u64 0), (.int .u64 0), (.int .u64 0), (.int .u64 0), (.int .u64 0), (.int .u64 0), (.int .u64 0), (.int .u64 0), (.int .u64 0), (.int .u64 0), (.int .u64 0), (.int .u64 0), (.int .u64 0), (.int .u64 0), (.int .u64 0), (.int .u64 0), (.int .u64 0), (.int .u64 0), (.int .u64 0), (.int .u64 0), (.int .u64 0), (.int .u64 0), (.int .u64 0), (.int .u64 0), (.int .u64 0), (.int .u64 0), (.int .u64 0)]) h2) fun v3 h3 =>
  bnd (boxA 53 (.agg [(.bool false), (.bool false), (.bool false), (.bool false)]) h3) fun v4 h4 =>
  bnd (pu h4 (loadV G true 6 v0 h4)) fun v5 h5 =>
  bnd (pureCall (alembicref17_Word.f G k) [v5] h5) fun v6 h6 =>
  bnd (pu h6 (extractA v6 0)) fun v7 h7 =>
  bnd (pu h7 (extractA v6 1)) fun v8 h8 =>
  bnd (pu h8 (un .not v8)) fun v9 h9 =>
  bnd (gd v9 false h9 (pu h9 (fieldAddrV 0 v0))) fun v10 h10 =>
  bnd (gd v9 false h10 (pu h10 (loadV G false 1 v10 h10))) fun v11 h11 =>
  bnd (gd v9 false h11 (pu h11 (bin Tryd.prog .gtr 3 true v11 (.int .i64 17)))) fun v12 h12 =>
  bnd (pu h12 (pickA v9 (.bool true) v12)) fun v13 h13 =>
  condA v13
  (bnd (pu h13 (buildArr 1 [(.int .u64 0), (.int .u64 0), (.int .u64 0), (.int .u64 0), (.int .u64 0), (.int .u64 0), (.int .u64 0), (.int .u64 0), (.int .u64 0), (.int .u64 0), (.int .u64 0), (.int .u64 0), (.int .u64 0), (.int .u64 0), (.int .u64 0), (.int .u64 0), (.int .u64 0), (.int .u64 0), (.int .u64 0), (.int .u64 0), (.int .u64 0), (.int .u64 0), (.int .u64 0), (.int .u64 0), (.int .u64 0), (.int .u64 0), (.int .u64 0), (.int .u64 0), (.int .u64 0), (.int .u64 0), (.int .u64 0)] [])) fun v14 h14 =>
  bnd (pu h14 (buildArr 1 [(.bool false), (.bool false), (.bool false), (.bool false)] [])) fun v15 h15 =>
  bnd (stS (storeV 31 v3 v14 h15)) fun v16 h16 =>
  bnd (stS (storeV 4 v4 v15 h16)) fun v17 h17 =>
  finL [loadV G true 31 v3 h17, loadV G true 4 v4 h17, some (.bool false)] h.length h17)
  (bnd (pu h13 (loadV G true 31 v1 h13)) fun v18 h18 =>
  bnd (pu h18 (fieldAddrV 2 v0)) fun v19 h19 =>
  bnd (pu h19 (loadV G false 1 v19 h19)) fun v20 h20 =>
  bnd (pureCall (alembicref17_get.f G k) [v18, v20] h20) fun v21 h21 =>
  bnd (pu h21 (loadV G true 31 v1 h21)) fun v22 h22 =>
  bnd (pu h22 (fieldAddrV 3 v0)) fun v23 h23 =>
  bnd (pu h23 (loadV G false 1 v23 h23)) fun v24 h24 =>
  bnd (pureCall (alembicref17_get.f G k) [v22, v24] h24) fun v25 h25 =>
  bnd (pu h25 (fieldAddrV 5 v0)) fun v26 h26 =>
  bnd (pu h26 (loadV G false 1 v26 h26)) fun v27 h27 =>
  bnd (pu h27 (bin Tryd.prog .and 3 true v27 (.int .i64 63))) fun v28 h28 =>
  bnd (pu h28 (convInt .u64 v28)) fun v29 h29 =>
  thenK (
  bnd (pu h29 (fieldAddrV 0 v0)) fun v30 h30 =>
  bnd (pu h30 (loadV G false 1 v30 h30)) fun v31 h31 =>
  bnd (pu h31 (bin Tryd.prog .eql 3 true v31 (.int .i64 1))) fun v32 h32 =>
  condA v32
  (bnd (pu h32 (fieldAddrV 5 v0)) fun v33 h33 =>
  bnd (pu h33 (loadV G false 1 v33 h33)) fun v34 h34 =>
  bnd (pu h34 (convInt .u64 v34)) fun v35 h35 =>
  bnd (pu h35 (fieldAddrV 4 v0)) fun v36 h36 =>
  bnd (pu h36 (loadV G false 1 v36 h36)) fun v37 h37 =>
  bnd (pu h37 (bin Tryd.prog .mul 3 true (.int .i64 16) v37)) fun v38 h38 =>
  bnd (pu h38 (convInt .u64 v38)) fun v39 h39 =>
  bnd (pu h39 (bin Tryd.prog .shl 43 false v35 v39)) fun v40 h40 =>
  some (.normal, [v0, v1, v2, v3, v4, (.bool false), v40], h40))
  (bnd (pu h32 (bin Tryd.prog .eql 3 true v31 (.int .i64 2))) fun v41 h41 =>
  condA v41
  (bnd (pu h41 (loadV G true 31 v1 h41)) fun v42 h42 =>
  bnd (pu h42 (fieldAddrV 1 v0)) fun v43 h43 =>
  bnd (pu h43 (loadV G false 1 v43 h43)) fun v44 h44 =>
  bnd (pureCall (alembicref17_get.f G k) [v42, v44] h44) fun v45 h45 =>
  bnd (pu h45 (fieldAddrV 4 v0)) fun v46 h46 =>
  bnd (pu h46 (loadV G false 1 v46 h46)) fun v47 h47 =>
  bnd (pu h47 (bin Tryd.prog .mul 3 true (.int .i64 16) v47)) fun v48 h48 =>
  bnd (pu h48 (convInt .u64 v48)) fun v49 h49 =>
  bnd (pu h49 (bin Tryd.prog .shl 43 true (.int .u64 65535) v49)) fun v50 h50 =>
  bnd (pu h50 (bin Tryd.prog .andNot 43 false v45 v50)) fun v51 h51 =>
  bnd (pu h51 (fieldAddrV 5 v0)) fun v52 h52 =>
  bnd (pu h52 (loadV G false 1 v52 h52)) fun v53 h53 =>
  bnd (pu h53 (convInt .u64 v53)) fun v54 h54 =>
  bnd (pu h54 (fieldAddrV 4 v0)) fun v55 h55 =>
  bnd (pu h55 (loadV G false 1 v55 h55)) fun v56 h56 =>
  bnd (pu h56 (bin Tryd.prog .mul 3 true (.int .i64 16) v56)) fun v57 h57 =>
  bnd (pu h57 (convInt .u64 v57)) fun v58 h58 =>
  bnd (pu h58 (bin Tryd.prog .shl 43 false v54 v58)) fun v59 h59 =>
  bnd (pu h59 (bin Tryd.prog .or 43 false v51 v59)) fun v60 h60 =>
  some (.normal, [v0, v1, v2, v3, v4, (.bool false), v60], h60))
  (bnd (pu h41 (bin Tryd.prog .eql 3 true v31 (.int .i64 3))) fun v61 h61 =>
  condA v61
  (bnd (pu h61 (bin Tryd.prog .add 43 false v21 v25)) fun v62 h62 =>
  some (.normal, [v0, v1, v2, v3, v4, (.bool false), v62], h62))
  (bnd (pu h61 (bin Tryd.prog .eql 3 true v31 (.int .i64 4))) fun v63 h63 =>
  condA v63
  (bnd (pu h63 (bin Tryd.prog .sub 43 false v21 v25)) fun v64 h64 =>
  some (.normal, [v0, v1, v2, v3, v4, (.bool false), v64], h64))
  (bnd (pu h63 (bin Tryd.prog .eql 3 true v31 (.int .i64 5))) fun v65 h65 =>
  condA v65
  (bnd (pu h65 (bin Tryd.prog .and 43 false v21 v25)) fun v66 h66 =>
  some (.normal, [v0, v1, v2, v3, v4, (.bool false), v66], h66))
  (bnd (pu h65 (bin Tryd.prog .eql 3 true v31 (.int .i64 6))) fun v67 h67 =>
  condA v67
  (bnd (pu h67 (bin Tryd.prog .or 43 false v21 v25)) fun v68 h68 =>
  some (.normal, [v0, v1, v2, v3, v4, (.bool false), v68], h68))
  (bnd (pu h67 (bin Tryd.prog .eql 3 true v31 (.int .i64 7))) fun v69 h69 =>
  condA v69
  (bnd (pu h69 (bin Tryd.prog .xor 43 false v21 v25)) fun v70 h70 =>
  some (.normal, [v0, v1, v2, v3, v4, (.bool false), v70], h70))
  (bnd (pu h69 (bin Tryd.prog .eql 3 true v31 (.int .i64 8))) fun v71 h71 =>
  condA v71
  (bnd (pu h71 (bin Tryd.prog .mul 43 false v21 v25)) fun v72 h72 =>
  bnd (pu h72 (loadV G true 31 v1 h72)) fun v73 h73 =>
  bnd (pu h73 (fieldAddrV 4 v0)) fun v74 h74 =>
  bnd (pu h74 (loadV G false 1 v74 h74)) fun v75 h75 =>
  bnd (pureCall (alembicref17_get.f G k) [v73, v75] h75) fun v76 h76 =>
  bnd (pu h76 (bin Tryd.prog .add 43 false v72 v76)) fun v77 h77 =>
  some (.normal, [v0, v1, v2, v3, v4, (.bool false), v77], h77))
  (bnd (pu h71 (bin Tryd.prog .eql 3 true v31 (.int .i64 9))) fun v78 h78 =>
  condA v78
  (bnd (pureCall (math_bits_Mul64.f G k) [v21, v25] h78) fun v79 h79 =>
  bnd (pu h79 (extractA v79 0)) fun v80 h80 =>
  bnd (pu h80 (extractA v79 1)) fun v81 h81 =>
  some (.normal, [v0, v1, v2, v3, v4, (.bool false), v80], h81))
  (bnd (pu h78 (bin Tryd.prog .eql 3 true v31 (.int .i64 10))) fun v82 h82 =>
  condA v82
  (bnd (pu h82 (fieldAddrV 5 v0)) fun v83 h83 =>
  bnd (pu h83 (loadV G false 1 v83 h83)) fun v84 h84 =>
  bnd (pu h84 (convInt .u64 v84)) fun v85 h85 =>
  bnd (pu h85 (bin Tryd.prog .add 43 false v21 v85)) fun v86 h86 =>
  some (.normal, [v0, v1, v2, v3, v4, (.bool false), v86], h86))
  (bnd (pu h82 (bin Tryd.prog .eql 3 true v31 (.int .i64 11))) fun v87 h87 =>
  condA v87
  (bnd (pu h87 (fieldAddrV 5 v0)) fun v88 h88 =>
  bnd (pu h88 (loadV G false 1 v88 h88)) fun v89 h89 =>
  bnd (pu h89 (convInt .u64 v89)) fun v90 h90 =>
  bnd (pu h90 (bin Tryd.prog .sub 43 false v21 v90)) fun v91 h91 =>
  some (.normal, [v0, v1, v2, v3, v4, (.bool false), v91], h91))
  (bnd (pu h87 (bin Tryd.prog .eql 3 true v31 (.int .i64 12))) fun v92 h92 =>
  condA v92
  (bnd (pu h92 (bin Tryd.prog .shl 43 false v21 v29)) fun v93 h93 =>
  some (.normal, [v0, v1, v2, v3, v4, (.bool false), v93], h93))
  (bnd (pu h92 (bin Tryd.prog .eql 3 true v31 (.int .i64 13))) fun v94 h94 =>
  condA v94
  (bnd (pu h94 (bin Tryd.prog .shr 43 false v21 v29)) fun v95 h95 =>
  some (.normal, [v0, v1, v2, v3, v4, (.bool false), v95], h95))
  (bnd (pu h94 (bin Tryd.prog .eql 3 true v31 (.int .i64 14))) fun v96 h96 =>
  condA v96
  (bnd (pu h96 (convInt .i64 v21)) fun v97 h97 =>
  bnd (pu h97 (bin Tryd.prog .shr 2 false v97 v29)) fun v98 h98 =>
  bnd (pu h98 (convInt .u64 v98)) fun v99 h99 =>
  some (.normal, [v0, v1, v2, v3, v4, (.bool false), v99], h99))
  (bnd (pu h96 (bin Tryd.prog .eql 3 true v31 (.int .i64 15))) fun v100 h100 =>
  condA v100
  (bnd (pu h100 (bin Tryd.prog .sub 43 false v21 v25)) fun v101 h101 =>
  bnd (pu h101 (bin Tryd.prog .xor 43 false v21 v25)) fun v102 h102 =>
  bnd (pu h102 (bin Tryd.prog .xor 43 false v21 v101)) fun v103 h103 =>
  bnd (pu h103 (bin Tryd.prog .and 43 false v102 v103)) fun v104 h104 =>
  bnd (pu h104 (bin Tryd.prog .shr 43 true v104 (.int .u64 63))) fun v105 h105 =>
  bnd (pu h105 (bin Tryd.prog .eql 43 true v105 (.int .u64 1))) fun v106 h106 =>
  bnd (pu h106 (loadV G true 31 v1 h106)) fun v107 h107 =>
  bnd (pu h107 (bin Tryd.prog .shr 43 true v101 (.int .u64 63))) fun v108 h108 =>
  bnd (pu h108 (bin Tryd.prog .eql 43 true v108 (.int .u64 1))) fun v109 h109 =>
  bnd (pu h109 (bin Tryd.prog .eql 43 true v101 (.int .u64 0))) fun v110 h110 =>
  bnd (pu h110 (bin Tryd.prog .geq 43 false v21 v25)) fun v111 h111 =>
  bnd (pu h111 (buildArr 1 [(.bool false), (.bool false), (.bool false), (.bool false)] [(0, v109), (1, v110), (2, v111), (3, v106)])) fun v112 h112 =>
  bnd (stS (storeV 31 v3 v107 h112)) fun v113 h113 =>
  bnd (stS (storeV 4 v4 v112 h113)) fun v114 h114 =>
  some (.ret, [v0, v1, v2, v3, v4, (.bool true), (.int .u64 0)], h114))
  (bnd (pu h100 (bin Tryd.prog .eql 3 true v31 (.int .i64 16))) fun v115 h115 =>
  condA v115
  (bnd (pu h115 (fieldAddrV 4 v0)) fun v116 h116 =>
  bnd (pu h116 (loadV G false 1 v116 h116)) fun v117 h117 =>
  bnd (pu h117 (loadV G true 4 v2 h117)) fun v118 h118 =>
  bnd (pureCall (alembicref17_Holds.f G k) [v117, v118] h118) fun v119 h119 =>
  condA v119
  (some (.normal, [v0, v1, v2, v3, v4, (.bool false), v21], h119))
  (some (.normal, [v0, v1, v2, v3, v4, (.bool false), v25], h119)))
  (bnd (pu h115 (bin Tryd.prog .eql 3 true v31 (.int .i64 17))) fun v120 h120 =>
  condA v120
  (bnd (pu h120 (fieldAddrV 4 v0)) fun v121 h121 =>
  bnd (pu h121 (loadV G false 1 v121 h121)) fun v122 h122 =>
  bnd (pu h122 (loadV G true 4 v2 h122)) fun v123 h123 =>
  bnd (pureCall (alembicref17_Holds.f G k) [v122, v123] h123) fun v124 h124 =>
  condA v124
  (some (.normal, [v0, v1, v2, v3, v4, (.bool false), (.int .u64 1)], h124))
  (some (.normal, [v0, v1, v2, v3, v4, (.bool false), (.int .u64 0)], h124)))
  (some (.normal, [v0, v1, v2, v3, v4, (.bool false), (.int .u64 0)], h120))))))))))))))))))) fun e125 x125 h125 => exK e125
  (bnd (pu h125 (loadV G true 31 (nth x125 1) h125)) fun v126 h126 =>
  bnd (pu h126 (fieldAddrV 1 (nth x125 0))) fun v127 h127 =>
  bnd (pu h127 (loadV G false 1 v127 h127)) fun v128 h128 =>
  bnd (pureCall (alembicref17_set.f G k) [v126, v128, (nth x125 6)] h128) fun v129 h129 =>
  bnd (pu h129 (loadV G true 4 (nth x125 2) h129)) fun v130 h130 =>
  bnd (stS (storeV 31 (nth x125 3) v129 h130)) fun v131 h131 =>
  bnd (stS (storeV 4 (nth x125 4) v130 h131)) fun v132 h132 =>
  grd [((nth x125 2), (nth x125 3))] (
finL [loadV G true 31 (nth x125 3) h132, loadV G true 4 (nth x125 4) h132, some (.bool true)] h.length h132))
  (fun i125 => none)
  (finL [loadV G true 31 (nth x125 3) h125, loadV G true 4 (nth x125 4) h125, some (nth x125 5)] h.length h125)))
noncomputable def alembicref17_One.f (G : Globs) : Nat → Den
  | 0 => fun _ _ => none
  | k + 1 => fun args h => arg3 args fun x0 x1 x2 => (alembicref17_One.c G k (alembicref17_One.f G k) x0 x1 x2 h)
theorem alembicref17_One.step (G : Globs) (k : Nat) (x0 x1 x2 : AV) (h : AHeap) : alembicref17_One.f G (k + 1) [x0, x1, x2] h = alembicref17_One.c G k (alembicref17_One.f G k) x0 x1 x2 h := rfl
/-! slices.Clone[[]uint64,uint64]: function 57 -/
noncomputable def slices_Clone___uint64uint64_.ann : Ann := mkAnn [5] [2] [] []
noncomputable def slices_Clone___uint64uint64_.env (G : Globs) (k : Nat) (self : Den) : List (Nat × Bool × Den) := []
noncomputable def slices_Clone___uint64uint64_.c (G : Globs) (k : Nat) (self : Den) (x0 : AV) (h : AHeap) : Option (AV × AHeap) := outV (
  bnd (some (.sl h.length 0 0 0 1, h ++ [⟨43, 1, []⟩])) fun v0 h0 =>
  bnd (pu h0 (bin Tryd.prog .eql 25 true x0 .nils)) fun v1 h1 =>
  condA v1
  (bnd (some (.sl h1.length 0 0 0 1, h1 ++ [⟨43, 1, []⟩])) fun v2 h2 =>
  finO [v2] h2)
  (bnd (buildOwn 43 1 0 (.int .u64 0) [] h1) fun v3 h3 =>
  bnd (appendV 43 1 v3 x0 h3) fun v4 h4 =>
  finO [v4] h4))
noncomputable def slices_Clone___uint64uint64_.f (G : Globs) : Nat → Den
  | 0 => fun _ _ => none
  | k + 1 => fun args h => arg1 args fun x0 => (slices_Clone___uint64uint64_.c G k (slices_Clone___uint64uint64_.f G k) x0 h)
/-! (*alembic/mach.run).leak: function 58 -/
noncomputable def mach_run_leak.ann : Ann := mkAnn [] [] [] []
noncomputable def mach_run_leak.env (G : Globs) (k : Nat) (self : Den) : List (Nat × Bool × Den) := []
noncomputable def mach_run_leak.c (G : Globs) (k : Nat) (self : Den) (x0 x1 x2 : AV) (h : AHeap) : Option (AV × AHeap) := outV (
  bnd (pu h (nilA x0)) fun v0 h0 =>
  bnd (pu h0 (fieldAddrV 0 v0)) fun v1 h1 =>
  bnd (pu h1 (fieldAddrV 33 v1)) fun v2 h2 =>
  bnd (pu h2 (loadV G false 1 v2 h2)) fun v3 h3 =>
  bnd (pu h3 (buildSt [(0, 1), (1, 1)] [(.int .i64 0), (.int .i64 0)] [(0, x1), (1, x2)])) fun v4 h4 =>
  bnd (buildRo 2 1 (.agg [(.int .i64 0), (.int .i64 0)]) [(0, v4)] h4) fun v5 h5 =>
  bnd (appendV 107 2 v3 v5 h5) fun v6 h6 =>
  bnd (pu h6 (nilA x0)) fun v7 h7 =>
  bnd (pu h7 (fieldAddrV 0 v7)) fun v8 h8 =>
  bnd (pu h8 (fieldAddrV 33 v8)) fun v9 h9 =>
  bnd (stS (storeV 1 v9 v6 h9)) fun v10 h10 =>
  finV [] h.length h10)
noncomputable def mach_run_leak.f (G : Globs) : Nat → Den
  | 0 => fun _ _ => none
  | k + 1 => fun args h => arg3 args fun x0 x1 x2 => (mach_run_leak.c G k (mach_run_leak.f G k) x0 x1 x2 h)
/-! (*alembic/mach.run).touch: function 81 -/
noncomputable def mach_run_touch.ann : Ann := mkAnn [] [] [] []
noncomputable def mach_run_touch.env (G : Globs) (k : Nat) (self : Den) : List (Nat × Bool × Den) := [(58, false, mach_run_leak.f G k), (83, true, mach_get.f G k), (85, false, mach_set.f G k)]
noncomputable def mach_run_touch.c (G : Globs) (k : Nat) (self : Den) (x0 x1 : AV) (h : AHeap) : Option (AV × AHeap) := outV (
  bnd (boxRoA x1 h) fun v0 h0 =>
  bnd (pu h0 (nilA x0)) fun v1 h1 =>
  bnd (pu h1 (fieldAddrV 0 v1)) fun v2 h2 =>
  bnd (pu h2 (fieldAddrV 2 v2)) fun v3 h3 =>
  bnd (pu h3 (fieldAddrV 2 v0)) fun v4 h4 =>
  bnd (pu h4 (loadV G false 1 v4 h4)) fun v5 h5 =>
  bnd (pureCall (mach_get.f G k) [v3, v5] h5) fun v6 h6 =>
  bnd (pu h6 (fieldAddrV 5 v0)) fun v7 h7 =>
  bnd (pu h7 (loadV G false 1 v7 h7)) fun v8 h8 =>
  bnd (pu h8 (convInt .u64 v8)) fun v9 h9 =>
  bnd (pu h9 (bin Tryd.prog .mul 43 true (.int .u64 8) v9)) fun v10 h10 =>
  bnd (pu h10 (bin Tryd.prog .add 43 false v6 v10)) fun v11 h11 =>
  bnd (pu h11 (convInt .i64 v11)) fun v12 h12 =>
  bnd (heapCall (mach_run_leak.f G k) [x0, (.int .i64 3), v12] h12) fun v13 h13 =>
  bnd (pu h13 (bin Tryd.prog .rem 43 true v11 (.int .u64 8))) fun v14 h14 =>
  bnd (pu h14 (bin Tryd.prog .neq 43 true v14 (.int .u64 0))) fun v15 h15 =>
  bnd (gd v15 false h15 (some (v11, h15))) fun v16 h16 =>
  bnd (gd v15 false h16 (pu h16 (bin Tryd.prog .quo 43 true v16 (.int .u64 8)))) fun v17 h17 =>
  bnd (gd v15 false h17 (some (x0, h17))) fun v18 h18 =>
  bnd (gd v15 false h18 (pu h18 (nilA v18))) fun v19 h19 =>
  bnd (gd v15 false h19 (pu h19 (fieldAddrV 0 v19))) fun v20 h20 =>
  bnd (gd v15 false h20 (pu h20 (fieldAddrV 1 v20))) fun v21 h21 =>
  bnd (gd v15 false h21 (pu h21 (loadV G false 1 v21 h21))) fun v22 h22 =>
  bnd (gd v15 false h22 (pu h22 (lenSl v22))) fun v23 h23 =>
  bnd (gd v15 false h23 (pu h23 (convInt .u64 v23))) fun v24 h24 =>
  bnd (gd v15 false h24 (pu h24 (bin Tryd.prog .geq 43 false v17 v24))) fun v25 h25 =>
  bnd (pu h25 (pickA v15 (.bool true) v25)) fun v26 h26 =>
  condA v26
  (bnd (pu h26 (nilA x0)) fun v27 h27 =>
  bnd (pu h27 (fieldAddrV 0 v27)) fun v28 h28 =>
  bnd (pu h28 (fieldAddrV 0 v28)) fun v29 h29 =>
  bnd (stS (storeV 1 v29 (.int .i64 3) h29)) fun v30 h30 =>
  finV [(.bool false)] h.length h30)
  (bnd (pu h26 (fieldAddrV 0 v0)) fun v31 h31 =>
  bnd (pu h31 (loadV G false 1 v31 h31)) fun v32 h32 =>
  bnd (pu h32 (bin Tryd.prog .eql 3 true v32 (.int .i64 18))) fun v33 h33 =>
  condA v33
  (bnd (pu h33 (nilA x0)) fun v34 h34 =>
  bnd (pu h34 (fieldAddrV 0 v34)) fun v35 h35 =>
  bnd (pu h35 (fieldAddrV 2 v35)) fun v36 h36 =>
  bnd (pu h36 (fieldAddrV 1 v0)) fun v37 h37 =>
  bnd (pu h37 (loadV G false 1 v37 h37)) fun v38 h38 =>
  bnd (pu h38 (nilA x0)) fun v39 h39 =>
  bnd (pu h39 (fieldAddrV 0 v39)) fun v40 h40 =>
  bnd (pu h40 (fieldAddrV 1 v40)) fun v41 h41 =>
  bnd (pu h41 (loadV G false 1 v41 h41)) fun v42 h42 =>
  bnd (pu h42 (bin Tryd.prog .quo 43 true v11 (.int .u64 8))) fun v43 h43 =>
  bnd (pu h43 (idxAddrSl 1 v42 v43)) fun v44 h44 =>
  bnd (pu h44 (loadV G false 1 v44 h44)) fun v45 h45 =>
  bnd (heapCall (mach_set.f G k) [v36, v38, v45] h45) fun v46 h46 =>
  finV [(.bool true)] h.length h46)
  (bnd (pu h33 (nilA x0)) fun v47 h47 =>
  bnd (pu h47 (fieldAddrV 0 v47)) fun v48 h48 =>
  bnd (pu h48 (fieldAddrV 1 v48)) fun v49 h49 =>
  bnd (pu h49 (loadV G false 1 v49 h49)) fun v50 h50 =>
  bnd (pu h50 (bin Tryd.prog .quo 43 true v11 (.int .u64 8))) fun v51 h51 =>
  bnd (pu h51 (nilA x0)) fun v52 h52 =>
  bnd (pu h52 (fieldAddrV 0 v52)) fun v53 h53 =>
  bnd (pu h53 (fieldAddrV 2 v53)) fun v54 h54 =>
  bnd (pu h54 (fieldAddrV 1 v0)) fun v55 h55 =>
  bnd (pu h55 (loadV G false 1 v55 h55)) fun v56 h56 =>
  bnd (pureCall (mach_get.f G k) [v54, v56] h56) fun v57 h57 =>
  bnd (pu h57 (idxAddrSl 1 v50 v51)) fun v58 h58 =>
  bnd (stS (storeV 1 v58 v57 h58)) fun v59 h59 =>
  finV [(.bool true)] h.length h59)))
noncomputable def mach_run_touch.f (G : Globs) : Nat → Den
  | 0 => fun _ _ => none
  | k + 1 => fun args h => arg2 args fun x0 x1 => (mach_run_touch.c G k (mach_run_touch.f G k) x0 x1 h)
/-! (*alembic/mach.run).goes: function 102 -/
noncomputable def mach_run_goes.ann : Ann := mkAnn [] [] [] []
noncomputable def mach_run_goes.env (G : Globs) (k : Nat) (self : Den) : List (Nat × Bool × Den) := [(33, true, mach_Holds.f G k), (83, true, mach_get.f G k)]
noncomputable def mach_run_goes.c (G : Globs) (k : Nat) (self : Den) (x0 x1 : AV) (h : AHeap) : Option (AV × AHeap) := outV (
  bnd (boxRoA x1 h) fun v0 h0 =>
  bnd (pu h0 (fieldAddrV 0 v0)) fun v1 h1 =>
  bnd (pu h1 (loadV G false 1 v1 h1)) fun v2 h2 =>
  bnd (pu h2 (bin Tryd.prog .eql 3 true v2 (.int .i64 21))) fun v3 h3 =>
  condA v3
  (bnd (pu h3 (fieldAddrV 4 v0)) fun v4 h4 =>
  bnd (pu h4 (loadV G false 1 v4 h4)) fun v5 h5 =>
  bnd (pu h5 (nilA x0)) fun v6 h6 =>
  bnd (pu h6 (fieldAddrV 35 v6)) fun v7 h7 =>
  bnd (pu h7 (loadV G true 4 v7 h7)) fun v8 h8 =>
  bnd (pureCall (mach_Holds.f G k) [v5, v8] h8) fun v9 h9 =>
  finV [v9] h.length h9)
  (bnd (pu h3 (bin Tryd.prog .eql 3 true v2 (.int .i64 22))) fun v10 h10 =>
  condA v10
  (bnd (pu h10 (nilA x0)) fun v11 h11 =>
  bnd (pu h11 (fieldAddrV 0 v11)) fun v12 h12 =>
  bnd (pu h12 (fieldAddrV 2 v12)) fun v13 h13 =>
  bnd (pu h13 (fieldAddrV 1 v0)) fun v14 h14 =>
  bnd (pu h14 (loadV G false 1 v14 h14)) fun v15 h15 =>
  bnd (pureCall (mach_get.f G k) [v13, v15] h15) fun v16 h16 =>
  bnd (pu h16 (bin Tryd.prog .eql 43 true v16 (.int .u64 0))) fun v17 h17 =>
  finV [v17] h.length h17)
  (bnd (pu h10 (nilA x0)) fun v18 h18 =>
  bnd (pu h18 (fieldAddrV 0 v18)) fun v19 h19 =>
  bnd (pu h19 (fieldAddrV 2 v19)) fun v20 h20 =>
  bnd (pu h20 (fieldAddrV 1 v0)) fun v21 h21 =>
  bnd (pu h21 (loadV G false 1 v21 h21)) fun v22 h22 =>
  bnd (pureCall (mach_get.f G k) [v20, v22] h22) fun v23 h23 =>
  bnd (pu h23 (bin Tryd.prog .neq 43 true v23 (.int .u64 0))) fun v24 h24 =>
  finV [v24] h.length h24)))
noncomputable def mach_run_goes.f (G : Globs) : Nat → Den
  | 0 => fun _ _ => none
  | k + 1 => fun args h => arg2 args fun x0 x1 => (mach_run_goes.c G k (mach_run_goes.f G k) x0 x1 h)
/-! (*alembic/mach.run).branch: function 82 -/
noncomputable def mach_run_branch.ann : Ann := mkAnn [] [] [] [(7, [0, 3, 4]), (6, [0, 3, 4, 5])]
noncomputable def mach_run_branch.env (G : Globs) (k : Nat) (self : Den) : List (Nat × Bool × Den) := [(58, false, mach_run_leak.f G k), (102, true, mach_run_goes.f G k)]
noncomputable def mach_run_branch.c (G : Globs) (k : Nat) (self : Den) (x0 x1 : AV) (h : AHeap) : Option (AV × AHeap) := outV (
  bnd (boxRoA x1 h) fun v0 h0 =>
  bnd (pu h0 (fieldAddrV 0 v0)) fun v1 h1 =>
  bnd (pu h1 (loadV G false 1 v1 h1)) fun v2 h2 =>
  bnd (pu h2 (bin Tryd.prog .eql 3 true v2 (.int .i64 20))) fun v3 h3 =>
  bnd (gd v3 false h3 (some (x0, h3))) fun v4 h4 =>
  bnd (gd v3 false h4 (pu h4 (loadV G true 6 v0 h4))) fun v5 h5 =>
  bnd (gd v3 false h5 (pureCall (mach_run_goes.f G k) [v4, v5] h5)) fun v6 h6 =>
  bnd (pu h6 (pickA v3 (.bool true) v6)) fun v7 h7 =>
  thenK (
  bnd (pu h7 (fieldAddrV 0 v0)) fun v8 h8 =>
  bnd (pu h8 (loadV G false 1 v8 h8)) fun v9 h9 =>
  bnd (pu h9 (bin Tryd.prog .neq 3 true v9 (.int .i64 20))) fun v10 h10 =>
  condA v10
  (thenK (
  condA v7
  (some (.normal, [x0, v0, v7, (.int .i64 1)], h10))
  (some (.normal, [x0, v0, v7, (.int .i64 0)], h10))) fun e11 x11 h11 => exK e11
  (bnd (heapCall (mach_run_leak.f G k) [(nth x11 0), (.int .i64 2), (nth x11 3)] h11) fun v12 h12 =>
  some (.normal, [(nth x11 0), (nth x11 1), (nth x11 2)], h12))
  (fun i11 => some (.exit i11, [(nth x11 0), (nth x11 1), (nth x11 2)], h11))
  (some (.ret, [(nth x11 0), (nth x11 1), (nth x11 2)], h11)))
  (some (.normal, [x0, v0, v7], h10))) fun e13 x13 h13 => exK e13
  (condA (nth x13 2)
  (bnd (pu h13 (nilA (nth x13 0))) fun v14 h14 =>
  bnd (pu h14 (fieldAddrV 39 v14)) fun v15 h15 =>
  bnd (pu h15 (loadV G false 1 v15 h15)) fun v16 h16 =>
  bnd (pu h16 (fieldAddrV 5 (nth x13 1))) fun v17 h17 =>
  bnd (pu h17 (loadV G false 1 v17 h17)) fun v18 h18 =>
  bnd (pu h18 (bin Tryd.prog .sub 3 true v18 (.int .i64 1))) fun v19 h19 =>
  bnd (pu h19 (bin Tryd.prog .add 3 false v16 v19)) fun v20 h20 =>
  bnd (pu h20 (nilA (nth x13 0))) fun v21 h21 =>
  bnd (pu h21 (fieldAddrV 39 v21)) fun v22 h22 =>
  bnd (stS (storeV 1 v22 v20 h22)) fun v23 h23 =>
  finV [] h.length h23)
  (finV [] h.length h13))
  (fun i13 => none)
  (finV [] h.length h13))
noncomputable def mach_run_branch.f (G : Globs) : Nat → Den
  | 0 => fun _ _ => none
  | k + 1 => fun args h => arg2 args fun x0 x1 => (mach_run_branch.c G k (mach_run_branch.f G k) x0 x1 h)
/-! (*alembic/mach.run).step: function 59 -/
noncomputable def mach_run_step.ann : Ann := mkAnn [] [] [] [(25, [0, 4, 5]), (18, [0, 5, 49, 56]), (13, [0, 5, 49, 50]), (9, [0, 4, 5])]
noncomputable def mach_run_step.env (G : Globs) (k : Nat) (self : Den) : List (Nat × Bool × Den) := [(37, true, isa_Of.f G k), (60, false, mach_does.f G k), (81, false, mach_run_touch.f G k), (82, false, mach_run_branch.f G k)]
noncomputable def mach_run_step.c (G : Globs) (k : Nat) (self : Den) (x0 x1 : AV) (h : AHeap) : Option (AV × AHeap) := outV (
  bnd (pu h (nilA x0)) fun v0 h0 =>
  bnd (pu h0 (fieldAddrV 40 v0)) fun v1 h1 =>
  bnd (pu h1 (loadV G false 1 v1 h1)) fun v2 h2 =>
  bnd (pu h2 (nilA x0)) fun v3 h3 =>
  bnd (pu h3 (fieldAddrV 39 v3)) fun v4 h4 =>
  bnd (pu h4 (loadV G false 1 v4 h4)) fun v5 h5 =>
  bnd (pu h5 (idxAddrSl 6 v2 v5)) fun v6 h6 =>
  bnd (pu h6 (loadV G true 6 v6 h6)) fun v7 h7 =>
  bnd (boxA 57 (.agg [(.int .i64 0), (.int .i64 0), (.int .i64 0), (.int .i64 0), (.int .i64 0), (.int .i64 0)]) h7) fun v8 h8 =>
  bnd (stS (storeV 6 v8 v7 h8)) fun v9 h9 =>
  thenK (
  bnd (pu h9 (fieldAddrV 0 v8)) fun v10 h10 =>
  bnd (pu h10 (loadV G false 1 v10 h10)) fun v11 h11 =>
  bnd (pu h11 (bin Tryd.prog .eql 3 true v11 (.int .i64 0))) fun v12 h12 =>
  condA v12
  (bnd (pureCall (isa_Of.f G k) [x1] h12) fun v13 h13 =>
  bnd (pu h13 (extractA v13 0)) fun v14 h14 =>
  bnd (pu h14 (extractA v13 1)) fun v15 h15 =>
  bnd (stS (storeV 6 v8 v14 h15)) fun v16 h16 =>
  bnd (pu h16 (un .not v15)) fun v17 h17 =>
  condA v17
  (bnd (pu h17 (nilA x0)) fun v18 h18 =>
  bnd (pu h18 (fieldAddrV 0 v18)) fun v19 h19 =>
  bnd (pu h19 (fieldAddrV 0 v19)) fun v20 h20 =>
  bnd (stS (storeV 1 v20 (.int .i64 3) h20)) fun v21 h21 =>
  some (.ret, [x0, (.bool false), v8], h21))
  (bnd (pu h17 (nilA x0)) fun v22 h22 =>
  bnd (pu h22 (fieldAddrV 40 v22)) fun v23 h23 =>
  bnd (pu h23 (loadV G false 1 v23 h23)) fun v24 h24 =>
  bnd (pu h24 (nilA x0)) fun v25 h25 =>
  bnd (pu h25 (fieldAddrV 39 v25)) fun v26 h26 =>
  bnd (pu h26 (loadV G false 1 v26 h26)) fun v27 h27 =>
  bnd (pu h27 (loadV G true 6 v8 h27)) fun v28 h28 =>
  bnd (pu h28 (idxAddrSl 6 v24 v27)) fun v29 h29 =>
  bnd (stS (storeV 6 v29 v28 h29)) fun v30 h30 =>
  some (.normal, [x0, (.bool false), v8], h30)))
  (some (.normal, [x0, (.bool false), v8], h12))) fun e31 x31 h31 => exK e31
  (bnd (pu h31 (nilA (nth x31 0))) fun v32 h32 =>
  bnd (pu h32 (fieldAddrV 39 v32)) fun v33 h33 =>
  bnd (pu h33 (loadV G false 1 v33 h33)) fun v34 h34 =>
  bnd (pu h34 (bin Tryd.prog .add 3 true v34 (.int .i64 1))) fun v35 h35 =>
  bnd (pu h35 (nilA (nth x31 0))) fun v36 h36 =>
  bnd (pu h36 (fieldAddrV 39 v36)) fun v37 h37 =>
  bnd (stS (storeV 1 v37 v35 h37)) fun v38 h38 =>
  thenK (
  bnd (pu h38 (fieldAddrV 0 (nth x31 2))) fun v39 h39 =>
  bnd (pu h39 (loadV G false 1 v39 h39)) fun v40 h40 =>
  thenK (
  bnd (pu h40 (bin Tryd.prog .eql 3 true v40 (.int .i64 18))) fun v41 h41 =>
  condA v41
  (some (.normal, [(nth x31 0), (nth x31 2), v40, v41], h41))
  (bnd (pu h41 (bin Tryd.prog .eql 3 true v40 (.int .i64 19))) fun v42 h42 =>
  some (.normal, [(nth x31 0), (nth x31 2), v40, v42], h42))) fun e43 x43 h43 => exK e43
  (condA (nth x43 3)
  (bnd (pu h43 (loadV G true 6 (nth x43 1) h43)) fun v44 h44 =>
  bnd (heapCall (mach_run_touch.f G k) [(nth x43 0), v44] h44) fun v45 h45 =>
  some (.ret, [(nth x43 0), v45, (nth x43 1)], h45))
  (thenK (
  bnd (pu h43 (bin Tryd.prog .eql 3 true (nth x43 2) (.int .i64 20))) fun v46 h46 =>
  condA v46
  (some (.normal, [(nth x43 0), (nth x43 1), (nth x43 2), v46], h46))
  (bnd (pu h46 (bin Tryd.prog .eql 3 true (nth x43 2) (.int .i64 21))) fun v47 h47 =>
  condA v47
  (some (.normal, [(nth x43 0), (nth x43 1), (nth x43 2), v47], h47))
  (bnd (pu h47 (bin Tryd.prog .eql 3 true (nth x43 2) (.int .i64 22))) fun v48 h48 =>
  condA v48
  (some (.normal, [(nth x43 0), (nth x43 1), (nth x43 2), v48], h48))
  (bnd (pu h48 (bin Tryd.prog .eql 3 true (nth x43 2) (.int .i64 23))) fun v49 h49 =>
  some (.normal, [(nth x43 0), (nth x43 1), (nth x43 2), v49], h49))))) fun e50 x50 h50 => exK e50
  (condA (nth x50 3)
  (bnd (pu h50 (loadV G true 6 (nth x50 1) h50)) fun v51 h51 =>
  bnd (heapCall (mach_run_branch.f G k) [(nth x50 0), v51] h51) fun v52 h52 =>
  some (.ret, [(nth x50 0), (.bool true), (nth x50 1)], h52))
  (bnd (pu h50 (bin Tryd.prog .eql 3 true (nth x50 2) (.int .i64 24))) fun v53 h53 =>
  condA v53
  (bnd (pu h53 (nilA (nth x50 0))) fun v54 h54 =>
  bnd (pu h54 (fieldAddrV 0 v54)) fun v55 h55 =>
  bnd (pu h55 (fieldAddrV 0 v55)) fun v56 h56 =>
  bnd (stS (storeV 1 v56 (.int .i64 3) h56)) fun v57 h57 =>
  bnd (pu h57 (fieldAddrV 5 (nth x50 1))) fun v58 h58 =>
  bnd (pu h58 (loadV G false 1 v58 h58)) fun v59 h59 =>
  bnd (pu h59 (bin Tryd.prog .leq 3 true v59 (.int .i64 2))) fun v60 h60 =>
  condA v60
  (bnd (pu h60 (fieldAddrV 5 (nth x50 1))) fun v61 h61 =>
  bnd (pu h61 (loadV G false 1 v61 h61)) fun v62 h62 =>
  bnd (pu h62 (nilA (nth x50 0))) fun v63 h63 =>
  bnd (pu h63 (fieldAddrV 0 v63)) fun v64 h64 =>
  bnd (pu h64 (fieldAddrV 0 v64)) fun v65 h65 =>
  bnd (stS (storeV 1 v65 v62 h65)) fun v66 h66 =>
  some (.ret, [(nth x50 0), (.bool false), (nth x50 1)], h66))
  (some (.ret, [(nth x50 0), (.bool false), (nth x50 1)], h60)))
  (some (.normal, [(nth x50 0), .undef, (nth x50 1)], h53))))
  (fun i50 => if i50 = 0 then (some (.normal, [(nth x50 0), .undef, (nth x50 1)], h50)) else (some (.exit i50, [(nth x50 0), .undef, (nth x50 1)], h50)))
  (some (.ret, [(nth x50 0), .undef, (nth x50 1)], h50))))
  (fun i43 => if i43 = 0 then (some (.normal, [(nth x43 0), .undef, (nth x43 1)], h43)) else (some (.exit i43, [(nth x43 0), .undef, (nth x43 1)], h43)))
  (some (.ret, [(nth x43 0), .undef, (nth x43 1)], h43))) fun e67 x67 h67 => exK e67
  (bnd (pu h67 (loadV G true 6 (nth x67 2) h67)) fun v68 h68 =>
  bnd (pu h68 (nilA (nth x67 0))) fun v69 h69 =>
  bnd (pu h69 (fieldAddrV 0 v69)) fun v70 h70 =>
  bnd (pu h70 (fieldAddrV 2 v70)) fun v71 h71 =>
  bnd (pu h71 (nilA (nth x67 0))) fun v72 h72 =>
  bnd (pu h72 (fieldAddrV 35 v72)) fun v73 h73 =>
  bnd (heapCall (mach_does.f G k) [v68, v71, v73] h73) fun v74 h74 =>
  finV [(.bool true)] h.length h74)
  (fun i67 => none)
  (finV [(nth x67 1)] h.length h67))
  (fun i31 => none)
  (finV [(nth x31 1)] h.length h31))
noncomputable def mach_run_step.f (G : Globs) : Nat → Den
  | 0 => fun _ _ => none
  | k + 1 => fun args h => arg2 args fun x0 x1 => (mach_run_step.c G k (mach_run_step.f G k) x0 x1 h)
/-! alembic/mach.Run: function 28 -/
noncomputable def mach_Run.ann : Ann := mkAnnV [33] [] [(7, [0, 2, 6, 7, 8])] [] [(7, [(6, 33, 107, 2), (8, 33, 107, 2)])] []
noncomputable def mach_Run.env (G : Globs) (k : Nat) (self : Den) : List (Nat × Bool × Den) := [(57, false, slices_Clone___uint64uint64_.f G k), (58, false, mach_run_leak.f G k), (59, false, mach_run_step.f G k)]
noncomputable def mach_Run.l7 (G : Globs) (k n0 : Nat) (self : Den) (lp : LoopF) : LoopF := fun xs h0 => cutK n0 xs h0 fun h =>
  bnd (pu h (nilA (nth xs 4))) fun v27 h27 =>
  bnd (pu h27 (fieldAddrV 39 v27)) fun v28 h28 =>
  bnd (pu h28 (loadV G false 1 v28 h28)) fun v29 h29 =>
  bnd (pu h29 (bin Tryd.prog .lss 3 true v29 (.int .i64 0))) fun v30 h30 =>
  bnd (gd v30 false h30 (some ((nth xs 4), h30))) fun v31 h31 =>
  bnd (gd v30 false h31 (pu h31 (nilA v31))) fun v32 h32 =>
  bnd (gd v30 false h32 (pu h32 (fieldAddrV 39 v32))) fun v33 h33 =>
  bnd (gd v30 false h33 (pu h33 (loadV G false 1 v33 h33))) fun v34 h34 =>
  bnd (gd v30 false h34 (some ((nth xs 0), h34))) fun v35 h35 =>
  bnd (gd v30 false h35 (pu h35 (lenSl v35))) fun v36 h36 =>
  bnd (gd v30 false h36 (pu h36 (bin Tryd.prog .geq 3 false v34 v36))) fun v37 h37 =>
  bnd (pu h37 (pickA v30 (.bool true) v37)) fun v38 h38 =>
  condA v38
  (bnd (pu h38 (nilA (nth xs 4))) fun v39 h39 =>
  bnd (pu h39 (fieldAddrV 0 v39)) fun v40 h40 =>
  bnd (pu h40 (fieldAddrV 0 v40)) fun v41 h41 =>
  bnd (stS (storeV 1 v41 (.int .i64 3) h41)) fun v42 h42 =>
  bnd (pu h42 (nilA (nth xs 4))) fun v43 h43 =>
  bnd (pu h43 (fieldAddrV 0 v43)) fun v44 h44 =>
  bnd (pu h44 (loadV G true 35 v44 h44)) fun v45 h45 =>
  bnd (stS (storeV 35 (nth xs 2) v45 h45)) fun v46 h46 =>
  some (.ret, [(nth xs 0), (nth xs 1), (nth xs 2), .nili, (nth xs 4)], h46))
  (bnd (pu h38 (nilA (nth xs 4))) fun v47 h47 =>
  bnd (pu h47 (fieldAddrV 0 v47)) fun v48 h48 =>
  bnd (pu h48 (fieldAddrV 34 v48)) fun v49 h49 =>
  bnd (pu h49 (loadV G false 1 v49 h49)) fun v50 h50 =>
  bnd (pu h50 (bin Tryd.prog .eql 2 false v50 (nth xs 1))) fun v51 h51 =>
  condA v51
  (bnd (pu h51 (nilA (nth xs 4))) fun v52 h52 =>
  bnd (pu h52 (fieldAddrV 0 v52)) fun v53 h53 =>
  bnd (pu h53 (fieldAddrV 0 v53)) fun v54 h54 =>
  bnd (stS (storeV 1 v54 (.int .i64 4) h54)) fun v55 h55 =>
  bnd (pu h55 (nilA (nth xs 4))) fun v56 h56 =>
  bnd (pu h56 (fieldAddrV 0 v56)) fun v57 h57 =>
  bnd (pu h57 (loadV G true 35 v57 h57)) fun v58 h58 =>
  bnd (stS (storeV 35 (nth xs 2) v58 h58)) fun v59 h59 =>
  some (.ret, [(nth xs 0), (nth xs 1), (nth xs 2), .nili, (nth xs 4)], h59))
  (bnd (pu h51 (nilA (nth xs 4))) fun v60 h60 =>
  bnd (pu h60 (fieldAddrV 0 v60)) fun v61 h61 =>
  bnd (pu h61 (fieldAddrV 34 v61)) fun v62 h62 =>
  bnd (pu h62 (loadV G false 1 v62 h62)) fun v63 h63 =>
  bnd (pu h63 (bin Tryd.prog .add 2 true v63 (.int .i64 1))) fun v64 h64 =>
  bnd (pu h64 (nilA (nth xs 4))) fun v65 h65 =>
  bnd (pu h65 (fieldAddrV 0 v65)) fun v66 h66 =>
  bnd (pu h66 (fieldAddrV 34 v66)) fun v67 h67 =>
  bnd (stS (storeV 1 v67 v64 h67)) fun v68 h68 =>
  bnd (pu h68 (nilA (nth xs 4))) fun v69 h69 =>
  bnd (pu h69 (fieldAddrV 39 v69)) fun v70 h70 =>
  bnd (pu h70 (loadV G false 1 v70 h70)) fun v71 h71 =>
  bnd (heapCall (mach_run_leak.f G k) [(nth xs 4), (.int .i64 1), v71] h71) fun v72 h72 =>
  bnd (pu h72 (nilA (nth xs 4))) fun v73 h73 =>
  bnd (pu h73 (fieldAddrV 39 v73)) fun v74 h74 =>
  bnd (pu h74 (loadV G false 1 v74 h74)) fun v75 h75 =>
  bnd (pu h75 (idxAddrSl 1 (nth xs 0) v75)) fun v76 h76 =>
  bnd (pu h76 (loadV G false 1 v76 h76)) fun v77 h77 =>
  bnd (heapCall (mach_run_step.f G k) [(nth xs 4), v77] h77) fun v78 h78 =>
  bnd (pu h78 (un .not v78)) fun v79 h79 =>
  condA v79
  (bnd (pu h79 (nilA (nth xs 4))) fun v80 h80 =>
  bnd (pu h80 (fieldAddrV 0 v80)) fun v81 h81 =>
  bnd (pu h81 (loadV G true 35 v81 h81)) fun v82 h82 =>
  bnd (stS (storeV 35 (nth xs 2) v82 h82)) fun v83 h83 =>
  some (.ret, [(nth xs 0), (nth xs 1), (nth xs 2), .nili, (nth xs 4)], h83))
  (lp [(nth xs 0), (nth xs 1), (nth xs 2), (nth xs 3), (nth xs 4)] h79)))
noncomputable def mach_Run.c (G : Globs) (k : Nat) (self : Den) (x0 x1 x2 : AV) (h : AHeap) : Option (AV × AHeap) := outV (
  bnd (boxA 65 (.agg [(.int .i64 0), .nils, (.int .u64 0), (.int .u64 0), (.int .u64 0), (.int .u64 0), (.int .u64 0), (.int .u64 0), (.int .u64 0), (.int .u64 0), (.int .u64 0), (.int .u64 0), (.int .u64 0), (.int .u64 0), (.int .u64 0), (.int .u64 0), (.int .u64 0), (.int .u64 0), (.int .u64 0), (.int .u64 0), (.int .u64 0), (.int .u64 0), (.int .u64 0), (.int .u64 0), (.int .u64 0), (.int .u64 0), (.int .u64 0), (.int .u64 0), (.int .u64 0), (.int .u64 0), (.int .u64 0), (.int .u64 0), (.int .u64 0), .nils, (.int .i64 0)]) h) fun v0 h0 =>
  bnd (pu h0 (lenSl x0)) fun v1 h1 =>
  bnd (pu h1 (bin Tryd.prog .gtr 3 true v1 (.int .i64 262144))) fun v2 h2 =>
  bnd (gd v2 false h2 (some (x1, h2))) fun v3 h3 =>
  bnd (gd v2 false h3 (pu h3 (lenSl v3))) fun v4 h4 =>
  bnd (gd v2 false h4 (pu h4 (bin Tryd.prog .gtr 3 true v4 (.int .i64 65536)))) fun v5 h5 =>
  bnd (pu h5 (pickA v2 (.bool true) v5)) fun v6 h6 =>
  condA v6
  (bnd (pu h6 (buildSt [(0, 1), (1, 1), (2, 31), (33, 1), (34, 1)] [(.int .i64 0), .nils, (.int .u64 0), (.int .u64 0), (.int .u64 0), (.int .u64 0), (.int .u64 0), (.int .u64 0), (.int .u64 0), (.int .u64 0), (.int .u64 0), (.int .u64 0), (.int .u64 0), (.int .u64 0), (.int .u64 0), (.int .u64 0), (.int .u64 0), (.int .u64 0), (.int .u64 0), (.int .u64 0), (.int .u64 0), (.int .u64 0), (.int .u64 0), (.int .u64 0), (.int .u64 0), (.int .u64 0), (.int .u64 0), (.int .u64 0), (.int .u64 0), (.int .u64 0), (.int .u64 0), (.int .u64 0), (.int .u64 0), .nils, (.int .i64 0)] [])) fun v7 h7 =>
  bnd (pu h7 (loadV G false 1 (.gl 0) h7)) fun v8 h8 =>
  bnd (stS (storeV 35 v0 v7 h8)) fun v9 h9 =>
  finL [loadV G true 35 v0 h9, some v8] h.length h9)
  (bnd (pu h6 (bin Tryd.prog .lss 2 true x2 (.int .i64 0))) fun v10 h10 =>
  bnd (gd v10 false h10 (some (x2, h10))) fun v11 h11 =>
  bnd (gd v10 false h11 (pu h11 (bin Tryd.prog .gtr 2 true v11 (.int .i64 1073741824)))) fun v12 h12 =>
  bnd (pu h12 (pickA v10 (.bool true) v12)) fun v13 h13 =>
  condA v13
  (bnd (pu h13 (buildSt [(0, 1), (1, 1), (2, 31), (33, 1), (34, 1)] [(.int .i64 0), .nils, (.int .u64 0), (.int .u64 0), (.int .u64 0), (.int .u64 0), (.int .u64 0), (.int .u64 0), (.int .u64 0), (.int .u64 0), (.int .u64 0), (.int .u64 0), (.int .u64 0), (.int .u64 0), (.int .u64 0), (.int .u64 0), (.int .u64 0), (.int .u64 0), (.int .u64 0), (.int .u64 0), (.int .u64 0), (.int .u64 0), (.int .u64 0), (.int .u64 0), (.int .u64 0), (.int .u64 0), (.int .u64 0), (.int .u64 0), (.int .u64 0), (.int .u64 0), (.int .u64 0), (.int .u64 0), (.int .u64 0), .nils, (.int .i64 0)] [])) fun v14 h14 =>
  bnd (pu h14 (loadV G false 1 (.gl 1) h14)) fun v15 h15 =>
  bnd (stS (storeV 35 v0 v14 h15)) fun v16 h16 =>
  finL [loadV G true 35 v0 h16, some v15] h.length h16)
  (bnd (pu h13 (lenSl x0)) fun v17 h17 =>
  bnd (makeSliceV 57 6 (.agg [(.int .i64 0), (.int .i64 0), (.int .i64 0), (.int .i64 0), (.int .i64 0), (.int .i64 0)]) v17 v17 h17) fun v18 h18 =>
  bnd (pu h18 (buildSt [(0, 35), (35, 4), (39, 1), (40, 1)] [(.int .i64 0), .nils, (.int .u64 0), (.int .u64 0), (.int .u64 0), (.int .u64 0), (.int .u64 0), (.int .u64 0), (.int .u64 0), (.int .u64 0), (.int .u64 0), (.int .u64 0), (.int .u64 0), (.int .u64 0), (.int .u64 0), (.int .u64 0), (.int .u64 0), (.int .u64 0), (.int .u64 0), (.int .u64 0), (.int .u64 0), (.int .u64 0), (.int .u64 0), (.int .u64 0), (.int .u64 0), (.int .u64 0), (.int .u64 0), (.int .u64 0), (.int .u64 0), (.int .u64 0), (.int .u64 0), (.int .u64 0), (.int .u64 0), .nils, (.int .i64 0), (.bool false), (.bool false), (.bool false), (.bool false), (.int .i64 0), .nils] [(3, v18)])) fun v19 h19 =>
  bnd (boxA 123 v19 h19) fun v20 h20 =>
  bnd (heapCall (slices_Clone___uint64uint64_.f G k) [x1] h20) fun v21 h21 =>
  bnd (pu h21 (nilA v20)) fun v22 h22 =>
  bnd (pu h22 (fieldAddrV 0 v22)) fun v23 h23 =>
  bnd (pu h23 (fieldAddrV 1 v23)) fun v24 h24 =>
  bnd (stS (storeV 1 v24 v21 h24)) fun v25 h25 =>
  vK [(v0, 33, 107, 2), (v20, 33, 107, 2)] h25 fun hv26 =>
  thenK (loopN (mach_Run.l7 G k hv26.length self) k [x0, x2, v0, .nili, v20] hv26) fun e26 x26 h26 => exK e26
  (finL [loadV G true 35 (nth x26 2) h26, some (nth x26 3)] h.length h26)
  (fun i26 => if i26 = 1 then (finL [loadV G true 35 (nth x26 2) h26, some (nth x26 3)] h.length h26) else (none))
  (finL [loadV G true 35 (nth x26 2) h26, some (nth x26 3)] h.length h26))))
noncomputable def mach_Run.f (G : Globs) : Nat → Den
  | 0 => fun _ _ => none
  | k + 1 => fun args h => arg3 args fun x0 x1 x2 => (mach_Run.c G k (mach_Run.f G k) x0 x1 x2 h)
/-! alembic/alembiclaw23.first: function 27 -/
noncomputable def alembiclaw23_first.ann : Ann := mkAnn [] [] [] []
noncomputable def alembiclaw23_first.env (G : Globs) (k : Nat) (self : Den) : List (Nat × Bool × Den) := [(28, true, mach_Run.f G k), (33, true, mach_Holds.f G k)]
noncomputable def alembiclaw23_first.c (G : Globs) (k : Nat) (self : Den) (h : AHeap) : Option (AV × AHeap) := outV (
  bnd (pureCall (mach_Run.f G k) [.nils, .nils, (.int .i64 5)] h) fun v0 h0 =>
  bnd (pu h0 (extractA v0 0)) fun v1 h1 =>
  bnd (pu h1 (extractA v0 1)) fun v2 h2 =>
  bnd (boxA 65 (.agg [(.int .i64 0), .nils, (.int .u64 0), (.int .u64 0), (.int .u64 0), (.int .u64 0), (.int .u64 0), (.int .u64 0), (.int .u64 0), (.int .u64 0), (.int .u64 0), (.int .u64 0), (.int .u64 0), (.int .u64 0), (.int .u64 0), (.int .u64 0), (.int .u64 0), (.int .u64 0), (.int .u64 0), (.int .u64 0), (.int .u64 0), (.int .u64 0), (.int .u64 0), (.int .u64 0), (.int .u64 0), (.int .u64 0), (.int .u64 0), (.int .u64 0), (.int .u64 0), (.int .u64 0), (.int .u64 0), (.int .u64 0), (.int .u64 0), .nils, (.int .i64 0)]) h2) fun v3 h3 =>
  bnd (stS (storeV 35 v3 v1 h3)) fun v4 h4 =>
  bnd (pu h4 (bin Tryd.prog .eql 30 true v2 .nili)) fun v5 h5 =>
  bnd (gd v5 true h5 (pu h5 (fieldAddrV 0 v3))) fun v6 h6 =>
  bnd (gd v5 true h6 (pu h6 (loadV G false 1 v6 h6))) fun v7 h7 =>
  bnd (gd v5 true h7 (pu h7 (bin Tryd.prog .eql 3 true v7 (.int .i64 3)))) fun v8 h8 =>
  bnd (pu h8 (pickA v5 v8 (.bool false))) fun v9 h9 =>
  bnd (gd v9 true h9 (pu h9 (fieldAddrV 34 v3))) fun v10 h10 =>
  bnd (gd v9 true h10 (pu h10 (loadV G false 1 v10 h10))) fun v11 h11 =>
  bnd (gd v9 true h11 (pu h11 (bin Tryd.prog .eql 2 true v11 (.int .i64 0)))) fun v12 h12 =>
  bnd (pu h12 (pickA v9 v12 (.bool false))) fun v13 h13 =>
  bnd (gd v13 true h13 (pu h13 (buildArr 1 [(.bool false), (.bool false), (.bool false), (.bool false)] [(0, (.bool false)), (1, (.bool true)), (2, (.bool false)), (3, (.bool false))]))) fun v14 h14 =>
  bnd (gd v13 true h14 (pureCall (mach_Holds.f G k) [(.int .i64 0), v14] h14)) fun v15 h15 =>
  bnd (pu h15 (pickA v13 v15 (.bool false))) fun v16 h16 =>
  finV [v16] h.length h16)
noncomputable def alembiclaw23_first.f (G : Globs) : Nat → Den
  | 0 => fun _ _ => none
  | k + 1 => fun args h => arg0 args (alembiclaw23_first.c G k (alembiclaw23_first.f G k) h)
/-! alembic/alembiclaw23.regs: function 30 -/
noncomputable def alembiclaw23_regs.ann : Ann := mkAnn [] [] [(2, [2, 3, 4, 5])] []
noncomputable def alembiclaw23_regs.env (G : Globs) (k : Nat) (self : Den) : List (Nat × Bool × Den) := []
noncomputable def alembiclaw23_regs.l2 (G : Globs) (k n0 : Nat) (self : Den) (lp : LoopF) : LoopF := fun xs h0 => cutK n0 xs h0 fun h =>
  bnd (pu h (bin Tryd.prog .lss 3 true (nth xs 3) (.int .i64 31))) fun v3 h3 =>
  condA v3
  (bnd (pu h3 (idxAddrArr 31 1 (nth xs 0) (nth xs 3))) fun v4 h4 =>
  bnd (pu h4 (loadV G false 1 v4 h4)) fun v5 h5 =>
  bnd (pu h5 (idxAddrArr 31 1 (nth xs 1) (nth xs 3))) fun v6 h6 =>
  bnd (pu h6 (loadV G false 1 v6 h6)) fun v7 h7 =>
  bnd (pu h7 (bin Tryd.prog .neq 43 false v5 v7)) fun v8 h8 =>
  condA v8
  (some (.ret, [(nth xs 0), (nth xs 1), (.bool false), (nth xs 3)], h8))
  (bnd (pu h8 (bin Tryd.prog .add 3 true (nth xs 3) (.int .i64 1))) fun v9 h9 =>
  lp [(nth xs 0), (nth xs 1), (nth xs 2), v9] h9))
  (some (.exit 0, [(nth xs 0), (nth xs 1), (nth xs 2), (nth xs 3)], h3))
noncomputable def alembiclaw23_regs.c (G : Globs) (k : Nat) (self : Den) (x0 x1 : AV) (h : AHeap) : Option (AV × AHeap) := outV (
  bnd (boxRoA x0 h) fun v0 h0 =>
  bnd (boxRoA x1 h0) fun v1 h1 =>
  thenK (loopN (alembiclaw23_regs.l2 G k h1.length self) k [v0, v1, (.bool false), (.int .i64 0)] h1) fun e2 x2 h2 => exK e2
  (finV [(.bool true)] h.length h2)
  (fun i2 => if i2 = 0 then (finV [(.bool true)] h.length h2) else (none))
  (finV [(nth x2 2)] h.length h2))
noncomputable def alembiclaw23_regs.f (G : Globs) : Nat → Den
  | 0 => fun _ _ => none
  | k + 1 => fun args h => arg2 args fun x0 x1 => (alembiclaw23_regs.c G k (alembiclaw23_regs.f G k) x0 x1 h)
/-! alembic/alembicworld.Number: function 26 -/
noncomputable def alembicworld_Number.ann : Ann := mkAnn [] [] [] []
noncomputable def alembicworld_Number.env (G : Globs) (k : Nat) (self : Den) : List (Nat × Bool × Den) := []
noncomputable def alembicworld_Number.c (G : Globs) (k : Nat) (self : Den) (x0 x1 : AV) (h : AHeap) : Option (AV × AHeap) := outV (
  bnd (pu h (bin Tryd.prog .rem 3 false x0 x1)) fun v0 h0 =>
  bnd (pu h0 (bin Tryd.prog .lss 3 true v0 (.int .i64 0))) fun v1 h1 =>
  condA v1
  (bnd (pu h1 (bin Tryd.prog .add 3 false v0 x1)) fun v2 h2 =>
  finV [v2] h.length h2)
  (finV [v0] h.length h1))
noncomputable def alembicworld_Number.f (G : Globs) : Nat → Den
  | 0 => fun _ _ => none
  | k + 1 => fun args h => arg2 args fun x0 x1 => (alembicworld_Number.c G k (alembicworld_Number.f G k) x0 x1 h)
end Go.Proofs.YtdfglgnflldkpaaDoor.Mir
namespace Go.Proofs.YtdfglgnflldkpaaDoor.Mir
open Go
set_option linter.unusedVariables false
/-! alembic/alembicref.Words: function 46 -/
noncomputable def alembicref_Words.ann : Ann := mkAnn [] [2] [(3, [0, 3, 4])] []
noncomputable def alembicref_Words.env (G : Globs) (k : Nat) (self : Den) : List (Nat × Bool × Den) := []
noncomputable def alembicref_Words.l3 (G : Globs) (k n0 : Nat) (self : Den) (lp : LoopF) : LoopF := fun xs h0 => cutK n0 xs h0 fun h =>
  bnd (pu h (lenSl (nth xs 0))) fun v4 h4 =>
  bnd (pu h4 (bin Tryd.prog .lss 3 false (nth xs 2) v4)) fun v5 h5 =>
  condA v5
  (bnd (pu h5 (idxAddrSl 1 (nth xs 0) (nth xs 2))) fun v6 h6 =>
  bnd (pu h6 (loadV G false 1 v6 h6)) fun v7 h7 =>
  bnd (buildRo 1 1 (.int .u64 0) [(0, v7)] h7) fun v8 h8 =>
  bnd (appendV 43 1 (nth xs 1) v8 h8) fun v9 h9 =>
  bnd (pu h9 (bin Tryd.prog .add 3 true (nth xs 2) (.int .i64 1))) fun v10 h10 =>
  lp [(nth xs 0), v9, v10] h10)
  (some (.exit 0, [(nth xs 0), (nth xs 1), (nth xs 2)], h5))
noncomputable def alembicref_Words.c (G : Globs) (k : Nat) (self : Den) (x0 : AV) (h : AHeap) : Option (AV × AHeap) := outV (
  bnd (some (.sl h.length 0 0 0 1, h ++ [⟨43, 1, []⟩])) fun v0 h0 =>
  bnd (pu h0 (lenSl x0)) fun v1 h1 =>
  bnd (makeSliceV 43 1 (.int .u64 0) (.int .i64 0) v1 h1) fun v2 h2 =>
  thenK (loopN (alembicref_Words.l3 G k h2.length self) k [x0, v2, (.int .i64 0)] h2) fun e3 x3 h3 => exK e3
  (finO [(nth x3 1)] h3)
  (fun i3 => if i3 = 0 then (finO [(nth x3 1)] h3) else (none))
  (finO [.undef] h3))
noncomputable def alembicref_Words.f (G : Globs) : Nat → Den
  | 0 => fun _ _ => none
  | k + 1 => fun args h => arg1 args fun x0 => (alembicref_Words.c G k (alembicref_Words.f G k) x0 h)
theorem alembicref_Words.step (G : Globs) (k : Nat) (x0 : AV) (h : AHeap) : alembicref_Words.f G (k + 1) [x0] h = alembicref_Words.c G k (alembicref_Words.f G k) x0 h := rfl
/-! alembic/alembicref17.one: function 47 -/
noncomputable def alembicref17_one.ann : Ann := mkAnn [] [] [] []
noncomputable def alembicref17_one.env (G : Globs) (k : Nat) (self : Den) : List (Nat × Bool × Den) := []
noncomputable def alembicref17_one.c (G : Globs) (k : Nat) (self : Den) (x0 : AV) (h : AHeap) : Option (AV × AHeap) := outV (
  condA x0
  (finV [(.int .i64 1)] h.length h)
  (finV [(.int .i64 0)] h.length h))
noncomputable def alembicref17_one.f (G : Globs) : Nat → Den
  | 0 => fun _ _ => none
  | k + 1 => fun args h => arg1 args fun x0 => (alembicref17_one.c G k (alembicref17_one.f G k) x0 h)
theorem alembicref17_one.step (G : Globs) (k : Nat) (x0 : AV) (h : AHeap) : alembicref17_one.f G (k + 1) [x0] h = alembicref17_one.c G k (alembicref17_one.f G k) x0 h := rfl
/-! alembic/alembicref17.RunMach: function 22 -/
noncomputable def alembicref17_RunMach.ann : Ann := mkAnnV [] [] [(4, [0, 2, 6, 7, 8, 9])] [(36, [0, 2, 6, 7, 8, 9, 10, 12, 14]), (33, [0, 2, 6, 7, 8, 9, 10, 12, 61, 139]), (21, [0, 2, 6, 7, 8, 9, 10, 12, 61, 74])] [(4, [(6, 33, 107, 2), (7, 33, 107, 2)])] []
noncomputable def alembicref17_RunMach.env (G : Globs) (k : Nat) (self : Den) : List (Nat × Bool × Den) := [(25, true, alembicref17_One.f G k), (34, true, alembicref17_Holds.f G k), (46, false, alembicref_Words.f G k), (47, true, alembicref17_one.f G k), (51, true, alembicref17_Of.f G k), (52, true, alembicref17_get.f G k), (53, true, alembicref17_set.f G k)]
noncomputable def alembicref17_RunMach.l4 (G : Globs) (k n0 : Nat) (self : Den) (lp : LoopF) : LoopF := fun xs h0 => cutK n0 xs h0 fun h =>
  bnd (pu h (bin Tryd.prog .lss 3 true (nth xs 5) (.int .i64 0))) fun v7 h7 =>
  bnd (gd v7 false h7 (some ((nth xs 5), h7))) fun v8 h8 =>
  bnd (gd v7 false h8 (some ((nth xs 0), h8))) fun v9 h9 =>
  bnd (gd v7 false h9 (pu h9 (lenSl v9))) fun v10 h10 =>
  bnd (gd v7 false h10 (pu h10 (bin Tryd.prog .geq 3 false v8 v10))) fun v11 h11 =>
  bnd (pu h11 (pickA v7 (.bool true) v11)) fun v12 h12 =>
  condA v12
  (bnd (pu h12 (loadV G true 35 (nth xs 3) h12)) fun v13 h13 =>
  bnd (stS (storeV 35 (nth xs 2) v13 h13)) fun v14 h14 =>
  some (.ret, [(nth xs 0), (nth xs 1), (nth xs 2), (nth xs 3), (nth xs 4), (nth xs 5)], h14))
  (bnd (pu h12 (fieldAddrV 34 (nth xs 3))) fun v15 h15 =>
  bnd (pu h15 (loadV G false 1 v15 h15)) fun v16 h16 =>
  bnd (pu h16 (bin Tryd.prog .geq 2 false v16 (nth xs 1))) fun v17 h17 =>
  condA v17
  (bnd (pu h17 (fieldAddrV 0 (nth xs 3))) fun v18 h18 =>
  bnd (stS (storeV 1 v18 (.int .i64 4) h18)) fun v19 h19 =>
  bnd (pu h19 (loadV G true 35 (nth xs 3) h19)) fun v20 h20 =>
  bnd (stS (storeV 35 (nth xs 2) v20 h20)) fun v21 h21 =>
  some (.ret, [(nth xs 0), (nth xs 1), (nth xs 2), (nth xs 3), (nth xs 4), (nth xs 5)], h21))
  (bnd (pu h17 (fieldAddrV 34 (nth xs 3))) fun v22 h22 =>
  bnd (pu h22 (loadV G false 1 v22 h22)) fun v23 h23 =>
  bnd (pu h23 (bin Tryd.prog .add 2 true v23 (.int .i64 1))) fun v24 h24 =>
  bnd (pu h24 (fieldAddrV 34 (nth xs 3))) fun v25 h25 =>
  bnd (stS (storeV 1 v25 v24 h25)) fun v26 h26 =>
  bnd (pu h26 (fieldAddrV 33 (nth xs 3))) fun v27 h27 =>
  bnd (pu h27 (loadV G false 1 v27 h27)) fun v28 h28 =>
  bnd (pu h28 (buildSt [(0, 1), (1, 1)] [(.int .i64 0), (.int .i64 0)] [(0, (.int .i64 1)), (1, (nth xs 5))])) fun v29 h29 =>
  bnd (buildRo 2 1 (.agg [(.int .i64 0), (.int .i64 0)]) [(0, v29)] h29) fun v30 h30 =>
  bnd (appendV 107 2 v28 v30 h30) fun v31 h31 =>
  bnd (pu h31 (fieldAddrV 33 (nth xs 3))) fun v32 h32 =>
  bnd (stS (storeV 1 v32 v31 h32)) fun v33 h33 =>
  bnd (pu h33 (idxAddrSl 1 (nth xs 0) (nth xs 5))) fun v34 h34 =>
  bnd (pu h34 (loadV G false 1 v34 h34)) fun v35 h35 =>
  bnd (pureCall (alembicref17_Of.f G k) [v35] h35) fun v36 h36 =>
  bnd (pu h36 (extractA v36 0)) fun v37 h37 =>
  bnd (pu h37 (extractA v36 1)) fun v38 h38 =>
  bnd (boxA 57 (.agg [(.int .i64 0), (.int .i64 0), (.int .i64 0), (.int .i64 0), (.int .i64 0), (.int .i64 0)]) h38) fun v39 h39 =>
  bnd (stS (storeV 6 v39 v37 h39)) fun v40 h40 =>
  bnd (pu h40 (un .not v38)) fun v41 h41 =>
  condA v41
  (bnd (pu h41 (loadV G true 35 (nth xs 3) h41)) fun v42 h42 =>
  bnd (stS (storeV 35 (nth xs 2) v42 h42)) fun v43 h43 =>
  some (.ret, [(nth xs 0), (nth xs 1), (nth xs 2), (nth xs 3), (nth xs 4), (nth xs 5)], h43))
  (bnd (pu h41 (bin Tryd.prog .add 3 true (nth xs 5) (.int .i64 1))) fun v44 h44 =>
  bnd (pu h44 (fieldAddrV 0 v39)) fun v45 h45 =>
  bnd (pu h45 (loadV G false 1 v45 h45)) fun v46 h46 =>
  thenK (
  bnd (pu h46 (bin Tryd.prog .eql 3 true v46 (.int .i64 18))) fun v47 h47 =>
  condA v47
  (some (.normal, [(nth xs 0), (nth xs 1), (nth xs 2), (nth xs 3), (nth xs 4), (nth xs 5), v39, v44, v46, v47], h47))
  (bnd (pu h47 (bin Tryd.prog .eql 3 true v46 (.int .i64 19))) fun v48 h48 =>
  some (.normal, [(nth xs 0), (nth xs 1), (nth xs 2), (nth xs 3), (nth xs 4), (nth xs 5), v39, v44, v46, v48], h48))) fun e49 x49 h49 => exK e49
  (condA (nth x49 9)
  (bnd (pu h49 (fieldAddrV 2 (nth x49 3))) fun v50 h50 =>
  bnd (pu h50 (loadV G true 31 v50 h50)) fun v51 h51 =>
  bnd (pu h51 (fieldAddrV 2 (nth x49 6))) fun v52 h52 =>
  bnd (pu h52 (loadV G false 1 v52 h52)) fun v53 h53 =>
  bnd (pureCall (alembicref17_get.f G k) [v51, v53] h53) fun v54 h54 =>
  bnd (pu h54 (fieldAddrV 5 (nth x49 6))) fun v55 h55 =>
  bnd (pu h55 (loadV G false 1 v55 h55)) fun v56 h56 =>
  bnd (pu h56 (convInt .u64 v56)) fun v57 h57 =>
  bnd (pu h57 (bin Tryd.prog .mul 43 true (.int .u64 8) v57)) fun v58 h58 =>
  bnd (pu h58 (bin Tryd.prog .add 43 false v54 v58)) fun v59 h59 =>
  bnd (pu h59 (fieldAddrV 33 (nth x49 3))) fun v60 h60 =>
  bnd (pu h60 (loadV G false 1 v60 h60)) fun v61 h61 =>
  bnd (pu h61 (convInt .i64 v59)) fun v62 h62 =>
  bnd (pu h62 (buildSt [(0, 1), (1, 1)] [(.int .i64 0), (.int .i64 0)] [(0, (.int .i64 3)), (1, v62)])) fun v63 h63 =>
  bnd (buildRo 2 1 (.agg [(.int .i64 0), (.int .i64 0)]) [(0, v63)] h63) fun v64 h64 =>
  bnd (appendV 107 2 v61 v64 h64) fun v65 h65 =>
  bnd (pu h65 (fieldAddrV 33 (nth x49 3))) fun v66 h66 =>
  bnd (stS (storeV 1 v66 v65 h66)) fun v67 h67 =>
  bnd (pu h67 (bin Tryd.prog .rem 43 true v59 (.int .u64 8))) fun v68 h68 =>
  bnd (pu h68 (bin Tryd.prog .neq 43 true v68 (.int .u64 0))) fun v69 h69 =>
  bnd (gd v69 false h69 (some (v59, h69))) fun v70 h70 =>
  bnd (gd v69 false h70 (pu h70 (bin Tryd.prog .quo 43 true v70 (.int .u64 8)))) fun v71 h71 =>
  bnd (gd v69 false h71 (pu h71 (fieldAddrV 1 (nth x49 3)))) fun v72 h72 =>
  bnd (gd v69 false h72 (pu h72 (loadV G false 1 v72 h72))) fun v73 h73 =>
  bnd (gd v69 false h73 (pu h73 (lenSl v73))) fun v74 h74 =>
  bnd (gd v69 false h74 (pu h74 (convInt .u64 v74))) fun v75 h75 =>
  bnd (gd v69 false h75 (pu h75 (bin Tryd.prog .geq 43 false v71 v75))) fun v76 h76 =>
  bnd (pu h76 (pickA v69 (.bool true) v76)) fun v77 h77 =>
  condA v77
  (bnd (pu h77 (loadV G true 35 (nth x49 3) h77)) fun v78 h78 =>
  bnd (stS (storeV 35 (nth x49 2) v78 h78)) fun v79 h79 =>
  some (.ret, [(nth x49 0), (nth x49 1), (nth x49 2), (nth x49 3), (nth x49 4), (nth x49 5)], h79))
  (bnd (pu h77 (fieldAddrV 0 (nth x49 6))) fun v80 h80 =>
  bnd (pu h80 (loadV G false 1 v80 h80)) fun v81 h81 =>
  bnd (pu h81 (bin Tryd.prog .eql 3 true v81 (.int .i64 18))) fun v82 h82 =>
  condA v82
  (bnd (pu h82 (fieldAddrV 2 (nth x49 3))) fun v83 h83 =>
  bnd (pu h83 (loadV G true 31 v83 h83)) fun v84 h84 =>
  bnd (pu h84 (fieldAddrV 1 (nth x49 6))) fun v85 h85 =>
  bnd (pu h85 (loadV G false 1 v85 h85)) fun v86 h86 =>
  bnd (pu h86 (fieldAddrV 1 (nth x49 3))) fun v87 h87 =>
  bnd (pu h87 (loadV G false 1 v87 h87)) fun v88 h88 =>
  bnd (pu h88 (bin Tryd.prog .quo 43 true v59 (.int .u64 8))) fun v89 h89 =>
  bnd (pu h89 (idxAddrSl 1 v88 v89)) fun v90 h90 =>
  bnd (pu h90 (loadV G false 1 v90 h90)) fun v91 h91 =>
  bnd (pureCall (alembicref17_set.f G k) [v84, v86, v91] h91) fun v92 h92 =>
  bnd (pu h92 (fieldAddrV 2 (nth x49 3))) fun v93 h93 =>
  bnd (stS (storeV 31 v93 v92 h93)) fun v94 h94 =>
  lp [(nth x49 0), (nth x49 1), (nth x49 2), (nth x49 3), (nth x49 4), (nth x49 7)] h94)
  (bnd (pu h82 (fieldAddrV 1 (nth x49 3))) fun v95 h95 =>
  bnd (pu h95 (loadV G false 1 v95 h95)) fun v96 h96 =>
  bnd (pu h96 (bin Tryd.prog .quo 43 true v59 (.int .u64 8))) fun v97 h97 =>
  bnd (pu h97 (fieldAddrV 2 (nth x49 3))) fun v98 h98 =>
  bnd (pu h98 (loadV G true 31 v98 h98)) fun v99 h99 =>
  bnd (pu h99 (fieldAddrV 1 (nth x49 6))) fun v100 h100 =>
  bnd (pu h100 (loadV G false 1 v100 h100)) fun v101 h101 =>
  bnd (pureCall (alembicref17_get.f G k) [v99, v101] h101) fun v102 h102 =>
  bnd (pu h102 (idxAddrSl 1 v96 v97)) fun v103 h103 =>
  bnd (stS (storeV 1 v103 v102 h103)) fun v104 h104 =>
  lp [(nth x49 0), (nth x49 1), (nth x49 2), (nth x49 3), (nth x49 4), (nth x49 7)] h104)))
  (bnd (pu h49 (bin Tryd.prog .eql 3 true (nth x49 8) (.int .i64 20))) fun v105 h105 =>
  condA v105
  (bnd (pu h105 (fieldAddrV 5 (nth x49 6))) fun v106 h106 =>
  bnd (pu h106 (loadV G false 1 v106 h106)) fun v107 h107 =>
  bnd (pu h107 (bin Tryd.prog .add 3 false (nth x49 5) v107)) fun v108 h108 =>
  lp [(nth x49 0), (nth x49 1), (nth x49 2), (nth x49 3), (nth x49 4), v108] h108)
  (thenK (
  bnd (pu h105 (bin Tryd.prog .eql 3 true (nth x49 8) (.int .i64 21))) fun v109 h109 =>
  condA v109
  (some (.normal, [(nth x49 0), (nth x49 1), (nth x49 2), (nth x49 3), (nth x49 4), (nth x49 5), (nth x49 6), (nth x49 7), (nth x49 8), v109], h109))
  (bnd (pu h109 (bin Tryd.prog .eql 3 true (nth x49 8) (.int .i64 22))) fun v110 h110 =>
  condA v110
  (some (.normal, [(nth x49 0), (nth x49 1), (nth x49 2), (nth x49 3), (nth x49 4), (nth x49 5), (nth x49 6), (nth x49 7), (nth x49 8), v110], h110))
  (bnd (pu h110 (bin Tryd.prog .eql 3 true (nth x49 8) (.int .i64 23))) fun v111 h111 =>
  some (.normal, [(nth x49 0), (nth x49 1), (nth x49 2), (nth x49 3), (nth x49 4), (nth x49 5), (nth x49 6), (nth x49 7), (nth x49 8), v111], h111)))) fun e112 x112 h112 => exK e112
  (condA (nth x112 9)
  (bnd (pu h112 (fieldAddrV 4 (nth x112 6))) fun v113 h113 =>
  bnd (pu h113 (loadV G false 1 v113 h113)) fun v114 h114 =>
  bnd (pu h114 (loadV G true 4 (nth x112 4) h114)) fun v115 h115 =>
  bnd (pureCall (alembicref17_Holds.f G k) [v114, v115] h115) fun v116 h116 =>
  thenK (
  bnd (pu h116 (fieldAddrV 0 (nth x112 6))) fun v117 h117 =>
  bnd (pu h117 (loadV G false 1 v117 h117)) fun v118 h118 =>
  bnd (pu h118 (bin Tryd.prog .neq 3 true v118 (.int .i64 21))) fun v119 h119 =>
  condA v119
  (bnd (pu h119 (fieldAddrV 2 (nth x112 3))) fun v120 h120 =>
  bnd (pu h120 (loadV G true 31 v120 h120)) fun v121 h121 =>
  bnd (pu h121 (fieldAddrV 1 (nth x112 6))) fun v122 h122 =>
  bnd (pu h122 (loadV G false 1 v122 h122)) fun v123 h123 =>
  bnd (pureCall (alembicref17_get.f G k) [v121, v123] h123) fun v124 h124 =>
  bnd (pu h124 (bin Tryd.prog .eql 43 true v124 (.int .u64 0))) fun v125 h125 =>
  bnd (pu h125 (fieldAddrV 0 (nth x112 6))) fun v126 h126 =>
  bnd (pu h126 (loadV G false 1 v126 h126)) fun v127 h127 =>
  bnd (pu h127 (bin Tryd.prog .eql 3 true v127 (.int .i64 22))) fun v128 h128 =>
  bnd (pu h128 (bin Tryd.prog .eql 4 false v125 v128)) fun v129 h129 =>
  some (.normal, [(nth x112 0), (nth x112 1), (nth x112 2), (nth x112 3), (nth x112 4), (nth x112 5), (nth x112 6), (nth x112 7), v129], h129))
  (some (.normal, [(nth x112 0), (nth x112 1), (nth x112 2), (nth x112 3), (nth x112 4), (nth x112 5), (nth x112 6), (nth x112 7), v116], h119))) fun e130 x130 h130 => exK e130
  (bnd (pu h130 (fieldAddrV 33 (nth x130 3))) fun v131 h131 =>
  bnd (pu h131 (loadV G false 1 v131 h131)) fun v132 h132 =>
  bnd (pureCall (alembicref17_one.f G k) [(nth x130 8)] h132) fun v133 h133 =>
  bnd (pu h133 (buildSt [(0, 1), (1, 1)] [(.int .i64 0), (.int .i64 0)] [(0, (.int .i64 2)), (1, v133)])) fun v134 h134 =>
  bnd (buildRo 2 1 (.agg [(.int .i64 0), (.int .i64 0)]) [(0, v134)] h134) fun v135 h135 =>
  bnd (appendV 107 2 v132 v135 h135) fun v136 h136 =>
  bnd (pu h136 (fieldAddrV 33 (nth x130 3))) fun v137 h137 =>
  bnd (stS (storeV 1 v137 v136 h137)) fun v138 h138 =>
  condA (nth x130 8)
  (bnd (pu h138 (fieldAddrV 5 (nth x130 6))) fun v139 h139 =>
  bnd (pu h139 (loadV G false 1 v139 h139)) fun v140 h140 =>
  bnd (pu h140 (bin Tryd.prog .add 3 false (nth x130 5) v140)) fun v141 h141 =>
  lp [(nth x130 0), (nth x130 1), (nth x130 2), (nth x130 3), (nth x130 4), v141] h141)
  (lp [(nth x130 0), (nth x130 1), (nth x130 2), (nth x130 3), (nth x130 4), (nth x130 7)] h138))
  (fun i130 => if i130 = 2 then (lp [(nth x130 0), (nth x130 1), (nth x130 2), (nth x130 3), (nth x130 4), (nth x130 7)] h130) else (if i130 = 1 then (lp [(nth x130 0), (nth x130 1), (nth x130 2), (nth x130 3), (nth x130 4), (nth x130 5)] h130) else (some (.exit i130, [(nth x130 0), (nth x130 1), (nth x130 2), (nth x130 3), (nth x130 4), (nth x130 5)], h130))))
  (some (.ret, [(nth x130 0), (nth x130 1), (nth x130 2), (nth x130 3), (nth x130 4), (nth x130 5)], h130)))
  (bnd (pu h112 (bin Tryd.prog .eql 3 true (nth x112 8) (.int .i64 24))) fun v142 h142 =>
  condA v142
  (bnd (pu h142 (fieldAddrV 5 (nth x112 6))) fun v143 h143 =>
  bnd (pu h143 (loadV G false 1 v143 h143)) fun v144 h144 =>
  bnd (pu h144 (bin Tryd.prog .leq 3 true v144 (.int .i64 2))) fun v145 h145 =>
  condA v145
  (bnd (pu h145 (fieldAddrV 5 (nth x112 6))) fun v146 h146 =>
  bnd (pu h146 (loadV G false 1 v146 h146)) fun v147 h147 =>
  bnd (pu h147 (fieldAddrV 0 (nth x112 3))) fun v148 h148 =>
  bnd (stS (storeV 1 v148 v147 h148)) fun v149 h149 =>
  bnd (pu h149 (loadV G true 35 (nth x112 3) h149)) fun v150 h150 =>
  bnd (stS (storeV 35 (nth x112 2) v150 h150)) fun v151 h151 =>
  some (.ret, [(nth x112 0), (nth x112 1), (nth x112 2), (nth x112 3), (nth x112 4), (nth x112 5)], h151))
  (bnd (pu h145 (loadV G true 35 (nth x112 3) h145)) fun v152 h152 =>
  bnd (stS (storeV 35 (nth x112 2) v152 h152)) fun v153 h153 =>
  some (.ret, [(nth x112 0), (nth x112 1), (nth x112 2), (nth x112 3), (nth x112 4), (nth x112 5)], h153)))
  (bnd (pu h142 (loadV G true 6 (nth x112 6) h142)) fun v154 h154 =>
  bnd (pu h154 (fieldAddrV 2 (nth x112 3))) fun v155 h155 =>
  bnd (pu h155 (loadV G true 31 v155 h155)) fun v156 h156 =>
  bnd (pu h156 (loadV G true 4 (nth x112 4) h156)) fun v157 h157 =>
  bnd (pureCall (alembicref17_One.f G k) [v154, v156, v157] h157) fun v158 h158 =>
  bnd (pu h158 (extractA v158 0)) fun v159 h159 =>
  bnd (pu h159 (extractA v158 1)) fun v160 h160 =>
  bnd (pu h160 (extractA v158 2)) fun v161 h161 =>
  bnd (boxA 44 (.agg [(.int .u64 0), (.int .u64 0), (.int .u64 0), (.int .u64 0), (.int .u64 0), (.int .u64 0), (.int .u64 0), (.int .u64 0), (.int .u64 0), (.int .u64 0), (.int .u64 0), (.int .u64 0), (.int .u64 0), (.int .u64 0), (.int .u64 0), (.int .u64 0), (.int .u64 0), (.int .u64 0), (.int .u64 0), (.int .u64 0), (.int .u64 0), (.int .u64 0), (.int .u64 0), (.int .u64 0), (.int .u64 0), (.int .u64 0), (.int .u64 0), (.int .u64 0), (.int .u64 0), (.int .u64 0), (.int .u64 0)]) h161) fun v162 h162 =>
  bnd (boxA 53 (.agg [(.bool false), (.bool false), (.bool false), (.bool false)]) h162) fun v163 h163 =>
  bnd (stS (storeV 31 v162 v159 h163)) fun v164 h164 =>
  bnd (stS (storeV 4 v163 v160 h164)) fun v165 h165 =>
  bnd (pu h165 (loadV G true 31 v162 h165)) fun v166 h166 =>
  bnd (pu h166 (fieldAddrV 2 (nth x112 3))) fun v167 h167 =>
  bnd (stS (storeV 31 v167 v166 h167)) fun v168 h168 =>
  bnd (pu h168 (loadV G true 4 v163 h168)) fun v169 h169 =>
  bnd (stS (storeV 4 (nth x112 4) v169 h169)) fun v170 h170 =>
  lp [(nth x112 0), (nth x112 1), (nth x112 2), (nth x112 3), (nth x112 4), (nth x112 7)] h170)))
  (fun i112 => if i112 = 2 then (lp [(nth x112 0), (nth x112 1), (nth x112 2), (nth x112 3), (nth x112 4), (nth x112 7)] h112) else (if i112 = 1 then (lp [(nth x112 0), (nth x112 1), (nth x112 2), (nth x112 3), (nth x112 4), (nth x112 5)] h112) else (some (.exit i112, [(nth x112 0), (nth x112 1), (nth x112 2), (nth x112 3), (nth x112 4), (nth x112 5)], h112))))
  (some (.ret, [(nth x112 0), (nth x112 1), (nth x112 2), (nth x112 3), (nth x112 4), (nth x112 5)], h112)))))
  (fun i49 => if i49 = 2 then (lp [(nth x49 0), (nth x49 1), (nth x49 2), (nth x49 3), (nth x49 4), (nth x49 7)] h49) else (if i49 = 1 then (lp [(nth x49 0), (nth x49 1), (nth x49 2), (nth x49 3), (nth x49 4), (nth x49 5)] h49) else (some (.exit i49, [(nth x49 0), (nth x49 1), (nth x49 2), (nth x49 3), (nth x49 4), (nth x49 5)], h49))))
  (some (.ret, [(nth x49 0), (nth x49 1), (nth x49 2), (nth x49 3), (nth x49 4), (nth x49 5)], h49)))))
noncomputable def alembicref17_RunMach.c (G : Globs) (k : Nat) (self : Den) (x0 x1 x2 : AV) (h : AHeap) : Option (AV × AHeap) := outV (
  bnd (boxA 46 (.agg [(.int .i64 0), .nils, (.int .u64 0), (.int .u64 0), (.int .u64 0), (.int .u64 0), (.int .u64 0), (.int .u64 0), (.int .u64 0), (.int .u64 0), (.int .u64 0), (.int .u64 0), (.int .u64 0), (.int .u64 0), (.int .u64 0), (.int .u64 0), (.int .u64 0), (.int .u64 0), (.int .u64 0), (.int .u64 0), (.int .u64 0), (.int .u64 0), (.int .u64 0), (.int .u64 0), (.int .u64 0), (.int .u64 0), (.int .u64 0), (.int .u64 0), (.int .u64 0), (.int .u64 0), (.int .u64 0), (.int .u64 0), (.int .u64 0), .nils, (.int .i64 0)]) h) fun v0 h0 =>
  bnd (heapCall (alembicref_Words.f G k) [x1] h0) fun v1 h1 =>
  bnd (pu h1 (buildSt [(0, 1), (1, 1), (2, 31), (33, 1), (34, 1)] [(.int .i64 0), .nils, (.int .u64 0), (.int .u64 0), (.int .u64 0), (.int .u64 0), (.int .u64 0), (.int .u64 0), (.int .u64 0), (.int .u64 0), (.int .u64 0), (.int .u64 0), (.int .u64 0), (.int .u64 0), (.int .u64 0), (.int .u64 0), (.int .u64 0), (.int .u64 0), (.int .u64 0), (.int .u64 0), (.int .u64 0), (.int .u64 0), (.int .u64 0), (.int .u64 0), (.int .u64 0), (.int .u64 0), (.int .u64 0), (.int .u64 0), (.int .u64 0), (.int .u64 0), (.int .u64 0), (.int .u64 0), (.int .u64 0), .nils, (.int .i64 0)] [(1, v1), (0, (.int .i64 3))])) fun v2 h2 =>
  bnd (boxA 46 (.agg [(.int .i64 0), .nils, (.int .u64 0), (.int .u64 0), (.int .u64 0), (.int .u64 0), (.int .u64 0), (.int .u64 0), (.int .u64 0), (.int .u64 0), (.int .u64 0), (.int .u64 0), (.int .u64 0), (.int .u64 0), (.int .u64 0), (.int .u64 0), (.int .u64 0), (.int .u64 0), (.int .u64 0), (.int .u64 0), (.int .u64 0), (.int .u64 0), (.int .u64 0), (.int .u64 0), (.int .u64 0), (.int .u64 0), (.int .u64 0), (.int .u64 0), (.int .u64 0), (.int .u64 0), (.int .u64 0), (.int .u64 0), (.int .u64 0), .nils, (.int .i64 0)]) h2) fun v3 h3 =>
  bnd (stS (storeV 35 v3 v2 h3)) fun v4 h4 =>
  bnd (boxA 53 (.agg [(.bool false), (.bool false), (.bool false), (.bool false)]) h4) fun v5 h5 =>
  vK [(v0, 33, 107, 2), (v3, 33, 107, 2)] h5 fun hv6 =>
  thenK (loopN (alembicref17_RunMach.l4 G k hv6.length self) k [x0, x2, v0, v3, v5, (.int .i64 0)] hv6) fun e6 x6 h6 => exK e6
  (finL [loadV G true 35 (nth x6 2) h6] h.length h6)
  (fun i6 => if i6 = 0 then (finL [loadV G true 35 (nth x6 2) h6] h.length h6) else (none))
  (finL [loadV G true 35 (nth x6 2) h6] h.length h6))
noncomputable def alembicref17_RunMach.f (G : Globs) : Nat → Den
  | 0 => fun _ _ => none
  | k + 1 => fun args h => arg3 args fun x0 x1 x2 => (alembicref17_RunMach.c G k (alembicref17_RunMach.f G k) x0 x1 x2 h)
theorem alembicref17_RunMach.step (G : Globs) (k : Nat) (x0 x1 x2 : AV) (h : AHeap) : alembicref17_RunMach.f G (k + 1) [x0, x1, x2] h = alembicref17_RunMach.c G k (alembicref17_RunMach.f G k) x0 x1 x2 h := rfl
end Go.Proofs.YtdfglgnflldkpaaDoor.Mir
