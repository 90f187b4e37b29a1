/- Part 3 of the proof: the functions that the statement reaches, and their contracts. -/
import Derived.Test.YtdfglgnflldkpaaDoorVd2
import Derived.Test.YtdfglgnflldkpaaDoorProg
import Derived.KernelRfl
namespace Go.Proofs.YtdfglgnflldkpaaDoor.Mir
open Go
set_option linter.unusedVariables false
/-! alembic/isa.two: function 92 -/
noncomputable def isa_two.ann : Ann := mkAnn [] [] [] []
noncomputable def isa_two.env (G : Globs) (k : Nat) (self : Den) : List (Nat × Bool × Den) := []
noncomputable def isa_two.c (G : Globs) (k : Nat) (self : Den) (x0 x1 x2 : AV) (h : AHeap) : Option (AV × AHeap) := outV (
  bnd (boxA 141 (.agg [(.str ⟨#[]⟩), (.int .u32 0), (.bool false), (.bool false), (.bool false), (.bool false), (.int .i64 0)]) h) fun v0 h0 =>
  bnd (pu h0 (buildSt [(0, 1), (1, 1), (2, 1), (3, 1), (4, 1), (5, 1), (6, 1)] [(.str ⟨#[]⟩), (.int .u32 0), (.bool false), (.bool false), (.bool false), (.bool false), (.int .i64 0)] [(0, x0), (1, x1), (2, (.bool true)), (3, (.bool true)), (6, x2)])) fun v1 h1 =>
  bnd (stS (storeV 7 v0 v1 h1)) fun v2 h2 =>
  finL [loadV G true 7 v0 h2] h.length h2)
noncomputable def isa_two.f (G : Globs) : Nat → Den
  | 0 => fun _ _ => none
  | k + 1 => fun args h => arg3 args fun x0 x1 x2 => (isa_two.c G k (isa_two.f G k) x0 x1 x2 h)
/-! alembic/isa.three: function 107 -/
noncomputable def isa_three.ann : Ann := mkAnn [] [] [] []
noncomputable def isa_three.env (G : Globs) (k : Nat) (self : Den) : List (Nat × Bool × Den) := []
noncomputable def isa_three.c (G : Globs) (k : Nat) (self : Den) (x0 x1 : AV) (h : AHeap) : Option (AV × AHeap) := outV (
  bnd (boxA 141 (.agg [(.str ⟨#[]⟩), (.int .u32 0), (.bool false), (.bool false), (.bool false), (.bool false), (.int .i64 0)]) h) fun v0 h0 =>
  bnd (pu h0 (buildSt [(0, 1), (1, 1), (2, 1), (3, 1), (4, 1), (5, 1), (6, 1)] [(.str ⟨#[]⟩), (.int .u32 0), (.bool false), (.bool false), (.bool false), (.bool false), (.int .i64 0)] [(0, x0), (1, x1), (2, (.bool true)), (3, (.bool true)), (4, (.bool true))])) fun v1 h1 =>
  bnd (stS (storeV 7 v0 v1 h1)) fun v2 h2 =>
  finL [loadV G true 7 v0 h2] h.length h2)
noncomputable def isa_three.f (G : Globs) : Nat → Den
  | 0 => fun _ _ => none
  | k + 1 => fun args h => arg2 args fun x0 x1 => (isa_three.c G k (isa_three.f G k) x0 x1 h)
/-! alembic/isa.plain: function 93 -/
noncomputable def isa_plain.ann : Ann := mkAnn [] [] [] []
noncomputable def isa_plain.env (G : Globs) (k : Nat) (self : Den) : List (Nat × Bool × Den) := [(92, true, isa_two.f G k), (107, true, isa_three.f G k)]
noncomputable def isa_plain.c (G : Globs) (k : Nat) (self : Den) (x0 : AV) (h : AHeap) : Option (AV × AHeap) := outV (
  bnd (boxA 141 (.agg [(.str ⟨#[]⟩), (.int .u32 0), (.bool false), (.bool false), (.bool false), (.bool false), (.int .i64 0)]) h) fun v0 h0 =>
  bnd (pu h0 (bin Tryd.prog .eql 3 true x0 (.int .i64 1))) fun v1 h1 =>
  condA v1
  (bnd (pu h1 (buildSt [(0, 1), (1, 1), (2, 1), (3, 1), (4, 1), (5, 1), (6, 1)] [(.str ⟨#[]⟩), (.int .u32 0), (.bool false), (.bool false), (.bool false), (.bool false), (.int .i64 0)] [(0, (.str ⟨#[109, 111, 118, 122]⟩)), (1, (.int .u32 3531603968)), (2, (.bool true)), (5, (.bool true)), (6, (.int .i64 16))])) fun v2 h2 =>
  bnd (stS (storeV 7 v0 v2 h2)) fun v3 h3 =>
  finL [loadV G true 7 v0 h3, some (.bool true)] h.length h3)
  (bnd (pu h1 (bin Tryd.prog .eql 3 true x0 (.int .i64 2))) fun v4 h4 =>
  condA v4
  (bnd (pu h4 (buildSt [(0, 1), (1, 1), (2, 1), (3, 1), (4, 1), (5, 1), (6, 1)] [(.str ⟨#[]⟩), (.int .u32 0), (.bool false), (.bool false), (.bool false), (.bool false), (.int .i64 0)] [(0, (.str ⟨#[109, 111, 118, 107]⟩)), (1, (.int .u32 4068474880)), (2, (.bool true)), (5, (.bool true)), (6, (.int .i64 16))])) fun v5 h5 =>
  bnd (stS (storeV 7 v0 v5 h5)) fun v6 h6 =>
  finL [loadV G true 7 v0 h6, some (.bool true)] h.length h6)
  (bnd (pu h4 (bin Tryd.prog .eql 3 true x0 (.int .i64 3))) fun v7 h7 =>
  condA v7
  (bnd (pureCall (isa_three.f G k) [(.str ⟨#[97, 100, 100]⟩), (.int .u32 2332033024)] h7) fun v8 h8 =>
  bnd (stS (storeV 7 v0 v8 h8)) fun v9 h9 =>
  finL [loadV G true 7 v0 h9, some (.bool true)] h.length h9)
  (bnd (pu h7 (bin Tryd.prog .eql 3 true x0 (.int .i64 4))) fun v10 h10 =>
  condA v10
  (bnd (pureCall (isa_three.f G k) [(.str ⟨#[115, 117, 98]⟩), (.int .u32 3405774848)] h10) fun v11 h11 =>
  bnd (stS (storeV 7 v0 v11 h11)) fun v12 h12 =>
  finL [loadV G true 7 v0 h12, some (.bool true)] h.length h12)
  (bnd (pu h10 (bin Tryd.prog .eql 3 true x0 (.int .i64 5))) fun v13 h13 =>
  condA v13
  (bnd (pureCall (isa_three.f G k) [(.str ⟨#[97, 110, 100]⟩), (.int .u32 2315255808)] h13) fun v14 h14 =>
  bnd (stS (storeV 7 v0 v14 h14)) fun v15 h15 =>
  finL [loadV G true 7 v0 h15, some (.bool true)] h.length h15)
  (bnd (pu h13 (bin Tryd.prog .eql 3 true x0 (.int .i64 6))) fun v16 h16 =>
  condA v16
  (bnd (pureCall (isa_three.f G k) [(.str ⟨#[111, 114, 114]⟩), (.int .u32 2852126720)] h16) fun v17 h17 =>
  bnd (stS (storeV 7 v0 v17 h17)) fun v18 h18 =>
  finL [loadV G true 7 v0 h18, some (.bool true)] h.length h18)
  (bnd (pu h16 (bin Tryd.prog .eql 3 true x0 (.int .i64 7))) fun v19 h19 =>
  condA v19
  (bnd (pureCall (isa_three.f G k) [(.str ⟨#[101, 111, 114]⟩), (.int .u32 3388997632)] h19) fun v20 h20 =>
  bnd (stS (storeV 7 v0 v20 h20)) fun v21 h21 =>
  finL [loadV G true 7 v0 h21, some (.bool true)] h.length h21)
  (bnd (pu h19 (bin Tryd.prog .eql 3 true x0 (.int .i64 8))) fun v22 h22 =>
  condA v22
  (bnd (pu h22 (buildSt [(0, 1), (1, 1), (2, 1), (3, 1), (4, 1), (5, 1), (6, 1)] [(.str ⟨#[]⟩), (.int .u32 0), (.bool false), (.bool false), (.bool false), (.bool false), (.int .i64 0)] [(0, (.str ⟨#[109, 97, 100, 100]⟩)), (1, (.int .u32 2600468480)), (2, (.bool true)), (3, (.bool true)), (4, (.bool true)), (5, (.bool true))])) fun v23 h23 =>
  bnd (stS (storeV 7 v0 v23 h23)) fun v24 h24 =>
  finL [loadV G true 7 v0 h24, some (.bool true)] h.length h24)
  (bnd (pu h22 (bin Tryd.prog .eql 3 true x0 (.int .i64 9))) fun v25 h25 =>
  condA v25
  (bnd (pureCall (isa_three.f G k) [(.str ⟨#[117, 109, 117, 108, 104]⟩), (.int .u32 2613083136)] h25) fun v26 h26 =>
  bnd (stS (storeV 7 v0 v26 h26)) fun v27 h27 =>
  finL [loadV G true 7 v0 h27, some (.bool true)] h.length h27)
  (bnd (pu h25 (bin Tryd.prog .eql 3 true x0 (.int .i64 10))) fun v28 h28 =>
  condA v28
  (bnd (pureCall (isa_two.f G k) [(.str ⟨#[97, 100, 100, 105]⟩), (.int .u32 2432696320), (.int .i64 12)] h28) fun v29 h29 =>
  bnd (stS (storeV 7 v0 v29 h29)) fun v30 h30 =>
  finL [loadV G true 7 v0 h30, some (.bool true)] h.length h30)
  (bnd (pu h28 (bin Tryd.prog .eql 3 true x0 (.int .i64 11))) fun v31 h31 =>
  condA v31
  (bnd (pureCall (isa_two.f G k) [(.str ⟨#[115, 117, 98, 105]⟩), (.int .u32 3506438144), (.int .i64 12)] h31) fun v32 h32 =>
  bnd (stS (storeV 7 v0 v32 h32)) fun v33 h33 =>
  finL [loadV G true 7 v0 h33, some (.bool true)] h.length h33)
  (bnd (pu h31 (bin Tryd.prog .eql 3 true x0 (.int .i64 12))) fun v34 h34 =>
  condA v34
  (bnd (pureCall (isa_two.f G k) [(.str ⟨#[108, 115, 108]⟩), (.int .u32 3544186880), (.int .i64 6)] h34) fun v35 h35 =>
  bnd (stS (storeV 7 v0 v35 h35)) fun v36 h36 =>
  finL [loadV G true 7 v0 h36, some (.bool true)] h.length h36)
  (bnd (pu h34 (bin Tryd.prog .eql 3 true x0 (.int .i64 13))) fun v37 h37 =>
  condA v37
  (bnd (pureCall (isa_two.f G k) [(.str ⟨#[108, 115, 114]⟩), (.int .u32 3544186880), (.int .i64 6)] h37) fun v38 h38 =>
  bnd (stS (storeV 7 v0 v38 h38)) fun v39 h39 =>
  finL [loadV G true 7 v0 h39, some (.bool true)] h.length h39)
  (bnd (pu h37 (bin Tryd.prog .eql 3 true x0 (.int .i64 14))) fun v40 h40 =>
  condA v40
  (bnd (pureCall (isa_two.f G k) [(.str ⟨#[97, 115, 114]⟩), (.int .u32 2470509568), (.int .i64 6)] h40) fun v41 h41 =>
  bnd (stS (storeV 7 v0 v41 h41)) fun v42 h42 =>
  finL [loadV G true 7 v0 h42, some (.bool true)] h.length h42)
  (bnd (pu h40 (buildSt [(0, 1), (1, 1), (2, 1), (3, 1), (4, 1), (5, 1), (6, 1)] [(.str ⟨#[]⟩), (.int .u32 0), (.bool false), (.bool false), (.bool false), (.bool false), (.int .i64 0)] [])) fun v43 h43 =>
  bnd (stS (storeV 7 v0 v43 h43)) fun v44 h44 =>
  finL [loadV G true 7 v0 h44, some (.bool false)] h.length h44)))))))))))))))
noncomputable def isa_plain.f (G : Globs) : Nat → Den
  | 0 => fun _ _ => none
  | k + 1 => fun args h => arg1 args fun x0 => (isa_plain.c G k (isa_plain.f G k) x0 h)
theorem isa_plain.step (G : Globs) (k : Nat) (x0 : AV) (h : AHeap) : isa_plain.f G (k + 1) [x0] h = isa_plain.c G k (isa_plain.f G k) x0 h := rfl
/-! alembic/isa.of: function 70 -/
noncomputable def isa_of.ann : Ann := mkAnn [] [] [] []
noncomputable def isa_of.env (G : Globs) (k : Nat) (self : Den) : List (Nat × Bool × Den) := [(92, true, isa_two.f G k), (93, true, isa_plain.f G k)]
noncomputable def isa_of.c (G : Globs) (k : Nat) (self : Den) (x0 : AV) (h : AHeap) : Option (AV × AHeap) := outV (
  bnd (boxA 141 (.agg [(.str ⟨#[]⟩), (.int .u32 0), (.bool false), (.bool false), (.bool false), (.bool false), (.int .i64 0)]) h) fun v0 h0 =>
  bnd (pu h0 (bin Tryd.prog .eql 3 true x0 (.int .i64 15))) fun v1 h1 =>
  condA v1
  (bnd (pu h1 (buildSt [(0, 1), (1, 1), (2, 1), (3, 1), (4, 1), (5, 1), (6, 1)] [(.str ⟨#[]⟩), (.int .u32 0), (.bool false), (.bool false), (.bool false), (.bool false), (.int .i64 0)] [(0, (.str ⟨#[99, 109, 112]⟩)), (1, (.int .u32 3942645791)), (3, (.bool true)), (4, (.bool true))])) fun v2 h2 =>
  bnd (stS (storeV 7 v0 v2 h2)) fun v3 h3 =>
  finL [loadV G true 7 v0 h3, some (.bool true)] h.length h3)
  (bnd (pu h1 (bin Tryd.prog .eql 3 true x0 (.int .i64 16))) fun v4 h4 =>
  condA v4
  (bnd (pu h4 (buildSt [(0, 1), (1, 1), (2, 1), (3, 1), (4, 1), (5, 1), (6, 1)] [(.str ⟨#[]⟩), (.int .u32 0), (.bool false), (.bool false), (.bool false), (.bool false), (.int .i64 0)] [(0, (.str ⟨#[99, 115, 101, 108]⟩)), (1, (.int .u32 2592079872)), (2, (.bool true)), (3, (.bool true)), (4, (.bool true)), (5, (.bool true))])) fun v5 h5 =>
  bnd (stS (storeV 7 v0 v5 h5)) fun v6 h6 =>
  finL [loadV G true 7 v0 h6, some (.bool true)] h.length h6)
  (bnd (pu h4 (bin Tryd.prog .eql 3 true x0 (.int .i64 17))) fun v7 h7 =>
  condA v7
  (bnd (pu h7 (buildSt [(0, 1), (1, 1), (2, 1), (3, 1), (4, 1), (5, 1), (6, 1)] [(.str ⟨#[]⟩), (.int .u32 0), (.bool false), (.bool false), (.bool false), (.bool false), (.int .i64 0)] [(0, (.str ⟨#[99, 115, 101, 116]⟩)), (1, (.int .u32 2594113504)), (2, (.bool true)), (5, (.bool true))])) fun v8 h8 =>
  bnd (stS (storeV 7 v0 v8 h8)) fun v9 h9 =>
  finL [loadV G true 7 v0 h9, some (.bool true)] h.length h9)
  (bnd (pu h7 (bin Tryd.prog .eql 3 true x0 (.int .i64 18))) fun v10 h10 =>
  condA v10
  (bnd (pureCall (isa_two.f G k) [(.str ⟨#[108, 100, 114]⟩), (.int .u32 4181721088), (.int .i64 12)] h10) fun v11 h11 =>
  bnd (stS (storeV 7 v0 v11 h11)) fun v12 h12 =>
  finL [loadV G true 7 v0 h12, some (.bool true)] h.length h12)
  (bnd (pu h10 (bin Tryd.prog .eql 3 true x0 (.int .i64 19))) fun v13 h13 =>
  condA v13
  (bnd (pureCall (isa_two.f G k) [(.str ⟨#[115, 116, 114]⟩), (.int .u32 4177526784), (.int .i64 12)] h13) fun v14 h14 =>
  bnd (stS (storeV 7 v0 v14 h14)) fun v15 h15 =>
  finL [loadV G true 7 v0 h15, some (.bool true)] h.length h15)
  (bnd (pu h13 (bin Tryd.prog .eql 3 true x0 (.int .i64 20))) fun v16 h16 =>
  condA v16
  (bnd (pu h16 (buildSt [(0, 1), (1, 1), (2, 1), (3, 1), (4, 1), (5, 1), (6, 1)] [(.str ⟨#[]⟩), (.int .u32 0), (.bool false), (.bool false), (.bool false), (.bool false), (.int .i64 0)] [(0, (.str ⟨#[98]⟩)), (1, (.int .u32 335544320)), (6, (.int .i64 26))])) fun v17 h17 =>
  bnd (stS (storeV 7 v0 v17 h17)) fun v18 h18 =>
  finL [loadV G true 7 v0 h18, some (.bool true)] h.length h18)
  (bnd (pu h16 (bin Tryd.prog .eql 3 true x0 (.int .i64 21))) fun v19 h19 =>
  condA v19
  (bnd (pu h19 (buildSt [(0, 1), (1, 1), (2, 1), (3, 1), (4, 1), (5, 1), (6, 1)] [(.str ⟨#[]⟩), (.int .u32 0), (.bool false), (.bool false), (.bool false), (.bool false), (.int .i64 0)] [(0, (.str ⟨#[98, 99, 99]⟩)), (1, (.int .u32 1409286144)), (5, (.bool true)), (6, (.int .i64 19))])) fun v20 h20 =>
  bnd (stS (storeV 7 v0 v20 h20)) fun v21 h21 =>
  finL [loadV G true 7 v0 h21, some (.bool true)] h.length h21)
  (bnd (pu h19 (bin Tryd.prog .eql 3 true x0 (.int .i64 22))) fun v22 h22 =>
  condA v22
  (bnd (pu h22 (buildSt [(0, 1), (1, 1), (2, 1), (3, 1), (4, 1), (5, 1), (6, 1)] [(.str ⟨#[]⟩), (.int .u32 0), (.bool false), (.bool false), (.bool false), (.bool false), (.int .i64 0)] [(0, (.str ⟨#[99, 98, 122]⟩)), (1, (.int .u32 3019898880)), (2, (.bool true)), (6, (.int .i64 19))])) fun v23 h23 =>
  bnd (stS (storeV 7 v0 v23 h23)) fun v24 h24 =>
  finL [loadV G true 7 v0 h24, some (.bool true)] h.length h24)
  (bnd (pu h22 (bin Tryd.prog .eql 3 true x0 (.int .i64 23))) fun v25 h25 =>
  condA v25
  (bnd (pu h25 (buildSt [(0, 1), (1, 1), (2, 1), (3, 1), (4, 1), (5, 1), (6, 1)] [(.str ⟨#[]⟩), (.int .u32 0), (.bool false), (.bool false), (.bool false), (.bool false), (.int .i64 0)] [(0, (.str ⟨#[99, 98, 110, 122]⟩)), (1, (.int .u32 3036676096)), (2, (.bool true)), (6, (.int .i64 19))])) fun v26 h26 =>
  bnd (stS (storeV 7 v0 v26 h26)) fun v27 h27 =>
  finL [loadV G true 7 v0 h27, some (.bool true)] h.length h27)
  (bnd (pu h25 (bin Tryd.prog .eql 3 true x0 (.int .i64 24))) fun v28 h28 =>
  condA v28
  (bnd (pu h28 (buildSt [(0, 1), (1, 1), (2, 1), (3, 1), (4, 1), (5, 1), (6, 1)] [(.str ⟨#[]⟩), (.int .u32 0), (.bool false), (.bool false), (.bool false), (.bool false), (.int .i64 0)] [(0, (.str ⟨#[104, 108, 116]⟩)), (1, (.int .u32 3560964096)), (6, (.int .i64 16))])) fun v29 h29 =>
  bnd (stS (storeV 7 v0 v29 h29)) fun v30 h30 =>
  finL [loadV G true 7 v0 h30, some (.bool true)] h.length h30)
  (bnd (pureCall (isa_plain.f G k) [x0] h28) fun v31 h31 =>
  bnd (pu h31 (extractA v31 0)) fun v32 h32 =>
  bnd (pu h32 (extractA v31 1)) fun v33 h33 =>
  bnd (stS (storeV 7 v0 v32 h33)) fun v34 h34 =>
  finL [loadV G true 7 v0 h34, some v33] h.length h34)))))))))))
noncomputable def isa_of.f (G : Globs) : Nat → Den
  | 0 => fun _ _ => none
  | k + 1 => fun args h => arg1 args fun x0 => (isa_of.c G k (isa_of.f G k) x0 h)
theorem isa_of.step (G : Globs) (k : Nat) (x0 : AV) (h : AHeap) : isa_of.f G (k + 1) [x0] h = isa_of.c G k (isa_of.f G k) x0 h := rfl
/-! alembic/isa.register: function 94 -/
noncomputable def isa_register.ann : Ann := mkAnn [] [] [] []
noncomputable def isa_register.env (G : Globs) (k : Nat) (self : Den) : List (Nat × Bool × Den) := []
noncomputable def isa_register.c (G : Globs) (k : Nat) (self : Den) (x0 x1 : AV) (h : AHeap) : Option (AV × AHeap) := outV (
  bnd (pu h (bin Tryd.prog .eql 3 true x0 (.int .i64 0))) fun v0 h0 =>
  bnd (gd v0 false h0 (some (x1, h0))) fun v1 h1 =>
  bnd (gd v0 false h1 (some (v1, h1))) fun v2 h2 =>
  bnd (gd v2 true h2 (some (x0, h2))) fun v3 h3 =>
  bnd (gd v2 true h3 (pu h3 (bin Tryd.prog .gtr 3 true v3 (.int .i64 0)))) fun v4 h4 =>
  bnd (gd v0 false h4 (pu h4 (pickA v2 v4 (.bool false)))) fun v5 h5 =>
  bnd (gd v0 false h5 (some (v5, h5))) fun v6 h6 =>
  bnd (gd v6 true h6 (some (x0, h6))) fun v7 h7 =>
  bnd (gd v6 true h7 (pu h7 (bin Tryd.prog .leq 3 true v7 (.int .i64 31)))) fun v8 h8 =>
  bnd (gd v0 false h8 (pu h8 (pickA v6 v8 (.bool false)))) fun v9 h9 =>
  bnd (pu h9 (pickA v0 (.bool true) v9)) fun v10 h10 =>
  finV [v10] h.length h10)
noncomputable def isa_register.f (G : Globs) : Nat → Den
  | 0 => fun _ _ => none
  | k + 1 => fun args h => arg2 args fun x0 x1 => (isa_register.c G k (isa_register.f G k) x0 x1 h)
theorem isa_register.step (G : Globs) (k : Nat) (x0 x1 : AV) (h : AHeap) : isa_register.f G (k + 1) [x0, x1] h = isa_register.c G k (isa_register.f G k) x0 x1 h := rfl
/-! alembic/isa.extra: function 95 -/
noncomputable def isa_extra.ann : Ann := mkAnn [] [] [] [(9, [1, 2]), (8, [1, 16]), (4, [1, 4, 5])]
noncomputable def isa_extra.env (G : Globs) (k : Nat) (self : Den) : List (Nat × Bool × Den) := []
noncomputable def isa_extra.c (G : Globs) (k : Nat) (self : Den) (x0 : AV) (h : AHeap) : Option (AV × AHeap) := outV (
  bnd (boxRoA x0 h) fun v0 h0 =>
  thenK (
  bnd (pu h0 (fieldAddrV 0 v0)) fun v1 h1 =>
  bnd (pu h1 (loadV G false 1 v1 h1)) fun v2 h2 =>
  thenK (
  bnd (pu h2 (bin Tryd.prog .eql 3 true v2 (.int .i64 1))) fun v3 h3 =>
  condA v3
  (some (.normal, [v0, v2, v3], h3))
  (bnd (pu h3 (bin Tryd.prog .eql 3 true v2 (.int .i64 2))) fun v4 h4 =>
  some (.normal, [v0, v2, v4], h4))) fun e5 x5 h5 => exK e5
  (condA (nth x5 2)
  (bnd (pu h5 (fieldAddrV 4 (nth x5 0))) fun v6 h6 =>
  bnd (pu h6 (loadV G false 1 v6 h6)) fun v7 h7 =>
  bnd (pu h7 (bin Tryd.prog .geq 3 true v7 (.int .i64 0))) fun v8 h8 =>
  bnd (gd v8 true h8 (pu h8 (fieldAddrV 4 (nth x5 0)))) fun v9 h9 =>
  bnd (gd v8 true h9 (pu h9 (loadV G false 1 v9 h9))) fun v10 h10 =>
  bnd (gd v8 true h10 (pu h10 (bin Tryd.prog .leq 3 true v10 (.int .i64 3)))) fun v11 h11 =>
  bnd (pu h11 (pickA v8 v11 (.bool false))) fun v12 h12 =>
  some (.ret, [(nth x5 0), v12], h12))
  (thenK (
  bnd (pu h5 (bin Tryd.prog .eql 3 true (nth x5 1) (.int .i64 16))) fun v13 h13 =>
  condA v13
  (some (.normal, [(nth x5 0), v13], h13))
  (bnd (pu h13 (bin Tryd.prog .eql 3 true (nth x5 1) (.int .i64 17))) fun v14 h14 =>
  condA v14
  (some (.normal, [(nth x5 0), v14], h14))
  (bnd (pu h14 (bin Tryd.prog .eql 3 true (nth x5 1) (.int .i64 21))) fun v15 h15 =>
  some (.normal, [(nth x5 0), v15], h15)))) fun e16 x16 h16 => exK e16
  (condA (nth x16 1)
  (bnd (pu h16 (fieldAddrV 4 (nth x16 0))) fun v17 h17 =>
  bnd (pu h17 (loadV G false 1 v17 h17)) fun v18 h18 =>
  bnd (pu h18 (bin Tryd.prog .geq 3 true v18 (.int .i64 0))) fun v19 h19 =>
  bnd (gd v19 true h19 (pu h19 (fieldAddrV 4 (nth x16 0)))) fun v20 h20 =>
  bnd (gd v19 true h20 (pu h20 (loadV G false 1 v20 h20))) fun v21 h21 =>
  bnd (gd v19 true h21 (pu h21 (bin Tryd.prog .leq 3 true v21 (.int .i64 3)))) fun v22 h22 =>
  bnd (pu h22 (pickA v19 v22 (.bool false))) fun v23 h23 =>
  bnd (gd v23 false h23 (pu h23 (fieldAddrV 4 (nth x16 0)))) fun v24 h24 =>
  bnd (gd v23 false h24 (pu h24 (loadV G false 1 v24 h24))) fun v25 h25 =>
  bnd (gd v23 false h25 (pu h25 (bin Tryd.prog .eql 3 true v25 (.int .i64 8)))) fun v26 h26 =>
  bnd (pu h26 (pickA v23 (.bool true) v26)) fun v27 h27 =>
  bnd (gd v27 false h27 (pu h27 (fieldAddrV 4 (nth x16 0)))) fun v28 h28 =>
  bnd (gd v27 false h28 (pu h28 (loadV G false 1 v28 h28))) fun v29 h29 =>
  bnd (gd v27 false h29 (pu h29 (bin Tryd.prog .eql 3 true v29 (.int .i64 9)))) fun v30 h30 =>
  bnd (pu h30 (pickA v27 (.bool true) v30)) fun v31 h31 =>
  some (.ret, [(nth x16 0), v31], h31))
  (some (.normal, [(nth x16 0), .undef], h16)))
  (fun i16 => if i16 = 0 then (some (.normal, [(nth x16 0), .undef], h16)) else (some (.exit i16, [(nth x16 0), .undef], h16)))
  (some (.ret, [(nth x16 0), .undef], h16))))
  (fun i5 => if i5 = 0 then (some (.normal, [(nth x5 0), .undef], h5)) else (some (.exit i5, [(nth x5 0), .undef], h5)))
  (some (.ret, [(nth x5 0), .undef], h5))) fun e32 x32 h32 => exK e32
  (bnd (pu h32 (fieldAddrV 4 (nth x32 0))) fun v33 h33 =>
  bnd (pu h33 (loadV G false 1 v33 h33)) fun v34 h34 =>
  bnd (pu h34 (bin Tryd.prog .geq 3 true v34 (.int .i64 0))) fun v35 h35 =>
  bnd (gd v35 true h35 (pu h35 (fieldAddrV 4 (nth x32 0)))) fun v36 h36 =>
  bnd (gd v35 true h36 (pu h36 (loadV G false 1 v36 h36))) fun v37 h37 =>
  bnd (gd v35 true h37 (pu h37 (bin Tryd.prog .leq 3 true v37 (.int .i64 31)))) fun v38 h38 =>
  bnd (pu h38 (pickA v35 v38 (.bool false))) fun v39 h39 =>
  finV [v39] h.length h39)
  (fun i32 => none)
  (finV [(nth x32 1)] h.length h32))
noncomputable def isa_extra.f (G : Globs) : Nat → Den
  | 0 => fun _ _ => none
  | k + 1 => fun args h => arg1 args fun x0 => (isa_extra.c G k (isa_extra.f G k) x0 h)
theorem isa_extra.step (G : Globs) (k : Nat) (x0 : AV) (h : AHeap) : isa_extra.f G (k + 1) [x0] h = isa_extra.c G k (isa_extra.f G k) x0 h := rfl
/-! alembic/isa.signed: function 108 -/
noncomputable def isa_signed.ann : Ann := mkAnn [] [] [] []
noncomputable def isa_signed.env (G : Globs) (k : Nat) (self : Den) : List (Nat × Bool × Den) := []
noncomputable def isa_signed.c (G : Globs) (k : Nat) (self : Den) (x0 : AV) (h : AHeap) : Option (AV × AHeap) := outV (
  bnd (pu h (bin Tryd.prog .geq 3 true x0 (.int .i64 20))) fun v0 h0 =>
  bnd (gd v0 true h0 (some (x0, h0))) fun v1 h1 =>
  bnd (gd v0 true h1 (pu h1 (bin Tryd.prog .leq 3 true v1 (.int .i64 23)))) fun v2 h2 =>
  bnd (pu h2 (pickA v0 v2 (.bool false))) fun v3 h3 =>
  finV [v3] h.length h3)
noncomputable def isa_signed.f (G : Globs) : Nat → Den
  | 0 => fun _ _ => none
  | k + 1 => fun args h => arg1 args fun x0 => (isa_signed.c G k (isa_signed.f G k) x0 h)
theorem isa_signed.step (G : Globs) (k : Nat) (x0 : AV) (h : AHeap) : isa_signed.f G (k + 1) [x0] h = isa_signed.c G k (isa_signed.f G k) x0 h := rfl
/-! alembic/isa.imm: function 96 -/
noncomputable def isa_imm.ann : Ann := mkAnn [] [] [] []
noncomputable def isa_imm.env (G : Globs) (k : Nat) (self : Den) : List (Nat × Bool × Den) := [(108, true, isa_signed.f G k)]
noncomputable def isa_imm.c (G : Globs) (k : Nat) (self : Den) (x0 x1 : AV) (h : AHeap) : Option (AV × AHeap) := outV (
  bnd (boxRoA x0 h) fun v0 h0 =>
  bnd (pu h0 (bin Tryd.prog .eql 3 true x1 (.int .i64 0))) fun v1 h1 =>
  condA v1
  (bnd (pu h1 (fieldAddrV 5 v0)) fun v2 h2 =>
  bnd (pu h2 (loadV G false 1 v2 h2)) fun v3 h3 =>
  bnd (pu h3 (bin Tryd.prog .eql 3 true v3 (.int .i64 0))) fun v4 h4 =>
  finV [v4] h.length h4)
  (bnd (pu h1 (fieldAddrV 0 v0)) fun v5 h5 =>
  bnd (pu h5 (loadV G false 1 v5 h5)) fun v6 h6 =>
  bnd (pureCall (isa_signed.f G k) [v6] h6) fun v7 h7 =>
  condA v7
  (bnd (pu h7 (fieldAddrV 5 v0)) fun v8 h8 =>
  bnd (pu h8 (loadV G false 1 v8 h8)) fun v9 h9 =>
  bnd (pu h9 (bin Tryd.prog .sub 3 true x1 (.int .i64 1))) fun v10 h10 =>
  bnd (pu h10 (bin Tryd.prog .shl 3 true (.int .i64 1) v10)) fun v11 h11 =>
  bnd (pu h11 (un .neg v11)) fun v12 h12 =>
  bnd (pu h12 (bin Tryd.prog .geq 3 false v9 v12)) fun v13 h13 =>
  bnd (gd v13 true h13 (pu h13 (fieldAddrV 5 v0))) fun v14 h14 =>
  bnd (gd v13 true h14 (pu h14 (loadV G false 1 v14 h14))) fun v15 h15 =>
  bnd (gd v13 true h15 (some (x1, h15))) fun v16 h16 =>
  bnd (gd v13 true h16 (pu h16 (bin Tryd.prog .sub 3 true v16 (.int .i64 1)))) fun v17 h17 =>
  bnd (gd v13 true h17 (pu h17 (bin Tryd.prog .shl 3 true (.int .i64 1) v17))) fun v18 h18 =>
  bnd (gd v13 true h18 (pu h18 (bin Tryd.prog .lss 3 false v15 v18))) fun v19 h19 =>
  bnd (pu h19 (pickA v13 v19 (.bool false))) fun v20 h20 =>
  finV [v20] h.length h20)
  (bnd (pu h7 (fieldAddrV 5 v0)) fun v21 h21 =>
  bnd (pu h21 (loadV G false 1 v21 h21)) fun v22 h22 =>
  bnd (pu h22 (bin Tryd.prog .geq 3 true v22 (.int .i64 0))) fun v23 h23 =>
  bnd (gd v23 true h23 (pu h23 (fieldAddrV 5 v0))) fun v24 h24 =>
  bnd (gd v23 true h24 (pu h24 (loadV G false 1 v24 h24))) fun v25 h25 =>
  bnd (gd v23 true h25 (some (x1, h25))) fun v26 h26 =>
  bnd (gd v23 true h26 (pu h26 (bin Tryd.prog .shl 3 true (.int .i64 1) v26))) fun v27 h27 =>
  bnd (gd v23 true h27 (pu h27 (bin Tryd.prog .lss 3 false v25 v27))) fun v28 h28 =>
  bnd (pu h28 (pickA v23 v28 (.bool false))) fun v29 h29 =>
  finV [v29] h.length h29)))
noncomputable def isa_imm.f (G : Globs) : Nat → Den
  | 0 => fun _ _ => none
  | k + 1 => fun args h => arg2 args fun x0 x1 => (isa_imm.c G k (isa_imm.f G k) x0 x1 h)
theorem isa_imm.step (G : Globs) (k : Nat) (x0 x1 : AV) (h : AHeap) : isa_imm.f G (k + 1) [x0, x1] h = isa_imm.c G k (isa_imm.f G k) x0 x1 h := rfl
/-! alembic/isa.stack: function 97 -/
noncomputable def isa_stack.ann : Ann := mkAnn [] [] [] [(7, [1, 16]), (4, [1, 4, 5])]
noncomputable def isa_stack.env (G : Globs) (k : Nat) (self : Den) : List (Nat × Bool × Den) := []
noncomputable def isa_stack.c (G : Globs) (k : Nat) (self : Den) (x0 : AV) (h : AHeap) : Option (AV × AHeap) := outV (
  bnd (boxRoA x0 h) fun v0 h0 =>
  bnd (pu h0 (fieldAddrV 0 v0)) fun v1 h1 =>
  bnd (pu h1 (loadV G false 1 v1 h1)) fun v2 h2 =>
  thenK (
  bnd (pu h2 (bin Tryd.prog .eql 3 true v2 (.int .i64 10))) fun v3 h3 =>
  condA v3
  (some (.normal, [v0, v2, v3], h3))
  (bnd (pu h3 (bin Tryd.prog .eql 3 true v2 (.int .i64 11))) fun v4 h4 =>
  some (.normal, [v0, v2, v4], h4))) fun e5 x5 h5 => exK e5
  (condA (nth x5 2)
  (bnd (pu h5 (fieldAddrV 1 (nth x5 0))) fun v6 h6 =>
  bnd (pu h6 (loadV G false 1 v6 h6)) fun v7 h7 =>
  bnd (pu h7 (bin Tryd.prog .eql 3 true v7 (.int .i64 31))) fun v8 h8 =>
  bnd (gd v8 false h8 (pu h8 (fieldAddrV 2 (nth x5 0)))) fun v9 h9 =>
  bnd (gd v8 false h9 (pu h9 (loadV G false 1 v9 h9))) fun v10 h10 =>
  bnd (gd v8 false h10 (pu h10 (bin Tryd.prog .eql 3 true v10 (.int .i64 31)))) fun v11 h11 =>
  bnd (pu h11 (pickA v8 (.bool true) v11)) fun v12 h12 =>
  finV [v12] h.length h12)
  (thenK (
  bnd (pu h5 (bin Tryd.prog .eql 3 true (nth x5 1) (.int .i64 18))) fun v13 h13 =>
  condA v13
  (some (.normal, [(nth x5 0), v13], h13))
  (bnd (pu h13 (bin Tryd.prog .eql 3 true (nth x5 1) (.int .i64 19))) fun v14 h14 =>
  some (.normal, [(nth x5 0), v14], h14))) fun e15 x15 h15 => exK e15
  (condA (nth x15 1)
  (bnd (pu h15 (fieldAddrV 2 (nth x15 0))) fun v16 h16 =>
  bnd (pu h16 (loadV G false 1 v16 h16)) fun v17 h17 =>
  bnd (pu h17 (bin Tryd.prog .eql 3 true v17 (.int .i64 31))) fun v18 h18 =>
  finV [v18] h.length h18)
  (finV [(.bool false)] h.length h15))
  (fun i15 => if i15 = 0 then (finV [(.bool false)] h.length h15) else (none))
  (finV [.undef] h.length h15)))
  (fun i5 => if i5 = 0 then (finV [(.bool false)] h.length h5) else (none))
  (finV [.undef] h.length h5))
noncomputable def isa_stack.f (G : Globs) : Nat → Den
  | 0 => fun _ _ => none
  | k + 1 => fun args h => arg1 args fun x0 => (isa_stack.c G k (isa_stack.f G k) x0 h)
theorem isa_stack.step (G : Globs) (k : Nat) (x0 : AV) (h : AHeap) : isa_stack.f G (k + 1) [x0] h = isa_stack.c G k (isa_stack.f G k) x0 h := rfl
/-! alembic/isa.fair: function 71 -/
noncomputable def isa_fair.ann : Ann := mkAnn [] [] [] []
noncomputable def isa_fair.env (G : Globs) (k : Nat) (self : Den) : List (Nat × Bool × Den) := [(94, true, isa_register.f G k), (95, true, isa_extra.f G k), (96, true, isa_imm.f G k), (97, true, isa_stack.f G k)]
noncomputable def isa_fair.c (G : Globs) (k : Nat) (self : Den) (x0 x1 : AV) (h : AHeap) : Option (AV × AHeap) := outV (
  bnd (boxRoA x0 h) fun v0 h0 =>
  bnd (boxRoA x1 h0) fun v1 h1 =>
  bnd (pu h1 (fieldAddrV 1 v0)) fun v2 h2 =>
  bnd (pu h2 (loadV G false 1 v2 h2)) fun v3 h3 =>
  bnd (pu h3 (fieldAddrV 2 v1)) fun v4 h4 =>
  bnd (pu h4 (loadV G false 1 v4 h4)) fun v5 h5 =>
  bnd (pureCall (isa_register.f G k) [v3, v5] h5) fun v6 h6 =>
  bnd (pu h6 (un .not v6)) fun v7 h7 =>
  bnd (gd v7 false h7 (pu h7 (fieldAddrV 2 v0))) fun v8 h8 =>
  bnd (gd v7 false h8 (pu h8 (loadV G false 1 v8 h8))) fun v9 h9 =>
  bnd (gd v7 false h9 (pu h9 (fieldAddrV 3 v1))) fun v10 h10 =>
  bnd (gd v7 false h10 (pu h10 (loadV G false 1 v10 h10))) fun v11 h11 =>
  bnd (gd v7 false h11 (pureCall (isa_register.f G k) [v9, v11] h11)) fun v12 h12 =>
  bnd (gd v7 false h12 (pu h12 (un .not v12))) fun v13 h13 =>
  bnd (pu h13 (pickA v7 (.bool true) v13)) fun v14 h14 =>
  bnd (gd v14 false h14 (pu h14 (fieldAddrV 3 v0))) fun v15 h15 =>
  bnd (gd v14 false h15 (pu h15 (loadV G false 1 v15 h15))) fun v16 h16 =>
  bnd (gd v14 false h16 (pu h16 (fieldAddrV 4 v1))) fun v17 h17 =>
  bnd (gd v14 false h17 (pu h17 (loadV G false 1 v17 h17))) fun v18 h18 =>
  bnd (gd v14 false h18 (pureCall (isa_register.f G k) [v16, v18] h18)) fun v19 h19 =>
  bnd (gd v14 false h19 (pu h19 (un .not v19))) fun v20 h20 =>
  bnd (pu h20 (pickA v14 (.bool true) v20)) fun v21 h21 =>
  condA v21
  (finV [(.bool false)] h.length h21)
  (bnd (pu h21 (fieldAddrV 5 v1)) fun v22 h22 =>
  bnd (pu h22 (loadV G false 1 v22 h22)) fun v23 h23 =>
  bnd (gd v23 true h23 (pu h23 (loadV G true 6 v0 h23))) fun v24 h24 =>
  bnd (gd v23 true h24 (pureCall (isa_extra.f G k) [v24] h24)) fun v25 h25 =>
  bnd (gd v23 true h25 (pu h25 (un .not v25))) fun v26 h26 =>
  bnd (pu h26 (pickA v23 v26 (.bool false))) fun v27 h27 =>
  bnd (gd v27 false h27 (pu h27 (fieldAddrV 5 v1))) fun v28 h28 =>
  bnd (gd v27 false h28 (pu h28 (loadV G false 1 v28 h28))) fun v29 h29 =>
  bnd (gd v27 false h29 (pu h29 (un .not v29))) fun v30 h30 =>
  bnd (gd v27 false h30 (some (v30, h30))) fun v31 h31 =>
  bnd (gd v31 true h31 (pu h31 (fieldAddrV 4 v0))) fun v32 h32 =>
  bnd (gd v31 true h32 (pu h32 (loadV G false 1 v32 h32))) fun v33 h33 =>
  bnd (gd v31 true h33 (pu h33 (bin Tryd.prog .neq 3 true v33 (.int .i64 0)))) fun v34 h34 =>
  bnd (gd v27 false h34 (pu h34 (pickA v31 v34 (.bool false)))) fun v35 h35 =>
  bnd (pu h35 (pickA v27 (.bool true) v35)) fun v36 h36 =>
  condA v36
  (finV [(.bool false)] h.length h36)
  (bnd (pu h36 (loadV G true 6 v0 h36)) fun v37 h37 =>
  bnd (pu h37 (fieldAddrV 6 v1)) fun v38 h38 =>
  bnd (pu h38 (loadV G false 1 v38 h38)) fun v39 h39 =>
  bnd (pureCall (isa_imm.f G k) [v37, v39] h39) fun v40 h40 =>
  bnd (gd v40 true h40 (pu h40 (loadV G true 6 v0 h40))) fun v41 h41 =>
  bnd (gd v40 true h41 (pureCall (isa_stack.f G k) [v41] h41)) fun v42 h42 =>
  bnd (gd v40 true h42 (pu h42 (un .not v42))) fun v43 h43 =>
  bnd (pu h43 (pickA v40 v43 (.bool false))) fun v44 h44 =>
  finV [v44] h.length h44)))
noncomputable def isa_fair.f (G : Globs) : Nat → Den
  | 0 => fun _ _ => none
  | k + 1 => fun args h => arg2 args fun x0 x1 => (isa_fair.c G k (isa_fair.f G k) x0 x1 h)
theorem isa_fair.step (G : Globs) (k : Nat) (x0 x1 : AV) (h : AHeap) : isa_fair.f G (k + 1) [x0, x1] h = isa_fair.c G k (isa_fair.f G k) x0 x1 h := rfl
/-! alembic/isa.number: function 72 -/
noncomputable def isa_number.ann : Ann := mkAnn [] [] [] [(28, [3, 4, 12, 64]), (16, [3, 4, 12, 34]), (5, [3, 4, 12, 13])]
noncomputable def isa_number.env (G : Globs) (k : Nat) (self : Den) : List (Nat × Bool × Den) := []
noncomputable def isa_number.c (G : Globs) (k : Nat) (self : Den) (x0 : AV) (h : AHeap) : Option (AV × AHeap) := outV (
  bnd (boxRoA x0 h) fun v0 h0 =>
  bnd (pu h0 (fieldAddrV 5 v0)) fun v1 h1 =>
  bnd (pu h1 (loadV G false 1 v1 h1)) fun v2 h2 =>
  bnd (pu h2 (convInt .u32 v2)) fun v3 h3 =>
  bnd (pu h3 (fieldAddrV 4 v0)) fun v4 h4 =>
  bnd (pu h4 (loadV G false 1 v4 h4)) fun v5 h5 =>
  bnd (pu h5 (convInt .u32 v5)) fun v6 h6 =>
  bnd (pu h6 (fieldAddrV 0 v0)) fun v7 h7 =>
  bnd (pu h7 (loadV G false 1 v7 h7)) fun v8 h8 =>
  thenK (
  bnd (pu h8 (bin Tryd.prog .eql 3 true v8 (.int .i64 1))) fun v9 h9 =>
  condA v9
  (some (.normal, [v3, v6, v8, v9], h9))
  (bnd (pu h9 (bin Tryd.prog .eql 3 true v8 (.int .i64 2))) fun v10 h10 =>
  some (.normal, [v3, v6, v8, v10], h10))) fun e11 x11 h11 => exK e11
  (condA (nth x11 3)
  (bnd (pu h11 (bin Tryd.prog .shl 71 true (nth x11 1) (.int .u64 21))) fun v12 h12 =>
  bnd (pu h12 (bin Tryd.prog .shl 71 true (nth x11 0) (.int .u64 5))) fun v13 h13 =>
  bnd (pu h13 (bin Tryd.prog .or 71 false v12 v13)) fun v14 h14 =>
  finV [v14] h.length h14)
  (bnd (pu h11 (bin Tryd.prog .eql 3 true (nth x11 2) (.int .i64 8))) fun v15 h15 =>
  condA v15
  (bnd (pu h15 (bin Tryd.prog .shl 71 true (nth x11 1) (.int .u64 10))) fun v16 h16 =>
  finV [v16] h.length h16)
  (bnd (pu h15 (bin Tryd.prog .eql 3 true (nth x11 2) (.int .i64 16))) fun v17 h17 =>
  condA v17
  (bnd (pu h17 (bin Tryd.prog .shl 71 true (nth x11 1) (.int .u64 12))) fun v18 h18 =>
  finV [v18] h.length h18)
  (bnd (pu h17 (bin Tryd.prog .eql 3 true (nth x11 2) (.int .i64 17))) fun v19 h19 =>
  condA v19
  (bnd (pu h19 (bin Tryd.prog .xor 71 true (nth x11 1) (.int .u32 1))) fun v20 h20 =>
  bnd (pu h20 (bin Tryd.prog .shl 71 true v20 (.int .u64 12))) fun v21 h21 =>
  finV [v21] h.length h21)
  (thenK (
  bnd (pu h19 (bin Tryd.prog .eql 3 true (nth x11 2) (.int .i64 10))) fun v22 h22 =>
  condA v22
  (some (.normal, [(nth x11 0), (nth x11 1), (nth x11 2), v22], h22))
  (bnd (pu h22 (bin Tryd.prog .eql 3 true (nth x11 2) (.int .i64 11))) fun v23 h23 =>
  condA v23
  (some (.normal, [(nth x11 0), (nth x11 1), (nth x11 2), v23], h23))
  (bnd (pu h23 (bin Tryd.prog .eql 3 true (nth x11 2) (.int .i64 18))) fun v24 h24 =>
  condA v24
  (some (.normal, [(nth x11 0), (nth x11 1), (nth x11 2), v24], h24))
  (bnd (pu h24 (bin Tryd.prog .eql 3 true (nth x11 2) (.int .i64 19))) fun v25 h25 =>
  some (.normal, [(nth x11 0), (nth x11 1), (nth x11 2), v25], h25))))) fun e26 x26 h26 => exK e26
  (condA (nth x26 3)
  (bnd (pu h26 (bin Tryd.prog .shl 71 true (nth x26 0) (.int .u64 10))) fun v27 h27 =>
  finV [v27] h.length h27)
  (bnd (pu h26 (bin Tryd.prog .eql 3 true (nth x26 2) (.int .i64 12))) fun v28 h28 =>
  condA v28
  (bnd (pu h28 (bin Tryd.prog .sub 71 true (.int .u32 64) (nth x26 0))) fun v29 h29 =>
  bnd (pu h29 (bin Tryd.prog .rem 71 true v29 (.int .u32 64))) fun v30 h30 =>
  bnd (pu h30 (bin Tryd.prog .shl 71 true v30 (.int .u64 16))) fun v31 h31 =>
  bnd (pu h31 (bin Tryd.prog .sub 71 true (.int .u32 63) (nth x26 0))) fun v32 h32 =>
  bnd (pu h32 (bin Tryd.prog .shl 71 true v32 (.int .u64 10))) fun v33 h33 =>
  bnd (pu h33 (bin Tryd.prog .or 71 false v31 v33)) fun v34 h34 =>
  finV [v34] h.length h34)
  (bnd (pu h28 (bin Tryd.prog .eql 3 true (nth x26 2) (.int .i64 13))) fun v35 h35 =>
  condA v35
  (bnd (pu h35 (bin Tryd.prog .shl 71 true (nth x26 0) (.int .u64 16))) fun v36 h36 =>
  bnd (pu h36 (bin Tryd.prog .or 71 true v36 (.int .u32 64512))) fun v37 h37 =>
  finV [v37] h.length h37)
  (bnd (pu h35 (bin Tryd.prog .eql 3 true (nth x26 2) (.int .i64 14))) fun v38 h38 =>
  condA v38
  (bnd (pu h38 (bin Tryd.prog .shl 71 true (nth x26 0) (.int .u64 16))) fun v39 h39 =>
  finV [v39] h.length h39)
  (bnd (pu h38 (bin Tryd.prog .eql 3 true (nth x26 2) (.int .i64 20))) fun v40 h40 =>
  condA v40
  (bnd (pu h40 (bin Tryd.prog .and 71 true (nth x26 0) (.int .u32 67108863))) fun v41 h41 =>
  finV [v41] h.length h41)
  (thenK (
  bnd (pu h40 (bin Tryd.prog .eql 3 true (nth x26 2) (.int .i64 21))) fun v42 h42 =>
  condA v42
  (some (.normal, [(nth x26 0), (nth x26 1), (nth x26 2), v42], h42))
  (bnd (pu h42 (bin Tryd.prog .eql 3 true (nth x26 2) (.int .i64 22))) fun v43 h43 =>
  condA v43
  (some (.normal, [(nth x26 0), (nth x26 1), (nth x26 2), v43], h43))
  (bnd (pu h43 (bin Tryd.prog .eql 3 true (nth x26 2) (.int .i64 23))) fun v44 h44 =>
  some (.normal, [(nth x26 0), (nth x26 1), (nth x26 2), v44], h44)))) fun e45 x45 h45 => exK e45
  (condA (nth x45 3)
  (bnd (pu h45 (bin Tryd.prog .and 71 true (nth x45 0) (.int .u32 524287))) fun v46 h46 =>
  bnd (pu h46 (bin Tryd.prog .shl 71 true v46 (.int .u64 5))) fun v47 h47 =>
  bnd (pu h47 (bin Tryd.prog .or 71 false (nth x45 1) v47)) fun v48 h48 =>
  finV [v48] h.length h48)
  (bnd (pu h45 (bin Tryd.prog .eql 3 true (nth x45 2) (.int .i64 24))) fun v49 h49 =>
  condA v49
  (bnd (pu h49 (bin Tryd.prog .shl 71 true (nth x45 0) (.int .u64 5))) fun v50 h50 =>
  finV [v50] h.length h50)
  (finV [(.int .u32 0)] h.length h49)))
  (fun i45 => if i45 = 0 then (finV [(.int .u32 0)] h.length h45) else (none))
  (finV [.undef] h.length h45)))))))
  (fun i26 => if i26 = 0 then (finV [(.int .u32 0)] h.length h26) else (none))
  (finV [.undef] h.length h26))))))
  (fun i11 => if i11 = 0 then (finV [(.int .u32 0)] h.length h11) else (none))
  (finV [.undef] h.length h11))
noncomputable def isa_number.f (G : Globs) : Nat → Den
  | 0 => fun _ _ => none
  | k + 1 => fun args h => arg1 args fun x0 => (isa_number.c G k (isa_number.f G k) x0 h)
theorem isa_number.step (G : Globs) (k : Nat) (x0 : AV) (h : AHeap) : isa_number.f G (k + 1) [x0] h = isa_number.c G k (isa_number.f G k) x0 h := rfl
/-! alembic/isa.Word: function 40 -/
noncomputable def isa_Word.ann : Ann := mkAnn [] [] [] []
noncomputable def isa_Word.env (G : Globs) (k : Nat) (self : Den) : List (Nat × Bool × Den) := [(70, true, isa_of.f G k), (71, true, isa_fair.f G k), (72, true, isa_number.f G k)]
noncomputable def isa_Word.c (G : Globs) (k : Nat) (self : Den) (x0 : AV) (h : AHeap) : Option (AV × AHeap) := outV (
  bnd (boxRoA x0 h) fun v0 h0 =>
  bnd (pu h0 (fieldAddrV 0 v0)) fun v1 h1 =>
  bnd (pu h1 (loadV G false 1 v1 h1)) fun v2 h2 =>
  bnd (pureCall (isa_of.f G k) [v2] h2) fun v3 h3 =>
  bnd (pu h3 (extractA v3 0)) fun v4 h4 =>
  bnd (pu h4 (extractA v3 1)) fun v5 h5 =>
  bnd (boxA 141 (.agg [(.str ⟨#[]⟩), (.int .u32 0), (.bool false), (.bool false), (.bool false), (.bool false), (.int .i64 0)]) h5) fun v6 h6 =>
  bnd (stS (storeV 7 v6 v4 h6)) fun v7 h7 =>
  bnd (pu h7 (un .not v5)) fun v8 h8 =>
  bnd (gd v8 false h8 (pu h8 (loadV G true 6 v0 h8))) fun v9 h9 =>
  bnd (gd v8 false h9 (pu h9 (loadV G true 7 v6 h9))) fun v10 h10 =>
  bnd (gd v8 false h10 (pureCall (isa_fair.f G k) [v9, v10] h10)) fun v11 h11 =>
  bnd (gd v8 false h11 (pu h11 (un .not v11))) fun v12 h12 =>
  bnd (pu h12 (pickA v8 (.bool true) v12)) fun v13 h13 =>
  condA v13
  (finV [(.int .u32 0), (.bool false)] h.length h13)
  (bnd (pu h13 (fieldAddrV 1 v6)) fun v14 h14 =>
  bnd (pu h14 (loadV G false 1 v14 h14)) fun v15 h15 =>
  bnd (pu h15 (fieldAddrV 1 v0)) fun v16 h16 =>
  bnd (pu h16 (loadV G false 1 v16 h16)) fun v17 h17 =>
  bnd (pu h17 (convInt .u32 v17)) fun v18 h18 =>
  bnd (pu h18 (bin Tryd.prog .or 71 false v15 v18)) fun v19 h19 =>
  bnd (pu h19 (fieldAddrV 2 v0)) fun v20 h20 =>
  bnd (pu h20 (loadV G false 1 v20 h20)) fun v21 h21 =>
  bnd (pu h21 (convInt .u32 v21)) fun v22 h22 =>
  bnd (pu h22 (bin Tryd.prog .shl 71 true v22 (.int .u64 5))) fun v23 h23 =>
  bnd (pu h23 (bin Tryd.prog .or 71 false v19 v23)) fun v24 h24 =>
  bnd (pu h24 (fieldAddrV 3 v0)) fun v25 h25 =>
  bnd (pu h25 (loadV G false 1 v25 h25)) fun v26 h26 =>
  bnd (pu h26 (convInt .u32 v26)) fun v27 h27 =>
  bnd (pu h27 (bin Tryd.prog .shl 71 true v27 (.int .u64 16))) fun v28 h28 =>
  bnd (pu h28 (bin Tryd.prog .or 71 false v24 v28)) fun v29 h29 =>
  bnd (pu h29 (loadV G true 6 v0 h29)) fun v30 h30 =>
  bnd (pureCall (isa_number.f G k) [v30] h30) fun v31 h31 =>
  bnd (pu h31 (bin Tryd.prog .or 71 false v29 v31)) fun v32 h32 =>
  finV [v32, (.bool true)] h.length h32))
noncomputable def isa_Word.f (G : Globs) : Nat → Den
  | 0 => fun _ _ => none
  | k + 1 => fun args h => arg1 args fun x0 => (isa_Word.c G k (isa_Word.f G k) x0 h)
theorem isa_Word.step (G : Globs) (k : Nat) (x0 : AV) (h : AHeap) : isa_Word.f G (k + 1) [x0] h = isa_Word.c G k (isa_Word.f G k) x0 h := rfl
/-! alembic/alembicref17.partsOf: function 79 -/
noncomputable def alembicref17_partsOf.ann : Ann := mkAnn [] [] [] [(34, [2, 3, 43]), (23, [2, 3, 26]), (19, [2, 3, 20]), (14, [2, 3, 16]), (11, [2, 3, 8]), (4, [2, 3, 4])]
noncomputable def alembicref17_partsOf.env (G : Globs) (k : Nat) (self : Den) : List (Nat × Bool × Den) := []
noncomputable def alembicref17_partsOf.c (G : Globs) (k : Nat) (self : Den) (x0 : AV) (h : AHeap) : Option (AV × AHeap) := outV (
  bnd (boxA 149 (.agg [(.bool false), (.bool false), (.bool false), (.bool false), (.int .i64 0)]) h) fun v0 h0 =>
  thenK (
  bnd (pu h0 (bin Tryd.prog .eql 3 true x0 (.int .i64 1))) fun v1 h1 =>
  condA v1
  (some (.normal, [v0, x0, v1], h1))
  (bnd (pu h1 (bin Tryd.prog .eql 3 true x0 (.int .i64 2))) fun v2 h2 =>
  some (.normal, [v0, x0, v2], h2))) fun e3 x3 h3 => exK e3
  (condA (nth x3 2)
  (bnd (pu h3 (buildSt [(0, 1), (1, 1), (2, 1), (3, 1), (4, 1)] [(.bool false), (.bool false), (.bool false), (.bool false), (.int .i64 0)] [(0, (.bool true)), (3, (.bool true)), (4, (.int .i64 16))])) fun v4 h4 =>
  bnd (stS (storeV 5 (nth x3 0) v4 h4)) fun v5 h5 =>
  finL [loadV G true 5 (nth x3 0) h5] h.length h5)
  (thenK (
  bnd (pu h3 (bin Tryd.prog .eql 3 true (nth x3 1) (.int .i64 3))) fun v6 h6 =>
  condA v6
  (some (.normal, [(nth x3 0), (nth x3 1), v6], h6))
  (bnd (pu h6 (bin Tryd.prog .eql 3 true (nth x3 1) (.int .i64 4))) fun v7 h7 =>
  condA v7
  (some (.normal, [(nth x3 0), (nth x3 1), v7], h7))
  (bnd (pu h7 (bin Tryd.prog .eql 3 true (nth x3 1) (.int .i64 5))) fun v8 h8 =>
  condA v8
  (some (.normal, [(nth x3 0), (nth x3 1), v8], h8))
  (bnd (pu h8 (bin Tryd.prog .eql 3 true (nth x3 1) (.int .i64 6))) fun v9 h9 =>
  condA v9
  (some (.normal, [(nth x3 0), (nth x3 1), v9], h9))
  (bnd (pu h9 (bin Tryd.prog .eql 3 true (nth x3 1) (.int .i64 7))) fun v10 h10 =>
  condA v10
  (some (.normal, [(nth x3 0), (nth x3 1), v10], h10))
  (bnd (pu h10 (bin Tryd.prog .eql 3 true (nth x3 1) (.int .i64 9))) fun v11 h11 =>
  some (.normal, [(nth x3 0), (nth x3 1), v11], h11))))))) fun e12 x12 h12 => exK e12
  (condA (nth x12 2)
  (bnd (pu h12 (buildSt [(0, 1), (1, 1), (2, 1), (3, 1), (4, 1)] [(.bool false), (.bool false), (.bool false), (.bool false), (.int .i64 0)] [(0, (.bool true)), (1, (.bool true)), (2, (.bool true))])) fun v13 h13 =>
  bnd (stS (storeV 5 (nth x12 0) v13 h13)) fun v14 h14 =>
  finL [loadV G true 5 (nth x12 0) h14] h.length h14)
  (thenK (
  bnd (pu h12 (bin Tryd.prog .eql 3 true (nth x12 1) (.int .i64 8))) fun v15 h15 =>
  condA v15
  (some (.normal, [(nth x12 0), (nth x12 1), v15], h15))
  (bnd (pu h15 (bin Tryd.prog .eql 3 true (nth x12 1) (.int .i64 16))) fun v16 h16 =>
  some (.normal, [(nth x12 0), (nth x12 1), v16], h16))) fun e17 x17 h17 => exK e17
  (condA (nth x17 2)
  (bnd (pu h17 (buildSt [(0, 1), (1, 1), (2, 1), (3, 1), (4, 1)] [(.bool false), (.bool false), (.bool false), (.bool false), (.int .i64 0)] [(0, (.bool true)), (1, (.bool true)), (2, (.bool true)), (3, (.bool true))])) fun v18 h18 =>
  bnd (stS (storeV 5 (nth x17 0) v18 h18)) fun v19 h19 =>
  finL [loadV G true 5 (nth x17 0) h19] h.length h19)
  (thenK (
  bnd (pu h17 (bin Tryd.prog .eql 3 true (nth x17 1) (.int .i64 10))) fun v20 h20 =>
  condA v20
  (some (.normal, [(nth x17 0), (nth x17 1), v20], h20))
  (bnd (pu h20 (bin Tryd.prog .eql 3 true (nth x17 1) (.int .i64 11))) fun v21 h21 =>
  condA v21
  (some (.normal, [(nth x17 0), (nth x17 1), v21], h21))
  (bnd (pu h21 (bin Tryd.prog .eql 3 true (nth x17 1) (.int .i64 18))) fun v22 h22 =>
  condA v22
  (some (.normal, [(nth x17 0), (nth x17 1), v22], h22))
  (bnd (pu h22 (bin Tryd.prog .eql 3 true (nth x17 1) (.int .i64 19))) fun v23 h23 =>
  some (.normal, [(nth x17 0), (nth x17 1), v23], h23))))) fun e24 x24 h24 => exK e24
  (condA (nth x24 2)
  (bnd (pu h24 (buildSt [(0, 1), (1, 1), (2, 1), (3, 1), (4, 1)] [(.bool false), (.bool false), (.bool false), (.bool false), (.int .i64 0)] [(0, (.bool true)), (1, (.bool true)), (4, (.int .i64 12))])) fun v25 h25 =>
  bnd (stS (storeV 5 (nth x24 0) v25 h25)) fun v26 h26 =>
  finL [loadV G true 5 (nth x24 0) h26] h.length h26)
  (thenK (
  bnd (pu h24 (bin Tryd.prog .eql 3 true (nth x24 1) (.int .i64 12))) fun v27 h27 =>
  condA v27
  (some (.normal, [(nth x24 0), (nth x24 1), v27], h27))
  (bnd (pu h27 (bin Tryd.prog .eql 3 true (nth x24 1) (.int .i64 13))) fun v28 h28 =>
  condA v28
  (some (.normal, [(nth x24 0), (nth x24 1), v28], h28))
  (bnd (pu h28 (bin Tryd.prog .eql 3 true (nth x24 1) (.int .i64 14))) fun v29 h29 =>
  some (.normal, [(nth x24 0), (nth x24 1), v29], h29)))) fun e30 x30 h30 => exK e30
  (condA (nth x30 2)
  (bnd (pu h30 (buildSt [(0, 1), (1, 1), (2, 1), (3, 1), (4, 1)] [(.bool false), (.bool false), (.bool false), (.bool false), (.int .i64 0)] [(0, (.bool true)), (1, (.bool true)), (4, (.int .i64 6))])) fun v31 h31 =>
  bnd (stS (storeV 5 (nth x30 0) v31 h31)) fun v32 h32 =>
  finL [loadV G true 5 (nth x30 0) h32] h.length h32)
  (bnd (pu h30 (bin Tryd.prog .eql 3 true (nth x30 1) (.int .i64 15))) fun v33 h33 =>
  condA v33
  (bnd (pu h33 (buildSt [(0, 1), (1, 1), (2, 1), (3, 1), (4, 1)] [(.bool false), (.bool false), (.bool false), (.bool false), (.int .i64 0)] [(1, (.bool true)), (2, (.bool true))])) fun v34 h34 =>
  bnd (stS (storeV 5 (nth x30 0) v34 h34)) fun v35 h35 =>
  finL [loadV G true 5 (nth x30 0) h35] h.length h35)
  (bnd (pu h33 (bin Tryd.prog .eql 3 true (nth x30 1) (.int .i64 17))) fun v36 h36 =>
  condA v36
  (bnd (pu h36 (buildSt [(0, 1), (1, 1), (2, 1), (3, 1), (4, 1)] [(.bool false), (.bool false), (.bool false), (.bool false), (.int .i64 0)] [(0, (.bool true)), (3, (.bool true))])) fun v37 h37 =>
  bnd (stS (storeV 5 (nth x30 0) v37 h37)) fun v38 h38 =>
  finL [loadV G true 5 (nth x30 0) h38] h.length h38)
  (bnd (pu h36 (bin Tryd.prog .eql 3 true (nth x30 1) (.int .i64 20))) fun v39 h39 =>
  condA v39
  (bnd (pu h39 (buildSt [(0, 1), (1, 1), (2, 1), (3, 1), (4, 1)] [(.bool false), (.bool false), (.bool false), (.bool false), (.int .i64 0)] [(4, (.int .i64 26))])) fun v40 h40 =>
  bnd (stS (storeV 5 (nth x30 0) v40 h40)) fun v41 h41 =>
  finL [loadV G true 5 (nth x30 0) h41] h.length h41)
  (bnd (pu h39 (bin Tryd.prog .eql 3 true (nth x30 1) (.int .i64 21))) fun v42 h42 =>
  condA v42
  (bnd (pu h42 (buildSt [(0, 1), (1, 1), (2, 1), (3, 1), (4, 1)] [(.bool false), (.bool false), (.bool false), (.bool false), (.int .i64 0)] [(3, (.bool true)), (4, (.int .i64 19))])) fun v43 h43 =>
  bnd (stS (storeV 5 (nth x30 0) v43 h43)) fun v44 h44 =>
  finL [loadV G true 5 (nth x30 0) h44] h.length h44)
  (thenK (
  bnd (pu h42 (bin Tryd.prog .eql 3 true (nth x30 1) (.int .i64 22))) fun v45 h45 =>
  condA v45
  (some (.normal, [(nth x30 0), (nth x30 1), v45], h45))
  (bnd (pu h45 (bin Tryd.prog .eql 3 true (nth x30 1) (.int .i64 23))) fun v46 h46 =>
  some (.normal, [(nth x30 0), (nth x30 1), v46], h46))) fun e47 x47 h47 => exK e47
  (condA (nth x47 2)
  (bnd (pu h47 (buildSt [(0, 1), (1, 1), (2, 1), (3, 1), (4, 1)] [(.bool false), (.bool false), (.bool false), (.bool false), (.int .i64 0)] [(0, (.bool true)), (4, (.int .i64 19))])) fun v48 h48 =>
  bnd (stS (storeV 5 (nth x47 0) v48 h48)) fun v49 h49 =>
  finL [loadV G true 5 (nth x47 0) h49] h.length h49)
  (bnd (pu h47 (bin Tryd.prog .eql 3 true (nth x47 1) (.int .i64 24))) fun v50 h50 =>
  condA v50
  (bnd (pu h50 (buildSt [(0, 1), (1, 1), (2, 1), (3, 1), (4, 1)] [(.bool false), (.bool false), (.bool false), (.bool false), (.int .i64 0)] [(4, (.int .i64 16))])) fun v51 h51 =>
  bnd (stS (storeV 5 (nth x47 0) v51 h51)) fun v52 h52 =>
  finL [loadV G true 5 (nth x47 0) h52] h.length h52)
  (bnd (pu h50 (buildSt [(0, 1), (1, 1), (2, 1), (3, 1), (4, 1)] [(.bool false), (.bool false), (.bool false), (.bool false), (.int .i64 0)] [])) fun v53 h53 =>
  bnd (stS (storeV 5 (nth x47 0) v53 h53)) fun v54 h54 =>
  finL [loadV G true 5 (nth x47 0) h54] h.length h54)))
  (fun i47 => if i47 = 0 then (bnd (pu h47 (buildSt [(0, 1), (1, 1), (2, 1), (3, 1), (4, 1)] [(.bool false), (.bool false), (.bool false), (.bool false), (.int .i64 0)] [])) fun v55 h55 =>
  bnd (stS (storeV 5 (nth x47 0) v55 h55)) fun v56 h56 =>
  finL [loadV G true 5 (nth x47 0) h56] h.length h56) else (none))
  (finL [loadV G true 5 (nth x47 0) h47] h.length h47)))))))
  (fun i30 => if i30 = 0 then (bnd (pu h30 (buildSt [(0, 1), (1, 1), (2, 1), (3, 1), (4, 1)] [(.bool false), (.bool false), (.bool false), (.bool false), (.int .i64 0)] [])) fun v57 h57 =>
  bnd (stS (storeV 5 (nth x30 0) v57 h57)) fun v58 h58 =>
  finL [loadV G true 5 (nth x30 0) h58] h.length h58) else (none))
  (finL [loadV G true 5 (nth x30 0) h30] h.length h30)))
  (fun i24 => if i24 = 0 then (bnd (pu h24 (buildSt [(0, 1), (1, 1), (2, 1), (3, 1), (4, 1)] [(.bool false), (.bool false), (.bool false), (.bool false), (.int .i64 0)] [])) fun v59 h59 =>
  bnd (stS (storeV 5 (nth x24 0) v59 h59)) fun v60 h60 =>
  finL [loadV G true 5 (nth x24 0) h60] h.length h60) else (none))
  (finL [loadV G true 5 (nth x24 0) h24] h.length h24)))
  (fun i17 => if i17 = 0 then (bnd (pu h17 (buildSt [(0, 1), (1, 1), (2, 1), (3, 1), (4, 1)] [(.bool false), (.bool false), (.bool false), (.bool false), (.int .i64 0)] [])) fun v61 h61 =>
  bnd (stS (storeV 5 (nth x17 0) v61 h61)) fun v62 h62 =>
  finL [loadV G true 5 (nth x17 0) h62] h.length h62) else (none))
  (finL [loadV G true 5 (nth x17 0) h17] h.length h17)))
  (fun i12 => if i12 = 0 then (bnd (pu h12 (buildSt [(0, 1), (1, 1), (2, 1), (3, 1), (4, 1)] [(.bool false), (.bool false), (.bool false), (.bool false), (.int .i64 0)] [])) fun v63 h63 =>
  bnd (stS (storeV 5 (nth x12 0) v63 h63)) fun v64 h64 =>
  finL [loadV G true 5 (nth x12 0) h64] h.length h64) else (none))
  (finL [loadV G true 5 (nth x12 0) h12] h.length h12)))
  (fun i3 => if i3 = 0 then (bnd (pu h3 (buildSt [(0, 1), (1, 1), (2, 1), (3, 1), (4, 1)] [(.bool false), (.bool false), (.bool false), (.bool false), (.int .i64 0)] [])) fun v65 h65 =>
  bnd (stS (storeV 5 (nth x3 0) v65 h65)) fun v66 h66 =>
  finL [loadV G true 5 (nth x3 0) h66] h.length h66) else (none))
  (finL [loadV G true 5 (nth x3 0) h3] h.length h3))
noncomputable def alembicref17_partsOf.f (G : Globs) : Nat → Den
  | 0 => fun _ _ => none
  | k + 1 => fun args h => arg1 args fun x0 => (alembicref17_partsOf.c G k (alembicref17_partsOf.f G k) x0 h)
theorem alembicref17_partsOf.step (G : Globs) (k : Nat) (x0 : AV) (h : AHeap) : alembicref17_partsOf.f G (k + 1) [x0] h = alembicref17_partsOf.c G k (alembicref17_partsOf.f G k) x0 h := rfl
/-! alembic/alembicref17.reg: function 99 -/
noncomputable def alembicref17_reg.ann : Ann := mkAnn [] [] [] []
noncomputable def alembicref17_reg.env (G : Globs) (k : Nat) (self : Den) : List (Nat × Bool × Den) := []
noncomputable def alembicref17_reg.c (G : Globs) (k : Nat) (self : Den) (x0 x1 : AV) (h : AHeap) : Option (AV × AHeap) := outV (
  bnd (pu h (bin Tryd.prog .eql 3 true x0 (.int .i64 0))) fun v0 h0 =>
  bnd (gd v0 false h0 (some (x1, h0))) fun v1 h1 =>
  bnd (gd v0 false h1 (some (v1, h1))) fun v2 h2 =>
  bnd (gd v2 true h2 (some (x0, h2))) fun v3 h3 =>
  bnd (gd v2 true h3 (pu h3 (bin Tryd.prog .gtr 3 true v3 (.int .i64 0)))) fun v4 h4 =>
  bnd (gd v0 false h4 (pu h4 (pickA v2 v4 (.bool false)))) fun v5 h5 =>
  bnd (gd v0 false h5 (some (v5, h5))) fun v6 h6 =>
  bnd (gd v6 true h6 (some (x0, h6))) fun v7 h7 =>
  bnd (gd v6 true h7 (pu h7 (bin Tryd.prog .leq 3 true v7 (.int .i64 31)))) fun v8 h8 =>
  bnd (gd v0 false h8 (pu h8 (pickA v6 v8 (.bool false)))) fun v9 h9 =>
  bnd (pu h9 (pickA v0 (.bool true) v9)) fun v10 h10 =>
  finV [v10] h.length h10)
noncomputable def alembicref17_reg.f (G : Globs) : Nat → Den
  | 0 => fun _ _ => none
  | k + 1 => fun args h => arg2 args fun x0 x1 => (alembicref17_reg.c G k (alembicref17_reg.f G k) x0 x1 h)
theorem alembicref17_reg.step (G : Globs) (k : Nat) (x0 x1 : AV) (h : AHeap) : alembicref17_reg.f G (k + 1) [x0, x1] h = alembicref17_reg.c G k (alembicref17_reg.f G k) x0 x1 h := rfl
/-! alembic/alembicref17.cond: function 100 -/
noncomputable def alembicref17_cond.ann : Ann := mkAnn [] [] [] []
noncomputable def alembicref17_cond.env (G : Globs) (k : Nat) (self : Den) : List (Nat × Bool × Den) := []
noncomputable def alembicref17_cond.c (G : Globs) (k : Nat) (self : Den) (x0 : AV) (h : AHeap) : Option (AV × AHeap) := outV (
  bnd (pu h (bin Tryd.prog .geq 3 true x0 (.int .i64 0))) fun v0 h0 =>
  bnd (gd v0 true h0 (some (x0, h0))) fun v1 h1 =>
  bnd (gd v0 true h1 (pu h1 (bin Tryd.prog .leq 3 true v1 (.int .i64 3)))) fun v2 h2 =>
  bnd (pu h2 (pickA v0 v2 (.bool false))) fun v3 h3 =>
  bnd (gd v3 false h3 (some (x0, h3))) fun v4 h4 =>
  bnd (gd v3 false h4 (pu h4 (bin Tryd.prog .eql 3 true v4 (.int .i64 8)))) fun v5 h5 =>
  bnd (pu h5 (pickA v3 (.bool true) v5)) fun v6 h6 =>
  bnd (gd v6 false h6 (some (x0, h6))) fun v7 h7 =>
  bnd (gd v6 false h7 (pu h7 (bin Tryd.prog .eql 3 true v7 (.int .i64 9)))) fun v8 h8 =>
  bnd (pu h8 (pickA v6 (.bool true) v8)) fun v9 h9 =>
  finV [v9] h.length h9)
noncomputable def alembicref17_cond.f (G : Globs) : Nat → Den
  | 0 => fun _ _ => none
  | k + 1 => fun args h => arg1 args fun x0 => (alembicref17_cond.c G k (alembicref17_cond.f G k) x0 h)
theorem alembicref17_cond.step (G : Globs) (k : Nat) (x0 : AV) (h : AHeap) : alembicref17_cond.f G (k + 1) [x0] h = alembicref17_cond.c G k (alembicref17_cond.f G k) x0 h := rfl
/-! alembic/alembicref17.far: function 101 -/
noncomputable def alembicref17_far.ann : Ann := mkAnn [] [] [] []
noncomputable def alembicref17_far.env (G : Globs) (k : Nat) (self : Den) : List (Nat × Bool × Den) := []
noncomputable def alembicref17_far.c (G : Globs) (k : Nat) (self : Den) (x0 x1 : AV) (h : AHeap) : Option (AV × AHeap) := outV (
  bnd (pu h (bin Tryd.prog .sub 3 true x1 (.int .i64 1))) fun v0 h0 =>
  bnd (pu h0 (convInt .u64 v0)) fun v1 h1 =>
  bnd (pu h1 (bin Tryd.prog .shl 3 true (.int .i64 (-1)) v1)) fun v2 h2 =>
  bnd (pu h2 (bin Tryd.prog .geq 3 false x0 v2)) fun v3 h3 =>
  bnd (gd v3 true h3 (some (x0, h3))) fun v4 h4 =>
  bnd (gd v3 true h4 (some (x1, h4))) fun v5 h5 =>
  bnd (gd v3 true h5 (pu h5 (bin Tryd.prog .sub 3 true v5 (.int .i64 1)))) fun v6 h6 =>
  bnd (gd v3 true h6 (pu h6 (convInt .u64 v6))) fun v7 h7 =>
  bnd (gd v3 true h7 (pu h7 (bin Tryd.prog .shl 3 true (.int .i64 1) v7))) fun v8 h8 =>
  bnd (gd v3 true h8 (pu h8 (bin Tryd.prog .lss 3 false v4 v8))) fun v9 h9 =>
  bnd (pu h9 (pickA v3 v9 (.bool false))) fun v10 h10 =>
  finV [v10] h.length h10)
noncomputable def alembicref17_far.f (G : Globs) : Nat → Den
  | 0 => fun _ _ => none
  | k + 1 => fun args h => arg2 args fun x0 x1 => (alembicref17_far.c G k (alembicref17_far.f G k) x0 x1 h)
theorem alembicref17_far.step (G : Globs) (k : Nat) (x0 x1 : AV) (h : AHeap) : alembicref17_far.f G (k + 1) [x0, x1] h = alembicref17_far.c G k (alembicref17_far.f G k) x0 x1 h := rfl
/-! alembic/alembicref17.right: function 78 -/
noncomputable def alembicref17_right.ann : Ann := mkAnn [] [] [] [(25, [1, 2, 3]), (23, [1, 3, 84]), (19, [1, 3, 72, 73]), (16, [1, 2, 3]), (14, [1, 3, 63]), (9, [1, 3, 45, 52])]
noncomputable def alembicref17_right.env (G : Globs) (k : Nat) (self : Den) : List (Nat × Bool × Den) := [(79, true, alembicref17_partsOf.f G k), (99, true, alembicref17_reg.f G k), (100, true, alembicref17_cond.f G k), (101, true, alembicref17_far.f G k)]
noncomputable def alembicref17_right.c (G : Globs) (k : Nat) (self : Den) (x0 : AV) (h : AHeap) : Option (AV × AHeap) := outV (
  bnd (boxRoA x0 h) fun v0 h0 =>
  bnd (pu h0 (fieldAddrV 0 v0)) fun v1 h1 =>
  bnd (pu h1 (loadV G false 1 v1 h1)) fun v2 h2 =>
  bnd (pureCall (alembicref17_partsOf.f G k) [v2] h2) fun v3 h3 =>
  bnd (boxA 149 (.agg [(.bool false), (.bool false), (.bool false), (.bool false), (.int .i64 0)]) h3) fun v4 h4 =>
  bnd (stS (storeV 5 v4 v3 h4)) fun v5 h5 =>
  bnd (pu h5 (fieldAddrV 0 v4)) fun v6 h6 =>
  bnd (pu h6 (loadV G false 1 v6 h6)) fun v7 h7 =>
  bnd (pu h7 (un .not v7)) fun v8 h8 =>
  bnd (gd v8 true h8 (pu h8 (fieldAddrV 1 v4))) fun v9 h9 =>
  bnd (gd v8 true h9 (pu h9 (loadV G false 1 v9 h9))) fun v10 h10 =>
  bnd (gd v8 true h10 (pu h10 (un .not v10))) fun v11 h11 =>
  bnd (pu h11 (pickA v8 v11 (.bool false))) fun v12 h12 =>
  bnd (gd v12 true h12 (pu h12 (fieldAddrV 4 v4))) fun v13 h13 =>
  bnd (gd v12 true h13 (pu h13 (loadV G false 1 v13 h13))) fun v14 h14 =>
  bnd (gd v12 true h14 (pu h14 (bin Tryd.prog .eql 3 true v14 (.int .i64 0)))) fun v15 h15 =>
  bnd (pu h15 (pickA v12 v15 (.bool false))) fun v16 h16 =>
  bnd (gd v16 false h16 (pu h16 (fieldAddrV 1 v0))) fun v17 h17 =>
  bnd (gd v16 false h17 (pu h17 (loadV G false 1 v17 h17))) fun v18 h18 =>
  bnd (gd v16 false h18 (pu h18 (fieldAddrV 0 v4))) fun v19 h19 =>
  bnd (gd v16 false h19 (pu h19 (loadV G false 1 v19 h19))) fun v20 h20 =>
  bnd (gd v16 false h20 (pureCall (alembicref17_reg.f G k) [v18, v20] h20)) fun v21 h21 =>
  bnd (gd v16 false h21 (pu h21 (un .not v21))) fun v22 h22 =>
  bnd (pu h22 (pickA v16 (.bool true) v22)) fun v23 h23 =>
  bnd (gd v23 false h23 (pu h23 (fieldAddrV 2 v0))) fun v24 h24 =>
  bnd (gd v23 false h24 (pu h24 (loadV G false 1 v24 h24))) fun v25 h25 =>
  bnd (gd v23 false h25 (pu h25 (fieldAddrV 1 v4))) fun v26 h26 =>
  bnd (gd v23 false h26 (pu h26 (loadV G false 1 v26 h26))) fun v27 h27 =>
  bnd (gd v23 false h27 (pureCall (alembicref17_reg.f G k) [v25, v27] h27)) fun v28 h28 =>
  bnd (gd v23 false h28 (pu h28 (un .not v28))) fun v29 h29 =>
  bnd (pu h29 (pickA v23 (.bool true) v29)) fun v30 h30 =>
  bnd (gd v30 false h30 (pu h30 (fieldAddrV 3 v0))) fun v31 h31 =>
  bnd (gd v30 false h31 (pu h31 (loadV G false 1 v31 h31))) fun v32 h32 =>
  bnd (gd v30 false h32 (pu h32 (fieldAddrV 2 v4))) fun v33 h33 =>
  bnd (gd v30 false h33 (pu h33 (loadV G false 1 v33 h33))) fun v34 h34 =>
  bnd (gd v30 false h34 (pureCall (alembicref17_reg.f G k) [v32, v34] h34)) fun v35 h35 =>
  bnd (gd v30 false h35 (pu h35 (un .not v35))) fun v36 h36 =>
  bnd (pu h36 (pickA v30 (.bool true) v36)) fun v37 h37 =>
  condA v37
  (finV [(.bool false)] h.length h37)
  (thenK (
  bnd (pu h37 (fieldAddrV 0 v0)) fun v38 h38 =>
  bnd (pu h38 (loadV G false 1 v38 h38)) fun v39 h39 =>
  thenK (
  bnd (pu h39 (bin Tryd.prog .eql 3 true v39 (.int .i64 1))) fun v40 h40 =>
  condA v40
  (some (.normal, [v0, v4, v39, v40], h40))
  (bnd (pu h40 (bin Tryd.prog .eql 3 true v39 (.int .i64 2))) fun v41 h41 =>
  some (.normal, [v0, v4, v39, v41], h41))) fun e42 x42 h42 => exK e42
  (condA (nth x42 3)
  (bnd (pu h42 (fieldAddrV 4 (nth x42 0))) fun v43 h43 =>
  bnd (pu h43 (loadV G false 1 v43 h43)) fun v44 h44 =>
  bnd (pu h44 (bin Tryd.prog .lss 3 true v44 (.int .i64 0))) fun v45 h45 =>
  bnd (gd v45 false h45 (pu h45 (fieldAddrV 4 (nth x42 0)))) fun v46 h46 =>
  bnd (gd v45 false h46 (pu h46 (loadV G false 1 v46 h46))) fun v47 h47 =>
  bnd (gd v45 false h47 (pu h47 (bin Tryd.prog .gtr 3 true v47 (.int .i64 3)))) fun v48 h48 =>
  bnd (pu h48 (pickA v45 (.bool true) v48)) fun v49 h49 =>
  condA v49
  (some (.ret, [(nth x42 0), (.bool false), (nth x42 1)], h49))
  (some (.normal, [(nth x42 0), .undef, (nth x42 1)], h49)))
  (thenK (
  bnd (pu h42 (bin Tryd.prog .eql 3 true (nth x42 2) (.int .i64 16))) fun v50 h50 =>
  condA v50
  (some (.normal, [(nth x42 0), (nth x42 1), v50], h50))
  (bnd (pu h50 (bin Tryd.prog .eql 3 true (nth x42 2) (.int .i64 17))) fun v51 h51 =>
  condA v51
  (some (.normal, [(nth x42 0), (nth x42 1), v51], h51))
  (bnd (pu h51 (bin Tryd.prog .eql 3 true (nth x42 2) (.int .i64 21))) fun v52 h52 =>
  some (.normal, [(nth x42 0), (nth x42 1), v52], h52)))) fun e53 x53 h53 => exK e53
  (condA (nth x53 2)
  (bnd (pu h53 (fieldAddrV 4 (nth x53 0))) fun v54 h54 =>
  bnd (pu h54 (loadV G false 1 v54 h54)) fun v55 h55 =>
  bnd (pureCall (alembicref17_cond.f G k) [v55] h55) fun v56 h56 =>
  bnd (pu h56 (un .not v56)) fun v57 h57 =>
  condA v57
  (some (.ret, [(nth x53 0), (.bool false), (nth x53 1)], h57))
  (some (.normal, [(nth x53 0), .undef, (nth x53 1)], h57)))
  (bnd (pu h53 (fieldAddrV 4 (nth x53 0))) fun v58 h58 =>
  bnd (pu h58 (loadV G false 1 v58 h58)) fun v59 h59 =>
  bnd (pu h59 (fieldAddrV 3 (nth x53 1))) fun v60 h60 =>
  bnd (pu h60 (loadV G false 1 v60 h60)) fun v61 h61 =>
  bnd (pureCall (alembicref17_reg.f G k) [v59, v61] h61) fun v62 h62 =>
  bnd (pu h62 (un .not v62)) fun v63 h63 =>
  condA v63
  (some (.ret, [(nth x53 0), (.bool false), (nth x53 1)], h63))
  (some (.normal, [(nth x53 0), .undef, (nth x53 1)], h63))))
  (fun i53 => if i53 = 0 then (some (.normal, [(nth x53 0), .undef, (nth x53 1)], h53)) else (some (.exit i53, [(nth x53 0), .undef, (nth x53 1)], h53)))
  (some (.ret, [(nth x53 0), .undef, (nth x53 1)], h53))))
  (fun i42 => if i42 = 0 then (some (.normal, [(nth x42 0), .undef, (nth x42 1)], h42)) else (some (.exit i42, [(nth x42 0), .undef, (nth x42 1)], h42)))
  (some (.ret, [(nth x42 0), .undef, (nth x42 1)], h42))) fun e64 x64 h64 => exK e64
  (thenK (
  bnd (pu h64 (fieldAddrV 0 (nth x64 0))) fun v65 h65 =>
  bnd (pu h65 (loadV G false 1 v65 h65)) fun v66 h66 =>
  thenK (
  bnd (pu h66 (bin Tryd.prog .eql 3 true v66 (.int .i64 10))) fun v67 h67 =>
  condA v67
  (some (.normal, [(nth x64 0), (nth x64 2), v66, v67], h67))
  (bnd (pu h67 (bin Tryd.prog .eql 3 true v66 (.int .i64 11))) fun v68 h68 =>
  some (.normal, [(nth x64 0), (nth x64 2), v66, v68], h68))) fun e69 x69 h69 => exK e69
  (condA (nth x69 3)
  (bnd (pu h69 (fieldAddrV 1 (nth x69 0))) fun v70 h70 =>
  bnd (pu h70 (loadV G false 1 v70 h70)) fun v71 h71 =>
  bnd (pu h71 (bin Tryd.prog .eql 3 true v71 (.int .i64 31))) fun v72 h72 =>
  bnd (gd v72 false h72 (pu h72 (fieldAddrV 2 (nth x69 0)))) fun v73 h73 =>
  bnd (gd v72 false h73 (pu h73 (loadV G false 1 v73 h73))) fun v74 h74 =>
  bnd (gd v72 false h74 (pu h74 (bin Tryd.prog .eql 3 true v74 (.int .i64 31)))) fun v75 h75 =>
  bnd (pu h75 (pickA v72 (.bool true) v75)) fun v76 h76 =>
  condA v76
  (some (.ret, [(nth x69 0), (.bool false), (nth x69 1)], h76))
  (some (.normal, [(nth x69 0), .undef, (nth x69 1)], h76)))
  (thenK (
  bnd (pu h69 (bin Tryd.prog .eql 3 true (nth x69 2) (.int .i64 18))) fun v77 h77 =>
  condA v77
  (some (.normal, [(nth x69 0), (nth x69 1), v77], h77))
  (bnd (pu h77 (bin Tryd.prog .eql 3 true (nth x69 2) (.int .i64 19))) fun v78 h78 =>
  some (.normal, [(nth x69 0), (nth x69 1), v78], h78))) fun e79 x79 h79 => exK e79
  (condA (nth x79 2)
  (bnd (pu h79 (fieldAddrV 2 (nth x79 0))) fun v80 h80 =>
  bnd (pu h80 (loadV G false 1 v80 h80)) fun v81 h81 =>
  bnd (pu h81 (bin Tryd.prog .eql 3 true v81 (.int .i64 31))) fun v82 h82 =>
  condA v82
  (some (.ret, [(nth x79 0), (.bool false), (nth x79 1)], h82))
  (some (.normal, [(nth x79 0), .undef, (nth x79 1)], h82)))
  (some (.normal, [(nth x79 0), .undef, (nth x79 1)], h79)))
  (fun i79 => if i79 = 1 then (some (.normal, [(nth x79 0), .undef, (nth x79 1)], h79)) else (some (.exit i79, [(nth x79 0), .undef, (nth x79 1)], h79)))
  (some (.ret, [(nth x79 0), .undef, (nth x79 1)], h79))))
  (fun i69 => if i69 = 1 then (some (.normal, [(nth x69 0), .undef, (nth x69 1)], h69)) else (some (.exit i69, [(nth x69 0), .undef, (nth x69 1)], h69)))
  (some (.ret, [(nth x69 0), .undef, (nth x69 1)], h69))) fun e83 x83 h83 => exK e83
  (bnd (pu h83 (fieldAddrV 4 (nth x83 2))) fun v84 h84 =>
  bnd (pu h84 (loadV G false 1 v84 h84)) fun v85 h85 =>
  bnd (pu h85 (bin Tryd.prog .eql 3 true v85 (.int .i64 19))) fun v86 h86 =>
  bnd (gd v86 false h86 (pu h86 (fieldAddrV 4 (nth x83 2)))) fun v87 h87 =>
  bnd (gd v86 false h87 (pu h87 (loadV G false 1 v87 h87))) fun v88 h88 =>
  bnd (gd v86 false h88 (pu h88 (bin Tryd.prog .eql 3 true v88 (.int .i64 26)))) fun v89 h89 =>
  bnd (pu h89 (pickA v86 (.bool true) v89)) fun v90 h90 =>
  condA v90
  (bnd (pu h90 (fieldAddrV 5 (nth x83 0))) fun v91 h91 =>
  bnd (pu h91 (loadV G false 1 v91 h91)) fun v92 h92 =>
  bnd (pu h92 (fieldAddrV 4 (nth x83 2))) fun v93 h93 =>
  bnd (pu h93 (loadV G false 1 v93 h93)) fun v94 h94 =>
  bnd (pureCall (alembicref17_far.f G k) [v92, v94] h94) fun v95 h95 =>
  finV [v95] h.length h95)
  (bnd (pu h90 (fieldAddrV 5 (nth x83 0))) fun v96 h96 =>
  bnd (pu h96 (loadV G false 1 v96 h96)) fun v97 h97 =>
  bnd (pu h97 (bin Tryd.prog .geq 3 true v97 (.int .i64 0))) fun v98 h98 =>
  bnd (gd v98 true h98 (pu h98 (fieldAddrV 5 (nth x83 0)))) fun v99 h99 =>
  bnd (gd v98 true h99 (pu h99 (loadV G false 1 v99 h99))) fun v100 h100 =>
  bnd (gd v98 true h100 (pu h100 (fieldAddrV 4 (nth x83 2)))) fun v101 h101 =>
  bnd (gd v98 true h101 (pu h101 (loadV G false 1 v101 h101))) fun v102 h102 =>
  bnd (gd v98 true h102 (pu h102 (convInt .u64 v102))) fun v103 h103 =>
  bnd (gd v98 true h103 (pu h103 (bin Tryd.prog .shl 3 true (.int .i64 1) v103))) fun v104 h104 =>
  bnd (gd v98 true h104 (pu h104 (bin Tryd.prog .lss 3 false v100 v104))) fun v105 h105 =>
  bnd (pu h105 (pickA v98 v105 (.bool false))) fun v106 h106 =>
  finV [v106] h.length h106))
  (fun i83 => none)
  (finV [(nth x83 1)] h.length h83))
  (fun i64 => none)
  (finV [(nth x64 1)] h.length h64)))
noncomputable def alembicref17_right.f (G : Globs) : Nat → Den
  | 0 => fun _ _ => none
  | k + 1 => fun args h => arg1 args fun x0 => (alembicref17_right.c G k (alembicref17_right.f G k) x0 h)
theorem alembicref17_right.step (G : Globs) (k : Nat) (x0 : AV) (h : AHeap) : alembicref17_right.f G (k + 1) [x0] h = alembicref17_right.c G k (alembicref17_right.f G k) x0 h := rfl
/-! alembic/alembicref17.base: function 80 -/
noncomputable def alembicref17_base.ann : Ann := mkAnn [] [] [] [(26, [3, 26])]
noncomputable def alembicref17_base.env (G : Globs) (k : Nat) (self : Den) : List (Nat × Bool × Den) := []
noncomputable def alembicref17_base.c (G : Globs) (k : Nat) (self : Den) (x0 : AV) (h : AHeap) : Option (AV × AHeap) := outV (
  bnd (pu h (bin Tryd.prog .eql 3 true x0 (.int .i64 1))) fun v0 h0 =>
  condA v0
  (finV [(.int .u32 3531603968)] h.length h0)
  (bnd (pu h0 (bin Tryd.prog .eql 3 true x0 (.int .i64 2))) fun v1 h1 =>
  condA v1
  (finV [(.int .u32 4068474880)] h.length h1)
  (bnd (pu h1 (bin Tryd.prog .eql 3 true x0 (.int .i64 3))) fun v2 h2 =>
  condA v2
  (finV [(.int .u32 2332033024)] h.length h2)
  (bnd (pu h2 (bin Tryd.prog .eql 3 true x0 (.int .i64 4))) fun v3 h3 =>
  condA v3
  (finV [(.int .u32 3405774848)] h.length h3)
  (bnd (pu h3 (bin Tryd.prog .eql 3 true x0 (.int .i64 5))) fun v4 h4 =>
  condA v4
  (finV [(.int .u32 2315255808)] h.length h4)
  (bnd (pu h4 (bin Tryd.prog .eql 3 true x0 (.int .i64 6))) fun v5 h5 =>
  condA v5
  (finV [(.int .u32 2852126720)] h.length h5)
  (bnd (pu h5 (bin Tryd.prog .eql 3 true x0 (.int .i64 7))) fun v6 h6 =>
  condA v6
  (finV [(.int .u32 3388997632)] h.length h6)
  (bnd (pu h6 (bin Tryd.prog .eql 3 true x0 (.int .i64 8))) fun v7 h7 =>
  condA v7
  (finV [(.int .u32 2600468480)] h.length h7)
  (bnd (pu h7 (bin Tryd.prog .eql 3 true x0 (.int .i64 9))) fun v8 h8 =>
  condA v8
  (finV [(.int .u32 2613083136)] h.length h8)
  (bnd (pu h8 (bin Tryd.prog .eql 3 true x0 (.int .i64 10))) fun v9 h9 =>
  condA v9
  (finV [(.int .u32 2432696320)] h.length h9)
  (bnd (pu h9 (bin Tryd.prog .eql 3 true x0 (.int .i64 11))) fun v10 h10 =>
  condA v10
  (finV [(.int .u32 3506438144)] h.length h10)
  (thenK (
  bnd (pu h10 (bin Tryd.prog .eql 3 true x0 (.int .i64 12))) fun v11 h11 =>
  condA v11
  (some (.normal, [x0, v11], h11))
  (bnd (pu h11 (bin Tryd.prog .eql 3 true x0 (.int .i64 13))) fun v12 h12 =>
  some (.normal, [x0, v12], h12))) fun e13 x13 h13 => exK e13
  (condA (nth x13 1)
  (finV [(.int .u32 3544186880)] h.length h13)
  (bnd (pu h13 (bin Tryd.prog .eql 3 true (nth x13 0) (.int .i64 14))) fun v14 h14 =>
  condA v14
  (finV [(.int .u32 2470509568)] h.length h14)
  (bnd (pu h14 (bin Tryd.prog .eql 3 true (nth x13 0) (.int .i64 15))) fun v15 h15 =>
  condA v15
  (finV [(.int .u32 3942645791)] h.length h15)
  (bnd (pu h15 (bin Tryd.prog .eql 3 true (nth x13 0) (.int .i64 16))) fun v16 h16 =>
  condA v16
  (finV [(.int .u32 2592079872)] h.length h16)
  (bnd (pu h16 (bin Tryd.prog .eql 3 true (nth x13 0) (.int .i64 17))) fun v17 h17 =>
  condA v17
  (finV [(.int .u32 2594113504)] h.length h17)
  (bnd (pu h17 (bin Tryd.prog .eql 3 true (nth x13 0) (.int .i64 18))) fun v18 h18 =>
  condA v18
  (finV [(.int .u32 4181721088)] h.length h18)
  (bnd (pu h18 (bin Tryd.prog .eql 3 true (nth x13 0) (.int .i64 19))) fun v19 h19 =>
  condA v19
  (finV [(.int .u32 4177526784)] h.length h19)
  (bnd (pu h19 (bin Tryd.prog .eql 3 true (nth x13 0) (.int .i64 20))) fun v20 h20 =>
  condA v20
  (finV [(.int .u32 335544320)] h.length h20)
  (bnd (pu h20 (bin Tryd.prog .eql 3 true (nth x13 0) (.int .i64 21))) fun v21 h21 =>
  condA v21
  (finV [(.int .u32 1409286144)] h.length h21)
  (bnd (pu h21 (bin Tryd.prog .eql 3 true (nth x13 0) (.int .i64 22))) fun v22 h22 =>
  condA v22
  (finV [(.int .u32 3019898880)] h.length h22)
  (bnd (pu h22 (bin Tryd.prog .eql 3 true (nth x13 0) (.int .i64 23))) fun v23 h23 =>
  condA v23
  (finV [(.int .u32 3036676096)] h.length h23)
  (bnd (pu h23 (bin Tryd.prog .eql 3 true (nth x13 0) (.int .i64 24))) fun v24 h24 =>
  condA v24
  (finV [(.int .u32 3560964096)] h.length h24)
  (finV [(.int .u32 0)] h.length h24)))))))))))))
  (fun i13 => if i13 = 0 then (finV [(.int .u32 0)] h.length h13) else (none))
  (finV [.undef] h.length h13)))))))))))))
noncomputable def alembicref17_base.f (G : Globs) : Nat → Den
  | 0 => fun _ _ => none
  | k + 1 => fun args h => arg1 args fun x0 => (alembicref17_base.c G k (alembicref17_base.f G k) x0 h)
/-! alembic/alembicref17.Word: function 55 -/
noncomputable def alembicref17_Word.ann : Ann := mkAnn [] [] [] [(18, [1, 4, 5, 6]), (9, [1, 4, 5, 6, 34, 35])]
noncomputable def alembicref17_Word.env (G : Globs) (k : Nat) (self : Den) : List (Nat × Bool × Den) := [(78, true, alembicref17_right.f G k), (79, true, alembicref17_partsOf.f G k), (80, true, alembicref17_base.f G k)]
noncomputable def alembicref17_Word.c (G : Globs) (k : Nat) (self : Den) (x0 : AV) (h : AHeap) : Option (AV × AHeap) := outV (
  bnd (boxRoA x0 h) fun v0 h0 =>
  bnd (pu h0 (loadV G true 6 v0 h0)) fun v1 h1 =>
  bnd (pureCall (alembicref17_right.f G k) [v1] h1) fun v2 h2 =>
  bnd (pu h2 (un .not v2)) fun v3 h3 =>
  condA v3
  (finV [(.int .u32 0), (.bool false)] h.length h3)
  (bnd (pu h3 (fieldAddrV 0 v0)) fun v4 h4 =>
  bnd (pu h4 (loadV G false 1 v4 h4)) fun v5 h5 =>
  bnd (pureCall (alembicref17_partsOf.f G k) [v5] h5) fun v6 h6 =>
  bnd (boxA 149 (.agg [(.bool false), (.bool false), (.bool false), (.bool false), (.int .i64 0)]) h6) fun v7 h7 =>
  bnd (stS (storeV 5 v7 v6 h7)) fun v8 h8 =>
  bnd (pu h8 (fieldAddrV 0 v0)) fun v9 h9 =>
  bnd (pu h9 (loadV G false 1 v9 h9)) fun v10 h10 =>
  bnd (pureCall (alembicref17_base.f G k) [v10] h10) fun v11 h11 =>
  bnd (pu h11 (fieldAddrV 1 v0)) fun v12 h12 =>
  bnd (pu h12 (loadV G false 1 v12 h12)) fun v13 h13 =>
  bnd (pu h13 (convInt .u32 v13)) fun v14 h14 =>
  bnd (pu h14 (bin Tryd.prog .or 71 false v11 v14)) fun v15 h15 =>
  bnd (pu h15 (fieldAddrV 2 v0)) fun v16 h16 =>
  bnd (pu h16 (loadV G false 1 v16 h16)) fun v17 h17 =>
  bnd (pu h17 (convInt .u32 v17)) fun v18 h18 =>
  bnd (pu h18 (bin Tryd.prog .shl 71 true v18 (.int .u64 5))) fun v19 h19 =>
  bnd (pu h19 (bin Tryd.prog .or 71 false v15 v19)) fun v20 h20 =>
  bnd (pu h20 (fieldAddrV 3 v0)) fun v21 h21 =>
  bnd (pu h21 (loadV G false 1 v21 h21)) fun v22 h22 =>
  bnd (pu h22 (convInt .u32 v22)) fun v23 h23 =>
  bnd (pu h23 (bin Tryd.prog .shl 71 true v23 (.int .u64 16))) fun v24 h24 =>
  bnd (pu h24 (bin Tryd.prog .or 71 false v20 v24)) fun v25 h25 =>
  bnd (pu h25 (fieldAddrV 5 v0)) fun v26 h26 =>
  bnd (pu h26 (loadV G false 1 v26 h26)) fun v27 h27 =>
  bnd (pu h27 (convInt .u32 v27)) fun v28 h28 =>
  thenK (
  bnd (pu h28 (fieldAddrV 0 v0)) fun v29 h29 =>
  bnd (pu h29 (loadV G false 1 v29 h29)) fun v30 h30 =>
  thenK (
  bnd (pu h30 (bin Tryd.prog .eql 3 true v30 (.int .i64 1))) fun v31 h31 =>
  condA v31
  (some (.normal, [v0, v7, v25, v28, v30, v31], h31))
  (bnd (pu h31 (bin Tryd.prog .eql 3 true v30 (.int .i64 2))) fun v32 h32 =>
  some (.normal, [v0, v7, v25, v28, v30, v32], h32))) fun e33 x33 h33 => exK e33
  (condA (nth x33 5)
  (bnd (pu h33 (fieldAddrV 4 (nth x33 0))) fun v34 h34 =>
  bnd (pu h34 (loadV G false 1 v34 h34)) fun v35 h35 =>
  bnd (pu h35 (convInt .u32 v35)) fun v36 h36 =>
  bnd (pu h36 (bin Tryd.prog .shl 71 true v36 (.int .u64 21))) fun v37 h37 =>
  bnd (pu h37 (bin Tryd.prog .or 71 false (nth x33 2) v37)) fun v38 h38 =>
  some (.normal, [(nth x33 0), (nth x33 1), v38, (nth x33 3)], h38))
  (bnd (pu h33 (bin Tryd.prog .eql 3 true (nth x33 4) (.int .i64 8))) fun v39 h39 =>
  condA v39
  (bnd (pu h39 (fieldAddrV 4 (nth x33 0))) fun v40 h40 =>
  bnd (pu h40 (loadV G false 1 v40 h40)) fun v41 h41 =>
  bnd (pu h41 (convInt .u32 v41)) fun v42 h42 =>
  bnd (pu h42 (bin Tryd.prog .shl 71 true v42 (.int .u64 10))) fun v43 h43 =>
  bnd (pu h43 (bin Tryd.prog .or 71 false (nth x33 2) v43)) fun v44 h44 =>
  some (.normal, [(nth x33 0), (nth x33 1), v44, (nth x33 3)], h44))
  (bnd (pu h39 (bin Tryd.prog .eql 3 true (nth x33 4) (.int .i64 16))) fun v45 h45 =>
  condA v45
  (bnd (pu h45 (fieldAddrV 4 (nth x33 0))) fun v46 h46 =>
  bnd (pu h46 (loadV G false 1 v46 h46)) fun v47 h47 =>
  bnd (pu h47 (convInt .u32 v47)) fun v48 h48 =>
  bnd (pu h48 (bin Tryd.prog .shl 71 true v48 (.int .u64 12))) fun v49 h49 =>
  bnd (pu h49 (bin Tryd.prog .or 71 false (nth x33 2) v49)) fun v50 h50 =>
  some (.normal, [(nth x33 0), (nth x33 1), v50, (nth x33 3)], h50))
  (bnd (pu h45 (bin Tryd.prog .eql 3 true (nth x33 4) (.int .i64 17))) fun v51 h51 =>
  condA v51
  (bnd (pu h51 (fieldAddrV 4 (nth x33 0))) fun v52 h52 =>
  bnd (pu h52 (loadV G false 1 v52 h52)) fun v53 h53 =>
  bnd (pu h53 (bin Tryd.prog .xor 3 true v53 (.int .i64 1))) fun v54 h54 =>
  bnd (pu h54 (convInt .u32 v54)) fun v55 h55 =>
  bnd (pu h55 (bin Tryd.prog .shl 71 true v55 (.int .u64 12))) fun v56 h56 =>
  bnd (pu h56 (bin Tryd.prog .or 71 false (nth x33 2) v56)) fun v57 h57 =>
  some (.normal, [(nth x33 0), (nth x33 1), v57, (nth x33 3)], h57))
  (bnd (pu h51 (bin Tryd.prog .eql 3 true (nth x33 4) (.int .i64 21))) fun v58 h58 =>
  condA v58
  (bnd (pu h58 (fieldAddrV 4 (nth x33 0))) fun v59 h59 =>
  bnd (pu h59 (loadV G false 1 v59 h59)) fun v60 h60 =>
  bnd (pu h60 (convInt .u32 v60)) fun v61 h61 =>
  bnd (pu h61 (bin Tryd.prog .or 71 false (nth x33 2) v61)) fun v62 h62 =>
  some (.normal, [(nth x33 0), (nth x33 1), v62, (nth x33 3)], h62))
  (some (.normal, [(nth x33 0), (nth x33 1), (nth x33 2), (nth x33 3)], h58)))))))
  (fun i33 => if i33 = 0 then (some (.normal, [(nth x33 0), (nth x33 1), (nth x33 2), (nth x33 3)], h33)) else (some (.exit i33, [(nth x33 0), (nth x33 1), (nth x33 2), (nth x33 3)], h33)))
  (some (.ret, [(nth x33 0), (nth x33 1), (nth x33 2), (nth x33 3)], h33))) fun e63 x63 h63 => exK e63
  (bnd (pu h63 (fieldAddrV 0 (nth x63 0))) fun v64 h64 =>
  bnd (pu h64 (loadV G false 1 v64 h64)) fun v65 h65 =>
  bnd (pu h65 (bin Tryd.prog .eql 3 true v65 (.int .i64 12))) fun v66 h66 =>
  condA v66
  (bnd (pu h66 (bin Tryd.prog .sub 71 true (.int .u32 64) (nth x63 3))) fun v67 h67 =>
  bnd (pu h67 (bin Tryd.prog .rem 71 true v67 (.int .u32 64))) fun v68 h68 =>
  bnd (pu h68 (bin Tryd.prog .shl 71 true v68 (.int .u64 16))) fun v69 h69 =>
  bnd (pu h69 (bin Tryd.prog .or 71 false (nth x63 2) v69)) fun v70 h70 =>
  bnd (pu h70 (bin Tryd.prog .sub 71 true (.int .u32 63) (nth x63 3))) fun v71 h71 =>
  bnd (pu h71 (bin Tryd.prog .shl 71 true v71 (.int .u64 10))) fun v72 h72 =>
  bnd (pu h72 (bin Tryd.prog .or 71 false v70 v72)) fun v73 h73 =>
  finV [v73, (.bool true)] h.length h73)
  (bnd (pu h66 (bin Tryd.prog .eql 3 true v65 (.int .i64 13))) fun v74 h74 =>
  condA v74
  (bnd (pu h74 (bin Tryd.prog .shl 71 true (nth x63 3) (.int .u64 16))) fun v75 h75 =>
  bnd (pu h75 (bin Tryd.prog .or 71 false (nth x63 2) v75)) fun v76 h76 =>
  bnd (pu h76 (bin Tryd.prog .or 71 true v76 (.int .u32 64512))) fun v77 h77 =>
  finV [v77, (.bool true)] h.length h77)
  (bnd (pu h74 (bin Tryd.prog .eql 3 true v65 (.int .i64 14))) fun v78 h78 =>
  condA v78
  (bnd (pu h78 (bin Tryd.prog .shl 71 true (nth x63 3) (.int .u64 16))) fun v79 h79 =>
  bnd (pu h79 (bin Tryd.prog .or 71 false (nth x63 2) v79)) fun v80 h80 =>
  finV [v80, (.bool true)] h.length h80)
  (bnd (pu h78 (fieldAddrV 4 (nth x63 1))) fun v81 h81 =>
  bnd (pu h81 (loadV G false 1 v81 h81)) fun v82 h82 =>
  bnd (pu h82 (bin Tryd.prog .eql 3 true v82 (.int .i64 12))) fun v83 h83 =>
  condA v83
  (bnd (pu h83 (bin Tryd.prog .shl 71 true (nth x63 3) (.int .u64 10))) fun v84 h84 =>
  bnd (pu h84 (bin Tryd.prog .or 71 false (nth x63 2) v84)) fun v85 h85 =>
  finV [v85, (.bool true)] h.length h85)
  (bnd (pu h83 (bin Tryd.prog .eql 3 true v82 (.int .i64 16))) fun v86 h86 =>
  condA v86
  (bnd (pu h86 (bin Tryd.prog .shl 71 true (nth x63 3) (.int .u64 5))) fun v87 h87 =>
  bnd (pu h87 (bin Tryd.prog .or 71 false (nth x63 2) v87)) fun v88 h88 =>
  finV [v88, (.bool true)] h.length h88)
  (bnd (pu h86 (bin Tryd.prog .eql 3 true v82 (.int .i64 19))) fun v89 h89 =>
  condA v89
  (bnd (pu h89 (bin Tryd.prog .and 71 true (nth x63 3) (.int .u32 524287))) fun v90 h90 =>
  bnd (pu h90 (bin Tryd.prog .shl 71 true v90 (.int .u64 5))) fun v91 h91 =>
  bnd (pu h91 (bin Tryd.prog .or 71 false (nth x63 2) v91)) fun v92 h92 =>
  finV [v92, (.bool true)] h.length h92)
  (bnd (pu h89 (bin Tryd.prog .eql 3 true v82 (.int .i64 26))) fun v93 h93 =>
  condA v93
  (bnd (pu h93 (bin Tryd.prog .and 71 true (nth x63 3) (.int .u32 67108863))) fun v94 h94 =>
  bnd (pu h94 (bin Tryd.prog .or 71 false (nth x63 2) v94)) fun v95 h95 =>
  finV [v95, (.bool true)] h.length h95)
  (finV [(nth x63 2), (.bool true)] h.length h93))))))))
  (fun i63 => none)
  (finV [.undef, .undef] h.length h63)))
noncomputable def alembicref17_Word.f (G : Globs) : Nat → Den
  | 0 => fun _ _ => none
  | k + 1 => fun args h => arg1 args fun x0 => (alembicref17_Word.c G k (alembicref17_Word.f G k) x0 h)
theorem alembicref17_Word.step (G : Globs) (k : Nat) (x0 : AV) (h : AHeap) : alembicref17_Word.f G (k + 1) [x0] h = alembicref17_Word.c G k (alembicref17_Word.f G k) x0 h := rfl
/-! alembic/alembicref17.signed: function 98 -/
noncomputable def alembicref17_signed.ann : Ann := mkAnn [] [] [] []
noncomputable def alembicref17_signed.env (G : Globs) (k : Nat) (self : Den) : List (Nat × Bool × Den) := []
noncomputable def alembicref17_signed.c (G : Globs) (k : Nat) (self : Den) (x0 x1 : AV) (h : AHeap) : Option (AV × AHeap) := outV (
  bnd (pu h (convInt .u64 x1)) fun v0 h0 =>
  bnd (pu h0 (bin Tryd.prog .shl 71 true (.int .u32 1) v0)) fun v1 h1 =>
  bnd (pu h1 (bin Tryd.prog .sub 71 true v1 (.int .u32 1))) fun v2 h2 =>
  bnd (pu h2 (bin Tryd.prog .and 71 false x0 v2)) fun v3 h3 =>
  bnd (pu h3 (convInt .i64 v3)) fun v4 h4 =>
  bnd (pu h4 (bin Tryd.prog .sub 3 true x1 (.int .i64 1))) fun v5 h5 =>
  bnd (pu h5 (convInt .u64 v5)) fun v6 h6 =>
  bnd (pu h6 (bin Tryd.prog .shl 3 true (.int .i64 1) v6)) fun v7 h7 =>
  bnd (pu h7 (bin Tryd.prog .geq 3 false v4 v7)) fun v8 h8 =>
  condA v8
  (bnd (pu h8 (convInt .u64 x1)) fun v9 h9 =>
  bnd (pu h9 (bin Tryd.prog .shl 3 true (.int .i64 1) v9)) fun v10 h10 =>
  bnd (pu h10 (bin Tryd.prog .sub 3 false v4 v10)) fun v11 h11 =>
  finV [v11] h.length h11)
  (finV [v4] h.length h8))
noncomputable def alembicref17_signed.f (G : Globs) : Nat → Den
  | 0 => fun _ _ => none
  | k + 1 => fun args h => arg2 args fun x0 x1 => (alembicref17_signed.c G k (alembicref17_signed.f G k) x0 x1 h)
theorem alembicref17_signed.step (G : Globs) (k : Nat) (x0 x1 : AV) (h : AHeap) : alembicref17_signed.f G (k + 1) [x0, x1] h = alembicref17_signed.c G k (alembicref17_signed.f G k) x0 x1 h := rfl
/-! alembic/alembicref17.as: function 77 -/
noncomputable def alembicref17_as.ann : Ann := mkAnn [] [] [] [(34, [1, 4, 7]), (21, [0, 1, 4, 6, 7]), (12, [0, 1, 4, 6, 7, 34, 35]), (9, [0, 1, 4, 6, 7]), (7, [0, 1, 4, 6, 7]), (5, [0, 1, 4, 6, 7])]
noncomputable def alembicref17_as.env (G : Globs) (k : Nat) (self : Den) : List (Nat × Bool × Den) := [(55, true, alembicref17_Word.f G k), (79, true, alembicref17_partsOf.f G k), (98, true, alembicref17_signed.f G k)]
noncomputable def alembicref17_as.c (G : Globs) (k : Nat) (self : Den) (x0 x1 : AV) (h : AHeap) : Option (AV × AHeap) := outV (
  bnd (boxA 57 (.agg [(.int .i64 0), (.int .i64 0), (.int .i64 0), (.int .i64 0), (.int .i64 0), (.int .i64 0)]) h) fun v0 h0 =>
  bnd (pureCall (alembicref17_partsOf.f G k) [x0] h0) fun v1 h1 =>
  bnd (boxA 149 (.agg [(.bool false), (.bool false), (.bool false), (.bool false), (.int .i64 0)]) h1) fun v2 h2 =>
  bnd (stS (storeV 5 v2 v1 h2)) fun v3 h3 =>
  bnd (pu h3 (buildSt [(0, 1), (1, 1), (2, 1), (3, 1), (4, 1), (5, 1)] [(.int .i64 0), (.int .i64 0), (.int .i64 0), (.int .i64 0), (.int .i64 0), (.int .i64 0)] [(0, x0)])) fun v4 h4 =>
  bnd (boxA 57 (.agg [(.int .i64 0), (.int .i64 0), (.int .i64 0), (.int .i64 0), (.int .i64 0), (.int .i64 0)]) h4) fun v5 h5 =>
  bnd (stS (storeV 6 v5 v4 h5)) fun v6 h6 =>
  thenK (
  bnd (pu h6 (fieldAddrV 0 v2)) fun v7 h7 =>
  bnd (pu h7 (loadV G false 1 v7 h7)) fun v8 h8 =>
  condA v8
  (bnd (pu h8 (bin Tryd.prog .and 71 true x1 (.int .u32 31))) fun v9 h9 =>
  bnd (pu h9 (convInt .i64 v9)) fun v10 h10 =>
  bnd (pu h10 (fieldAddrV 1 v5)) fun v11 h11 =>
  bnd (stS (storeV 1 v11 v10 h11)) fun v12 h12 =>
  some (.normal, [x0, x1, v0, v2, v5], h12))
  (some (.normal, [x0, x1, v0, v2, v5], h8))) fun e13 x13 h13 => exK e13
  (thenK (
  bnd (pu h13 (fieldAddrV 1 (nth x13 3))) fun v14 h14 =>
  bnd (pu h14 (loadV G false 1 v14 h14)) fun v15 h15 =>
  condA v15
  (bnd (pu h15 (bin Tryd.prog .shr 71 true (nth x13 1) (.int .u64 5))) fun v16 h16 =>
  bnd (pu h16 (bin Tryd.prog .and 71 true v16 (.int .u32 31))) fun v17 h17 =>
  bnd (pu h17 (convInt .i64 v17)) fun v18 h18 =>
  bnd (pu h18 (fieldAddrV 2 (nth x13 4))) fun v19 h19 =>
  bnd (stS (storeV 1 v19 v18 h19)) fun v20 h20 =>
  some (.normal, [(nth x13 0), (nth x13 1), (nth x13 2), (nth x13 3), (nth x13 4)], h20))
  (some (.normal, [(nth x13 0), (nth x13 1), (nth x13 2), (nth x13 3), (nth x13 4)], h15))) fun e21 x21 h21 => exK e21
  (thenK (
  bnd (pu h21 (fieldAddrV 2 (nth x21 3))) fun v22 h22 =>
  bnd (pu h22 (loadV G false 1 v22 h22)) fun v23 h23 =>
  condA v23
  (bnd (pu h23 (bin Tryd.prog .shr 71 true (nth x21 1) (.int .u64 16))) fun v24 h24 =>
  bnd (pu h24 (bin Tryd.prog .and 71 true v24 (.int .u32 31))) fun v25 h25 =>
  bnd (pu h25 (convInt .i64 v25)) fun v26 h26 =>
  bnd (pu h26 (fieldAddrV 3 (nth x21 4))) fun v27 h27 =>
  bnd (stS (storeV 1 v27 v26 h27)) fun v28 h28 =>
  some (.normal, [(nth x21 0), (nth x21 1), (nth x21 2), (nth x21 3), (nth x21 4)], h28))
  (some (.normal, [(nth x21 0), (nth x21 1), (nth x21 2), (nth x21 3), (nth x21 4)], h23))) fun e29 x29 h29 => exK e29
  (thenK (
  thenK (
  bnd (pu h29 (bin Tryd.prog .eql 3 true (nth x29 0) (.int .i64 1))) fun v30 h30 =>
  condA v30
  (some (.normal, [(nth x29 0), (nth x29 1), (nth x29 2), (nth x29 3), (nth x29 4), (nth x29 0), v30], h30))
  (bnd (pu h30 (bin Tryd.prog .eql 3 true (nth x29 0) (.int .i64 2))) fun v31 h31 =>
  some (.normal, [(nth x29 0), (nth x29 1), (nth x29 2), (nth x29 3), (nth x29 4), (nth x29 0), v31], h31))) fun e32 x32 h32 => exK e32
  (condA (nth x32 6)
  (bnd (pu h32 (bin Tryd.prog .shr 71 true (nth x32 1) (.int .u64 21))) fun v33 h33 =>
  bnd (pu h33 (bin Tryd.prog .and 71 true v33 (.int .u32 3))) fun v34 h34 =>
  bnd (pu h34 (convInt .i64 v34)) fun v35 h35 =>
  bnd (pu h35 (fieldAddrV 4 (nth x32 4))) fun v36 h36 =>
  bnd (stS (storeV 1 v36 v35 h36)) fun v37 h37 =>
  some (.normal, [(nth x32 0), (nth x32 1), (nth x32 2), (nth x32 3), (nth x32 4)], h37))
  (bnd (pu h32 (bin Tryd.prog .eql 3 true (nth x32 5) (.int .i64 8))) fun v38 h38 =>
  condA v38
  (bnd (pu h38 (bin Tryd.prog .shr 71 true (nth x32 1) (.int .u64 10))) fun v39 h39 =>
  bnd (pu h39 (bin Tryd.prog .and 71 true v39 (.int .u32 31))) fun v40 h40 =>
  bnd (pu h40 (convInt .i64 v40)) fun v41 h41 =>
  bnd (pu h41 (fieldAddrV 4 (nth x32 4))) fun v42 h42 =>
  bnd (stS (storeV 1 v42 v41 h42)) fun v43 h43 =>
  some (.normal, [(nth x32 0), (nth x32 1), (nth x32 2), (nth x32 3), (nth x32 4)], h43))
  (bnd (pu h38 (bin Tryd.prog .eql 3 true (nth x32 5) (.int .i64 16))) fun v44 h44 =>
  condA v44
  (bnd (pu h44 (bin Tryd.prog .shr 71 true (nth x32 1) (.int .u64 12))) fun v45 h45 =>
  bnd (pu h45 (bin Tryd.prog .and 71 true v45 (.int .u32 15))) fun v46 h46 =>
  bnd (pu h46 (convInt .i64 v46)) fun v47 h47 =>
  bnd (pu h47 (fieldAddrV 4 (nth x32 4))) fun v48 h48 =>
  bnd (stS (storeV 1 v48 v47 h48)) fun v49 h49 =>
  some (.normal, [(nth x32 0), (nth x32 1), (nth x32 2), (nth x32 3), (nth x32 4)], h49))
  (bnd (pu h44 (bin Tryd.prog .eql 3 true (nth x32 5) (.int .i64 17))) fun v50 h50 =>
  condA v50
  (bnd (pu h50 (bin Tryd.prog .shr 71 true (nth x32 1) (.int .u64 12))) fun v51 h51 =>
  bnd (pu h51 (bin Tryd.prog .and 71 true v51 (.int .u32 15))) fun v52 h52 =>
  bnd (pu h52 (convInt .i64 v52)) fun v53 h53 =>
  bnd (pu h53 (bin Tryd.prog .xor 3 true v53 (.int .i64 1))) fun v54 h54 =>
  bnd (pu h54 (fieldAddrV 4 (nth x32 4))) fun v55 h55 =>
  bnd (stS (storeV 1 v55 v54 h55)) fun v56 h56 =>
  some (.normal, [(nth x32 0), (nth x32 1), (nth x32 2), (nth x32 3), (nth x32 4)], h56))
  (bnd (pu h50 (bin Tryd.prog .eql 3 true (nth x32 5) (.int .i64 21))) fun v57 h57 =>
  condA v57
  (bnd (pu h57 (bin Tryd.prog .and 71 true (nth x32 1) (.int .u32 15))) fun v58 h58 =>
  bnd (pu h58 (convInt .i64 v58)) fun v59 h59 =>
  bnd (pu h59 (fieldAddrV 4 (nth x32 4))) fun v60 h60 =>
  bnd (stS (storeV 1 v60 v59 h60)) fun v61 h61 =>
  some (.normal, [(nth x32 0), (nth x32 1), (nth x32 2), (nth x32 3), (nth x32 4)], h61))
  (some (.normal, [(nth x32 0), (nth x32 1), (nth x32 2), (nth x32 3), (nth x32 4)], h57)))))))
  (fun i32 => if i32 = 0 then (some (.normal, [(nth x32 0), (nth x32 1), (nth x32 2), (nth x32 3), (nth x32 4)], h32)) else (some (.exit i32, [(nth x32 0), (nth x32 1), (nth x32 2), (nth x32 3), (nth x32 4)], h32)))
  (some (.ret, [(nth x32 0), (nth x32 1), (nth x32 2), (nth x32 3), (nth x32 4)], h32))) fun e62 x62 h62 => exK e62
  (thenK (
  bnd (pu h62 (fieldAddrV 4 (nth x62 3))) fun v63 h63 =>
  bnd (pu h63 (loadV G false 1 v63 h63)) fun v64 h64 =>
  bnd (pu h64 (bin Tryd.prog .eql 3 true v64 (.int .i64 6))) fun v65 h65 =>
  condA v65
  (bnd (pu h65 (bin Tryd.prog .shr 71 true (nth x62 1) (.int .u64 16))) fun v66 h66 =>
  bnd (pu h66 (bin Tryd.prog .and 71 true v66 (.int .u32 63))) fun v67 h67 =>
  bnd (pu h67 (convInt .i64 v67)) fun v68 h68 =>
  bnd (pu h68 (fieldAddrV 5 (nth x62 4))) fun v69 h69 =>
  bnd (stS (storeV 1 v69 v68 h69)) fun v70 h70 =>
  bnd (pu h70 (bin Tryd.prog .eql 3 true (nth x62 0) (.int .i64 12))) fun v71 h71 =>
  condA v71
  (bnd (pu h71 (fieldAddrV 5 (nth x62 4))) fun v72 h72 =>
  bnd (pu h72 (loadV G false 1 v72 h72)) fun v73 h73 =>
  bnd (pu h73 (bin Tryd.prog .sub 3 true (.int .i64 64) v73)) fun v74 h74 =>
  bnd (pu h74 (bin Tryd.prog .rem 3 true v74 (.int .i64 64))) fun v75 h75 =>
  bnd (pu h75 (fieldAddrV 5 (nth x62 4))) fun v76 h76 =>
  bnd (stS (storeV 1 v76 v75 h76)) fun v77 h77 =>
  some (.normal, [(nth x62 1), (nth x62 2), (nth x62 4)], h77))
  (some (.normal, [(nth x62 1), (nth x62 2), (nth x62 4)], h71)))
  (bnd (pu h65 (bin Tryd.prog .eql 3 true v64 (.int .i64 12))) fun v78 h78 =>
  condA v78
  (bnd (pu h78 (bin Tryd.prog .shr 71 true (nth x62 1) (.int .u64 10))) fun v79 h79 =>
  bnd (pu h79 (bin Tryd.prog .and 71 true v79 (.int .u32 4095))) fun v80 h80 =>
  bnd (pu h80 (convInt .i64 v80)) fun v81 h81 =>
  bnd (pu h81 (fieldAddrV 5 (nth x62 4))) fun v82 h82 =>
  bnd (stS (storeV 1 v82 v81 h82)) fun v83 h83 =>
  some (.normal, [(nth x62 1), (nth x62 2), (nth x62 4)], h83))
  (bnd (pu h78 (bin Tryd.prog .eql 3 true v64 (.int .i64 16))) fun v84 h84 =>
  condA v84
  (bnd (pu h84 (bin Tryd.prog .shr 71 true (nth x62 1) (.int .u64 5))) fun v85 h85 =>
  bnd (pu h85 (bin Tryd.prog .and 71 true v85 (.int .u32 65535))) fun v86 h86 =>
  bnd (pu h86 (convInt .i64 v86)) fun v87 h87 =>
  bnd (pu h87 (fieldAddrV 5 (nth x62 4))) fun v88 h88 =>
  bnd (stS (storeV 1 v88 v87 h88)) fun v89 h89 =>
  some (.normal, [(nth x62 1), (nth x62 2), (nth x62 4)], h89))
  (bnd (pu h84 (bin Tryd.prog .eql 3 true v64 (.int .i64 19))) fun v90 h90 =>
  condA v90
  (bnd (pu h90 (bin Tryd.prog .shr 71 true (nth x62 1) (.int .u64 5))) fun v91 h91 =>
  bnd (pureCall (alembicref17_signed.f G k) [v91, (.int .i64 19)] h91) fun v92 h92 =>
  bnd (pu h92 (fieldAddrV 5 (nth x62 4))) fun v93 h93 =>
  bnd (stS (storeV 1 v93 v92 h93)) fun v94 h94 =>
  some (.normal, [(nth x62 1), (nth x62 2), (nth x62 4)], h94))
  (bnd (pu h90 (bin Tryd.prog .eql 3 true v64 (.int .i64 26))) fun v95 h95 =>
  condA v95
  (bnd (pureCall (alembicref17_signed.f G k) [(nth x62 1), (.int .i64 26)] h95) fun v96 h96 =>
  bnd (pu h96 (fieldAddrV 5 (nth x62 4))) fun v97 h97 =>
  bnd (stS (storeV 1 v97 v96 h97)) fun v98 h98 =>
  some (.normal, [(nth x62 1), (nth x62 2), (nth x62 4)], h98))
  (some (.normal, [(nth x62 1), (nth x62 2), (nth x62 4)], h95))))))) fun e99 x99 h99 => exK e99
  (bnd (pu h99 (loadV G true 6 (nth x99 2) h99)) fun v100 h100 =>
  bnd (pureCall (alembicref17_Word.f G k) [v100] h100) fun v101 h101 =>
  bnd (pu h101 (extractA v101 0)) fun v102 h102 =>
  bnd (pu h102 (extractA v101 1)) fun v103 h103 =>
  bnd (pu h103 (un .not v103)) fun v104 h104 =>
  bnd (gd v104 false h104 (some (v102, h104))) fun v105 h105 =>
  bnd (gd v104 false h105 (some ((nth x99 0), h105))) fun v106 h106 =>
  bnd (gd v104 false h106 (pu h106 (bin Tryd.prog .neq 71 false v105 v106))) fun v107 h107 =>
  bnd (pu h107 (pickA v104 (.bool true) v107)) fun v108 h108 =>
  condA v108
  (bnd (pu h108 (buildSt [(0, 1), (1, 1), (2, 1), (3, 1), (4, 1), (5, 1)] [(.int .i64 0), (.int .i64 0), (.int .i64 0), (.int .i64 0), (.int .i64 0), (.int .i64 0)] [])) fun v109 h109 =>
  bnd (stS (storeV 6 (nth x99 1) v109 h109)) fun v110 h110 =>
  finL [loadV G true 6 (nth x99 1) h110, some (.bool false)] h.length h110)
  (bnd (pu h108 (loadV G true 6 (nth x99 2) h108)) fun v111 h111 =>
  bnd (stS (storeV 6 (nth x99 1) v111 h111)) fun v112 h112 =>
  finL [loadV G true 6 (nth x99 1) h112, some (.bool true)] h.length h112))
  (fun i99 => none)
  (finL [loadV G true 6 (nth x99 1) h99, some .undef] h.length h99))
  (fun i62 => none)
  (finL [loadV G true 6 (nth x62 2) h62, some .undef] h.length h62))
  (fun i29 => none)
  (finL [loadV G true 6 (nth x29 2) h29, some .undef] h.length h29))
  (fun i21 => none)
  (finL [loadV G true 6 (nth x21 2) h21, some .undef] h.length h21))
  (fun i13 => none)
  (finL [loadV G true 6 (nth x13 2) h13, some .undef] h.length h13))
noncomputable def alembicref17_as.f (G : Globs) : Nat → Den
  | 0 => fun _ _ => none
  | k + 1 => fun args h => arg2 args fun x0 x1 => (alembicref17_as.c G k (alembicref17_as.f G k) x0 x1 h)
theorem alembicref17_as.step (G : Globs) (k : Nat) (x0 x1 : AV) (h : AHeap) : alembicref17_as.f G (k + 1) [x0, x1] h = alembicref17_as.c G k (alembicref17_as.f G k) x0 x1 h := rfl
/-! alembic/alembicref17.Of: function 51 -/
noncomputable def alembicref17_Of.ann : Ann := mkAnn [] [] [(2, [0, 2, 3, 4])] [(3, [0, 2, 3, 4])]
noncomputable def alembicref17_Of.env (G : Globs) (k : Nat) (self : Den) : List (Nat × Bool × Den) := [(77, true, alembicref17_as.f G k)]
noncomputable def alembicref17_Of.l2 (G : Globs) (k n0 : Nat) (self : Den) (lp : LoopF) : LoopF := fun xs h0 => cutK n0 xs h0 fun h =>
  bnd (pu h (bin Tryd.prog .leq 3 true (nth xs 3) (.int .i64 24))) fun v2 h2 =>
  condA v2
  (thenK (
  bnd (pu h2 (bin Tryd.prog .eql 3 true (nth xs 3) (.int .i64 12))) fun v3 h3 =>
  condA v3
  (some (.normal, [(nth xs 0), (nth xs 1), (nth xs 2), (nth xs 3)], h3))
  (bnd (pureCall (alembicref17_as.f G k) [(nth xs 3), (nth xs 0)] h3) fun v4 h4 =>
  bnd (pu h4 (extractA v4 0)) fun v5 h5 =>
  bnd (pu h5 (extractA v4 1)) fun v6 h6 =>
  bnd (boxA 57 (.agg [(.int .i64 0), (.int .i64 0), (.int .i64 0), (.int .i64 0), (.int .i64 0), (.int .i64 0)]) h6) fun v7 h7 =>
  bnd (stS (storeV 6 v7 v5 h7)) fun v8 h8 =>
  condA v6
  (bnd (pu h8 (loadV G true 6 v7 h8)) fun v9 h9 =>
  bnd (stS (storeV 6 (nth xs 1) v9 h9)) fun v10 h10 =>
  some (.ret, [(nth xs 0), (nth xs 1), (.bool true), (nth xs 3)], h10))
  (some (.normal, [(nth xs 0), (nth xs 1), (nth xs 2), (nth xs 3)], h8)))) fun e11 x11 h11 => exK e11
  (bnd (pu h11 (bin Tryd.prog .add 3 true (nth x11 3) (.int .i64 1))) fun v12 h12 =>
  lp [(nth x11 0), (nth x11 1), (nth x11 2), v12] h12)
  (fun i11 => some (.exit i11, [(nth x11 0), (nth x11 1), (nth x11 2), (nth x11 3)], h11))
  (some (.ret, [(nth x11 0), (nth x11 1), (nth x11 2), (nth x11 3)], h11)))
  (some (.exit 0, [(nth xs 0), (nth xs 1), (nth xs 2), (nth xs 3)], h2))
noncomputable def alembicref17_Of.c (G : Globs) (k : Nat) (self : Den) (x0 : AV) (h : AHeap) : Option (AV × AHeap) := outV (
  bnd (boxA 57 (.agg [(.int .i64 0), (.int .i64 0), (.int .i64 0), (.int .i64 0), (.int .i64 0), (.int .i64 0)]) h) fun v0 h0 =>
  thenK (loopN (alembicref17_Of.l2 G k h0.length self) k [x0, v0, (.bool false), (.int .i64 1)] h0) fun e1 x1 h1 => exK e1
  (bnd (pureCall (alembicref17_as.f G k) [(.int .i64 12), (nth x1 0)] h1) fun v13 h13 =>
  bnd (pu h13 (extractA v13 0)) fun v14 h14 =>
  bnd (pu h14 (extractA v13 1)) fun v15 h15 =>
  bnd (stS (storeV 6 (nth x1 1) v14 h15)) fun v16 h16 =>
  finL [loadV G true 6 (nth x1 1) h16, some v15] h.length h16)
  (fun i1 => if i1 = 0 then (bnd (pureCall (alembicref17_as.f G k) [(.int .i64 12), (nth x1 0)] h1) fun v17 h17 =>
  bnd (pu h17 (extractA v17 0)) fun v18 h18 =>
  bnd (pu h18 (extractA v17 1)) fun v19 h19 =>
  bnd (stS (storeV 6 (nth x1 1) v18 h19)) fun v20 h20 =>
  finL [loadV G true 6 (nth x1 1) h20, some v19] h.length h20) else (none))
  (finL [loadV G true 6 (nth x1 1) h1, some (nth x1 2)] h.length h1))
noncomputable def alembicref17_Of.f (G : Globs) : Nat → Den
  | 0 => fun _ _ => none
  | k + 1 => fun args h => arg1 args fun x0 => (alembicref17_Of.c G k (alembicref17_Of.f G k) x0 h)
theorem alembicref17_Of.step (G : Globs) (k : Nat) (x0 : AV) (h : AHeap) : alembicref17_Of.f G (k + 1) [x0] h = alembicref17_Of.c G k (alembicref17_Of.f G k) x0 h := rfl
/-! math/bits.Mul64: function 56 -/
noncomputable def math_bits_Mul64.ann : Ann := mkAnn [] [] [] []
noncomputable def math_bits_Mul64.env (G : Globs) (k : Nat) (self : Den) : List (Nat × Bool × Den) := []
noncomputable def math_bits_Mul64.c (G : Globs) (k : Nat) (self : Den) (x0 x1 : AV) (h : AHeap) : Option (AV × AHeap) := outV (
  bnd (pu h (bin Tryd.prog .and 43 true x0 (.int .u64 4294967295))) fun v0 h0 =>
  bnd (pu h0 (bin Tryd.prog .shr 43 true x0 (.int .u64 32))) fun v1 h1 =>
  bnd (pu h1 (bin Tryd.prog .and 43 true x1 (.int .u64 4294967295))) fun v2 h2 =>
  bnd (pu h2 (bin Tryd.prog .shr 43 true x1 (.int .u64 32))) fun v3 h3 =>
  bnd (pu h3 (bin Tryd.prog .mul 43 false v0 v2)) fun v4 h4 =>
  bnd (pu h4 (bin Tryd.prog .mul 43 false v1 v2)) fun v5 h5 =>
  bnd (pu h5 (bin Tryd.prog .shr 43 true v4 (.int .u64 32))) fun v6 h6 =>
  bnd (pu h6 (bin Tryd.prog .add 43 false v5 v6)) fun v7 h7 =>
  bnd (pu h7 (bin Tryd.prog .and 43 true v7 (.int .u64 4294967295))) fun v8 h8 =>
  bnd (pu h8 (bin Tryd.prog .shr 43 true v7 (.int .u64 32))) fun v9 h9 =>
  bnd (pu h9 (bin Tryd.prog .mul 43 false v0 v3)) fun v10 h10 =>
  bnd (pu h10 (bin Tryd.prog .add 43 false v8 v10)) fun v11 h11 =>
  bnd (pu h11 (bin Tryd.prog .mul 43 false v1 v3)) fun v12 h12 =>
  bnd (pu h12 (bin Tryd.prog .add 43 false v12 v9)) fun v13 h13 =>
  bnd (pu h13 (bin Tryd.prog .shr 43 true v11 (.int .u64 32))) fun v14 h14 =>
  bnd (pu h14 (bin Tryd.prog .add 43 false v13 v14)) fun v15 h15 =>
  bnd (pu h15 (bin Tryd.prog .mul 43 false x0 x1)) fun v16 h16 =>
  finV [v15, v16] h.length h16)
noncomputable def math_bits_Mul64.f (G : Globs) : Nat → Den
  | 0 => fun _ _ => none
  | k + 1 => fun args h => arg2 args fun x0 x1 => (math_bits_Mul64.c G k (math_bits_Mul64.f G k) x0 x1 h)
theorem math_bits_Mul64.step (G : Globs) (k : Nat) (x0 x1 : AV) (h : AHeap) : math_bits_Mul64.f G (k + 1) [x0, x1] h = math_bits_Mul64.c G k (math_bits_Mul64.f G k) x0 x1 h := rfl
/-! alembic/alembicref17.Holds: function 34 -/
noncomputable def alembicref17_Holds.ann : Ann := mkAnn [] [] [] []
noncomputable def alembicref17_Holds.env (G : Globs) (k : Nat) (self : Den) : List (Nat × Bool × Den) := []
noncomputable def alembicref17_Holds.c (G : Globs) (k : Nat) (self : Den) (x0 x1 : AV) (h : AHeap) : Option (AV × AHeap) := outV (
  bnd (boxRoA x1 h) fun v0 h0 =>
  bnd (pu h0 (idxAddrArr 4 1 v0 (.int .i64 1))) fun v1 h1 =>
  bnd (pu h1 (loadV G false 1 v1 h1)) fun v2 h2 =>
  bnd (pu h2 (idxAddrArr 4 1 v0 (.int .i64 2))) fun v3 h3 =>
  bnd (pu h3 (loadV G false 1 v3 h3)) fun v4 h4 =>
  bnd (pu h4 (bin Tryd.prog .eql 3 true x0 (.int .i64 0))) fun v5 h5 =>
  condA v5
  (finV [v2] h.length h5)
  (bnd (pu h5 (bin Tryd.prog .eql 3 true x0 (.int .i64 1))) fun v6 h6 =>
  condA v6
  (bnd (pu h6 (un .not v2)) fun v7 h7 =>
  finV [v7] h.length h7)
  (bnd (pu h6 (bin Tryd.prog .eql 3 true x0 (.int .i64 2))) fun v8 h8 =>
  condA v8
  (finV [v4] h.length h8)
  (bnd (pu h8 (bin Tryd.prog .eql 3 true x0 (.int .i64 3))) fun v9 h9 =>
  condA v9
  (bnd (pu h9 (un .not v4)) fun v10 h10 =>
  finV [v10] h.length h10)
  (bnd (pu h9 (bin Tryd.prog .eql 3 true x0 (.int .i64 8))) fun v11 h11 =>
  condA v11
  (bnd (gd v4 true h11 (some (v2, h11))) fun v12 h12 =>
  bnd (gd v4 true h12 (pu h12 (un .not v12))) fun v13 h13 =>
  bnd (pu h13 (pickA v4 v13 (.bool false))) fun v14 h14 =>
  finV [v14] h.length h14)
  (bnd (pu h11 (bin Tryd.prog .eql 3 true x0 (.int .i64 9))) fun v15 h15 =>
  condA v15
  (bnd (gd v4 true h15 (some (v2, h15))) fun v16 h16 =>
  bnd (gd v4 true h16 (pu h16 (un .not v16))) fun v17 h17 =>
  bnd (pu h17 (pickA v4 v17 (.bool false))) fun v18 h18 =>
  bnd (pu h18 (un .not v18)) fun v19 h19 =>
  finV [v19] h.length h19)
  (finV [(.bool false)] h.length h15)))))))
noncomputable def alembicref17_Holds.f (G : Globs) : Nat → Den
  | 0 => fun _ _ => none
  | k + 1 => fun args h => arg2 args fun x0 x1 => (alembicref17_Holds.c G k (alembicref17_Holds.f G k) x0 x1 h)
theorem alembicref17_Holds.step (G : Globs) (k : Nat) (x0 x1 : AV) (h : AHeap) : alembicref17_Holds.f G (k + 1) [x0, x1] h = alembicref17_Holds.c G k (alembicref17_Holds.f G k) x0 x1 h := rfl
/-! alembic/alembicref17.get: function 52 -/
noncomputable def alembicref17_get.ann : Ann := mkAnn [] [] [] []
noncomputable def alembicref17_get.env (G : Globs) (k : Nat) (self : Den) : List (Nat × Bool × Den) := []
noncomputable def alembicref17_get.c (G : Globs) (k : Nat) (self : Den) (x0 x1 : AV) (h : AHeap) : Option (AV × AHeap) := outV (
  bnd (boxRoA x0 h) fun v0 h0 =>
  bnd (pu h0 (bin Tryd.prog .eql 3 true x1 (.int .i64 31))) fun v1 h1 =>
  condA v1
  (finV [(.int .u64 0)] h.length h1)
  (bnd (pu h1 (idxAddrArr 31 1 v0 x1)) fun v2 h2 =>
  bnd (pu h2 (loadV G false 1 v2 h2)) fun v3 h3 =>
  finV [v3] h.length h3))
noncomputable def alembicref17_get.f (G : Globs) : Nat → Den
  | 0 => fun _ _ => none
  | k + 1 => fun args h => arg2 args fun x0 x1 => (alembicref17_get.c G k (alembicref17_get.f G k) x0 x1 h)
theorem alembicref17_get.step (G : Globs) (k : Nat) (x0 x1 : AV) (h : AHeap) : alembicref17_get.f G (k + 1) [x0, x1] h = alembicref17_get.c G k (alembicref17_get.f G k) x0 x1 h := rfl
/-! alembic/alembicref17.set: function 53 -/
noncomputable def alembicref17_set.ann : Ann := mkAnn [3] [] [] []
noncomputable def alembicref17_set.env (G : Globs) (k : Nat) (self : Den) : List (Nat × Bool × Den) := []
noncomputable def alembicref17_set.c (G : Globs) (k : Nat) (self : Den) (x0 x1 x2 : AV) (h : AHeap) : Option (AV × AHeap) := outV (
  bnd (boxA 44 x0 h) fun v0 h0 =>
  bnd (boxA 44 (.agg [(.int .u64 0), (.int .u64 0), (.int .u64 0), (.int .u64 0), (.int .u64 0), (.int .u64 0), (.int .u64 0), (.int .u64 0), (.int .u64 0), (.int .u64 0), (.int .u64 0), (.int .u64 0), (.int .u64 0), (.int .u64 0), (.int .u64 0), (.int .u64 0), (.int .u64 0), (.int .u64 0), (.int .u64 0), (.int .u64 0), (.int .u64 0), (.int .u64 0), (.int .u64 0), (.int .u64 0), (.int .u64 0), (.int .u64 0), (.int .u64 0), (.int .u64 0), (.int .u64 0), (.int .u64 0), (.int .u64 0)]) h0) fun v1 h1 =>
  bnd (pu h1 (bin Tryd.prog .neq 3 true x1 (.int .i64 31))) fun v2 h2 =>
  condA v2
  (bnd (pu h2 (idxAddrArr 31 1 v0 x1)) fun v3 h3 =>
  bnd (stS (storeV 1 v3 x2 h3)) fun v4 h4 =>
  bnd (pu h4 (loadV G true 31 v0 h4)) fun v5 h5 =>
  bnd (stS (storeV 31 v1 v5 h5)) fun v6 h6 =>
  finL [loadV G true 31 v1 h6] h.length h6)
  (bnd (pu h2 (loadV G true 31 v0 h2)) fun v7 h7 =>
  bnd (stS (storeV 31 v1 v7 h7)) fun v8 h8 =>
  finL [loadV G true 31 v1 h8] h.length h8))
noncomputable def alembicref17_set.f (G : Globs) : Nat → Den
  | 0 => fun _ _ => none
  | k + 1 => fun args h => arg3 args fun x0 x1 x2 => (alembicref17_set.c G k (alembicref17_set.f G k) x0 x1 x2 h)
theorem alembicref17_set.step (G : Globs) (k : Nat) (x0 x1 x2 : AV) (h : AHeap) : alembicref17_set.f G (k + 1) [x0, x1, x2] h = alembicref17_set.c G k (alembicref17_set.f G k) x0 x1 x2 h := rfl
/-! alembic/alembicref17.One: function 25 -/
noncomputable def alembicref17_One.ann : Ann := mkAnn [] [] [] [(48, [3, 4, 5, 6, 7, 8, 14])]
noncomputable def alembicref17_One.env (G : Globs) (k : Nat) (self : Den) : List (Nat × Bool × Den) := [(34, true, alembicref17_Holds.f G k), (52, true, alembicref17_get.f G k), (53, true, alembicref17_set.f G k), (55, true, alembicref17_Word.f G k), (56, true, math_bits_Mul64.f G k)]
noncomputable def alembicref17_One.c (G : Globs) (k : Nat) (self : Den) (x0 x1 x2 : AV) (h : AHeap) : Option (AV × AHeap) := outV (
  bnd (boxRoA x0 h) fun v0 h0 =>
  bnd (boxRoA x1 h0) fun v1 h1 =>
  bnd (boxRoA x2 h1) fun v2 h2 =>
  bnd (boxA 44 (.agg [(.int .u64 0), (.int .u64 0), (.int .u64 0), (.int .u64 0), (.int .u64 0), (.int .u64 0), (.int .u64 0), (.int .u64 0), (.int .u64 0), (.int .u64 0), (.int .u64 0), (.int .u64 0), (.int .u64 0), (.int .u64 0), (.int .u64 0), (.int .u64 0), (.int .u64 0), (.int .u64 0), (.int .u64 0), (.int .u64 0), (.int .u64 0), (.int .u64 0), (.int .u64 0), (.int .u64 0), (.int .u64 0), (.int .u64 0), (.int .u64 0), (.int .u64 0), (.int .u64 0), (.int .u64 0), (.int .u64 0)]) h2) fun v3 h3 =>
  bnd (boxA 53 (.agg [(.bool false), (.bool false), (.bool false), (.bool false)]) h3) fun v4 h4 =>
  bnd (pu h4 (loadV G true 6 v0 h4)) fun v5 h5 =>
  bnd (pureCall (alembicref17_Word.f G k) [v5] h5) fun v6 h6 =>
  bnd (pu h6 (extractA v6 0)) fun v7 h7 =>
  bnd (pu h7 (extractA v6 1)) fun v8 h8 =>
  bnd (pu h8 (un .not v8)) fun v9 h9 =>
  bnd (gd v9 false h9 (pu h9 (fieldAddrV 0 v0))) fun v10 h10 =>
  bnd (gd v9 false h10 (pu h10 (loadV G false 1 v10 h10))) fun v11 h11 =>
  bnd (gd v9 false h11 (pu h11 (bin Tryd.prog .gtr 3 true v11 (.int .i64 17)))) fun v12 h12 =>
  bnd (pu h12 (pickA v9 (.bool true) v12)) fun v13 h13 =>
  condA v13
  (bnd (pu h13 (buildArr 1 [(.int .u64 0), (.int .u64 0), (.int .u64 0), (.int .u64 0), (.int .u64 0), (.int .u64 0), (.int .u64 0), (.int .u64 0), (.int .u64 0), (.int .u64 0), (.int .u64 0), (.int .u64 0), (.int .u64 0), (.int .u64 0), (.int .u64 0), (.int .u64 0), (.int .u64 0), (.int .u64 0), (.int .u64 0), (.int .u64 0), (.int .u64 0), (.int .u64 0), (.int .u64 0), (.int .u64 0), (.int .u64 0), (.int .u64 0), (.int .u64 0), (.int .u64 0), (.int .u64 0), (.int .u64 0), (.int .u64 0)] [])) fun v14 h14 =>
  bnd (pu h14 (buildArr 1 [(.bool false), (.bool false), (.bool false), (.bool false)] [])) fun v15 h15 =>
  bnd (stS (storeV 31 v3 v14 h15)) fun v16 h16 =>
  bnd (stS (storeV 4 v4 v15 h16)) fun v17 h17 =>
  finL [loadV G true 31 v3 h17, loadV G true 4 v4 h17, some (.bool false)] h.length h17)
  (bnd (pu h13 (loadV G true 31 v1 h13)) fun v18 h18 =>
  bnd (pu h18 (fieldAddrV 2 v0)) fun v19 h19 =>
  bnd (pu h19 (loadV G false 1 v19 h19)) fun v20 h20 =>
  bnd (pureCall (alembicref17_get.f G k) [v18, v20] h20) fun v21 h21 =>
  bnd (pu h21 (loadV G true 31 v1 h21)) fun v22 h22 =>
  bnd (pu h22 (fieldAddrV 3 v0)) fun v23 h23 =>
  bnd (pu h23 (loadV G false 1 v23 h23)) fun v24 h24 =>
  bnd (pureCall (alembicref17_get.f G k) [v22, v24] h24) fun v25 h25 =>
  bnd (pu h25 (fieldAddrV 5 v0)) fun v26 h26 =>
  bnd (pu h26 (loadV G false 1 v26 h26)) fun v27 h27 =>
  bnd (pu h27 (bin Tryd.prog .and 3 true v27 (.int .i64 63))) fun v28 h28 =>
  bnd (pu h28 (convInt .u64 v28)) fun v29 h29 =>
  thenK (
  bnd (pu h29 (fieldAddrV 0 v0)) fun v30 h30 =>
  bnd (pu h30 (loadV G false 1 v30 h30)) fun v31 h31 =>
  bnd (pu h31 (bin Tryd.prog .eql 3 true v31 (.int .i64 1))) fun v32 h32 =>
  condA v32
  (bnd (pu h32 (fieldAddrV 5 v0)) fun v33 h33 =>
  bnd (pu h33 (loadV G false 1 v33 h33)) fun v34 h34 =>
  bnd (pu h34 (convInt .u64 v34)) fun v35 h35 =>
  bnd (pu h35 (fieldAddrV 4 v0)) fun v36 h36 =>
  bnd (pu h36 (loadV G false 1 v36 h36)) fun v37 h37 =>
  bnd (pu h37 (bin Tryd.prog .mul 3 true (.int .i64 16) v37)) fun v38 h38 =>
  bnd (pu h38 (convInt .u64 v38)) fun v39 h39 =>
  bnd (pu h39 (bin Tryd.prog .shl 43 false v35 v39)) fun v40 h40 =>
  some (.normal, [v0, v1, v2, v3, v4, (.bool false), v40], h40))
  (bnd (pu h32 (bin Tryd.prog .eql 3 true v31 (.int .i64 2))) fun v41 h41 =>
  condA v41
  (bnd (pu h41 (loadV G true 31 v1 h41)) fun v42 h42 =>
  bnd (pu h42 (fieldAddrV 1 v0)) fun v43 h43 =>
  bnd (pu h43 (loadV G false 1 v43 h43)) fun v44 h44 =>
  bnd (pureCall (alembicref17_get.f G k) [v42, v44] h44) fun v45 h45 =>
  bnd (pu h45 (fieldAddrV 4 v0)) fun v46 h46 =>
  bnd (pu h46 (loadV G false 1 v46 h46)) fun v47 h47 =>
  bnd (pu h47 (bin Tryd.prog .mul 3 true (.int .i64 16) v47)) fun v48 h48 =>
  bnd (pu h48 (convInt .u64 v48)) fun v49 h49 =>
  bnd (pu h49 (bin Tryd.prog .shl 43 true (.int .u64 65535) v49)) fun v50 h50 =>
  bnd (pu h50 (bin Tryd.prog .andNot 43 false v45 v50)) fun v51 h51 =>
  bnd (pu h51 (fieldAddrV 5 v0)) fun v52 h52 =>
  bnd (pu h52 (loadV G false 1 v52 h52)) fun v53 h53 =>
  bnd (pu h53 (convInt .u64 v53)) fun v54 h54 =>
  bnd (pu h54 (fieldAddrV 4 v0)) fun v55 h55 =>
  bnd (pu h55 (loadV G false 1 v55 h55)) fun v56 h56 =>
  bnd (pu h56 (bin Tryd.prog .mul 3 true (.int .i64 16) v56)) fun v57 h57 =>
  bnd (pu h57 (convInt .u64 v57)) fun v58 h58 =>
  bnd (pu h58 (bin Tryd.prog .shl 43 false v54 v58)) fun v59 h59 =>
  bnd (pu h59 (bin Tryd.prog .or 43 false v51 v59)) fun v60 h60 =>
  some (.normal, [v0, v1, v2, v3, v4, (.bool false), v60], h60))
  (bnd (pu h41 (bin Tryd.prog .eql 3 true v31 (.int .i64 3))) fun v61 h61 =>
  condA v61
  (bnd (pu h61 (bin Tryd.prog .add 43 false v21 v25)) fun v62 h62 =>
  some (.normal, [v0, v1, v2, v3, v4, (.bool false), v62], h62))
  (bnd (pu h61 (bin Tryd.prog .eql 3 true v31 (.int .i64 4))) fun v63 h63 =>
  condA v63
  (bnd (pu h63 (bin Tryd.prog .sub 43 false v21 v25)) fun v64 h64 =>
  some (.normal, [v0, v1, v2, v3, v4, (.bool false), v64], h64))
  (bnd (pu h63 (bin Tryd.prog .eql 3 true v31 (.int .i64 5))) fun v65 h65 =>
  condA v65
  (bnd (pu h65 (bin Tryd.prog .and 43 false v21 v25)) fun v66 h66 =>
  some (.normal, [v0, v1, v2, v3, v4, (.bool false), v66], h66))
  (bnd (pu h65 (bin Tryd.prog .eql 3 true v31 (.int .i64 6))) fun v67 h67 =>
  condA v67
  (bnd (pu h67 (bin Tryd.prog .or 43 false v21 v25)) fun v68 h68 =>
  some (.normal, [v0, v1, v2, v3, v4, (.bool false), v68], h68))
  (bnd (pu h67 (bin Tryd.prog .eql 3 true v31 (.int .i64 7))) fun v69 h69 =>
  condA v69
  (bnd (pu h69 (bin Tryd.prog .xor 43 false v21 v25)) fun v70 h70 =>
  some (.normal, [v0, v1, v2, v3, v4, (.bool false), v70], h70))
  (bnd (pu h69 (bin Tryd.prog .eql 3 true v31 (.int .i64 8))) fun v71 h71 =>
  condA v71
  (bnd (pu h71 (bin Tryd.prog .mul 43 false v21 v25)) fun v72 h72 =>
  bnd (pu h72 (loadV G true 31 v1 h72)) fun v73 h73 =>
  bnd (pu h73 (fieldAddrV 4 v0)) fun v74 h74 =>
  bnd (pu h74 (loadV G false 1 v74 h74)) fun v75 h75 =>
  bnd (pureCall (alembicref17_get.f G k) [v73, v75] h75) fun v76 h76 =>
  bnd (pu h76 (bin Tryd.prog .add 43 false v72 v76)) fun v77 h77 =>
  some (.normal, [v0, v1, v2, v3, v4, (.bool false), v77], h77))
  (bnd (pu h71 (bin Tryd.prog .eql 3 true v31 (.int .i64 9))) fun v78 h78 =>
  condA v78
  (bnd (pureCall (math_bits_Mul64.f G k) [v21, v25] h78) fun v79 h79 =>
  bnd (pu h79 (extractA v79 0)) fun v80 h80 =>
  bnd (pu h80 (extractA v79 1)) fun v81 h81 =>
  some (.normal, [v0, v1, v2, v3, v4, (.bool false), v80], h81))
  (bnd (pu h78 (bin Tryd.prog .eql 3 true v31 (.int .i64 10))) fun v82 h82 =>
  condA v82
  (bnd (pu h82 (fieldAddrV 5 v0)) fun v83 h83 =>
  bnd (pu h83 (loadV G false 1 v83 h83)) fun v84 h84 =>
  bnd (pu h84 (convInt .u64 v84)) fun v85 h85 =>
  bnd (pu h85 (bin Tryd.prog .add 43 false v21 v85)) fun v86 h86 =>
  some (.normal, [v0, v1, v2, v3, v4, (.bool false), v86], h86))
  (bnd (pu h82 (bin Tryd.prog .eql 3 true v31 (.int .i64 11))) fun v87 h87 =>
  condA v87
  (bnd (pu h87 (fieldAddrV 5 v0)) fun v88 h88 =>
  bnd (pu h88 (loadV G false 1 v88 h88)) fun v89 h89 =>
  bnd (pu h89 (convInt .u64 v89)) fun v90 h90 =>
  bnd (pu h90 (bin Tryd.prog .sub 43 false v21 v90)) fun v91 h91 =>
  some (.normal, [v0, v1, v2, v3, v4, (.bool false), v91], h91))
  (bnd (pu h87 (bin Tryd.prog .eql 3 true v31 (.int .i64 12))) fun v92 h92 =>
  condA v92
  (bnd (pu h92 (bin Tryd.prog .shl 43 false v21 v29)) fun v93 h93 =>
  some (.normal, [v0, v1, v2, v3, v4, (.bool false), v93], h93))
  (bnd (pu h92 (bin Tryd.prog .eql 3 true v31 (.int .i64 13))) fun v94 h94 =>
  condA v94
  (bnd (pu h94 (bin Tryd.prog .shr 43 false v21 v29)) fun v95 h95 =>
  some (.normal, [v0, v1, v2, v3, v4, (.bool false), v95], h95))
  (bnd (pu h94 (bin Tryd.prog .eql 3 true v31 (.int .i64 14))) fun v96 h96 =>
  condA v96
  (bnd (pu h96 (convInt .i64 v21)) fun v97 h97 =>
  bnd (pu h97 (bin Tryd.prog .shr 2 false v97 v29)) fun v98 h98 =>
  bnd (pu h98 (convInt .u64 v98)) fun v99 h99 =>
  some (.normal, [v0, v1, v2, v3, v4, (.bool false), v99], h99))
  (bnd (pu h96 (bin Tryd.prog .eql 3 true v31 (.int .i64 15))) fun v100 h100 =>
  condA v100
  (bnd (pu h100 (bin Tryd.prog .sub 43 false v21 v25)) fun v101 h101 =>
  bnd (pu h101 (bin Tryd.prog .xor 43 false v21 v25)) fun v102 h102 =>
  bnd (pu h102 (bin Tryd.prog .xor 43 false v21 v101)) fun v103 h103 =>
  bnd (pu h103 (bin Tryd.prog .and 43 false v102 v103)) fun v104 h104 =>
  bnd (pu h104 (bin Tryd.prog .shr 43 true v104 (.int .u64 63))) fun v105 h105 =>
  bnd (pu h105 (bin Tryd.prog .eql 43 true v105 (.int .u64 1))) fun v106 h106 =>
  bnd (pu h106 (loadV G true 31 v1 h106)) fun v107 h107 =>
  bnd (pu h107 (bin Tryd.prog .shr 43 true v101 (.int .u64 63))) fun v108 h108 =>
  bnd (pu h108 (bin Tryd.prog .eql 43 true v108 (.int .u64 1))) fun v109 h109 =>
  bnd (pu h109 (bin Tryd.prog .eql 43 true v101 (.int .u64 0))) fun v110 h110 =>
  bnd (pu h110 (bin Tryd.prog .geq 43 false v21 v25)) fun v111 h111 =>
  bnd (pu h111 (buildArr 1 [(.bool false), (.bool false), (.bool false), (.bool false)] [(0, v109), (1, v110), (2, v111), (3, v106)])) fun v112 h112 =>
  bnd (stS (storeV 31 v3 v107 h112)) fun v113 h113 =>
  bnd (stS (storeV 4 v4 v112 h113)) fun v114 h114 =>
  some (.ret, [v0, v1, v2, v3, v4, (.bool true), (.int .u64 0)], h114))
  (bnd (pu h100 (bin Tryd.prog .eql 3 true v31 (.int .i64 16))) fun v115 h115 =>
  condA v115
  (bnd (pu h115 (fieldAddrV 4 v0)) fun v116 h116 =>
  bnd (pu h116 (loadV G false 1 v116 h116)) fun v117 h117 =>
  bnd (pu h117 (loadV G true 4 v2 h117)) fun v118 h118 =>
  bnd (pureCall (alembicref17_Holds.f G k) [v117, v118] h118) fun v119 h119 =>
  condA v119
  (some (.normal, [v0, v1, v2, v3, v4, (.bool false), v21], h119))
  (some (.normal, [v0, v1, v2, v3, v4, (.bool false), v25], h119)))
  (bnd (pu h115 (bin Tryd.prog .eql 3 true v31 (.int .i64 17))) fun v120 h120 =>
  condA v120
  (bnd (pu h120 (fieldAddrV 4 v0)) fun v121 h121 =>
  bnd (pu h121 (loadV G false 1 v121 h121)) fun v122 h122 =>
  bnd (pu h122 (loadV G true 4 v2 h122)) fun v123 h123 =>
  bnd (pureCall (alembicref17_Holds.f G k) [v122, v123] h123) fun v124 h124 =>
  condA v124
  (some (.normal, [v0, v1, v2, v3, v4, (.bool false), (.int .u64 1)], h124))
  (some (.normal, [v0, v1, v2, v3, v4, (.bool false), (.int .u64 0)], h124)))
  (some (.normal, [v0, v1, v2, v3, v4, (.bool false), (.int .u64 0)], h120))))))))))))))))))) fun e125 x125 h125 => exK e125
  (bnd (pu h125 (loadV G true 31 (nth x125 1) h125)) fun v126 h126 =>
  bnd (pu h126 (fieldAddrV 1 (nth x125 0))) fun v127 h127 =>
  bnd (pu h127 (loadV G false 1 v127 h127)) fun v128 h128 =>
  bnd (pureCall (alembicref17_set.f G k) [v126, v128, (nth x125 6)] h128) fun v129 h129 =>
  bnd (pu h129 (loadV G true 4 (nth x125 2) h129)) fun v130 h130 =>
  bnd (stS (storeV 31 (nth x125 3) v129 h130)) fun v131 h131 =>
  bnd (stS (storeV 4 (nth x125 4) v130 h131)) fun v132 h132 =>
  grd [((nth x125 2), (nth x125 3))] (
finL [loadV G true 31 (nth x125 3) h132, loadV G true 4 (nth x125 4) h132, some (.bool true)] h.length h132))
  (fun i125 => none)
  (finL [loadV G true 31 (nth x125 3) h125, loadV G true 4 (nth x125 4) h125, some (nth x125 5)] h.length h125)))
noncomputable def alembicref17_One.f (G : Globs) : Nat → Den
  | 0 => fun _ _ => none
  | k + 1 => fun args h => arg3 args fun x0 x1 x2 => (alembicref17_One.c G k (alembicref17_One.f G k) x0 x1 x2 h)
theorem alembicref17_One.step (G : Globs) (k : Nat) (x0 x1 x2 : AV) (h : AHeap) : alembicref17_One.f G (k + 1) [x0, x1, x2] h = alembicref17_One.c G k (alembicref17_One.f G k) x0 x1 x2 h := rfl
end Go.Proofs.YtdfglgnflldkpaaDoor.Mir
namespace Go.Proofs.YtdfglgnflldkpaaDoor.Mir
open Go
set_option linter.unusedVariables false
/-! alembic/alembicref.Words: function 46 -/
noncomputable def alembicref_Words.ann : Ann := mkAnn [] [2] [(3, [0, 3, 4])] []
noncomputable def alembicref_Words.env (G : Globs) (k : Nat) (self : Den) : List (Nat × Bool × Den) := []
noncomputable def alembicref_Words.l3 (G : Globs) (k n0 : Nat) (self : Den) (lp : LoopF) : LoopF := fun xs h0 => cutK n0 xs h0 fun h =>
  bnd (pu h (lenSl (nth xs 0))) fun v4 h4 =>
  bnd (pu h4 (bin Tryd.prog .lss 3 false (nth xs 2) v4)) fun v5 h5 =>
  condA v5
  (bnd (pu h5 (idxAddrSl 1 (nth xs 0) (nth xs 2))) fun v6 h6 =>
  bnd (pu h6 (loadV G false 1 v6 h6)) fun v7 h7 =>
  bnd (buildRo 1 1 (.int .u64 0) [(0, v7)] h7) fun v8 h8 =>
  bnd (appendV 43 1 (nth xs 1) v8 h8) fun v9 h9 =>
  bnd (pu h9 (bin Tryd.prog .add 3 true (nth xs 2) (.int .i64 1))) fun v10 h10 =>
  lp [(nth xs 0), v9, v10] h10)
  (some (.exit 0, [(nth xs 0), (nth xs 1), (nth xs 2)], h5))
noncomputable def alembicref_Words.c (G : Globs) (k : Nat) (self : Den) (x0 : AV) (h : AHeap) : Option (AV × AHeap) := outV (
  bnd (some (.sl h.length 0 0 0 1, h ++ [⟨43, 1, []⟩])) fun v0 h0 =>
  bnd (pu h0 (lenSl x0)) fun v1 h1 =>
  bnd (makeSliceV 43 1 (.int .u64 0) (.int .i64 0) v1 h1) fun v2 h2 =>
  thenK (loopN (alembicref_Words.l3 G k h2.length self) k [x0, v2, (.int .i64 0)] h2) fun e3 x3 h3 => exK e3
  (finO [(nth x3 1)] h3)
  (fun i3 => if i3 = 0 then (finO [(nth x3 1)] h3) else (none))
  (finO [.undef] h3))
noncomputable def alembicref_Words.f (G : Globs) : Nat → Den
  | 0 => fun _ _ => none
  | k + 1 => fun args h => arg1 args fun x0 => (alembicref_Words.c G k (alembicref_Words.f G k) x0 h)
theorem alembicref_Words.step (G : Globs) (k : Nat) (x0 : AV) (h : AHeap) : alembicref_Words.f G (k + 1) [x0] h = alembicref_Words.c G k (alembicref_Words.f G k) x0 h := rfl
/-! alembic/alembicref17.one: function 47 -/
noncomputable def alembicref17_one.ann : Ann := mkAnn [] [] [] []
noncomputable def alembicref17_one.env (G : Globs) (k : Nat) (self : Den) : List (Nat × Bool × Den) := []
noncomputable def alembicref17_one.c (G : Globs) (k : Nat) (self : Den) (x0 : AV) (h : AHeap) : Option (AV × AHeap) := outV (
  condA x0
  (finV [(.int .i64 1)] h.length h)
  (finV [(.int .i64 0)] h.length h))
noncomputable def alembicref17_one.f (G : Globs) : Nat → Den
  | 0 => fun _ _ => none
  | k + 1 => fun args h => arg1 args fun x0 => (alembicref17_one.c G k (alembicref17_one.f G k) x0 h)
theorem alembicref17_one.step (G : Globs) (k : Nat) (x0 : AV) (h : AHeap) : alembicref17_one.f G (k + 1) [x0] h = alembicref17_one.c G k (alembicref17_one.f G k) x0 h := rfl
/-! alembic/alembicref17.RunMach: function 22 -/
noncomputable def alembicref17_RunMach.ann : Ann := mkAnnV [] [] [(4, [0, 2, 6, 7, 8, 9])] [(36, [0, 2, 6, 7, 8, 9, 10, 12, 14]), (33, [0, 2, 6, 7, 8, 9, 10, 12, 61, 139]), (21, [0, 2, 6, 7, 8, 9, 10, 12, 61, 74])] [(4, [(6, 33, 107, 2), (7, 33, 107, 2)])] []
noncomputable def alembicref17_RunMach.env (G : Globs) (k : Nat) (self : Den) : List (Nat × Bool × Den) := [(25, true, alembicref17_One.f G k), (34, true, alembicref17_Holds.f G k), (46, false, alembicref_Words.f G k), (47, true, alembicref17_one.f G k), (51, true, alembicref17_Of.f G k), (52, true, alembicref17_get.f G k), (53, true, alembicref17_set.f G k)]
noncomputable def alembicref17_RunMach.l4 (G : Globs) (k n0 : Nat) (self : Den) (lp : LoopF) : LoopF := fun xs h0 => cutK n0 xs h0 fun h =>
  bnd (pu h (bin Tryd.prog .lss 3 true (nth xs 5) (.int .i64 0))) fun v7 h7 =>
  bnd (gd v7 false h7 (some ((nth xs 5), h7))) fun v8 h8 =>
  bnd (gd v7 false h8 (some ((nth xs 0), h8))) fun v9 h9 =>
  bnd (gd v7 false h9 (pu h9 (lenSl v9))) fun v10 h10 =>
  bnd (gd v7 false h10 (pu h10 (bin Tryd.prog .geq 3 false v8 v10))) fun v11 h11 =>
  bnd (pu h11 (pickA v7 (.bool true) v11)) fun v12 h12 =>
  condA v12
  (bnd (pu h12 (loadV G true 35 (nth xs 3) h12)) fun v13 h13 =>
  bnd (stS (storeV 35 (nth xs 2) v13 h13)) fun v14 h14 =>
  some (.ret, [(nth xs 0), (nth xs 1), (nth xs 2), (nth xs 3), (nth xs 4), (nth xs 5)], h14))
  (bnd (pu h12 (fieldAddrV 34 (nth xs 3))) fun v15 h15 =>
  bnd (pu h15 (loadV G false 1 v15 h15)) fun v16 h16 =>
  bnd (pu h16 (bin Tryd.prog .geq 2 false v16 (nth xs 1))) fun v17 h17 =>
  condA v17
  (bnd (pu h17 (fieldAddrV 0 (nth xs 3))) fun v18 h18 =>
  bnd (stS (storeV 1 v18 (.int .i64 4) h18)) fun v19 h19 =>
  bnd (pu h19 (loadV G true 35 (nth xs 3) h19)) fun v20 h20 =>
  bnd (stS (storeV 35 (nth xs 2) v20 h20)) fun v21 h21 =>
  some (.ret, [(nth xs 0), (nth xs 1), (nth xs 2), (nth xs 3), (nth xs 4), (nth xs 5)], h21))
  (bnd (pu h17 (fieldAddrV 34 (nth xs 3))) fun v22 h22 =>
  bnd (pu h22 (loadV G false 1 v22 h22)) fun v23 h23 =>
  bnd (pu h23 (bin Tryd.prog .add 2 true v23 (.int .i64 1))) fun v24 h24 =>
  bnd (pu h24 (fieldAddrV 34 (nth xs 3))) fun v25 h25 =>
  bnd (stS (storeV 1 v25 v24 h25)) fun v26 h26 =>
  bnd (pu h26 (fieldAddrV 33 (nth xs 3))) fun v27 h27 =>
  bnd (pu h27 (loadV G false 1 v27 h27)) fun v28 h28 =>
  bnd (pu h28 (buildSt [(0, 1), (1, 1)] [(.int .i64 0), (.int .i64 0)] [(0, (.int .i64 1)), (1, (nth xs 5))])) fun v29 h29 =>
  bnd (buildRo 2 1 (.agg [(.int .i64 0), (.int .i64 0)]) [(0, v29)] h29) fun v30 h30 =>
  bnd (appendV 107 2 v28 v30 h30) fun v31 h31 =>
  bnd (pu h31 (fieldAddrV 33 (nth xs 3))) fun v32 h32 =>
  bnd (stS (storeV 1 v32 v31 h32)) fun v33 h33 =>
  bnd (pu h33 (idxAddrSl 1 (nth xs 0) (nth xs 5))) fun v34 h34 =>
  bnd (pu h34 (loadV G false 1 v34 h34)) fun v35 h35 =>
  bnd (pureCall (alembicref17_Of.f G k) [v35] h35) fun v36 h36 =>
  bnd (pu h36 (extractA v36 0)) fun v37 h37 =>
  bnd (pu h37 (extractA v36 1)) fun v38 h38 =>
  bnd (boxA 57 (.agg [(.int .i64 0), (.int .i64 0), (.int .i64 0), (.int .i64 0), (.int .i64 0), (.int .i64 0)]) h38) fun v39 h39 =>
  bnd (stS (storeV 6 v39 v37 h39)) fun v40 h40 =>
  bnd (pu h40 (un .not v38)) fun v41 h41 =>
  condA v41
  (bnd (pu h41 (loadV G true 35 (nth xs 3) h41)) fun v42 h42 =>
  bnd (stS (storeV 35 (nth xs 2) v42 h42)) fun v43 h43 =>
  some (.ret, [(nth xs 0), (nth xs 1), (nth xs 2), (nth xs 3), (nth xs 4), (nth xs 5)], h43))
  (bnd (pu h41 (bin Tryd.prog .add 3 true (nth xs 5) (.int .i64 1))) fun v44 h44 =>
  bnd (pu h44 (fieldAddrV 0 v39)) fun v45 h45 =>
  bnd (pu h45 (loadV G false 1 v45 h45)) fun v46 h46 =>
  thenK (
  bnd (pu h46 (bin Tryd.prog .eql 3 true v46 (.int .i64 18))) fun v47 h47 =>
  condA v47
  (some (.normal, [(nth xs 0), (nth xs 1), (nth xs 2), (nth xs 3), (nth xs 4), (nth xs 5), v39, v44, v46, v47], h47))
  (bnd (pu h47 (bin Tryd.prog .eql 3 true v46 (.int .i64 19))) fun v48 h48 =>
  some (.normal, [(nth xs 0), (nth xs 1), (nth xs 2), (nth xs 3), (nth xs 4), (nth xs 5), v39, v44, v46, v48], h48))) fun e49 x49 h49 => exK e49
  (condA (nth x49 9)
  (bnd (pu h49 (fieldAddrV 2 (nth x49 3))) fun v50 h50 =>
  bnd (pu h50 (loadV G true 31 v50 h50)) fun v51 h51 =>
  bnd (pu h51 (fieldAddrV 2 (nth x49 6))) fun v52 h52 =>
  bnd (pu h52 (loadV G false 1 v52 h52)) fun v53 h53 =>
  bnd (pureCall (alembicref17_get.f G k) [v51, v53] h53) fun v54 h54 =>
  bnd (pu h54 (fieldAddrV 5 (nth x49 6))) fun v55 h55 =>
  bnd (pu h55 (loadV G false 1 v55 h55)) fun v56 h56 =>
  bnd (pu h56 (convInt .u64 v56)) fun v57 h57 =>
  bnd (pu h57 (bin Tryd.prog .mul 43 true (.int .u64 8) v57)) fun v58 h58 =>
  bnd (pu h58 (bin Tryd.prog .add 43 false v54 v58)) fun v59 h59 =>
  bnd (pu h59 (fieldAddrV 33 (nth x49 3))) fun v60 h60 =>
  bnd (pu h60 (loadV G false 1 v60 h60)) fun v61 h61 =>
  bnd (pu h61 (convInt .i64 v59)) fun v62 h62 =>
  bnd (pu h62 (buildSt [(0, 1), (1, 1)] [(.int .i64 0), (.int .i64 0)] [(0, (.int .i64 3)), (1, v62)])) fun v63 h63 =>
  bnd (buildRo 2 1 (.agg [(.int .i64 0), (.int .i64 0)]) [(0, v63)] h63) fun v64 h64 =>
  bnd (appendV 107 2 v61 v64 h64) fun v65 h65 =>
  bnd (pu h65 (fieldAddrV 33 (nth x49 3))) fun v66 h66 =>
  bnd (stS (storeV 1 v66 v65 h66)) fun v67 h67 =>
  bnd (pu h67 (bin Tryd.prog .rem 43 true v59 (.int .u64 8))) fun v68 h68 =>
  bnd (pu h68 (bin Tryd.prog .neq 43 true v68 (.int .u64 0))) fun v69 h69 =>
  bnd (gd v69 false h69 (some (v59, h69))) fun v70 h70 =>
  bnd (gd v69 false h70 (pu h70 (bin Tryd.prog .quo 43 true v70 (.int .u64 8)))) fun v71 h71 =>
  bnd (gd v69 false h71 (pu h71 (fieldAddrV 1 (nth x49 3)))) fun v72 h72 =>
  bnd (gd v69 false h72 (pu h72 (loadV G false 1 v72 h72))) fun v73 h73 =>
  bnd (gd v69 false h73 (pu h73 (lenSl v73))) fun v74 h74 =>
  bnd (gd v69 false h74 (pu h74 (convInt .u64 v74))) fun v75 h75 =>
  bnd (gd v69 false h75 (pu h75 (bin Tryd.prog .geq 43 false v71 v75))) fun v76 h76 =>
  bnd (pu h76 (pickA v69 (.bool true) v76)) fun v77 h77 =>
  condA v77
  (bnd (pu h77 (loadV G true 35 (nth x49 3) h77)) fun v78 h78 =>
  bnd (stS (storeV 35 (nth x49 2) v78 h78)) fun v79 h79 =>
  some (.ret, [(nth x49 0), (nth x49 1), (nth x49 2), (nth x49 3), (nth x49 4), (nth x49 5)], h79))
  (bnd (pu h77 (fieldAddrV 0 (nth x49 6))) fun v80 h80 =>
  bnd (pu h80 (loadV G false 1 v80 h80)) fun v81 h81 =>
  bnd (pu h81 (bin Tryd.prog .eql 3 true v81 (.int .i64 18))) fun v82 h82 =>
  condA v82
  (bnd (pu h82 (fieldAddrV 2 (nth x49 3))) fun v83 h83 =>
  bnd (pu h83 (loadV G true 31 v83 h83)) fun v84 h84 =>
  bnd (pu h84 (fieldAddrV 1 (nth x49 6))) fun v85 h85 =>
  bnd (pu h85 (loadV G false 1 v85 h85)) fun v86 h86 =>
  bnd (pu h86 (fieldAddrV 1 (nth x49 3))) fun v87 h87 =>
  bnd (pu h87 (loadV G false 1 v87 h87)) fun v88 h88 =>
  bnd (pu h88 (bin Tryd.prog .quo 43 true v59 (.int .u64 8))) fun v89 h89 =>
  bnd (pu h89 (idxAddrSl 1 v88 v89)) fun v90 h90 =>
  bnd (pu h90 (loadV G false 1 v90 h90)) fun v91 h91 =>
  bnd (pureCall (alembicref17_set.f G k) [v84, v86, v91] h91) fun v92 h92 =>
  bnd (pu h92 (fieldAddrV 2 (nth x49 3))) fun v93 h93 =>
  bnd (stS (storeV 31 v93 v92 h93)) fun v94 h94 =>
  lp [(nth x49 0), (nth x49 1), (nth x49 2), (nth x49 3), (nth x49 4), (nth x49 7)] h94)
  (bnd (pu h82 (fieldAddrV 1 (nth x49 3))) fun v95 h95 =>
  bnd (pu h95 (loadV G false 1 v95 h95)) fun v96 h96 =>
  bnd (pu h96 (bin Tryd.prog .quo 43 true v59 (.int .u64 8))) fun v97 h97 =>
  bnd (pu h97 (fieldAddrV 2 (nth x49 3))) fun v98 h98 =>
  bnd (pu h98 (loadV G true 31 v98 h98)) fun v99 h99 =>
  bnd (pu h99 (fieldAddrV 1 (nth x49 6))) fun v100 h100 =>
  bnd (pu h100 (loadV G false 1 v100 h100)) fun v101 h101 =>
  bnd (pureCall (alembicref17_get.f G k) [v99, v101] h101) fun v102 h102 =>
  bnd (pu h102 (idxAddrSl 1 v96 v97)) fun v103 h103 =>
  bnd (stS (storeV 1 v103 v102 h103)) fun v104 h104 =>
  lp [(nth x49 0), (nth x49 1), (nth x49 2), (nth x49 3), (nth x49 4), (nth x49 7)] h104)))
  (bnd (pu h49 (bin Tryd.prog .eql 3 true (nth x49 8) (.int .i64 20))) fun v105 h105 =>
  condA v105
  (bnd (pu h105 (fieldAddrV 5 (nth x49 6))) fun v106 h106 =>
  bnd (pu h106 (loadV G false 1 v106 h106)) fun v107 h107 =>
  bnd (pu h107 (bin Tryd.prog .add 3 false (nth x49 5) v107)) fun v108 h108 =>
  lp [(nth x49 0), (nth x49 1), (nth x49 2), (nth x49 3), (nth x49 4), v108] h108)
  (thenK (
  bnd (pu h105 (bin Tryd.prog .eql 3 true (nth x49 8) (.int .i64 21))) fun v109 h109 =>
  condA v109
  (some (.normal, [(nth x49 0), (nth x49 1), (nth x49 2), (nth x49 3), (nth x49 4), (nth x49 5), (nth x49 6), (nth x49 7), (nth x49 8), v109], h109))
  (bnd (pu h109 (bin Tryd.prog .eql 3 true (nth x49 8) (.int .i64 22))) fun v110 h110 =>
  condA v110
  (some (.normal, [(nth x49 0), (nth x49 1), (nth x49 2), (nth x49 3), (nth x49 4), (nth x49 5), (nth x49 6), (nth x49 7), (nth x49 8), v110], h110))
  (bnd (pu h110 (bin Tryd.prog .eql 3 true (nth x49 8) (.int .i64 23))) fun v111 h111 =>
  some (.normal, [(nth x49 0), (nth x49 1), (nth x49 2), (nth x49 3), (nth x49 4), (nth x49 5), (nth x49 6), (nth x49 7), (nth x49 8), v111], h111)))) fun e112 x112 h112 => exK e112
  (condA (nth x112 9)
  (bnd (pu h112 (fieldAddrV 4 (nth x112 6))) fun v113 h113 =>
  bnd (pu h113 (loadV G false 1 v113 h113)) fun v114 h114 =>
  bnd (pu h114 (loadV G true 4 (nth x112 4) h114)) fun v115 h115 =>
  bnd (pureCall (alembicref17_Holds.f G k) [v114, v115] h115) fun v116 h116 =>
  thenK (
  bnd (pu h116 (fieldAddrV 0 (nth x112 6))) fun v117 h117 =>
  bnd (pu h117 (loadV G false 1 v117 h117)) fun v118 h118 =>
  bnd (pu h118 (bin Tryd.prog .neq 3 true v118 (.int .i64 21))) fun v119 h119 =>
  condA v119
  (bnd (pu h119 (fieldAddrV 2 (nth x112 3))) fun v120 h120 =>
  bnd (pu h120 (loadV G true 31 v120 h120)) fun v121 h121 =>
  bnd (pu h121 (fieldAddrV 1 (nth x112 6))) fun v122 h122 =>
  bnd (pu h122 (loadV G false 1 v122 h122)) fun v123 h123 =>
  bnd (pureCall (alembicref17_get.f G k) [v121, v123] h123) fun v124 h124 =>
  bnd (pu h124 (bin Tryd.prog .eql 43 true v124 (.int .u64 0))) fun v125 h125 =>
  bnd (pu h125 (fieldAddrV 0 (nth x112 6))) fun v126 h126 =>
  bnd (pu h126 (loadV G false 1 v126 h126)) fun v127 h127 =>
  bnd (pu h127 (bin Tryd.prog .eql 3 true v127 (.int .i64 22))) fun v128 h128 =>
  bnd (pu h128 (bin Tryd.prog .eql 4 false v125 v128)) fun v129 h129 =>
  some (.normal, [(nth x112 0), (nth x112 1), (nth x112 2), (nth x112 3), (nth x112 4), (nth x112 5), (nth x112 6), (nth x112 7), v129], h129))
  (some (.normal, [(nth x112 0), (nth x112 1), (nth x112 2), (nth x112 3), (nth x112 4), (nth x112 5), (nth x112 6), (nth x112 7), v116], h119))) fun e130 x130 h130 => exK e130
  (bnd (pu h130 (fieldAddrV 33 (nth x130 3))) fun v131 h131 =>
  bnd (pu h131 (loadV G false 1 v131 h131)) fun v132 h132 =>
  bnd (pureCall (alembicref17_one.f G k) [(nth x130 8)] h132) fun v133 h133 =>
  bnd (pu h133 (buildSt [(0, 1), (1, 1)] [(.int .i64 0), (.int .i64 0)] [(0, (.int .i64 2)), (1, v133)])) fun v134 h134 =>
  bnd (buildRo 2 1 (.agg [(.int .i64 0), (.int .i64 0)]) [(0, v134)] h134) fun v135 h135 =>
  bnd (appendV 107 2 v132 v135 h135) fun v136 h136 =>
  bnd (pu h136 (fieldAddrV 33 (nth x130 3))) fun v137 h137 =>
  bnd (stS (storeV 1 v137 v136 h137)) fun v138 h138 =>
  condA (nth x130 8)
  (bnd (pu h138 (fieldAddrV 5 (nth x130 6))) fun v139 h139 =>
  bnd (pu h139 (loadV G false 1 v139 h139)) fun v140 h140 =>
  bnd (pu h140 (bin Tryd.prog .add 3 false (nth x130 5) v140)) fun v141 h141 =>
  lp [(nth x130 0), (nth x130 1), (nth x130 2), (nth x130 3), (nth x130 4), v141] h141)
  (lp [(nth x130 0), (nth x130 1), (nth x130 2), (nth x130 3), (nth x130 4), (nth x130 7)] h138))
  (fun i130 => if i130 = 2 then (lp [(nth x130 0), (nth x130 1), (nth x130 2), (nth x130 3), (nth x130 4), (nth x130 7)] h130) else (if i130 = 1 then (lp [(nth x130 0), (nth x130 1), (nth x130 2), (nth x130 3), (nth x130 4), (nth x130 5)] h130) else (some (.exit i130, [(nth x130 0), (nth x130 1), (nth x130 2), (nth x130 3), (nth x130 4), (nth x130 5)], h130))))
  (some (.ret, [(nth x130 0), (nth x130 1), (nth x130 2), (nth x130 3), (nth x130 4), (nth x130 5)], h130)))
  (bnd (pu h112 (bin Tryd.prog .eql 3 true (nth x112 8) (.int .i64 24))) fun v142 h142 =>
  condA v142
  (bnd (pu h142 (fieldAddrV 5 (nth x112 6))) fun v143 h143 =>
  bnd (pu h143 (loadV G false 1 v143 h143)) fun v144 h144 =>
  bnd (pu h144 (bin Tryd.prog .leq 3 true v144 (.int .i64 2))) fun v145 h145 =>
  condA v145
  (bnd (pu h145 (fieldAddrV 5 (nth x112 6))) fun v146 h146 =>
  bnd (pu h146 (loadV G false 1 v146 h146)) fun v147 h147 =>
  bnd (pu h147 (fieldAddrV 0 (nth x112 3))) fun v148 h148 =>
  bnd (stS (storeV 1 v148 v147 h148)) fun v149 h149 =>
  bnd (pu h149 (loadV G true 35 (nth x112 3) h149)) fun v150 h150 =>
  bnd (stS (storeV 35 (nth x112 2) v150 h150)) fun v151 h151 =>
  some (.ret, [(nth x112 0), (nth x112 1), (nth x112 2), (nth x112 3), (nth x112 4), (nth x112 5)], h151))
  (bnd (pu h145 (loadV G true 35 (nth x112 3) h145)) fun v152 h152 =>
  bnd (stS (storeV 35 (nth x112 2) v152 h152)) fun v153 h153 =>
  some (.ret, [(nth x112 0), (nth x112 1), (nth x112 2), (nth x112 3), (nth x112 4), (nth x112 5)], h153)))
  (bnd (pu h142 (loadV G true 6 (nth x112 6) h142)) fun v154 h154 =>
  bnd (pu h154 (fieldAddrV 2 (nth x112 3))) fun v155 h155 =>
  bnd (pu h155 (loadV G true 31 v155 h155)) fun v156 h156 =>
  bnd (pu h156 (loadV G true 4 (nth x112 4) h156)) fun v157 h157 =>
  bnd (pureCall (alembicref17_One.f G k) [v154, v156, v157] h157) fun v158 h158 =>
  bnd (pu h158 (extractA v158 0)) fun v159 h159 =>
  bnd (pu h159 (extractA v158 1)) fun v160 h160 =>
  bnd (pu h160 (extractA v158 2)) fun v161 h161 =>
  bnd (boxA 44 (.agg [(.int .u64 0), (.int .u64 0), (.int .u64 0), (.int .u64 0), (.int .u64 0), (.int .u64 0), (.int .u64 0), (.int .u64 0), (.int .u64 0), (.int .u64 0), (.int .u64 0), (.int .u64 0), (.int .u64 0), (.int .u64 0), (.int .u64 0), (.int .u64 0), (.int .u64 0), (.int .u64 0), (.int .u64 0), (.int .u64 0), (.int .u64 0), (.int .u64 0), (.int .u64 0), (.int .u64 0), (.int .u64 0), (.int .u64 0), (.int .u64 0), (.int .u64 0), (.int .u64 0), (.int .u64 0), (.int .u64 0)]) h161) fun v162 h162 =>
  bnd (boxA 53 (.agg [(.bool false), (.bool false), (.bool false), (.bool false)]) h162) fun v163 h163 =>
  bnd (stS (storeV 31 v162 v159 h163)) fun v164 h164 =>
  bnd (stS (storeV 4 v163 v160 h164)) fun v165 h165 =>
  bnd (pu h165 (loadV G true 31 v162 h165)) fun v166 h166 =>
  bnd (pu h166 (fieldAddrV 2 (nth x112 3))) fun v167 h167 =>
  bnd (stS (storeV 31 v167 v166 h167)) fun v168 h168 =>
  bnd (pu h168 (loadV G true 4 v163 h168)) fun v169 h169 =>
  bnd (stS (storeV 4 (nth x112 4) v169 h169)) fun v170 h170 =>
  lp [(nth x112 0), (nth x112 1), (nth x112 2), (nth x112 3), (nth x112 4), (nth x112 7)] h170)))
  (fun i112 => if i112 = 2 then (lp [(nth x112 0), (nth x112 1), (nth x112 2), (nth x112 3), (nth x112 4), (nth x112 7)] h112) else (if i112 = 1 then (lp [(nth x112 0), (nth x112 1), (nth x112 2), (nth x112 3), (nth x112 4), (nth x112 5)] h112) else (some (.exit i112, [(nth x112 0), (nth x112 1), (nth x112 2), (nth x112 3), (nth x112 4), (nth x112 5)], h112))))
  (some (.ret, [(nth x112 0), (nth x112 1), (nth x112 2), (nth x112 3), (nth x112 4), (nth x112 5)], h112)))))
  (fun i49 => if i49 = 2 then (lp [(nth x49 0), (nth x49 1), (nth x49 2), (nth x49 3), (nth x49 4), (nth x49 7)] h49) else (if i49 = 1 then (lp [(nth x49 0), (nth x49 1), (nth x49 2), (nth x49 3), (nth x49 4), (nth x49 5)] h49) else (some (.exit i49, [(nth x49 0), (nth x49 1), (nth x49 2), (nth x49 3), (nth x49 4), (nth x49 5)], h49))))
  (some (.ret, [(nth x49 0), (nth x49 1), (nth x49 2), (nth x49 3), (nth x49 4), (nth x49 5)], h49)))))
noncomputable def alembicref17_RunMach.c (G : Globs) (k : Nat) (self : Den) (x0 x1 x2 : AV) (h : AHeap) : Option (AV × AHeap) := outV (
  bnd (boxA 46 (.agg [(.int .i64 0), .nils, (.int .u64 0), (.int .u64 0), (.int .u64 0), (.int .u64 0), (.int .u64 0), (.int .u64 0), (.int .u64 0), (.int .u64 0), (.int .u64 0), (.int .u64 0), (.int .u64 0), (.int .u64 0), (.int .u64 0), (.int .u64 0), (.int .u64 0), (.int .u64 0), (.int .u64 0), (.int .u64 0), (.int .u64 0), (.int .u64 0), (.int .u64 0), (.int .u64 0), (.int .u64 0), (.int .u64 0), (.int .u64 0), (.int .u64 0), (.int .u64 0), (.int .u64 0), (.int .u64 0), (.int .u64 0), (.int .u64 0), .nils, (.int .i64 0)]) h) fun v0 h0 =>
  bnd (heapCall (alembicref_Words.f G k) [x1] h0) fun v1 h1 =>
  bnd (pu h1 (buildSt [(0, 1), (1, 1), (2, 31), (33, 1), (34, 1)] [(.int .i64 0), .nils, (.int .u64 0), (.int .u64 0), (.int .u64 0), (.int .u64 0), (.int .u64 0), (.int .u64 0), (.int .u64 0), (.int .u64 0), (.int .u64 0), (.int .u64 0), (.int .u64 0), (.int .u64 0), (.int .u64 0), (.int .u64 0), (.int .u64 0), (.int .u64 0), (.int .u64 0), (.int .u64 0), (.int .u64 0), (.int .u64 0), (.int .u64 0), (.int .u64 0), (.int .u64 0), (.int .u64 0), (.int .u64 0), (.int .u64 0), (.int .u64 0), (.int .u64 0), (.int .u64 0), (.int .u64 0), (.int .u64 0), .nils, (.int .i64 0)] [(1, v1), (0, (.int .i64 3))])) fun v2 h2 =>
  bnd (boxA 46 (.agg [(.int .i64 0), .nils, (.int .u64 0), (.int .u64 0), (.int .u64 0), (.int .u64 0), (.int .u64 0), (.int .u64 0), (.int .u64 0), (.int .u64 0), (.int .u64 0), (.int .u64 0), (.int .u64 0), (.int .u64 0), (.int .u64 0), (.int .u64 0), (.int .u64 0), (.int .u64 0), (.int .u64 0), (.int .u64 0), (.int .u64 0), (.int .u64 0), (.int .u64 0), (.int .u64 0), (.int .u64 0), (.int .u64 0), (.int .u64 0), (.int .u64 0), (.int .u64 0), (.int .u64 0), (.int .u64 0), (.int .u64 0), (.int .u64 0), .nils, (.int .i64 0)]) h2) fun v3 h3 =>
  bnd (stS (storeV 35 v3 v2 h3)) fun v4 h4 =>
  bnd (boxA 53 (.agg [(.bool false), (.bool false), (.bool false), (.bool false)]) h4) fun v5 h5 =>
  vK [(v0, 33, 107, 2), (v3, 33, 107, 2)] h5 fun hv6 =>
  thenK (loopN (alembicref17_RunMach.l4 G k hv6.length self) k [x0, x2, v0, v3, v5, (.int .i64 0)] hv6) fun e6 x6 h6 => exK e6
  (finL [loadV G true 35 (nth x6 2) h6] h.length h6)
  (fun i6 => if i6 = 0 then (finL [loadV G true 35 (nth x6 2) h6] h.length h6) else (none))
  (finL [loadV G true 35 (nth x6 2) h6] h.length h6))
noncomputable def alembicref17_RunMach.f (G : Globs) : Nat → Den
  | 0 => fun _ _ => none
  | k + 1 => fun args h => arg3 args fun x0 x1 x2 => (alembicref17_RunMach.c G k (alembicref17_RunMach.f G k) x0 x1 x2 h)
theorem alembicref17_RunMach.step (G : Globs) (k : Nat) (x0 x1 x2 : AV) (h : AHeap) : alembicref17_RunMach.f G (k + 1) [x0, x1, x2] h = alembicref17_RunMach.c G k (alembicref17_RunMach.f G k) x0 x1 x2 h := rfl
end Go.Proofs.YtdfglgnflldkpaaDoor.Mir
namespace Go.Proofs.YtdfglgnflldkpaaDoor.Mir
open Go
set_option linter.unusedVariables false
/-! alembic/words.name: function 106 -/
noncomputable def words_name.ann : Ann := mkAnn [] [] [] []
noncomputable def words_name.env (G : Globs) (k : Nat) (self : Den) : List (Nat × Bool × Den) := []
noncomputable def words_name.c (G : Globs) (k : Nat) (self : Den) (x0 : AV) (h : AHeap) : Option (AV × AHeap) := outV (
  bnd (pu h (bin Tryd.prog .eql 3 true x0 (.int .i64 3))) fun v0 h0 =>
  condA v0
  (finV [(.str ⟨#[97, 100, 100]⟩)] h.length h0)
  (bnd (pu h0 (bin Tryd.prog .eql 3 true x0 (.int .i64 4))) fun v1 h1 =>
  condA v1
  (finV [(.str ⟨#[115, 117, 98]⟩)] h.length h1)
  (bnd (pu h1 (bin Tryd.prog .eql 3 true x0 (.int .i64 5))) fun v2 h2 =>
  condA v2
  (finV [(.str ⟨#[109, 117, 108]⟩)] h.length h2)
  (bnd (pu h2 (bin Tryd.prog .eql 3 true x0 (.int .i64 6))) fun v3 h3 =>
  condA v3
  (finV [(.str ⟨#[104, 105, 103, 104]⟩)] h.length h3)
  (bnd (pu h3 (bin Tryd.prog .eql 3 true x0 (.int .i64 7))) fun v4 h4 =>
  condA v4
  (finV [(.str ⟨#[97, 110, 100]⟩)] h.length h4)
  (bnd (pu h4 (bin Tryd.prog .eql 3 true x0 (.int .i64 8))) fun v5 h5 =>
  condA v5
  (finV [(.str ⟨#[111, 114]⟩)] h.length h5)
  (bnd (pu h5 (bin Tryd.prog .eql 3 true x0 (.int .i64 9))) fun v6 h6 =>
  condA v6
  (finV [(.str ⟨#[120, 111, 114]⟩)] h.length h6)
  (bnd (pu h6 (bin Tryd.prog .eql 3 true x0 (.int .i64 13))) fun v7 h7 =>
  condA v7
  (finV [(.str ⟨#[108, 101, 115, 115]⟩)] h.length h7)
  (bnd (pu h7 (bin Tryd.prog .eql 3 true x0 (.int .i64 10))) fun v8 h8 =>
  condA v8
  (finV [(.str ⟨#[115, 104, 108]⟩)] h.length h8)
  (bnd (pu h8 (bin Tryd.prog .eql 3 true x0 (.int .i64 11))) fun v9 h9 =>
  condA v9
  (finV [(.str ⟨#[115, 104, 114]⟩)] h.length h9)
  (bnd (pu h9 (bin Tryd.prog .eql 3 true x0 (.int .i64 12))) fun v10 h10 =>
  condA v10
  (finV [(.str ⟨#[115, 97, 114]⟩)] h.length h10)
  (bnd (pu h10 (bin Tryd.prog .eql 3 true x0 (.int .i64 15))) fun v11 h11 =>
  condA v11
  (finV [(.str ⟨#[108, 100]⟩)] h.length h11)
  (bnd (pu h11 (bin Tryd.prog .eql 3 true x0 (.int .i64 17))) fun v12 h12 =>
  condA v12
  (finV [(.str ⟨#[98, 114]⟩)] h.length h12)
  (bnd (pu h12 (bin Tryd.prog .eql 3 true x0 (.int .i64 20))) fun v13 h13 =>
  condA v13
  (finV [(.str ⟨#[104, 97, 108, 116]⟩)] h.length h13)
  (bnd (pu h13 (bin Tryd.prog .eql 3 true x0 (.int .i64 18))) fun v14 h14 =>
  condA v14
  (finV [(.str ⟨#[98, 122]⟩)] h.length h14)
  (finV [(.str ⟨#[98, 110, 122]⟩)] h.length h14))))))))))))))))
noncomputable def words_name.f (G : Globs) : Nat → Den
  | 0 => fun _ _ => none
  | k + 1 => fun args h => arg1 args fun x0 => (words_name.c G k (words_name.f G k) x0 h)
/-! alembic/words.Of: function 90 -/
noncomputable def words_Of.ann : Ann := mkAnn [] [] [] [(30, [2, 3]), (29, [0, 2, 43]), (26, [0, 2, 4, 37]), (19, [0, 2, 4, 23]), (14, [0, 2, 4, 11])]
noncomputable def words_Of.env (G : Globs) (k : Nat) (self : Den) : List (Nat × Bool × Den) := [(106, true, words_name.f G k)]
noncomputable def words_Of.c (G : Globs) (k : Nat) (self : Den) (x0 : AV) (h : AHeap) : Option (AV × AHeap) := outV (
  bnd (boxA 163 (.agg [(.str ⟨#[]⟩), (.bool false), (.bool false), (.bool false), (.bool false), (.bool false)]) h) fun v0 h0 =>
  thenK (
  bnd (pu h0 (bin Tryd.prog .eql 3 true x0 (.int .i64 1))) fun v1 h1 =>
  condA v1
  (bnd (pu h1 (buildSt [(0, 1), (1, 1), (2, 1), (3, 1), (4, 1), (5, 1)] [(.str ⟨#[]⟩), (.bool false), (.bool false), (.bool false), (.bool false), (.bool false)] [(0, (.str ⟨#[99, 111, 110, 115, 116]⟩)), (1, (.bool true)), (5, (.bool true))])) fun v2 h2 =>
  bnd (stS (storeV 6 v0 v2 h2)) fun v3 h3 =>
  some (.ret, [v0, (.bool true)], h3))
  (bnd (pu h1 (bin Tryd.prog .eql 3 true x0 (.int .i64 2))) fun v4 h4 =>
  condA v4
  (bnd (pu h4 (buildSt [(0, 1), (1, 1), (2, 1), (3, 1), (4, 1), (5, 1)] [(.str ⟨#[]⟩), (.bool false), (.bool false), (.bool false), (.bool false), (.bool false)] [(0, (.str ⟨#[109, 111, 118]⟩)), (1, (.bool true)), (2, (.bool true))])) fun v5 h5 =>
  bnd (stS (storeV 6 v0 v5 h5)) fun v6 h6 =>
  some (.ret, [v0, (.bool true)], h6))
  (thenK (
  bnd (pu h4 (bin Tryd.prog .eql 3 true x0 (.int .i64 3))) fun v7 h7 =>
  condA v7
  (some (.normal, [x0, v0, x0, v7], h7))
  (bnd (pu h7 (bin Tryd.prog .eql 3 true x0 (.int .i64 4))) fun v8 h8 =>
  condA v8
  (some (.normal, [x0, v0, x0, v8], h8))
  (bnd (pu h8 (bin Tryd.prog .eql 3 true x0 (.int .i64 5))) fun v9 h9 =>
  condA v9
  (some (.normal, [x0, v0, x0, v9], h9))
  (bnd (pu h9 (bin Tryd.prog .eql 3 true x0 (.int .i64 6))) fun v10 h10 =>
  condA v10
  (some (.normal, [x0, v0, x0, v10], h10))
  (bnd (pu h10 (bin Tryd.prog .eql 3 true x0 (.int .i64 7))) fun v11 h11 =>
  condA v11
  (some (.normal, [x0, v0, x0, v11], h11))
  (bnd (pu h11 (bin Tryd.prog .eql 3 true x0 (.int .i64 8))) fun v12 h12 =>
  condA v12
  (some (.normal, [x0, v0, x0, v12], h12))
  (bnd (pu h12 (bin Tryd.prog .eql 3 true x0 (.int .i64 9))) fun v13 h13 =>
  condA v13
  (some (.normal, [x0, v0, x0, v13], h13))
  (bnd (pu h13 (bin Tryd.prog .eql 3 true x0 (.int .i64 13))) fun v14 h14 =>
  some (.normal, [x0, v0, x0, v14], h14))))))))) fun e15 x15 h15 => exK e15
  (condA (nth x15 3)
  (bnd (pureCall (words_name.f G k) [(nth x15 0)] h15) fun v16 h16 =>
  bnd (pu h16 (buildSt [(0, 1), (1, 1), (2, 1), (3, 1), (4, 1), (5, 1)] [(.str ⟨#[]⟩), (.bool false), (.bool false), (.bool false), (.bool false), (.bool false)] [(0, v16), (1, (.bool true)), (2, (.bool true)), (3, (.bool true))])) fun v17 h17 =>
  bnd (stS (storeV 6 (nth x15 1) v17 h17)) fun v18 h18 =>
  some (.ret, [(nth x15 1), (.bool true)], h18))
  (thenK (
  bnd (pu h15 (bin Tryd.prog .eql 3 true (nth x15 2) (.int .i64 10))) fun v19 h19 =>
  condA v19
  (some (.normal, [(nth x15 0), (nth x15 1), (nth x15 2), v19], h19))
  (bnd (pu h19 (bin Tryd.prog .eql 3 true (nth x15 2) (.int .i64 11))) fun v20 h20 =>
  condA v20
  (some (.normal, [(nth x15 0), (nth x15 1), (nth x15 2), v20], h20))
  (bnd (pu h20 (bin Tryd.prog .eql 3 true (nth x15 2) (.int .i64 12))) fun v21 h21 =>
  condA v21
  (some (.normal, [(nth x15 0), (nth x15 1), (nth x15 2), v21], h21))
  (bnd (pu h21 (bin Tryd.prog .eql 3 true (nth x15 2) (.int .i64 15))) fun v22 h22 =>
  some (.normal, [(nth x15 0), (nth x15 1), (nth x15 2), v22], h22))))) fun e23 x23 h23 => exK e23
  (condA (nth x23 3)
  (bnd (pureCall (words_name.f G k) [(nth x23 0)] h23) fun v24 h24 =>
  bnd (pu h24 (buildSt [(0, 1), (1, 1), (2, 1), (3, 1), (4, 1), (5, 1)] [(.str ⟨#[]⟩), (.bool false), (.bool false), (.bool false), (.bool false), (.bool false)] [(0, v24), (1, (.bool true)), (2, (.bool true)), (5, (.bool true))])) fun v25 h25 =>
  bnd (stS (storeV 6 (nth x23 1) v25 h25)) fun v26 h26 =>
  some (.ret, [(nth x23 1), (.bool true)], h26))
  (bnd (pu h23 (bin Tryd.prog .eql 3 true (nth x23 2) (.int .i64 14))) fun v27 h27 =>
  condA v27
  (bnd (pu h27 (buildSt [(0, 1), (1, 1), (2, 1), (3, 1), (4, 1), (5, 1)] [(.str ⟨#[]⟩), (.bool false), (.bool false), (.bool false), (.bool false), (.bool false)] [(0, (.str ⟨#[115, 101, 108]⟩)), (1, (.bool true)), (2, (.bool true)), (3, (.bool true)), (4, (.bool true))])) fun v28 h28 =>
  bnd (stS (storeV 6 (nth x23 1) v28 h28)) fun v29 h29 =>
  some (.ret, [(nth x23 1), (.bool true)], h29))
  (bnd (pu h27 (bin Tryd.prog .eql 3 true (nth x23 2) (.int .i64 16))) fun v30 h30 =>
  condA v30
  (bnd (pu h30 (buildSt [(0, 1), (1, 1), (2, 1), (3, 1), (4, 1), (5, 1)] [(.str ⟨#[]⟩), (.bool false), (.bool false), (.bool false), (.bool false), (.bool false)] [(0, (.str ⟨#[115, 116]⟩)), (2, (.bool true)), (3, (.bool true)), (5, (.bool true))])) fun v31 h31 =>
  bnd (stS (storeV 6 (nth x23 1) v31 h31)) fun v32 h32 =>
  some (.ret, [(nth x23 1), (.bool true)], h32))
  (thenK (
  bnd (pu h30 (bin Tryd.prog .eql 3 true (nth x23 2) (.int .i64 17))) fun v33 h33 =>
  condA v33
  (some (.normal, [(nth x23 0), (nth x23 1), (nth x23 2), v33], h33))
  (bnd (pu h33 (bin Tryd.prog .eql 3 true (nth x23 2) (.int .i64 20))) fun v34 h34 =>
  some (.normal, [(nth x23 0), (nth x23 1), (nth x23 2), v34], h34))) fun e35 x35 h35 => exK e35
  (condA (nth x35 3)
  (bnd (pureCall (words_name.f G k) [(nth x35 0)] h35) fun v36 h36 =>
  bnd (pu h36 (buildSt [(0, 1), (1, 1), (2, 1), (3, 1), (4, 1), (5, 1)] [(.str ⟨#[]⟩), (.bool false), (.bool false), (.bool false), (.bool false), (.bool false)] [(0, v36), (5, (.bool true))])) fun v37 h37 =>
  bnd (stS (storeV 6 (nth x35 1) v37 h37)) fun v38 h38 =>
  some (.ret, [(nth x35 1), (.bool true)], h38))
  (thenK (
  bnd (pu h35 (bin Tryd.prog .eql 3 true (nth x35 2) (.int .i64 18))) fun v39 h39 =>
  condA v39
  (some (.normal, [(nth x35 0), (nth x35 1), v39], h39))
  (bnd (pu h39 (bin Tryd.prog .eql 3 true (nth x35 2) (.int .i64 19))) fun v40 h40 =>
  some (.normal, [(nth x35 0), (nth x35 1), v40], h40))) fun e41 x41 h41 => exK e41
  (condA (nth x41 2)
  (bnd (pureCall (words_name.f G k) [(nth x41 0)] h41) fun v42 h42 =>
  bnd (pu h42 (buildSt [(0, 1), (1, 1), (2, 1), (3, 1), (4, 1), (5, 1)] [(.str ⟨#[]⟩), (.bool false), (.bool false), (.bool false), (.bool false), (.bool false)] [(0, v42), (2, (.bool true)), (5, (.bool true))])) fun v43 h43 =>
  bnd (stS (storeV 6 (nth x41 1) v43 h43)) fun v44 h44 =>
  some (.ret, [(nth x41 1), (.bool true)], h44))
  (some (.normal, [(nth x41 1), .undef], h41)))
  (fun i41 => if i41 = 0 then (some (.normal, [(nth x41 1), .undef], h41)) else (some (.exit i41, [(nth x41 1), .undef], h41)))
  (some (.ret, [(nth x41 1), .undef], h41))))
  (fun i35 => if i35 = 0 then (some (.normal, [(nth x35 1), .undef], h35)) else (some (.exit i35, [(nth x35 1), .undef], h35)))
  (some (.ret, [(nth x35 1), .undef], h35))))))
  (fun i23 => if i23 = 0 then (some (.normal, [(nth x23 1), .undef], h23)) else (some (.exit i23, [(nth x23 1), .undef], h23)))
  (some (.ret, [(nth x23 1), .undef], h23))))
  (fun i15 => if i15 = 0 then (some (.normal, [(nth x15 1), .undef], h15)) else (some (.exit i15, [(nth x15 1), .undef], h15)))
  (some (.ret, [(nth x15 1), .undef], h15))))) fun e45 x45 h45 => exK e45
  (bnd (pu h45 (buildSt [(0, 1), (1, 1), (2, 1), (3, 1), (4, 1), (5, 1)] [(.str ⟨#[]⟩), (.bool false), (.bool false), (.bool false), (.bool false), (.bool false)] [(0, (.str ⟨#[110, 111, 110, 101]⟩))])) fun v46 h46 =>
  bnd (stS (storeV 6 (nth x45 0) v46 h46)) fun v47 h47 =>
  finL [loadV G true 6 (nth x45 0) h47, some (.bool false)] h.length h47)
  (fun i45 => none)
  (finL [loadV G true 6 (nth x45 0) h45, some (nth x45 1)] h.length h45))
noncomputable def words_Of.f (G : Globs) : Nat → Den
  | 0 => fun _ _ => none
  | k + 1 => fun args h => arg1 args fun x0 => (words_Of.c G k (words_Of.f G k) x0 h)
/-! alembic/words.has: function 91 -/
noncomputable def words_has.ann : Ann := mkAnn [] [] [] []
noncomputable def words_has.env (G : Globs) (k : Nat) (self : Den) : List (Nat × Bool × Den) := []
noncomputable def words_has.c (G : Globs) (k : Nat) (self : Den) (x0 x1 : AV) (h : AHeap) : Option (AV × AHeap) := outV (
  bnd (boxRoA x0 h) fun v0 h0 =>
  bnd (boxRoA x1 h0) fun v1 h1 =>
  bnd (pu h1 (fieldAddrV 1 v1)) fun v2 h2 =>
  bnd (pu h2 (loadV G false 1 v2 h2)) fun v3 h3 =>
  bnd (pu h3 (fieldAddrV 2 v1)) fun v4 h4 =>
  bnd (pu h4 (loadV G false 1 v4 h4)) fun v5 h5 =>
  bnd (pu h5 (fieldAddrV 3 v1)) fun v6 h6 =>
  bnd (pu h6 (loadV G false 1 v6 h6)) fun v7 h7 =>
  bnd (pu h7 (fieldAddrV 4 v1)) fun v8 h8 =>
  bnd (pu h8 (loadV G false 1 v8 h8)) fun v9 h9 =>
  bnd (pu h9 (fieldAddrV 5 v1)) fun v10 h10 =>
  bnd (pu h10 (loadV G false 1 v10 h10)) fun v11 h11 =>
  bnd (buildRo 1 5 (.bool false) [(0, v3), (1, v5), (2, v7), (3, v9), (4, v11)] h11) fun v12 h12 =>
  bnd (pu h12 (fieldAddrV 1 v0)) fun v13 h13 =>
  bnd (pu h13 (loadV G false 1 v13 h13)) fun v14 h14 =>
  bnd (pu h14 (fieldAddrV 2 v0)) fun v15 h15 =>
  bnd (pu h15 (loadV G false 1 v15 h15)) fun v16 h16 =>
  bnd (pu h16 (fieldAddrV 3 v0)) fun v17 h17 =>
  bnd (pu h17 (loadV G false 1 v17 h17)) fun v18 h18 =>
  bnd (pu h18 (fieldAddrV 4 v0)) fun v19 h19 =>
  bnd (pu h19 (loadV G false 1 v19 h19)) fun v20 h20 =>
  bnd (pu h20 (fieldAddrV 5 v0)) fun v21 h21 =>
  bnd (pu h21 (loadV G false 1 v21 h21)) fun v22 h22 =>
  bnd (buildRo 1 5 (.int .i64 0) [(0, v14), (1, v16), (2, v18), (3, v20), (4, v22)] h22) fun v23 h23 =>
  finV [v12, v23] h.length h23)
noncomputable def words_has.f (G : Globs) : Nat → Den
  | 0 => fun _ _ => none
  | k + 1 => fun args h => arg2 args fun x0 x1 => (words_has.c G k (words_has.f G k) x0 x1 h)
/-! alembic/words.one: function 64 -/
noncomputable def words_one.ann : Ann := mkAnn [] [] [(12, [2, 3, 4, 8, 53, 54, 55]), (6, [2, 3, 4, 7, 8, 28])] [(33, [3, 4, 12]), (31, [2, 3, 12, 82]), (27, [2, 3, 12, 72, 79]), (22, [2, 3, 12, 72, 73])]
noncomputable def words_one.env (G : Globs) (k : Nat) (self : Den) : List (Nat × Bool × Den) := [(90, true, words_Of.f G k), (91, true, words_has.f G k)]
noncomputable def words_one.l6 (G : Globs) (k n0 : Nat) (self : Den) (lp : LoopF) : LoopF := fun xs h0 => cutK n0 xs h0 fun h =>
  bnd (pu h (bin Tryd.prog .lss 3 true (nth xs 5) (.int .i64 4))) fun v17 h17 =>
  condA v17
  (bnd (pu h17 (idxAddrSl 1 (nth xs 3) (nth xs 5))) fun v18 h18 =>
  bnd (pu h18 (loadV G false 1 v18 h18)) fun v19 h19 =>
  bnd (gd v19 true h19 (some ((nth xs 4), h19))) fun v20 h20 =>
  bnd (gd v19 true h20 (some ((nth xs 5), h20))) fun v21 h21 =>
  bnd (gd v19 true h21 (pu h21 (idxAddrSl 1 v20 v21))) fun v22 h22 =>
  bnd (gd v19 true h22 (pu h22 (loadV G false 1 v22 h22))) fun v23 h23 =>
  bnd (gd v19 true h23 (pu h23 (bin Tryd.prog .lss 2 true v23 (.int .i64 0)))) fun v24 h24 =>
  bnd (gd v19 true h24 (some (v24, h24))) fun v25 h25 =>
  bnd (gd v25 false h25 (some ((nth xs 4), h25))) fun v26 h26 =>
  bnd (gd v25 false h26 (some ((nth xs 5), h26))) fun v27 h27 =>
  bnd (gd v25 false h27 (pu h27 (idxAddrSl 1 v26 v27))) fun v28 h28 =>
  bnd (gd v25 false h28 (pu h28 (loadV G false 1 v28 h28))) fun v29 h29 =>
  bnd (gd v25 false h29 (pu h29 (fieldAddrV 1 (nth xs 0)))) fun v30 h30 =>
  bnd (gd v25 false h30 (pu h30 (loadV G false 1 v30 h30))) fun v31 h31 =>
  bnd (gd v25 false h31 (pu h31 (bin Tryd.prog .geq 2 false v29 v31))) fun v32 h32 =>
  bnd (gd v19 true h32 (pu h32 (pickA v25 (.bool true) v32))) fun v33 h33 =>
  bnd (pu h33 (pickA v19 v33 (.bool false))) fun v34 h34 =>
  condA v34
  (bnd (pu h34 (loadV G false 1 (.gl 1) h34)) fun v35 h35 =>
  some (.ret, [(nth xs 0), (nth xs 1), v35, (nth xs 3), (nth xs 4), (nth xs 5)], h35))
  (bnd (pu h34 (bin Tryd.prog .add 3 true (nth xs 5) (.int .i64 1))) fun v36 h36 =>
  lp [(nth xs 0), (nth xs 1), (nth xs 2), (nth xs 3), (nth xs 4), v36] h36))
  (some (.exit 0, [(nth xs 0), (nth xs 1), (nth xs 2), (nth xs 3), (nth xs 4), (nth xs 5)], h17))
noncomputable def words_one.l12 (G : Globs) (k n0 : Nat) (self : Den) (lp : LoopF) : LoopF := fun xs h0 => cutK n0 xs h0 fun h =>
  bnd (pu h (bin Tryd.prog .lss 3 false (nth xs 6) (nth xs 5))) fun v39 h39 =>
  condA v39
  (bnd (pu h39 (idxAddrSl 1 (nth xs 4) (nth xs 6))) fun v40 h40 =>
  bnd (pu h40 (loadV G false 1 v40 h40)) fun v41 h41 =>
  bnd (pu h41 (un .not v41)) fun v42 h42 =>
  bnd (gd v42 true h42 (some ((nth xs 3), h42))) fun v43 h43 =>
  bnd (gd v42 true h43 (some ((nth xs 6), h43))) fun v44 h44 =>
  bnd (gd v42 true h44 (pu h44 (idxAddrSl 1 v43 v44))) fun v45 h45 =>
  bnd (gd v42 true h45 (pu h45 (loadV G false 1 v45 h45))) fun v46 h46 =>
  bnd (gd v42 true h46 (pu h46 (bin Tryd.prog .neq 2 true v46 (.int .i64 0)))) fun v47 h47 =>
  bnd (pu h47 (pickA v42 v47 (.bool false))) fun v48 h48 =>
  condA v48
  (bnd (pu h48 (loadV G false 1 (.gl 3) h48)) fun v49 h49 =>
  some (.ret, [(nth xs 0), (nth xs 1), v49, (nth xs 3), (nth xs 4), (nth xs 5), (nth xs 6)], h49))
  (bnd (pu h48 (bin Tryd.prog .add 3 true (nth xs 6) (.int .i64 1))) fun v50 h50 =>
  lp [(nth xs 0), (nth xs 1), (nth xs 2), (nth xs 3), (nth xs 4), (nth xs 5), v50] h50))
  (some (.exit 2, [(nth xs 0), (nth xs 1), (nth xs 2), (nth xs 3), (nth xs 4), (nth xs 5), (nth xs 6)], h39))
noncomputable def words_one.c (G : Globs) (k : Nat) (self : Den) (x0 x1 : AV) (h : AHeap) : Option (AV × AHeap) := outV (
  bnd (boxRoA x0 h) fun v0 h0 =>
  bnd (boxRoA x1 h0) fun v1 h1 =>
  bnd (pu h1 (fieldAddrV 0 v1)) fun v2 h2 =>
  bnd (pu h2 (loadV G false 1 v2 h2)) fun v3 h3 =>
  bnd (pureCall (words_Of.f G k) [v3] h3) fun v4 h4 =>
  bnd (pu h4 (extractA v4 0)) fun v5 h5 =>
  bnd (pu h5 (extractA v4 1)) fun v6 h6 =>
  bnd (boxA 163 (.agg [(.str ⟨#[]⟩), (.bool false), (.bool false), (.bool false), (.bool false), (.bool false)]) h6) fun v7 h7 =>
  bnd (stS (storeV 6 v7 v5 h7)) fun v8 h8 =>
  bnd (pu h8 (un .not v6)) fun v9 h9 =>
  condA v9
  (bnd (pu h9 (loadV G false 1 (.gl 2) h9)) fun v10 h10 =>
  finV [v10] h.length h10)
  (bnd (pu h9 (loadV G true 6 v1 h9)) fun v11 h11 =>
  bnd (pu h11 (loadV G true 6 v7 h11)) fun v12 h12 =>
  bnd (pureCall (words_has.f G k) [v11, v12] h12) fun v13 h13 =>
  bnd (pu h13 (extractA v13 0)) fun v14 h14 =>
  bnd (pu h14 (extractA v13 1)) fun v15 h15 =>
  thenK (loopN (words_one.l6 G k h15.length self) k [v0, v1, .nili, v14, v15, (.int .i64 0)] h15) fun e16 x16 h16 => exK e16
  (bnd (pu h16 (lenSl (nth x16 3))) fun v37 h37 =>
  thenK (loopN (words_one.l12 G k h37.length self) k [(nth x16 0), (nth x16 1), (nth x16 2), (nth x16 4), (nth x16 3), v37, (.int .i64 0)] h37) fun e38 x38 h38 => exK e38
  (thenK (
  bnd (pu h38 (fieldAddrV 0 (nth x38 1))) fun v51 h51 =>
  bnd (pu h51 (loadV G false 1 v51 h51)) fun v52 h52 =>
  thenK (
  bnd (pu h52 (bin Tryd.prog .eql 3 true v52 (.int .i64 10))) fun v53 h53 =>
  condA v53
  (some (.normal, [(nth x38 0), (nth x38 1), (.int .i64 (-1)), v52, v53], h53))
  (bnd (pu h53 (bin Tryd.prog .eql 3 true v52 (.int .i64 11))) fun v54 h54 =>
  condA v54
  (some (.normal, [(nth x38 0), (nth x38 1), (.int .i64 (-1)), v52, v54], h54))
  (bnd (pu h54 (bin Tryd.prog .eql 3 true v52 (.int .i64 12))) fun v55 h55 =>
  some (.normal, [(nth x38 0), (nth x38 1), (.int .i64 (-1)), v52, v55], h55)))) fun e56 x56 h56 => exK e56
  (condA (nth x56 4)
  (some (.normal, [(nth x56 1), .undef, (.int .i64 63)], h56))
  (bnd (pu h56 (bin Tryd.prog .eql 3 true (nth x56 3) (.int .i64 20))) fun v57 h57 =>
  condA v57
  (some (.normal, [(nth x56 1), .undef, (.int .i64 2)], h57))
  (thenK (
  bnd (pu h57 (bin Tryd.prog .eql 3 true (nth x56 3) (.int .i64 15))) fun v58 h58 =>
  condA v58
  (some (.normal, [(nth x56 0), (nth x56 1), (nth x56 2), (nth x56 3), v58], h58))
  (bnd (pu h58 (bin Tryd.prog .eql 3 true (nth x56 3) (.int .i64 16))) fun v59 h59 =>
  some (.normal, [(nth x56 0), (nth x56 1), (nth x56 2), (nth x56 3), v59], h59))) fun e60 x60 h60 => exK e60
  (condA (nth x60 4)
  (some (.normal, [(nth x60 1), .undef, (.int .i64 65535)], h60))
  (thenK (
  bnd (pu h60 (bin Tryd.prog .eql 3 true (nth x60 3) (.int .i64 17))) fun v61 h61 =>
  condA v61
  (some (.normal, [(nth x60 0), (nth x60 1), (nth x60 2), v61], h61))
  (bnd (pu h61 (bin Tryd.prog .eql 3 true (nth x60 3) (.int .i64 18))) fun v62 h62 =>
  condA v62
  (some (.normal, [(nth x60 0), (nth x60 1), (nth x60 2), v62], h62))
  (bnd (pu h62 (bin Tryd.prog .eql 3 true (nth x60 3) (.int .i64 19))) fun v63 h63 =>
  some (.normal, [(nth x60 0), (nth x60 1), (nth x60 2), v63], h63)))) fun e64 x64 h64 => exK e64
  (condA (nth x64 3)
  (bnd (pu h64 (fieldAddrV 5 (nth x64 1))) fun v65 h65 =>
  bnd (pu h65 (loadV G false 1 v65 h65)) fun v66 h66 =>
  bnd (pu h66 (bin Tryd.prog .lss 2 true v66 (.int .i64 0))) fun v67 h67 =>
  bnd (gd v67 false h67 (pu h67 (fieldAddrV 5 (nth x64 1)))) fun v68 h68 =>
  bnd (gd v67 false h68 (pu h68 (loadV G false 1 v68 h68))) fun v69 h69 =>
  bnd (gd v67 false h69 (pu h69 (fieldAddrV 0 (nth x64 0)))) fun v70 h70 =>
  bnd (gd v67 false h70 (pu h70 (loadV G false 1 v70 h70))) fun v71 h71 =>
  bnd (gd v67 false h71 (pu h71 (lenSl v71))) fun v72 h72 =>
  bnd (gd v67 false h72 (pu h72 (bin Tryd.prog .gtr 2 false v69 v72))) fun v73 h73 =>
  bnd (pu h73 (pickA v67 (.bool true) v73)) fun v74 h74 =>
  condA v74
  (bnd (pu h74 (loadV G false 1 (.gl 4) h74)) fun v75 h75 =>
  some (.ret, [(nth x64 1), v75, (nth x64 2)], h75))
  (some (.normal, [(nth x64 1), .undef, (nth x64 2)], h74)))
  (some (.normal, [(nth x64 1), .undef, (nth x64 2)], h64)))
  (fun i64 => if i64 = 4 then (some (.normal, [(nth x64 1), .undef, (nth x64 2)], h64)) else (some (.exit i64, [(nth x64 1), .undef, (nth x64 2)], h64)))
  (some (.ret, [(nth x64 1), .undef, (nth x64 2)], h64))))
  (fun i60 => if i60 = 4 then (some (.normal, [(nth x60 1), .undef, (nth x60 2)], h60)) else (some (.exit i60, [(nth x60 1), .undef, (nth x60 2)], h60)))
  (some (.ret, [(nth x60 1), .undef, (nth x60 2)], h60)))))
  (fun i56 => if i56 = 4 then (some (.normal, [(nth x56 1), .undef, (nth x56 2)], h56)) else (some (.exit i56, [(nth x56 1), .undef, (nth x56 2)], h56)))
  (some (.ret, [(nth x56 1), .undef, (nth x56 2)], h56))) fun e76 x76 h76 => exK e76
  (bnd (pu h76 (bin Tryd.prog .geq 2 true (nth x76 2) (.int .i64 0))) fun v77 h77 =>
  bnd (gd v77 true h77 (pu h77 (fieldAddrV 5 (nth x76 0)))) fun v78 h78 =>
  bnd (gd v77 true h78 (pu h78 (loadV G false 1 v78 h78))) fun v79 h79 =>
  bnd (gd v77 true h79 (pu h79 (bin Tryd.prog .lss 2 true v79 (.int .i64 0)))) fun v80 h80 =>
  bnd (gd v77 true h80 (some (v80, h80))) fun v81 h81 =>
  bnd (gd v81 false h81 (pu h81 (fieldAddrV 5 (nth x76 0)))) fun v82 h82 =>
  bnd (gd v81 false h82 (pu h82 (loadV G false 1 v82 h82))) fun v83 h83 =>
  bnd (gd v81 false h83 (some ((nth x76 2), h83))) fun v84 h84 =>
  bnd (gd v81 false h84 (pu h84 (bin Tryd.prog .gtr 2 false v83 v84))) fun v85 h85 =>
  bnd (gd v77 true h85 (pu h85 (pickA v81 (.bool true) v85))) fun v86 h86 =>
  bnd (pu h86 (pickA v77 v86 (.bool false))) fun v87 h87 =>
  condA v87
  (bnd (pu h87 (loadV G false 1 (.gl 1) h87)) fun v88 h88 =>
  finV [v88] h.length h88)
  (finV [.nili] h.length h87))
  (fun i76 => none)
  (finV [(nth x76 1)] h.length h76))
  (fun i38 => if i38 = 2 then (thenK (
  bnd (pu h38 (fieldAddrV 0 (nth x38 1))) fun v89 h89 =>
  bnd (pu h89 (loadV G false 1 v89 h89)) fun v90 h90 =>
  thenK (
  bnd (pu h90 (bin Tryd.prog .eql 3 true v90 (.int .i64 10))) fun v91 h91 =>
  condA v91
  (some (.normal, [(nth x38 0), (nth x38 1), (.int .i64 (-1)), v90, v91], h91))
  (bnd (pu h91 (bin Tryd.prog .eql 3 true v90 (.int .i64 11))) fun v92 h92 =>
  condA v92
  (some (.normal, [(nth x38 0), (nth x38 1), (.int .i64 (-1)), v90, v92], h92))
  (bnd (pu h92 (bin Tryd.prog .eql 3 true v90 (.int .i64 12))) fun v93 h93 =>
  some (.normal, [(nth x38 0), (nth x38 1), (.int .i64 (-1)), v90, v93], h93)))) fun e94 x94 h94 => exK e94
  (condA (nth x94 4)
  (some (.normal, [(nth x94 1), .undef, (.int .i64 63)], h94))
  (bnd (pu h94 (bin Tryd.prog .eql 3 true (nth x94 3) (.int .i64 20))) fun v95 h95 =>
  condA v95
  (some (.normal, [(nth x94 1), .undef, (.int .i64 2)], h95))
  (thenK (
  bnd (pu h95 (bin Tryd.prog .eql 3 true (nth x94 3) (.int .i64 15))) fun v96 h96 =>
  condA v96
  (some (.normal, [(nth x94 0), (nth x94 1), (nth x94 2), (nth x94 3), v96], h96))
  (bnd (pu h96 (bin Tryd.prog .eql 3 true (nth x94 3) (.int .i64 16))) fun v97 h97 =>
  some (.normal, [(nth x94 0), (nth x94 1), (nth x94 2), (nth x94 3), v97], h97))) fun e98 x98 h98 => exK e98
  (condA (nth x98 4)
  (some (.normal, [(nth x98 1), .undef, (.int .i64 65535)], h98))
  (thenK (
  bnd (pu h98 (bin Tryd.prog .eql 3 true (nth x98 3) (.int .i64 17))) fun v99 h99 =>
  condA v99
  (some (.normal, [(nth x98 0), (nth x98 1), (nth x98 2), v99], h99))
  (bnd (pu h99 (bin Tryd.prog .eql 3 true (nth x98 3) (.int .i64 18))) fun v100 h100 =>
  condA v100
  (some (.normal, [(nth x98 0), (nth x98 1), (nth x98 2), v100], h100))
  (bnd (pu h100 (bin Tryd.prog .eql 3 true (nth x98 3) (.int .i64 19))) fun v101 h101 =>
  some (.normal, [(nth x98 0), (nth x98 1), (nth x98 2), v101], h101)))) fun e102 x102 h102 => exK e102
  (condA (nth x102 3)
  (bnd (pu h102 (fieldAddrV 5 (nth x102 1))) fun v103 h103 =>
  bnd (pu h103 (loadV G false 1 v103 h103)) fun v104 h104 =>
  bnd (pu h104 (bin Tryd.prog .lss 2 true v104 (.int .i64 0))) fun v105 h105 =>
  bnd (gd v105 false h105 (pu h105 (fieldAddrV 5 (nth x102 1)))) fun v106 h106 =>
  bnd (gd v105 false h106 (pu h106 (loadV G false 1 v106 h106))) fun v107 h107 =>
  bnd (gd v105 false h107 (pu h107 (fieldAddrV 0 (nth x102 0)))) fun v108 h108 =>
  bnd (gd v105 false h108 (pu h108 (loadV G false 1 v108 h108))) fun v109 h109 =>
  bnd (gd v105 false h109 (pu h109 (lenSl v109))) fun v110 h110 =>
  bnd (gd v105 false h110 (pu h110 (bin Tryd.prog .gtr 2 false v107 v110))) fun v111 h111 =>
  bnd (pu h111 (pickA v105 (.bool true) v111)) fun v112 h112 =>
  condA v112
  (bnd (pu h112 (loadV G false 1 (.gl 4) h112)) fun v113 h113 =>
  some (.ret, [(nth x102 1), v113, (nth x102 2)], h113))
  (some (.normal, [(nth x102 1), .undef, (nth x102 2)], h112)))
  (some (.normal, [(nth x102 1), .undef, (nth x102 2)], h102)))
  (fun i102 => if i102 = 4 then (some (.normal, [(nth x102 1), .undef, (nth x102 2)], h102)) else (some (.exit i102, [(nth x102 1), .undef, (nth x102 2)], h102)))
  (some (.ret, [(nth x102 1), .undef, (nth x102 2)], h102))))
  (fun i98 => if i98 = 4 then (some (.normal, [(nth x98 1), .undef, (nth x98 2)], h98)) else (some (.exit i98, [(nth x98 1), .undef, (nth x98 2)], h98)))
  (some (.ret, [(nth x98 1), .undef, (nth x98 2)], h98)))))
  (fun i94 => if i94 = 4 then (some (.normal, [(nth x94 1), .undef, (nth x94 2)], h94)) else (some (.exit i94, [(nth x94 1), .undef, (nth x94 2)], h94)))
  (some (.ret, [(nth x94 1), .undef, (nth x94 2)], h94))) fun e114 x114 h114 => exK e114
  (bnd (pu h114 (bin Tryd.prog .geq 2 true (nth x114 2) (.int .i64 0))) fun v115 h115 =>
  bnd (gd v115 true h115 (pu h115 (fieldAddrV 5 (nth x114 0)))) fun v116 h116 =>
  bnd (gd v115 true h116 (pu h116 (loadV G false 1 v116 h116))) fun v117 h117 =>
  bnd (gd v115 true h117 (pu h117 (bin Tryd.prog .lss 2 true v117 (.int .i64 0)))) fun v118 h118 =>
  bnd (gd v115 true h118 (some (v118, h118))) fun v119 h119 =>
  bnd (gd v119 false h119 (pu h119 (fieldAddrV 5 (nth x114 0)))) fun v120 h120 =>
  bnd (gd v119 false h120 (pu h120 (loadV G false 1 v120 h120))) fun v121 h121 =>
  bnd (gd v119 false h121 (some ((nth x114 2), h121))) fun v122 h122 =>
  bnd (gd v119 false h122 (pu h122 (bin Tryd.prog .gtr 2 false v121 v122))) fun v123 h123 =>
  bnd (gd v115 true h123 (pu h123 (pickA v119 (.bool true) v123))) fun v124 h124 =>
  bnd (pu h124 (pickA v115 v124 (.bool false))) fun v125 h125 =>
  condA v125
  (bnd (pu h125 (loadV G false 1 (.gl 1) h125)) fun v126 h126 =>
  finV [v126] h.length h126)
  (finV [.nili] h.length h125))
  (fun i114 => none)
  (finV [(nth x114 1)] h.length h114)) else (none))
  (finV [(nth x38 2)] h.length h38))
  (fun i16 => if i16 = 0 then (bnd (pu h16 (lenSl (nth x16 3))) fun v127 h127 =>
  thenK (loopN (words_one.l12 G k h127.length self) k [(nth x16 0), (nth x16 1), (nth x16 2), (nth x16 4), (nth x16 3), v127, (.int .i64 0)] h127) fun e128 x128 h128 => exK e128
  (thenK (
  bnd (pu h128 (fieldAddrV 0 (nth x128 1))) fun v141 h141 =>
  bnd (pu h141 (loadV G false 1 v141 h141)) fun v142 h142 =>
  thenK (
  bnd (pu h142 (bin Tryd.prog .eql 3 true v142 (.int .i64 10))) fun v143 h143 =>
  condA v143
  (some (.normal, [(nth x128 0), (nth x128 1), (.int .i64 (-1)), v142, v143], h143))
  (bnd (pu h143 (bin Tryd.prog .eql 3 true v142 (.int .i64 11))) fun v144 h144 =>
  condA v144
  (some (.normal, [(nth x128 0), (nth x128 1), (.int .i64 (-1)), v142, v144], h144))
  (bnd (pu h144 (bin Tryd.prog .eql 3 true v142 (.int .i64 12))) fun v145 h145 =>
  some (.normal, [(nth x128 0), (nth x128 1), (.int .i64 (-1)), v142, v145], h145)))) fun e146 x146 h146 => exK e146
  (condA (nth x146 4)
  (some (.normal, [(nth x146 1), .undef, (.int .i64 63)], h146))
  (bnd (pu h146 (bin Tryd.prog .eql 3 true (nth x146 3) (.int .i64 20))) fun v147 h147 =>
  condA v147
  (some (.normal, [(nth x146 1), .undef, (.int .i64 2)], h147))
  (thenK (
  bnd (pu h147 (bin Tryd.prog .eql 3 true (nth x146 3) (.int .i64 15))) fun v148 h148 =>
  condA v148
  (some (.normal, [(nth x146 0), (nth x146 1), (nth x146 2), (nth x146 3), v148], h148))
  (bnd (pu h148 (bin Tryd.prog .eql 3 true (nth x146 3) (.int .i64 16))) fun v149 h149 =>
  some (.normal, [(nth x146 0), (nth x146 1), (nth x146 2), (nth x146 3), v149], h149))) fun e150 x150 h150 => exK e150
  (condA (nth x150 4)
  (some (.normal, [(nth x150 1), .undef, (.int .i64 65535)], h150))
  (thenK (
  bnd (pu h150 (bin Tryd.prog .eql 3 true (nth x150 3) (.int .i64 17))) fun v151 h151 =>
  condA v151
  (some (.normal, [(nth x150 0), (nth x150 1), (nth x150 2), v151], h151))
  (bnd (pu h151 (bin Tryd.prog .eql 3 true (nth x150 3) (.int .i64 18))) fun v152 h152 =>
  condA v152
  (some (.normal, [(nth x150 0), (nth x150 1), (nth x150 2), v152], h152))
  (bnd (pu h152 (bin Tryd.prog .eql 3 true (nth x150 3) (.int .i64 19))) fun v153 h153 =>
  some (.normal, [(nth x150 0), (nth x150 1), (nth x150 2), v153], h153)))) fun e154 x154 h154 => exK e154
  (condA (nth x154 3)
  (bnd (pu h154 (fieldAddrV 5 (nth x154 1))) fun v155 h155 =>
  bnd (pu h155 (loadV G false 1 v155 h155)) fun v156 h156 =>
  bnd (pu h156 (bin Tryd.prog .lss 2 true v156 (.int .i64 0))) fun v157 h157 =>
  bnd (gd v157 false h157 (pu h157 (fieldAddrV 5 (nth x154 1)))) fun v158 h158 =>
  bnd (gd v157 false h158 (pu h158 (loadV G false 1 v158 h158))) fun v159 h159 =>
  bnd (gd v157 false h159 (pu h159 (fieldAddrV 0 (nth x154 0)))) fun v160 h160 =>
  bnd (gd v157 false h160 (pu h160 (loadV G false 1 v160 h160))) fun v161 h161 =>
  bnd (gd v157 false h161 (pu h161 (lenSl v161))) fun v162 h162 =>
  bnd (gd v157 false h162 (pu h162 (bin Tryd.prog .gtr 2 false v159 v162))) fun v163 h163 =>
  bnd (pu h163 (pickA v157 (.bool true) v163)) fun v164 h164 =>
  condA v164
  (bnd (pu h164 (loadV G false 1 (.gl 4) h164)) fun v165 h165 =>
  some (.ret, [(nth x154 1), v165, (nth x154 2)], h165))
  (some (.normal, [(nth x154 1), .undef, (nth x154 2)], h164)))
  (some (.normal, [(nth x154 1), .undef, (nth x154 2)], h154)))
  (fun i154 => if i154 = 4 then (some (.normal, [(nth x154 1), .undef, (nth x154 2)], h154)) else (some (.exit i154, [(nth x154 1), .undef, (nth x154 2)], h154)))
  (some (.ret, [(nth x154 1), .undef, (nth x154 2)], h154))))
  (fun i150 => if i150 = 4 then (some (.normal, [(nth x150 1), .undef, (nth x150 2)], h150)) else (some (.exit i150, [(nth x150 1), .undef, (nth x150 2)], h150)))
  (some (.ret, [(nth x150 1), .undef, (nth x150 2)], h150)))))
  (fun i146 => if i146 = 4 then (some (.normal, [(nth x146 1), .undef, (nth x146 2)], h146)) else (some (.exit i146, [(nth x146 1), .undef, (nth x146 2)], h146)))
  (some (.ret, [(nth x146 1), .undef, (nth x146 2)], h146))) fun e166 x166 h166 => exK e166
  (bnd (pu h166 (bin Tryd.prog .geq 2 true (nth x166 2) (.int .i64 0))) fun v167 h167 =>
  bnd (gd v167 true h167 (pu h167 (fieldAddrV 5 (nth x166 0)))) fun v168 h168 =>
  bnd (gd v167 true h168 (pu h168 (loadV G false 1 v168 h168))) fun v169 h169 =>
  bnd (gd v167 true h169 (pu h169 (bin Tryd.prog .lss 2 true v169 (.int .i64 0)))) fun v170 h170 =>
  bnd (gd v167 true h170 (some (v170, h170))) fun v171 h171 =>
  bnd (gd v171 false h171 (pu h171 (fieldAddrV 5 (nth x166 0)))) fun v172 h172 =>
  bnd (gd v171 false h172 (pu h172 (loadV G false 1 v172 h172))) fun v173 h173 =>
  bnd (gd v171 false h173 (some ((nth x166 2), h173))) fun v174 h174 =>
  bnd (gd v171 false h174 (pu h174 (bin Tryd.prog .gtr 2 false v173 v174))) fun v175 h175 =>
  bnd (gd v167 true h175 (pu h175 (pickA v171 (.bool true) v175))) fun v176 h176 =>
  bnd (pu h176 (pickA v167 v176 (.bool false))) fun v177 h177 =>
  condA v177
  (bnd (pu h177 (loadV G false 1 (.gl 1) h177)) fun v178 h178 =>
  finV [v178] h.length h178)
  (finV [.nili] h.length h177))
  (fun i166 => none)
  (finV [(nth x166 1)] h.length h166))
  (fun i128 => if i128 = 2 then (thenK (
  bnd (pu h128 (fieldAddrV 0 (nth x128 1))) fun v179 h179 =>
  bnd (pu h179 (loadV G false 1 v179 h179)) fun v180 h180 =>
  thenK (
  bnd (pu h180 (bin Tryd.prog .eql 3 true v180 (.int .i64 10))) fun v181 h181 =>
  condA v181
  (some (.normal, [(nth x128 0), (nth x128 1), (.int .i64 (-1)), v180, v181], h181))
  (bnd (pu h181 (bin Tryd.prog .eql 3 true v180 (.int .i64 11))) fun v182 h182 =>
  condA v182
  (some (.normal, [(nth x128 0), (nth x128 1), (.int .i64 (-1)), v180, v182], h182))
  (bnd (pu h182 (bin Tryd.prog .eql 3 true v180 (.int .i64 12))) fun v183 h183 =>
  some (.normal, [(nth x128 0), (nth x128 1), (.int .i64 (-1)), v180, v183], h183)))) fun e184 x184 h184 => exK e184
  (condA (nth x184 4)
  (some (.normal, [(nth x184 1), .undef, (.int .i64 63)], h184))
  (bnd (pu h184 (bin Tryd.prog .eql 3 true (nth x184 3) (.int .i64 20))) fun v185 h185 =>
  condA v185
  (some (.normal, [(nth x184 1), .undef, (.int .i64 2)], h185))
  (thenK (
  bnd (pu h185 (bin Tryd.prog .eql 3 true (nth x184 3) (.int .i64 15))) fun v186 h186 =>
  condA v186
  (some (.normal, [(nth x184 0), (nth x184 1), (nth x184 2), (nth x184 3), v186], h186))
  (bnd (pu h186 (bin Tryd.prog .eql 3 true (nth x184 3) (.int .i64 16))) fun v187 h187 =>
  some (.normal, [(nth x184 0), (nth x184 1), (nth x184 2), (nth x184 3), v187], h187))) fun e188 x188 h188 => exK e188
  (condA (nth x188 4)
  (some (.normal, [(nth x188 1), .undef, (.int .i64 65535)], h188))
  (thenK (
  bnd (pu h188 (bin Tryd.prog .eql 3 true (nth x188 3) (.int .i64 17))) fun v189 h189 =>
  condA v189
  (some (.normal, [(nth x188 0), (nth x188 1), (nth x188 2), v189], h189))
  (bnd (pu h189 (bin Tryd.prog .eql 3 true (nth x188 3) (.int .i64 18))) fun v190 h190 =>
  condA v190
  (some (.normal, [(nth x188 0), (nth x188 1), (nth x188 2), v190], h190))
  (bnd (pu h190 (bin Tryd.prog .eql 3 true (nth x188 3) (.int .i64 19))) fun v191 h191 =>
  some (.normal, [(nth x188 0), (nth x188 1), (nth x188 2), v191], h191)))) fun e192 x192 h192 => exK e192
  (condA (nth x192 3)
  (bnd (pu h192 (fieldAddrV 5 (nth x192 1))) fun v193 h193 =>
  bnd (pu h193 (loadV G false 1 v193 h193)) fun v194 h194 =>
  bnd (pu h194 (bin Tryd.prog .lss 2 true v194 (.int .i64 0))) fun v195 h195 =>
  bnd (gd v195 false h195 (pu h195 (fieldAddrV 5 (nth x192 1)))) fun v196 h196 =>
  bnd (gd v195 false h196 (pu h196 (loadV G false 1 v196 h196))) fun v197 h197 =>
  bnd (gd v195 false h197 (pu h197 (fieldAddrV 0 (nth x192 0)))) fun v198 h198 =>
  bnd (gd v195 false h198 (pu h198 (loadV G false 1 v198 h198))) fun v199 h199 =>
  bnd (gd v195 false h199 (pu h199 (lenSl v199))) fun v200 h200 =>
  bnd (gd v195 false h200 (pu h200 (bin Tryd.prog .gtr 2 false v197 v200))) fun v201 h201 =>
  bnd (pu h201 (pickA v195 (.bool true) v201)) fun v202 h202 =>
  condA v202
  (bnd (pu h202 (loadV G false 1 (.gl 4) h202)) fun v203 h203 =>
  some (.ret, [(nth x192 1), v203, (nth x192 2)], h203))
  (some (.normal, [(nth x192 1), .undef, (nth x192 2)], h202)))
  (some (.normal, [(nth x192 1), .undef, (nth x192 2)], h192)))
  (fun i192 => if i192 = 4 then (some (.normal, [(nth x192 1), .undef, (nth x192 2)], h192)) else (some (.exit i192, [(nth x192 1), .undef, (nth x192 2)], h192)))
  (some (.ret, [(nth x192 1), .undef, (nth x192 2)], h192))))
  (fun i188 => if i188 = 4 then (some (.normal, [(nth x188 1), .undef, (nth x188 2)], h188)) else (some (.exit i188, [(nth x188 1), .undef, (nth x188 2)], h188)))
  (some (.ret, [(nth x188 1), .undef, (nth x188 2)], h188)))))
  (fun i184 => if i184 = 4 then (some (.normal, [(nth x184 1), .undef, (nth x184 2)], h184)) else (some (.exit i184, [(nth x184 1), .undef, (nth x184 2)], h184)))
  (some (.ret, [(nth x184 1), .undef, (nth x184 2)], h184))) fun e204 x204 h204 => exK e204
  (bnd (pu h204 (bin Tryd.prog .geq 2 true (nth x204 2) (.int .i64 0))) fun v205 h205 =>
  bnd (gd v205 true h205 (pu h205 (fieldAddrV 5 (nth x204 0)))) fun v206 h206 =>
  bnd (gd v205 true h206 (pu h206 (loadV G false 1 v206 h206))) fun v207 h207 =>
  bnd (gd v205 true h207 (pu h207 (bin Tryd.prog .lss 2 true v207 (.int .i64 0)))) fun v208 h208 =>
  bnd (gd v205 true h208 (some (v208, h208))) fun v209 h209 =>
  bnd (gd v209 false h209 (pu h209 (fieldAddrV 5 (nth x204 0)))) fun v210 h210 =>
  bnd (gd v209 false h210 (pu h210 (loadV G false 1 v210 h210))) fun v211 h211 =>
  bnd (gd v209 false h211 (some ((nth x204 2), h211))) fun v212 h212 =>
  bnd (gd v209 false h212 (pu h212 (bin Tryd.prog .gtr 2 false v211 v212))) fun v213 h213 =>
  bnd (gd v205 true h213 (pu h213 (pickA v209 (.bool true) v213))) fun v214 h214 =>
  bnd (pu h214 (pickA v205 v214 (.bool false))) fun v215 h215 =>
  condA v215
  (bnd (pu h215 (loadV G false 1 (.gl 1) h215)) fun v216 h216 =>
  finV [v216] h.length h216)
  (finV [.nili] h.length h215))
  (fun i204 => none)
  (finV [(nth x204 1)] h.length h204)) else (none))
  (finV [(nth x128 2)] h.length h128)) else (none))
  (finV [(nth x16 2)] h.length h16)))
noncomputable def words_one.f (G : Globs) : Nat → Den
  | 0 => fun _ _ => none
  | k + 1 => fun args h => arg2 args fun x0 x1 => (words_one.c G k (words_one.f G k) x0 x1 h)
/-! alembic/words.Valid: function 38 -/
noncomputable def words_Valid.ann : Ann := mkAnn [] [] [(6, [1, 2, 33, 34, 35])] []
noncomputable def words_Valid.env (G : Globs) (k : Nat) (self : Den) : List (Nat × Bool × Den) := [(64, true, words_one.f G k)]
noncomputable def words_Valid.l6 (G : Globs) (k n0 : Nat) (self : Den) (lp : LoopF) : LoopF := fun xs h0 => cutK n0 xs h0 fun h =>
  bnd (pu h (bin Tryd.prog .lss 3 false (nth xs 4) (nth xs 3))) fun v26 h26 =>
  condA v26
  (bnd (pu h26 (idxAddrSl 6 (nth xs 2) (nth xs 4))) fun v27 h27 =>
  bnd (pu h27 (loadV G true 6 v27 h27)) fun v28 h28 =>
  bnd (boxA 60 (.agg [(.int .i64 0), (.int .i64 0), (.int .i64 0), (.int .i64 0), (.int .i64 0), (.int .i64 0)]) h28) fun v29 h29 =>
  bnd (stS (storeV 6 v29 v28 h29)) fun v30 h30 =>
  bnd (pu h30 (loadV G true 3 (nth xs 0) h30)) fun v31 h31 =>
  bnd (pu h31 (loadV G true 6 v29 h31)) fun v32 h32 =>
  bnd (pureCall (words_one.f G k) [v31, v32] h32) fun v33 h33 =>
  bnd (pu h33 (bin Tryd.prog .neq 30 true v33 .nili)) fun v34 h34 =>
  condA v34
  (bnd (pu h34 (buildSt [(0, 1), (1, 1)] [(.int .i64 0), .nili] [(0, (nth xs 4)), (1, v33)])) fun v35 h35 =>
  bnd (boxRoA v35 h35) fun v36 h36 =>
  some (.ret, [(nth xs 0), (.iface 133 v36), (nth xs 2), (nth xs 3), (nth xs 4)], h36))
  (bnd (pu h34 (bin Tryd.prog .add 3 true (nth xs 4) (.int .i64 1))) fun v37 h37 =>
  lp [(nth xs 0), (nth xs 1), (nth xs 2), (nth xs 3), v37] h37))
  (some (.exit 1, [(nth xs 0), (nth xs 1), (nth xs 2), (nth xs 3), (nth xs 4)], h26))
noncomputable def words_Valid.c (G : Globs) (k : Nat) (self : Den) (x0 : AV) (h : AHeap) : Option (AV × AHeap) := outV (
  bnd (boxRoA x0 h) fun v0 h0 =>
  bnd (pu h0 (fieldAddrV 0 v0)) fun v1 h1 =>
  bnd (pu h1 (loadV G false 1 v1 h1)) fun v2 h2 =>
  bnd (pu h2 (lenSl v2)) fun v3 h3 =>
  bnd (pu h3 (bin Tryd.prog .gtr 3 true v3 (.int .i64 262144))) fun v4 h4 =>
  condA v4
  (bnd (pu h4 (loadV G false 1 (.gl 0) h4)) fun v5 h5 =>
  finV [v5] h.length h5)
  (bnd (pu h4 (fieldAddrV 1 v0)) fun v6 h6 =>
  bnd (pu h6 (loadV G false 1 v6 h6)) fun v7 h7 =>
  bnd (pu h7 (bin Tryd.prog .lss 3 true v7 (.int .i64 0))) fun v8 h8 =>
  bnd (gd v8 false h8 (pu h8 (fieldAddrV 1 v0))) fun v9 h9 =>
  bnd (gd v8 false h9 (pu h9 (loadV G false 1 v9 h9))) fun v10 h10 =>
  bnd (gd v8 false h10 (pu h10 (bin Tryd.prog .gtr 3 true v10 (.int .i64 65536)))) fun v11 h11 =>
  bnd (pu h11 (pickA v8 (.bool true) v11)) fun v12 h12 =>
  bnd (gd v12 false h12 (pu h12 (fieldAddrV 2 v0))) fun v13 h13 =>
  bnd (gd v12 false h13 (pu h13 (loadV G false 1 v13 h13))) fun v14 h14 =>
  bnd (gd v12 false h14 (pu h14 (bin Tryd.prog .lss 3 true v14 (.int .i64 0)))) fun v15 h15 =>
  bnd (pu h15 (pickA v12 (.bool true) v15)) fun v16 h16 =>
  bnd (gd v16 false h16 (pu h16 (fieldAddrV 2 v0))) fun v17 h17 =>
  bnd (gd v16 false h17 (pu h17 (loadV G false 1 v17 h17))) fun v18 h18 =>
  bnd (gd v16 false h18 (pu h18 (bin Tryd.prog .gtr 3 true v18 (.int .i64 65536)))) fun v19 h19 =>
  bnd (pu h19 (pickA v16 (.bool true) v19)) fun v20 h20 =>
  condA v20
  (bnd (pu h20 (loadV G false 1 (.gl 0) h20)) fun v21 h21 =>
  finV [v21] h.length h21)
  (bnd (pu h20 (fieldAddrV 0 v0)) fun v22 h22 =>
  bnd (pu h22 (loadV G false 1 v22 h22)) fun v23 h23 =>
  bnd (pu h23 (lenSl v23)) fun v24 h24 =>
  thenK (loopN (words_Valid.l6 G k h24.length self) k [v0, .nili, v23, v24, (.int .i64 0)] h24) fun e25 x25 h25 => exK e25
  (finV [.nili] h.length h25)
  (fun i25 => if i25 = 1 then (finV [.nili] h.length h25) else (none))
  (finV [(nth x25 1)] h.length h25))))
noncomputable def words_Valid.f (G : Globs) : Nat → Den
  | 0 => fun _ _ => none
  | k + 1 => fun args h => arg1 args fun x0 => (words_Valid.c G k (words_Valid.f G k) x0 h)
/-! alembic/sel.constant: function 54 -/
noncomputable def sel_constant.ann : Ann := mkAnn [] [4, 5] [(3, [0, 1, 5, 9])] [(10, [0, 1, 5, 6, 7, 8, 9])]
noncomputable def sel_constant.env (G : Globs) (k : Nat) (self : Den) : List (Nat × Bool × Den) := []
noncomputable def sel_constant.l3 (G : Globs) (k n0 : Nat) (self : Den) (lp : LoopF) : LoopF := fun xs h0 => cutK n0 xs h0 fun h =>
  bnd (pu h (bin Tryd.prog .lss 3 true (nth xs 3) (.int .i64 4))) fun v3 h3 =>
  condA v3
  (bnd (pu h3 (convInt .u64 (nth xs 1))) fun v4 h4 =>
  bnd (pu h4 (bin Tryd.prog .mul 3 true (.int .i64 16) (nth xs 3))) fun v5 h5 =>
  bnd (pu h5 (bin Tryd.prog .shr 43 false v4 v5)) fun v6 h6 =>
  bnd (pu h6 (bin Tryd.prog .and 43 true v6 (.int .u64 65535))) fun v7 h7 =>
  bnd (pu h7 (convInt .i64 v7)) fun v8 h8 =>
  bnd (pu h8 (bin Tryd.prog .eql 3 true v8 (.int .i64 0))) fun v9 h9 =>
  condA v9
  (bnd (pu h9 (bin Tryd.prog .add 3 true (nth xs 3) (.int .i64 1))) fun v10 h10 =>
  lp [(nth xs 0), (nth xs 1), (nth xs 2), v10] h10)
  (thenK (
  bnd (pu h9 (lenSl (nth xs 2))) fun v11 h11 =>
  bnd (pu h11 (bin Tryd.prog .eql 3 true v11 (.int .i64 0))) fun v12 h12 =>
  condA v12
  (some (.normal, [(nth xs 0), (nth xs 1), (nth xs 2), (nth xs 3), v8, (.int .i64 1), (nth xs 3)], h12))
  (some (.normal, [(nth xs 0), (nth xs 1), (nth xs 2), (nth xs 3), v8, (.int .i64 2), (nth xs 3)], h12))) fun e13 x13 h13 => exK e13
  (bnd (pu h13 (buildSt [(0, 1), (1, 1), (2, 1), (3, 1), (4, 1), (5, 1)] [(.int .i64 0), (.int .i64 0), (.int .i64 0), (.int .i64 0), (.int .i64 0), (.int .i64 0)] [(0, (nth x13 5)), (1, (nth x13 0)), (4, (nth x13 3)), (5, (nth x13 4))])) fun v14 h14 =>
  bnd (buildRo 6 1 (.agg [(.int .i64 0), (.int .i64 0), (.int .i64 0), (.int .i64 0), (.int .i64 0), (.int .i64 0)]) [(0, v14)] h14) fun v15 h15 =>
  bnd (appendV 57 6 (nth x13 2) v15 h15) fun v16 h16 =>
  bnd (pu h16 (bin Tryd.prog .add 3 true (nth x13 6) (.int .i64 1))) fun v17 h17 =>
  lp [(nth x13 0), (nth x13 1), v16, v17] h17)
  (fun i13 => if i13 = 1 then (bnd (pu h13 (bin Tryd.prog .add 3 true (nth x13 6) (.int .i64 1))) fun v18 h18 =>
  lp [(nth x13 0), (nth x13 1), (nth x13 2), v18] h18) else (some (.exit i13, [(nth x13 0), (nth x13 1), (nth x13 2), (nth x13 6)], h13)))
  (some (.ret, [(nth x13 0), (nth x13 1), (nth x13 2), (nth x13 6)], h13))))
  (some (.exit 0, [(nth xs 0), (nth xs 1), (nth xs 2), (nth xs 3)], h3))
noncomputable def sel_constant.c (G : Globs) (k : Nat) (self : Den) (x0 x1 : AV) (h : AHeap) : Option (AV × AHeap) := outV (
  bnd (some (.sl h.length 0 0 0 6, h ++ [⟨57, 6, []⟩])) fun v0 h0 =>
  bnd (some (.sl h0.length 0 0 0 6, h0 ++ [⟨57, 6, []⟩])) fun v1 h1 =>
  thenK (loopN (sel_constant.l3 G k h1.length self) k [x0, x1, v1, (.int .i64 0)] h1) fun e2 x2 h2 => exK e2
  (bnd (pu h2 (lenSl (nth x2 2))) fun v19 h19 =>
  bnd (pu h19 (bin Tryd.prog .eql 3 true v19 (.int .i64 0))) fun v20 h20 =>
  condA v20
  (bnd (pu h20 (buildSt [(0, 1), (1, 1), (2, 1), (3, 1), (4, 1), (5, 1)] [(.int .i64 0), (.int .i64 0), (.int .i64 0), (.int .i64 0), (.int .i64 0), (.int .i64 0)] [(0, (.int .i64 1)), (1, (nth x2 0))])) fun v21 h21 =>
  bnd (buildRo 6 1 (.agg [(.int .i64 0), (.int .i64 0), (.int .i64 0), (.int .i64 0), (.int .i64 0), (.int .i64 0)]) [(0, v21)] h21) fun v22 h22 =>
  bnd (appendV 57 6 (nth x2 2) v22 h22) fun v23 h23 =>
  finO [v23] h23)
  (finO [(nth x2 2)] h20))
  (fun i2 => if i2 = 0 then (bnd (pu h2 (lenSl (nth x2 2))) fun v24 h24 =>
  bnd (pu h24 (bin Tryd.prog .eql 3 true v24 (.int .i64 0))) fun v25 h25 =>
  condA v25
  (bnd (pu h25 (buildSt [(0, 1), (1, 1), (2, 1), (3, 1), (4, 1), (5, 1)] [(.int .i64 0), (.int .i64 0), (.int .i64 0), (.int .i64 0), (.int .i64 0), (.int .i64 0)] [(0, (.int .i64 1)), (1, (nth x2 0))])) fun v26 h26 =>
  bnd (buildRo 6 1 (.agg [(.int .i64 0), (.int .i64 0), (.int .i64 0), (.int .i64 0), (.int .i64 0), (.int .i64 0)]) [(0, v26)] h26) fun v27 h27 =>
  bnd (appendV 57 6 (nth x2 2) v27 h27) fun v28 h28 =>
  finO [v28] h28)
  (finO [(nth x2 2)] h25)) else (none))
  (finO [.undef] h2))
noncomputable def sel_constant.f (G : Globs) : Nat → Den
  | 0 => fun _ _ => none
  | k + 1 => fun args h => arg2 args fun x0 x1 => (sel_constant.c G k (sel_constant.f G k) x0 x1 h)
theorem sel_constant.step (G : Globs) (k : Nat) (x0 x1 : AV) (h : AHeap) : sel_constant.f G (k + 1) [x0, x1] h = sel_constant.c G k (sel_constant.f G k) x0 x1 h := rfl
/-! (*alembic/sel.maker).put: function 65 -/
noncomputable def sel_maker_put.ann : Ann := mkAnn [] [] [] []
noncomputable def sel_maker_put.env (G : Globs) (k : Nat) (self : Den) : List (Nat × Bool × Den) := []
noncomputable def sel_maker_put.c (G : Globs) (k : Nat) (self : Den) (x0 x1 : AV) (h : AHeap) : Option (AV × AHeap) := outV (
  bnd (pu h (nilA x0)) fun v0 h0 =>
  bnd (pu h0 (fieldAddrV 0 v0)) fun v1 h1 =>
  bnd (pu h1 (loadV G false 1 v1 h1)) fun v2 h2 =>
  bnd (appendV 57 6 v2 x1 h2) fun v3 h3 =>
  bnd (pu h3 (nilA x0)) fun v4 h4 =>
  bnd (pu h4 (fieldAddrV 0 v4)) fun v5 h5 =>
  bnd (stS (storeV 1 v5 v3 h5)) fun v6 h6 =>
  finV [] h.length h6)
noncomputable def sel_maker_put.f (G : Globs) : Nat → Den
  | 0 => fun _ _ => none
  | k + 1 => fun args h => arg2 args fun x0 x1 => (sel_maker_put.c G k (sel_maker_put.f G k) x0 x1 h)
theorem sel_maker_put.step (G : Globs) (k : Nat) (x0 x1 : AV) (h : AHeap) : sel_maker_put.f G (k + 1) [x0, x1] h = sel_maker_put.c G k (sel_maker_put.f G k) x0 x1 h := rfl
/-! (*alembic/sel.maker).three: function 66 -/
noncomputable def sel_maker_three.ann : Ann := mkAnn [15] [] [] []
noncomputable def sel_maker_three.env (G : Globs) (k : Nat) (self : Den) : List (Nat × Bool × Den) := [(65, false, sel_maker_put.f G k)]
noncomputable def sel_maker_three.c (G : Globs) (k : Nat) (self : Den) (x0 x1 x2 : AV) (h : AHeap) : Option (AV × AHeap) := outV (
  bnd (boxRoA x2 h) fun v0 h0 =>
  bnd (pu h0 (fieldAddrV 1 v0)) fun v1 h1 =>
  bnd (pu h1 (loadV G false 1 v1 h1)) fun v2 h2 =>
  bnd (pu h2 (fieldAddrV 2 v0)) fun v3 h3 =>
  bnd (pu h3 (loadV G false 1 v3 h3)) fun v4 h4 =>
  bnd (pu h4 (fieldAddrV 3 v0)) fun v5 h5 =>
  bnd (pu h5 (loadV G false 1 v5 h5)) fun v6 h6 =>
  bnd (pu h6 (buildSt [(0, 1), (1, 1), (2, 1), (3, 1), (4, 1), (5, 1)] [(.int .i64 0), (.int .i64 0), (.int .i64 0), (.int .i64 0), (.int .i64 0), (.int .i64 0)] [(0, x1), (1, v2), (2, v4), (3, v6)])) fun v7 h7 =>
  bnd (buildOwn 57 6 1 (.agg [(.int .i64 0), (.int .i64 0), (.int .i64 0), (.int .i64 0), (.int .i64 0), (.int .i64 0)]) [(0, v7)] h7) fun v8 h8 =>
  bnd (heapCall (sel_maker_put.f G k) [x0, v8] h8) fun v9 h9 =>
  finV [] h.length h9)
noncomputable def sel_maker_three.f (G : Globs) : Nat → Den
  | 0 => fun _ _ => none
  | k + 1 => fun args h => arg3 args fun x0 x1 x2 => (sel_maker_three.c G k (sel_maker_three.f G k) x0 x1 x2 h)
theorem sel_maker_three.step (G : Globs) (k : Nat) (x0 x1 x2 : AV) (h : AHeap) : sel_maker_three.f G (k + 1) [x0, x1, x2] h = sel_maker_three.c G k (sel_maker_three.f G k) x0 x1 x2 h := rfl
/-! (*alembic/sel.maker).shift: function 67 -/
noncomputable def sel_maker_shift.ann : Ann := mkAnn [15] [] [] []
noncomputable def sel_maker_shift.env (G : Globs) (k : Nat) (self : Den) : List (Nat × Bool × Den) := [(65, false, sel_maker_put.f G k)]
noncomputable def sel_maker_shift.c (G : Globs) (k : Nat) (self : Den) (x0 x1 x2 : AV) (h : AHeap) : Option (AV × AHeap) := outV (
  bnd (boxRoA x2 h) fun v0 h0 =>
  bnd (pu h0 (fieldAddrV 1 v0)) fun v1 h1 =>
  bnd (pu h1 (loadV G false 1 v1 h1)) fun v2 h2 =>
  bnd (pu h2 (fieldAddrV 2 v0)) fun v3 h3 =>
  bnd (pu h3 (loadV G false 1 v3 h3)) fun v4 h4 =>
  bnd (pu h4 (fieldAddrV 5 v0)) fun v5 h5 =>
  bnd (pu h5 (loadV G false 1 v5 h5)) fun v6 h6 =>
  bnd (pu h6 (buildSt [(0, 1), (1, 1), (2, 1), (3, 1), (4, 1), (5, 1)] [(.int .i64 0), (.int .i64 0), (.int .i64 0), (.int .i64 0), (.int .i64 0), (.int .i64 0)] [(0, x1), (1, v2), (2, v4), (5, v6)])) fun v7 h7 =>
  bnd (buildOwn 57 6 1 (.agg [(.int .i64 0), (.int .i64 0), (.int .i64 0), (.int .i64 0), (.int .i64 0), (.int .i64 0)]) [(0, v7)] h7) fun v8 h8 =>
  bnd (heapCall (sel_maker_put.f G k) [x0, v8] h8) fun v9 h9 =>
  finV [] h.length h9)
noncomputable def sel_maker_shift.f (G : Globs) : Nat → Den
  | 0 => fun _ _ => none
  | k + 1 => fun args h => arg3 args fun x0 x1 x2 => (sel_maker_shift.c G k (sel_maker_shift.f G k) x0 x1 x2 h)
theorem sel_maker_shift.step (G : Globs) (k : Nat) (x0 x1 x2 : AV) (h : AHeap) : sel_maker_shift.f G (k + 1) [x0, x1, x2] h = sel_maker_shift.c G k (sel_maker_shift.f G k) x0 x1 x2 h := rfl
/-! (*alembic/sel.maker).jump: function 69 -/
noncomputable def sel_maker_jump.ann : Ann := mkAnn [24] [] [] []
noncomputable def sel_maker_jump.env (G : Globs) (k : Nat) (self : Den) : List (Nat × Bool × Den) := [(65, false, sel_maker_put.f G k)]
noncomputable def sel_maker_jump.c (G : Globs) (k : Nat) (self : Den) (x0 x1 x2 : AV) (h : AHeap) : Option (AV × AHeap) := outV (
  bnd (boxRoA x1 h) fun v0 h0 =>
  bnd (pu h0 (nilA x0)) fun v1 h1 =>
  bnd (pu h1 (fieldAddrV 2 v1)) fun v2 h2 =>
  bnd (pu h2 (loadV G false 1 v2 h2)) fun v3 h3 =>
  bnd (pu h3 (nilA x0)) fun v4 h4 =>
  bnd (pu h4 (fieldAddrV 0 v4)) fun v5 h5 =>
  bnd (pu h5 (loadV G false 1 v5 h5)) fun v6 h6 =>
  bnd (pu h6 (lenSl v6)) fun v7 h7 =>
  bnd (pu h7 (buildSt [(0, 1), (1, 1)] [(.int .i64 0), (.int .i64 0)] [(0, v7), (1, x2)])) fun v8 h8 =>
  bnd (buildRo 2 1 (.agg [(.int .i64 0), (.int .i64 0)]) [(0, v8)] h8) fun v9 h9 =>
  bnd (appendV 93 2 v3 v9 h9) fun v10 h10 =>
  bnd (pu h10 (nilA x0)) fun v11 h11 =>
  bnd (pu h11 (fieldAddrV 2 v11)) fun v12 h12 =>
  bnd (stS (storeV 1 v12 v10 h12)) fun v13 h13 =>
  bnd (pu h13 (loadV G true 6 v0 h13)) fun v14 h14 =>
  bnd (buildOwn 57 6 1 (.agg [(.int .i64 0), (.int .i64 0), (.int .i64 0), (.int .i64 0), (.int .i64 0), (.int .i64 0)]) [(0, v14)] h14) fun v15 h15 =>
  bnd (heapCall (sel_maker_put.f G k) [x0, v15] h15) fun v16 h16 =>
  finV [] h.length h16)
noncomputable def sel_maker_jump.f (G : Globs) : Nat → Den
  | 0 => fun _ _ => none
  | k + 1 => fun args h => arg3 args fun x0 x1 x2 => (sel_maker_jump.c G k (sel_maker_jump.f G k) x0 x1 x2 h)
theorem sel_maker_jump.step (G : Globs) (k : Nat) (x0 x1 x2 : AV) (h : AHeap) : sel_maker_jump.f G (k + 1) [x0, x1, x2] h = sel_maker_jump.c G k (sel_maker_jump.f G k) x0 x1 x2 h := rfl
/-! (*alembic/sel.maker).touch: function 68 -/
noncomputable def sel_maker_touch.ann : Ann := mkAnn [19, 30, 34, 45] [] [] [(5, [0, 1, 2, 4])]
noncomputable def sel_maker_touch.env (G : Globs) (k : Nat) (self : Den) : List (Nat × Bool × Den) := [(54, false, sel_constant.f G k), (65, false, sel_maker_put.f G k), (69, false, sel_maker_jump.f G k)]
noncomputable def sel_maker_touch.c (G : Globs) (k : Nat) (self : Den) (x0 x1 x2 x3 x4 : AV) (h : AHeap) : Option (AV × AHeap) := outV (
  bnd (boxRoA x3 h) fun v0 h0 =>
  thenK (
  bnd (pu h0 (fieldAddrV 5 v0)) fun v1 h1 =>
  bnd (pu h1 (loadV G false 1 v1 h1)) fun v2 h2 =>
  bnd (pu h2 (bin Tryd.prog .leq 2 true v2 (.int .i64 4095))) fun v3 h3 =>
  condA v3
  (bnd (pu h3 (fieldAddrV 2 v0)) fun v4 h4 =>
  bnd (pu h4 (loadV G false 1 v4 h4)) fun v5 h5 =>
  bnd (pu h5 (fieldAddrV 5 v0)) fun v6 h6 =>
  bnd (pu h6 (loadV G false 1 v6 h6)) fun v7 h7 =>
  bnd (pu h7 (buildSt [(0, 1), (1, 1), (2, 1), (3, 1), (4, 1), (5, 1)] [(.int .i64 0), (.int .i64 0), (.int .i64 0), (.int .i64 0), (.int .i64 0), (.int .i64 0)] [(0, (.int .i64 10)), (1, (.int .i64 28)), (2, v5), (5, v7)])) fun v8 h8 =>
  bnd (buildOwn 57 6 1 (.agg [(.int .i64 0), (.int .i64 0), (.int .i64 0), (.int .i64 0), (.int .i64 0), (.int .i64 0)]) [(0, v8)] h8) fun v9 h9 =>
  bnd (heapCall (sel_maker_put.f G k) [x0, v9] h9) fun v10 h10 =>
  some (.normal, [x0, x1, x2, x4], h10))
  (bnd (pu h3 (fieldAddrV 5 v0)) fun v11 h11 =>
  bnd (pu h11 (loadV G false 1 v11 h11)) fun v12 h12 =>
  bnd (heapCall (sel_constant.f G k) [(.int .i64 28), v12] h12) fun v13 h13 =>
  bnd (heapCall (sel_maker_put.f G k) [x0, v13] h13) fun v14 h14 =>
  bnd (pu h14 (fieldAddrV 2 v0)) fun v15 h15 =>
  bnd (pu h15 (loadV G false 1 v15 h15)) fun v16 h16 =>
  bnd (pu h16 (buildSt [(0, 1), (1, 1), (2, 1), (3, 1), (4, 1), (5, 1)] [(.int .i64 0), (.int .i64 0), (.int .i64 0), (.int .i64 0), (.int .i64 0), (.int .i64 0)] [(0, (.int .i64 3)), (1, (.int .i64 28)), (2, v16), (3, (.int .i64 28))])) fun v17 h17 =>
  bnd (buildOwn 57 6 1 (.agg [(.int .i64 0), (.int .i64 0), (.int .i64 0), (.int .i64 0), (.int .i64 0), (.int .i64 0)]) [(0, v17)] h17) fun v18 h18 =>
  bnd (heapCall (sel_maker_put.f G k) [x0, v18] h18) fun v19 h19 =>
  some (.normal, [x0, x1, x2, x4], h19))) fun e20 x20 h20 => exK e20
  (bnd (pu h20 (buildSt [(0, 1), (1, 1), (2, 1), (3, 1), (4, 1), (5, 1)] [(.int .i64 0), (.int .i64 0), (.int .i64 0), (.int .i64 0), (.int .i64 0), (.int .i64 0)] [(0, (.int .i64 13)), (1, (.int .i64 29)), (2, (.int .i64 28)), (5, (.int .i64 16))])) fun v21 h21 =>
  bnd (buildOwn 57 6 1 (.agg [(.int .i64 0), (.int .i64 0), (.int .i64 0), (.int .i64 0), (.int .i64 0), (.int .i64 0)]) [(0, v21)] h21) fun v22 h22 =>
  bnd (heapCall (sel_maker_put.f G k) [(nth x20 0), v22] h22) fun v23 h23 =>
  bnd (pu h23 (buildSt [(0, 1), (1, 1), (2, 1), (3, 1), (4, 1), (5, 1)] [(.int .i64 0), (.int .i64 0), (.int .i64 0), (.int .i64 0), (.int .i64 0), (.int .i64 0)] [(0, (.int .i64 23)), (1, (.int .i64 29))])) fun v24 h24 =>
  bnd (heapCall (sel_maker_jump.f G k) [(nth x20 0), v24, (nth x20 3)] h24) fun v25 h25 =>
  bnd (pu h25 (buildSt [(0, 1), (1, 1), (2, 1), (3, 1), (4, 1), (5, 1)] [(.int .i64 0), (.int .i64 0), (.int .i64 0), (.int .i64 0), (.int .i64 0), (.int .i64 0)] [(0, (.int .i64 12)), (1, (.int .i64 28)), (2, (.int .i64 28)), (5, (.int .i64 3))])) fun v26 h26 =>
  bnd (pu h26 (buildSt [(0, 1), (1, 1), (2, 1), (3, 1), (4, 1), (5, 1)] [(.int .i64 0), (.int .i64 0), (.int .i64 0), (.int .i64 0), (.int .i64 0), (.int .i64 0)] [(0, (nth x20 1)), (1, (nth x20 2)), (2, (.int .i64 28))])) fun v27 h27 =>
  bnd (buildOwn 57 6 2 (.agg [(.int .i64 0), (.int .i64 0), (.int .i64 0), (.int .i64 0), (.int .i64 0), (.int .i64 0)]) [(0, v26), (1, v27)] h27) fun v28 h28 =>
  bnd (heapCall (sel_maker_put.f G k) [(nth x20 0), v28] h28) fun v29 h29 =>
  finV [] h.length h29)
  (fun i20 => none)
  (finV [] h.length h20))
noncomputable def sel_maker_touch.f (G : Globs) : Nat → Den
  | 0 => fun _ _ => none
  | k + 1 => fun args h => arg5 args fun x0 x1 x2 x3 x4 => (sel_maker_touch.c G k (sel_maker_touch.f G k) x0 x1 x2 x3 x4 h)
theorem sel_maker_touch.step (G : Globs) (k : Nat) (x0 x1 x2 x3 x4 : AV) (h : AHeap) : sel_maker_touch.f G (k + 1) [x0, x1, x2, x3, x4] h = sel_maker_touch.c G k (sel_maker_touch.f G k) x0 x1 x2 x3 x4 h := rfl
/-! (*alembic/sel.maker).one: function 39 -/
noncomputable def sel_maker_one.ann : Ann := mkAnn [25, 47, 95, 110, 159] [] [] []
noncomputable def sel_maker_one.env (G : Globs) (k : Nat) (self : Den) : List (Nat × Bool × Den) := [(54, false, sel_constant.f G k), (65, false, sel_maker_put.f G k), (66, false, sel_maker_three.f G k), (67, false, sel_maker_shift.f G k), (68, false, sel_maker_touch.f G k), (69, false, sel_maker_jump.f G k)]
noncomputable def sel_maker_one.c (G : Globs) (k : Nat) (self : Den) (x0 x1 x2 : AV) (h : AHeap) : Option (AV × AHeap) := outV (
  bnd (boxRoA x1 h) fun v0 h0 =>
  bnd (pu h0 (fieldAddrV 0 v0)) fun v1 h1 =>
  bnd (pu h1 (loadV G false 1 v1 h1)) fun v2 h2 =>
  bnd (pu h2 (bin Tryd.prog .eql 3 true v2 (.int .i64 1))) fun v3 h3 =>
  condA v3
  (bnd (pu h3 (fieldAddrV 1 v0)) fun v4 h4 =>
  bnd (pu h4 (loadV G false 1 v4 h4)) fun v5 h5 =>
  bnd (pu h5 (fieldAddrV 5 v0)) fun v6 h6 =>
  bnd (pu h6 (loadV G false 1 v6 h6)) fun v7 h7 =>
  bnd (heapCall (sel_constant.f G k) [v5, v7] h7) fun v8 h8 =>
  bnd (heapCall (sel_maker_put.f G k) [x0, v8] h8) fun v9 h9 =>
  finV [] h.length h9)
  (bnd (pu h3 (bin Tryd.prog .eql 3 true v2 (.int .i64 2))) fun v10 h10 =>
  condA v10
  (bnd (pu h10 (fieldAddrV 1 v0)) fun v11 h11 =>
  bnd (pu h11 (loadV G false 1 v11 h11)) fun v12 h12 =>
  bnd (pu h12 (fieldAddrV 2 v0)) fun v13 h13 =>
  bnd (pu h13 (loadV G false 1 v13 h13)) fun v14 h14 =>
  bnd (pu h14 (buildSt [(0, 1), (1, 1), (2, 1), (3, 1), (4, 1), (5, 1)] [(.int .i64 0), (.int .i64 0), (.int .i64 0), (.int .i64 0), (.int .i64 0), (.int .i64 0)] [(0, (.int .i64 6)), (1, v12), (2, v14), (3, (.int .i64 31))])) fun v15 h15 =>
  bnd (buildOwn 57 6 1 (.agg [(.int .i64 0), (.int .i64 0), (.int .i64 0), (.int .i64 0), (.int .i64 0), (.int .i64 0)]) [(0, v15)] h15) fun v16 h16 =>
  bnd (heapCall (sel_maker_put.f G k) [x0, v16] h16) fun v17 h17 =>
  finV [] h.length h17)
  (bnd (pu h10 (bin Tryd.prog .eql 3 true v2 (.int .i64 3))) fun v18 h18 =>
  condA v18
  (bnd (pu h18 (loadV G true 6 v0 h18)) fun v19 h19 =>
  bnd (heapCall (sel_maker_three.f G k) [x0, (.int .i64 3), v19] h19) fun v20 h20 =>
  finV [] h.length h20)
  (bnd (pu h18 (bin Tryd.prog .eql 3 true v2 (.int .i64 4))) fun v21 h21 =>
  condA v21
  (bnd (pu h21 (loadV G true 6 v0 h21)) fun v22 h22 =>
  bnd (heapCall (sel_maker_three.f G k) [x0, (.int .i64 4), v22] h22) fun v23 h23 =>
  finV [] h.length h23)
  (bnd (pu h21 (bin Tryd.prog .eql 3 true v2 (.int .i64 5))) fun v24 h24 =>
  condA v24
  (bnd (pu h24 (fieldAddrV 1 v0)) fun v25 h25 =>
  bnd (pu h25 (loadV G false 1 v25 h25)) fun v26 h26 =>
  bnd (pu h26 (fieldAddrV 2 v0)) fun v27 h27 =>
  bnd (pu h27 (loadV G false 1 v27 h27)) fun v28 h28 =>
  bnd (pu h28 (fieldAddrV 3 v0)) fun v29 h29 =>
  bnd (pu h29 (loadV G false 1 v29 h29)) fun v30 h30 =>
  bnd (pu h30 (buildSt [(0, 1), (1, 1), (2, 1), (3, 1), (4, 1), (5, 1)] [(.int .i64 0), (.int .i64 0), (.int .i64 0), (.int .i64 0), (.int .i64 0), (.int .i64 0)] [(0, (.int .i64 8)), (1, v26), (2, v28), (3, v30), (4, (.int .i64 31))])) fun v31 h31 =>
  bnd (buildOwn 57 6 1 (.agg [(.int .i64 0), (.int .i64 0), (.int .i64 0), (.int .i64 0), (.int .i64 0), (.int .i64 0)]) [(0, v31)] h31) fun v32 h32 =>
  bnd (heapCall (sel_maker_put.f G k) [x0, v32] h32) fun v33 h33 =>
  finV [] h.length h33)
  (bnd (pu h24 (bin Tryd.prog .eql 3 true v2 (.int .i64 6))) fun v34 h34 =>
  condA v34
  (bnd (pu h34 (loadV G true 6 v0 h34)) fun v35 h35 =>
  bnd (heapCall (sel_maker_three.f G k) [x0, (.int .i64 9), v35] h35) fun v36 h36 =>
  finV [] h.length h36)
  (bnd (pu h34 (bin Tryd.prog .eql 3 true v2 (.int .i64 7))) fun v37 h37 =>
  condA v37
  (bnd (pu h37 (loadV G true 6 v0 h37)) fun v38 h38 =>
  bnd (heapCall (sel_maker_three.f G k) [x0, (.int .i64 5), v38] h38) fun v39 h39 =>
  finV [] h.length h39)
  (bnd (pu h37 (bin Tryd.prog .eql 3 true v2 (.int .i64 8))) fun v40 h40 =>
  condA v40
  (bnd (pu h40 (loadV G true 6 v0 h40)) fun v41 h41 =>
  bnd (heapCall (sel_maker_three.f G k) [x0, (.int .i64 6), v41] h41) fun v42 h42 =>
  finV [] h.length h42)
  (bnd (pu h40 (bin Tryd.prog .eql 3 true v2 (.int .i64 9))) fun v43 h43 =>
  condA v43
  (bnd (pu h43 (loadV G true 6 v0 h43)) fun v44 h44 =>
  bnd (heapCall (sel_maker_three.f G k) [x0, (.int .i64 7), v44] h44) fun v45 h45 =>
  finV [] h.length h45)
  (bnd (pu h43 (bin Tryd.prog .eql 3 true v2 (.int .i64 10))) fun v46 h46 =>
  condA v46
  (bnd (pu h46 (loadV G true 6 v0 h46)) fun v47 h47 =>
  bnd (heapCall (sel_maker_shift.f G k) [x0, (.int .i64 12), v47] h47) fun v48 h48 =>
  finV [] h.length h48)
  (bnd (pu h46 (bin Tryd.prog .eql 3 true v2 (.int .i64 11))) fun v49 h49 =>
  condA v49
  (bnd (pu h49 (loadV G true 6 v0 h49)) fun v50 h50 =>
  bnd (heapCall (sel_maker_shift.f G k) [x0, (.int .i64 13), v50] h50) fun v51 h51 =>
  finV [] h.length h51)
  (bnd (pu h49 (bin Tryd.prog .eql 3 true v2 (.int .i64 12))) fun v52 h52 =>
  condA v52
  (bnd (pu h52 (loadV G true 6 v0 h52)) fun v53 h53 =>
  bnd (heapCall (sel_maker_shift.f G k) [x0, (.int .i64 14), v53] h53) fun v54 h54 =>
  finV [] h.length h54)
  (bnd (pu h52 (bin Tryd.prog .eql 3 true v2 (.int .i64 13))) fun v55 h55 =>
  condA v55
  (bnd (pu h55 (fieldAddrV 2 v0)) fun v56 h56 =>
  bnd (pu h56 (loadV G false 1 v56 h56)) fun v57 h57 =>
  bnd (pu h57 (fieldAddrV 3 v0)) fun v58 h58 =>
  bnd (pu h58 (loadV G false 1 v58 h58)) fun v59 h59 =>
  bnd (pu h59 (buildSt [(0, 1), (1, 1), (2, 1), (3, 1), (4, 1), (5, 1)] [(.int .i64 0), (.int .i64 0), (.int .i64 0), (.int .i64 0), (.int .i64 0), (.int .i64 0)] [(0, (.int .i64 15)), (2, v57), (3, v59)])) fun v60 h60 =>
  bnd (pu h60 (fieldAddrV 1 v0)) fun v61 h61 =>
  bnd (pu h61 (loadV G false 1 v61 h61)) fun v62 h62 =>
  bnd (pu h62 (buildSt [(0, 1), (1, 1), (2, 1), (3, 1), (4, 1), (5, 1)] [(.int .i64 0), (.int .i64 0), (.int .i64 0), (.int .i64 0), (.int .i64 0), (.int .i64 0)] [(0, (.int .i64 17)), (1, v62), (4, (.int .i64 3))])) fun v63 h63 =>
  bnd (buildOwn 57 6 2 (.agg [(.int .i64 0), (.int .i64 0), (.int .i64 0), (.int .i64 0), (.int .i64 0), (.int .i64 0)]) [(0, v60), (1, v63)] h63) fun v64 h64 =>
  bnd (heapCall (sel_maker_put.f G k) [x0, v64] h64) fun v65 h65 =>
  finV [] h.length h65)
  (bnd (pu h55 (bin Tryd.prog .eql 3 true v2 (.int .i64 14))) fun v66 h66 =>
  condA v66
  (bnd (pu h66 (fieldAddrV 2 v0)) fun v67 h67 =>
  bnd (pu h67 (loadV G false 1 v67 h67)) fun v68 h68 =>
  bnd (pu h68 (buildSt [(0, 1), (1, 1), (2, 1), (3, 1), (4, 1), (5, 1)] [(.int .i64 0), (.int .i64 0), (.int .i64 0), (.int .i64 0), (.int .i64 0), (.int .i64 0)] [(0, (.int .i64 15)), (2, v68), (3, (.int .i64 31))])) fun v69 h69 =>
  bnd (pu h69 (fieldAddrV 1 v0)) fun v70 h70 =>
  bnd (pu h70 (loadV G false 1 v70 h70)) fun v71 h71 =>
  bnd (pu h71 (fieldAddrV 3 v0)) fun v72 h72 =>
  bnd (pu h72 (loadV G false 1 v72 h72)) fun v73 h73 =>
  bnd (pu h73 (fieldAddrV 4 v0)) fun v74 h74 =>
  bnd (pu h74 (loadV G false 1 v74 h74)) fun v75 h75 =>
  bnd (pu h75 (buildSt [(0, 1), (1, 1), (2, 1), (3, 1), (4, 1), (5, 1)] [(.int .i64 0), (.int .i64 0), (.int .i64 0), (.int .i64 0), (.int .i64 0), (.int .i64 0)] [(0, (.int .i64 16)), (1, v71), (2, v73), (3, v75), (4, (.int .i64 1))])) fun v76 h76 =>
  bnd (buildOwn 57 6 2 (.agg [(.int .i64 0), (.int .i64 0), (.int .i64 0), (.int .i64 0), (.int .i64 0), (.int .i64 0)]) [(0, v69), (1, v76)] h76) fun v77 h77 =>
  bnd (heapCall (sel_maker_put.f G k) [x0, v77] h77) fun v78 h78 =>
  finV [] h.length h78)
  (bnd (pu h66 (bin Tryd.prog .eql 3 true v2 (.int .i64 15))) fun v79 h79 =>
  condA v79
  (bnd (pu h79 (fieldAddrV 1 v0)) fun v80 h80 =>
  bnd (pu h80 (loadV G false 1 v80 h80)) fun v81 h81 =>
  bnd (pu h81 (loadV G true 6 v0 h81)) fun v82 h82 =>
  bnd (heapCall (sel_maker_touch.f G k) [x0, (.int .i64 18), v81, v82, x2] h82) fun v83 h83 =>
  finV [] h.length h83)
  (bnd (pu h79 (bin Tryd.prog .eql 3 true v2 (.int .i64 16))) fun v84 h84 =>
  condA v84
  (bnd (pu h84 (fieldAddrV 3 v0)) fun v85 h85 =>
  bnd (pu h85 (loadV G false 1 v85 h85)) fun v86 h86 =>
  bnd (pu h86 (loadV G true 6 v0 h86)) fun v87 h87 =>
  bnd (heapCall (sel_maker_touch.f G k) [x0, (.int .i64 19), v86, v87, x2] h87) fun v88 h88 =>
  finV [] h.length h88)
  (bnd (pu h84 (bin Tryd.prog .eql 3 true v2 (.int .i64 17))) fun v89 h89 =>
  condA v89
  (bnd (pu h89 (buildSt [(0, 1), (1, 1), (2, 1), (3, 1), (4, 1), (5, 1)] [(.int .i64 0), (.int .i64 0), (.int .i64 0), (.int .i64 0), (.int .i64 0), (.int .i64 0)] [(0, (.int .i64 20))])) fun v90 h90 =>
  bnd (pu h90 (fieldAddrV 5 v0)) fun v91 h91 =>
  bnd (pu h91 (loadV G false 1 v91 h91)) fun v92 h92 =>
  bnd (heapCall (sel_maker_jump.f G k) [x0, v90, v92] h92) fun v93 h93 =>
  finV [] h.length h93)
  (bnd (pu h89 (bin Tryd.prog .eql 3 true v2 (.int .i64 18))) fun v94 h94 =>
  condA v94
  (bnd (pu h94 (fieldAddrV 2 v0)) fun v95 h95 =>
  bnd (pu h95 (loadV G false 1 v95 h95)) fun v96 h96 =>
  bnd (pu h96 (buildSt [(0, 1), (1, 1), (2, 1), (3, 1), (4, 1), (5, 1)] [(.int .i64 0), (.int .i64 0), (.int .i64 0), (.int .i64 0), (.int .i64 0), (.int .i64 0)] [(0, (.int .i64 22)), (1, v96)])) fun v97 h97 =>
  bnd (pu h97 (fieldAddrV 5 v0)) fun v98 h98 =>
  bnd (pu h98 (loadV G false 1 v98 h98)) fun v99 h99 =>
  bnd (heapCall (sel_maker_jump.f G k) [x0, v97, v99] h99) fun v100 h100 =>
  finV [] h.length h100)
  (bnd (pu h94 (bin Tryd.prog .eql 3 true v2 (.int .i64 19))) fun v101 h101 =>
  condA v101
  (bnd (pu h101 (fieldAddrV 2 v0)) fun v102 h102 =>
  bnd (pu h102 (loadV G false 1 v102 h102)) fun v103 h103 =>
  bnd (pu h103 (buildSt [(0, 1), (1, 1), (2, 1), (3, 1), (4, 1), (5, 1)] [(.int .i64 0), (.int .i64 0), (.int .i64 0), (.int .i64 0), (.int .i64 0), (.int .i64 0)] [(0, (.int .i64 23)), (1, v103)])) fun v104 h104 =>
  bnd (pu h104 (fieldAddrV 5 v0)) fun v105 h105 =>
  bnd (pu h105 (loadV G false 1 v105 h105)) fun v106 h106 =>
  bnd (heapCall (sel_maker_jump.f G k) [x0, v104, v106] h106) fun v107 h107 =>
  finV [] h.length h107)
  (bnd (pu h101 (bin Tryd.prog .eql 3 true v2 (.int .i64 20))) fun v108 h108 =>
  condA v108
  (bnd (pu h108 (fieldAddrV 5 v0)) fun v109 h109 =>
  bnd (pu h109 (loadV G false 1 v109 h109)) fun v110 h110 =>
  bnd (pu h110 (buildSt [(0, 1), (1, 1), (2, 1), (3, 1), (4, 1), (5, 1)] [(.int .i64 0), (.int .i64 0), (.int .i64 0), (.int .i64 0), (.int .i64 0), (.int .i64 0)] [(0, (.int .i64 24)), (5, v110)])) fun v111 h111 =>
  bnd (buildOwn 57 6 1 (.agg [(.int .i64 0), (.int .i64 0), (.int .i64 0), (.int .i64 0), (.int .i64 0), (.int .i64 0)]) [(0, v111)] h111) fun v112 h112 =>
  bnd (heapCall (sel_maker_put.f G k) [x0, v112] h112) fun v113 h113 =>
  finV [] h.length h113)
  (finV [] h.length h108)))))))))))))))))))))
noncomputable def sel_maker_one.f (G : Globs) : Nat → Den
  | 0 => fun _ _ => none
  | k + 1 => fun args h => arg3 args fun x0 x1 x2 => (sel_maker_one.c G k (sel_maker_one.f G k) x0 x1 x2 h)
theorem sel_maker_one.step (G : Globs) (k : Nat) (x0 x1 x2 : AV) (h : AHeap) : sel_maker_one.f G (k + 1) [x0, x1, x2] h = sel_maker_one.c G k (sel_maker_one.f G k) x0 x1 x2 h := rfl
/-! alembic/sel.Select: function 17 -/
noncomputable def sel_Select.ann : Ann := mkAnnV [25] [2, 10] [(23, [2, 3, 10, 107, 108, 109]), (15, [5, 71, 72, 73]), (8, [1, 5, 27, 28, 29])] [] [(8, [(5, 0, 57, 6), (5, 1, 3, 1), (5, 2, 93, 2)]), (15, [(5, 0, 57, 6), (5, 1, 3, 1), (5, 2, 93, 2)])] []
noncomputable def sel_Select.env (G : Globs) (k : Nat) (self : Den) : List (Nat × Bool × Den) := [(38, true, words_Valid.f G k), (39, false, sel_maker_one.f G k), (40, true, isa_Word.f G k)]
noncomputable def sel_Select.l8 (G : Globs) (k n0 : Nat) (self : Den) (lp : LoopF) : LoopF := fun xs h0 => cutK n0 xs h0 fun h =>
  bnd (pu h (bin Tryd.prog .lss 3 false (nth xs 4) (nth xs 3))) fun v17 h17 =>
  condA v17
  (bnd (pu h17 (idxAddrSl 6 (nth xs 2) (nth xs 4))) fun v18 h18 =>
  bnd (pu h18 (loadV G true 6 v18 h18)) fun v19 h19 =>
  bnd (boxA 60 (.agg [(.int .i64 0), (.int .i64 0), (.int .i64 0), (.int .i64 0), (.int .i64 0), (.int .i64 0)]) h19) fun v20 h20 =>
  bnd (stS (storeV 6 v20 v19 h20)) fun v21 h21 =>
  bnd (pu h21 (nilA (nth xs 1))) fun v22 h22 =>
  bnd (pu h22 (fieldAddrV 1 v22)) fun v23 h23 =>
  bnd (pu h23 (loadV G false 1 v23 h23)) fun v24 h24 =>
  bnd (pu h24 (nilA (nth xs 1))) fun v25 h25 =>
  bnd (pu h25 (fieldAddrV 0 v25)) fun v26 h26 =>
  bnd (pu h26 (loadV G false 1 v26 h26)) fun v27 h27 =>
  bnd (pu h27 (lenSl v27)) fun v28 h28 =>
  bnd (buildRo 1 1 (.int .i64 0) [(0, v28)] h28) fun v29 h29 =>
  bnd (appendV 3 1 v24 v29 h29) fun v30 h30 =>
  bnd (pu h30 (nilA (nth xs 1))) fun v31 h31 =>
  bnd (pu h31 (fieldAddrV 1 v31)) fun v32 h32 =>
  bnd (stS (storeV 1 v32 v30 h32)) fun v33 h33 =>
  bnd (pu h33 (loadV G true 6 v20 h33)) fun v34 h34 =>
  bnd (pu h34 (fieldAddrV 0 (nth xs 0))) fun v35 h35 =>
  bnd (pu h35 (loadV G false 1 v35 h35)) fun v36 h36 =>
  bnd (pu h36 (lenSl v36)) fun v37 h37 =>
  bnd (heapCall (sel_maker_one.f G k) [(nth xs 1), v34, v37] h37) fun v38 h38 =>
  bnd (pu h38 (bin Tryd.prog .add 3 true (nth xs 4) (.int .i64 1))) fun v39 h39 =>
  lp [(nth xs 0), (nth xs 1), (nth xs 2), (nth xs 3), v39] h39)
  (some (.exit 0, [(nth xs 0), (nth xs 1), (nth xs 2), (nth xs 3), (nth xs 4)], h17))
noncomputable def sel_Select.l15 (G : Globs) (k n0 : Nat) (self : Den) (lp : LoopF) : LoopF := fun xs h0 => cutK n0 xs h0 fun h =>
  bnd (pu h (bin Tryd.prog .lss 3 false (nth xs 3) (nth xs 2))) fun v57 h57 =>
  condA v57
  (bnd (pu h57 (idxAddrSl 2 (nth xs 1) (nth xs 3))) fun v58 h58 =>
  bnd (pu h58 (loadV G true 2 v58 h58)) fun v59 h59 =>
  bnd (boxA 93 (.agg [(.int .i64 0), (.int .i64 0)]) h59) fun v60 h60 =>
  bnd (stS (storeV 2 v60 v59 h60)) fun v61 h61 =>
  bnd (pu h61 (nilA (nth xs 0))) fun v62 h62 =>
  bnd (pu h62 (fieldAddrV 0 v62)) fun v63 h63 =>
  bnd (pu h63 (loadV G false 1 v63 h63)) fun v64 h64 =>
  bnd (pu h64 (fieldAddrV 0 v60)) fun v65 h65 =>
  bnd (pu h65 (loadV G false 1 v65 h65)) fun v66 h66 =>
  bnd (pu h66 (nilA (nth xs 0))) fun v67 h67 =>
  bnd (pu h67 (fieldAddrV 1 v67)) fun v68 h68 =>
  bnd (pu h68 (loadV G false 1 v68 h68)) fun v69 h69 =>
  bnd (pu h69 (fieldAddrV 1 v60)) fun v70 h70 =>
  bnd (pu h70 (loadV G false 1 v70 h70)) fun v71 h71 =>
  bnd (pu h71 (idxAddrSl 1 v69 v71)) fun v72 h72 =>
  bnd (pu h72 (loadV G false 1 v72 h72)) fun v73 h73 =>
  bnd (pu h73 (fieldAddrV 0 v60)) fun v74 h74 =>
  bnd (pu h74 (loadV G false 1 v74 h74)) fun v75 h75 =>
  bnd (pu h75 (bin Tryd.prog .sub 3 false v73 v75)) fun v76 h76 =>
  bnd (pu h76 (idxAddrSl 6 v64 v66)) fun v77 h77 =>
  bnd (pu h77 (fieldAddrV 5 v77)) fun v78 h78 =>
  bnd (stS (storeV 1 v78 v76 h78)) fun v79 h79 =>
  bnd (pu h79 (bin Tryd.prog .add 3 true (nth xs 3) (.int .i64 1))) fun v80 h80 =>
  lp [(nth xs 0), (nth xs 1), (nth xs 2), v80] h80)
  (some (.exit 2, [(nth xs 0), (nth xs 1), (nth xs 2), (nth xs 3)], h57))
noncomputable def sel_Select.l23 (G : Globs) (k n0 : Nat) (self : Den) (lp : LoopF) : LoopF := fun xs h0 => cutK n0 xs h0 fun h =>
  bnd (pu h (bin Tryd.prog .lss 3 false (nth xs 5) (nth xs 4))) fun v94 h94 =>
  condA v94
  (bnd (pu h94 (idxAddrSl 6 (nth xs 3) (nth xs 5))) fun v95 h95 =>
  bnd (pu h95 (loadV G true 6 v95 h95)) fun v96 h96 =>
  bnd (boxA 57 (.agg [(.int .i64 0), (.int .i64 0), (.int .i64 0), (.int .i64 0), (.int .i64 0), (.int .i64 0)]) h96) fun v97 h97 =>
  bnd (stS (storeV 6 v97 v96 h97)) fun v98 h98 =>
  bnd (pu h98 (loadV G true 6 v97 h98)) fun v99 h99 =>
  bnd (pureCall (isa_Word.f G k) [v99] h99) fun v100 h100 =>
  bnd (pu h100 (extractA v100 0)) fun v101 h101 =>
  bnd (pu h101 (extractA v100 1)) fun v102 h102 =>
  bnd (pu h102 (un .not v102)) fun v103 h103 =>
  condA v103
  (bnd (pu h103 (loadV G false 1 (.gl 0) h103)) fun v104 h104 =>
  bnd (some (.sl h104.length 0 0 0 1, h104 ++ [⟨71, 1, []⟩])) fun v105 h105 =>
  some (.ret, [v105, v104, (nth xs 2), (nth xs 3), (nth xs 4), (nth xs 5)], h105))
  (bnd (buildRo 1 1 (.int .u32 0) [(0, v101)] h103) fun v106 h106 =>
  bnd (appendV 71 1 (nth xs 2) v106 h106) fun v107 h107 =>
  bnd (pu h107 (bin Tryd.prog .add 3 true (nth xs 5) (.int .i64 1))) fun v108 h108 =>
  lp [(nth xs 0), (nth xs 1), v107, (nth xs 3), (nth xs 4), v108] h108))
  (some (.exit 4, [(nth xs 0), (nth xs 1), (nth xs 2), (nth xs 3), (nth xs 4), (nth xs 5)], h94))
noncomputable def sel_Select.c (G : Globs) (k : Nat) (self : Den) (x0 : AV) (h : AHeap) : Option (AV × AHeap) := outV (
  bnd (boxRoA x0 h) fun v0 h0 =>
  bnd (some (.sl h0.length 0 0 0 1, h0 ++ [⟨71, 1, []⟩])) fun v1 h1 =>
  bnd (pu h1 (loadV G true 3 v0 h1)) fun v2 h2 =>
  bnd (pureCall (words_Valid.f G k) [v2] h2) fun v3 h3 =>
  bnd (pu h3 (bin Tryd.prog .neq 30 true v3 .nili)) fun v4 h4 =>
  condA v4
  (bnd (some (.sl h4.length 0 0 0 1, h4 ++ [⟨71, 1, []⟩])) fun v5 h5 =>
  finV [v5, v3] h.length h5)
  (bnd (pu h4 (fieldAddrV 1 v0)) fun v6 h6 =>
  bnd (pu h6 (loadV G false 1 v6 h6)) fun v7 h7 =>
  bnd (pu h7 (bin Tryd.prog .gtr 3 true v7 (.int .i64 28))) fun v8 h8 =>
  condA v8
  (bnd (pu h8 (loadV G false 1 (.gl 0) h8)) fun v9 h9 =>
  bnd (some (.sl h9.length 0 0 0 1, h9 ++ [⟨71, 1, []⟩])) fun v10 h10 =>
  finV [v10, v9] h.length h10)
  (bnd (pu h8 (buildSt [(0, 1), (1, 1), (2, 1)] [.nils, .nils, .nils] [])) fun v11 h11 =>
  bnd (boxA 90 v11 h11) fun v12 h12 =>
  bnd (pu h12 (fieldAddrV 0 v0)) fun v13 h13 =>
  bnd (pu h13 (loadV G false 1 v13 h13)) fun v14 h14 =>
  bnd (pu h14 (lenSl v14)) fun v15 h15 =>
  vK [(v12, 0, 57, 6), (v12, 1, 3, 1), (v12, 2, 93, 2)] h15 fun hv16 =>
  thenK (loopN (sel_Select.l8 G k hv16.length self) k [v0, v12, v14, v15, (.int .i64 0)] hv16) fun e16 x16 h16 => exK e16
  (bnd (pu h16 (nilA (nth x16 1))) fun v40 h40 =>
  bnd (pu h40 (fieldAddrV 1 v40)) fun v41 h41 =>
  bnd (pu h41 (loadV G false 1 v41 h41)) fun v42 h42 =>
  bnd (pu h42 (nilA (nth x16 1))) fun v43 h43 =>
  bnd (pu h43 (fieldAddrV 0 v43)) fun v44 h44 =>
  bnd (pu h44 (loadV G false 1 v44 h44)) fun v45 h45 =>
  bnd (pu h45 (lenSl v45)) fun v46 h46 =>
  bnd (buildRo 1 1 (.int .i64 0) [(0, v46)] h46) fun v47 h47 =>
  bnd (appendV 3 1 v42 v47 h47) fun v48 h48 =>
  bnd (pu h48 (nilA (nth x16 1))) fun v49 h49 =>
  bnd (pu h49 (fieldAddrV 1 v49)) fun v50 h50 =>
  bnd (stS (storeV 1 v50 v48 h50)) fun v51 h51 =>
  bnd (pu h51 (nilA (nth x16 1))) fun v52 h52 =>
  bnd (pu h52 (fieldAddrV 2 v52)) fun v53 h53 =>
  bnd (pu h53 (loadV G false 1 v53 h53)) fun v54 h54 =>
  bnd (pu h54 (lenSl v54)) fun v55 h55 =>
  vK [((nth x16 1), 0, 57, 6), ((nth x16 1), 1, 3, 1), ((nth x16 1), 2, 93, 2)] h55 fun hv56 =>
  thenK (loopN (sel_Select.l15 G k hv56.length self) k [(nth x16 1), v54, v55, (.int .i64 0)] hv56) fun e56 x56 h56 => exK e56
  (bnd (pu h56 (nilA (nth x56 0))) fun v81 h81 =>
  bnd (pu h81 (fieldAddrV 0 v81)) fun v82 h82 =>
  bnd (pu h82 (loadV G false 1 v82 h82)) fun v83 h83 =>
  bnd (pu h83 (lenSl v83)) fun v84 h84 =>
  bnd (pu h84 (bin Tryd.prog .gtr 3 true v84 (.int .i64 262144))) fun v85 h85 =>
  condA v85
  (bnd (pu h85 (loadV G false 1 (.gl 0) h85)) fun v86 h86 =>
  bnd (some (.sl h86.length 0 0 0 1, h86 ++ [⟨71, 1, []⟩])) fun v87 h87 =>
  finV [v87, v86] h.length h87)
  (bnd (some (.sl h85.length 0 0 0 1, h85 ++ [⟨71, 1, []⟩])) fun v88 h88 =>
  bnd (pu h88 (nilA (nth x56 0))) fun v89 h89 =>
  bnd (pu h89 (fieldAddrV 0 v89)) fun v90 h90 =>
  bnd (pu h90 (loadV G false 1 v90 h90)) fun v91 h91 =>
  bnd (pu h91 (lenSl v91)) fun v92 h92 =>
  thenK (loopN (sel_Select.l23 G k h92.length self) k [.undef, .undef, v88, v91, v92, (.int .i64 0)] h92) fun e93 x93 h93 => exK e93
  (finV [(nth x93 2), .nili] h.length h93)
  (fun i93 => if i93 = 4 then (finV [(nth x93 2), .nili] h.length h93) else (none))
  (finV [(nth x93 0), (nth x93 1)] h.length h93)))
  (fun i56 => if i56 = 2 then (bnd (pu h56 (nilA (nth x56 0))) fun v109 h109 =>
  bnd (pu h109 (fieldAddrV 0 v109)) fun v110 h110 =>
  bnd (pu h110 (loadV G false 1 v110 h110)) fun v111 h111 =>
  bnd (pu h111 (lenSl v111)) fun v112 h112 =>
  bnd (pu h112 (bin Tryd.prog .gtr 3 true v112 (.int .i64 262144))) fun v113 h113 =>
  condA v113
  (bnd (pu h113 (loadV G false 1 (.gl 0) h113)) fun v114 h114 =>
  bnd (some (.sl h114.length 0 0 0 1, h114 ++ [⟨71, 1, []⟩])) fun v115 h115 =>
  finV [v115, v114] h.length h115)
  (bnd (some (.sl h113.length 0 0 0 1, h113 ++ [⟨71, 1, []⟩])) fun v116 h116 =>
  bnd (pu h116 (nilA (nth x56 0))) fun v117 h117 =>
  bnd (pu h117 (fieldAddrV 0 v117)) fun v118 h118 =>
  bnd (pu h118 (loadV G false 1 v118 h118)) fun v119 h119 =>
  bnd (pu h119 (lenSl v119)) fun v120 h120 =>
  thenK (loopN (sel_Select.l23 G k h120.length self) k [.undef, .undef, v116, v119, v120, (.int .i64 0)] h120) fun e121 x121 h121 => exK e121
  (finV [(nth x121 2), .nili] h.length h121)
  (fun i121 => if i121 = 4 then (finV [(nth x121 2), .nili] h.length h121) else (none))
  (finV [(nth x121 0), (nth x121 1)] h.length h121))) else (none))
  (finV [.undef, .undef] h.length h56))
  (fun i16 => if i16 = 0 then (bnd (pu h16 (nilA (nth x16 1))) fun v137 h137 =>
  bnd (pu h137 (fieldAddrV 1 v137)) fun v138 h138 =>
  bnd (pu h138 (loadV G false 1 v138 h138)) fun v139 h139 =>
  bnd (pu h139 (nilA (nth x16 1))) fun v140 h140 =>
  bnd (pu h140 (fieldAddrV 0 v140)) fun v141 h141 =>
  bnd (pu h141 (loadV G false 1 v141 h141)) fun v142 h142 =>
  bnd (pu h142 (lenSl v142)) fun v143 h143 =>
  bnd (buildRo 1 1 (.int .i64 0) [(0, v143)] h143) fun v144 h144 =>
  bnd (appendV 3 1 v139 v144 h144) fun v145 h145 =>
  bnd (pu h145 (nilA (nth x16 1))) fun v146 h146 =>
  bnd (pu h146 (fieldAddrV 1 v146)) fun v147 h147 =>
  bnd (stS (storeV 1 v147 v145 h147)) fun v148 h148 =>
  bnd (pu h148 (nilA (nth x16 1))) fun v149 h149 =>
  bnd (pu h149 (fieldAddrV 2 v149)) fun v150 h150 =>
  bnd (pu h150 (loadV G false 1 v150 h150)) fun v151 h151 =>
  bnd (pu h151 (lenSl v151)) fun v152 h152 =>
  vK [((nth x16 1), 0, 57, 6), ((nth x16 1), 1, 3, 1), ((nth x16 1), 2, 93, 2)] h152 fun hv153 =>
  thenK (loopN (sel_Select.l15 G k hv153.length self) k [(nth x16 1), v151, v152, (.int .i64 0)] hv153) fun e153 x153 h153 => exK e153
  (bnd (pu h153 (nilA (nth x153 0))) fun v178 h178 =>
  bnd (pu h178 (fieldAddrV 0 v178)) fun v179 h179 =>
  bnd (pu h179 (loadV G false 1 v179 h179)) fun v180 h180 =>
  bnd (pu h180 (lenSl v180)) fun v181 h181 =>
  bnd (pu h181 (bin Tryd.prog .gtr 3 true v181 (.int .i64 262144))) fun v182 h182 =>
  condA v182
  (bnd (pu h182 (loadV G false 1 (.gl 0) h182)) fun v183 h183 =>
  bnd (some (.sl h183.length 0 0 0 1, h183 ++ [⟨71, 1, []⟩])) fun v184 h184 =>
  finV [v184, v183] h.length h184)
  (bnd (some (.sl h182.length 0 0 0 1, h182 ++ [⟨71, 1, []⟩])) fun v185 h185 =>
  bnd (pu h185 (nilA (nth x153 0))) fun v186 h186 =>
  bnd (pu h186 (fieldAddrV 0 v186)) fun v187 h187 =>
  bnd (pu h187 (loadV G false 1 v187 h187)) fun v188 h188 =>
  bnd (pu h188 (lenSl v188)) fun v189 h189 =>
  thenK (loopN (sel_Select.l23 G k h189.length self) k [.undef, .undef, v185, v188, v189, (.int .i64 0)] h189) fun e190 x190 h190 => exK e190
  (finV [(nth x190 2), .nili] h.length h190)
  (fun i190 => if i190 = 4 then (finV [(nth x190 2), .nili] h.length h190) else (none))
  (finV [(nth x190 0), (nth x190 1)] h.length h190)))
  (fun i153 => if i153 = 2 then (bnd (pu h153 (nilA (nth x153 0))) fun v206 h206 =>
  bnd (pu h206 (fieldAddrV 0 v206)) fun v207 h207 =>
  bnd (pu h207 (loadV G false 1 v207 h207)) fun v208 h208 =>
  bnd (pu h208 (lenSl v208)) fun v209 h209 =>
  bnd (pu h209 (bin Tryd.prog .gtr 3 true v209 (.int .i64 262144))) fun v210 h210 =>
  condA v210
  (bnd (pu h210 (loadV G false 1 (.gl 0) h210)) fun v211 h211 =>
  bnd (some (.sl h211.length 0 0 0 1, h211 ++ [⟨71, 1, []⟩])) fun v212 h212 =>
  finV [v212, v211] h.length h212)
  (bnd (some (.sl h210.length 0 0 0 1, h210 ++ [⟨71, 1, []⟩])) fun v213 h213 =>
  bnd (pu h213 (nilA (nth x153 0))) fun v214 h214 =>
  bnd (pu h214 (fieldAddrV 0 v214)) fun v215 h215 =>
  bnd (pu h215 (loadV G false 1 v215 h215)) fun v216 h216 =>
  bnd (pu h216 (lenSl v216)) fun v217 h217 =>
  thenK (loopN (sel_Select.l23 G k h217.length self) k [.undef, .undef, v213, v216, v217, (.int .i64 0)] h217) fun e218 x218 h218 => exK e218
  (finV [(nth x218 2), .nili] h.length h218)
  (fun i218 => if i218 = 4 then (finV [(nth x218 2), .nili] h.length h218) else (none))
  (finV [(nth x218 0), (nth x218 1)] h.length h218))) else (none))
  (finV [.undef, .undef] h.length h153)) else (none))
  (finV [.undef, .undef] h.length h16))))
noncomputable def sel_Select.f (G : Globs) : Nat → Den
  | 0 => fun _ _ => none
  | k + 1 => fun args h => arg1 args fun x0 => (sel_Select.c G k (sel_Select.f G k) x0 h)
theorem sel_Select.step (G : Globs) (k : Nat) (x0 : AV) (h : AHeap) : sel_Select.f G (k + 1) [x0] h = sel_Select.c G k (sel_Select.f G k) x0 h := rfl
/-! alembic/sel.Const: function 23 -/
noncomputable def sel_Const.ann : Ann := mkAnn [] [] [] []
noncomputable def sel_Const.env (G : Globs) (k : Nat) (self : Den) : List (Nat × Bool × Den) := [(54, false, sel_constant.f G k)]
noncomputable def sel_Const.c (G : Globs) (k : Nat) (self : Den) (x0 x1 : AV) (h : AHeap) : Option (AV × AHeap) := outV (
  bnd (pu h (bin Tryd.prog .lss 3 true x0 (.int .i64 0))) fun v0 h0 =>
  bnd (gd v0 false h0 (some (x0, h0))) fun v1 h1 =>
  bnd (gd v0 false h1 (pu h1 (bin Tryd.prog .gtr 3 true v1 (.int .i64 30)))) fun v2 h2 =>
  bnd (pu h2 (pickA v0 (.bool true) v2)) fun v3 h3 =>
  condA v3
  (bnd (pu h3 (loadV G false 1 (.gl 1) h3)) fun v4 h4 =>
  finV [.nils, v4] h.length h4)
  (bnd (heapCall (sel_constant.f G k) [x0, x1] h3) fun v5 h5 =>
  finV [v5, .nili] h.length h5))
noncomputable def sel_Const.f (G : Globs) : Nat → Den
  | 0 => fun _ _ => none
  | k + 1 => fun args h => arg2 args fun x0 x1 => (sel_Const.c G k (sel_Const.f G k) x0 x1 h)
/-! alembic/alembiclaw24.first: function 15 -/
noncomputable def alembiclaw24_first.ann : Ann := mkAnn [] [] [] []
noncomputable def alembiclaw24_first.env (G : Globs) (k : Nat) (self : Den) : List (Nat × Bool × Den) := [(17, true, sel_Select.f G k), (23, true, sel_Const.f G k)]
noncomputable def alembiclaw24_first.c (G : Globs) (k : Nat) (self : Den) (h : AHeap) : Option (AV × AHeap) := outV (
  bnd (pu h (buildSt [(0, 1), (1, 1), (2, 1)] [.nils, (.int .i64 0), (.int .i64 0)] [])) fun v0 h0 =>
  bnd (pureCall (sel_Select.f G k) [v0] h0) fun v1 h1 =>
  bnd (pu h1 (extractA v1 0)) fun v2 h2 =>
  bnd (pu h2 (extractA v1 1)) fun v3 h3 =>
  bnd (pureCall (sel_Const.f G k) [(.int .i64 3), (.int .i64 7)] h3) fun v4 h4 =>
  bnd (pu h4 (extractA v4 0)) fun v5 h5 =>
  bnd (pu h5 (extractA v4 1)) fun v6 h6 =>
  bnd (pu h6 (bin Tryd.prog .eql 30 true v3 .nili)) fun v7 h7 =>
  bnd (gd v7 true h7 (some (v6, h7))) fun v8 h8 =>
  bnd (gd v7 true h8 (pu h8 (bin Tryd.prog .eql 30 true v8 .nili))) fun v9 h9 =>
  bnd (pu h9 (pickA v7 v9 (.bool false))) fun v10 h10 =>
  bnd (gd v10 true h10 (some (v2, h10))) fun v11 h11 =>
  bnd (gd v10 true h11 (pu h11 (lenSl v11))) fun v12 h12 =>
  bnd (gd v10 true h12 (pu h12 (bin Tryd.prog .eql 3 true v12 (.int .i64 0)))) fun v13 h13 =>
  bnd (pu h13 (pickA v10 v13 (.bool false))) fun v14 h14 =>
  bnd (gd v14 true h14 (some (v5, h14))) fun v15 h15 =>
  bnd (gd v14 true h15 (pu h15 (lenSl v15))) fun v16 h16 =>
  bnd (gd v14 true h16 (pu h16 (bin Tryd.prog .gtr 3 true v16 (.int .i64 0)))) fun v17 h17 =>
  bnd (pu h17 (pickA v14 v17 (.bool false))) fun v18 h18 =>
  finV [v18] h.length h18)
noncomputable def alembiclaw24_first.f (G : Globs) : Nat → Den
  | 0 => fun _ _ => none
  | k + 1 => fun args h => arg0 args (alembiclaw24_first.c G k (alembiclaw24_first.f G k) h)
/-! alembic/alembiclaw24.SelectFar: function 7 -/
noncomputable def alembiclaw24_SelectFar.ann : Ann := mkAnn [] [] [] [(16, [7, 11, 12, 13]), (10, [0, 1, 7, 8]), (6, [0, 1, 2, 7])]
noncomputable def alembiclaw24_SelectFar.env (G : Globs) (k : Nat) (self : Den) : List (Nat × Bool × Den) := [(15, true, alembiclaw24_first.f G k), (17, true, sel_Select.f G k), (22, true, alembicref17_RunMach.f G k)]
noncomputable def alembiclaw24_SelectFar.c (G : Globs) (k : Nat) (self : Den) (x0 x1 x2 : AV) (h : AHeap) : Option (AV × AHeap) := outV (
  bnd (pureCall (alembiclaw24_first.f G k) [] h) fun v0 h0 =>
  bnd (pu h0 (un .not v0)) fun v1 h1 =>
  condA v1
  (finV [(.bool false)] h.length h1)
  (thenK (
  bnd (pu h1 (bin Tryd.prog .lss 3 true x1 (.int .i64 0))) fun v2 h2 =>
  condA v2
  (bnd (pu h2 (bin Tryd.prog .add 3 true x1 (.int .i64 1))) fun v3 h3 =>
  bnd (pu h3 (un .neg v3)) fun v4 h4 =>
  some (.normal, [x0, v4, x2, v0], h4))
  (some (.normal, [x0, x1, x2, v0], h2))) fun e5 x5 h5 => exK e5
  (bnd (pu h5 (bin Tryd.prog .rem 3 true (nth x5 1) (.int .i64 50))) fun v6 h6 =>
  bnd (pu h6 (bin Tryd.prog .add 3 true v6 (.int .i64 1))) fun v7 h7 =>
  bnd (pu h7 (buildSt [(0, 1), (1, 1), (2, 1), (3, 1), (4, 1), (5, 1)] [(.int .i64 0), (.int .i64 0), (.int .i64 0), (.int .i64 0), (.int .i64 0), (.int .i64 0)] [(0, (.int .i64 16)), (2, (.int .i64 0)), (3, (.int .i64 1)), (5, (.int .i64 2))])) fun v8 h8 =>
  bnd (boxA 60 (.agg [(.int .i64 0), (.int .i64 0), (.int .i64 0), (.int .i64 0), (.int .i64 0), (.int .i64 0)]) h8) fun v9 h9 =>
  bnd (stS (storeV 6 v9 v8 h9)) fun v10 h10 =>
  thenK (
  condA (nth x5 2)
  (bnd (pu h10 (buildSt [(0, 1), (1, 1), (2, 1), (3, 1), (4, 1), (5, 1)] [(.int .i64 0), (.int .i64 0), (.int .i64 0), (.int .i64 0), (.int .i64 0), (.int .i64 0)] [(0, (.int .i64 15)), (1, (.int .i64 1)), (2, (.int .i64 0)), (5, (.int .i64 2))])) fun v11 h11 =>
  bnd (stS (storeV 6 v9 v11 h11)) fun v12 h12 =>
  some (.normal, [(nth x5 0), v7, (nth x5 3), v9], h12))
  (some (.normal, [(nth x5 0), v7, (nth x5 3), v9], h10))) fun e13 x13 h13 => exK e13
  (bnd (pu h13 (buildSt [(0, 1), (1, 1), (2, 1), (3, 1), (4, 1), (5, 1)] [(.int .i64 0), (.int .i64 0), (.int .i64 0), (.int .i64 0), (.int .i64 0), (.int .i64 0)] [(0, (.int .i64 1)), (1, (.int .i64 1)), (5, (.int .i64 77))])) fun v14 h14 =>
  bnd (pu h14 (convInt .i64 (nth x13 0))) fun v15 h15 =>
  bnd (pu h15 (buildSt [(0, 1), (1, 1), (2, 1), (3, 1), (4, 1), (5, 1)] [(.int .i64 0), (.int .i64 0), (.int .i64 0), (.int .i64 0), (.int .i64 0), (.int .i64 0)] [(0, (.int .i64 1)), (1, (.int .i64 0)), (5, v15)])) fun v16 h16 =>
  bnd (pu h16 (loadV G true 6 (nth x13 3) h16)) fun v17 h17 =>
  bnd (pu h17 (buildSt [(0, 1), (1, 1), (2, 1), (3, 1), (4, 1), (5, 1)] [(.int .i64 0), (.int .i64 0), (.int .i64 0), (.int .i64 0), (.int .i64 0), (.int .i64 0)] [(0, (.int .i64 20))])) fun v18 h18 =>
  bnd (buildRo 6 4 (.agg [(.int .i64 0), (.int .i64 0), (.int .i64 0), (.int .i64 0), (.int .i64 0), (.int .i64 0)]) [(0, v14), (1, v16), (2, v17), (3, v18)] h18) fun v19 h19 =>
  bnd (pu h19 (buildSt [(0, 1), (1, 1), (2, 1)] [.nils, (.int .i64 0), (.int .i64 0)] [(1, (.int .i64 2)), (2, (nth x13 1)), (0, v19)])) fun v20 h20 =>
  bnd (boxA 24 (.agg [.nils, (.int .i64 0), (.int .i64 0)]) h20) fun v21 h21 =>
  bnd (stS (storeV 3 v21 v20 h21)) fun v22 h22 =>
  bnd (pu h22 (loadV G true 3 v21 h22)) fun v23 h23 =>
  bnd (pureCall (sel_Select.f G k) [v23] h23) fun v24 h24 =>
  bnd (pu h24 (extractA v24 0)) fun v25 h25 =>
  bnd (pu h25 (extractA v24 1)) fun v26 h26 =>
  bnd (makeSliceV 43 1 (.int .u64 0) (nth x13 1) (nth x13 1) h26) fun v27 h27 =>
  bnd (pureCall (alembicref17_RunMach.f G k) [v25, v27, (.int .i64 200)] h27) fun v28 h28 =>
  bnd (boxA 46 (.agg [(.int .i64 0), .nils, (.int .u64 0), (.int .u64 0), (.int .u64 0), (.int .u64 0), (.int .u64 0), (.int .u64 0), (.int .u64 0), (.int .u64 0), (.int .u64 0), (.int .u64 0), (.int .u64 0), (.int .u64 0), (.int .u64 0), (.int .u64 0), (.int .u64 0), (.int .u64 0), (.int .u64 0), (.int .u64 0), (.int .u64 0), (.int .u64 0), (.int .u64 0), (.int .u64 0), (.int .u64 0), (.int .u64 0), (.int .u64 0), (.int .u64 0), (.int .u64 0), (.int .u64 0), (.int .u64 0), (.int .u64 0), (.int .u64 0), .nils, (.int .i64 0)]) h28) fun v29 h29 =>
  bnd (stS (storeV 35 v29 v28 h29)) fun v30 h30 =>
  thenK (
  bnd (pu h30 (bin Tryd.prog .add 43 true (nth x13 0) (.int .u64 2))) fun v31 h31 =>
  bnd (pu h31 (convInt .u64 (nth x13 1))) fun v32 h32 =>
  bnd (pu h32 (bin Tryd.prog .geq 43 false v31 v32)) fun v33 h33 =>
  condA v33
  (some (.normal, [(nth x13 2), v26, v29, (.int .i64 3)], h33))
  (some (.normal, [(nth x13 2), v26, v29, (.int .i64 0)], h33))) fun e34 x34 h34 => exK e34
  (bnd (gd (nth x34 0) true h34 (some ((nth x34 1), h34))) fun v35 h35 =>
  bnd (gd (nth x34 0) true h35 (pu h35 (bin Tryd.prog .eql 30 true v35 .nili))) fun v36 h36 =>
  bnd (pu h36 (pickA (nth x34 0) v36 (.bool false))) fun v37 h37 =>
  bnd (gd v37 true h37 (pu h37 (fieldAddrV 0 (nth x34 2)))) fun v38 h38 =>
  bnd (gd v37 true h38 (pu h38 (loadV G false 1 v38 h38))) fun v39 h39 =>
  bnd (gd v37 true h39 (some ((nth x34 3), h39))) fun v40 h40 =>
  bnd (gd v37 true h40 (pu h40 (bin Tryd.prog .eql 3 false v39 v40))) fun v41 h41 =>
  bnd (pu h41 (pickA v37 v41 (.bool false))) fun v42 h42 =>
  finV [v42] h.length h42)
  (fun i34 => none)
  (finV [.undef] h.length h34))
  (fun i13 => none)
  (finV [.undef] h.length h13))
  (fun i5 => none)
  (finV [.undef] h.length h5)))
noncomputable def alembiclaw24_SelectFar.f (G : Globs) : Nat → Den
  | 0 => fun _ _ => none
  | k + 1 => fun args h => arg3 args fun x0 x1 x2 => (alembiclaw24_SelectFar.c G k (alembiclaw24_SelectFar.f G k) x0 x1 x2 h)
theorem alembiclaw24_SelectFar.step (G : Globs) (k : Nat) (x0 x1 x2 : AV) (h : AHeap) : alembiclaw24_SelectFar.f G (k + 1) [x0, x1, x2] h = alembiclaw24_SelectFar.c G k (alembiclaw24_SelectFar.f G k) x0 x1 x2 h := rfl
end Go.Proofs.YtdfglgnflldkpaaDoor.Mir
namespace Go.Proofs.YtdfglgnflldkpaaDoor.Mir
open Go
set_option linter.unusedVariables false
theorem orders : Tryd.prog.follows .mixedOrders = true := by kernel_rfl
theorem isa_two.here : ∃ fn, Tryd.prog.funcs[92]? = some fn ∧ fn.body.isSome = true ∧ (fn.name == "runtime.NumGoroutine") = false := ⟨_, Tryd.func92, by kernel_rfl, by kernel_rfl⟩
theorem isa_two.eq (G : Globs) (k : Nat) (self : Den) (x0 x1 x2 : AV) (h : AHeap) : absFn Tryd.prog G (envL (isa_two.env G k self)) isa_two.ann Tryd.f92.results.toList (codeOf Tryd.f92) Tryd.f92.ntmps k [x0, x1, x2] h = isa_two.c G k self x0 x1 x2 h := by kernel_rfl
theorem isa_two.sound {G : Globs} (hG : ∀ g x, G g = some x → plainB x = true) : ∀ k, Sound Tryd.prog G 92 (isa_two.f G k)
  | 0 => sound_zero isa_two.here (fun _ _ => rfl)
  | k + 1 => sound_succ (l := isa_two.env G k (isa_two.f G k)) (ann := isa_two.ann) (n := k) (envSound_of hG envNil) orders Tryd.func92 (by kernel_rfl) (by kernel_rfl) rfl (by kernel_rfl) (arg3_of fun x0 x1 x2 h => isa_two.eq G k _ x0 x1 x2 h)
theorem isa_three.here : ∃ fn, Tryd.prog.funcs[107]? = some fn ∧ fn.body.isSome = true ∧ (fn.name == "runtime.NumGoroutine") = false := ⟨_, Tryd.func107, by kernel_rfl, by kernel_rfl⟩
theorem isa_three.eq (G : Globs) (k : Nat) (self : Den) (x0 x1 : AV) (h : AHeap) : absFn Tryd.prog G (envL (isa_three.env G k self)) isa_three.ann Tryd.f107.results.toList (codeOf Tryd.f107) Tryd.f107.ntmps k [x0, x1] h = isa_three.c G k self x0 x1 h := by kernel_rfl
theorem isa_three.sound {G : Globs} (hG : ∀ g x, G g = some x → plainB x = true) : ∀ k, Sound Tryd.prog G 107 (isa_three.f G k)
  | 0 => sound_zero isa_three.here (fun _ _ => rfl)
  | k + 1 => sound_succ (l := isa_three.env G k (isa_three.f G k)) (ann := isa_three.ann) (n := k) (envSound_of hG envNil) orders Tryd.func107 (by kernel_rfl) (by kernel_rfl) rfl (by kernel_rfl) (arg2_of fun x0 x1 h => isa_three.eq G k _ x0 x1 h)
theorem isa_plain.here : ∃ fn, Tryd.prog.funcs[93]? = some fn ∧ fn.body.isSome = true ∧ (fn.name == "runtime.NumGoroutine") = false := ⟨_, Tryd.func93, by kernel_rfl, by kernel_rfl⟩
theorem isa_plain.eq (G : Globs) (k : Nat) (self : Den) (x0 : AV) (h : AHeap) : absFn Tryd.prog G (envL (isa_plain.env G k self)) isa_plain.ann Tryd.f93.results.toList (codeOf Tryd.f93) Tryd.f93.ntmps k [x0] h = isa_plain.c G k self x0 h := by kernel_rfl
theorem isa_plain.sound {G : Globs} (hG : ∀ g x, G g = some x → plainB x = true) : ∀ k, Sound Tryd.prog G 93 (isa_plain.f G k)
  | 0 => sound_zero isa_plain.here (fun _ _ => rfl)
  | k + 1 => sound_succ (l := isa_plain.env G k (isa_plain.f G k)) (ann := isa_plain.ann) (n := k) (envSound_of hG (envCons (isa_two.sound hG k) (envCons (isa_three.sound hG k) envNil))) orders Tryd.func93 (by kernel_rfl) (by kernel_rfl) rfl (by kernel_rfl) (arg1_of fun x0 h => isa_plain.eq G k _ x0 h)
theorem isa_of.here : ∃ fn, Tryd.prog.funcs[70]? = some fn ∧ fn.body.isSome = true ∧ (fn.name == "runtime.NumGoroutine") = false := ⟨_, Tryd.func70, by kernel_rfl, by kernel_rfl⟩
theorem isa_of.eq (G : Globs) (k : Nat) (self : Den) (x0 : AV) (h : AHeap) : absFn Tryd.prog G (envL (isa_of.env G k self)) isa_of.ann Tryd.f70.results.toList (codeOf Tryd.f70) Tryd.f70.ntmps k [x0] h = isa_of.c G k self x0 h := by kernel_rfl
theorem isa_of.sound {G : Globs} (hG : ∀ g x, G g = some x → plainB x = true) : ∀ k, Sound Tryd.prog G 70 (isa_of.f G k)
  | 0 => sound_zero isa_of.here (fun _ _ => rfl)
  | k + 1 => sound_succ (l := isa_of.env G k (isa_of.f G k)) (ann := isa_of.ann) (n := k) (envSound_of hG (envCons (isa_two.sound hG k) (envCons (isa_plain.sound hG k) envNil))) orders Tryd.func70 (by kernel_rfl) (by kernel_rfl) rfl (by kernel_rfl) (arg1_of fun x0 h => isa_of.eq G k _ x0 h)
theorem isa_register.here : ∃ fn, Tryd.prog.funcs[94]? = some fn ∧ fn.body.isSome = true ∧ (fn.name == "runtime.NumGoroutine") = false := ⟨_, Tryd.func94, by kernel_rfl, by kernel_rfl⟩
theorem isa_register.eq (G : Globs) (k : Nat) (self : Den) (x0 x1 : AV) (h : AHeap) : absFn Tryd.prog G (envL (isa_register.env G k self)) isa_register.ann Tryd.f94.results.toList (codeOf Tryd.f94) Tryd.f94.ntmps k [x0, x1] h = isa_register.c G k self x0 x1 h := by kernel_rfl
theorem isa_register.sound {G : Globs} (hG : ∀ g x, G g = some x → plainB x = true) : ∀ k, Sound Tryd.prog G 94 (isa_register.f G k)
  | 0 => sound_zero isa_register.here (fun _ _ => rfl)
  | k + 1 => sound_succ (l := isa_register.env G k (isa_register.f G k)) (ann := isa_register.ann) (n := k) (envSound_of hG envNil) orders Tryd.func94 (by kernel_rfl) (by kernel_rfl) rfl (by kernel_rfl) (arg2_of fun x0 x1 h => isa_register.eq G k _ x0 x1 h)
theorem isa_extra.here : ∃ fn, Tryd.prog.funcs[95]? = some fn ∧ fn.body.isSome = true ∧ (fn.name == "runtime.NumGoroutine") = false := ⟨_, Tryd.func95, by kernel_rfl, by kernel_rfl⟩
theorem isa_extra.eq (G : Globs) (k : Nat) (self : Den) (x0 : AV) (h : AHeap) : absFn Tryd.prog G (envL (isa_extra.env G k self)) isa_extra.ann Tryd.f95.results.toList (codeOf Tryd.f95) Tryd.f95.ntmps k [x0] h = isa_extra.c G k self x0 h := by kernel_rfl
theorem isa_extra.sound {G : Globs} (hG : ∀ g x, G g = some x → plainB x = true) : ∀ k, Sound Tryd.prog G 95 (isa_extra.f G k)
  | 0 => sound_zero isa_extra.here (fun _ _ => rfl)
  | k + 1 => sound_succ (l := isa_extra.env G k (isa_extra.f G k)) (ann := isa_extra.ann) (n := k) (envSound_of hG envNil) orders Tryd.func95 (by kernel_rfl) (by kernel_rfl) rfl (by kernel_rfl) (arg1_of fun x0 h => isa_extra.eq G k _ x0 h)
theorem isa_signed.here : ∃ fn, Tryd.prog.funcs[108]? = some fn ∧ fn.body.isSome = true ∧ (fn.name == "runtime.NumGoroutine") = false := ⟨_, Tryd.func108, by kernel_rfl, by kernel_rfl⟩
theorem isa_signed.eq (G : Globs) (k : Nat) (self : Den) (x0 : AV) (h : AHeap) : absFn Tryd.prog G (envL (isa_signed.env G k self)) isa_signed.ann Tryd.f108.results.toList (codeOf Tryd.f108) Tryd.f108.ntmps k [x0] h = isa_signed.c G k self x0 h := by kernel_rfl
theorem isa_signed.sound {G : Globs} (hG : ∀ g x, G g = some x → plainB x = true) : ∀ k, Sound Tryd.prog G 108 (isa_signed.f G k)
  | 0 => sound_zero isa_signed.here (fun _ _ => rfl)
  | k + 1 => sound_succ (l := isa_signed.env G k (isa_signed.f G k)) (ann := isa_signed.ann) (n := k) (envSound_of hG envNil) orders Tryd.func108 (by kernel_rfl) (by kernel_rfl) rfl (by kernel_rfl) (arg1_of fun x0 h => isa_signed.eq G k _ x0 h)
theorem isa_imm.here : ∃ fn, Tryd.prog.funcs[96]? = some fn ∧ fn.body.isSome = true ∧ (fn.name == "runtime.NumGoroutine") = false := ⟨_, Tryd.func96, by kernel_rfl, by kernel_rfl⟩
theorem isa_imm.eq (G : Globs) (k : Nat) (self : Den) (x0 x1 : AV) (h : AHeap) : absFn Tryd.prog G (envL (isa_imm.env G k self)) isa_imm.ann Tryd.f96.results.toList (codeOf Tryd.f96) Tryd.f96.ntmps k [x0, x1] h = isa_imm.c G k self x0 x1 h := by kernel_rfl
theorem isa_imm.sound {G : Globs} (hG : ∀ g x, G g = some x → plainB x = true) : ∀ k, Sound Tryd.prog G 96 (isa_imm.f G k)
  | 0 => sound_zero isa_imm.here (fun _ _ => rfl)
  | k + 1 => sound_succ (l := isa_imm.env G k (isa_imm.f G k)) (ann := isa_imm.ann) (n := k) (envSound_of hG (envCons (isa_signed.sound hG k) envNil)) orders Tryd.func96 (by kernel_rfl) (by kernel_rfl) rfl (by kernel_rfl) (arg2_of fun x0 x1 h => isa_imm.eq G k _ x0 x1 h)
theorem isa_stack.here : ∃ fn, Tryd.prog.funcs[97]? = some fn ∧ fn.body.isSome = true ∧ (fn.name == "runtime.NumGoroutine") = false := ⟨_, Tryd.func97, by kernel_rfl, by kernel_rfl⟩
theorem isa_stack.eq (G : Globs) (k : Nat) (self : Den) (x0 : AV) (h : AHeap) : absFn Tryd.prog G (envL (isa_stack.env G k self)) isa_stack.ann Tryd.f97.results.toList (codeOf Tryd.f97) Tryd.f97.ntmps k [x0] h = isa_stack.c G k self x0 h := by kernel_rfl
theorem isa_stack.sound {G : Globs} (hG : ∀ g x, G g = some x → plainB x = true) : ∀ k, Sound Tryd.prog G 97 (isa_stack.f G k)
  | 0 => sound_zero isa_stack.here (fun _ _ => rfl)
  | k + 1 => sound_succ (l := isa_stack.env G k (isa_stack.f G k)) (ann := isa_stack.ann) (n := k) (envSound_of hG envNil) orders Tryd.func97 (by kernel_rfl) (by kernel_rfl) rfl (by kernel_rfl) (arg1_of fun x0 h => isa_stack.eq G k _ x0 h)
theorem isa_fair.here : ∃ fn, Tryd.prog.funcs[71]? = some fn ∧ fn.body.isSome = true ∧ (fn.name == "runtime.NumGoroutine") = false := ⟨_, Tryd.func71, by kernel_rfl, by kernel_rfl⟩
theorem isa_fair.eq (G : Globs) (k : Nat) (self : Den) (x0 x1 : AV) (h : AHeap) : absFn Tryd.prog G (envL (isa_fair.env G k self)) isa_fair.ann Tryd.f71.results.toList (codeOf Tryd.f71) Tryd.f71.ntmps k [x0, x1] h = isa_fair.c G k self x0 x1 h := by kernel_rfl
theorem isa_fair.sound {G : Globs} (hG : ∀ g x, G g = some x → plainB x = true) : ∀ k, Sound Tryd.prog G 71 (isa_fair.f G k)
  | 0 => sound_zero isa_fair.here (fun _ _ => rfl)
  | k + 1 => sound_succ (l := isa_fair.env G k (isa_fair.f G k)) (ann := isa_fair.ann) (n := k) (envSound_of hG (envCons (isa_register.sound hG k) (envCons (isa_extra.sound hG k) (envCons (isa_imm.sound hG k) (envCons (isa_stack.sound hG k) envNil))))) orders Tryd.func71 (by kernel_rfl) (by kernel_rfl) rfl (by kernel_rfl) (arg2_of fun x0 x1 h => isa_fair.eq G k _ x0 x1 h)
theorem isa_number.here : ∃ fn, Tryd.prog.funcs[72]? = some fn ∧ fn.body.isSome = true ∧ (fn.name == "runtime.NumGoroutine") = false := ⟨_, Tryd.func72, by kernel_rfl, by kernel_rfl⟩
theorem isa_number.eq (G : Globs) (k : Nat) (self : Den) (x0 : AV) (h : AHeap) : absFn Tryd.prog G (envL (isa_number.env G k self)) isa_number.ann Tryd.f72.results.toList (codeOf Tryd.f72) Tryd.f72.ntmps k [x0] h = isa_number.c G k self x0 h := by kernel_rfl
theorem isa_number.sound {G : Globs} (hG : ∀ g x, G g = some x → plainB x = true) : ∀ k, Sound Tryd.prog G 72 (isa_number.f G k)
  | 0 => sound_zero isa_number.here (fun _ _ => rfl)
  | k + 1 => sound_succ (l := isa_number.env G k (isa_number.f G k)) (ann := isa_number.ann) (n := k) (envSound_of hG envNil) orders Tryd.func72 (by kernel_rfl) (by kernel_rfl) rfl (by kernel_rfl) (arg1_of fun x0 h => isa_number.eq G k _ x0 h)
theorem isa_Word.here : ∃ fn, Tryd.prog.funcs[40]? = some fn ∧ fn.body.isSome = true ∧ (fn.name == "runtime.NumGoroutine") = false := ⟨_, Tryd.func40, by kernel_rfl, by kernel_rfl⟩
theorem isa_Word.eq (G : Globs) (k : Nat) (self : Den) (x0 : AV) (h : AHeap) : absFn Tryd.prog G (envL (isa_Word.env G k self)) isa_Word.ann Tryd.f40.results.toList (codeOf Tryd.f40) Tryd.f40.ntmps k [x0] h = isa_Word.c G k self x0 h := by kernel_rfl
theorem isa_Word.sound {G : Globs} (hG : ∀ g x, G g = some x → plainB x = true) : ∀ k, Sound Tryd.prog G 40 (isa_Word.f G k)
  | 0 => sound_zero isa_Word.here (fun _ _ => rfl)
  | k + 1 => sound_succ (l := isa_Word.env G k (isa_Word.f G k)) (ann := isa_Word.ann) (n := k) (envSound_of hG (envCons (isa_of.sound hG k) (envCons (isa_fair.sound hG k) (envCons (isa_number.sound hG k) envNil)))) orders Tryd.func40 (by kernel_rfl) (by kernel_rfl) rfl (by kernel_rfl) (arg1_of fun x0 h => isa_Word.eq G k _ x0 h)
theorem alembicref17_partsOf.here : ∃ fn, Tryd.prog.funcs[79]? = some fn ∧ fn.body.isSome = true ∧ (fn.name == "runtime.NumGoroutine") = false := ⟨_, Tryd.func79, by kernel_rfl, by kernel_rfl⟩
theorem alembicref17_partsOf.eq (G : Globs) (k : Nat) (self : Den) (x0 : AV) (h : AHeap) : absFn Tryd.prog G (envL (alembicref17_partsOf.env G k self)) alembicref17_partsOf.ann Tryd.f79.results.toList (codeOf Tryd.f79) Tryd.f79.ntmps k [x0] h = alembicref17_partsOf.c G k self x0 h := by kernel_rfl
theorem alembicref17_partsOf.sound {G : Globs} (hG : ∀ g x, G g = some x → plainB x = true) : ∀ k, Sound Tryd.prog G 79 (alembicref17_partsOf.f G k)
  | 0 => sound_zero alembicref17_partsOf.here (fun _ _ => rfl)
  | k + 1 => sound_succ (l := alembicref17_partsOf.env G k (alembicref17_partsOf.f G k)) (ann := alembicref17_partsOf.ann) (n := k) (envSound_of hG envNil) orders Tryd.func79 (by kernel_rfl) (by kernel_rfl) rfl (by kernel_rfl) (arg1_of fun x0 h => alembicref17_partsOf.eq G k _ x0 h)
theorem alembicref17_reg.here : ∃ fn, Tryd.prog.funcs[99]? = some fn ∧ fn.body.isSome = true ∧ (fn.name == "runtime.NumGoroutine") = false := ⟨_, Tryd.func99, by kernel_rfl, by kernel_rfl⟩
theorem alembicref17_reg.eq (G : Globs) (k : Nat) (self : Den) (x0 x1 : AV) (h : AHeap) : absFn Tryd.prog G (envL (alembicref17_reg.env G k self)) alembicref17_reg.ann Tryd.f99.results.toList (codeOf Tryd.f99) Tryd.f99.ntmps k [x0, x1] h = alembicref17_reg.c G k self x0 x1 h := by kernel_rfl
theorem alembicref17_reg.sound {G : Globs} (hG : ∀ g x, G g = some x → plainB x = true) : ∀ k, Sound Tryd.prog G 99 (alembicref17_reg.f G k)
  | 0 => sound_zero alembicref17_reg.here (fun _ _ => rfl)
  | k + 1 => sound_succ (l := alembicref17_reg.env G k (alembicref17_reg.f G k)) (ann := alembicref17_reg.ann) (n := k) (envSound_of hG envNil) orders Tryd.func99 (by kernel_rfl) (by kernel_rfl) rfl (by kernel_rfl) (arg2_of fun x0 x1 h => alembicref17_reg.eq G k _ x0 x1 h)
theorem alembicref17_cond.here : ∃ fn, Tryd.prog.funcs[100]? = some fn ∧ fn.body.isSome = true ∧ (fn.name == "runtime.NumGoroutine") = false := ⟨_, Tryd.func100, by kernel_rfl, by kernel_rfl⟩
theorem alembicref17_cond.eq (G : Globs) (k : Nat) (self : Den) (x0 : AV) (h : AHeap) : absFn Tryd.prog G (envL (alembicref17_cond.env G k self)) alembicref17_cond.ann Tryd.f100.results.toList (codeOf Tryd.f100) Tryd.f100.ntmps k [x0] h = alembicref17_cond.c G k self x0 h := by kernel_rfl
theorem alembicref17_cond.sound {G : Globs} (hG : ∀ g x, G g = some x → plainB x = true) : ∀ k, Sound Tryd.prog G 100 (alembicref17_cond.f G k)
  | 0 => sound_zero alembicref17_cond.here (fun _ _ => rfl)
  | k + 1 => sound_succ (l := alembicref17_cond.env G k (alembicref17_cond.f G k)) (ann := alembicref17_cond.ann) (n := k) (envSound_of hG envNil) orders Tryd.func100 (by kernel_rfl) (by kernel_rfl) rfl (by kernel_rfl) (arg1_of fun x0 h => alembicref17_cond.eq G k _ x0 h)
theorem alembicref17_far.here : ∃ fn, Tryd.prog.funcs[101]? = some fn ∧ fn.body.isSome = true ∧ (fn.name == "runtime.NumGoroutine") = false := ⟨_, Tryd.func101, by kernel_rfl, by kernel_rfl⟩
theorem alembicref17_far.eq (G : Globs) (k : Nat) (self : Den) (x0 x1 : AV) (h : AHeap) : absFn Tryd.prog G (envL (alembicref17_far.env G k self)) alembicref17_far.ann Tryd.f101.results.toList (codeOf Tryd.f101) Tryd.f101.ntmps k [x0, x1] h = alembicref17_far.c G k self x0 x1 h := by kernel_rfl
theorem alembicref17_far.sound {G : Globs} (hG : ∀ g x, G g = some x → plainB x = true) : ∀ k, Sound Tryd.prog G 101 (alembicref17_far.f G k)
  | 0 => sound_zero alembicref17_far.here (fun _ _ => rfl)
  | k + 1 => sound_succ (l := alembicref17_far.env G k (alembicref17_far.f G k)) (ann := alembicref17_far.ann) (n := k) (envSound_of hG envNil) orders Tryd.func101 (by kernel_rfl) (by kernel_rfl) rfl (by kernel_rfl) (arg2_of fun x0 x1 h => alembicref17_far.eq G k _ x0 x1 h)
theorem alembicref17_right.here : ∃ fn, Tryd.prog.funcs[78]? = some fn ∧ fn.body.isSome = true ∧ (fn.name == "runtime.NumGoroutine") = false := ⟨_, Tryd.func78, by kernel_rfl, by kernel_rfl⟩
theorem alembicref17_right.eq (G : Globs) (k : Nat) (self : Den) (x0 : AV) (h : AHeap) : absFn Tryd.prog G (envL (alembicref17_right.env G k self)) alembicref17_right.ann Tryd.f78.results.toList (codeOf Tryd.f78) Tryd.f78.ntmps k [x0] h = alembicref17_right.c G k self x0 h := by kernel_rfl
theorem alembicref17_right.sound {G : Globs} (hG : ∀ g x, G g = some x → plainB x = true) : ∀ k, Sound Tryd.prog G 78 (alembicref17_right.f G k)
  | 0 => sound_zero alembicref17_right.here (fun _ _ => rfl)
  | k + 1 => sound_succ (l := alembicref17_right.env G k (alembicref17_right.f G k)) (ann := alembicref17_right.ann) (n := k) (envSound_of hG (envCons (alembicref17_partsOf.sound hG k) (envCons (alembicref17_reg.sound hG k) (envCons (alembicref17_cond.sound hG k) (envCons (alembicref17_far.sound hG k) envNil))))) orders Tryd.func78 (by kernel_rfl) (by kernel_rfl) rfl (by kernel_rfl) (arg1_of fun x0 h => alembicref17_right.eq G k _ x0 h)
theorem alembicref17_base.here : ∃ fn, Tryd.prog.funcs[80]? = some fn ∧ fn.body.isSome = true ∧ (fn.name == "runtime.NumGoroutine") = false := ⟨_, Tryd.func80, by kernel_rfl, by kernel_rfl⟩
theorem alembicref17_base.eq (G : Globs) (k : Nat) (self : Den) (x0 : AV) (h : AHeap) : absFn Tryd.prog G (envL (alembicref17_base.env G k self)) alembicref17_base.ann Tryd.f80.results.toList (codeOf Tryd.f80) Tryd.f80.ntmps k [x0] h = alembicref17_base.c G k self x0 h := by kernel_rfl
theorem alembicref17_base.sound {G : Globs} (hG : ∀ g x, G g = some x → plainB x = true) : ∀ k, Sound Tryd.prog G 80 (alembicref17_base.f G k)
  | 0 => sound_zero alembicref17_base.here (fun _ _ => rfl)
  | k + 1 => sound_succ (l := alembicref17_base.env G k (alembicref17_base.f G k)) (ann := alembicref17_base.ann) (n := k) (envSound_of hG envNil) orders Tryd.func80 (by kernel_rfl) (by kernel_rfl) rfl (by kernel_rfl) (arg1_of fun x0 h => alembicref17_base.eq G k _ x0 h)
theorem alembicref17_Word.here : ∃ fn, Tryd.prog.funcs[55]? = some fn ∧ fn.body.isSome = true ∧ (fn.name == "runtime.NumGoroutine") = false := ⟨_, Tryd.func55, by kernel_rfl, by kernel_rfl⟩
theorem alembicref17_Word.eq (G : Globs) (k : Nat) (self : Den) (x0 : AV) (h : AHeap) : absFn Tryd.prog G (envL (alembicref17_Word.env G k self)) alembicref17_Word.ann Tryd.f55.results.toList (codeOf Tryd.f55) Tryd.f55.ntmps k [x0] h = alembicref17_Word.c G k self x0 h := by kernel_rfl
theorem alembicref17_Word.sound {G : Globs} (hG : ∀ g x, G g = some x → plainB x = true) : ∀ k, Sound Tryd.prog G 55 (alembicref17_Word.f G k)
  | 0 => sound_zero alembicref17_Word.here (fun _ _ => rfl)
  | k + 1 => sound_succ (l := alembicref17_Word.env G k (alembicref17_Word.f G k)) (ann := alembicref17_Word.ann) (n := k) (envSound_of hG (envCons (alembicref17_right.sound hG k) (envCons (alembicref17_partsOf.sound hG k) (envCons (alembicref17_base.sound hG k) envNil)))) orders Tryd.func55 (by kernel_rfl) (by kernel_rfl) rfl (by kernel_rfl) (arg1_of fun x0 h => alembicref17_Word.eq G k _ x0 h)
theorem alembicref17_signed.here : ∃ fn, Tryd.prog.funcs[98]? = some fn ∧ fn.body.isSome = true ∧ (fn.name == "runtime.NumGoroutine") = false := ⟨_, Tryd.func98, by kernel_rfl, by kernel_rfl⟩
theorem alembicref17_signed.eq (G : Globs) (k : Nat) (self : Den) (x0 x1 : AV) (h : AHeap) : absFn Tryd.prog G (envL (alembicref17_signed.env G k self)) alembicref17_signed.ann Tryd.f98.results.toList (codeOf Tryd.f98) Tryd.f98.ntmps k [x0, x1] h = alembicref17_signed.c G k self x0 x1 h := by kernel_rfl
theorem alembicref17_signed.sound {G : Globs} (hG : ∀ g x, G g = some x → plainB x = true) : ∀ k, Sound Tryd.prog G 98 (alembicref17_signed.f G k)
  | 0 => sound_zero alembicref17_signed.here (fun _ _ => rfl)
  | k + 1 => sound_succ (l := alembicref17_signed.env G k (alembicref17_signed.f G k)) (ann := alembicref17_signed.ann) (n := k) (envSound_of hG envNil) orders Tryd.func98 (by kernel_rfl) (by kernel_rfl) rfl (by kernel_rfl) (arg2_of fun x0 x1 h => alembicref17_signed.eq G k _ x0 x1 h)
theorem alembicref17_as.here : ∃ fn, Tryd.prog.funcs[77]? = some fn ∧ fn.body.isSome = true ∧ (fn.name == "runtime.NumGoroutine") = false := ⟨_, Tryd.func77, by kernel_rfl, by kernel_rfl⟩
theorem alembicref17_as.eq (G : Globs) (k : Nat) (self : Den) (x0 x1 : AV) (h : AHeap) : absFn Tryd.prog G (envL (alembicref17_as.env G k self)) alembicref17_as.ann Tryd.f77.results.toList (codeOf Tryd.f77) Tryd.f77.ntmps k [x0, x1] h = alembicref17_as.c G k self x0 x1 h := by kernel_rfl
theorem alembicref17_as.sound {G : Globs} (hG : ∀ g x, G g = some x → plainB x = true) : ∀ k, Sound Tryd.prog G 77 (alembicref17_as.f G k)
  | 0 => sound_zero alembicref17_as.here (fun _ _ => rfl)
  | k + 1 => sound_succ (l := alembicref17_as.env G k (alembicref17_as.f G k)) (ann := alembicref17_as.ann) (n := k) (envSound_of hG (envCons (alembicref17_Word.sound hG k) (envCons (alembicref17_partsOf.sound hG k) (envCons (alembicref17_signed.sound hG k) envNil)))) orders Tryd.func77 (by kernel_rfl) (by kernel_rfl) rfl (by kernel_rfl) (arg2_of fun x0 x1 h => alembicref17_as.eq G k _ x0 x1 h)
theorem alembicref17_Of.here : ∃ fn, Tryd.prog.funcs[51]? = some fn ∧ fn.body.isSome = true ∧ (fn.name == "runtime.NumGoroutine") = false := ⟨_, Tryd.func51, by kernel_rfl, by kernel_rfl⟩
theorem alembicref17_Of.eq (G : Globs) (k : Nat) (self : Den) (x0 : AV) (h : AHeap) : absFn Tryd.prog G (envL (alembicref17_Of.env G k self)) alembicref17_Of.ann Tryd.f51.results.toList (codeOf Tryd.f51) Tryd.f51.ntmps k [x0] h = alembicref17_Of.c G k self x0 h := by kernel_rfl
theorem alembicref17_Of.sound {G : Globs} (hG : ∀ g x, G g = some x → plainB x = true) : ∀ k, Sound Tryd.prog G 51 (alembicref17_Of.f G k)
  | 0 => sound_zero alembicref17_Of.here (fun _ _ => rfl)
  | k + 1 => sound_succ (l := alembicref17_Of.env G k (alembicref17_Of.f G k)) (ann := alembicref17_Of.ann) (n := k) (envSound_of hG (envCons (alembicref17_as.sound hG k) envNil)) orders Tryd.func51 (by kernel_rfl) (by kernel_rfl) rfl (by kernel_rfl) (arg1_of fun x0 h => alembicref17_Of.eq G k _ x0 h)
theorem math_bits_Mul64.here : ∃ fn, Tryd.prog.funcs[56]? = some fn ∧ fn.body.isSome = true ∧ (fn.name == "runtime.NumGoroutine") = false := ⟨_, Tryd.func56, by kernel_rfl, by kernel_rfl⟩
theorem math_bits_Mul64.eq (G : Globs) (k : Nat) (self : Den) (x0 x1 : AV) (h : AHeap) : absFn Tryd.prog G (envL (math_bits_Mul64.env G k self)) math_bits_Mul64.ann Tryd.f56.results.toList (codeOf Tryd.f56) Tryd.f56.ntmps k [x0, x1] h = math_bits_Mul64.c G k self x0 x1 h := by kernel_rfl
theorem math_bits_Mul64.sound {G : Globs} (hG : ∀ g x, G g = some x → plainB x = true) : ∀ k, Sound Tryd.prog G 56 (math_bits_Mul64.f G k)
  | 0 => sound_zero math_bits_Mul64.here (fun _ _ => rfl)
  | k + 1 => sound_succ (l := math_bits_Mul64.env G k (math_bits_Mul64.f G k)) (ann := math_bits_Mul64.ann) (n := k) (envSound_of hG envNil) orders Tryd.func56 (by kernel_rfl) (by kernel_rfl) rfl (by kernel_rfl) (arg2_of fun x0 x1 h => math_bits_Mul64.eq G k _ x0 x1 h)
theorem alembicref17_Holds.here : ∃ fn, Tryd.prog.funcs[34]? = some fn ∧ fn.body.isSome = true ∧ (fn.name == "runtime.NumGoroutine") = false := ⟨_, Tryd.func34, by kernel_rfl, by kernel_rfl⟩
theorem alembicref17_Holds.eq (G : Globs) (k : Nat) (self : Den) (x0 x1 : AV) (h : AHeap) : absFn Tryd.prog G (envL (alembicref17_Holds.env G k self)) alembicref17_Holds.ann Tryd.f34.results.toList (codeOf Tryd.f34) Tryd.f34.ntmps k [x0, x1] h = alembicref17_Holds.c G k self x0 x1 h := by kernel_rfl
theorem alembicref17_Holds.sound {G : Globs} (hG : ∀ g x, G g = some x → plainB x = true) : ∀ k, Sound Tryd.prog G 34 (alembicref17_Holds.f G k)
  | 0 => sound_zero alembicref17_Holds.here (fun _ _ => rfl)
  | k + 1 => sound_succ (l := alembicref17_Holds.env G k (alembicref17_Holds.f G k)) (ann := alembicref17_Holds.ann) (n := k) (envSound_of hG envNil) orders Tryd.func34 (by kernel_rfl) (by kernel_rfl) rfl (by kernel_rfl) (arg2_of fun x0 x1 h => alembicref17_Holds.eq G k _ x0 x1 h)
theorem alembicref17_get.here : ∃ fn, Tryd.prog.funcs[52]? = some fn ∧ fn.body.isSome = true ∧ (fn.name == "runtime.NumGoroutine") = false := ⟨_, Tryd.func52, by kernel_rfl, by kernel_rfl⟩
theorem alembicref17_get.eq (G : Globs) (k : Nat) (self : Den) (x0 x1 : AV) (h : AHeap) : absFn Tryd.prog G (envL (alembicref17_get.env G k self)) alembicref17_get.ann Tryd.f52.results.toList (codeOf Tryd.f52) Tryd.f52.ntmps k [x0, x1] h = alembicref17_get.c G k self x0 x1 h := by kernel_rfl
theorem alembicref17_get.sound {G : Globs} (hG : ∀ g x, G g = some x → plainB x = true) : ∀ k, Sound Tryd.prog G 52 (alembicref17_get.f G k)
  | 0 => sound_zero alembicref17_get.here (fun _ _ => rfl)
  | k + 1 => sound_succ (l := alembicref17_get.env G k (alembicref17_get.f G k)) (ann := alembicref17_get.ann) (n := k) (envSound_of hG envNil) orders Tryd.func52 (by kernel_rfl) (by kernel_rfl) rfl (by kernel_rfl) (arg2_of fun x0 x1 h => alembicref17_get.eq G k _ x0 x1 h)
theorem alembicref17_set.here : ∃ fn, Tryd.prog.funcs[53]? = some fn ∧ fn.body.isSome = true ∧ (fn.name == "runtime.NumGoroutine") = false := ⟨_, Tryd.func53, by kernel_rfl, by kernel_rfl⟩
theorem alembicref17_set.eq (G : Globs) (k : Nat) (self : Den) (x0 x1 x2 : AV) (h : AHeap) : absFn Tryd.prog G (envL (alembicref17_set.env G k self)) alembicref17_set.ann Tryd.f53.results.toList (codeOf Tryd.f53) Tryd.f53.ntmps k [x0, x1, x2] h = alembicref17_set.c G k self x0 x1 x2 h := by kernel_rfl
theorem alembicref17_set.sound {G : Globs} (hG : ∀ g x, G g = some x → plainB x = true) : ∀ k, Sound Tryd.prog G 53 (alembicref17_set.f G k)
  | 0 => sound_zero alembicref17_set.here (fun _ _ => rfl)
  | k + 1 => sound_succ (l := alembicref17_set.env G k (alembicref17_set.f G k)) (ann := alembicref17_set.ann) (n := k) (envSound_of hG envNil) orders Tryd.func53 (by kernel_rfl) (by kernel_rfl) rfl (by kernel_rfl) (arg3_of fun x0 x1 x2 h => alembicref17_set.eq G k _ x0 x1 x2 h)
theorem alembicref17_One.here : ∃ fn, Tryd.prog.funcs[25]? = some fn ∧ fn.body.isSome = true ∧ (fn.name == "runtime.NumGoroutine") = false := ⟨_, Tryd.func25, by kernel_rfl, by kernel_rfl⟩
theorem alembicref17_One.eq (G : Globs) (k : Nat) (self : Den) (x0 x1 x2 : AV) (h : AHeap) : absFn Tryd.prog G (envL (alembicref17_One.env G k self)) alembicref17_One.ann Tryd.f25.results.toList (codeOf Tryd.f25) Tryd.f25.ntmps k [x0, x1, x2] h = alembicref17_One.c G k self x0 x1 x2 h := by kernel_rfl
theorem alembicref17_One.sound {G : Globs} (hG : ∀ g x, G g = some x → plainB x = true) : ∀ k, Sound Tryd.prog G 25 (alembicref17_One.f G k)
  | 0 => sound_zero alembicref17_One.here (fun _ _ => rfl)
  | k + 1 => sound_succ (l := alembicref17_One.env G k (alembicref17_One.f G k)) (ann := alembicref17_One.ann) (n := k) (envSound_of hG (envCons (alembicref17_Holds.sound hG k) (envCons (alembicref17_get.sound hG k) (envCons (alembicref17_set.sound hG k) (envCons (alembicref17_Word.sound hG k) (envCons (math_bits_Mul64.sound hG k) envNil)))))) orders Tryd.func25 (by kernel_rfl) (by kernel_rfl) rfl (by kernel_rfl) (arg3_of fun x0 x1 x2 h => alembicref17_One.eq G k _ x0 x1 x2 h)
end Go.Proofs.YtdfglgnflldkpaaDoor.Mir
namespace Go.Proofs.YtdfglgnflldkpaaDoor.Mir
open Go
set_option linter.unusedVariables false
theorem alembicref_Words.here : ∃ fn, Tryd.prog.funcs[46]? = some fn ∧ fn.body.isSome = true ∧ (fn.name == "runtime.NumGoroutine") = false := ⟨_, Tryd.func46, by kernel_rfl, by kernel_rfl⟩
theorem alembicref_Words.eq (G : Globs) (k : Nat) (self : Den) (x0 : AV) (h : AHeap) : absFnO Tryd.prog G (envL (alembicref_Words.env G k self)) alembicref_Words.ann Tryd.f46.results.toList (codeOf Tryd.f46) Tryd.f46.ntmps k [x0] h = alembicref_Words.c G k self x0 h := by kernel_rfl
theorem alembicref_Words.sound {G : Globs} (hG : ∀ g x, G g = some x → plainB x = true) : ∀ k, Sound Tryd.prog G 46 (alembicref_Words.f G k)
  | 0 => sound_zero alembicref_Words.here (fun _ _ => rfl)
  | k + 1 => sound_succO (l := alembicref_Words.env G k (alembicref_Words.f G k)) (ann := alembicref_Words.ann) (n := k) (envSound_of hG envNil) orders Tryd.func46 (by kernel_rfl) (by kernel_rfl) rfl (by kernel_rfl) (arg1_of fun x0 h => alembicref_Words.eq G k _ x0 h)
theorem alembicref17_one.here : ∃ fn, Tryd.prog.funcs[47]? = some fn ∧ fn.body.isSome = true ∧ (fn.name == "runtime.NumGoroutine") = false := ⟨_, Tryd.func47, by kernel_rfl, by kernel_rfl⟩
theorem alembicref17_one.eq (G : Globs) (k : Nat) (self : Den) (x0 : AV) (h : AHeap) : absFn Tryd.prog G (envL (alembicref17_one.env G k self)) alembicref17_one.ann Tryd.f47.results.toList (codeOf Tryd.f47) Tryd.f47.ntmps k [x0] h = alembicref17_one.c G k self x0 h := by kernel_rfl
theorem alembicref17_one.sound {G : Globs} (hG : ∀ g x, G g = some x → plainB x = true) : ∀ k, Sound Tryd.prog G 47 (alembicref17_one.f G k)
  | 0 => sound_zero alembicref17_one.here (fun _ _ => rfl)
  | k + 1 => sound_succ (l := alembicref17_one.env G k (alembicref17_one.f G k)) (ann := alembicref17_one.ann) (n := k) (envSound_of hG envNil) orders Tryd.func47 (by kernel_rfl) (by kernel_rfl) rfl (by kernel_rfl) (arg1_of fun x0 h => alembicref17_one.eq G k _ x0 h)
theorem alembicref17_RunMach.here : ∃ fn, Tryd.prog.funcs[22]? = some fn ∧ fn.body.isSome = true ∧ (fn.name == "runtime.NumGoroutine") = false := ⟨_, Tryd.func22, by kernel_rfl, by kernel_rfl⟩
theorem alembicref17_RunMach.eq (G : Globs) (k : Nat) (self : Den) (x0 x1 x2 : AV) (h : AHeap) : absFn Tryd.prog G (envL (alembicref17_RunMach.env G k self)) alembicref17_RunMach.ann Tryd.f22.results.toList (codeOf Tryd.f22) Tryd.f22.ntmps k [x0, x1, x2] h = alembicref17_RunMach.c G k self x0 x1 x2 h := by kernel_rfl
theorem alembicref17_RunMach.sound {G : Globs} (hG : ∀ g x, G g = some x → plainB x = true) : ∀ k, Sound Tryd.prog G 22 (alembicref17_RunMach.f G k)
  | 0 => sound_zero alembicref17_RunMach.here (fun _ _ => rfl)
  | k + 1 => sound_succ (l := alembicref17_RunMach.env G k (alembicref17_RunMach.f G k)) (ann := alembicref17_RunMach.ann) (n := k) (envSound_of hG (envCons (alembicref17_One.sound hG k) (envCons (alembicref17_Holds.sound hG k) (envCons (alembicref_Words.sound hG k) (envCons (alembicref17_one.sound hG k) (envCons (alembicref17_Of.sound hG k) (envCons (alembicref17_get.sound hG k) (envCons (alembicref17_set.sound hG k) envNil)))))))) orders Tryd.func22 (by kernel_rfl) (by kernel_rfl) rfl (by kernel_rfl) (arg3_of fun x0 x1 x2 h => alembicref17_RunMach.eq G k _ x0 x1 x2 h)
end Go.Proofs.YtdfglgnflldkpaaDoor.Mir
namespace Go.Proofs.YtdfglgnflldkpaaDoor.Mir
open Go
set_option linter.unusedVariables false
theorem words_name.here : ∃ fn, Tryd.prog.funcs[106]? = some fn ∧ fn.body.isSome = true ∧ (fn.name == "runtime.NumGoroutine") = false := ⟨_, Tryd.func106, by kernel_rfl, by kernel_rfl⟩
theorem words_name.eq (G : Globs) (k : Nat) (self : Den) (x0 : AV) (h : AHeap) : absFn Tryd.prog G (envL (words_name.env G k self)) words_name.ann Tryd.f106.results.toList (codeOf Tryd.f106) Tryd.f106.ntmps k [x0] h = words_name.c G k self x0 h := by kernel_rfl
theorem words_name.sound {G : Globs} (hG : ∀ g x, G g = some x → plainB x = true) : ∀ k, Sound Tryd.prog G 106 (words_name.f G k)
  | 0 => sound_zero words_name.here (fun _ _ => rfl)
  | k + 1 => sound_succ (l := words_name.env G k (words_name.f G k)) (ann := words_name.ann) (n := k) (envSound_of hG envNil) orders Tryd.func106 (by kernel_rfl) (by kernel_rfl) rfl (by kernel_rfl) (arg1_of fun x0 h => words_name.eq G k _ x0 h)
theorem words_Of.here : ∃ fn, Tryd.prog.funcs[90]? = some fn ∧ fn.body.isSome = true ∧ (fn.name == "runtime.NumGoroutine") = false := ⟨_, Tryd.func90, by kernel_rfl, by kernel_rfl⟩
theorem words_Of.eq (G : Globs) (k : Nat) (self : Den) (x0 : AV) (h : AHeap) : absFn Tryd.prog G (envL (words_Of.env G k self)) words_Of.ann Tryd.f90.results.toList (codeOf Tryd.f90) Tryd.f90.ntmps k [x0] h = words_Of.c G k self x0 h := by kernel_rfl
theorem words_Of.sound {G : Globs} (hG : ∀ g x, G g = some x → plainB x = true) : ∀ k, Sound Tryd.prog G 90 (words_Of.f G k)
  | 0 => sound_zero words_Of.here (fun _ _ => rfl)
  | k + 1 => sound_succ (l := words_Of.env G k (words_Of.f G k)) (ann := words_Of.ann) (n := k) (envSound_of hG (envCons (words_name.sound hG k) envNil)) orders Tryd.func90 (by kernel_rfl) (by kernel_rfl) rfl (by kernel_rfl) (arg1_of fun x0 h => words_Of.eq G k _ x0 h)
theorem words_has.here : ∃ fn, Tryd.prog.funcs[91]? = some fn ∧ fn.body.isSome = true ∧ (fn.name == "runtime.NumGoroutine") = false := ⟨_, Tryd.func91, by kernel_rfl, by kernel_rfl⟩
theorem words_has.eq (G : Globs) (k : Nat) (self : Den) (x0 x1 : AV) (h : AHeap) : absFn Tryd.prog G (envL (words_has.env G k self)) words_has.ann Tryd.f91.results.toList (codeOf Tryd.f91) Tryd.f91.ntmps k [x0, x1] h = words_has.c G k self x0 x1 h := by kernel_rfl
theorem words_has.sound {G : Globs} (hG : ∀ g x, G g = some x → plainB x = true) : ∀ k, Sound Tryd.prog G 91 (words_has.f G k)
  | 0 => sound_zero words_has.here (fun _ _ => rfl)
  | k + 1 => sound_succ (l := words_has.env G k (words_has.f G k)) (ann := words_has.ann) (n := k) (envSound_of hG envNil) orders Tryd.func91 (by kernel_rfl) (by kernel_rfl) rfl (by kernel_rfl) (arg2_of fun x0 x1 h => words_has.eq G k _ x0 x1 h)
theorem words_one.here : ∃ fn, Tryd.prog.funcs[64]? = some fn ∧ fn.body.isSome = true ∧ (fn.name == "runtime.NumGoroutine") = false := ⟨_, Tryd.func64, by kernel_rfl, by kernel_rfl⟩
theorem words_one.eq (G : Globs) (k : Nat) (self : Den) (x0 x1 : AV) (h : AHeap) : absFn Tryd.prog G (envL (words_one.env G k self)) words_one.ann Tryd.f64.results.toList (codeOf Tryd.f64) Tryd.f64.ntmps k [x0, x1] h = words_one.c G k self x0 x1 h := by kernel_rfl
theorem words_one.sound {G : Globs} (hG : ∀ g x, G g = some x → plainB x = true) : ∀ k, Sound Tryd.prog G 64 (words_one.f G k)
  | 0 => sound_zero words_one.here (fun _ _ => rfl)
  | k + 1 => sound_succ (l := words_one.env G k (words_one.f G k)) (ann := words_one.ann) (n := k) (envSound_of hG (envCons (words_Of.sound hG k) (envCons (words_has.sound hG k) envNil))) orders Tryd.func64 (by kernel_rfl) (by kernel_rfl) rfl (by kernel_rfl) (arg2_of fun x0 x1 h => words_one.eq G k _ x0 x1 h)
theorem words_Valid.here : ∃ fn, Tryd.prog.funcs[38]? = some fn ∧ fn.body.isSome = true ∧ (fn.name == "runtime.NumGoroutine") = false := ⟨_, Tryd.func38, by kernel_rfl, by kernel_rfl⟩
theorem words_Valid.eq (G : Globs) (k : Nat) (self : Den) (x0 : AV) (h : AHeap) : absFn Tryd.prog G (envL (words_Valid.env G k self)) words_Valid.ann Tryd.f38.results.toList (codeOf Tryd.f38) Tryd.f38.ntmps k [x0] h = words_Valid.c G k self x0 h := by kernel_rfl
theorem words_Valid.sound {G : Globs} (hG : ∀ g x, G g = some x → plainB x = true) : ∀ k, Sound Tryd.prog G 38 (words_Valid.f G k)
  | 0 => sound_zero words_Valid.here (fun _ _ => rfl)
  | k + 1 => sound_succ (l := words_Valid.env G k (words_Valid.f G k)) (ann := words_Valid.ann) (n := k) (envSound_of hG (envCons (words_one.sound hG k) envNil)) orders Tryd.func38 (by kernel_rfl) (by kernel_rfl) rfl (by kernel_rfl) (arg1_of fun x0 h => words_Valid.eq G k _ x0 h)
theorem sel_constant.here : ∃ fn, Tryd.prog.funcs[54]? = some fn ∧ fn.body.isSome = true ∧ (fn.name == "runtime.NumGoroutine") = false := ⟨_, Tryd.func54, by kernel_rfl, by kernel_rfl⟩
theorem sel_constant.eq (G : Globs) (k : Nat) (self : Den) (x0 x1 : AV) (h : AHeap) : absFnO Tryd.prog G (envL (sel_constant.env G k self)) sel_constant.ann Tryd.f54.results.toList (codeOf Tryd.f54) Tryd.f54.ntmps k [x0, x1] h = sel_constant.c G k self x0 x1 h := by kernel_rfl
theorem sel_constant.sound {G : Globs} (hG : ∀ g x, G g = some x → plainB x = true) : ∀ k, Sound Tryd.prog G 54 (sel_constant.f G k)
  | 0 => sound_zero sel_constant.here (fun _ _ => rfl)
  | k + 1 => sound_succO (l := sel_constant.env G k (sel_constant.f G k)) (ann := sel_constant.ann) (n := k) (envSound_of hG envNil) orders Tryd.func54 (by kernel_rfl) (by kernel_rfl) rfl (by kernel_rfl) (arg2_of fun x0 x1 h => sel_constant.eq G k _ x0 x1 h)
theorem sel_maker_put.here : ∃ fn, Tryd.prog.funcs[65]? = some fn ∧ fn.body.isSome = true ∧ (fn.name == "runtime.NumGoroutine") = false := ⟨_, Tryd.func65, by kernel_rfl, by kernel_rfl⟩
theorem sel_maker_put.eq (G : Globs) (k : Nat) (self : Den) (x0 x1 : AV) (h : AHeap) : absFn Tryd.prog G (envL (sel_maker_put.env G k self)) sel_maker_put.ann Tryd.f65.results.toList (codeOf Tryd.f65) Tryd.f65.ntmps k [x0, x1] h = sel_maker_put.c G k self x0 x1 h := by kernel_rfl
theorem sel_maker_put.sound {G : Globs} (hG : ∀ g x, G g = some x → plainB x = true) : ∀ k, Sound Tryd.prog G 65 (sel_maker_put.f G k)
  | 0 => sound_zero sel_maker_put.here (fun _ _ => rfl)
  | k + 1 => sound_succ (l := sel_maker_put.env G k (sel_maker_put.f G k)) (ann := sel_maker_put.ann) (n := k) (envSound_of hG envNil) orders Tryd.func65 (by kernel_rfl) (by kernel_rfl) rfl (by kernel_rfl) (arg2_of fun x0 x1 h => sel_maker_put.eq G k _ x0 x1 h)
theorem sel_maker_three.here : ∃ fn, Tryd.prog.funcs[66]? = some fn ∧ fn.body.isSome = true ∧ (fn.name == "runtime.NumGoroutine") = false := ⟨_, Tryd.func66, by kernel_rfl, by kernel_rfl⟩
theorem sel_maker_three.eq (G : Globs) (k : Nat) (self : Den) (x0 x1 x2 : AV) (h : AHeap) : absFn Tryd.prog G (envL (sel_maker_three.env G k self)) sel_maker_three.ann Tryd.f66.results.toList (codeOf Tryd.f66) Tryd.f66.ntmps k [x0, x1, x2] h = sel_maker_three.c G k self x0 x1 x2 h := by kernel_rfl
theorem sel_maker_three.sound {G : Globs} (hG : ∀ g x, G g = some x → plainB x = true) : ∀ k, Sound Tryd.prog G 66 (sel_maker_three.f G k)
  | 0 => sound_zero sel_maker_three.here (fun _ _ => rfl)
  | k + 1 => sound_succ (l := sel_maker_three.env G k (sel_maker_three.f G k)) (ann := sel_maker_three.ann) (n := k) (envSound_of hG (envCons (sel_maker_put.sound hG k) envNil)) orders Tryd.func66 (by kernel_rfl) (by kernel_rfl) rfl (by kernel_rfl) (arg3_of fun x0 x1 x2 h => sel_maker_three.eq G k _ x0 x1 x2 h)
theorem sel_maker_shift.here : ∃ fn, Tryd.prog.funcs[67]? = some fn ∧ fn.body.isSome = true ∧ (fn.name == "runtime.NumGoroutine") = false := ⟨_, Tryd.func67, by kernel_rfl, by kernel_rfl⟩
theorem sel_maker_shift.eq (G : Globs) (k : Nat) (self : Den) (x0 x1 x2 : AV) (h : AHeap) : absFn Tryd.prog G (envL (sel_maker_shift.env G k self)) sel_maker_shift.ann Tryd.f67.results.toList (codeOf Tryd.f67) Tryd.f67.ntmps k [x0, x1, x2] h = sel_maker_shift.c G k self x0 x1 x2 h := by kernel_rfl
theorem sel_maker_shift.sound {G : Globs} (hG : ∀ g x, G g = some x → plainB x = true) : ∀ k, Sound Tryd.prog G 67 (sel_maker_shift.f G k)
  | 0 => sound_zero sel_maker_shift.here (fun _ _ => rfl)
  | k + 1 => sound_succ (l := sel_maker_shift.env G k (sel_maker_shift.f G k)) (ann := sel_maker_shift.ann) (n := k) (envSound_of hG (envCons (sel_maker_put.sound hG k) envNil)) orders Tryd.func67 (by kernel_rfl) (by kernel_rfl) rfl (by kernel_rfl) (arg3_of fun x0 x1 x2 h => sel_maker_shift.eq G k _ x0 x1 x2 h)
theorem sel_maker_jump.here : ∃ fn, Tryd.prog.funcs[69]? = some fn ∧ fn.body.isSome = true ∧ (fn.name == "runtime.NumGoroutine") = false := ⟨_, Tryd.func69, by kernel_rfl, by kernel_rfl⟩
theorem sel_maker_jump.eq (G : Globs) (k : Nat) (self : Den) (x0 x1 x2 : AV) (h : AHeap) : absFn Tryd.prog G (envL (sel_maker_jump.env G k self)) sel_maker_jump.ann Tryd.f69.results.toList (codeOf Tryd.f69) Tryd.f69.ntmps k [x0, x1, x2] h = sel_maker_jump.c G k self x0 x1 x2 h := by kernel_rfl
theorem sel_maker_jump.sound {G : Globs} (hG : ∀ g x, G g = some x → plainB x = true) : ∀ k, Sound Tryd.prog G 69 (sel_maker_jump.f G k)
  | 0 => sound_zero sel_maker_jump.here (fun _ _ => rfl)
  | k + 1 => sound_succ (l := sel_maker_jump.env G k (sel_maker_jump.f G k)) (ann := sel_maker_jump.ann) (n := k) (envSound_of hG (envCons (sel_maker_put.sound hG k) envNil)) orders Tryd.func69 (by kernel_rfl) (by kernel_rfl) rfl (by kernel_rfl) (arg3_of fun x0 x1 x2 h => sel_maker_jump.eq G k _ x0 x1 x2 h)
theorem sel_maker_touch.here : ∃ fn, Tryd.prog.funcs[68]? = some fn ∧ fn.body.isSome = true ∧ (fn.name == "runtime.NumGoroutine") = false := ⟨_, Tryd.func68, by kernel_rfl, by kernel_rfl⟩
theorem sel_maker_touch.eq (G : Globs) (k : Nat) (self : Den) (x0 x1 x2 x3 x4 : AV) (h : AHeap) : absFn Tryd.prog G (envL (sel_maker_touch.env G k self)) sel_maker_touch.ann Tryd.f68.results.toList (codeOf Tryd.f68) Tryd.f68.ntmps k [x0, x1, x2, x3, x4] h = sel_maker_touch.c G k self x0 x1 x2 x3 x4 h := by kernel_rfl
theorem sel_maker_touch.sound {G : Globs} (hG : ∀ g x, G g = some x → plainB x = true) : ∀ k, Sound Tryd.prog G 68 (sel_maker_touch.f G k)
  | 0 => sound_zero sel_maker_touch.here (fun _ _ => rfl)
  | k + 1 => sound_succ (l := sel_maker_touch.env G k (sel_maker_touch.f G k)) (ann := sel_maker_touch.ann) (n := k) (envSound_of hG (envCons (sel_constant.sound hG k) (envCons (sel_maker_put.sound hG k) (envCons (sel_maker_jump.sound hG k) envNil)))) orders Tryd.func68 (by kernel_rfl) (by kernel_rfl) rfl (by kernel_rfl) (arg5_of fun x0 x1 x2 x3 x4 h => sel_maker_touch.eq G k _ x0 x1 x2 x3 x4 h)
theorem sel_maker_one.here : ∃ fn, Tryd.prog.funcs[39]? = some fn ∧ fn.body.isSome = true ∧ (fn.name == "runtime.NumGoroutine") = false := ⟨_, Tryd.func39, by kernel_rfl, by kernel_rfl⟩
theorem sel_maker_one.eq (G : Globs) (k : Nat) (self : Den) (x0 x1 x2 : AV) (h : AHeap) : absFn Tryd.prog G (envL (sel_maker_one.env G k self)) sel_maker_one.ann Tryd.f39.results.toList (codeOf Tryd.f39) Tryd.f39.ntmps k [x0, x1, x2] h = sel_maker_one.c G k self x0 x1 x2 h := by kernel_rfl
theorem sel_maker_one.sound {G : Globs} (hG : ∀ g x, G g = some x → plainB x = true) : ∀ k, Sound Tryd.prog G 39 (sel_maker_one.f G k)
  | 0 => sound_zero sel_maker_one.here (fun _ _ => rfl)
  | k + 1 => sound_succ (l := sel_maker_one.env G k (sel_maker_one.f G k)) (ann := sel_maker_one.ann) (n := k) (envSound_of hG (envCons (sel_constant.sound hG k) (envCons (sel_maker_put.sound hG k) (envCons (sel_maker_three.sound hG k) (envCons (sel_maker_shift.sound hG k) (envCons (sel_maker_touch.sound hG k) (envCons (sel_maker_jump.sound hG k) envNil))))))) orders Tryd.func39 (by kernel_rfl) (by kernel_rfl) rfl (by kernel_rfl) (arg3_of fun x0 x1 x2 h => sel_maker_one.eq G k _ x0 x1 x2 h)
theorem sel_Select.here : ∃ fn, Tryd.prog.funcs[17]? = some fn ∧ fn.body.isSome = true ∧ (fn.name == "runtime.NumGoroutine") = false := ⟨_, Tryd.func17, by kernel_rfl, by kernel_rfl⟩
theorem sel_Select.eq (G : Globs) (k : Nat) (self : Den) (x0 : AV) (h : AHeap) : absFn Tryd.prog G (envL (sel_Select.env G k self)) sel_Select.ann Tryd.f17.results.toList (codeOf Tryd.f17) Tryd.f17.ntmps k [x0] h = sel_Select.c G k self x0 h := by kernel_rfl
theorem sel_Select.sound {G : Globs} (hG : ∀ g x, G g = some x → plainB x = true) : ∀ k, Sound Tryd.prog G 17 (sel_Select.f G k)
  | 0 => sound_zero sel_Select.here (fun _ _ => rfl)
  | k + 1 => sound_succ (l := sel_Select.env G k (sel_Select.f G k)) (ann := sel_Select.ann) (n := k) (envSound_of hG (envCons (words_Valid.sound hG k) (envCons (sel_maker_one.sound hG k) (envCons (isa_Word.sound hG k) envNil)))) orders Tryd.func17 (by kernel_rfl) (by kernel_rfl) rfl (by kernel_rfl) (arg1_of fun x0 h => sel_Select.eq G k _ x0 h)
theorem sel_Const.here : ∃ fn, Tryd.prog.funcs[23]? = some fn ∧ fn.body.isSome = true ∧ (fn.name == "runtime.NumGoroutine") = false := ⟨_, Tryd.func23, by kernel_rfl, by kernel_rfl⟩
theorem sel_Const.eq (G : Globs) (k : Nat) (self : Den) (x0 x1 : AV) (h : AHeap) : absFn Tryd.prog G (envL (sel_Const.env G k self)) sel_Const.ann Tryd.f23.results.toList (codeOf Tryd.f23) Tryd.f23.ntmps k [x0, x1] h = sel_Const.c G k self x0 x1 h := by kernel_rfl
theorem sel_Const.sound {G : Globs} (hG : ∀ g x, G g = some x → plainB x = true) : ∀ k, Sound Tryd.prog G 23 (sel_Const.f G k)
  | 0 => sound_zero sel_Const.here (fun _ _ => rfl)
  | k + 1 => sound_succ (l := sel_Const.env G k (sel_Const.f G k)) (ann := sel_Const.ann) (n := k) (envSound_of hG (envCons (sel_constant.sound hG k) envNil)) orders Tryd.func23 (by kernel_rfl) (by kernel_rfl) rfl (by kernel_rfl) (arg2_of fun x0 x1 h => sel_Const.eq G k _ x0 x1 h)
theorem alembiclaw24_first.here : ∃ fn, Tryd.prog.funcs[15]? = some fn ∧ fn.body.isSome = true ∧ (fn.name == "runtime.NumGoroutine") = false := ⟨_, Tryd.func15, by kernel_rfl, by kernel_rfl⟩
theorem alembiclaw24_first.eq (G : Globs) (k : Nat) (self : Den) (h : AHeap) : absFn Tryd.prog G (envL (alembiclaw24_first.env G k self)) alembiclaw24_first.ann Tryd.f15.results.toList (codeOf Tryd.f15) Tryd.f15.ntmps k [] h = alembiclaw24_first.c G k self h := by kernel_rfl
theorem alembiclaw24_first.sound {G : Globs} (hG : ∀ g x, G g = some x → plainB x = true) : ∀ k, Sound Tryd.prog G 15 (alembiclaw24_first.f G k)
  | 0 => sound_zero alembiclaw24_first.here (fun _ _ => rfl)
  | k + 1 => sound_succ (l := alembiclaw24_first.env G k (alembiclaw24_first.f G k)) (ann := alembiclaw24_first.ann) (n := k) (envSound_of hG (envCons (sel_Select.sound hG k) (envCons (sel_Const.sound hG k) envNil))) orders Tryd.func15 (by kernel_rfl) (by kernel_rfl) rfl (by kernel_rfl) (arg0_of fun h => alembiclaw24_first.eq G k _ h)
theorem alembiclaw24_SelectFar.here : ∃ fn, Tryd.prog.funcs[7]? = some fn ∧ fn.body.isSome = true ∧ (fn.name == "runtime.NumGoroutine") = false := ⟨_, Tryd.func7, by kernel_rfl, by kernel_rfl⟩
theorem alembiclaw24_SelectFar.eq (G : Globs) (k : Nat) (self : Den) (x0 x1 x2 : AV) (h : AHeap) : absFn Tryd.prog G (envL (alembiclaw24_SelectFar.env G k self)) alembiclaw24_SelectFar.ann Tryd.f7.results.toList (codeOf Tryd.f7) Tryd.f7.ntmps k [x0, x1, x2] h = alembiclaw24_SelectFar.c G k self x0 x1 x2 h := by kernel_rfl
theorem alembiclaw24_SelectFar.sound {G : Globs} (hG : ∀ g x, G g = some x → plainB x = true) : ∀ k, Sound Tryd.prog G 7 (alembiclaw24_SelectFar.f G k)
  | 0 => sound_zero alembiclaw24_SelectFar.here (fun _ _ => rfl)
  | k + 1 => sound_succ (l := alembiclaw24_SelectFar.env G k (alembiclaw24_SelectFar.f G k)) (ann := alembiclaw24_SelectFar.ann) (n := k) (envSound_of hG (envCons (alembiclaw24_first.sound hG k) (envCons (sel_Select.sound hG k) (envCons (alembicref17_RunMach.sound hG k) envNil)))) orders Tryd.func7 (by kernel_rfl) (by kernel_rfl) rfl (by kernel_rfl) (arg3_of fun x0 x1 x2 h => alembiclaw24_SelectFar.eq G k _ x0 x1 x2 h)
end Go.Proofs.YtdfglgnflldkpaaDoor.Mir
