/- Printed by Print.lean: the functions that the statements reach. -/
import Derived.Test.YtofhkjacpjfclaaMirW
import Derived.Test.YtofhkjacpjfclaaProg
namespace Go.Proofs.Ytofhkjacpjfclaa.Mir
open Go
set_option linter.unusedVariables false
/-! alembic/isa.two: function 16 -/
noncomputable def isa_two.ann : Ann := mkAnn [] [] [] []
noncomputable def isa_two.env (G : Globs) (k : Nat) (self : Den) : List (Nat × Bool × Den) := []
noncomputable def isa_two.c (G : Globs) (k : Nat) (self : Den) (x0 x1 x2 : AV) (h : AHeap) : Option (AV × AHeap) := outV (
  bnd (boxA 39 (.agg [(.str ⟨#[]⟩), (.int .u32 0), (.bool false), (.bool false), (.bool false), (.bool false), (.int .i64 0)]) h) fun v0 h0 =>
  bnd (pu h0 (buildSt [(0, 1), (1, 1), (2, 1), (3, 1), (4, 1), (5, 1), (6, 1)] [(.str ⟨#[]⟩), (.int .u32 0), (.bool false), (.bool false), (.bool false), (.bool false), (.int .i64 0)] [(0, x0), (1, x1), (2, (.bool true)), (3, (.bool true)), (6, x2)])) fun v1 h1 =>
  bnd (stS (storeV 7 v0 v1 h1)) fun v2 h2 =>
  finL [loadV G true 7 v0 h2] h.length h2)
noncomputable def isa_two.f (G : Globs) : Nat → Den
  | 0 => fun _ _ => none
  | k + 1 => fun args h => arg3 args fun x0 x1 x2 => (isa_two.c G k (isa_two.f G k) x0 x1 x2 h)
theorem isa_two.step (G : Globs) (k : Nat) (x0 x1 x2 : AV) (h : AHeap) : isa_two.f G (k + 1) [x0, x1, x2] h = isa_two.c G k (isa_two.f G k) x0 x1 x2 h := rfl
/-! alembic/isa.three: function 24 -/
noncomputable def isa_three.ann : Ann := mkAnn [] [] [] []
noncomputable def isa_three.env (G : Globs) (k : Nat) (self : Den) : List (Nat × Bool × Den) := []
noncomputable def isa_three.c (G : Globs) (k : Nat) (self : Den) (x0 x1 : AV) (h : AHeap) : Option (AV × AHeap) := outV (
  bnd (boxA 39 (.agg [(.str ⟨#[]⟩), (.int .u32 0), (.bool false), (.bool false), (.bool false), (.bool false), (.int .i64 0)]) h) fun v0 h0 =>
  bnd (pu h0 (buildSt [(0, 1), (1, 1), (2, 1), (3, 1), (4, 1), (5, 1), (6, 1)] [(.str ⟨#[]⟩), (.int .u32 0), (.bool false), (.bool false), (.bool false), (.bool false), (.int .i64 0)] [(0, x0), (1, x1), (2, (.bool true)), (3, (.bool true)), (4, (.bool true))])) fun v1 h1 =>
  bnd (stS (storeV 7 v0 v1 h1)) fun v2 h2 =>
  finL [loadV G true 7 v0 h2] h.length h2)
noncomputable def isa_three.f (G : Globs) : Nat → Den
  | 0 => fun _ _ => none
  | k + 1 => fun args h => arg2 args fun x0 x1 => (isa_three.c G k (isa_three.f G k) x0 x1 h)
theorem isa_three.step (G : Globs) (k : Nat) (x0 x1 : AV) (h : AHeap) : isa_three.f G (k + 1) [x0, x1] h = isa_three.c G k (isa_three.f G k) x0 x1 h := rfl
/-! alembic/isa.plain: function 17 -/
noncomputable def isa_plain.ann : Ann := mkAnn [] [] [] []
noncomputable def isa_plain.env (G : Globs) (k : Nat) (self : Den) : List (Nat × Bool × Den) := [(16, true, isa_two.f G k), (24, true, isa_three.f G k)]
noncomputable def isa_plain.c (G : Globs) (k : Nat) (self : Den) (x0 : AV) (h : AHeap) : Option (AV × AHeap) := outV (
  bnd (boxA 39 (.agg [(.str ⟨#[]⟩), (.int .u32 0), (.bool false), (.bool false), (.bool false), (.bool false), (.int .i64 0)]) h) fun v0 h0 =>
  bnd (pu h0 (bin Try.prog .eql 3 true x0 (.int .i64 1))) fun v1 h1 =>
  condA v1
  (bnd (pu h1 (buildSt [(0, 1), (1, 1), (2, 1), (3, 1), (4, 1), (5, 1), (6, 1)] [(.str ⟨#[]⟩), (.int .u32 0), (.bool false), (.bool false), (.bool false), (.bool false), (.int .i64 0)] [(0, (.str ⟨#[109, 111, 118, 122]⟩)), (1, (.int .u32 3531603968)), (2, (.bool true)), (5, (.bool true)), (6, (.int .i64 16))])) fun v2 h2 =>
  bnd (stS (storeV 7 v0 v2 h2)) fun v3 h3 =>
  finL [loadV G true 7 v0 h3, some (.bool true)] h.length h3)
  (bnd (pu h1 (bin Try.prog .eql 3 true x0 (.int .i64 2))) fun v4 h4 =>
  condA v4
  (bnd (pu h4 (buildSt [(0, 1), (1, 1), (2, 1), (3, 1), (4, 1), (5, 1), (6, 1)] [(.str ⟨#[]⟩), (.int .u32 0), (.bool false), (.bool false), (.bool false), (.bool false), (.int .i64 0)] [(0, (.str ⟨#[109, 111, 118, 107]⟩)), (1, (.int .u32 4068474880)), (2, (.bool true)), (5, (.bool true)), (6, (.int .i64 16))])) fun v5 h5 =>
  bnd (stS (storeV 7 v0 v5 h5)) fun v6 h6 =>
  finL [loadV G true 7 v0 h6, some (.bool true)] h.length h6)
  (bnd (pu h4 (bin Try.prog .eql 3 true x0 (.int .i64 3))) fun v7 h7 =>
  condA v7
  (bnd (pureCall (isa_three.f G k) [(.str ⟨#[97, 100, 100]⟩), (.int .u32 2332033024)] h7) fun v8 h8 =>
  bnd (stS (storeV 7 v0 v8 h8)) fun v9 h9 =>
  finL [loadV G true 7 v0 h9, some (.bool true)] h.length h9)
  (bnd (pu h7 (bin Try.prog .eql 3 true x0 (.int .i64 4))) fun v10 h10 =>
  condA v10
  (bnd (pureCall (isa_three.f G k) [(.str ⟨#[115, 117, 98]⟩), (.int .u32 3405774848)] h10) fun v11 h11 =>
  bnd (stS (storeV 7 v0 v11 h11)) fun v12 h12 =>
  finL [loadV G true 7 v0 h12, some (.bool true)] h.length h12)
  (bnd (pu h10 (bin Try.prog .eql 3 true x0 (.int .i64 5))) fun v13 h13 =>
  condA v13
  (bnd (pureCall (isa_three.f G k) [(.str ⟨#[97, 110, 100]⟩), (.int .u32 2315255808)] h13) fun v14 h14 =>
  bnd (stS (storeV 7 v0 v14 h14)) fun v15 h15 =>
  finL [loadV G true 7 v0 h15, some (.bool true)] h.length h15)
  (bnd (pu h13 (bin Try.prog .eql 3 true x0 (.int .i64 6))) fun v16 h16 =>
  condA v16
  (bnd (pureCall (isa_three.f G k) [(.str ⟨#[111, 114, 114]⟩), (.int .u32 2852126720)] h16) fun v17 h17 =>
  bnd (stS (storeV 7 v0 v17 h17)) fun v18 h18 =>
  finL [loadV G true 7 v0 h18, some (.bool true)] h.length h18)
  (bnd (pu h16 (bin Try.prog .eql 3 true x0 (.int .i64 7))) fun v19 h19 =>
  condA v19
  (bnd (pureCall (isa_three.f G k) [(.str ⟨#[101, 111, 114]⟩), (.int .u32 3388997632)] h19) fun v20 h20 =>
  bnd (stS (storeV 7 v0 v20 h20)) fun v21 h21 =>
  finL [loadV G true 7 v0 h21, some (.bool true)] h.length h21)
  (bnd (pu h19 (bin Try.prog .eql 3 true x0 (.int .i64 8))) fun v22 h22 =>
  condA v22
  (bnd (pu h22 (buildSt [(0, 1), (1, 1), (2, 1), (3, 1), (4, 1), (5, 1), (6, 1)] [(.str ⟨#[]⟩), (.int .u32 0), (.bool false), (.bool false), (.bool false), (.bool false), (.int .i64 0)] [(0, (.str ⟨#[109, 97, 100, 100]⟩)), (1, (.int .u32 2600468480)), (2, (.bool true)), (3, (.bool true)), (4, (.bool true)), (5, (.bool true))])) fun v23 h23 =>
  bnd (stS (storeV 7 v0 v23 h23)) fun v24 h24 =>
  finL [loadV G true 7 v0 h24, some (.bool true)] h.length h24)
  (bnd (pu h22 (bin Try.prog .eql 3 true x0 (.int .i64 9))) fun v25 h25 =>
  condA v25
  (bnd (pureCall (isa_three.f G k) [(.str ⟨#[117, 109, 117, 108, 104]⟩), (.int .u32 2613083136)] h25) fun v26 h26 =>
  bnd (stS (storeV 7 v0 v26 h26)) fun v27 h27 =>
  finL [loadV G true 7 v0 h27, some (.bool true)] h.length h27)
  (bnd (pu h25 (bin Try.prog .eql 3 true x0 (.int .i64 10))) fun v28 h28 =>
  condA v28
  (bnd (pureCall (isa_two.f G k) [(.str ⟨#[97, 100, 100, 105]⟩), (.int .u32 2432696320), (.int .i64 12)] h28) fun v29 h29 =>
  bnd (stS (storeV 7 v0 v29 h29)) fun v30 h30 =>
  finL [loadV G true 7 v0 h30, some (.bool true)] h.length h30)
  (bnd (pu h28 (bin Try.prog .eql 3 true x0 (.int .i64 11))) fun v31 h31 =>
  condA v31
  (bnd (pureCall (isa_two.f G k) [(.str ⟨#[115, 117, 98, 105]⟩), (.int .u32 3506438144), (.int .i64 12)] h31) fun v32 h32 =>
  bnd (stS (storeV 7 v0 v32 h32)) fun v33 h33 =>
  finL [loadV G true 7 v0 h33, some (.bool true)] h.length h33)
  (bnd (pu h31 (bin Try.prog .eql 3 true x0 (.int .i64 12))) fun v34 h34 =>
  condA v34
  (bnd (pureCall (isa_two.f G k) [(.str ⟨#[108, 115, 108]⟩), (.int .u32 3544186880), (.int .i64 6)] h34) fun v35 h35 =>
  bnd (stS (storeV 7 v0 v35 h35)) fun v36 h36 =>
  finL [loadV G true 7 v0 h36, some (.bool true)] h.length h36)
  (bnd (pu h34 (bin Try.prog .eql 3 true x0 (.int .i64 13))) fun v37 h37 =>
  condA v37
  (bnd (pureCall (isa_two.f G k) [(.str ⟨#[108, 115, 114]⟩), (.int .u32 3544186880), (.int .i64 6)] h37) fun v38 h38 =>
  bnd (stS (storeV 7 v0 v38 h38)) fun v39 h39 =>
  finL [loadV G true 7 v0 h39, some (.bool true)] h.length h39)
  (bnd (pu h37 (bin Try.prog .eql 3 true x0 (.int .i64 14))) fun v40 h40 =>
  condA v40
  (bnd (pureCall (isa_two.f G k) [(.str ⟨#[97, 115, 114]⟩), (.int .u32 2470509568), (.int .i64 6)] h40) fun v41 h41 =>
  bnd (stS (storeV 7 v0 v41 h41)) fun v42 h42 =>
  finL [loadV G true 7 v0 h42, some (.bool true)] h.length h42)
  (bnd (pu h40 (buildSt [(0, 1), (1, 1), (2, 1), (3, 1), (4, 1), (5, 1), (6, 1)] [(.str ⟨#[]⟩), (.int .u32 0), (.bool false), (.bool false), (.bool false), (.bool false), (.int .i64 0)] [])) fun v43 h43 =>
  bnd (stS (storeV 7 v0 v43 h43)) fun v44 h44 =>
  finL [loadV G true 7 v0 h44, some (.bool false)] h.length h44)))))))))))))))
noncomputable def isa_plain.f (G : Globs) : Nat → Den
  | 0 => fun _ _ => none
  | k + 1 => fun args h => arg1 args fun x0 => (isa_plain.c G k (isa_plain.f G k) x0 h)
theorem isa_plain.step (G : Globs) (k : Nat) (x0 : AV) (h : AHeap) : isa_plain.f G (k + 1) [x0] h = isa_plain.c G k (isa_plain.f G k) x0 h := rfl
/-! alembic/isa.of: function 12 -/
noncomputable def isa_of.ann : Ann := mkAnn [] [] [] []
noncomputable def isa_of.env (G : Globs) (k : Nat) (self : Den) : List (Nat × Bool × Den) := [(16, true, isa_two.f G k), (17, true, isa_plain.f G k)]
noncomputable def isa_of.c (G : Globs) (k : Nat) (self : Den) (x0 : AV) (h : AHeap) : Option (AV × AHeap) := outV (
  bnd (boxA 39 (.agg [(.str ⟨#[]⟩), (.int .u32 0), (.bool false), (.bool false), (.bool false), (.bool false), (.int .i64 0)]) h) fun v0 h0 =>
  bnd (pu h0 (bin Try.prog .eql 3 true x0 (.int .i64 15))) fun v1 h1 =>
  condA v1
  (bnd (pu h1 (buildSt [(0, 1), (1, 1), (2, 1), (3, 1), (4, 1), (5, 1), (6, 1)] [(.str ⟨#[]⟩), (.int .u32 0), (.bool false), (.bool false), (.bool false), (.bool false), (.int .i64 0)] [(0, (.str ⟨#[99, 109, 112]⟩)), (1, (.int .u32 3942645791)), (3, (.bool true)), (4, (.bool true))])) fun v2 h2 =>
  bnd (stS (storeV 7 v0 v2 h2)) fun v3 h3 =>
  finL [loadV G true 7 v0 h3, some (.bool true)] h.length h3)
  (bnd (pu h1 (bin Try.prog .eql 3 true x0 (.int .i64 16))) fun v4 h4 =>
  condA v4
  (bnd (pu h4 (buildSt [(0, 1), (1, 1), (2, 1), (3, 1), (4, 1), (5, 1), (6, 1)] [(.str ⟨#[]⟩), (.int .u32 0), (.bool false), (.bool false), (.bool false), (.bool false), (.int .i64 0)] [(0, (.str ⟨#[99, 115, 101, 108]⟩)), (1, (.int .u32 2592079872)), (2, (.bool true)), (3, (.bool true)), (4, (.bool true)), (5, (.bool true))])) fun v5 h5 =>
  bnd (stS (storeV 7 v0 v5 h5)) fun v6 h6 =>
  finL [loadV G true 7 v0 h6, some (.bool true)] h.length h6)
  (bnd (pu h4 (bin Try.prog .eql 3 true x0 (.int .i64 17))) fun v7 h7 =>
  condA v7
  (bnd (pu h7 (buildSt [(0, 1), (1, 1), (2, 1), (3, 1), (4, 1), (5, 1), (6, 1)] [(.str ⟨#[]⟩), (.int .u32 0), (.bool false), (.bool false), (.bool false), (.bool false), (.int .i64 0)] [(0, (.str ⟨#[99, 115, 101, 116]⟩)), (1, (.int .u32 2594113504)), (2, (.bool true)), (5, (.bool true))])) fun v8 h8 =>
  bnd (stS (storeV 7 v0 v8 h8)) fun v9 h9 =>
  finL [loadV G true 7 v0 h9, some (.bool true)] h.length h9)
  (bnd (pu h7 (bin Try.prog .eql 3 true x0 (.int .i64 18))) fun v10 h10 =>
  condA v10
  (bnd (pureCall (isa_two.f G k) [(.str ⟨#[108, 100, 114]⟩), (.int .u32 4181721088), (.int .i64 12)] h10) fun v11 h11 =>
  bnd (stS (storeV 7 v0 v11 h11)) fun v12 h12 =>
  finL [loadV G true 7 v0 h12, some (.bool true)] h.length h12)
  (bnd (pu h10 (bin Try.prog .eql 3 true x0 (.int .i64 19))) fun v13 h13 =>
  condA v13
  (bnd (pureCall (isa_two.f G k) [(.str ⟨#[115, 116, 114]⟩), (.int .u32 4177526784), (.int .i64 12)] h13) fun v14 h14 =>
  bnd (stS (storeV 7 v0 v14 h14)) fun v15 h15 =>
  finL [loadV G true 7 v0 h15, some (.bool true)] h.length h15)
  (bnd (pu h13 (bin Try.prog .eql 3 true x0 (.int .i64 20))) fun v16 h16 =>
  condA v16
  (bnd (pu h16 (buildSt [(0, 1), (1, 1), (2, 1), (3, 1), (4, 1), (5, 1), (6, 1)] [(.str ⟨#[]⟩), (.int .u32 0), (.bool false), (.bool false), (.bool false), (.bool false), (.int .i64 0)] [(0, (.str ⟨#[98]⟩)), (1, (.int .u32 335544320)), (6, (.int .i64 26))])) fun v17 h17 =>
  bnd (stS (storeV 7 v0 v17 h17)) fun v18 h18 =>
  finL [loadV G true 7 v0 h18, some (.bool true)] h.length h18)
  (bnd (pu h16 (bin Try.prog .eql 3 true x0 (.int .i64 21))) fun v19 h19 =>
  condA v19
  (bnd (pu h19 (buildSt [(0, 1), (1, 1), (2, 1), (3, 1), (4, 1), (5, 1), (6, 1)] [(.str ⟨#[]⟩), (.int .u32 0), (.bool false), (.bool false), (.bool false), (.bool false), (.int .i64 0)] [(0, (.str ⟨#[98, 99, 99]⟩)), (1, (.int .u32 1409286144)), (5, (.bool true)), (6, (.int .i64 19))])) fun v20 h20 =>
  bnd (stS (storeV 7 v0 v20 h20)) fun v21 h21 =>
  finL [loadV G true 7 v0 h21, some (.bool true)] h.length h21)
  (bnd (pu h19 (bin Try.prog .eql 3 true x0 (.int .i64 22))) fun v22 h22 =>
  condA v22
  (bnd (pu h22 (buildSt [(0, 1), (1, 1), (2, 1), (3, 1), (4, 1), (5, 1), (6, 1)] [(.str ⟨#[]⟩), (.int .u32 0), (.bool false), (.bool false), (.bool false), (.bool false), (.int .i64 0)] [(0, (.str ⟨#[99, 98, 122]⟩)), (1, (.int .u32 3019898880)), (2, (.bool true)), (6, (.int .i64 19))])) fun v23 h23 =>
  bnd (stS (storeV 7 v0 v23 h23)) fun v24 h24 =>
  finL [loadV G true 7 v0 h24, some (.bool true)] h.length h24)
  (bnd (pu h22 (bin Try.prog .eql 3 true x0 (.int .i64 23))) fun v25 h25 =>
  condA v25
  (bnd (pu h25 (buildSt [(0, 1), (1, 1), (2, 1), (3, 1), (4, 1), (5, 1), (6, 1)] [(.str ⟨#[]⟩), (.int .u32 0), (.bool false), (.bool false), (.bool false), (.bool false), (.int .i64 0)] [(0, (.str ⟨#[99, 98, 110, 122]⟩)), (1, (.int .u32 3036676096)), (2, (.bool true)), (6, (.int .i64 19))])) fun v26 h26 =>
  bnd (stS (storeV 7 v0 v26 h26)) fun v27 h27 =>
  finL [loadV G true 7 v0 h27, some (.bool true)] h.length h27)
  (bnd (pu h25 (bin Try.prog .eql 3 true x0 (.int .i64 24))) fun v28 h28 =>
  condA v28
  (bnd (pu h28 (buildSt [(0, 1), (1, 1), (2, 1), (3, 1), (4, 1), (5, 1), (6, 1)] [(.str ⟨#[]⟩), (.int .u32 0), (.bool false), (.bool false), (.bool false), (.bool false), (.int .i64 0)] [(0, (.str ⟨#[104, 108, 116]⟩)), (1, (.int .u32 3560964096)), (6, (.int .i64 16))])) fun v29 h29 =>
  bnd (stS (storeV 7 v0 v29 h29)) fun v30 h30 =>
  finL [loadV G true 7 v0 h30, some (.bool true)] h.length h30)
  (bnd (pureCall (isa_plain.f G k) [x0] h28) fun v31 h31 =>
  bnd (pu h31 (extractA v31 0)) fun v32 h32 =>
  bnd (pu h32 (extractA v31 1)) fun v33 h33 =>
  bnd (stS (storeV 7 v0 v32 h33)) fun v34 h34 =>
  finL [loadV G true 7 v0 h34, some v33] h.length h34)))))))))))
noncomputable def isa_of.f (G : Globs) : Nat → Den
  | 0 => fun _ _ => none
  | k + 1 => fun args h => arg1 args fun x0 => (isa_of.c G k (isa_of.f G k) x0 h)
theorem isa_of.step (G : Globs) (k : Nat) (x0 : AV) (h : AHeap) : isa_of.f G (k + 1) [x0] h = isa_of.c G k (isa_of.f G k) x0 h := rfl
/-! alembic/isa.register: function 18 -/
noncomputable def isa_register.ann : Ann := mkAnn [] [] [] []
noncomputable def isa_register.env (G : Globs) (k : Nat) (self : Den) : List (Nat × Bool × Den) := []
noncomputable def isa_register.c (G : Globs) (k : Nat) (self : Den) (x0 x1 : AV) (h : AHeap) : Option (AV × AHeap) := outV (
  bnd (pu h (bin Try.prog .eql 3 true x0 (.int .i64 0))) fun v0 h0 =>
  bnd (gd v0 false h0 (some (x1, h0))) fun v1 h1 =>
  bnd (gd v0 false h1 (some (v1, h1))) fun v2 h2 =>
  bnd (gd v2 true h2 (some (x0, h2))) fun v3 h3 =>
  bnd (gd v2 true h3 (pu h3 (bin Try.prog .gtr 3 true v3 (.int .i64 0)))) fun v4 h4 =>
  bnd (gd v0 false h4 (pu h4 (pickA v2 v4 (.bool false)))) fun v5 h5 =>
  bnd (gd v0 false h5 (some (v5, h5))) fun v6 h6 =>
  bnd (gd v6 true h6 (some (x0, h6))) fun v7 h7 =>
  bnd (gd v6 true h7 (pu h7 (bin Try.prog .leq 3 true v7 (.int .i64 31)))) fun v8 h8 =>
  bnd (gd v0 false h8 (pu h8 (pickA v6 v8 (.bool false)))) fun v9 h9 =>
  bnd (pu h9 (pickA v0 (.bool true) v9)) fun v10 h10 =>
  finV [v10] h.length h10)
noncomputable def isa_register.f (G : Globs) : Nat → Den
  | 0 => fun _ _ => none
  | k + 1 => fun args h => arg2 args fun x0 x1 => (isa_register.c G k (isa_register.f G k) x0 x1 h)
theorem isa_register.step (G : Globs) (k : Nat) (x0 x1 : AV) (h : AHeap) : isa_register.f G (k + 1) [x0, x1] h = isa_register.c G k (isa_register.f G k) x0 x1 h := rfl
/-! alembic/isa.extra: function 19 -/
noncomputable def isa_extra.ann : Ann := mkAnn [] [] [] [(9, [1, 2]), (8, [1, 16]), (4, [1, 4, 5])]
noncomputable def isa_extra.env (G : Globs) (k : Nat) (self : Den) : List (Nat × Bool × Den) := []
noncomputable def isa_extra.c (G : Globs) (k : Nat) (self : Den) (x0 : AV) (h : AHeap) : Option (AV × AHeap) := outV (
  bnd (boxRoA x0 h) fun v0 h0 =>
  thenK (
  bnd (pu h0 (fieldAddrV 0 v0)) fun v1 h1 =>
  bnd (pu h1 (loadV G false 1 v1 h1)) fun v2 h2 =>
  thenK (
  bnd (pu h2 (bin Try.prog .eql 3 true v2 (.int .i64 1))) fun v3 h3 =>
  condA v3
  (some (.normal, [v0, v2, v3], h3))
  (bnd (pu h3 (bin Try.prog .eql 3 true v2 (.int .i64 2))) fun v4 h4 =>
  some (.normal, [v0, v2, v4], h4))) fun e5 x5 h5 => exK e5
  (condA (nth x5 2)
  (bnd (pu h5 (fieldAddrV 4 (nth x5 0))) fun v6 h6 =>
  bnd (pu h6 (loadV G false 1 v6 h6)) fun v7 h7 =>
  bnd (pu h7 (bin Try.prog .geq 3 true v7 (.int .i64 0))) fun v8 h8 =>
  bnd (gd v8 true h8 (pu h8 (fieldAddrV 4 (nth x5 0)))) fun v9 h9 =>
  bnd (gd v8 true h9 (pu h9 (loadV G false 1 v9 h9))) fun v10 h10 =>
  bnd (gd v8 true h10 (pu h10 (bin Try.prog .leq 3 true v10 (.int .i64 3)))) fun v11 h11 =>
  bnd (pu h11 (pickA v8 v11 (.bool false))) fun v12 h12 =>
  some (.ret, [(nth x5 0), v12], h12))
  (thenK (
  bnd (pu h5 (bin Try.prog .eql 3 true (nth x5 1) (.int .i64 16))) fun v13 h13 =>
  condA v13
  (some (.normal, [(nth x5 0), v13], h13))
  (bnd (pu h13 (bin Try.prog .eql 3 true (nth x5 1) (.int .i64 17))) fun v14 h14 =>
  condA v14
  (some (.normal, [(nth x5 0), v14], h14))
  (bnd (pu h14 (bin Try.prog .eql 3 true (nth x5 1) (.int .i64 21))) fun v15 h15 =>
  some (.normal, [(nth x5 0), v15], h15)))) fun e16 x16 h16 => exK e16
  (condA (nth x16 1)
  (bnd (pu h16 (fieldAddrV 4 (nth x16 0))) fun v17 h17 =>
  bnd (pu h17 (loadV G false 1 v17 h17)) fun v18 h18 =>
  bnd (pu h18 (bin Try.prog .geq 3 true v18 (.int .i64 0))) fun v19 h19 =>
  bnd (gd v19 true h19 (pu h19 (fieldAddrV 4 (nth x16 0)))) fun v20 h20 =>
  bnd (gd v19 true h20 (pu h20 (loadV G false 1 v20 h20))) fun v21 h21 =>
  bnd (gd v19 true h21 (pu h21 (bin Try.prog .leq 3 true v21 (.int .i64 3)))) fun v22 h22 =>
  bnd (pu h22 (pickA v19 v22 (.bool false))) fun v23 h23 =>
  bnd (gd v23 false h23 (pu h23 (fieldAddrV 4 (nth x16 0)))) fun v24 h24 =>
  bnd (gd v23 false h24 (pu h24 (loadV G false 1 v24 h24))) fun v25 h25 =>
  bnd (gd v23 false h25 (pu h25 (bin Try.prog .eql 3 true v25 (.int .i64 8)))) fun v26 h26 =>
  bnd (pu h26 (pickA v23 (.bool true) v26)) fun v27 h27 =>
  bnd (gd v27 false h27 (pu h27 (fieldAddrV 4 (nth x16 0)))) fun v28 h28 =>
  bnd (gd v27 false h28 (pu h28 (loadV G false 1 v28 h28))) fun v29 h29 =>
  bnd (gd v27 false h29 (pu h29 (bin Try.prog .eql 3 true v29 (.int .i64 9)))) fun v30 h30 =>
  bnd (pu h30 (pickA v27 (.bool true) v30)) fun v31 h31 =>
  some (.ret, [(nth x16 0), v31], h31))
  (some (.normal, [(nth x16 0), .undef], h16)))
  (fun i16 => if i16 = 0 then (some (.normal, [(nth x16 0), .undef], h16)) else (some (.exit i16, [(nth x16 0), .undef], h16)))
  (some (.ret, [(nth x16 0), .undef], h16))))
  (fun i5 => if i5 = 0 then (some (.normal, [(nth x5 0), .undef], h5)) else (some (.exit i5, [(nth x5 0), .undef], h5)))
  (some (.ret, [(nth x5 0), .undef], h5))) fun e32 x32 h32 => exK e32
  (bnd (pu h32 (fieldAddrV 4 (nth x32 0))) fun v33 h33 =>
  bnd (pu h33 (loadV G false 1 v33 h33)) fun v34 h34 =>
  bnd (pu h34 (bin Try.prog .geq 3 true v34 (.int .i64 0))) fun v35 h35 =>
  bnd (gd v35 true h35 (pu h35 (fieldAddrV 4 (nth x32 0)))) fun v36 h36 =>
  bnd (gd v35 true h36 (pu h36 (loadV G false 1 v36 h36))) fun v37 h37 =>
  bnd (gd v35 true h37 (pu h37 (bin Try.prog .leq 3 true v37 (.int .i64 31)))) fun v38 h38 =>
  bnd (pu h38 (pickA v35 v38 (.bool false))) fun v39 h39 =>
  finV [v39] h.length h39)
  (fun i32 => none)
  (finV [(nth x32 1)] h.length h32))
noncomputable def isa_extra.f (G : Globs) : Nat → Den
  | 0 => fun _ _ => none
  | k + 1 => fun args h => arg1 args fun x0 => (isa_extra.c G k (isa_extra.f G k) x0 h)
theorem isa_extra.step (G : Globs) (k : Nat) (x0 : AV) (h : AHeap) : isa_extra.f G (k + 1) [x0] h = isa_extra.c G k (isa_extra.f G k) x0 h := rfl
/-! alembic/isa.signed: function 25 -/
noncomputable def isa_signed.ann : Ann := mkAnn [] [] [] []
noncomputable def isa_signed.env (G : Globs) (k : Nat) (self : Den) : List (Nat × Bool × Den) := []
noncomputable def isa_signed.c (G : Globs) (k : Nat) (self : Den) (x0 : AV) (h : AHeap) : Option (AV × AHeap) := outV (
  bnd (pu h (bin Try.prog .geq 3 true x0 (.int .i64 20))) fun v0 h0 =>
  bnd (gd v0 true h0 (some (x0, h0))) fun v1 h1 =>
  bnd (gd v0 true h1 (pu h1 (bin Try.prog .leq 3 true v1 (.int .i64 23)))) fun v2 h2 =>
  bnd (pu h2 (pickA v0 v2 (.bool false))) fun v3 h3 =>
  finV [v3] h.length h3)
noncomputable def isa_signed.f (G : Globs) : Nat → Den
  | 0 => fun _ _ => none
  | k + 1 => fun args h => arg1 args fun x0 => (isa_signed.c G k (isa_signed.f G k) x0 h)
theorem isa_signed.step (G : Globs) (k : Nat) (x0 : AV) (h : AHeap) : isa_signed.f G (k + 1) [x0] h = isa_signed.c G k (isa_signed.f G k) x0 h := rfl
/-! alembic/isa.imm: function 20 -/
noncomputable def isa_imm.ann : Ann := mkAnn [] [] [] []
noncomputable def isa_imm.env (G : Globs) (k : Nat) (self : Den) : List (Nat × Bool × Den) := [(25, true, isa_signed.f G k)]
noncomputable def isa_imm.c (G : Globs) (k : Nat) (self : Den) (x0 x1 : AV) (h : AHeap) : Option (AV × AHeap) := outV (
  bnd (boxRoA x0 h) fun v0 h0 =>
  bnd (pu h0 (bin Try.prog .eql 3 true x1 (.int .i64 0))) fun v1 h1 =>
  condA v1
  (bnd (pu h1 (fieldAddrV 5 v0)) fun v2 h2 =>
  bnd (pu h2 (loadV G false 1 v2 h2)) fun v3 h3 =>
  bnd (pu h3 (bin Try.prog .eql 3 true v3 (.int .i64 0))) fun v4 h4 =>
  finV [v4] h.length h4)
  (bnd (pu h1 (fieldAddrV 0 v0)) fun v5 h5 =>
  bnd (pu h5 (loadV G false 1 v5 h5)) fun v6 h6 =>
  bnd (pureCall (isa_signed.f G k) [v6] h6) fun v7 h7 =>
  condA v7
  (bnd (pu h7 (fieldAddrV 5 v0)) fun v8 h8 =>
  bnd (pu h8 (loadV G false 1 v8 h8)) fun v9 h9 =>
  bnd (pu h9 (bin Try.prog .sub 3 true x1 (.int .i64 1))) fun v10 h10 =>
  bnd (pu h10 (bin Try.prog .shl 3 true (.int .i64 1) v10)) fun v11 h11 =>
  bnd (pu h11 (un .neg v11)) fun v12 h12 =>
  bnd (pu h12 (bin Try.prog .geq 3 false v9 v12)) fun v13 h13 =>
  bnd (gd v13 true h13 (pu h13 (fieldAddrV 5 v0))) fun v14 h14 =>
  bnd (gd v13 true h14 (pu h14 (loadV G false 1 v14 h14))) fun v15 h15 =>
  bnd (gd v13 true h15 (some (x1, h15))) fun v16 h16 =>
  bnd (gd v13 true h16 (pu h16 (bin Try.prog .sub 3 true v16 (.int .i64 1)))) fun v17 h17 =>
  bnd (gd v13 true h17 (pu h17 (bin Try.prog .shl 3 true (.int .i64 1) v17))) fun v18 h18 =>
  bnd (gd v13 true h18 (pu h18 (bin Try.prog .lss 3 false v15 v18))) fun v19 h19 =>
  bnd (pu h19 (pickA v13 v19 (.bool false))) fun v20 h20 =>
  finV [v20] h.length h20)
  (bnd (pu h7 (fieldAddrV 5 v0)) fun v21 h21 =>
  bnd (pu h21 (loadV G false 1 v21 h21)) fun v22 h22 =>
  bnd (pu h22 (bin Try.prog .geq 3 true v22 (.int .i64 0))) fun v23 h23 =>
  bnd (gd v23 true h23 (pu h23 (fieldAddrV 5 v0))) fun v24 h24 =>
  bnd (gd v23 true h24 (pu h24 (loadV G false 1 v24 h24))) fun v25 h25 =>
  bnd (gd v23 true h25 (some (x1, h25))) fun v26 h26 =>
  bnd (gd v23 true h26 (pu h26 (bin Try.prog .shl 3 true (.int .i64 1) v26))) fun v27 h27 =>
  bnd (gd v23 true h27 (pu h27 (bin Try.prog .lss 3 false v25 v27))) fun v28 h28 =>
  bnd (pu h28 (pickA v23 v28 (.bool false))) fun v29 h29 =>
  finV [v29] h.length h29)))
noncomputable def isa_imm.f (G : Globs) : Nat → Den
  | 0 => fun _ _ => none
  | k + 1 => fun args h => arg2 args fun x0 x1 => (isa_imm.c G k (isa_imm.f G k) x0 x1 h)
theorem isa_imm.step (G : Globs) (k : Nat) (x0 x1 : AV) (h : AHeap) : isa_imm.f G (k + 1) [x0, x1] h = isa_imm.c G k (isa_imm.f G k) x0 x1 h := rfl
/-! alembic/isa.stack: function 21 -/
noncomputable def isa_stack.ann : Ann := mkAnn [] [] [] [(7, [1, 16]), (4, [1, 4, 5])]
noncomputable def isa_stack.env (G : Globs) (k : Nat) (self : Den) : List (Nat × Bool × Den) := []
noncomputable def isa_stack.c (G : Globs) (k : Nat) (self : Den) (x0 : AV) (h : AHeap) : Option (AV × AHeap) := outV (
  bnd (boxRoA x0 h) fun v0 h0 =>
  bnd (pu h0 (fieldAddrV 0 v0)) fun v1 h1 =>
  bnd (pu h1 (loadV G false 1 v1 h1)) fun v2 h2 =>
  thenK (
  bnd (pu h2 (bin Try.prog .eql 3 true v2 (.int .i64 10))) fun v3 h3 =>
  condA v3
  (some (.normal, [v0, v2, v3], h3))
  (bnd (pu h3 (bin Try.prog .eql 3 true v2 (.int .i64 11))) fun v4 h4 =>
  some (.normal, [v0, v2, v4], h4))) fun e5 x5 h5 => exK e5
  (condA (nth x5 2)
  (bnd (pu h5 (fieldAddrV 1 (nth x5 0))) fun v6 h6 =>
  bnd (pu h6 (loadV G false 1 v6 h6)) fun v7 h7 =>
  bnd (pu h7 (bin Try.prog .eql 3 true v7 (.int .i64 31))) fun v8 h8 =>
  bnd (gd v8 false h8 (pu h8 (fieldAddrV 2 (nth x5 0)))) fun v9 h9 =>
  bnd (gd v8 false h9 (pu h9 (loadV G false 1 v9 h9))) fun v10 h10 =>
  bnd (gd v8 false h10 (pu h10 (bin Try.prog .eql 3 true v10 (.int .i64 31)))) fun v11 h11 =>
  bnd (pu h11 (pickA v8 (.bool true) v11)) fun v12 h12 =>
  finV [v12] h.length h12)
  (thenK (
  bnd (pu h5 (bin Try.prog .eql 3 true (nth x5 1) (.int .i64 18))) fun v13 h13 =>
  condA v13
  (some (.normal, [(nth x5 0), v13], h13))
  (bnd (pu h13 (bin Try.prog .eql 3 true (nth x5 1) (.int .i64 19))) fun v14 h14 =>
  some (.normal, [(nth x5 0), v14], h14))) fun e15 x15 h15 => exK e15
  (condA (nth x15 1)
  (bnd (pu h15 (fieldAddrV 2 (nth x15 0))) fun v16 h16 =>
  bnd (pu h16 (loadV G false 1 v16 h16)) fun v17 h17 =>
  bnd (pu h17 (bin Try.prog .eql 3 true v17 (.int .i64 31))) fun v18 h18 =>
  finV [v18] h.length h18)
  (finV [(.bool false)] h.length h15))
  (fun i15 => if i15 = 0 then (finV [(.bool false)] h.length h15) else (none))
  (finV [.undef] h.length h15)))
  (fun i5 => if i5 = 0 then (finV [(.bool false)] h.length h5) else (none))
  (finV [.undef] h.length h5))
noncomputable def isa_stack.f (G : Globs) : Nat → Den
  | 0 => fun _ _ => none
  | k + 1 => fun args h => arg1 args fun x0 => (isa_stack.c G k (isa_stack.f G k) x0 h)
theorem isa_stack.step (G : Globs) (k : Nat) (x0 : AV) (h : AHeap) : isa_stack.f G (k + 1) [x0] h = isa_stack.c G k (isa_stack.f G k) x0 h := rfl
/-! alembic/isa.fair: function 13 -/
noncomputable def isa_fair.ann : Ann := mkAnn [] [] [] []
noncomputable def isa_fair.env (G : Globs) (k : Nat) (self : Den) : List (Nat × Bool × Den) := [(18, true, isa_register.f G k), (19, true, isa_extra.f G k), (20, true, isa_imm.f G k), (21, true, isa_stack.f G k)]
noncomputable def isa_fair.c (G : Globs) (k : Nat) (self : Den) (x0 x1 : AV) (h : AHeap) : Option (AV × AHeap) := outV (
  bnd (boxRoA x0 h) fun v0 h0 =>
  bnd (boxRoA x1 h0) fun v1 h1 =>
  bnd (pu h1 (fieldAddrV 1 v0)) fun v2 h2 =>
  bnd (pu h2 (loadV G false 1 v2 h2)) fun v3 h3 =>
  bnd (pu h3 (fieldAddrV 2 v1)) fun v4 h4 =>
  bnd (pu h4 (loadV G false 1 v4 h4)) fun v5 h5 =>
  bnd (pureCall (isa_register.f G k) [v3, v5] h5) fun v6 h6 =>
  bnd (pu h6 (un .not v6)) fun v7 h7 =>
  bnd (gd v7 false h7 (pu h7 (fieldAddrV 2 v0))) fun v8 h8 =>
  bnd (gd v7 false h8 (pu h8 (loadV G false 1 v8 h8))) fun v9 h9 =>
  bnd (gd v7 false h9 (pu h9 (fieldAddrV 3 v1))) fun v10 h10 =>
  bnd (gd v7 false h10 (pu h10 (loadV G false 1 v10 h10))) fun v11 h11 =>
  bnd (gd v7 false h11 (pureCall (isa_register.f G k) [v9, v11] h11)) fun v12 h12 =>
  bnd (gd v7 false h12 (pu h12 (un .not v12))) fun v13 h13 =>
  bnd (pu h13 (pickA v7 (.bool true) v13)) fun v14 h14 =>
  bnd (gd v14 false h14 (pu h14 (fieldAddrV 3 v0))) fun v15 h15 =>
  bnd (gd v14 false h15 (pu h15 (loadV G false 1 v15 h15))) fun v16 h16 =>
  bnd (gd v14 false h16 (pu h16 (fieldAddrV 4 v1))) fun v17 h17 =>
  bnd (gd v14 false h17 (pu h17 (loadV G false 1 v17 h17))) fun v18 h18 =>
  bnd (gd v14 false h18 (pureCall (isa_register.f G k) [v16, v18] h18)) fun v19 h19 =>
  bnd (gd v14 false h19 (pu h19 (un .not v19))) fun v20 h20 =>
  bnd (pu h20 (pickA v14 (.bool true) v20)) fun v21 h21 =>
  condA v21
  (finV [(.bool false)] h.length h21)
  (bnd (pu h21 (fieldAddrV 5 v1)) fun v22 h22 =>
  bnd (pu h22 (loadV G false 1 v22 h22)) fun v23 h23 =>
  bnd (gd v23 true h23 (pu h23 (loadV G true 6 v0 h23))) fun v24 h24 =>
  bnd (gd v23 true h24 (pureCall (isa_extra.f G k) [v24] h24)) fun v25 h25 =>
  bnd (gd v23 true h25 (pu h25 (un .not v25))) fun v26 h26 =>
  bnd (pu h26 (pickA v23 v26 (.bool false))) fun v27 h27 =>
  bnd (gd v27 false h27 (pu h27 (fieldAddrV 5 v1))) fun v28 h28 =>
  bnd (gd v27 false h28 (pu h28 (loadV G false 1 v28 h28))) fun v29 h29 =>
  bnd (gd v27 false h29 (pu h29 (un .not v29))) fun v30 h30 =>
  bnd (gd v27 false h30 (some (v30, h30))) fun v31 h31 =>
  bnd (gd v31 true h31 (pu h31 (fieldAddrV 4 v0))) fun v32 h32 =>
  bnd (gd v31 true h32 (pu h32 (loadV G false 1 v32 h32))) fun v33 h33 =>
  bnd (gd v31 true h33 (pu h33 (bin Try.prog .neq 3 true v33 (.int .i64 0)))) fun v34 h34 =>
  bnd (gd v27 false h34 (pu h34 (pickA v31 v34 (.bool false)))) fun v35 h35 =>
  bnd (pu h35 (pickA v27 (.bool true) v35)) fun v36 h36 =>
  condA v36
  (finV [(.bool false)] h.length h36)
  (bnd (pu h36 (loadV G true 6 v0 h36)) fun v37 h37 =>
  bnd (pu h37 (fieldAddrV 6 v1)) fun v38 h38 =>
  bnd (pu h38 (loadV G false 1 v38 h38)) fun v39 h39 =>
  bnd (pureCall (isa_imm.f G k) [v37, v39] h39) fun v40 h40 =>
  bnd (gd v40 true h40 (pu h40 (loadV G true 6 v0 h40))) fun v41 h41 =>
  bnd (gd v40 true h41 (pureCall (isa_stack.f G k) [v41] h41)) fun v42 h42 =>
  bnd (gd v40 true h42 (pu h42 (un .not v42))) fun v43 h43 =>
  bnd (pu h43 (pickA v40 v43 (.bool false))) fun v44 h44 =>
  finV [v44] h.length h44)))
noncomputable def isa_fair.f (G : Globs) : Nat → Den
  | 0 => fun _ _ => none
  | k + 1 => fun args h => arg2 args fun x0 x1 => (isa_fair.c G k (isa_fair.f G k) x0 x1 h)
theorem isa_fair.step (G : Globs) (k : Nat) (x0 x1 : AV) (h : AHeap) : isa_fair.f G (k + 1) [x0, x1] h = isa_fair.c G k (isa_fair.f G k) x0 x1 h := rfl
/-! alembic/isa.number: function 14 -/
noncomputable def isa_number.ann : Ann := mkAnn [] [] [] [(28, [3, 4, 12, 64]), (16, [3, 4, 12, 34]), (5, [3, 4, 12, 13])]
noncomputable def isa_number.env (G : Globs) (k : Nat) (self : Den) : List (Nat × Bool × Den) := []
noncomputable def isa_number.c (G : Globs) (k : Nat) (self : Den) (x0 : AV) (h : AHeap) : Option (AV × AHeap) := outV (
  bnd (boxRoA x0 h) fun v0 h0 =>
  bnd (pu h0 (fieldAddrV 5 v0)) fun v1 h1 =>
  bnd (pu h1 (loadV G false 1 v1 h1)) fun v2 h2 =>
  bnd (pu h2 (convInt .u32 v2)) fun v3 h3 =>
  bnd (pu h3 (fieldAddrV 4 v0)) fun v4 h4 =>
  bnd (pu h4 (loadV G false 1 v4 h4)) fun v5 h5 =>
  bnd (pu h5 (convInt .u32 v5)) fun v6 h6 =>
  bnd (pu h6 (fieldAddrV 0 v0)) fun v7 h7 =>
  bnd (pu h7 (loadV G false 1 v7 h7)) fun v8 h8 =>
  thenK (
  bnd (pu h8 (bin Try.prog .eql 3 true v8 (.int .i64 1))) fun v9 h9 =>
  condA v9
  (some (.normal, [v3, v6, v8, v9], h9))
  (bnd (pu h9 (bin Try.prog .eql 3 true v8 (.int .i64 2))) fun v10 h10 =>
  some (.normal, [v3, v6, v8, v10], h10))) fun e11 x11 h11 => exK e11
  (condA (nth x11 3)
  (bnd (pu h11 (bin Try.prog .shl 27 true (nth x11 1) (.int .u64 21))) fun v12 h12 =>
  bnd (pu h12 (bin Try.prog .shl 27 true (nth x11 0) (.int .u64 5))) fun v13 h13 =>
  bnd (pu h13 (bin Try.prog .or 27 false v12 v13)) fun v14 h14 =>
  finV [v14] h.length h14)
  (bnd (pu h11 (bin Try.prog .eql 3 true (nth x11 2) (.int .i64 8))) fun v15 h15 =>
  condA v15
  (bnd (pu h15 (bin Try.prog .shl 27 true (nth x11 1) (.int .u64 10))) fun v16 h16 =>
  finV [v16] h.length h16)
  (bnd (pu h15 (bin Try.prog .eql 3 true (nth x11 2) (.int .i64 16))) fun v17 h17 =>
  condA v17
  (bnd (pu h17 (bin Try.prog .shl 27 true (nth x11 1) (.int .u64 12))) fun v18 h18 =>
  finV [v18] h.length h18)
  (bnd (pu h17 (bin Try.prog .eql 3 true (nth x11 2) (.int .i64 17))) fun v19 h19 =>
  condA v19
  (bnd (pu h19 (bin Try.prog .xor 27 true (nth x11 1) (.int .u32 1))) fun v20 h20 =>
  bnd (pu h20 (bin Try.prog .shl 27 true v20 (.int .u64 12))) fun v21 h21 =>
  finV [v21] h.length h21)
  (thenK (
  bnd (pu h19 (bin Try.prog .eql 3 true (nth x11 2) (.int .i64 10))) fun v22 h22 =>
  condA v22
  (some (.normal, [(nth x11 0), (nth x11 1), (nth x11 2), v22], h22))
  (bnd (pu h22 (bin Try.prog .eql 3 true (nth x11 2) (.int .i64 11))) fun v23 h23 =>
  condA v23
  (some (.normal, [(nth x11 0), (nth x11 1), (nth x11 2), v23], h23))
  (bnd (pu h23 (bin Try.prog .eql 3 true (nth x11 2) (.int .i64 18))) fun v24 h24 =>
  condA v24
  (some (.normal, [(nth x11 0), (nth x11 1), (nth x11 2), v24], h24))
  (bnd (pu h24 (bin Try.prog .eql 3 true (nth x11 2) (.int .i64 19))) fun v25 h25 =>
  some (.normal, [(nth x11 0), (nth x11 1), (nth x11 2), v25], h25))))) fun e26 x26 h26 => exK e26
  (condA (nth x26 3)
  (bnd (pu h26 (bin Try.prog .shl 27 true (nth x26 0) (.int .u64 10))) fun v27 h27 =>
  finV [v27] h.length h27)
  (bnd (pu h26 (bin Try.prog .eql 3 true (nth x26 2) (.int .i64 12))) fun v28 h28 =>
  condA v28
  (bnd (pu h28 (bin Try.prog .sub 27 true (.int .u32 64) (nth x26 0))) fun v29 h29 =>
  bnd (pu h29 (bin Try.prog .rem 27 true v29 (.int .u32 64))) fun v30 h30 =>
  bnd (pu h30 (bin Try.prog .shl 27 true v30 (.int .u64 16))) fun v31 h31 =>
  bnd (pu h31 (bin Try.prog .sub 27 true (.int .u32 63) (nth x26 0))) fun v32 h32 =>
  bnd (pu h32 (bin Try.prog .shl 27 true v32 (.int .u64 10))) fun v33 h33 =>
  bnd (pu h33 (bin Try.prog .or 27 false v31 v33)) fun v34 h34 =>
  finV [v34] h.length h34)
  (bnd (pu h28 (bin Try.prog .eql 3 true (nth x26 2) (.int .i64 13))) fun v35 h35 =>
  condA v35
  (bnd (pu h35 (bin Try.prog .shl 27 true (nth x26 0) (.int .u64 16))) fun v36 h36 =>
  bnd (pu h36 (bin Try.prog .or 27 true v36 (.int .u32 64512))) fun v37 h37 =>
  finV [v37] h.length h37)
  (bnd (pu h35 (bin Try.prog .eql 3 true (nth x26 2) (.int .i64 14))) fun v38 h38 =>
  condA v38
  (bnd (pu h38 (bin Try.prog .shl 27 true (nth x26 0) (.int .u64 16))) fun v39 h39 =>
  finV [v39] h.length h39)
  (bnd (pu h38 (bin Try.prog .eql 3 true (nth x26 2) (.int .i64 20))) fun v40 h40 =>
  condA v40
  (bnd (pu h40 (bin Try.prog .and 27 true (nth x26 0) (.int .u32 67108863))) fun v41 h41 =>
  finV [v41] h.length h41)
  (thenK (
  bnd (pu h40 (bin Try.prog .eql 3 true (nth x26 2) (.int .i64 21))) fun v42 h42 =>
  condA v42
  (some (.normal, [(nth x26 0), (nth x26 1), (nth x26 2), v42], h42))
  (bnd (pu h42 (bin Try.prog .eql 3 true (nth x26 2) (.int .i64 22))) fun v43 h43 =>
  condA v43
  (some (.normal, [(nth x26 0), (nth x26 1), (nth x26 2), v43], h43))
  (bnd (pu h43 (bin Try.prog .eql 3 true (nth x26 2) (.int .i64 23))) fun v44 h44 =>
  some (.normal, [(nth x26 0), (nth x26 1), (nth x26 2), v44], h44)))) fun e45 x45 h45 => exK e45
  (condA (nth x45 3)
  (bnd (pu h45 (bin Try.prog .and 27 true (nth x45 0) (.int .u32 524287))) fun v46 h46 =>
  bnd (pu h46 (bin Try.prog .shl 27 true v46 (.int .u64 5))) fun v47 h47 =>
  bnd (pu h47 (bin Try.prog .or 27 false (nth x45 1) v47)) fun v48 h48 =>
  finV [v48] h.length h48)
  (bnd (pu h45 (bin Try.prog .eql 3 true (nth x45 2) (.int .i64 24))) fun v49 h49 =>
  condA v49
  (bnd (pu h49 (bin Try.prog .shl 27 true (nth x45 0) (.int .u64 5))) fun v50 h50 =>
  finV [v50] h.length h50)
  (finV [(.int .u32 0)] h.length h49)))
  (fun i45 => if i45 = 0 then (finV [(.int .u32 0)] h.length h45) else (none))
  (finV [.undef] h.length h45)))))))
  (fun i26 => if i26 = 0 then (finV [(.int .u32 0)] h.length h26) else (none))
  (finV [.undef] h.length h26))))))
  (fun i11 => if i11 = 0 then (finV [(.int .u32 0)] h.length h11) else (none))
  (finV [.undef] h.length h11))
noncomputable def isa_number.f (G : Globs) : Nat → Den
  | 0 => fun _ _ => none
  | k + 1 => fun args h => arg1 args fun x0 => (isa_number.c G k (isa_number.f G k) x0 h)
theorem isa_number.step (G : Globs) (k : Nat) (x0 : AV) (h : AHeap) : isa_number.f G (k + 1) [x0] h = isa_number.c G k (isa_number.f G k) x0 h := rfl
/-! alembic/isa.Word: function 8 -/
noncomputable def isa_Word.ann : Ann := mkAnn [] [] [] []
noncomputable def isa_Word.env (G : Globs) (k : Nat) (self : Den) : List (Nat × Bool × Den) := [(12, true, isa_of.f G k), (13, true, isa_fair.f G k), (14, true, isa_number.f G k)]
noncomputable def isa_Word.c (G : Globs) (k : Nat) (self : Den) (x0 : AV) (h : AHeap) : Option (AV × AHeap) := outV (
  bnd (boxRoA x0 h) fun v0 h0 =>
  bnd (pu h0 (fieldAddrV 0 v0)) fun v1 h1 =>
  bnd (pu h1 (loadV G false 1 v1 h1)) fun v2 h2 =>
  bnd (pureCall (isa_of.f G k) [v2] h2) fun v3 h3 =>
  bnd (pu h3 (extractA v3 0)) fun v4 h4 =>
  bnd (pu h4 (extractA v3 1)) fun v5 h5 =>
  bnd (boxA 39 (.agg [(.str ⟨#[]⟩), (.int .u32 0), (.bool false), (.bool false), (.bool false), (.bool false), (.int .i64 0)]) h5) fun v6 h6 =>
  bnd (stS (storeV 7 v6 v4 h6)) fun v7 h7 =>
  bnd (pu h7 (un .not v5)) fun v8 h8 =>
  bnd (gd v8 false h8 (pu h8 (loadV G true 6 v0 h8))) fun v9 h9 =>
  bnd (gd v8 false h9 (pu h9 (loadV G true 7 v6 h9))) fun v10 h10 =>
  bnd (gd v8 false h10 (pureCall (isa_fair.f G k) [v9, v10] h10)) fun v11 h11 =>
  bnd (gd v8 false h11 (pu h11 (un .not v11))) fun v12 h12 =>
  bnd (pu h12 (pickA v8 (.bool true) v12)) fun v13 h13 =>
  condA v13
  (finV [(.int .u32 0), (.bool false)] h.length h13)
  (bnd (pu h13 (fieldAddrV 1 v6)) fun v14 h14 =>
  bnd (pu h14 (loadV G false 1 v14 h14)) fun v15 h15 =>
  bnd (pu h15 (fieldAddrV 1 v0)) fun v16 h16 =>
  bnd (pu h16 (loadV G false 1 v16 h16)) fun v17 h17 =>
  bnd (pu h17 (convInt .u32 v17)) fun v18 h18 =>
  bnd (pu h18 (bin Try.prog .or 27 false v15 v18)) fun v19 h19 =>
  bnd (pu h19 (fieldAddrV 2 v0)) fun v20 h20 =>
  bnd (pu h20 (loadV G false 1 v20 h20)) fun v21 h21 =>
  bnd (pu h21 (convInt .u32 v21)) fun v22 h22 =>
  bnd (pu h22 (bin Try.prog .shl 27 true v22 (.int .u64 5))) fun v23 h23 =>
  bnd (pu h23 (bin Try.prog .or 27 false v19 v23)) fun v24 h24 =>
  bnd (pu h24 (fieldAddrV 3 v0)) fun v25 h25 =>
  bnd (pu h25 (loadV G false 1 v25 h25)) fun v26 h26 =>
  bnd (pu h26 (convInt .u32 v26)) fun v27 h27 =>
  bnd (pu h27 (bin Try.prog .shl 27 true v27 (.int .u64 16))) fun v28 h28 =>
  bnd (pu h28 (bin Try.prog .or 27 false v24 v28)) fun v29 h29 =>
  bnd (pu h29 (loadV G true 6 v0 h29)) fun v30 h30 =>
  bnd (pureCall (isa_number.f G k) [v30] h30) fun v31 h31 =>
  bnd (pu h31 (bin Try.prog .or 27 false v29 v31)) fun v32 h32 =>
  finV [v32, (.bool true)] h.length h32))
noncomputable def isa_Word.f (G : Globs) : Nat → Den
  | 0 => fun _ _ => none
  | k + 1 => fun args h => arg1 args fun x0 => (isa_Word.c G k (isa_Word.f G k) x0 h)
theorem isa_Word.step (G : Globs) (k : Nat) (x0 : AV) (h : AHeap) : isa_Word.f G (k + 1) [x0] h = isa_Word.c G k (isa_Word.f G k) x0 h := rfl
/-! alembic/alembiclaw22.first: function 6 -/
noncomputable def alembiclaw22_first.ann : Ann := mkAnn [] [] [] []
noncomputable def alembiclaw22_first.env (G : Globs) (k : Nat) (self : Den) : List (Nat × Bool × Den) := [(8, true, isa_Word.f G k)]
noncomputable def alembiclaw22_first.c (G : Globs) (k : Nat) (self : Den) (h : AHeap) : Option (AV × AHeap) := outV (
  bnd (pu h (buildSt [(0, 1), (1, 1), (2, 1), (3, 1), (4, 1), (5, 1)] [(.int .i64 0), (.int .i64 0), (.int .i64 0), (.int .i64 0), (.int .i64 0), (.int .i64 0)] [(0, (.int .i64 3)), (1, (.int .i64 1)), (2, (.int .i64 2)), (3, (.int .i64 3))])) fun v0 h0 =>
  bnd (pureCall (isa_Word.f G k) [v0] h0) fun v1 h1 =>
  bnd (pu h1 (extractA v1 0)) fun v2 h2 =>
  bnd (pu h2 (extractA v1 1)) fun v3 h3 =>
  bnd (gd v3 true h3 (some (v2, h3))) fun v4 h4 =>
  bnd (gd v3 true h4 (pu h4 (bin Try.prog .eql 27 true v4 (.int .u32 2332229697)))) fun v5 h5 =>
  bnd (pu h5 (pickA v3 v5 (.bool false))) fun v6 h6 =>
  finV [v6] h.length h6)
noncomputable def alembiclaw22_first.f (G : Globs) : Nat → Den
  | 0 => fun _ _ => none
  | k + 1 => fun args h => arg0 args (alembiclaw22_first.c G k (alembiclaw22_first.f G k) h)
theorem alembiclaw22_first.step (G : Globs) (k : Nat) (h : AHeap) : alembiclaw22_first.f G (k + 1) [] h = alembiclaw22_first.c G k (alembiclaw22_first.f G k) h := rfl
/-! alembic/isa.Has: function 7 -/
noncomputable def isa_Has.ann : Ann := mkAnn [] [] [] []
noncomputable def isa_Has.env (G : Globs) (k : Nat) (self : Den) : List (Nat × Bool × Den) := [(12, true, isa_of.f G k)]
noncomputable def isa_Has.c (G : Globs) (k : Nat) (self : Den) (x0 : AV) (h : AHeap) : Option (AV × AHeap) := outV (
  bnd (pureCall (isa_of.f G k) [x0] h) fun v0 h0 =>
  bnd (pu h0 (extractA v0 0)) fun v1 h1 =>
  bnd (pu h1 (extractA v0 1)) fun v2 h2 =>
  bnd (boxA 39 (.agg [(.str ⟨#[]⟩), (.int .u32 0), (.bool false), (.bool false), (.bool false), (.bool false), (.int .i64 0)]) h2) fun v3 h3 =>
  bnd (stS (storeV 7 v3 v1 h3)) fun v4 h4 =>
  bnd (pu h4 (fieldAddrV 2 v3)) fun v5 h5 =>
  bnd (pu h5 (loadV G false 1 v5 h5)) fun v6 h6 =>
  bnd (pu h6 (fieldAddrV 3 v3)) fun v7 h7 =>
  bnd (pu h7 (loadV G false 1 v7 h7)) fun v8 h8 =>
  bnd (pu h8 (fieldAddrV 4 v3)) fun v9 h9 =>
  bnd (pu h9 (loadV G false 1 v9 h9)) fun v10 h10 =>
  bnd (pu h10 (fieldAddrV 5 v3)) fun v11 h11 =>
  bnd (pu h11 (loadV G false 1 v11 h11)) fun v12 h12 =>
  bnd (pu h12 (fieldAddrV 6 v3)) fun v13 h13 =>
  bnd (pu h13 (loadV G false 1 v13 h13)) fun v14 h14 =>
  finV [v6, v8, v10, v12, v14] h.length h14)
noncomputable def isa_Has.f (G : Globs) : Nat → Den
  | 0 => fun _ _ => none
  | k + 1 => fun args h => arg1 args fun x0 => (isa_Has.c G k (isa_Has.f G k) x0 h)
theorem isa_Has.step (G : Globs) (k : Nat) (x0 : AV) (h : AHeap) : isa_Has.f G (k + 1) [x0] h = isa_Has.c G k (isa_Has.f G k) x0 h := rfl
/-! alembic/alembiclaw22.IsaBounds$1: function 9 -/
noncomputable def alembiclaw22_IsaBounds_1.ann : Ann := mkAnn [] [] [] []
noncomputable def alembiclaw22_IsaBounds_1.env (G : Globs) (k : Nat) (self : Den) : List (Nat × Bool × Den) := [(8, true, isa_Word.f G k)]
noncomputable def alembiclaw22_IsaBounds_1.c (G : Globs) (k : Nat) (self : Den) (x0 : AV) (h : AHeap) : Option (AV × AHeap) := outV (
  bnd (boxRoA x0 h) fun v0 h0 =>
  bnd (pu h0 (loadV G true 6 v0 h0)) fun v1 h1 =>
  bnd (pureCall (isa_Word.f G k) [v1] h1) fun v2 h2 =>
  bnd (pu h2 (extractA v2 0)) fun v3 h3 =>
  bnd (pu h3 (extractA v2 1)) fun v4 h4 =>
  finV [v4] h.length h4)
noncomputable def alembiclaw22_IsaBounds_1.f (G : Globs) : Nat → Den
  | 0 => fun _ _ => none
  | k + 1 => fun args h => arg1 args fun x0 => (alembiclaw22_IsaBounds_1.c G k (alembiclaw22_IsaBounds_1.f G k) x0 h)
theorem alembiclaw22_IsaBounds_1.step (G : Globs) (k : Nat) (x0 : AV) (h : AHeap) : alembiclaw22_IsaBounds_1.f G (k + 1) [x0] h = alembiclaw22_IsaBounds_1.c G k (alembiclaw22_IsaBounds_1.f G k) x0 h := rfl
/-! alembic/alembiclaw22.IsaBounds: function 3 -/
noncomputable def alembiclaw22_IsaBounds.ann : Ann := mkAnn [] [] [] [(20, [3, 4, 5, 6, 9, 12, 13]), (8, [0, 3, 4, 5, 6, 7, 8, 9])]
noncomputable def alembiclaw22_IsaBounds.env (G : Globs) (k : Nat) (self : Den) : List (Nat × Bool × Den) := [(6, true, alembiclaw22_first.f G k), (7, true, isa_Has.f G k), (8, true, isa_Word.f G k), (9, true, alembiclaw22_IsaBounds_1.f G k)]
noncomputable def alembiclaw22_IsaBounds.c (G : Globs) (k : Nat) (self : Den) (x0 : AV) (h : AHeap) : Option (AV × AHeap) := outV (
  bnd (pureCall (alembiclaw22_first.f G k) [] h) fun v0 h0 =>
  bnd (pu h0 (un .not v0)) fun v1 h1 =>
  condA v1
  (finV [(.bool false)] h.length h1)
  (bnd (pureCall (isa_Has.f G k) [x0] h1) fun v2 h2 =>
  bnd (pu h2 (extractA v2 0)) fun v3 h3 =>
  bnd (pu h3 (extractA v2 1)) fun v4 h4 =>
  bnd (pu h4 (extractA v2 2)) fun v5 h5 =>
  bnd (pu h5 (extractA v2 3)) fun v6 h6 =>
  bnd (pu h6 (extractA v2 4)) fun v7 h7 =>
  bnd (pu h7 (buildSt [(0, 1), (1, 1), (2, 1), (3, 1), (4, 1), (5, 1)] [(.int .i64 0), (.int .i64 0), (.int .i64 0), (.int .i64 0), (.int .i64 0), (.int .i64 0)] [(0, x0)])) fun v8 h8 =>
  bnd (boxA 26 (.agg [(.int .i64 0), (.int .i64 0), (.int .i64 0), (.int .i64 0), (.int .i64 0), (.int .i64 0)]) h8) fun v9 h9 =>
  bnd (stS (storeV 6 v9 v8 h9)) fun v10 h10 =>
  thenK (
  bnd (pu h10 (bin Try.prog .eql 3 true x0 (.int .i64 10))) fun v11 h11 =>
  bnd (gd v11 false h11 (some (x0, h11))) fun v12 h12 =>
  bnd (gd v11 false h12 (pu h12 (bin Try.prog .eql 3 true v12 (.int .i64 11)))) fun v13 h13 =>
  bnd (pu h13 (pickA v11 (.bool true) v13)) fun v14 h14 =>
  bnd (gd v14 false h14 (some (x0, h14))) fun v15 h15 =>
  bnd (gd v14 false h15 (pu h15 (bin Try.prog .eql 3 true v15 (.int .i64 18)))) fun v16 h16 =>
  bnd (pu h16 (pickA v14 (.bool true) v16)) fun v17 h17 =>
  bnd (gd v17 false h17 (some (x0, h17))) fun v18 h18 =>
  bnd (gd v17 false h18 (pu h18 (bin Try.prog .eql 3 true v18 (.int .i64 19)))) fun v19 h19 =>
  bnd (pu h19 (pickA v17 (.bool true) v19)) fun v20 h20 =>
  condA v20
  (bnd (pu h20 (fieldAddrV 1 v9)) fun v21 h21 =>
  bnd (stS (storeV 1 v21 (.int .i64 1) h21)) fun v22 h22 =>
  some (.normal, [x0, v0, v3, v4, v5, v6, v7, v9], h22))
  (some (.normal, [x0, v0, v3, v4, v5, v6, v7, v9], h20))) fun e23 x23 h23 => exK e23
  (bnd (pu h23 (loadV G true 6 (nth x23 7) h23)) fun v24 h24 =>
  bnd (pureCall (isa_Word.f G k) [v24] h24) fun v25 h25 =>
  bnd (pu h25 (extractA v25 0)) fun v26 h26 =>
  bnd (pu h26 (extractA v25 1)) fun v27 h27 =>
  bnd (pu h27 (bin Try.prog .geq 3 true (nth x23 0) (.int .i64 1))) fun v28 h28 =>
  bnd (gd v28 true h28 (some ((nth x23 0), h28))) fun v29 h29 =>
  bnd (gd v28 true h29 (pu h29 (bin Try.prog .leq 3 true v29 (.int .i64 24)))) fun v30 h30 =>
  bnd (pu h30 (pickA v28 v30 (.bool false))) fun v31 h31 =>
  bnd (pu h31 (bin Try.prog .neq 4 false v27 v31)) fun v32 h32 =>
  condA v32
  (finV [(.bool false)] h.length h32)
  (bnd (pu h32 (un .not v27)) fun v33 h33 =>
  condA v33
  (bnd (gd (nth x23 1) true h33 (some ((nth x23 2), h33))) fun v34 h34 =>
  bnd (gd (nth x23 1) true h34 (pu h34 (un .not v34))) fun v35 h35 =>
  bnd (pu h35 (pickA (nth x23 1) v35 (.bool false))) fun v36 h36 =>
  bnd (gd v36 true h36 (some ((nth x23 3), h36))) fun v37 h37 =>
  bnd (gd v36 true h37 (pu h37 (un .not v37))) fun v38 h38 =>
  bnd (pu h38 (pickA v36 v38 (.bool false))) fun v39 h39 =>
  bnd (gd v39 true h39 (some ((nth x23 4), h39))) fun v40 h40 =>
  bnd (gd v39 true h40 (pu h40 (un .not v40))) fun v41 h41 =>
  bnd (pu h41 (pickA v39 v41 (.bool false))) fun v42 h42 =>
  bnd (gd v42 true h42 (some ((nth x23 5), h42))) fun v43 h43 =>
  bnd (gd v42 true h43 (pu h43 (un .not v43))) fun v44 h44 =>
  bnd (pu h44 (pickA v42 v44 (.bool false))) fun v45 h45 =>
  bnd (gd v45 true h45 (some ((nth x23 6), h45))) fun v46 h46 =>
  bnd (gd v45 true h46 (pu h46 (bin Try.prog .eql 3 true v46 (.int .i64 0)))) fun v47 h47 =>
  bnd (pu h47 (pickA v45 v47 (.bool false))) fun v48 h48 =>
  finV [v48] h.length h48)
  (thenK (
  bnd (pu h33 (bin Try.prog .eql 3 true (nth x23 6) (.int .i64 19))) fun v49 h49 =>
  bnd (gd v49 false h49 (some ((nth x23 6), h49))) fun v50 h50 =>
  bnd (gd v49 false h50 (pu h50 (bin Try.prog .eql 3 true v50 (.int .i64 26)))) fun v51 h51 =>
  bnd (pu h51 (pickA v49 (.bool true) v51)) fun v52 h52 =>
  condA v52
  (bnd (pu h52 (bin Try.prog .sub 3 true (nth x23 6) (.int .i64 1))) fun v53 h53 =>
  bnd (pu h53 (convInt .u64 v53)) fun v54 h54 =>
  bnd (pu h54 (bin Try.prog .shl 3 true (.int .i64 1) v54)) fun v55 h55 =>
  bnd (pu h55 (bin Try.prog .sub 3 true v55 (.int .i64 1))) fun v56 h56 =>
  bnd (pu h56 (bin Try.prog .sub 3 true (nth x23 6) (.int .i64 1))) fun v57 h57 =>
  bnd (pu h57 (convInt .u64 v57)) fun v58 h58 =>
  bnd (pu h58 (bin Try.prog .shl 3 true (.int .i64 (-1)) v58)) fun v59 h59 =>
  some (.normal, [(nth x23 1), (nth x23 2), (nth x23 3), (nth x23 4), (nth x23 7), v56, v59], h59))
  (bnd (pu h52 (bin Try.prog .gtr 3 true (nth x23 6) (.int .i64 0))) fun v60 h60 =>
  condA v60
  (bnd (pu h60 (convInt .u64 (nth x23 6))) fun v61 h61 =>
  bnd (pu h61 (bin Try.prog .shl 3 true (.int .i64 1) v61)) fun v62 h62 =>
  bnd (pu h62 (bin Try.prog .sub 3 true v62 (.int .i64 1))) fun v63 h63 =>
  some (.normal, [(nth x23 1), (nth x23 2), (nth x23 3), (nth x23 4), (nth x23 7), v63, (.int .i64 0)], h63))
  (some (.normal, [(nth x23 1), (nth x23 2), (nth x23 3), (nth x23 4), (nth x23 7), (.int .i64 0), (.int .i64 0)], h60)))) fun e64 x64 h64 => exK e64
  (bnd (pu h64 (loadV G true 6 (nth x64 4) h64)) fun v65 h65 =>
  bnd (boxA 26 (.agg [(.int .i64 0), (.int .i64 0), (.int .i64 0), (.int .i64 0), (.int .i64 0), (.int .i64 0)]) h65) fun v66 h66 =>
  bnd (stS (storeV 6 v66 v65 h66)) fun v67 h67 =>
  bnd (pu h67 (fieldAddrV 5 v66)) fun v68 h68 =>
  bnd (stS (storeV 1 v68 (nth x64 5) h68)) fun v69 h69 =>
  bnd (pu h69 (loadV G true 6 (nth x64 4) h69)) fun v70 h70 =>
  bnd (boxA 26 (.agg [(.int .i64 0), (.int .i64 0), (.int .i64 0), (.int .i64 0), (.int .i64 0), (.int .i64 0)]) h70) fun v71 h71 =>
  bnd (stS (storeV 6 v71 v70 h71)) fun v72 h72 =>
  bnd (pu h72 (bin Try.prog .add 3 true (nth x64 5) (.int .i64 1))) fun v73 h73 =>
  bnd (pu h73 (fieldAddrV 5 v71)) fun v74 h74 =>
  bnd (stS (storeV 1 v74 v73 h74)) fun v75 h75 =>
  bnd (pu h75 (loadV G true 6 (nth x64 4) h75)) fun v76 h76 =>
  bnd (boxA 26 (.agg [(.int .i64 0), (.int .i64 0), (.int .i64 0), (.int .i64 0), (.int .i64 0), (.int .i64 0)]) h76) fun v77 h77 =>
  bnd (stS (storeV 6 v77 v76 h77)) fun v78 h78 =>
  bnd (pu h78 (fieldAddrV 5 v77)) fun v79 h79 =>
  bnd (stS (storeV 1 v79 (nth x64 6) h79)) fun v80 h80 =>
  bnd (pu h80 (loadV G true 6 (nth x64 4) h80)) fun v81 h81 =>
  bnd (boxA 26 (.agg [(.int .i64 0), (.int .i64 0), (.int .i64 0), (.int .i64 0), (.int .i64 0), (.int .i64 0)]) h81) fun v82 h82 =>
  bnd (stS (storeV 6 v82 v81 h82)) fun v83 h83 =>
  bnd (pu h83 (bin Try.prog .sub 3 true (nth x64 6) (.int .i64 1))) fun v84 h84 =>
  bnd (pu h84 (fieldAddrV 5 v82)) fun v85 h85 =>
  bnd (stS (storeV 1 v85 v84 h85)) fun v86 h86 =>
  bnd (pu h86 (loadV G true 6 v66 h86)) fun v87 h87 =>
  bnd (callV (envL (alembiclaw22_IsaBounds.env G k self)) (.fn 9 []) [v87] h87) fun v88 h88 =>
  bnd (pu h88 (un .not v88)) fun v89 h89 =>
  bnd (gd v89 false h89 (some ((.fn 9 []), h89))) fun v90 h90 =>
  bnd (gd v89 false h90 (pu h90 (loadV G true 6 v71 h90))) fun v91 h91 =>
  bnd (gd v89 false h91 (callV (envL (alembiclaw22_IsaBounds.env G k self)) v90 [v91] h91)) fun v92 h92 =>
  bnd (pu h92 (pickA v89 (.bool true) v92)) fun v93 h93 =>
  bnd (gd v93 false h93 (some ((.fn 9 []), h93))) fun v94 h94 =>
  bnd (gd v93 false h94 (pu h94 (loadV G true 6 v77 h94))) fun v95 h95 =>
  bnd (gd v93 false h95 (callV (envL (alembiclaw22_IsaBounds.env G k self)) v94 [v95] h95)) fun v96 h96 =>
  bnd (gd v93 false h96 (pu h96 (un .not v96))) fun v97 h97 =>
  bnd (pu h97 (pickA v93 (.bool true) v97)) fun v98 h98 =>
  bnd (gd v98 false h98 (some ((.fn 9 []), h98))) fun v99 h99 =>
  bnd (gd v98 false h99 (pu h99 (loadV G true 6 v82 h99))) fun v100 h100 =>
  bnd (gd v98 false h100 (callV (envL (alembiclaw22_IsaBounds.env G k self)) v99 [v100] h100)) fun v101 h101 =>
  bnd (pu h101 (pickA v98 (.bool true) v101)) fun v102 h102 =>
  condA v102
  (finV [(.bool false)] h.length h102)
  (bnd (pu h102 (loadV G true 6 (nth x64 4) h102)) fun v103 h103 =>
  bnd (stS (storeV 6 v66 v103 h103)) fun v104 h104 =>
  bnd (pu h104 (fieldAddrV 3 v66)) fun v105 h105 =>
  bnd (stS (storeV 1 v105 (.int .i64 31) h105)) fun v106 h106 =>
  bnd (pu h106 (loadV G true 6 (nth x64 4) h106)) fun v107 h107 =>
  bnd (stS (storeV 6 v71 v107 h107)) fun v108 h108 =>
  bnd (pu h108 (fieldAddrV 3 v71)) fun v109 h109 =>
  bnd (stS (storeV 1 v109 (.int .i64 32) h109)) fun v110 h110 =>
  bnd (pu h110 (loadV G true 6 (nth x64 4) h110)) fun v111 h111 =>
  bnd (stS (storeV 6 v77 v111 h111)) fun v112 h112 =>
  bnd (pu h112 (fieldAddrV 3 v77)) fun v113 h113 =>
  bnd (stS (storeV 1 v113 (.int .i64 (-1)) h113)) fun v114 h114 =>
  bnd (pu h114 (loadV G true 6 v66 h114)) fun v115 h115 =>
  bnd (callV (envL (alembiclaw22_IsaBounds.env G k self)) (.fn 9 []) [v115] h115) fun v116 h116 =>
  bnd (pu h116 (bin Try.prog .neq 4 false v116 (nth x64 3))) fun v117 h117 =>
  bnd (gd v117 false h117 (some ((.fn 9 []), h117))) fun v118 h118 =>
  bnd (gd v117 false h118 (pu h118 (loadV G true 6 v71 h118))) fun v119 h119 =>
  bnd (gd v117 false h119 (callV (envL (alembiclaw22_IsaBounds.env G k self)) v118 [v119] h119)) fun v120 h120 =>
  bnd (pu h120 (pickA v117 (.bool true) v120)) fun v121 h121 =>
  bnd (gd v121 false h121 (some ((.fn 9 []), h121))) fun v122 h122 =>
  bnd (gd v121 false h122 (pu h122 (loadV G true 6 v77 h122))) fun v123 h123 =>
  bnd (gd v121 false h123 (callV (envL (alembiclaw22_IsaBounds.env G k self)) v122 [v123] h123)) fun v124 h124 =>
  bnd (pu h124 (pickA v121 (.bool true) v124)) fun v125 h125 =>
  condA v125
  (finV [(.bool false)] h.length h125)
  (bnd (pu h125 (loadV G true 6 (nth x64 4) h125)) fun v126 h126 =>
  bnd (stS (storeV 6 v66 v126 h126)) fun v127 h127 =>
  bnd (pu h127 (fieldAddrV 2 v66)) fun v128 h128 =>
  bnd (stS (storeV 1 v128 (.int .i64 30) h128)) fun v129 h129 =>
  bnd (pu h129 (loadV G true 6 (nth x64 4) h129)) fun v130 h130 =>
  bnd (stS (storeV 6 v71 v130 h130)) fun v131 h131 =>
  bnd (pu h131 (fieldAddrV 2 v71)) fun v132 h132 =>
  bnd (stS (storeV 1 v132 (.int .i64 32) h132)) fun v133 h133 =>
  bnd (pu h133 (loadV G true 6 (nth x64 4) h133)) fun v134 h134 =>
  bnd (stS (storeV 6 v82 v134 h134)) fun v135 h135 =>
  bnd (pu h135 (fieldAddrV 1 v82)) fun v136 h136 =>
  bnd (stS (storeV 1 v136 (.int .i64 32) h136)) fun v137 h137 =>
  bnd (pu h137 (loadV G true 6 (nth x64 4) h137)) fun v138 h138 =>
  bnd (stS (storeV 6 v77 v138 h138)) fun v139 h139 =>
  bnd (pu h139 (fieldAddrV 1 v77)) fun v140 h140 =>
  bnd (stS (storeV 1 v140 (.int .i64 30) h140)) fun v141 h141 =>
  bnd (gd (nth x64 0) true h141 (some ((.fn 9 []), h141))) fun v142 h142 =>
  bnd (gd (nth x64 0) true h142 (pu h142 (loadV G true 6 v66 h142))) fun v143 h143 =>
  bnd (gd (nth x64 0) true h143 (callV (envL (alembiclaw22_IsaBounds.env G k self)) v142 [v143] h143)) fun v144 h144 =>
  bnd (gd (nth x64 0) true h144 (some ((nth x64 2), h144))) fun v145 h145 =>
  bnd (gd (nth x64 0) true h145 (pu h145 (bin Try.prog .eql 4 false v144 v145))) fun v146 h146 =>
  bnd (pu h146 (pickA (nth x64 0) v146 (.bool false))) fun v147 h147 =>
  bnd (gd v147 true h147 (some ((.fn 9 []), h147))) fun v148 h148 =>
  bnd (gd v147 true h148 (pu h148 (loadV G true 6 v71 h148))) fun v149 h149 =>
  bnd (gd v147 true h149 (callV (envL (alembiclaw22_IsaBounds.env G k self)) v148 [v149] h149)) fun v150 h150 =>
  bnd (gd v147 true h150 (pu h150 (un .not v150))) fun v151 h151 =>
  bnd (pu h151 (pickA v147 v151 (.bool false))) fun v152 h152 =>
  bnd (gd v152 true h152 (some ((.fn 9 []), h152))) fun v153 h153 =>
  bnd (gd v152 true h153 (pu h153 (loadV G true 6 v82 h153))) fun v154 h154 =>
  bnd (gd v152 true h154 (callV (envL (alembiclaw22_IsaBounds.env G k self)) v153 [v154] h154)) fun v155 h155 =>
  bnd (gd v152 true h155 (pu h155 (un .not v155))) fun v156 h156 =>
  bnd (pu h156 (pickA v152 v156 (.bool false))) fun v157 h157 =>
  bnd (gd v157 true h157 (some ((.fn 9 []), h157))) fun v158 h158 =>
  bnd (gd v157 true h158 (pu h158 (loadV G true 6 v77 h158))) fun v159 h159 =>
  bnd (gd v157 true h159 (callV (envL (alembiclaw22_IsaBounds.env G k self)) v158 [v159] h159)) fun v160 h160 =>
  bnd (gd v157 true h160 (some ((nth x64 1), h160))) fun v161 h161 =>
  bnd (gd v157 true h161 (pu h161 (bin Try.prog .eql 4 false v160 v161))) fun v162 h162 =>
  bnd (pu h162 (pickA v157 v162 (.bool false))) fun v163 h163 =>
  finV [v163] h.length h163)))
  (fun i64 => none)
  (finV [.undef] h.length h64))))
  (fun i23 => none)
  (finV [.undef] h.length h23)))
noncomputable def alembiclaw22_IsaBounds.f (G : Globs) : Nat → Den
  | 0 => fun _ _ => none
  | k + 1 => fun args h => arg1 args fun x0 => (alembiclaw22_IsaBounds.c G k (alembiclaw22_IsaBounds.f G k) x0 h)
theorem alembiclaw22_IsaBounds.step (G : Globs) (k : Nat) (x0 : AV) (h : AHeap) : alembiclaw22_IsaBounds.f G (k + 1) [x0] h = alembiclaw22_IsaBounds.c G k (alembiclaw22_IsaBounds.f G k) x0 h := rfl
/-! alembic/alembiclaw22.IsaFields: function 4 -/
noncomputable def alembiclaw22_IsaFields.ann : Ann := mkAnn [] [] [] [(22, [11, 17, 18, 20]), (20, [0, 11, 17, 18, 20]), (18, [0, 4, 11, 15, 17, 18, 20]), (16, [0, 3, 4, 11, 14, 15, 17, 18, 20]), (14, [0, 2, 3, 4, 11, 13, 14, 15, 17, 18, 20]), (8, [0, 1, 2, 3, 4, 11, 12, 13, 14, 15, 17])]
noncomputable def alembiclaw22_IsaFields.env (G : Globs) (k : Nat) (self : Den) : List (Nat × Bool × Den) := [(6, true, alembiclaw22_first.f G k), (7, true, isa_Has.f G k), (8, true, isa_Word.f G k)]
noncomputable def alembiclaw22_IsaFields.c (G : Globs) (k : Nat) (self : Den) (x0 x1 x2 x3 x4 : AV) (h : AHeap) : Option (AV × AHeap) := outV (
  bnd (pureCall (alembiclaw22_first.f G k) [] h) fun v0 h0 =>
  bnd (pu h0 (un .not v0)) fun v1 h1 =>
  condA v1
  (finV [(.bool false)] h.length h1)
  (bnd (pureCall (isa_Has.f G k) [x0] h1) fun v2 h2 =>
  bnd (pu h2 (extractA v2 0)) fun v3 h3 =>
  bnd (pu h3 (extractA v2 1)) fun v4 h4 =>
  bnd (pu h4 (extractA v2 2)) fun v5 h5 =>
  bnd (pu h5 (extractA v2 3)) fun v6 h6 =>
  bnd (pu h6 (extractA v2 4)) fun v7 h7 =>
  bnd (pu h7 (buildSt [(0, 1), (1, 1), (2, 1), (3, 1), (4, 1), (5, 1)] [(.int .i64 0), (.int .i64 0), (.int .i64 0), (.int .i64 0), (.int .i64 0), (.int .i64 0)] [(0, x0)])) fun v8 h8 =>
  bnd (boxA 26 (.agg [(.int .i64 0), (.int .i64 0), (.int .i64 0), (.int .i64 0), (.int .i64 0), (.int .i64 0)]) h8) fun v9 h9 =>
  bnd (stS (storeV 6 v9 v8 h9)) fun v10 h10 =>
  thenK (
  bnd (pu h10 (bin Try.prog .eql 3 true x0 (.int .i64 10))) fun v11 h11 =>
  bnd (gd v11 false h11 (some (x0, h11))) fun v12 h12 =>
  bnd (gd v11 false h12 (pu h12 (bin Try.prog .eql 3 true v12 (.int .i64 11)))) fun v13 h13 =>
  bnd (pu h13 (pickA v11 (.bool true) v13)) fun v14 h14 =>
  condA v14
  (bnd (pu h14 (fieldAddrV 1 v9)) fun v15 h15 =>
  bnd (stS (storeV 1 v15 (.int .i64 1) h15)) fun v16 h16 =>
  some (.normal, [x0, x1, x2, x3, x4, v0, v3, v4, v5, v6, v9], h16))
  (some (.normal, [x0, x1, x2, x3, x4, v0, v3, v4, v5, v6, v9], h14))) fun e17 x17 h17 => exK e17
  (bnd (pu h17 (loadV G true 6 (nth x17 10) h17)) fun v18 h18 =>
  bnd (pureCall (isa_Word.f G k) [v18] h18) fun v19 h19 =>
  bnd (pu h19 (extractA v19 0)) fun v20 h20 =>
  bnd (pu h20 (extractA v19 1)) fun v21 h21 =>
  bnd (pu h21 (un .not v21)) fun v22 h22 =>
  condA v22
  (finV [(nth x17 5)] h.length h22)
  (bnd (pu h22 (loadV G true 6 (nth x17 10) h22)) fun v23 h23 =>
  bnd (boxA 26 (.agg [(.int .i64 0), (.int .i64 0), (.int .i64 0), (.int .i64 0), (.int .i64 0), (.int .i64 0)]) h23) fun v24 h24 =>
  bnd (stS (storeV 6 v24 v23 h24)) fun v25 h25 =>
  thenK (
  condA (nth x17 6)
  (bnd (pu h25 (bin Try.prog .and 3 true (nth x17 1) (.int .i64 15))) fun v26 h26 =>
  bnd (pu h26 (fieldAddrV 1 v24)) fun v27 h27 =>
  bnd (stS (storeV 1 v27 v26 h27)) fun v28 h28 =>
  some (.normal, [(nth x17 0), (nth x17 2), (nth x17 3), (nth x17 4), (nth x17 5), (nth x17 7), (nth x17 8), (nth x17 9), (nth x17 10), v20, v24], h28))
  (some (.normal, [(nth x17 0), (nth x17 2), (nth x17 3), (nth x17 4), (nth x17 5), (nth x17 7), (nth x17 8), (nth x17 9), (nth x17 10), v20, v24], h25))) fun e29 x29 h29 => exK e29
  (thenK (
  condA (nth x29 5)
  (bnd (pu h29 (bin Try.prog .and 3 true (nth x29 1) (.int .i64 15))) fun v30 h30 =>
  bnd (pu h30 (fieldAddrV 2 (nth x29 10))) fun v31 h31 =>
  bnd (stS (storeV 1 v31 v30 h31)) fun v32 h32 =>
  some (.normal, [(nth x29 0), (nth x29 2), (nth x29 3), (nth x29 4), (nth x29 6), (nth x29 7), (nth x29 8), (nth x29 9), (nth x29 10)], h32))
  (some (.normal, [(nth x29 0), (nth x29 2), (nth x29 3), (nth x29 4), (nth x29 6), (nth x29 7), (nth x29 8), (nth x29 9), (nth x29 10)], h29))) fun e33 x33 h33 => exK e33
  (thenK (
  condA (nth x33 4)
  (bnd (pu h33 (bin Try.prog .and 3 true (nth x33 1) (.int .i64 15))) fun v34 h34 =>
  bnd (pu h34 (fieldAddrV 3 (nth x33 8))) fun v35 h35 =>
  bnd (stS (storeV 1 v35 v34 h35)) fun v36 h36 =>
  some (.normal, [(nth x33 0), (nth x33 2), (nth x33 3), (nth x33 5), (nth x33 6), (nth x33 7), (nth x33 8)], h36))
  (some (.normal, [(nth x33 0), (nth x33 2), (nth x33 3), (nth x33 5), (nth x33 6), (nth x33 7), (nth x33 8)], h33))) fun e37 x37 h37 => exK e37
  (thenK (
  bnd (gd (nth x37 3) true h37 (some ((nth x37 0), h37))) fun v38 h38 =>
  bnd (gd (nth x37 3) true h38 (pu h38 (bin Try.prog .eql 3 true v38 (.int .i64 8)))) fun v39 h39 =>
  bnd (pu h39 (pickA (nth x37 3) v39 (.bool false))) fun v40 h40 =>
  condA v40
  (bnd (pu h40 (bin Try.prog .and 3 true (nth x37 1) (.int .i64 15))) fun v41 h41 =>
  bnd (pu h41 (fieldAddrV 4 (nth x37 6))) fun v42 h42 =>
  bnd (stS (storeV 1 v42 v41 h42)) fun v43 h43 =>
  some (.normal, [(nth x37 0), (nth x37 2), (nth x37 4), (nth x37 5), (nth x37 6)], h43))
  (some (.normal, [(nth x37 0), (nth x37 2), (nth x37 4), (nth x37 5), (nth x37 6)], h40))) fun e44 x44 h44 => exK e44
  (thenK (
  bnd (pu h44 (bin Try.prog .eql 3 true (nth x44 0) (.int .i64 10))) fun v45 h45 =>
  bnd (gd v45 false h45 (some ((nth x44 0), h45))) fun v46 h46 =>
  bnd (gd v45 false h46 (pu h46 (bin Try.prog .eql 3 true v46 (.int .i64 11)))) fun v47 h47 =>
  bnd (pu h47 (pickA v45 (.bool true) v47)) fun v48 h48 =>
  bnd (gd v48 true h48 (pu h48 (fieldAddrV 1 (nth x44 4)))) fun v49 h49 =>
  bnd (gd v48 true h49 (pu h49 (loadV G false 1 v49 h49))) fun v50 h50 =>
  bnd (gd v48 true h50 (pu h50 (bin Try.prog .eql 3 true v50 (.int .i64 0)))) fun v51 h51 =>
  bnd (pu h51 (pickA v48 v51 (.bool false))) fun v52 h52 =>
  condA v52
  (bnd (pu h52 (fieldAddrV 1 (nth x44 4))) fun v53 h53 =>
  bnd (stS (storeV 1 v53 (.int .i64 1) h53)) fun v54 h54 =>
  some (.normal, [(nth x44 1), (nth x44 2), (nth x44 3), (nth x44 4)], h54))
  (some (.normal, [(nth x44 1), (nth x44 2), (nth x44 3), (nth x44 4)], h52))) fun e55 x55 h55 => exK e55
  (bnd (pu h55 (loadV G true 6 (nth x55 3) h55)) fun v56 h56 =>
  bnd (pureCall (isa_Word.f G k) [v56] h56) fun v57 h57 =>
  bnd (pu h57 (extractA v57 0)) fun v58 h58 =>
  bnd (pu h58 (extractA v57 1)) fun v59 h59 =>
  bnd (pu h59 (fieldAddrV 1 (nth x55 3))) fun v60 h60 =>
  bnd (pu h60 (loadV G false 1 v60 h60)) fun v61 h61 =>
  bnd (pu h61 (fieldAddrV 1 (nth x55 1))) fun v62 h62 =>
  bnd (pu h62 (loadV G false 1 v62 h62)) fun v63 h63 =>
  bnd (pu h63 (bin Try.prog .xor 3 false v61 v63)) fun v64 h64 =>
  bnd (pu h64 (convInt .u32 v64)) fun v65 h65 =>
  bnd (pu h65 (fieldAddrV 2 (nth x55 3))) fun v66 h66 =>
  bnd (pu h66 (loadV G false 1 v66 h66)) fun v67 h67 =>
  bnd (pu h67 (convInt .u32 v67)) fun v68 h68 =>
  bnd (pu h68 (bin Try.prog .shl 27 true v68 (.int .u64 5))) fun v69 h69 =>
  bnd (pu h69 (bin Try.prog .or 27 false v65 v69)) fun v70 h70 =>
  bnd (pu h70 (fieldAddrV 3 (nth x55 3))) fun v71 h71 =>
  bnd (pu h71 (loadV G false 1 v71 h71)) fun v72 h72 =>
  bnd (pu h72 (convInt .u32 v72)) fun v73 h73 =>
  bnd (pu h73 (bin Try.prog .shl 27 true v73 (.int .u64 16))) fun v74 h74 =>
  bnd (pu h74 (bin Try.prog .or 27 false v70 v74)) fun v75 h75 =>
  bnd (pu h75 (fieldAddrV 4 (nth x55 3))) fun v76 h76 =>
  bnd (pu h76 (loadV G false 1 v76 h76)) fun v77 h77 =>
  bnd (pu h77 (convInt .u32 v77)) fun v78 h78 =>
  bnd (pu h78 (bin Try.prog .shl 27 true v78 (.int .u64 10))) fun v79 h79 =>
  bnd (pu h79 (bin Try.prog .or 27 false v75 v79)) fun v80 h80 =>
  bnd (gd (nth x55 0) true h80 (some (v59, h80))) fun v81 h81 =>
  bnd (pu h81 (pickA (nth x55 0) v81 (.bool false))) fun v82 h82 =>
  bnd (gd v82 true h82 (some (v58, h82))) fun v83 h83 =>
  bnd (gd v82 true h83 (some ((nth x55 2), h83))) fun v84 h84 =>
  bnd (gd v82 true h84 (pu h84 (bin Try.prog .xor 27 false v83 v84))) fun v85 h85 =>
  bnd (gd v82 true h85 (some (v80, h85))) fun v86 h86 =>
  bnd (gd v82 true h86 (pu h86 (bin Try.prog .eql 27 false v85 v86))) fun v87 h87 =>
  bnd (pu h87 (pickA v82 v87 (.bool false))) fun v88 h88 =>
  finV [v88] h.length h88)
  (fun i55 => none)
  (finV [.undef] h.length h55))
  (fun i44 => none)
  (finV [.undef] h.length h44))
  (fun i37 => none)
  (finV [.undef] h.length h37))
  (fun i33 => none)
  (finV [.undef] h.length h33))
  (fun i29 => none)
  (finV [.undef] h.length h29)))
  (fun i17 => none)
  (finV [.undef] h.length h17)))
noncomputable def alembiclaw22_IsaFields.f (G : Globs) : Nat → Den
  | 0 => fun _ _ => none
  | k + 1 => fun args h => arg5 args fun x0 x1 x2 x3 x4 => (alembiclaw22_IsaFields.c G k (alembiclaw22_IsaFields.f G k) x0 x1 x2 x3 x4 h)
theorem alembiclaw22_IsaFields.step (G : Globs) (k : Nat) (x0 x1 x2 x3 x4 : AV) (h : AHeap) : alembiclaw22_IsaFields.f G (k + 1) [x0, x1, x2, x3, x4] h = alembiclaw22_IsaFields.c G k (alembiclaw22_IsaFields.f G k) x0 x1 x2 x3 x4 h := rfl
/-! alembic/isa.field: function 22 -/
noncomputable def isa_field.ann : Ann := mkAnn [] [] [] []
noncomputable def isa_field.env (G : Globs) (k : Nat) (self : Den) : List (Nat × Bool × Den) := []
noncomputable def isa_field.c (G : Globs) (k : Nat) (self : Den) (x0 x1 x2 : AV) (h : AHeap) : Option (AV × AHeap) := outV (
  bnd (pu h (bin Try.prog .shr 27 false x0 x1)) fun v0 h0 =>
  bnd (pu h0 (bin Try.prog .shl 27 true (.int .u32 1) x2)) fun v1 h1 =>
  bnd (pu h1 (bin Try.prog .sub 27 true v1 (.int .u32 1))) fun v2 h2 =>
  bnd (pu h2 (bin Try.prog .and 27 false v0 v2)) fun v3 h3 =>
  bnd (pu h3 (convInt .i64 v3)) fun v4 h4 =>
  finV [v4] h.length h4)
noncomputable def isa_field.f (G : Globs) : Nat → Den
  | 0 => fun _ _ => none
  | k + 1 => fun args h => arg3 args fun x0 x1 x2 => (isa_field.c G k (isa_field.f G k) x0 x1 x2 h)
theorem isa_field.step (G : Globs) (k : Nat) (x0 x1 x2 : AV) (h : AHeap) : isa_field.f G (k + 1) [x0, x1, x2] h = isa_field.c G k (isa_field.f G k) x0 x1 x2 h := rfl
/-! alembic/isa.sign: function 26 -/
noncomputable def isa_sign.ann : Ann := mkAnn [] [] [] []
noncomputable def isa_sign.env (G : Globs) (k : Nat) (self : Den) : List (Nat × Bool × Den) := []
noncomputable def isa_sign.c (G : Globs) (k : Nat) (self : Den) (x0 x1 : AV) (h : AHeap) : Option (AV × AHeap) := outV (
  bnd (pu h (bin Try.prog .sub 3 true x1 (.int .i64 1))) fun v0 h0 =>
  bnd (pu h0 (bin Try.prog .shl 3 true (.int .i64 1) v0)) fun v1 h1 =>
  bnd (pu h1 (bin Try.prog .geq 3 false x0 v1)) fun v2 h2 =>
  condA v2
  (bnd (pu h2 (bin Try.prog .shl 3 true (.int .i64 1) x1)) fun v3 h3 =>
  bnd (pu h3 (bin Try.prog .sub 3 false x0 v3)) fun v4 h4 =>
  finV [v4] h.length h4)
  (finV [x0] h.length h2))
noncomputable def isa_sign.f (G : Globs) : Nat → Den
  | 0 => fun _ _ => none
  | k + 1 => fun args h => arg2 args fun x0 x1 => (isa_sign.c G k (isa_sign.f G k) x0 x1 h)
theorem isa_sign.step (G : Globs) (k : Nat) (x0 x1 : AV) (h : AHeap) : isa_sign.f G (k + 1) [x0, x1] h = isa_sign.c G k (isa_sign.f G k) x0 x1 h := rfl
/-! alembic/isa.extras: function 23 -/
noncomputable def isa_extras.ann : Ann := mkAnn [] [] [] [(27, [1, 6, 56]), (20, [1, 6, 39]), (15, [1, 6, 27]), (4, [1, 6, 7])]
noncomputable def isa_extras.env (G : Globs) (k : Nat) (self : Den) : List (Nat × Bool × Den) := [(22, true, isa_field.f G k), (26, true, isa_sign.f G k)]
noncomputable def isa_extras.c (G : Globs) (k : Nat) (self : Den) (x0 x1 : AV) (h : AHeap) : Option (AV × AHeap) := outV (
  thenK (
  bnd (pu h (bin Try.prog .eql 3 true x0 (.int .i64 1))) fun v0 h0 =>
  condA v0
  (some (.normal, [x1, x0, v0], h0))
  (bnd (pu h0 (bin Try.prog .eql 3 true x0 (.int .i64 2))) fun v1 h1 =>
  some (.normal, [x1, x0, v1], h1))) fun e2 x2 h2 => exK e2
  (condA (nth x2 2)
  (bnd (pureCall (isa_field.f G k) [(nth x2 0), (.int .i64 21), (.int .i64 2)] h2) fun v3 h3 =>
  bnd (pureCall (isa_field.f G k) [(nth x2 0), (.int .i64 5), (.int .i64 16)] h3) fun v4 h4 =>
  finV [v3, v4] h.length h4)
  (bnd (pu h2 (bin Try.prog .eql 3 true (nth x2 1) (.int .i64 8))) fun v5 h5 =>
  condA v5
  (bnd (pureCall (isa_field.f G k) [(nth x2 0), (.int .i64 10), (.int .i64 5)] h5) fun v6 h6 =>
  finV [v6, (.int .i64 0)] h.length h6)
  (bnd (pu h5 (bin Try.prog .eql 3 true (nth x2 1) (.int .i64 16))) fun v7 h7 =>
  condA v7
  (bnd (pureCall (isa_field.f G k) [(nth x2 0), (.int .i64 12), (.int .i64 4)] h7) fun v8 h8 =>
  finV [v8, (.int .i64 0)] h.length h8)
  (bnd (pu h7 (bin Try.prog .eql 3 true (nth x2 1) (.int .i64 17))) fun v9 h9 =>
  condA v9
  (bnd (pureCall (isa_field.f G k) [(nth x2 0), (.int .i64 12), (.int .i64 4)] h9) fun v10 h10 =>
  bnd (pu h10 (bin Try.prog .xor 3 true v10 (.int .i64 1))) fun v11 h11 =>
  finV [v11, (.int .i64 0)] h.length h11)
  (thenK (
  bnd (pu h9 (bin Try.prog .eql 3 true (nth x2 1) (.int .i64 10))) fun v12 h12 =>
  condA v12
  (some (.normal, [(nth x2 0), (nth x2 1), v12], h12))
  (bnd (pu h12 (bin Try.prog .eql 3 true (nth x2 1) (.int .i64 11))) fun v13 h13 =>
  condA v13
  (some (.normal, [(nth x2 0), (nth x2 1), v13], h13))
  (bnd (pu h13 (bin Try.prog .eql 3 true (nth x2 1) (.int .i64 18))) fun v14 h14 =>
  condA v14
  (some (.normal, [(nth x2 0), (nth x2 1), v14], h14))
  (bnd (pu h14 (bin Try.prog .eql 3 true (nth x2 1) (.int .i64 19))) fun v15 h15 =>
  some (.normal, [(nth x2 0), (nth x2 1), v15], h15))))) fun e16 x16 h16 => exK e16
  (condA (nth x16 2)
  (bnd (pureCall (isa_field.f G k) [(nth x16 0), (.int .i64 10), (.int .i64 12)] h16) fun v17 h17 =>
  finV [(.int .i64 0), v17] h.length h17)
  (bnd (pu h16 (bin Try.prog .eql 3 true (nth x16 1) (.int .i64 12))) fun v18 h18 =>
  condA v18
  (bnd (pureCall (isa_field.f G k) [(nth x16 0), (.int .i64 10), (.int .i64 6)] h18) fun v19 h19 =>
  bnd (pu h19 (bin Try.prog .sub 3 true (.int .i64 63) v19)) fun v20 h20 =>
  finV [(.int .i64 0), v20] h.length h20)
  (thenK (
  bnd (pu h18 (bin Try.prog .eql 3 true (nth x16 1) (.int .i64 13))) fun v21 h21 =>
  condA v21
  (some (.normal, [(nth x16 0), (nth x16 1), v21], h21))
  (bnd (pu h21 (bin Try.prog .eql 3 true (nth x16 1) (.int .i64 14))) fun v22 h22 =>
  some (.normal, [(nth x16 0), (nth x16 1), v22], h22))) fun e23 x23 h23 => exK e23
  (condA (nth x23 2)
  (bnd (pureCall (isa_field.f G k) [(nth x23 0), (.int .i64 16), (.int .i64 6)] h23) fun v24 h24 =>
  finV [(.int .i64 0), v24] h.length h24)
  (bnd (pu h23 (bin Try.prog .eql 3 true (nth x23 1) (.int .i64 20))) fun v25 h25 =>
  condA v25
  (bnd (pureCall (isa_field.f G k) [(nth x23 0), (.int .i64 0), (.int .i64 26)] h25) fun v26 h26 =>
  bnd (pureCall (isa_sign.f G k) [v26, (.int .i64 26)] h26) fun v27 h27 =>
  finV [(.int .i64 0), v27] h.length h27)
  (bnd (pu h25 (bin Try.prog .eql 3 true (nth x23 1) (.int .i64 21))) fun v28 h28 =>
  condA v28
  (bnd (pureCall (isa_field.f G k) [(nth x23 0), (.int .i64 0), (.int .i64 4)] h28) fun v29 h29 =>
  bnd (pureCall (isa_field.f G k) [(nth x23 0), (.int .i64 5), (.int .i64 19)] h29) fun v30 h30 =>
  bnd (pureCall (isa_sign.f G k) [v30, (.int .i64 19)] h30) fun v31 h31 =>
  finV [v29, v31] h.length h31)
  (thenK (
  bnd (pu h28 (bin Try.prog .eql 3 true (nth x23 1) (.int .i64 22))) fun v32 h32 =>
  condA v32
  (some (.normal, [(nth x23 0), (nth x23 1), v32], h32))
  (bnd (pu h32 (bin Try.prog .eql 3 true (nth x23 1) (.int .i64 23))) fun v33 h33 =>
  some (.normal, [(nth x23 0), (nth x23 1), v33], h33))) fun e34 x34 h34 => exK e34
  (condA (nth x34 2)
  (bnd (pureCall (isa_field.f G k) [(nth x34 0), (.int .i64 5), (.int .i64 19)] h34) fun v35 h35 =>
  bnd (pureCall (isa_sign.f G k) [v35, (.int .i64 19)] h35) fun v36 h36 =>
  finV [(.int .i64 0), v36] h.length h36)
  (bnd (pu h34 (bin Try.prog .eql 3 true (nth x34 1) (.int .i64 24))) fun v37 h37 =>
  condA v37
  (bnd (pureCall (isa_field.f G k) [(nth x34 0), (.int .i64 5), (.int .i64 16)] h37) fun v38 h38 =>
  finV [(.int .i64 0), v38] h.length h38)
  (finV [(.int .i64 0), (.int .i64 0)] h.length h37)))
  (fun i34 => if i34 = 0 then (finV [(.int .i64 0), (.int .i64 0)] h.length h34) else (none))
  (finV [.undef, .undef] h.length h34)))))
  (fun i23 => if i23 = 0 then (finV [(.int .i64 0), (.int .i64 0)] h.length h23) else (none))
  (finV [.undef, .undef] h.length h23))))
  (fun i16 => if i16 = 0 then (finV [(.int .i64 0), (.int .i64 0)] h.length h16) else (none))
  (finV [.undef, .undef] h.length h16))))))
  (fun i2 => if i2 = 0 then (finV [(.int .i64 0), (.int .i64 0)] h.length h2) else (none))
  (finV [.undef, .undef] h.length h2))
noncomputable def isa_extras.f (G : Globs) : Nat → Den
  | 0 => fun _ _ => none
  | k + 1 => fun args h => arg2 args fun x0 x1 => (isa_extras.c G k (isa_extras.f G k) x0 x1 h)
theorem isa_extras.step (G : Globs) (k : Nat) (x0 x1 : AV) (h : AHeap) : isa_extras.f G (k + 1) [x0, x1] h = isa_extras.c G k (isa_extras.f G k) x0 x1 h := rfl
/-! alembic/isa.as: function 15 -/
noncomputable def isa_as.ann : Ann := mkAnn [] [] [] [(9, [0, 1, 4, 8]), (7, [0, 1, 4, 6, 8]), (5, [0, 1, 4, 6, 8])]
noncomputable def isa_as.env (G : Globs) (k : Nat) (self : Den) : List (Nat × Bool × Den) := [(8, true, isa_Word.f G k), (12, true, isa_of.f G k), (22, true, isa_field.f G k), (23, true, isa_extras.f G k)]
noncomputable def isa_as.c (G : Globs) (k : Nat) (self : Den) (x0 x1 : AV) (h : AHeap) : Option (AV × AHeap) := outV (
  bnd (boxA 26 (.agg [(.int .i64 0), (.int .i64 0), (.int .i64 0), (.int .i64 0), (.int .i64 0), (.int .i64 0)]) h) fun v0 h0 =>
  bnd (pureCall (isa_of.f G k) [x0] h0) fun v1 h1 =>
  bnd (pu h1 (extractA v1 0)) fun v2 h2 =>
  bnd (pu h2 (extractA v1 1)) fun v3 h3 =>
  bnd (boxA 39 (.agg [(.str ⟨#[]⟩), (.int .u32 0), (.bool false), (.bool false), (.bool false), (.bool false), (.int .i64 0)]) h3) fun v4 h4 =>
  bnd (stS (storeV 7 v4 v2 h4)) fun v5 h5 =>
  bnd (pu h5 (buildSt [(0, 1), (1, 1), (2, 1), (3, 1), (4, 1), (5, 1)] [(.int .i64 0), (.int .i64 0), (.int .i64 0), (.int .i64 0), (.int .i64 0), (.int .i64 0)] [(0, x0)])) fun v6 h6 =>
  bnd (boxA 26 (.agg [(.int .i64 0), (.int .i64 0), (.int .i64 0), (.int .i64 0), (.int .i64 0), (.int .i64 0)]) h6) fun v7 h7 =>
  bnd (stS (storeV 6 v7 v6 h7)) fun v8 h8 =>
  thenK (
  bnd (pu h8 (fieldAddrV 2 v4)) fun v9 h9 =>
  bnd (pu h9 (loadV G false 1 v9 h9)) fun v10 h10 =>
  condA v10
  (bnd (pureCall (isa_field.f G k) [x1, (.int .i64 0), (.int .i64 5)] h10) fun v11 h11 =>
  bnd (pu h11 (fieldAddrV 1 v7)) fun v12 h12 =>
  bnd (stS (storeV 1 v12 v11 h12)) fun v13 h13 =>
  some (.normal, [x0, x1, v0, v4, v7], h13))
  (some (.normal, [x0, x1, v0, v4, v7], h10))) fun e14 x14 h14 => exK e14
  (thenK (
  bnd (pu h14 (fieldAddrV 3 (nth x14 3))) fun v15 h15 =>
  bnd (pu h15 (loadV G false 1 v15 h15)) fun v16 h16 =>
  condA v16
  (bnd (pureCall (isa_field.f G k) [(nth x14 1), (.int .i64 5), (.int .i64 5)] h16) fun v17 h17 =>
  bnd (pu h17 (fieldAddrV 2 (nth x14 4))) fun v18 h18 =>
  bnd (stS (storeV 1 v18 v17 h18)) fun v19 h19 =>
  some (.normal, [(nth x14 0), (nth x14 1), (nth x14 2), (nth x14 3), (nth x14 4)], h19))
  (some (.normal, [(nth x14 0), (nth x14 1), (nth x14 2), (nth x14 3), (nth x14 4)], h16))) fun e20 x20 h20 => exK e20
  (thenK (
  bnd (pu h20 (fieldAddrV 4 (nth x20 3))) fun v21 h21 =>
  bnd (pu h21 (loadV G false 1 v21 h21)) fun v22 h22 =>
  condA v22
  (bnd (pureCall (isa_field.f G k) [(nth x20 1), (.int .i64 16), (.int .i64 5)] h22) fun v23 h23 =>
  bnd (pu h23 (fieldAddrV 3 (nth x20 4))) fun v24 h24 =>
  bnd (stS (storeV 1 v24 v23 h24)) fun v25 h25 =>
  some (.normal, [(nth x20 0), (nth x20 1), (nth x20 2), (nth x20 4)], h25))
  (some (.normal, [(nth x20 0), (nth x20 1), (nth x20 2), (nth x20 4)], h22))) fun e26 x26 h26 => exK e26
  (bnd (pureCall (isa_extras.f G k) [(nth x26 0), (nth x26 1)] h26) fun v27 h27 =>
  bnd (pu h27 (extractA v27 0)) fun v28 h28 =>
  bnd (pu h28 (extractA v27 1)) fun v29 h29 =>
  bnd (pu h29 (fieldAddrV 4 (nth x26 3))) fun v30 h30 =>
  bnd (stS (storeV 1 v30 v28 h30)) fun v31 h31 =>
  bnd (pu h31 (fieldAddrV 5 (nth x26 3))) fun v32 h32 =>
  bnd (stS (storeV 1 v32 v29 h32)) fun v33 h33 =>
  bnd (pu h33 (loadV G true 6 (nth x26 3) h33)) fun v34 h34 =>
  bnd (pureCall (isa_Word.f G k) [v34] h34) fun v35 h35 =>
  bnd (pu h35 (extractA v35 0)) fun v36 h36 =>
  bnd (pu h36 (extractA v35 1)) fun v37 h37 =>
  bnd (pu h37 (loadV G true 6 (nth x26 3) h37)) fun v38 h38 =>
  bnd (gd v37 true h38 (some (v36, h38))) fun v39 h39 =>
  bnd (gd v37 true h39 (some ((nth x26 1), h39))) fun v40 h40 =>
  bnd (gd v37 true h40 (pu h40 (bin Try.prog .eql 27 false v39 v40))) fun v41 h41 =>
  bnd (pu h41 (pickA v37 v41 (.bool false))) fun v42 h42 =>
  bnd (stS (storeV 6 (nth x26 2) v38 h42)) fun v43 h43 =>
  finL [loadV G true 6 (nth x26 2) h43, some v42] h.length h43)
  (fun i26 => none)
  (finL [loadV G true 6 (nth x26 2) h26, some .undef] h.length h26))
  (fun i20 => none)
  (finL [loadV G true 6 (nth x20 2) h20, some .undef] h.length h20))
  (fun i14 => none)
  (finL [loadV G true 6 (nth x14 2) h14, some .undef] h.length h14))
noncomputable def isa_as.f (G : Globs) : Nat → Den
  | 0 => fun _ _ => none
  | k + 1 => fun args h => arg2 args fun x0 x1 => (isa_as.c G k (isa_as.f G k) x0 x1 h)
theorem isa_as.step (G : Globs) (k : Nat) (x0 x1 : AV) (h : AHeap) : isa_as.f G (k + 1) [x0, x1] h = isa_as.c G k (isa_as.f G k) x0 x1 h := rfl
/-! alembic/isa.Of: function 10 -/
noncomputable def isa_Of.ann : Ann := mkAnn [] [] [(2, [0, 2, 3, 4])] []
noncomputable def isa_Of.env (G : Globs) (k : Nat) (self : Den) : List (Nat × Bool × Den) := [(15, true, isa_as.f G k)]
noncomputable def isa_Of.l2 (G : Globs) (k n0 : Nat) (self : Den) (lp : LoopF) : LoopF := fun xs h0 => cutK n0 xs h0 fun h =>
  bnd (pu h (bin Try.prog .leq 3 true (nth xs 3) (.int .i64 24))) fun v2 h2 =>
  condA v2
  (bnd (pureCall (isa_as.f G k) [(nth xs 3), (nth xs 0)] h2) fun v3 h3 =>
  bnd (pu h3 (extractA v3 0)) fun v4 h4 =>
  bnd (pu h4 (extractA v3 1)) fun v5 h5 =>
  bnd (boxA 26 (.agg [(.int .i64 0), (.int .i64 0), (.int .i64 0), (.int .i64 0), (.int .i64 0), (.int .i64 0)]) h5) fun v6 h6 =>
  bnd (stS (storeV 6 v6 v4 h6)) fun v7 h7 =>
  bnd (gd v5 true h7 (some ((nth xs 3), h7))) fun v8 h8 =>
  bnd (gd v5 true h8 (pu h8 (bin Try.prog .neq 3 true v8 (.int .i64 12)))) fun v9 h9 =>
  bnd (gd v5 true h9 (some (v9, h9))) fun v10 h10 =>
  bnd (gd v10 false h10 (pu h10 (fieldAddrV 5 v6))) fun v11 h11 =>
  bnd (gd v10 false h11 (pu h11 (loadV G false 1 v11 h11))) fun v12 h12 =>
  bnd (gd v10 false h12 (pu h12 (bin Try.prog .neq 3 true v12 (.int .i64 0)))) fun v13 h13 =>
  bnd (gd v5 true h13 (pu h13 (pickA v10 (.bool true) v13))) fun v14 h14 =>
  bnd (pu h14 (pickA v5 v14 (.bool false))) fun v15 h15 =>
  condA v15
  (bnd (pu h15 (loadV G true 6 v6 h15)) fun v16 h16 =>
  bnd (stS (storeV 6 (nth xs 1) v16 h16)) fun v17 h17 =>
  some (.ret, [(nth xs 0), (nth xs 1), (.bool true), (nth xs 3)], h17))
  (bnd (pu h15 (bin Try.prog .add 3 true (nth xs 3) (.int .i64 1))) fun v18 h18 =>
  lp [(nth xs 0), (nth xs 1), (nth xs 2), v18] h18))
  (some (.exit 0, [(nth xs 0), (nth xs 1), (nth xs 2), (nth xs 3)], h2))
noncomputable def isa_Of.c (G : Globs) (k : Nat) (self : Den) (x0 : AV) (h : AHeap) : Option (AV × AHeap) := outV (
  bnd (boxA 26 (.agg [(.int .i64 0), (.int .i64 0), (.int .i64 0), (.int .i64 0), (.int .i64 0), (.int .i64 0)]) h) fun v0 h0 =>
  thenK (loopN (isa_Of.l2 G k h0.length self) k [x0, v0, (.bool false), (.int .i64 1)] h0) fun e1 x1 h1 => exK e1
  (bnd (pu h1 (buildSt [(0, 1), (1, 1), (2, 1), (3, 1), (4, 1), (5, 1)] [(.int .i64 0), (.int .i64 0), (.int .i64 0), (.int .i64 0), (.int .i64 0), (.int .i64 0)] [])) fun v19 h19 =>
  bnd (stS (storeV 6 (nth x1 1) v19 h19)) fun v20 h20 =>
  finL [loadV G true 6 (nth x1 1) h20, some (.bool false)] h.length h20)
  (fun i1 => if i1 = 0 then (bnd (pu h1 (buildSt [(0, 1), (1, 1), (2, 1), (3, 1), (4, 1), (5, 1)] [(.int .i64 0), (.int .i64 0), (.int .i64 0), (.int .i64 0), (.int .i64 0), (.int .i64 0)] [])) fun v21 h21 =>
  bnd (stS (storeV 6 (nth x1 1) v21 h21)) fun v22 h22 =>
  finL [loadV G true 6 (nth x1 1) h22, some (.bool false)] h.length h22) else (none))
  (finL [loadV G true 6 (nth x1 1) h1, some (nth x1 2)] h.length h1))
noncomputable def isa_Of.f (G : Globs) : Nat → Den
  | 0 => fun _ _ => none
  | k + 1 => fun args h => arg1 args fun x0 => (isa_Of.c G k (isa_Of.f G k) x0 h)
theorem isa_Of.step (G : Globs) (k : Nat) (x0 : AV) (h : AHeap) : isa_Of.f G (k + 1) [x0] h = isa_Of.c G k (isa_Of.f G k) x0 h := rfl
/-! alembic/alembicref.SameInstr: function 11 -/
noncomputable def alembicref_SameInstr.ann : Ann := mkAnn [] [] [] []
noncomputable def alembicref_SameInstr.env (G : Globs) (k : Nat) (self : Den) : List (Nat × Bool × Den) := []
noncomputable def alembicref_SameInstr.c (G : Globs) (k : Nat) (self : Den) (x0 x1 : AV) (h : AHeap) : Option (AV × AHeap) := outV (
  bnd (boxRoA x0 h) fun v0 h0 =>
  bnd (boxRoA x1 h0) fun v1 h1 =>
  bnd (pu h1 (fieldAddrV 0 v0)) fun v2 h2 =>
  bnd (pu h2 (loadV G false 1 v2 h2)) fun v3 h3 =>
  bnd (pu h3 (fieldAddrV 0 v1)) fun v4 h4 =>
  bnd (pu h4 (loadV G false 1 v4 h4)) fun v5 h5 =>
  bnd (pu h5 (bin Try.prog .eql 3 false v3 v5)) fun v6 h6 =>
  bnd (gd v6 true h6 (pu h6 (fieldAddrV 1 v0))) fun v7 h7 =>
  bnd (gd v6 true h7 (pu h7 (loadV G false 1 v7 h7))) fun v8 h8 =>
  bnd (gd v6 true h8 (pu h8 (fieldAddrV 1 v1))) fun v9 h9 =>
  bnd (gd v6 true h9 (pu h9 (loadV G false 1 v9 h9))) fun v10 h10 =>
  bnd (gd v6 true h10 (pu h10 (bin Try.prog .eql 3 false v8 v10))) fun v11 h11 =>
  bnd (pu h11 (pickA v6 v11 (.bool false))) fun v12 h12 =>
  bnd (gd v12 true h12 (pu h12 (fieldAddrV 2 v0))) fun v13 h13 =>
  bnd (gd v12 true h13 (pu h13 (loadV G false 1 v13 h13))) fun v14 h14 =>
  bnd (gd v12 true h14 (pu h14 (fieldAddrV 2 v1))) fun v15 h15 =>
  bnd (gd v12 true h15 (pu h15 (loadV G false 1 v15 h15))) fun v16 h16 =>
  bnd (gd v12 true h16 (pu h16 (bin Try.prog .eql 3 false v14 v16))) fun v17 h17 =>
  bnd (pu h17 (pickA v12 v17 (.bool false))) fun v18 h18 =>
  bnd (gd v18 true h18 (pu h18 (fieldAddrV 3 v0))) fun v19 h19 =>
  bnd (gd v18 true h19 (pu h19 (loadV G false 1 v19 h19))) fun v20 h20 =>
  bnd (gd v18 true h20 (pu h20 (fieldAddrV 3 v1))) fun v21 h21 =>
  bnd (gd v18 true h21 (pu h21 (loadV G false 1 v21 h21))) fun v22 h22 =>
  bnd (gd v18 true h22 (pu h22 (bin Try.prog .eql 3 false v20 v22))) fun v23 h23 =>
  bnd (pu h23 (pickA v18 v23 (.bool false))) fun v24 h24 =>
  bnd (gd v24 true h24 (pu h24 (fieldAddrV 4 v0))) fun v25 h25 =>
  bnd (gd v24 true h25 (pu h25 (loadV G false 1 v25 h25))) fun v26 h26 =>
  bnd (gd v24 true h26 (pu h26 (fieldAddrV 4 v1))) fun v27 h27 =>
  bnd (gd v24 true h27 (pu h27 (loadV G false 1 v27 h27))) fun v28 h28 =>
  bnd (gd v24 true h28 (pu h28 (bin Try.prog .eql 3 false v26 v28))) fun v29 h29 =>
  bnd (pu h29 (pickA v24 v29 (.bool false))) fun v30 h30 =>
  bnd (gd v30 true h30 (pu h30 (fieldAddrV 5 v0))) fun v31 h31 =>
  bnd (gd v30 true h31 (pu h31 (loadV G false 1 v31 h31))) fun v32 h32 =>
  bnd (gd v30 true h32 (pu h32 (fieldAddrV 5 v1))) fun v33 h33 =>
  bnd (gd v30 true h33 (pu h33 (loadV G false 1 v33 h33))) fun v34 h34 =>
  bnd (gd v30 true h34 (pu h34 (bin Try.prog .eql 3 false v32 v34))) fun v35 h35 =>
  bnd (pu h35 (pickA v30 v35 (.bool false))) fun v36 h36 =>
  finV [v36] h.length h36)
noncomputable def alembicref_SameInstr.f (G : Globs) : Nat → Den
  | 0 => fun _ _ => none
  | k + 1 => fun args h => arg2 args fun x0 x1 => (alembicref_SameInstr.c G k (alembicref_SameInstr.f G k) x0 x1 h)
theorem alembicref_SameInstr.step (G : Globs) (k : Nat) (x0 x1 : AV) (h : AHeap) : alembicref_SameInstr.f G (k + 1) [x0, x1] h = alembicref_SameInstr.c G k (alembicref_SameInstr.f G k) x0 x1 h := rfl
/-! alembic/alembiclaw22.IsaBack: function 5 -/
noncomputable def alembiclaw22_IsaBack.ann : Ann := mkAnn [] [] [] [(22, [7, 12, 14, 15, 18, 19]), (17, [4, 7, 12, 14, 15, 16, 17, 18]), (9, [3, 4, 6, 7])]
noncomputable def alembiclaw22_IsaBack.env (G : Globs) (k : Nat) (self : Den) : List (Nat × Bool × Den) := [(6, true, alembiclaw22_first.f G k), (8, true, isa_Word.f G k), (10, true, isa_Of.f G k), (11, true, alembicref_SameInstr.f G k)]
noncomputable def alembiclaw22_IsaBack.c (G : Globs) (k : Nat) (self : Den) (x0 x1 x2 : AV) (h : AHeap) : Option (AV × AHeap) := outV (
  bnd (boxRoA x0 h) fun v0 h0 =>
  bnd (boxRoA x1 h0) fun v1 h1 =>
  bnd (pureCall (alembiclaw22_first.f G k) [] h1) fun v2 h2 =>
  bnd (pu h2 (un .not v2)) fun v3 h3 =>
  condA v3
  (finV [(.bool false)] h.length h3)
  (bnd (pureCall (isa_Of.f G k) [x2] h3) fun v4 h4 =>
  bnd (pu h4 (extractA v4 0)) fun v5 h5 =>
  bnd (pu h5 (extractA v4 1)) fun v6 h6 =>
  bnd (boxA 26 (.agg [(.int .i64 0), (.int .i64 0), (.int .i64 0), (.int .i64 0), (.int .i64 0), (.int .i64 0)]) h6) fun v7 h7 =>
  bnd (stS (storeV 6 v7 v5 h7)) fun v8 h8 =>
  thenK (
  condA v6
  (bnd (pu h8 (loadV G true 6 v7 h8)) fun v9 h9 =>
  bnd (pureCall (isa_Word.f G k) [v9] h9) fun v10 h10 =>
  bnd (pu h10 (extractA v10 0)) fun v11 h11 =>
  bnd (pu h11 (extractA v10 1)) fun v12 h12 =>
  bnd (pu h12 (un .not v12)) fun v13 h13 =>
  bnd (gd v13 false h13 (some (v11, h13))) fun v14 h14 =>
  bnd (gd v13 false h14 (some (x2, h14))) fun v15 h15 =>
  bnd (gd v13 false h15 (pu h15 (bin Try.prog .neq 27 false v14 v15))) fun v16 h16 =>
  bnd (pu h16 (pickA v13 (.bool true) v16)) fun v17 h17 =>
  condA v17
  (some (.ret, [v0, v1, (.bool false), v2], h17))
  (some (.normal, [v0, v1, (.bool false), v2], h17)))
  (some (.normal, [v0, v1, (.bool false), v2], h8))) fun e18 x18 h18 => exK e18
  (bnd (pu h18 (loadV G true 6 (nth x18 0) h18)) fun v19 h19 =>
  bnd (pureCall (isa_Word.f G k) [v19] h19) fun v20 h20 =>
  bnd (pu h20 (extractA v20 0)) fun v21 h21 =>
  bnd (pu h21 (extractA v20 1)) fun v22 h22 =>
  bnd (pu h22 (loadV G true 6 (nth x18 1) h22)) fun v23 h23 =>
  bnd (pureCall (isa_Word.f G k) [v23] h23) fun v24 h24 =>
  bnd (pu h24 (extractA v24 0)) fun v25 h25 =>
  bnd (pu h25 (extractA v24 1)) fun v26 h26 =>
  bnd (pu h26 (un .not v22)) fun v27 h27 =>
  condA v27
  (bnd (gd (nth x18 3) true h27 (some (v21, h27))) fun v28 h28 =>
  bnd (gd (nth x18 3) true h28 (pu h28 (bin Try.prog .eql 27 true v28 (.int .u32 0)))) fun v29 h29 =>
  bnd (pu h29 (pickA (nth x18 3) v29 (.bool false))) fun v30 h30 =>
  finV [v30] h.length h30)
  (bnd (pureCall (isa_Of.f G k) [v21] h27) fun v31 h31 =>
  bnd (pu h31 (extractA v31 0)) fun v32 h32 =>
  bnd (pu h32 (extractA v31 1)) fun v33 h33 =>
  bnd (boxA 26 (.agg [(.int .i64 0), (.int .i64 0), (.int .i64 0), (.int .i64 0), (.int .i64 0), (.int .i64 0)]) h33) fun v34 h34 =>
  bnd (stS (storeV 6 v34 v32 h34)) fun v35 h35 =>
  bnd (pu h35 (loadV G true 6 (nth x18 0) h35)) fun v36 h36 =>
  bnd (boxA 26 (.agg [(.int .i64 0), (.int .i64 0), (.int .i64 0), (.int .i64 0), (.int .i64 0), (.int .i64 0)]) h36) fun v37 h37 =>
  bnd (stS (storeV 6 v37 v36 h37)) fun v38 h38 =>
  thenK (
  bnd (pu h38 (fieldAddrV 0 (nth x18 0))) fun v39 h39 =>
  bnd (pu h39 (loadV G false 1 v39 h39)) fun v40 h40 =>
  bnd (pu h40 (bin Try.prog .eql 3 true v40 (.int .i64 12))) fun v41 h41 =>
  bnd (gd v41 true h41 (pu h41 (fieldAddrV 5 (nth x18 0)))) fun v42 h42 =>
  bnd (gd v41 true h42 (pu h42 (loadV G false 1 v42 h42))) fun v43 h43 =>
  bnd (gd v41 true h43 (pu h43 (bin Try.prog .eql 3 true v43 (.int .i64 0)))) fun v44 h44 =>
  bnd (pu h44 (pickA v41 v44 (.bool false))) fun v45 h45 =>
  condA v45
  (bnd (pu h45 (fieldAddrV 0 v37)) fun v46 h46 =>
  bnd (stS (storeV 1 v46 (.int .i64 13) h46)) fun v47 h47 =>
  some (.normal, [(nth x18 1), (nth x18 3), v21, v25, v26, v34, v33, v37], h47))
  (some (.normal, [(nth x18 1), (nth x18 3), v21, v25, v26, v34, v33, v37], h45))) fun e48 x48 h48 => exK e48
  (bnd (pu h48 (un .not (nth x48 6))) fun v49 h49 =>
  bnd (gd v49 false h49 (pu h49 (loadV G true 6 (nth x48 5) h49))) fun v50 h50 =>
  bnd (gd v49 false h50 (pu h50 (loadV G true 6 (nth x48 7) h50))) fun v51 h51 =>
  bnd (gd v49 false h51 (pureCall (alembicref_SameInstr.f G k) [v50, v51] h51)) fun v52 h52 =>
  bnd (gd v49 false h52 (pu h52 (un .not v52))) fun v53 h53 =>
  bnd (pu h53 (pickA v49 (.bool true) v53)) fun v54 h54 =>
  condA v54
  (finV [(.bool false)] h.length h54)
  (bnd (pu h54 (loadV G true 6 (nth x48 0) h54)) fun v55 h55 =>
  bnd (boxA 26 (.agg [(.int .i64 0), (.int .i64 0), (.int .i64 0), (.int .i64 0), (.int .i64 0), (.int .i64 0)]) h55) fun v56 h56 =>
  bnd (stS (storeV 6 v56 v55 h56)) fun v57 h57 =>
  thenK (
  bnd (pu h57 (fieldAddrV 0 (nth x48 0))) fun v58 h58 =>
  bnd (pu h58 (loadV G false 1 v58 h58)) fun v59 h59 =>
  bnd (pu h59 (bin Try.prog .eql 3 true v59 (.int .i64 12))) fun v60 h60 =>
  bnd (gd v60 true h60 (pu h60 (fieldAddrV 5 (nth x48 0)))) fun v61 h61 =>
  bnd (gd v60 true h61 (pu h61 (loadV G false 1 v61 h61))) fun v62 h62 =>
  bnd (gd v60 true h62 (pu h62 (bin Try.prog .eql 3 true v62 (.int .i64 0)))) fun v63 h63 =>
  bnd (pu h63 (pickA v60 v63 (.bool false))) fun v64 h64 =>
  condA v64
  (bnd (pu h64 (fieldAddrV 0 v56)) fun v65 h65 =>
  bnd (stS (storeV 1 v65 (.int .i64 13) h65)) fun v66 h66 =>
  some (.normal, [(nth x48 1), (nth x48 2), (nth x48 3), (nth x48 4), (nth x48 7), v56], h66))
  (some (.normal, [(nth x48 1), (nth x48 2), (nth x48 3), (nth x48 4), (nth x48 7), v56], h64))) fun e67 x67 h67 => exK e67
  (bnd (gd (nth x67 0) true h67 (some ((nth x67 3), h67))) fun v68 h68 =>
  bnd (gd (nth x67 0) true h68 (pu h68 (un .not v68))) fun v69 h69 =>
  bnd (gd (nth x67 0) true h69 (some (v69, h69))) fun v70 h70 =>
  bnd (gd v70 false h70 (some ((nth x67 1), h70))) fun v71 h71 =>
  bnd (gd v70 false h71 (some ((nth x67 2), h71))) fun v72 h72 =>
  bnd (gd v70 false h72 (pu h72 (bin Try.prog .eql 27 false v71 v72))) fun v73 h73 =>
  bnd (gd v70 false h73 (pu h73 (loadV G true 6 (nth x67 4) h73))) fun v74 h74 =>
  bnd (gd v70 false h74 (pu h74 (loadV G true 6 (nth x67 5) h74))) fun v75 h75 =>
  bnd (gd v70 false h75 (pureCall (alembicref_SameInstr.f G k) [v74, v75] h75)) fun v76 h76 =>
  bnd (gd v70 false h76 (pu h76 (bin Try.prog .eql 4 false v73 v76))) fun v77 h77 =>
  bnd (gd (nth x67 0) true h77 (pu h77 (pickA v70 (.bool true) v77))) fun v78 h78 =>
  bnd (pu h78 (pickA (nth x67 0) v78 (.bool false))) fun v79 h79 =>
  finV [v79] h.length h79)
  (fun i67 => none)
  (finV [.undef] h.length h67)))
  (fun i48 => none)
  (finV [.undef] h.length h48)))
  (fun i18 => none)
  (finV [(nth x18 2)] h.length h18)))
noncomputable def alembiclaw22_IsaBack.f (G : Globs) : Nat → Den
  | 0 => fun _ _ => none
  | k + 1 => fun args h => arg3 args fun x0 x1 x2 => (alembiclaw22_IsaBack.c G k (alembiclaw22_IsaBack.f G k) x0 x1 x2 h)
theorem alembiclaw22_IsaBack.step (G : Globs) (k : Nat) (x0 x1 x2 : AV) (h : AHeap) : alembiclaw22_IsaBack.f G (k + 1) [x0, x1, x2] h = alembiclaw22_IsaBack.c G k (alembiclaw22_IsaBack.f G k) x0 x1 x2 h := rfl
end Go.Proofs.Ytofhkjacpjfclaa.Mir
