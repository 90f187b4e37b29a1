/- Part 3 of the proof: the functions that the statement reaches, and their contracts. -/
import Derived.Test.YtbamoecablpfjaaV2
import Derived.Test.YtbamoecablpfjaaProg
import Derived.KernelRfl
namespace Go.Proofs.Ytbamoecablpfjaa.Mir
open Go
set_option linter.unusedVariables false
/-! alembic/isa.two: function 14 -/
noncomputable def isa_two.ann : Ann := mkAnn [] [] [] []
noncomputable def isa_two.env (G : Globs) (k : Nat) (self : Den) : List (Nat × Bool × Den) := []
noncomputable def isa_two.c (G : Globs) (k : Nat) (self : Den) (x0 x1 x2 : AV) (h : AHeap) : Option (AV × AHeap) := outV (
  bnd (boxA 34 (.agg [(.str ⟨#[]⟩), (.int .u32 0), (.bool false), (.bool false), (.bool false), (.bool false), (.int .i64 0)]) h) fun v0 h0 =>
  bnd (pu h0 (buildSt [(0, 1), (1, 1), (2, 1), (3, 1), (4, 1), (5, 1), (6, 1)] [(.str ⟨#[]⟩), (.int .u32 0), (.bool false), (.bool false), (.bool false), (.bool false), (.int .i64 0)] [(0, x0), (1, x1), (2, (.bool true)), (3, (.bool true)), (6, x2)])) fun v1 h1 =>
  bnd (stS (storeV 7 v0 v1 h1)) fun v2 h2 =>
  finL [loadV G true 7 v0 h2] h.length h2)
noncomputable def isa_two.f (G : Globs) : Nat → Den
  | 0 => fun _ _ => none
  | k + 1 => fun args h => arg3 args fun x0 x1 x2 => (isa_two.c G k (isa_two.f G k) x0 x1 x2 h)
theorem isa_two.step (G : Globs) (k : Nat) (x0 x1 x2 : AV) (h : AHeap) : isa_two.f G (k + 1) [x0, x1, x2] h = isa_two.c G k (isa_two.f G k) x0 x1 x2 h := rfl
/-! alembic/isa.three: function 21 -/
noncomputable def isa_three.ann : Ann := mkAnn [] [] [] []
noncomputable def isa_three.env (G : Globs) (k : Nat) (self : Den) : List (Nat × Bool × Den) := []
noncomputable def isa_three.c (G : Globs) (k : Nat) (self : Den) (x0 x1 : AV) (h : AHeap) : Option (AV × AHeap) := outV (
  bnd (boxA 34 (.agg [(.str ⟨#[]⟩), (.int .u32 0), (.bool false), (.bool false), (.bool false), (.bool false), (.int .i64 0)]) h) fun v0 h0 =>
  bnd (pu h0 (buildSt [(0, 1), (1, 1), (2, 1), (3, 1), (4, 1), (5, 1), (6, 1)] [(.str ⟨#[]⟩), (.int .u32 0), (.bool false), (.bool false), (.bool false), (.bool false), (.int .i64 0)] [(0, x0), (1, x1), (2, (.bool true)), (3, (.bool true)), (4, (.bool true))])) fun v1 h1 =>
  bnd (stS (storeV 7 v0 v1 h1)) fun v2 h2 =>
  finL [loadV G true 7 v0 h2] h.length h2)
noncomputable def isa_three.f (G : Globs) : Nat → Den
  | 0 => fun _ _ => none
  | k + 1 => fun args h => arg2 args fun x0 x1 => (isa_three.c G k (isa_three.f G k) x0 x1 h)
theorem isa_three.step (G : Globs) (k : Nat) (x0 x1 : AV) (h : AHeap) : isa_three.f G (k + 1) [x0, x1] h = isa_three.c G k (isa_three.f G k) x0 x1 h := rfl
/-! alembic/isa.plain: function 15 -/
noncomputable def isa_plain.ann : Ann := mkAnn [] [] [] []
noncomputable def isa_plain.env (G : Globs) (k : Nat) (self : Den) : List (Nat × Bool × Den) := [(14, true, isa_two.f G k), (21, true, isa_three.f G k)]
noncomputable def isa_plain.c (G : Globs) (k : Nat) (self : Den) (x0 : AV) (h : AHeap) : Option (AV × AHeap) := outV (
  bnd (boxA 34 (.agg [(.str ⟨#[]⟩), (.int .u32 0), (.bool false), (.bool false), (.bool false), (.bool false), (.int .i64 0)]) h) fun v0 h0 =>
  bnd (pu h0 (bin Try.prog .eql 3 true x0 (.int .i64 1))) fun v1 h1 =>
  condA v1
  (bnd (pu h1 (buildSt [(0, 1), (1, 1), (2, 1), (3, 1), (4, 1), (5, 1), (6, 1)] [(.str ⟨#[]⟩), (.int .u32 0), (.bool false), (.bool false), (.bool false), (.bool false), (.int .i64 0)] [(0, (.str ⟨#[109, 111, 118, 122]⟩)), (1, (.int .u32 3531603968)), (2, (.bool true)), (5, (.bool true)), (6, (.int .i64 16))])) fun v2 h2 =>
  bnd (stS (storeV 7 v0 v2 h2)) fun v3 h3 =>
  finL [loadV G true 7 v0 h3, some (.bool true)] h.length h3)
  (bnd (pu h1 (bin Try.prog .eql 3 true x0 (.int .i64 2))) fun v4 h4 =>
  condA v4
  (bnd (pu h4 (buildSt [(0, 1), (1, 1), (2, 1), (3, 1), (4, 1), (5, 1), (6, 1)] [(.str ⟨#[]⟩), (.int .u32 0), (.bool false), (.bool false), (.bool false), (.bool false), (.int .i64 0)] [(0, (.str ⟨#[109, 111, 118, 107]⟩)), (1, (.int .u32 4068474880)), (2, (.bool true)), (5, (.bool true)), (6, (.int .i64 16))])) fun v5 h5 =>
  bnd (stS (storeV 7 v0 v5 h5)) fun v6 h6 =>
  finL [loadV G true 7 v0 h6, some (.bool true)] h.length h6)
  (bnd (pu h4 (bin Try.prog .eql 3 true x0 (.int .i64 3))) fun v7 h7 =>
  condA v7
  (bnd (pureCall (isa_three.f G k) [(.str ⟨#[97, 100, 100]⟩), (.int .u32 2332033024)] h7) fun v8 h8 =>
  bnd (stS (storeV 7 v0 v8 h8)) fun v9 h9 =>
  finL [loadV G true 7 v0 h9, some (.bool true)] h.length h9)
  (bnd (pu h7 (bin Try.prog .eql 3 true x0 (.int .i64 4))) fun v10 h10 =>
  condA v10
  (bnd (pureCall (isa_three.f G k) [(.str ⟨#[115, 117, 98]⟩), (.int .u32 3405774848)] h10) fun v11 h11 =>
  bnd (stS (storeV 7 v0 v11 h11)) fun v12 h12 =>
  finL [loadV G true 7 v0 h12, some (.bool true)] h.length h12)
  (bnd (pu h10 (bin Try.prog .eql 3 true x0 (.int .i64 5))) fun v13 h13 =>
  condA v13
  (bnd (pureCall (isa_three.f G k) [(.str ⟨#[97, 110, 100]⟩), (.int .u32 2315255808)] h13) fun v14 h14 =>
  bnd (stS (storeV 7 v0 v14 h14)) fun v15 h15 =>
  finL [loadV G true 7 v0 h15, some (.bool true)] h.length h15)
  (bnd (pu h13 (bin Try.prog .eql 3 true x0 (.int .i64 6))) fun v16 h16 =>
  condA v16
  (bnd (pureCall (isa_three.f G k) [(.str ⟨#[111, 114, 114]⟩), (.int .u32 2852126720)] h16) fun v17 h17 =>
  bnd (stS (storeV 7 v0 v17 h17)) fun v18 h18 =>
  finL [loadV G true 7 v0 h18, some (.bool true)] h.length h18)
  (bnd (pu h16 (bin Try.prog .eql 3 true x0 (.int .i64 7))) fun v19 h19 =>
  condA v19
  (bnd (pureCall (isa_three.f G k) [(.str ⟨#[101, 111, 114]⟩), (.int .u32 3388997632)] h19) fun v20 h20 =>
  bnd (stS (storeV 7 v0 v20 h20)) fun v21 h21 =>
  finL [loadV G true 7 v0 h21, some (.bool true)] h.length h21)
  (bnd (pu h19 (bin Try.prog .eql 3 true x0 (.int .i64 8))) fun v22 h22 =>
  condA v22
  (bnd (pu h22 (buildSt [(0, 1), (1, 1), (2, 1), (3, 1), (4, 1), (5, 1), (6, 1)] [(.str ⟨#[]⟩), (.int .u32 0), (.bool false), (.bool false), (.bool false), (.bool false), (.int .i64 0)] [(0, (.str ⟨#[109, 97, 100, 100]⟩)), (1, (.int .u32 2600468480)), (2, (.bool true)), (3, (.bool true)), (4, (.bool true)), (5, (.bool true))])) fun v23 h23 =>
  bnd (stS (storeV 7 v0 v23 h23)) fun v24 h24 =>
  finL [loadV G true 7 v0 h24, some (.bool true)] h.length h24)
  (bnd (pu h22 (bin Try.prog .eql 3 true x0 (.int .i64 9))) fun v25 h25 =>
  condA v25
  (bnd (pureCall (isa_three.f G k) [(.str ⟨#[117, 109, 117, 108, 104]⟩), (.int .u32 2613083136)] h25) fun v26 h26 =>
  bnd (stS (storeV 7 v0 v26 h26)) fun v27 h27 =>
  finL [loadV G true 7 v0 h27, some (.bool true)] h.length h27)
  (bnd (pu h25 (bin Try.prog .eql 3 true x0 (.int .i64 10))) fun v28 h28 =>
  condA v28
  (bnd (pureCall (isa_two.f G k) [(.str ⟨#[97, 100, 100, 105]⟩), (.int .u32 2432696320), (.int .i64 12)] h28) fun v29 h29 =>
  bnd (stS (storeV 7 v0 v29 h29)) fun v30 h30 =>
  finL [loadV G true 7 v0 h30, some (.bool true)] h.length h30)
  (bnd (pu h28 (bin Try.prog .eql 3 true x0 (.int .i64 11))) fun v31 h31 =>
  condA v31
  (bnd (pureCall (isa_two.f G k) [(.str ⟨#[115, 117, 98, 105]⟩), (.int .u32 3506438144), (.int .i64 12)] h31) fun v32 h32 =>
  bnd (stS (storeV 7 v0 v32 h32)) fun v33 h33 =>
  finL [loadV G true 7 v0 h33, some (.bool true)] h.length h33)
  (bnd (pu h31 (bin Try.prog .eql 3 true x0 (.int .i64 12))) fun v34 h34 =>
  condA v34
  (bnd (pureCall (isa_two.f G k) [(.str ⟨#[108, 115, 108]⟩), (.int .u32 3544186880), (.int .i64 6)] h34) fun v35 h35 =>
  bnd (stS (storeV 7 v0 v35 h35)) fun v36 h36 =>
  finL [loadV G true 7 v0 h36, some (.bool true)] h.length h36)
  (bnd (pu h34 (bin Try.prog .eql 3 true x0 (.int .i64 13))) fun v37 h37 =>
  condA v37
  (bnd (pureCall (isa_two.f G k) [(.str ⟨#[108, 115, 114]⟩), (.int .u32 3544186880), (.int .i64 6)] h37) fun v38 h38 =>
  bnd (stS (storeV 7 v0 v38 h38)) fun v39 h39 =>
  finL [loadV G true 7 v0 h39, some (.bool true)] h.length h39)
  (bnd (pu h37 (bin Try.prog .eql 3 true x0 (.int .i64 14))) fun v40 h40 =>
  condA v40
  (bnd (pureCall (isa_two.f G k) [(.str ⟨#[97, 115, 114]⟩), (.int .u32 2470509568), (.int .i64 6)] h40) fun v41 h41 =>
  bnd (stS (storeV 7 v0 v41 h41)) fun v42 h42 =>
  finL [loadV G true 7 v0 h42, some (.bool true)] h.length h42)
  (bnd (pu h40 (buildSt [(0, 1), (1, 1), (2, 1), (3, 1), (4, 1), (5, 1), (6, 1)] [(.str ⟨#[]⟩), (.int .u32 0), (.bool false), (.bool false), (.bool false), (.bool false), (.int .i64 0)] [])) fun v43 h43 =>
  bnd (stS (storeV 7 v0 v43 h43)) fun v44 h44 =>
  finL [loadV G true 7 v0 h44, some (.bool false)] h.length h44)))))))))))))))
noncomputable def isa_plain.f (G : Globs) : Nat → Den
  | 0 => fun _ _ => none
  | k + 1 => fun args h => arg1 args fun x0 => (isa_plain.c G k (isa_plain.f G k) x0 h)
theorem isa_plain.step (G : Globs) (k : Nat) (x0 : AV) (h : AHeap) : isa_plain.f G (k + 1) [x0] h = isa_plain.c G k (isa_plain.f G k) x0 h := rfl
/-! alembic/isa.of: function 9 -/
noncomputable def isa_of.ann : Ann := mkAnn [] [] [] []
noncomputable def isa_of.env (G : Globs) (k : Nat) (self : Den) : List (Nat × Bool × Den) := [(14, true, isa_two.f G k), (15, true, isa_plain.f G k)]
noncomputable def isa_of.c (G : Globs) (k : Nat) (self : Den) (x0 : AV) (h : AHeap) : Option (AV × AHeap) := outV (
  bnd (boxA 34 (.agg [(.str ⟨#[]⟩), (.int .u32 0), (.bool false), (.bool false), (.bool false), (.bool false), (.int .i64 0)]) h) fun v0 h0 =>
  bnd (pu h0 (bin Try.prog .eql 3 true x0 (.int .i64 15))) fun v1 h1 =>
  condA v1
  (bnd (pu h1 (buildSt [(0, 1), (1, 1), (2, 1), (3, 1), (4, 1), (5, 1), (6, 1)] [(.str ⟨#[]⟩), (.int .u32 0), (.bool false), (.bool false), (.bool false), (.bool false), (.int .i64 0)] [(0, (.str ⟨#[99, 109, 112]⟩)), (1, (.int .u32 3942645791)), (3, (.bool true)), (4, (.bool true))])) fun v2 h2 =>
  bnd (stS (storeV 7 v0 v2 h2)) fun v3 h3 =>
  finL [loadV G true 7 v0 h3, some (.bool true)] h.length h3)
  (bnd (pu h1 (bin Try.prog .eql 3 true x0 (.int .i64 16))) fun v4 h4 =>
  condA v4
  (bnd (pu h4 (buildSt [(0, 1), (1, 1), (2, 1), (3, 1), (4, 1), (5, 1), (6, 1)] [(.str ⟨#[]⟩), (.int .u32 0), (.bool false), (.bool false), (.bool false), (.bool false), (.int .i64 0)] [(0, (.str ⟨#[99, 115, 101, 108]⟩)), (1, (.int .u32 2592079872)), (2, (.bool true)), (3, (.bool true)), (4, (.bool true)), (5, (.bool true))])) fun v5 h5 =>
  bnd (stS (storeV 7 v0 v5 h5)) fun v6 h6 =>
  finL [loadV G true 7 v0 h6, some (.bool true)] h.length h6)
  (bnd (pu h4 (bin Try.prog .eql 3 true x0 (.int .i64 17))) fun v7 h7 =>
  condA v7
  (bnd (pu h7 (buildSt [(0, 1), (1, 1), (2, 1), (3, 1), (4, 1), (5, 1), (6, 1)] [(.str ⟨#[]⟩), (.int .u32 0), (.bool false), (.bool false), (.bool false), (.bool false), (.int .i64 0)] [(0, (.str ⟨#[99, 115, 101, 116]⟩)), (1, (.int .u32 2594113504)), (2, (.bool true)), (5, (.bool true))])) fun v8 h8 =>
  bnd (stS (storeV 7 v0 v8 h8)) fun v9 h9 =>
  finL [loadV G true 7 v0 h9, some (.bool true)] h.length h9)
  (bnd (pu h7 (bin Try.prog .eql 3 true x0 (.int .i64 18))) fun v10 h10 =>
  condA v10
  (bnd (pureCall (isa_two.f G k) [(.str ⟨#[108, 100, 114]⟩), (.int .u32 4181721088), (.int .i64 12)] h10) fun v11 h11 =>
  bnd (stS (storeV 7 v0 v11 h11)) fun v12 h12 =>
  finL [loadV G true 7 v0 h12, some (.bool true)] h.length h12)
  (bnd (pu h10 (bin Try.prog .eql 3 true x0 (.int .i64 19))) fun v13 h13 =>
  condA v13
  (bnd (pureCall (isa_two.f G k) [(.str ⟨#[115, 116, 114]⟩), (.int .u32 4177526784), (.int .i64 12)] h13) fun v14 h14 =>
  bnd (stS (storeV 7 v0 v14 h14)) fun v15 h15 =>
  finL [loadV G true 7 v0 h15, some (.bool true)] h.length h15)
  (bnd (pu h13 (bin Try.prog .eql 3 true x0 (.int .i64 20))) fun v16 h16 =>
  condA v16
  (bnd (pu h16 (buildSt [(0, 1), (1, 1), (2, 1), (3, 1), (4, 1), (5, 1), (6, 1)] [(.str ⟨#[]⟩), (.int .u32 0), (.bool false), (.bool false), (.bool false), (.bool false), (.int .i64 0)] [(0, (.str ⟨#[98]⟩)), (1, (.int .u32 335544320)), (6, (.int .i64 26))])) fun v17 h17 =>
  bnd (stS (storeV 7 v0 v17 h17)) fun v18 h18 =>
  finL [loadV G true 7 v0 h18, some (.bool true)] h.length h18)
  (bnd (pu h16 (bin Try.prog .eql 3 true x0 (.int .i64 21))) fun v19 h19 =>
  condA v19
  (bnd (pu h19 (buildSt [(0, 1), (1, 1), (2, 1), (3, 1), (4, 1), (5, 1), (6, 1)] [(.str ⟨#[]⟩), (.int .u32 0), (.bool false), (.bool false), (.bool false), (.bool false), (.int .i64 0)] [(0, (.str ⟨#[98, 99, 99]⟩)), (1, (.int .u32 1409286144)), (5, (.bool true)), (6, (.int .i64 19))])) fun v20 h20 =>
  bnd (stS (storeV 7 v0 v20 h20)) fun v21 h21 =>
  finL [loadV G true 7 v0 h21, some (.bool true)] h.length h21)
  (bnd (pu h19 (bin Try.prog .eql 3 true x0 (.int .i64 22))) fun v22 h22 =>
  condA v22
  (bnd (pu h22 (buildSt [(0, 1), (1, 1), (2, 1), (3, 1), (4, 1), (5, 1), (6, 1)] [(.str ⟨#[]⟩), (.int .u32 0), (.bool false), (.bool false), (.bool false), (.bool false), (.int .i64 0)] [(0, (.str ⟨#[99, 98, 122]⟩)), (1, (.int .u32 3019898880)), (2, (.bool true)), (6, (.int .i64 19))])) fun v23 h23 =>
  bnd (stS (storeV 7 v0 v23 h23)) fun v24 h24 =>
  finL [loadV G true 7 v0 h24, some (.bool true)] h.length h24)
  (bnd (pu h22 (bin Try.prog .eql 3 true x0 (.int .i64 23))) fun v25 h25 =>
  condA v25
  (bnd (pu h25 (buildSt [(0, 1), (1, 1), (2, 1), (3, 1), (4, 1), (5, 1), (6, 1)] [(.str ⟨#[]⟩), (.int .u32 0), (.bool false), (.bool false), (.bool false), (.bool false), (.int .i64 0)] [(0, (.str ⟨#[99, 98, 110, 122]⟩)), (1, (.int .u32 3036676096)), (2, (.bool true)), (6, (.int .i64 19))])) fun v26 h26 =>
  bnd (stS (storeV 7 v0 v26 h26)) fun v27 h27 =>
  finL [loadV G true 7 v0 h27, some (.bool true)] h.length h27)
  (bnd (pu h25 (bin Try.prog .eql 3 true x0 (.int .i64 24))) fun v28 h28 =>
  condA v28
  (bnd (pu h28 (buildSt [(0, 1), (1, 1), (2, 1), (3, 1), (4, 1), (5, 1), (6, 1)] [(.str ⟨#[]⟩), (.int .u32 0), (.bool false), (.bool false), (.bool false), (.bool false), (.int .i64 0)] [(0, (.str ⟨#[104, 108, 116]⟩)), (1, (.int .u32 3560964096)), (6, (.int .i64 16))])) fun v29 h29 =>
  bnd (stS (storeV 7 v0 v29 h29)) fun v30 h30 =>
  finL [loadV G true 7 v0 h30, some (.bool true)] h.length h30)
  (bnd (pureCall (isa_plain.f G k) [x0] h28) fun v31 h31 =>
  bnd (pu h31 (extractA v31 0)) fun v32 h32 =>
  bnd (pu h32 (extractA v31 1)) fun v33 h33 =>
  bnd (stS (storeV 7 v0 v32 h33)) fun v34 h34 =>
  finL [loadV G true 7 v0 h34, some v33] h.length h34)))))))))))
noncomputable def isa_of.f (G : Globs) : Nat → Den
  | 0 => fun _ _ => none
  | k + 1 => fun args h => arg1 args fun x0 => (isa_of.c G k (isa_of.f G k) x0 h)
theorem isa_of.step (G : Globs) (k : Nat) (x0 : AV) (h : AHeap) : isa_of.f G (k + 1) [x0] h = isa_of.c G k (isa_of.f G k) x0 h := rfl
/-! alembic/isa.register: function 16 -/
noncomputable def isa_register.ann : Ann := mkAnn [] [] [] []
noncomputable def isa_register.env (G : Globs) (k : Nat) (self : Den) : List (Nat × Bool × Den) := []
noncomputable def isa_register.c (G : Globs) (k : Nat) (self : Den) (x0 x1 : AV) (h : AHeap) : Option (AV × AHeap) := outV (
  bnd (pu h (bin Try.prog .eql 3 true x0 (.int .i64 0))) fun v0 h0 =>
  bnd (gd v0 false h0 (some (x1, h0))) fun v1 h1 =>
  bnd (gd v0 false h1 (some (v1, h1))) fun v2 h2 =>
  bnd (gd v2 true h2 (some (x0, h2))) fun v3 h3 =>
  bnd (gd v2 true h3 (pu h3 (bin Try.prog .gtr 3 true v3 (.int .i64 0)))) fun v4 h4 =>
  bnd (gd v0 false h4 (pu h4 (pickA v2 v4 (.bool false)))) fun v5 h5 =>
  bnd (gd v0 false h5 (some (v5, h5))) fun v6 h6 =>
  bnd (gd v6 true h6 (some (x0, h6))) fun v7 h7 =>
  bnd (gd v6 true h7 (pu h7 (bin Try.prog .leq 3 true v7 (.int .i64 31)))) fun v8 h8 =>
  bnd (gd v0 false h8 (pu h8 (pickA v6 v8 (.bool false)))) fun v9 h9 =>
  bnd (pu h9 (pickA v0 (.bool true) v9)) fun v10 h10 =>
  finV [v10] h.length h10)
noncomputable def isa_register.f (G : Globs) : Nat → Den
  | 0 => fun _ _ => none
  | k + 1 => fun args h => arg2 args fun x0 x1 => (isa_register.c G k (isa_register.f G k) x0 x1 h)
theorem isa_register.step (G : Globs) (k : Nat) (x0 x1 : AV) (h : AHeap) : isa_register.f G (k + 1) [x0, x1] h = isa_register.c G k (isa_register.f G k) x0 x1 h := rfl
/-! alembic/isa.extra: function 17 -/
noncomputable def isa_extra.ann : Ann := mkAnn [] [] [] [(9, [1, 2]), (8, [1, 16]), (4, [1, 4, 5])]
noncomputable def isa_extra.env (G : Globs) (k : Nat) (self : Den) : List (Nat × Bool × Den) := []
noncomputable def isa_extra.c (G : Globs) (k : Nat) (self : Den) (x0 : AV) (h : AHeap) : Option (AV × AHeap) := outV (
  bnd (boxRoA x0 h) fun v0 h0 =>
  thenK (
  bnd (pu h0 (fieldAddrV 0 v0)) fun v1 h1 =>
  bnd (pu h1 (loadV G false 1 v1 h1)) fun v2 h2 =>
  thenK (
  bnd (pu h2 (bin Try.prog .eql 3 true v2 (.int .i64 1))) fun v3 h3 =>
  condA v3
  (some (.normal, [v0, v2, v3], h3))
  (bnd (pu h3 (bin Try.prog .eql 3 true v2 (.int .i64 2))) fun v4 h4 =>
  some (.normal, [v0, v2, v4], h4))) fun e5 x5 h5 => exK e5
  (condA (nth x5 2)
  (bnd (pu h5 (fieldAddrV 4 (nth x5 0))) fun v6 h6 =>
  bnd (pu h6 (loadV G false 1 v6 h6)) fun v7 h7 =>
  bnd (pu h7 (bin Try.prog .geq 3 true v7 (.int .i64 0))) fun v8 h8 =>
  bnd (gd v8 true h8 (pu h8 (fieldAddrV 4 (nth x5 0)))) fun v9 h9 =>
  bnd (gd v8 true h9 (pu h9 (loadV G false 1 v9 h9))) fun v10 h10 =>
  bnd (gd v8 true h10 (pu h10 (bin Try.prog .leq 3 true v10 (.int .i64 3)))) fun v11 h11 =>
  bnd (pu h11 (pickA v8 v11 (.bool false))) fun v12 h12 =>
  some (.ret, [(nth x5 0), v12], h12))
  (thenK (
  bnd (pu h5 (bin Try.prog .eql 3 true (nth x5 1) (.int .i64 16))) fun v13 h13 =>
  condA v13
  (some (.normal, [(nth x5 0), v13], h13))
  (bnd (pu h13 (bin Try.prog .eql 3 true (nth x5 1) (.int .i64 17))) fun v14 h14 =>
  condA v14
  (some (.normal, [(nth x5 0), v14], h14))
  (bnd (pu h14 (bin Try.prog .eql 3 true (nth x5 1) (.int .i64 21))) fun v15 h15 =>
  some (.normal, [(nth x5 0), v15], h15)))) fun e16 x16 h16 => exK e16
  (condA (nth x16 1)
  (bnd (pu h16 (fieldAddrV 4 (nth x16 0))) fun v17 h17 =>
  bnd (pu h17 (loadV G false 1 v17 h17)) fun v18 h18 =>
  bnd (pu h18 (bin Try.prog .geq 3 true v18 (.int .i64 0))) fun v19 h19 =>
  bnd (gd v19 true h19 (pu h19 (fieldAddrV 4 (nth x16 0)))) fun v20 h20 =>
  bnd (gd v19 true h20 (pu h20 (loadV G false 1 v20 h20))) fun v21 h21 =>
  bnd (gd v19 true h21 (pu h21 (bin Try.prog .leq 3 true v21 (.int .i64 3)))) fun v22 h22 =>
  bnd (pu h22 (pickA v19 v22 (.bool false))) fun v23 h23 =>
  bnd (gd v23 false h23 (pu h23 (fieldAddrV 4 (nth x16 0)))) fun v24 h24 =>
  bnd (gd v23 false h24 (pu h24 (loadV G false 1 v24 h24))) fun v25 h25 =>
  bnd (gd v23 false h25 (pu h25 (bin Try.prog .eql 3 true v25 (.int .i64 8)))) fun v26 h26 =>
  bnd (pu h26 (pickA v23 (.bool true) v26)) fun v27 h27 =>
  bnd (gd v27 false h27 (pu h27 (fieldAddrV 4 (nth x16 0)))) fun v28 h28 =>
  bnd (gd v27 false h28 (pu h28 (loadV G false 1 v28 h28))) fun v29 h29 =>
  bnd (gd v27 false h29 (pu h29 (bin Try.prog .eql 3 true v29 (.int .i64 9)))) fun v30 h30 =>
  bnd (pu h30 (pickA v27 (.bool true) v30)) fun v31 h31 =>
  some (.ret, [(nth x16 0), v31], h31))
  (some (.normal, [(nth x16 0), .undef], h16)))
  (fun i16 => if i16 = 0 then (some (.normal, [(nth x16 0), .undef], h16)) else (some (.exit i16, [(nth x16 0), .undef], h16)))
  (some (.ret, [(nth x16 0), .undef], h16))))
  (fun i5 => if i5 = 0 then (some (.normal, [(nth x5 0), .undef], h5)) else (some (.exit i5, [(nth x5 0), .undef], h5)))
  (some (.ret, [(nth x5 0), .undef], h5))) fun e32 x32 h32 => exK e32
  (bnd (pu h32 (fieldAddrV 4 (nth x32 0))) fun v33 h33 =>
  bnd (pu h33 (loadV G false 1 v33 h33)) fun v34 h34 =>
  bnd (pu h34 (bin Try.prog .geq 3 true v34 (.int .i64 0))) fun v35 h35 =>
  bnd (gd v35 true h35 (pu h35 (fieldAddrV 4 (nth x32 0)))) fun v36 h36 =>
  bnd (gd v35 true h36 (pu h36 (loadV G false 1 v36 h36))) fun v37 h37 =>
  bnd (gd v35 true h37 (pu h37 (bin Try.prog .leq 3 true v37 (.int .i64 31)))) fun v38 h38 =>
  bnd (pu h38 (pickA v35 v38 (.bool false))) fun v39 h39 =>
  finV [v39] h.length h39)
  (fun i32 => none)
  (finV [(nth x32 1)] h.length h32))
noncomputable def isa_extra.f (G : Globs) : Nat → Den
  | 0 => fun _ _ => none
  | k + 1 => fun args h => arg1 args fun x0 => (isa_extra.c G k (isa_extra.f G k) x0 h)
theorem isa_extra.step (G : Globs) (k : Nat) (x0 : AV) (h : AHeap) : isa_extra.f G (k + 1) [x0] h = isa_extra.c G k (isa_extra.f G k) x0 h := rfl
/-! alembic/isa.signed: function 22 -/
noncomputable def isa_signed.ann : Ann := mkAnn [] [] [] []
noncomputable def isa_signed.env (G : Globs) (k : Nat) (self : Den) : List (Nat × Bool × Den) := []
noncomputable def isa_signed.c (G : Globs) (k : Nat) (self : Den) (x0 : AV) (h : AHeap) : Option (AV × AHeap) := outV (
  bnd (pu h (bin Try.prog .geq 3 true x0 (.int .i64 20))) fun v0 h0 =>
  bnd (gd v0 true h0 (some (x0, h0))) fun v1 h1 =>
  bnd (gd v0 true h1 (pu h1 (bin Try.prog .leq 3 true v1 (.int .i64 23)))) fun v2 h2 =>
  bnd (pu h2 (pickA v0 v2 (.bool false))) fun v3 h3 =>
  finV [v3] h.length h3)
noncomputable def isa_signed.f (G : Globs) : Nat → Den
  | 0 => fun _ _ => none
  | k + 1 => fun args h => arg1 args fun x0 => (isa_signed.c G k (isa_signed.f G k) x0 h)
theorem isa_signed.step (G : Globs) (k : Nat) (x0 : AV) (h : AHeap) : isa_signed.f G (k + 1) [x0] h = isa_signed.c G k (isa_signed.f G k) x0 h := rfl
/-! alembic/isa.imm: function 18 -/
noncomputable def isa_imm.ann : Ann := mkAnn [] [] [] []
noncomputable def isa_imm.env (G : Globs) (k : Nat) (self : Den) : List (Nat × Bool × Den) := [(22, true, isa_signed.f G k)]
noncomputable def isa_imm.c (G : Globs) (k : Nat) (self : Den) (x0 x1 : AV) (h : AHeap) : Option (AV × AHeap) := outV (
  bnd (boxRoA x0 h) fun v0 h0 =>
  bnd (pu h0 (bin Try.prog .eql 3 true x1 (.int .i64 0))) fun v1 h1 =>
  condA v1
  (bnd (pu h1 (fieldAddrV 5 v0)) fun v2 h2 =>
  bnd (pu h2 (loadV G false 1 v2 h2)) fun v3 h3 =>
  bnd (pu h3 (bin Try.prog .eql 3 true v3 (.int .i64 0))) fun v4 h4 =>
  finV [v4] h.length h4)
  (bnd (pu h1 (fieldAddrV 0 v0)) fun v5 h5 =>
  bnd (pu h5 (loadV G false 1 v5 h5)) fun v6 h6 =>
  bnd (pureCall (isa_signed.f G k) [v6] h6) fun v7 h7 =>
  condA v7
  (bnd (pu h7 (fieldAddrV 5 v0)) fun v8 h8 =>
  bnd (pu h8 (loadV G false 1 v8 h8)) fun v9 h9 =>
  bnd (pu h9 (bin Try.prog .sub 3 true x1 (.int .i64 1))) fun v10 h10 =>
  bnd (pu h10 (bin Try.prog .shl 3 true (.int .i64 1) v10)) fun v11 h11 =>
  bnd (pu h11 (un .neg v11)) fun v12 h12 =>
  bnd (pu h12 (bin Try.prog .geq 3 false v9 v12)) fun v13 h13 =>
  bnd (gd v13 true h13 (pu h13 (fieldAddrV 5 v0))) fun v14 h14 =>
  bnd (gd v13 true h14 (pu h14 (loadV G false 1 v14 h14))) fun v15 h15 =>
  bnd (gd v13 true h15 (some (x1, h15))) fun v16 h16 =>
  bnd (gd v13 true h16 (pu h16 (bin Try.prog .sub 3 true v16 (.int .i64 1)))) fun v17 h17 =>
  bnd (gd v13 true h17 (pu h17 (bin Try.prog .shl 3 true (.int .i64 1) v17))) fun v18 h18 =>
  bnd (gd v13 true h18 (pu h18 (bin Try.prog .lss 3 false v15 v18))) fun v19 h19 =>
  bnd (pu h19 (pickA v13 v19 (.bool false))) fun v20 h20 =>
  finV [v20] h.length h20)
  (bnd (pu h7 (fieldAddrV 5 v0)) fun v21 h21 =>
  bnd (pu h21 (loadV G false 1 v21 h21)) fun v22 h22 =>
  bnd (pu h22 (bin Try.prog .geq 3 true v22 (.int .i64 0))) fun v23 h23 =>
  bnd (gd v23 true h23 (pu h23 (fieldAddrV 5 v0))) fun v24 h24 =>
  bnd (gd v23 true h24 (pu h24 (loadV G false 1 v24 h24))) fun v25 h25 =>
  bnd (gd v23 true h25 (some (x1, h25))) fun v26 h26 =>
  bnd (gd v23 true h26 (pu h26 (bin Try.prog .shl 3 true (.int .i64 1) v26))) fun v27 h27 =>
  bnd (gd v23 true h27 (pu h27 (bin Try.prog .lss 3 false v25 v27))) fun v28 h28 =>
  bnd (pu h28 (pickA v23 v28 (.bool false))) fun v29 h29 =>
  finV [v29] h.length h29)))
noncomputable def isa_imm.f (G : Globs) : Nat → Den
  | 0 => fun _ _ => none
  | k + 1 => fun args h => arg2 args fun x0 x1 => (isa_imm.c G k (isa_imm.f G k) x0 x1 h)
theorem isa_imm.step (G : Globs) (k : Nat) (x0 x1 : AV) (h : AHeap) : isa_imm.f G (k + 1) [x0, x1] h = isa_imm.c G k (isa_imm.f G k) x0 x1 h := rfl
/-! alembic/isa.stack: function 19 -/
noncomputable def isa_stack.ann : Ann := mkAnn [] [] [] [(7, [1, 16]), (4, [1, 4, 5])]
noncomputable def isa_stack.env (G : Globs) (k : Nat) (self : Den) : List (Nat × Bool × Den) := []
noncomputable def isa_stack.c (G : Globs) (k : Nat) (self : Den) (x0 : AV) (h : AHeap) : Option (AV × AHeap) := outV (
  bnd (boxRoA x0 h) fun v0 h0 =>
  bnd (pu h0 (fieldAddrV 0 v0)) fun v1 h1 =>
  bnd (pu h1 (loadV G false 1 v1 h1)) fun v2 h2 =>
  thenK (
  bnd (pu h2 (bin Try.prog .eql 3 true v2 (.int .i64 10))) fun v3 h3 =>
  condA v3
  (some (.normal, [v0, v2, v3], h3))
  (bnd (pu h3 (bin Try.prog .eql 3 true v2 (.int .i64 11))) fun v4 h4 =>
  some (.normal, [v0, v2, v4], h4))) fun e5 x5 h5 => exK e5
  (condA (nth x5 2)
  (bnd (pu h5 (fieldAddrV 1 (nth x5 0))) fun v6 h6 =>
  bnd (pu h6 (loadV G false 1 v6 h6)) fun v7 h7 =>
  bnd (pu h7 (bin Try.prog .eql 3 true v7 (.int .i64 31))) fun v8 h8 =>
  bnd (gd v8 false h8 (pu h8 (fieldAddrV 2 (nth x5 0)))) fun v9 h9 =>
  bnd (gd v8 false h9 (pu h9 (loadV G false 1 v9 h9))) fun v10 h10 =>
  bnd (gd v8 false h10 (pu h10 (bin Try.prog .eql 3 true v10 (.int .i64 31)))) fun v11 h11 =>
  bnd (pu h11 (pickA v8 (.bool true) v11)) fun v12 h12 =>
  finV [v12] h.length h12)
  (thenK (
  bnd (pu h5 (bin Try.prog .eql 3 true (nth x5 1) (.int .i64 18))) fun v13 h13 =>
  condA v13
  (some (.normal, [(nth x5 0), v13], h13))
  (bnd (pu h13 (bin Try.prog .eql 3 true (nth x5 1) (.int .i64 19))) fun v14 h14 =>
  some (.normal, [(nth x5 0), v14], h14))) fun e15 x15 h15 => exK e15
  (condA (nth x15 1)
  (bnd (pu h15 (fieldAddrV 2 (nth x15 0))) fun v16 h16 =>
  bnd (pu h16 (loadV G false 1 v16 h16)) fun v17 h17 =>
  bnd (pu h17 (bin Try.prog .eql 3 true v17 (.int .i64 31))) fun v18 h18 =>
  finV [v18] h.length h18)
  (finV [(.bool false)] h.length h15))
  (fun i15 => if i15 = 0 then (finV [(.bool false)] h.length h15) else (none))
  (finV [.undef] h.length h15)))
  (fun i5 => if i5 = 0 then (finV [(.bool false)] h.length h5) else (none))
  (finV [.undef] h.length h5))
noncomputable def isa_stack.f (G : Globs) : Nat → Den
  | 0 => fun _ _ => none
  | k + 1 => fun args h => arg1 args fun x0 => (isa_stack.c G k (isa_stack.f G k) x0 h)
theorem isa_stack.step (G : Globs) (k : Nat) (x0 : AV) (h : AHeap) : isa_stack.f G (k + 1) [x0] h = isa_stack.c G k (isa_stack.f G k) x0 h := rfl
/-! alembic/isa.fair: function 10 -/
noncomputable def isa_fair.ann : Ann := mkAnn [] [] [] []
noncomputable def isa_fair.env (G : Globs) (k : Nat) (self : Den) : List (Nat × Bool × Den) := [(16, true, isa_register.f G k), (17, true, isa_extra.f G k), (18, true, isa_imm.f G k), (19, true, isa_stack.f G k)]
noncomputable def isa_fair.c (G : Globs) (k : Nat) (self : Den) (x0 x1 : AV) (h : AHeap) : Option (AV × AHeap) := outV (
  bnd (boxRoA x0 h) fun v0 h0 =>
  bnd (boxRoA x1 h0) fun v1 h1 =>
  bnd (pu h1 (fieldAddrV 1 v0)) fun v2 h2 =>
  bnd (pu h2 (loadV G false 1 v2 h2)) fun v3 h3 =>
  bnd (pu h3 (fieldAddrV 2 v1)) fun v4 h4 =>
  bnd (pu h4 (loadV G false 1 v4 h4)) fun v5 h5 =>
  bnd (pureCall (isa_register.f G k) [v3, v5] h5) fun v6 h6 =>
  bnd (pu h6 (un .not v6)) fun v7 h7 =>
  bnd (gd v7 false h7 (pu h7 (fieldAddrV 2 v0))) fun v8 h8 =>
  bnd (gd v7 false h8 (pu h8 (loadV G false 1 v8 h8))) fun v9 h9 =>
  bnd (gd v7 false h9 (pu h9 (fieldAddrV 3 v1))) fun v10 h10 =>
  bnd (gd v7 false h10 (pu h10 (loadV G false 1 v10 h10))) fun v11 h11 =>
  bnd (gd v7 false h11 (pureCall (isa_register.f G k) [v9, v11] h11)) fun v12 h12 =>
  bnd (gd v7 false h12 (pu h12 (un .not v12))) fun v13 h13 =>
  bnd (pu h13 (pickA v7 (.bool true) v13)) fun v14 h14 =>
  bnd (gd v14 false h14 (pu h14 (fieldAddrV 3 v0))) fun v15 h15 =>
  bnd (gd v14 false h15 (pu h15 (loadV G false 1 v15 h15))) fun v16 h16 =>
  bnd (gd v14 false h16 (pu h16 (fieldAddrV 4 v1))) fun v17 h17 =>
  bnd (gd v14 false h17 (pu h17 (loadV G false 1 v17 h17))) fun v18 h18 =>
  bnd (gd v14 false h18 (pureCall (isa_register.f G k) [v16, v18] h18)) fun v19 h19 =>
  bnd (gd v14 false h19 (pu h19 (un .not v19))) fun v20 h20 =>
  bnd (pu h20 (pickA v14 (.bool true) v20)) fun v21 h21 =>
  condA v21
  (finV [(.bool false)] h.length h21)
  (bnd (pu h21 (fieldAddrV 5 v1)) fun v22 h22 =>
  bnd (pu h22 (loadV G false 1 v22 h22)) fun v23 h23 =>
  bnd (gd v23 true h23 (pu h23 (loadV G true 6 v0 h23))) fun v24 h24 =>
  bnd (gd v23 true h24 (pureCall (isa_extra.f G k) [v24] h24)) fun v25 h25 =>
  bnd (gd v23 true h25 (pu h25 (un .not v25))) fun v26 h26 =>
  bnd (pu h26 (pickA v23 v26 (.bool false))) fun v27 h27 =>
  bnd (gd v27 false h27 (pu h27 (fieldAddrV 5 v1))) fun v28 h28 =>
  bnd (gd v27 false h28 (pu h28 (loadV G false 1 v28 h28))) fun v29 h29 =>
  bnd (gd v27 false h29 (pu h29 (un .not v29))) fun v30 h30 =>
  bnd (gd v27 false h30 (some (v30, h30))) fun v31 h31 =>
  bnd (gd v31 true h31 (pu h31 (fieldAddrV 4 v0))) fun v32 h32 =>
  bnd (gd v31 true h32 (pu h32 (loadV G false 1 v32 h32))) fun v33 h33 =>
  bnd (gd v31 true h33 (pu h33 (bin Try.prog .neq 3 true v33 (.int .i64 0)))) fun v34 h34 =>
  bnd (gd v27 false h34 (pu h34 (pickA v31 v34 (.bool false)))) fun v35 h35 =>
  bnd (pu h35 (pickA v27 (.bool true) v35)) fun v36 h36 =>
  condA v36
  (finV [(.bool false)] h.length h36)
  (bnd (pu h36 (loadV G true 6 v0 h36)) fun v37 h37 =>
  bnd (pu h37 (fieldAddrV 6 v1)) fun v38 h38 =>
  bnd (pu h38 (loadV G false 1 v38 h38)) fun v39 h39 =>
  bnd (pureCall (isa_imm.f G k) [v37, v39] h39) fun v40 h40 =>
  bnd (gd v40 true h40 (pu h40 (loadV G true 6 v0 h40))) fun v41 h41 =>
  bnd (gd v40 true h41 (pureCall (isa_stack.f G k) [v41] h41)) fun v42 h42 =>
  bnd (gd v40 true h42 (pu h42 (un .not v42))) fun v43 h43 =>
  bnd (pu h43 (pickA v40 v43 (.bool false))) fun v44 h44 =>
  finV [v44] h.length h44)))
noncomputable def isa_fair.f (G : Globs) : Nat → Den
  | 0 => fun _ _ => none
  | k + 1 => fun args h => arg2 args fun x0 x1 => (isa_fair.c G k (isa_fair.f G k) x0 x1 h)
theorem isa_fair.step (G : Globs) (k : Nat) (x0 x1 : AV) (h : AHeap) : isa_fair.f G (k + 1) [x0, x1] h = isa_fair.c G k (isa_fair.f G k) x0 x1 h := rfl
/-! alembic/isa.number: function 11 -/
noncomputable def isa_number.ann : Ann := mkAnn [] [] [] [(28, [3, 4, 12, 64]), (16, [3, 4, 12, 34]), (5, [3, 4, 12, 13])]
noncomputable def isa_number.env (G : Globs) (k : Nat) (self : Den) : List (Nat × Bool × Den) := []
noncomputable def isa_number.c (G : Globs) (k : Nat) (self : Den) (x0 : AV) (h : AHeap) : Option (AV × AHeap) := outV (
  bnd (boxRoA x0 h) fun v0 h0 =>
  bnd (pu h0 (fieldAddrV 5 v0)) fun v1 h1 =>
  bnd (pu h1 (loadV G false 1 v1 h1)) fun v2 h2 =>
  bnd (pu h2 (convInt .u32 v2)) fun v3 h3 =>
  bnd (pu h3 (fieldAddrV 4 v0)) fun v4 h4 =>
  bnd (pu h4 (loadV G false 1 v4 h4)) fun v5 h5 =>
  bnd (pu h5 (convInt .u32 v5)) fun v6 h6 =>
  bnd (pu h6 (fieldAddrV 0 v0)) fun v7 h7 =>
  bnd (pu h7 (loadV G false 1 v7 h7)) fun v8 h8 =>
  thenK (
  bnd (pu h8 (bin Try.prog .eql 3 true v8 (.int .i64 1))) fun v9 h9 =>
  condA v9
  (some (.normal, [v3, v6, v8, v9], h9))
  (bnd (pu h9 (bin Try.prog .eql 3 true v8 (.int .i64 2))) fun v10 h10 =>
  some (.normal, [v3, v6, v8, v10], h10))) fun e11 x11 h11 => exK e11
  (condA (nth x11 3)
  (bnd (pu h11 (bin Try.prog .shl 24 true (nth x11 1) (.int .u64 21))) fun v12 h12 =>
  bnd (pu h12 (bin Try.prog .shl 24 true (nth x11 0) (.int .u64 5))) fun v13 h13 =>
  bnd (pu h13 (bin Try.prog .or 24 false v12 v13)) fun v14 h14 =>
  finV [v14] h.length h14)
  (bnd (pu h11 (bin Try.prog .eql 3 true (nth x11 2) (.int .i64 8))) fun v15 h15 =>
  condA v15
  (bnd (pu h15 (bin Try.prog .shl 24 true (nth x11 1) (.int .u64 10))) fun v16 h16 =>
  finV [v16] h.length h16)
  (bnd (pu h15 (bin Try.prog .eql 3 true (nth x11 2) (.int .i64 16))) fun v17 h17 =>
  condA v17
  (bnd (pu h17 (bin Try.prog .shl 24 true (nth x11 1) (.int .u64 12))) fun v18 h18 =>
  finV [v18] h.length h18)
  (bnd (pu h17 (bin Try.prog .eql 3 true (nth x11 2) (.int .i64 17))) fun v19 h19 =>
  condA v19
  (bnd (pu h19 (bin Try.prog .xor 24 true (nth x11 1) (.int .u32 1))) fun v20 h20 =>
  bnd (pu h20 (bin Try.prog .shl 24 true v20 (.int .u64 12))) fun v21 h21 =>
  finV [v21] h.length h21)
  (thenK (
  bnd (pu h19 (bin Try.prog .eql 3 true (nth x11 2) (.int .i64 10))) fun v22 h22 =>
  condA v22
  (some (.normal, [(nth x11 0), (nth x11 1), (nth x11 2), v22], h22))
  (bnd (pu h22 (bin Try.prog .eql 3 true (nth x11 2) (.int .i64 11))) fun v23 h23 =>
  condA v23
  (some (.normal, [(nth x11 0), (nth x11 1), (nth x11 2), v23], h23))
  (bnd (pu h23 (bin Try.prog .eql 3 true (nth x11 2) (.int .i64 18))) fun v24 h24 =>
  condA v24
  (some (.normal, [(nth x11 0), (nth x11 1), (nth x11 2), v24], h24))
  (bnd (pu h24 (bin Try.prog .eql 3 true (nth x11 2) (.int .i64 19))) fun v25 h25 =>
  some (.normal, [(nth x11 0), (nth x11 1), (nth x11 2), v25], h25))))) fun e26 x26 h26 => exK e26
  (condA (nth x26 3)
  (bnd (pu h26 (bin Try.prog .shl 24 true (nth x26 0) (.int .u64 10))) fun v27 h27 =>
  finV [v27] h.length h27)
  (bnd (pu h26 (bin Try.prog .eql 3 true (nth x26 2) (.int .i64 12))) fun v28 h28 =>
  condA v28
  (bnd (pu h28 (bin Try.prog .sub 24 true (.int .u32 64) (nth x26 0))) fun v29 h29 =>
  bnd (pu h29 (bin Try.prog .rem 24 true v29 (.int .u32 64))) fun v30 h30 =>
  bnd (pu h30 (bin Try.prog .shl 24 true v30 (.int .u64 16))) fun v31 h31 =>
  bnd (pu h31 (bin Try.prog .sub 24 true (.int .u32 63) (nth x26 0))) fun v32 h32 =>
  bnd (pu h32 (bin Try.prog .shl 24 true v32 (.int .u64 10))) fun v33 h33 =>
  bnd (pu h33 (bin Try.prog .or 24 false v31 v33)) fun v34 h34 =>
  finV [v34] h.length h34)
  (bnd (pu h28 (bin Try.prog .eql 3 true (nth x26 2) (.int .i64 13))) fun v35 h35 =>
  condA v35
  (bnd (pu h35 (bin Try.prog .shl 24 true (nth x26 0) (.int .u64 16))) fun v36 h36 =>
  bnd (pu h36 (bin Try.prog .or 24 true v36 (.int .u32 64512))) fun v37 h37 =>
  finV [v37] h.length h37)
  (bnd (pu h35 (bin Try.prog .eql 3 true (nth x26 2) (.int .i64 14))) fun v38 h38 =>
  condA v38
  (bnd (pu h38 (bin Try.prog .shl 24 true (nth x26 0) (.int .u64 16))) fun v39 h39 =>
  finV [v39] h.length h39)
  (bnd (pu h38 (bin Try.prog .eql 3 true (nth x26 2) (.int .i64 20))) fun v40 h40 =>
  condA v40
  (bnd (pu h40 (bin Try.prog .and 24 true (nth x26 0) (.int .u32 67108863))) fun v41 h41 =>
  finV [v41] h.length h41)
  (thenK (
  bnd (pu h40 (bin Try.prog .eql 3 true (nth x26 2) (.int .i64 21))) fun v42 h42 =>
  condA v42
  (some (.normal, [(nth x26 0), (nth x26 1), (nth x26 2), v42], h42))
  (bnd (pu h42 (bin Try.prog .eql 3 true (nth x26 2) (.int .i64 22))) fun v43 h43 =>
  condA v43
  (some (.normal, [(nth x26 0), (nth x26 1), (nth x26 2), v43], h43))
  (bnd (pu h43 (bin Try.prog .eql 3 true (nth x26 2) (.int .i64 23))) fun v44 h44 =>
  some (.normal, [(nth x26 0), (nth x26 1), (nth x26 2), v44], h44)))) fun e45 x45 h45 => exK e45
  (condA (nth x45 3)
  (bnd (pu h45 (bin Try.prog .and 24 true (nth x45 0) (.int .u32 524287))) fun v46 h46 =>
  bnd (pu h46 (bin Try.prog .shl 24 true v46 (.int .u64 5))) fun v47 h47 =>
  bnd (pu h47 (bin Try.prog .or 24 false (nth x45 1) v47)) fun v48 h48 =>
  finV [v48] h.length h48)
  (bnd (pu h45 (bin Try.prog .eql 3 true (nth x45 2) (.int .i64 24))) fun v49 h49 =>
  condA v49
  (bnd (pu h49 (bin Try.prog .shl 24 true (nth x45 0) (.int .u64 5))) fun v50 h50 =>
  finV [v50] h.length h50)
  (finV [(.int .u32 0)] h.length h49)))
  (fun i45 => if i45 = 0 then (finV [(.int .u32 0)] h.length h45) else (none))
  (finV [.undef] h.length h45)))))))
  (fun i26 => if i26 = 0 then (finV [(.int .u32 0)] h.length h26) else (none))
  (finV [.undef] h.length h26))))))
  (fun i11 => if i11 = 0 then (finV [(.int .u32 0)] h.length h11) else (none))
  (finV [.undef] h.length h11))
noncomputable def isa_number.f (G : Globs) : Nat → Den
  | 0 => fun _ _ => none
  | k + 1 => fun args h => arg1 args fun x0 => (isa_number.c G k (isa_number.f G k) x0 h)
theorem isa_number.step (G : Globs) (k : Nat) (x0 : AV) (h : AHeap) : isa_number.f G (k + 1) [x0] h = isa_number.c G k (isa_number.f G k) x0 h := rfl
/-! alembic/isa.Word: function 6 -/
noncomputable def isa_Word.ann : Ann := mkAnn [] [] [] []
noncomputable def isa_Word.env (G : Globs) (k : Nat) (self : Den) : List (Nat × Bool × Den) := [(9, true, isa_of.f G k), (10, true, isa_fair.f G k), (11, true, isa_number.f G k)]
noncomputable def isa_Word.c (G : Globs) (k : Nat) (self : Den) (x0 : AV) (h : AHeap) : Option (AV × AHeap) := outV (
  bnd (boxRoA x0 h) fun v0 h0 =>
  bnd (pu h0 (fieldAddrV 0 v0)) fun v1 h1 =>
  bnd (pu h1 (loadV G false 1 v1 h1)) fun v2 h2 =>
  bnd (pureCall (isa_of.f G k) [v2] h2) fun v3 h3 =>
  bnd (pu h3 (extractA v3 0)) fun v4 h4 =>
  bnd (pu h4 (extractA v3 1)) fun v5 h5 =>
  bnd (boxA 34 (.agg [(.str ⟨#[]⟩), (.int .u32 0), (.bool false), (.bool false), (.bool false), (.bool false), (.int .i64 0)]) h5) fun v6 h6 =>
  bnd (stS (storeV 7 v6 v4 h6)) fun v7 h7 =>
  bnd (pu h7 (un .not v5)) fun v8 h8 =>
  bnd (gd v8 false h8 (pu h8 (loadV G true 6 v0 h8))) fun v9 h9 =>
  bnd (gd v8 false h9 (pu h9 (loadV G true 7 v6 h9))) fun v10 h10 =>
  bnd (gd v8 false h10 (pureCall (isa_fair.f G k) [v9, v10] h10)) fun v11 h11 =>
  bnd (gd v8 false h11 (pu h11 (un .not v11))) fun v12 h12 =>
  bnd (pu h12 (pickA v8 (.bool true) v12)) fun v13 h13 =>
  condA v13
  (finV [(.int .u32 0), (.bool false)] h.length h13)
  (bnd (pu h13 (fieldAddrV 1 v6)) fun v14 h14 =>
  bnd (pu h14 (loadV G false 1 v14 h14)) fun v15 h15 =>
  bnd (pu h15 (fieldAddrV 1 v0)) fun v16 h16 =>
  bnd (pu h16 (loadV G false 1 v16 h16)) fun v17 h17 =>
  bnd (pu h17 (convInt .u32 v17)) fun v18 h18 =>
  bnd (pu h18 (bin Try.prog .or 24 false v15 v18)) fun v19 h19 =>
  bnd (pu h19 (fieldAddrV 2 v0)) fun v20 h20 =>
  bnd (pu h20 (loadV G false 1 v20 h20)) fun v21 h21 =>
  bnd (pu h21 (convInt .u32 v21)) fun v22 h22 =>
  bnd (pu h22 (bin Try.prog .shl 24 true v22 (.int .u64 5))) fun v23 h23 =>
  bnd (pu h23 (bin Try.prog .or 24 false v19 v23)) fun v24 h24 =>
  bnd (pu h24 (fieldAddrV 3 v0)) fun v25 h25 =>
  bnd (pu h25 (loadV G false 1 v25 h25)) fun v26 h26 =>
  bnd (pu h26 (convInt .u32 v26)) fun v27 h27 =>
  bnd (pu h27 (bin Try.prog .shl 24 true v27 (.int .u64 16))) fun v28 h28 =>
  bnd (pu h28 (bin Try.prog .or 24 false v24 v28)) fun v29 h29 =>
  bnd (pu h29 (loadV G true 6 v0 h29)) fun v30 h30 =>
  bnd (pureCall (isa_number.f G k) [v30] h30) fun v31 h31 =>
  bnd (pu h31 (bin Try.prog .or 24 false v29 v31)) fun v32 h32 =>
  finV [v32, (.bool true)] h.length h32))
noncomputable def isa_Word.f (G : Globs) : Nat → Den
  | 0 => fun _ _ => none
  | k + 1 => fun args h => arg1 args fun x0 => (isa_Word.c G k (isa_Word.f G k) x0 h)
theorem isa_Word.step (G : Globs) (k : Nat) (x0 : AV) (h : AHeap) : isa_Word.f G (k + 1) [x0] h = isa_Word.c G k (isa_Word.f G k) x0 h := rfl
/-! alembic/alembiclaw22.first: function 4 -/
noncomputable def alembiclaw22_first.ann : Ann := mkAnn [] [] [] []
noncomputable def alembiclaw22_first.env (G : Globs) (k : Nat) (self : Den) : List (Nat × Bool × Den) := [(6, true, isa_Word.f G k)]
noncomputable def alembiclaw22_first.c (G : Globs) (k : Nat) (self : Den) (h : AHeap) : Option (AV × AHeap) := outV (
  bnd (pu h (buildSt [(0, 1), (1, 1), (2, 1), (3, 1), (4, 1), (5, 1)] [(.int .i64 0), (.int .i64 0), (.int .i64 0), (.int .i64 0), (.int .i64 0), (.int .i64 0)] [(0, (.int .i64 3)), (1, (.int .i64 1)), (2, (.int .i64 2)), (3, (.int .i64 3))])) fun v0 h0 =>
  bnd (pureCall (isa_Word.f G k) [v0] h0) fun v1 h1 =>
  bnd (pu h1 (extractA v1 0)) fun v2 h2 =>
  bnd (pu h2 (extractA v1 1)) fun v3 h3 =>
  bnd (gd v3 true h3 (some (v2, h3))) fun v4 h4 =>
  bnd (gd v3 true h4 (pu h4 (bin Try.prog .eql 24 true v4 (.int .u32 2332229697)))) fun v5 h5 =>
  bnd (pu h5 (pickA v3 v5 (.bool false))) fun v6 h6 =>
  finV [v6] h.length h6)
noncomputable def alembiclaw22_first.f (G : Globs) : Nat → Den
  | 0 => fun _ _ => none
  | k + 1 => fun args h => arg0 args (alembiclaw22_first.c G k (alembiclaw22_first.f G k) h)
theorem alembiclaw22_first.step (G : Globs) (k : Nat) (h : AHeap) : alembiclaw22_first.f G (k + 1) [] h = alembiclaw22_first.c G k (alembiclaw22_first.f G k) h := rfl
/-! alembic/isa.field: function 12 -/
noncomputable def isa_field.ann : Ann := mkAnn [] [] [] []
noncomputable def isa_field.env (G : Globs) (k : Nat) (self : Den) : List (Nat × Bool × Den) := []
noncomputable def isa_field.c (G : Globs) (k : Nat) (self : Den) (x0 x1 x2 : AV) (h : AHeap) : Option (AV × AHeap) := outV (
  bnd (pu h (bin Try.prog .shr 24 false x0 x1)) fun v0 h0 =>
  bnd (pu h0 (bin Try.prog .shl 24 true (.int .u32 1) x2)) fun v1 h1 =>
  bnd (pu h1 (bin Try.prog .sub 24 true v1 (.int .u32 1))) fun v2 h2 =>
  bnd (pu h2 (bin Try.prog .and 24 false v0 v2)) fun v3 h3 =>
  bnd (pu h3 (convInt .i64 v3)) fun v4 h4 =>
  finV [v4] h.length h4)
noncomputable def isa_field.f (G : Globs) : Nat → Den
  | 0 => fun _ _ => none
  | k + 1 => fun args h => arg3 args fun x0 x1 x2 => (isa_field.c G k (isa_field.f G k) x0 x1 x2 h)
theorem isa_field.step (G : Globs) (k : Nat) (x0 x1 x2 : AV) (h : AHeap) : isa_field.f G (k + 1) [x0, x1, x2] h = isa_field.c G k (isa_field.f G k) x0 x1 x2 h := rfl
/-! alembic/isa.sign: function 20 -/
noncomputable def isa_sign.ann : Ann := mkAnn [] [] [] []
noncomputable def isa_sign.env (G : Globs) (k : Nat) (self : Den) : List (Nat × Bool × Den) := []
noncomputable def isa_sign.c (G : Globs) (k : Nat) (self : Den) (x0 x1 : AV) (h : AHeap) : Option (AV × AHeap) := outV (
  bnd (pu h (bin Try.prog .sub 3 true x1 (.int .i64 1))) fun v0 h0 =>
  bnd (pu h0 (bin Try.prog .shl 3 true (.int .i64 1) v0)) fun v1 h1 =>
  bnd (pu h1 (bin Try.prog .geq 3 false x0 v1)) fun v2 h2 =>
  condA v2
  (bnd (pu h2 (bin Try.prog .shl 3 true (.int .i64 1) x1)) fun v3 h3 =>
  bnd (pu h3 (bin Try.prog .sub 3 false x0 v3)) fun v4 h4 =>
  finV [v4] h.length h4)
  (finV [x0] h.length h2))
noncomputable def isa_sign.f (G : Globs) : Nat → Den
  | 0 => fun _ _ => none
  | k + 1 => fun args h => arg2 args fun x0 x1 => (isa_sign.c G k (isa_sign.f G k) x0 x1 h)
theorem isa_sign.step (G : Globs) (k : Nat) (x0 x1 : AV) (h : AHeap) : isa_sign.f G (k + 1) [x0, x1] h = isa_sign.c G k (isa_sign.f G k) x0 x1 h := rfl
/-! alembic/isa.extras: function 13 -/
noncomputable def isa_extras.ann : Ann := mkAnn [] [] [] [(27, [1, 6, 56]), (20, [1, 6, 39]), (15, [1, 6, 27]), (4, [1, 6, 7])]
noncomputable def isa_extras.env (G : Globs) (k : Nat) (self : Den) : List (Nat × Bool × Den) := [(12, true, isa_field.f G k), (20, true, isa_sign.f G k)]
noncomputable def isa_extras.c (G : Globs) (k : Nat) (self : Den) (x0 x1 : AV) (h : AHeap) : Option (AV × AHeap) := outV (
  thenK (
  bnd (pu h (bin Try.prog .eql 3 true x0 (.int .i64 1))) fun v0 h0 =>
  condA v0
  (some (.normal, [x1, x0, v0], h0))
  (bnd (pu h0 (bin Try.prog .eql 3 true x0 (.int .i64 2))) fun v1 h1 =>
  some (.normal, [x1, x0, v1], h1))) fun e2 x2 h2 => exK e2
  (condA (nth x2 2)
  (bnd (pureCall (isa_field.f G k) [(nth x2 0), (.int .i64 21), (.int .i64 2)] h2) fun v3 h3 =>
  bnd (pureCall (isa_field.f G k) [(nth x2 0), (.int .i64 5), (.int .i64 16)] h3) fun v4 h4 =>
  finV [v3, v4] h.length h4)
  (bnd (pu h2 (bin Try.prog .eql 3 true (nth x2 1) (.int .i64 8))) fun v5 h5 =>
  condA v5
  (bnd (pureCall (isa_field.f G k) [(nth x2 0), (.int .i64 10), (.int .i64 5)] h5) fun v6 h6 =>
  finV [v6, (.int .i64 0)] h.length h6)
  (bnd (pu h5 (bin Try.prog .eql 3 true (nth x2 1) (.int .i64 16))) fun v7 h7 =>
  condA v7
  (bnd (pureCall (isa_field.f G k) [(nth x2 0), (.int .i64 12), (.int .i64 4)] h7) fun v8 h8 =>
  finV [v8, (.int .i64 0)] h.length h8)
  (bnd (pu h7 (bin Try.prog .eql 3 true (nth x2 1) (.int .i64 17))) fun v9 h9 =>
  condA v9
  (bnd (pureCall (isa_field.f G k) [(nth x2 0), (.int .i64 12), (.int .i64 4)] h9) fun v10 h10 =>
  bnd (pu h10 (bin Try.prog .xor 3 true v10 (.int .i64 1))) fun v11 h11 =>
  finV [v11, (.int .i64 0)] h.length h11)
  (thenK (
  bnd (pu h9 (bin Try.prog .eql 3 true (nth x2 1) (.int .i64 10))) fun v12 h12 =>
  condA v12
  (some (.normal, [(nth x2 0), (nth x2 1), v12], h12))
  (bnd (pu h12 (bin Try.prog .eql 3 true (nth x2 1) (.int .i64 11))) fun v13 h13 =>
  condA v13
  (some (.normal, [(nth x2 0), (nth x2 1), v13], h13))
  (bnd (pu h13 (bin Try.prog .eql 3 true (nth x2 1) (.int .i64 18))) fun v14 h14 =>
  condA v14
  (some (.normal, [(nth x2 0), (nth x2 1), v14], h14))
  (bnd (pu h14 (bin Try.prog .eql 3 true (nth x2 1) (.int .i64 19))) fun v15 h15 =>
  some (.normal, [(nth x2 0), (nth x2 1), v15], h15))))) fun e16 x16 h16 => exK e16
  (condA (nth x16 2)
  (bnd (pureCall (isa_field.f G k) [(nth x16 0), (.int .i64 10), (.int .i64 12)] h16) fun v17 h17 =>
  finV [(.int .i64 0), v17] h.length h17)
  (bnd (pu h16 (bin Try.prog .eql 3 true (nth x16 1) (.int .i64 12))) fun v18 h18 =>
  condA v18
  (bnd (pureCall (isa_field.f G k) [(nth x16 0), (.int .i64 10), (.int .i64 6)] h18) fun v19 h19 =>
  bnd (pu h19 (bin Try.prog .sub 3 true (.int .i64 63) v19)) fun v20 h20 =>
  finV [(.int .i64 0), v20] h.length h20)
  (thenK (
  bnd (pu h18 (bin Try.prog .eql 3 true (nth x16 1) (.int .i64 13))) fun v21 h21 =>
  condA v21
  (some (.normal, [(nth x16 0), (nth x16 1), v21], h21))
  (bnd (pu h21 (bin Try.prog .eql 3 true (nth x16 1) (.int .i64 14))) fun v22 h22 =>
  some (.normal, [(nth x16 0), (nth x16 1), v22], h22))) fun e23 x23 h23 => exK e23
  (condA (nth x23 2)
  (bnd (pureCall (isa_field.f G k) [(nth x23 0), (.int .i64 16), (.int .i64 6)] h23) fun v24 h24 =>
  finV [(.int .i64 0), v24] h.length h24)
  (bnd (pu h23 (bin Try.prog .eql 3 true (nth x23 1) (.int .i64 20))) fun v25 h25 =>
  condA v25
  (bnd (pureCall (isa_field.f G k) [(nth x23 0), (.int .i64 0), (.int .i64 26)] h25) fun v26 h26 =>
  bnd (pureCall (isa_sign.f G k) [v26, (.int .i64 26)] h26) fun v27 h27 =>
  finV [(.int .i64 0), v27] h.length h27)
  (bnd (pu h25 (bin Try.prog .eql 3 true (nth x23 1) (.int .i64 21))) fun v28 h28 =>
  condA v28
  (bnd (pureCall (isa_field.f G k) [(nth x23 0), (.int .i64 0), (.int .i64 4)] h28) fun v29 h29 =>
  bnd (pureCall (isa_field.f G k) [(nth x23 0), (.int .i64 5), (.int .i64 19)] h29) fun v30 h30 =>
  bnd (pureCall (isa_sign.f G k) [v30, (.int .i64 19)] h30) fun v31 h31 =>
  finV [v29, v31] h.length h31)
  (thenK (
  bnd (pu h28 (bin Try.prog .eql 3 true (nth x23 1) (.int .i64 22))) fun v32 h32 =>
  condA v32
  (some (.normal, [(nth x23 0), (nth x23 1), v32], h32))
  (bnd (pu h32 (bin Try.prog .eql 3 true (nth x23 1) (.int .i64 23))) fun v33 h33 =>
  some (.normal, [(nth x23 0), (nth x23 1), v33], h33))) fun e34 x34 h34 => exK e34
  (condA (nth x34 2)
  (bnd (pureCall (isa_field.f G k) [(nth x34 0), (.int .i64 5), (.int .i64 19)] h34) fun v35 h35 =>
  bnd (pureCall (isa_sign.f G k) [v35, (.int .i64 19)] h35) fun v36 h36 =>
  finV [(.int .i64 0), v36] h.length h36)
  (bnd (pu h34 (bin Try.prog .eql 3 true (nth x34 1) (.int .i64 24))) fun v37 h37 =>
  condA v37
  (bnd (pureCall (isa_field.f G k) [(nth x34 0), (.int .i64 5), (.int .i64 16)] h37) fun v38 h38 =>
  finV [(.int .i64 0), v38] h.length h38)
  (finV [(.int .i64 0), (.int .i64 0)] h.length h37)))
  (fun i34 => if i34 = 0 then (finV [(.int .i64 0), (.int .i64 0)] h.length h34) else (none))
  (finV [.undef, .undef] h.length h34)))))
  (fun i23 => if i23 = 0 then (finV [(.int .i64 0), (.int .i64 0)] h.length h23) else (none))
  (finV [.undef, .undef] h.length h23))))
  (fun i16 => if i16 = 0 then (finV [(.int .i64 0), (.int .i64 0)] h.length h16) else (none))
  (finV [.undef, .undef] h.length h16))))))
  (fun i2 => if i2 = 0 then (finV [(.int .i64 0), (.int .i64 0)] h.length h2) else (none))
  (finV [.undef, .undef] h.length h2))
noncomputable def isa_extras.f (G : Globs) : Nat → Den
  | 0 => fun _ _ => none
  | k + 1 => fun args h => arg2 args fun x0 x1 => (isa_extras.c G k (isa_extras.f G k) x0 x1 h)
theorem isa_extras.step (G : Globs) (k : Nat) (x0 x1 : AV) (h : AHeap) : isa_extras.f G (k + 1) [x0, x1] h = isa_extras.c G k (isa_extras.f G k) x0 x1 h := rfl
/-! alembic/isa.as: function 8 -/
noncomputable def isa_as.ann : Ann := mkAnn [] [] [] [(9, [0, 1, 4, 8]), (7, [0, 1, 4, 6, 8]), (5, [0, 1, 4, 6, 8])]
noncomputable def isa_as.env (G : Globs) (k : Nat) (self : Den) : List (Nat × Bool × Den) := [(6, true, isa_Word.f G k), (9, true, isa_of.f G k), (12, true, isa_field.f G k), (13, true, isa_extras.f G k)]
noncomputable def isa_as.c (G : Globs) (k : Nat) (self : Den) (x0 x1 : AV) (h : AHeap) : Option (AV × AHeap) := outV (
  bnd (boxA 23 (.agg [(.int .i64 0), (.int .i64 0), (.int .i64 0), (.int .i64 0), (.int .i64 0), (.int .i64 0)]) h) fun v0 h0 =>
  bnd (pureCall (isa_of.f G k) [x0] h0) fun v1 h1 =>
  bnd (pu h1 (extractA v1 0)) fun v2 h2 =>
  bnd (pu h2 (extractA v1 1)) fun v3 h3 =>
  bnd (boxA 34 (.agg [(.str ⟨#[]⟩), (.int .u32 0), (.bool false), (.bool false), (.bool false), (.bool false), (.int .i64 0)]) h3) fun v4 h4 =>
  bnd (stS (storeV 7 v4 v2 h4)) fun v5 h5 =>
  bnd (pu h5 (buildSt [(0, 1), (1, 1), (2, 1), (3, 1), (4, 1), (5, 1)] [(.int .i64 0), (.int .i64 0), (.int .i64 0), (.int .i64 0), (.int .i64 0), (.int .i64 0)] [(0, x0)])) fun v6 h6 =>
  bnd (boxA 23 (.agg [(.int .i64 0), (.int .i64 0), (.int .i64 0), (.int .i64 0), (.int .i64 0), (.int .i64 0)]) h6) fun v7 h7 =>
  bnd (stS (storeV 6 v7 v6 h7)) fun v8 h8 =>
  thenK (
  bnd (pu h8 (fieldAddrV 2 v4)) fun v9 h9 =>
  bnd (pu h9 (loadV G false 1 v9 h9)) fun v10 h10 =>
  condA v10
  (bnd (pureCall (isa_field.f G k) [x1, (.int .i64 0), (.int .i64 5)] h10) fun v11 h11 =>
  bnd (pu h11 (fieldAddrV 1 v7)) fun v12 h12 =>
  bnd (stS (storeV 1 v12 v11 h12)) fun v13 h13 =>
  some (.normal, [x0, x1, v0, v4, v7], h13))
  (some (.normal, [x0, x1, v0, v4, v7], h10))) fun e14 x14 h14 => exK e14
  (thenK (
  bnd (pu h14 (fieldAddrV 3 (nth x14 3))) fun v15 h15 =>
  bnd (pu h15 (loadV G false 1 v15 h15)) fun v16 h16 =>
  condA v16
  (bnd (pureCall (isa_field.f G k) [(nth x14 1), (.int .i64 5), (.int .i64 5)] h16) fun v17 h17 =>
  bnd (pu h17 (fieldAddrV 2 (nth x14 4))) fun v18 h18 =>
  bnd (stS (storeV 1 v18 v17 h18)) fun v19 h19 =>
  some (.normal, [(nth x14 0), (nth x14 1), (nth x14 2), (nth x14 3), (nth x14 4)], h19))
  (some (.normal, [(nth x14 0), (nth x14 1), (nth x14 2), (nth x14 3), (nth x14 4)], h16))) fun e20 x20 h20 => exK e20
  (thenK (
  bnd (pu h20 (fieldAddrV 4 (nth x20 3))) fun v21 h21 =>
  bnd (pu h21 (loadV G false 1 v21 h21)) fun v22 h22 =>
  condA v22
  (bnd (pureCall (isa_field.f G k) [(nth x20 1), (.int .i64 16), (.int .i64 5)] h22) fun v23 h23 =>
  bnd (pu h23 (fieldAddrV 3 (nth x20 4))) fun v24 h24 =>
  bnd (stS (storeV 1 v24 v23 h24)) fun v25 h25 =>
  some (.normal, [(nth x20 0), (nth x20 1), (nth x20 2), (nth x20 4)], h25))
  (some (.normal, [(nth x20 0), (nth x20 1), (nth x20 2), (nth x20 4)], h22))) fun e26 x26 h26 => exK e26
  (bnd (pureCall (isa_extras.f G k) [(nth x26 0), (nth x26 1)] h26) fun v27 h27 =>
  bnd (pu h27 (extractA v27 0)) fun v28 h28 =>
  bnd (pu h28 (extractA v27 1)) fun v29 h29 =>
  bnd (pu h29 (fieldAddrV 4 (nth x26 3))) fun v30 h30 =>
  bnd (stS (storeV 1 v30 v28 h30)) fun v31 h31 =>
  bnd (pu h31 (fieldAddrV 5 (nth x26 3))) fun v32 h32 =>
  bnd (stS (storeV 1 v32 v29 h32)) fun v33 h33 =>
  bnd (pu h33 (loadV G true 6 (nth x26 3) h33)) fun v34 h34 =>
  bnd (pureCall (isa_Word.f G k) [v34] h34) fun v35 h35 =>
  bnd (pu h35 (extractA v35 0)) fun v36 h36 =>
  bnd (pu h36 (extractA v35 1)) fun v37 h37 =>
  bnd (pu h37 (loadV G true 6 (nth x26 3) h37)) fun v38 h38 =>
  bnd (gd v37 true h38 (some (v36, h38))) fun v39 h39 =>
  bnd (gd v37 true h39 (some ((nth x26 1), h39))) fun v40 h40 =>
  bnd (gd v37 true h40 (pu h40 (bin Try.prog .eql 24 false v39 v40))) fun v41 h41 =>
  bnd (pu h41 (pickA v37 v41 (.bool false))) fun v42 h42 =>
  bnd (stS (storeV 6 (nth x26 2) v38 h42)) fun v43 h43 =>
  finL [loadV G true 6 (nth x26 2) h43, some v42] h.length h43)
  (fun i26 => none)
  (finL [loadV G true 6 (nth x26 2) h26, some .undef] h.length h26))
  (fun i20 => none)
  (finL [loadV G true 6 (nth x20 2) h20, some .undef] h.length h20))
  (fun i14 => none)
  (finL [loadV G true 6 (nth x14 2) h14, some .undef] h.length h14))
noncomputable def isa_as.f (G : Globs) : Nat → Den
  | 0 => fun _ _ => none
  | k + 1 => fun args h => arg2 args fun x0 x1 => (isa_as.c G k (isa_as.f G k) x0 x1 h)
theorem isa_as.step (G : Globs) (k : Nat) (x0 x1 : AV) (h : AHeap) : isa_as.f G (k + 1) [x0, x1] h = isa_as.c G k (isa_as.f G k) x0 x1 h := rfl
/-! alembic/isa.Of: function 5 -/
noncomputable def isa_Of.ann : Ann := mkAnn [] [] [(2, [0, 2, 3, 4])] []
noncomputable def isa_Of.env (G : Globs) (k : Nat) (self : Den) : List (Nat × Bool × Den) := [(8, true, isa_as.f G k)]
noncomputable def isa_Of.l2 (G : Globs) (k n0 : Nat) (self : Den) (lp : LoopF) : LoopF := fun xs h0 => cutK n0 xs h0 fun h =>
  bnd (pu h (bin Try.prog .leq 3 true (nth xs 3) (.int .i64 24))) fun v2 h2 =>
  condA v2
  (bnd (pureCall (isa_as.f G k) [(nth xs 3), (nth xs 0)] h2) fun v3 h3 =>
  bnd (pu h3 (extractA v3 0)) fun v4 h4 =>
  bnd (pu h4 (extractA v3 1)) fun v5 h5 =>
  bnd (boxA 23 (.agg [(.int .i64 0), (.int .i64 0), (.int .i64 0), (.int .i64 0), (.int .i64 0), (.int .i64 0)]) h5) fun v6 h6 =>
  bnd (stS (storeV 6 v6 v4 h6)) fun v7 h7 =>
  bnd (gd v5 true h7 (some ((nth xs 3), h7))) fun v8 h8 =>
  bnd (gd v5 true h8 (pu h8 (bin Try.prog .neq 3 true v8 (.int .i64 12)))) fun v9 h9 =>
  bnd (gd v5 true h9 (some (v9, h9))) fun v10 h10 =>
  bnd (gd v10 false h10 (pu h10 (fieldAddrV 5 v6))) fun v11 h11 =>
  bnd (gd v10 false h11 (pu h11 (loadV G false 1 v11 h11))) fun v12 h12 =>
  bnd (gd v10 false h12 (pu h12 (bin Try.prog .neq 3 true v12 (.int .i64 0)))) fun v13 h13 =>
  bnd (gd v5 true h13 (pu h13 (pickA v10 (.bool true) v13))) fun v14 h14 =>
  bnd (pu h14 (pickA v5 v14 (.bool false))) fun v15 h15 =>
  condA v15
  (bnd (pu h15 (loadV G true 6 v6 h15)) fun v16 h16 =>
  bnd (stS (storeV 6 (nth xs 1) v16 h16)) fun v17 h17 =>
  some (.ret, [(nth xs 0), (nth xs 1), (.bool true), (nth xs 3)], h17))
  (bnd (pu h15 (bin Try.prog .add 3 true (nth xs 3) (.int .i64 1))) fun v18 h18 =>
  lp [(nth xs 0), (nth xs 1), (nth xs 2), v18] h18))
  (some (.exit 0, [(nth xs 0), (nth xs 1), (nth xs 2), (nth xs 3)], h2))
noncomputable def isa_Of.c (G : Globs) (k : Nat) (self : Den) (x0 : AV) (h : AHeap) : Option (AV × AHeap) := outV (
  bnd (boxA 23 (.agg [(.int .i64 0), (.int .i64 0), (.int .i64 0), (.int .i64 0), (.int .i64 0), (.int .i64 0)]) h) fun v0 h0 =>
  thenK (loopN (isa_Of.l2 G k h0.length self) k [x0, v0, (.bool false), (.int .i64 1)] h0) fun e1 x1 h1 => exK e1
  (bnd (pu h1 (buildSt [(0, 1), (1, 1), (2, 1), (3, 1), (4, 1), (5, 1)] [(.int .i64 0), (.int .i64 0), (.int .i64 0), (.int .i64 0), (.int .i64 0), (.int .i64 0)] [])) fun v19 h19 =>
  bnd (stS (storeV 6 (nth x1 1) v19 h19)) fun v20 h20 =>
  finL [loadV G true 6 (nth x1 1) h20, some (.bool false)] h.length h20)
  (fun i1 => if i1 = 0 then (bnd (pu h1 (buildSt [(0, 1), (1, 1), (2, 1), (3, 1), (4, 1), (5, 1)] [(.int .i64 0), (.int .i64 0), (.int .i64 0), (.int .i64 0), (.int .i64 0), (.int .i64 0)] [])) fun v21 h21 =>
  bnd (stS (storeV 6 (nth x1 1) v21 h21)) fun v22 h22 =>
  finL [loadV G true 6 (nth x1 1) h22, some (.bool false)] h.length h22) else (none))
  (finL [loadV G true 6 (nth x1 1) h1, some (nth x1 2)] h.length h1))
noncomputable def isa_Of.f (G : Globs) : Nat → Den
  | 0 => fun _ _ => none
  | k + 1 => fun args h => arg1 args fun x0 => (isa_Of.c G k (isa_Of.f G k) x0 h)
theorem isa_Of.step (G : Globs) (k : Nat) (x0 : AV) (h : AHeap) : isa_Of.f G (k + 1) [x0] h = isa_Of.c G k (isa_Of.f G k) x0 h := rfl
/-! alembic/alembicref.SameInstr: function 7 -/
noncomputable def alembicref_SameInstr.ann : Ann := mkAnn [] [] [] []
noncomputable def alembicref_SameInstr.env (G : Globs) (k : Nat) (self : Den) : List (Nat × Bool × Den) := []
noncomputable def alembicref_SameInstr.c (G : Globs) (k : Nat) (self : Den) (x0 x1 : AV) (h : AHeap) : Option (AV × AHeap) := outV (
  bnd (boxRoA x0 h) fun v0 h0 =>
  bnd (boxRoA x1 h0) fun v1 h1 =>
  bnd (pu h1 (fieldAddrV 0 v0)) fun v2 h2 =>
  bnd (pu h2 (loadV G false 1 v2 h2)) fun v3 h3 =>
  bnd (pu h3 (fieldAddrV 0 v1)) fun v4 h4 =>
  bnd (pu h4 (loadV G false 1 v4 h4)) fun v5 h5 =>
  bnd (pu h5 (bin Try.prog .eql 3 false v3 v5)) fun v6 h6 =>
  bnd (gd v6 true h6 (pu h6 (fieldAddrV 1 v0))) fun v7 h7 =>
  bnd (gd v6 true h7 (pu h7 (loadV G false 1 v7 h7))) fun v8 h8 =>
  bnd (gd v6 true h8 (pu h8 (fieldAddrV 1 v1))) fun v9 h9 =>
  bnd (gd v6 true h9 (pu h9 (loadV G false 1 v9 h9))) fun v10 h10 =>
  bnd (gd v6 true h10 (pu h10 (bin Try.prog .eql 3 false v8 v10))) fun v11 h11 =>
  bnd (pu h11 (pickA v6 v11 (.bool false))) fun v12 h12 =>
  bnd (gd v12 true h12 (pu h12 (fieldAddrV 2 v0))) fun v13 h13 =>
  bnd (gd v12 true h13 (pu h13 (loadV G false 1 v13 h13))) fun v14 h14 =>
  bnd (gd v12 true h14 (pu h14 (fieldAddrV 2 v1))) fun v15 h15 =>
  bnd (gd v12 true h15 (pu h15 (loadV G false 1 v15 h15))) fun v16 h16 =>
  bnd (gd v12 true h16 (pu h16 (bin Try.prog .eql 3 false v14 v16))) fun v17 h17 =>
  bnd (pu h17 (pickA v12 v17 (.bool false))) fun v18 h18 =>
  bnd (gd v18 true h18 (pu h18 (fieldAddrV 3 v0))) fun v19 h19 =>
  bnd (gd v18 true h19 (pu h19 (loadV G false 1 v19 h19))) fun v20 h20 =>
  bnd (gd v18 true h20 (pu h20 (fieldAddrV 3 v1))) fun v21 h21 =>
  bnd (gd v18 true h21 (pu h21 (loadV G false 1 v21 h21))) fun v22 h22 =>
  bnd (gd v18 true h22 (pu h22 (bin Try.prog .eql 3 false v20 v22))) fun v23 h23 =>
  bnd (pu h23 (pickA v18 v23 (.bool false))) fun v24 h24 =>
  bnd (gd v24 true h24 (pu h24 (fieldAddrV 4 v0))) fun v25 h25 =>
  bnd (gd v24 true h25 (pu h25 (loadV G false 1 v25 h25))) fun v26 h26 =>
  bnd (gd v24 true h26 (pu h26 (fieldAddrV 4 v1))) fun v27 h27 =>
  bnd (gd v24 true h27 (pu h27 (loadV G false 1 v27 h27))) fun v28 h28 =>
  bnd (gd v24 true h28 (pu h28 (bin Try.prog .eql 3 false v26 v28))) fun v29 h29 =>
  bnd (pu h29 (pickA v24 v29 (.bool false))) fun v30 h30 =>
  bnd (gd v30 true h30 (pu h30 (fieldAddrV 5 v0))) fun v31 h31 =>
  bnd (gd v30 true h31 (pu h31 (loadV G false 1 v31 h31))) fun v32 h32 =>
  bnd (gd v30 true h32 (pu h32 (fieldAddrV 5 v1))) fun v33 h33 =>
  bnd (gd v30 true h33 (pu h33 (loadV G false 1 v33 h33))) fun v34 h34 =>
  bnd (gd v30 true h34 (pu h34 (bin Try.prog .eql 3 false v32 v34))) fun v35 h35 =>
  bnd (pu h35 (pickA v30 v35 (.bool false))) fun v36 h36 =>
  finV [v36] h.length h36)
noncomputable def alembicref_SameInstr.f (G : Globs) : Nat → Den
  | 0 => fun _ _ => none
  | k + 1 => fun args h => arg2 args fun x0 x1 => (alembicref_SameInstr.c G k (alembicref_SameInstr.f G k) x0 x1 h)
theorem alembicref_SameInstr.step (G : Globs) (k : Nat) (x0 x1 : AV) (h : AHeap) : alembicref_SameInstr.f G (k + 1) [x0, x1] h = alembicref_SameInstr.c G k (alembicref_SameInstr.f G k) x0 x1 h := rfl
/-! alembic/alembiclaw22.IsaBack: function 3 -/
noncomputable def alembiclaw22_IsaBack.ann : Ann := mkAnn [] [] [] [(22, [7, 12, 14, 15, 18, 19]), (17, [4, 7, 12, 14, 15, 16, 17, 18]), (9, [3, 4, 6, 7])]
noncomputable def alembiclaw22_IsaBack.env (G : Globs) (k : Nat) (self : Den) : List (Nat × Bool × Den) := [(4, true, alembiclaw22_first.f G k), (5, true, isa_Of.f G k), (6, true, isa_Word.f G k), (7, true, alembicref_SameInstr.f G k)]
noncomputable def alembiclaw22_IsaBack.c (G : Globs) (k : Nat) (self : Den) (x0 x1 x2 : AV) (h : AHeap) : Option (AV × AHeap) := outV (
  bnd (boxRoA x0 h) fun v0 h0 =>
  bnd (boxRoA x1 h0) fun v1 h1 =>
  bnd (pureCall (alembiclaw22_first.f G k) [] h1) fun v2 h2 =>
  bnd (pu h2 (un .not v2)) fun v3 h3 =>
  condA v3
  (finV [(.bool false)] h.length h3)
  (bnd (pureCall (isa_Of.f G k) [x2] h3) fun v4 h4 =>
  bnd (pu h4 (extractA v4 0)) fun v5 h5 =>
  bnd (pu h5 (extractA v4 1)) fun v6 h6 =>
  bnd (boxA 23 (.agg [(.int .i64 0), (.int .i64 0), (.int .i64 0), (.int .i64 0), (.int .i64 0), (.int .i64 0)]) h6) fun v7 h7 =>
  bnd (stS (storeV 6 v7 v5 h7)) fun v8 h8 =>
  thenK (
  condA v6
  (bnd (pu h8 (loadV G true 6 v7 h8)) fun v9 h9 =>
  bnd (pureCall (isa_Word.f G k) [v9] h9) fun v10 h10 =>
  bnd (pu h10 (extractA v10 0)) fun v11 h11 =>
  bnd (pu h11 (extractA v10 1)) fun v12 h12 =>
  bnd (pu h12 (un .not v12)) fun v13 h13 =>
  bnd (gd v13 false h13 (some (v11, h13))) fun v14 h14 =>
  bnd (gd v13 false h14 (some (x2, h14))) fun v15 h15 =>
  bnd (gd v13 false h15 (pu h15 (bin Try.prog .neq 24 false v14 v15))) fun v16 h16 =>
  bnd (pu h16 (pickA v13 (.bool true) v16)) fun v17 h17 =>
  condA v17
  (some (.ret, [v0, v1, (.bool false), v2], h17))
  (some (.normal, [v0, v1, (.bool false), v2], h17)))
  (some (.normal, [v0, v1, (.bool false), v2], h8))) fun e18 x18 h18 => exK e18
  (bnd (pu h18 (loadV G true 6 (nth x18 0) h18)) fun v19 h19 =>
  bnd (pureCall (isa_Word.f G k) [v19] h19) fun v20 h20 =>
  bnd (pu h20 (extractA v20 0)) fun v21 h21 =>
  bnd (pu h21 (extractA v20 1)) fun v22 h22 =>
  bnd (pu h22 (loadV G true 6 (nth x18 1) h22)) fun v23 h23 =>
  bnd (pureCall (isa_Word.f G k) [v23] h23) fun v24 h24 =>
  bnd (pu h24 (extractA v24 0)) fun v25 h25 =>
  bnd (pu h25 (extractA v24 1)) fun v26 h26 =>
  bnd (pu h26 (un .not v22)) fun v27 h27 =>
  condA v27
  (bnd (gd (nth x18 3) true h27 (some (v21, h27))) fun v28 h28 =>
  bnd (gd (nth x18 3) true h28 (pu h28 (bin Try.prog .eql 24 true v28 (.int .u32 0)))) fun v29 h29 =>
  bnd (pu h29 (pickA (nth x18 3) v29 (.bool false))) fun v30 h30 =>
  finV [v30] h.length h30)
  (bnd (pureCall (isa_Of.f G k) [v21] h27) fun v31 h31 =>
  bnd (pu h31 (extractA v31 0)) fun v32 h32 =>
  bnd (pu h32 (extractA v31 1)) fun v33 h33 =>
  bnd (boxA 23 (.agg [(.int .i64 0), (.int .i64 0), (.int .i64 0), (.int .i64 0), (.int .i64 0), (.int .i64 0)]) h33) fun v34 h34 =>
  bnd (stS (storeV 6 v34 v32 h34)) fun v35 h35 =>
  bnd (pu h35 (loadV G true 6 (nth x18 0) h35)) fun v36 h36 =>
  bnd (boxA 23 (.agg [(.int .i64 0), (.int .i64 0), (.int .i64 0), (.int .i64 0), (.int .i64 0), (.int .i64 0)]) h36) fun v37 h37 =>
  bnd (stS (storeV 6 v37 v36 h37)) fun v38 h38 =>
  thenK (
  bnd (pu h38 (fieldAddrV 0 (nth x18 0))) fun v39 h39 =>
  bnd (pu h39 (loadV G false 1 v39 h39)) fun v40 h40 =>
  bnd (pu h40 (bin Try.prog .eql 3 true v40 (.int .i64 12))) fun v41 h41 =>
  bnd (gd v41 true h41 (pu h41 (fieldAddrV 5 (nth x18 0)))) fun v42 h42 =>
  bnd (gd v41 true h42 (pu h42 (loadV G false 1 v42 h42))) fun v43 h43 =>
  bnd (gd v41 true h43 (pu h43 (bin Try.prog .eql 3 true v43 (.int .i64 0)))) fun v44 h44 =>
  bnd (pu h44 (pickA v41 v44 (.bool false))) fun v45 h45 =>
  condA v45
  (bnd (pu h45 (fieldAddrV 0 v37)) fun v46 h46 =>
  bnd (stS (storeV 1 v46 (.int .i64 13) h46)) fun v47 h47 =>
  some (.normal, [(nth x18 1), (nth x18 3), v21, v25, v26, v34, v33, v37], h47))
  (some (.normal, [(nth x18 1), (nth x18 3), v21, v25, v26, v34, v33, v37], h45))) fun e48 x48 h48 => exK e48
  (bnd (pu h48 (un .not (nth x48 6))) fun v49 h49 =>
  bnd (gd v49 false h49 (pu h49 (loadV G true 6 (nth x48 5) h49))) fun v50 h50 =>
  bnd (gd v49 false h50 (pu h50 (loadV G true 6 (nth x48 7) h50))) fun v51 h51 =>
  bnd (gd v49 false h51 (pureCall (alembicref_SameInstr.f G k) [v50, v51] h51)) fun v52 h52 =>
  bnd (gd v49 false h52 (pu h52 (un .not v52))) fun v53 h53 =>
  bnd (pu h53 (pickA v49 (.bool true) v53)) fun v54 h54 =>
  condA v54
  (finV [(.bool false)] h.length h54)
  (bnd (pu h54 (loadV G true 6 (nth x48 0) h54)) fun v55 h55 =>
  bnd (boxA 23 (.agg [(.int .i64 0), (.int .i64 0), (.int .i64 0), (.int .i64 0), (.int .i64 0), (.int .i64 0)]) h55) fun v56 h56 =>
  bnd (stS (storeV 6 v56 v55 h56)) fun v57 h57 =>
  thenK (
  bnd (pu h57 (fieldAddrV 0 (nth x48 0))) fun v58 h58 =>
  bnd (pu h58 (loadV G false 1 v58 h58)) fun v59 h59 =>
  bnd (pu h59 (bin Try.prog .eql 3 true v59 (.int .i64 12))) fun v60 h60 =>
  bnd (gd v60 true h60 (pu h60 (fieldAddrV 5 (nth x48 0)))) fun v61 h61 =>
  bnd (gd v60 true h61 (pu h61 (loadV G false 1 v61 h61))) fun v62 h62 =>
  bnd (gd v60 true h62 (pu h62 (bin Try.prog .eql 3 true v62 (.int .i64 0)))) fun v63 h63 =>
  bnd (pu h63 (pickA v60 v63 (.bool false))) fun v64 h64 =>
  condA v64
  (bnd (pu h64 (fieldAddrV 0 v56)) fun v65 h65 =>
  bnd (stS (storeV 1 v65 (.int .i64 13) h65)) fun v66 h66 =>
  some (.normal, [(nth x48 1), (nth x48 2), (nth x48 3), (nth x48 4), (nth x48 7), v56], h66))
  (some (.normal, [(nth x48 1), (nth x48 2), (nth x48 3), (nth x48 4), (nth x48 7), v56], h64))) fun e67 x67 h67 => exK e67
  (bnd (gd (nth x67 0) true h67 (some ((nth x67 3), h67))) fun v68 h68 =>
  bnd (gd (nth x67 0) true h68 (pu h68 (un .not v68))) fun v69 h69 =>
  bnd (gd (nth x67 0) true h69 (some (v69, h69))) fun v70 h70 =>
  bnd (gd v70 false h70 (some ((nth x67 1), h70))) fun v71 h71 =>
  bnd (gd v70 false h71 (some ((nth x67 2), h71))) fun v72 h72 =>
  bnd (gd v70 false h72 (pu h72 (bin Try.prog .eql 24 false v71 v72))) fun v73 h73 =>
  bnd (gd v70 false h73 (pu h73 (loadV G true 6 (nth x67 4) h73))) fun v74 h74 =>
  bnd (gd v70 false h74 (pu h74 (loadV G true 6 (nth x67 5) h74))) fun v75 h75 =>
  bnd (gd v70 false h75 (pureCall (alembicref_SameInstr.f G k) [v74, v75] h75)) fun v76 h76 =>
  bnd (gd v70 false h76 (pu h76 (bin Try.prog .eql 4 false v73 v76))) fun v77 h77 =>
  bnd (gd (nth x67 0) true h77 (pu h77 (pickA v70 (.bool true) v77))) fun v78 h78 =>
  bnd (pu h78 (pickA (nth x67 0) v78 (.bool false))) fun v79 h79 =>
  finV [v79] h.length h79)
  (fun i67 => none)
  (finV [.undef] h.length h67)))
  (fun i48 => none)
  (finV [.undef] h.length h48)))
  (fun i18 => none)
  (finV [(nth x18 2)] h.length h18)))
noncomputable def alembiclaw22_IsaBack.f (G : Globs) : Nat → Den
  | 0 => fun _ _ => none
  | k + 1 => fun args h => arg3 args fun x0 x1 x2 => (alembiclaw22_IsaBack.c G k (alembiclaw22_IsaBack.f G k) x0 x1 x2 h)
theorem alembiclaw22_IsaBack.step (G : Globs) (k : Nat) (x0 x1 x2 : AV) (h : AHeap) : alembiclaw22_IsaBack.f G (k + 1) [x0, x1, x2] h = alembiclaw22_IsaBack.c G k (alembiclaw22_IsaBack.f G k) x0 x1 x2 h := rfl
end Go.Proofs.Ytbamoecablpfjaa.Mir
namespace Go.Proofs.Ytbamoecablpfjaa.Mir
open Go
set_option linter.unusedVariables false
theorem orders : Try.prog.follows .mixedOrders = true := by kernel_rfl
theorem isa_two.here : ∃ fn, Try.prog.funcs[14]? = some fn ∧ fn.body.isSome = true ∧ (fn.name == "runtime.NumGoroutine") = false := ⟨_, Try.func14, by kernel_rfl, by kernel_rfl⟩
theorem isa_two.eq (G : Globs) (k : Nat) (self : Den) (x0 x1 x2 : AV) (h : AHeap) : absFn Try.prog G (envL (isa_two.env G k self)) isa_two.ann Try.f14.results.toList (codeOf Try.f14) Try.f14.ntmps k [x0, x1, x2] h = isa_two.c G k self x0 x1 x2 h := by kernel_rfl
theorem isa_two.sound {G : Globs} (hG : ∀ g x, G g = some x → plainB x = true) : ∀ k, Sound Try.prog G 14 (isa_two.f G k)
  | 0 => sound_zero isa_two.here (fun _ _ => rfl)
  | k + 1 => sound_succ (l := isa_two.env G k (isa_two.f G k)) (ann := isa_two.ann) (n := k) (envSound_of hG envNil) orders Try.func14 (by kernel_rfl) (by kernel_rfl) rfl (by kernel_rfl) (arg3_of fun x0 x1 x2 h => isa_two.eq G k _ x0 x1 x2 h)
theorem isa_three.here : ∃ fn, Try.prog.funcs[21]? = some fn ∧ fn.body.isSome = true ∧ (fn.name == "runtime.NumGoroutine") = false := ⟨_, Try.func21, by kernel_rfl, by kernel_rfl⟩
theorem isa_three.eq (G : Globs) (k : Nat) (self : Den) (x0 x1 : AV) (h : AHeap) : absFn Try.prog G (envL (isa_three.env G k self)) isa_three.ann Try.f21.results.toList (codeOf Try.f21) Try.f21.ntmps k [x0, x1] h = isa_three.c G k self x0 x1 h := by kernel_rfl
theorem isa_three.sound {G : Globs} (hG : ∀ g x, G g = some x → plainB x = true) : ∀ k, Sound Try.prog G 21 (isa_three.f G k)
  | 0 => sound_zero isa_three.here (fun _ _ => rfl)
  | k + 1 => sound_succ (l := isa_three.env G k (isa_three.f G k)) (ann := isa_three.ann) (n := k) (envSound_of hG envNil) orders Try.func21 (by kernel_rfl) (by kernel_rfl) rfl (by kernel_rfl) (arg2_of fun x0 x1 h => isa_three.eq G k _ x0 x1 h)
theorem isa_plain.here : ∃ fn, Try.prog.funcs[15]? = some fn ∧ fn.body.isSome = true ∧ (fn.name == "runtime.NumGoroutine") = false := ⟨_, Try.func15, by kernel_rfl, by kernel_rfl⟩
theorem isa_plain.eq (G : Globs) (k : Nat) (self : Den) (x0 : AV) (h : AHeap) : absFn Try.prog G (envL (isa_plain.env G k self)) isa_plain.ann Try.f15.results.toList (codeOf Try.f15) Try.f15.ntmps k [x0] h = isa_plain.c G k self x0 h := by kernel_rfl
theorem isa_plain.sound {G : Globs} (hG : ∀ g x, G g = some x → plainB x = true) : ∀ k, Sound Try.prog G 15 (isa_plain.f G k)
  | 0 => sound_zero isa_plain.here (fun _ _ => rfl)
  | k + 1 => sound_succ (l := isa_plain.env G k (isa_plain.f G k)) (ann := isa_plain.ann) (n := k) (envSound_of hG (envCons (isa_two.sound hG k) (envCons (isa_three.sound hG k) envNil))) orders Try.func15 (by kernel_rfl) (by kernel_rfl) rfl (by kernel_rfl) (arg1_of fun x0 h => isa_plain.eq G k _ x0 h)
theorem isa_of.here : ∃ fn, Try.prog.funcs[9]? = some fn ∧ fn.body.isSome = true ∧ (fn.name == "runtime.NumGoroutine") = false := ⟨_, Try.func9, by kernel_rfl, by kernel_rfl⟩
theorem isa_of.eq (G : Globs) (k : Nat) (self : Den) (x0 : AV) (h : AHeap) : absFn Try.prog G (envL (isa_of.env G k self)) isa_of.ann Try.f9.results.toList (codeOf Try.f9) Try.f9.ntmps k [x0] h = isa_of.c G k self x0 h := by kernel_rfl
theorem isa_of.sound {G : Globs} (hG : ∀ g x, G g = some x → plainB x = true) : ∀ k, Sound Try.prog G 9 (isa_of.f G k)
  | 0 => sound_zero isa_of.here (fun _ _ => rfl)
  | k + 1 => sound_succ (l := isa_of.env G k (isa_of.f G k)) (ann := isa_of.ann) (n := k) (envSound_of hG (envCons (isa_two.sound hG k) (envCons (isa_plain.sound hG k) envNil))) orders Try.func9 (by kernel_rfl) (by kernel_rfl) rfl (by kernel_rfl) (arg1_of fun x0 h => isa_of.eq G k _ x0 h)
theorem isa_register.here : ∃ fn, Try.prog.funcs[16]? = some fn ∧ fn.body.isSome = true ∧ (fn.name == "runtime.NumGoroutine") = false := ⟨_, Try.func16, by kernel_rfl, by kernel_rfl⟩
theorem isa_register.eq (G : Globs) (k : Nat) (self : Den) (x0 x1 : AV) (h : AHeap) : absFn Try.prog G (envL (isa_register.env G k self)) isa_register.ann Try.f16.results.toList (codeOf Try.f16) Try.f16.ntmps k [x0, x1] h = isa_register.c G k self x0 x1 h := by kernel_rfl
theorem isa_register.sound {G : Globs} (hG : ∀ g x, G g = some x → plainB x = true) : ∀ k, Sound Try.prog G 16 (isa_register.f G k)
  | 0 => sound_zero isa_register.here (fun _ _ => rfl)
  | k + 1 => sound_succ (l := isa_register.env G k (isa_register.f G k)) (ann := isa_register.ann) (n := k) (envSound_of hG envNil) orders Try.func16 (by kernel_rfl) (by kernel_rfl) rfl (by kernel_rfl) (arg2_of fun x0 x1 h => isa_register.eq G k _ x0 x1 h)
theorem isa_extra.here : ∃ fn, Try.prog.funcs[17]? = some fn ∧ fn.body.isSome = true ∧ (fn.name == "runtime.NumGoroutine") = false := ⟨_, Try.func17, by kernel_rfl, by kernel_rfl⟩
theorem isa_extra.eq (G : Globs) (k : Nat) (self : Den) (x0 : AV) (h : AHeap) : absFn Try.prog G (envL (isa_extra.env G k self)) isa_extra.ann Try.f17.results.toList (codeOf Try.f17) Try.f17.ntmps k [x0] h = isa_extra.c G k self x0 h := by kernel_rfl
theorem isa_extra.sound {G : Globs} (hG : ∀ g x, G g = some x → plainB x = true) : ∀ k, Sound Try.prog G 17 (isa_extra.f G k)
  | 0 => sound_zero isa_extra.here (fun _ _ => rfl)
  | k + 1 => sound_succ (l := isa_extra.env G k (isa_extra.f G k)) (ann := isa_extra.ann) (n := k) (envSound_of hG envNil) orders Try.func17 (by kernel_rfl) (by kernel_rfl) rfl (by kernel_rfl) (arg1_of fun x0 h => isa_extra.eq G k _ x0 h)
theorem isa_signed.here : ∃ fn, Try.prog.funcs[22]? = some fn ∧ fn.body.isSome = true ∧ (fn.name == "runtime.NumGoroutine") = false := ⟨_, Try.func22, by kernel_rfl, by kernel_rfl⟩
theorem isa_signed.eq (G : Globs) (k : Nat) (self : Den) (x0 : AV) (h : AHeap) : absFn Try.prog G (envL (isa_signed.env G k self)) isa_signed.ann Try.f22.results.toList (codeOf Try.f22) Try.f22.ntmps k [x0] h = isa_signed.c G k self x0 h := by kernel_rfl
theorem isa_signed.sound {G : Globs} (hG : ∀ g x, G g = some x → plainB x = true) : ∀ k, Sound Try.prog G 22 (isa_signed.f G k)
  | 0 => sound_zero isa_signed.here (fun _ _ => rfl)
  | k + 1 => sound_succ (l := isa_signed.env G k (isa_signed.f G k)) (ann := isa_signed.ann) (n := k) (envSound_of hG envNil) orders Try.func22 (by kernel_rfl) (by kernel_rfl) rfl (by kernel_rfl) (arg1_of fun x0 h => isa_signed.eq G k _ x0 h)
theorem isa_imm.here : ∃ fn, Try.prog.funcs[18]? = some fn ∧ fn.body.isSome = true ∧ (fn.name == "runtime.NumGoroutine") = false := ⟨_, Try.func18, by kernel_rfl, by kernel_rfl⟩
theorem isa_imm.eq (G : Globs) (k : Nat) (self : Den) (x0 x1 : AV) (h : AHeap) : absFn Try.prog G (envL (isa_imm.env G k self)) isa_imm.ann Try.f18.results.toList (codeOf Try.f18) Try.f18.ntmps k [x0, x1] h = isa_imm.c G k self x0 x1 h := by kernel_rfl
theorem isa_imm.sound {G : Globs} (hG : ∀ g x, G g = some x → plainB x = true) : ∀ k, Sound Try.prog G 18 (isa_imm.f G k)
  | 0 => sound_zero isa_imm.here (fun _ _ => rfl)
  | k + 1 => sound_succ (l := isa_imm.env G k (isa_imm.f G k)) (ann := isa_imm.ann) (n := k) (envSound_of hG (envCons (isa_signed.sound hG k) envNil)) orders Try.func18 (by kernel_rfl) (by kernel_rfl) rfl (by kernel_rfl) (arg2_of fun x0 x1 h => isa_imm.eq G k _ x0 x1 h)
theorem isa_stack.here : ∃ fn, Try.prog.funcs[19]? = some fn ∧ fn.body.isSome = true ∧ (fn.name == "runtime.NumGoroutine") = false := ⟨_, Try.func19, by kernel_rfl, by kernel_rfl⟩
theorem isa_stack.eq (G : Globs) (k : Nat) (self : Den) (x0 : AV) (h : AHeap) : absFn Try.prog G (envL (isa_stack.env G k self)) isa_stack.ann Try.f19.results.toList (codeOf Try.f19) Try.f19.ntmps k [x0] h = isa_stack.c G k self x0 h := by kernel_rfl
theorem isa_stack.sound {G : Globs} (hG : ∀ g x, G g = some x → plainB x = true) : ∀ k, Sound Try.prog G 19 (isa_stack.f G k)
  | 0 => sound_zero isa_stack.here (fun _ _ => rfl)
  | k + 1 => sound_succ (l := isa_stack.env G k (isa_stack.f G k)) (ann := isa_stack.ann) (n := k) (envSound_of hG envNil) orders Try.func19 (by kernel_rfl) (by kernel_rfl) rfl (by kernel_rfl) (arg1_of fun x0 h => isa_stack.eq G k _ x0 h)
theorem isa_fair.here : ∃ fn, Try.prog.funcs[10]? = some fn ∧ fn.body.isSome = true ∧ (fn.name == "runtime.NumGoroutine") = false := ⟨_, Try.func10, by kernel_rfl, by kernel_rfl⟩
theorem isa_fair.eq (G : Globs) (k : Nat) (self : Den) (x0 x1 : AV) (h : AHeap) : absFn Try.prog G (envL (isa_fair.env G k self)) isa_fair.ann Try.f10.results.toList (codeOf Try.f10) Try.f10.ntmps k [x0, x1] h = isa_fair.c G k self x0 x1 h := by kernel_rfl
theorem isa_fair.sound {G : Globs} (hG : ∀ g x, G g = some x → plainB x = true) : ∀ k, Sound Try.prog G 10 (isa_fair.f G k)
  | 0 => sound_zero isa_fair.here (fun _ _ => rfl)
  | k + 1 => sound_succ (l := isa_fair.env G k (isa_fair.f G k)) (ann := isa_fair.ann) (n := k) (envSound_of hG (envCons (isa_register.sound hG k) (envCons (isa_extra.sound hG k) (envCons (isa_imm.sound hG k) (envCons (isa_stack.sound hG k) envNil))))) orders Try.func10 (by kernel_rfl) (by kernel_rfl) rfl (by kernel_rfl) (arg2_of fun x0 x1 h => isa_fair.eq G k _ x0 x1 h)
theorem isa_number.here : ∃ fn, Try.prog.funcs[11]? = some fn ∧ fn.body.isSome = true ∧ (fn.name == "runtime.NumGoroutine") = false := ⟨_, Try.func11, by kernel_rfl, by kernel_rfl⟩
theorem isa_number.eq (G : Globs) (k : Nat) (self : Den) (x0 : AV) (h : AHeap) : absFn Try.prog G (envL (isa_number.env G k self)) isa_number.ann Try.f11.results.toList (codeOf Try.f11) Try.f11.ntmps k [x0] h = isa_number.c G k self x0 h := by kernel_rfl
theorem isa_number.sound {G : Globs} (hG : ∀ g x, G g = some x → plainB x = true) : ∀ k, Sound Try.prog G 11 (isa_number.f G k)
  | 0 => sound_zero isa_number.here (fun _ _ => rfl)
  | k + 1 => sound_succ (l := isa_number.env G k (isa_number.f G k)) (ann := isa_number.ann) (n := k) (envSound_of hG envNil) orders Try.func11 (by kernel_rfl) (by kernel_rfl) rfl (by kernel_rfl) (arg1_of fun x0 h => isa_number.eq G k _ x0 h)
theorem isa_Word.here : ∃ fn, Try.prog.funcs[6]? = some fn ∧ fn.body.isSome = true ∧ (fn.name == "runtime.NumGoroutine") = false := ⟨_, Try.func6, by kernel_rfl, by kernel_rfl⟩
theorem isa_Word.eq (G : Globs) (k : Nat) (self : Den) (x0 : AV) (h : AHeap) : absFn Try.prog G (envL (isa_Word.env G k self)) isa_Word.ann Try.f6.results.toList (codeOf Try.f6) Try.f6.ntmps k [x0] h = isa_Word.c G k self x0 h := by kernel_rfl
theorem isa_Word.sound {G : Globs} (hG : ∀ g x, G g = some x → plainB x = true) : ∀ k, Sound Try.prog G 6 (isa_Word.f G k)
  | 0 => sound_zero isa_Word.here (fun _ _ => rfl)
  | k + 1 => sound_succ (l := isa_Word.env G k (isa_Word.f G k)) (ann := isa_Word.ann) (n := k) (envSound_of hG (envCons (isa_of.sound hG k) (envCons (isa_fair.sound hG k) (envCons (isa_number.sound hG k) envNil)))) orders Try.func6 (by kernel_rfl) (by kernel_rfl) rfl (by kernel_rfl) (arg1_of fun x0 h => isa_Word.eq G k _ x0 h)
theorem alembiclaw22_first.here : ∃ fn, Try.prog.funcs[4]? = some fn ∧ fn.body.isSome = true ∧ (fn.name == "runtime.NumGoroutine") = false := ⟨_, Try.func4, by kernel_rfl, by kernel_rfl⟩
theorem alembiclaw22_first.eq (G : Globs) (k : Nat) (self : Den) (h : AHeap) : absFn Try.prog G (envL (alembiclaw22_first.env G k self)) alembiclaw22_first.ann Try.f4.results.toList (codeOf Try.f4) Try.f4.ntmps k [] h = alembiclaw22_first.c G k self h := by kernel_rfl
theorem alembiclaw22_first.sound {G : Globs} (hG : ∀ g x, G g = some x → plainB x = true) : ∀ k, Sound Try.prog G 4 (alembiclaw22_first.f G k)
  | 0 => sound_zero alembiclaw22_first.here (fun _ _ => rfl)
  | k + 1 => sound_succ (l := alembiclaw22_first.env G k (alembiclaw22_first.f G k)) (ann := alembiclaw22_first.ann) (n := k) (envSound_of hG (envCons (isa_Word.sound hG k) envNil)) orders Try.func4 (by kernel_rfl) (by kernel_rfl) rfl (by kernel_rfl) (arg0_of fun h => alembiclaw22_first.eq G k _ h)
theorem isa_field.here : ∃ fn, Try.prog.funcs[12]? = some fn ∧ fn.body.isSome = true ∧ (fn.name == "runtime.NumGoroutine") = false := ⟨_, Try.func12, by kernel_rfl, by kernel_rfl⟩
theorem isa_field.eq (G : Globs) (k : Nat) (self : Den) (x0 x1 x2 : AV) (h : AHeap) : absFn Try.prog G (envL (isa_field.env G k self)) isa_field.ann Try.f12.results.toList (codeOf Try.f12) Try.f12.ntmps k [x0, x1, x2] h = isa_field.c G k self x0 x1 x2 h := by kernel_rfl
theorem isa_field.sound {G : Globs} (hG : ∀ g x, G g = some x → plainB x = true) : ∀ k, Sound Try.prog G 12 (isa_field.f G k)
  | 0 => sound_zero isa_field.here (fun _ _ => rfl)
  | k + 1 => sound_succ (l := isa_field.env G k (isa_field.f G k)) (ann := isa_field.ann) (n := k) (envSound_of hG envNil) orders Try.func12 (by kernel_rfl) (by kernel_rfl) rfl (by kernel_rfl) (arg3_of fun x0 x1 x2 h => isa_field.eq G k _ x0 x1 x2 h)
theorem isa_sign.here : ∃ fn, Try.prog.funcs[20]? = some fn ∧ fn.body.isSome = true ∧ (fn.name == "runtime.NumGoroutine") = false := ⟨_, Try.func20, by kernel_rfl, by kernel_rfl⟩
theorem isa_sign.eq (G : Globs) (k : Nat) (self : Den) (x0 x1 : AV) (h : AHeap) : absFn Try.prog G (envL (isa_sign.env G k self)) isa_sign.ann Try.f20.results.toList (codeOf Try.f20) Try.f20.ntmps k [x0, x1] h = isa_sign.c G k self x0 x1 h := by kernel_rfl
theorem isa_sign.sound {G : Globs} (hG : ∀ g x, G g = some x → plainB x = true) : ∀ k, Sound Try.prog G 20 (isa_sign.f G k)
  | 0 => sound_zero isa_sign.here (fun _ _ => rfl)
  | k + 1 => sound_succ (l := isa_sign.env G k (isa_sign.f G k)) (ann := isa_sign.ann) (n := k) (envSound_of hG envNil) orders Try.func20 (by kernel_rfl) (by kernel_rfl) rfl (by kernel_rfl) (arg2_of fun x0 x1 h => isa_sign.eq G k _ x0 x1 h)
theorem isa_extras.here : ∃ fn, Try.prog.funcs[13]? = some fn ∧ fn.body.isSome = true ∧ (fn.name == "runtime.NumGoroutine") = false := ⟨_, Try.func13, by kernel_rfl, by kernel_rfl⟩
theorem isa_extras.eq (G : Globs) (k : Nat) (self : Den) (x0 x1 : AV) (h : AHeap) : absFn Try.prog G (envL (isa_extras.env G k self)) isa_extras.ann Try.f13.results.toList (codeOf Try.f13) Try.f13.ntmps k [x0, x1] h = isa_extras.c G k self x0 x1 h := by kernel_rfl
theorem isa_extras.sound {G : Globs} (hG : ∀ g x, G g = some x → plainB x = true) : ∀ k, Sound Try.prog G 13 (isa_extras.f G k)
  | 0 => sound_zero isa_extras.here (fun _ _ => rfl)
  | k + 1 => sound_succ (l := isa_extras.env G k (isa_extras.f G k)) (ann := isa_extras.ann) (n := k) (envSound_of hG (envCons (isa_field.sound hG k) (envCons (isa_sign.sound hG k) envNil))) orders Try.func13 (by kernel_rfl) (by kernel_rfl) rfl (by kernel_rfl) (arg2_of fun x0 x1 h => isa_extras.eq G k _ x0 x1 h)
theorem isa_as.here : ∃ fn, Try.prog.funcs[8]? = some fn ∧ fn.body.isSome = true ∧ (fn.name == "runtime.NumGoroutine") = false := ⟨_, Try.func8, by kernel_rfl, by kernel_rfl⟩
theorem isa_as.eq (G : Globs) (k : Nat) (self : Den) (x0 x1 : AV) (h : AHeap) : absFn Try.prog G (envL (isa_as.env G k self)) isa_as.ann Try.f8.results.toList (codeOf Try.f8) Try.f8.ntmps k [x0, x1] h = isa_as.c G k self x0 x1 h := by kernel_rfl
theorem isa_as.sound {G : Globs} (hG : ∀ g x, G g = some x → plainB x = true) : ∀ k, Sound Try.prog G 8 (isa_as.f G k)
  | 0 => sound_zero isa_as.here (fun _ _ => rfl)
  | k + 1 => sound_succ (l := isa_as.env G k (isa_as.f G k)) (ann := isa_as.ann) (n := k) (envSound_of hG (envCons (isa_Word.sound hG k) (envCons (isa_of.sound hG k) (envCons (isa_field.sound hG k) (envCons (isa_extras.sound hG k) envNil))))) orders Try.func8 (by kernel_rfl) (by kernel_rfl) rfl (by kernel_rfl) (arg2_of fun x0 x1 h => isa_as.eq G k _ x0 x1 h)
theorem isa_Of.here : ∃ fn, Try.prog.funcs[5]? = some fn ∧ fn.body.isSome = true ∧ (fn.name == "runtime.NumGoroutine") = false := ⟨_, Try.func5, by kernel_rfl, by kernel_rfl⟩
theorem isa_Of.eq (G : Globs) (k : Nat) (self : Den) (x0 : AV) (h : AHeap) : absFn Try.prog G (envL (isa_Of.env G k self)) isa_Of.ann Try.f5.results.toList (codeOf Try.f5) Try.f5.ntmps k [x0] h = isa_Of.c G k self x0 h := by kernel_rfl
theorem isa_Of.sound {G : Globs} (hG : ∀ g x, G g = some x → plainB x = true) : ∀ k, Sound Try.prog G 5 (isa_Of.f G k)
  | 0 => sound_zero isa_Of.here (fun _ _ => rfl)
  | k + 1 => sound_succ (l := isa_Of.env G k (isa_Of.f G k)) (ann := isa_Of.ann) (n := k) (envSound_of hG (envCons (isa_as.sound hG k) envNil)) orders Try.func5 (by kernel_rfl) (by kernel_rfl) rfl (by kernel_rfl) (arg1_of fun x0 h => isa_Of.eq G k _ x0 h)
theorem alembicref_SameInstr.here : ∃ fn, Try.prog.funcs[7]? = some fn ∧ fn.body.isSome = true ∧ (fn.name == "runtime.NumGoroutine") = false := ⟨_, Try.func7, by kernel_rfl, by kernel_rfl⟩
theorem alembicref_SameInstr.eq (G : Globs) (k : Nat) (self : Den) (x0 x1 : AV) (h : AHeap) : absFn Try.prog G (envL (alembicref_SameInstr.env G k self)) alembicref_SameInstr.ann Try.f7.results.toList (codeOf Try.f7) Try.f7.ntmps k [x0, x1] h = alembicref_SameInstr.c G k self x0 x1 h := by kernel_rfl
theorem alembicref_SameInstr.sound {G : Globs} (hG : ∀ g x, G g = some x → plainB x = true) : ∀ k, Sound Try.prog G 7 (alembicref_SameInstr.f G k)
  | 0 => sound_zero alembicref_SameInstr.here (fun _ _ => rfl)
  | k + 1 => sound_succ (l := alembicref_SameInstr.env G k (alembicref_SameInstr.f G k)) (ann := alembicref_SameInstr.ann) (n := k) (envSound_of hG envNil) orders Try.func7 (by kernel_rfl) (by kernel_rfl) rfl (by kernel_rfl) (arg2_of fun x0 x1 h => alembicref_SameInstr.eq G k _ x0 x1 h)
theorem alembiclaw22_IsaBack.here : ∃ fn, Try.prog.funcs[3]? = some fn ∧ fn.body.isSome = true ∧ (fn.name == "runtime.NumGoroutine") = false := ⟨_, Try.func3, by kernel_rfl, by kernel_rfl⟩
theorem alembiclaw22_IsaBack.eq (G : Globs) (k : Nat) (self : Den) (x0 x1 x2 : AV) (h : AHeap) : absFn Try.prog G (envL (alembiclaw22_IsaBack.env G k self)) alembiclaw22_IsaBack.ann Try.f3.results.toList (codeOf Try.f3) Try.f3.ntmps k [x0, x1, x2] h = alembiclaw22_IsaBack.c G k self x0 x1 x2 h := by kernel_rfl
theorem alembiclaw22_IsaBack.sound {G : Globs} (hG : ∀ g x, G g = some x → plainB x = true) : ∀ k, Sound Try.prog G 3 (alembiclaw22_IsaBack.f G k)
  | 0 => sound_zero alembiclaw22_IsaBack.here (fun _ _ => rfl)
  | k + 1 => sound_succ (l := alembiclaw22_IsaBack.env G k (alembiclaw22_IsaBack.f G k)) (ann := alembiclaw22_IsaBack.ann) (n := k) (envSound_of hG (envCons (alembiclaw22_first.sound hG k) (envCons (isa_Of.sound hG k) (envCons (isa_Word.sound hG k) (envCons (alembicref_SameInstr.sound hG k) envNil))))) orders Try.func3 (by kernel_rfl) (by kernel_rfl) rfl (by kernel_rfl) (arg3_of fun x0 x1 x2 h => alembiclaw22_IsaBack.eq G k _ x0 x1 x2 h)
end Go.Proofs.Ytbamoecablpfjaa.Mir
