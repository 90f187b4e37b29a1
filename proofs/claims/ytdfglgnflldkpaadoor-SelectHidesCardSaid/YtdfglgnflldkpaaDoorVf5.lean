/- Part 5 of the proof: the functions that the statement reaches, and their contracts. -/
import Derived.Test.YtdfglgnflldkpaaDoorVf4
import Derived.Test.YtdfglgnflldkpaaDoorProg
namespace Go.Proofs.YtdfglgnflldkpaaDoor.Mir
open Go
set_option linter.unusedVariables false
noncomputable def iA.ann : Ann := gE [] [] [] []
noncomputable def iA.env (G : aG) (k : Nat) (self : dA) : List (Nat × Bool × dA) := []
noncomputable def iA.c (G : aG) (k : Nat) (self : dA) (x0 x1 x2 : AV) (h : aF) : Option (AV × aF) := gA (
 aB (fF 141 (.agg [(.str ⟨#[]⟩), (.int .u32 0), (.bool false), (.bool false), (.bool false), (.bool false), (.int .i64 0)]) h) fun v0 h0 =>
 aB (pu h0 (bA [(0, 1), (1, 1), (2, 1), (3, 1), (4, 1), (5, 1), (6, 1)] [(.str ⟨#[]⟩), (.int .u32 0), (.bool false), (.bool false), (.bool false), (.bool false), (.int .i64 0)] [(0, x0), (1, x1), (2, (.bool true)), (3, (.bool true)), (6, x2)])) fun v1 h1 =>
 aB (fB (aN 7 v0 v1 h1)) fun v2 h2 =>
 fL [aC G true 7 v0 h2] h.length h2)
noncomputable def iA.f (G : aG) : Nat → dA
 | 0 => fun _ _ => none
 | k + 1 => fun args h => vX args fun x0 x1 x2 => (iA.c G k (iA.f G k) x0 x1 x2 h)
noncomputable def gH.ann : Ann := gE [] [] [] []
noncomputable def gH.env (G : aG) (k : Nat) (self : dA) : List (Nat × Bool × dA) := []
noncomputable def gH.c (G : aG) (k : Nat) (self : dA) (x0 x1 : AV) (h : aF) : Option (AV × aF) := gA (
 aB (fF 141 (.agg [(.str ⟨#[]⟩), (.int .u32 0), (.bool false), (.bool false), (.bool false), (.bool false), (.int .i64 0)]) h) fun v0 h0 =>
 aB (pu h0 (bA [(0, 1), (1, 1), (2, 1), (3, 1), (4, 1), (5, 1), (6, 1)] [(.str ⟨#[]⟩), (.int .u32 0), (.bool false), (.bool false), (.bool false), (.bool false), (.int .i64 0)] [(0, x0), (1, x1), (2, (.bool true)), (3, (.bool true)), (4, (.bool true))])) fun v1 h1 =>
 aB (fB (aN 7 v0 v1 h1)) fun v2 h2 =>
 fL [aC G true 7 v0 h2] h.length h2)
noncomputable def gH.f (G : aG) : Nat → dA
 | 0 => fun _ _ => none
 | k + 1 => fun args h => mJ args fun x0 x1 => (gH.c G k (gH.f G k) x0 x1 h)
noncomputable def fV.ann : Ann := gE [] [] [] []
noncomputable def fV.env (G : aG) (k : Nat) (self : dA) : List (Nat × Bool × dA) := [(92, true, iA.f G k), (107, true, gH.f G k)]
noncomputable def fV.c (G : aG) (k : Nat) (self : dA) (x0 : AV) (h : aF) : Option (AV × aF) := gA (
 aB (fF 141 (.agg [(.str ⟨#[]⟩), (.int .u32 0), (.bool false), (.bool false), (.bool false), (.bool false), (.int .i64 0)]) h) fun v0 h0 =>
 aB (pu h0 (aQ Tryd.prog .eql 3 true x0 (.int .i64 1))) fun v1 h1 =>
 aK v1
 (aB (pu h1 (bA [(0, 1), (1, 1), (2, 1), (3, 1), (4, 1), (5, 1), (6, 1)] [(.str ⟨#[]⟩), (.int .u32 0), (.bool false), (.bool false), (.bool false), (.bool false), (.int .i64 0)] [(0, (.str ⟨#[109, 111, 118, 122]⟩)), (1, (.int .u32 3531603968)), (2, (.bool true)), (5, (.bool true)), (6, (.int .i64 16))])) fun v2 h2 =>
 aB (fB (aN 7 v0 v2 h2)) fun v3 h3 =>
 fL [aC G true 7 v0 h3, some (.bool true)] h.length h3)
 (aB (pu h1 (aQ Tryd.prog .eql 3 true x0 (.int .i64 2))) fun v4 h4 =>
 aK v4
 (aB (pu h4 (bA [(0, 1), (1, 1), (2, 1), (3, 1), (4, 1), (5, 1), (6, 1)] [(.str ⟨#[]⟩), (.int .u32 0), (.bool false), (.bool false), (.bool false), (.bool false), (.int .i64 0)] [(0, (.str ⟨#[109, 111, 118, 107]⟩)), (1, (.int .u32 4068474880)), (2, (.bool true)), (5, (.bool true)), (6, (.int .i64 16))])) fun v5 h5 =>
 aB (fB (aN 7 v0 v5 h5)) fun v6 h6 =>
 fL [aC G true 7 v0 h6, some (.bool true)] h.length h6)
 (aB (pu h4 (aQ Tryd.prog .eql 3 true x0 (.int .i64 3))) fun v7 h7 =>
 aK v7
 (aB (aE (gH.f G k) [(.str ⟨#[97, 100, 100]⟩), (.int .u32 2332033024)] h7) fun v8 h8 =>
 aB (fB (aN 7 v0 v8 h8)) fun v9 h9 =>
 fL [aC G true 7 v0 h9, some (.bool true)] h.length h9)
 (aB (pu h7 (aQ Tryd.prog .eql 3 true x0 (.int .i64 4))) fun v10 h10 =>
 aK v10
 (aB (aE (gH.f G k) [(.str ⟨#[115, 117, 98]⟩), (.int .u32 3405774848)] h10) fun v11 h11 =>
 aB (fB (aN 7 v0 v11 h11)) fun v12 h12 =>
 fL [aC G true 7 v0 h12, some (.bool true)] h.length h12)
 (aB (pu h10 (aQ Tryd.prog .eql 3 true x0 (.int .i64 5))) fun v13 h13 =>
 aK v13
 (aB (aE (gH.f G k) [(.str ⟨#[97, 110, 100]⟩), (.int .u32 2315255808)] h13) fun v14 h14 =>
 aB (fB (aN 7 v0 v14 h14)) fun v15 h15 =>
 fL [aC G true 7 v0 h15, some (.bool true)] h.length h15)
 (aB (pu h13 (aQ Tryd.prog .eql 3 true x0 (.int .i64 6))) fun v16 h16 =>
 aK v16
 (aB (aE (gH.f G k) [(.str ⟨#[111, 114, 114]⟩), (.int .u32 2852126720)] h16) fun v17 h17 =>
 aB (fB (aN 7 v0 v17 h17)) fun v18 h18 =>
 fL [aC G true 7 v0 h18, some (.bool true)] h.length h18)
 (aB (pu h16 (aQ Tryd.prog .eql 3 true x0 (.int .i64 7))) fun v19 h19 =>
 aK v19
 (aB (aE (gH.f G k) [(.str ⟨#[101, 111, 114]⟩), (.int .u32 3388997632)] h19) fun v20 h20 =>
 aB (fB (aN 7 v0 v20 h20)) fun v21 h21 =>
 fL [aC G true 7 v0 h21, some (.bool true)] h.length h21)
 (aB (pu h19 (aQ Tryd.prog .eql 3 true x0 (.int .i64 8))) fun v22 h22 =>
 aK v22
 (aB (pu h22 (bA [(0, 1), (1, 1), (2, 1), (3, 1), (4, 1), (5, 1), (6, 1)] [(.str ⟨#[]⟩), (.int .u32 0), (.bool false), (.bool false), (.bool false), (.bool false), (.int .i64 0)] [(0, (.str ⟨#[109, 97, 100, 100]⟩)), (1, (.int .u32 2600468480)), (2, (.bool true)), (3, (.bool true)), (4, (.bool true)), (5, (.bool true))])) fun v23 h23 =>
 aB (fB (aN 7 v0 v23 h23)) fun v24 h24 =>
 fL [aC G true 7 v0 h24, some (.bool true)] h.length h24)
 (aB (pu h22 (aQ Tryd.prog .eql 3 true x0 (.int .i64 9))) fun v25 h25 =>
 aK v25
 (aB (aE (gH.f G k) [(.str ⟨#[117, 109, 117, 108, 104]⟩), (.int .u32 2613083136)] h25) fun v26 h26 =>
 aB (fB (aN 7 v0 v26 h26)) fun v27 h27 =>
 fL [aC G true 7 v0 h27, some (.bool true)] h.length h27)
 (aB (pu h25 (aQ Tryd.prog .eql 3 true x0 (.int .i64 10))) fun v28 h28 =>
 aK v28
 (aB (aE (iA.f G k) [(.str ⟨#[97, 100, 100, 105]⟩), (.int .u32 2432696320), (.int .i64 12)] h28) fun v29 h29 =>
 aB (fB (aN 7 v0 v29 h29)) fun v30 h30 =>
 fL [aC G true 7 v0 h30, some (.bool true)] h.length h30)
 (aB (pu h28 (aQ Tryd.prog .eql 3 true x0 (.int .i64 11))) fun v31 h31 =>
 aK v31
 (aB (aE (iA.f G k) [(.str ⟨#[115, 117, 98, 105]⟩), (.int .u32 3506438144), (.int .i64 12)] h31) fun v32 h32 =>
 aB (fB (aN 7 v0 v32 h32)) fun v33 h33 =>
 fL [aC G true 7 v0 h33, some (.bool true)] h.length h33)
 (aB (pu h31 (aQ Tryd.prog .eql 3 true x0 (.int .i64 12))) fun v34 h34 =>
 aK v34
 (aB (aE (iA.f G k) [(.str ⟨#[108, 115, 108]⟩), (.int .u32 3544186880), (.int .i64 6)] h34) fun v35 h35 =>
 aB (fB (aN 7 v0 v35 h35)) fun v36 h36 =>
 fL [aC G true 7 v0 h36, some (.bool true)] h.length h36)
 (aB (pu h34 (aQ Tryd.prog .eql 3 true x0 (.int .i64 13))) fun v37 h37 =>
 aK v37
 (aB (aE (iA.f G k) [(.str ⟨#[108, 115, 114]⟩), (.int .u32 3544186880), (.int .i64 6)] h37) fun v38 h38 =>
 aB (fB (aN 7 v0 v38 h38)) fun v39 h39 =>
 fL [aC G true 7 v0 h39, some (.bool true)] h.length h39)
 (aB (pu h37 (aQ Tryd.prog .eql 3 true x0 (.int .i64 14))) fun v40 h40 =>
 aK v40
 (aB (aE (iA.f G k) [(.str ⟨#[97, 115, 114]⟩), (.int .u32 2470509568), (.int .i64 6)] h40) fun v41 h41 =>
 aB (fB (aN 7 v0 v41 h41)) fun v42 h42 =>
 fL [aC G true 7 v0 h42, some (.bool true)] h.length h42)
 (aB (pu h40 (bA [(0, 1), (1, 1), (2, 1), (3, 1), (4, 1), (5, 1), (6, 1)] [(.str ⟨#[]⟩), (.int .u32 0), (.bool false), (.bool false), (.bool false), (.bool false), (.int .i64 0)] [])) fun v43 h43 =>
 aB (fB (aN 7 v0 v43 h43)) fun v44 h44 =>
 fL [aC G true 7 v0 h44, some (.bool false)] h.length h44)))))))))))))))
noncomputable def fV.f (G : aG) : Nat → dA
 | 0 => fun _ _ => none
 | k + 1 => fun args h => nH args fun x0 => (fV.c G k (fV.f G k) x0 h)
theorem fV.step (G : aG) (k : Nat) (x0 : AV) (h : aF) : fV.f G (k + 1) [x0] h = fV.c G k (fV.f G k) x0 h := rfl
noncomputable def fN.ann : Ann := gE [] [] [] []
noncomputable def fN.env (G : aG) (k : Nat) (self : dA) : List (Nat × Bool × dA) := [(92, true, iA.f G k), (93, true, fV.f G k)]
noncomputable def fN.c (G : aG) (k : Nat) (self : dA) (x0 : AV) (h : aF) : Option (AV × aF) := gA (
 aB (fF 141 (.agg [(.str ⟨#[]⟩), (.int .u32 0), (.bool false), (.bool false), (.bool false), (.bool false), (.int .i64 0)]) h) fun v0 h0 =>
 aB (pu h0 (aQ Tryd.prog .eql 3 true x0 (.int .i64 15))) fun v1 h1 =>
 aK v1
 (aB (pu h1 (bA [(0, 1), (1, 1), (2, 1), (3, 1), (4, 1), (5, 1), (6, 1)] [(.str ⟨#[]⟩), (.int .u32 0), (.bool false), (.bool false), (.bool false), (.bool false), (.int .i64 0)] [(0, (.str ⟨#[99, 109, 112]⟩)), (1, (.int .u32 3942645791)), (3, (.bool true)), (4, (.bool true))])) fun v2 h2 =>
 aB (fB (aN 7 v0 v2 h2)) fun v3 h3 =>
 fL [aC G true 7 v0 h3, some (.bool true)] h.length h3)
 (aB (pu h1 (aQ Tryd.prog .eql 3 true x0 (.int .i64 16))) fun v4 h4 =>
 aK v4
 (aB (pu h4 (bA [(0, 1), (1, 1), (2, 1), (3, 1), (4, 1), (5, 1), (6, 1)] [(.str ⟨#[]⟩), (.int .u32 0), (.bool false), (.bool false), (.bool false), (.bool false), (.int .i64 0)] [(0, (.str ⟨#[99, 115, 101, 108]⟩)), (1, (.int .u32 2592079872)), (2, (.bool true)), (3, (.bool true)), (4, (.bool true)), (5, (.bool true))])) fun v5 h5 =>
 aB (fB (aN 7 v0 v5 h5)) fun v6 h6 =>
 fL [aC G true 7 v0 h6, some (.bool true)] h.length h6)
 (aB (pu h4 (aQ Tryd.prog .eql 3 true x0 (.int .i64 17))) fun v7 h7 =>
 aK v7
 (aB (pu h7 (bA [(0, 1), (1, 1), (2, 1), (3, 1), (4, 1), (5, 1), (6, 1)] [(.str ⟨#[]⟩), (.int .u32 0), (.bool false), (.bool false), (.bool false), (.bool false), (.int .i64 0)] [(0, (.str ⟨#[99, 115, 101, 116]⟩)), (1, (.int .u32 2594113504)), (2, (.bool true)), (5, (.bool true))])) fun v8 h8 =>
 aB (fB (aN 7 v0 v8 h8)) fun v9 h9 =>
 fL [aC G true 7 v0 h9, some (.bool true)] h.length h9)
 (aB (pu h7 (aQ Tryd.prog .eql 3 true x0 (.int .i64 18))) fun v10 h10 =>
 aK v10
 (aB (aE (iA.f G k) [(.str ⟨#[108, 100, 114]⟩), (.int .u32 4181721088), (.int .i64 12)] h10) fun v11 h11 =>
 aB (fB (aN 7 v0 v11 h11)) fun v12 h12 =>
 fL [aC G true 7 v0 h12, some (.bool true)] h.length h12)
 (aB (pu h10 (aQ Tryd.prog .eql 3 true x0 (.int .i64 19))) fun v13 h13 =>
 aK v13
 (aB (aE (iA.f G k) [(.str ⟨#[115, 116, 114]⟩), (.int .u32 4177526784), (.int .i64 12)] h13) fun v14 h14 =>
 aB (fB (aN 7 v0 v14 h14)) fun v15 h15 =>
 fL [aC G true 7 v0 h15, some (.bool true)] h.length h15)
 (aB (pu h13 (aQ Tryd.prog .eql 3 true x0 (.int .i64 20))) fun v16 h16 =>
 aK v16
 (aB (pu h16 (bA [(0, 1), (1, 1), (2, 1), (3, 1), (4, 1), (5, 1), (6, 1)] [(.str ⟨#[]⟩), (.int .u32 0), (.bool false), (.bool false), (.bool false), (.bool false), (.int .i64 0)] [(0, (.str ⟨#[98]⟩)), (1, (.int .u32 335544320)), (6, (.int .i64 26))])) fun v17 h17 =>
 aB (fB (aN 7 v0 v17 h17)) fun v18 h18 =>
 fL [aC G true 7 v0 h18, some (.bool true)] h.length h18)
 (aB (pu h16 (aQ Tryd.prog .eql 3 true x0 (.int .i64 21))) fun v19 h19 =>
 aK v19
 (aB (pu h19 (bA [(0, 1), (1, 1), (2, 1), (3, 1), (4, 1), (5, 1), (6, 1)] [(.str ⟨#[]⟩), (.int .u32 0), (.bool false), (.bool false), (.bool false), (.bool false), (.int .i64 0)] [(0, (.str ⟨#[98, 99, 99]⟩)), (1, (.int .u32 1409286144)), (5, (.bool true)), (6, (.int .i64 19))])) fun v20 h20 =>
 aB (fB (aN 7 v0 v20 h20)) fun v21 h21 =>
 fL [aC G true 7 v0 h21, some (.bool true)] h.length h21)
 (aB (pu h19 (aQ Tryd.prog .eql 3 true x0 (.int .i64 22))) fun v22 h22 =>
 aK v22
 (aB (pu h22 (bA [(0, 1), (1, 1), (2, 1), (3, 1), (4, 1), (5, 1), (6, 1)] [(.str ⟨#[]⟩), (.int .u32 0), (.bool false), (.bool false), (.bool false), (.bool false), (.int .i64 0)] [(0, (.str ⟨#[99, 98, 122]⟩)), (1, (.int .u32 3019898880)), (2, (.bool true)), (6, (.int .i64 19))])) fun v23 h23 =>
 aB (fB (aN 7 v0 v23 h23)) fun v24 h24 =>
 fL [aC G true 7 v0 h24, some (.bool true)] h.length h24)
 (aB (pu h22 (aQ Tryd.prog .eql 3 true x0 (.int .i64 23))) fun v25 h25 =>
 aK v25
 (aB (pu h25 (bA [(0, 1), (1, 1), (2, 1), (3, 1), (4, 1), (5, 1), (6, 1)] [(.str ⟨#[]⟩), (.int .u32 0), (.bool false), (.bool false), (.bool false), (.bool false), (.int .i64 0)] [(0, (.str ⟨#[99, 98, 110, 122]⟩)), (1, (.int .u32 3036676096)), (2, (.bool true)), (6, (.int .i64 19))])) fun v26 h26 =>
 aB (fB (aN 7 v0 v26 h26)) fun v27 h27 =>
 fL [aC G true 7 v0 h27, some (.bool true)] h.length h27)
 (aB (pu h25 (aQ Tryd.prog .eql 3 true x0 (.int .i64 24))) fun v28 h28 =>
 aK v28
 (aB (pu h28 (bA [(0, 1), (1, 1), (2, 1), (3, 1), (4, 1), (5, 1), (6, 1)] [(.str ⟨#[]⟩), (.int .u32 0), (.bool false), (.bool false), (.bool false), (.bool false), (.int .i64 0)] [(0, (.str ⟨#[104, 108, 116]⟩)), (1, (.int .u32 3560964096)), (6, (.int .i64 16))])) fun v29 h29 =>
 aB (fB (aN 7 v0 v29 h29)) fun v30 h30 =>
 fL [aC G true 7 v0 h30, some (.bool true)] h.length h30)
 (aB (aE (fV.f G k) [x0] h28) fun v31 h31 =>
 aB (pu h31 (cU v31 0)) fun v32 h32 =>
 aB (pu h32 (cU v31 1)) fun v33 h33 =>
 aB (fB (aN 7 v0 v32 h33)) fun v34 h34 =>
 fL [aC G true 7 v0 h34, some v33] h.length h34)))))))))))
noncomputable def fN.f (G : aG) : Nat → dA
 | 0 => fun _ _ => none
 | k + 1 => fun args h => nH args fun x0 => (fN.c G k (fN.f G k) x0 h)
theorem fN.step (G : aG) (k : Nat) (x0 : AV) (h : aF) : fN.f G (k + 1) [x0] h = fN.c G k (fN.f G k) x0 h := rfl
noncomputable def dZ.ann : Ann := gE [] [] [] []
noncomputable def dZ.env (G : aG) (k : Nat) (self : dA) : List (Nat × Bool × dA) := []
noncomputable def dZ.c (G : aG) (k : Nat) (self : dA) (x0 x1 : AV) (h : aF) : Option (AV × aF) := gA (
 aB (pu h (aQ Tryd.prog .eql 3 true x0 (.int .i64 0))) fun v0 h0 =>
 aB (gd v0 false h0 (some (x1, h0))) fun v1 h1 =>
 aB (gd v0 false h1 (some (v1, h1))) fun v2 h2 =>
 aB (gd v2 true h2 (some (x0, h2))) fun v3 h3 =>
 aB (gd v2 true h3 (pu h3 (aQ Tryd.prog .gtr 3 true v3 (.int .i64 0)))) fun v4 h4 =>
 aB (gd v0 false h4 (pu h4 (dJ v2 v4 (.bool false)))) fun v5 h5 =>
 aB (gd v0 false h5 (some (v5, h5))) fun v6 h6 =>
 aB (gd v6 true h6 (some (x0, h6))) fun v7 h7 =>
 aB (gd v6 true h7 (pu h7 (aQ Tryd.prog .leq 3 true v7 (.int .i64 31)))) fun v8 h8 =>
 aB (gd v0 false h8 (pu h8 (dJ v6 v8 (.bool false)))) fun v9 h9 =>
 aB (pu h9 (dJ v0 (.bool true) v9)) fun v10 h10 =>
 bQ [v10] h.length h10)
noncomputable def dZ.f (G : aG) : Nat → dA
 | 0 => fun _ _ => none
 | k + 1 => fun args h => mJ args fun x0 x1 => (dZ.c G k (dZ.f G k) x0 x1 h)
theorem dZ.step (G : aG) (k : Nat) (x0 x1 : AV) (h : aF) : dZ.f G (k + 1) [x0, x1] h = dZ.c G k (dZ.f G k) x0 x1 h := rfl
noncomputable def fU.ann : Ann := gE [] [] [] [(9, [1, 2]), (8, [1, 16]), (4, [1, 4, 5])]
noncomputable def fU.env (G : aG) (k : Nat) (self : dA) : List (Nat × Bool × dA) := []
noncomputable def fU.c (G : aG) (k : Nat) (self : dA) (x0 : AV) (h : aF) : Option (AV × aF) := gA (
 aB (dP x0 h) fun v0 h0 =>
 eM (
 aB (pu h0 (aA 0 v0)) fun v1 h1 =>
 aB (pu h1 (aC G false 1 v1 h1)) fun v2 h2 =>
 eM (
 aB (pu h2 (aQ Tryd.prog .eql 3 true v2 (.int .i64 1))) fun v3 h3 =>
 aK v3
 (some (.normal, [v0, v2, v3], h3))
 (aB (pu h3 (aQ Tryd.prog .eql 3 true v2 (.int .i64 2))) fun v4 h4 =>
 some (.normal, [v0, v2, v4], h4))) fun e5 x5 h5 => jJ e5
 (aK (aI x5 2)
 (aB (pu h5 (aA 4 (aI x5 0))) fun v6 h6 =>
 aB (pu h6 (aC G false 1 v6 h6)) fun v7 h7 =>
 aB (pu h7 (aQ Tryd.prog .geq 3 true v7 (.int .i64 0))) fun v8 h8 =>
 aB (gd v8 true h8 (pu h8 (aA 4 (aI x5 0)))) fun v9 h9 =>
 aB (gd v8 true h9 (pu h9 (aC G false 1 v9 h9))) fun v10 h10 =>
 aB (gd v8 true h10 (pu h10 (aQ Tryd.prog .leq 3 true v10 (.int .i64 3)))) fun v11 h11 =>
 aB (pu h11 (dJ v8 v11 (.bool false))) fun v12 h12 =>
 some (.ret, [(aI x5 0), v12], h12))
 (eM (
 aB (pu h5 (aQ Tryd.prog .eql 3 true (aI x5 1) (.int .i64 16))) fun v13 h13 =>
 aK v13
 (some (.normal, [(aI x5 0), v13], h13))
 (aB (pu h13 (aQ Tryd.prog .eql 3 true (aI x5 1) (.int .i64 17))) fun v14 h14 =>
 aK v14
 (some (.normal, [(aI x5 0), v14], h14))
 (aB (pu h14 (aQ Tryd.prog .eql 3 true (aI x5 1) (.int .i64 21))) fun v15 h15 =>
 some (.normal, [(aI x5 0), v15], h15)))) fun e16 x16 h16 => jJ e16
 (aK (aI x16 1)
 (aB (pu h16 (aA 4 (aI x16 0))) fun v17 h17 =>
 aB (pu h17 (aC G false 1 v17 h17)) fun v18 h18 =>
 aB (pu h18 (aQ Tryd.prog .geq 3 true v18 (.int .i64 0))) fun v19 h19 =>
 aB (gd v19 true h19 (pu h19 (aA 4 (aI x16 0)))) fun v20 h20 =>
 aB (gd v19 true h20 (pu h20 (aC G false 1 v20 h20))) fun v21 h21 =>
 aB (gd v19 true h21 (pu h21 (aQ Tryd.prog .leq 3 true v21 (.int .i64 3)))) fun v22 h22 =>
 aB (pu h22 (dJ v19 v22 (.bool false))) fun v23 h23 =>
 aB (gd v23 false h23 (pu h23 (aA 4 (aI x16 0)))) fun v24 h24 =>
 aB (gd v23 false h24 (pu h24 (aC G false 1 v24 h24))) fun v25 h25 =>
 aB (gd v23 false h25 (pu h25 (aQ Tryd.prog .eql 3 true v25 (.int .i64 8)))) fun v26 h26 =>
 aB (pu h26 (dJ v23 (.bool true) v26)) fun v27 h27 =>
 aB (gd v27 false h27 (pu h27 (aA 4 (aI x16 0)))) fun v28 h28 =>
 aB (gd v27 false h28 (pu h28 (aC G false 1 v28 h28))) fun v29 h29 =>
 aB (gd v27 false h29 (pu h29 (aQ Tryd.prog .eql 3 true v29 (.int .i64 9)))) fun v30 h30 =>
 aB (pu h30 (dJ v27 (.bool true) v30)) fun v31 h31 =>
 some (.ret, [(aI x16 0), v31], h31))
 (some (.normal, [(aI x16 0), .undef], h16)))
 (fun i16 => if i16 = 0 then (some (.normal, [(aI x16 0), .undef], h16)) else (some (.exit i16, [(aI x16 0), .undef], h16)))
 (some (.ret, [(aI x16 0), .undef], h16))))
 (fun i5 => if i5 = 0 then (some (.normal, [(aI x5 0), .undef], h5)) else (some (.exit i5, [(aI x5 0), .undef], h5)))
 (some (.ret, [(aI x5 0), .undef], h5))) fun e32 x32 h32 => jJ e32
 (aB (pu h32 (aA 4 (aI x32 0))) fun v33 h33 =>
 aB (pu h33 (aC G false 1 v33 h33)) fun v34 h34 =>
 aB (pu h34 (aQ Tryd.prog .geq 3 true v34 (.int .i64 0))) fun v35 h35 =>
 aB (gd v35 true h35 (pu h35 (aA 4 (aI x32 0)))) fun v36 h36 =>
 aB (gd v35 true h36 (pu h36 (aC G false 1 v36 h36))) fun v37 h37 =>
 aB (gd v35 true h37 (pu h37 (aQ Tryd.prog .leq 3 true v37 (.int .i64 31)))) fun v38 h38 =>
 aB (pu h38 (dJ v35 v38 (.bool false))) fun v39 h39 =>
 bQ [v39] h.length h39)
 (fun i32 => none)
 (bQ [(aI x32 1)] h.length h32))
noncomputable def fU.f (G : aG) : Nat → dA
 | 0 => fun _ _ => none
 | k + 1 => fun args h => nH args fun x0 => (fU.c G k (fU.f G k) x0 h)
theorem fU.step (G : aG) (k : Nat) (x0 : AV) (h : aF) : fU.f G (k + 1) [x0] h = fU.c G k (fU.f G k) x0 h := rfl
noncomputable def fG.ann : Ann := gE [] [] [] []
noncomputable def fG.env (G : aG) (k : Nat) (self : dA) : List (Nat × Bool × dA) := []
noncomputable def fG.c (G : aG) (k : Nat) (self : dA) (x0 : AV) (h : aF) : Option (AV × aF) := gA (
 aB (pu h (aQ Tryd.prog .geq 3 true x0 (.int .i64 20))) fun v0 h0 =>
 aB (gd v0 true h0 (some (x0, h0))) fun v1 h1 =>
 aB (gd v0 true h1 (pu h1 (aQ Tryd.prog .leq 3 true v1 (.int .i64 23)))) fun v2 h2 =>
 aB (pu h2 (dJ v0 v2 (.bool false))) fun v3 h3 =>
 bQ [v3] h.length h3)
noncomputable def fG.f (G : aG) : Nat → dA
 | 0 => fun _ _ => none
 | k + 1 => fun args h => nH args fun x0 => (fG.c G k (fG.f G k) x0 h)
theorem fG.step (G : aG) (k : Nat) (x0 : AV) (h : aF) : fG.f G (k + 1) [x0] h = fG.c G k (fG.f G k) x0 h := rfl
noncomputable def hU.ann : Ann := gE [] [] [] []
noncomputable def hU.env (G : aG) (k : Nat) (self : dA) : List (Nat × Bool × dA) := [(108, true, fG.f G k)]
noncomputable def hU.c (G : aG) (k : Nat) (self : dA) (x0 x1 : AV) (h : aF) : Option (AV × aF) := gA (
 aB (dP x0 h) fun v0 h0 =>
 aB (pu h0 (aQ Tryd.prog .eql 3 true x1 (.int .i64 0))) fun v1 h1 =>
 aK v1
 (aB (pu h1 (aA 5 v0)) fun v2 h2 =>
 aB (pu h2 (aC G false 1 v2 h2)) fun v3 h3 =>
 aB (pu h3 (aQ Tryd.prog .eql 3 true v3 (.int .i64 0))) fun v4 h4 =>
 bQ [v4] h.length h4)
 (aB (pu h1 (aA 0 v0)) fun v5 h5 =>
 aB (pu h5 (aC G false 1 v5 h5)) fun v6 h6 =>
 aB (aE (fG.f G k) [v6] h6) fun v7 h7 =>
 aK v7
 (aB (pu h7 (aA 5 v0)) fun v8 h8 =>
 aB (pu h8 (aC G false 1 v8 h8)) fun v9 h9 =>
 aB (pu h9 (aQ Tryd.prog .sub 3 true x1 (.int .i64 1))) fun v10 h10 =>
 aB (pu h10 (aQ Tryd.prog .shl 3 true (.int .i64 1) v10)) fun v11 h11 =>
 aB (pu h11 (un .neg v11)) fun v12 h12 =>
 aB (pu h12 (aQ Tryd.prog .geq 3 false v9 v12)) fun v13 h13 =>
 aB (gd v13 true h13 (pu h13 (aA 5 v0))) fun v14 h14 =>
 aB (gd v13 true h14 (pu h14 (aC G false 1 v14 h14))) fun v15 h15 =>
 aB (gd v13 true h15 (some (x1, h15))) fun v16 h16 =>
 aB (gd v13 true h16 (pu h16 (aQ Tryd.prog .sub 3 true v16 (.int .i64 1)))) fun v17 h17 =>
 aB (gd v13 true h17 (pu h17 (aQ Tryd.prog .shl 3 true (.int .i64 1) v17))) fun v18 h18 =>
 aB (gd v13 true h18 (pu h18 (aQ Tryd.prog .lss 3 false v15 v18))) fun v19 h19 =>
 aB (pu h19 (dJ v13 v19 (.bool false))) fun v20 h20 =>
 bQ [v20] h.length h20)
 (aB (pu h7 (aA 5 v0)) fun v21 h21 =>
 aB (pu h21 (aC G false 1 v21 h21)) fun v22 h22 =>
 aB (pu h22 (aQ Tryd.prog .geq 3 true v22 (.int .i64 0))) fun v23 h23 =>
 aB (gd v23 true h23 (pu h23 (aA 5 v0))) fun v24 h24 =>
 aB (gd v23 true h24 (pu h24 (aC G false 1 v24 h24))) fun v25 h25 =>
 aB (gd v23 true h25 (some (x1, h25))) fun v26 h26 =>
 aB (gd v23 true h26 (pu h26 (aQ Tryd.prog .shl 3 true (.int .i64 1) v26))) fun v27 h27 =>
 aB (gd v23 true h27 (pu h27 (aQ Tryd.prog .lss 3 false v25 v27))) fun v28 h28 =>
 aB (pu h28 (dJ v23 v28 (.bool false))) fun v29 h29 =>
 bQ [v29] h.length h29)))
noncomputable def hU.f (G : aG) : Nat → dA
 | 0 => fun _ _ => none
 | k + 1 => fun args h => mJ args fun x0 x1 => (hU.c G k (hU.f G k) x0 x1 h)
theorem hU.step (G : aG) (k : Nat) (x0 x1 : AV) (h : aF) : hU.f G (k + 1) [x0, x1] h = hU.c G k (hU.f G k) x0 x1 h := rfl
noncomputable def fW.ann : Ann := gE [] [] [] [(7, [1, 16]), (4, [1, 4, 5])]
noncomputable def fW.env (G : aG) (k : Nat) (self : dA) : List (Nat × Bool × dA) := []
noncomputable def fW.c (G : aG) (k : Nat) (self : dA) (x0 : AV) (h : aF) : Option (AV × aF) := gA (
 aB (dP x0 h) fun v0 h0 =>
 aB (pu h0 (aA 0 v0)) fun v1 h1 =>
 aB (pu h1 (aC G false 1 v1 h1)) fun v2 h2 =>
 eM (
 aB (pu h2 (aQ Tryd.prog .eql 3 true v2 (.int .i64 10))) fun v3 h3 =>
 aK v3
 (some (.normal, [v0, v2, v3], h3))
 (aB (pu h3 (aQ Tryd.prog .eql 3 true v2 (.int .i64 11))) fun v4 h4 =>
 some (.normal, [v0, v2, v4], h4))) fun e5 x5 h5 => jJ e5
 (aK (aI x5 2)
 (aB (pu h5 (aA 1 (aI x5 0))) fun v6 h6 =>
 aB (pu h6 (aC G false 1 v6 h6)) fun v7 h7 =>
 aB (pu h7 (aQ Tryd.prog .eql 3 true v7 (.int .i64 31))) fun v8 h8 =>
 aB (gd v8 false h8 (pu h8 (aA 2 (aI x5 0)))) fun v9 h9 =>
 aB (gd v8 false h9 (pu h9 (aC G false 1 v9 h9))) fun v10 h10 =>
 aB (gd v8 false h10 (pu h10 (aQ Tryd.prog .eql 3 true v10 (.int .i64 31)))) fun v11 h11 =>
 aB (pu h11 (dJ v8 (.bool true) v11)) fun v12 h12 =>
 bQ [v12] h.length h12)
 (eM (
 aB (pu h5 (aQ Tryd.prog .eql 3 true (aI x5 1) (.int .i64 18))) fun v13 h13 =>
 aK v13
 (some (.normal, [(aI x5 0), v13], h13))
 (aB (pu h13 (aQ Tryd.prog .eql 3 true (aI x5 1) (.int .i64 19))) fun v14 h14 =>
 some (.normal, [(aI x5 0), v14], h14))) fun e15 x15 h15 => jJ e15
 (aK (aI x15 1)
 (aB (pu h15 (aA 2 (aI x15 0))) fun v16 h16 =>
 aB (pu h16 (aC G false 1 v16 h16)) fun v17 h17 =>
 aB (pu h17 (aQ Tryd.prog .eql 3 true v17 (.int .i64 31))) fun v18 h18 =>
 bQ [v18] h.length h18)
 (bQ [(.bool false)] h.length h15))
 (fun i15 => if i15 = 0 then (bQ [(.bool false)] h.length h15) else (none))
 (bQ [.undef] h.length h15)))
 (fun i5 => if i5 = 0 then (bQ [(.bool false)] h.length h5) else (none))
 (bQ [.undef] h.length h5))
noncomputable def fW.f (G : aG) : Nat → dA
 | 0 => fun _ _ => none
 | k + 1 => fun args h => nH args fun x0 => (fW.c G k (fW.f G k) x0 h)
theorem fW.step (G : aG) (k : Nat) (x0 : AV) (h : aF) : fW.f G (k + 1) [x0] h = fW.c G k (fW.f G k) x0 h := rfl
noncomputable def dV.ann : Ann := gE [] [] [] []
noncomputable def dV.env (G : aG) (k : Nat) (self : dA) : List (Nat × Bool × dA) := [(94, true, dZ.f G k), (95, true, fU.f G k), (96, true, hU.f G k), (97, true, fW.f G k)]
noncomputable def dV.c (G : aG) (k : Nat) (self : dA) (x0 x1 : AV) (h : aF) : Option (AV × aF) := gA (
 aB (dP x0 h) fun v0 h0 =>
 aB (dP x1 h0) fun v1 h1 =>
 aB (pu h1 (aA 1 v0)) fun v2 h2 =>
 aB (pu h2 (aC G false 1 v2 h2)) fun v3 h3 =>
 aB (pu h3 (aA 2 v1)) fun v4 h4 =>
 aB (pu h4 (aC G false 1 v4 h4)) fun v5 h5 =>
 aB (aE (dZ.f G k) [v3, v5] h5) fun v6 h6 =>
 aB (pu h6 (un .not v6)) fun v7 h7 =>
 aB (gd v7 false h7 (pu h7 (aA 2 v0))) fun v8 h8 =>
 aB (gd v7 false h8 (pu h8 (aC G false 1 v8 h8))) fun v9 h9 =>
 aB (gd v7 false h9 (pu h9 (aA 3 v1))) fun v10 h10 =>
 aB (gd v7 false h10 (pu h10 (aC G false 1 v10 h10))) fun v11 h11 =>
 aB (gd v7 false h11 (aE (dZ.f G k) [v9, v11] h11)) fun v12 h12 =>
 aB (gd v7 false h12 (pu h12 (un .not v12))) fun v13 h13 =>
 aB (pu h13 (dJ v7 (.bool true) v13)) fun v14 h14 =>
 aB (gd v14 false h14 (pu h14 (aA 3 v0))) fun v15 h15 =>
 aB (gd v14 false h15 (pu h15 (aC G false 1 v15 h15))) fun v16 h16 =>
 aB (gd v14 false h16 (pu h16 (aA 4 v1))) fun v17 h17 =>
 aB (gd v14 false h17 (pu h17 (aC G false 1 v17 h17))) fun v18 h18 =>
 aB (gd v14 false h18 (aE (dZ.f G k) [v16, v18] h18)) fun v19 h19 =>
 aB (gd v14 false h19 (pu h19 (un .not v19))) fun v20 h20 =>
 aB (pu h20 (dJ v14 (.bool true) v20)) fun v21 h21 =>
 aK v21
 (bQ [(.bool false)] h.length h21)
 (aB (pu h21 (aA 5 v1)) fun v22 h22 =>
 aB (pu h22 (aC G false 1 v22 h22)) fun v23 h23 =>
 aB (gd v23 true h23 (pu h23 (aC G true 6 v0 h23))) fun v24 h24 =>
 aB (gd v23 true h24 (aE (fU.f G k) [v24] h24)) fun v25 h25 =>
 aB (gd v23 true h25 (pu h25 (un .not v25))) fun v26 h26 =>
 aB (pu h26 (dJ v23 v26 (.bool false))) fun v27 h27 =>
 aB (gd v27 false h27 (pu h27 (aA 5 v1))) fun v28 h28 =>
 aB (gd v27 false h28 (pu h28 (aC G false 1 v28 h28))) fun v29 h29 =>
 aB (gd v27 false h29 (pu h29 (un .not v29))) fun v30 h30 =>
 aB (gd v27 false h30 (some (v30, h30))) fun v31 h31 =>
 aB (gd v31 true h31 (pu h31 (aA 4 v0))) fun v32 h32 =>
 aB (gd v31 true h32 (pu h32 (aC G false 1 v32 h32))) fun v33 h33 =>
 aB (gd v31 true h33 (pu h33 (aQ Tryd.prog .neq 3 true v33 (.int .i64 0)))) fun v34 h34 =>
 aB (gd v27 false h34 (pu h34 (dJ v31 v34 (.bool false)))) fun v35 h35 =>
 aB (pu h35 (dJ v27 (.bool true) v35)) fun v36 h36 =>
 aK v36
 (bQ [(.bool false)] h.length h36)
 (aB (pu h36 (aC G true 6 v0 h36)) fun v37 h37 =>
 aB (pu h37 (aA 6 v1)) fun v38 h38 =>
 aB (pu h38 (aC G false 1 v38 h38)) fun v39 h39 =>
 aB (aE (hU.f G k) [v37, v39] h39) fun v40 h40 =>
 aB (gd v40 true h40 (pu h40 (aC G true 6 v0 h40))) fun v41 h41 =>
 aB (gd v40 true h41 (aE (fW.f G k) [v41] h41)) fun v42 h42 =>
 aB (gd v40 true h42 (pu h42 (un .not v42))) fun v43 h43 =>
 aB (pu h43 (dJ v40 v43 (.bool false))) fun v44 h44 =>
 bQ [v44] h.length h44)))
noncomputable def dV.f (G : aG) : Nat → dA
 | 0 => fun _ _ => none
 | k + 1 => fun args h => mJ args fun x0 x1 => (dV.c G k (dV.f G k) x0 x1 h)
theorem dV.step (G : aG) (k : Nat) (x0 x1 : AV) (h : aF) : dV.f G (k + 1) [x0, x1] h = dV.c G k (dV.f G k) x0 x1 h := rfl
noncomputable def cP.ann : Ann := gE [] [] [] [(28, [3, 4, 12, 64]), (16, [3, 4, 12, 34]), (5, [3, 4, 12, 13])]
noncomputable def cP.env (G : aG) (k : Nat) (self : dA) : List (Nat × Bool × dA) := []
noncomputable def cP.c (G : aG) (k : Nat) (self : dA) (x0 : AV) (h : aF) : Option (AV × aF) := gA (
 aB (dP x0 h) fun v0 h0 =>
 aB (pu h0 (aA 5 v0)) fun v1 h1 =>
 aB (pu h1 (aC G false 1 v1 h1)) fun v2 h2 =>
 aB (pu h2 (aJ .u32 v2)) fun v3 h3 =>
 aB (pu h3 (aA 4 v0)) fun v4 h4 =>
 aB (pu h4 (aC G false 1 v4 h4)) fun v5 h5 =>
 aB (pu h5 (aJ .u32 v5)) fun v6 h6 =>
 aB (pu h6 (aA 0 v0)) fun v7 h7 =>
 aB (pu h7 (aC G false 1 v7 h7)) fun v8 h8 =>
 eM (
 aB (pu h8 (aQ Tryd.prog .eql 3 true v8 (.int .i64 1))) fun v9 h9 =>
 aK v9
 (some (.normal, [v3, v6, v8, v9], h9))
 (aB (pu h9 (aQ Tryd.prog .eql 3 true v8 (.int .i64 2))) fun v10 h10 =>
 some (.normal, [v3, v6, v8, v10], h10))) fun e11 x11 h11 => jJ e11
 (aK (aI x11 3)
 (aB (pu h11 (aQ Tryd.prog .shl 71 true (aI x11 1) (.int .u64 21))) fun v12 h12 =>
 aB (pu h12 (aQ Tryd.prog .shl 71 true (aI x11 0) (.int .u64 5))) fun v13 h13 =>
 aB (pu h13 (aQ Tryd.prog .or 71 false v12 v13)) fun v14 h14 =>
 bQ [v14] h.length h14)
 (aB (pu h11 (aQ Tryd.prog .eql 3 true (aI x11 2) (.int .i64 8))) fun v15 h15 =>
 aK v15
 (aB (pu h15 (aQ Tryd.prog .shl 71 true (aI x11 1) (.int .u64 10))) fun v16 h16 =>
 bQ [v16] h.length h16)
 (aB (pu h15 (aQ Tryd.prog .eql 3 true (aI x11 2) (.int .i64 16))) fun v17 h17 =>
 aK v17
 (aB (pu h17 (aQ Tryd.prog .shl 71 true (aI x11 1) (.int .u64 12))) fun v18 h18 =>
 bQ [v18] h.length h18)
 (aB (pu h17 (aQ Tryd.prog .eql 3 true (aI x11 2) (.int .i64 17))) fun v19 h19 =>
 aK v19
 (aB (pu h19 (aQ Tryd.prog .xor 71 true (aI x11 1) (.int .u32 1))) fun v20 h20 =>
 aB (pu h20 (aQ Tryd.prog .shl 71 true v20 (.int .u64 12))) fun v21 h21 =>
 bQ [v21] h.length h21)
 (eM (
 aB (pu h19 (aQ Tryd.prog .eql 3 true (aI x11 2) (.int .i64 10))) fun v22 h22 =>
 aK v22
 (some (.normal, [(aI x11 0), (aI x11 1), (aI x11 2), v22], h22))
 (aB (pu h22 (aQ Tryd.prog .eql 3 true (aI x11 2) (.int .i64 11))) fun v23 h23 =>
 aK v23
 (some (.normal, [(aI x11 0), (aI x11 1), (aI x11 2), v23], h23))
 (aB (pu h23 (aQ Tryd.prog .eql 3 true (aI x11 2) (.int .i64 18))) fun v24 h24 =>
 aK v24
 (some (.normal, [(aI x11 0), (aI x11 1), (aI x11 2), v24], h24))
 (aB (pu h24 (aQ Tryd.prog .eql 3 true (aI x11 2) (.int .i64 19))) fun v25 h25 =>
 some (.normal, [(aI x11 0), (aI x11 1), (aI x11 2), v25], h25))))) fun e26 x26 h26 => jJ e26
 (aK (aI x26 3)
 (aB (pu h26 (aQ Tryd.prog .shl 71 true (aI x26 0) (.int .u64 10))) fun v27 h27 =>
 bQ [v27] h.length h27)
 (aB (pu h26 (aQ Tryd.prog .eql 3 true (aI x26 2) (.int .i64 12))) fun v28 h28 =>
 aK v28
 (aB (pu h28 (aQ Tryd.prog .sub 71 true (.int .u32 64) (aI x26 0))) fun v29 h29 =>
 aB (pu h29 (aQ Tryd.prog .rem 71 true v29 (.int .u32 64))) fun v30 h30 =>
 aB (pu h30 (aQ Tryd.prog .shl 71 true v30 (.int .u64 16))) fun v31 h31 =>
 aB (pu h31 (aQ Tryd.prog .sub 71 true (.int .u32 63) (aI x26 0))) fun v32 h32 =>
 aB (pu h32 (aQ Tryd.prog .shl 71 true v32 (.int .u64 10))) fun v33 h33 =>
 aB (pu h33 (aQ Tryd.prog .or 71 false v31 v33)) fun v34 h34 =>
 bQ [v34] h.length h34)
 (aB (pu h28 (aQ Tryd.prog .eql 3 true (aI x26 2) (.int .i64 13))) fun v35 h35 =>
 aK v35
 (aB (pu h35 (aQ Tryd.prog .shl 71 true (aI x26 0) (.int .u64 16))) fun v36 h36 =>
 aB (pu h36 (aQ Tryd.prog .or 71 true v36 (.int .u32 64512))) fun v37 h37 =>
 bQ [v37] h.length h37)
 (aB (pu h35 (aQ Tryd.prog .eql 3 true (aI x26 2) (.int .i64 14))) fun v38 h38 =>
 aK v38
 (aB (pu h38 (aQ Tryd.prog .shl 71 true (aI x26 0) (.int .u64 16))) fun v39 h39 =>
 bQ [v39] h.length h39)
 (aB (pu h38 (aQ Tryd.prog .eql 3 true (aI x26 2) (.int .i64 20))) fun v40 h40 =>
 aK v40
 (aB (pu h40 (aQ Tryd.prog .and 71 true (aI x26 0) (.int .u32 67108863))) fun v41 h41 =>
 bQ [v41] h.length h41)
 (eM (
 aB (pu h40 (aQ Tryd.prog .eql 3 true (aI x26 2) (.int .i64 21))) fun v42 h42 =>
 aK v42
 (some (.normal, [(aI x26 0), (aI x26 1), (aI x26 2), v42], h42))
 (aB (pu h42 (aQ Tryd.prog .eql 3 true (aI x26 2) (.int .i64 22))) fun v43 h43 =>
 aK v43
 (some (.normal, [(aI x26 0), (aI x26 1), (aI x26 2), v43], h43))
 (aB (pu h43 (aQ Tryd.prog .eql 3 true (aI x26 2) (.int .i64 23))) fun v44 h44 =>
 some (.normal, [(aI x26 0), (aI x26 1), (aI x26 2), v44], h44)))) fun e45 x45 h45 => jJ e45
 (aK (aI x45 3)
 (aB (pu h45 (aQ Tryd.prog .and 71 true (aI x45 0) (.int .u32 524287))) fun v46 h46 =>
 aB (pu h46 (aQ Tryd.prog .shl 71 true v46 (.int .u64 5))) fun v47 h47 =>
 aB (pu h47 (aQ Tryd.prog .or 71 false (aI x45 1) v47)) fun v48 h48 =>
 bQ [v48] h.length h48)
 (aB (pu h45 (aQ Tryd.prog .eql 3 true (aI x45 2) (.int .i64 24))) fun v49 h49 =>
 aK v49
 (aB (pu h49 (aQ Tryd.prog .shl 71 true (aI x45 0) (.int .u64 5))) fun v50 h50 =>
 bQ [v50] h.length h50)
 (bQ [(.int .u32 0)] h.length h49)))
 (fun i45 => if i45 = 0 then (bQ [(.int .u32 0)] h.length h45) else (none))
 (bQ [.undef] h.length h45)))))))
 (fun i26 => if i26 = 0 then (bQ [(.int .u32 0)] h.length h26) else (none))
 (bQ [.undef] h.length h26))))))
 (fun i11 => if i11 = 0 then (bQ [(.int .u32 0)] h.length h11) else (none))
 (bQ [.undef] h.length h11))
noncomputable def cP.f (G : aG) : Nat → dA
 | 0 => fun _ _ => none
 | k + 1 => fun args h => nH args fun x0 => (cP.c G k (cP.f G k) x0 h)
theorem cP.step (G : aG) (k : Nat) (x0 : AV) (h : aF) : cP.f G (k + 1) [x0] h = cP.c G k (cP.f G k) x0 h := rfl
noncomputable def bB.ann : Ann := gE [] [] [] []
noncomputable def bB.env (G : aG) (k : Nat) (self : dA) : List (Nat × Bool × dA) := [(70, true, fN.f G k), (71, true, dV.f G k), (72, true, cP.f G k)]
noncomputable def bB.c (G : aG) (k : Nat) (self : dA) (x0 : AV) (h : aF) : Option (AV × aF) := gA (
 aB (dP x0 h) fun v0 h0 =>
 aB (pu h0 (aA 0 v0)) fun v1 h1 =>
 aB (pu h1 (aC G false 1 v1 h1)) fun v2 h2 =>
 aB (aE (fN.f G k) [v2] h2) fun v3 h3 =>
 aB (pu h3 (cU v3 0)) fun v4 h4 =>
 aB (pu h4 (cU v3 1)) fun v5 h5 =>
 aB (fF 141 (.agg [(.str ⟨#[]⟩), (.int .u32 0), (.bool false), (.bool false), (.bool false), (.bool false), (.int .i64 0)]) h5) fun v6 h6 =>
 aB (fB (aN 7 v6 v4 h6)) fun v7 h7 =>
 aB (pu h7 (un .not v5)) fun v8 h8 =>
 aB (gd v8 false h8 (pu h8 (aC G true 6 v0 h8))) fun v9 h9 =>
 aB (gd v8 false h9 (pu h9 (aC G true 7 v6 h9))) fun v10 h10 =>
 aB (gd v8 false h10 (aE (dV.f G k) [v9, v10] h10)) fun v11 h11 =>
 aB (gd v8 false h11 (pu h11 (un .not v11))) fun v12 h12 =>
 aB (pu h12 (dJ v8 (.bool true) v12)) fun v13 h13 =>
 aK v13
 (bQ [(.int .u32 0), (.bool false)] h.length h13)
 (aB (pu h13 (aA 1 v6)) fun v14 h14 =>
 aB (pu h14 (aC G false 1 v14 h14)) fun v15 h15 =>
 aB (pu h15 (aA 1 v0)) fun v16 h16 =>
 aB (pu h16 (aC G false 1 v16 h16)) fun v17 h17 =>
 aB (pu h17 (aJ .u32 v17)) fun v18 h18 =>
 aB (pu h18 (aQ Tryd.prog .or 71 false v15 v18)) fun v19 h19 =>
 aB (pu h19 (aA 2 v0)) fun v20 h20 =>
 aB (pu h20 (aC G false 1 v20 h20)) fun v21 h21 =>
 aB (pu h21 (aJ .u32 v21)) fun v22 h22 =>
 aB (pu h22 (aQ Tryd.prog .shl 71 true v22 (.int .u64 5))) fun v23 h23 =>
 aB (pu h23 (aQ Tryd.prog .or 71 false v19 v23)) fun v24 h24 =>
 aB (pu h24 (aA 3 v0)) fun v25 h25 =>
 aB (pu h25 (aC G false 1 v25 h25)) fun v26 h26 =>
 aB (pu h26 (aJ .u32 v26)) fun v27 h27 =>
 aB (pu h27 (aQ Tryd.prog .shl 71 true v27 (.int .u64 16))) fun v28 h28 =>
 aB (pu h28 (aQ Tryd.prog .or 71 false v24 v28)) fun v29 h29 =>
 aB (pu h29 (aC G true 6 v0 h29)) fun v30 h30 =>
 aB (aE (cP.f G k) [v30] h30) fun v31 h31 =>
 aB (pu h31 (aQ Tryd.prog .or 71 false v29 v31)) fun v32 h32 =>
 bQ [v32, (.bool true)] h.length h32))
noncomputable def bB.f (G : aG) : Nat → dA
 | 0 => fun _ _ => none
 | k + 1 => fun args h => nH args fun x0 => (bB.c G k (bB.f G k) x0 h)
theorem bB.step (G : aG) (k : Nat) (x0 : AV) (h : aF) : bB.f G (k + 1) [x0] h = bB.c G k (bB.f G k) x0 h := rfl
noncomputable def aM.ann : Ann := gE [] [] [] [(34, [2, 3, 43]), (23, [2, 3, 26]), (19, [2, 3, 20]), (14, [2, 3, 16]), (11, [2, 3, 8]), (4, [2, 3, 4])]
noncomputable def aM.env (G : aG) (k : Nat) (self : dA) : List (Nat × Bool × dA) := []
noncomputable def aM.c (G : aG) (k : Nat) (self : dA) (x0 : AV) (h : aF) : Option (AV × aF) := gA (
 aB (fF 149 (.agg [(.bool false), (.bool false), (.bool false), (.bool false), (.int .i64 0)]) h) fun v0 h0 =>
 eM (
 aB (pu h0 (aQ Tryd.prog .eql 3 true x0 (.int .i64 1))) fun v1 h1 =>
 aK v1
 (some (.normal, [v0, x0, v1], h1))
 (aB (pu h1 (aQ Tryd.prog .eql 3 true x0 (.int .i64 2))) fun v2 h2 =>
 some (.normal, [v0, x0, v2], h2))) fun e3 x3 h3 => jJ e3
 (aK (aI x3 2)
 (aB (pu h3 (bA [(0, 1), (1, 1), (2, 1), (3, 1), (4, 1)] [(.bool false), (.bool false), (.bool false), (.bool false), (.int .i64 0)] [(0, (.bool true)), (3, (.bool true)), (4, (.int .i64 16))])) fun v4 h4 =>
 aB (fB (aN 5 (aI x3 0) v4 h4)) fun v5 h5 =>
 fL [aC G true 5 (aI x3 0) h5] h.length h5)
 (eM (
 aB (pu h3 (aQ Tryd.prog .eql 3 true (aI x3 1) (.int .i64 3))) fun v6 h6 =>
 aK v6
 (some (.normal, [(aI x3 0), (aI x3 1), v6], h6))
 (aB (pu h6 (aQ Tryd.prog .eql 3 true (aI x3 1) (.int .i64 4))) fun v7 h7 =>
 aK v7
 (some (.normal, [(aI x3 0), (aI x3 1), v7], h7))
 (aB (pu h7 (aQ Tryd.prog .eql 3 true (aI x3 1) (.int .i64 5))) fun v8 h8 =>
 aK v8
 (some (.normal, [(aI x3 0), (aI x3 1), v8], h8))
 (aB (pu h8 (aQ Tryd.prog .eql 3 true (aI x3 1) (.int .i64 6))) fun v9 h9 =>
 aK v9
 (some (.normal, [(aI x3 0), (aI x3 1), v9], h9))
 (aB (pu h9 (aQ Tryd.prog .eql 3 true (aI x3 1) (.int .i64 7))) fun v10 h10 =>
 aK v10
 (some (.normal, [(aI x3 0), (aI x3 1), v10], h10))
 (aB (pu h10 (aQ Tryd.prog .eql 3 true (aI x3 1) (.int .i64 9))) fun v11 h11 =>
 some (.normal, [(aI x3 0), (aI x3 1), v11], h11))))))) fun e12 x12 h12 => jJ e12
 (aK (aI x12 2)
 (aB (pu h12 (bA [(0, 1), (1, 1), (2, 1), (3, 1), (4, 1)] [(.bool false), (.bool false), (.bool false), (.bool false), (.int .i64 0)] [(0, (.bool true)), (1, (.bool true)), (2, (.bool true))])) fun v13 h13 =>
 aB (fB (aN 5 (aI x12 0) v13 h13)) fun v14 h14 =>
 fL [aC G true 5 (aI x12 0) h14] h.length h14)
 (eM (
 aB (pu h12 (aQ Tryd.prog .eql 3 true (aI x12 1) (.int .i64 8))) fun v15 h15 =>
 aK v15
 (some (.normal, [(aI x12 0), (aI x12 1), v15], h15))
 (aB (pu h15 (aQ Tryd.prog .eql 3 true (aI x12 1) (.int .i64 16))) fun v16 h16 =>
 some (.normal, [(aI x12 0), (aI x12 1), v16], h16))) fun e17 x17 h17 => jJ e17
 (aK (aI x17 2)
 (aB (pu h17 (bA [(0, 1), (1, 1), (2, 1), (3, 1), (4, 1)] [(.bool false), (.bool false), (.bool false), (.bool false), (.int .i64 0)] [(0, (.bool true)), (1, (.bool true)), (2, (.bool true)), (3, (.bool true))])) fun v18 h18 =>
 aB (fB (aN 5 (aI x17 0) v18 h18)) fun v19 h19 =>
 fL [aC G true 5 (aI x17 0) h19] h.length h19)
 (eM (
 aB (pu h17 (aQ Tryd.prog .eql 3 true (aI x17 1) (.int .i64 10))) fun v20 h20 =>
 aK v20
 (some (.normal, [(aI x17 0), (aI x17 1), v20], h20))
 (aB (pu h20 (aQ Tryd.prog .eql 3 true (aI x17 1) (.int .i64 11))) fun v21 h21 =>
 aK v21
 (some (.normal, [(aI x17 0), (aI x17 1), v21], h21))
 (aB (pu h21 (aQ Tryd.prog .eql 3 true (aI x17 1) (.int .i64 18))) fun v22 h22 =>
 aK v22
 (some (.normal, [(aI x17 0), (aI x17 1), v22], h22))
 (aB (pu h22 (aQ Tryd.prog .eql 3 true (aI x17 1) (.int .i64 19))) fun v23 h23 =>
 some (.normal, [(aI x17 0), (aI x17 1), v23], h23))))) fun e24 x24 h24 => jJ e24
 (aK (aI x24 2)
 (aB (pu h24 (bA [(0, 1), (1, 1), (2, 1), (3, 1), (4, 1)] [(.bool false), (.bool false), (.bool false), (.bool false), (.int .i64 0)] [(0, (.bool true)), (1, (.bool true)), (4, (.int .i64 12))])) fun v25 h25 =>
 aB (fB (aN 5 (aI x24 0) v25 h25)) fun v26 h26 =>
 fL [aC G true 5 (aI x24 0) h26] h.length h26)
 (eM (
 aB (pu h24 (aQ Tryd.prog .eql 3 true (aI x24 1) (.int .i64 12))) fun v27 h27 =>
 aK v27
 (some (.normal, [(aI x24 0), (aI x24 1), v27], h27))
 (aB (pu h27 (aQ Tryd.prog .eql 3 true (aI x24 1) (.int .i64 13))) fun v28 h28 =>
 aK v28
 (some (.normal, [(aI x24 0), (aI x24 1), v28], h28))
 (aB (pu h28 (aQ Tryd.prog .eql 3 true (aI x24 1) (.int .i64 14))) fun v29 h29 =>
 some (.normal, [(aI x24 0), (aI x24 1), v29], h29)))) fun e30 x30 h30 => jJ e30
 (aK (aI x30 2)
 (aB (pu h30 (bA [(0, 1), (1, 1), (2, 1), (3, 1), (4, 1)] [(.bool false), (.bool false), (.bool false), (.bool false), (.int .i64 0)] [(0, (.bool true)), (1, (.bool true)), (4, (.int .i64 6))])) fun v31 h31 =>
 aB (fB (aN 5 (aI x30 0) v31 h31)) fun v32 h32 =>
 fL [aC G true 5 (aI x30 0) h32] h.length h32)
 (aB (pu h30 (aQ Tryd.prog .eql 3 true (aI x30 1) (.int .i64 15))) fun v33 h33 =>
 aK v33
 (aB (pu h33 (bA [(0, 1), (1, 1), (2, 1), (3, 1), (4, 1)] [(.bool false), (.bool false), (.bool false), (.bool false), (.int .i64 0)] [(1, (.bool true)), (2, (.bool true))])) fun v34 h34 =>
 aB (fB (aN 5 (aI x30 0) v34 h34)) fun v35 h35 =>
 fL [aC G true 5 (aI x30 0) h35] h.length h35)
 (aB (pu h33 (aQ Tryd.prog .eql 3 true (aI x30 1) (.int .i64 17))) fun v36 h36 =>
 aK v36
 (aB (pu h36 (bA [(0, 1), (1, 1), (2, 1), (3, 1), (4, 1)] [(.bool false), (.bool false), (.bool false), (.bool false), (.int .i64 0)] [(0, (.bool true)), (3, (.bool true))])) fun v37 h37 =>
 aB (fB (aN 5 (aI x30 0) v37 h37)) fun v38 h38 =>
 fL [aC G true 5 (aI x30 0) h38] h.length h38)
 (aB (pu h36 (aQ Tryd.prog .eql 3 true (aI x30 1) (.int .i64 20))) fun v39 h39 =>
 aK v39
 (aB (pu h39 (bA [(0, 1), (1, 1), (2, 1), (3, 1), (4, 1)] [(.bool false), (.bool false), (.bool false), (.bool false), (.int .i64 0)] [(4, (.int .i64 26))])) fun v40 h40 =>
 aB (fB (aN 5 (aI x30 0) v40 h40)) fun v41 h41 =>
 fL [aC G true 5 (aI x30 0) h41] h.length h41)
 (aB (pu h39 (aQ Tryd.prog .eql 3 true (aI x30 1) (.int .i64 21))) fun v42 h42 =>
 aK v42
 (aB (pu h42 (bA [(0, 1), (1, 1), (2, 1), (3, 1), (4, 1)] [(.bool false), (.bool false), (.bool false), (.bool false), (.int .i64 0)] [(3, (.bool true)), (4, (.int .i64 19))])) fun v43 h43 =>
 aB (fB (aN 5 (aI x30 0) v43 h43)) fun v44 h44 =>
 fL [aC G true 5 (aI x30 0) h44] h.length h44)
 (eM (
 aB (pu h42 (aQ Tryd.prog .eql 3 true (aI x30 1) (.int .i64 22))) fun v45 h45 =>
 aK v45
 (some (.normal, [(aI x30 0), (aI x30 1), v45], h45))
 (aB (pu h45 (aQ Tryd.prog .eql 3 true (aI x30 1) (.int .i64 23))) fun v46 h46 =>
 some (.normal, [(aI x30 0), (aI x30 1), v46], h46))) fun e47 x47 h47 => jJ e47
 (aK (aI x47 2)
 (aB (pu h47 (bA [(0, 1), (1, 1), (2, 1), (3, 1), (4, 1)] [(.bool false), (.bool false), (.bool false), (.bool false), (.int .i64 0)] [(0, (.bool true)), (4, (.int .i64 19))])) fun v48 h48 =>
 aB (fB (aN 5 (aI x47 0) v48 h48)) fun v49 h49 =>
 fL [aC G true 5 (aI x47 0) h49] h.length h49)
 (aB (pu h47 (aQ Tryd.prog .eql 3 true (aI x47 1) (.int .i64 24))) fun v50 h50 =>
 aK v50
 (aB (pu h50 (bA [(0, 1), (1, 1), (2, 1), (3, 1), (4, 1)] [(.bool false), (.bool false), (.bool false), (.bool false), (.int .i64 0)] [(4, (.int .i64 16))])) fun v51 h51 =>
 aB (fB (aN 5 (aI x47 0) v51 h51)) fun v52 h52 =>
 fL [aC G true 5 (aI x47 0) h52] h.length h52)
 (aB (pu h50 (bA [(0, 1), (1, 1), (2, 1), (3, 1), (4, 1)] [(.bool false), (.bool false), (.bool false), (.bool false), (.int .i64 0)] [])) fun v53 h53 =>
 aB (fB (aN 5 (aI x47 0) v53 h53)) fun v54 h54 =>
 fL [aC G true 5 (aI x47 0) h54] h.length h54)))
 (fun i47 => if i47 = 0 then (aB (pu h47 (bA [(0, 1), (1, 1), (2, 1), (3, 1), (4, 1)] [(.bool false), (.bool false), (.bool false), (.bool false), (.int .i64 0)] [])) fun v55 h55 =>
 aB (fB (aN 5 (aI x47 0) v55 h55)) fun v56 h56 =>
 fL [aC G true 5 (aI x47 0) h56] h.length h56) else (none))
 (fL [aC G true 5 (aI x47 0) h47] h.length h47)))))))
 (fun i30 => if i30 = 0 then (aB (pu h30 (bA [(0, 1), (1, 1), (2, 1), (3, 1), (4, 1)] [(.bool false), (.bool false), (.bool false), (.bool false), (.int .i64 0)] [])) fun v57 h57 =>
 aB (fB (aN 5 (aI x30 0) v57 h57)) fun v58 h58 =>
 fL [aC G true 5 (aI x30 0) h58] h.length h58) else (none))
 (fL [aC G true 5 (aI x30 0) h30] h.length h30)))
 (fun i24 => if i24 = 0 then (aB (pu h24 (bA [(0, 1), (1, 1), (2, 1), (3, 1), (4, 1)] [(.bool false), (.bool false), (.bool false), (.bool false), (.int .i64 0)] [])) fun v59 h59 =>
 aB (fB (aN 5 (aI x24 0) v59 h59)) fun v60 h60 =>
 fL [aC G true 5 (aI x24 0) h60] h.length h60) else (none))
 (fL [aC G true 5 (aI x24 0) h24] h.length h24)))
 (fun i17 => if i17 = 0 then (aB (pu h17 (bA [(0, 1), (1, 1), (2, 1), (3, 1), (4, 1)] [(.bool false), (.bool false), (.bool false), (.bool false), (.int .i64 0)] [])) fun v61 h61 =>
 aB (fB (aN 5 (aI x17 0) v61 h61)) fun v62 h62 =>
 fL [aC G true 5 (aI x17 0) h62] h.length h62) else (none))
 (fL [aC G true 5 (aI x17 0) h17] h.length h17)))
 (fun i12 => if i12 = 0 then (aB (pu h12 (bA [(0, 1), (1, 1), (2, 1), (3, 1), (4, 1)] [(.bool false), (.bool false), (.bool false), (.bool false), (.int .i64 0)] [])) fun v63 h63 =>
 aB (fB (aN 5 (aI x12 0) v63 h63)) fun v64 h64 =>
 fL [aC G true 5 (aI x12 0) h64] h.length h64) else (none))
 (fL [aC G true 5 (aI x12 0) h12] h.length h12)))
 (fun i3 => if i3 = 0 then (aB (pu h3 (bA [(0, 1), (1, 1), (2, 1), (3, 1), (4, 1)] [(.bool false), (.bool false), (.bool false), (.bool false), (.int .i64 0)] [])) fun v65 h65 =>
 aB (fB (aN 5 (aI x3 0) v65 h65)) fun v66 h66 =>
 fL [aC G true 5 (aI x3 0) h66] h.length h66) else (none))
 (fL [aC G true 5 (aI x3 0) h3] h.length h3))
noncomputable def aM.f (G : aG) : Nat → dA
 | 0 => fun _ _ => none
 | k + 1 => fun args h => nH args fun x0 => (aM.c G k (aM.f G k) x0 h)
theorem aM.step (G : aG) (k : Nat) (x0 : AV) (h : aF) : aM.f G (k + 1) [x0] h = aM.c G k (aM.f G k) x0 h := rfl
noncomputable def cE.ann : Ann := gE [] [] [] []
noncomputable def cE.env (G : aG) (k : Nat) (self : dA) : List (Nat × Bool × dA) := []
noncomputable def cE.c (G : aG) (k : Nat) (self : dA) (x0 x1 : AV) (h : aF) : Option (AV × aF) := gA (
 aB (pu h (aQ Tryd.prog .eql 3 true x0 (.int .i64 0))) fun v0 h0 =>
 aB (gd v0 false h0 (some (x1, h0))) fun v1 h1 =>
 aB (gd v0 false h1 (some (v1, h1))) fun v2 h2 =>
 aB (gd v2 true h2 (some (x0, h2))) fun v3 h3 =>
 aB (gd v2 true h3 (pu h3 (aQ Tryd.prog .gtr 3 true v3 (.int .i64 0)))) fun v4 h4 =>
 aB (gd v0 false h4 (pu h4 (dJ v2 v4 (.bool false)))) fun v5 h5 =>
 aB (gd v0 false h5 (some (v5, h5))) fun v6 h6 =>
 aB (gd v6 true h6 (some (x0, h6))) fun v7 h7 =>
 aB (gd v6 true h7 (pu h7 (aQ Tryd.prog .leq 3 true v7 (.int .i64 31)))) fun v8 h8 =>
 aB (gd v0 false h8 (pu h8 (dJ v6 v8 (.bool false)))) fun v9 h9 =>
 aB (pu h9 (dJ v0 (.bool true) v9)) fun v10 h10 =>
 bQ [v10] h.length h10)
noncomputable def cE.f (G : aG) : Nat → dA
 | 0 => fun _ _ => none
 | k + 1 => fun args h => mJ args fun x0 x1 => (cE.c G k (cE.f G k) x0 x1 h)
theorem cE.step (G : aG) (k : Nat) (x0 x1 : AV) (h : aF) : cE.f G (k + 1) [x0, x1] h = cE.c G k (cE.f G k) x0 x1 h := rfl
noncomputable def cI.ann : Ann := gE [] [] [] []
noncomputable def cI.env (G : aG) (k : Nat) (self : dA) : List (Nat × Bool × dA) := []
noncomputable def cI.c (G : aG) (k : Nat) (self : dA) (x0 : AV) (h : aF) : Option (AV × aF) := gA (
 aB (pu h (aQ Tryd.prog .geq 3 true x0 (.int .i64 0))) fun v0 h0 =>
 aB (gd v0 true h0 (some (x0, h0))) fun v1 h1 =>
 aB (gd v0 true h1 (pu h1 (aQ Tryd.prog .leq 3 true v1 (.int .i64 3)))) fun v2 h2 =>
 aB (pu h2 (dJ v0 v2 (.bool false))) fun v3 h3 =>
 aB (gd v3 false h3 (some (x0, h3))) fun v4 h4 =>
 aB (gd v3 false h4 (pu h4 (aQ Tryd.prog .eql 3 true v4 (.int .i64 8)))) fun v5 h5 =>
 aB (pu h5 (dJ v3 (.bool true) v5)) fun v6 h6 =>
 aB (gd v6 false h6 (some (x0, h6))) fun v7 h7 =>
 aB (gd v6 false h7 (pu h7 (aQ Tryd.prog .eql 3 true v7 (.int .i64 9)))) fun v8 h8 =>
 aB (pu h8 (dJ v6 (.bool true) v8)) fun v9 h9 =>
 bQ [v9] h.length h9)
noncomputable def cI.f (G : aG) : Nat → dA
 | 0 => fun _ _ => none
 | k + 1 => fun args h => nH args fun x0 => (cI.c G k (cI.f G k) x0 h)
theorem cI.step (G : aG) (k : Nat) (x0 : AV) (h : aF) : cI.f G (k + 1) [x0] h = cI.c G k (cI.f G k) x0 h := rfl
noncomputable def cQ.ann : Ann := gE [] [] [] []
noncomputable def cQ.env (G : aG) (k : Nat) (self : dA) : List (Nat × Bool × dA) := []
noncomputable def cQ.c (G : aG) (k : Nat) (self : dA) (x0 x1 : AV) (h : aF) : Option (AV × aF) := gA (
 aB (pu h (aQ Tryd.prog .sub 3 true x1 (.int .i64 1))) fun v0 h0 =>
 aB (pu h0 (aJ .u64 v0)) fun v1 h1 =>
 aB (pu h1 (aQ Tryd.prog .shl 3 true (.int .i64 (-1)) v1)) fun v2 h2 =>
 aB (pu h2 (aQ Tryd.prog .geq 3 false x0 v2)) fun v3 h3 =>
 aB (gd v3 true h3 (some (x0, h3))) fun v4 h4 =>
 aB (gd v3 true h4 (some (x1, h4))) fun v5 h5 =>
 aB (gd v3 true h5 (pu h5 (aQ Tryd.prog .sub 3 true v5 (.int .i64 1)))) fun v6 h6 =>
 aB (gd v3 true h6 (pu h6 (aJ .u64 v6))) fun v7 h7 =>
 aB (gd v3 true h7 (pu h7 (aQ Tryd.prog .shl 3 true (.int .i64 1) v7))) fun v8 h8 =>
 aB (gd v3 true h8 (pu h8 (aQ Tryd.prog .lss 3 false v4 v8))) fun v9 h9 =>
 aB (pu h9 (dJ v3 v9 (.bool false))) fun v10 h10 =>
 bQ [v10] h.length h10)
noncomputable def cQ.f (G : aG) : Nat → dA
 | 0 => fun _ _ => none
 | k + 1 => fun args h => mJ args fun x0 x1 => (cQ.c G k (cQ.f G k) x0 x1 h)
theorem cQ.step (G : aG) (k : Nat) (x0 x1 : AV) (h : aF) : cQ.f G (k + 1) [x0, x1] h = cQ.c G k (cQ.f G k) x0 x1 h := rfl
noncomputable def aT.ann : Ann := gE [] [] [] [(25, [1, 2, 3]), (23, [1, 3, 84]), (19, [1, 3, 72, 73]), (16, [1, 2, 3]), (14, [1, 3, 63]), (9, [1, 3, 45, 52])]
noncomputable def aT.env (G : aG) (k : Nat) (self : dA) : List (Nat × Bool × dA) := [(79, true, aM.f G k), (99, true, cE.f G k), (100, true, cI.f G k), (101, true, cQ.f G k)]
noncomputable def aT.c (G : aG) (k : Nat) (self : dA) (x0 : AV) (h : aF) : Option (AV × aF) := gA (
 aB (dP x0 h) fun v0 h0 =>
 aB (pu h0 (aA 0 v0)) fun v1 h1 =>
 aB (pu h1 (aC G false 1 v1 h1)) fun v2 h2 =>
 aB (aE (aM.f G k) [v2] h2) fun v3 h3 =>
 aB (fF 149 (.agg [(.bool false), (.bool false), (.bool false), (.bool false), (.int .i64 0)]) h3) fun v4 h4 =>
 aB (fB (aN 5 v4 v3 h4)) fun v5 h5 =>
 aB (pu h5 (aA 0 v4)) fun v6 h6 =>
 aB (pu h6 (aC G false 1 v6 h6)) fun v7 h7 =>
 aB (pu h7 (un .not v7)) fun v8 h8 =>
 aB (gd v8 true h8 (pu h8 (aA 1 v4))) fun v9 h9 =>
 aB (gd v8 true h9 (pu h9 (aC G false 1 v9 h9))) fun v10 h10 =>
 aB (gd v8 true h10 (pu h10 (un .not v10))) fun v11 h11 =>
 aB (pu h11 (dJ v8 v11 (.bool false))) fun v12 h12 =>
 aB (gd v12 true h12 (pu h12 (aA 4 v4))) fun v13 h13 =>
 aB (gd v12 true h13 (pu h13 (aC G false 1 v13 h13))) fun v14 h14 =>
 aB (gd v12 true h14 (pu h14 (aQ Tryd.prog .eql 3 true v14 (.int .i64 0)))) fun v15 h15 =>
 aB (pu h15 (dJ v12 v15 (.bool false))) fun v16 h16 =>
 aB (gd v16 false h16 (pu h16 (aA 1 v0))) fun v17 h17 =>
 aB (gd v16 false h17 (pu h17 (aC G false 1 v17 h17))) fun v18 h18 =>
 aB (gd v16 false h18 (pu h18 (aA 0 v4))) fun v19 h19 =>
 aB (gd v16 false h19 (pu h19 (aC G false 1 v19 h19))) fun v20 h20 =>
 aB (gd v16 false h20 (aE (cE.f G k) [v18, v20] h20)) fun v21 h21 =>
 aB (gd v16 false h21 (pu h21 (un .not v21))) fun v22 h22 =>
 aB (pu h22 (dJ v16 (.bool true) v22)) fun v23 h23 =>
 aB (gd v23 false h23 (pu h23 (aA 2 v0))) fun v24 h24 =>
 aB (gd v23 false h24 (pu h24 (aC G false 1 v24 h24))) fun v25 h25 =>
 aB (gd v23 false h25 (pu h25 (aA 1 v4))) fun v26 h26 =>
 aB (gd v23 false h26 (pu h26 (aC G false 1 v26 h26))) fun v27 h27 =>
 aB (gd v23 false h27 (aE (cE.f G k) [v25, v27] h27)) fun v28 h28 =>
 aB (gd v23 false h28 (pu h28 (un .not v28))) fun v29 h29 =>
 aB (pu h29 (dJ v23 (.bool true) v29)) fun v30 h30 =>
 aB (gd v30 false h30 (pu h30 (aA 3 v0))) fun v31 h31 =>
 aB (gd v30 false h31 (pu h31 (aC G false 1 v31 h31))) fun v32 h32 =>
 aB (gd v30 false h32 (pu h32 (aA 2 v4))) fun v33 h33 =>
 aB (gd v30 false h33 (pu h33 (aC G false 1 v33 h33))) fun v34 h34 =>
 aB (gd v30 false h34 (aE (cE.f G k) [v32, v34] h34)) fun v35 h35 =>
 aB (gd v30 false h35 (pu h35 (un .not v35))) fun v36 h36 =>
 aB (pu h36 (dJ v30 (.bool true) v36)) fun v37 h37 =>
 aK v37
 (bQ [(.bool false)] h.length h37)
 (eM (
 aB (pu h37 (aA 0 v0)) fun v38 h38 =>
 aB (pu h38 (aC G false 1 v38 h38)) fun v39 h39 =>
 eM (
 aB (pu h39 (aQ Tryd.prog .eql 3 true v39 (.int .i64 1))) fun v40 h40 =>
 aK v40
 (some (.normal, [v0, v4, v39, v40], h40))
 (aB (pu h40 (aQ Tryd.prog .eql 3 true v39 (.int .i64 2))) fun v41 h41 =>
 some (.normal, [v0, v4, v39, v41], h41))) fun e42 x42 h42 => jJ e42
 (aK (aI x42 3)
 (aB (pu h42 (aA 4 (aI x42 0))) fun v43 h43 =>
 aB (pu h43 (aC G false 1 v43 h43)) fun v44 h44 =>
 aB (pu h44 (aQ Tryd.prog .lss 3 true v44 (.int .i64 0))) fun v45 h45 =>
 aB (gd v45 false h45 (pu h45 (aA 4 (aI x42 0)))) fun v46 h46 =>
 aB (gd v45 false h46 (pu h46 (aC G false 1 v46 h46))) fun v47 h47 =>
 aB (gd v45 false h47 (pu h47 (aQ Tryd.prog .gtr 3 true v47 (.int .i64 3)))) fun v48 h48 =>
 aB (pu h48 (dJ v45 (.bool true) v48)) fun v49 h49 =>
 aK v49
 (some (.ret, [(aI x42 0), (.bool false), (aI x42 1)], h49))
 (some (.normal, [(aI x42 0), .undef, (aI x42 1)], h49)))
 (eM (
 aB (pu h42 (aQ Tryd.prog .eql 3 true (aI x42 2) (.int .i64 16))) fun v50 h50 =>
 aK v50
 (some (.normal, [(aI x42 0), (aI x42 1), v50], h50))
 (aB (pu h50 (aQ Tryd.prog .eql 3 true (aI x42 2) (.int .i64 17))) fun v51 h51 =>
 aK v51
 (some (.normal, [(aI x42 0), (aI x42 1), v51], h51))
 (aB (pu h51 (aQ Tryd.prog .eql 3 true (aI x42 2) (.int .i64 21))) fun v52 h52 =>
 some (.normal, [(aI x42 0), (aI x42 1), v52], h52)))) fun e53 x53 h53 => jJ e53
 (aK (aI x53 2)
 (aB (pu h53 (aA 4 (aI x53 0))) fun v54 h54 =>
 aB (pu h54 (aC G false 1 v54 h54)) fun v55 h55 =>
 aB (aE (cI.f G k) [v55] h55) fun v56 h56 =>
 aB (pu h56 (un .not v56)) fun v57 h57 =>
 aK v57
 (some (.ret, [(aI x53 0), (.bool false), (aI x53 1)], h57))
 (some (.normal, [(aI x53 0), .undef, (aI x53 1)], h57)))
 (aB (pu h53 (aA 4 (aI x53 0))) fun v58 h58 =>
 aB (pu h58 (aC G false 1 v58 h58)) fun v59 h59 =>
 aB (pu h59 (aA 3 (aI x53 1))) fun v60 h60 =>
 aB (pu h60 (aC G false 1 v60 h60)) fun v61 h61 =>
 aB (aE (cE.f G k) [v59, v61] h61) fun v62 h62 =>
 aB (pu h62 (un .not v62)) fun v63 h63 =>
 aK v63
 (some (.ret, [(aI x53 0), (.bool false), (aI x53 1)], h63))
 (some (.normal, [(aI x53 0), .undef, (aI x53 1)], h63))))
 (fun i53 => if i53 = 0 then (some (.normal, [(aI x53 0), .undef, (aI x53 1)], h53)) else (some (.exit i53, [(aI x53 0), .undef, (aI x53 1)], h53)))
 (some (.ret, [(aI x53 0), .undef, (aI x53 1)], h53))))
 (fun i42 => if i42 = 0 then (some (.normal, [(aI x42 0), .undef, (aI x42 1)], h42)) else (some (.exit i42, [(aI x42 0), .undef, (aI x42 1)], h42)))
 (some (.ret, [(aI x42 0), .undef, (aI x42 1)], h42))) fun e64 x64 h64 => jJ e64
 (eM (
 aB (pu h64 (aA 0 (aI x64 0))) fun v65 h65 =>
 aB (pu h65 (aC G false 1 v65 h65)) fun v66 h66 =>
 eM (
 aB (pu h66 (aQ Tryd.prog .eql 3 true v66 (.int .i64 10))) fun v67 h67 =>
 aK v67
 (some (.normal, [(aI x64 0), (aI x64 2), v66, v67], h67))
 (aB (pu h67 (aQ Tryd.prog .eql 3 true v66 (.int .i64 11))) fun v68 h68 =>
 some (.normal, [(aI x64 0), (aI x64 2), v66, v68], h68))) fun e69 x69 h69 => jJ e69
 (aK (aI x69 3)
 (aB (pu h69 (aA 1 (aI x69 0))) fun v70 h70 =>
 aB (pu h70 (aC G false 1 v70 h70)) fun v71 h71 =>
 aB (pu h71 (aQ Tryd.prog .eql 3 true v71 (.int .i64 31))) fun v72 h72 =>
 aB (gd v72 false h72 (pu h72 (aA 2 (aI x69 0)))) fun v73 h73 =>
 aB (gd v72 false h73 (pu h73 (aC G false 1 v73 h73))) fun v74 h74 =>
 aB (gd v72 false h74 (pu h74 (aQ Tryd.prog .eql 3 true v74 (.int .i64 31)))) fun v75 h75 =>
 aB (pu h75 (dJ v72 (.bool true) v75)) fun v76 h76 =>
 aK v76
 (some (.ret, [(aI x69 0), (.bool false), (aI x69 1)], h76))
 (some (.normal, [(aI x69 0), .undef, (aI x69 1)], h76)))
 (eM (
 aB (pu h69 (aQ Tryd.prog .eql 3 true (aI x69 2) (.int .i64 18))) fun v77 h77 =>
 aK v77
 (some (.normal, [(aI x69 0), (aI x69 1), v77], h77))
 (aB (pu h77 (aQ Tryd.prog .eql 3 true (aI x69 2) (.int .i64 19))) fun v78 h78 =>
 some (.normal, [(aI x69 0), (aI x69 1), v78], h78))) fun e79 x79 h79 => jJ e79
 (aK (aI x79 2)
 (aB (pu h79 (aA 2 (aI x79 0))) fun v80 h80 =>
 aB (pu h80 (aC G false 1 v80 h80)) fun v81 h81 =>
 aB (pu h81 (aQ Tryd.prog .eql 3 true v81 (.int .i64 31))) fun v82 h82 =>
 aK v82
 (some (.ret, [(aI x79 0), (.bool false), (aI x79 1)], h82))
 (some (.normal, [(aI x79 0), .undef, (aI x79 1)], h82)))
 (some (.normal, [(aI x79 0), .undef, (aI x79 1)], h79)))
 (fun i79 => if i79 = 1 then (some (.normal, [(aI x79 0), .undef, (aI x79 1)], h79)) else (some (.exit i79, [(aI x79 0), .undef, (aI x79 1)], h79)))
 (some (.ret, [(aI x79 0), .undef, (aI x79 1)], h79))))
 (fun i69 => if i69 = 1 then (some (.normal, [(aI x69 0), .undef, (aI x69 1)], h69)) else (some (.exit i69, [(aI x69 0), .undef, (aI x69 1)], h69)))
 (some (.ret, [(aI x69 0), .undef, (aI x69 1)], h69))) fun e83 x83 h83 => jJ e83
 (aB (pu h83 (aA 4 (aI x83 2))) fun v84 h84 =>
 aB (pu h84 (aC G false 1 v84 h84)) fun v85 h85 =>
 aB (pu h85 (aQ Tryd.prog .eql 3 true v85 (.int .i64 19))) fun v86 h86 =>
 aB (gd v86 false h86 (pu h86 (aA 4 (aI x83 2)))) fun v87 h87 =>
 aB (gd v86 false h87 (pu h87 (aC G false 1 v87 h87))) fun v88 h88 =>
 aB (gd v86 false h88 (pu h88 (aQ Tryd.prog .eql 3 true v88 (.int .i64 26)))) fun v89 h89 =>
 aB (pu h89 (dJ v86 (.bool true) v89)) fun v90 h90 =>
 aK v90
 (aB (pu h90 (aA 5 (aI x83 0))) fun v91 h91 =>
 aB (pu h91 (aC G false 1 v91 h91)) fun v92 h92 =>
 aB (pu h92 (aA 4 (aI x83 2))) fun v93 h93 =>
 aB (pu h93 (aC G false 1 v93 h93)) fun v94 h94 =>
 aB (aE (cQ.f G k) [v92, v94] h94) fun v95 h95 =>
 bQ [v95] h.length h95)
 (aB (pu h90 (aA 5 (aI x83 0))) fun v96 h96 =>
 aB (pu h96 (aC G false 1 v96 h96)) fun v97 h97 =>
 aB (pu h97 (aQ Tryd.prog .geq 3 true v97 (.int .i64 0))) fun v98 h98 =>
 aB (gd v98 true h98 (pu h98 (aA 5 (aI x83 0)))) fun v99 h99 =>
 aB (gd v98 true h99 (pu h99 (aC G false 1 v99 h99))) fun v100 h100 =>
 aB (gd v98 true h100 (pu h100 (aA 4 (aI x83 2)))) fun v101 h101 =>
 aB (gd v98 true h101 (pu h101 (aC G false 1 v101 h101))) fun v102 h102 =>
 aB (gd v98 true h102 (pu h102 (aJ .u64 v102))) fun v103 h103 =>
 aB (gd v98 true h103 (pu h103 (aQ Tryd.prog .shl 3 true (.int .i64 1) v103))) fun v104 h104 =>
 aB (gd v98 true h104 (pu h104 (aQ Tryd.prog .lss 3 false v100 v104))) fun v105 h105 =>
 aB (pu h105 (dJ v98 v105 (.bool false))) fun v106 h106 =>
 bQ [v106] h.length h106))
 (fun i83 => none)
 (bQ [(aI x83 1)] h.length h83))
 (fun i64 => none)
 (bQ [(aI x64 1)] h.length h64)))
noncomputable def aT.f (G : aG) : Nat → dA
 | 0 => fun _ _ => none
 | k + 1 => fun args h => nH args fun x0 => (aT.c G k (aT.f G k) x0 h)
theorem aT.step (G : aG) (k : Nat) (x0 : AV) (h : aF) : aT.f G (k + 1) [x0] h = aT.c G k (aT.f G k) x0 h := rfl
noncomputable def aZ.ann : Ann := gE [] [] [] [(26, [3, 26])]
noncomputable def aZ.env (G : aG) (k : Nat) (self : dA) : List (Nat × Bool × dA) := []
noncomputable def aZ.c (G : aG) (k : Nat) (self : dA) (x0 : AV) (h : aF) : Option (AV × aF) := gA (
 aB (pu h (aQ Tryd.prog .eql 3 true x0 (.int .i64 1))) fun v0 h0 =>
 aK v0
 (bQ [(.int .u32 3531603968)] h.length h0)
 (aB (pu h0 (aQ Tryd.prog .eql 3 true x0 (.int .i64 2))) fun v1 h1 =>
 aK v1
 (bQ [(.int .u32 4068474880)] h.length h1)
 (aB (pu h1 (aQ Tryd.prog .eql 3 true x0 (.int .i64 3))) fun v2 h2 =>
 aK v2
 (bQ [(.int .u32 2332033024)] h.length h2)
 (aB (pu h2 (aQ Tryd.prog .eql 3 true x0 (.int .i64 4))) fun v3 h3 =>
 aK v3
 (bQ [(.int .u32 3405774848)] h.length h3)
 (aB (pu h3 (aQ Tryd.prog .eql 3 true x0 (.int .i64 5))) fun v4 h4 =>
 aK v4
 (bQ [(.int .u32 2315255808)] h.length h4)
 (aB (pu h4 (aQ Tryd.prog .eql 3 true x0 (.int .i64 6))) fun v5 h5 =>
 aK v5
 (bQ [(.int .u32 2852126720)] h.length h5)
 (aB (pu h5 (aQ Tryd.prog .eql 3 true x0 (.int .i64 7))) fun v6 h6 =>
 aK v6
 (bQ [(.int .u32 3388997632)] h.length h6)
 (aB (pu h6 (aQ Tryd.prog .eql 3 true x0 (.int .i64 8))) fun v7 h7 =>
 aK v7
 (bQ [(.int .u32 2600468480)] h.length h7)
 (aB (pu h7 (aQ Tryd.prog .eql 3 true x0 (.int .i64 9))) fun v8 h8 =>
 aK v8
 (bQ [(.int .u32 2613083136)] h.length h8)
 (aB (pu h8 (aQ Tryd.prog .eql 3 true x0 (.int .i64 10))) fun v9 h9 =>
 aK v9
 (bQ [(.int .u32 2432696320)] h.length h9)
 (aB (pu h9 (aQ Tryd.prog .eql 3 true x0 (.int .i64 11))) fun v10 h10 =>
 aK v10
 (bQ [(.int .u32 3506438144)] h.length h10)
 (eM (
 aB (pu h10 (aQ Tryd.prog .eql 3 true x0 (.int .i64 12))) fun v11 h11 =>
 aK v11
 (some (.normal, [x0, v11], h11))
 (aB (pu h11 (aQ Tryd.prog .eql 3 true x0 (.int .i64 13))) fun v12 h12 =>
 some (.normal, [x0, v12], h12))) fun e13 x13 h13 => jJ e13
 (aK (aI x13 1)
 (bQ [(.int .u32 3544186880)] h.length h13)
 (aB (pu h13 (aQ Tryd.prog .eql 3 true (aI x13 0) (.int .i64 14))) fun v14 h14 =>
 aK v14
 (bQ [(.int .u32 2470509568)] h.length h14)
 (aB (pu h14 (aQ Tryd.prog .eql 3 true (aI x13 0) (.int .i64 15))) fun v15 h15 =>
 aK v15
 (bQ [(.int .u32 3942645791)] h.length h15)
 (aB (pu h15 (aQ Tryd.prog .eql 3 true (aI x13 0) (.int .i64 16))) fun v16 h16 =>
 aK v16
 (bQ [(.int .u32 2592079872)] h.length h16)
 (aB (pu h16 (aQ Tryd.prog .eql 3 true (aI x13 0) (.int .i64 17))) fun v17 h17 =>
 aK v17
 (bQ [(.int .u32 2594113504)] h.length h17)
 (aB (pu h17 (aQ Tryd.prog .eql 3 true (aI x13 0) (.int .i64 18))) fun v18 h18 =>
 aK v18
 (bQ [(.int .u32 4181721088)] h.length h18)
 (aB (pu h18 (aQ Tryd.prog .eql 3 true (aI x13 0) (.int .i64 19))) fun v19 h19 =>
 aK v19
 (bQ [(.int .u32 4177526784)] h.length h19)
 (aB (pu h19 (aQ Tryd.prog .eql 3 true (aI x13 0) (.int .i64 20))) fun v20 h20 =>
 aK v20
 (bQ [(.int .u32 335544320)] h.length h20)
 (aB (pu h20 (aQ Tryd.prog .eql 3 true (aI x13 0) (.int .i64 21))) fun v21 h21 =>
 aK v21
 (bQ [(.int .u32 1409286144)] h.length h21)
 (aB (pu h21 (aQ Tryd.prog .eql 3 true (aI x13 0) (.int .i64 22))) fun v22 h22 =>
 aK v22
 (bQ [(.int .u32 3019898880)] h.length h22)
 (aB (pu h22 (aQ Tryd.prog .eql 3 true (aI x13 0) (.int .i64 23))) fun v23 h23 =>
 aK v23
 (bQ [(.int .u32 3036676096)] h.length h23)
 (aB (pu h23 (aQ Tryd.prog .eql 3 true (aI x13 0) (.int .i64 24))) fun v24 h24 =>
 aK v24
 (bQ [(.int .u32 3560964096)] h.length h24)
 (bQ [(.int .u32 0)] h.length h24)))))))))))))
 (fun i13 => if i13 = 0 then (bQ [(.int .u32 0)] h.length h13) else (none))
 (bQ [.undef] h.length h13)))))))))))))
noncomputable def aZ.f (G : aG) : Nat → dA
 | 0 => fun _ _ => none
 | k + 1 => fun args h => nH args fun x0 => (aZ.c G k (aZ.f G k) x0 h)
noncomputable def aH.ann : Ann := gE [] [] [] [(18, [1, 4, 5, 6]), (9, [1, 4, 5, 6, 34, 35])]
noncomputable def aH.env (G : aG) (k : Nat) (self : dA) : List (Nat × Bool × dA) := [(78, true, aT.f G k), (79, true, aM.f G k), (80, true, aZ.f G k)]
noncomputable def aH.c (G : aG) (k : Nat) (self : dA) (x0 : AV) (h : aF) : Option (AV × aF) := gA (
 aB (dP x0 h) fun v0 h0 =>
 aB (pu h0 (aC G true 6 v0 h0)) fun v1 h1 =>
 aB (aE (aT.f G k) [v1] h1) fun v2 h2 =>
 aB (pu h2 (un .not v2)) fun v3 h3 =>
 aK v3
 (bQ [(.int .u32 0), (.bool false)] h.length h3)
 (aB (pu h3 (aA 0 v0)) fun v4 h4 =>
 aB (pu h4 (aC G false 1 v4 h4)) fun v5 h5 =>
 aB (aE (aM.f G k) [v5] h5) fun v6 h6 =>
 aB (fF 149 (.agg [(.bool false), (.bool false), (.bool false), (.bool false), (.int .i64 0)]) h6) fun v7 h7 =>
 aB (fB (aN 5 v7 v6 h7)) fun v8 h8 =>
 aB (pu h8 (aA 0 v0)) fun v9 h9 =>
 aB (pu h9 (aC G false 1 v9 h9)) fun v10 h10 =>
 aB (aE (aZ.f G k) [v10] h10) fun v11 h11 =>
 aB (pu h11 (aA 1 v0)) fun v12 h12 =>
 aB (pu h12 (aC G false 1 v12 h12)) fun v13 h13 =>
 aB (pu h13 (aJ .u32 v13)) fun v14 h14 =>
 aB (pu h14 (aQ Tryd.prog .or 71 false v11 v14)) fun v15 h15 =>
 aB (pu h15 (aA 2 v0)) fun v16 h16 =>
 aB (pu h16 (aC G false 1 v16 h16)) fun v17 h17 =>
 aB (pu h17 (aJ .u32 v17)) fun v18 h18 =>
 aB (pu h18 (aQ Tryd.prog .shl 71 true v18 (.int .u64 5))) fun v19 h19 =>
 aB (pu h19 (aQ Tryd.prog .or 71 false v15 v19)) fun v20 h20 =>
 aB (pu h20 (aA 3 v0)) fun v21 h21 =>
 aB (pu h21 (aC G false 1 v21 h21)) fun v22 h22 =>
 aB (pu h22 (aJ .u32 v22)) fun v23 h23 =>
 aB (pu h23 (aQ Tryd.prog .shl 71 true v23 (.int .u64 16))) fun v24 h24 =>
 aB (pu h24 (aQ Tryd.prog .or 71 false v20 v24)) fun v25 h25 =>
 aB (pu h25 (aA 5 v0)) fun v26 h26 =>
 aB (pu h26 (aC G false 1 v26 h26)) fun v27 h27 =>
 aB (pu h27 (aJ .u32 v27)) fun v28 h28 =>
 eM (
 aB (pu h28 (aA 0 v0)) fun v29 h29 =>
 aB (pu h29 (aC G false 1 v29 h29)) fun v30 h30 =>
 eM (
 aB (pu h30 (aQ Tryd.prog .eql 3 true v30 (.int .i64 1))) fun v31 h31 =>
 aK v31
 (some (.normal, [v0, v7, v25, v28, v30, v31], h31))
 (aB (pu h31 (aQ Tryd.prog .eql 3 true v30 (.int .i64 2))) fun v32 h32 =>
 some (.normal, [v0, v7, v25, v28, v30, v32], h32))) fun e33 x33 h33 => jJ e33
 (aK (aI x33 5)
 (aB (pu h33 (aA 4 (aI x33 0))) fun v34 h34 =>
 aB (pu h34 (aC G false 1 v34 h34)) fun v35 h35 =>
 aB (pu h35 (aJ .u32 v35)) fun v36 h36 =>
 aB (pu h36 (aQ Tryd.prog .shl 71 true v36 (.int .u64 21))) fun v37 h37 =>
 aB (pu h37 (aQ Tryd.prog .or 71 false (aI x33 2) v37)) fun v38 h38 =>
 some (.normal, [(aI x33 0), (aI x33 1), v38, (aI x33 3)], h38))
 (aB (pu h33 (aQ Tryd.prog .eql 3 true (aI x33 4) (.int .i64 8))) fun v39 h39 =>
 aK v39
 (aB (pu h39 (aA 4 (aI x33 0))) fun v40 h40 =>
 aB (pu h40 (aC G false 1 v40 h40)) fun v41 h41 =>
 aB (pu h41 (aJ .u32 v41)) fun v42 h42 =>
 aB (pu h42 (aQ Tryd.prog .shl 71 true v42 (.int .u64 10))) fun v43 h43 =>
 aB (pu h43 (aQ Tryd.prog .or 71 false (aI x33 2) v43)) fun v44 h44 =>
 some (.normal, [(aI x33 0), (aI x33 1), v44, (aI x33 3)], h44))
 (aB (pu h39 (aQ Tryd.prog .eql 3 true (aI x33 4) (.int .i64 16))) fun v45 h45 =>
 aK v45
 (aB (pu h45 (aA 4 (aI x33 0))) fun v46 h46 =>
 aB (pu h46 (aC G false 1 v46 h46)) fun v47 h47 =>
 aB (pu h47 (aJ .u32 v47)) fun v48 h48 =>
 aB (pu h48 (aQ Tryd.prog .shl 71 true v48 (.int .u64 12))) fun v49 h49 =>
 aB (pu h49 (aQ Tryd.prog .or 71 false (aI x33 2) v49)) fun v50 h50 =>
 some (.normal, [(aI x33 0), (aI x33 1), v50, (aI x33 3)], h50))
 (aB (pu h45 (aQ Tryd.prog .eql 3 true (aI x33 4) (.int .i64 17))) fun v51 h51 =>
 aK v51
 (aB (pu h51 (aA 4 (aI x33 0))) fun v52 h52 =>
 aB (pu h52 (aC G false 1 v52 h52)) fun v53 h53 =>
 aB (pu h53 (aQ Tryd.prog .xor 3 true v53 (.int .i64 1))) fun v54 h54 =>
 aB (pu h54 (aJ .u32 v54)) fun v55 h55 =>
 aB (pu h55 (aQ Tryd.prog .shl 71 true v55 (.int .u64 12))) fun v56 h56 =>
 aB (pu h56 (aQ Tryd.prog .or 71 false (aI x33 2) v56)) fun v57 h57 =>
 some (.normal, [(aI x33 0), (aI x33 1), v57, (aI x33 3)], h57))
 (aB (pu h51 (aQ Tryd.prog .eql 3 true (aI x33 4) (.int .i64 21))) fun v58 h58 =>
 aK v58
 (aB (pu h58 (aA 4 (aI x33 0))) fun v59 h59 =>
 aB (pu h59 (aC G false 1 v59 h59)) fun v60 h60 =>
 aB (pu h60 (aJ .u32 v60)) fun v61 h61 =>
 aB (pu h61 (aQ Tryd.prog .or 71 false (aI x33 2) v61)) fun v62 h62 =>
 some (.normal, [(aI x33 0), (aI x33 1), v62, (aI x33 3)], h62))
 (some (.normal, [(aI x33 0), (aI x33 1), (aI x33 2), (aI x33 3)], h58)))))))
 (fun i33 => if i33 = 0 then (some (.normal, [(aI x33 0), (aI x33 1), (aI x33 2), (aI x33 3)], h33)) else (some (.exit i33, [(aI x33 0), (aI x33 1), (aI x33 2), (aI x33 3)], h33)))
 (some (.ret, [(aI x33 0), (aI x33 1), (aI x33 2), (aI x33 3)], h33))) fun e63 x63 h63 => jJ e63
 (aB (pu h63 (aA 0 (aI x63 0))) fun v64 h64 =>
 aB (pu h64 (aC G false 1 v64 h64)) fun v65 h65 =>
 aB (pu h65 (aQ Tryd.prog .eql 3 true v65 (.int .i64 12))) fun v66 h66 =>
 aK v66
 (aB (pu h66 (aQ Tryd.prog .sub 71 true (.int .u32 64) (aI x63 3))) fun v67 h67 =>
 aB (pu h67 (aQ Tryd.prog .rem 71 true v67 (.int .u32 64))) fun v68 h68 =>
 aB (pu h68 (aQ Tryd.prog .shl 71 true v68 (.int .u64 16))) fun v69 h69 =>
 aB (pu h69 (aQ Tryd.prog .or 71 false (aI x63 2) v69)) fun v70 h70 =>
 aB (pu h70 (aQ Tryd.prog .sub 71 true (.int .u32 63) (aI x63 3))) fun v71 h71 =>
 aB (pu h71 (aQ Tryd.prog .shl 71 true v71 (.int .u64 10))) fun v72 h72 =>
 aB (pu h72 (aQ Tryd.prog .or 71 false v70 v72)) fun v73 h73 =>
 bQ [v73, (.bool true)] h.length h73)
 (aB (pu h66 (aQ Tryd.prog .eql 3 true v65 (.int .i64 13))) fun v74 h74 =>
 aK v74
 (aB (pu h74 (aQ Tryd.prog .shl 71 true (aI x63 3) (.int .u64 16))) fun v75 h75 =>
 aB (pu h75 (aQ Tryd.prog .or 71 false (aI x63 2) v75)) fun v76 h76 =>
 aB (pu h76 (aQ Tryd.prog .or 71 true v76 (.int .u32 64512))) fun v77 h77 =>
 bQ [v77, (.bool true)] h.length h77)
 (aB (pu h74 (aQ Tryd.prog .eql 3 true v65 (.int .i64 14))) fun v78 h78 =>
 aK v78
 (aB (pu h78 (aQ Tryd.prog .shl 71 true (aI x63 3) (.int .u64 16))) fun v79 h79 =>
 aB (pu h79 (aQ Tryd.prog .or 71 false (aI x63 2) v79)) fun v80 h80 =>
 bQ [v80, (.bool true)] h.length h80)
 (aB (pu h78 (aA 4 (aI x63 1))) fun v81 h81 =>
 aB (pu h81 (aC G false 1 v81 h81)) fun v82 h82 =>
 aB (pu h82 (aQ Tryd.prog .eql 3 true v82 (.int .i64 12))) fun v83 h83 =>
 aK v83
 (aB (pu h83 (aQ Tryd.prog .shl 71 true (aI x63 3) (.int .u64 10))) fun v84 h84 =>
 aB (pu h84 (aQ Tryd.prog .or 71 false (aI x63 2) v84)) fun v85 h85 =>
 bQ [v85, (.bool true)] h.length h85)
 (aB (pu h83 (aQ Tryd.prog .eql 3 true v82 (.int .i64 16))) fun v86 h86 =>
 aK v86
 (aB (pu h86 (aQ Tryd.prog .shl 71 true (aI x63 3) (.int .u64 5))) fun v87 h87 =>
 aB (pu h87 (aQ Tryd.prog .or 71 false (aI x63 2) v87)) fun v88 h88 =>
 bQ [v88, (.bool true)] h.length h88)
 (aB (pu h86 (aQ Tryd.prog .eql 3 true v82 (.int .i64 19))) fun v89 h89 =>
 aK v89
 (aB (pu h89 (aQ Tryd.prog .and 71 true (aI x63 3) (.int .u32 524287))) fun v90 h90 =>
 aB (pu h90 (aQ Tryd.prog .shl 71 true v90 (.int .u64 5))) fun v91 h91 =>
 aB (pu h91 (aQ Tryd.prog .or 71 false (aI x63 2) v91)) fun v92 h92 =>
 bQ [v92, (.bool true)] h.length h92)
 (aB (pu h89 (aQ Tryd.prog .eql 3 true v82 (.int .i64 26))) fun v93 h93 =>
 aK v93
 (aB (pu h93 (aQ Tryd.prog .and 71 true (aI x63 3) (.int .u32 67108863))) fun v94 h94 =>
 aB (pu h94 (aQ Tryd.prog .or 71 false (aI x63 2) v94)) fun v95 h95 =>
 bQ [v95, (.bool true)] h.length h95)
 (bQ [(aI x63 2), (.bool true)] h.length h93))))))))
 (fun i63 => none)
 (bQ [.undef, .undef] h.length h63)))
noncomputable def aH.f (G : aG) : Nat → dA
 | 0 => fun _ _ => none
 | k + 1 => fun args h => nH args fun x0 => (aH.c G k (aH.f G k) x0 h)
theorem aH.step (G : aG) (k : Nat) (x0 : AV) (h : aF) : aH.f G (k + 1) [x0] h = aH.c G k (aH.f G k) x0 h := rfl
noncomputable def bO.ann : Ann := gE [] [] [] []
noncomputable def bO.env (G : aG) (k : Nat) (self : dA) : List (Nat × Bool × dA) := []
noncomputable def bO.c (G : aG) (k : Nat) (self : dA) (x0 x1 : AV) (h : aF) : Option (AV × aF) := gA (
 aB (pu h (aJ .u64 x1)) fun v0 h0 =>
 aB (pu h0 (aQ Tryd.prog .shl 71 true (.int .u32 1) v0)) fun v1 h1 =>
 aB (pu h1 (aQ Tryd.prog .sub 71 true v1 (.int .u32 1))) fun v2 h2 =>
 aB (pu h2 (aQ Tryd.prog .and 71 false x0 v2)) fun v3 h3 =>
 aB (pu h3 (aJ .i64 v3)) fun v4 h4 =>
 aB (pu h4 (aQ Tryd.prog .sub 3 true x1 (.int .i64 1))) fun v5 h5 =>
 aB (pu h5 (aJ .u64 v5)) fun v6 h6 =>
 aB (pu h6 (aQ Tryd.prog .shl 3 true (.int .i64 1) v6)) fun v7 h7 =>
 aB (pu h7 (aQ Tryd.prog .geq 3 false v4 v7)) fun v8 h8 =>
 aK v8
 (aB (pu h8 (aJ .u64 x1)) fun v9 h9 =>
 aB (pu h9 (aQ Tryd.prog .shl 3 true (.int .i64 1) v9)) fun v10 h10 =>
 aB (pu h10 (aQ Tryd.prog .sub 3 false v4 v10)) fun v11 h11 =>
 bQ [v11] h.length h11)
 (bQ [v4] h.length h8))
noncomputable def bO.f (G : aG) : Nat → dA
 | 0 => fun _ _ => none
 | k + 1 => fun args h => mJ args fun x0 x1 => (bO.c G k (bO.f G k) x0 x1 h)
theorem bO.step (G : aG) (k : Nat) (x0 x1 : AV) (h : aF) : bO.f G (k + 1) [x0, x1] h = bO.c G k (bO.f G k) x0 x1 h := rfl
noncomputable def cT.ann : Ann := gE [] [] [] [(34, [1, 4, 7]), (21, [0, 1, 4, 6, 7]), (12, [0, 1, 4, 6, 7, 34, 35]), (9, [0, 1, 4, 6, 7]), (7, [0, 1, 4, 6, 7]), (5, [0, 1, 4, 6, 7])]
noncomputable def cT.env (G : aG) (k : Nat) (self : dA) : List (Nat × Bool × dA) := [(55, true, aH.f G k), (79, true, aM.f G k), (98, true, bO.f G k)]
noncomputable def cT.c (G : aG) (k : Nat) (self : dA) (x0 x1 : AV) (h : aF) : Option (AV × aF) := gA (
 aB (fF 57 (.agg [(.int .i64 0), (.int .i64 0), (.int .i64 0), (.int .i64 0), (.int .i64 0), (.int .i64 0)]) h) fun v0 h0 =>
 aB (aE (aM.f G k) [x0] h0) fun v1 h1 =>
 aB (fF 149 (.agg [(.bool false), (.bool false), (.bool false), (.bool false), (.int .i64 0)]) h1) fun v2 h2 =>
 aB (fB (aN 5 v2 v1 h2)) fun v3 h3 =>
 aB (pu h3 (bA [(0, 1), (1, 1), (2, 1), (3, 1), (4, 1), (5, 1)] [(.int .i64 0), (.int .i64 0), (.int .i64 0), (.int .i64 0), (.int .i64 0), (.int .i64 0)] [(0, x0)])) fun v4 h4 =>
 aB (fF 57 (.agg [(.int .i64 0), (.int .i64 0), (.int .i64 0), (.int .i64 0), (.int .i64 0), (.int .i64 0)]) h4) fun v5 h5 =>
 aB (fB (aN 6 v5 v4 h5)) fun v6 h6 =>
 eM (
 aB (pu h6 (aA 0 v2)) fun v7 h7 =>
 aB (pu h7 (aC G false 1 v7 h7)) fun v8 h8 =>
 aK v8
 (aB (pu h8 (aQ Tryd.prog .and 71 true x1 (.int .u32 31))) fun v9 h9 =>
 aB (pu h9 (aJ .i64 v9)) fun v10 h10 =>
 aB (pu h10 (aA 1 v5)) fun v11 h11 =>
 aB (fB (aN 1 v11 v10 h11)) fun v12 h12 =>
 some (.normal, [x0, x1, v0, v2, v5], h12))
 (some (.normal, [x0, x1, v0, v2, v5], h8))) fun e13 x13 h13 => jJ e13
 (eM (
 aB (pu h13 (aA 1 (aI x13 3))) fun v14 h14 =>
 aB (pu h14 (aC G false 1 v14 h14)) fun v15 h15 =>
 aK v15
 (aB (pu h15 (aQ Tryd.prog .shr 71 true (aI x13 1) (.int .u64 5))) fun v16 h16 =>
 aB (pu h16 (aQ Tryd.prog .and 71 true v16 (.int .u32 31))) fun v17 h17 =>
 aB (pu h17 (aJ .i64 v17)) fun v18 h18 =>
 aB (pu h18 (aA 2 (aI x13 4))) fun v19 h19 =>
 aB (fB (aN 1 v19 v18 h19)) fun v20 h20 =>
 some (.normal, [(aI x13 0), (aI x13 1), (aI x13 2), (aI x13 3), (aI x13 4)], h20))
 (some (.normal, [(aI x13 0), (aI x13 1), (aI x13 2), (aI x13 3), (aI x13 4)], h15))) fun e21 x21 h21 => jJ e21
 (eM (
 aB (pu h21 (aA 2 (aI x21 3))) fun v22 h22 =>
 aB (pu h22 (aC G false 1 v22 h22)) fun v23 h23 =>
 aK v23
 (aB (pu h23 (aQ Tryd.prog .shr 71 true (aI x21 1) (.int .u64 16))) fun v24 h24 =>
 aB (pu h24 (aQ Tryd.prog .and 71 true v24 (.int .u32 31))) fun v25 h25 =>
 aB (pu h25 (aJ .i64 v25)) fun v26 h26 =>
 aB (pu h26 (aA 3 (aI x21 4))) fun v27 h27 =>
 aB (fB (aN 1 v27 v26 h27)) fun v28 h28 =>
 some (.normal, [(aI x21 0), (aI x21 1), (aI x21 2), (aI x21 3), (aI x21 4)], h28))
 (some (.normal, [(aI x21 0), (aI x21 1), (aI x21 2), (aI x21 3), (aI x21 4)], h23))) fun e29 x29 h29 => jJ e29
 (eM (
 eM (
 aB (pu h29 (aQ Tryd.prog .eql 3 true (aI x29 0) (.int .i64 1))) fun v30 h30 =>
 aK v30
 (some (.normal, [(aI x29 0), (aI x29 1), (aI x29 2), (aI x29 3), (aI x29 4), (aI x29 0), v30], h30))
 (aB (pu h30 (aQ Tryd.prog .eql 3 true (aI x29 0) (.int .i64 2))) fun v31 h31 =>
 some (.normal, [(aI x29 0), (aI x29 1), (aI x29 2), (aI x29 3), (aI x29 4), (aI x29 0), v31], h31))) fun e32 x32 h32 => jJ e32
 (aK (aI x32 6)
 (aB (pu h32 (aQ Tryd.prog .shr 71 true (aI x32 1) (.int .u64 21))) fun v33 h33 =>
 aB (pu h33 (aQ Tryd.prog .and 71 true v33 (.int .u32 3))) fun v34 h34 =>
 aB (pu h34 (aJ .i64 v34)) fun v35 h35 =>
 aB (pu h35 (aA 4 (aI x32 4))) fun v36 h36 =>
 aB (fB (aN 1 v36 v35 h36)) fun v37 h37 =>
 some (.normal, [(aI x32 0), (aI x32 1), (aI x32 2), (aI x32 3), (aI x32 4)], h37))
 (aB (pu h32 (aQ Tryd.prog .eql 3 true (aI x32 5) (.int .i64 8))) fun v38 h38 =>
 aK v38
 (aB (pu h38 (aQ Tryd.prog .shr 71 true (aI x32 1) (.int .u64 10))) fun v39 h39 =>
 aB (pu h39 (aQ Tryd.prog .and 71 true v39 (.int .u32 31))) fun v40 h40 =>
 aB (pu h40 (aJ .i64 v40)) fun v41 h41 =>
 aB (pu h41 (aA 4 (aI x32 4))) fun v42 h42 =>
 aB (fB (aN 1 v42 v41 h42)) fun v43 h43 =>
 some (.normal, [(aI x32 0), (aI x32 1), (aI x32 2), (aI x32 3), (aI x32 4)], h43))
 (aB (pu h38 (aQ Tryd.prog .eql 3 true (aI x32 5) (.int .i64 16))) fun v44 h44 =>
 aK v44
 (aB (pu h44 (aQ Tryd.prog .shr 71 true (aI x32 1) (.int .u64 12))) fun v45 h45 =>
 aB (pu h45 (aQ Tryd.prog .and 71 true v45 (.int .u32 15))) fun v46 h46 =>
 aB (pu h46 (aJ .i64 v46)) fun v47 h47 =>
 aB (pu h47 (aA 4 (aI x32 4))) fun v48 h48 =>
 aB (fB (aN 1 v48 v47 h48)) fun v49 h49 =>
 some (.normal, [(aI x32 0), (aI x32 1), (aI x32 2), (aI x32 3), (aI x32 4)], h49))
 (aB (pu h44 (aQ Tryd.prog .eql 3 true (aI x32 5) (.int .i64 17))) fun v50 h50 =>
 aK v50
 (aB (pu h50 (aQ Tryd.prog .shr 71 true (aI x32 1) (.int .u64 12))) fun v51 h51 =>
 aB (pu h51 (aQ Tryd.prog .and 71 true v51 (.int .u32 15))) fun v52 h52 =>
 aB (pu h52 (aJ .i64 v52)) fun v53 h53 =>
 aB (pu h53 (aQ Tryd.prog .xor 3 true v53 (.int .i64 1))) fun v54 h54 =>
 aB (pu h54 (aA 4 (aI x32 4))) fun v55 h55 =>
 aB (fB (aN 1 v55 v54 h55)) fun v56 h56 =>
 some (.normal, [(aI x32 0), (aI x32 1), (aI x32 2), (aI x32 3), (aI x32 4)], h56))
 (aB (pu h50 (aQ Tryd.prog .eql 3 true (aI x32 5) (.int .i64 21))) fun v57 h57 =>
 aK v57
 (aB (pu h57 (aQ Tryd.prog .and 71 true (aI x32 1) (.int .u32 15))) fun v58 h58 =>
 aB (pu h58 (aJ .i64 v58)) fun v59 h59 =>
 aB (pu h59 (aA 4 (aI x32 4))) fun v60 h60 =>
 aB (fB (aN 1 v60 v59 h60)) fun v61 h61 =>
 some (.normal, [(aI x32 0), (aI x32 1), (aI x32 2), (aI x32 3), (aI x32 4)], h61))
 (some (.normal, [(aI x32 0), (aI x32 1), (aI x32 2), (aI x32 3), (aI x32 4)], h57)))))))
 (fun i32 => if i32 = 0 then (some (.normal, [(aI x32 0), (aI x32 1), (aI x32 2), (aI x32 3), (aI x32 4)], h32)) else (some (.exit i32, [(aI x32 0), (aI x32 1), (aI x32 2), (aI x32 3), (aI x32 4)], h32)))
 (some (.ret, [(aI x32 0), (aI x32 1), (aI x32 2), (aI x32 3), (aI x32 4)], h32))) fun e62 x62 h62 => jJ e62
 (eM (
 aB (pu h62 (aA 4 (aI x62 3))) fun v63 h63 =>
 aB (pu h63 (aC G false 1 v63 h63)) fun v64 h64 =>
 aB (pu h64 (aQ Tryd.prog .eql 3 true v64 (.int .i64 6))) fun v65 h65 =>
 aK v65
 (aB (pu h65 (aQ Tryd.prog .shr 71 true (aI x62 1) (.int .u64 16))) fun v66 h66 =>
 aB (pu h66 (aQ Tryd.prog .and 71 true v66 (.int .u32 63))) fun v67 h67 =>
 aB (pu h67 (aJ .i64 v67)) fun v68 h68 =>
 aB (pu h68 (aA 5 (aI x62 4))) fun v69 h69 =>
 aB (fB (aN 1 v69 v68 h69)) fun v70 h70 =>
 aB (pu h70 (aQ Tryd.prog .eql 3 true (aI x62 0) (.int .i64 12))) fun v71 h71 =>
 aK v71
 (aB (pu h71 (aA 5 (aI x62 4))) fun v72 h72 =>
 aB (pu h72 (aC G false 1 v72 h72)) fun v73 h73 =>
 aB (pu h73 (aQ Tryd.prog .sub 3 true (.int .i64 64) v73)) fun v74 h74 =>
 aB (pu h74 (aQ Tryd.prog .rem 3 true v74 (.int .i64 64))) fun v75 h75 =>
 aB (pu h75 (aA 5 (aI x62 4))) fun v76 h76 =>
 aB (fB (aN 1 v76 v75 h76)) fun v77 h77 =>
 some (.normal, [(aI x62 1), (aI x62 2), (aI x62 4)], h77))
 (some (.normal, [(aI x62 1), (aI x62 2), (aI x62 4)], h71)))
 (aB (pu h65 (aQ Tryd.prog .eql 3 true v64 (.int .i64 12))) fun v78 h78 =>
 aK v78
 (aB (pu h78 (aQ Tryd.prog .shr 71 true (aI x62 1) (.int .u64 10))) fun v79 h79 =>
 aB (pu h79 (aQ Tryd.prog .and 71 true v79 (.int .u32 4095))) fun v80 h80 =>
 aB (pu h80 (aJ .i64 v80)) fun v81 h81 =>
 aB (pu h81 (aA 5 (aI x62 4))) fun v82 h82 =>
 aB (fB (aN 1 v82 v81 h82)) fun v83 h83 =>
 some (.normal, [(aI x62 1), (aI x62 2), (aI x62 4)], h83))
 (aB (pu h78 (aQ Tryd.prog .eql 3 true v64 (.int .i64 16))) fun v84 h84 =>
 aK v84
 (aB (pu h84 (aQ Tryd.prog .shr 71 true (aI x62 1) (.int .u64 5))) fun v85 h85 =>
 aB (pu h85 (aQ Tryd.prog .and 71 true v85 (.int .u32 65535))) fun v86 h86 =>
 aB (pu h86 (aJ .i64 v86)) fun v87 h87 =>
 aB (pu h87 (aA 5 (aI x62 4))) fun v88 h88 =>
 aB (fB (aN 1 v88 v87 h88)) fun v89 h89 =>
 some (.normal, [(aI x62 1), (aI x62 2), (aI x62 4)], h89))
 (aB (pu h84 (aQ Tryd.prog .eql 3 true v64 (.int .i64 19))) fun v90 h90 =>
 aK v90
 (aB (pu h90 (aQ Tryd.prog .shr 71 true (aI x62 1) (.int .u64 5))) fun v91 h91 =>
 aB (aE (bO.f G k) [v91, (.int .i64 19)] h91) fun v92 h92 =>
 aB (pu h92 (aA 5 (aI x62 4))) fun v93 h93 =>
 aB (fB (aN 1 v93 v92 h93)) fun v94 h94 =>
 some (.normal, [(aI x62 1), (aI x62 2), (aI x62 4)], h94))
 (aB (pu h90 (aQ Tryd.prog .eql 3 true v64 (.int .i64 26))) fun v95 h95 =>
 aK v95
 (aB (aE (bO.f G k) [(aI x62 1), (.int .i64 26)] h95) fun v96 h96 =>
 aB (pu h96 (aA 5 (aI x62 4))) fun v97 h97 =>
 aB (fB (aN 1 v97 v96 h97)) fun v98 h98 =>
 some (.normal, [(aI x62 1), (aI x62 2), (aI x62 4)], h98))
 (some (.normal, [(aI x62 1), (aI x62 2), (aI x62 4)], h95))))))) fun e99 x99 h99 => jJ e99
 (aB (pu h99 (aC G true 6 (aI x99 2) h99)) fun v100 h100 =>
 aB (aE (aH.f G k) [v100] h100) fun v101 h101 =>
 aB (pu h101 (cU v101 0)) fun v102 h102 =>
 aB (pu h102 (cU v101 1)) fun v103 h103 =>
 aB (pu h103 (un .not v103)) fun v104 h104 =>
 aB (gd v104 false h104 (some (v102, h104))) fun v105 h105 =>
 aB (gd v104 false h105 (some ((aI x99 0), h105))) fun v106 h106 =>
 aB (gd v104 false h106 (pu h106 (aQ Tryd.prog .neq 71 false v105 v106))) fun v107 h107 =>
 aB (pu h107 (dJ v104 (.bool true) v107)) fun v108 h108 =>
 aK v108
 (aB (pu h108 (bA [(0, 1), (1, 1), (2, 1), (3, 1), (4, 1), (5, 1)] [(.int .i64 0), (.int .i64 0), (.int .i64 0), (.int .i64 0), (.int .i64 0), (.int .i64 0)] [])) fun v109 h109 =>
 aB (fB (aN 6 (aI x99 1) v109 h109)) fun v110 h110 =>
 fL [aC G true 6 (aI x99 1) h110, some (.bool false)] h.length h110)
 (aB (pu h108 (aC G true 6 (aI x99 2) h108)) fun v111 h111 =>
 aB (fB (aN 6 (aI x99 1) v111 h111)) fun v112 h112 =>
 fL [aC G true 6 (aI x99 1) h112, some (.bool true)] h.length h112))
 (fun i99 => none)
 (fL [aC G true 6 (aI x99 1) h99, some .undef] h.length h99))
 (fun i62 => none)
 (fL [aC G true 6 (aI x62 2) h62, some .undef] h.length h62))
 (fun i29 => none)
 (fL [aC G true 6 (aI x29 2) h29, some .undef] h.length h29))
 (fun i21 => none)
 (fL [aC G true 6 (aI x21 2) h21, some .undef] h.length h21))
 (fun i13 => none)
 (fL [aC G true 6 (aI x13 2) h13, some .undef] h.length h13))
noncomputable def cT.f (G : aG) : Nat → dA
 | 0 => fun _ _ => none
 | k + 1 => fun args h => mJ args fun x0 x1 => (cT.c G k (cT.f G k) x0 x1 h)
theorem cT.step (G : aG) (k : Nat) (x0 x1 : AV) (h : aF) : cT.f G (k + 1) [x0, x1] h = cT.c G k (cT.f G k) x0 x1 h := rfl
noncomputable def bY.ann : Ann := gE [] [] [(2, [0, 2, 3, 4])] [(3, [0, 2, 3, 4])]
noncomputable def bY.env (G : aG) (k : Nat) (self : dA) : List (Nat × Bool × dA) := [(77, true, cT.f G k)]
noncomputable def bY.l2 (G : aG) (k n0 : Nat) (self : dA) (lp : iV) : iV := fun xs h0 => qS n0 xs h0 fun h =>
 aB (pu h (aQ Tryd.prog .leq 3 true (aI xs 3) (.int .i64 24))) fun v2 h2 =>
 aK v2
 (eM (
 aB (pu h2 (aQ Tryd.prog .eql 3 true (aI xs 3) (.int .i64 12))) fun v3 h3 =>
 aK v3
 (some (.normal, [(aI xs 0), (aI xs 1), (aI xs 2), (aI xs 3)], h3))
 (aB (aE (cT.f G k) [(aI xs 3), (aI xs 0)] h3) fun v4 h4 =>
 aB (pu h4 (cU v4 0)) fun v5 h5 =>
 aB (pu h5 (cU v4 1)) fun v6 h6 =>
 aB (fF 57 (.agg [(.int .i64 0), (.int .i64 0), (.int .i64 0), (.int .i64 0), (.int .i64 0), (.int .i64 0)]) h6) fun v7 h7 =>
 aB (fB (aN 6 v7 v5 h7)) fun v8 h8 =>
 aK v6
 (aB (pu h8 (aC G true 6 v7 h8)) fun v9 h9 =>
 aB (fB (aN 6 (aI xs 1) v9 h9)) fun v10 h10 =>
 some (.ret, [(aI xs 0), (aI xs 1), (.bool true), (aI xs 3)], h10))
 (some (.normal, [(aI xs 0), (aI xs 1), (aI xs 2), (aI xs 3)], h8)))) fun e11 x11 h11 => jJ e11
 (aB (pu h11 (aQ Tryd.prog .add 3 true (aI x11 3) (.int .i64 1))) fun v12 h12 =>
 lp [(aI x11 0), (aI x11 1), (aI x11 2), v12] h12)
 (fun i11 => some (.exit i11, [(aI x11 0), (aI x11 1), (aI x11 2), (aI x11 3)], h11))
 (some (.ret, [(aI x11 0), (aI x11 1), (aI x11 2), (aI x11 3)], h11)))
 (some (.exit 0, [(aI xs 0), (aI xs 1), (aI xs 2), (aI xs 3)], h2))
noncomputable def bY.c (G : aG) (k : Nat) (self : dA) (x0 : AV) (h : aF) : Option (AV × aF) := gA (
 aB (fF 57 (.agg [(.int .i64 0), (.int .i64 0), (.int .i64 0), (.int .i64 0), (.int .i64 0), (.int .i64 0)]) h) fun v0 h0 =>
 eM (gP (bY.l2 G k h0.length self) k [x0, v0, (.bool false), (.int .i64 1)] h0) fun e1 x1 h1 => jJ e1
 (aB (aE (cT.f G k) [(.int .i64 12), (aI x1 0)] h1) fun v13 h13 =>
 aB (pu h13 (cU v13 0)) fun v14 h14 =>
 aB (pu h14 (cU v13 1)) fun v15 h15 =>
 aB (fB (aN 6 (aI x1 1) v14 h15)) fun v16 h16 =>
 fL [aC G true 6 (aI x1 1) h16, some v15] h.length h16)
 (fun i1 => if i1 = 0 then (aB (aE (cT.f G k) [(.int .i64 12), (aI x1 0)] h1) fun v17 h17 =>
 aB (pu h17 (cU v17 0)) fun v18 h18 =>
 aB (pu h18 (cU v17 1)) fun v19 h19 =>
 aB (fB (aN 6 (aI x1 1) v18 h19)) fun v20 h20 =>
 fL [aC G true 6 (aI x1 1) h20, some v19] h.length h20) else (none))
 (fL [aC G true 6 (aI x1 1) h1, some (aI x1 2)] h.length h1))
noncomputable def bY.f (G : aG) : Nat → dA
 | 0 => fun _ _ => none
 | k + 1 => fun args h => nH args fun x0 => (bY.c G k (bY.f G k) x0 h)
theorem bY.step (G : aG) (k : Nat) (x0 : AV) (h : aF) : bY.f G (k + 1) [x0] h = bY.c G k (bY.f G k) x0 h := rfl
noncomputable def cB.ann : Ann := gE [] [] [] []
noncomputable def cB.env (G : aG) (k : Nat) (self : dA) : List (Nat × Bool × dA) := []
noncomputable def cB.c (G : aG) (k : Nat) (self : dA) (x0 x1 : AV) (h : aF) : Option (AV × aF) := gA (
 aB (pu h (aQ Tryd.prog .and 43 true x0 (.int .u64 4294967295))) fun v0 h0 =>
 aB (pu h0 (aQ Tryd.prog .shr 43 true x0 (.int .u64 32))) fun v1 h1 =>
 aB (pu h1 (aQ Tryd.prog .and 43 true x1 (.int .u64 4294967295))) fun v2 h2 =>
 aB (pu h2 (aQ Tryd.prog .shr 43 true x1 (.int .u64 32))) fun v3 h3 =>
 aB (pu h3 (aQ Tryd.prog .mul 43 false v0 v2)) fun v4 h4 =>
 aB (pu h4 (aQ Tryd.prog .mul 43 false v1 v2)) fun v5 h5 =>
 aB (pu h5 (aQ Tryd.prog .shr 43 true v4 (.int .u64 32))) fun v6 h6 =>
 aB (pu h6 (aQ Tryd.prog .add 43 false v5 v6)) fun v7 h7 =>
 aB (pu h7 (aQ Tryd.prog .and 43 true v7 (.int .u64 4294967295))) fun v8 h8 =>
 aB (pu h8 (aQ Tryd.prog .shr 43 true v7 (.int .u64 32))) fun v9 h9 =>
 aB (pu h9 (aQ Tryd.prog .mul 43 false v0 v3)) fun v10 h10 =>
 aB (pu h10 (aQ Tryd.prog .add 43 false v8 v10)) fun v11 h11 =>
 aB (pu h11 (aQ Tryd.prog .mul 43 false v1 v3)) fun v12 h12 =>
 aB (pu h12 (aQ Tryd.prog .add 43 false v12 v9)) fun v13 h13 =>
 aB (pu h13 (aQ Tryd.prog .shr 43 true v11 (.int .u64 32))) fun v14 h14 =>
 aB (pu h14 (aQ Tryd.prog .add 43 false v13 v14)) fun v15 h15 =>
 aB (pu h15 (aQ Tryd.prog .mul 43 false x0 x1)) fun v16 h16 =>
 bQ [v15, v16] h.length h16)
noncomputable def cB.f (G : aG) : Nat → dA
 | 0 => fun _ _ => none
 | k + 1 => fun args h => mJ args fun x0 x1 => (cB.c G k (cB.f G k) x0 x1 h)
theorem cB.step (G : aG) (k : Nat) (x0 x1 : AV) (h : aF) : cB.f G (k + 1) [x0, x1] h = cB.c G k (cB.f G k) x0 x1 h := rfl
noncomputable def bJ.ann : Ann := gE [] [] [] []
noncomputable def bJ.env (G : aG) (k : Nat) (self : dA) : List (Nat × Bool × dA) := []
noncomputable def bJ.c (G : aG) (k : Nat) (self : dA) (x0 x1 : AV) (h : aF) : Option (AV × aF) := gA (
 aB (dP x1 h) fun v0 h0 =>
 aB (pu h0 (jG 4 1 v0 (.int .i64 1))) fun v1 h1 =>
 aB (pu h1 (aC G false 1 v1 h1)) fun v2 h2 =>
 aB (pu h2 (jG 4 1 v0 (.int .i64 2))) fun v3 h3 =>
 aB (pu h3 (aC G false 1 v3 h3)) fun v4 h4 =>
 aB (pu h4 (aQ Tryd.prog .eql 3 true x0 (.int .i64 0))) fun v5 h5 =>
 aK v5
 (bQ [v2] h.length h5)
 (aB (pu h5 (aQ Tryd.prog .eql 3 true x0 (.int .i64 1))) fun v6 h6 =>
 aK v6
 (aB (pu h6 (un .not v2)) fun v7 h7 =>
 bQ [v7] h.length h7)
 (aB (pu h6 (aQ Tryd.prog .eql 3 true x0 (.int .i64 2))) fun v8 h8 =>
 aK v8
 (bQ [v4] h.length h8)
 (aB (pu h8 (aQ Tryd.prog .eql 3 true x0 (.int .i64 3))) fun v9 h9 =>
 aK v9
 (aB (pu h9 (un .not v4)) fun v10 h10 =>
 bQ [v10] h.length h10)
 (aB (pu h9 (aQ Tryd.prog .eql 3 true x0 (.int .i64 8))) fun v11 h11 =>
 aK v11
 (aB (gd v4 true h11 (some (v2, h11))) fun v12 h12 =>
 aB (gd v4 true h12 (pu h12 (un .not v12))) fun v13 h13 =>
 aB (pu h13 (dJ v4 v13 (.bool false))) fun v14 h14 =>
 bQ [v14] h.length h14)
 (aB (pu h11 (aQ Tryd.prog .eql 3 true x0 (.int .i64 9))) fun v15 h15 =>
 aK v15
 (aB (gd v4 true h15 (some (v2, h15))) fun v16 h16 =>
 aB (gd v4 true h16 (pu h16 (un .not v16))) fun v17 h17 =>
 aB (pu h17 (dJ v4 v17 (.bool false))) fun v18 h18 =>
 aB (pu h18 (un .not v18)) fun v19 h19 =>
 bQ [v19] h.length h19)
 (bQ [(.bool false)] h.length h15)))))))
noncomputable def bJ.f (G : aG) : Nat → dA
 | 0 => fun _ _ => none
 | k + 1 => fun args h => mJ args fun x0 x1 => (bJ.c G k (bJ.f G k) x0 x1 h)
theorem bJ.step (G : aG) (k : Nat) (x0 x1 : AV) (h : aF) : bJ.f G (k + 1) [x0, x1] h = bJ.c G k (bJ.f G k) x0 x1 h := rfl
noncomputable def aV.ann : Ann := gE [] [] [] []
noncomputable def aV.env (G : aG) (k : Nat) (self : dA) : List (Nat × Bool × dA) := []
noncomputable def aV.c (G : aG) (k : Nat) (self : dA) (x0 x1 : AV) (h : aF) : Option (AV × aF) := gA (
 aB (dP x0 h) fun v0 h0 =>
 aB (pu h0 (aQ Tryd.prog .eql 3 true x1 (.int .i64 31))) fun v1 h1 =>
 aK v1
 (bQ [(.int .u64 0)] h.length h1)
 (aB (pu h1 (jG 31 1 v0 x1)) fun v2 h2 =>
 aB (pu h2 (aC G false 1 v2 h2)) fun v3 h3 =>
 bQ [v3] h.length h3))
noncomputable def aV.f (G : aG) : Nat → dA
 | 0 => fun _ _ => none
 | k + 1 => fun args h => mJ args fun x0 x1 => (aV.c G k (aV.f G k) x0 x1 h)
theorem aV.step (G : aG) (k : Nat) (x0 x1 : AV) (h : aF) : aV.f G (k + 1) [x0, x1] h = aV.c G k (aV.f G k) x0 x1 h := rfl
noncomputable def aW.ann : Ann := gE [3] [] [] []
noncomputable def aW.env (G : aG) (k : Nat) (self : dA) : List (Nat × Bool × dA) := []
noncomputable def aW.c (G : aG) (k : Nat) (self : dA) (x0 x1 x2 : AV) (h : aF) : Option (AV × aF) := gA (
 aB (fF 44 x0 h) fun v0 h0 =>
 aB (fF 44 (.agg [(.int .u64 0), (.int .u64 0), (.int .u64 0), (.int .u64 0), (.int .u64 0), (.int .u64 0), (.int .u64 0), (.int .u64 0), (.int .u64 0), (.int .u64 0), (.int .u64 0), (.int .u64 0), (.int .u64 0), (.int .u64 0), (.int .u64 0), (.int .u64 0), (.int .u64 0), (.int .u64 0), (.int .u64 0), (.int .u64 0), (.int .u64 0), (.int .u64 0), (.int .u64 0), (.int .u64 0), (.int .u64 0), (.int .u64 0), (.int .u64 0), (.int .u64 0), (.int .u64 0), (.int .u64 0), (.int .u64 0)]) h0) fun v1 h1 =>
 aB (pu h1 (aQ Tryd.prog .neq 3 true x1 (.int .i64 31))) fun v2 h2 =>
 aK v2
 (aB (pu h2 (jG 31 1 v0 x1)) fun v3 h3 =>
 aB (fB (aN 1 v3 x2 h3)) fun v4 h4 =>
 aB (pu h4 (aC G true 31 v0 h4)) fun v5 h5 =>
 aB (fB (aN 31 v1 v5 h5)) fun v6 h6 =>
 fL [aC G true 31 v1 h6] h.length h6)
 (aB (pu h2 (aC G true 31 v0 h2)) fun v7 h7 =>
 aB (fB (aN 31 v1 v7 h7)) fun v8 h8 =>
 fL [aC G true 31 v1 h8] h.length h8))
noncomputable def aW.f (G : aG) : Nat → dA
 | 0 => fun _ _ => none
 | k + 1 => fun args h => vX args fun x0 x1 x2 => (aW.c G k (aW.f G k) x0 x1 x2 h)
theorem aW.step (G : aG) (k : Nat) (x0 x1 x2 : AV) (h : aF) : aW.f G (k + 1) [x0, x1, x2] h = aW.c G k (aW.f G k) x0 x1 x2 h := rfl
noncomputable def aL.ann : Ann := gE [] [] [] [(48, [3, 4, 5, 6, 7, 8, 14])]
noncomputable def aL.env (G : aG) (k : Nat) (self : dA) : List (Nat × Bool × dA) := [(34, true, bJ.f G k), (52, true, aV.f G k), (53, true, aW.f G k), (55, true, aH.f G k), (56, true, cB.f G k)]
noncomputable def aL.c (G : aG) (k : Nat) (self : dA) (x0 x1 x2 : AV) (h : aF) : Option (AV × aF) := gA (
 aB (dP x0 h) fun v0 h0 =>
 aB (dP x1 h0) fun v1 h1 =>
 aB (dP x2 h1) fun v2 h2 =>
 aB (fF 44 (.agg [(.int .u64 0), (.int .u64 0), (.int .u64 0), (.int .u64 0), (.int .u64 0), (.int .u64 0), (.int .u64 0), (.int .u64 0), (.int .u64 0), (.int .u64 0), (.int .u64 0), (.int .u64 0), (.int .u64 0), (.int .u64 0), (.int .u64 0), (.int .u64 0), (.int .u64 0), (.int .u64 0), (.int .u64 0), (.int .u64 0), (.int .u64 0), (.int .u64 0), (.int .u64 0), (.int .u64 0), (.int .u64 0), (.int .u64 0), (.int .u64 0), (.int .u64 0), (.int .u64 0), (.int .u64 0), (.int .u64 0)]) h2) fun v3 h3 =>
 aB (fF 53 (.agg [(.bool false), (.bool false), (.bool false), (.bool false)]) h3) fun v4 h4 =>
 aB (pu h4 (aC G true 6 v0 h4)) fun v5 h5 =>
 aB (aE (aH.f G k) [v5] h5) fun v6 h6 =>
 aB (pu h6 (cU v6 0)) fun v7 h7 =>
 aB (pu h7 (cU v6 1)) fun v8 h8 =>
 aB (pu h8 (un .not v8)) fun v9 h9 =>
 aB (gd v9 false h9 (pu h9 (aA 0 v0))) fun v10 h10 =>
 aB (gd v9 false h10 (pu h10 (aC G false 1 v10 h10))) fun v11 h11 =>
 aB (gd v9 false h11 (pu h11 (aQ Tryd.prog .gtr 3 true v11 (.int .i64 17)))) fun v12 h12 =>
 aB (pu h12 (dJ v9 (.bool true) v12)) fun v13 h13 =>
 aK v13
 (aB (pu h13 (eZ 1 [(.int .u64 0), (.int .u64 0), (.int .u64 0), (.int .u64 0), (.int .u64 0), (.int .u64 0), (.int .u64 0), (.int .u64 0), (.int .u64 0), (.int .u64 0), (.int .u64 0), (.int .u64 0), (.int .u64 0), (.int .u64 0), (.int .u64 0), (.int .u64 0), (.int .u64 0), (.int .u64 0), (.int .u64 0), (.int .u64 0), (.int .u64 0), (.int .u64 0), (.int .u64 0), (.int .u64 0), (.int .u64 0), (.int .u64 0), (.int .u64 0), (.int .u64 0), (.int .u64 0), (.int .u64 0), (.int .u64 0)] [])) fun v14 h14 =>
 aB (pu h14 (eZ 1 [(.bool false), (.bool false), (.bool false), (.bool false)] [])) fun v15 h15 =>
 aB (fB (aN 31 v3 v14 h15)) fun v16 h16 =>
 aB (fB (aN 4 v4 v15 h16)) fun v17 h17 =>
 fL [aC G true 31 v3 h17, aC G true 4 v4 h17, some (.bool false)] h.length h17)
 (aB (pu h13 (aC G true 31 v1 h13)) fun v18 h18 =>
 aB (pu h18 (aA 2 v0)) fun v19 h19 =>
 aB (pu h19 (aC G false 1 v19 h19)) fun v20 h20 =>
 aB (aE (aV.f G k) [v18, v20] h20) fun v21 h21 =>
 aB (pu h21 (aC G true 31 v1 h21)) fun v22 h22 =>
 aB (pu h22 (aA 3 v0)) fun v23 h23 =>
 aB (pu h23 (aC G false 1 v23 h23)) fun v24 h24 =>
 aB (aE (aV.f G k) [v22, v24] h24) fun v25 h25 =>
 aB (pu h25 (aA 5 v0)) fun v26 h26 =>
 aB (pu h26 (aC G false 1 v26 h26)) fun v27 h27 =>
 aB (pu h27 (aQ Tryd.prog .and 3 true v27 (.int .i64 63))) fun v28 h28 =>
 aB (pu h28 (aJ .u64 v28)) fun v29 h29 =>
 eM (
 aB (pu h29 (aA 0 v0)) fun v30 h30 =>
 aB (pu h30 (aC G false 1 v30 h30)) fun v31 h31 =>
 aB (pu h31 (aQ Tryd.prog .eql 3 true v31 (.int .i64 1))) fun v32 h32 =>
 aK v32
 (aB (pu h32 (aA 5 v0)) fun v33 h33 =>
 aB (pu h33 (aC G false 1 v33 h33)) fun v34 h34 =>
 aB (pu h34 (aJ .u64 v34)) fun v35 h35 =>
 aB (pu h35 (aA 4 v0)) fun v36 h36 =>
 aB (pu h36 (aC G false 1 v36 h36)) fun v37 h37 =>
 aB (pu h37 (aQ Tryd.prog .mul 3 true (.int .i64 16) v37)) fun v38 h38 =>
 aB (pu h38 (aJ .u64 v38)) fun v39 h39 =>
 aB (pu h39 (aQ Tryd.prog .shl 43 false v35 v39)) fun v40 h40 =>
 some (.normal, [v0, v1, v2, v3, v4, (.bool false), v40], h40))
 (aB (pu h32 (aQ Tryd.prog .eql 3 true v31 (.int .i64 2))) fun v41 h41 =>
 aK v41
 (aB (pu h41 (aC G true 31 v1 h41)) fun v42 h42 =>
 aB (pu h42 (aA 1 v0)) fun v43 h43 =>
 aB (pu h43 (aC G false 1 v43 h43)) fun v44 h44 =>
 aB (aE (aV.f G k) [v42, v44] h44) fun v45 h45 =>
 aB (pu h45 (aA 4 v0)) fun v46 h46 =>
 aB (pu h46 (aC G false 1 v46 h46)) fun v47 h47 =>
 aB (pu h47 (aQ Tryd.prog .mul 3 true (.int .i64 16) v47)) fun v48 h48 =>
 aB (pu h48 (aJ .u64 v48)) fun v49 h49 =>
 aB (pu h49 (aQ Tryd.prog .shl 43 true (.int .u64 65535) v49)) fun v50 h50 =>
 aB (pu h50 (aQ Tryd.prog .andNot 43 false v45 v50)) fun v51 h51 =>
 aB (pu h51 (aA 5 v0)) fun v52 h52 =>
 aB (pu h52 (aC G false 1 v52 h52)) fun v53 h53 =>
 aB (pu h53 (aJ .u64 v53)) fun v54 h54 =>
 aB (pu h54 (aA 4 v0)) fun v55 h55 =>
 aB (pu h55 (aC G false 1 v55 h55)) fun v56 h56 =>
 aB (pu h56 (aQ Tryd.prog .mul 3 true (.int .i64 16) v56)) fun v57 h57 =>
 aB (pu h57 (aJ .u64 v57)) fun v58 h58 =>
 aB (pu h58 (aQ Tryd.prog .shl 43 false v54 v58)) fun v59 h59 =>
 aB (pu h59 (aQ Tryd.prog .or 43 false v51 v59)) fun v60 h60 =>
 some (.normal, [v0, v1, v2, v3, v4, (.bool false), v60], h60))
 (aB (pu h41 (aQ Tryd.prog .eql 3 true v31 (.int .i64 3))) fun v61 h61 =>
 aK v61
 (aB (pu h61 (aQ Tryd.prog .add 43 false v21 v25)) fun v62 h62 =>
 some (.normal, [v0, v1, v2, v3, v4, (.bool false), v62], h62))
 (aB (pu h61 (aQ Tryd.prog .eql 3 true v31 (.int .i64 4))) fun v63 h63 =>
 aK v63
 (aB (pu h63 (aQ Tryd.prog .sub 43 false v21 v25)) fun v64 h64 =>
 some (.normal, [v0, v1, v2, v3, v4, (.bool false), v64], h64))
 (aB (pu h63 (aQ Tryd.prog .eql 3 true v31 (.int .i64 5))) fun v65 h65 =>
 aK v65
 (aB (pu h65 (aQ Tryd.prog .and 43 false v21 v25)) fun v66 h66 =>
 some (.normal, [v0, v1, v2, v3, v4, (.bool false), v66], h66))
 (aB (pu h65 (aQ Tryd.prog .eql 3 true v31 (.int .i64 6))) fun v67 h67 =>
 aK v67
 (aB (pu h67 (aQ Tryd.prog .or 43 false v21 v25)) fun v68 h68 =>
 some (.normal, [v0, v1, v2, v3, v4, (.bool false), v68], h68))
 (aB (pu h67 (aQ Tryd.prog .eql 3 true v31 (.int .i64 7))) fun v69 h69 =>
 aK v69
 (aB (pu h69 (aQ Tryd.prog .xor 43 false v21 v25)) fun v70 h70 =>
 some (.normal, [v0, v1, v2, v3, v4, (.bool false), v70], h70))
 (aB (pu h69 (aQ Tryd.prog .eql 3 true v31 (.int .i64 8))) fun v71 h71 =>
 aK v71
 (aB (pu h71 (aQ Tryd.prog .mul 43 false v21 v25)) fun v72 h72 =>
 aB (pu h72 (aC G true 31 v1 h72)) fun v73 h73 =>
 aB (pu h73 (aA 4 v0)) fun v74 h74 =>
 aB (pu h74 (aC G false 1 v74 h74)) fun v75 h75 =>
 aB (aE (aV.f G k) [v73, v75] h75) fun v76 h76 =>
 aB (pu h76 (aQ Tryd.prog .add 43 false v72 v76)) fun v77 h77 =>
 some (.normal, [v0, v1, v2, v3, v4, (.bool false), v77], h77))
 (aB (pu h71 (aQ Tryd.prog .eql 3 true v31 (.int .i64 9))) fun v78 h78 =>
 aK v78
 (aB (aE (cB.f G k) [v21, v25] h78) fun v79 h79 =>
 aB (pu h79 (cU v79 0)) fun v80 h80 =>
 aB (pu h80 (cU v79 1)) fun v81 h81 =>
 some (.normal, [v0, v1, v2, v3, v4, (.bool false), v80], h81))
 (aB (pu h78 (aQ Tryd.prog .eql 3 true v31 (.int .i64 10))) fun v82 h82 =>
 aK v82
 (aB (pu h82 (aA 5 v0)) fun v83 h83 =>
 aB (pu h83 (aC G false 1 v83 h83)) fun v84 h84 =>
 aB (pu h84 (aJ .u64 v84)) fun v85 h85 =>
 aB (pu h85 (aQ Tryd.prog .add 43 false v21 v85)) fun v86 h86 =>
 some (.normal, [v0, v1, v2, v3, v4, (.bool false), v86], h86))
 (aB (pu h82 (aQ Tryd.prog .eql 3 true v31 (.int .i64 11))) fun v87 h87 =>
 aK v87
 (aB (pu h87 (aA 5 v0)) fun v88 h88 =>
 aB (pu h88 (aC G false 1 v88 h88)) fun v89 h89 =>
 aB (pu h89 (aJ .u64 v89)) fun v90 h90 =>
 aB (pu h90 (aQ Tryd.prog .sub 43 false v21 v90)) fun v91 h91 =>
 some (.normal, [v0, v1, v2, v3, v4, (.bool false), v91], h91))
 (aB (pu h87 (aQ Tryd.prog .eql 3 true v31 (.int .i64 12))) fun v92 h92 =>
 aK v92
 (aB (pu h92 (aQ Tryd.prog .shl 43 false v21 v29)) fun v93 h93 =>
 some (.normal, [v0, v1, v2, v3, v4, (.bool false), v93], h93))
 (aB (pu h92 (aQ Tryd.prog .eql 3 true v31 (.int .i64 13))) fun v94 h94 =>
 aK v94
 (aB (pu h94 (aQ Tryd.prog .shr 43 false v21 v29)) fun v95 h95 =>
 some (.normal, [v0, v1, v2, v3, v4, (.bool false), v95], h95))
 (aB (pu h94 (aQ Tryd.prog .eql 3 true v31 (.int .i64 14))) fun v96 h96 =>
 aK v96
 (aB (pu h96 (aJ .i64 v21)) fun v97 h97 =>
 aB (pu h97 (aQ Tryd.prog .shr 2 false v97 v29)) fun v98 h98 =>
 aB (pu h98 (aJ .u64 v98)) fun v99 h99 =>
 some (.normal, [v0, v1, v2, v3, v4, (.bool false), v99], h99))
 (aB (pu h96 (aQ Tryd.prog .eql 3 true v31 (.int .i64 15))) fun v100 h100 =>
 aK v100
 (aB (pu h100 (aQ Tryd.prog .sub 43 false v21 v25)) fun v101 h101 =>
 aB (pu h101 (aQ Tryd.prog .xor 43 false v21 v25)) fun v102 h102 =>
 aB (pu h102 (aQ Tryd.prog .xor 43 false v21 v101)) fun v103 h103 =>
 aB (pu h103 (aQ Tryd.prog .and 43 false v102 v103)) fun v104 h104 =>
 aB (pu h104 (aQ Tryd.prog .shr 43 true v104 (.int .u64 63))) fun v105 h105 =>
 aB (pu h105 (aQ Tryd.prog .eql 43 true v105 (.int .u64 1))) fun v106 h106 =>
 aB (pu h106 (aC G true 31 v1 h106)) fun v107 h107 =>
 aB (pu h107 (aQ Tryd.prog .shr 43 true v101 (.int .u64 63))) fun v108 h108 =>
 aB (pu h108 (aQ Tryd.prog .eql 43 true v108 (.int .u64 1))) fun v109 h109 =>
 aB (pu h109 (aQ Tryd.prog .eql 43 true v101 (.int .u64 0))) fun v110 h110 =>
 aB (pu h110 (aQ Tryd.prog .geq 43 false v21 v25)) fun v111 h111 =>
 aB (pu h111 (eZ 1 [(.bool false), (.bool false), (.bool false), (.bool false)] [(0, v109), (1, v110), (2, v111), (3, v106)])) fun v112 h112 =>
 aB (fB (aN 31 v3 v107 h112)) fun v113 h113 =>
 aB (fB (aN 4 v4 v112 h113)) fun v114 h114 =>
 some (.ret, [v0, v1, v2, v3, v4, (.bool true), (.int .u64 0)], h114))
 (aB (pu h100 (aQ Tryd.prog .eql 3 true v31 (.int .i64 16))) fun v115 h115 =>
 aK v115
 (aB (pu h115 (aA 4 v0)) fun v116 h116 =>
 aB (pu h116 (aC G false 1 v116 h116)) fun v117 h117 =>
 aB (pu h117 (aC G true 4 v2 h117)) fun v118 h118 =>
 aB (aE (bJ.f G k) [v117, v118] h118) fun v119 h119 =>
 aK v119
 (some (.normal, [v0, v1, v2, v3, v4, (.bool false), v21], h119))
 (some (.normal, [v0, v1, v2, v3, v4, (.bool false), v25], h119)))
 (aB (pu h115 (aQ Tryd.prog .eql 3 true v31 (.int .i64 17))) fun v120 h120 =>
 aK v120
 (aB (pu h120 (aA 4 v0)) fun v121 h121 =>
 aB (pu h121 (aC G false 1 v121 h121)) fun v122 h122 =>
 aB (pu h122 (aC G true 4 v2 h122)) fun v123 h123 =>
 aB (aE (bJ.f G k) [v122, v123] h123) fun v124 h124 =>
 aK v124
 (some (.normal, [v0, v1, v2, v3, v4, (.bool false), (.int .u64 1)], h124))
 (some (.normal, [v0, v1, v2, v3, v4, (.bool false), (.int .u64 0)], h124)))
 (some (.normal, [v0, v1, v2, v3, v4, (.bool false), (.int .u64 0)], h120))))))))))))))))))) fun e125 x125 h125 => jJ e125
 (aB (pu h125 (aC G true 31 (aI x125 1) h125)) fun v126 h126 =>
 aB (pu h126 (aA 1 (aI x125 0))) fun v127 h127 =>
 aB (pu h127 (aC G false 1 v127 h127)) fun v128 h128 =>
 aB (aE (aW.f G k) [v126, v128, (aI x125 6)] h128) fun v129 h129 =>
 aB (pu h129 (aC G true 4 (aI x125 2) h129)) fun v130 h130 =>
 aB (fB (aN 31 (aI x125 3) v129 h130)) fun v131 h131 =>
 aB (fB (aN 4 (aI x125 4) v130 h131)) fun v132 h132 =>
 grd [((aI x125 2), (aI x125 3))] (
fL [aC G true 31 (aI x125 3) h132, aC G true 4 (aI x125 4) h132, some (.bool true)] h.length h132))
 (fun i125 => none)
 (fL [aC G true 31 (aI x125 3) h125, aC G true 4 (aI x125 4) h125, some (aI x125 5)] h.length h125)))
noncomputable def aL.f (G : aG) : Nat → dA
 | 0 => fun _ _ => none
 | k + 1 => fun args h => vX args fun x0 x1 x2 => (aL.c G k (aL.f G k) x0 x1 x2 h)
theorem aL.step (G : aG) (k : Nat) (x0 x1 x2 : AV) (h : aF) : aL.f G (k + 1) [x0, x1, x2] h = aL.c G k (aL.f G k) x0 x1 x2 h := rfl
noncomputable def aY.ann : Ann := gE [] [2] [(3, [0, 3, 4])] []
noncomputable def aY.env (G : aG) (k : Nat) (self : dA) : List (Nat × Bool × dA) := []
noncomputable def aY.l3 (G : aG) (k n0 : Nat) (self : dA) (lp : iV) : iV := fun xs h0 => qS n0 xs h0 fun h =>
 aB (pu h (dH (aI xs 0))) fun v4 h4 =>
 aB (pu h4 (aQ Tryd.prog .lss 3 false (aI xs 2) v4)) fun v5 h5 =>
 aK v5
 (aB (pu h5 (cF 1 (aI xs 0) (aI xs 2))) fun v6 h6 =>
 aB (pu h6 (aC G false 1 v6 h6)) fun v7 h7 =>
 aB (fK 1 1 (.int .u64 0) [(0, v7)] h7) fun v8 h8 =>
 aB (fI 43 1 (aI xs 1) v8 h8) fun v9 h9 =>
 aB (pu h9 (aQ Tryd.prog .add 3 true (aI xs 2) (.int .i64 1))) fun v10 h10 =>
 lp [(aI xs 0), v9, v10] h10)
 (some (.exit 0, [(aI xs 0), (aI xs 1), (aI xs 2)], h5))
noncomputable def aY.c (G : aG) (k : Nat) (self : dA) (x0 : AV) (h : aF) : Option (AV × aF) := gA (
 aB (some (.sl h.length 0 0 0 1, h ++ [⟨43, 1, []⟩])) fun v0 h0 =>
 aB (pu h0 (dH x0)) fun v1 h1 =>
 aB (jH 43 1 (.int .u64 0) (.int .i64 0) v1 h1) fun v2 h2 =>
 eM (gP (aY.l3 G k h2.length self) k [x0, v2, (.int .i64 0)] h2) fun e3 x3 h3 => jJ e3
 (aAN [(aI x3 1)] h3)
 (fun i3 => if i3 = 0 then (aAN [(aI x3 1)] h3) else (none))
 (aAN [.undef] h3))
noncomputable def aY.f (G : aG) : Nat → dA
 | 0 => fun _ _ => none
 | k + 1 => fun args h => nH args fun x0 => (aY.c G k (aY.f G k) x0 h)
theorem aY.step (G : aG) (k : Nat) (x0 : AV) (h : aF) : aY.f G (k + 1) [x0] h = aY.c G k (aY.f G k) x0 h := rfl
noncomputable def bT.ann : Ann := gE [] [] [] []
noncomputable def bT.env (G : aG) (k : Nat) (self : dA) : List (Nat × Bool × dA) := []
noncomputable def bT.c (G : aG) (k : Nat) (self : dA) (x0 : AV) (h : aF) : Option (AV × aF) := gA (
 aK x0
 (bQ [(.int .i64 1)] h.length h)
 (bQ [(.int .i64 0)] h.length h))
noncomputable def bT.f (G : aG) : Nat → dA
 | 0 => fun _ _ => none
 | k + 1 => fun args h => nH args fun x0 => (bT.c G k (bT.f G k) x0 h)
theorem bT.step (G : aG) (k : Nat) (x0 : AV) (h : aF) : bT.f G (k + 1) [x0] h = bT.c G k (bT.f G k) x0 h := rfl
noncomputable def aX.ann : Ann := aEM [] [] [(4, [0, 2, 6, 7, 8, 9])] [(36, [0, 2, 6, 7, 8, 9, 10, 12, 14]), (33, [0, 2, 6, 7, 8, 9, 10, 12, 61, 139]), (21, [0, 2, 6, 7, 8, 9, 10, 12, 61, 74])] [(4, [(6, 33, 107, 2), (7, 33, 107, 2)])] []
noncomputable def aX.env (G : aG) (k : Nat) (self : dA) : List (Nat × Bool × dA) := [(25, true, aL.f G k), (34, true, bJ.f G k), (46, false, aY.f G k), (47, true, bT.f G k), (51, true, bY.f G k), (52, true, aV.f G k), (53, true, aW.f G k)]
noncomputable def aX.l4 (G : aG) (k n0 : Nat) (self : dA) (lp : iV) : iV := fun xs h0 => qS n0 xs h0 fun h =>
 aB (pu h (aQ Tryd.prog .lss 3 true (aI xs 5) (.int .i64 0))) fun v7 h7 =>
 aB (gd v7 false h7 (some ((aI xs 5), h7))) fun v8 h8 =>
 aB (gd v7 false h8 (some ((aI xs 0), h8))) fun v9 h9 =>
 aB (gd v7 false h9 (pu h9 (dH v9))) fun v10 h10 =>
 aB (gd v7 false h10 (pu h10 (aQ Tryd.prog .geq 3 false v8 v10))) fun v11 h11 =>
 aB (pu h11 (dJ v7 (.bool true) v11)) fun v12 h12 =>
 aK v12
 (aB (pu h12 (aC G true 35 (aI xs 3) h12)) fun v13 h13 =>
 aB (fB (aN 35 (aI xs 2) v13 h13)) fun v14 h14 =>
 some (.ret, [(aI xs 0), (aI xs 1), (aI xs 2), (aI xs 3), (aI xs 4), (aI xs 5)], h14))
 (aB (pu h12 (aA 34 (aI xs 3))) fun v15 h15 =>
 aB (pu h15 (aC G false 1 v15 h15)) fun v16 h16 =>
 aB (pu h16 (aQ Tryd.prog .geq 2 false v16 (aI xs 1))) fun v17 h17 =>
 aK v17
 (aB (pu h17 (aA 0 (aI xs 3))) fun v18 h18 =>
 aB (fB (aN 1 v18 (.int .i64 4) h18)) fun v19 h19 =>
 aB (pu h19 (aC G true 35 (aI xs 3) h19)) fun v20 h20 =>
 aB (fB (aN 35 (aI xs 2) v20 h20)) fun v21 h21 =>
 some (.ret, [(aI xs 0), (aI xs 1), (aI xs 2), (aI xs 3), (aI xs 4), (aI xs 5)], h21))
 (aB (pu h17 (aA 34 (aI xs 3))) fun v22 h22 =>
 aB (pu h22 (aC G false 1 v22 h22)) fun v23 h23 =>
 aB (pu h23 (aQ Tryd.prog .add 2 true v23 (.int .i64 1))) fun v24 h24 =>
 aB (pu h24 (aA 34 (aI xs 3))) fun v25 h25 =>
 aB (fB (aN 1 v25 v24 h25)) fun v26 h26 =>
 aB (pu h26 (aA 33 (aI xs 3))) fun v27 h27 =>
 aB (pu h27 (aC G false 1 v27 h27)) fun v28 h28 =>
 aB (pu h28 (bA [(0, 1), (1, 1)] [(.int .i64 0), (.int .i64 0)] [(0, (.int .i64 1)), (1, (aI xs 5))])) fun v29 h29 =>
 aB (fK 2 1 (.agg [(.int .i64 0), (.int .i64 0)]) [(0, v29)] h29) fun v30 h30 =>
 aB (fI 107 2 v28 v30 h30) fun v31 h31 =>
 aB (pu h31 (aA 33 (aI xs 3))) fun v32 h32 =>
 aB (fB (aN 1 v32 v31 h32)) fun v33 h33 =>
 aB (pu h33 (cF 1 (aI xs 0) (aI xs 5))) fun v34 h34 =>
 aB (pu h34 (aC G false 1 v34 h34)) fun v35 h35 =>
 aB (aE (bY.f G k) [v35] h35) fun v36 h36 =>
 aB (pu h36 (cU v36 0)) fun v37 h37 =>
 aB (pu h37 (cU v36 1)) fun v38 h38 =>
 aB (fF 57 (.agg [(.int .i64 0), (.int .i64 0), (.int .i64 0), (.int .i64 0), (.int .i64 0), (.int .i64 0)]) h38) fun v39 h39 =>
 aB (fB (aN 6 v39 v37 h39)) fun v40 h40 =>
 aB (pu h40 (un .not v38)) fun v41 h41 =>
 aK v41
 (aB (pu h41 (aC G true 35 (aI xs 3) h41)) fun v42 h42 =>
 aB (fB (aN 35 (aI xs 2) v42 h42)) fun v43 h43 =>
 some (.ret, [(aI xs 0), (aI xs 1), (aI xs 2), (aI xs 3), (aI xs 4), (aI xs 5)], h43))
 (aB (pu h41 (aQ Tryd.prog .add 3 true (aI xs 5) (.int .i64 1))) fun v44 h44 =>
 aB (pu h44 (aA 0 v39)) fun v45 h45 =>
 aB (pu h45 (aC G false 1 v45 h45)) fun v46 h46 =>
 eM (
 aB (pu h46 (aQ Tryd.prog .eql 3 true v46 (.int .i64 18))) fun v47 h47 =>
 aK v47
 (some (.normal, [(aI xs 0), (aI xs 1), (aI xs 2), (aI xs 3), (aI xs 4), (aI xs 5), v39, v44, v46, v47], h47))
 (aB (pu h47 (aQ Tryd.prog .eql 3 true v46 (.int .i64 19))) fun v48 h48 =>
 some (.normal, [(aI xs 0), (aI xs 1), (aI xs 2), (aI xs 3), (aI xs 4), (aI xs 5), v39, v44, v46, v48], h48))) fun e49 x49 h49 => jJ e49
 (aK (aI x49 9)
 (aB (pu h49 (aA 2 (aI x49 3))) fun v50 h50 =>
 aB (pu h50 (aC G true 31 v50 h50)) fun v51 h51 =>
 aB (pu h51 (aA 2 (aI x49 6))) fun v52 h52 =>
 aB (pu h52 (aC G false 1 v52 h52)) fun v53 h53 =>
 aB (aE (aV.f G k) [v51, v53] h53) fun v54 h54 =>
 aB (pu h54 (aA 5 (aI x49 6))) fun v55 h55 =>
 aB (pu h55 (aC G false 1 v55 h55)) fun v56 h56 =>
 aB (pu h56 (aJ .u64 v56)) fun v57 h57 =>
 aB (pu h57 (aQ Tryd.prog .mul 43 true (.int .u64 8) v57)) fun v58 h58 =>
 aB (pu h58 (aQ Tryd.prog .add 43 false v54 v58)) fun v59 h59 =>
 aB (pu h59 (aA 33 (aI x49 3))) fun v60 h60 =>
 aB (pu h60 (aC G false 1 v60 h60)) fun v61 h61 =>
 aB (pu h61 (aJ .i64 v59)) fun v62 h62 =>
 aB (pu h62 (bA [(0, 1), (1, 1)] [(.int .i64 0), (.int .i64 0)] [(0, (.int .i64 3)), (1, v62)])) fun v63 h63 =>
 aB (fK 2 1 (.agg [(.int .i64 0), (.int .i64 0)]) [(0, v63)] h63) fun v64 h64 =>
 aB (fI 107 2 v61 v64 h64) fun v65 h65 =>
 aB (pu h65 (aA 33 (aI x49 3))) fun v66 h66 =>
 aB (fB (aN 1 v66 v65 h66)) fun v67 h67 =>
 aB (pu h67 (aQ Tryd.prog .rem 43 true v59 (.int .u64 8))) fun v68 h68 =>
 aB (pu h68 (aQ Tryd.prog .neq 43 true v68 (.int .u64 0))) fun v69 h69 =>
 aB (gd v69 false h69 (some (v59, h69))) fun v70 h70 =>
 aB (gd v69 false h70 (pu h70 (aQ Tryd.prog .quo 43 true v70 (.int .u64 8)))) fun v71 h71 =>
 aB (gd v69 false h71 (pu h71 (aA 1 (aI x49 3)))) fun v72 h72 =>
 aB (gd v69 false h72 (pu h72 (aC G false 1 v72 h72))) fun v73 h73 =>
 aB (gd v69 false h73 (pu h73 (dH v73))) fun v74 h74 =>
 aB (gd v69 false h74 (pu h74 (aJ .u64 v74))) fun v75 h75 =>
 aB (gd v69 false h75 (pu h75 (aQ Tryd.prog .geq 43 false v71 v75))) fun v76 h76 =>
 aB (pu h76 (dJ v69 (.bool true) v76)) fun v77 h77 =>
 aK v77
 (aB (pu h77 (aC G true 35 (aI x49 3) h77)) fun v78 h78 =>
 aB (fB (aN 35 (aI x49 2) v78 h78)) fun v79 h79 =>
 some (.ret, [(aI x49 0), (aI x49 1), (aI x49 2), (aI x49 3), (aI x49 4), (aI x49 5)], h79))
 (aB (pu h77 (aA 0 (aI x49 6))) fun v80 h80 =>
 aB (pu h80 (aC G false 1 v80 h80)) fun v81 h81 =>
 aB (pu h81 (aQ Tryd.prog .eql 3 true v81 (.int .i64 18))) fun v82 h82 =>
 aK v82
 (aB (pu h82 (aA 2 (aI x49 3))) fun v83 h83 =>
 aB (pu h83 (aC G true 31 v83 h83)) fun v84 h84 =>
 aB (pu h84 (aA 1 (aI x49 6))) fun v85 h85 =>
 aB (pu h85 (aC G false 1 v85 h85)) fun v86 h86 =>
 aB (pu h86 (aA 1 (aI x49 3))) fun v87 h87 =>
 aB (pu h87 (aC G false 1 v87 h87)) fun v88 h88 =>
 aB (pu h88 (aQ Tryd.prog .quo 43 true v59 (.int .u64 8))) fun v89 h89 =>
 aB (pu h89 (cF 1 v88 v89)) fun v90 h90 =>
 aB (pu h90 (aC G false 1 v90 h90)) fun v91 h91 =>
 aB (aE (aW.f G k) [v84, v86, v91] h91) fun v92 h92 =>
 aB (pu h92 (aA 2 (aI x49 3))) fun v93 h93 =>
 aB (fB (aN 31 v93 v92 h93)) fun v94 h94 =>
 lp [(aI x49 0), (aI x49 1), (aI x49 2), (aI x49 3), (aI x49 4), (aI x49 7)] h94)
 (aB (pu h82 (aA 1 (aI x49 3))) fun v95 h95 =>
 aB (pu h95 (aC G false 1 v95 h95)) fun v96 h96 =>
 aB (pu h96 (aQ Tryd.prog .quo 43 true v59 (.int .u64 8))) fun v97 h97 =>
 aB (pu h97 (aA 2 (aI x49 3))) fun v98 h98 =>
 aB (pu h98 (aC G true 31 v98 h98)) fun v99 h99 =>
 aB (pu h99 (aA 1 (aI x49 6))) fun v100 h100 =>
 aB (pu h100 (aC G false 1 v100 h100)) fun v101 h101 =>
 aB (aE (aV.f G k) [v99, v101] h101) fun v102 h102 =>
 aB (pu h102 (cF 1 v96 v97)) fun v103 h103 =>
 aB (fB (aN 1 v103 v102 h103)) fun v104 h104 =>
 lp [(aI x49 0), (aI x49 1), (aI x49 2), (aI x49 3), (aI x49 4), (aI x49 7)] h104)))
 (aB (pu h49 (aQ Tryd.prog .eql 3 true (aI x49 8) (.int .i64 20))) fun v105 h105 =>
 aK v105
 (aB (pu h105 (aA 5 (aI x49 6))) fun v106 h106 =>
 aB (pu h106 (aC G false 1 v106 h106)) fun v107 h107 =>
 aB (pu h107 (aQ Tryd.prog .add 3 false (aI x49 5) v107)) fun v108 h108 =>
 lp [(aI x49 0), (aI x49 1), (aI x49 2), (aI x49 3), (aI x49 4), v108] h108)
 (eM (
 aB (pu h105 (aQ Tryd.prog .eql 3 true (aI x49 8) (.int .i64 21))) fun v109 h109 =>
 aK v109
 (some (.normal, [(aI x49 0), (aI x49 1), (aI x49 2), (aI x49 3), (aI x49 4), (aI x49 5), (aI x49 6), (aI x49 7), (aI x49 8), v109], h109))
 (aB (pu h109 (aQ Tryd.prog .eql 3 true (aI x49 8) (.int .i64 22))) fun v110 h110 =>
 aK v110
 (some (.normal, [(aI x49 0), (aI x49 1), (aI x49 2), (aI x49 3), (aI x49 4), (aI x49 5), (aI x49 6), (aI x49 7), (aI x49 8), v110], h110))
 (aB (pu h110 (aQ Tryd.prog .eql 3 true (aI x49 8) (.int .i64 23))) fun v111 h111 =>
 some (.normal, [(aI x49 0), (aI x49 1), (aI x49 2), (aI x49 3), (aI x49 4), (aI x49 5), (aI x49 6), (aI x49 7), (aI x49 8), v111], h111)))) fun e112 x112 h112 => jJ e112
 (aK (aI x112 9)
 (aB (pu h112 (aA 4 (aI x112 6))) fun v113 h113 =>
 aB (pu h113 (aC G false 1 v113 h113)) fun v114 h114 =>
 aB (pu h114 (aC G true 4 (aI x112 4) h114)) fun v115 h115 =>
 aB (aE (bJ.f G k) [v114, v115] h115) fun v116 h116 =>
 eM (
 aB (pu h116 (aA 0 (aI x112 6))) fun v117 h117 =>
 aB (pu h117 (aC G false 1 v117 h117)) fun v118 h118 =>
 aB (pu h118 (aQ Tryd.prog .neq 3 true v118 (.int .i64 21))) fun v119 h119 =>
 aK v119
 (aB (pu h119 (aA 2 (aI x112 3))) fun v120 h120 =>
 aB (pu h120 (aC G true 31 v120 h120)) fun v121 h121 =>
 aB (pu h121 (aA 1 (aI x112 6))) fun v122 h122 =>
 aB (pu h122 (aC G false 1 v122 h122)) fun v123 h123 =>
 aB (aE (aV.f G k) [v121, v123] h123) fun v124 h124 =>
 aB (pu h124 (aQ Tryd.prog .eql 43 true v124 (.int .u64 0))) fun v125 h125 =>
 aB (pu h125 (aA 0 (aI x112 6))) fun v126 h126 =>
 aB (pu h126 (aC G false 1 v126 h126)) fun v127 h127 =>
 aB (pu h127 (aQ Tryd.prog .eql 3 true v127 (.int .i64 22))) fun v128 h128 =>
 aB (pu h128 (aQ Tryd.prog .eql 4 false v125 v128)) fun v129 h129 =>
 some (.normal, [(aI x112 0), (aI x112 1), (aI x112 2), (aI x112 3), (aI x112 4), (aI x112 5), (aI x112 6), (aI x112 7), v129], h129))
 (some (.normal, [(aI x112 0), (aI x112 1), (aI x112 2), (aI x112 3), (aI x112 4), (aI x112 5), (aI x112 6), (aI x112 7), v116], h119))) fun e130 x130 h130 => jJ e130
 (aB (pu h130 (aA 33 (aI x130 3))) fun v131 h131 =>
 aB (pu h131 (aC G false 1 v131 h131)) fun v132 h132 =>
 aB (aE (bT.f G k) [(aI x130 8)] h132) fun v133 h133 =>
 aB (pu h133 (bA [(0, 1), (1, 1)] [(.int .i64 0), (.int .i64 0)] [(0, (.int .i64 2)), (1, v133)])) fun v134 h134 =>
 aB (fK 2 1 (.agg [(.int .i64 0), (.int .i64 0)]) [(0, v134)] h134) fun v135 h135 =>
 aB (fI 107 2 v132 v135 h135) fun v136 h136 =>
 aB (pu h136 (aA 33 (aI x130 3))) fun v137 h137 =>
 aB (fB (aN 1 v137 v136 h137)) fun v138 h138 =>
 aK (aI x130 8)
 (aB (pu h138 (aA 5 (aI x130 6))) fun v139 h139 =>
 aB (pu h139 (aC G false 1 v139 h139)) fun v140 h140 =>
 aB (pu h140 (aQ Tryd.prog .add 3 false (aI x130 5) v140)) fun v141 h141 =>
 lp [(aI x130 0), (aI x130 1), (aI x130 2), (aI x130 3), (aI x130 4), v141] h141)
 (lp [(aI x130 0), (aI x130 1), (aI x130 2), (aI x130 3), (aI x130 4), (aI x130 7)] h138))
 (fun i130 => if i130 = 2 then (lp [(aI x130 0), (aI x130 1), (aI x130 2), (aI x130 3), (aI x130 4), (aI x130 7)] h130) else (if i130 = 1 then (lp [(aI x130 0), (aI x130 1), (aI x130 2), (aI x130 3), (aI x130 4), (aI x130 5)] h130) else (some (.exit i130, [(aI x130 0), (aI x130 1), (aI x130 2), (aI x130 3), (aI x130 4), (aI x130 5)], h130))))
 (some (.ret, [(aI x130 0), (aI x130 1), (aI x130 2), (aI x130 3), (aI x130 4), (aI x130 5)], h130)))
 (aB (pu h112 (aQ Tryd.prog .eql 3 true (aI x112 8) (.int .i64 24))) fun v142 h142 =>
 aK v142
 (aB (pu h142 (aA 5 (aI x112 6))) fun v143 h143 =>
 aB (pu h143 (aC G false 1 v143 h143)) fun v144 h144 =>
 aB (pu h144 (aQ Tryd.prog .leq 3 true v144 (.int .i64 2))) fun v145 h145 =>
 aK v145
 (aB (pu h145 (aA 5 (aI x112 6))) fun v146 h146 =>
 aB (pu h146 (aC G false 1 v146 h146)) fun v147 h147 =>
 aB (pu h147 (aA 0 (aI x112 3))) fun v148 h148 =>
 aB (fB (aN 1 v148 v147 h148)) fun v149 h149 =>
 aB (pu h149 (aC G true 35 (aI x112 3) h149)) fun v150 h150 =>
 aB (fB (aN 35 (aI x112 2) v150 h150)) fun v151 h151 =>
 some (.ret, [(aI x112 0), (aI x112 1), (aI x112 2), (aI x112 3), (aI x112 4), (aI x112 5)], h151))
 (aB (pu h145 (aC G true 35 (aI x112 3) h145)) fun v152 h152 =>
 aB (fB (aN 35 (aI x112 2) v152 h152)) fun v153 h153 =>
 some (.ret, [(aI x112 0), (aI x112 1), (aI x112 2), (aI x112 3), (aI x112 4), (aI x112 5)], h153)))
 (aB (pu h142 (aC G true 6 (aI x112 6) h142)) fun v154 h154 =>
 aB (pu h154 (aA 2 (aI x112 3))) fun v155 h155 =>
 aB (pu h155 (aC G true 31 v155 h155)) fun v156 h156 =>
 aB (pu h156 (aC G true 4 (aI x112 4) h156)) fun v157 h157 =>
 aB (aE (aL.f G k) [v154, v156, v157] h157) fun v158 h158 =>
 aB (pu h158 (cU v158 0)) fun v159 h159 =>
 aB (pu h159 (cU v158 1)) fun v160 h160 =>
 aB (pu h160 (cU v158 2)) fun v161 h161 =>
 aB (fF 44 (.agg [(.int .u64 0), (.int .u64 0), (.int .u64 0), (.int .u64 0), (.int .u64 0), (.int .u64 0), (.int .u64 0), (.int .u64 0), (.int .u64 0), (.int .u64 0), (.int .u64 0), (.int .u64 0), (.int .u64 0), (.int .u64 0), (.int .u64 0), (.int .u64 0), (.int .u64 0), (.int .u64 0), (.int .u64 0), (.int .u64 0), (.int .u64 0), (.int .u64 0), (.int .u64 0), (.int .u64 0), (.int .u64 0), (.int .u64 0), (.int .u64 0), (.int .u64 0), (.int .u64 0), (.int .u64 0), (.int .u64 0)]) h161) fun v162 h162 =>
 aB (fF 53 (.agg [(.bool false), (.bool false), (.bool false), (.bool false)]) h162) fun v163 h163 =>
 aB (fB (aN 31 v162 v159 h163)) fun v164 h164 =>
 aB (fB (aN 4 v163 v160 h164)) fun v165 h165 =>
 aB (pu h165 (aC G true 31 v162 h165)) fun v166 h166 =>
 aB (pu h166 (aA 2 (aI x112 3))) fun v167 h167 =>
 aB (fB (aN 31 v167 v166 h167)) fun v168 h168 =>
 aB (pu h168 (aC G true 4 v163 h168)) fun v169 h169 =>
 aB (fB (aN 4 (aI x112 4) v169 h169)) fun v170 h170 =>
 lp [(aI x112 0), (aI x112 1), (aI x112 2), (aI x112 3), (aI x112 4), (aI x112 7)] h170)))
 (fun i112 => if i112 = 2 then (lp [(aI x112 0), (aI x112 1), (aI x112 2), (aI x112 3), (aI x112 4), (aI x112 7)] h112) else (if i112 = 1 then (lp [(aI x112 0), (aI x112 1), (aI x112 2), (aI x112 3), (aI x112 4), (aI x112 5)] h112) else (some (.exit i112, [(aI x112 0), (aI x112 1), (aI x112 2), (aI x112 3), (aI x112 4), (aI x112 5)], h112))))
 (some (.ret, [(aI x112 0), (aI x112 1), (aI x112 2), (aI x112 3), (aI x112 4), (aI x112 5)], h112)))))
 (fun i49 => if i49 = 2 then (lp [(aI x49 0), (aI x49 1), (aI x49 2), (aI x49 3), (aI x49 4), (aI x49 7)] h49) else (if i49 = 1 then (lp [(aI x49 0), (aI x49 1), (aI x49 2), (aI x49 3), (aI x49 4), (aI x49 5)] h49) else (some (.exit i49, [(aI x49 0), (aI x49 1), (aI x49 2), (aI x49 3), (aI x49 4), (aI x49 5)], h49))))
 (some (.ret, [(aI x49 0), (aI x49 1), (aI x49 2), (aI x49 3), (aI x49 4), (aI x49 5)], h49)))))
noncomputable def aX.c (G : aG) (k : Nat) (self : dA) (x0 x1 x2 : AV) (h : aF) : Option (AV × aF) := gA (
 aB (fF 46 (.agg [(.int .i64 0), .nils, (.int .u64 0), (.int .u64 0), (.int .u64 0), (.int .u64 0), (.int .u64 0), (.int .u64 0), (.int .u64 0), (.int .u64 0), (.int .u64 0), (.int .u64 0), (.int .u64 0), (.int .u64 0), (.int .u64 0), (.int .u64 0), (.int .u64 0), (.int .u64 0), (.int .u64 0), (.int .u64 0), (.int .u64 0), (.int .u64 0), (.int .u64 0), (.int .u64 0), (.int .u64 0), (.int .u64 0), (.int .u64 0), (.int .u64 0), (.int .u64 0), (.int .u64 0), (.int .u64 0), (.int .u64 0), (.int .u64 0), .nils, (.int .i64 0)]) h) fun v0 h0 =>
 aB (bK (aY.f G k) [x1] h0) fun v1 h1 =>
 aB (pu h1 (bA [(0, 1), (1, 1), (2, 31), (33, 1), (34, 1)] [(.int .i64 0), .nils, (.int .u64 0), (.int .u64 0), (.int .u64 0), (.int .u64 0), (.int .u64 0), (.int .u64 0), (.int .u64 0), (.int .u64 0), (.int .u64 0), (.int .u64 0), (.int .u64 0), (.int .u64 0), (.int .u64 0), (.int .u64 0), (.int .u64 0), (.int .u64 0), (.int .u64 0), (.int .u64 0), (.int .u64 0), (.int .u64 0), (.int .u64 0), (.int .u64 0), (.int .u64 0), (.int .u64 0), (.int .u64 0), (.int .u64 0), (.int .u64 0), (.int .u64 0), (.int .u64 0), (.int .u64 0), (.int .u64 0), .nils, (.int .i64 0)] [(1, v1), (0, (.int .i64 3))])) fun v2 h2 =>
 aB (fF 46 (.agg [(.int .i64 0), .nils, (.int .u64 0), (.int .u64 0), (.int .u64 0), (.int .u64 0), (.int .u64 0), (.int .u64 0), (.int .u64 0), (.int .u64 0), (.int .u64 0), (.int .u64 0), (.int .u64 0), (.int .u64 0), (.int .u64 0), (.int .u64 0), (.int .u64 0), (.int .u64 0), (.int .u64 0), (.int .u64 0), (.int .u64 0), (.int .u64 0), (.int .u64 0), (.int .u64 0), (.int .u64 0), (.int .u64 0), (.int .u64 0), (.int .u64 0), (.int .u64 0), (.int .u64 0), (.int .u64 0), (.int .u64 0), (.int .u64 0), .nils, (.int .i64 0)]) h2) fun v3 h3 =>
 aB (fB (aN 35 v3 v2 h3)) fun v4 h4 =>
 aB (fF 53 (.agg [(.bool false), (.bool false), (.bool false), (.bool false)]) h4) fun v5 h5 =>
 vK [(v0, 33, 107, 2), (v3, 33, 107, 2)] h5 fun hv6 =>
 eM (gP (aX.l4 G k hv6.length self) k [x0, x2, v0, v3, v5, (.int .i64 0)] hv6) fun e6 x6 h6 => jJ e6
 (fL [aC G true 35 (aI x6 2) h6] h.length h6)
 (fun i6 => if i6 = 0 then (fL [aC G true 35 (aI x6 2) h6] h.length h6) else (none))
 (fL [aC G true 35 (aI x6 2) h6] h.length h6))
noncomputable def aX.f (G : aG) : Nat → dA
 | 0 => fun _ _ => none
 | k + 1 => fun args h => vX args fun x0 x1 x2 => (aX.c G k (aX.f G k) x0 x1 x2 h)
theorem aX.step (G : aG) (k : Nat) (x0 x1 x2 : AV) (h : aF) : aX.f G (k + 1) [x0, x1, x2] h = aX.c G k (aX.f G k) x0 x1 x2 h := rfl
end Go.Proofs.YtdfglgnflldkpaaDoor.Mir
