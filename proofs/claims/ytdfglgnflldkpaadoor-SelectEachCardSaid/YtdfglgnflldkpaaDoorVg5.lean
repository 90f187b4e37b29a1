/- Part 5 of the proof: the functions that the statement reaches, and their contracts. -/
import Derived.Test.YtdfglgnflldkpaaDoorVg4
import Derived.Test.YtdfglgnflldkpaaDoorProg
namespace Go.Proofs.YtdfglgnflldkpaaDoor.Mir
open Go
set_option linter.unusedVariables false
noncomputable def gP.ann : Ann := gG [] [] [] []
noncomputable def gP.env (G : aI) (k : Nat) (self : dE) : List (Nat × Bool × dE) := []
noncomputable def gP.c (G : aI) (k : Nat) (self : dE) (x0 x1 x2 : AV) (h : aF) : Option (AV × aF) := fZ (
 aB (eY 141 (.agg [(.str ⟨#[]⟩), (.int .u32 0), (.bool false), (.bool false), (.bool false), (.bool false), (.int .i64 0)]) h) fun v0 h0 =>
 aB (pu h0 (aZ [(0, 1), (1, 1), (2, 1), (3, 1), (4, 1), (5, 1), (6, 1)] [(.str ⟨#[]⟩), (.int .u32 0), (.bool false), (.bool false), (.bool false), (.bool false), (.int .i64 0)] [(0, x0), (1, x1), (2, (.bool true)), (3, (.bool true)), (6, x2)])) fun v1 h1 =>
 aB (eH (aO 7 v0 v1 h1)) fun v2 h2 =>
 fX [aC G true 7 v0 h2] h.length h2)
noncomputable def gP.f (G : aI) : Nat → dE
 | 0 => fun _ _ => none
 | k + 1 => fun args h => yE args fun x0 x1 x2 => (gP.c G k (gP.f G k) x0 x1 x2 h)
noncomputable def fT.ann : Ann := gG [] [] [] []
noncomputable def fT.env (G : aI) (k : Nat) (self : dE) : List (Nat × Bool × dE) := []
noncomputable def fT.c (G : aI) (k : Nat) (self : dE) (x0 x1 : AV) (h : aF) : Option (AV × aF) := fZ (
 aB (eY 141 (.agg [(.str ⟨#[]⟩), (.int .u32 0), (.bool false), (.bool false), (.bool false), (.bool false), (.int .i64 0)]) h) fun v0 h0 =>
 aB (pu h0 (aZ [(0, 1), (1, 1), (2, 1), (3, 1), (4, 1), (5, 1), (6, 1)] [(.str ⟨#[]⟩), (.int .u32 0), (.bool false), (.bool false), (.bool false), (.bool false), (.int .i64 0)] [(0, x0), (1, x1), (2, (.bool true)), (3, (.bool true)), (4, (.bool true))])) fun v1 h1 =>
 aB (eH (aO 7 v0 v1 h1)) fun v2 h2 =>
 fX [aC G true 7 v0 h2] h.length h2)
noncomputable def fT.f (G : aI) : Nat → dE
 | 0 => fun _ _ => none
 | k + 1 => fun args h => nJ args fun x0 x1 => (fT.c G k (fT.f G k) x0 x1 h)
noncomputable def fH.ann : Ann := gG [] [] [] []
noncomputable def fH.env (G : aI) (k : Nat) (self : dE) : List (Nat × Bool × dE) := [(92, true, gP.f G k), (107, true, fT.f G k)]
noncomputable def fH.c (G : aI) (k : Nat) (self : dE) (x0 : AV) (h : aF) : Option (AV × aF) := fZ (
 aB (eY 141 (.agg [(.str ⟨#[]⟩), (.int .u32 0), (.bool false), (.bool false), (.bool false), (.bool false), (.int .i64 0)]) h) fun v0 h0 =>
 aB (pu h0 (aQ Tryd.prog .eql 3 true x0 (.int .i64 1))) fun v1 h1 =>
 aK v1
 (aB (pu h1 (aZ [(0, 1), (1, 1), (2, 1), (3, 1), (4, 1), (5, 1), (6, 1)] [(.str ⟨#[]⟩), (.int .u32 0), (.bool false), (.bool false), (.bool false), (.bool false), (.int .i64 0)] [(0, (.str ⟨#[109, 111, 118, 122]⟩)), (1, (.int .u32 3531603968)), (2, (.bool true)), (5, (.bool true)), (6, (.int .i64 16))])) fun v2 h2 =>
 aB (eH (aO 7 v0 v2 h2)) fun v3 h3 =>
 fX [aC G true 7 v0 h3, some (.bool true)] h.length h3)
 (aB (pu h1 (aQ Tryd.prog .eql 3 true x0 (.int .i64 2))) fun v4 h4 =>
 aK v4
 (aB (pu h4 (aZ [(0, 1), (1, 1), (2, 1), (3, 1), (4, 1), (5, 1), (6, 1)] [(.str ⟨#[]⟩), (.int .u32 0), (.bool false), (.bool false), (.bool false), (.bool false), (.int .i64 0)] [(0, (.str ⟨#[109, 111, 118, 107]⟩)), (1, (.int .u32 4068474880)), (2, (.bool true)), (5, (.bool true)), (6, (.int .i64 16))])) fun v5 h5 =>
 aB (eH (aO 7 v0 v5 h5)) fun v6 h6 =>
 fX [aC G true 7 v0 h6, some (.bool true)] h.length h6)
 (aB (pu h4 (aQ Tryd.prog .eql 3 true x0 (.int .i64 3))) fun v7 h7 =>
 aK v7
 (aB (aE (fT.f G k) [(.str ⟨#[97, 100, 100]⟩), (.int .u32 2332033024)] h7) fun v8 h8 =>
 aB (eH (aO 7 v0 v8 h8)) fun v9 h9 =>
 fX [aC G true 7 v0 h9, some (.bool true)] h.length h9)
 (aB (pu h7 (aQ Tryd.prog .eql 3 true x0 (.int .i64 4))) fun v10 h10 =>
 aK v10
 (aB (aE (fT.f G k) [(.str ⟨#[115, 117, 98]⟩), (.int .u32 3405774848)] h10) fun v11 h11 =>
 aB (eH (aO 7 v0 v11 h11)) fun v12 h12 =>
 fX [aC G true 7 v0 h12, some (.bool true)] h.length h12)
 (aB (pu h10 (aQ Tryd.prog .eql 3 true x0 (.int .i64 5))) fun v13 h13 =>
 aK v13
 (aB (aE (fT.f G k) [(.str ⟨#[97, 110, 100]⟩), (.int .u32 2315255808)] h13) fun v14 h14 =>
 aB (eH (aO 7 v0 v14 h14)) fun v15 h15 =>
 fX [aC G true 7 v0 h15, some (.bool true)] h.length h15)
 (aB (pu h13 (aQ Tryd.prog .eql 3 true x0 (.int .i64 6))) fun v16 h16 =>
 aK v16
 (aB (aE (fT.f G k) [(.str ⟨#[111, 114, 114]⟩), (.int .u32 2852126720)] h16) fun v17 h17 =>
 aB (eH (aO 7 v0 v17 h17)) fun v18 h18 =>
 fX [aC G true 7 v0 h18, some (.bool true)] h.length h18)
 (aB (pu h16 (aQ Tryd.prog .eql 3 true x0 (.int .i64 7))) fun v19 h19 =>
 aK v19
 (aB (aE (fT.f G k) [(.str ⟨#[101, 111, 114]⟩), (.int .u32 3388997632)] h19) fun v20 h20 =>
 aB (eH (aO 7 v0 v20 h20)) fun v21 h21 =>
 fX [aC G true 7 v0 h21, some (.bool true)] h.length h21)
 (aB (pu h19 (aQ Tryd.prog .eql 3 true x0 (.int .i64 8))) fun v22 h22 =>
 aK v22
 (aB (pu h22 (aZ [(0, 1), (1, 1), (2, 1), (3, 1), (4, 1), (5, 1), (6, 1)] [(.str ⟨#[]⟩), (.int .u32 0), (.bool false), (.bool false), (.bool false), (.bool false), (.int .i64 0)] [(0, (.str ⟨#[109, 97, 100, 100]⟩)), (1, (.int .u32 2600468480)), (2, (.bool true)), (3, (.bool true)), (4, (.bool true)), (5, (.bool true))])) fun v23 h23 =>
 aB (eH (aO 7 v0 v23 h23)) fun v24 h24 =>
 fX [aC G true 7 v0 h24, some (.bool true)] h.length h24)
 (aB (pu h22 (aQ Tryd.prog .eql 3 true x0 (.int .i64 9))) fun v25 h25 =>
 aK v25
 (aB (aE (fT.f G k) [(.str ⟨#[117, 109, 117, 108, 104]⟩), (.int .u32 2613083136)] h25) fun v26 h26 =>
 aB (eH (aO 7 v0 v26 h26)) fun v27 h27 =>
 fX [aC G true 7 v0 h27, some (.bool true)] h.length h27)
 (aB (pu h25 (aQ Tryd.prog .eql 3 true x0 (.int .i64 10))) fun v28 h28 =>
 aK v28
 (aB (aE (gP.f G k) [(.str ⟨#[97, 100, 100, 105]⟩), (.int .u32 2432696320), (.int .i64 12)] h28) fun v29 h29 =>
 aB (eH (aO 7 v0 v29 h29)) fun v30 h30 =>
 fX [aC G true 7 v0 h30, some (.bool true)] h.length h30)
 (aB (pu h28 (aQ Tryd.prog .eql 3 true x0 (.int .i64 11))) fun v31 h31 =>
 aK v31
 (aB (aE (gP.f G k) [(.str ⟨#[115, 117, 98, 105]⟩), (.int .u32 3506438144), (.int .i64 12)] h31) fun v32 h32 =>
 aB (eH (aO 7 v0 v32 h32)) fun v33 h33 =>
 fX [aC G true 7 v0 h33, some (.bool true)] h.length h33)
 (aB (pu h31 (aQ Tryd.prog .eql 3 true x0 (.int .i64 12))) fun v34 h34 =>
 aK v34
 (aB (aE (gP.f G k) [(.str ⟨#[108, 115, 108]⟩), (.int .u32 3544186880), (.int .i64 6)] h34) fun v35 h35 =>
 aB (eH (aO 7 v0 v35 h35)) fun v36 h36 =>
 fX [aC G true 7 v0 h36, some (.bool true)] h.length h36)
 (aB (pu h34 (aQ Tryd.prog .eql 3 true x0 (.int .i64 13))) fun v37 h37 =>
 aK v37
 (aB (aE (gP.f G k) [(.str ⟨#[108, 115, 114]⟩), (.int .u32 3544186880), (.int .i64 6)] h37) fun v38 h38 =>
 aB (eH (aO 7 v0 v38 h38)) fun v39 h39 =>
 fX [aC G true 7 v0 h39, some (.bool true)] h.length h39)
 (aB (pu h37 (aQ Tryd.prog .eql 3 true x0 (.int .i64 14))) fun v40 h40 =>
 aK v40
 (aB (aE (gP.f G k) [(.str ⟨#[97, 115, 114]⟩), (.int .u32 2470509568), (.int .i64 6)] h40) fun v41 h41 =>
 aB (eH (aO 7 v0 v41 h41)) fun v42 h42 =>
 fX [aC G true 7 v0 h42, some (.bool true)] h.length h42)
 (aB (pu h40 (aZ [(0, 1), (1, 1), (2, 1), (3, 1), (4, 1), (5, 1), (6, 1)] [(.str ⟨#[]⟩), (.int .u32 0), (.bool false), (.bool false), (.bool false), (.bool false), (.int .i64 0)] [])) fun v43 h43 =>
 aB (eH (aO 7 v0 v43 h43)) fun v44 h44 =>
 fX [aC G true 7 v0 h44, some (.bool false)] h.length h44)))))))))))))))
noncomputable def fH.f (G : aI) : Nat → dE
 | 0 => fun _ _ => none
 | k + 1 => fun args h => nX args fun x0 => (fH.c G k (fH.f G k) x0 h)
theorem fH.step (G : aI) (k : Nat) (x0 : AV) (h : aF) : fH.f G (k + 1) [x0] h = fH.c G k (fH.f G k) x0 h := rfl
noncomputable def eZ.ann : Ann := gG [] [] [] []
noncomputable def eZ.env (G : aI) (k : Nat) (self : dE) : List (Nat × Bool × dE) := [(92, true, gP.f G k), (93, true, fH.f G k)]
noncomputable def eZ.c (G : aI) (k : Nat) (self : dE) (x0 : AV) (h : aF) : Option (AV × aF) := fZ (
 aB (eY 141 (.agg [(.str ⟨#[]⟩), (.int .u32 0), (.bool false), (.bool false), (.bool false), (.bool false), (.int .i64 0)]) h) fun v0 h0 =>
 aB (pu h0 (aQ Tryd.prog .eql 3 true x0 (.int .i64 15))) fun v1 h1 =>
 aK v1
 (aB (pu h1 (aZ [(0, 1), (1, 1), (2, 1), (3, 1), (4, 1), (5, 1), (6, 1)] [(.str ⟨#[]⟩), (.int .u32 0), (.bool false), (.bool false), (.bool false), (.bool false), (.int .i64 0)] [(0, (.str ⟨#[99, 109, 112]⟩)), (1, (.int .u32 3942645791)), (3, (.bool true)), (4, (.bool true))])) fun v2 h2 =>
 aB (eH (aO 7 v0 v2 h2)) fun v3 h3 =>
 fX [aC G true 7 v0 h3, some (.bool true)] h.length h3)
 (aB (pu h1 (aQ Tryd.prog .eql 3 true x0 (.int .i64 16))) fun v4 h4 =>
 aK v4
 (aB (pu h4 (aZ [(0, 1), (1, 1), (2, 1), (3, 1), (4, 1), (5, 1), (6, 1)] [(.str ⟨#[]⟩), (.int .u32 0), (.bool false), (.bool false), (.bool false), (.bool false), (.int .i64 0)] [(0, (.str ⟨#[99, 115, 101, 108]⟩)), (1, (.int .u32 2592079872)), (2, (.bool true)), (3, (.bool true)), (4, (.bool true)), (5, (.bool true))])) fun v5 h5 =>
 aB (eH (aO 7 v0 v5 h5)) fun v6 h6 =>
 fX [aC G true 7 v0 h6, some (.bool true)] h.length h6)
 (aB (pu h4 (aQ Tryd.prog .eql 3 true x0 (.int .i64 17))) fun v7 h7 =>
 aK v7
 (aB (pu h7 (aZ [(0, 1), (1, 1), (2, 1), (3, 1), (4, 1), (5, 1), (6, 1)] [(.str ⟨#[]⟩), (.int .u32 0), (.bool false), (.bool false), (.bool false), (.bool false), (.int .i64 0)] [(0, (.str ⟨#[99, 115, 101, 116]⟩)), (1, (.int .u32 2594113504)), (2, (.bool true)), (5, (.bool true))])) fun v8 h8 =>
 aB (eH (aO 7 v0 v8 h8)) fun v9 h9 =>
 fX [aC G true 7 v0 h9, some (.bool true)] h.length h9)
 (aB (pu h7 (aQ Tryd.prog .eql 3 true x0 (.int .i64 18))) fun v10 h10 =>
 aK v10
 (aB (aE (gP.f G k) [(.str ⟨#[108, 100, 114]⟩), (.int .u32 4181721088), (.int .i64 12)] h10) fun v11 h11 =>
 aB (eH (aO 7 v0 v11 h11)) fun v12 h12 =>
 fX [aC G true 7 v0 h12, some (.bool true)] h.length h12)
 (aB (pu h10 (aQ Tryd.prog .eql 3 true x0 (.int .i64 19))) fun v13 h13 =>
 aK v13
 (aB (aE (gP.f G k) [(.str ⟨#[115, 116, 114]⟩), (.int .u32 4177526784), (.int .i64 12)] h13) fun v14 h14 =>
 aB (eH (aO 7 v0 v14 h14)) fun v15 h15 =>
 fX [aC G true 7 v0 h15, some (.bool true)] h.length h15)
 (aB (pu h13 (aQ Tryd.prog .eql 3 true x0 (.int .i64 20))) fun v16 h16 =>
 aK v16
 (aB (pu h16 (aZ [(0, 1), (1, 1), (2, 1), (3, 1), (4, 1), (5, 1), (6, 1)] [(.str ⟨#[]⟩), (.int .u32 0), (.bool false), (.bool false), (.bool false), (.bool false), (.int .i64 0)] [(0, (.str ⟨#[98]⟩)), (1, (.int .u32 335544320)), (6, (.int .i64 26))])) fun v17 h17 =>
 aB (eH (aO 7 v0 v17 h17)) fun v18 h18 =>
 fX [aC G true 7 v0 h18, some (.bool true)] h.length h18)
 (aB (pu h16 (aQ Tryd.prog .eql 3 true x0 (.int .i64 21))) fun v19 h19 =>
 aK v19
 (aB (pu h19 (aZ [(0, 1), (1, 1), (2, 1), (3, 1), (4, 1), (5, 1), (6, 1)] [(.str ⟨#[]⟩), (.int .u32 0), (.bool false), (.bool false), (.bool false), (.bool false), (.int .i64 0)] [(0, (.str ⟨#[98, 99, 99]⟩)), (1, (.int .u32 1409286144)), (5, (.bool true)), (6, (.int .i64 19))])) fun v20 h20 =>
 aB (eH (aO 7 v0 v20 h20)) fun v21 h21 =>
 fX [aC G true 7 v0 h21, some (.bool true)] h.length h21)
 (aB (pu h19 (aQ Tryd.prog .eql 3 true x0 (.int .i64 22))) fun v22 h22 =>
 aK v22
 (aB (pu h22 (aZ [(0, 1), (1, 1), (2, 1), (3, 1), (4, 1), (5, 1), (6, 1)] [(.str ⟨#[]⟩), (.int .u32 0), (.bool false), (.bool false), (.bool false), (.bool false), (.int .i64 0)] [(0, (.str ⟨#[99, 98, 122]⟩)), (1, (.int .u32 3019898880)), (2, (.bool true)), (6, (.int .i64 19))])) fun v23 h23 =>
 aB (eH (aO 7 v0 v23 h23)) fun v24 h24 =>
 fX [aC G true 7 v0 h24, some (.bool true)] h.length h24)
 (aB (pu h22 (aQ Tryd.prog .eql 3 true x0 (.int .i64 23))) fun v25 h25 =>
 aK v25
 (aB (pu h25 (aZ [(0, 1), (1, 1), (2, 1), (3, 1), (4, 1), (5, 1), (6, 1)] [(.str ⟨#[]⟩), (.int .u32 0), (.bool false), (.bool false), (.bool false), (.bool false), (.int .i64 0)] [(0, (.str ⟨#[99, 98, 110, 122]⟩)), (1, (.int .u32 3036676096)), (2, (.bool true)), (6, (.int .i64 19))])) fun v26 h26 =>
 aB (eH (aO 7 v0 v26 h26)) fun v27 h27 =>
 fX [aC G true 7 v0 h27, some (.bool true)] h.length h27)
 (aB (pu h25 (aQ Tryd.prog .eql 3 true x0 (.int .i64 24))) fun v28 h28 =>
 aK v28
 (aB (pu h28 (aZ [(0, 1), (1, 1), (2, 1), (3, 1), (4, 1), (5, 1), (6, 1)] [(.str ⟨#[]⟩), (.int .u32 0), (.bool false), (.bool false), (.bool false), (.bool false), (.int .i64 0)] [(0, (.str ⟨#[104, 108, 116]⟩)), (1, (.int .u32 3560964096)), (6, (.int .i64 16))])) fun v29 h29 =>
 aB (eH (aO 7 v0 v29 h29)) fun v30 h30 =>
 fX [aC G true 7 v0 h30, some (.bool true)] h.length h30)
 (aB (aE (fH.f G k) [x0] h28) fun v31 h31 =>
 aB (pu h31 (cL v31 0)) fun v32 h32 =>
 aB (pu h32 (cL v31 1)) fun v33 h33 =>
 aB (eH (aO 7 v0 v32 h33)) fun v34 h34 =>
 fX [aC G true 7 v0 h34, some v33] h.length h34)))))))))))
noncomputable def eZ.f (G : aI) : Nat → dE
 | 0 => fun _ _ => none
 | k + 1 => fun args h => nX args fun x0 => (eZ.c G k (eZ.f G k) x0 h)
theorem eZ.step (G : aI) (k : Nat) (x0 : AV) (h : aF) : eZ.f G (k + 1) [x0] h = eZ.c G k (eZ.f G k) x0 h := rfl
noncomputable def dJ.ann : Ann := gG [] [] [] []
noncomputable def dJ.env (G : aI) (k : Nat) (self : dE) : List (Nat × Bool × dE) := []
noncomputable def dJ.c (G : aI) (k : Nat) (self : dE) (x0 x1 : AV) (h : aF) : Option (AV × aF) := fZ (
 aB (pu h (aQ Tryd.prog .eql 3 true x0 (.int .i64 0))) fun v0 h0 =>
 aB (gd v0 false h0 (some (x1, h0))) fun v1 h1 =>
 aB (gd v0 false h1 (some (v1, h1))) fun v2 h2 =>
 aB (gd v2 true h2 (some (x0, h2))) fun v3 h3 =>
 aB (gd v2 true h3 (pu h3 (aQ Tryd.prog .gtr 3 true v3 (.int .i64 0)))) fun v4 h4 =>
 aB (gd v0 false h4 (pu h4 (dM v2 v4 (.bool false)))) fun v5 h5 =>
 aB (gd v0 false h5 (some (v5, h5))) fun v6 h6 =>
 aB (gd v6 true h6 (some (x0, h6))) fun v7 h7 =>
 aB (gd v6 true h7 (pu h7 (aQ Tryd.prog .leq 3 true v7 (.int .i64 31)))) fun v8 h8 =>
 aB (gd v0 false h8 (pu h8 (dM v6 v8 (.bool false)))) fun v9 h9 =>
 aB (pu h9 (dM v0 (.bool true) v9)) fun v10 h10 =>
 bK [v10] h.length h10)
noncomputable def dJ.f (G : aI) : Nat → dE
 | 0 => fun _ _ => none
 | k + 1 => fun args h => nJ args fun x0 x1 => (dJ.c G k (dJ.f G k) x0 x1 h)
theorem dJ.step (G : aI) (k : Nat) (x0 x1 : AV) (h : aF) : dJ.f G (k + 1) [x0, x1] h = dJ.c G k (dJ.f G k) x0 x1 h := rfl
noncomputable def fG.ann : Ann := gG [] [] [] [(9, [1, 2]), (8, [1, 16]), (4, [1, 4, 5])]
noncomputable def fG.env (G : aI) (k : Nat) (self : dE) : List (Nat × Bool × dE) := []
noncomputable def fG.c (G : aI) (k : Nat) (self : dE) (x0 : AV) (h : aF) : Option (AV × aF) := fZ (
 aB (dH x0 h) fun v0 h0 =>
 dO (
 aB (pu h0 (aA 0 v0)) fun v1 h1 =>
 aB (pu h1 (aC G false 1 v1 h1)) fun v2 h2 =>
 dO (
 aB (pu h2 (aQ Tryd.prog .eql 3 true v2 (.int .i64 1))) fun v3 h3 =>
 aK v3
 (some (.normal, [v0, v2, v3], h3))
 (aB (pu h3 (aQ Tryd.prog .eql 3 true v2 (.int .i64 2))) fun v4 h4 =>
 some (.normal, [v0, v2, v4], h4))) fun e5 x5 h5 => jB e5
 (aK (aH x5 2)
 (aB (pu h5 (aA 4 (aH x5 0))) fun v6 h6 =>
 aB (pu h6 (aC G false 1 v6 h6)) fun v7 h7 =>
 aB (pu h7 (aQ Tryd.prog .geq 3 true v7 (.int .i64 0))) fun v8 h8 =>
 aB (gd v8 true h8 (pu h8 (aA 4 (aH x5 0)))) fun v9 h9 =>
 aB (gd v8 true h9 (pu h9 (aC G false 1 v9 h9))) fun v10 h10 =>
 aB (gd v8 true h10 (pu h10 (aQ Tryd.prog .leq 3 true v10 (.int .i64 3)))) fun v11 h11 =>
 aB (pu h11 (dM v8 v11 (.bool false))) fun v12 h12 =>
 some (.ret, [(aH x5 0), v12], h12))
 (dO (
 aB (pu h5 (aQ Tryd.prog .eql 3 true (aH x5 1) (.int .i64 16))) fun v13 h13 =>
 aK v13
 (some (.normal, [(aH x5 0), v13], h13))
 (aB (pu h13 (aQ Tryd.prog .eql 3 true (aH x5 1) (.int .i64 17))) fun v14 h14 =>
 aK v14
 (some (.normal, [(aH x5 0), v14], h14))
 (aB (pu h14 (aQ Tryd.prog .eql 3 true (aH x5 1) (.int .i64 21))) fun v15 h15 =>
 some (.normal, [(aH x5 0), v15], h15)))) fun e16 x16 h16 => jB e16
 (aK (aH x16 1)
 (aB (pu h16 (aA 4 (aH x16 0))) fun v17 h17 =>
 aB (pu h17 (aC G false 1 v17 h17)) fun v18 h18 =>
 aB (pu h18 (aQ Tryd.prog .geq 3 true v18 (.int .i64 0))) fun v19 h19 =>
 aB (gd v19 true h19 (pu h19 (aA 4 (aH x16 0)))) fun v20 h20 =>
 aB (gd v19 true h20 (pu h20 (aC G false 1 v20 h20))) fun v21 h21 =>
 aB (gd v19 true h21 (pu h21 (aQ Tryd.prog .leq 3 true v21 (.int .i64 3)))) fun v22 h22 =>
 aB (pu h22 (dM v19 v22 (.bool false))) fun v23 h23 =>
 aB (gd v23 false h23 (pu h23 (aA 4 (aH x16 0)))) fun v24 h24 =>
 aB (gd v23 false h24 (pu h24 (aC G false 1 v24 h24))) fun v25 h25 =>
 aB (gd v23 false h25 (pu h25 (aQ Tryd.prog .eql 3 true v25 (.int .i64 8)))) fun v26 h26 =>
 aB (pu h26 (dM v23 (.bool true) v26)) fun v27 h27 =>
 aB (gd v27 false h27 (pu h27 (aA 4 (aH x16 0)))) fun v28 h28 =>
 aB (gd v27 false h28 (pu h28 (aC G false 1 v28 h28))) fun v29 h29 =>
 aB (gd v27 false h29 (pu h29 (aQ Tryd.prog .eql 3 true v29 (.int .i64 9)))) fun v30 h30 =>
 aB (pu h30 (dM v27 (.bool true) v30)) fun v31 h31 =>
 some (.ret, [(aH x16 0), v31], h31))
 (some (.normal, [(aH x16 0), .undef], h16)))
 (fun i16 => if i16 = 0 then (some (.normal, [(aH x16 0), .undef], h16)) else (some (.exit i16, [(aH x16 0), .undef], h16)))
 (some (.ret, [(aH x16 0), .undef], h16))))
 (fun i5 => if i5 = 0 then (some (.normal, [(aH x5 0), .undef], h5)) else (some (.exit i5, [(aH x5 0), .undef], h5)))
 (some (.ret, [(aH x5 0), .undef], h5))) fun e32 x32 h32 => jB e32
 (aB (pu h32 (aA 4 (aH x32 0))) fun v33 h33 =>
 aB (pu h33 (aC G false 1 v33 h33)) fun v34 h34 =>
 aB (pu h34 (aQ Tryd.prog .geq 3 true v34 (.int .i64 0))) fun v35 h35 =>
 aB (gd v35 true h35 (pu h35 (aA 4 (aH x32 0)))) fun v36 h36 =>
 aB (gd v35 true h36 (pu h36 (aC G false 1 v36 h36))) fun v37 h37 =>
 aB (gd v35 true h37 (pu h37 (aQ Tryd.prog .leq 3 true v37 (.int .i64 31)))) fun v38 h38 =>
 aB (pu h38 (dM v35 v38 (.bool false))) fun v39 h39 =>
 bK [v39] h.length h39)
 (fun i32 => none)
 (bK [(aH x32 1)] h.length h32))
noncomputable def fG.f (G : aI) : Nat → dE
 | 0 => fun _ _ => none
 | k + 1 => fun args h => nX args fun x0 => (fG.c G k (fG.f G k) x0 h)
theorem fG.step (G : aI) (k : Nat) (x0 : AV) (h : aF) : fG.f G (k + 1) [x0] h = fG.c G k (fG.f G k) x0 h := rfl
noncomputable def eO.ann : Ann := gG [] [] [] []
noncomputable def eO.env (G : aI) (k : Nat) (self : dE) : List (Nat × Bool × dE) := []
noncomputable def eO.c (G : aI) (k : Nat) (self : dE) (x0 : AV) (h : aF) : Option (AV × aF) := fZ (
 aB (pu h (aQ Tryd.prog .geq 3 true x0 (.int .i64 20))) fun v0 h0 =>
 aB (gd v0 true h0 (some (x0, h0))) fun v1 h1 =>
 aB (gd v0 true h1 (pu h1 (aQ Tryd.prog .leq 3 true v1 (.int .i64 23)))) fun v2 h2 =>
 aB (pu h2 (dM v0 v2 (.bool false))) fun v3 h3 =>
 bK [v3] h.length h3)
noncomputable def eO.f (G : aI) : Nat → dE
 | 0 => fun _ _ => none
 | k + 1 => fun args h => nX args fun x0 => (eO.c G k (eO.f G k) x0 h)
theorem eO.step (G : aI) (k : Nat) (x0 : AV) (h : aF) : eO.f G (k + 1) [x0] h = eO.c G k (eO.f G k) x0 h := rfl
noncomputable def gO.ann : Ann := gG [] [] [] []
noncomputable def gO.env (G : aI) (k : Nat) (self : dE) : List (Nat × Bool × dE) := [(108, true, eO.f G k)]
noncomputable def gO.c (G : aI) (k : Nat) (self : dE) (x0 x1 : AV) (h : aF) : Option (AV × aF) := fZ (
 aB (dH x0 h) fun v0 h0 =>
 aB (pu h0 (aQ Tryd.prog .eql 3 true x1 (.int .i64 0))) fun v1 h1 =>
 aK v1
 (aB (pu h1 (aA 5 v0)) fun v2 h2 =>
 aB (pu h2 (aC G false 1 v2 h2)) fun v3 h3 =>
 aB (pu h3 (aQ Tryd.prog .eql 3 true v3 (.int .i64 0))) fun v4 h4 =>
 bK [v4] h.length h4)
 (aB (pu h1 (aA 0 v0)) fun v5 h5 =>
 aB (pu h5 (aC G false 1 v5 h5)) fun v6 h6 =>
 aB (aE (eO.f G k) [v6] h6) fun v7 h7 =>
 aK v7
 (aB (pu h7 (aA 5 v0)) fun v8 h8 =>
 aB (pu h8 (aC G false 1 v8 h8)) fun v9 h9 =>
 aB (pu h9 (aQ Tryd.prog .sub 3 true x1 (.int .i64 1))) fun v10 h10 =>
 aB (pu h10 (aQ Tryd.prog .shl 3 true (.int .i64 1) v10)) fun v11 h11 =>
 aB (pu h11 (un .neg v11)) fun v12 h12 =>
 aB (pu h12 (aQ Tryd.prog .geq 3 false v9 v12)) fun v13 h13 =>
 aB (gd v13 true h13 (pu h13 (aA 5 v0))) fun v14 h14 =>
 aB (gd v13 true h14 (pu h14 (aC G false 1 v14 h14))) fun v15 h15 =>
 aB (gd v13 true h15 (some (x1, h15))) fun v16 h16 =>
 aB (gd v13 true h16 (pu h16 (aQ Tryd.prog .sub 3 true v16 (.int .i64 1)))) fun v17 h17 =>
 aB (gd v13 true h17 (pu h17 (aQ Tryd.prog .shl 3 true (.int .i64 1) v17))) fun v18 h18 =>
 aB (gd v13 true h18 (pu h18 (aQ Tryd.prog .lss 3 false v15 v18))) fun v19 h19 =>
 aB (pu h19 (dM v13 v19 (.bool false))) fun v20 h20 =>
 bK [v20] h.length h20)
 (aB (pu h7 (aA 5 v0)) fun v21 h21 =>
 aB (pu h21 (aC G false 1 v21 h21)) fun v22 h22 =>
 aB (pu h22 (aQ Tryd.prog .geq 3 true v22 (.int .i64 0))) fun v23 h23 =>
 aB (gd v23 true h23 (pu h23 (aA 5 v0))) fun v24 h24 =>
 aB (gd v23 true h24 (pu h24 (aC G false 1 v24 h24))) fun v25 h25 =>
 aB (gd v23 true h25 (some (x1, h25))) fun v26 h26 =>
 aB (gd v23 true h26 (pu h26 (aQ Tryd.prog .shl 3 true (.int .i64 1) v26))) fun v27 h27 =>
 aB (gd v23 true h27 (pu h27 (aQ Tryd.prog .lss 3 false v25 v27))) fun v28 h28 =>
 aB (pu h28 (dM v23 v28 (.bool false))) fun v29 h29 =>
 bK [v29] h.length h29)))
noncomputable def gO.f (G : aI) : Nat → dE
 | 0 => fun _ _ => none
 | k + 1 => fun args h => nJ args fun x0 x1 => (gO.c G k (gO.f G k) x0 x1 h)
theorem gO.step (G : aI) (k : Nat) (x0 x1 : AV) (h : aF) : gO.f G (k + 1) [x0, x1] h = gO.c G k (gO.f G k) x0 x1 h := rfl
noncomputable def fI.ann : Ann := gG [] [] [] [(7, [1, 16]), (4, [1, 4, 5])]
noncomputable def fI.env (G : aI) (k : Nat) (self : dE) : List (Nat × Bool × dE) := []
noncomputable def fI.c (G : aI) (k : Nat) (self : dE) (x0 : AV) (h : aF) : Option (AV × aF) := fZ (
 aB (dH x0 h) fun v0 h0 =>
 aB (pu h0 (aA 0 v0)) fun v1 h1 =>
 aB (pu h1 (aC G false 1 v1 h1)) fun v2 h2 =>
 dO (
 aB (pu h2 (aQ Tryd.prog .eql 3 true v2 (.int .i64 10))) fun v3 h3 =>
 aK v3
 (some (.normal, [v0, v2, v3], h3))
 (aB (pu h3 (aQ Tryd.prog .eql 3 true v2 (.int .i64 11))) fun v4 h4 =>
 some (.normal, [v0, v2, v4], h4))) fun e5 x5 h5 => jB e5
 (aK (aH x5 2)
 (aB (pu h5 (aA 1 (aH x5 0))) fun v6 h6 =>
 aB (pu h6 (aC G false 1 v6 h6)) fun v7 h7 =>
 aB (pu h7 (aQ Tryd.prog .eql 3 true v7 (.int .i64 31))) fun v8 h8 =>
 aB (gd v8 false h8 (pu h8 (aA 2 (aH x5 0)))) fun v9 h9 =>
 aB (gd v8 false h9 (pu h9 (aC G false 1 v9 h9))) fun v10 h10 =>
 aB (gd v8 false h10 (pu h10 (aQ Tryd.prog .eql 3 true v10 (.int .i64 31)))) fun v11 h11 =>
 aB (pu h11 (dM v8 (.bool true) v11)) fun v12 h12 =>
 bK [v12] h.length h12)
 (dO (
 aB (pu h5 (aQ Tryd.prog .eql 3 true (aH x5 1) (.int .i64 18))) fun v13 h13 =>
 aK v13
 (some (.normal, [(aH x5 0), v13], h13))
 (aB (pu h13 (aQ Tryd.prog .eql 3 true (aH x5 1) (.int .i64 19))) fun v14 h14 =>
 some (.normal, [(aH x5 0), v14], h14))) fun e15 x15 h15 => jB e15
 (aK (aH x15 1)
 (aB (pu h15 (aA 2 (aH x15 0))) fun v16 h16 =>
 aB (pu h16 (aC G false 1 v16 h16)) fun v17 h17 =>
 aB (pu h17 (aQ Tryd.prog .eql 3 true v17 (.int .i64 31))) fun v18 h18 =>
 bK [v18] h.length h18)
 (bK [(.bool false)] h.length h15))
 (fun i15 => if i15 = 0 then (bK [(.bool false)] h.length h15) else (none))
 (bK [.undef] h.length h15)))
 (fun i5 => if i5 = 0 then (bK [(.bool false)] h.length h5) else (none))
 (bK [.undef] h.length h5))
noncomputable def fI.f (G : aI) : Nat → dE
 | 0 => fun _ _ => none
 | k + 1 => fun args h => nX args fun x0 => (fI.c G k (fI.f G k) x0 h)
theorem fI.step (G : aI) (k : Nat) (x0 : AV) (h : aF) : fI.f G (k + 1) [x0] h = fI.c G k (fI.f G k) x0 h := rfl
noncomputable def dG.ann : Ann := gG [] [] [] []
noncomputable def dG.env (G : aI) (k : Nat) (self : dE) : List (Nat × Bool × dE) := [(94, true, dJ.f G k), (95, true, fG.f G k), (96, true, gO.f G k), (97, true, fI.f G k)]
noncomputable def dG.c (G : aI) (k : Nat) (self : dE) (x0 x1 : AV) (h : aF) : Option (AV × aF) := fZ (
 aB (dH x0 h) fun v0 h0 =>
 aB (dH x1 h0) fun v1 h1 =>
 aB (pu h1 (aA 1 v0)) fun v2 h2 =>
 aB (pu h2 (aC G false 1 v2 h2)) fun v3 h3 =>
 aB (pu h3 (aA 2 v1)) fun v4 h4 =>
 aB (pu h4 (aC G false 1 v4 h4)) fun v5 h5 =>
 aB (aE (dJ.f G k) [v3, v5] h5) fun v6 h6 =>
 aB (pu h6 (un .not v6)) fun v7 h7 =>
 aB (gd v7 false h7 (pu h7 (aA 2 v0))) fun v8 h8 =>
 aB (gd v7 false h8 (pu h8 (aC G false 1 v8 h8))) fun v9 h9 =>
 aB (gd v7 false h9 (pu h9 (aA 3 v1))) fun v10 h10 =>
 aB (gd v7 false h10 (pu h10 (aC G false 1 v10 h10))) fun v11 h11 =>
 aB (gd v7 false h11 (aE (dJ.f G k) [v9, v11] h11)) fun v12 h12 =>
 aB (gd v7 false h12 (pu h12 (un .not v12))) fun v13 h13 =>
 aB (pu h13 (dM v7 (.bool true) v13)) fun v14 h14 =>
 aB (gd v14 false h14 (pu h14 (aA 3 v0))) fun v15 h15 =>
 aB (gd v14 false h15 (pu h15 (aC G false 1 v15 h15))) fun v16 h16 =>
 aB (gd v14 false h16 (pu h16 (aA 4 v1))) fun v17 h17 =>
 aB (gd v14 false h17 (pu h17 (aC G false 1 v17 h17))) fun v18 h18 =>
 aB (gd v14 false h18 (aE (dJ.f G k) [v16, v18] h18)) fun v19 h19 =>
 aB (gd v14 false h19 (pu h19 (un .not v19))) fun v20 h20 =>
 aB (pu h20 (dM v14 (.bool true) v20)) fun v21 h21 =>
 aK v21
 (bK [(.bool false)] h.length h21)
 (aB (pu h21 (aA 5 v1)) fun v22 h22 =>
 aB (pu h22 (aC G false 1 v22 h22)) fun v23 h23 =>
 aB (gd v23 true h23 (pu h23 (aC G true 6 v0 h23))) fun v24 h24 =>
 aB (gd v23 true h24 (aE (fG.f G k) [v24] h24)) fun v25 h25 =>
 aB (gd v23 true h25 (pu h25 (un .not v25))) fun v26 h26 =>
 aB (pu h26 (dM v23 v26 (.bool false))) fun v27 h27 =>
 aB (gd v27 false h27 (pu h27 (aA 5 v1))) fun v28 h28 =>
 aB (gd v27 false h28 (pu h28 (aC G false 1 v28 h28))) fun v29 h29 =>
 aB (gd v27 false h29 (pu h29 (un .not v29))) fun v30 h30 =>
 aB (gd v27 false h30 (some (v30, h30))) fun v31 h31 =>
 aB (gd v31 true h31 (pu h31 (aA 4 v0))) fun v32 h32 =>
 aB (gd v31 true h32 (pu h32 (aC G false 1 v32 h32))) fun v33 h33 =>
 aB (gd v31 true h33 (pu h33 (aQ Tryd.prog .neq 3 true v33 (.int .i64 0)))) fun v34 h34 =>
 aB (gd v27 false h34 (pu h34 (dM v31 v34 (.bool false)))) fun v35 h35 =>
 aB (pu h35 (dM v27 (.bool true) v35)) fun v36 h36 =>
 aK v36
 (bK [(.bool false)] h.length h36)
 (aB (pu h36 (aC G true 6 v0 h36)) fun v37 h37 =>
 aB (pu h37 (aA 6 v1)) fun v38 h38 =>
 aB (pu h38 (aC G false 1 v38 h38)) fun v39 h39 =>
 aB (aE (gO.f G k) [v37, v39] h39) fun v40 h40 =>
 aB (gd v40 true h40 (pu h40 (aC G true 6 v0 h40))) fun v41 h41 =>
 aB (gd v40 true h41 (aE (fI.f G k) [v41] h41)) fun v42 h42 =>
 aB (gd v40 true h42 (pu h42 (un .not v42))) fun v43 h43 =>
 aB (pu h43 (dM v40 v43 (.bool false))) fun v44 h44 =>
 bK [v44] h.length h44)))
noncomputable def dG.f (G : aI) : Nat → dE
 | 0 => fun _ _ => none
 | k + 1 => fun args h => nJ args fun x0 x1 => (dG.c G k (dG.f G k) x0 x1 h)
theorem dG.step (G : aI) (k : Nat) (x0 x1 : AV) (h : aF) : dG.f G (k + 1) [x0, x1] h = dG.c G k (dG.f G k) x0 x1 h := rfl
noncomputable def cG.ann : Ann := gG [] [] [] [(28, [3, 4, 12, 64]), (16, [3, 4, 12, 34]), (5, [3, 4, 12, 13])]
noncomputable def cG.env (G : aI) (k : Nat) (self : dE) : List (Nat × Bool × dE) := []
noncomputable def cG.c (G : aI) (k : Nat) (self : dE) (x0 : AV) (h : aF) : Option (AV × aF) := fZ (
 aB (dH x0 h) fun v0 h0 =>
 aB (pu h0 (aA 5 v0)) fun v1 h1 =>
 aB (pu h1 (aC G false 1 v1 h1)) fun v2 h2 =>
 aB (pu h2 (aJ .u32 v2)) fun v3 h3 =>
 aB (pu h3 (aA 4 v0)) fun v4 h4 =>
 aB (pu h4 (aC G false 1 v4 h4)) fun v5 h5 =>
 aB (pu h5 (aJ .u32 v5)) fun v6 h6 =>
 aB (pu h6 (aA 0 v0)) fun v7 h7 =>
 aB (pu h7 (aC G false 1 v7 h7)) fun v8 h8 =>
 dO (
 aB (pu h8 (aQ Tryd.prog .eql 3 true v8 (.int .i64 1))) fun v9 h9 =>
 aK v9
 (some (.normal, [v3, v6, v8, v9], h9))
 (aB (pu h9 (aQ Tryd.prog .eql 3 true v8 (.int .i64 2))) fun v10 h10 =>
 some (.normal, [v3, v6, v8, v10], h10))) fun e11 x11 h11 => jB e11
 (aK (aH x11 3)
 (aB (pu h11 (aQ Tryd.prog .shl 71 true (aH x11 1) (.int .u64 21))) fun v12 h12 =>
 aB (pu h12 (aQ Tryd.prog .shl 71 true (aH x11 0) (.int .u64 5))) fun v13 h13 =>
 aB (pu h13 (aQ Tryd.prog .or 71 false v12 v13)) fun v14 h14 =>
 bK [v14] h.length h14)
 (aB (pu h11 (aQ Tryd.prog .eql 3 true (aH x11 2) (.int .i64 8))) fun v15 h15 =>
 aK v15
 (aB (pu h15 (aQ Tryd.prog .shl 71 true (aH x11 1) (.int .u64 10))) fun v16 h16 =>
 bK [v16] h.length h16)
 (aB (pu h15 (aQ Tryd.prog .eql 3 true (aH x11 2) (.int .i64 16))) fun v17 h17 =>
 aK v17
 (aB (pu h17 (aQ Tryd.prog .shl 71 true (aH x11 1) (.int .u64 12))) fun v18 h18 =>
 bK [v18] h.length h18)
 (aB (pu h17 (aQ Tryd.prog .eql 3 true (aH x11 2) (.int .i64 17))) fun v19 h19 =>
 aK v19
 (aB (pu h19 (aQ Tryd.prog .xor 71 true (aH x11 1) (.int .u32 1))) fun v20 h20 =>
 aB (pu h20 (aQ Tryd.prog .shl 71 true v20 (.int .u64 12))) fun v21 h21 =>
 bK [v21] h.length h21)
 (dO (
 aB (pu h19 (aQ Tryd.prog .eql 3 true (aH x11 2) (.int .i64 10))) fun v22 h22 =>
 aK v22
 (some (.normal, [(aH x11 0), (aH x11 1), (aH x11 2), v22], h22))
 (aB (pu h22 (aQ Tryd.prog .eql 3 true (aH x11 2) (.int .i64 11))) fun v23 h23 =>
 aK v23
 (some (.normal, [(aH x11 0), (aH x11 1), (aH x11 2), v23], h23))
 (aB (pu h23 (aQ Tryd.prog .eql 3 true (aH x11 2) (.int .i64 18))) fun v24 h24 =>
 aK v24
 (some (.normal, [(aH x11 0), (aH x11 1), (aH x11 2), v24], h24))
 (aB (pu h24 (aQ Tryd.prog .eql 3 true (aH x11 2) (.int .i64 19))) fun v25 h25 =>
 some (.normal, [(aH x11 0), (aH x11 1), (aH x11 2), v25], h25))))) fun e26 x26 h26 => jB e26
 (aK (aH x26 3)
 (aB (pu h26 (aQ Tryd.prog .shl 71 true (aH x26 0) (.int .u64 10))) fun v27 h27 =>
 bK [v27] h.length h27)
 (aB (pu h26 (aQ Tryd.prog .eql 3 true (aH x26 2) (.int .i64 12))) fun v28 h28 =>
 aK v28
 (aB (pu h28 (aQ Tryd.prog .sub 71 true (.int .u32 64) (aH x26 0))) fun v29 h29 =>
 aB (pu h29 (aQ Tryd.prog .rem 71 true v29 (.int .u32 64))) fun v30 h30 =>
 aB (pu h30 (aQ Tryd.prog .shl 71 true v30 (.int .u64 16))) fun v31 h31 =>
 aB (pu h31 (aQ Tryd.prog .sub 71 true (.int .u32 63) (aH x26 0))) fun v32 h32 =>
 aB (pu h32 (aQ Tryd.prog .shl 71 true v32 (.int .u64 10))) fun v33 h33 =>
 aB (pu h33 (aQ Tryd.prog .or 71 false v31 v33)) fun v34 h34 =>
 bK [v34] h.length h34)
 (aB (pu h28 (aQ Tryd.prog .eql 3 true (aH x26 2) (.int .i64 13))) fun v35 h35 =>
 aK v35
 (aB (pu h35 (aQ Tryd.prog .shl 71 true (aH x26 0) (.int .u64 16))) fun v36 h36 =>
 aB (pu h36 (aQ Tryd.prog .or 71 true v36 (.int .u32 64512))) fun v37 h37 =>
 bK [v37] h.length h37)
 (aB (pu h35 (aQ Tryd.prog .eql 3 true (aH x26 2) (.int .i64 14))) fun v38 h38 =>
 aK v38
 (aB (pu h38 (aQ Tryd.prog .shl 71 true (aH x26 0) (.int .u64 16))) fun v39 h39 =>
 bK [v39] h.length h39)
 (aB (pu h38 (aQ Tryd.prog .eql 3 true (aH x26 2) (.int .i64 20))) fun v40 h40 =>
 aK v40
 (aB (pu h40 (aQ Tryd.prog .and 71 true (aH x26 0) (.int .u32 67108863))) fun v41 h41 =>
 bK [v41] h.length h41)
 (dO (
 aB (pu h40 (aQ Tryd.prog .eql 3 true (aH x26 2) (.int .i64 21))) fun v42 h42 =>
 aK v42
 (some (.normal, [(aH x26 0), (aH x26 1), (aH x26 2), v42], h42))
 (aB (pu h42 (aQ Tryd.prog .eql 3 true (aH x26 2) (.int .i64 22))) fun v43 h43 =>
 aK v43
 (some (.normal, [(aH x26 0), (aH x26 1), (aH x26 2), v43], h43))
 (aB (pu h43 (aQ Tryd.prog .eql 3 true (aH x26 2) (.int .i64 23))) fun v44 h44 =>
 some (.normal, [(aH x26 0), (aH x26 1), (aH x26 2), v44], h44)))) fun e45 x45 h45 => jB e45
 (aK (aH x45 3)
 (aB (pu h45 (aQ Tryd.prog .and 71 true (aH x45 0) (.int .u32 524287))) fun v46 h46 =>
 aB (pu h46 (aQ Tryd.prog .shl 71 true v46 (.int .u64 5))) fun v47 h47 =>
 aB (pu h47 (aQ Tryd.prog .or 71 false (aH x45 1) v47)) fun v48 h48 =>
 bK [v48] h.length h48)
 (aB (pu h45 (aQ Tryd.prog .eql 3 true (aH x45 2) (.int .i64 24))) fun v49 h49 =>
 aK v49
 (aB (pu h49 (aQ Tryd.prog .shl 71 true (aH x45 0) (.int .u64 5))) fun v50 h50 =>
 bK [v50] h.length h50)
 (bK [(.int .u32 0)] h.length h49)))
 (fun i45 => if i45 = 0 then (bK [(.int .u32 0)] h.length h45) else (none))
 (bK [.undef] h.length h45)))))))
 (fun i26 => if i26 = 0 then (bK [(.int .u32 0)] h.length h26) else (none))
 (bK [.undef] h.length h26))))))
 (fun i11 => if i11 = 0 then (bK [(.int .u32 0)] h.length h11) else (none))
 (bK [.undef] h.length h11))
noncomputable def cG.f (G : aI) : Nat → dE
 | 0 => fun _ _ => none
 | k + 1 => fun args h => nX args fun x0 => (cG.c G k (cG.f G k) x0 h)
theorem cG.step (G : aI) (k : Nat) (x0 : AV) (h : aF) : cG.f G (k + 1) [x0] h = cG.c G k (cG.f G k) x0 h := rfl
noncomputable def bA.ann : Ann := gG [] [] [] []
noncomputable def bA.env (G : aI) (k : Nat) (self : dE) : List (Nat × Bool × dE) := [(70, true, eZ.f G k), (71, true, dG.f G k), (72, true, cG.f G k)]
noncomputable def bA.c (G : aI) (k : Nat) (self : dE) (x0 : AV) (h : aF) : Option (AV × aF) := fZ (
 aB (dH x0 h) fun v0 h0 =>
 aB (pu h0 (aA 0 v0)) fun v1 h1 =>
 aB (pu h1 (aC G false 1 v1 h1)) fun v2 h2 =>
 aB (aE (eZ.f G k) [v2] h2) fun v3 h3 =>
 aB (pu h3 (cL v3 0)) fun v4 h4 =>
 aB (pu h4 (cL v3 1)) fun v5 h5 =>
 aB (eY 141 (.agg [(.str ⟨#[]⟩), (.int .u32 0), (.bool false), (.bool false), (.bool false), (.bool false), (.int .i64 0)]) h5) fun v6 h6 =>
 aB (eH (aO 7 v6 v4 h6)) fun v7 h7 =>
 aB (pu h7 (un .not v5)) fun v8 h8 =>
 aB (gd v8 false h8 (pu h8 (aC G true 6 v0 h8))) fun v9 h9 =>
 aB (gd v8 false h9 (pu h9 (aC G true 7 v6 h9))) fun v10 h10 =>
 aB (gd v8 false h10 (aE (dG.f G k) [v9, v10] h10)) fun v11 h11 =>
 aB (gd v8 false h11 (pu h11 (un .not v11))) fun v12 h12 =>
 aB (pu h12 (dM v8 (.bool true) v12)) fun v13 h13 =>
 aK v13
 (bK [(.int .u32 0), (.bool false)] h.length h13)
 (aB (pu h13 (aA 1 v6)) fun v14 h14 =>
 aB (pu h14 (aC G false 1 v14 h14)) fun v15 h15 =>
 aB (pu h15 (aA 1 v0)) fun v16 h16 =>
 aB (pu h16 (aC G false 1 v16 h16)) fun v17 h17 =>
 aB (pu h17 (aJ .u32 v17)) fun v18 h18 =>
 aB (pu h18 (aQ Tryd.prog .or 71 false v15 v18)) fun v19 h19 =>
 aB (pu h19 (aA 2 v0)) fun v20 h20 =>
 aB (pu h20 (aC G false 1 v20 h20)) fun v21 h21 =>
 aB (pu h21 (aJ .u32 v21)) fun v22 h22 =>
 aB (pu h22 (aQ Tryd.prog .shl 71 true v22 (.int .u64 5))) fun v23 h23 =>
 aB (pu h23 (aQ Tryd.prog .or 71 false v19 v23)) fun v24 h24 =>
 aB (pu h24 (aA 3 v0)) fun v25 h25 =>
 aB (pu h25 (aC G false 1 v25 h25)) fun v26 h26 =>
 aB (pu h26 (aJ .u32 v26)) fun v27 h27 =>
 aB (pu h27 (aQ Tryd.prog .shl 71 true v27 (.int .u64 16))) fun v28 h28 =>
 aB (pu h28 (aQ Tryd.prog .or 71 false v24 v28)) fun v29 h29 =>
 aB (pu h29 (aC G true 6 v0 h29)) fun v30 h30 =>
 aB (aE (cG.f G k) [v30] h30) fun v31 h31 =>
 aB (pu h31 (aQ Tryd.prog .or 71 false v29 v31)) fun v32 h32 =>
 bK [v32, (.bool true)] h.length h32))
noncomputable def bA.f (G : aI) : Nat → dE
 | 0 => fun _ _ => none
 | k + 1 => fun args h => nX args fun x0 => (bA.c G k (bA.f G k) x0 h)
theorem bA.step (G : aI) (k : Nat) (x0 : AV) (h : aF) : bA.f G (k + 1) [x0] h = bA.c G k (bA.f G k) x0 h := rfl
noncomputable def aM.ann : Ann := gG [] [] [] [(34, [2, 3, 43]), (23, [2, 3, 26]), (19, [2, 3, 20]), (14, [2, 3, 16]), (11, [2, 3, 8]), (4, [2, 3, 4])]
noncomputable def aM.env (G : aI) (k : Nat) (self : dE) : List (Nat × Bool × dE) := []
noncomputable def aM.c (G : aI) (k : Nat) (self : dE) (x0 : AV) (h : aF) : Option (AV × aF) := fZ (
 aB (eY 149 (.agg [(.bool false), (.bool false), (.bool false), (.bool false), (.int .i64 0)]) h) fun v0 h0 =>
 dO (
 aB (pu h0 (aQ Tryd.prog .eql 3 true x0 (.int .i64 1))) fun v1 h1 =>
 aK v1
 (some (.normal, [v0, x0, v1], h1))
 (aB (pu h1 (aQ Tryd.prog .eql 3 true x0 (.int .i64 2))) fun v2 h2 =>
 some (.normal, [v0, x0, v2], h2))) fun e3 x3 h3 => jB e3
 (aK (aH x3 2)
 (aB (pu h3 (aZ [(0, 1), (1, 1), (2, 1), (3, 1), (4, 1)] [(.bool false), (.bool false), (.bool false), (.bool false), (.int .i64 0)] [(0, (.bool true)), (3, (.bool true)), (4, (.int .i64 16))])) fun v4 h4 =>
 aB (eH (aO 5 (aH x3 0) v4 h4)) fun v5 h5 =>
 fX [aC G true 5 (aH x3 0) h5] h.length h5)
 (dO (
 aB (pu h3 (aQ Tryd.prog .eql 3 true (aH x3 1) (.int .i64 3))) fun v6 h6 =>
 aK v6
 (some (.normal, [(aH x3 0), (aH x3 1), v6], h6))
 (aB (pu h6 (aQ Tryd.prog .eql 3 true (aH x3 1) (.int .i64 4))) fun v7 h7 =>
 aK v7
 (some (.normal, [(aH x3 0), (aH x3 1), v7], h7))
 (aB (pu h7 (aQ Tryd.prog .eql 3 true (aH x3 1) (.int .i64 5))) fun v8 h8 =>
 aK v8
 (some (.normal, [(aH x3 0), (aH x3 1), v8], h8))
 (aB (pu h8 (aQ Tryd.prog .eql 3 true (aH x3 1) (.int .i64 6))) fun v9 h9 =>
 aK v9
 (some (.normal, [(aH x3 0), (aH x3 1), v9], h9))
 (aB (pu h9 (aQ Tryd.prog .eql 3 true (aH x3 1) (.int .i64 7))) fun v10 h10 =>
 aK v10
 (some (.normal, [(aH x3 0), (aH x3 1), v10], h10))
 (aB (pu h10 (aQ Tryd.prog .eql 3 true (aH x3 1) (.int .i64 9))) fun v11 h11 =>
 some (.normal, [(aH x3 0), (aH x3 1), v11], h11))))))) fun e12 x12 h12 => jB e12
 (aK (aH x12 2)
 (aB (pu h12 (aZ [(0, 1), (1, 1), (2, 1), (3, 1), (4, 1)] [(.bool false), (.bool false), (.bool false), (.bool false), (.int .i64 0)] [(0, (.bool true)), (1, (.bool true)), (2, (.bool true))])) fun v13 h13 =>
 aB (eH (aO 5 (aH x12 0) v13 h13)) fun v14 h14 =>
 fX [aC G true 5 (aH x12 0) h14] h.length h14)
 (dO (
 aB (pu h12 (aQ Tryd.prog .eql 3 true (aH x12 1) (.int .i64 8))) fun v15 h15 =>
 aK v15
 (some (.normal, [(aH x12 0), (aH x12 1), v15], h15))
 (aB (pu h15 (aQ Tryd.prog .eql 3 true (aH x12 1) (.int .i64 16))) fun v16 h16 =>
 some (.normal, [(aH x12 0), (aH x12 1), v16], h16))) fun e17 x17 h17 => jB e17
 (aK (aH x17 2)
 (aB (pu h17 (aZ [(0, 1), (1, 1), (2, 1), (3, 1), (4, 1)] [(.bool false), (.bool false), (.bool false), (.bool false), (.int .i64 0)] [(0, (.bool true)), (1, (.bool true)), (2, (.bool true)), (3, (.bool true))])) fun v18 h18 =>
 aB (eH (aO 5 (aH x17 0) v18 h18)) fun v19 h19 =>
 fX [aC G true 5 (aH x17 0) h19] h.length h19)
 (dO (
 aB (pu h17 (aQ Tryd.prog .eql 3 true (aH x17 1) (.int .i64 10))) fun v20 h20 =>
 aK v20
 (some (.normal, [(aH x17 0), (aH x17 1), v20], h20))
 (aB (pu h20 (aQ Tryd.prog .eql 3 true (aH x17 1) (.int .i64 11))) fun v21 h21 =>
 aK v21
 (some (.normal, [(aH x17 0), (aH x17 1), v21], h21))
 (aB (pu h21 (aQ Tryd.prog .eql 3 true (aH x17 1) (.int .i64 18))) fun v22 h22 =>
 aK v22
 (some (.normal, [(aH x17 0), (aH x17 1), v22], h22))
 (aB (pu h22 (aQ Tryd.prog .eql 3 true (aH x17 1) (.int .i64 19))) fun v23 h23 =>
 some (.normal, [(aH x17 0), (aH x17 1), v23], h23))))) fun e24 x24 h24 => jB e24
 (aK (aH x24 2)
 (aB (pu h24 (aZ [(0, 1), (1, 1), (2, 1), (3, 1), (4, 1)] [(.bool false), (.bool false), (.bool false), (.bool false), (.int .i64 0)] [(0, (.bool true)), (1, (.bool true)), (4, (.int .i64 12))])) fun v25 h25 =>
 aB (eH (aO 5 (aH x24 0) v25 h25)) fun v26 h26 =>
 fX [aC G true 5 (aH x24 0) h26] h.length h26)
 (dO (
 aB (pu h24 (aQ Tryd.prog .eql 3 true (aH x24 1) (.int .i64 12))) fun v27 h27 =>
 aK v27
 (some (.normal, [(aH x24 0), (aH x24 1), v27], h27))
 (aB (pu h27 (aQ Tryd.prog .eql 3 true (aH x24 1) (.int .i64 13))) fun v28 h28 =>
 aK v28
 (some (.normal, [(aH x24 0), (aH x24 1), v28], h28))
 (aB (pu h28 (aQ Tryd.prog .eql 3 true (aH x24 1) (.int .i64 14))) fun v29 h29 =>
 some (.normal, [(aH x24 0), (aH x24 1), v29], h29)))) fun e30 x30 h30 => jB e30
 (aK (aH x30 2)
 (aB (pu h30 (aZ [(0, 1), (1, 1), (2, 1), (3, 1), (4, 1)] [(.bool false), (.bool false), (.bool false), (.bool false), (.int .i64 0)] [(0, (.bool true)), (1, (.bool true)), (4, (.int .i64 6))])) fun v31 h31 =>
 aB (eH (aO 5 (aH x30 0) v31 h31)) fun v32 h32 =>
 fX [aC G true 5 (aH x30 0) h32] h.length h32)
 (aB (pu h30 (aQ Tryd.prog .eql 3 true (aH x30 1) (.int .i64 15))) fun v33 h33 =>
 aK v33
 (aB (pu h33 (aZ [(0, 1), (1, 1), (2, 1), (3, 1), (4, 1)] [(.bool false), (.bool false), (.bool false), (.bool false), (.int .i64 0)] [(1, (.bool true)), (2, (.bool true))])) fun v34 h34 =>
 aB (eH (aO 5 (aH x30 0) v34 h34)) fun v35 h35 =>
 fX [aC G true 5 (aH x30 0) h35] h.length h35)
 (aB (pu h33 (aQ Tryd.prog .eql 3 true (aH x30 1) (.int .i64 17))) fun v36 h36 =>
 aK v36
 (aB (pu h36 (aZ [(0, 1), (1, 1), (2, 1), (3, 1), (4, 1)] [(.bool false), (.bool false), (.bool false), (.bool false), (.int .i64 0)] [(0, (.bool true)), (3, (.bool true))])) fun v37 h37 =>
 aB (eH (aO 5 (aH x30 0) v37 h37)) fun v38 h38 =>
 fX [aC G true 5 (aH x30 0) h38] h.length h38)
 (aB (pu h36 (aQ Tryd.prog .eql 3 true (aH x30 1) (.int .i64 20))) fun v39 h39 =>
 aK v39
 (aB (pu h39 (aZ [(0, 1), (1, 1), (2, 1), (3, 1), (4, 1)] [(.bool false), (.bool false), (.bool false), (.bool false), (.int .i64 0)] [(4, (.int .i64 26))])) fun v40 h40 =>
 aB (eH (aO 5 (aH x30 0) v40 h40)) fun v41 h41 =>
 fX [aC G true 5 (aH x30 0) h41] h.length h41)
 (aB (pu h39 (aQ Tryd.prog .eql 3 true (aH x30 1) (.int .i64 21))) fun v42 h42 =>
 aK v42
 (aB (pu h42 (aZ [(0, 1), (1, 1), (2, 1), (3, 1), (4, 1)] [(.bool false), (.bool false), (.bool false), (.bool false), (.int .i64 0)] [(3, (.bool true)), (4, (.int .i64 19))])) fun v43 h43 =>
 aB (eH (aO 5 (aH x30 0) v43 h43)) fun v44 h44 =>
 fX [aC G true 5 (aH x30 0) h44] h.length h44)
 (dO (
 aB (pu h42 (aQ Tryd.prog .eql 3 true (aH x30 1) (.int .i64 22))) fun v45 h45 =>
 aK v45
 (some (.normal, [(aH x30 0), (aH x30 1), v45], h45))
 (aB (pu h45 (aQ Tryd.prog .eql 3 true (aH x30 1) (.int .i64 23))) fun v46 h46 =>
 some (.normal, [(aH x30 0), (aH x30 1), v46], h46))) fun e47 x47 h47 => jB e47
 (aK (aH x47 2)
 (aB (pu h47 (aZ [(0, 1), (1, 1), (2, 1), (3, 1), (4, 1)] [(.bool false), (.bool false), (.bool false), (.bool false), (.int .i64 0)] [(0, (.bool true)), (4, (.int .i64 19))])) fun v48 h48 =>
 aB (eH (aO 5 (aH x47 0) v48 h48)) fun v49 h49 =>
 fX [aC G true 5 (aH x47 0) h49] h.length h49)
 (aB (pu h47 (aQ Tryd.prog .eql 3 true (aH x47 1) (.int .i64 24))) fun v50 h50 =>
 aK v50
 (aB (pu h50 (aZ [(0, 1), (1, 1), (2, 1), (3, 1), (4, 1)] [(.bool false), (.bool false), (.bool false), (.bool false), (.int .i64 0)] [(4, (.int .i64 16))])) fun v51 h51 =>
 aB (eH (aO 5 (aH x47 0) v51 h51)) fun v52 h52 =>
 fX [aC G true 5 (aH x47 0) h52] h.length h52)
 (aB (pu h50 (aZ [(0, 1), (1, 1), (2, 1), (3, 1), (4, 1)] [(.bool false), (.bool false), (.bool false), (.bool false), (.int .i64 0)] [])) fun v53 h53 =>
 aB (eH (aO 5 (aH x47 0) v53 h53)) fun v54 h54 =>
 fX [aC G true 5 (aH x47 0) h54] h.length h54)))
 (fun i47 => if i47 = 0 then (aB (pu h47 (aZ [(0, 1), (1, 1), (2, 1), (3, 1), (4, 1)] [(.bool false), (.bool false), (.bool false), (.bool false), (.int .i64 0)] [])) fun v55 h55 =>
 aB (eH (aO 5 (aH x47 0) v55 h55)) fun v56 h56 =>
 fX [aC G true 5 (aH x47 0) h56] h.length h56) else (none))
 (fX [aC G true 5 (aH x47 0) h47] h.length h47)))))))
 (fun i30 => if i30 = 0 then (aB (pu h30 (aZ [(0, 1), (1, 1), (2, 1), (3, 1), (4, 1)] [(.bool false), (.bool false), (.bool false), (.bool false), (.int .i64 0)] [])) fun v57 h57 =>
 aB (eH (aO 5 (aH x30 0) v57 h57)) fun v58 h58 =>
 fX [aC G true 5 (aH x30 0) h58] h.length h58) else (none))
 (fX [aC G true 5 (aH x30 0) h30] h.length h30)))
 (fun i24 => if i24 = 0 then (aB (pu h24 (aZ [(0, 1), (1, 1), (2, 1), (3, 1), (4, 1)] [(.bool false), (.bool false), (.bool false), (.bool false), (.int .i64 0)] [])) fun v59 h59 =>
 aB (eH (aO 5 (aH x24 0) v59 h59)) fun v60 h60 =>
 fX [aC G true 5 (aH x24 0) h60] h.length h60) else (none))
 (fX [aC G true 5 (aH x24 0) h24] h.length h24)))
 (fun i17 => if i17 = 0 then (aB (pu h17 (aZ [(0, 1), (1, 1), (2, 1), (3, 1), (4, 1)] [(.bool false), (.bool false), (.bool false), (.bool false), (.int .i64 0)] [])) fun v61 h61 =>
 aB (eH (aO 5 (aH x17 0) v61 h61)) fun v62 h62 =>
 fX [aC G true 5 (aH x17 0) h62] h.length h62) else (none))
 (fX [aC G true 5 (aH x17 0) h17] h.length h17)))
 (fun i12 => if i12 = 0 then (aB (pu h12 (aZ [(0, 1), (1, 1), (2, 1), (3, 1), (4, 1)] [(.bool false), (.bool false), (.bool false), (.bool false), (.int .i64 0)] [])) fun v63 h63 =>
 aB (eH (aO 5 (aH x12 0) v63 h63)) fun v64 h64 =>
 fX [aC G true 5 (aH x12 0) h64] h.length h64) else (none))
 (fX [aC G true 5 (aH x12 0) h12] h.length h12)))
 (fun i3 => if i3 = 0 then (aB (pu h3 (aZ [(0, 1), (1, 1), (2, 1), (3, 1), (4, 1)] [(.bool false), (.bool false), (.bool false), (.bool false), (.int .i64 0)] [])) fun v65 h65 =>
 aB (eH (aO 5 (aH x3 0) v65 h65)) fun v66 h66 =>
 fX [aC G true 5 (aH x3 0) h66] h.length h66) else (none))
 (fX [aC G true 5 (aH x3 0) h3] h.length h3))
noncomputable def aM.f (G : aI) : Nat → dE
 | 0 => fun _ _ => none
 | k + 1 => fun args h => nX args fun x0 => (aM.c G k (aM.f G k) x0 h)
theorem aM.step (G : aI) (k : Nat) (x0 : AV) (h : aF) : aM.f G (k + 1) [x0] h = aM.c G k (aM.f G k) x0 h := rfl
noncomputable def bT.ann : Ann := gG [] [] [] []
noncomputable def bT.env (G : aI) (k : Nat) (self : dE) : List (Nat × Bool × dE) := []
noncomputable def bT.c (G : aI) (k : Nat) (self : dE) (x0 x1 : AV) (h : aF) : Option (AV × aF) := fZ (
 aB (pu h (aQ Tryd.prog .eql 3 true x0 (.int .i64 0))) fun v0 h0 =>
 aB (gd v0 false h0 (some (x1, h0))) fun v1 h1 =>
 aB (gd v0 false h1 (some (v1, h1))) fun v2 h2 =>
 aB (gd v2 true h2 (some (x0, h2))) fun v3 h3 =>
 aB (gd v2 true h3 (pu h3 (aQ Tryd.prog .gtr 3 true v3 (.int .i64 0)))) fun v4 h4 =>
 aB (gd v0 false h4 (pu h4 (dM v2 v4 (.bool false)))) fun v5 h5 =>
 aB (gd v0 false h5 (some (v5, h5))) fun v6 h6 =>
 aB (gd v6 true h6 (some (x0, h6))) fun v7 h7 =>
 aB (gd v6 true h7 (pu h7 (aQ Tryd.prog .leq 3 true v7 (.int .i64 31)))) fun v8 h8 =>
 aB (gd v0 false h8 (pu h8 (dM v6 v8 (.bool false)))) fun v9 h9 =>
 aB (pu h9 (dM v0 (.bool true) v9)) fun v10 h10 =>
 bK [v10] h.length h10)
noncomputable def bT.f (G : aI) : Nat → dE
 | 0 => fun _ _ => none
 | k + 1 => fun args h => nJ args fun x0 x1 => (bT.c G k (bT.f G k) x0 x1 h)
theorem bT.step (G : aI) (k : Nat) (x0 x1 : AV) (h : aF) : bT.f G (k + 1) [x0, x1] h = bT.c G k (bT.f G k) x0 x1 h := rfl
noncomputable def cA.ann : Ann := gG [] [] [] []
noncomputable def cA.env (G : aI) (k : Nat) (self : dE) : List (Nat × Bool × dE) := []
noncomputable def cA.c (G : aI) (k : Nat) (self : dE) (x0 : AV) (h : aF) : Option (AV × aF) := fZ (
 aB (pu h (aQ Tryd.prog .geq 3 true x0 (.int .i64 0))) fun v0 h0 =>
 aB (gd v0 true h0 (some (x0, h0))) fun v1 h1 =>
 aB (gd v0 true h1 (pu h1 (aQ Tryd.prog .leq 3 true v1 (.int .i64 3)))) fun v2 h2 =>
 aB (pu h2 (dM v0 v2 (.bool false))) fun v3 h3 =>
 aB (gd v3 false h3 (some (x0, h3))) fun v4 h4 =>
 aB (gd v3 false h4 (pu h4 (aQ Tryd.prog .eql 3 true v4 (.int .i64 8)))) fun v5 h5 =>
 aB (pu h5 (dM v3 (.bool true) v5)) fun v6 h6 =>
 aB (gd v6 false h6 (some (x0, h6))) fun v7 h7 =>
 aB (gd v6 false h7 (pu h7 (aQ Tryd.prog .eql 3 true v7 (.int .i64 9)))) fun v8 h8 =>
 aB (pu h8 (dM v6 (.bool true) v8)) fun v9 h9 =>
 bK [v9] h.length h9)
noncomputable def cA.f (G : aI) : Nat → dE
 | 0 => fun _ _ => none
 | k + 1 => fun args h => nX args fun x0 => (cA.c G k (cA.f G k) x0 h)
theorem cA.step (G : aI) (k : Nat) (x0 : AV) (h : aF) : cA.f G (k + 1) [x0] h = cA.c G k (cA.f G k) x0 h := rfl
noncomputable def cH.ann : Ann := gG [] [] [] []
noncomputable def cH.env (G : aI) (k : Nat) (self : dE) : List (Nat × Bool × dE) := []
noncomputable def cH.c (G : aI) (k : Nat) (self : dE) (x0 x1 : AV) (h : aF) : Option (AV × aF) := fZ (
 aB (pu h (aQ Tryd.prog .sub 3 true x1 (.int .i64 1))) fun v0 h0 =>
 aB (pu h0 (aJ .u64 v0)) fun v1 h1 =>
 aB (pu h1 (aQ Tryd.prog .shl 3 true (.int .i64 (-1)) v1)) fun v2 h2 =>
 aB (pu h2 (aQ Tryd.prog .geq 3 false x0 v2)) fun v3 h3 =>
 aB (gd v3 true h3 (some (x0, h3))) fun v4 h4 =>
 aB (gd v3 true h4 (some (x1, h4))) fun v5 h5 =>
 aB (gd v3 true h5 (pu h5 (aQ Tryd.prog .sub 3 true v5 (.int .i64 1)))) fun v6 h6 =>
 aB (gd v3 true h6 (pu h6 (aJ .u64 v6))) fun v7 h7 =>
 aB (gd v3 true h7 (pu h7 (aQ Tryd.prog .shl 3 true (.int .i64 1) v7))) fun v8 h8 =>
 aB (gd v3 true h8 (pu h8 (aQ Tryd.prog .lss 3 false v4 v8))) fun v9 h9 =>
 aB (pu h9 (dM v3 v9 (.bool false))) fun v10 h10 =>
 bK [v10] h.length h10)
noncomputable def cH.f (G : aI) : Nat → dE
 | 0 => fun _ _ => none
 | k + 1 => fun args h => nJ args fun x0 x1 => (cH.c G k (cH.f G k) x0 x1 h)
theorem cH.step (G : aI) (k : Nat) (x0 x1 : AV) (h : aF) : cH.f G (k + 1) [x0, x1] h = cH.c G k (cH.f G k) x0 x1 h := rfl
noncomputable def aS.ann : Ann := gG [] [] [] [(25, [1, 2, 3]), (23, [1, 3, 84]), (19, [1, 3, 72, 73]), (16, [1, 2, 3]), (14, [1, 3, 63]), (9, [1, 3, 45, 52])]
noncomputable def aS.env (G : aI) (k : Nat) (self : dE) : List (Nat × Bool × dE) := [(79, true, aM.f G k), (99, true, bT.f G k), (100, true, cA.f G k), (101, true, cH.f G k)]
noncomputable def aS.c (G : aI) (k : Nat) (self : dE) (x0 : AV) (h : aF) : Option (AV × aF) := fZ (
 aB (dH x0 h) fun v0 h0 =>
 aB (pu h0 (aA 0 v0)) fun v1 h1 =>
 aB (pu h1 (aC G false 1 v1 h1)) fun v2 h2 =>
 aB (aE (aM.f G k) [v2] h2) fun v3 h3 =>
 aB (eY 149 (.agg [(.bool false), (.bool false), (.bool false), (.bool false), (.int .i64 0)]) h3) fun v4 h4 =>
 aB (eH (aO 5 v4 v3 h4)) fun v5 h5 =>
 aB (pu h5 (aA 0 v4)) fun v6 h6 =>
 aB (pu h6 (aC G false 1 v6 h6)) fun v7 h7 =>
 aB (pu h7 (un .not v7)) fun v8 h8 =>
 aB (gd v8 true h8 (pu h8 (aA 1 v4))) fun v9 h9 =>
 aB (gd v8 true h9 (pu h9 (aC G false 1 v9 h9))) fun v10 h10 =>
 aB (gd v8 true h10 (pu h10 (un .not v10))) fun v11 h11 =>
 aB (pu h11 (dM v8 v11 (.bool false))) fun v12 h12 =>
 aB (gd v12 true h12 (pu h12 (aA 4 v4))) fun v13 h13 =>
 aB (gd v12 true h13 (pu h13 (aC G false 1 v13 h13))) fun v14 h14 =>
 aB (gd v12 true h14 (pu h14 (aQ Tryd.prog .eql 3 true v14 (.int .i64 0)))) fun v15 h15 =>
 aB (pu h15 (dM v12 v15 (.bool false))) fun v16 h16 =>
 aB (gd v16 false h16 (pu h16 (aA 1 v0))) fun v17 h17 =>
 aB (gd v16 false h17 (pu h17 (aC G false 1 v17 h17))) fun v18 h18 =>
 aB (gd v16 false h18 (pu h18 (aA 0 v4))) fun v19 h19 =>
 aB (gd v16 false h19 (pu h19 (aC G false 1 v19 h19))) fun v20 h20 =>
 aB (gd v16 false h20 (aE (bT.f G k) [v18, v20] h20)) fun v21 h21 =>
 aB (gd v16 false h21 (pu h21 (un .not v21))) fun v22 h22 =>
 aB (pu h22 (dM v16 (.bool true) v22)) fun v23 h23 =>
 aB (gd v23 false h23 (pu h23 (aA 2 v0))) fun v24 h24 =>
 aB (gd v23 false h24 (pu h24 (aC G false 1 v24 h24))) fun v25 h25 =>
 aB (gd v23 false h25 (pu h25 (aA 1 v4))) fun v26 h26 =>
 aB (gd v23 false h26 (pu h26 (aC G false 1 v26 h26))) fun v27 h27 =>
 aB (gd v23 false h27 (aE (bT.f G k) [v25, v27] h27)) fun v28 h28 =>
 aB (gd v23 false h28 (pu h28 (un .not v28))) fun v29 h29 =>
 aB (pu h29 (dM v23 (.bool true) v29)) fun v30 h30 =>
 aB (gd v30 false h30 (pu h30 (aA 3 v0))) fun v31 h31 =>
 aB (gd v30 false h31 (pu h31 (aC G false 1 v31 h31))) fun v32 h32 =>
 aB (gd v30 false h32 (pu h32 (aA 2 v4))) fun v33 h33 =>
 aB (gd v30 false h33 (pu h33 (aC G false 1 v33 h33))) fun v34 h34 =>
 aB (gd v30 false h34 (aE (bT.f G k) [v32, v34] h34)) fun v35 h35 =>
 aB (gd v30 false h35 (pu h35 (un .not v35))) fun v36 h36 =>
 aB (pu h36 (dM v30 (.bool true) v36)) fun v37 h37 =>
 aK v37
 (bK [(.bool false)] h.length h37)
 (dO (
 aB (pu h37 (aA 0 v0)) fun v38 h38 =>
 aB (pu h38 (aC G false 1 v38 h38)) fun v39 h39 =>
 dO (
 aB (pu h39 (aQ Tryd.prog .eql 3 true v39 (.int .i64 1))) fun v40 h40 =>
 aK v40
 (some (.normal, [v0, v4, v39, v40], h40))
 (aB (pu h40 (aQ Tryd.prog .eql 3 true v39 (.int .i64 2))) fun v41 h41 =>
 some (.normal, [v0, v4, v39, v41], h41))) fun e42 x42 h42 => jB e42
 (aK (aH x42 3)
 (aB (pu h42 (aA 4 (aH x42 0))) fun v43 h43 =>
 aB (pu h43 (aC G false 1 v43 h43)) fun v44 h44 =>
 aB (pu h44 (aQ Tryd.prog .lss 3 true v44 (.int .i64 0))) fun v45 h45 =>
 aB (gd v45 false h45 (pu h45 (aA 4 (aH x42 0)))) fun v46 h46 =>
 aB (gd v45 false h46 (pu h46 (aC G false 1 v46 h46))) fun v47 h47 =>
 aB (gd v45 false h47 (pu h47 (aQ Tryd.prog .gtr 3 true v47 (.int .i64 3)))) fun v48 h48 =>
 aB (pu h48 (dM v45 (.bool true) v48)) fun v49 h49 =>
 aK v49
 (some (.ret, [(aH x42 0), (.bool false), (aH x42 1)], h49))
 (some (.normal, [(aH x42 0), .undef, (aH x42 1)], h49)))
 (dO (
 aB (pu h42 (aQ Tryd.prog .eql 3 true (aH x42 2) (.int .i64 16))) fun v50 h50 =>
 aK v50
 (some (.normal, [(aH x42 0), (aH x42 1), v50], h50))
 (aB (pu h50 (aQ Tryd.prog .eql 3 true (aH x42 2) (.int .i64 17))) fun v51 h51 =>
 aK v51
 (some (.normal, [(aH x42 0), (aH x42 1), v51], h51))
 (aB (pu h51 (aQ Tryd.prog .eql 3 true (aH x42 2) (.int .i64 21))) fun v52 h52 =>
 some (.normal, [(aH x42 0), (aH x42 1), v52], h52)))) fun e53 x53 h53 => jB e53
 (aK (aH x53 2)
 (aB (pu h53 (aA 4 (aH x53 0))) fun v54 h54 =>
 aB (pu h54 (aC G false 1 v54 h54)) fun v55 h55 =>
 aB (aE (cA.f G k) [v55] h55) fun v56 h56 =>
 aB (pu h56 (un .not v56)) fun v57 h57 =>
 aK v57
 (some (.ret, [(aH x53 0), (.bool false), (aH x53 1)], h57))
 (some (.normal, [(aH x53 0), .undef, (aH x53 1)], h57)))
 (aB (pu h53 (aA 4 (aH x53 0))) fun v58 h58 =>
 aB (pu h58 (aC G false 1 v58 h58)) fun v59 h59 =>
 aB (pu h59 (aA 3 (aH x53 1))) fun v60 h60 =>
 aB (pu h60 (aC G false 1 v60 h60)) fun v61 h61 =>
 aB (aE (bT.f G k) [v59, v61] h61) fun v62 h62 =>
 aB (pu h62 (un .not v62)) fun v63 h63 =>
 aK v63
 (some (.ret, [(aH x53 0), (.bool false), (aH x53 1)], h63))
 (some (.normal, [(aH x53 0), .undef, (aH x53 1)], h63))))
 (fun i53 => if i53 = 0 then (some (.normal, [(aH x53 0), .undef, (aH x53 1)], h53)) else (some (.exit i53, [(aH x53 0), .undef, (aH x53 1)], h53)))
 (some (.ret, [(aH x53 0), .undef, (aH x53 1)], h53))))
 (fun i42 => if i42 = 0 then (some (.normal, [(aH x42 0), .undef, (aH x42 1)], h42)) else (some (.exit i42, [(aH x42 0), .undef, (aH x42 1)], h42)))
 (some (.ret, [(aH x42 0), .undef, (aH x42 1)], h42))) fun e64 x64 h64 => jB e64
 (dO (
 aB (pu h64 (aA 0 (aH x64 0))) fun v65 h65 =>
 aB (pu h65 (aC G false 1 v65 h65)) fun v66 h66 =>
 dO (
 aB (pu h66 (aQ Tryd.prog .eql 3 true v66 (.int .i64 10))) fun v67 h67 =>
 aK v67
 (some (.normal, [(aH x64 0), (aH x64 2), v66, v67], h67))
 (aB (pu h67 (aQ Tryd.prog .eql 3 true v66 (.int .i64 11))) fun v68 h68 =>
 some (.normal, [(aH x64 0), (aH x64 2), v66, v68], h68))) fun e69 x69 h69 => jB e69
 (aK (aH x69 3)
 (aB (pu h69 (aA 1 (aH x69 0))) fun v70 h70 =>
 aB (pu h70 (aC G false 1 v70 h70)) fun v71 h71 =>
 aB (pu h71 (aQ Tryd.prog .eql 3 true v71 (.int .i64 31))) fun v72 h72 =>
 aB (gd v72 false h72 (pu h72 (aA 2 (aH x69 0)))) fun v73 h73 =>
 aB (gd v72 false h73 (pu h73 (aC G false 1 v73 h73))) fun v74 h74 =>
 aB (gd v72 false h74 (pu h74 (aQ Tryd.prog .eql 3 true v74 (.int .i64 31)))) fun v75 h75 =>
 aB (pu h75 (dM v72 (.bool true) v75)) fun v76 h76 =>
 aK v76
 (some (.ret, [(aH x69 0), (.bool false), (aH x69 1)], h76))
 (some (.normal, [(aH x69 0), .undef, (aH x69 1)], h76)))
 (dO (
 aB (pu h69 (aQ Tryd.prog .eql 3 true (aH x69 2) (.int .i64 18))) fun v77 h77 =>
 aK v77
 (some (.normal, [(aH x69 0), (aH x69 1), v77], h77))
 (aB (pu h77 (aQ Tryd.prog .eql 3 true (aH x69 2) (.int .i64 19))) fun v78 h78 =>
 some (.normal, [(aH x69 0), (aH x69 1), v78], h78))) fun e79 x79 h79 => jB e79
 (aK (aH x79 2)
 (aB (pu h79 (aA 2 (aH x79 0))) fun v80 h80 =>
 aB (pu h80 (aC G false 1 v80 h80)) fun v81 h81 =>
 aB (pu h81 (aQ Tryd.prog .eql 3 true v81 (.int .i64 31))) fun v82 h82 =>
 aK v82
 (some (.ret, [(aH x79 0), (.bool false), (aH x79 1)], h82))
 (some (.normal, [(aH x79 0), .undef, (aH x79 1)], h82)))
 (some (.normal, [(aH x79 0), .undef, (aH x79 1)], h79)))
 (fun i79 => if i79 = 1 then (some (.normal, [(aH x79 0), .undef, (aH x79 1)], h79)) else (some (.exit i79, [(aH x79 0), .undef, (aH x79 1)], h79)))
 (some (.ret, [(aH x79 0), .undef, (aH x79 1)], h79))))
 (fun i69 => if i69 = 1 then (some (.normal, [(aH x69 0), .undef, (aH x69 1)], h69)) else (some (.exit i69, [(aH x69 0), .undef, (aH x69 1)], h69)))
 (some (.ret, [(aH x69 0), .undef, (aH x69 1)], h69))) fun e83 x83 h83 => jB e83
 (aB (pu h83 (aA 4 (aH x83 2))) fun v84 h84 =>
 aB (pu h84 (aC G false 1 v84 h84)) fun v85 h85 =>
 aB (pu h85 (aQ Tryd.prog .eql 3 true v85 (.int .i64 19))) fun v86 h86 =>
 aB (gd v86 false h86 (pu h86 (aA 4 (aH x83 2)))) fun v87 h87 =>
 aB (gd v86 false h87 (pu h87 (aC G false 1 v87 h87))) fun v88 h88 =>
 aB (gd v86 false h88 (pu h88 (aQ Tryd.prog .eql 3 true v88 (.int .i64 26)))) fun v89 h89 =>
 aB (pu h89 (dM v86 (.bool true) v89)) fun v90 h90 =>
 aK v90
 (aB (pu h90 (aA 5 (aH x83 0))) fun v91 h91 =>
 aB (pu h91 (aC G false 1 v91 h91)) fun v92 h92 =>
 aB (pu h92 (aA 4 (aH x83 2))) fun v93 h93 =>
 aB (pu h93 (aC G false 1 v93 h93)) fun v94 h94 =>
 aB (aE (cH.f G k) [v92, v94] h94) fun v95 h95 =>
 bK [v95] h.length h95)
 (aB (pu h90 (aA 5 (aH x83 0))) fun v96 h96 =>
 aB (pu h96 (aC G false 1 v96 h96)) fun v97 h97 =>
 aB (pu h97 (aQ Tryd.prog .geq 3 true v97 (.int .i64 0))) fun v98 h98 =>
 aB (gd v98 true h98 (pu h98 (aA 5 (aH x83 0)))) fun v99 h99 =>
 aB (gd v98 true h99 (pu h99 (aC G false 1 v99 h99))) fun v100 h100 =>
 aB (gd v98 true h100 (pu h100 (aA 4 (aH x83 2)))) fun v101 h101 =>
 aB (gd v98 true h101 (pu h101 (aC G false 1 v101 h101))) fun v102 h102 =>
 aB (gd v98 true h102 (pu h102 (aJ .u64 v102))) fun v103 h103 =>
 aB (gd v98 true h103 (pu h103 (aQ Tryd.prog .shl 3 true (.int .i64 1) v103))) fun v104 h104 =>
 aB (gd v98 true h104 (pu h104 (aQ Tryd.prog .lss 3 false v100 v104))) fun v105 h105 =>
 aB (pu h105 (dM v98 v105 (.bool false))) fun v106 h106 =>
 bK [v106] h.length h106))
 (fun i83 => none)
 (bK [(aH x83 1)] h.length h83))
 (fun i64 => none)
 (bK [(aH x64 1)] h.length h64)))
noncomputable def aS.f (G : aI) : Nat → dE
 | 0 => fun _ _ => none
 | k + 1 => fun args h => nX args fun x0 => (aS.c G k (aS.f G k) x0 h)
theorem aS.step (G : aI) (k : Nat) (x0 : AV) (h : aF) : aS.f G (k + 1) [x0] h = aS.c G k (aS.f G k) x0 h := rfl
noncomputable def aY.ann : Ann := gG [] [] [] [(26, [3, 26])]
noncomputable def aY.env (G : aI) (k : Nat) (self : dE) : List (Nat × Bool × dE) := []
noncomputable def aY.c (G : aI) (k : Nat) (self : dE) (x0 : AV) (h : aF) : Option (AV × aF) := fZ (
 aB (pu h (aQ Tryd.prog .eql 3 true x0 (.int .i64 1))) fun v0 h0 =>
 aK v0
 (bK [(.int .u32 3531603968)] h.length h0)
 (aB (pu h0 (aQ Tryd.prog .eql 3 true x0 (.int .i64 2))) fun v1 h1 =>
 aK v1
 (bK [(.int .u32 4068474880)] h.length h1)
 (aB (pu h1 (aQ Tryd.prog .eql 3 true x0 (.int .i64 3))) fun v2 h2 =>
 aK v2
 (bK [(.int .u32 2332033024)] h.length h2)
 (aB (pu h2 (aQ Tryd.prog .eql 3 true x0 (.int .i64 4))) fun v3 h3 =>
 aK v3
 (bK [(.int .u32 3405774848)] h.length h3)
 (aB (pu h3 (aQ Tryd.prog .eql 3 true x0 (.int .i64 5))) fun v4 h4 =>
 aK v4
 (bK [(.int .u32 2315255808)] h.length h4)
 (aB (pu h4 (aQ Tryd.prog .eql 3 true x0 (.int .i64 6))) fun v5 h5 =>
 aK v5
 (bK [(.int .u32 2852126720)] h.length h5)
 (aB (pu h5 (aQ Tryd.prog .eql 3 true x0 (.int .i64 7))) fun v6 h6 =>
 aK v6
 (bK [(.int .u32 3388997632)] h.length h6)
 (aB (pu h6 (aQ Tryd.prog .eql 3 true x0 (.int .i64 8))) fun v7 h7 =>
 aK v7
 (bK [(.int .u32 2600468480)] h.length h7)
 (aB (pu h7 (aQ Tryd.prog .eql 3 true x0 (.int .i64 9))) fun v8 h8 =>
 aK v8
 (bK [(.int .u32 2613083136)] h.length h8)
 (aB (pu h8 (aQ Tryd.prog .eql 3 true x0 (.int .i64 10))) fun v9 h9 =>
 aK v9
 (bK [(.int .u32 2432696320)] h.length h9)
 (aB (pu h9 (aQ Tryd.prog .eql 3 true x0 (.int .i64 11))) fun v10 h10 =>
 aK v10
 (bK [(.int .u32 3506438144)] h.length h10)
 (dO (
 aB (pu h10 (aQ Tryd.prog .eql 3 true x0 (.int .i64 12))) fun v11 h11 =>
 aK v11
 (some (.normal, [x0, v11], h11))
 (aB (pu h11 (aQ Tryd.prog .eql 3 true x0 (.int .i64 13))) fun v12 h12 =>
 some (.normal, [x0, v12], h12))) fun e13 x13 h13 => jB e13
 (aK (aH x13 1)
 (bK [(.int .u32 3544186880)] h.length h13)
 (aB (pu h13 (aQ Tryd.prog .eql 3 true (aH x13 0) (.int .i64 14))) fun v14 h14 =>
 aK v14
 (bK [(.int .u32 2470509568)] h.length h14)
 (aB (pu h14 (aQ Tryd.prog .eql 3 true (aH x13 0) (.int .i64 15))) fun v15 h15 =>
 aK v15
 (bK [(.int .u32 3942645791)] h.length h15)
 (aB (pu h15 (aQ Tryd.prog .eql 3 true (aH x13 0) (.int .i64 16))) fun v16 h16 =>
 aK v16
 (bK [(.int .u32 2592079872)] h.length h16)
 (aB (pu h16 (aQ Tryd.prog .eql 3 true (aH x13 0) (.int .i64 17))) fun v17 h17 =>
 aK v17
 (bK [(.int .u32 2594113504)] h.length h17)
 (aB (pu h17 (aQ Tryd.prog .eql 3 true (aH x13 0) (.int .i64 18))) fun v18 h18 =>
 aK v18
 (bK [(.int .u32 4181721088)] h.length h18)
 (aB (pu h18 (aQ Tryd.prog .eql 3 true (aH x13 0) (.int .i64 19))) fun v19 h19 =>
 aK v19
 (bK [(.int .u32 4177526784)] h.length h19)
 (aB (pu h19 (aQ Tryd.prog .eql 3 true (aH x13 0) (.int .i64 20))) fun v20 h20 =>
 aK v20
 (bK [(.int .u32 335544320)] h.length h20)
 (aB (pu h20 (aQ Tryd.prog .eql 3 true (aH x13 0) (.int .i64 21))) fun v21 h21 =>
 aK v21
 (bK [(.int .u32 1409286144)] h.length h21)
 (aB (pu h21 (aQ Tryd.prog .eql 3 true (aH x13 0) (.int .i64 22))) fun v22 h22 =>
 aK v22
 (bK [(.int .u32 3019898880)] h.length h22)
 (aB (pu h22 (aQ Tryd.prog .eql 3 true (aH x13 0) (.int .i64 23))) fun v23 h23 =>
 aK v23
 (bK [(.int .u32 3036676096)] h.length h23)
 (aB (pu h23 (aQ Tryd.prog .eql 3 true (aH x13 0) (.int .i64 24))) fun v24 h24 =>
 aK v24
 (bK [(.int .u32 3560964096)] h.length h24)
 (bK [(.int .u32 0)] h.length h24)))))))))))))
 (fun i13 => if i13 = 0 then (bK [(.int .u32 0)] h.length h13) else (none))
 (bK [.undef] h.length h13)))))))))))))
noncomputable def aY.f (G : aI) : Nat → dE
 | 0 => fun _ _ => none
 | k + 1 => fun args h => nX args fun x0 => (aY.c G k (aY.f G k) x0 h)
noncomputable def aG.ann : Ann := gG [] [] [] [(18, [1, 4, 5, 6]), (9, [1, 4, 5, 6, 34, 35])]
noncomputable def aG.env (G : aI) (k : Nat) (self : dE) : List (Nat × Bool × dE) := [(78, true, aS.f G k), (79, true, aM.f G k), (80, true, aY.f G k)]
noncomputable def aG.c (G : aI) (k : Nat) (self : dE) (x0 : AV) (h : aF) : Option (AV × aF) := fZ (
 aB (dH x0 h) fun v0 h0 =>
 aB (pu h0 (aC G true 6 v0 h0)) fun v1 h1 =>
 aB (aE (aS.f G k) [v1] h1) fun v2 h2 =>
 aB (pu h2 (un .not v2)) fun v3 h3 =>
 aK v3
 (bK [(.int .u32 0), (.bool false)] h.length h3)
 (aB (pu h3 (aA 0 v0)) fun v4 h4 =>
 aB (pu h4 (aC G false 1 v4 h4)) fun v5 h5 =>
 aB (aE (aM.f G k) [v5] h5) fun v6 h6 =>
 aB (eY 149 (.agg [(.bool false), (.bool false), (.bool false), (.bool false), (.int .i64 0)]) h6) fun v7 h7 =>
 aB (eH (aO 5 v7 v6 h7)) fun v8 h8 =>
 aB (pu h8 (aA 0 v0)) fun v9 h9 =>
 aB (pu h9 (aC G false 1 v9 h9)) fun v10 h10 =>
 aB (aE (aY.f G k) [v10] h10) fun v11 h11 =>
 aB (pu h11 (aA 1 v0)) fun v12 h12 =>
 aB (pu h12 (aC G false 1 v12 h12)) fun v13 h13 =>
 aB (pu h13 (aJ .u32 v13)) fun v14 h14 =>
 aB (pu h14 (aQ Tryd.prog .or 71 false v11 v14)) fun v15 h15 =>
 aB (pu h15 (aA 2 v0)) fun v16 h16 =>
 aB (pu h16 (aC G false 1 v16 h16)) fun v17 h17 =>
 aB (pu h17 (aJ .u32 v17)) fun v18 h18 =>
 aB (pu h18 (aQ Tryd.prog .shl 71 true v18 (.int .u64 5))) fun v19 h19 =>
 aB (pu h19 (aQ Tryd.prog .or 71 false v15 v19)) fun v20 h20 =>
 aB (pu h20 (aA 3 v0)) fun v21 h21 =>
 aB (pu h21 (aC G false 1 v21 h21)) fun v22 h22 =>
 aB (pu h22 (aJ .u32 v22)) fun v23 h23 =>
 aB (pu h23 (aQ Tryd.prog .shl 71 true v23 (.int .u64 16))) fun v24 h24 =>
 aB (pu h24 (aQ Tryd.prog .or 71 false v20 v24)) fun v25 h25 =>
 aB (pu h25 (aA 5 v0)) fun v26 h26 =>
 aB (pu h26 (aC G false 1 v26 h26)) fun v27 h27 =>
 aB (pu h27 (aJ .u32 v27)) fun v28 h28 =>
 dO (
 aB (pu h28 (aA 0 v0)) fun v29 h29 =>
 aB (pu h29 (aC G false 1 v29 h29)) fun v30 h30 =>
 dO (
 aB (pu h30 (aQ Tryd.prog .eql 3 true v30 (.int .i64 1))) fun v31 h31 =>
 aK v31
 (some (.normal, [v0, v7, v25, v28, v30, v31], h31))
 (aB (pu h31 (aQ Tryd.prog .eql 3 true v30 (.int .i64 2))) fun v32 h32 =>
 some (.normal, [v0, v7, v25, v28, v30, v32], h32))) fun e33 x33 h33 => jB e33
 (aK (aH x33 5)
 (aB (pu h33 (aA 4 (aH x33 0))) fun v34 h34 =>
 aB (pu h34 (aC G false 1 v34 h34)) fun v35 h35 =>
 aB (pu h35 (aJ .u32 v35)) fun v36 h36 =>
 aB (pu h36 (aQ Tryd.prog .shl 71 true v36 (.int .u64 21))) fun v37 h37 =>
 aB (pu h37 (aQ Tryd.prog .or 71 false (aH x33 2) v37)) fun v38 h38 =>
 some (.normal, [(aH x33 0), (aH x33 1), v38, (aH x33 3)], h38))
 (aB (pu h33 (aQ Tryd.prog .eql 3 true (aH x33 4) (.int .i64 8))) fun v39 h39 =>
 aK v39
 (aB (pu h39 (aA 4 (aH x33 0))) fun v40 h40 =>
 aB (pu h40 (aC G false 1 v40 h40)) fun v41 h41 =>
 aB (pu h41 (aJ .u32 v41)) fun v42 h42 =>
 aB (pu h42 (aQ Tryd.prog .shl 71 true v42 (.int .u64 10))) fun v43 h43 =>
 aB (pu h43 (aQ Tryd.prog .or 71 false (aH x33 2) v43)) fun v44 h44 =>
 some (.normal, [(aH x33 0), (aH x33 1), v44, (aH x33 3)], h44))
 (aB (pu h39 (aQ Tryd.prog .eql 3 true (aH x33 4) (.int .i64 16))) fun v45 h45 =>
 aK v45
 (aB (pu h45 (aA 4 (aH x33 0))) fun v46 h46 =>
 aB (pu h46 (aC G false 1 v46 h46)) fun v47 h47 =>
 aB (pu h47 (aJ .u32 v47)) fun v48 h48 =>
 aB (pu h48 (aQ Tryd.prog .shl 71 true v48 (.int .u64 12))) fun v49 h49 =>
 aB (pu h49 (aQ Tryd.prog .or 71 false (aH x33 2) v49)) fun v50 h50 =>
 some (.normal, [(aH x33 0), (aH x33 1), v50, (aH x33 3)], h50))
 (aB (pu h45 (aQ Tryd.prog .eql 3 true (aH x33 4) (.int .i64 17))) fun v51 h51 =>
 aK v51
 (aB (pu h51 (aA 4 (aH x33 0))) fun v52 h52 =>
 aB (pu h52 (aC G false 1 v52 h52)) fun v53 h53 =>
 aB (pu h53 (aQ Tryd.prog .xor 3 true v53 (.int .i64 1))) fun v54 h54 =>
 aB (pu h54 (aJ .u32 v54)) fun v55 h55 =>
 aB (pu h55 (aQ Tryd.prog .shl 71 true v55 (.int .u64 12))) fun v56 h56 =>
 aB (pu h56 (aQ Tryd.prog .or 71 false (aH x33 2) v56)) fun v57 h57 =>
 some (.normal, [(aH x33 0), (aH x33 1), v57, (aH x33 3)], h57))
 (aB (pu h51 (aQ Tryd.prog .eql 3 true (aH x33 4) (.int .i64 21))) fun v58 h58 =>
 aK v58
 (aB (pu h58 (aA 4 (aH x33 0))) fun v59 h59 =>
 aB (pu h59 (aC G false 1 v59 h59)) fun v60 h60 =>
 aB (pu h60 (aJ .u32 v60)) fun v61 h61 =>
 aB (pu h61 (aQ Tryd.prog .or 71 false (aH x33 2) v61)) fun v62 h62 =>
 some (.normal, [(aH x33 0), (aH x33 1), v62, (aH x33 3)], h62))
 (some (.normal, [(aH x33 0), (aH x33 1), (aH x33 2), (aH x33 3)], h58)))))))
 (fun i33 => if i33 = 0 then (some (.normal, [(aH x33 0), (aH x33 1), (aH x33 2), (aH x33 3)], h33)) else (some (.exit i33, [(aH x33 0), (aH x33 1), (aH x33 2), (aH x33 3)], h33)))
 (some (.ret, [(aH x33 0), (aH x33 1), (aH x33 2), (aH x33 3)], h33))) fun e63 x63 h63 => jB e63
 (aB (pu h63 (aA 0 (aH x63 0))) fun v64 h64 =>
 aB (pu h64 (aC G false 1 v64 h64)) fun v65 h65 =>
 aB (pu h65 (aQ Tryd.prog .eql 3 true v65 (.int .i64 12))) fun v66 h66 =>
 aK v66
 (aB (pu h66 (aQ Tryd.prog .sub 71 true (.int .u32 64) (aH x63 3))) fun v67 h67 =>
 aB (pu h67 (aQ Tryd.prog .rem 71 true v67 (.int .u32 64))) fun v68 h68 =>
 aB (pu h68 (aQ Tryd.prog .shl 71 true v68 (.int .u64 16))) fun v69 h69 =>
 aB (pu h69 (aQ Tryd.prog .or 71 false (aH x63 2) v69)) fun v70 h70 =>
 aB (pu h70 (aQ Tryd.prog .sub 71 true (.int .u32 63) (aH x63 3))) fun v71 h71 =>
 aB (pu h71 (aQ Tryd.prog .shl 71 true v71 (.int .u64 10))) fun v72 h72 =>
 aB (pu h72 (aQ Tryd.prog .or 71 false v70 v72)) fun v73 h73 =>
 bK [v73, (.bool true)] h.length h73)
 (aB (pu h66 (aQ Tryd.prog .eql 3 true v65 (.int .i64 13))) fun v74 h74 =>
 aK v74
 (aB (pu h74 (aQ Tryd.prog .shl 71 true (aH x63 3) (.int .u64 16))) fun v75 h75 =>
 aB (pu h75 (aQ Tryd.prog .or 71 false (aH x63 2) v75)) fun v76 h76 =>
 aB (pu h76 (aQ Tryd.prog .or 71 true v76 (.int .u32 64512))) fun v77 h77 =>
 bK [v77, (.bool true)] h.length h77)
 (aB (pu h74 (aQ Tryd.prog .eql 3 true v65 (.int .i64 14))) fun v78 h78 =>
 aK v78
 (aB (pu h78 (aQ Tryd.prog .shl 71 true (aH x63 3) (.int .u64 16))) fun v79 h79 =>
 aB (pu h79 (aQ Tryd.prog .or 71 false (aH x63 2) v79)) fun v80 h80 =>
 bK [v80, (.bool true)] h.length h80)
 (aB (pu h78 (aA 4 (aH x63 1))) fun v81 h81 =>
 aB (pu h81 (aC G false 1 v81 h81)) fun v82 h82 =>
 aB (pu h82 (aQ Tryd.prog .eql 3 true v82 (.int .i64 12))) fun v83 h83 =>
 aK v83
 (aB (pu h83 (aQ Tryd.prog .shl 71 true (aH x63 3) (.int .u64 10))) fun v84 h84 =>
 aB (pu h84 (aQ Tryd.prog .or 71 false (aH x63 2) v84)) fun v85 h85 =>
 bK [v85, (.bool true)] h.length h85)
 (aB (pu h83 (aQ Tryd.prog .eql 3 true v82 (.int .i64 16))) fun v86 h86 =>
 aK v86
 (aB (pu h86 (aQ Tryd.prog .shl 71 true (aH x63 3) (.int .u64 5))) fun v87 h87 =>
 aB (pu h87 (aQ Tryd.prog .or 71 false (aH x63 2) v87)) fun v88 h88 =>
 bK [v88, (.bool true)] h.length h88)
 (aB (pu h86 (aQ Tryd.prog .eql 3 true v82 (.int .i64 19))) fun v89 h89 =>
 aK v89
 (aB (pu h89 (aQ Tryd.prog .and 71 true (aH x63 3) (.int .u32 524287))) fun v90 h90 =>
 aB (pu h90 (aQ Tryd.prog .shl 71 true v90 (.int .u64 5))) fun v91 h91 =>
 aB (pu h91 (aQ Tryd.prog .or 71 false (aH x63 2) v91)) fun v92 h92 =>
 bK [v92, (.bool true)] h.length h92)
 (aB (pu h89 (aQ Tryd.prog .eql 3 true v82 (.int .i64 26))) fun v93 h93 =>
 aK v93
 (aB (pu h93 (aQ Tryd.prog .and 71 true (aH x63 3) (.int .u32 67108863))) fun v94 h94 =>
 aB (pu h94 (aQ Tryd.prog .or 71 false (aH x63 2) v94)) fun v95 h95 =>
 bK [v95, (.bool true)] h.length h95)
 (bK [(aH x63 2), (.bool true)] h.length h93))))))))
 (fun i63 => none)
 (bK [.undef, .undef] h.length h63)))
noncomputable def aG.f (G : aI) : Nat → dE
 | 0 => fun _ _ => none
 | k + 1 => fun args h => nX args fun x0 => (aG.c G k (aG.f G k) x0 h)
theorem aG.step (G : aI) (k : Nat) (x0 : AV) (h : aF) : aG.f G (k + 1) [x0] h = aG.c G k (aG.f G k) x0 h := rfl
noncomputable def bI.ann : Ann := gG [] [] [] []
noncomputable def bI.env (G : aI) (k : Nat) (self : dE) : List (Nat × Bool × dE) := []
noncomputable def bI.c (G : aI) (k : Nat) (self : dE) (x0 x1 : AV) (h : aF) : Option (AV × aF) := fZ (
 aB (pu h (aJ .u64 x1)) fun v0 h0 =>
 aB (pu h0 (aQ Tryd.prog .shl 71 true (.int .u32 1) v0)) fun v1 h1 =>
 aB (pu h1 (aQ Tryd.prog .sub 71 true v1 (.int .u32 1))) fun v2 h2 =>
 aB (pu h2 (aQ Tryd.prog .and 71 false x0 v2)) fun v3 h3 =>
 aB (pu h3 (aJ .i64 v3)) fun v4 h4 =>
 aB (pu h4 (aQ Tryd.prog .sub 3 true x1 (.int .i64 1))) fun v5 h5 =>
 aB (pu h5 (aJ .u64 v5)) fun v6 h6 =>
 aB (pu h6 (aQ Tryd.prog .shl 3 true (.int .i64 1) v6)) fun v7 h7 =>
 aB (pu h7 (aQ Tryd.prog .geq 3 false v4 v7)) fun v8 h8 =>
 aK v8
 (aB (pu h8 (aJ .u64 x1)) fun v9 h9 =>
 aB (pu h9 (aQ Tryd.prog .shl 3 true (.int .i64 1) v9)) fun v10 h10 =>
 aB (pu h10 (aQ Tryd.prog .sub 3 false v4 v10)) fun v11 h11 =>
 bK [v11] h.length h11)
 (bK [v4] h.length h8))
noncomputable def bI.f (G : aI) : Nat → dE
 | 0 => fun _ _ => none
 | k + 1 => fun args h => nJ args fun x0 x1 => (bI.c G k (bI.f G k) x0 x1 h)
theorem bI.step (G : aI) (k : Nat) (x0 x1 : AV) (h : aF) : bI.f G (k + 1) [x0, x1] h = bI.c G k (bI.f G k) x0 x1 h := rfl
noncomputable def cJ.ann : Ann := gG [] [] [] [(34, [1, 4, 7]), (21, [0, 1, 4, 6, 7]), (12, [0, 1, 4, 6, 7, 34, 35]), (9, [0, 1, 4, 6, 7]), (7, [0, 1, 4, 6, 7]), (5, [0, 1, 4, 6, 7])]
noncomputable def cJ.env (G : aI) (k : Nat) (self : dE) : List (Nat × Bool × dE) := [(55, true, aG.f G k), (79, true, aM.f G k), (98, true, bI.f G k)]
noncomputable def cJ.c (G : aI) (k : Nat) (self : dE) (x0 x1 : AV) (h : aF) : Option (AV × aF) := fZ (
 aB (eY 57 (.agg [(.int .i64 0), (.int .i64 0), (.int .i64 0), (.int .i64 0), (.int .i64 0), (.int .i64 0)]) h) fun v0 h0 =>
 aB (aE (aM.f G k) [x0] h0) fun v1 h1 =>
 aB (eY 149 (.agg [(.bool false), (.bool false), (.bool false), (.bool false), (.int .i64 0)]) h1) fun v2 h2 =>
 aB (eH (aO 5 v2 v1 h2)) fun v3 h3 =>
 aB (pu h3 (aZ [(0, 1), (1, 1), (2, 1), (3, 1), (4, 1), (5, 1)] [(.int .i64 0), (.int .i64 0), (.int .i64 0), (.int .i64 0), (.int .i64 0), (.int .i64 0)] [(0, x0)])) fun v4 h4 =>
 aB (eY 57 (.agg [(.int .i64 0), (.int .i64 0), (.int .i64 0), (.int .i64 0), (.int .i64 0), (.int .i64 0)]) h4) fun v5 h5 =>
 aB (eH (aO 6 v5 v4 h5)) fun v6 h6 =>
 dO (
 aB (pu h6 (aA 0 v2)) fun v7 h7 =>
 aB (pu h7 (aC G false 1 v7 h7)) fun v8 h8 =>
 aK v8
 (aB (pu h8 (aQ Tryd.prog .and 71 true x1 (.int .u32 31))) fun v9 h9 =>
 aB (pu h9 (aJ .i64 v9)) fun v10 h10 =>
 aB (pu h10 (aA 1 v5)) fun v11 h11 =>
 aB (eH (aO 1 v11 v10 h11)) fun v12 h12 =>
 some (.normal, [x0, x1, v0, v2, v5], h12))
 (some (.normal, [x0, x1, v0, v2, v5], h8))) fun e13 x13 h13 => jB e13
 (dO (
 aB (pu h13 (aA 1 (aH x13 3))) fun v14 h14 =>
 aB (pu h14 (aC G false 1 v14 h14)) fun v15 h15 =>
 aK v15
 (aB (pu h15 (aQ Tryd.prog .shr 71 true (aH x13 1) (.int .u64 5))) fun v16 h16 =>
 aB (pu h16 (aQ Tryd.prog .and 71 true v16 (.int .u32 31))) fun v17 h17 =>
 aB (pu h17 (aJ .i64 v17)) fun v18 h18 =>
 aB (pu h18 (aA 2 (aH x13 4))) fun v19 h19 =>
 aB (eH (aO 1 v19 v18 h19)) fun v20 h20 =>
 some (.normal, [(aH x13 0), (aH x13 1), (aH x13 2), (aH x13 3), (aH x13 4)], h20))
 (some (.normal, [(aH x13 0), (aH x13 1), (aH x13 2), (aH x13 3), (aH x13 4)], h15))) fun e21 x21 h21 => jB e21
 (dO (
 aB (pu h21 (aA 2 (aH x21 3))) fun v22 h22 =>
 aB (pu h22 (aC G false 1 v22 h22)) fun v23 h23 =>
 aK v23
 (aB (pu h23 (aQ Tryd.prog .shr 71 true (aH x21 1) (.int .u64 16))) fun v24 h24 =>
 aB (pu h24 (aQ Tryd.prog .and 71 true v24 (.int .u32 31))) fun v25 h25 =>
 aB (pu h25 (aJ .i64 v25)) fun v26 h26 =>
 aB (pu h26 (aA 3 (aH x21 4))) fun v27 h27 =>
 aB (eH (aO 1 v27 v26 h27)) fun v28 h28 =>
 some (.normal, [(aH x21 0), (aH x21 1), (aH x21 2), (aH x21 3), (aH x21 4)], h28))
 (some (.normal, [(aH x21 0), (aH x21 1), (aH x21 2), (aH x21 3), (aH x21 4)], h23))) fun e29 x29 h29 => jB e29
 (dO (
 dO (
 aB (pu h29 (aQ Tryd.prog .eql 3 true (aH x29 0) (.int .i64 1))) fun v30 h30 =>
 aK v30
 (some (.normal, [(aH x29 0), (aH x29 1), (aH x29 2), (aH x29 3), (aH x29 4), (aH x29 0), v30], h30))
 (aB (pu h30 (aQ Tryd.prog .eql 3 true (aH x29 0) (.int .i64 2))) fun v31 h31 =>
 some (.normal, [(aH x29 0), (aH x29 1), (aH x29 2), (aH x29 3), (aH x29 4), (aH x29 0), v31], h31))) fun e32 x32 h32 => jB e32
 (aK (aH x32 6)
 (aB (pu h32 (aQ Tryd.prog .shr 71 true (aH x32 1) (.int .u64 21))) fun v33 h33 =>
 aB (pu h33 (aQ Tryd.prog .and 71 true v33 (.int .u32 3))) fun v34 h34 =>
 aB (pu h34 (aJ .i64 v34)) fun v35 h35 =>
 aB (pu h35 (aA 4 (aH x32 4))) fun v36 h36 =>
 aB (eH (aO 1 v36 v35 h36)) fun v37 h37 =>
 some (.normal, [(aH x32 0), (aH x32 1), (aH x32 2), (aH x32 3), (aH x32 4)], h37))
 (aB (pu h32 (aQ Tryd.prog .eql 3 true (aH x32 5) (.int .i64 8))) fun v38 h38 =>
 aK v38
 (aB (pu h38 (aQ Tryd.prog .shr 71 true (aH x32 1) (.int .u64 10))) fun v39 h39 =>
 aB (pu h39 (aQ Tryd.prog .and 71 true v39 (.int .u32 31))) fun v40 h40 =>
 aB (pu h40 (aJ .i64 v40)) fun v41 h41 =>
 aB (pu h41 (aA 4 (aH x32 4))) fun v42 h42 =>
 aB (eH (aO 1 v42 v41 h42)) fun v43 h43 =>
 some (.normal, [(aH x32 0), (aH x32 1), (aH x32 2), (aH x32 3), (aH x32 4)], h43))
 (aB (pu h38 (aQ Tryd.prog .eql 3 true (aH x32 5) (.int .i64 16))) fun v44 h44 =>
 aK v44
 (aB (pu h44 (aQ Tryd.prog .shr 71 true (aH x32 1) (.int .u64 12))) fun v45 h45 =>
 aB (pu h45 (aQ Tryd.prog .and 71 true v45 (.int .u32 15))) fun v46 h46 =>
 aB (pu h46 (aJ .i64 v46)) fun v47 h47 =>
 aB (pu h47 (aA 4 (aH x32 4))) fun v48 h48 =>
 aB (eH (aO 1 v48 v47 h48)) fun v49 h49 =>
 some (.normal, [(aH x32 0), (aH x32 1), (aH x32 2), (aH x32 3), (aH x32 4)], h49))
 (aB (pu h44 (aQ Tryd.prog .eql 3 true (aH x32 5) (.int .i64 17))) fun v50 h50 =>
 aK v50
 (aB (pu h50 (aQ Tryd.prog .shr 71 true (aH x32 1) (.int .u64 12))) fun v51 h51 =>
 aB (pu h51 (aQ Tryd.prog .and 71 true v51 (.int .u32 15))) fun v52 h52 =>
 aB (pu h52 (aJ .i64 v52)) fun v53 h53 =>
 aB (pu h53 (aQ Tryd.prog .xor 3 true v53 (.int .i64 1))) fun v54 h54 =>
 aB (pu h54 (aA 4 (aH x32 4))) fun v55 h55 =>
 aB (eH (aO 1 v55 v54 h55)) fun v56 h56 =>
 some (.normal, [(aH x32 0), (aH x32 1), (aH x32 2), (aH x32 3), (aH x32 4)], h56))
 (aB (pu h50 (aQ Tryd.prog .eql 3 true (aH x32 5) (.int .i64 21))) fun v57 h57 =>
 aK v57
 (aB (pu h57 (aQ Tryd.prog .and 71 true (aH x32 1) (.int .u32 15))) fun v58 h58 =>
 aB (pu h58 (aJ .i64 v58)) fun v59 h59 =>
 aB (pu h59 (aA 4 (aH x32 4))) fun v60 h60 =>
 aB (eH (aO 1 v60 v59 h60)) fun v61 h61 =>
 some (.normal, [(aH x32 0), (aH x32 1), (aH x32 2), (aH x32 3), (aH x32 4)], h61))
 (some (.normal, [(aH x32 0), (aH x32 1), (aH x32 2), (aH x32 3), (aH x32 4)], h57)))))))
 (fun i32 => if i32 = 0 then (some (.normal, [(aH x32 0), (aH x32 1), (aH x32 2), (aH x32 3), (aH x32 4)], h32)) else (some (.exit i32, [(aH x32 0), (aH x32 1), (aH x32 2), (aH x32 3), (aH x32 4)], h32)))
 (some (.ret, [(aH x32 0), (aH x32 1), (aH x32 2), (aH x32 3), (aH x32 4)], h32))) fun e62 x62 h62 => jB e62
 (dO (
 aB (pu h62 (aA 4 (aH x62 3))) fun v63 h63 =>
 aB (pu h63 (aC G false 1 v63 h63)) fun v64 h64 =>
 aB (pu h64 (aQ Tryd.prog .eql 3 true v64 (.int .i64 6))) fun v65 h65 =>
 aK v65
 (aB (pu h65 (aQ Tryd.prog .shr 71 true (aH x62 1) (.int .u64 16))) fun v66 h66 =>
 aB (pu h66 (aQ Tryd.prog .and 71 true v66 (.int .u32 63))) fun v67 h67 =>
 aB (pu h67 (aJ .i64 v67)) fun v68 h68 =>
 aB (pu h68 (aA 5 (aH x62 4))) fun v69 h69 =>
 aB (eH (aO 1 v69 v68 h69)) fun v70 h70 =>
 aB (pu h70 (aQ Tryd.prog .eql 3 true (aH x62 0) (.int .i64 12))) fun v71 h71 =>
 aK v71
 (aB (pu h71 (aA 5 (aH x62 4))) fun v72 h72 =>
 aB (pu h72 (aC G false 1 v72 h72)) fun v73 h73 =>
 aB (pu h73 (aQ Tryd.prog .sub 3 true (.int .i64 64) v73)) fun v74 h74 =>
 aB (pu h74 (aQ Tryd.prog .rem 3 true v74 (.int .i64 64))) fun v75 h75 =>
 aB (pu h75 (aA 5 (aH x62 4))) fun v76 h76 =>
 aB (eH (aO 1 v76 v75 h76)) fun v77 h77 =>
 some (.normal, [(aH x62 1), (aH x62 2), (aH x62 4)], h77))
 (some (.normal, [(aH x62 1), (aH x62 2), (aH x62 4)], h71)))
 (aB (pu h65 (aQ Tryd.prog .eql 3 true v64 (.int .i64 12))) fun v78 h78 =>
 aK v78
 (aB (pu h78 (aQ Tryd.prog .shr 71 true (aH x62 1) (.int .u64 10))) fun v79 h79 =>
 aB (pu h79 (aQ Tryd.prog .and 71 true v79 (.int .u32 4095))) fun v80 h80 =>
 aB (pu h80 (aJ .i64 v80)) fun v81 h81 =>
 aB (pu h81 (aA 5 (aH x62 4))) fun v82 h82 =>
 aB (eH (aO 1 v82 v81 h82)) fun v83 h83 =>
 some (.normal, [(aH x62 1), (aH x62 2), (aH x62 4)], h83))
 (aB (pu h78 (aQ Tryd.prog .eql 3 true v64 (.int .i64 16))) fun v84 h84 =>
 aK v84
 (aB (pu h84 (aQ Tryd.prog .shr 71 true (aH x62 1) (.int .u64 5))) fun v85 h85 =>
 aB (pu h85 (aQ Tryd.prog .and 71 true v85 (.int .u32 65535))) fun v86 h86 =>
 aB (pu h86 (aJ .i64 v86)) fun v87 h87 =>
 aB (pu h87 (aA 5 (aH x62 4))) fun v88 h88 =>
 aB (eH (aO 1 v88 v87 h88)) fun v89 h89 =>
 some (.normal, [(aH x62 1), (aH x62 2), (aH x62 4)], h89))
 (aB (pu h84 (aQ Tryd.prog .eql 3 true v64 (.int .i64 19))) fun v90 h90 =>
 aK v90
 (aB (pu h90 (aQ Tryd.prog .shr 71 true (aH x62 1) (.int .u64 5))) fun v91 h91 =>
 aB (aE (bI.f G k) [v91, (.int .i64 19)] h91) fun v92 h92 =>
 aB (pu h92 (aA 5 (aH x62 4))) fun v93 h93 =>
 aB (eH (aO 1 v93 v92 h93)) fun v94 h94 =>
 some (.normal, [(aH x62 1), (aH x62 2), (aH x62 4)], h94))
 (aB (pu h90 (aQ Tryd.prog .eql 3 true v64 (.int .i64 26))) fun v95 h95 =>
 aK v95
 (aB (aE (bI.f G k) [(aH x62 1), (.int .i64 26)] h95) fun v96 h96 =>
 aB (pu h96 (aA 5 (aH x62 4))) fun v97 h97 =>
 aB (eH (aO 1 v97 v96 h97)) fun v98 h98 =>
 some (.normal, [(aH x62 1), (aH x62 2), (aH x62 4)], h98))
 (some (.normal, [(aH x62 1), (aH x62 2), (aH x62 4)], h95))))))) fun e99 x99 h99 => jB e99
 (aB (pu h99 (aC G true 6 (aH x99 2) h99)) fun v100 h100 =>
 aB (aE (aG.f G k) [v100] h100) fun v101 h101 =>
 aB (pu h101 (cL v101 0)) fun v102 h102 =>
 aB (pu h102 (cL v101 1)) fun v103 h103 =>
 aB (pu h103 (un .not v103)) fun v104 h104 =>
 aB (gd v104 false h104 (some (v102, h104))) fun v105 h105 =>
 aB (gd v104 false h105 (some ((aH x99 0), h105))) fun v106 h106 =>
 aB (gd v104 false h106 (pu h106 (aQ Tryd.prog .neq 71 false v105 v106))) fun v107 h107 =>
 aB (pu h107 (dM v104 (.bool true) v107)) fun v108 h108 =>
 aK v108
 (aB (pu h108 (aZ [(0, 1), (1, 1), (2, 1), (3, 1), (4, 1), (5, 1)] [(.int .i64 0), (.int .i64 0), (.int .i64 0), (.int .i64 0), (.int .i64 0), (.int .i64 0)] [])) fun v109 h109 =>
 aB (eH (aO 6 (aH x99 1) v109 h109)) fun v110 h110 =>
 fX [aC G true 6 (aH x99 1) h110, some (.bool false)] h.length h110)
 (aB (pu h108 (aC G true 6 (aH x99 2) h108)) fun v111 h111 =>
 aB (eH (aO 6 (aH x99 1) v111 h111)) fun v112 h112 =>
 fX [aC G true 6 (aH x99 1) h112, some (.bool true)] h.length h112))
 (fun i99 => none)
 (fX [aC G true 6 (aH x99 1) h99, some .undef] h.length h99))
 (fun i62 => none)
 (fX [aC G true 6 (aH x62 2) h62, some .undef] h.length h62))
 (fun i29 => none)
 (fX [aC G true 6 (aH x29 2) h29, some .undef] h.length h29))
 (fun i21 => none)
 (fX [aC G true 6 (aH x21 2) h21, some .undef] h.length h21))
 (fun i13 => none)
 (fX [aC G true 6 (aH x13 2) h13, some .undef] h.length h13))
noncomputable def cJ.f (G : aI) : Nat → dE
 | 0 => fun _ _ => none
 | k + 1 => fun args h => nJ args fun x0 x1 => (cJ.c G k (cJ.f G k) x0 x1 h)
theorem cJ.step (G : aI) (k : Nat) (x0 x1 : AV) (h : aF) : cJ.f G (k + 1) [x0, x1] h = cJ.c G k (cJ.f G k) x0 x1 h := rfl
noncomputable def bO.ann : Ann := gG [] [] [(2, [0, 2, 3, 4])] [(3, [0, 2, 3, 4])]
noncomputable def bO.env (G : aI) (k : Nat) (self : dE) : List (Nat × Bool × dE) := [(77, true, cJ.f G k)]
noncomputable def bO.l2 (G : aI) (k n0 : Nat) (self : dE) (lp : iP) : iP := fun xs h0 => qJ n0 xs h0 fun h =>
 aB (pu h (aQ Tryd.prog .leq 3 true (aH xs 3) (.int .i64 24))) fun v2 h2 =>
 aK v2
 (dO (
 aB (pu h2 (aQ Tryd.prog .eql 3 true (aH xs 3) (.int .i64 12))) fun v3 h3 =>
 aK v3
 (some (.normal, [(aH xs 0), (aH xs 1), (aH xs 2), (aH xs 3)], h3))
 (aB (aE (cJ.f G k) [(aH xs 3), (aH xs 0)] h3) fun v4 h4 =>
 aB (pu h4 (cL v4 0)) fun v5 h5 =>
 aB (pu h5 (cL v4 1)) fun v6 h6 =>
 aB (eY 57 (.agg [(.int .i64 0), (.int .i64 0), (.int .i64 0), (.int .i64 0), (.int .i64 0), (.int .i64 0)]) h6) fun v7 h7 =>
 aB (eH (aO 6 v7 v5 h7)) fun v8 h8 =>
 aK v6
 (aB (pu h8 (aC G true 6 v7 h8)) fun v9 h9 =>
 aB (eH (aO 6 (aH xs 1) v9 h9)) fun v10 h10 =>
 some (.ret, [(aH xs 0), (aH xs 1), (.bool true), (aH xs 3)], h10))
 (some (.normal, [(aH xs 0), (aH xs 1), (aH xs 2), (aH xs 3)], h8)))) fun e11 x11 h11 => jB e11
 (aB (pu h11 (aQ Tryd.prog .add 3 true (aH x11 3) (.int .i64 1))) fun v12 h12 =>
 lp [(aH x11 0), (aH x11 1), (aH x11 2), v12] h12)
 (fun i11 => some (.exit i11, [(aH x11 0), (aH x11 1), (aH x11 2), (aH x11 3)], h11))
 (some (.ret, [(aH x11 0), (aH x11 1), (aH x11 2), (aH x11 3)], h11)))
 (some (.exit 0, [(aH xs 0), (aH xs 1), (aH xs 2), (aH xs 3)], h2))
noncomputable def bO.c (G : aI) (k : Nat) (self : dE) (x0 : AV) (h : aF) : Option (AV × aF) := fZ (
 aB (eY 57 (.agg [(.int .i64 0), (.int .i64 0), (.int .i64 0), (.int .i64 0), (.int .i64 0), (.int .i64 0)]) h) fun v0 h0 =>
 dO (gH (bO.l2 G k h0.length self) k [x0, v0, (.bool false), (.int .i64 1)] h0) fun e1 x1 h1 => jB e1
 (aB (aE (cJ.f G k) [(.int .i64 12), (aH x1 0)] h1) fun v13 h13 =>
 aB (pu h13 (cL v13 0)) fun v14 h14 =>
 aB (pu h14 (cL v13 1)) fun v15 h15 =>
 aB (eH (aO 6 (aH x1 1) v14 h15)) fun v16 h16 =>
 fX [aC G true 6 (aH x1 1) h16, some v15] h.length h16)
 (fun i1 => if i1 = 0 then (aB (aE (cJ.f G k) [(.int .i64 12), (aH x1 0)] h1) fun v17 h17 =>
 aB (pu h17 (cL v17 0)) fun v18 h18 =>
 aB (pu h18 (cL v17 1)) fun v19 h19 =>
 aB (eH (aO 6 (aH x1 1) v18 h19)) fun v20 h20 =>
 fX [aC G true 6 (aH x1 1) h20, some v19] h.length h20) else (none))
 (fX [aC G true 6 (aH x1 1) h1, some (aH x1 2)] h.length h1))
noncomputable def bO.f (G : aI) : Nat → dE
 | 0 => fun _ _ => none
 | k + 1 => fun args h => nX args fun x0 => (bO.c G k (bO.f G k) x0 h)
theorem bO.step (G : aI) (k : Nat) (x0 : AV) (h : aF) : bO.f G (k + 1) [x0] h = bO.c G k (bO.f G k) x0 h := rfl
noncomputable def bQ.ann : Ann := gG [] [] [] []
noncomputable def bQ.env (G : aI) (k : Nat) (self : dE) : List (Nat × Bool × dE) := []
noncomputable def bQ.c (G : aI) (k : Nat) (self : dE) (x0 x1 : AV) (h : aF) : Option (AV × aF) := fZ (
 aB (pu h (aQ Tryd.prog .and 43 true x0 (.int .u64 4294967295))) fun v0 h0 =>
 aB (pu h0 (aQ Tryd.prog .shr 43 true x0 (.int .u64 32))) fun v1 h1 =>
 aB (pu h1 (aQ Tryd.prog .and 43 true x1 (.int .u64 4294967295))) fun v2 h2 =>
 aB (pu h2 (aQ Tryd.prog .shr 43 true x1 (.int .u64 32))) fun v3 h3 =>
 aB (pu h3 (aQ Tryd.prog .mul 43 false v0 v2)) fun v4 h4 =>
 aB (pu h4 (aQ Tryd.prog .mul 43 false v1 v2)) fun v5 h5 =>
 aB (pu h5 (aQ Tryd.prog .shr 43 true v4 (.int .u64 32))) fun v6 h6 =>
 aB (pu h6 (aQ Tryd.prog .add 43 false v5 v6)) fun v7 h7 =>
 aB (pu h7 (aQ Tryd.prog .and 43 true v7 (.int .u64 4294967295))) fun v8 h8 =>
 aB (pu h8 (aQ Tryd.prog .shr 43 true v7 (.int .u64 32))) fun v9 h9 =>
 aB (pu h9 (aQ Tryd.prog .mul 43 false v0 v3)) fun v10 h10 =>
 aB (pu h10 (aQ Tryd.prog .add 43 false v8 v10)) fun v11 h11 =>
 aB (pu h11 (aQ Tryd.prog .mul 43 false v1 v3)) fun v12 h12 =>
 aB (pu h12 (aQ Tryd.prog .add 43 false v12 v9)) fun v13 h13 =>
 aB (pu h13 (aQ Tryd.prog .shr 43 true v11 (.int .u64 32))) fun v14 h14 =>
 aB (pu h14 (aQ Tryd.prog .add 43 false v13 v14)) fun v15 h15 =>
 aB (pu h15 (aQ Tryd.prog .mul 43 false x0 x1)) fun v16 h16 =>
 bK [v15, v16] h.length h16)
noncomputable def bQ.f (G : aI) : Nat → dE
 | 0 => fun _ _ => none
 | k + 1 => fun args h => nJ args fun x0 x1 => (bQ.c G k (bQ.f G k) x0 x1 h)
theorem bQ.step (G : aI) (k : Nat) (x0 x1 : AV) (h : aF) : bQ.f G (k + 1) [x0, x1] h = bQ.c G k (bQ.f G k) x0 x1 h := rfl
noncomputable def bE.ann : Ann := gG [] [] [] []
noncomputable def bE.env (G : aI) (k : Nat) (self : dE) : List (Nat × Bool × dE) := []
noncomputable def bE.c (G : aI) (k : Nat) (self : dE) (x0 x1 : AV) (h : aF) : Option (AV × aF) := fZ (
 aB (dH x1 h) fun v0 h0 =>
 aB (pu h0 (iZ 4 1 v0 (.int .i64 1))) fun v1 h1 =>
 aB (pu h1 (aC G false 1 v1 h1)) fun v2 h2 =>
 aB (pu h2 (iZ 4 1 v0 (.int .i64 2))) fun v3 h3 =>
 aB (pu h3 (aC G false 1 v3 h3)) fun v4 h4 =>
 aB (pu h4 (aQ Tryd.prog .eql 3 true x0 (.int .i64 0))) fun v5 h5 =>
 aK v5
 (bK [v2] h.length h5)
 (aB (pu h5 (aQ Tryd.prog .eql 3 true x0 (.int .i64 1))) fun v6 h6 =>
 aK v6
 (aB (pu h6 (un .not v2)) fun v7 h7 =>
 bK [v7] h.length h7)
 (aB (pu h6 (aQ Tryd.prog .eql 3 true x0 (.int .i64 2))) fun v8 h8 =>
 aK v8
 (bK [v4] h.length h8)
 (aB (pu h8 (aQ Tryd.prog .eql 3 true x0 (.int .i64 3))) fun v9 h9 =>
 aK v9
 (aB (pu h9 (un .not v4)) fun v10 h10 =>
 bK [v10] h.length h10)
 (aB (pu h9 (aQ Tryd.prog .eql 3 true x0 (.int .i64 8))) fun v11 h11 =>
 aK v11
 (aB (gd v4 true h11 (some (v2, h11))) fun v12 h12 =>
 aB (gd v4 true h12 (pu h12 (un .not v12))) fun v13 h13 =>
 aB (pu h13 (dM v4 v13 (.bool false))) fun v14 h14 =>
 bK [v14] h.length h14)
 (aB (pu h11 (aQ Tryd.prog .eql 3 true x0 (.int .i64 9))) fun v15 h15 =>
 aK v15
 (aB (gd v4 true h15 (some (v2, h15))) fun v16 h16 =>
 aB (gd v4 true h16 (pu h16 (un .not v16))) fun v17 h17 =>
 aB (pu h17 (dM v4 v17 (.bool false))) fun v18 h18 =>
 aB (pu h18 (un .not v18)) fun v19 h19 =>
 bK [v19] h.length h19)
 (bK [(.bool false)] h.length h15)))))))
noncomputable def bE.f (G : aI) : Nat → dE
 | 0 => fun _ _ => none
 | k + 1 => fun args h => nJ args fun x0 x1 => (bE.c G k (bE.f G k) x0 x1 h)
theorem bE.step (G : aI) (k : Nat) (x0 x1 : AV) (h : aF) : bE.f G (k + 1) [x0, x1] h = bE.c G k (bE.f G k) x0 x1 h := rfl
noncomputable def aU.ann : Ann := gG [] [] [] []
noncomputable def aU.env (G : aI) (k : Nat) (self : dE) : List (Nat × Bool × dE) := []
noncomputable def aU.c (G : aI) (k : Nat) (self : dE) (x0 x1 : AV) (h : aF) : Option (AV × aF) := fZ (
 aB (dH x0 h) fun v0 h0 =>
 aB (pu h0 (aQ Tryd.prog .eql 3 true x1 (.int .i64 31))) fun v1 h1 =>
 aK v1
 (bK [(.int .u64 0)] h.length h1)
 (aB (pu h1 (iZ 31 1 v0 x1)) fun v2 h2 =>
 aB (pu h2 (aC G false 1 v2 h2)) fun v3 h3 =>
 bK [v3] h.length h3))
noncomputable def aU.f (G : aI) : Nat → dE
 | 0 => fun _ _ => none
 | k + 1 => fun args h => nJ args fun x0 x1 => (aU.c G k (aU.f G k) x0 x1 h)
theorem aU.step (G : aI) (k : Nat) (x0 x1 : AV) (h : aF) : aU.f G (k + 1) [x0, x1] h = aU.c G k (aU.f G k) x0 x1 h := rfl
noncomputable def aV.ann : Ann := gG [3] [] [] []
noncomputable def aV.env (G : aI) (k : Nat) (self : dE) : List (Nat × Bool × dE) := []
noncomputable def aV.c (G : aI) (k : Nat) (self : dE) (x0 x1 x2 : AV) (h : aF) : Option (AV × aF) := fZ (
 aB (eY 44 x0 h) fun v0 h0 =>
 aB (eY 44 (.agg [(.int .u64 0), (.int .u64 0), (.int .u64 0), (.int .u64 0), (.int .u64 0), (.int .u64 0), (.int .u64 0), (.int .u64 0), (.int .u64 0), (.int .u64 0), (.int .u64 0), (.int .u64 0), (.int .u64 0), (.int .u64 0), (.int .u64 0), (.int .u64 0), (.int .u64 0), (.int .u64 0), (.int .u64 0), (.int .u64 0), (.int .u64 0), (.int .u64 0), (.int .u64 0), (.int .u64 0), (.int .u64 0), (.int .u64 0), (.int .u64 0), (.int .u64 0), (.int .u64 0), (.int .u64 0), (.int .u64 0)]) h0) fun v1 h1 =>
 aB (pu h1 (aQ Tryd.prog .neq 3 true x1 (.int .i64 31))) fun v2 h2 =>
 aK v2
 (aB (pu h2 (iZ 31 1 v0 x1)) fun v3 h3 =>
 aB (eH (aO 1 v3 x2 h3)) fun v4 h4 =>
 aB (pu h4 (aC G true 31 v0 h4)) fun v5 h5 =>
 aB (eH (aO 31 v1 v5 h5)) fun v6 h6 =>
 fX [aC G true 31 v1 h6] h.length h6)
 (aB (pu h2 (aC G true 31 v0 h2)) fun v7 h7 =>
 aB (eH (aO 31 v1 v7 h7)) fun v8 h8 =>
 fX [aC G true 31 v1 h8] h.length h8))
noncomputable def aV.f (G : aI) : Nat → dE
 | 0 => fun _ _ => none
 | k + 1 => fun args h => yE args fun x0 x1 x2 => (aV.c G k (aV.f G k) x0 x1 x2 h)
theorem aV.step (G : aI) (k : Nat) (x0 x1 x2 : AV) (h : aF) : aV.f G (k + 1) [x0, x1, x2] h = aV.c G k (aV.f G k) x0 x1 x2 h := rfl
noncomputable def aL.ann : Ann := gG [] [] [] [(48, [3, 4, 5, 6, 7, 8, 14])]
noncomputable def aL.env (G : aI) (k : Nat) (self : dE) : List (Nat × Bool × dE) := [(34, true, bE.f G k), (52, true, aU.f G k), (53, true, aV.f G k), (55, true, aG.f G k), (56, true, bQ.f G k)]
noncomputable def aL.c (G : aI) (k : Nat) (self : dE) (x0 x1 x2 : AV) (h : aF) : Option (AV × aF) := fZ (
 aB (dH x0 h) fun v0 h0 =>
 aB (dH x1 h0) fun v1 h1 =>
 aB (dH x2 h1) fun v2 h2 =>
 aB (eY 44 (.agg [(.int .u64 0), (.int .u64 0), (.int .u64 0), (.int .u64 0), (.int .u64 0), (.int .u64 0), (.int .u64 0), (.int .u64 0), (.int .u64 0), (.int .u64 0), (.int .u64 0), (.int .u64 0), (.int .u64 0), (.int .u64 0), (.int .u64 0), (.int .u64 0), (.int .u64 0), (.int .u64 0), (.int .u64 0), (.int .u64 0), (.int .u64 0), (.int .u64 0), (.int .u64 0), (.int .u64 0), (.int .u64 0), (.int .u64 0), (.int .u64 0), (.int .u64 0), (.int .u64 0), (.int .u64 0), (.int .u64 0)]) h2) fun v3 h3 =>
 aB (eY 53 (.agg [(.bool false), (.bool false), (.bool false), (.bool false)]) h3) fun v4 h4 =>
 aB (pu h4 (aC G true 6 v0 h4)) fun v5 h5 =>
 aB (aE (aG.f G k) [v5] h5) fun v6 h6 =>
 aB (pu h6 (cL v6 0)) fun v7 h7 =>
 aB (pu h7 (cL v6 1)) fun v8 h8 =>
 aB (pu h8 (un .not v8)) fun v9 h9 =>
 aB (gd v9 false h9 (pu h9 (aA 0 v0))) fun v10 h10 =>
 aB (gd v9 false h10 (pu h10 (aC G false 1 v10 h10))) fun v11 h11 =>
 aB (gd v9 false h11 (pu h11 (aQ Tryd.prog .gtr 3 true v11 (.int .i64 17)))) fun v12 h12 =>
 aB (pu h12 (dM v9 (.bool true) v12)) fun v13 h13 =>
 aK v13
 (aB (pu h13 (dZ 1 [(.int .u64 0), (.int .u64 0), (.int .u64 0), (.int .u64 0), (.int .u64 0), (.int .u64 0), (.int .u64 0), (.int .u64 0), (.int .u64 0), (.int .u64 0), (.int .u64 0), (.int .u64 0), (.int .u64 0), (.int .u64 0), (.int .u64 0), (.int .u64 0), (.int .u64 0), (.int .u64 0), (.int .u64 0), (.int .u64 0), (.int .u64 0), (.int .u64 0), (.int .u64 0), (.int .u64 0), (.int .u64 0), (.int .u64 0), (.int .u64 0), (.int .u64 0), (.int .u64 0), (.int .u64 0), (.int .u64 0)] [])) fun v14 h14 =>
 aB (pu h14 (dZ 1 [(.bool false), (.bool false), (.bool false), (.bool false)] [])) fun v15 h15 =>
 aB (eH (aO 31 v3 v14 h15)) fun v16 h16 =>
 aB (eH (aO 4 v4 v15 h16)) fun v17 h17 =>
 fX [aC G true 31 v3 h17, aC G true 4 v4 h17, some (.bool false)] h.length h17)
 (aB (pu h13 (aC G true 31 v1 h13)) fun v18 h18 =>
 aB (pu h18 (aA 2 v0)) fun v19 h19 =>
 aB (pu h19 (aC G false 1 v19 h19)) fun v20 h20 =>
 aB (aE (aU.f G k) [v18, v20] h20) fun v21 h21 =>
 aB (pu h21 (aC G true 31 v1 h21)) fun v22 h22 =>
 aB (pu h22 (aA 3 v0)) fun v23 h23 =>
 aB (pu h23 (aC G false 1 v23 h23)) fun v24 h24 =>
 aB (aE (aU.f G k) [v22, v24] h24) fun v25 h25 =>
 aB (pu h25 (aA 5 v0)) fun v26 h26 =>
 aB (pu h26 (aC G false 1 v26 h26)) fun v27 h27 =>
 aB (pu h27 (aQ Tryd.prog .and 3 true v27 (.int .i64 63))) fun v28 h28 =>
 aB (pu h28 (aJ .u64 v28)) fun v29 h29 =>
 dO (
 aB (pu h29 (aA 0 v0)) fun v30 h30 =>
 aB (pu h30 (aC G false 1 v30 h30)) fun v31 h31 =>
 aB (pu h31 (aQ Tryd.prog .eql 3 true v31 (.int .i64 1))) fun v32 h32 =>
 aK v32
 (aB (pu h32 (aA 5 v0)) fun v33 h33 =>
 aB (pu h33 (aC G false 1 v33 h33)) fun v34 h34 =>
 aB (pu h34 (aJ .u64 v34)) fun v35 h35 =>
 aB (pu h35 (aA 4 v0)) fun v36 h36 =>
 aB (pu h36 (aC G false 1 v36 h36)) fun v37 h37 =>
 aB (pu h37 (aQ Tryd.prog .mul 3 true (.int .i64 16) v37)) fun v38 h38 =>
 aB (pu h38 (aJ .u64 v38)) fun v39 h39 =>
 aB (pu h39 (aQ Tryd.prog .shl 43 false v35 v39)) fun v40 h40 =>
 some (.normal, [v0, v1, v2, v3, v4, (.bool false), v40], h40))
 (aB (pu h32 (aQ Tryd.prog .eql 3 true v31 (.int .i64 2))) fun v41 h41 =>
 aK v41
 (aB (pu h41 (aC G true 31 v1 h41)) fun v42 h42 =>
 aB (pu h42 (aA 1 v0)) fun v43 h43 =>
 aB (pu h43 (aC G false 1 v43 h43)) fun v44 h44 =>
 aB (aE (aU.f G k) [v42, v44] h44) fun v45 h45 =>
 aB (pu h45 (aA 4 v0)) fun v46 h46 =>
 aB (pu h46 (aC G false 1 v46 h46)) fun v47 h47 =>
 aB (pu h47 (aQ Tryd.prog .mul 3 true (.int .i64 16) v47)) fun v48 h48 =>
 aB (pu h48 (aJ .u64 v48)) fun v49 h49 =>
 aB (pu h49 (aQ Tryd.prog .shl 43 true (.int .u64 65535) v49)) fun v50 h50 =>
 aB (pu h50 (aQ Tryd.prog .andNot 43 false v45 v50)) fun v51 h51 =>
 aB (pu h51 (aA 5 v0)) fun v52 h52 =>
 aB (pu h52 (aC G false 1 v52 h52)) fun v53 h53 =>
 aB (pu h53 (aJ .u64 v53)) fun v54 h54 =>
 aB (pu h54 (aA 4 v0)) fun v55 h55 =>
 aB (pu h55 (aC G false 1 v55 h55)) fun v56 h56 =>
 aB (pu h56 (aQ Tryd.prog .mul 3 true (.int .i64 16) v56)) fun v57 h57 =>
 aB (pu h57 (aJ .u64 v57)) fun v58 h58 =>
 aB (pu h58 (aQ Tryd.prog .shl 43 false v54 v58)) fun v59 h59 =>
 aB (pu h59 (aQ Tryd.prog .or 43 false v51 v59)) fun v60 h60 =>
 some (.normal, [v0, v1, v2, v3, v4, (.bool false), v60], h60))
 (aB (pu h41 (aQ Tryd.prog .eql 3 true v31 (.int .i64 3))) fun v61 h61 =>
 aK v61
 (aB (pu h61 (aQ Tryd.prog .add 43 false v21 v25)) fun v62 h62 =>
 some (.normal, [v0, v1, v2, v3, v4, (.bool false), v62], h62))
 (aB (pu h61 (aQ Tryd.prog .eql 3 true v31 (.int .i64 4))) fun v63 h63 =>
 aK v63
 (aB (pu h63 (aQ Tryd.prog .sub 43 false v21 v25)) fun v64 h64 =>
 some (.normal, [v0, v1, v2, v3, v4, (.bool false), v64], h64))
 (aB (pu h63 (aQ Tryd.prog .eql 3 true v31 (.int .i64 5))) fun v65 h65 =>
 aK v65
 (aB (pu h65 (aQ Tryd.prog .and 43 false v21 v25)) fun v66 h66 =>
 some (.normal, [v0, v1, v2, v3, v4, (.bool false), v66], h66))
 (aB (pu h65 (aQ Tryd.prog .eql 3 true v31 (.int .i64 6))) fun v67 h67 =>
 aK v67
 (aB (pu h67 (aQ Tryd.prog .or 43 false v21 v25)) fun v68 h68 =>
 some (.normal, [v0, v1, v2, v3, v4, (.bool false), v68], h68))
 (aB (pu h67 (aQ Tryd.prog .eql 3 true v31 (.int .i64 7))) fun v69 h69 =>
 aK v69
 (aB (pu h69 (aQ Tryd.prog .xor 43 false v21 v25)) fun v70 h70 =>
 some (.normal, [v0, v1, v2, v3, v4, (.bool false), v70], h70))
 (aB (pu h69 (aQ Tryd.prog .eql 3 true v31 (.int .i64 8))) fun v71 h71 =>
 aK v71
 (aB (pu h71 (aQ Tryd.prog .mul 43 false v21 v25)) fun v72 h72 =>
 aB (pu h72 (aC G true 31 v1 h72)) fun v73 h73 =>
 aB (pu h73 (aA 4 v0)) fun v74 h74 =>
 aB (pu h74 (aC G false 1 v74 h74)) fun v75 h75 =>
 aB (aE (aU.f G k) [v73, v75] h75) fun v76 h76 =>
 aB (pu h76 (aQ Tryd.prog .add 43 false v72 v76)) fun v77 h77 =>
 some (.normal, [v0, v1, v2, v3, v4, (.bool false), v77], h77))
 (aB (pu h71 (aQ Tryd.prog .eql 3 true v31 (.int .i64 9))) fun v78 h78 =>
 aK v78
 (aB (aE (bQ.f G k) [v21, v25] h78) fun v79 h79 =>
 aB (pu h79 (cL v79 0)) fun v80 h80 =>
 aB (pu h80 (cL v79 1)) fun v81 h81 =>
 some (.normal, [v0, v1, v2, v3, v4, (.bool false), v80], h81))
 (aB (pu h78 (aQ Tryd.prog .eql 3 true v31 (.int .i64 10))) fun v82 h82 =>
 aK v82
 (aB (pu h82 (aA 5 v0)) fun v83 h83 =>
 aB (pu h83 (aC G false 1 v83 h83)) fun v84 h84 =>
 aB (pu h84 (aJ .u64 v84)) fun v85 h85 =>
 aB (pu h85 (aQ Tryd.prog .add 43 false v21 v85)) fun v86 h86 =>
 some (.normal, [v0, v1, v2, v3, v4, (.bool false), v86], h86))
 (aB (pu h82 (aQ Tryd.prog .eql 3 true v31 (.int .i64 11))) fun v87 h87 =>
 aK v87
 (aB (pu h87 (aA 5 v0)) fun v88 h88 =>
 aB (pu h88 (aC G false 1 v88 h88)) fun v89 h89 =>
 aB (pu h89 (aJ .u64 v89)) fun v90 h90 =>
 aB (pu h90 (aQ Tryd.prog .sub 43 false v21 v90)) fun v91 h91 =>
 some (.normal, [v0, v1, v2, v3, v4, (.bool false), v91], h91))
 (aB (pu h87 (aQ Tryd.prog .eql 3 true v31 (.int .i64 12))) fun v92 h92 =>
 aK v92
 (aB (pu h92 (aQ Tryd.prog .shl 43 false v21 v29)) fun v93 h93 =>
 some (.normal, [v0, v1, v2, v3, v4, (.bool false), v93], h93))
 (aB (pu h92 (aQ Tryd.prog .eql 3 true v31 (.int .i64 13))) fun v94 h94 =>
 aK v94
 (aB (pu h94 (aQ Tryd.prog .shr 43 false v21 v29)) fun v95 h95 =>
 some (.normal, [v0, v1, v2, v3, v4, (.bool false), v95], h95))
 (aB (pu h94 (aQ Tryd.prog .eql 3 true v31 (.int .i64 14))) fun v96 h96 =>
 aK v96
 (aB (pu h96 (aJ .i64 v21)) fun v97 h97 =>
 aB (pu h97 (aQ Tryd.prog .shr 2 false v97 v29)) fun v98 h98 =>
 aB (pu h98 (aJ .u64 v98)) fun v99 h99 =>
 some (.normal, [v0, v1, v2, v3, v4, (.bool false), v99], h99))
 (aB (pu h96 (aQ Tryd.prog .eql 3 true v31 (.int .i64 15))) fun v100 h100 =>
 aK v100
 (aB (pu h100 (aQ Tryd.prog .sub 43 false v21 v25)) fun v101 h101 =>
 aB (pu h101 (aQ Tryd.prog .xor 43 false v21 v25)) fun v102 h102 =>
 aB (pu h102 (aQ Tryd.prog .xor 43 false v21 v101)) fun v103 h103 =>
 aB (pu h103 (aQ Tryd.prog .and 43 false v102 v103)) fun v104 h104 =>
 aB (pu h104 (aQ Tryd.prog .shr 43 true v104 (.int .u64 63))) fun v105 h105 =>
 aB (pu h105 (aQ Tryd.prog .eql 43 true v105 (.int .u64 1))) fun v106 h106 =>
 aB (pu h106 (aC G true 31 v1 h106)) fun v107 h107 =>
 aB (pu h107 (aQ Tryd.prog .shr 43 true v101 (.int .u64 63))) fun v108 h108 =>
 aB (pu h108 (aQ Tryd.prog .eql 43 true v108 (.int .u64 1))) fun v109 h109 =>
 aB (pu h109 (aQ Tryd.prog .eql 43 true v101 (.int .u64 0))) fun v110 h110 =>
 aB (pu h110 (aQ Tryd.prog .geq 43 false v21 v25)) fun v111 h111 =>
 aB (pu h111 (dZ 1 [(.bool false), (.bool false), (.bool false), (.bool false)] [(0, v109), (1, v110), (2, v111), (3, v106)])) fun v112 h112 =>
 aB (eH (aO 31 v3 v107 h112)) fun v113 h113 =>
 aB (eH (aO 4 v4 v112 h113)) fun v114 h114 =>
 some (.ret, [v0, v1, v2, v3, v4, (.bool true), (.int .u64 0)], h114))
 (aB (pu h100 (aQ Tryd.prog .eql 3 true v31 (.int .i64 16))) fun v115 h115 =>
 aK v115
 (aB (pu h115 (aA 4 v0)) fun v116 h116 =>
 aB (pu h116 (aC G false 1 v116 h116)) fun v117 h117 =>
 aB (pu h117 (aC G true 4 v2 h117)) fun v118 h118 =>
 aB (aE (bE.f G k) [v117, v118] h118) fun v119 h119 =>
 aK v119
 (some (.normal, [v0, v1, v2, v3, v4, (.bool false), v21], h119))
 (some (.normal, [v0, v1, v2, v3, v4, (.bool false), v25], h119)))
 (aB (pu h115 (aQ Tryd.prog .eql 3 true v31 (.int .i64 17))) fun v120 h120 =>
 aK v120
 (aB (pu h120 (aA 4 v0)) fun v121 h121 =>
 aB (pu h121 (aC G false 1 v121 h121)) fun v122 h122 =>
 aB (pu h122 (aC G true 4 v2 h122)) fun v123 h123 =>
 aB (aE (bE.f G k) [v122, v123] h123) fun v124 h124 =>
 aK v124
 (some (.normal, [v0, v1, v2, v3, v4, (.bool false), (.int .u64 1)], h124))
 (some (.normal, [v0, v1, v2, v3, v4, (.bool false), (.int .u64 0)], h124)))
 (some (.normal, [v0, v1, v2, v3, v4, (.bool false), (.int .u64 0)], h120))))))))))))))))))) fun e125 x125 h125 => jB e125
 (aB (pu h125 (aC G true 31 (aH x125 1) h125)) fun v126 h126 =>
 aB (pu h126 (aA 1 (aH x125 0))) fun v127 h127 =>
 aB (pu h127 (aC G false 1 v127 h127)) fun v128 h128 =>
 aB (aE (aV.f G k) [v126, v128, (aH x125 6)] h128) fun v129 h129 =>
 aB (pu h129 (aC G true 4 (aH x125 2) h129)) fun v130 h130 =>
 aB (eH (aO 31 (aH x125 3) v129 h130)) fun v131 h131 =>
 aB (eH (aO 4 (aH x125 4) v130 h131)) fun v132 h132 =>
 grd [((aH x125 2), (aH x125 3))] (
fX [aC G true 31 (aH x125 3) h132, aC G true 4 (aH x125 4) h132, some (.bool true)] h.length h132))
 (fun i125 => none)
 (fX [aC G true 31 (aH x125 3) h125, aC G true 4 (aH x125 4) h125, some (aH x125 5)] h.length h125)))
noncomputable def aL.f (G : aI) : Nat → dE
 | 0 => fun _ _ => none
 | k + 1 => fun args h => yE args fun x0 x1 x2 => (aL.c G k (aL.f G k) x0 x1 x2 h)
theorem aL.step (G : aI) (k : Nat) (x0 x1 x2 : AV) (h : aF) : aL.f G (k + 1) [x0, x1, x2] h = aL.c G k (aL.f G k) x0 x1 x2 h := rfl
noncomputable def bC.ann : Ann := gG [] [] [] []
noncomputable def bC.env (G : aI) (k : Nat) (self : dE) : List (Nat × Bool × dE) := []
noncomputable def bC.c (G : aI) (k : Nat) (self : dE) (x0 x1 : AV) (h : aF) : Option (AV × aF) := fZ (
 aB (pu h (aQ Tryd.prog .rem 3 false x0 x1)) fun v0 h0 =>
 aB (pu h0 (aQ Tryd.prog .lss 3 true v0 (.int .i64 0))) fun v1 h1 =>
 aK v1
 (aB (pu h1 (aQ Tryd.prog .add 3 false v0 x1)) fun v2 h2 =>
 bK [v2] h.length h2)
 (bK [v0] h.length h1))
noncomputable def bC.f (G : aI) : Nat → dE
 | 0 => fun _ _ => none
 | k + 1 => fun args h => nJ args fun x0 x1 => (bC.c G k (bC.f G k) x0 x1 h)
theorem bC.step (G : aI) (k : Nat) (x0 x1 : AV) (h : aF) : bC.f G (k + 1) [x0, x1] h = bC.c G k (bC.f G k) x0 x1 h := rfl
noncomputable def aX.ann : Ann := gG [] [2] [(3, [0, 3, 4])] []
noncomputable def aX.env (G : aI) (k : Nat) (self : dE) : List (Nat × Bool × dE) := []
noncomputable def aX.l3 (G : aI) (k n0 : Nat) (self : dE) (lp : iP) : iP := fun xs h0 => qJ n0 xs h0 fun h =>
 aB (pu h (dV (aH xs 0))) fun v4 h4 =>
 aB (pu h4 (aQ Tryd.prog .lss 3 false (aH xs 2) v4)) fun v5 h5 =>
 aK v5
 (aB (pu h5 (cB 1 (aH xs 0) (aH xs 2))) fun v6 h6 =>
 aB (pu h6 (aC G false 1 v6 h6)) fun v7 h7 =>
 aB (eP 1 1 (.int .u64 0) [(0, v7)] h7) fun v8 h8 =>
 aB (eQ 43 1 (aH xs 1) v8 h8) fun v9 h9 =>
 aB (pu h9 (aQ Tryd.prog .add 3 true (aH xs 2) (.int .i64 1))) fun v10 h10 =>
 lp [(aH xs 0), v9, v10] h10)
 (some (.exit 0, [(aH xs 0), (aH xs 1), (aH xs 2)], h5))
noncomputable def aX.c (G : aI) (k : Nat) (self : dE) (x0 : AV) (h : aF) : Option (AV × aF) := fZ (
 aB (some (.sl h.length 0 0 0 1, h ++ [⟨43, 1, []⟩])) fun v0 h0 =>
 aB (pu h0 (dV x0)) fun v1 h1 =>
 aB (jA 43 1 (.int .u64 0) (.int .i64 0) v1 h1) fun v2 h2 =>
 dO (gH (aX.l3 G k h2.length self) k [x0, v2, (.int .i64 0)] h2) fun e3 x3 h3 => jB e3
 (aAv [(aH x3 1)] h3)
 (fun i3 => if i3 = 0 then (aAv [(aH x3 1)] h3) else (none))
 (aAv [.undef] h3))
noncomputable def aX.f (G : aI) : Nat → dE
 | 0 => fun _ _ => none
 | k + 1 => fun args h => nX args fun x0 => (aX.c G k (aX.f G k) x0 h)
theorem aX.step (G : aI) (k : Nat) (x0 : AV) (h : aF) : aX.f G (k + 1) [x0] h = aX.c G k (aX.f G k) x0 h := rfl
noncomputable def bM.ann : Ann := gG [] [] [] []
noncomputable def bM.env (G : aI) (k : Nat) (self : dE) : List (Nat × Bool × dE) := []
noncomputable def bM.c (G : aI) (k : Nat) (self : dE) (x0 : AV) (h : aF) : Option (AV × aF) := fZ (
 aK x0
 (bK [(.int .i64 1)] h.length h)
 (bK [(.int .i64 0)] h.length h))
noncomputable def bM.f (G : aI) : Nat → dE
 | 0 => fun _ _ => none
 | k + 1 => fun args h => nX args fun x0 => (bM.c G k (bM.f G k) x0 h)
theorem bM.step (G : aI) (k : Nat) (x0 : AV) (h : aF) : bM.f G (k + 1) [x0] h = bM.c G k (bM.f G k) x0 h := rfl
noncomputable def aW.ann : Ann := aEr [] [] [(4, [0, 2, 6, 7, 8, 9])] [(36, [0, 2, 6, 7, 8, 9, 10, 12, 14]), (33, [0, 2, 6, 7, 8, 9, 10, 12, 61, 139]), (21, [0, 2, 6, 7, 8, 9, 10, 12, 61, 74])] [(4, [(6, 33, 107, 2), (7, 33, 107, 2)])] []
noncomputable def aW.env (G : aI) (k : Nat) (self : dE) : List (Nat × Bool × dE) := [(25, true, aL.f G k), (34, true, bE.f G k), (46, false, aX.f G k), (47, true, bM.f G k), (51, true, bO.f G k), (52, true, aU.f G k), (53, true, aV.f G k)]
noncomputable def aW.l4 (G : aI) (k n0 : Nat) (self : dE) (lp : iP) : iP := fun xs h0 => qJ n0 xs h0 fun h =>
 aB (pu h (aQ Tryd.prog .lss 3 true (aH xs 5) (.int .i64 0))) fun v7 h7 =>
 aB (gd v7 false h7 (some ((aH xs 5), h7))) fun v8 h8 =>
 aB (gd v7 false h8 (some ((aH xs 0), h8))) fun v9 h9 =>
 aB (gd v7 false h9 (pu h9 (dV v9))) fun v10 h10 =>
 aB (gd v7 false h10 (pu h10 (aQ Tryd.prog .geq 3 false v8 v10))) fun v11 h11 =>
 aB (pu h11 (dM v7 (.bool true) v11)) fun v12 h12 =>
 aK v12
 (aB (pu h12 (aC G true 35 (aH xs 3) h12)) fun v13 h13 =>
 aB (eH (aO 35 (aH xs 2) v13 h13)) fun v14 h14 =>
 some (.ret, [(aH xs 0), (aH xs 1), (aH xs 2), (aH xs 3), (aH xs 4), (aH xs 5)], h14))
 (aB (pu h12 (aA 34 (aH xs 3))) fun v15 h15 =>
 aB (pu h15 (aC G false 1 v15 h15)) fun v16 h16 =>
 aB (pu h16 (aQ Tryd.prog .geq 2 false v16 (aH xs 1))) fun v17 h17 =>
 aK v17
 (aB (pu h17 (aA 0 (aH xs 3))) fun v18 h18 =>
 aB (eH (aO 1 v18 (.int .i64 4) h18)) fun v19 h19 =>
 aB (pu h19 (aC G true 35 (aH xs 3) h19)) fun v20 h20 =>
 aB (eH (aO 35 (aH xs 2) v20 h20)) fun v21 h21 =>
 some (.ret, [(aH xs 0), (aH xs 1), (aH xs 2), (aH xs 3), (aH xs 4), (aH xs 5)], h21))
 (aB (pu h17 (aA 34 (aH xs 3))) fun v22 h22 =>
 aB (pu h22 (aC G false 1 v22 h22)) fun v23 h23 =>
 aB (pu h23 (aQ Tryd.prog .add 2 true v23 (.int .i64 1))) fun v24 h24 =>
 aB (pu h24 (aA 34 (aH xs 3))) fun v25 h25 =>
 aB (eH (aO 1 v25 v24 h25)) fun v26 h26 =>
 aB (pu h26 (aA 33 (aH xs 3))) fun v27 h27 =>
 aB (pu h27 (aC G false 1 v27 h27)) fun v28 h28 =>
 aB (pu h28 (aZ [(0, 1), (1, 1)] [(.int .i64 0), (.int .i64 0)] [(0, (.int .i64 1)), (1, (aH xs 5))])) fun v29 h29 =>
 aB (eP 2 1 (.agg [(.int .i64 0), (.int .i64 0)]) [(0, v29)] h29) fun v30 h30 =>
 aB (eQ 107 2 v28 v30 h30) fun v31 h31 =>
 aB (pu h31 (aA 33 (aH xs 3))) fun v32 h32 =>
 aB (eH (aO 1 v32 v31 h32)) fun v33 h33 =>
 aB (pu h33 (cB 1 (aH xs 0) (aH xs 5))) fun v34 h34 =>
 aB (pu h34 (aC G false 1 v34 h34)) fun v35 h35 =>
 aB (aE (bO.f G k) [v35] h35) fun v36 h36 =>
 aB (pu h36 (cL v36 0)) fun v37 h37 =>
 aB (pu h37 (cL v36 1)) fun v38 h38 =>
 aB (eY 57 (.agg [(.int .i64 0), (.int .i64 0), (.int .i64 0), (.int .i64 0), (.int .i64 0), (.int .i64 0)]) h38) fun v39 h39 =>
 aB (eH (aO 6 v39 v37 h39)) fun v40 h40 =>
 aB (pu h40 (un .not v38)) fun v41 h41 =>
 aK v41
 (aB (pu h41 (aC G true 35 (aH xs 3) h41)) fun v42 h42 =>
 aB (eH (aO 35 (aH xs 2) v42 h42)) fun v43 h43 =>
 some (.ret, [(aH xs 0), (aH xs 1), (aH xs 2), (aH xs 3), (aH xs 4), (aH xs 5)], h43))
 (aB (pu h41 (aQ Tryd.prog .add 3 true (aH xs 5) (.int .i64 1))) fun v44 h44 =>
 aB (pu h44 (aA 0 v39)) fun v45 h45 =>
 aB (pu h45 (aC G false 1 v45 h45)) fun v46 h46 =>
 dO (
 aB (pu h46 (aQ Tryd.prog .eql 3 true v46 (.int .i64 18))) fun v47 h47 =>
 aK v47
 (some (.normal, [(aH xs 0), (aH xs 1), (aH xs 2), (aH xs 3), (aH xs 4), (aH xs 5), v39, v44, v46, v47], h47))
 (aB (pu h47 (aQ Tryd.prog .eql 3 true v46 (.int .i64 19))) fun v48 h48 =>
 some (.normal, [(aH xs 0), (aH xs 1), (aH xs 2), (aH xs 3), (aH xs 4), (aH xs 5), v39, v44, v46, v48], h48))) fun e49 x49 h49 => jB e49
 (aK (aH x49 9)
 (aB (pu h49 (aA 2 (aH x49 3))) fun v50 h50 =>
 aB (pu h50 (aC G true 31 v50 h50)) fun v51 h51 =>
 aB (pu h51 (aA 2 (aH x49 6))) fun v52 h52 =>
 aB (pu h52 (aC G false 1 v52 h52)) fun v53 h53 =>
 aB (aE (aU.f G k) [v51, v53] h53) fun v54 h54 =>
 aB (pu h54 (aA 5 (aH x49 6))) fun v55 h55 =>
 aB (pu h55 (aC G false 1 v55 h55)) fun v56 h56 =>
 aB (pu h56 (aJ .u64 v56)) fun v57 h57 =>
 aB (pu h57 (aQ Tryd.prog .mul 43 true (.int .u64 8) v57)) fun v58 h58 =>
 aB (pu h58 (aQ Tryd.prog .add 43 false v54 v58)) fun v59 h59 =>
 aB (pu h59 (aA 33 (aH x49 3))) fun v60 h60 =>
 aB (pu h60 (aC G false 1 v60 h60)) fun v61 h61 =>
 aB (pu h61 (aJ .i64 v59)) fun v62 h62 =>
 aB (pu h62 (aZ [(0, 1), (1, 1)] [(.int .i64 0), (.int .i64 0)] [(0, (.int .i64 3)), (1, v62)])) fun v63 h63 =>
 aB (eP 2 1 (.agg [(.int .i64 0), (.int .i64 0)]) [(0, v63)] h63) fun v64 h64 =>
 aB (eQ 107 2 v61 v64 h64) fun v65 h65 =>
 aB (pu h65 (aA 33 (aH x49 3))) fun v66 h66 =>
 aB (eH (aO 1 v66 v65 h66)) fun v67 h67 =>
 aB (pu h67 (aQ Tryd.prog .rem 43 true v59 (.int .u64 8))) fun v68 h68 =>
 aB (pu h68 (aQ Tryd.prog .neq 43 true v68 (.int .u64 0))) fun v69 h69 =>
 aB (gd v69 false h69 (some (v59, h69))) fun v70 h70 =>
 aB (gd v69 false h70 (pu h70 (aQ Tryd.prog .quo 43 true v70 (.int .u64 8)))) fun v71 h71 =>
 aB (gd v69 false h71 (pu h71 (aA 1 (aH x49 3)))) fun v72 h72 =>
 aB (gd v69 false h72 (pu h72 (aC G false 1 v72 h72))) fun v73 h73 =>
 aB (gd v69 false h73 (pu h73 (dV v73))) fun v74 h74 =>
 aB (gd v69 false h74 (pu h74 (aJ .u64 v74))) fun v75 h75 =>
 aB (gd v69 false h75 (pu h75 (aQ Tryd.prog .geq 43 false v71 v75))) fun v76 h76 =>
 aB (pu h76 (dM v69 (.bool true) v76)) fun v77 h77 =>
 aK v77
 (aB (pu h77 (aC G true 35 (aH x49 3) h77)) fun v78 h78 =>
 aB (eH (aO 35 (aH x49 2) v78 h78)) fun v79 h79 =>
 some (.ret, [(aH x49 0), (aH x49 1), (aH x49 2), (aH x49 3), (aH x49 4), (aH x49 5)], h79))
 (aB (pu h77 (aA 0 (aH x49 6))) fun v80 h80 =>
 aB (pu h80 (aC G false 1 v80 h80)) fun v81 h81 =>
 aB (pu h81 (aQ Tryd.prog .eql 3 true v81 (.int .i64 18))) fun v82 h82 =>
 aK v82
 (aB (pu h82 (aA 2 (aH x49 3))) fun v83 h83 =>
 aB (pu h83 (aC G true 31 v83 h83)) fun v84 h84 =>
 aB (pu h84 (aA 1 (aH x49 6))) fun v85 h85 =>
 aB (pu h85 (aC G false 1 v85 h85)) fun v86 h86 =>
 aB (pu h86 (aA 1 (aH x49 3))) fun v87 h87 =>
 aB (pu h87 (aC G false 1 v87 h87)) fun v88 h88 =>
 aB (pu h88 (aQ Tryd.prog .quo 43 true v59 (.int .u64 8))) fun v89 h89 =>
 aB (pu h89 (cB 1 v88 v89)) fun v90 h90 =>
 aB (pu h90 (aC G false 1 v90 h90)) fun v91 h91 =>
 aB (aE (aV.f G k) [v84, v86, v91] h91) fun v92 h92 =>
 aB (pu h92 (aA 2 (aH x49 3))) fun v93 h93 =>
 aB (eH (aO 31 v93 v92 h93)) fun v94 h94 =>
 lp [(aH x49 0), (aH x49 1), (aH x49 2), (aH x49 3), (aH x49 4), (aH x49 7)] h94)
 (aB (pu h82 (aA 1 (aH x49 3))) fun v95 h95 =>
 aB (pu h95 (aC G false 1 v95 h95)) fun v96 h96 =>
 aB (pu h96 (aQ Tryd.prog .quo 43 true v59 (.int .u64 8))) fun v97 h97 =>
 aB (pu h97 (aA 2 (aH x49 3))) fun v98 h98 =>
 aB (pu h98 (aC G true 31 v98 h98)) fun v99 h99 =>
 aB (pu h99 (aA 1 (aH x49 6))) fun v100 h100 =>
 aB (pu h100 (aC G false 1 v100 h100)) fun v101 h101 =>
 aB (aE (aU.f G k) [v99, v101] h101) fun v102 h102 =>
 aB (pu h102 (cB 1 v96 v97)) fun v103 h103 =>
 aB (eH (aO 1 v103 v102 h103)) fun v104 h104 =>
 lp [(aH x49 0), (aH x49 1), (aH x49 2), (aH x49 3), (aH x49 4), (aH x49 7)] h104)))
 (aB (pu h49 (aQ Tryd.prog .eql 3 true (aH x49 8) (.int .i64 20))) fun v105 h105 =>
 aK v105
 (aB (pu h105 (aA 5 (aH x49 6))) fun v106 h106 =>
 aB (pu h106 (aC G false 1 v106 h106)) fun v107 h107 =>
 aB (pu h107 (aQ Tryd.prog .add 3 false (aH x49 5) v107)) fun v108 h108 =>
 lp [(aH x49 0), (aH x49 1), (aH x49 2), (aH x49 3), (aH x49 4), v108] h108)
 (dO (
 aB (pu h105 (aQ Tryd.prog .eql 3 true (aH x49 8) (.int .i64 21))) fun v109 h109 =>
 aK v109
 (some (.normal, [(aH x49 0), (aH x49 1), (aH x49 2), (aH x49 3), (aH x49 4), (aH x49 5), (aH x49 6), (aH x49 7), (aH x49 8), v109], h109))
 (aB (pu h109 (aQ Tryd.prog .eql 3 true (aH x49 8) (.int .i64 22))) fun v110 h110 =>
 aK v110
 (some (.normal, [(aH x49 0), (aH x49 1), (aH x49 2), (aH x49 3), (aH x49 4), (aH x49 5), (aH x49 6), (aH x49 7), (aH x49 8), v110], h110))
 (aB (pu h110 (aQ Tryd.prog .eql 3 true (aH x49 8) (.int .i64 23))) fun v111 h111 =>
 some (.normal, [(aH x49 0), (aH x49 1), (aH x49 2), (aH x49 3), (aH x49 4), (aH x49 5), (aH x49 6), (aH x49 7), (aH x49 8), v111], h111)))) fun e112 x112 h112 => jB e112
 (aK (aH x112 9)
 (aB (pu h112 (aA 4 (aH x112 6))) fun v113 h113 =>
 aB (pu h113 (aC G false 1 v113 h113)) fun v114 h114 =>
 aB (pu h114 (aC G true 4 (aH x112 4) h114)) fun v115 h115 =>
 aB (aE (bE.f G k) [v114, v115] h115) fun v116 h116 =>
 dO (
 aB (pu h116 (aA 0 (aH x112 6))) fun v117 h117 =>
 aB (pu h117 (aC G false 1 v117 h117)) fun v118 h118 =>
 aB (pu h118 (aQ Tryd.prog .neq 3 true v118 (.int .i64 21))) fun v119 h119 =>
 aK v119
 (aB (pu h119 (aA 2 (aH x112 3))) fun v120 h120 =>
 aB (pu h120 (aC G true 31 v120 h120)) fun v121 h121 =>
 aB (pu h121 (aA 1 (aH x112 6))) fun v122 h122 =>
 aB (pu h122 (aC G false 1 v122 h122)) fun v123 h123 =>
 aB (aE (aU.f G k) [v121, v123] h123) fun v124 h124 =>
 aB (pu h124 (aQ Tryd.prog .eql 43 true v124 (.int .u64 0))) fun v125 h125 =>
 aB (pu h125 (aA 0 (aH x112 6))) fun v126 h126 =>
 aB (pu h126 (aC G false 1 v126 h126)) fun v127 h127 =>
 aB (pu h127 (aQ Tryd.prog .eql 3 true v127 (.int .i64 22))) fun v128 h128 =>
 aB (pu h128 (aQ Tryd.prog .eql 4 false v125 v128)) fun v129 h129 =>
 some (.normal, [(aH x112 0), (aH x112 1), (aH x112 2), (aH x112 3), (aH x112 4), (aH x112 5), (aH x112 6), (aH x112 7), v129], h129))
 (some (.normal, [(aH x112 0), (aH x112 1), (aH x112 2), (aH x112 3), (aH x112 4), (aH x112 5), (aH x112 6), (aH x112 7), v116], h119))) fun e130 x130 h130 => jB e130
 (aB (pu h130 (aA 33 (aH x130 3))) fun v131 h131 =>
 aB (pu h131 (aC G false 1 v131 h131)) fun v132 h132 =>
 aB (aE (bM.f G k) [(aH x130 8)] h132) fun v133 h133 =>
 aB (pu h133 (aZ [(0, 1), (1, 1)] [(.int .i64 0), (.int .i64 0)] [(0, (.int .i64 2)), (1, v133)])) fun v134 h134 =>
 aB (eP 2 1 (.agg [(.int .i64 0), (.int .i64 0)]) [(0, v134)] h134) fun v135 h135 =>
 aB (eQ 107 2 v132 v135 h135) fun v136 h136 =>
 aB (pu h136 (aA 33 (aH x130 3))) fun v137 h137 =>
 aB (eH (aO 1 v137 v136 h137)) fun v138 h138 =>
 aK (aH x130 8)
 (aB (pu h138 (aA 5 (aH x130 6))) fun v139 h139 =>
 aB (pu h139 (aC G false 1 v139 h139)) fun v140 h140 =>
 aB (pu h140 (aQ Tryd.prog .add 3 false (aH x130 5) v140)) fun v141 h141 =>
 lp [(aH x130 0), (aH x130 1), (aH x130 2), (aH x130 3), (aH x130 4), v141] h141)
 (lp [(aH x130 0), (aH x130 1), (aH x130 2), (aH x130 3), (aH x130 4), (aH x130 7)] h138))
 (fun i130 => if i130 = 2 then (lp [(aH x130 0), (aH x130 1), (aH x130 2), (aH x130 3), (aH x130 4), (aH x130 7)] h130) else (if i130 = 1 then (lp [(aH x130 0), (aH x130 1), (aH x130 2), (aH x130 3), (aH x130 4), (aH x130 5)] h130) else (some (.exit i130, [(aH x130 0), (aH x130 1), (aH x130 2), (aH x130 3), (aH x130 4), (aH x130 5)], h130))))
 (some (.ret, [(aH x130 0), (aH x130 1), (aH x130 2), (aH x130 3), (aH x130 4), (aH x130 5)], h130)))
 (aB (pu h112 (aQ Tryd.prog .eql 3 true (aH x112 8) (.int .i64 24))) fun v142 h142 =>
 aK v142
 (aB (pu h142 (aA 5 (aH x112 6))) fun v143 h143 =>
 aB (pu h143 (aC G false 1 v143 h143)) fun v144 h144 =>
 aB (pu h144 (aQ Tryd.prog .leq 3 true v144 (.int .i64 2))) fun v145 h145 =>
 aK v145
 (aB (pu h145 (aA 5 (aH x112 6))) fun v146 h146 =>
 aB (pu h146 (aC G false 1 v146 h146)) fun v147 h147 =>
 aB (pu h147 (aA 0 (aH x112 3))) fun v148 h148 =>
 aB (eH (aO 1 v148 v147 h148)) fun v149 h149 =>
 aB (pu h149 (aC G true 35 (aH x112 3) h149)) fun v150 h150 =>
 aB (eH (aO 35 (aH x112 2) v150 h150)) fun v151 h151 =>
 some (.ret, [(aH x112 0), (aH x112 1), (aH x112 2), (aH x112 3), (aH x112 4), (aH x112 5)], h151))
 (aB (pu h145 (aC G true 35 (aH x112 3) h145)) fun v152 h152 =>
 aB (eH (aO 35 (aH x112 2) v152 h152)) fun v153 h153 =>
 some (.ret, [(aH x112 0), (aH x112 1), (aH x112 2), (aH x112 3), (aH x112 4), (aH x112 5)], h153)))
 (aB (pu h142 (aC G true 6 (aH x112 6) h142)) fun v154 h154 =>
 aB (pu h154 (aA 2 (aH x112 3))) fun v155 h155 =>
 aB (pu h155 (aC G true 31 v155 h155)) fun v156 h156 =>
 aB (pu h156 (aC G true 4 (aH x112 4) h156)) fun v157 h157 =>
 aB (aE (aL.f G k) [v154, v156, v157] h157) fun v158 h158 =>
 aB (pu h158 (cL v158 0)) fun v159 h159 =>
 aB (pu h159 (cL v158 1)) fun v160 h160 =>
 aB (pu h160 (cL v158 2)) fun v161 h161 =>
 aB (eY 44 (.agg [(.int .u64 0), (.int .u64 0), (.int .u64 0), (.int .u64 0), (.int .u64 0), (.int .u64 0), (.int .u64 0), (.int .u64 0), (.int .u64 0), (.int .u64 0), (.int .u64 0), (.int .u64 0), (.int .u64 0), (.int .u64 0), (.int .u64 0), (.int .u64 0), (.int .u64 0), (.int .u64 0), (.int .u64 0), (.int .u64 0), (.int .u64 0), (.int .u64 0), (.int .u64 0), (.int .u64 0), (.int .u64 0), (.int .u64 0), (.int .u64 0), (.int .u64 0), (.int .u64 0), (.int .u64 0), (.int .u64 0)]) h161) fun v162 h162 =>
 aB (eY 53 (.agg [(.bool false), (.bool false), (.bool false), (.bool false)]) h162) fun v163 h163 =>
 aB (eH (aO 31 v162 v159 h163)) fun v164 h164 =>
 aB (eH (aO 4 v163 v160 h164)) fun v165 h165 =>
 aB (pu h165 (aC G true 31 v162 h165)) fun v166 h166 =>
 aB (pu h166 (aA 2 (aH x112 3))) fun v167 h167 =>
 aB (eH (aO 31 v167 v166 h167)) fun v168 h168 =>
 aB (pu h168 (aC G true 4 v163 h168)) fun v169 h169 =>
 aB (eH (aO 4 (aH x112 4) v169 h169)) fun v170 h170 =>
 lp [(aH x112 0), (aH x112 1), (aH x112 2), (aH x112 3), (aH x112 4), (aH x112 7)] h170)))
 (fun i112 => if i112 = 2 then (lp [(aH x112 0), (aH x112 1), (aH x112 2), (aH x112 3), (aH x112 4), (aH x112 7)] h112) else (if i112 = 1 then (lp [(aH x112 0), (aH x112 1), (aH x112 2), (aH x112 3), (aH x112 4), (aH x112 5)] h112) else (some (.exit i112, [(aH x112 0), (aH x112 1), (aH x112 2), (aH x112 3), (aH x112 4), (aH x112 5)], h112))))
 (some (.ret, [(aH x112 0), (aH x112 1), (aH x112 2), (aH x112 3), (aH x112 4), (aH x112 5)], h112)))))
 (fun i49 => if i49 = 2 then (lp [(aH x49 0), (aH x49 1), (aH x49 2), (aH x49 3), (aH x49 4), (aH x49 7)] h49) else (if i49 = 1 then (lp [(aH x49 0), (aH x49 1), (aH x49 2), (aH x49 3), (aH x49 4), (aH x49 5)] h49) else (some (.exit i49, [(aH x49 0), (aH x49 1), (aH x49 2), (aH x49 3), (aH x49 4), (aH x49 5)], h49))))
 (some (.ret, [(aH x49 0), (aH x49 1), (aH x49 2), (aH x49 3), (aH x49 4), (aH x49 5)], h49)))))
noncomputable def aW.c (G : aI) (k : Nat) (self : dE) (x0 x1 x2 : AV) (h : aF) : Option (AV × aF) := fZ (
 aB (eY 46 (.agg [(.int .i64 0), .nils, (.int .u64 0), (.int .u64 0), (.int .u64 0), (.int .u64 0), (.int .u64 0), (.int .u64 0), (.int .u64 0), (.int .u64 0), (.int .u64 0), (.int .u64 0), (.int .u64 0), (.int .u64 0), (.int .u64 0), (.int .u64 0), (.int .u64 0), (.int .u64 0), (.int .u64 0), (.int .u64 0), (.int .u64 0), (.int .u64 0), (.int .u64 0), (.int .u64 0), (.int .u64 0), (.int .u64 0), (.int .u64 0), (.int .u64 0), (.int .u64 0), (.int .u64 0), (.int .u64 0), (.int .u64 0), (.int .u64 0), .nils, (.int .i64 0)]) h) fun v0 h0 =>
 aB (bF (aX.f G k) [x1] h0) fun v1 h1 =>
 aB (pu h1 (aZ [(0, 1), (1, 1), (2, 31), (33, 1), (34, 1)] [(.int .i64 0), .nils, (.int .u64 0), (.int .u64 0), (.int .u64 0), (.int .u64 0), (.int .u64 0), (.int .u64 0), (.int .u64 0), (.int .u64 0), (.int .u64 0), (.int .u64 0), (.int .u64 0), (.int .u64 0), (.int .u64 0), (.int .u64 0), (.int .u64 0), (.int .u64 0), (.int .u64 0), (.int .u64 0), (.int .u64 0), (.int .u64 0), (.int .u64 0), (.int .u64 0), (.int .u64 0), (.int .u64 0), (.int .u64 0), (.int .u64 0), (.int .u64 0), (.int .u64 0), (.int .u64 0), (.int .u64 0), (.int .u64 0), .nils, (.int .i64 0)] [(1, v1), (0, (.int .i64 3))])) fun v2 h2 =>
 aB (eY 46 (.agg [(.int .i64 0), .nils, (.int .u64 0), (.int .u64 0), (.int .u64 0), (.int .u64 0), (.int .u64 0), (.int .u64 0), (.int .u64 0), (.int .u64 0), (.int .u64 0), (.int .u64 0), (.int .u64 0), (.int .u64 0), (.int .u64 0), (.int .u64 0), (.int .u64 0), (.int .u64 0), (.int .u64 0), (.int .u64 0), (.int .u64 0), (.int .u64 0), (.int .u64 0), (.int .u64 0), (.int .u64 0), (.int .u64 0), (.int .u64 0), (.int .u64 0), (.int .u64 0), (.int .u64 0), (.int .u64 0), (.int .u64 0), (.int .u64 0), .nils, (.int .i64 0)]) h2) fun v3 h3 =>
 aB (eH (aO 35 v3 v2 h3)) fun v4 h4 =>
 aB (eY 53 (.agg [(.bool false), (.bool false), (.bool false), (.bool false)]) h4) fun v5 h5 =>
 vK [(v0, 33, 107, 2), (v3, 33, 107, 2)] h5 fun hv6 =>
 dO (gH (aW.l4 G k hv6.length self) k [x0, x2, v0, v3, v5, (.int .i64 0)] hv6) fun e6 x6 h6 => jB e6
 (fX [aC G true 35 (aH x6 2) h6] h.length h6)
 (fun i6 => if i6 = 0 then (fX [aC G true 35 (aH x6 2) h6] h.length h6) else (none))
 (fX [aC G true 35 (aH x6 2) h6] h.length h6))
noncomputable def aW.f (G : aI) : Nat → dE
 | 0 => fun _ _ => none
 | k + 1 => fun args h => yE args fun x0 x1 x2 => (aW.c G k (aW.f G k) x0 x1 x2 h)
theorem aW.step (G : aI) (k : Nat) (x0 x1 x2 : AV) (h : aF) : aW.f G (k + 1) [x0, x1, x2] h = aW.c G k (aW.f G k) x0 x1 x2 h := rfl
end Go.Proofs.YtdfglgnflldkpaaDoor.Mir
