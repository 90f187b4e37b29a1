/- Part 6 of the proof: the functions that the statement reaches, and their contracts. -/
import Derived.Test.YtdfglgnflldkpaaDoorVf5
import Derived.Test.YtdfglgnflldkpaaDoorProg
namespace Go.Proofs.YtdfglgnflldkpaaDoor.Mir
open Go
set_option linter.unusedVariables false
noncomputable def gB.ann : Ann := gE [] [] [] []
noncomputable def gB.env (G : aG) (k : Nat) (self : dA) : List (Nat × Bool × dA) := []
noncomputable def gB.c (G : aG) (k : Nat) (self : dA) (x0 : AV) (h : aF) : Option (AV × aF) := gA (
 aB (pu h (aQ Tryd.prog .eql 3 true x0 (.int .i64 3))) fun v0 h0 =>
 aK v0
 (bQ [(.str ⟨#[97, 100, 100]⟩)] h.length h0)
 (aB (pu h0 (aQ Tryd.prog .eql 3 true x0 (.int .i64 4))) fun v1 h1 =>
 aK v1
 (bQ [(.str ⟨#[115, 117, 98]⟩)] h.length h1)
 (aB (pu h1 (aQ Tryd.prog .eql 3 true x0 (.int .i64 5))) fun v2 h2 =>
 aK v2
 (bQ [(.str ⟨#[109, 117, 108]⟩)] h.length h2)
 (aB (pu h2 (aQ Tryd.prog .eql 3 true x0 (.int .i64 6))) fun v3 h3 =>
 aK v3
 (bQ [(.str ⟨#[104, 105, 103, 104]⟩)] h.length h3)
 (aB (pu h3 (aQ Tryd.prog .eql 3 true x0 (.int .i64 7))) fun v4 h4 =>
 aK v4
 (bQ [(.str ⟨#[97, 110, 100]⟩)] h.length h4)
 (aB (pu h4 (aQ Tryd.prog .eql 3 true x0 (.int .i64 8))) fun v5 h5 =>
 aK v5
 (bQ [(.str ⟨#[111, 114]⟩)] h.length h5)
 (aB (pu h5 (aQ Tryd.prog .eql 3 true x0 (.int .i64 9))) fun v6 h6 =>
 aK v6
 (bQ [(.str ⟨#[120, 111, 114]⟩)] h.length h6)
 (aB (pu h6 (aQ Tryd.prog .eql 3 true x0 (.int .i64 13))) fun v7 h7 =>
 aK v7
 (bQ [(.str ⟨#[108, 101, 115, 115]⟩)] h.length h7)
 (aB (pu h7 (aQ Tryd.prog .eql 3 true x0 (.int .i64 10))) fun v8 h8 =>
 aK v8
 (bQ [(.str ⟨#[115, 104, 108]⟩)] h.length h8)
 (aB (pu h8 (aQ Tryd.prog .eql 3 true x0 (.int .i64 11))) fun v9 h9 =>
 aK v9
 (bQ [(.str ⟨#[115, 104, 114]⟩)] h.length h9)
 (aB (pu h9 (aQ Tryd.prog .eql 3 true x0 (.int .i64 12))) fun v10 h10 =>
 aK v10
 (bQ [(.str ⟨#[115, 97, 114]⟩)] h.length h10)
 (aB (pu h10 (aQ Tryd.prog .eql 3 true x0 (.int .i64 15))) fun v11 h11 =>
 aK v11
 (bQ [(.str ⟨#[108, 100]⟩)] h.length h11)
 (aB (pu h11 (aQ Tryd.prog .eql 3 true x0 (.int .i64 17))) fun v12 h12 =>
 aK v12
 (bQ [(.str ⟨#[98, 114]⟩)] h.length h12)
 (aB (pu h12 (aQ Tryd.prog .eql 3 true x0 (.int .i64 20))) fun v13 h13 =>
 aK v13
 (bQ [(.str ⟨#[104, 97, 108, 116]⟩)] h.length h13)
 (aB (pu h13 (aQ Tryd.prog .eql 3 true x0 (.int .i64 18))) fun v14 h14 =>
 aK v14
 (bQ [(.str ⟨#[98, 122]⟩)] h.length h14)
 (bQ [(.str ⟨#[98, 110, 122]⟩)] h.length h14))))))))))))))))
noncomputable def gB.f (G : aG) : Nat → dA
 | 0 => fun _ _ => none
 | k + 1 => fun args h => nH args fun x0 => (gB.c G k (gB.f G k) x0 h)
noncomputable def gN.ann : Ann := gE [] [] [] [(30, [2, 3]), (29, [0, 2, 43]), (26, [0, 2, 4, 37]), (19, [0, 2, 4, 23]), (14, [0, 2, 4, 11])]
noncomputable def gN.env (G : aG) (k : Nat) (self : dA) : List (Nat × Bool × dA) := [(106, true, gB.f G k)]
noncomputable def gN.c (G : aG) (k : Nat) (self : dA) (x0 : AV) (h : aF) : Option (AV × aF) := gA (
 aB (fF 163 (.agg [(.str ⟨#[]⟩), (.bool false), (.bool false), (.bool false), (.bool false), (.bool false)]) h) fun v0 h0 =>
 eM (
 aB (pu h0 (aQ Tryd.prog .eql 3 true x0 (.int .i64 1))) fun v1 h1 =>
 aK v1
 (aB (pu h1 (bA [(0, 1), (1, 1), (2, 1), (3, 1), (4, 1), (5, 1)] [(.str ⟨#[]⟩), (.bool false), (.bool false), (.bool false), (.bool false), (.bool false)] [(0, (.str ⟨#[99, 111, 110, 115, 116]⟩)), (1, (.bool true)), (5, (.bool true))])) fun v2 h2 =>
 aB (fB (aN 6 v0 v2 h2)) fun v3 h3 =>
 some (.ret, [v0, (.bool true)], h3))
 (aB (pu h1 (aQ Tryd.prog .eql 3 true x0 (.int .i64 2))) fun v4 h4 =>
 aK v4
 (aB (pu h4 (bA [(0, 1), (1, 1), (2, 1), (3, 1), (4, 1), (5, 1)] [(.str ⟨#[]⟩), (.bool false), (.bool false), (.bool false), (.bool false), (.bool false)] [(0, (.str ⟨#[109, 111, 118]⟩)), (1, (.bool true)), (2, (.bool true))])) fun v5 h5 =>
 aB (fB (aN 6 v0 v5 h5)) fun v6 h6 =>
 some (.ret, [v0, (.bool true)], h6))
 (eM (
 aB (pu h4 (aQ Tryd.prog .eql 3 true x0 (.int .i64 3))) fun v7 h7 =>
 aK v7
 (some (.normal, [x0, v0, x0, v7], h7))
 (aB (pu h7 (aQ Tryd.prog .eql 3 true x0 (.int .i64 4))) fun v8 h8 =>
 aK v8
 (some (.normal, [x0, v0, x0, v8], h8))
 (aB (pu h8 (aQ Tryd.prog .eql 3 true x0 (.int .i64 5))) fun v9 h9 =>
 aK v9
 (some (.normal, [x0, v0, x0, v9], h9))
 (aB (pu h9 (aQ Tryd.prog .eql 3 true x0 (.int .i64 6))) fun v10 h10 =>
 aK v10
 (some (.normal, [x0, v0, x0, v10], h10))
 (aB (pu h10 (aQ Tryd.prog .eql 3 true x0 (.int .i64 7))) fun v11 h11 =>
 aK v11
 (some (.normal, [x0, v0, x0, v11], h11))
 (aB (pu h11 (aQ Tryd.prog .eql 3 true x0 (.int .i64 8))) fun v12 h12 =>
 aK v12
 (some (.normal, [x0, v0, x0, v12], h12))
 (aB (pu h12 (aQ Tryd.prog .eql 3 true x0 (.int .i64 9))) fun v13 h13 =>
 aK v13
 (some (.normal, [x0, v0, x0, v13], h13))
 (aB (pu h13 (aQ Tryd.prog .eql 3 true x0 (.int .i64 13))) fun v14 h14 =>
 some (.normal, [x0, v0, x0, v14], h14))))))))) fun e15 x15 h15 => jJ e15
 (aK (aI x15 3)
 (aB (aE (gB.f G k) [(aI x15 0)] h15) fun v16 h16 =>
 aB (pu h16 (bA [(0, 1), (1, 1), (2, 1), (3, 1), (4, 1), (5, 1)] [(.str ⟨#[]⟩), (.bool false), (.bool false), (.bool false), (.bool false), (.bool false)] [(0, v16), (1, (.bool true)), (2, (.bool true)), (3, (.bool true))])) fun v17 h17 =>
 aB (fB (aN 6 (aI x15 1) v17 h17)) fun v18 h18 =>
 some (.ret, [(aI x15 1), (.bool true)], h18))
 (eM (
 aB (pu h15 (aQ Tryd.prog .eql 3 true (aI x15 2) (.int .i64 10))) fun v19 h19 =>
 aK v19
 (some (.normal, [(aI x15 0), (aI x15 1), (aI x15 2), v19], h19))
 (aB (pu h19 (aQ Tryd.prog .eql 3 true (aI x15 2) (.int .i64 11))) fun v20 h20 =>
 aK v20
 (some (.normal, [(aI x15 0), (aI x15 1), (aI x15 2), v20], h20))
 (aB (pu h20 (aQ Tryd.prog .eql 3 true (aI x15 2) (.int .i64 12))) fun v21 h21 =>
 aK v21
 (some (.normal, [(aI x15 0), (aI x15 1), (aI x15 2), v21], h21))
 (aB (pu h21 (aQ Tryd.prog .eql 3 true (aI x15 2) (.int .i64 15))) fun v22 h22 =>
 some (.normal, [(aI x15 0), (aI x15 1), (aI x15 2), v22], h22))))) fun e23 x23 h23 => jJ e23
 (aK (aI x23 3)
 (aB (aE (gB.f G k) [(aI x23 0)] h23) fun v24 h24 =>
 aB (pu h24 (bA [(0, 1), (1, 1), (2, 1), (3, 1), (4, 1), (5, 1)] [(.str ⟨#[]⟩), (.bool false), (.bool false), (.bool false), (.bool false), (.bool false)] [(0, v24), (1, (.bool true)), (2, (.bool true)), (5, (.bool true))])) fun v25 h25 =>
 aB (fB (aN 6 (aI x23 1) v25 h25)) fun v26 h26 =>
 some (.ret, [(aI x23 1), (.bool true)], h26))
 (aB (pu h23 (aQ Tryd.prog .eql 3 true (aI x23 2) (.int .i64 14))) fun v27 h27 =>
 aK v27
 (aB (pu h27 (bA [(0, 1), (1, 1), (2, 1), (3, 1), (4, 1), (5, 1)] [(.str ⟨#[]⟩), (.bool false), (.bool false), (.bool false), (.bool false), (.bool false)] [(0, (.str ⟨#[115, 101, 108]⟩)), (1, (.bool true)), (2, (.bool true)), (3, (.bool true)), (4, (.bool true))])) fun v28 h28 =>
 aB (fB (aN 6 (aI x23 1) v28 h28)) fun v29 h29 =>
 some (.ret, [(aI x23 1), (.bool true)], h29))
 (aB (pu h27 (aQ Tryd.prog .eql 3 true (aI x23 2) (.int .i64 16))) fun v30 h30 =>
 aK v30
 (aB (pu h30 (bA [(0, 1), (1, 1), (2, 1), (3, 1), (4, 1), (5, 1)] [(.str ⟨#[]⟩), (.bool false), (.bool false), (.bool false), (.bool false), (.bool false)] [(0, (.str ⟨#[115, 116]⟩)), (2, (.bool true)), (3, (.bool true)), (5, (.bool true))])) fun v31 h31 =>
 aB (fB (aN 6 (aI x23 1) v31 h31)) fun v32 h32 =>
 some (.ret, [(aI x23 1), (.bool true)], h32))
 (eM (
 aB (pu h30 (aQ Tryd.prog .eql 3 true (aI x23 2) (.int .i64 17))) fun v33 h33 =>
 aK v33
 (some (.normal, [(aI x23 0), (aI x23 1), (aI x23 2), v33], h33))
 (aB (pu h33 (aQ Tryd.prog .eql 3 true (aI x23 2) (.int .i64 20))) fun v34 h34 =>
 some (.normal, [(aI x23 0), (aI x23 1), (aI x23 2), v34], h34))) fun e35 x35 h35 => jJ e35
 (aK (aI x35 3)
 (aB (aE (gB.f G k) [(aI x35 0)] h35) fun v36 h36 =>
 aB (pu h36 (bA [(0, 1), (1, 1), (2, 1), (3, 1), (4, 1), (5, 1)] [(.str ⟨#[]⟩), (.bool false), (.bool false), (.bool false), (.bool false), (.bool false)] [(0, v36), (5, (.bool true))])) fun v37 h37 =>
 aB (fB (aN 6 (aI x35 1) v37 h37)) fun v38 h38 =>
 some (.ret, [(aI x35 1), (.bool true)], h38))
 (eM (
 aB (pu h35 (aQ Tryd.prog .eql 3 true (aI x35 2) (.int .i64 18))) fun v39 h39 =>
 aK v39
 (some (.normal, [(aI x35 0), (aI x35 1), v39], h39))
 (aB (pu h39 (aQ Tryd.prog .eql 3 true (aI x35 2) (.int .i64 19))) fun v40 h40 =>
 some (.normal, [(aI x35 0), (aI x35 1), v40], h40))) fun e41 x41 h41 => jJ e41
 (aK (aI x41 2)
 (aB (aE (gB.f G k) [(aI x41 0)] h41) fun v42 h42 =>
 aB (pu h42 (bA [(0, 1), (1, 1), (2, 1), (3, 1), (4, 1), (5, 1)] [(.str ⟨#[]⟩), (.bool false), (.bool false), (.bool false), (.bool false), (.bool false)] [(0, v42), (2, (.bool true)), (5, (.bool true))])) fun v43 h43 =>
 aB (fB (aN 6 (aI x41 1) v43 h43)) fun v44 h44 =>
 some (.ret, [(aI x41 1), (.bool true)], h44))
 (some (.normal, [(aI x41 1), .undef], h41)))
 (fun i41 => if i41 = 0 then (some (.normal, [(aI x41 1), .undef], h41)) else (some (.exit i41, [(aI x41 1), .undef], h41)))
 (some (.ret, [(aI x41 1), .undef], h41))))
 (fun i35 => if i35 = 0 then (some (.normal, [(aI x35 1), .undef], h35)) else (some (.exit i35, [(aI x35 1), .undef], h35)))
 (some (.ret, [(aI x35 1), .undef], h35))))))
 (fun i23 => if i23 = 0 then (some (.normal, [(aI x23 1), .undef], h23)) else (some (.exit i23, [(aI x23 1), .undef], h23)))
 (some (.ret, [(aI x23 1), .undef], h23))))
 (fun i15 => if i15 = 0 then (some (.normal, [(aI x15 1), .undef], h15)) else (some (.exit i15, [(aI x15 1), .undef], h15)))
 (some (.ret, [(aI x15 1), .undef], h15))))) fun e45 x45 h45 => jJ e45
 (aB (pu h45 (bA [(0, 1), (1, 1), (2, 1), (3, 1), (4, 1), (5, 1)] [(.str ⟨#[]⟩), (.bool false), (.bool false), (.bool false), (.bool false), (.bool false)] [(0, (.str ⟨#[110, 111, 110, 101]⟩))])) fun v46 h46 =>
 aB (fB (aN 6 (aI x45 0) v46 h46)) fun v47 h47 =>
 fL [aC G true 6 (aI x45 0) h47, some (.bool false)] h.length h47)
 (fun i45 => none)
 (fL [aC G true 6 (aI x45 0) h45, some (aI x45 1)] h.length h45))
noncomputable def gN.f (G : aG) : Nat → dA
 | 0 => fun _ _ => none
 | k + 1 => fun args h => nH args fun x0 => (gN.c G k (gN.f G k) x0 h)
theorem gN.step (G : aG) (k : Nat) (x0 : AV) (h : aF) : gN.f G (k + 1) [x0] h = gN.c G k (gN.f G k) x0 h := rfl
noncomputable def gQ.ann : Ann := gE [] [] [] []
noncomputable def gQ.env (G : aG) (k : Nat) (self : dA) : List (Nat × Bool × dA) := []
noncomputable def gQ.c (G : aG) (k : Nat) (self : dA) (x0 x1 : AV) (h : aF) : Option (AV × aF) := gA (
 aB (dP x0 h) fun v0 h0 =>
 aB (dP x1 h0) fun v1 h1 =>
 aB (pu h1 (aA 1 v1)) fun v2 h2 =>
 aB (pu h2 (aC G false 1 v2 h2)) fun v3 h3 =>
 aB (pu h3 (aA 2 v1)) fun v4 h4 =>
 aB (pu h4 (aC G false 1 v4 h4)) fun v5 h5 =>
 aB (pu h5 (aA 3 v1)) fun v6 h6 =>
 aB (pu h6 (aC G false 1 v6 h6)) fun v7 h7 =>
 aB (pu h7 (aA 4 v1)) fun v8 h8 =>
 aB (pu h8 (aC G false 1 v8 h8)) fun v9 h9 =>
 aB (pu h9 (aA 5 v1)) fun v10 h10 =>
 aB (pu h10 (aC G false 1 v10 h10)) fun v11 h11 =>
 aB (fK 1 5 (.bool false) [(0, v3), (1, v5), (2, v7), (3, v9), (4, v11)] h11) fun v12 h12 =>
 aB (pu h12 (aA 1 v0)) fun v13 h13 =>
 aB (pu h13 (aC G false 1 v13 h13)) fun v14 h14 =>
 aB (pu h14 (aA 2 v0)) fun v15 h15 =>
 aB (pu h15 (aC G false 1 v15 h15)) fun v16 h16 =>
 aB (pu h16 (aA 3 v0)) fun v17 h17 =>
 aB (pu h17 (aC G false 1 v17 h17)) fun v18 h18 =>
 aB (pu h18 (aA 4 v0)) fun v19 h19 =>
 aB (pu h19 (aC G false 1 v19 h19)) fun v20 h20 =>
 aB (pu h20 (aA 5 v0)) fun v21 h21 =>
 aB (pu h21 (aC G false 1 v21 h21)) fun v22 h22 =>
 aB (fK 1 5 (.int .i64 0) [(0, v14), (1, v16), (2, v18), (3, v20), (4, v22)] h22) fun v23 h23 =>
 bQ [v12, v23] h.length h23)
noncomputable def gQ.f (G : aG) : Nat → dA
 | 0 => fun _ _ => none
 | k + 1 => fun args h => mJ args fun x0 x1 => (gQ.c G k (gQ.f G k) x0 x1 h)
noncomputable def dO.ann : Ann := gE [] [] [(12, [2, 3, 4, 8, 53, 54, 55]), (6, [2, 3, 4, 7, 8, 28])] [(33, [3, 4, 12]), (31, [2, 3, 12, 82]), (27, [2, 3, 12, 72, 79]), (22, [2, 3, 12, 72, 73])]
noncomputable def dO.env (G : aG) (k : Nat) (self : dA) : List (Nat × Bool × dA) := [(90, true, gN.f G k), (91, true, gQ.f G k)]
noncomputable def dO.l6 (G : aG) (k n0 : Nat) (self : dA) (lp : iV) : iV := fun xs h0 => qS n0 xs h0 fun h =>
 aB (pu h (aQ Tryd.prog .lss 3 true (aI xs 5) (.int .i64 4))) fun v17 h17 =>
 aK v17
 (aB (pu h17 (cF 1 (aI xs 3) (aI xs 5))) fun v18 h18 =>
 aB (pu h18 (aC G false 1 v18 h18)) fun v19 h19 =>
 aB (gd v19 true h19 (some ((aI xs 4), h19))) fun v20 h20 =>
 aB (gd v19 true h20 (some ((aI xs 5), h20))) fun v21 h21 =>
 aB (gd v19 true h21 (pu h21 (cF 1 v20 v21))) fun v22 h22 =>
 aB (gd v19 true h22 (pu h22 (aC G false 1 v22 h22))) fun v23 h23 =>
 aB (gd v19 true h23 (pu h23 (aQ Tryd.prog .lss 2 true v23 (.int .i64 0)))) fun v24 h24 =>
 aB (gd v19 true h24 (some (v24, h24))) fun v25 h25 =>
 aB (gd v25 false h25 (some ((aI xs 4), h25))) fun v26 h26 =>
 aB (gd v25 false h26 (some ((aI xs 5), h26))) fun v27 h27 =>
 aB (gd v25 false h27 (pu h27 (cF 1 v26 v27))) fun v28 h28 =>
 aB (gd v25 false h28 (pu h28 (aC G false 1 v28 h28))) fun v29 h29 =>
 aB (gd v25 false h29 (pu h29 (aA 1 (aI xs 0)))) fun v30 h30 =>
 aB (gd v25 false h30 (pu h30 (aC G false 1 v30 h30))) fun v31 h31 =>
 aB (gd v25 false h31 (pu h31 (aQ Tryd.prog .geq 2 false v29 v31))) fun v32 h32 =>
 aB (gd v19 true h32 (pu h32 (dJ v25 (.bool true) v32))) fun v33 h33 =>
 aB (pu h33 (dJ v19 v33 (.bool false))) fun v34 h34 =>
 aK v34
 (aB (pu h34 (aC G false 1 (.gl 1) h34)) fun v35 h35 =>
 some (.ret, [(aI xs 0), (aI xs 1), v35, (aI xs 3), (aI xs 4), (aI xs 5)], h35))
 (aB (pu h34 (aQ Tryd.prog .add 3 true (aI xs 5) (.int .i64 1))) fun v36 h36 =>
 lp [(aI xs 0), (aI xs 1), (aI xs 2), (aI xs 3), (aI xs 4), v36] h36))
 (some (.exit 0, [(aI xs 0), (aI xs 1), (aI xs 2), (aI xs 3), (aI xs 4), (aI xs 5)], h17))
noncomputable def dO.l12 (G : aG) (k n0 : Nat) (self : dA) (lp : iV) : iV := fun xs h0 => qS n0 xs h0 fun h =>
 aB (pu h (aQ Tryd.prog .lss 3 false (aI xs 6) (aI xs 5))) fun v39 h39 =>
 aK v39
 (aB (pu h39 (cF 1 (aI xs 4) (aI xs 6))) fun v40 h40 =>
 aB (pu h40 (aC G false 1 v40 h40)) fun v41 h41 =>
 aB (pu h41 (un .not v41)) fun v42 h42 =>
 aB (gd v42 true h42 (some ((aI xs 3), h42))) fun v43 h43 =>
 aB (gd v42 true h43 (some ((aI xs 6), h43))) fun v44 h44 =>
 aB (gd v42 true h44 (pu h44 (cF 1 v43 v44))) fun v45 h45 =>
 aB (gd v42 true h45 (pu h45 (aC G false 1 v45 h45))) fun v46 h46 =>
 aB (gd v42 true h46 (pu h46 (aQ Tryd.prog .neq 2 true v46 (.int .i64 0)))) fun v47 h47 =>
 aB (pu h47 (dJ v42 v47 (.bool false))) fun v48 h48 =>
 aK v48
 (aB (pu h48 (aC G false 1 (.gl 3) h48)) fun v49 h49 =>
 some (.ret, [(aI xs 0), (aI xs 1), v49, (aI xs 3), (aI xs 4), (aI xs 5), (aI xs 6)], h49))
 (aB (pu h48 (aQ Tryd.prog .add 3 true (aI xs 6) (.int .i64 1))) fun v50 h50 =>
 lp [(aI xs 0), (aI xs 1), (aI xs 2), (aI xs 3), (aI xs 4), (aI xs 5), v50] h50))
 (some (.exit 2, [(aI xs 0), (aI xs 1), (aI xs 2), (aI xs 3), (aI xs 4), (aI xs 5), (aI xs 6)], h39))
noncomputable def dO.c (G : aG) (k : Nat) (self : dA) (x0 x1 : AV) (h : aF) : Option (AV × aF) := gA (
 aB (dP x0 h) fun v0 h0 =>
 aB (dP x1 h0) fun v1 h1 =>
 aB (pu h1 (aA 0 v1)) fun v2 h2 =>
 aB (pu h2 (aC G false 1 v2 h2)) fun v3 h3 =>
 aB (aE (gN.f G k) [v3] h3) fun v4 h4 =>
 aB (pu h4 (cU v4 0)) fun v5 h5 =>
 aB (pu h5 (cU v4 1)) fun v6 h6 =>
 aB (fF 163 (.agg [(.str ⟨#[]⟩), (.bool false), (.bool false), (.bool false), (.bool false), (.bool false)]) h6) fun v7 h7 =>
 aB (fB (aN 6 v7 v5 h7)) fun v8 h8 =>
 aB (pu h8 (un .not v6)) fun v9 h9 =>
 aK v9
 (aB (pu h9 (aC G false 1 (.gl 2) h9)) fun v10 h10 =>
 bQ [v10] h.length h10)
 (aB (pu h9 (aC G true 6 v1 h9)) fun v11 h11 =>
 aB (pu h11 (aC G true 6 v7 h11)) fun v12 h12 =>
 aB (aE (gQ.f G k) [v11, v12] h12) fun v13 h13 =>
 aB (pu h13 (cU v13 0)) fun v14 h14 =>
 aB (pu h14 (cU v13 1)) fun v15 h15 =>
 eM (gP (dO.l6 G k h15.length self) k [v0, v1, .nili, v14, v15, (.int .i64 0)] h15) fun e16 x16 h16 => jJ e16
 (aB (pu h16 (dH (aI x16 3))) fun v37 h37 =>
 eM (gP (dO.l12 G k h37.length self) k [(aI x16 0), (aI x16 1), (aI x16 2), (aI x16 4), (aI x16 3), v37, (.int .i64 0)] h37) fun e38 x38 h38 => jJ e38
 (eM (
 aB (pu h38 (aA 0 (aI x38 1))) fun v51 h51 =>
 aB (pu h51 (aC G false 1 v51 h51)) fun v52 h52 =>
 eM (
 aB (pu h52 (aQ Tryd.prog .eql 3 true v52 (.int .i64 10))) fun v53 h53 =>
 aK v53
 (some (.normal, [(aI x38 0), (aI x38 1), (.int .i64 (-1)), v52, v53], h53))
 (aB (pu h53 (aQ Tryd.prog .eql 3 true v52 (.int .i64 11))) fun v54 h54 =>
 aK v54
 (some (.normal, [(aI x38 0), (aI x38 1), (.int .i64 (-1)), v52, v54], h54))
 (aB (pu h54 (aQ Tryd.prog .eql 3 true v52 (.int .i64 12))) fun v55 h55 =>
 some (.normal, [(aI x38 0), (aI x38 1), (.int .i64 (-1)), v52, v55], h55)))) fun e56 x56 h56 => jJ e56
 (aK (aI x56 4)
 (some (.normal, [(aI x56 1), .undef, (.int .i64 63)], h56))
 (aB (pu h56 (aQ Tryd.prog .eql 3 true (aI x56 3) (.int .i64 20))) fun v57 h57 =>
 aK v57
 (some (.normal, [(aI x56 1), .undef, (.int .i64 2)], h57))
 (eM (
 aB (pu h57 (aQ Tryd.prog .eql 3 true (aI x56 3) (.int .i64 15))) fun v58 h58 =>
 aK v58
 (some (.normal, [(aI x56 0), (aI x56 1), (aI x56 2), (aI x56 3), v58], h58))
 (aB (pu h58 (aQ Tryd.prog .eql 3 true (aI x56 3) (.int .i64 16))) fun v59 h59 =>
 some (.normal, [(aI x56 0), (aI x56 1), (aI x56 2), (aI x56 3), v59], h59))) fun e60 x60 h60 => jJ e60
 (aK (aI x60 4)
 (some (.normal, [(aI x60 1), .undef, (.int .i64 65535)], h60))
 (eM (
 aB (pu h60 (aQ Tryd.prog .eql 3 true (aI x60 3) (.int .i64 17))) fun v61 h61 =>
 aK v61
 (some (.normal, [(aI x60 0), (aI x60 1), (aI x60 2), v61], h61))
 (aB (pu h61 (aQ Tryd.prog .eql 3 true (aI x60 3) (.int .i64 18))) fun v62 h62 =>
 aK v62
 (some (.normal, [(aI x60 0), (aI x60 1), (aI x60 2), v62], h62))
 (aB (pu h62 (aQ Tryd.prog .eql 3 true (aI x60 3) (.int .i64 19))) fun v63 h63 =>
 some (.normal, [(aI x60 0), (aI x60 1), (aI x60 2), v63], h63)))) fun e64 x64 h64 => jJ e64
 (aK (aI x64 3)
 (aB (pu h64 (aA 5 (aI x64 1))) fun v65 h65 =>
 aB (pu h65 (aC G false 1 v65 h65)) fun v66 h66 =>
 aB (pu h66 (aQ Tryd.prog .lss 2 true v66 (.int .i64 0))) fun v67 h67 =>
 aB (gd v67 false h67 (pu h67 (aA 5 (aI x64 1)))) fun v68 h68 =>
 aB (gd v67 false h68 (pu h68 (aC G false 1 v68 h68))) fun v69 h69 =>
 aB (gd v67 false h69 (pu h69 (aA 0 (aI x64 0)))) fun v70 h70 =>
 aB (gd v67 false h70 (pu h70 (aC G false 1 v70 h70))) fun v71 h71 =>
 aB (gd v67 false h71 (pu h71 (dH v71))) fun v72 h72 =>
 aB (gd v67 false h72 (pu h72 (aQ Tryd.prog .gtr 2 false v69 v72))) fun v73 h73 =>
 aB (pu h73 (dJ v67 (.bool true) v73)) fun v74 h74 =>
 aK v74
 (aB (pu h74 (aC G false 1 (.gl 4) h74)) fun v75 h75 =>
 some (.ret, [(aI x64 1), v75, (aI x64 2)], h75))
 (some (.normal, [(aI x64 1), .undef, (aI x64 2)], h74)))
 (some (.normal, [(aI x64 1), .undef, (aI x64 2)], h64)))
 (fun i64 => if i64 = 4 then (some (.normal, [(aI x64 1), .undef, (aI x64 2)], h64)) else (some (.exit i64, [(aI x64 1), .undef, (aI x64 2)], h64)))
 (some (.ret, [(aI x64 1), .undef, (aI x64 2)], h64))))
 (fun i60 => if i60 = 4 then (some (.normal, [(aI x60 1), .undef, (aI x60 2)], h60)) else (some (.exit i60, [(aI x60 1), .undef, (aI x60 2)], h60)))
 (some (.ret, [(aI x60 1), .undef, (aI x60 2)], h60)))))
 (fun i56 => if i56 = 4 then (some (.normal, [(aI x56 1), .undef, (aI x56 2)], h56)) else (some (.exit i56, [(aI x56 1), .undef, (aI x56 2)], h56)))
 (some (.ret, [(aI x56 1), .undef, (aI x56 2)], h56))) fun e76 x76 h76 => jJ e76
 (aB (pu h76 (aQ Tryd.prog .geq 2 true (aI x76 2) (.int .i64 0))) fun v77 h77 =>
 aB (gd v77 true h77 (pu h77 (aA 5 (aI x76 0)))) fun v78 h78 =>
 aB (gd v77 true h78 (pu h78 (aC G false 1 v78 h78))) fun v79 h79 =>
 aB (gd v77 true h79 (pu h79 (aQ Tryd.prog .lss 2 true v79 (.int .i64 0)))) fun v80 h80 =>
 aB (gd v77 true h80 (some (v80, h80))) fun v81 h81 =>
 aB (gd v81 false h81 (pu h81 (aA 5 (aI x76 0)))) fun v82 h82 =>
 aB (gd v81 false h82 (pu h82 (aC G false 1 v82 h82))) fun v83 h83 =>
 aB (gd v81 false h83 (some ((aI x76 2), h83))) fun v84 h84 =>
 aB (gd v81 false h84 (pu h84 (aQ Tryd.prog .gtr 2 false v83 v84))) fun v85 h85 =>
 aB (gd v77 true h85 (pu h85 (dJ v81 (.bool true) v85))) fun v86 h86 =>
 aB (pu h86 (dJ v77 v86 (.bool false))) fun v87 h87 =>
 aK v87
 (aB (pu h87 (aC G false 1 (.gl 1) h87)) fun v88 h88 =>
 bQ [v88] h.length h88)
 (bQ [.nili] h.length h87))
 (fun i76 => none)
 (bQ [(aI x76 1)] h.length h76))
 (fun i38 => if i38 = 2 then (eM (
 aB (pu h38 (aA 0 (aI x38 1))) fun v89 h89 =>
 aB (pu h89 (aC G false 1 v89 h89)) fun v90 h90 =>
 eM (
 aB (pu h90 (aQ Tryd.prog .eql 3 true v90 (.int .i64 10))) fun v91 h91 =>
 aK v91
 (some (.normal, [(aI x38 0), (aI x38 1), (.int .i64 (-1)), v90, v91], h91))
 (aB (pu h91 (aQ Tryd.prog .eql 3 true v90 (.int .i64 11))) fun v92 h92 =>
 aK v92
 (some (.normal, [(aI x38 0), (aI x38 1), (.int .i64 (-1)), v90, v92], h92))
 (aB (pu h92 (aQ Tryd.prog .eql 3 true v90 (.int .i64 12))) fun v93 h93 =>
 some (.normal, [(aI x38 0), (aI x38 1), (.int .i64 (-1)), v90, v93], h93)))) fun e94 x94 h94 => jJ e94
 (aK (aI x94 4)
 (some (.normal, [(aI x94 1), .undef, (.int .i64 63)], h94))
 (aB (pu h94 (aQ Tryd.prog .eql 3 true (aI x94 3) (.int .i64 20))) fun v95 h95 =>
 aK v95
 (some (.normal, [(aI x94 1), .undef, (.int .i64 2)], h95))
 (eM (
 aB (pu h95 (aQ Tryd.prog .eql 3 true (aI x94 3) (.int .i64 15))) fun v96 h96 =>
 aK v96
 (some (.normal, [(aI x94 0), (aI x94 1), (aI x94 2), (aI x94 3), v96], h96))
 (aB (pu h96 (aQ Tryd.prog .eql 3 true (aI x94 3) (.int .i64 16))) fun v97 h97 =>
 some (.normal, [(aI x94 0), (aI x94 1), (aI x94 2), (aI x94 3), v97], h97))) fun e98 x98 h98 => jJ e98
 (aK (aI x98 4)
 (some (.normal, [(aI x98 1), .undef, (.int .i64 65535)], h98))
 (eM (
 aB (pu h98 (aQ Tryd.prog .eql 3 true (aI x98 3) (.int .i64 17))) fun v99 h99 =>
 aK v99
 (some (.normal, [(aI x98 0), (aI x98 1), (aI x98 2), v99], h99))
 (aB (pu h99 (aQ Tryd.prog .eql 3 true (aI x98 3) (.int .i64 18))) fun v100 h100 =>
 aK v100
 (some (.normal, [(aI x98 0), (aI x98 1), (aI x98 2), v100], h100))
 (aB (pu h100 (aQ Tryd.prog .eql 3 true (aI x98 3) (.int .i64 19))) fun v101 h101 =>
 some (.normal, [(aI x98 0), (aI x98 1), (aI x98 2), v101], h101)))) fun e102 x102 h102 => jJ e102
 (aK (aI x102 3)
 (aB (pu h102 (aA 5 (aI x102 1))) fun v103 h103 =>
 aB (pu h103 (aC G false 1 v103 h103)) fun v104 h104 =>
 aB (pu h104 (aQ Tryd.prog .lss 2 true v104 (.int .i64 0))) fun v105 h105 =>
 aB (gd v105 false h105 (pu h105 (aA 5 (aI x102 1)))) fun v106 h106 =>
 aB (gd v105 false h106 (pu h106 (aC G false 1 v106 h106))) fun v107 h107 =>
 aB (gd v105 false h107 (pu h107 (aA 0 (aI x102 0)))) fun v108 h108 =>
 aB (gd v105 false h108 (pu h108 (aC G false 1 v108 h108))) fun v109 h109 =>
 aB (gd v105 false h109 (pu h109 (dH v109))) fun v110 h110 =>
 aB (gd v105 false h110 (pu h110 (aQ Tryd.prog .gtr 2 false v107 v110))) fun v111 h111 =>
 aB (pu h111 (dJ v105 (.bool true) v111)) fun v112 h112 =>
 aK v112
 (aB (pu h112 (aC G false 1 (.gl 4) h112)) fun v113 h113 =>
 some (.ret, [(aI x102 1), v113, (aI x102 2)], h113))
 (some (.normal, [(aI x102 1), .undef, (aI x102 2)], h112)))
 (some (.normal, [(aI x102 1), .undef, (aI x102 2)], h102)))
 (fun i102 => if i102 = 4 then (some (.normal, [(aI x102 1), .undef, (aI x102 2)], h102)) else (some (.exit i102, [(aI x102 1), .undef, (aI x102 2)], h102)))
 (some (.ret, [(aI x102 1), .undef, (aI x102 2)], h102))))
 (fun i98 => if i98 = 4 then (some (.normal, [(aI x98 1), .undef, (aI x98 2)], h98)) else (some (.exit i98, [(aI x98 1), .undef, (aI x98 2)], h98)))
 (some (.ret, [(aI x98 1), .undef, (aI x98 2)], h98)))))
 (fun i94 => if i94 = 4 then (some (.normal, [(aI x94 1), .undef, (aI x94 2)], h94)) else (some (.exit i94, [(aI x94 1), .undef, (aI x94 2)], h94)))
 (some (.ret, [(aI x94 1), .undef, (aI x94 2)], h94))) fun e114 x114 h114 => jJ e114
 (aB (pu h114 (aQ Tryd.prog .geq 2 true (aI x114 2) (.int .i64 0))) fun v115 h115 =>
 aB (gd v115 true h115 (pu h115 (aA 5 (aI x114 0)))) fun v116 h116 =>
 aB (gd v115 true h116 (pu h116 (aC G false 1 v116 h116))) fun v117 h117 =>
 aB (gd v115 true h117 (pu h117 (aQ Tryd.prog .lss 2 true v117 (.int .i64 0)))) fun v118 h118 =>
 aB (gd v115 true h118 (some (v118, h118))) fun v119 h119 =>
 aB (gd v119 false h119 (pu h119 (aA 5 (aI x114 0)))) fun v120 h120 =>
 aB (gd v119 false h120 (pu h120 (aC G false 1 v120 h120))) fun v121 h121 =>
 aB (gd v119 false h121 (some ((aI x114 2), h121))) fun v122 h122 =>
 aB (gd v119 false h122 (pu h122 (aQ Tryd.prog .gtr 2 false v121 v122))) fun v123 h123 =>
 aB (gd v115 true h123 (pu h123 (dJ v119 (.bool true) v123))) fun v124 h124 =>
 aB (pu h124 (dJ v115 v124 (.bool false))) fun v125 h125 =>
 aK v125
 (aB (pu h125 (aC G false 1 (.gl 1) h125)) fun v126 h126 =>
 bQ [v126] h.length h126)
 (bQ [.nili] h.length h125))
 (fun i114 => none)
 (bQ [(aI x114 1)] h.length h114)) else (none))
 (bQ [(aI x38 2)] h.length h38))
 (fun i16 => if i16 = 0 then (aB (pu h16 (dH (aI x16 3))) fun v127 h127 =>
 eM (gP (dO.l12 G k h127.length self) k [(aI x16 0), (aI x16 1), (aI x16 2), (aI x16 4), (aI x16 3), v127, (.int .i64 0)] h127) fun e128 x128 h128 => jJ e128
 (eM (
 aB (pu h128 (aA 0 (aI x128 1))) fun v141 h141 =>
 aB (pu h141 (aC G false 1 v141 h141)) fun v142 h142 =>
 eM (
 aB (pu h142 (aQ Tryd.prog .eql 3 true v142 (.int .i64 10))) fun v143 h143 =>
 aK v143
 (some (.normal, [(aI x128 0), (aI x128 1), (.int .i64 (-1)), v142, v143], h143))
 (aB (pu h143 (aQ Tryd.prog .eql 3 true v142 (.int .i64 11))) fun v144 h144 =>
 aK v144
 (some (.normal, [(aI x128 0), (aI x128 1), (.int .i64 (-1)), v142, v144], h144))
 (aB (pu h144 (aQ Tryd.prog .eql 3 true v142 (.int .i64 12))) fun v145 h145 =>
 some (.normal, [(aI x128 0), (aI x128 1), (.int .i64 (-1)), v142, v145], h145)))) fun e146 x146 h146 => jJ e146
 (aK (aI x146 4)
 (some (.normal, [(aI x146 1), .undef, (.int .i64 63)], h146))
 (aB (pu h146 (aQ Tryd.prog .eql 3 true (aI x146 3) (.int .i64 20))) fun v147 h147 =>
 aK v147
 (some (.normal, [(aI x146 1), .undef, (.int .i64 2)], h147))
 (eM (
 aB (pu h147 (aQ Tryd.prog .eql 3 true (aI x146 3) (.int .i64 15))) fun v148 h148 =>
 aK v148
 (some (.normal, [(aI x146 0), (aI x146 1), (aI x146 2), (aI x146 3), v148], h148))
 (aB (pu h148 (aQ Tryd.prog .eql 3 true (aI x146 3) (.int .i64 16))) fun v149 h149 =>
 some (.normal, [(aI x146 0), (aI x146 1), (aI x146 2), (aI x146 3), v149], h149))) fun e150 x150 h150 => jJ e150
 (aK (aI x150 4)
 (some (.normal, [(aI x150 1), .undef, (.int .i64 65535)], h150))
 (eM (
 aB (pu h150 (aQ Tryd.prog .eql 3 true (aI x150 3) (.int .i64 17))) fun v151 h151 =>
 aK v151
 (some (.normal, [(aI x150 0), (aI x150 1), (aI x150 2), v151], h151))
 (aB (pu h151 (aQ Tryd.prog .eql 3 true (aI x150 3) (.int .i64 18))) fun v152 h152 =>
 aK v152
 (some (.normal, [(aI x150 0), (aI x150 1), (aI x150 2), v152], h152))
 (aB (pu h152 (aQ Tryd.prog .eql 3 true (aI x150 3) (.int .i64 19))) fun v153 h153 =>
 some (.normal, [(aI x150 0), (aI x150 1), (aI x150 2), v153], h153)))) fun e154 x154 h154 => jJ e154
 (aK (aI x154 3)
 (aB (pu h154 (aA 5 (aI x154 1))) fun v155 h155 =>
 aB (pu h155 (aC G false 1 v155 h155)) fun v156 h156 =>
 aB (pu h156 (aQ Tryd.prog .lss 2 true v156 (.int .i64 0))) fun v157 h157 =>
 aB (gd v157 false h157 (pu h157 (aA 5 (aI x154 1)))) fun v158 h158 =>
 aB (gd v157 false h158 (pu h158 (aC G false 1 v158 h158))) fun v159 h159 =>
 aB (gd v157 false h159 (pu h159 (aA 0 (aI x154 0)))) fun v160 h160 =>
 aB (gd v157 false h160 (pu h160 (aC G false 1 v160 h160))) fun v161 h161 =>
 aB (gd v157 false h161 (pu h161 (dH v161))) fun v162 h162 =>
 aB (gd v157 false h162 (pu h162 (aQ Tryd.prog .gtr 2 false v159 v162))) fun v163 h163 =>
 aB (pu h163 (dJ v157 (.bool true) v163)) fun v164 h164 =>
 aK v164
 (aB (pu h164 (aC G false 1 (.gl 4) h164)) fun v165 h165 =>
 some (.ret, [(aI x154 1), v165, (aI x154 2)], h165))
 (some (.normal, [(aI x154 1), .undef, (aI x154 2)], h164)))
 (some (.normal, [(aI x154 1), .undef, (aI x154 2)], h154)))
 (fun i154 => if i154 = 4 then (some (.normal, [(aI x154 1), .undef, (aI x154 2)], h154)) else (some (.exit i154, [(aI x154 1), .undef, (aI x154 2)], h154)))
 (some (.ret, [(aI x154 1), .undef, (aI x154 2)], h154))))
 (fun i150 => if i150 = 4 then (some (.normal, [(aI x150 1), .undef, (aI x150 2)], h150)) else (some (.exit i150, [(aI x150 1), .undef, (aI x150 2)], h150)))
 (some (.ret, [(aI x150 1), .undef, (aI x150 2)], h150)))))
 (fun i146 => if i146 = 4 then (some (.normal, [(aI x146 1), .undef, (aI x146 2)], h146)) else (some (.exit i146, [(aI x146 1), .undef, (aI x146 2)], h146)))
 (some (.ret, [(aI x146 1), .undef, (aI x146 2)], h146))) fun e166 x166 h166 => jJ e166
 (aB (pu h166 (aQ Tryd.prog .geq 2 true (aI x166 2) (.int .i64 0))) fun v167 h167 =>
 aB (gd v167 true h167 (pu h167 (aA 5 (aI x166 0)))) fun v168 h168 =>
 aB (gd v167 true h168 (pu h168 (aC G false 1 v168 h168))) fun v169 h169 =>
 aB (gd v167 true h169 (pu h169 (aQ Tryd.prog .lss 2 true v169 (.int .i64 0)))) fun v170 h170 =>
 aB (gd v167 true h170 (some (v170, h170))) fun v171 h171 =>
 aB (gd v171 false h171 (pu h171 (aA 5 (aI x166 0)))) fun v172 h172 =>
 aB (gd v171 false h172 (pu h172 (aC G false 1 v172 h172))) fun v173 h173 =>
 aB (gd v171 false h173 (some ((aI x166 2), h173))) fun v174 h174 =>
 aB (gd v171 false h174 (pu h174 (aQ Tryd.prog .gtr 2 false v173 v174))) fun v175 h175 =>
 aB (gd v167 true h175 (pu h175 (dJ v171 (.bool true) v175))) fun v176 h176 =>
 aB (pu h176 (dJ v167 v176 (.bool false))) fun v177 h177 =>
 aK v177
 (aB (pu h177 (aC G false 1 (.gl 1) h177)) fun v178 h178 =>
 bQ [v178] h.length h178)
 (bQ [.nili] h.length h177))
 (fun i166 => none)
 (bQ [(aI x166 1)] h.length h166))
 (fun i128 => if i128 = 2 then (eM (
 aB (pu h128 (aA 0 (aI x128 1))) fun v179 h179 =>
 aB (pu h179 (aC G false 1 v179 h179)) fun v180 h180 =>
 eM (
 aB (pu h180 (aQ Tryd.prog .eql 3 true v180 (.int .i64 10))) fun v181 h181 =>
 aK v181
 (some (.normal, [(aI x128 0), (aI x128 1), (.int .i64 (-1)), v180, v181], h181))
 (aB (pu h181 (aQ Tryd.prog .eql 3 true v180 (.int .i64 11))) fun v182 h182 =>
 aK v182
 (some (.normal, [(aI x128 0), (aI x128 1), (.int .i64 (-1)), v180, v182], h182))
 (aB (pu h182 (aQ Tryd.prog .eql 3 true v180 (.int .i64 12))) fun v183 h183 =>
 some (.normal, [(aI x128 0), (aI x128 1), (.int .i64 (-1)), v180, v183], h183)))) fun e184 x184 h184 => jJ e184
 (aK (aI x184 4)
 (some (.normal, [(aI x184 1), .undef, (.int .i64 63)], h184))
 (aB (pu h184 (aQ Tryd.prog .eql 3 true (aI x184 3) (.int .i64 20))) fun v185 h185 =>
 aK v185
 (some (.normal, [(aI x184 1), .undef, (.int .i64 2)], h185))
 (eM (
 aB (pu h185 (aQ Tryd.prog .eql 3 true (aI x184 3) (.int .i64 15))) fun v186 h186 =>
 aK v186
 (some (.normal, [(aI x184 0), (aI x184 1), (aI x184 2), (aI x184 3), v186], h186))
 (aB (pu h186 (aQ Tryd.prog .eql 3 true (aI x184 3) (.int .i64 16))) fun v187 h187 =>
 some (.normal, [(aI x184 0), (aI x184 1), (aI x184 2), (aI x184 3), v187], h187))) fun e188 x188 h188 => jJ e188
 (aK (aI x188 4)
 (some (.normal, [(aI x188 1), .undef, (.int .i64 65535)], h188))
 (eM (
 aB (pu h188 (aQ Tryd.prog .eql 3 true (aI x188 3) (.int .i64 17))) fun v189 h189 =>
 aK v189
 (some (.normal, [(aI x188 0), (aI x188 1), (aI x188 2), v189], h189))
 (aB (pu h189 (aQ Tryd.prog .eql 3 true (aI x188 3) (.int .i64 18))) fun v190 h190 =>
 aK v190
 (some (.normal, [(aI x188 0), (aI x188 1), (aI x188 2), v190], h190))
 (aB (pu h190 (aQ Tryd.prog .eql 3 true (aI x188 3) (.int .i64 19))) fun v191 h191 =>
 some (.normal, [(aI x188 0), (aI x188 1), (aI x188 2), v191], h191)))) fun e192 x192 h192 => jJ e192
 (aK (aI x192 3)
 (aB (pu h192 (aA 5 (aI x192 1))) fun v193 h193 =>
 aB (pu h193 (aC G false 1 v193 h193)) fun v194 h194 =>
 aB (pu h194 (aQ Tryd.prog .lss 2 true v194 (.int .i64 0))) fun v195 h195 =>
 aB (gd v195 false h195 (pu h195 (aA 5 (aI x192 1)))) fun v196 h196 =>
 aB (gd v195 false h196 (pu h196 (aC G false 1 v196 h196))) fun v197 h197 =>
 aB (gd v195 false h197 (pu h197 (aA 0 (aI x192 0)))) fun v198 h198 =>
 aB (gd v195 false h198 (pu h198 (aC G false 1 v198 h198))) fun v199 h199 =>
 aB (gd v195 false h199 (pu h199 (dH v199))) fun v200 h200 =>
 aB (gd v195 false h200 (pu h200 (aQ Tryd.prog .gtr 2 false v197 v200))) fun v201 h201 =>
 aB (pu h201 (dJ v195 (.bool true) v201)) fun v202 h202 =>
 aK v202
 (aB (pu h202 (aC G false 1 (.gl 4) h202)) fun v203 h203 =>
 some (.ret, [(aI x192 1), v203, (aI x192 2)], h203))
 (some (.normal, [(aI x192 1), .undef, (aI x192 2)], h202)))
 (some (.normal, [(aI x192 1), .undef, (aI x192 2)], h192)))
 (fun i192 => if i192 = 4 then (some (.normal, [(aI x192 1), .undef, (aI x192 2)], h192)) else (some (.exit i192, [(aI x192 1), .undef, (aI x192 2)], h192)))
 (some (.ret, [(aI x192 1), .undef, (aI x192 2)], h192))))
 (fun i188 => if i188 = 4 then (some (.normal, [(aI x188 1), .undef, (aI x188 2)], h188)) else (some (.exit i188, [(aI x188 1), .undef, (aI x188 2)], h188)))
 (some (.ret, [(aI x188 1), .undef, (aI x188 2)], h188)))))
 (fun i184 => if i184 = 4 then (some (.normal, [(aI x184 1), .undef, (aI x184 2)], h184)) else (some (.exit i184, [(aI x184 1), .undef, (aI x184 2)], h184)))
 (some (.ret, [(aI x184 1), .undef, (aI x184 2)], h184))) fun e204 x204 h204 => jJ e204
 (aB (pu h204 (aQ Tryd.prog .geq 2 true (aI x204 2) (.int .i64 0))) fun v205 h205 =>
 aB (gd v205 true h205 (pu h205 (aA 5 (aI x204 0)))) fun v206 h206 =>
 aB (gd v205 true h206 (pu h206 (aC G false 1 v206 h206))) fun v207 h207 =>
 aB (gd v205 true h207 (pu h207 (aQ Tryd.prog .lss 2 true v207 (.int .i64 0)))) fun v208 h208 =>
 aB (gd v205 true h208 (some (v208, h208))) fun v209 h209 =>
 aB (gd v209 false h209 (pu h209 (aA 5 (aI x204 0)))) fun v210 h210 =>
 aB (gd v209 false h210 (pu h210 (aC G false 1 v210 h210))) fun v211 h211 =>
 aB (gd v209 false h211 (some ((aI x204 2), h211))) fun v212 h212 =>
 aB (gd v209 false h212 (pu h212 (aQ Tryd.prog .gtr 2 false v211 v212))) fun v213 h213 =>
 aB (gd v205 true h213 (pu h213 (dJ v209 (.bool true) v213))) fun v214 h214 =>
 aB (pu h214 (dJ v205 v214 (.bool false))) fun v215 h215 =>
 aK v215
 (aB (pu h215 (aC G false 1 (.gl 1) h215)) fun v216 h216 =>
 bQ [v216] h.length h216)
 (bQ [.nili] h.length h215))
 (fun i204 => none)
 (bQ [(aI x204 1)] h.length h204)) else (none))
 (bQ [(aI x128 2)] h.length h128)) else (none))
 (bQ [(aI x16 2)] h.length h16)))
noncomputable def dO.f (G : aG) : Nat → dA
 | 0 => fun _ _ => none
 | k + 1 => fun args h => mJ args fun x0 x1 => (dO.c G k (dO.f G k) x0 x1 h)
theorem dO.step (G : aG) (k : Nat) (x0 x1 : AV) (h : aF) : dO.f G (k + 1) [x0, x1] h = dO.c G k (dO.f G k) x0 x1 h := rfl
noncomputable def dU.ann : Ann := gE [] [] [(6, [1, 2, 33, 34, 35])] []
noncomputable def dU.env (G : aG) (k : Nat) (self : dA) : List (Nat × Bool × dA) := [(64, true, dO.f G k)]
noncomputable def dU.l6 (G : aG) (k n0 : Nat) (self : dA) (lp : iV) : iV := fun xs h0 => qS n0 xs h0 fun h =>
 aB (pu h (aQ Tryd.prog .lss 3 false (aI xs 4) (aI xs 3))) fun v26 h26 =>
 aK v26
 (aB (pu h26 (cF 6 (aI xs 2) (aI xs 4))) fun v27 h27 =>
 aB (pu h27 (aC G true 6 v27 h27)) fun v28 h28 =>
 aB (fF 60 (.agg [(.int .i64 0), (.int .i64 0), (.int .i64 0), (.int .i64 0), (.int .i64 0), (.int .i64 0)]) h28) fun v29 h29 =>
 aB (fB (aN 6 v29 v28 h29)) fun v30 h30 =>
 aB (pu h30 (aC G true 3 (aI xs 0) h30)) fun v31 h31 =>
 aB (pu h31 (aC G true 6 v29 h31)) fun v32 h32 =>
 aB (aE (dO.f G k) [v31, v32] h32) fun v33 h33 =>
 aB (pu h33 (aQ Tryd.prog .neq 30 true v33 .nili)) fun v34 h34 =>
 aK v34
 (aB (pu h34 (bA [(0, 1), (1, 1)] [(.int .i64 0), .nili] [(0, (aI xs 4)), (1, v33)])) fun v35 h35 =>
 aB (dP v35 h35) fun v36 h36 =>
 some (.ret, [(aI xs 0), (.iface 133 v36), (aI xs 2), (aI xs 3), (aI xs 4)], h36))
 (aB (pu h34 (aQ Tryd.prog .add 3 true (aI xs 4) (.int .i64 1))) fun v37 h37 =>
 lp [(aI xs 0), (aI xs 1), (aI xs 2), (aI xs 3), v37] h37))
 (some (.exit 1, [(aI xs 0), (aI xs 1), (aI xs 2), (aI xs 3), (aI xs 4)], h26))
noncomputable def dU.c (G : aG) (k : Nat) (self : dA) (x0 : AV) (h : aF) : Option (AV × aF) := gA (
 aB (dP x0 h) fun v0 h0 =>
 aB (pu h0 (aA 0 v0)) fun v1 h1 =>
 aB (pu h1 (aC G false 1 v1 h1)) fun v2 h2 =>
 aB (pu h2 (dH v2)) fun v3 h3 =>
 aB (pu h3 (aQ Tryd.prog .gtr 3 true v3 (.int .i64 262144))) fun v4 h4 =>
 aK v4
 (aB (pu h4 (aC G false 1 (.gl 0) h4)) fun v5 h5 =>
 bQ [v5] h.length h5)
 (aB (pu h4 (aA 1 v0)) fun v6 h6 =>
 aB (pu h6 (aC G false 1 v6 h6)) fun v7 h7 =>
 aB (pu h7 (aQ Tryd.prog .lss 3 true v7 (.int .i64 0))) fun v8 h8 =>
 aB (gd v8 false h8 (pu h8 (aA 1 v0))) fun v9 h9 =>
 aB (gd v8 false h9 (pu h9 (aC G false 1 v9 h9))) fun v10 h10 =>
 aB (gd v8 false h10 (pu h10 (aQ Tryd.prog .gtr 3 true v10 (.int .i64 65536)))) fun v11 h11 =>
 aB (pu h11 (dJ v8 (.bool true) v11)) fun v12 h12 =>
 aB (gd v12 false h12 (pu h12 (aA 2 v0))) fun v13 h13 =>
 aB (gd v12 false h13 (pu h13 (aC G false 1 v13 h13))) fun v14 h14 =>
 aB (gd v12 false h14 (pu h14 (aQ Tryd.prog .lss 3 true v14 (.int .i64 0)))) fun v15 h15 =>
 aB (pu h15 (dJ v12 (.bool true) v15)) fun v16 h16 =>
 aB (gd v16 false h16 (pu h16 (aA 2 v0))) fun v17 h17 =>
 aB (gd v16 false h17 (pu h17 (aC G false 1 v17 h17))) fun v18 h18 =>
 aB (gd v16 false h18 (pu h18 (aQ Tryd.prog .gtr 3 true v18 (.int .i64 65536)))) fun v19 h19 =>
 aB (pu h19 (dJ v16 (.bool true) v19)) fun v20 h20 =>
 aK v20
 (aB (pu h20 (aC G false 1 (.gl 0) h20)) fun v21 h21 =>
 bQ [v21] h.length h21)
 (aB (pu h20 (aA 0 v0)) fun v22 h22 =>
 aB (pu h22 (aC G false 1 v22 h22)) fun v23 h23 =>
 aB (pu h23 (dH v23)) fun v24 h24 =>
 eM (gP (dU.l6 G k h24.length self) k [v0, .nili, v23, v24, (.int .i64 0)] h24) fun e25 x25 h25 => jJ e25
 (bQ [.nili] h.length h25)
 (fun i25 => if i25 = 1 then (bQ [.nili] h.length h25) else (none))
 (bQ [(aI x25 1)] h.length h25))))
noncomputable def dU.f (G : aG) : Nat → dA
 | 0 => fun _ _ => none
 | k + 1 => fun args h => nH args fun x0 => (dU.c G k (dU.f G k) x0 h)
theorem dU.step (G : aG) (k : Nat) (x0 : AV) (h : aF) : dU.f G (k + 1) [x0] h = dU.c G k (dU.f G k) x0 h := rfl
noncomputable def cL.ann : Ann := gE [] [4, 5] [(3, [0, 1, 5, 9])] [(10, [0, 1, 5, 6, 7, 8, 9])]
noncomputable def cL.env (G : aG) (k : Nat) (self : dA) : List (Nat × Bool × dA) := []
noncomputable def cL.l3 (G : aG) (k n0 : Nat) (self : dA) (lp : iV) : iV := fun xs h0 => qS n0 xs h0 fun h =>
 aB (pu h (aQ Tryd.prog .lss 3 true (aI xs 3) (.int .i64 4))) fun v3 h3 =>
 aK v3
 (aB (pu h3 (aJ .u64 (aI xs 1))) fun v4 h4 =>
 aB (pu h4 (aQ Tryd.prog .mul 3 true (.int .i64 16) (aI xs 3))) fun v5 h5 =>
 aB (pu h5 (aQ Tryd.prog .shr 43 false v4 v5)) fun v6 h6 =>
 aB (pu h6 (aQ Tryd.prog .and 43 true v6 (.int .u64 65535))) fun v7 h7 =>
 aB (pu h7 (aJ .i64 v7)) fun v8 h8 =>
 aB (pu h8 (aQ Tryd.prog .eql 3 true v8 (.int .i64 0))) fun v9 h9 =>
 aK v9
 (aB (pu h9 (aQ Tryd.prog .add 3 true (aI xs 3) (.int .i64 1))) fun v10 h10 =>
 lp [(aI xs 0), (aI xs 1), (aI xs 2), v10] h10)
 (eM (
 aB (pu h9 (dH (aI xs 2))) fun v11 h11 =>
 aB (pu h11 (aQ Tryd.prog .eql 3 true v11 (.int .i64 0))) fun v12 h12 =>
 aK v12
 (some (.normal, [(aI xs 0), (aI xs 1), (aI xs 2), (aI xs 3), v8, (.int .i64 1), (aI xs 3)], h12))
 (some (.normal, [(aI xs 0), (aI xs 1), (aI xs 2), (aI xs 3), v8, (.int .i64 2), (aI xs 3)], h12))) fun e13 x13 h13 => jJ e13
 (aB (pu h13 (bA [(0, 1), (1, 1), (2, 1), (3, 1), (4, 1), (5, 1)] [(.int .i64 0), (.int .i64 0), (.int .i64 0), (.int .i64 0), (.int .i64 0), (.int .i64 0)] [(0, (aI x13 5)), (1, (aI x13 0)), (4, (aI x13 3)), (5, (aI x13 4))])) fun v14 h14 =>
 aB (fK 6 1 (.agg [(.int .i64 0), (.int .i64 0), (.int .i64 0), (.int .i64 0), (.int .i64 0), (.int .i64 0)]) [(0, v14)] h14) fun v15 h15 =>
 aB (fI 57 6 (aI x13 2) v15 h15) fun v16 h16 =>
 aB (pu h16 (aQ Tryd.prog .add 3 true (aI x13 6) (.int .i64 1))) fun v17 h17 =>
 lp [(aI x13 0), (aI x13 1), v16, v17] h17)
 (fun i13 => if i13 = 1 then (aB (pu h13 (aQ Tryd.prog .add 3 true (aI x13 6) (.int .i64 1))) fun v18 h18 =>
 lp [(aI x13 0), (aI x13 1), (aI x13 2), v18] h18) else (some (.exit i13, [(aI x13 0), (aI x13 1), (aI x13 2), (aI x13 6)], h13)))
 (some (.ret, [(aI x13 0), (aI x13 1), (aI x13 2), (aI x13 6)], h13))))
 (some (.exit 0, [(aI xs 0), (aI xs 1), (aI xs 2), (aI xs 3)], h3))
noncomputable def cL.c (G : aG) (k : Nat) (self : dA) (x0 x1 : AV) (h : aF) : Option (AV × aF) := gA (
 aB (some (.sl h.length 0 0 0 6, h ++ [⟨57, 6, []⟩])) fun v0 h0 =>
 aB (some (.sl h0.length 0 0 0 6, h0 ++ [⟨57, 6, []⟩])) fun v1 h1 =>
 eM (gP (cL.l3 G k h1.length self) k [x0, x1, v1, (.int .i64 0)] h1) fun e2 x2 h2 => jJ e2
 (aB (pu h2 (dH (aI x2 2))) fun v19 h19 =>
 aB (pu h19 (aQ Tryd.prog .eql 3 true v19 (.int .i64 0))) fun v20 h20 =>
 aK v20
 (aB (pu h20 (bA [(0, 1), (1, 1), (2, 1), (3, 1), (4, 1), (5, 1)] [(.int .i64 0), (.int .i64 0), (.int .i64 0), (.int .i64 0), (.int .i64 0), (.int .i64 0)] [(0, (.int .i64 1)), (1, (aI x2 0))])) fun v21 h21 =>
 aB (fK 6 1 (.agg [(.int .i64 0), (.int .i64 0), (.int .i64 0), (.int .i64 0), (.int .i64 0), (.int .i64 0)]) [(0, v21)] h21) fun v22 h22 =>
 aB (fI 57 6 (aI x2 2) v22 h22) fun v23 h23 =>
 aAN [v23] h23)
 (aAN [(aI x2 2)] h20))
 (fun i2 => if i2 = 0 then (aB (pu h2 (dH (aI x2 2))) fun v24 h24 =>
 aB (pu h24 (aQ Tryd.prog .eql 3 true v24 (.int .i64 0))) fun v25 h25 =>
 aK v25
 (aB (pu h25 (bA [(0, 1), (1, 1), (2, 1), (3, 1), (4, 1), (5, 1)] [(.int .i64 0), (.int .i64 0), (.int .i64 0), (.int .i64 0), (.int .i64 0), (.int .i64 0)] [(0, (.int .i64 1)), (1, (aI x2 0))])) fun v26 h26 =>
 aB (fK 6 1 (.agg [(.int .i64 0), (.int .i64 0), (.int .i64 0), (.int .i64 0), (.int .i64 0), (.int .i64 0)]) [(0, v26)] h26) fun v27 h27 =>
 aB (fI 57 6 (aI x2 2) v27 h27) fun v28 h28 =>
 aAN [v28] h28)
 (aAN [(aI x2 2)] h25)) else (none))
 (aAN [.undef] h2))
noncomputable def cL.f (G : aG) : Nat → dA
 | 0 => fun _ _ => none
 | k + 1 => fun args h => mJ args fun x0 x1 => (cL.c G k (cL.f G k) x0 x1 h)
theorem cL.step (G : aG) (k : Nat) (x0 x1 : AV) (h : aF) : cL.f G (k + 1) [x0, x1] h = cL.c G k (cL.f G k) x0 x1 h := rfl
noncomputable def bF.ann : Ann := gE [] [] [] []
noncomputable def bF.env (G : aG) (k : Nat) (self : dA) : List (Nat × Bool × dA) := []
noncomputable def bF.c (G : aG) (k : Nat) (self : dA) (x0 x1 : AV) (h : aF) : Option (AV × aF) := gA (
 aB (pu h (kZ x0)) fun v0 h0 =>
 aB (pu h0 (aA 0 v0)) fun v1 h1 =>
 aB (pu h1 (aC G false 1 v1 h1)) fun v2 h2 =>
 aB (fI 57 6 v2 x1 h2) fun v3 h3 =>
 aB (pu h3 (kZ x0)) fun v4 h4 =>
 aB (pu h4 (aA 0 v4)) fun v5 h5 =>
 aB (fB (aN 1 v5 v3 h5)) fun v6 h6 =>
 bQ [] h.length h6)
noncomputable def bF.f (G : aG) : Nat → dA
 | 0 => fun _ _ => none
 | k + 1 => fun args h => mJ args fun x0 x1 => (bF.c G k (bF.f G k) x0 x1 h)
theorem bF.step (G : aG) (k : Nat) (x0 x1 : AV) (h : aF) : bF.f G (k + 1) [x0, x1] h = bF.c G k (bF.f G k) x0 x1 h := rfl
noncomputable def bS.ann : Ann := gE [15] [] [] []
noncomputable def bS.env (G : aG) (k : Nat) (self : dA) : List (Nat × Bool × dA) := [(65, false, bF.f G k)]
noncomputable def bS.c (G : aG) (k : Nat) (self : dA) (x0 x1 x2 : AV) (h : aF) : Option (AV × aF) := gA (
 aB (dP x2 h) fun v0 h0 =>
 aB (pu h0 (aA 1 v0)) fun v1 h1 =>
 aB (pu h1 (aC G false 1 v1 h1)) fun v2 h2 =>
 aB (pu h2 (aA 2 v0)) fun v3 h3 =>
 aB (pu h3 (aC G false 1 v3 h3)) fun v4 h4 =>
 aB (pu h4 (aA 3 v0)) fun v5 h5 =>
 aB (pu h5 (aC G false 1 v5 h5)) fun v6 h6 =>
 aB (pu h6 (bA [(0, 1), (1, 1), (2, 1), (3, 1), (4, 1), (5, 1)] [(.int .i64 0), (.int .i64 0), (.int .i64 0), (.int .i64 0), (.int .i64 0), (.int .i64 0)] [(0, x1), (1, v2), (2, v4), (3, v6)])) fun v7 h7 =>
 aB (fM 57 6 1 (.agg [(.int .i64 0), (.int .i64 0), (.int .i64 0), (.int .i64 0), (.int .i64 0), (.int .i64 0)]) [(0, v7)] h7) fun v8 h8 =>
 aB (bK (bF.f G k) [x0, v8] h8) fun v9 h9 =>
 bQ [] h.length h9)
noncomputable def bS.f (G : aG) : Nat → dA
 | 0 => fun _ _ => none
 | k + 1 => fun args h => vX args fun x0 x1 x2 => (bS.c G k (bS.f G k) x0 x1 x2 h)
theorem bS.step (G : aG) (k : Nat) (x0 x1 x2 : AV) (h : aF) : bS.f G (k + 1) [x0, x1, x2] h = bS.c G k (bS.f G k) x0 x1 x2 h := rfl
noncomputable def cN.ann : Ann := gE [15] [] [] []
noncomputable def cN.env (G : aG) (k : Nat) (self : dA) : List (Nat × Bool × dA) := [(65, false, bF.f G k)]
noncomputable def cN.c (G : aG) (k : Nat) (self : dA) (x0 x1 x2 : AV) (h : aF) : Option (AV × aF) := gA (
 aB (dP x2 h) fun v0 h0 =>
 aB (pu h0 (aA 1 v0)) fun v1 h1 =>
 aB (pu h1 (aC G false 1 v1 h1)) fun v2 h2 =>
 aB (pu h2 (aA 2 v0)) fun v3 h3 =>
 aB (pu h3 (aC G false 1 v3 h3)) fun v4 h4 =>
 aB (pu h4 (aA 5 v0)) fun v5 h5 =>
 aB (pu h5 (aC G false 1 v5 h5)) fun v6 h6 =>
 aB (pu h6 (bA [(0, 1), (1, 1), (2, 1), (3, 1), (4, 1), (5, 1)] [(.int .i64 0), (.int .i64 0), (.int .i64 0), (.int .i64 0), (.int .i64 0), (.int .i64 0)] [(0, x1), (1, v2), (2, v4), (5, v6)])) fun v7 h7 =>
 aB (fM 57 6 1 (.agg [(.int .i64 0), (.int .i64 0), (.int .i64 0), (.int .i64 0), (.int .i64 0), (.int .i64 0)]) [(0, v7)] h7) fun v8 h8 =>
 aB (bK (bF.f G k) [x0, v8] h8) fun v9 h9 =>
 bQ [] h.length h9)
noncomputable def cN.f (G : aG) : Nat → dA
 | 0 => fun _ _ => none
 | k + 1 => fun args h => vX args fun x0 x1 x2 => (cN.c G k (cN.f G k) x0 x1 x2 h)
theorem cN.step (G : aG) (k : Nat) (x0 x1 x2 : AV) (h : aF) : cN.f G (k + 1) [x0, x1, x2] h = cN.c G k (cN.f G k) x0 x1 x2 h := rfl
noncomputable def cH.ann : Ann := gE [24] [] [] []
noncomputable def cH.env (G : aG) (k : Nat) (self : dA) : List (Nat × Bool × dA) := [(65, false, bF.f G k)]
noncomputable def cH.c (G : aG) (k : Nat) (self : dA) (x0 x1 x2 : AV) (h : aF) : Option (AV × aF) := gA (
 aB (dP x1 h) fun v0 h0 =>
 aB (pu h0 (kZ x0)) fun v1 h1 =>
 aB (pu h1 (aA 2 v1)) fun v2 h2 =>
 aB (pu h2 (aC G false 1 v2 h2)) fun v3 h3 =>
 aB (pu h3 (kZ x0)) fun v4 h4 =>
 aB (pu h4 (aA 0 v4)) fun v5 h5 =>
 aB (pu h5 (aC G false 1 v5 h5)) fun v6 h6 =>
 aB (pu h6 (dH v6)) fun v7 h7 =>
 aB (pu h7 (bA [(0, 1), (1, 1)] [(.int .i64 0), (.int .i64 0)] [(0, v7), (1, x2)])) fun v8 h8 =>
 aB (fK 2 1 (.agg [(.int .i64 0), (.int .i64 0)]) [(0, v8)] h8) fun v9 h9 =>
 aB (fI 93 2 v3 v9 h9) fun v10 h10 =>
 aB (pu h10 (kZ x0)) fun v11 h11 =>
 aB (pu h11 (aA 2 v11)) fun v12 h12 =>
 aB (fB (aN 1 v12 v10 h12)) fun v13 h13 =>
 aB (pu h13 (aC G true 6 v0 h13)) fun v14 h14 =>
 aB (fM 57 6 1 (.agg [(.int .i64 0), (.int .i64 0), (.int .i64 0), (.int .i64 0), (.int .i64 0), (.int .i64 0)]) [(0, v14)] h14) fun v15 h15 =>
 aB (bK (bF.f G k) [x0, v15] h15) fun v16 h16 =>
 bQ [] h.length h16)
noncomputable def cH.f (G : aG) : Nat → dA
 | 0 => fun _ _ => none
 | k + 1 => fun args h => vX args fun x0 x1 x2 => (cH.c G k (cH.f G k) x0 x1 x2 h)
theorem cH.step (G : aG) (k : Nat) (x0 x1 x2 : AV) (h : aF) : cH.f G (k + 1) [x0, x1, x2] h = cH.c G k (cH.f G k) x0 x1 x2 h := rfl
noncomputable def cX.ann : Ann := gE [19, 30, 34, 45] [] [] [(5, [0, 1, 2, 4])]
noncomputable def cX.env (G : aG) (k : Nat) (self : dA) : List (Nat × Bool × dA) := [(54, false, cL.f G k), (65, false, bF.f G k), (69, false, cH.f G k)]
noncomputable def cX.c (G : aG) (k : Nat) (self : dA) (x0 x1 x2 x3 x4 : AV) (h : aF) : Option (AV × aF) := gA (
 aB (dP x3 h) fun v0 h0 =>
 eM (
 aB (pu h0 (aA 5 v0)) fun v1 h1 =>
 aB (pu h1 (aC G false 1 v1 h1)) fun v2 h2 =>
 aB (pu h2 (aQ Tryd.prog .leq 2 true v2 (.int .i64 4095))) fun v3 h3 =>
 aK v3
 (aB (pu h3 (aA 2 v0)) fun v4 h4 =>
 aB (pu h4 (aC G false 1 v4 h4)) fun v5 h5 =>
 aB (pu h5 (aA 5 v0)) fun v6 h6 =>
 aB (pu h6 (aC G false 1 v6 h6)) fun v7 h7 =>
 aB (pu h7 (bA [(0, 1), (1, 1), (2, 1), (3, 1), (4, 1), (5, 1)] [(.int .i64 0), (.int .i64 0), (.int .i64 0), (.int .i64 0), (.int .i64 0), (.int .i64 0)] [(0, (.int .i64 10)), (1, (.int .i64 28)), (2, v5), (5, v7)])) fun v8 h8 =>
 aB (fM 57 6 1 (.agg [(.int .i64 0), (.int .i64 0), (.int .i64 0), (.int .i64 0), (.int .i64 0), (.int .i64 0)]) [(0, v8)] h8) fun v9 h9 =>
 aB (bK (bF.f G k) [x0, v9] h9) fun v10 h10 =>
 some (.normal, [x0, x1, x2, x4], h10))
 (aB (pu h3 (aA 5 v0)) fun v11 h11 =>
 aB (pu h11 (aC G false 1 v11 h11)) fun v12 h12 =>
 aB (bK (cL.f G k) [(.int .i64 28), v12] h12) fun v13 h13 =>
 aB (bK (bF.f G k) [x0, v13] h13) fun v14 h14 =>
 aB (pu h14 (aA 2 v0)) fun v15 h15 =>
 aB (pu h15 (aC G false 1 v15 h15)) fun v16 h16 =>
 aB (pu h16 (bA [(0, 1), (1, 1), (2, 1), (3, 1), (4, 1), (5, 1)] [(.int .i64 0), (.int .i64 0), (.int .i64 0), (.int .i64 0), (.int .i64 0), (.int .i64 0)] [(0, (.int .i64 3)), (1, (.int .i64 28)), (2, v16), (3, (.int .i64 28))])) fun v17 h17 =>
 aB (fM 57 6 1 (.agg [(.int .i64 0), (.int .i64 0), (.int .i64 0), (.int .i64 0), (.int .i64 0), (.int .i64 0)]) [(0, v17)] h17) fun v18 h18 =>
 aB (bK (bF.f G k) [x0, v18] h18) fun v19 h19 =>
 some (.normal, [x0, x1, x2, x4], h19))) fun e20 x20 h20 => jJ e20
 (aB (pu h20 (bA [(0, 1), (1, 1), (2, 1), (3, 1), (4, 1), (5, 1)] [(.int .i64 0), (.int .i64 0), (.int .i64 0), (.int .i64 0), (.int .i64 0), (.int .i64 0)] [(0, (.int .i64 13)), (1, (.int .i64 29)), (2, (.int .i64 28)), (5, (.int .i64 16))])) fun v21 h21 =>
 aB (fM 57 6 1 (.agg [(.int .i64 0), (.int .i64 0), (.int .i64 0), (.int .i64 0), (.int .i64 0), (.int .i64 0)]) [(0, v21)] h21) fun v22 h22 =>
 aB (bK (bF.f G k) [(aI x20 0), v22] h22) fun v23 h23 =>
 aB (pu h23 (bA [(0, 1), (1, 1), (2, 1), (3, 1), (4, 1), (5, 1)] [(.int .i64 0), (.int .i64 0), (.int .i64 0), (.int .i64 0), (.int .i64 0), (.int .i64 0)] [(0, (.int .i64 23)), (1, (.int .i64 29))])) fun v24 h24 =>
 aB (bK (cH.f G k) [(aI x20 0), v24, (aI x20 3)] h24) fun v25 h25 =>
 aB (pu h25 (bA [(0, 1), (1, 1), (2, 1), (3, 1), (4, 1), (5, 1)] [(.int .i64 0), (.int .i64 0), (.int .i64 0), (.int .i64 0), (.int .i64 0), (.int .i64 0)] [(0, (.int .i64 12)), (1, (.int .i64 28)), (2, (.int .i64 28)), (5, (.int .i64 3))])) fun v26 h26 =>
 aB (pu h26 (bA [(0, 1), (1, 1), (2, 1), (3, 1), (4, 1), (5, 1)] [(.int .i64 0), (.int .i64 0), (.int .i64 0), (.int .i64 0), (.int .i64 0), (.int .i64 0)] [(0, (aI x20 1)), (1, (aI x20 2)), (2, (.int .i64 28))])) fun v27 h27 =>
 aB (fM 57 6 2 (.agg [(.int .i64 0), (.int .i64 0), (.int .i64 0), (.int .i64 0), (.int .i64 0), (.int .i64 0)]) [(0, v26), (1, v27)] h27) fun v28 h28 =>
 aB (bK (bF.f G k) [(aI x20 0), v28] h28) fun v29 h29 =>
 bQ [] h.length h29)
 (fun i20 => none)
 (bQ [] h.length h20))
noncomputable def cX.f (G : aG) : Nat → dA
 | 0 => fun _ _ => none
 | k + 1 => fun args h => aLO args fun x0 x1 x2 x3 x4 => (cX.c G k (cX.f G k) x0 x1 x2 x3 x4 h)
theorem cX.step (G : aG) (k : Nat) (x0 x1 x2 x3 x4 : AV) (h : aF) : cX.f G (k + 1) [x0, x1, x2, x3, x4] h = cX.c G k (cX.f G k) x0 x1 x2 x3 x4 h := rfl
noncomputable def aR.ann : Ann := gE [25, 47, 95, 110, 159] [] [] []
noncomputable def aR.env (G : aG) (k : Nat) (self : dA) : List (Nat × Bool × dA) := [(54, false, cL.f G k), (65, false, bF.f G k), (66, false, bS.f G k), (67, false, cN.f G k), (68, false, cX.f G k), (69, false, cH.f G k)]
noncomputable def aR.c (G : aG) (k : Nat) (self : dA) (x0 x1 x2 : AV) (h : aF) : Option (AV × aF) := gA (
 aB (dP x1 h) fun v0 h0 =>
 aB (pu h0 (aA 0 v0)) fun v1 h1 =>
 aB (pu h1 (aC G false 1 v1 h1)) fun v2 h2 =>
 aB (pu h2 (aQ Tryd.prog .eql 3 true v2 (.int .i64 1))) fun v3 h3 =>
 aK v3
 (aB (pu h3 (aA 1 v0)) fun v4 h4 =>
 aB (pu h4 (aC G false 1 v4 h4)) fun v5 h5 =>
 aB (pu h5 (aA 5 v0)) fun v6 h6 =>
 aB (pu h6 (aC G false 1 v6 h6)) fun v7 h7 =>
 aB (bK (cL.f G k) [v5, v7] h7) fun v8 h8 =>
 aB (bK (bF.f G k) [x0, v8] h8) fun v9 h9 =>
 bQ [] h.length h9)
 (aB (pu h3 (aQ Tryd.prog .eql 3 true v2 (.int .i64 2))) fun v10 h10 =>
 aK v10
 (aB (pu h10 (aA 1 v0)) fun v11 h11 =>
 aB (pu h11 (aC G false 1 v11 h11)) fun v12 h12 =>
 aB (pu h12 (aA 2 v0)) fun v13 h13 =>
 aB (pu h13 (aC G false 1 v13 h13)) fun v14 h14 =>
 aB (pu h14 (bA [(0, 1), (1, 1), (2, 1), (3, 1), (4, 1), (5, 1)] [(.int .i64 0), (.int .i64 0), (.int .i64 0), (.int .i64 0), (.int .i64 0), (.int .i64 0)] [(0, (.int .i64 6)), (1, v12), (2, v14), (3, (.int .i64 31))])) fun v15 h15 =>
 aB (fM 57 6 1 (.agg [(.int .i64 0), (.int .i64 0), (.int .i64 0), (.int .i64 0), (.int .i64 0), (.int .i64 0)]) [(0, v15)] h15) fun v16 h16 =>
 aB (bK (bF.f G k) [x0, v16] h16) fun v17 h17 =>
 bQ [] h.length h17)
 (aB (pu h10 (aQ Tryd.prog .eql 3 true v2 (.int .i64 3))) fun v18 h18 =>
 aK v18
 (aB (pu h18 (aC G true 6 v0 h18)) fun v19 h19 =>
 aB (bK (bS.f G k) [x0, (.int .i64 3), v19] h19) fun v20 h20 =>
 bQ [] h.length h20)
 (aB (pu h18 (aQ Tryd.prog .eql 3 true v2 (.int .i64 4))) fun v21 h21 =>
 aK v21
 (aB (pu h21 (aC G true 6 v0 h21)) fun v22 h22 =>
 aB (bK (bS.f G k) [x0, (.int .i64 4), v22] h22) fun v23 h23 =>
 bQ [] h.length h23)
 (aB (pu h21 (aQ Tryd.prog .eql 3 true v2 (.int .i64 5))) fun v24 h24 =>
 aK v24
 (aB (pu h24 (aA 1 v0)) fun v25 h25 =>
 aB (pu h25 (aC G false 1 v25 h25)) fun v26 h26 =>
 aB (pu h26 (aA 2 v0)) fun v27 h27 =>
 aB (pu h27 (aC G false 1 v27 h27)) fun v28 h28 =>
 aB (pu h28 (aA 3 v0)) fun v29 h29 =>
 aB (pu h29 (aC G false 1 v29 h29)) fun v30 h30 =>
 aB (pu h30 (bA [(0, 1), (1, 1), (2, 1), (3, 1), (4, 1), (5, 1)] [(.int .i64 0), (.int .i64 0), (.int .i64 0), (.int .i64 0), (.int .i64 0), (.int .i64 0)] [(0, (.int .i64 8)), (1, v26), (2, v28), (3, v30), (4, (.int .i64 31))])) fun v31 h31 =>
 aB (fM 57 6 1 (.agg [(.int .i64 0), (.int .i64 0), (.int .i64 0), (.int .i64 0), (.int .i64 0), (.int .i64 0)]) [(0, v31)] h31) fun v32 h32 =>
 aB (bK (bF.f G k) [x0, v32] h32) fun v33 h33 =>
 bQ [] h.length h33)
 (aB (pu h24 (aQ Tryd.prog .eql 3 true v2 (.int .i64 6))) fun v34 h34 =>
 aK v34
 (aB (pu h34 (aC G true 6 v0 h34)) fun v35 h35 =>
 aB (bK (bS.f G k) [x0, (.int .i64 9), v35] h35) fun v36 h36 =>
 bQ [] h.length h36)
 (aB (pu h34 (aQ Tryd.prog .eql 3 true v2 (.int .i64 7))) fun v37 h37 =>
 aK v37
 (aB (pu h37 (aC G true 6 v0 h37)) fun v38 h38 =>
 aB (bK (bS.f G k) [x0, (.int .i64 5), v38] h38) fun v39 h39 =>
 bQ [] h.length h39)
 (aB (pu h37 (aQ Tryd.prog .eql 3 true v2 (.int .i64 8))) fun v40 h40 =>
 aK v40
 (aB (pu h40 (aC G true 6 v0 h40)) fun v41 h41 =>
 aB (bK (bS.f G k) [x0, (.int .i64 6), v41] h41) fun v42 h42 =>
 bQ [] h.length h42)
 (aB (pu h40 (aQ Tryd.prog .eql 3 true v2 (.int .i64 9))) fun v43 h43 =>
 aK v43
 (aB (pu h43 (aC G true 6 v0 h43)) fun v44 h44 =>
 aB (bK (bS.f G k) [x0, (.int .i64 7), v44] h44) fun v45 h45 =>
 bQ [] h.length h45)
 (aB (pu h43 (aQ Tryd.prog .eql 3 true v2 (.int .i64 10))) fun v46 h46 =>
 aK v46
 (aB (pu h46 (aC G true 6 v0 h46)) fun v47 h47 =>
 aB (bK (cN.f G k) [x0, (.int .i64 12), v47] h47) fun v48 h48 =>
 bQ [] h.length h48)
 (aB (pu h46 (aQ Tryd.prog .eql 3 true v2 (.int .i64 11))) fun v49 h49 =>
 aK v49
 (aB (pu h49 (aC G true 6 v0 h49)) fun v50 h50 =>
 aB (bK (cN.f G k) [x0, (.int .i64 13), v50] h50) fun v51 h51 =>
 bQ [] h.length h51)
 (aB (pu h49 (aQ Tryd.prog .eql 3 true v2 (.int .i64 12))) fun v52 h52 =>
 aK v52
 (aB (pu h52 (aC G true 6 v0 h52)) fun v53 h53 =>
 aB (bK (cN.f G k) [x0, (.int .i64 14), v53] h53) fun v54 h54 =>
 bQ [] h.length h54)
 (aB (pu h52 (aQ Tryd.prog .eql 3 true v2 (.int .i64 13))) fun v55 h55 =>
 aK v55
 (aB (pu h55 (aA 2 v0)) fun v56 h56 =>
 aB (pu h56 (aC G false 1 v56 h56)) fun v57 h57 =>
 aB (pu h57 (aA 3 v0)) fun v58 h58 =>
 aB (pu h58 (aC G false 1 v58 h58)) fun v59 h59 =>
 aB (pu h59 (bA [(0, 1), (1, 1), (2, 1), (3, 1), (4, 1), (5, 1)] [(.int .i64 0), (.int .i64 0), (.int .i64 0), (.int .i64 0), (.int .i64 0), (.int .i64 0)] [(0, (.int .i64 15)), (2, v57), (3, v59)])) fun v60 h60 =>
 aB (pu h60 (aA 1 v0)) fun v61 h61 =>
 aB (pu h61 (aC G false 1 v61 h61)) fun v62 h62 =>
 aB (pu h62 (bA [(0, 1), (1, 1), (2, 1), (3, 1), (4, 1), (5, 1)] [(.int .i64 0), (.int .i64 0), (.int .i64 0), (.int .i64 0), (.int .i64 0), (.int .i64 0)] [(0, (.int .i64 17)), (1, v62), (4, (.int .i64 3))])) fun v63 h63 =>
 aB (fM 57 6 2 (.agg [(.int .i64 0), (.int .i64 0), (.int .i64 0), (.int .i64 0), (.int .i64 0), (.int .i64 0)]) [(0, v60), (1, v63)] h63) fun v64 h64 =>
 aB (bK (bF.f G k) [x0, v64] h64) fun v65 h65 =>
 bQ [] h.length h65)
 (aB (pu h55 (aQ Tryd.prog .eql 3 true v2 (.int .i64 14))) fun v66 h66 =>
 aK v66
 (aB (pu h66 (aA 2 v0)) fun v67 h67 =>
 aB (pu h67 (aC G false 1 v67 h67)) fun v68 h68 =>
 aB (pu h68 (bA [(0, 1), (1, 1), (2, 1), (3, 1), (4, 1), (5, 1)] [(.int .i64 0), (.int .i64 0), (.int .i64 0), (.int .i64 0), (.int .i64 0), (.int .i64 0)] [(0, (.int .i64 15)), (2, v68), (3, (.int .i64 31))])) fun v69 h69 =>
 aB (pu h69 (aA 1 v0)) fun v70 h70 =>
 aB (pu h70 (aC G false 1 v70 h70)) fun v71 h71 =>
 aB (pu h71 (aA 3 v0)) fun v72 h72 =>
 aB (pu h72 (aC G false 1 v72 h72)) fun v73 h73 =>
 aB (pu h73 (aA 4 v0)) fun v74 h74 =>
 aB (pu h74 (aC G false 1 v74 h74)) fun v75 h75 =>
 aB (pu h75 (bA [(0, 1), (1, 1), (2, 1), (3, 1), (4, 1), (5, 1)] [(.int .i64 0), (.int .i64 0), (.int .i64 0), (.int .i64 0), (.int .i64 0), (.int .i64 0)] [(0, (.int .i64 16)), (1, v71), (2, v73), (3, v75), (4, (.int .i64 1))])) fun v76 h76 =>
 aB (fM 57 6 2 (.agg [(.int .i64 0), (.int .i64 0), (.int .i64 0), (.int .i64 0), (.int .i64 0), (.int .i64 0)]) [(0, v69), (1, v76)] h76) fun v77 h77 =>
 aB (bK (bF.f G k) [x0, v77] h77) fun v78 h78 =>
 bQ [] h.length h78)
 (aB (pu h66 (aQ Tryd.prog .eql 3 true v2 (.int .i64 15))) fun v79 h79 =>
 aK v79
 (aB (pu h79 (aA 1 v0)) fun v80 h80 =>
 aB (pu h80 (aC G false 1 v80 h80)) fun v81 h81 =>
 aB (pu h81 (aC G true 6 v0 h81)) fun v82 h82 =>
 aB (bK (cX.f G k) [x0, (.int .i64 18), v81, v82, x2] h82) fun v83 h83 =>
 bQ [] h.length h83)
 (aB (pu h79 (aQ Tryd.prog .eql 3 true v2 (.int .i64 16))) fun v84 h84 =>
 aK v84
 (aB (pu h84 (aA 3 v0)) fun v85 h85 =>
 aB (pu h85 (aC G false 1 v85 h85)) fun v86 h86 =>
 aB (pu h86 (aC G true 6 v0 h86)) fun v87 h87 =>
 aB (bK (cX.f G k) [x0, (.int .i64 19), v86, v87, x2] h87) fun v88 h88 =>
 bQ [] h.length h88)
 (aB (pu h84 (aQ Tryd.prog .eql 3 true v2 (.int .i64 17))) fun v89 h89 =>
 aK v89
 (aB (pu h89 (bA [(0, 1), (1, 1), (2, 1), (3, 1), (4, 1), (5, 1)] [(.int .i64 0), (.int .i64 0), (.int .i64 0), (.int .i64 0), (.int .i64 0), (.int .i64 0)] [(0, (.int .i64 20))])) fun v90 h90 =>
 aB (pu h90 (aA 5 v0)) fun v91 h91 =>
 aB (pu h91 (aC G false 1 v91 h91)) fun v92 h92 =>
 aB (bK (cH.f G k) [x0, v90, v92] h92) fun v93 h93 =>
 bQ [] h.length h93)
 (aB (pu h89 (aQ Tryd.prog .eql 3 true v2 (.int .i64 18))) fun v94 h94 =>
 aK v94
 (aB (pu h94 (aA 2 v0)) fun v95 h95 =>
 aB (pu h95 (aC G false 1 v95 h95)) fun v96 h96 =>
 aB (pu h96 (bA [(0, 1), (1, 1), (2, 1), (3, 1), (4, 1), (5, 1)] [(.int .i64 0), (.int .i64 0), (.int .i64 0), (.int .i64 0), (.int .i64 0), (.int .i64 0)] [(0, (.int .i64 22)), (1, v96)])) fun v97 h97 =>
 aB (pu h97 (aA 5 v0)) fun v98 h98 =>
 aB (pu h98 (aC G false 1 v98 h98)) fun v99 h99 =>
 aB (bK (cH.f G k) [x0, v97, v99] h99) fun v100 h100 =>
 bQ [] h.length h100)
 (aB (pu h94 (aQ Tryd.prog .eql 3 true v2 (.int .i64 19))) fun v101 h101 =>
 aK v101
 (aB (pu h101 (aA 2 v0)) fun v102 h102 =>
 aB (pu h102 (aC G false 1 v102 h102)) fun v103 h103 =>
 aB (pu h103 (bA [(0, 1), (1, 1), (2, 1), (3, 1), (4, 1), (5, 1)] [(.int .i64 0), (.int .i64 0), (.int .i64 0), (.int .i64 0), (.int .i64 0), (.int .i64 0)] [(0, (.int .i64 23)), (1, v103)])) fun v104 h104 =>
 aB (pu h104 (aA 5 v0)) fun v105 h105 =>
 aB (pu h105 (aC G false 1 v105 h105)) fun v106 h106 =>
 aB (bK (cH.f G k) [x0, v104, v106] h106) fun v107 h107 =>
 bQ [] h.length h107)
 (aB (pu h101 (aQ Tryd.prog .eql 3 true v2 (.int .i64 20))) fun v108 h108 =>
 aK v108
 (aB (pu h108 (aA 5 v0)) fun v109 h109 =>
 aB (pu h109 (aC G false 1 v109 h109)) fun v110 h110 =>
 aB (pu h110 (bA [(0, 1), (1, 1), (2, 1), (3, 1), (4, 1), (5, 1)] [(.int .i64 0), (.int .i64 0), (.int .i64 0), (.int .i64 0), (.int .i64 0), (.int .i64 0)] [(0, (.int .i64 24)), (5, v110)])) fun v111 h111 =>
 aB (fM 57 6 1 (.agg [(.int .i64 0), (.int .i64 0), (.int .i64 0), (.int .i64 0), (.int .i64 0), (.int .i64 0)]) [(0, v111)] h111) fun v112 h112 =>
 aB (bK (bF.f G k) [x0, v112] h112) fun v113 h113 =>
 bQ [] h.length h113)
 (bQ [] h.length h108)))))))))))))))))))))
noncomputable def aR.f (G : aG) : Nat → dA
 | 0 => fun _ _ => none
 | k + 1 => fun args h => vX args fun x0 x1 x2 => (aR.c G k (aR.f G k) x0 x1 x2 h)
theorem aR.step (G : aG) (k : Nat) (x0 x1 x2 : AV) (h : aF) : aR.f G (k + 1) [x0, x1, x2] h = aR.c G k (aR.f G k) x0 x1 x2 h := rfl
noncomputable def cA.ann : Ann := aEM [25] [2, 10] [(23, [2, 3, 10, 107, 108, 109]), (15, [5, 71, 72, 73]), (8, [1, 5, 27, 28, 29])] [] [(8, [(5, 0, 57, 6), (5, 1, 3, 1), (5, 2, 93, 2)]), (15, [(5, 0, 57, 6), (5, 1, 3, 1), (5, 2, 93, 2)])] []
noncomputable def cA.env (G : aG) (k : Nat) (self : dA) : List (Nat × Bool × dA) := [(38, true, dU.f G k), (39, false, aR.f G k), (40, true, bB.f G k)]
noncomputable def cA.l8 (G : aG) (k n0 : Nat) (self : dA) (lp : iV) : iV := fun xs h0 => qS n0 xs h0 fun h =>
 aB (pu h (aQ Tryd.prog .lss 3 false (aI xs 4) (aI xs 3))) fun v17 h17 =>
 aK v17
 (aB (pu h17 (cF 6 (aI xs 2) (aI xs 4))) fun v18 h18 =>
 aB (pu h18 (aC G true 6 v18 h18)) fun v19 h19 =>
 aB (fF 60 (.agg [(.int .i64 0), (.int .i64 0), (.int .i64 0), (.int .i64 0), (.int .i64 0), (.int .i64 0)]) h19) fun v20 h20 =>
 aB (fB (aN 6 v20 v19 h20)) fun v21 h21 =>
 aB (pu h21 (kZ (aI xs 1))) fun v22 h22 =>
 aB (pu h22 (aA 1 v22)) fun v23 h23 =>
 aB (pu h23 (aC G false 1 v23 h23)) fun v24 h24 =>
 aB (pu h24 (kZ (aI xs 1))) fun v25 h25 =>
 aB (pu h25 (aA 0 v25)) fun v26 h26 =>
 aB (pu h26 (aC G false 1 v26 h26)) fun v27 h27 =>
 aB (pu h27 (dH v27)) fun v28 h28 =>
 aB (fK 1 1 (.int .i64 0) [(0, v28)] h28) fun v29 h29 =>
 aB (fI 3 1 v24 v29 h29) fun v30 h30 =>
 aB (pu h30 (kZ (aI xs 1))) fun v31 h31 =>
 aB (pu h31 (aA 1 v31)) fun v32 h32 =>
 aB (fB (aN 1 v32 v30 h32)) fun v33 h33 =>
 aB (pu h33 (aC G true 6 v20 h33)) fun v34 h34 =>
 aB (pu h34 (aA 0 (aI xs 0))) fun v35 h35 =>
 aB (pu h35 (aC G false 1 v35 h35)) fun v36 h36 =>
 aB (pu h36 (dH v36)) fun v37 h37 =>
 aB (bK (aR.f G k) [(aI xs 1), v34, v37] h37) fun v38 h38 =>
 aB (pu h38 (aQ Tryd.prog .add 3 true (aI xs 4) (.int .i64 1))) fun v39 h39 =>
 lp [(aI xs 0), (aI xs 1), (aI xs 2), (aI xs 3), v39] h39)
 (some (.exit 0, [(aI xs 0), (aI xs 1), (aI xs 2), (aI xs 3), (aI xs 4)], h17))
noncomputable def cA.l15 (G : aG) (k n0 : Nat) (self : dA) (lp : iV) : iV := fun xs h0 => qS n0 xs h0 fun h =>
 aB (pu h (aQ Tryd.prog .lss 3 false (aI xs 3) (aI xs 2))) fun v57 h57 =>
 aK v57
 (aB (pu h57 (cF 2 (aI xs 1) (aI xs 3))) fun v58 h58 =>
 aB (pu h58 (aC G true 2 v58 h58)) fun v59 h59 =>
 aB (fF 93 (.agg [(.int .i64 0), (.int .i64 0)]) h59) fun v60 h60 =>
 aB (fB (aN 2 v60 v59 h60)) fun v61 h61 =>
 aB (pu h61 (kZ (aI xs 0))) fun v62 h62 =>
 aB (pu h62 (aA 0 v62)) fun v63 h63 =>
 aB (pu h63 (aC G false 1 v63 h63)) fun v64 h64 =>
 aB (pu h64 (aA 0 v60)) fun v65 h65 =>
 aB (pu h65 (aC G false 1 v65 h65)) fun v66 h66 =>
 aB (pu h66 (kZ (aI xs 0))) fun v67 h67 =>
 aB (pu h67 (aA 1 v67)) fun v68 h68 =>
 aB (pu h68 (aC G false 1 v68 h68)) fun v69 h69 =>
 aB (pu h69 (aA 1 v60)) fun v70 h70 =>
 aB (pu h70 (aC G false 1 v70 h70)) fun v71 h71 =>
 aB (pu h71 (cF 1 v69 v71)) fun v72 h72 =>
 aB (pu h72 (aC G false 1 v72 h72)) fun v73 h73 =>
 aB (pu h73 (aA 0 v60)) fun v74 h74 =>
 aB (pu h74 (aC G false 1 v74 h74)) fun v75 h75 =>
 aB (pu h75 (aQ Tryd.prog .sub 3 false v73 v75)) fun v76 h76 =>
 aB (pu h76 (cF 6 v64 v66)) fun v77 h77 =>
 aB (pu h77 (aA 5 v77)) fun v78 h78 =>
 aB (fB (aN 1 v78 v76 h78)) fun v79 h79 =>
 aB (pu h79 (aQ Tryd.prog .add 3 true (aI xs 3) (.int .i64 1))) fun v80 h80 =>
 lp [(aI xs 0), (aI xs 1), (aI xs 2), v80] h80)
 (some (.exit 2, [(aI xs 0), (aI xs 1), (aI xs 2), (aI xs 3)], h57))
noncomputable def cA.l23 (G : aG) (k n0 : Nat) (self : dA) (lp : iV) : iV := fun xs h0 => qS n0 xs h0 fun h =>
 aB (pu h (aQ Tryd.prog .lss 3 false (aI xs 5) (aI xs 4))) fun v94 h94 =>
 aK v94
 (aB (pu h94 (cF 6 (aI xs 3) (aI xs 5))) fun v95 h95 =>
 aB (pu h95 (aC G true 6 v95 h95)) fun v96 h96 =>
 aB (fF 57 (.agg [(.int .i64 0), (.int .i64 0), (.int .i64 0), (.int .i64 0), (.int .i64 0), (.int .i64 0)]) h96) fun v97 h97 =>
 aB (fB (aN 6 v97 v96 h97)) fun v98 h98 =>
 aB (pu h98 (aC G true 6 v97 h98)) fun v99 h99 =>
 aB (aE (bB.f G k) [v99] h99) fun v100 h100 =>
 aB (pu h100 (cU v100 0)) fun v101 h101 =>
 aB (pu h101 (cU v100 1)) fun v102 h102 =>
 aB (pu h102 (un .not v102)) fun v103 h103 =>
 aK v103
 (aB (pu h103 (aC G false 1 (.gl 0) h103)) fun v104 h104 =>
 aB (some (.sl h104.length 0 0 0 1, h104 ++ [⟨71, 1, []⟩])) fun v105 h105 =>
 some (.ret, [v105, v104, (aI xs 2), (aI xs 3), (aI xs 4), (aI xs 5)], h105))
 (aB (fK 1 1 (.int .u32 0) [(0, v101)] h103) fun v106 h106 =>
 aB (fI 71 1 (aI xs 2) v106 h106) fun v107 h107 =>
 aB (pu h107 (aQ Tryd.prog .add 3 true (aI xs 5) (.int .i64 1))) fun v108 h108 =>
 lp [(aI xs 0), (aI xs 1), v107, (aI xs 3), (aI xs 4), v108] h108))
 (some (.exit 4, [(aI xs 0), (aI xs 1), (aI xs 2), (aI xs 3), (aI xs 4), (aI xs 5)], h94))
noncomputable def cA.c (G : aG) (k : Nat) (self : dA) (x0 : AV) (h : aF) : Option (AV × aF) := gA (
 aB (dP x0 h) fun v0 h0 =>
 aB (some (.sl h0.length 0 0 0 1, h0 ++ [⟨71, 1, []⟩])) fun v1 h1 =>
 aB (pu h1 (aC G true 3 v0 h1)) fun v2 h2 =>
 aB (aE (dU.f G k) [v2] h2) fun v3 h3 =>
 aB (pu h3 (aQ Tryd.prog .neq 30 true v3 .nili)) fun v4 h4 =>
 aK v4
 (aB (some (.sl h4.length 0 0 0 1, h4 ++ [⟨71, 1, []⟩])) fun v5 h5 =>
 bQ [v5, v3] h.length h5)
 (aB (pu h4 (aA 1 v0)) fun v6 h6 =>
 aB (pu h6 (aC G false 1 v6 h6)) fun v7 h7 =>
 aB (pu h7 (aQ Tryd.prog .gtr 3 true v7 (.int .i64 28))) fun v8 h8 =>
 aK v8
 (aB (pu h8 (aC G false 1 (.gl 0) h8)) fun v9 h9 =>
 aB (some (.sl h9.length 0 0 0 1, h9 ++ [⟨71, 1, []⟩])) fun v10 h10 =>
 bQ [v10, v9] h.length h10)
 (aB (pu h8 (bA [(0, 1), (1, 1), (2, 1)] [.nils, .nils, .nils] [])) fun v11 h11 =>
 aB (fF 90 v11 h11) fun v12 h12 =>
 aB (pu h12 (aA 0 v0)) fun v13 h13 =>
 aB (pu h13 (aC G false 1 v13 h13)) fun v14 h14 =>
 aB (pu h14 (dH v14)) fun v15 h15 =>
 vK [(v12, 0, 57, 6), (v12, 1, 3, 1), (v12, 2, 93, 2)] h15 fun hv16 =>
 eM (gP (cA.l8 G k hv16.length self) k [v0, v12, v14, v15, (.int .i64 0)] hv16) fun e16 x16 h16 => jJ e16
 (aB (pu h16 (kZ (aI x16 1))) fun v40 h40 =>
 aB (pu h40 (aA 1 v40)) fun v41 h41 =>
 aB (pu h41 (aC G false 1 v41 h41)) fun v42 h42 =>
 aB (pu h42 (kZ (aI x16 1))) fun v43 h43 =>
 aB (pu h43 (aA 0 v43)) fun v44 h44 =>
 aB (pu h44 (aC G false 1 v44 h44)) fun v45 h45 =>
 aB (pu h45 (dH v45)) fun v46 h46 =>
 aB (fK 1 1 (.int .i64 0) [(0, v46)] h46) fun v47 h47 =>
 aB (fI 3 1 v42 v47 h47) fun v48 h48 =>
 aB (pu h48 (kZ (aI x16 1))) fun v49 h49 =>
 aB (pu h49 (aA 1 v49)) fun v50 h50 =>
 aB (fB (aN 1 v50 v48 h50)) fun v51 h51 =>
 aB (pu h51 (kZ (aI x16 1))) fun v52 h52 =>
 aB (pu h52 (aA 2 v52)) fun v53 h53 =>
 aB (pu h53 (aC G false 1 v53 h53)) fun v54 h54 =>
 aB (pu h54 (dH v54)) fun v55 h55 =>
 vK [((aI x16 1), 0, 57, 6), ((aI x16 1), 1, 3, 1), ((aI x16 1), 2, 93, 2)] h55 fun hv56 =>
 eM (gP (cA.l15 G k hv56.length self) k [(aI x16 1), v54, v55, (.int .i64 0)] hv56) fun e56 x56 h56 => jJ e56
 (aB (pu h56 (kZ (aI x56 0))) fun v81 h81 =>
 aB (pu h81 (aA 0 v81)) fun v82 h82 =>
 aB (pu h82 (aC G false 1 v82 h82)) fun v83 h83 =>
 aB (pu h83 (dH v83)) fun v84 h84 =>
 aB (pu h84 (aQ Tryd.prog .gtr 3 true v84 (.int .i64 262144))) fun v85 h85 =>
 aK v85
 (aB (pu h85 (aC G false 1 (.gl 0) h85)) fun v86 h86 =>
 aB (some (.sl h86.length 0 0 0 1, h86 ++ [⟨71, 1, []⟩])) fun v87 h87 =>
 bQ [v87, v86] h.length h87)
 (aB (some (.sl h85.length 0 0 0 1, h85 ++ [⟨71, 1, []⟩])) fun v88 h88 =>
 aB (pu h88 (kZ (aI x56 0))) fun v89 h89 =>
 aB (pu h89 (aA 0 v89)) fun v90 h90 =>
 aB (pu h90 (aC G false 1 v90 h90)) fun v91 h91 =>
 aB (pu h91 (dH v91)) fun v92 h92 =>
 eM (gP (cA.l23 G k h92.length self) k [.undef, .undef, v88, v91, v92, (.int .i64 0)] h92) fun e93 x93 h93 => jJ e93
 (bQ [(aI x93 2), .nili] h.length h93)
 (fun i93 => if i93 = 4 then (bQ [(aI x93 2), .nili] h.length h93) else (none))
 (bQ [(aI x93 0), (aI x93 1)] h.length h93)))
 (fun i56 => if i56 = 2 then (aB (pu h56 (kZ (aI x56 0))) fun v109 h109 =>
 aB (pu h109 (aA 0 v109)) fun v110 h110 =>
 aB (pu h110 (aC G false 1 v110 h110)) fun v111 h111 =>
 aB (pu h111 (dH v111)) fun v112 h112 =>
 aB (pu h112 (aQ Tryd.prog .gtr 3 true v112 (.int .i64 262144))) fun v113 h113 =>
 aK v113
 (aB (pu h113 (aC G false 1 (.gl 0) h113)) fun v114 h114 =>
 aB (some (.sl h114.length 0 0 0 1, h114 ++ [⟨71, 1, []⟩])) fun v115 h115 =>
 bQ [v115, v114] h.length h115)
 (aB (some (.sl h113.length 0 0 0 1, h113 ++ [⟨71, 1, []⟩])) fun v116 h116 =>
 aB (pu h116 (kZ (aI x56 0))) fun v117 h117 =>
 aB (pu h117 (aA 0 v117)) fun v118 h118 =>
 aB (pu h118 (aC G false 1 v118 h118)) fun v119 h119 =>
 aB (pu h119 (dH v119)) fun v120 h120 =>
 eM (gP (cA.l23 G k h120.length self) k [.undef, .undef, v116, v119, v120, (.int .i64 0)] h120) fun e121 x121 h121 => jJ e121
 (bQ [(aI x121 2), .nili] h.length h121)
 (fun i121 => if i121 = 4 then (bQ [(aI x121 2), .nili] h.length h121) else (none))
 (bQ [(aI x121 0), (aI x121 1)] h.length h121))) else (none))
 (bQ [.undef, .undef] h.length h56))
 (fun i16 => if i16 = 0 then (aB (pu h16 (kZ (aI x16 1))) fun v137 h137 =>
 aB (pu h137 (aA 1 v137)) fun v138 h138 =>
 aB (pu h138 (aC G false 1 v138 h138)) fun v139 h139 =>
 aB (pu h139 (kZ (aI x16 1))) fun v140 h140 =>
 aB (pu h140 (aA 0 v140)) fun v141 h141 =>
 aB (pu h141 (aC G false 1 v141 h141)) fun v142 h142 =>
 aB (pu h142 (dH v142)) fun v143 h143 =>
 aB (fK 1 1 (.int .i64 0) [(0, v143)] h143) fun v144 h144 =>
 aB (fI 3 1 v139 v144 h144) fun v145 h145 =>
 aB (pu h145 (kZ (aI x16 1))) fun v146 h146 =>
 aB (pu h146 (aA 1 v146)) fun v147 h147 =>
 aB (fB (aN 1 v147 v145 h147)) fun v148 h148 =>
 aB (pu h148 (kZ (aI x16 1))) fun v149 h149 =>
 aB (pu h149 (aA 2 v149)) fun v150 h150 =>
 aB (pu h150 (aC G false 1 v150 h150)) fun v151 h151 =>
 aB (pu h151 (dH v151)) fun v152 h152 =>
 vK [((aI x16 1), 0, 57, 6), ((aI x16 1), 1, 3, 1), ((aI x16 1), 2, 93, 2)] h152 fun hv153 =>
 eM (gP (cA.l15 G k hv153.length self) k [(aI x16 1), v151, v152, (.int .i64 0)] hv153) fun e153 x153 h153 => jJ e153
 (aB (pu h153 (kZ (aI x153 0))) fun v178 h178 =>
 aB (pu h178 (aA 0 v178)) fun v179 h179 =>
 aB (pu h179 (aC G false 1 v179 h179)) fun v180 h180 =>
 aB (pu h180 (dH v180)) fun v181 h181 =>
 aB (pu h181 (aQ Tryd.prog .gtr 3 true v181 (.int .i64 262144))) fun v182 h182 =>
 aK v182
 (aB (pu h182 (aC G false 1 (.gl 0) h182)) fun v183 h183 =>
 aB (some (.sl h183.length 0 0 0 1, h183 ++ [⟨71, 1, []⟩])) fun v184 h184 =>
 bQ [v184, v183] h.length h184)
 (aB (some (.sl h182.length 0 0 0 1, h182 ++ [⟨71, 1, []⟩])) fun v185 h185 =>
 aB (pu h185 (kZ (aI x153 0))) fun v186 h186 =>
 aB (pu h186 (aA 0 v186)) fun v187 h187 =>
 aB (pu h187 (aC G false 1 v187 h187)) fun v188 h188 =>
 aB (pu h188 (dH v188)) fun v189 h189 =>
 eM (gP (cA.l23 G k h189.length self) k [.undef, .undef, v185, v188, v189, (.int .i64 0)] h189) fun e190 x190 h190 => jJ e190
 (bQ [(aI x190 2), .nili] h.length h190)
 (fun i190 => if i190 = 4 then (bQ [(aI x190 2), .nili] h.length h190) else (none))
 (bQ [(aI x190 0), (aI x190 1)] h.length h190)))
 (fun i153 => if i153 = 2 then (aB (pu h153 (kZ (aI x153 0))) fun v206 h206 =>
 aB (pu h206 (aA 0 v206)) fun v207 h207 =>
 aB (pu h207 (aC G false 1 v207 h207)) fun v208 h208 =>
 aB (pu h208 (dH v208)) fun v209 h209 =>
 aB (pu h209 (aQ Tryd.prog .gtr 3 true v209 (.int .i64 262144))) fun v210 h210 =>
 aK v210
 (aB (pu h210 (aC G false 1 (.gl 0) h210)) fun v211 h211 =>
 aB (some (.sl h211.length 0 0 0 1, h211 ++ [⟨71, 1, []⟩])) fun v212 h212 =>
 bQ [v212, v211] h.length h212)
 (aB (some (.sl h210.length 0 0 0 1, h210 ++ [⟨71, 1, []⟩])) fun v213 h213 =>
 aB (pu h213 (kZ (aI x153 0))) fun v214 h214 =>
 aB (pu h214 (aA 0 v214)) fun v215 h215 =>
 aB (pu h215 (aC G false 1 v215 h215)) fun v216 h216 =>
 aB (pu h216 (dH v216)) fun v217 h217 =>
 eM (gP (cA.l23 G k h217.length self) k [.undef, .undef, v213, v216, v217, (.int .i64 0)] h217) fun e218 x218 h218 => jJ e218
 (bQ [(aI x218 2), .nili] h.length h218)
 (fun i218 => if i218 = 4 then (bQ [(aI x218 2), .nili] h.length h218) else (none))
 (bQ [(aI x218 0), (aI x218 1)] h.length h218))) else (none))
 (bQ [.undef, .undef] h.length h153)) else (none))
 (bQ [.undef, .undef] h.length h16))))
noncomputable def cA.f (G : aG) : Nat → dA
 | 0 => fun _ _ => none
 | k + 1 => fun args h => nH args fun x0 => (cA.c G k (cA.f G k) x0 h)
theorem cA.step (G : aG) (k : Nat) (x0 : AV) (h : aF) : cA.f G (k + 1) [x0] h = cA.c G k (cA.f G k) x0 h := rfl
noncomputable def gZ.ann : Ann := gE [] [] [] []
noncomputable def gZ.env (G : aG) (k : Nat) (self : dA) : List (Nat × Bool × dA) := [(54, false, cL.f G k)]
noncomputable def gZ.c (G : aG) (k : Nat) (self : dA) (x0 x1 : AV) (h : aF) : Option (AV × aF) := gA (
 aB (pu h (aQ Tryd.prog .lss 3 true x0 (.int .i64 0))) fun v0 h0 =>
 aB (gd v0 false h0 (some (x0, h0))) fun v1 h1 =>
 aB (gd v0 false h1 (pu h1 (aQ Tryd.prog .gtr 3 true v1 (.int .i64 30)))) fun v2 h2 =>
 aB (pu h2 (dJ v0 (.bool true) v2)) fun v3 h3 =>
 aK v3
 (aB (pu h3 (aC G false 1 (.gl 1) h3)) fun v4 h4 =>
 bQ [.nils, v4] h.length h4)
 (aB (bK (cL.f G k) [x0, x1] h3) fun v5 h5 =>
 bQ [v5, .nili] h.length h5))
noncomputable def gZ.f (G : aG) : Nat → dA
 | 0 => fun _ _ => none
 | k + 1 => fun args h => mJ args fun x0 x1 => (gZ.c G k (gZ.f G k) x0 x1 h)
noncomputable def dI.ann : Ann := gE [] [] [] []
noncomputable def dI.env (G : aG) (k : Nat) (self : dA) : List (Nat × Bool × dA) := [(17, true, cA.f G k), (23, true, gZ.f G k)]
noncomputable def dI.c (G : aG) (k : Nat) (self : dA) (h : aF) : Option (AV × aF) := gA (
 aB (pu h (bA [(0, 1), (1, 1), (2, 1)] [.nils, (.int .i64 0), (.int .i64 0)] [])) fun v0 h0 =>
 aB (aE (cA.f G k) [v0] h0) fun v1 h1 =>
 aB (pu h1 (cU v1 0)) fun v2 h2 =>
 aB (pu h2 (cU v1 1)) fun v3 h3 =>
 aB (aE (gZ.f G k) [(.int .i64 3), (.int .i64 7)] h3) fun v4 h4 =>
 aB (pu h4 (cU v4 0)) fun v5 h5 =>
 aB (pu h5 (cU v4 1)) fun v6 h6 =>
 aB (pu h6 (aQ Tryd.prog .eql 30 true v3 .nili)) fun v7 h7 =>
 aB (gd v7 true h7 (some (v6, h7))) fun v8 h8 =>
 aB (gd v7 true h8 (pu h8 (aQ Tryd.prog .eql 30 true v8 .nili))) fun v9 h9 =>
 aB (pu h9 (dJ v7 v9 (.bool false))) fun v10 h10 =>
 aB (gd v10 true h10 (some (v2, h10))) fun v11 h11 =>
 aB (gd v10 true h11 (pu h11 (dH v11))) fun v12 h12 =>
 aB (gd v10 true h12 (pu h12 (aQ Tryd.prog .eql 3 true v12 (.int .i64 0)))) fun v13 h13 =>
 aB (pu h13 (dJ v10 v13 (.bool false))) fun v14 h14 =>
 aB (gd v14 true h14 (some (v5, h14))) fun v15 h15 =>
 aB (gd v14 true h15 (pu h15 (dH v15))) fun v16 h16 =>
 aB (gd v14 true h16 (pu h16 (aQ Tryd.prog .gtr 3 true v16 (.int .i64 0)))) fun v17 h17 =>
 aB (pu h17 (dJ v14 v17 (.bool false))) fun v18 h18 =>
 bQ [v18] h.length h18)
noncomputable def dI.f (G : aG) : Nat → dA
 | 0 => fun _ _ => none
 | k + 1 => fun args h => aJy args (dI.c G k (dI.f G k) h)
noncomputable def bX.ann : Ann := gE [] [] [] []
noncomputable def bX.env (G : aG) (k : Nat) (self : dA) : List (Nat × Bool × dA) := []
noncomputable def bX.c (G : aG) (k : Nat) (self : dA) (x0 : AV) (h : aF) : Option (AV × aF) := gA (
 aB (dP x0 h) fun v0 h0 =>
 aB (fF 36 (.agg [.nils, (.int .i64 0), (.int .i64 0)]) h0) fun v1 h1 =>
 aB (pu h1 (aA 0 v0)) fun v2 h2 =>
 aB (pu h2 (aC G false 1 v2 h2)) fun v3 h3 =>
 aB (pu h3 (aA 1 v0)) fun v4 h4 =>
 aB (pu h4 (aC G false 1 v4 h4)) fun v5 h5 =>
 aB (pu h5 (aA 2 v0)) fun v6 h6 =>
 aB (pu h6 (aC G false 1 v6 h6)) fun v7 h7 =>
 aB (pu h7 (bA [(0, 1), (1, 1), (2, 1)] [.nils, (.int .i64 0), (.int .i64 0)] [(0, v3), (1, v5), (2, v7)])) fun v8 h8 =>
 aB (fB (aN 3 v1 v8 h8)) fun v9 h9 =>
 fL [aC G true 3 v1 h9] h.length h9)
noncomputable def bX.f (G : aG) : Nat → dA
 | 0 => fun _ _ => none
 | k + 1 => fun args h => nH args fun x0 => (bX.c G k (bX.f G k) x0 h)
theorem bX.step (G : aG) (k : Nat) (x0 : AV) (h : aF) : bX.f G (k + 1) [x0] h = bX.c G k (bX.f G k) x0 h := rfl
noncomputable def eG.ann : Ann := gE [] [] [] []
noncomputable def eG.env (G : aG) (k : Nat) (self : dA) : List (Nat × Bool × dA) := []
noncomputable def eG.c (G : aG) (k : Nat) (self : dA) (x0 x1 : AV) (h : aF) : Option (AV × aF) := gA (
 aB (pu h (aQ Tryd.prog .add 2 false x0 x1)) fun v0 h0 =>
 aB (pu h0 (aQ Tryd.prog .gtr 2 false v0 x0)) fun v1 h1 =>
 aB (pu h1 (aQ Tryd.prog .gtr 2 true x1 (.int .i64 0))) fun v2 h2 =>
 aB (pu h2 (aQ Tryd.prog .eql 4 false v1 v2)) fun v3 h3 =>
 aB (gd v3 false h3 (some (x1, h3))) fun v4 h4 =>
 aB (gd v3 false h4 (pu h4 (aQ Tryd.prog .eql 2 true v4 (.int .i64 0)))) fun v5 h5 =>
 aB (pu h5 (dJ v3 (.bool true) v5)) fun v6 h6 =>
 bQ [v0, v6] h.length h6)
noncomputable def eG.f (G : aG) : Nat → dA
 | 0 => fun _ _ => none
 | k + 1 => fun args h => mJ args fun x0 x1 => (eG.c G k (eG.f G k) x0 x1 h)
noncomputable def dC.ann : Ann := gE [] [] [] []
noncomputable def dC.env (G : aG) (k : Nat) (self : dA) : List (Nat × Bool × dA) := []
noncomputable def dC.c (G : aG) (k : Nat) (self : dA) (x0 x1 : AV) (h : aF) : Option (AV × aF) := gA (
 aB (pu h (un .not x1)) fun v0 h0 =>
 aK v0
 (bQ [(.int .i64 0), (.bool false)] h.length h0)
 (bQ [x0, (.bool true)] h.length h0))
noncomputable def dC.f (G : aG) : Nat → dA
 | 0 => fun _ _ => none
 | k + 1 => fun args h => mJ args fun x0 x1 => (dC.c G k (dC.f G k) x0 x1 h)
noncomputable def dY.ann : Ann := gE [] [] [] []
noncomputable def dY.env (G : aG) (k : Nat) (self : dA) : List (Nat × Bool × dA) := []
noncomputable def dY.c (G : aG) (k : Nat) (self : dA) (x0 x1 : AV) (h : aF) : Option (AV × aF) := gA (
 aB (pu h (aQ Tryd.prog .sub 2 false x0 x1)) fun v0 h0 =>
 aB (pu h0 (aQ Tryd.prog .lss 2 false v0 x0)) fun v1 h1 =>
 aB (pu h1 (aQ Tryd.prog .gtr 2 true x1 (.int .i64 0))) fun v2 h2 =>
 aB (pu h2 (aQ Tryd.prog .eql 4 false v1 v2)) fun v3 h3 =>
 aB (gd v3 false h3 (some (x1, h3))) fun v4 h4 =>
 aB (gd v3 false h4 (pu h4 (aQ Tryd.prog .eql 2 true v4 (.int .i64 0)))) fun v5 h5 =>
 aB (pu h5 (dJ v3 (.bool true) v5)) fun v6 h6 =>
 bQ [v0, v6] h.length h6)
noncomputable def dY.f (G : aG) : Nat → dA
 | 0 => fun _ _ => none
 | k + 1 => fun args h => mJ args fun x0 x1 => (dY.c G k (dY.f G k) x0 x1 h)
noncomputable def dB.ann : Ann := gE [] [] [] [(7, [0, 1, 6, 7]), (5, [0, 1, 6, 7])]
noncomputable def dB.env (G : aG) (k : Nat) (self : dA) : List (Nat × Bool × dA) := [(56, true, cB.f G k), (74, true, dC.f G k)]
noncomputable def dB.c (G : aG) (k : Nat) (self : dA) (x0 x1 : AV) (h : aF) : Option (AV × aF) := gA (
 aB (pu h (aJ .u64 x0)) fun v0 h0 =>
 aB (pu h0 (aJ .u64 x1)) fun v1 h1 =>
 eM (
 aB (pu h1 (aQ Tryd.prog .lss 2 true x0 (.int .i64 0))) fun v2 h2 =>
 aK v2
 (aB (pu h2 (un .neg v0)) fun v3 h3 =>
 some (.normal, [x0, x1, v3, v1], h3))
 (some (.normal, [x0, x1, v0, v1], h2))) fun e4 x4 h4 => jJ e4
 (eM (
 aB (pu h4 (aQ Tryd.prog .lss 2 true (aI x4 1) (.int .i64 0))) fun v5 h5 =>
 aK v5
 (aB (pu h5 (un .neg (aI x4 3))) fun v6 h6 =>
 some (.normal, [(aI x4 0), (aI x4 1), (aI x4 2), v6], h6))
 (some (.normal, [(aI x4 0), (aI x4 1), (aI x4 2), (aI x4 3)], h5))) fun e7 x7 h7 => jJ e7
 (aB (aE (cB.f G k) [(aI x7 2), (aI x7 3)] h7) fun v8 h8 =>
 aB (pu h8 (cU v8 0)) fun v9 h9 =>
 aB (pu h9 (cU v8 1)) fun v10 h10 =>
 aB (pu h10 (aQ Tryd.prog .neq 43 true v9 (.int .u64 0))) fun v11 h11 =>
 aK v11
 (bQ [(.int .i64 0), (.bool false)] h.length h11)
 (aB (pu h11 (aQ Tryd.prog .lss 2 true (aI x7 0) (.int .i64 0))) fun v12 h12 =>
 aB (pu h12 (aQ Tryd.prog .lss 2 true (aI x7 1) (.int .i64 0))) fun v13 h13 =>
 aB (pu h13 (aQ Tryd.prog .neq 4 false v12 v13)) fun v14 h14 =>
 aK v14
 (aB (pu h14 (aQ Tryd.prog .eql 43 true v10 (.int .u64 9223372036854775808))) fun v15 h15 =>
 aK v15
 (bQ [(.int .i64 (-9223372036854775808)), (.bool true)] h.length h15)
 (aB (pu h15 (aQ Tryd.prog .and 43 true v10 (.int .u64 9223372036854775807))) fun v16 h16 =>
 aB (pu h16 (aJ .i64 v16)) fun v17 h17 =>
 aB (pu h17 (un .neg v17)) fun v18 h18 =>
 aB (pu h18 (aQ Tryd.prog .lss 43 true v10 (.int .u64 9223372036854775808))) fun v19 h19 =>
 aB (aE (dC.f G k) [v18, v19] h19) fun v20 h20 =>
 aB (pu h20 (cU v20 0)) fun v21 h21 =>
 aB (pu h21 (cU v20 1)) fun v22 h22 =>
 bQ [v21, v22] h.length h22))
 (aB (pu h14 (aJ .i64 v10)) fun v23 h23 =>
 aB (pu h23 (aQ Tryd.prog .lss 43 true v10 (.int .u64 9223372036854775808))) fun v24 h24 =>
 bQ [v23, v24] h.length h24)))
 (fun i7 => none)
 (bQ [.undef, .undef] h.length h7))
 (fun i4 => none)
 (bQ [.undef, .undef] h.length h4))
noncomputable def dB.f (G : aG) : Nat → dA
 | 0 => fun _ _ => none
 | k + 1 => fun args h => mJ args fun x0 x1 => (dB.c G k (dB.f G k) x0 x1 h)
noncomputable def dQ.ann : Ann := gE [] [] [] []
noncomputable def dQ.env (G : aG) (k : Nat) (self : dA) : List (Nat × Bool × dA) := [(73, true, eG.f G k), (74, true, dC.f G k), (75, true, dY.f G k), (76, true, dB.f G k)]
noncomputable def dQ.c (G : aG) (k : Nat) (self : dA) (x0 x1 x2 : AV) (h : aF) : Option (AV × aF) := gA (
 aB (dP x0 h) fun v0 h0 =>
 aB (pu h0 (aA 0 v0)) fun v1 h1 =>
 aB (pu h1 (aC G false 1 v1 h1)) fun v2 h2 =>
 aB (pu h2 (aQ Tryd.prog .eql 3 true v2 (.int .i64 3))) fun v3 h3 =>
 aK v3
 (aB (pu h3 (aJ .i64 x1)) fun v4 h4 =>
 aB (pu h4 (aJ .i64 x2)) fun v5 h5 =>
 aB (aE (eG.f G k) [v4, v5] h5) fun v6 h6 =>
 aB (pu h6 (cU v6 0)) fun v7 h7 =>
 aB (pu h7 (cU v6 1)) fun v8 h8 =>
 aB (aE (dC.f G k) [v7, v8] h8) fun v9 h9 =>
 aB (pu h9 (cU v9 0)) fun v10 h10 =>
 aB (pu h10 (cU v9 1)) fun v11 h11 =>
 bQ [v10, v11] h.length h11)
 (aB (pu h3 (aQ Tryd.prog .eql 3 true v2 (.int .i64 4))) fun v12 h12 =>
 aK v12
 (aB (pu h12 (aJ .i64 x1)) fun v13 h13 =>
 aB (pu h13 (aJ .i64 x2)) fun v14 h14 =>
 aB (aE (dY.f G k) [v13, v14] h14) fun v15 h15 =>
 aB (pu h15 (cU v15 0)) fun v16 h16 =>
 aB (pu h16 (cU v15 1)) fun v17 h17 =>
 aB (aE (dC.f G k) [v16, v17] h17) fun v18 h18 =>
 aB (pu h18 (cU v18 0)) fun v19 h19 =>
 aB (pu h19 (cU v18 1)) fun v20 h20 =>
 bQ [v19, v20] h.length h20)
 (aB (pu h12 (aQ Tryd.prog .eql 3 true v2 (.int .i64 5))) fun v21 h21 =>
 aK v21
 (aB (pu h21 (aJ .i64 x1)) fun v22 h22 =>
 aB (pu h22 (aJ .i64 x2)) fun v23 h23 =>
 aB (aE (dB.f G k) [v22, v23] h23) fun v24 h24 =>
 aB (pu h24 (cU v24 0)) fun v25 h25 =>
 aB (pu h25 (cU v24 1)) fun v26 h26 =>
 aB (aE (dC.f G k) [v25, v26] h26) fun v27 h27 =>
 aB (pu h27 (cU v27 0)) fun v28 h28 =>
 aB (pu h28 (cU v27 1)) fun v29 h29 =>
 bQ [v28, v29] h.length h29)
 (aB (pu h21 (aQ Tryd.prog .eql 3 true v2 (.int .i64 10))) fun v30 h30 =>
 aK v30
 (aB (pu h30 (aA 5 v0)) fun v31 h31 =>
 aB (pu h31 (aC G false 1 v31 h31)) fun v32 h32 =>
 aB (pu h32 (aQ Tryd.prog .lss 2 true v32 (.int .i64 0))) fun v33 h33 =>
 aB (gd v33 false h33 (pu h33 (aA 5 v0))) fun v34 h34 =>
 aB (gd v33 false h34 (pu h34 (aC G false 1 v34 h34))) fun v35 h35 =>
 aB (gd v33 false h35 (pu h35 (aQ Tryd.prog .gtr 2 true v35 (.int .i64 63)))) fun v36 h36 =>
 aB (pu h36 (dJ v33 (.bool true) v36)) fun v37 h37 =>
 aK v37
 (bQ [(.int .i64 0), (.bool false)] h.length h37)
 (aB (pu h37 (aJ .i64 x1)) fun v38 h38 =>
 aB (pu h38 (aA 5 v0)) fun v39 h39 =>
 aB (pu h39 (aC G false 1 v39 h39)) fun v40 h40 =>
 aB (pu h40 (aJ .u64 v40)) fun v41 h41 =>
 aB (pu h41 (aQ Tryd.prog .shl 2 false v38 v41)) fun v42 h42 =>
 aB (pu h42 (aA 5 v0)) fun v43 h43 =>
 aB (pu h43 (aC G false 1 v43 h43)) fun v44 h44 =>
 aB (pu h44 (aJ .u64 v44)) fun v45 h45 =>
 aB (pu h45 (aQ Tryd.prog .shr 2 false v42 v45)) fun v46 h46 =>
 aB (pu h46 (aJ .i64 x1)) fun v47 h47 =>
 aB (pu h47 (aQ Tryd.prog .eql 2 false v46 v47)) fun v48 h48 =>
 aB (aE (dC.f G k) [v42, v48] h48) fun v49 h49 =>
 aB (pu h49 (cU v49 0)) fun v50 h50 =>
 aB (pu h50 (cU v49 1)) fun v51 h51 =>
 bQ [v50, v51] h.length h51))
 (bQ [(.int .i64 0), (.bool false)] h.length h30)))))
noncomputable def dQ.f (G : aG) : Nat → dA
 | 0 => fun _ _ => none
 | k + 1 => fun args h => vX args fun x0 x1 x2 => (dQ.c G k (dQ.f G k) x0 x1 x2 h)
noncomputable def cD.ann : Ann := gE [] [] [] []
noncomputable def cD.env (G : aG) (k : Nat) (self : dA) : List (Nat × Bool × dA) := [(56, true, cB.f G k)]
noncomputable def cD.c (G : aG) (k : Nat) (self : dA) (x0 x1 x2 x3 : AV) (h : aF) : Option (AV × aF) := gA (
 aB (dP x0 h) fun v0 h0 =>
 aB (pu h0 (aA 5 v0)) fun v1 h1 =>
 aB (pu h1 (aC G false 1 v1 h1)) fun v2 h2 =>
 aB (pu h2 (aQ Tryd.prog .and 2 true v2 (.int .i64 63))) fun v3 h3 =>
 aB (pu h3 (aJ .u64 v3)) fun v4 h4 =>
 aB (pu h4 (aA 5 v0)) fun v5 h5 =>
 aB (pu h5 (aC G false 1 v5 h5)) fun v6 h6 =>
 aB (pu h6 (aQ Tryd.prog .geq 2 true v6 (.int .i64 0))) fun v7 h7 =>
 aB (gd v7 true h7 (pu h7 (aA 5 v0))) fun v8 h8 =>
 aB (gd v7 true h8 (pu h8 (aC G false 1 v8 h8))) fun v9 h9 =>
 aB (gd v7 true h9 (pu h9 (aQ Tryd.prog .leq 2 true v9 (.int .i64 63)))) fun v10 h10 =>
 aB (pu h10 (dJ v7 v10 (.bool false))) fun v11 h11 =>
 aB (pu h11 (aA 0 v0)) fun v12 h12 =>
 aB (pu h12 (aC G false 1 v12 h12)) fun v13 h13 =>
 aB (pu h13 (aQ Tryd.prog .eql 3 true v13 (.int .i64 1))) fun v14 h14 =>
 aK v14
 (aB (pu h14 (aA 5 v0)) fun v15 h15 =>
 aB (pu h15 (aC G false 1 v15 h15)) fun v16 h16 =>
 aB (pu h16 (aJ .u64 v16)) fun v17 h17 =>
 bQ [v17, (.bool true)] h.length h17)
 (aB (pu h14 (aQ Tryd.prog .eql 3 true v13 (.int .i64 2))) fun v18 h18 =>
 aK v18
 (bQ [x1, (.bool true)] h.length h18)
 (aB (pu h18 (aQ Tryd.prog .eql 3 true v13 (.int .i64 3))) fun v19 h19 =>
 aK v19
 (aB (pu h19 (aQ Tryd.prog .add 43 false x1 x2)) fun v20 h20 =>
 bQ [v20, (.bool true)] h.length h20)
 (aB (pu h19 (aQ Tryd.prog .eql 3 true v13 (.int .i64 4))) fun v21 h21 =>
 aK v21
 (aB (pu h21 (aQ Tryd.prog .sub 43 false x1 x2)) fun v22 h22 =>
 bQ [v22, (.bool true)] h.length h22)
 (aB (pu h21 (aQ Tryd.prog .eql 3 true v13 (.int .i64 5))) fun v23 h23 =>
 aK v23
 (aB (pu h23 (aQ Tryd.prog .mul 43 false x1 x2)) fun v24 h24 =>
 bQ [v24, (.bool true)] h.length h24)
 (aB (pu h23 (aQ Tryd.prog .eql 3 true v13 (.int .i64 6))) fun v25 h25 =>
 aK v25
 (aB (aE (cB.f G k) [x1, x2] h25) fun v26 h26 =>
 aB (pu h26 (cU v26 0)) fun v27 h27 =>
 aB (pu h27 (cU v26 1)) fun v28 h28 =>
 bQ [v27, (.bool true)] h.length h28)
 (aB (pu h25 (aQ Tryd.prog .eql 3 true v13 (.int .i64 7))) fun v29 h29 =>
 aK v29
 (aB (pu h29 (aQ Tryd.prog .and 43 false x1 x2)) fun v30 h30 =>
 bQ [v30, (.bool true)] h.length h30)
 (aB (pu h29 (aQ Tryd.prog .eql 3 true v13 (.int .i64 8))) fun v31 h31 =>
 aK v31
 (aB (pu h31 (aQ Tryd.prog .or 43 false x1 x2)) fun v32 h32 =>
 bQ [v32, (.bool true)] h.length h32)
 (aB (pu h31 (aQ Tryd.prog .eql 3 true v13 (.int .i64 9))) fun v33 h33 =>
 aK v33
 (aB (pu h33 (aQ Tryd.prog .xor 43 false x1 x2)) fun v34 h34 =>
 bQ [v34, (.bool true)] h.length h34)
 (aB (pu h33 (aQ Tryd.prog .eql 3 true v13 (.int .i64 13))) fun v35 h35 =>
 aK v35
 (aB (pu h35 (aQ Tryd.prog .lss 43 false x1 x2)) fun v36 h36 =>
 aK v36
 (bQ [(.int .u64 1), (.bool true)] h.length h36)
 (bQ [(.int .u64 0), (.bool true)] h.length h36))
 (aB (pu h35 (aQ Tryd.prog .eql 3 true v13 (.int .i64 14))) fun v37 h37 =>
 aK v37
 (aB (pu h37 (aQ Tryd.prog .neq 43 true x1 (.int .u64 0))) fun v38 h38 =>
 aK v38
 (bQ [x2, (.bool true)] h.length h38)
 (bQ [x3, (.bool true)] h.length h38))
 (aB (pu h37 (un .not v11)) fun v39 h39 =>
 aK v39
 (bQ [(.int .u64 0), (.bool false)] h.length h39)
 (aB (pu h39 (aA 0 v0)) fun v40 h40 =>
 aB (pu h40 (aC G false 1 v40 h40)) fun v41 h41 =>
 aB (pu h41 (aQ Tryd.prog .eql 3 true v41 (.int .i64 10))) fun v42 h42 =>
 aK v42
 (aB (pu h42 (aQ Tryd.prog .shl 43 false x1 v4)) fun v43 h43 =>
 bQ [v43, (.bool true)] h.length h43)
 (aB (pu h42 (aQ Tryd.prog .eql 3 true v41 (.int .i64 11))) fun v44 h44 =>
 aK v44
 (aB (pu h44 (aQ Tryd.prog .shr 43 false x1 v4)) fun v45 h45 =>
 bQ [v45, (.bool true)] h.length h45)
 (aB (pu h44 (aQ Tryd.prog .eql 3 true v41 (.int .i64 12))) fun v46 h46 =>
 aK v46
 (aB (pu h46 (aJ .i64 x1)) fun v47 h47 =>
 aB (pu h47 (aQ Tryd.prog .shr 2 false v47 v4)) fun v48 h48 =>
 aB (pu h48 (aJ .u64 v48)) fun v49 h49 =>
 bQ [v49, (.bool true)] h.length h49)
 (bQ [(.int .u64 0), (.bool false)] h.length h46))))))))))))))))
noncomputable def cD.f (G : aG) : Nat → dA
 | 0 => fun _ _ => none
 | k + 1 => fun args h => aJz args fun x0 x1 x2 x3 => (cD.c G k (cD.f G k) x0 x1 x2 x3 h)
theorem cD.step (G : aG) (k : Nat) (x0 x1 x2 x3 : AV) (h : aF) : cD.f G (k + 1) [x0, x1, x2, x3] h = cD.c G k (cD.f G k) x0 x1 x2 x3 h := rfl
noncomputable def bN.ann : Ann := aEM [] [] [(4, [1, 3, 4, 8, 9, 10, 11])] [(22, [1, 3, 4, 8, 9, 10, 12, 13, 14, 15]), (38, [1, 3, 4, 8, 9, 10, 11, 12, 13, 14, 15, 71, 186]), (26, [1, 3, 4, 8, 9, 10, 11, 12, 13, 14, 15, 71, 142])] [(4, [(8, 2, 107, 2), (9, 2, 107, 2)])] []
noncomputable def bN.env (G : aG) (k : Nat) (self : dA) : List (Nat × Bool × dA) := [(46, false, aY.f G k), (47, true, bT.f G k), (48, true, dQ.f G k), (49, true, cD.f G k)]
noncomputable def bN.l4 (G : aG) (k n0 : Nat) (self : dA) (lp : iV) : iV := fun xs h0 => qS n0 xs h0 fun h =>
 aB (pu h (aA 0 (aI xs 2))) fun v11 h11 =>
 aB (pu h11 (aC G false 1 v11 h11)) fun v12 h12 =>
 aB (pu h12 (dH v12)) fun v13 h13 =>
 aB (pu h13 (aQ Tryd.prog .geq 3 false (aI xs 6) v13)) fun v14 h14 =>
 aK v14
 (aB (pu h14 (aA 0 (aI xs 4))) fun v15 h15 =>
 aB (fB (aN 1 v15 (.int .i64 3) h15)) fun v16 h16 =>
 aB (pu h16 (aC G true 5 (aI xs 4) h16)) fun v17 h17 =>
 aB (fB (aN 5 (aI xs 3) v17 h17)) fun v18 h18 =>
 some (.ret, [(aI xs 0), (aI xs 1), (aI xs 2), (aI xs 3), (aI xs 4), (aI xs 5), (aI xs 6)], h18))
 (aB (pu h14 (aA 3 (aI xs 4))) fun v19 h19 =>
 aB (pu h19 (aC G false 1 v19 h19)) fun v20 h20 =>
 aB (pu h20 (aQ Tryd.prog .geq 2 false v20 (aI xs 1))) fun v21 h21 =>
 aK v21
 (aB (pu h21 (aA 0 (aI xs 4))) fun v22 h22 =>
 aB (fB (aN 1 v22 (.int .i64 4) h22)) fun v23 h23 =>
 aB (pu h23 (aC G true 5 (aI xs 4) h23)) fun v24 h24 =>
 aB (fB (aN 5 (aI xs 3) v24 h24)) fun v25 h25 =>
 some (.ret, [(aI xs 0), (aI xs 1), (aI xs 2), (aI xs 3), (aI xs 4), (aI xs 5), (aI xs 6)], h25))
 (aB (pu h21 (aA 0 (aI xs 2))) fun v26 h26 =>
 aB (pu h26 (aC G false 1 v26 h26)) fun v27 h27 =>
 aB (pu h27 (cF 6 v27 (aI xs 6))) fun v28 h28 =>
 aB (pu h28 (aC G true 6 v28 h28)) fun v29 h29 =>
 aB (fF 60 (.agg [(.int .i64 0), (.int .i64 0), (.int .i64 0), (.int .i64 0), (.int .i64 0), (.int .i64 0)]) h29) fun v30 h30 =>
 aB (fB (aN 6 v30 v29 h30)) fun v31 h31 =>
 aB (pu h31 (aA 3 (aI xs 4))) fun v32 h32 =>
 aB (pu h32 (aC G false 1 v32 h32)) fun v33 h33 =>
 aB (pu h33 (aQ Tryd.prog .add 2 true v33 (.int .i64 1))) fun v34 h34 =>
 aB (pu h34 (aA 3 (aI xs 4))) fun v35 h35 =>
 aB (fB (aN 1 v35 v34 h35)) fun v36 h36 =>
 aB (pu h36 (aA 2 (aI xs 4))) fun v37 h37 =>
 aB (pu h37 (aC G false 1 v37 h37)) fun v38 h38 =>
 aB (pu h38 (bA [(0, 1), (1, 1)] [(.int .i64 0), (.int .i64 0)] [(0, (.int .i64 1)), (1, (aI xs 6))])) fun v39 h39 =>
 aB (fK 2 1 (.agg [(.int .i64 0), (.int .i64 0)]) [(0, v39)] h39) fun v40 h40 =>
 aB (fI 107 2 v38 v40 h40) fun v41 h41 =>
 aB (pu h41 (aA 2 (aI xs 4))) fun v42 h42 =>
 aB (fB (aN 1 v42 v41 h42)) fun v43 h43 =>
 aB (pu h43 (aA 2 v30)) fun v44 h44 =>
 aB (pu h44 (aC G false 1 v44 h44)) fun v45 h45 =>
 aB (pu h45 (cF 1 (aI xs 5) v45)) fun v46 h46 =>
 aB (pu h46 (aC G false 1 v46 h46)) fun v47 h47 =>
 aB (pu h47 (aA 3 v30)) fun v48 h48 =>
 aB (pu h48 (aC G false 1 v48 h48)) fun v49 h49 =>
 aB (pu h49 (cF 1 (aI xs 5) v49)) fun v50 h50 =>
 aB (pu h50 (aC G false 1 v50 h50)) fun v51 h51 =>
 aB (pu h51 (aQ Tryd.prog .add 3 true (aI xs 6) (.int .i64 1))) fun v52 h52 =>
 aB (pu h52 (aA 0 v30)) fun v53 h53 =>
 aB (pu h53 (aC G false 1 v53 h53)) fun v54 h54 =>
 eM (
 aB (pu h54 (aQ Tryd.prog .eql 3 true v54 (.int .i64 15))) fun v55 h55 =>
 aK v55
 (some (.normal, [(aI xs 0), (aI xs 1), (aI xs 2), (aI xs 3), (aI xs 4), (aI xs 5), (aI xs 6), v30, v47, v51, v52, v54, v55], h55))
 (aB (pu h55 (aQ Tryd.prog .eql 3 true v54 (.int .i64 16))) fun v56 h56 =>
 some (.normal, [(aI xs 0), (aI xs 1), (aI xs 2), (aI xs 3), (aI xs 4), (aI xs 5), (aI xs 6), v30, v47, v51, v52, v54, v56], h56))) fun e57 x57 h57 => jJ e57
 (aK (aI x57 12)
 (aB (pu h57 (aA 5 (aI x57 7))) fun v58 h58 =>
 aB (pu h58 (aC G false 1 v58 h58)) fun v59 h59 =>
 aB (pu h59 (aJ .u64 v59)) fun v60 h60 =>
 aB (pu h60 (aQ Tryd.prog .add 43 false (aI x57 8) v60)) fun v61 h61 =>
 aB (pu h61 (aA 2 (aI x57 4))) fun v62 h62 =>
 aB (pu h62 (aC G false 1 v62 h62)) fun v63 h63 =>
 aB (pu h63 (aJ .i64 v61)) fun v64 h64 =>
 aB (pu h64 (bA [(0, 1), (1, 1)] [(.int .i64 0), (.int .i64 0)] [(0, (.int .i64 3)), (1, v64)])) fun v65 h65 =>
 aB (fK 2 1 (.agg [(.int .i64 0), (.int .i64 0)]) [(0, v65)] h65) fun v66 h66 =>
 aB (fI 107 2 v63 v66 h66) fun v67 h67 =>
 aB (pu h67 (aA 2 (aI x57 4))) fun v68 h68 =>
 aB (fB (aN 1 v68 v67 h68)) fun v69 h69 =>
 aB (pu h69 (aA 2 (aI x57 2))) fun v70 h70 =>
 aB (pu h70 (aC G false 1 v70 h70)) fun v71 h71 =>
 aB (pu h71 (aJ .u64 v71)) fun v72 h72 =>
 aB (pu h72 (aQ Tryd.prog .geq 43 false v61 v72)) fun v73 h73 =>
 aK v73
 (aB (pu h73 (aA 0 (aI x57 4))) fun v74 h74 =>
 aB (fB (aN 1 v74 (.int .i64 3) h74)) fun v75 h75 =>
 aB (pu h75 (aC G true 5 (aI x57 4) h75)) fun v76 h76 =>
 aB (fB (aN 5 (aI x57 3) v76 h76)) fun v77 h77 =>
 some (.ret, [(aI x57 0), (aI x57 1), (aI x57 2), (aI x57 3), (aI x57 4), (aI x57 5), (aI x57 6)], h77))
 (aB (pu h73 (aA 0 (aI x57 7))) fun v78 h78 =>
 aB (pu h78 (aC G false 1 v78 h78)) fun v79 h79 =>
 aB (pu h79 (aQ Tryd.prog .eql 3 true v79 (.int .i64 15))) fun v80 h80 =>
 aK v80
 (aB (pu h80 (aA 1 (aI x57 7))) fun v81 h81 =>
 aB (pu h81 (aC G false 1 v81 h81)) fun v82 h82 =>
 aB (pu h82 (aA 1 (aI x57 4))) fun v83 h83 =>
 aB (pu h83 (aC G false 1 v83 h83)) fun v84 h84 =>
 aB (pu h84 (cF 1 v84 v61)) fun v85 h85 =>
 aB (pu h85 (aC G false 1 v85 h85)) fun v86 h86 =>
 aB (pu h86 (cF 1 (aI x57 5) v82)) fun v87 h87 =>
 aB (fB (aN 1 v87 v86 h87)) fun v88 h88 =>
 lp [(aI x57 0), (aI x57 1), (aI x57 2), (aI x57 3), (aI x57 4), (aI x57 5), (aI x57 10)] h88)
 (aB (pu h80 (aA 1 (aI x57 4))) fun v89 h89 =>
 aB (pu h89 (aC G false 1 v89 h89)) fun v90 h90 =>
 aB (pu h90 (cF 1 v90 v61)) fun v91 h91 =>
 aB (fB (aN 1 v91 (aI x57 9) h91)) fun v92 h92 =>
 lp [(aI x57 0), (aI x57 1), (aI x57 2), (aI x57 3), (aI x57 4), (aI x57 5), (aI x57 10)] h92)))
 (aB (pu h57 (aQ Tryd.prog .eql 3 true (aI x57 11) (.int .i64 17))) fun v93 h93 =>
 aK v93
 (aB (pu h93 (aA 5 (aI x57 7))) fun v94 h94 =>
 aB (pu h94 (aC G false 1 v94 h94)) fun v95 h95 =>
 lp [(aI x57 0), (aI x57 1), (aI x57 2), (aI x57 3), (aI x57 4), (aI x57 5), v95] h95)
 (eM (
 aB (pu h93 (aQ Tryd.prog .eql 3 true (aI x57 11) (.int .i64 18))) fun v96 h96 =>
 aK v96
 (some (.normal, [(aI x57 0), (aI x57 1), (aI x57 2), (aI x57 3), (aI x57 4), (aI x57 5), (aI x57 6), (aI x57 7), (aI x57 8), (aI x57 9), (aI x57 10), (aI x57 11), v96], h96))
 (aB (pu h96 (aQ Tryd.prog .eql 3 true (aI x57 11) (.int .i64 19))) fun v97 h97 =>
 some (.normal, [(aI x57 0), (aI x57 1), (aI x57 2), (aI x57 3), (aI x57 4), (aI x57 5), (aI x57 6), (aI x57 7), (aI x57 8), (aI x57 9), (aI x57 10), (aI x57 11), v97], h97))) fun e98 x98 h98 => jJ e98
 (aK (aI x98 12)
 (aB (pu h98 (aQ Tryd.prog .eql 43 true (aI x98 8) (.int .u64 0))) fun v99 h99 =>
 aB (pu h99 (aA 0 (aI x98 7))) fun v100 h100 =>
 aB (pu h100 (aC G false 1 v100 h100)) fun v101 h101 =>
 aB (pu h101 (aQ Tryd.prog .eql 3 true v101 (.int .i64 18))) fun v102 h102 =>
 aB (pu h102 (aQ Tryd.prog .eql 4 false v99 v102)) fun v103 h103 =>
 aB (pu h103 (aA 2 (aI x98 4))) fun v104 h104 =>
 aB (pu h104 (aC G false 1 v104 h104)) fun v105 h105 =>
 aB (aE (bT.f G k) [v103] h105) fun v106 h106 =>
 aB (pu h106 (bA [(0, 1), (1, 1)] [(.int .i64 0), (.int .i64 0)] [(0, (.int .i64 2)), (1, v106)])) fun v107 h107 =>
 aB (fK 2 1 (.agg [(.int .i64 0), (.int .i64 0)]) [(0, v107)] h107) fun v108 h108 =>
 aB (fI 107 2 v105 v108 h108) fun v109 h109 =>
 aB (pu h109 (aA 2 (aI x98 4))) fun v110 h110 =>
 aB (fB (aN 1 v110 v109 h110)) fun v111 h111 =>
 aK v103
 (aB (pu h111 (aA 5 (aI x98 7))) fun v112 h112 =>
 aB (pu h112 (aC G false 1 v112 h112)) fun v113 h113 =>
 lp [(aI x98 0), (aI x98 1), (aI x98 2), (aI x98 3), (aI x98 4), (aI x98 5), v113] h113)
 (lp [(aI x98 0), (aI x98 1), (aI x98 2), (aI x98 3), (aI x98 4), (aI x98 5), (aI x98 10)] h111))
 (aB (pu h98 (aQ Tryd.prog .eql 3 true (aI x98 11) (.int .i64 20))) fun v114 h114 =>
 aK v114
 (aB (pu h114 (aA 5 (aI x98 7))) fun v115 h115 =>
 aB (pu h115 (aC G false 1 v115 h115)) fun v116 h116 =>
 aB (pu h116 (aA 0 (aI x98 4))) fun v117 h117 =>
 aB (fB (aN 1 v117 v116 h117)) fun v118 h118 =>
 aB (pu h118 (aC G true 5 (aI x98 4) h118)) fun v119 h119 =>
 aB (fB (aN 5 (aI x98 3) v119 h119)) fun v120 h120 =>
 some (.ret, [(aI x98 0), (aI x98 1), (aI x98 2), (aI x98 3), (aI x98 4), (aI x98 5), (aI x98 6)], h120))
 (eM (
 aB (pu h114 (dH (aI x98 0))) fun v121 h121 =>
 aB (pu h121 (aQ Tryd.prog .gtr 3 true v121 (.int .i64 0))) fun v122 h122 =>
 aB (gd v122 true h122 (pu h122 (aA 4 (aI x98 4)))) fun v123 h123 =>
 aB (gd v122 true h123 (pu h123 (aC G false 1 v123 h123))) fun v124 h124 =>
 aB (gd v122 true h124 (pu h124 (aQ Tryd.prog .lss 3 true v124 (.int .i64 0)))) fun v125 h125 =>
 aB (pu h125 (dJ v122 v125 (.bool false))) fun v126 h126 =>
 aB (gd v126 true h126 (pu h126 (aA 0 (aI x98 7)))) fun v127 h127 =>
 aB (gd v126 true h127 (pu h127 (aC G false 1 v127 h127))) fun v128 h128 =>
 aB (gd v126 true h128 (pu h128 (aQ Tryd.prog .geq 3 true v128 (.int .i64 3)))) fun v129 h129 =>
 aB (gd v126 true h129 (some (v129, h129))) fun v130 h130 =>
 aB (gd v130 true h130 (pu h130 (aA 0 (aI x98 7)))) fun v131 h131 =>
 aB (gd v130 true h131 (pu h131 (aC G false 1 v131 h131))) fun v132 h132 =>
 aB (gd v130 true h132 (pu h132 (aQ Tryd.prog .leq 3 true v132 (.int .i64 5)))) fun v133 h133 =>
 aB (gd v126 true h133 (pu h133 (dJ v130 v133 (.bool false)))) fun v134 h134 =>
 aB (gd v126 true h134 (some (v134, h134))) fun v135 h135 =>
 aB (gd v135 false h135 (pu h135 (aA 0 (aI x98 7)))) fun v136 h136 =>
 aB (gd v135 false h136 (pu h136 (aC G false 1 v136 h136))) fun v137 h137 =>
 aB (gd v135 false h137 (pu h137 (aQ Tryd.prog .eql 3 true v137 (.int .i64 10)))) fun v138 h138 =>
 aB (gd v126 true h138 (pu h138 (dJ v135 (.bool true) v138))) fun v139 h139 =>
 aB (pu h139 (dJ v126 v139 (.bool false))) fun v140 h140 =>
 aK v140
 (aB (pu h140 (aC G true 6 (aI x98 7) h140)) fun v141 h141 =>
 aB (aE (dQ.f G k) [v141, (aI x98 8), (aI x98 9)] h141) fun v142 h142 =>
 aB (pu h142 (cU v142 0)) fun v143 h143 =>
 aB (pu h143 (cU v142 1)) fun v144 h144 =>
 aB (pu h144 (un .not v144)) fun v145 h145 =>
 aB (gd v145 false h145 (some (v143, h145))) fun v146 h146 =>
 aB (gd v145 false h146 (some ((aI x98 0), h146))) fun v147 h147 =>
 aB (gd v145 false h147 (some ((aI x98 6), h147))) fun v148 h148 =>
 aB (gd v145 false h148 (pu h148 (cF 2 v147 v148))) fun v149 h149 =>
 aB (gd v145 false h149 (pu h149 (aA 0 v149))) fun v150 h150 =>
 aB (gd v145 false h150 (pu h150 (aC G false 1 v150 h150))) fun v151 h151 =>
 aB (gd v145 false h151 (pu h151 (aQ Tryd.prog .lss 2 false v146 v151))) fun v152 h152 =>
 aB (pu h152 (dJ v145 (.bool true) v152)) fun v153 h153 =>
 aB (gd v153 false h153 (some (v143, h153))) fun v154 h154 =>
 aB (gd v153 false h154 (some ((aI x98 0), h154))) fun v155 h155 =>
 aB (gd v153 false h155 (some ((aI x98 6), h155))) fun v156 h156 =>
 aB (gd v153 false h156 (pu h156 (cF 2 v155 v156))) fun v157 h157 =>
 aB (gd v153 false h157 (pu h157 (aA 1 v157))) fun v158 h158 =>
 aB (gd v153 false h158 (pu h158 (aC G false 1 v158 h158))) fun v159 h159 =>
 aB (gd v153 false h159 (pu h159 (aQ Tryd.prog .gtr 2 false v154 v159))) fun v160 h160 =>
 aB (pu h160 (dJ v153 (.bool true) v160)) fun v161 h161 =>
 aK v161
 (aB (pu h161 (aA 4 (aI x98 4))) fun v162 h162 =>
 aB (fB (aN 1 v162 (aI x98 6) h162)) fun v163 h163 =>
 aB (pu h163 (aC G true 5 (aI x98 4) h163)) fun v164 h164 =>
 aB (fB (aN 5 (aI x98 3) v164 h164)) fun v165 h165 =>
 some (.ret, [(aI x98 0), (aI x98 1), (aI x98 2), (aI x98 3), (aI x98 4), (aI x98 5), (aI x98 7), (aI x98 8), (aI x98 9), (aI x98 10)], h165))
 (some (.normal, [(aI x98 0), (aI x98 1), (aI x98 2), (aI x98 3), (aI x98 4), (aI x98 5), (aI x98 7), (aI x98 8), (aI x98 9), (aI x98 10)], h161)))
 (some (.normal, [(aI x98 0), (aI x98 1), (aI x98 2), (aI x98 3), (aI x98 4), (aI x98 5), (aI x98 7), (aI x98 8), (aI x98 9), (aI x98 10)], h140))) fun e166 x166 h166 => jJ e166
 (aB (pu h166 (aC G true 6 (aI x166 6) h166)) fun v167 h167 =>
 aB (pu h167 (aA 4 (aI x166 6))) fun v168 h168 =>
 aB (pu h168 (aC G false 1 v168 h168)) fun v169 h169 =>
 aB (pu h169 (cF 1 (aI x166 5) v169)) fun v170 h170 =>
 aB (pu h170 (aC G false 1 v170 h170)) fun v171 h171 =>
 aB (aE (cD.f G k) [v167, (aI x166 7), (aI x166 8), v171] h171) fun v172 h172 =>
 aB (pu h172 (cU v172 0)) fun v173 h173 =>
 aB (pu h173 (cU v172 1)) fun v174 h174 =>
 aB (pu h174 (aA 1 (aI x166 6))) fun v175 h175 =>
 aB (pu h175 (aC G false 1 v175 h175)) fun v176 h176 =>
 aB (pu h176 (cF 1 (aI x166 5) v176)) fun v177 h177 =>
 aB (fB (aN 1 v177 v173 h177)) fun v178 h178 =>
 lp [(aI x166 0), (aI x166 1), (aI x166 2), (aI x166 3), (aI x166 4), (aI x166 5), (aI x166 9)] h178)
 (fun i166 => if i166 = 2 then (lp [(aI x166 0), (aI x166 1), (aI x166 2), (aI x166 3), (aI x166 4), (aI x166 5), (aI x166 9)] h166) else (if i166 = 1 then (lp [(aI x166 0), (aI x166 1), (aI x166 2), (aI x166 3), (aI x166 4), (aI x166 5), .undef] h166) else (some (.exit i166, [(aI x166 0), (aI x166 1), (aI x166 2), (aI x166 3), (aI x166 4), (aI x166 5), .undef], h166))))
 (some (.ret, [(aI x166 0), (aI x166 1), (aI x166 2), (aI x166 3), (aI x166 4), (aI x166 5), .undef], h166)))))
 (fun i98 => if i98 = 2 then (lp [(aI x98 0), (aI x98 1), (aI x98 2), (aI x98 3), (aI x98 4), (aI x98 5), (aI x98 10)] h98) else (if i98 = 1 then (lp [(aI x98 0), (aI x98 1), (aI x98 2), (aI x98 3), (aI x98 4), (aI x98 5), (aI x98 6)] h98) else (some (.exit i98, [(aI x98 0), (aI x98 1), (aI x98 2), (aI x98 3), (aI x98 4), (aI x98 5), (aI x98 6)], h98))))
 (some (.ret, [(aI x98 0), (aI x98 1), (aI x98 2), (aI x98 3), (aI x98 4), (aI x98 5), (aI x98 6)], h98)))))
 (fun i57 => if i57 = 2 then (lp [(aI x57 0), (aI x57 1), (aI x57 2), (aI x57 3), (aI x57 4), (aI x57 5), (aI x57 10)] h57) else (if i57 = 1 then (lp [(aI x57 0), (aI x57 1), (aI x57 2), (aI x57 3), (aI x57 4), (aI x57 5), (aI x57 6)] h57) else (some (.exit i57, [(aI x57 0), (aI x57 1), (aI x57 2), (aI x57 3), (aI x57 4), (aI x57 5), (aI x57 6)], h57))))
 (some (.ret, [(aI x57 0), (aI x57 1), (aI x57 2), (aI x57 3), (aI x57 4), (aI x57 5), (aI x57 6)], h57))))
noncomputable def bN.c (G : aG) (k : Nat) (self : dA) (x0 x1 x2 x3 : AV) (h : aF) : Option (AV × aF) := gA (
 aB (dP x0 h) fun v0 h0 =>
 aB (fF 40 (.agg [(.int .i64 0), .nils, .nils, (.int .i64 0), (.int .i64 0)]) h0) fun v1 h1 =>
 aB (bK (aY.f G k) [x2] h1) fun v2 h2 =>
 aB (pu h2 (bA [(0, 1), (1, 1), (2, 1), (3, 1), (4, 1)] [(.int .i64 0), .nils, .nils, (.int .i64 0), (.int .i64 0)] [(1, v2), (4, (.int .i64 (-1)))])) fun v3 h3 =>
 aB (fF 40 (.agg [(.int .i64 0), .nils, .nils, (.int .i64 0), (.int .i64 0)]) h3) fun v4 h4 =>
 aB (fB (aN 5 v4 v3 h4)) fun v5 h5 =>
 aB (pu h5 (aA 1 v0)) fun v6 h6 =>
 aB (pu h6 (aC G false 1 v6 h6)) fun v7 h7 =>
 aB (pu h7 (aQ Tryd.prog .add 3 true v7 (.int .i64 1))) fun v8 h8 =>
 aB (jH 43 1 (.int .u64 0) v8 v8 h8) fun v9 h9 =>
 vK [(v1, 2, 107, 2), (v4, 2, 107, 2)] h9 fun hv10 =>
 eM (gP (bN.l4 G k hv10.length self) k [x1, x3, v0, v1, v4, v9, (.int .i64 0)] hv10) fun e10 x10 h10 => jJ e10
 (fL [aC G true 5 (aI x10 3) h10] h.length h10)
 (fun i10 => if i10 = 0 then (fL [aC G true 5 (aI x10 3) h10] h.length h10) else (none))
 (fL [aC G true 5 (aI x10 3) h10] h.length h10))
noncomputable def bN.f (G : aG) : Nat → dA
 | 0 => fun _ _ => none
 | k + 1 => fun args h => aJz args fun x0 x1 x2 x3 => (bN.c G k (bN.f G k) x0 x1 x2 x3 h)
theorem bN.step (G : aG) (k : Nat) (x0 x1 x2 x3 : AV) (h : aF) : bN.f G (k + 1) [x0, x1, x2, x3] h = bN.c G k (bN.f G k) x0 x1 x2 x3 h := rfl
noncomputable def cC.ann : Ann := gE [] [] [] []
noncomputable def cC.env (G : aG) (k : Nat) (self : dA) : List (Nat × Bool × dA) := []
noncomputable def cC.c (G : aG) (k : Nat) (self : dA) (x0 x1 : AV) (h : aF) : Option (AV × aF) := gA (
 aB (dP x0 h) fun v0 h0 =>
 aB (pu h0 (aA 0 v0)) fun v1 h1 =>
 aB (pu h1 (aC G false 1 v1 h1)) fun v2 h2 =>
 aB (pu h2 (dH v2)) fun v3 h3 =>
 aB (pu h3 (aQ Tryd.prog .leq 3 true v3 (.int .i64 60))) fun v4 h4 =>
 aB (gd v4 true h4 (pu h4 (aA 1 v0))) fun v5 h5 =>
 aB (gd v4 true h5 (pu h5 (aC G false 1 v5 h5))) fun v6 h6 =>
 aB (gd v4 true h6 (pu h6 (aQ Tryd.prog .leq 3 true v6 (.int .i64 40)))) fun v7 h7 =>
 aB (pu h7 (dJ v4 v7 (.bool false))) fun v8 h8 =>
 aB (gd v8 true h8 (pu h8 (aA 2 v0))) fun v9 h9 =>
 aB (gd v8 true h9 (pu h9 (aC G false 1 v9 h9))) fun v10 h10 =>
 aB (gd v8 true h10 (pu h10 (aQ Tryd.prog .leq 3 true v10 (.int .i64 80)))) fun v11 h11 =>
 aB (pu h11 (dJ v8 v11 (.bool false))) fun v12 h12 =>
 aB (gd v12 true h12 (some (x1, h12))) fun v13 h13 =>
 aB (gd v12 true h13 (pu h13 (dH v13))) fun v14 h14 =>
 aB (gd v12 true h14 (pu h14 (aQ Tryd.prog .leq 3 true v14 (.int .i64 80)))) fun v15 h15 =>
 aB (pu h15 (dJ v12 v15 (.bool false))) fun v16 h16 =>
 bQ [v16] h.length h16)
noncomputable def cC.f (G : aG) : Nat → dA
 | 0 => fun _ _ => none
 | k + 1 => fun args h => mJ args fun x0 x1 => (cC.c G k (cC.f G k) x0 x1 h)
theorem cC.step (G : aG) (k : Nat) (x0 x1 : AV) (h : aF) : cC.f G (k + 1) [x0, x1] h = cC.c G k (cC.f G k) x0 x1 h := rfl
noncomputable def eF.ann : Ann := gE [] [] [] []
noncomputable def eF.env (G : aG) (k : Nat) (self : dA) : List (Nat × Bool × dA) := []
noncomputable def eF.c (G : aG) (k : Nat) (self : dA) (x0 : AV) (h : aF) : Option (AV × aF) := gA (
 aB (fF 34 (.agg [(.int .i64 0), (.bool false), (.int .i64 0)]) h) fun v0 h0 =>
 aB (pu h0 (bA [(0, 1), (1, 1), (2, 1)] [(.int .i64 0), (.bool false), (.int .i64 0)] [(0, x0)])) fun v1 h1 =>
 aB (fB (aN 3 v0 v1 h1)) fun v2 h2 =>
 fL [aC G true 3 v0 h2] h.length h2)
noncomputable def eF.f (G : aG) : Nat → dA
 | 0 => fun _ _ => none
 | k + 1 => fun args h => nH args fun x0 => (eF.c G k (eF.f G k) x0 h)
noncomputable def dD.ann : Ann := gE [] [] [] []
noncomputable def dD.env (G : aG) (k : Nat) (self : dA) : List (Nat × Bool × dA) := []
noncomputable def dD.c (G : aG) (k : Nat) (self : dA) (x0 : AV) (h : aF) : Option (AV × aF) := gA (
 aB (fF 97 (.agg [(.bool false), (.bool false), (.bool false), (.bool false), (.int .i64 0)]) h) fun v0 h0 =>
 aB (pu h0 (aQ Tryd.prog .eql 3 true x0 (.int .i64 1))) fun v1 h1 =>
 aK v1
 (aB (pu h1 (bA [(0, 1), (1, 1), (2, 1), (3, 1), (4, 1)] [(.bool false), (.bool false), (.bool false), (.bool false), (.int .i64 0)] [(0, (.bool true)), (4, (.int .i64 1))])) fun v2 h2 =>
 aB (fB (aN 5 v0 v2 h2)) fun v3 h3 =>
 fL [aC G true 5 v0 h3, some (.bool true)] h.length h3)
 (aB (pu h1 (aQ Tryd.prog .eql 3 true x0 (.int .i64 2))) fun v4 h4 =>
 aK v4
 (aB (pu h4 (bA [(0, 1), (1, 1), (2, 1), (3, 1), (4, 1)] [(.bool false), (.bool false), (.bool false), (.bool false), (.int .i64 0)] [(0, (.bool true)), (1, (.bool true))])) fun v5 h5 =>
 aB (fB (aN 5 v0 v5 h5)) fun v6 h6 =>
 fL [aC G true 5 v0 h6, some (.bool true)] h.length h6)
 (aB (pu h4 (aQ Tryd.prog .geq 3 true x0 (.int .i64 3))) fun v7 h7 =>
 aB (gd v7 true h7 (some (x0, h7))) fun v8 h8 =>
 aB (gd v7 true h8 (pu h8 (aQ Tryd.prog .leq 3 true v8 (.int .i64 9)))) fun v9 h9 =>
 aB (pu h9 (dJ v7 v9 (.bool false))) fun v10 h10 =>
 aB (gd v10 false h10 (some (x0, h10))) fun v11 h11 =>
 aB (gd v10 false h11 (pu h11 (aQ Tryd.prog .eql 3 true v11 (.int .i64 13)))) fun v12 h12 =>
 aB (pu h12 (dJ v10 (.bool true) v12)) fun v13 h13 =>
 aK v13
 (aB (pu h13 (bA [(0, 1), (1, 1), (2, 1), (3, 1), (4, 1)] [(.bool false), (.bool false), (.bool false), (.bool false), (.int .i64 0)] [(0, (.bool true)), (1, (.bool true)), (2, (.bool true))])) fun v14 h14 =>
 aB (fB (aN 5 v0 v14 h14)) fun v15 h15 =>
 fL [aC G true 5 v0 h15, some (.bool true)] h.length h15)
 (aB (pu h13 (aQ Tryd.prog .geq 3 true x0 (.int .i64 10))) fun v16 h16 =>
 aB (gd v16 true h16 (some (x0, h16))) fun v17 h17 =>
 aB (gd v16 true h17 (pu h17 (aQ Tryd.prog .leq 3 true v17 (.int .i64 12)))) fun v18 h18 =>
 aB (pu h18 (dJ v16 v18 (.bool false))) fun v19 h19 =>
 aK v19
 (aB (pu h19 (bA [(0, 1), (1, 1), (2, 1), (3, 1), (4, 1)] [(.bool false), (.bool false), (.bool false), (.bool false), (.int .i64 0)] [(0, (.bool true)), (1, (.bool true)), (4, (.int .i64 2))])) fun v20 h20 =>
 aB (fB (aN 5 v0 v20 h20)) fun v21 h21 =>
 fL [aC G true 5 v0 h21, some (.bool true)] h.length h21)
 (aB (pu h19 (aQ Tryd.prog .eql 3 true x0 (.int .i64 14))) fun v22 h22 =>
 aK v22
 (aB (pu h22 (bA [(0, 1), (1, 1), (2, 1), (3, 1), (4, 1)] [(.bool false), (.bool false), (.bool false), (.bool false), (.int .i64 0)] [(0, (.bool true)), (1, (.bool true)), (2, (.bool true)), (3, (.bool true))])) fun v23 h23 =>
 aB (fB (aN 5 v0 v23 h23)) fun v24 h24 =>
 fL [aC G true 5 v0 h24, some (.bool true)] h.length h24)
 (aB (pu h22 (aQ Tryd.prog .eql 3 true x0 (.int .i64 15))) fun v25 h25 =>
 aK v25
 (aB (pu h25 (bA [(0, 1), (1, 1), (2, 1), (3, 1), (4, 1)] [(.bool false), (.bool false), (.bool false), (.bool false), (.int .i64 0)] [(0, (.bool true)), (1, (.bool true)), (4, (.int .i64 3))])) fun v26 h26 =>
 aB (fB (aN 5 v0 v26 h26)) fun v27 h27 =>
 fL [aC G true 5 v0 h27, some (.bool true)] h.length h27)
 (aB (pu h25 (aQ Tryd.prog .eql 3 true x0 (.int .i64 16))) fun v28 h28 =>
 aK v28
 (aB (pu h28 (bA [(0, 1), (1, 1), (2, 1), (3, 1), (4, 1)] [(.bool false), (.bool false), (.bool false), (.bool false), (.int .i64 0)] [(1, (.bool true)), (2, (.bool true)), (4, (.int .i64 3))])) fun v29 h29 =>
 aB (fB (aN 5 v0 v29 h29)) fun v30 h30 =>
 fL [aC G true 5 v0 h30, some (.bool true)] h.length h30)
 (aB (pu h28 (aQ Tryd.prog .eql 3 true x0 (.int .i64 17))) fun v31 h31 =>
 aK v31
 (aB (pu h31 (bA [(0, 1), (1, 1), (2, 1), (3, 1), (4, 1)] [(.bool false), (.bool false), (.bool false), (.bool false), (.int .i64 0)] [(4, (.int .i64 4))])) fun v32 h32 =>
 aB (fB (aN 5 v0 v32 h32)) fun v33 h33 =>
 fL [aC G true 5 v0 h33, some (.bool true)] h.length h33)
 (aB (pu h31 (aQ Tryd.prog .eql 3 true x0 (.int .i64 18))) fun v34 h34 =>
 aB (gd v34 false h34 (some (x0, h34))) fun v35 h35 =>
 aB (gd v34 false h35 (pu h35 (aQ Tryd.prog .eql 3 true v35 (.int .i64 19)))) fun v36 h36 =>
 aB (pu h36 (dJ v34 (.bool true) v36)) fun v37 h37 =>
 aK v37
 (aB (pu h37 (bA [(0, 1), (1, 1), (2, 1), (3, 1), (4, 1)] [(.bool false), (.bool false), (.bool false), (.bool false), (.int .i64 0)] [(1, (.bool true)), (4, (.int .i64 4))])) fun v38 h38 =>
 aB (fB (aN 5 v0 v38 h38)) fun v39 h39 =>
 fL [aC G true 5 v0 h39, some (.bool true)] h.length h39)
 (aB (pu h37 (aQ Tryd.prog .eql 3 true x0 (.int .i64 20))) fun v40 h40 =>
 aK v40
 (aB (pu h40 (bA [(0, 1), (1, 1), (2, 1), (3, 1), (4, 1)] [(.bool false), (.bool false), (.bool false), (.bool false), (.int .i64 0)] [(4, (.int .i64 5))])) fun v41 h41 =>
 aB (fB (aN 5 v0 v41 h41)) fun v42 h42 =>
 fL [aC G true 5 v0 h42, some (.bool true)] h.length h42)
 (aB (pu h40 (bA [(0, 1), (1, 1), (2, 1), (3, 1), (4, 1)] [(.bool false), (.bool false), (.bool false), (.bool false), (.int .i64 0)] [])) fun v43 h43 =>
 aB (fB (aN 5 v0 v43 h43)) fun v44 h44 =>
 fL [aC G true 5 v0 h44, some (.bool false)] h.length h44)))))))))))
noncomputable def dD.f (G : aG) : Nat → dA
 | 0 => fun _ _ => none
 | k + 1 => fun args h => nH args fun x0 => (dD.c G k (dD.f G k) x0 h)
theorem dD.step (G : aG) (k : Nat) (x0 : AV) (h : aF) : dD.f G (k + 1) [x0] h = dD.c G k (dD.f G k) x0 h := rfl
noncomputable def bI.ann : Ann := gE [] [] [] []
noncomputable def bI.env (G : aG) (k : Nat) (self : dA) : List (Nat × Bool × dA) := []
noncomputable def bI.c (G : aG) (k : Nat) (self : dA) (x0 x1 x2 : AV) (h : aF) : Option (AV × aF) := gA (
 aB (gd x0 true h (some (x1, h))) fun v0 h0 =>
 aB (gd x0 true h0 (pu h0 (aQ Tryd.prog .lss 3 true v0 (.int .i64 0)))) fun v1 h1 =>
 aB (gd x0 true h1 (some (v1, h1))) fun v2 h2 =>
 aB (gd v2 false h2 (some (x1, h2))) fun v3 h3 =>
 aB (gd v2 false h3 (some (x2, h3))) fun v4 h4 =>
 aB (gd v2 false h4 (pu h4 (aQ Tryd.prog .geq 3 false v3 v4))) fun v5 h5 =>
 aB (gd x0 true h5 (pu h5 (dJ v2 (.bool true) v5))) fun v6 h6 =>
 aB (pu h6 (dJ x0 v6 (.bool false))) fun v7 h7 =>
 bQ [v7] h.length h7)
noncomputable def bI.f (G : aG) : Nat → dA
 | 0 => fun _ _ => none
 | k + 1 => fun args h => vX args fun x0 x1 x2 => (bI.c G k (bI.f G k) x0 x1 x2 h)
theorem bI.step (G : aG) (k : Nat) (x0 x1 x2 : AV) (h : aF) : bI.f G (k + 1) [x0, x1, x2] h = bI.c G k (bI.f G k) x0 x1 x2 h := rfl
noncomputable def bM.ann : Ann := gE [] [] [] []
noncomputable def bM.env (G : aG) (k : Nat) (self : dA) : List (Nat × Bool × dA) := []
noncomputable def bM.c (G : aG) (k : Nat) (self : dA) (x0 x1 : AV) (h : aF) : Option (AV × aF) := gA (
 aB (pu h (aQ Tryd.prog .geq 2 true x0 (.int .i64 0))) fun v0 h0 =>
 aB (gd v0 true h0 (some (x0, h0))) fun v1 h1 =>
 aB (gd v0 true h1 (some (x1, h1))) fun v2 h2 =>
 aB (gd v0 true h2 (pu h2 (aQ Tryd.prog .lss 2 false v1 v2))) fun v3 h3 =>
 aB (pu h3 (dJ v0 v3 (.bool false))) fun v4 h4 =>
 bQ [v4] h.length h4)
noncomputable def bM.f (G : aG) : Nat → dA
 | 0 => fun _ _ => none
 | k + 1 => fun args h => mJ args fun x0 x1 => (bM.c G k (bM.f G k) x0 x1 h)
theorem bM.step (G : aG) (k : Nat) (x0 x1 : AV) (h : aF) : bM.f G (k + 1) [x0, x1] h = bM.c G k (bM.f G k) x0 x1 h := rfl
noncomputable def dN.ann : Ann := gE [] [] [] []
noncomputable def dN.env (G : aG) (k : Nat) (self : dA) : List (Nat × Bool × dA) := []
noncomputable def dN.c (G : aG) (k : Nat) (self : dA) (h : aF) : Option (AV × aF) := gA (
 aB (fF 34 (.agg [(.int .i64 0), (.bool false), (.int .i64 0)]) h) fun v0 h0 =>
 aB (pu h0 (bA [(0, 1), (1, 1), (2, 1)] [(.int .i64 0), (.bool false), (.int .i64 0)] [])) fun v1 h1 =>
 aB (fB (aN 3 v0 v1 h1)) fun v2 h2 =>
 fL [aC G true 3 v0 h2] h.length h2)
noncomputable def dN.f (G : aG) : Nat → dA
 | 0 => fun _ _ => none
 | k + 1 => fun args h => aJy args (dN.c G k (dN.f G k) h)
noncomputable def cJ.ann : Ann := gE [] [] [] []
noncomputable def cJ.env (G : aG) (k : Nat) (self : dA) : List (Nat × Bool × dA) := [(45, true, dN.f G k)]
noncomputable def cJ.c (G : aG) (k : Nat) (self : dA) (x0 x1 : AV) (h : aF) : Option (AV × aF) := gA (
 aB (fF 34 (.agg [(.int .i64 0), (.bool false), (.int .i64 0)]) h) fun v0 h0 =>
 aB (pu h0 (aQ Tryd.prog .eql 3 true x0 (.int .i64 0))) fun v1 h1 =>
 aK v1
 (aB (aE (dN.f G k) [] h1) fun v2 h2 =>
 aB (fB (aN 3 v0 v2 h2)) fun v3 h3 =>
 fL [aC G true 3 v0 h3] h.length h3)
 (aB (pu h1 (bA [(0, 1), (1, 1), (2, 1)] [(.int .i64 0), (.bool false), (.int .i64 0)] [(0, x0), (1, (.bool true)), (2, x1)])) fun v4 h4 =>
 aB (fB (aN 3 v0 v4 h4)) fun v5 h5 =>
 fL [aC G true 3 v0 h5] h.length h5))
noncomputable def cJ.f (G : aG) : Nat → dA
 | 0 => fun _ _ => none
 | k + 1 => fun args h => mJ args fun x0 x1 => (cJ.c G k (cJ.f G k) x0 x1 h)
theorem cJ.step (G : aG) (k : Nat) (x0 x1 : AV) (h : aF) : cJ.f G (k + 1) [x0, x1] h = cJ.c G k (cJ.f G k) x0 x1 h := rfl
noncomputable def bH.ann : Ann := gE [] [] [(4, [1, 2, 3])] [(5, [1, 2, 3]), (19, [1, 2, 3, 7])]
noncomputable def bH.env (G : aG) (k : Nat) (self : dA) : List (Nat × Bool × dA) := [(35, true, eF.f G k), (41, true, dD.f G k), (42, true, bI.f G k), (43, true, bM.f G k), (44, true, cJ.f G k), (45, true, dN.f G k)]
noncomputable def bH.l4 (G : aG) (k n0 : Nat) (self : dA) (lp : iV) : iV := fun xs h0 => qS n0 xs h0 fun h =>
 aB (pu h (aA 0 (aI xs 0))) fun v25 h25 =>
 aB (pu h25 (aC G false 1 v25 h25)) fun v26 h26 =>
 aB (pu h26 (dH v26)) fun v27 h27 =>
 aB (pu h27 (aQ Tryd.prog .lss 3 false (aI xs 2) v27)) fun v28 h28 =>
 aK v28
 (eM (
 aB (pu h28 (aA 0 (aI xs 0))) fun v29 h29 =>
 aB (pu h29 (aC G false 1 v29 h29)) fun v30 h30 =>
 aB (pu h30 (cF 6 v30 (aI xs 2))) fun v31 h31 =>
 aB (pu h31 (aC G true 6 v31 h31)) fun v32 h32 =>
 aB (fF 60 (.agg [(.int .i64 0), (.int .i64 0), (.int .i64 0), (.int .i64 0), (.int .i64 0), (.int .i64 0)]) h32) fun v33 h33 =>
 aB (fB (aN 6 v33 v32 h33)) fun v34 h34 =>
 aB (pu h34 (aA 0 v33)) fun v35 h35 =>
 aB (pu h35 (aC G false 1 v35 h35)) fun v36 h36 =>
 aB (aE (dD.f G k) [v36] h36) fun v37 h37 =>
 aB (pu h37 (cU v37 0)) fun v38 h38 =>
 aB (pu h38 (cU v37 1)) fun v39 h39 =>
 aB (fF 97 (.agg [(.bool false), (.bool false), (.bool false), (.bool false), (.int .i64 0)]) h39) fun v40 h40 =>
 aB (fB (aN 5 v40 v38 h40)) fun v41 h41 =>
 eM (
 aB (pu h41 (un .not v39)) fun v42 h42 =>
 aK v42
 (some (.normal, [(aI xs 0), (aI xs 1), (aI xs 2), (.int .i64 106)], h42))
 (aB (pu h42 (aA 0 v40)) fun v43 h43 =>
 aB (pu h43 (aC G false 1 v43 h43)) fun v44 h44 =>
 aB (pu h44 (aA 1 v33)) fun v45 h45 =>
 aB (pu h45 (aC G false 1 v45 h45)) fun v46 h46 =>
 aB (pu h46 (aA 1 (aI xs 0))) fun v47 h47 =>
 aB (pu h47 (aC G false 1 v47 h47)) fun v48 h48 =>
 aB (aE (bI.f G k) [v44, v46, v48] h48) fun v49 h49 =>
 aB (gd v49 false h49 (pu h49 (aA 1 v40))) fun v50 h50 =>
 aB (gd v49 false h50 (pu h50 (aC G false 1 v50 h50))) fun v51 h51 =>
 aB (gd v49 false h51 (pu h51 (aA 2 v33))) fun v52 h52 =>
 aB (gd v49 false h52 (pu h52 (aC G false 1 v52 h52))) fun v53 h53 =>
 aB (gd v49 false h53 (pu h53 (aA 1 (aI xs 0)))) fun v54 h54 =>
 aB (gd v49 false h54 (pu h54 (aC G false 1 v54 h54))) fun v55 h55 =>
 aB (gd v49 false h55 (aE (bI.f G k) [v51, v53, v55] h55)) fun v56 h56 =>
 aB (pu h56 (dJ v49 (.bool true) v56)) fun v57 h57 =>
 aB (gd v57 false h57 (pu h57 (aA 2 v40))) fun v58 h58 =>
 aB (gd v57 false h58 (pu h58 (aC G false 1 v58 h58))) fun v59 h59 =>
 aB (gd v57 false h59 (pu h59 (aA 3 v33))) fun v60 h60 =>
 aB (gd v57 false h60 (pu h60 (aC G false 1 v60 h60))) fun v61 h61 =>
 aB (gd v57 false h61 (pu h61 (aA 1 (aI xs 0)))) fun v62 h62 =>
 aB (gd v57 false h62 (pu h62 (aC G false 1 v62 h62))) fun v63 h63 =>
 aB (gd v57 false h63 (aE (bI.f G k) [v59, v61, v63] h63)) fun v64 h64 =>
 aB (pu h64 (dJ v57 (.bool true) v64)) fun v65 h65 =>
 aB (gd v65 false h65 (pu h65 (aA 3 v40))) fun v66 h66 =>
 aB (gd v65 false h66 (pu h66 (aC G false 1 v66 h66))) fun v67 h67 =>
 aB (gd v65 false h67 (pu h67 (aA 4 v33))) fun v68 h68 =>
 aB (gd v65 false h68 (pu h68 (aC G false 1 v68 h68))) fun v69 h69 =>
 aB (gd v65 false h69 (pu h69 (aA 1 (aI xs 0)))) fun v70 h70 =>
 aB (gd v65 false h70 (pu h70 (aC G false 1 v70 h70))) fun v71 h71 =>
 aB (gd v65 false h71 (aE (bI.f G k) [v67, v69, v71] h71)) fun v72 h72 =>
 aB (pu h72 (dJ v65 (.bool true) v72)) fun v73 h73 =>
 aK v73
 (some (.normal, [(aI xs 0), (aI xs 1), (aI xs 2), (.int .i64 101)], h73))
 (aB (pu h73 (aA 0 v40)) fun v74 h74 =>
 aB (pu h74 (aC G false 1 v74 h74)) fun v75 h75 =>
 aB (pu h75 (un .not v75)) fun v76 h76 =>
 aB (gd v76 true h76 (pu h76 (aA 1 v33))) fun v77 h77 =>
 aB (gd v76 true h77 (pu h77 (aC G false 1 v77 h77))) fun v78 h78 =>
 aB (gd v76 true h78 (pu h78 (aQ Tryd.prog .neq 3 true v78 (.int .i64 0)))) fun v79 h79 =>
 aB (pu h79 (dJ v76 v79 (.bool false))) fun v80 h80 =>
 aB (gd v80 false h80 (pu h80 (aA 1 v40))) fun v81 h81 =>
 aB (gd v80 false h81 (pu h81 (aC G false 1 v81 h81))) fun v82 h82 =>
 aB (gd v80 false h82 (pu h82 (un .not v82))) fun v83 h83 =>
 aB (gd v80 false h83 (some (v83, h83))) fun v84 h84 =>
 aB (gd v84 true h84 (pu h84 (aA 2 v33))) fun v85 h85 =>
 aB (gd v84 true h85 (pu h85 (aC G false 1 v85 h85))) fun v86 h86 =>
 aB (gd v84 true h86 (pu h86 (aQ Tryd.prog .neq 3 true v86 (.int .i64 0)))) fun v87 h87 =>
 aB (gd v80 false h87 (pu h87 (dJ v84 v87 (.bool false)))) fun v88 h88 =>
 aB (pu h88 (dJ v80 (.bool true) v88)) fun v89 h89 =>
 aB (gd v89 false h89 (pu h89 (aA 2 v40))) fun v90 h90 =>
 aB (gd v89 false h90 (pu h90 (aC G false 1 v90 h90))) fun v91 h91 =>
 aB (gd v89 false h91 (pu h91 (un .not v91))) fun v92 h92 =>
 aB (gd v89 false h92 (some (v92, h92))) fun v93 h93 =>
 aB (gd v93 true h93 (pu h93 (aA 3 v33))) fun v94 h94 =>
 aB (gd v93 true h94 (pu h94 (aC G false 1 v94 h94))) fun v95 h95 =>
 aB (gd v93 true h95 (pu h95 (aQ Tryd.prog .neq 3 true v95 (.int .i64 0)))) fun v96 h96 =>
 aB (gd v89 false h96 (pu h96 (dJ v93 v96 (.bool false)))) fun v97 h97 =>
 aB (pu h97 (dJ v89 (.bool true) v97)) fun v98 h98 =>
 aB (gd v98 false h98 (pu h98 (aA 3 v40))) fun v99 h99 =>
 aB (gd v98 false h99 (pu h99 (aC G false 1 v99 h99))) fun v100 h100 =>
 aB (gd v98 false h100 (pu h100 (un .not v100))) fun v101 h101 =>
 aB (gd v98 false h101 (some (v101, h101))) fun v102 h102 =>
 aB (gd v102 true h102 (pu h102 (aA 4 v33))) fun v103 h103 =>
 aB (gd v102 true h103 (pu h103 (aC G false 1 v103 h103))) fun v104 h104 =>
 aB (gd v102 true h104 (pu h104 (aQ Tryd.prog .neq 3 true v104 (.int .i64 0)))) fun v105 h105 =>
 aB (gd v98 false h105 (pu h105 (dJ v102 v105 (.bool false)))) fun v106 h106 =>
 aB (pu h106 (dJ v98 (.bool true) v106)) fun v107 h107 =>
 aB (gd v107 false h107 (pu h107 (aA 4 v40))) fun v108 h108 =>
 aB (gd v107 false h108 (pu h108 (aC G false 1 v108 h108))) fun v109 h109 =>
 aB (gd v107 false h109 (pu h109 (aQ Tryd.prog .eql 3 true v109 (.int .i64 0)))) fun v110 h110 =>
 aB (gd v107 false h110 (some (v110, h110))) fun v111 h111 =>
 aB (gd v111 true h111 (pu h111 (aA 5 v33))) fun v112 h112 =>
 aB (gd v111 true h112 (pu h112 (aC G false 1 v112 h112))) fun v113 h113 =>
 aB (gd v111 true h113 (pu h113 (aQ Tryd.prog .neq 2 true v113 (.int .i64 0)))) fun v114 h114 =>
 aB (gd v107 false h114 (pu h114 (dJ v111 v114 (.bool false)))) fun v115 h115 =>
 aB (pu h115 (dJ v107 (.bool true) v115)) fun v116 h116 =>
 aK v116
 (some (.normal, [(aI xs 0), (aI xs 1), (aI xs 2), (.int .i64 104)], h116))
 (aB (pu h116 (aA 4 v40)) fun v117 h117 =>
 aB (pu h117 (aC G false 1 v117 h117)) fun v118 h118 =>
 aB (pu h118 (aQ Tryd.prog .eql 3 true v118 (.int .i64 2))) fun v119 h119 =>
 aB (gd v119 true h119 (pu h119 (aA 5 v33))) fun v120 h120 =>
 aB (gd v119 true h120 (pu h120 (aC G false 1 v120 h120))) fun v121 h121 =>
 aB (gd v119 true h121 (aE (bM.f G k) [v121, (.int .i64 64)] h121)) fun v122 h122 =>
 aB (gd v119 true h122 (pu h122 (un .not v122))) fun v123 h123 =>
 aB (pu h123 (dJ v119 v123 (.bool false))) fun v124 h124 =>
 aB (gd v124 false h124 (pu h124 (aA 4 v40))) fun v125 h125 =>
 aB (gd v124 false h125 (pu h125 (aC G false 1 v125 h125))) fun v126 h126 =>
 aB (gd v124 false h126 (pu h126 (aQ Tryd.prog .eql 3 true v126 (.int .i64 5)))) fun v127 h127 =>
 aB (gd v124 false h127 (some (v127, h127))) fun v128 h128 =>
 aB (gd v128 true h128 (pu h128 (aA 5 v33))) fun v129 h129 =>
 aB (gd v128 true h129 (pu h129 (aC G false 1 v129 h129))) fun v130 h130 =>
 aB (gd v128 true h130 (aE (bM.f G k) [v130, (.int .i64 3)] h130)) fun v131 h131 =>
 aB (gd v128 true h131 (pu h131 (un .not v131))) fun v132 h132 =>
 aB (gd v124 false h132 (pu h132 (dJ v128 v132 (.bool false)))) fun v133 h133 =>
 aB (pu h133 (dJ v124 (.bool true) v133)) fun v134 h134 =>
 aB (gd v134 false h134 (pu h134 (aA 4 v40))) fun v135 h135 =>
 aB (gd v134 false h135 (pu h135 (aC G false 1 v135 h135))) fun v136 h136 =>
 aB (gd v134 false h136 (pu h136 (aQ Tryd.prog .eql 3 true v136 (.int .i64 3)))) fun v137 h137 =>
 aB (gd v134 false h137 (some (v137, h137))) fun v138 h138 =>
 aB (gd v138 true h138 (pu h138 (aA 5 v33))) fun v139 h139 =>
 aB (gd v138 true h139 (pu h139 (aC G false 1 v139 h139))) fun v140 h140 =>
 aB (gd v138 true h140 (aE (bM.f G k) [v140, (.int .i64 65536)] h140)) fun v141 h141 =>
 aB (gd v138 true h141 (pu h141 (un .not v141))) fun v142 h142 =>
 aB (gd v134 false h142 (pu h142 (dJ v138 v142 (.bool false)))) fun v143 h143 =>
 aB (pu h143 (dJ v134 (.bool true) v143)) fun v144 h144 =>
 aK v144
 (some (.normal, [(aI xs 0), (aI xs 1), (aI xs 2), (.int .i64 101)], h144))
 (aB (pu h144 (aA 4 v40)) fun v145 h145 =>
 aB (pu h145 (aC G false 1 v145 h145)) fun v146 h146 =>
 aB (pu h146 (aQ Tryd.prog .eql 3 true v146 (.int .i64 4))) fun v147 h147 =>
 aB (gd v147 true h147 (pu h147 (aA 5 v33))) fun v148 h148 =>
 aB (gd v147 true h148 (pu h148 (aC G false 1 v148 h148))) fun v149 h149 =>
 aB (gd v147 true h149 (pu h149 (aA 0 (aI xs 0)))) fun v150 h150 =>
 aB (gd v147 true h150 (pu h150 (aC G false 1 v150 h150))) fun v151 h151 =>
 aB (gd v147 true h151 (pu h151 (dH v151))) fun v152 h152 =>
 aB (gd v147 true h152 (pu h152 (aQ Tryd.prog .add 3 true v152 (.int .i64 1)))) fun v153 h153 =>
 aB (gd v147 true h153 (aE (bM.f G k) [v149, v153] h153)) fun v154 h154 =>
 aB (gd v147 true h154 (pu h154 (un .not v154))) fun v155 h155 =>
 aB (pu h155 (dJ v147 v155 (.bool false))) fun v156 h156 =>
 aK v156
 (some (.normal, [(aI xs 0), (aI xs 1), (aI xs 2), (.int .i64 109)], h156))
 (some (.normal, [(aI xs 0), (aI xs 1), (aI xs 2), (.int .i64 0)], h156))))))) fun e157 x157 h157 => jJ e157
 (aB (pu h157 (aQ Tryd.prog .neq 3 true (aI x157 3) (.int .i64 0))) fun v158 h158 =>
 aK v158
 (aB (aE (cJ.f G k) [(aI x157 3), (aI x157 2)] h158) fun v159 h159 =>
 aB (fB (aN 3 (aI x157 1) v159 h159)) fun v160 h160 =>
 some (.ret, [(aI x157 0), (aI x157 1), (aI x157 2)], h160))
 (some (.normal, [(aI x157 0), (aI x157 1), (aI x157 2)], h158)))
 (fun i157 => if i157 = 1 then (some (.normal, [(aI x157 0), (aI x157 1), (aI x157 2)], h157)) else (some (.exit i157, [(aI x157 0), (aI x157 1), (aI x157 2)], h157)))
 (some (.ret, [(aI x157 0), (aI x157 1), (aI x157 2)], h157))) fun e161 x161 h161 => jJ e161
 (aB (pu h161 (aQ Tryd.prog .add 3 true (aI x161 2) (.int .i64 1))) fun v162 h162 =>
 lp [(aI x161 0), (aI x161 1), v162] h162)
 (fun i161 => some (.exit i161, [(aI x161 0), (aI x161 1), (aI x161 2)], h161))
 (some (.ret, [(aI x161 0), (aI x161 1), (aI x161 2)], h161)))
 (some (.exit 0, [(aI xs 0), (aI xs 1), (aI xs 2)], h28))
noncomputable def bH.c (G : aG) (k : Nat) (self : dA) (x0 : AV) (h : aF) : Option (AV × aF) := gA (
 aB (dP x0 h) fun v0 h0 =>
 aB (fF 34 (.agg [(.int .i64 0), (.bool false), (.int .i64 0)]) h0) fun v1 h1 =>
 aB (pu h1 (aA 0 v0)) fun v2 h2 =>
 aB (pu h2 (aC G false 1 v2 h2)) fun v3 h3 =>
 aB (pu h3 (dH v3)) fun v4 h4 =>
 aB (pu h4 (aQ Tryd.prog .gtr 3 true v4 (.int .i64 262144))) fun v5 h5 =>
 aB (gd v5 false h5 (pu h5 (aA 1 v0))) fun v6 h6 =>
 aB (gd v5 false h6 (pu h6 (aC G false 1 v6 h6))) fun v7 h7 =>
 aB (gd v5 false h7 (pu h7 (aQ Tryd.prog .lss 3 true v7 (.int .i64 0)))) fun v8 h8 =>
 aB (pu h8 (dJ v5 (.bool true) v8)) fun v9 h9 =>
 aB (gd v9 false h9 (pu h9 (aA 1 v0))) fun v10 h10 =>
 aB (gd v9 false h10 (pu h10 (aC G false 1 v10 h10))) fun v11 h11 =>
 aB (gd v9 false h11 (pu h11 (aQ Tryd.prog .gtr 3 true v11 (.int .i64 65536)))) fun v12 h12 =>
 aB (pu h12 (dJ v9 (.bool true) v12)) fun v13 h13 =>
 aB (gd v13 false h13 (pu h13 (aA 2 v0))) fun v14 h14 =>
 aB (gd v13 false h14 (pu h14 (aC G false 1 v14 h14))) fun v15 h15 =>
 aB (gd v13 false h15 (pu h15 (aQ Tryd.prog .lss 3 true v15 (.int .i64 0)))) fun v16 h16 =>
 aB (pu h16 (dJ v13 (.bool true) v16)) fun v17 h17 =>
 aB (gd v17 false h17 (pu h17 (aA 2 v0))) fun v18 h18 =>
 aB (gd v17 false h18 (pu h18 (aC G false 1 v18 h18))) fun v19 h19 =>
 aB (gd v17 false h19 (pu h19 (aQ Tryd.prog .gtr 3 true v19 (.int .i64 65536)))) fun v20 h20 =>
 aB (pu h20 (dJ v17 (.bool true) v20)) fun v21 h21 =>
 aK v21
 (aB (aE (eF.f G k) [(.int .i64 103)] h21) fun v22 h22 =>
 aB (fB (aN 3 v1 v22 h22)) fun v23 h23 =>
 fL [aC G true 3 v1 h23] h.length h23)
 (eM (gP (bH.l4 G k h21.length self) k [v0, v1, (.int .i64 0)] h21) fun e24 x24 h24 => jJ e24
 (aB (aE (dN.f G k) [] h24) fun v163 h163 =>
 aB (fB (aN 3 (aI x24 1) v163 h163)) fun v164 h164 =>
 fL [aC G true 3 (aI x24 1) h164] h.length h164)
 (fun i24 => if i24 = 0 then (aB (aE (dN.f G k) [] h24) fun v165 h165 =>
 aB (fB (aN 3 (aI x24 1) v165 h165)) fun v166 h166 =>
 fL [aC G true 3 (aI x24 1) h166] h.length h166) else (none))
 (fL [aC G true 3 (aI x24 1) h24] h.length h24)))
noncomputable def bH.f (G : aG) : Nat → dA
 | 0 => fun _ _ => none
 | k + 1 => fun args h => nH args fun x0 => (bH.c G k (bH.f G k) x0 h)
theorem bH.step (G : aG) (k : Nat) (x0 : AV) (h : aF) : bH.f G (k + 1) [x0] h = bH.c G k (bH.f G k) x0 h := rfl
noncomputable def bE.ann : Ann := gE [] [] [] []
noncomputable def bE.env (G : aG) (k : Nat) (self : dA) : List (Nat × Bool × dA) := []
noncomputable def bE.c (G : aG) (k : Nat) (self : dA) (x0 x1 : AV) (h : aF) : Option (AV × aF) := gA (
 aB (dP x0 h) fun v0 h0 =>
 aB (dP x1 h0) fun v1 h1 =>
 aB (pu h1 (aA 0 v0)) fun v2 h2 =>
 aB (pu h2 (aC G false 1 v2 h2)) fun v3 h3 =>
 aB (pu h3 (aA 0 v1)) fun v4 h4 =>
 aB (pu h4 (aC G false 1 v4 h4)) fun v5 h5 =>
 aB (pu h5 (aQ Tryd.prog .eql 3 false v3 v5)) fun v6 h6 =>
 aB (gd v6 true h6 (pu h6 (aA 1 v0))) fun v7 h7 =>
 aB (gd v6 true h7 (pu h7 (aC G false 1 v7 h7))) fun v8 h8 =>
 aB (gd v6 true h8 (pu h8 (aA 1 v1))) fun v9 h9 =>
 aB (gd v6 true h9 (pu h9 (aC G false 1 v9 h9))) fun v10 h10 =>
 aB (gd v6 true h10 (pu h10 (aQ Tryd.prog .eql 2 false v8 v10))) fun v11 h11 =>
 aB (pu h11 (dJ v6 v11 (.bool false))) fun v12 h12 =>
 bQ [v12] h.length h12)
noncomputable def bE.f (G : aG) : Nat → dA
 | 0 => fun _ _ => none
 | k + 1 => fun args h => mJ args fun x0 x1 => (bE.c G k (bE.f G k) x0 x1 h)
theorem bE.step (G : aG) (k : Nat) (x0 x1 : AV) (h : aF) : bE.f G (k + 1) [x0, x1] h = bE.c G k (bE.f G k) x0 x1 h := rfl
noncomputable def aS.ann : Ann := gE [] [] [(4, [0, 1, 4, 5])] []
noncomputable def aS.env (G : aG) (k : Nat) (self : dA) : List (Nat × Bool × dA) := [(50, true, bE.f G k)]
noncomputable def aS.l4 (G : aG) (k n0 : Nat) (self : dA) (lp : iV) : iV := fun xs h0 => qS n0 xs h0 fun h =>
 aB (pu h (dH (aI xs 0))) fun v4 h4 =>
 aB (pu h4 (aQ Tryd.prog .lss 3 false (aI xs 3) v4)) fun v5 h5 =>
 aK v5
 (aB (pu h5 (cF 2 (aI xs 0) (aI xs 3))) fun v6 h6 =>
 aB (pu h6 (aC G true 2 v6 h6)) fun v7 h7 =>
 aB (pu h7 (cF 2 (aI xs 1) (aI xs 3))) fun v8 h8 =>
 aB (pu h8 (aC G true 2 v8 h8)) fun v9 h9 =>
 aB (aE (bE.f G k) [v7, v9] h9) fun v10 h10 =>
 aB (pu h10 (un .not v10)) fun v11 h11 =>
 aK v11
 (some (.ret, [(aI xs 0), (aI xs 1), (.bool false), (aI xs 3)], h11))
 (aB (pu h11 (aQ Tryd.prog .add 3 true (aI xs 3) (.int .i64 1))) fun v12 h12 =>
 lp [(aI xs 0), (aI xs 1), (aI xs 2), v12] h12))
 (some (.exit 0, [(aI xs 0), (aI xs 1), (aI xs 2), (aI xs 3)], h5))
noncomputable def aS.c (G : aG) (k : Nat) (self : dA) (x0 x1 : AV) (h : aF) : Option (AV × aF) := gA (
 aB (pu h (dH x0)) fun v0 h0 =>
 aB (pu h0 (dH x1)) fun v1 h1 =>
 aB (pu h1 (aQ Tryd.prog .neq 3 false v0 v1)) fun v2 h2 =>
 aK v2
 (bQ [(.bool false)] h.length h2)
 (eM (gP (aS.l4 G k h2.length self) k [x0, x1, (.bool false), (.int .i64 0)] h2) fun e3 x3 h3 => jJ e3
 (bQ [(.bool true)] h.length h3)
 (fun i3 => if i3 = 0 then (bQ [(.bool true)] h.length h3) else (none))
 (bQ [(aI x3 2)] h.length h3)))
noncomputable def aS.f (G : aG) : Nat → dA
 | 0 => fun _ _ => none
 | k + 1 => fun args h => mJ args fun x0 x1 => (aS.c G k (aS.f G k) x0 x1 h)
theorem aS.step (G : aG) (k : Nat) (x0 x1 : AV) (h : aF) : aS.f G (k + 1) [x0, x1] h = aS.c G k (aS.f G k) x0 x1 h := rfl
noncomputable def alembiclaw24_SelectHides.ann : Ann := gE [] [] [] []
noncomputable def alembiclaw24_SelectHides.env (G : aG) (k : Nat) (self : dA) : List (Nat × Bool × dA) := [(15, true, dI.f G k), (16, true, cC.f G k), (17, true, cA.f G k), (18, true, bH.f G k), (19, true, bX.f G k), (20, true, bN.f G k), (21, true, aS.f G k), (22, true, aX.f G k)]
noncomputable def alembiclaw24_SelectHides.c (G : aG) (k : Nat) (self : dA) (x0 x1 x2 : AV) (h : aF) : Option (AV × aF) := gA (
 aB (dP x0 h) fun v0 h0 =>
 aB (aE (dI.f G k) [] h0) fun v1 h1 =>
 aB (pu h1 (un .not v1)) fun v2 h2 =>
 aK v2
 (bQ [(.bool false)] h.length h2)
 (aB (pu h2 (aC G true 3 v0 h2)) fun v3 h3 =>
 aB (aE (cC.f G k) [v3, x1] h3) fun v4 h4 =>
 aB (pu h4 (un .not v4)) fun v5 h5 =>
 aB (gd v5 false h5 (some (x1, h5))) fun v6 h6 =>
 aB (gd v5 false h6 (pu h6 (dH v6))) fun v7 h7 =>
 aB (gd v5 false h7 (pu h7 (aA 2 v0))) fun v8 h8 =>
 aB (gd v5 false h8 (pu h8 (aC G false 1 v8 h8))) fun v9 h9 =>
 aB (gd v5 false h9 (pu h9 (aQ Tryd.prog .neq 3 false v7 v9))) fun v10 h10 =>
 aB (pu h10 (dJ v5 (.bool true) v10)) fun v11 h11 =>
 aB (gd v11 false h11 (some (x2, h11))) fun v12 h12 =>
 aB (gd v11 false h12 (pu h12 (dH v12))) fun v13 h13 =>
 aB (gd v11 false h13 (pu h13 (aA 2 v0))) fun v14 h14 =>
 aB (gd v11 false h14 (pu h14 (aC G false 1 v14 h14))) fun v15 h15 =>
 aB (gd v11 false h15 (pu h15 (aQ Tryd.prog .neq 3 false v13 v15))) fun v16 h16 =>
 aB (pu h16 (dJ v11 (.bool true) v16)) fun v17 h17 =>
 aB (gd v17 false h17 (pu h17 (aA 1 v0))) fun v18 h18 =>
 aB (gd v17 false h18 (pu h18 (aC G false 1 v18 h18))) fun v19 h19 =>
 aB (gd v17 false h19 (pu h19 (aQ Tryd.prog .gtr 3 true v19 (.int .i64 28)))) fun v20 h20 =>
 aB (pu h20 (dJ v17 (.bool true) v20)) fun v21 h21 =>
 aK v21
 (bQ [v1] h.length h21)
 (aB (pu h21 (aC G true 3 v0 h21)) fun v22 h22 =>
 aB (aE (cA.f G k) [v22] h22) fun v23 h23 =>
 aB (pu h23 (cU v23 0)) fun v24 h24 =>
 aB (pu h24 (cU v23 1)) fun v25 h25 =>
 aB (pu h25 (aQ Tryd.prog .neq 30 true v25 .nili)) fun v26 h26 =>
 aK v26
 (aB (gd v1 true h26 (pu h26 (aC G true 3 v0 h26))) fun v27 h27 =>
 aB (gd v1 true h27 (aE (bX.f G k) [v27] h27)) fun v28 h28 =>
 aB (gd v1 true h28 (aE (bH.f G k) [v28] h28)) fun v29 h29 =>
 aB (gd v1 true h29 (pu h29 (aCf false 1 0 v29))) fun v30 h30 =>
 aB (gd v1 true h30 (pu h30 (aQ Tryd.prog .neq 3 true v30 (.int .i64 0)))) fun v31 h31 =>
 aB (pu h31 (dJ v1 v31 (.bool false))) fun v32 h32 =>
 bQ [v32] h.length h32)
 (aB (pu h26 (aC G true 3 v0 h26)) fun v33 h33 =>
 aB (aE (bX.f G k) [v33] h33) fun v34 h34 =>
 aB (aE (bN.f G k) [v34, .nils, x1, (.int .i64 300)] h34) fun v35 h35 =>
 aB (fF 40 (.agg [(.int .i64 0), .nils, .nils, (.int .i64 0), (.int .i64 0)]) h35) fun v36 h36 =>
 aB (fB (aN 5 v36 v35 h36)) fun v37 h37 =>
 aB (pu h37 (aC G true 3 v0 h37)) fun v38 h38 =>
 aB (aE (bX.f G k) [v38] h38) fun v39 h39 =>
 aB (aE (bN.f G k) [v39, .nils, x2, (.int .i64 300)] h39) fun v40 h40 =>
 aB (fF 40 (.agg [(.int .i64 0), .nils, .nils, (.int .i64 0), (.int .i64 0)]) h40) fun v41 h41 =>
 aB (fB (aN 5 v41 v40 h41)) fun v42 h42 =>
 aB (pu h42 (aA 0 v36)) fun v43 h43 =>
 aB (pu h43 (aC G false 1 v43 h43)) fun v44 h44 =>
 aB (pu h44 (aQ Tryd.prog .eql 3 true v44 (.int .i64 4))) fun v45 h45 =>
 aB (gd v45 false h45 (pu h45 (aA 0 v41))) fun v46 h46 =>
 aB (gd v45 false h46 (pu h46 (aC G false 1 v46 h46))) fun v47 h47 =>
 aB (gd v45 false h47 (pu h47 (aQ Tryd.prog .eql 3 true v47 (.int .i64 4)))) fun v48 h48 =>
 aB (pu h48 (dJ v45 (.bool true) v48)) fun v49 h49 =>
 aB (gd v49 false h49 (pu h49 (aA 2 v36))) fun v50 h50 =>
 aB (gd v49 false h50 (pu h50 (aC G false 1 v50 h50))) fun v51 h51 =>
 aB (gd v49 false h51 (pu h51 (aA 2 v41))) fun v52 h52 =>
 aB (gd v49 false h52 (pu h52 (aC G false 1 v52 h52))) fun v53 h53 =>
 aB (gd v49 false h53 (aE (aS.f G k) [v51, v53] h53)) fun v54 h54 =>
 aB (gd v49 false h54 (pu h54 (un .not v54))) fun v55 h55 =>
 aB (pu h55 (dJ v49 (.bool true) v55)) fun v56 h56 =>
 aK v56
 (bQ [v1] h.length h56)
 (aB (aE (aX.f G k) [v24, x1, (.int .i64 4864)] h56) fun v57 h57 =>
 aB (fF 46 (.agg [(.int .i64 0), .nils, (.int .u64 0), (.int .u64 0), (.int .u64 0), (.int .u64 0), (.int .u64 0), (.int .u64 0), (.int .u64 0), (.int .u64 0), (.int .u64 0), (.int .u64 0), (.int .u64 0), (.int .u64 0), (.int .u64 0), (.int .u64 0), (.int .u64 0), (.int .u64 0), (.int .u64 0), (.int .u64 0), (.int .u64 0), (.int .u64 0), (.int .u64 0), (.int .u64 0), (.int .u64 0), (.int .u64 0), (.int .u64 0), (.int .u64 0), (.int .u64 0), (.int .u64 0), (.int .u64 0), (.int .u64 0), (.int .u64 0), .nils, (.int .i64 0)]) h57) fun v58 h58 =>
 aB (fB (aN 35 v58 v57 h58)) fun v59 h59 =>
 aB (aE (aX.f G k) [v24, x2, (.int .i64 4864)] h59) fun v60 h60 =>
 aB (fF 46 (.agg [(.int .i64 0), .nils, (.int .u64 0), (.int .u64 0), (.int .u64 0), (.int .u64 0), (.int .u64 0), (.int .u64 0), (.int .u64 0), (.int .u64 0), (.int .u64 0), (.int .u64 0), (.int .u64 0), (.int .u64 0), (.int .u64 0), (.int .u64 0), (.int .u64 0), (.int .u64 0), (.int .u64 0), (.int .u64 0), (.int .u64 0), (.int .u64 0), (.int .u64 0), (.int .u64 0), (.int .u64 0), (.int .u64 0), (.int .u64 0), (.int .u64 0), (.int .u64 0), (.int .u64 0), (.int .u64 0), (.int .u64 0), (.int .u64 0), .nils, (.int .i64 0)]) h60) fun v61 h61 =>
 aB (fB (aN 35 v61 v60 h61)) fun v62 h62 =>
 aB (gd v1 true h62 (pu h62 (aA 33 v58))) fun v63 h63 =>
 aB (gd v1 true h63 (pu h63 (aC G false 1 v63 h63))) fun v64 h64 =>
 aB (gd v1 true h64 (pu h64 (aA 33 v61))) fun v65 h65 =>
 aB (gd v1 true h65 (pu h65 (aC G false 1 v65 h65))) fun v66 h66 =>
 aB (gd v1 true h66 (aE (aS.f G k) [v64, v66] h66)) fun v67 h67 =>
 aB (pu h67 (dJ v1 v67 (.bool false))) fun v68 h68 =>
 bQ [v68] h.length h68)))))
noncomputable def alembiclaw24_SelectHides.f (G : aG) : Nat → dA
 | 0 => fun _ _ => none
 | k + 1 => fun args h => vX args fun x0 x1 x2 => (alembiclaw24_SelectHides.c G k (alembiclaw24_SelectHides.f G k) x0 x1 x2 h)
theorem alembiclaw24_SelectHides.step (G : aG) (k : Nat) (x0 x1 x2 : AV) (h : aF) : alembiclaw24_SelectHides.f G (k + 1) [x0, x1, x2] h = alembiclaw24_SelectHides.c G k (alembiclaw24_SelectHides.f G k) x0 x1 x2 h := rfl
end Go.Proofs.YtdfglgnflldkpaaDoor.Mir
