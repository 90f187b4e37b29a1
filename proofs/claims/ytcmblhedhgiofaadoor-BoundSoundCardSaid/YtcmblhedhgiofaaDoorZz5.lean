/- Part 5 of the proof: the functions that the statement reaches, and their contracts. -/
import Derived.Test.YtcmblhedhgiofaaDoorZz4
import Derived.Test.YtcmblhedhgiofaaDoorProg
namespace Go.Proofs.YtcmblhedhgiofaaDoor.Mir
open Go
set_option linter.unusedVariables false
noncomputable def dS.ann : Ann := fO [] [] [] []
noncomputable def dS.env (G : aE) (k : Nat) (self : cY) : List (Nat × Bool × cY) := []
noncomputable def dS.c (G : aE) (k : Nat) (self : cY) (x0 : AV) (h : aB) : Option (AV × aB) := fD (
 aD (pu h (bE Tryd.prog .eql 3 true x0 (.int .i64 3))) fun v0 h0 =>
 bA v0
 (cT [(.str ⟨#[97, 100, 100]⟩)] h.length h0)
 (aD (pu h0 (bE Tryd.prog .eql 3 true x0 (.int .i64 4))) fun v1 h1 =>
 bA v1
 (cT [(.str ⟨#[115, 117, 98]⟩)] h.length h1)
 (aD (pu h1 (bE Tryd.prog .eql 3 true x0 (.int .i64 5))) fun v2 h2 =>
 bA v2
 (cT [(.str ⟨#[109, 117, 108]⟩)] h.length h2)
 (aD (pu h2 (bE Tryd.prog .eql 3 true x0 (.int .i64 6))) fun v3 h3 =>
 bA v3
 (cT [(.str ⟨#[104, 105, 103, 104]⟩)] h.length h3)
 (aD (pu h3 (bE Tryd.prog .eql 3 true x0 (.int .i64 7))) fun v4 h4 =>
 bA v4
 (cT [(.str ⟨#[97, 110, 100]⟩)] h.length h4)
 (aD (pu h4 (bE Tryd.prog .eql 3 true x0 (.int .i64 8))) fun v5 h5 =>
 bA v5
 (cT [(.str ⟨#[111, 114]⟩)] h.length h5)
 (aD (pu h5 (bE Tryd.prog .eql 3 true x0 (.int .i64 9))) fun v6 h6 =>
 bA v6
 (cT [(.str ⟨#[120, 111, 114]⟩)] h.length h6)
 (aD (pu h6 (bE Tryd.prog .eql 3 true x0 (.int .i64 13))) fun v7 h7 =>
 bA v7
 (cT [(.str ⟨#[108, 101, 115, 115]⟩)] h.length h7)
 (aD (pu h7 (bE Tryd.prog .eql 3 true x0 (.int .i64 10))) fun v8 h8 =>
 bA v8
 (cT [(.str ⟨#[115, 104, 108]⟩)] h.length h8)
 (aD (pu h8 (bE Tryd.prog .eql 3 true x0 (.int .i64 11))) fun v9 h9 =>
 bA v9
 (cT [(.str ⟨#[115, 104, 114]⟩)] h.length h9)
 (aD (pu h9 (bE Tryd.prog .eql 3 true x0 (.int .i64 12))) fun v10 h10 =>
 bA v10
 (cT [(.str ⟨#[115, 97, 114]⟩)] h.length h10)
 (aD (pu h10 (bE Tryd.prog .eql 3 true x0 (.int .i64 15))) fun v11 h11 =>
 bA v11
 (cT [(.str ⟨#[108, 100]⟩)] h.length h11)
 (aD (pu h11 (bE Tryd.prog .eql 3 true x0 (.int .i64 17))) fun v12 h12 =>
 bA v12
 (cT [(.str ⟨#[98, 114]⟩)] h.length h12)
 (aD (pu h12 (bE Tryd.prog .eql 3 true x0 (.int .i64 20))) fun v13 h13 =>
 bA v13
 (cT [(.str ⟨#[104, 97, 108, 116]⟩)] h.length h13)
 (aD (pu h13 (bE Tryd.prog .eql 3 true x0 (.int .i64 18))) fun v14 h14 =>
 bA v14
 (cT [(.str ⟨#[98, 122]⟩)] h.length h14)
 (cT [(.str ⟨#[98, 110, 122]⟩)] h.length h14))))))))))))))))
noncomputable def dS.f (G : aE) : Nat → cY
 | 0 => fun _ _ => none
 | k + 1 => fun args h => wF args fun x0 => (dS.c G k (dS.f G k) x0 h)
noncomputable def eM.ann : Ann := fO [] [] [] [(30, [2, 3]), (29, [0, 2, 43]), (26, [0, 2, 4, 37]), (19, [0, 2, 4, 23]), (14, [0, 2, 4, 11])]
noncomputable def eM.env (G : aE) (k : Nat) (self : cY) : List (Nat × Bool × cY) := [(83, true, dS.f G k)]
noncomputable def eM.c (G : aE) (k : Nat) (self : cY) (x0 : AV) (h : aB) : Option (AV × aB) := fD (
 aD (dC 113 (.agg [(.str ⟨#[]⟩), (.bool false), (.bool false), (.bool false), (.bool false), (.bool false)]) h) fun v0 h0 =>
 fK (
 aD (pu h0 (bE Tryd.prog .eql 3 true x0 (.int .i64 1))) fun v1 h1 =>
 bA v1
 (aD (pu h1 (aU [(0, 1), (1, 1), (2, 1), (3, 1), (4, 1), (5, 1)] [(.str ⟨#[]⟩), (.bool false), (.bool false), (.bool false), (.bool false), (.bool false)] [(0, (.str ⟨#[99, 111, 110, 115, 116]⟩)), (1, (.bool true)), (5, (.bool true))])) fun v2 h2 =>
 aD (dY (aN 6 v0 v2 h2)) fun v3 h3 =>
 some (.ret, [v0, (.bool true)], h3))
 (aD (pu h1 (bE Tryd.prog .eql 3 true x0 (.int .i64 2))) fun v4 h4 =>
 bA v4
 (aD (pu h4 (aU [(0, 1), (1, 1), (2, 1), (3, 1), (4, 1), (5, 1)] [(.str ⟨#[]⟩), (.bool false), (.bool false), (.bool false), (.bool false), (.bool false)] [(0, (.str ⟨#[109, 111, 118]⟩)), (1, (.bool true)), (2, (.bool true))])) fun v5 h5 =>
 aD (dY (aN 6 v0 v5 h5)) fun v6 h6 =>
 some (.ret, [v0, (.bool true)], h6))
 (fK (
 aD (pu h4 (bE Tryd.prog .eql 3 true x0 (.int .i64 3))) fun v7 h7 =>
 bA v7
 (some (.normal, [x0, v0, x0, v7], h7))
 (aD (pu h7 (bE Tryd.prog .eql 3 true x0 (.int .i64 4))) fun v8 h8 =>
 bA v8
 (some (.normal, [x0, v0, x0, v8], h8))
 (aD (pu h8 (bE Tryd.prog .eql 3 true x0 (.int .i64 5))) fun v9 h9 =>
 bA v9
 (some (.normal, [x0, v0, x0, v9], h9))
 (aD (pu h9 (bE Tryd.prog .eql 3 true x0 (.int .i64 6))) fun v10 h10 =>
 bA v10
 (some (.normal, [x0, v0, x0, v10], h10))
 (aD (pu h10 (bE Tryd.prog .eql 3 true x0 (.int .i64 7))) fun v11 h11 =>
 bA v11
 (some (.normal, [x0, v0, x0, v11], h11))
 (aD (pu h11 (bE Tryd.prog .eql 3 true x0 (.int .i64 8))) fun v12 h12 =>
 bA v12
 (some (.normal, [x0, v0, x0, v12], h12))
 (aD (pu h12 (bE Tryd.prog .eql 3 true x0 (.int .i64 9))) fun v13 h13 =>
 bA v13
 (some (.normal, [x0, v0, x0, v13], h13))
 (aD (pu h13 (bE Tryd.prog .eql 3 true x0 (.int .i64 13))) fun v14 h14 =>
 some (.normal, [x0, v0, x0, v14], h14))))))))) fun e15 x15 h15 => kY e15
 (bA (aS x15 3)
 (aD (aL (dS.f G k) [(aS x15 0)] h15) fun v16 h16 =>
 aD (pu h16 (aU [(0, 1), (1, 1), (2, 1), (3, 1), (4, 1), (5, 1)] [(.str ⟨#[]⟩), (.bool false), (.bool false), (.bool false), (.bool false), (.bool false)] [(0, v16), (1, (.bool true)), (2, (.bool true)), (3, (.bool true))])) fun v17 h17 =>
 aD (dY (aN 6 (aS x15 1) v17 h17)) fun v18 h18 =>
 some (.ret, [(aS x15 1), (.bool true)], h18))
 (fK (
 aD (pu h15 (bE Tryd.prog .eql 3 true (aS x15 2) (.int .i64 10))) fun v19 h19 =>
 bA v19
 (some (.normal, [(aS x15 0), (aS x15 1), (aS x15 2), v19], h19))
 (aD (pu h19 (bE Tryd.prog .eql 3 true (aS x15 2) (.int .i64 11))) fun v20 h20 =>
 bA v20
 (some (.normal, [(aS x15 0), (aS x15 1), (aS x15 2), v20], h20))
 (aD (pu h20 (bE Tryd.prog .eql 3 true (aS x15 2) (.int .i64 12))) fun v21 h21 =>
 bA v21
 (some (.normal, [(aS x15 0), (aS x15 1), (aS x15 2), v21], h21))
 (aD (pu h21 (bE Tryd.prog .eql 3 true (aS x15 2) (.int .i64 15))) fun v22 h22 =>
 some (.normal, [(aS x15 0), (aS x15 1), (aS x15 2), v22], h22))))) fun e23 x23 h23 => kY e23
 (bA (aS x23 3)
 (aD (aL (dS.f G k) [(aS x23 0)] h23) fun v24 h24 =>
 aD (pu h24 (aU [(0, 1), (1, 1), (2, 1), (3, 1), (4, 1), (5, 1)] [(.str ⟨#[]⟩), (.bool false), (.bool false), (.bool false), (.bool false), (.bool false)] [(0, v24), (1, (.bool true)), (2, (.bool true)), (5, (.bool true))])) fun v25 h25 =>
 aD (dY (aN 6 (aS x23 1) v25 h25)) fun v26 h26 =>
 some (.ret, [(aS x23 1), (.bool true)], h26))
 (aD (pu h23 (bE Tryd.prog .eql 3 true (aS x23 2) (.int .i64 14))) fun v27 h27 =>
 bA v27
 (aD (pu h27 (aU [(0, 1), (1, 1), (2, 1), (3, 1), (4, 1), (5, 1)] [(.str ⟨#[]⟩), (.bool false), (.bool false), (.bool false), (.bool false), (.bool false)] [(0, (.str ⟨#[115, 101, 108]⟩)), (1, (.bool true)), (2, (.bool true)), (3, (.bool true)), (4, (.bool true))])) fun v28 h28 =>
 aD (dY (aN 6 (aS x23 1) v28 h28)) fun v29 h29 =>
 some (.ret, [(aS x23 1), (.bool true)], h29))
 (aD (pu h27 (bE Tryd.prog .eql 3 true (aS x23 2) (.int .i64 16))) fun v30 h30 =>
 bA v30
 (aD (pu h30 (aU [(0, 1), (1, 1), (2, 1), (3, 1), (4, 1), (5, 1)] [(.str ⟨#[]⟩), (.bool false), (.bool false), (.bool false), (.bool false), (.bool false)] [(0, (.str ⟨#[115, 116]⟩)), (2, (.bool true)), (3, (.bool true)), (5, (.bool true))])) fun v31 h31 =>
 aD (dY (aN 6 (aS x23 1) v31 h31)) fun v32 h32 =>
 some (.ret, [(aS x23 1), (.bool true)], h32))
 (fK (
 aD (pu h30 (bE Tryd.prog .eql 3 true (aS x23 2) (.int .i64 17))) fun v33 h33 =>
 bA v33
 (some (.normal, [(aS x23 0), (aS x23 1), (aS x23 2), v33], h33))
 (aD (pu h33 (bE Tryd.prog .eql 3 true (aS x23 2) (.int .i64 20))) fun v34 h34 =>
 some (.normal, [(aS x23 0), (aS x23 1), (aS x23 2), v34], h34))) fun e35 x35 h35 => kY e35
 (bA (aS x35 3)
 (aD (aL (dS.f G k) [(aS x35 0)] h35) fun v36 h36 =>
 aD (pu h36 (aU [(0, 1), (1, 1), (2, 1), (3, 1), (4, 1), (5, 1)] [(.str ⟨#[]⟩), (.bool false), (.bool false), (.bool false), (.bool false), (.bool false)] [(0, v36), (5, (.bool true))])) fun v37 h37 =>
 aD (dY (aN 6 (aS x35 1) v37 h37)) fun v38 h38 =>
 some (.ret, [(aS x35 1), (.bool true)], h38))
 (fK (
 aD (pu h35 (bE Tryd.prog .eql 3 true (aS x35 2) (.int .i64 18))) fun v39 h39 =>
 bA v39
 (some (.normal, [(aS x35 0), (aS x35 1), v39], h39))
 (aD (pu h39 (bE Tryd.prog .eql 3 true (aS x35 2) (.int .i64 19))) fun v40 h40 =>
 some (.normal, [(aS x35 0), (aS x35 1), v40], h40))) fun e41 x41 h41 => kY e41
 (bA (aS x41 2)
 (aD (aL (dS.f G k) [(aS x41 0)] h41) fun v42 h42 =>
 aD (pu h42 (aU [(0, 1), (1, 1), (2, 1), (3, 1), (4, 1), (5, 1)] [(.str ⟨#[]⟩), (.bool false), (.bool false), (.bool false), (.bool false), (.bool false)] [(0, v42), (2, (.bool true)), (5, (.bool true))])) fun v43 h43 =>
 aD (dY (aN 6 (aS x41 1) v43 h43)) fun v44 h44 =>
 some (.ret, [(aS x41 1), (.bool true)], h44))
 (some (.normal, [(aS x41 1), .undef], h41)))
 (fun i41 => if i41 = 0 then (some (.normal, [(aS x41 1), .undef], h41)) else (some (.exit i41, [(aS x41 1), .undef], h41)))
 (some (.ret, [(aS x41 1), .undef], h41))))
 (fun i35 => if i35 = 0 then (some (.normal, [(aS x35 1), .undef], h35)) else (some (.exit i35, [(aS x35 1), .undef], h35)))
 (some (.ret, [(aS x35 1), .undef], h35))))))
 (fun i23 => if i23 = 0 then (some (.normal, [(aS x23 1), .undef], h23)) else (some (.exit i23, [(aS x23 1), .undef], h23)))
 (some (.ret, [(aS x23 1), .undef], h23))))
 (fun i15 => if i15 = 0 then (some (.normal, [(aS x15 1), .undef], h15)) else (some (.exit i15, [(aS x15 1), .undef], h15)))
 (some (.ret, [(aS x15 1), .undef], h15))))) fun e45 x45 h45 => kY e45
 (aD (pu h45 (aU [(0, 1), (1, 1), (2, 1), (3, 1), (4, 1), (5, 1)] [(.str ⟨#[]⟩), (.bool false), (.bool false), (.bool false), (.bool false), (.bool false)] [(0, (.str ⟨#[110, 111, 110, 101]⟩))])) fun v46 h46 =>
 aD (dY (aN 6 (aS x45 0) v46 h46)) fun v47 h47 =>
 fT [aC G true 6 (aS x45 0) h47, some (.bool false)] h.length h47)
 (fun i45 => none)
 (fT [aC G true 6 (aS x45 0) h45, some (aS x45 1)] h.length h45))
noncomputable def eM.f (G : aE) : Nat → cY
 | 0 => fun _ _ => none
 | k + 1 => fun args h => wF args fun x0 => (eM.c G k (eM.f G k) x0 h)
theorem eM.step (G : aE) (k : Nat) (x0 : AV) (h : aB) : eM.f G (k + 1) [x0] h = eM.c G k (eM.f G k) x0 h := rfl
noncomputable def eQ.ann : Ann := fO [] [] [] []
noncomputable def eQ.env (G : aE) (k : Nat) (self : cY) : List (Nat × Bool × cY) := []
noncomputable def eQ.c (G : aE) (k : Nat) (self : cY) (x0 x1 : AV) (h : aB) : Option (AV × aB) := fD (
 aD (bC x0 h) fun v0 h0 =>
 aD (bC x1 h0) fun v1 h1 =>
 aD (pu h1 (aA 1 v1)) fun v2 h2 =>
 aD (pu h2 (aC G false 1 v2 h2)) fun v3 h3 =>
 aD (pu h3 (aA 2 v1)) fun v4 h4 =>
 aD (pu h4 (aC G false 1 v4 h4)) fun v5 h5 =>
 aD (pu h5 (aA 3 v1)) fun v6 h6 =>
 aD (pu h6 (aC G false 1 v6 h6)) fun v7 h7 =>
 aD (pu h7 (aA 4 v1)) fun v8 h8 =>
 aD (pu h8 (aC G false 1 v8 h8)) fun v9 h9 =>
 aD (pu h9 (aA 5 v1)) fun v10 h10 =>
 aD (pu h10 (aC G false 1 v10 h10)) fun v11 h11 =>
 aD (aZ 1 5 (.bool false) [(0, v3), (1, v5), (2, v7), (3, v9), (4, v11)] h11) fun v12 h12 =>
 aD (pu h12 (aA 1 v0)) fun v13 h13 =>
 aD (pu h13 (aC G false 1 v13 h13)) fun v14 h14 =>
 aD (pu h14 (aA 2 v0)) fun v15 h15 =>
 aD (pu h15 (aC G false 1 v15 h15)) fun v16 h16 =>
 aD (pu h16 (aA 3 v0)) fun v17 h17 =>
 aD (pu h17 (aC G false 1 v17 h17)) fun v18 h18 =>
 aD (pu h18 (aA 4 v0)) fun v19 h19 =>
 aD (pu h19 (aC G false 1 v19 h19)) fun v20 h20 =>
 aD (pu h20 (aA 5 v0)) fun v21 h21 =>
 aD (pu h21 (aC G false 1 v21 h21)) fun v22 h22 =>
 aD (aZ 1 5 (.int .i64 0) [(0, v14), (1, v16), (2, v18), (3, v20), (4, v22)] h22) fun v23 h23 =>
 cT [v12, v23] h.length h23)
noncomputable def eQ.f (G : aE) : Nat → cY
 | 0 => fun _ _ => none
 | k + 1 => fun args h => kA args fun x0 x1 => (eQ.c G k (eQ.f G k) x0 x1 h)
noncomputable def bY.ann : Ann := fO [] [] [(12, [2, 3, 4, 8, 53, 54, 55]), (6, [2, 3, 4, 7, 8, 28])] [(33, [3, 4, 12]), (31, [2, 3, 12, 82]), (27, [2, 3, 12, 72, 79]), (22, [2, 3, 12, 72, 73])]
noncomputable def bY.env (G : aE) (k : Nat) (self : cY) : List (Nat × Bool × cY) := [(66, true, eM.f G k), (68, true, eQ.f G k)]
noncomputable def bY.l6 (G : aE) (k n0 : Nat) (self : cY) (lp : hO) : hO := fun xs h0 => rM n0 xs h0 fun h =>
 aD (pu h (bE Tryd.prog .lss 3 true (aS xs 5) (.int .i64 4))) fun v17 h17 =>
 bA v17
 (aD (pu h17 (aF 1 (aS xs 3) (aS xs 5))) fun v18 h18 =>
 aD (pu h18 (aC G false 1 v18 h18)) fun v19 h19 =>
 aD (gd v19 true h19 (some ((aS xs 4), h19))) fun v20 h20 =>
 aD (gd v19 true h20 (some ((aS xs 5), h20))) fun v21 h21 =>
 aD (gd v19 true h21 (pu h21 (aF 1 v20 v21))) fun v22 h22 =>
 aD (gd v19 true h22 (pu h22 (aC G false 1 v22 h22))) fun v23 h23 =>
 aD (gd v19 true h23 (pu h23 (bE Tryd.prog .lss 2 true v23 (.int .i64 0)))) fun v24 h24 =>
 aD (gd v19 true h24 (some (v24, h24))) fun v25 h25 =>
 aD (gd v25 false h25 (some ((aS xs 4), h25))) fun v26 h26 =>
 aD (gd v25 false h26 (some ((aS xs 5), h26))) fun v27 h27 =>
 aD (gd v25 false h27 (pu h27 (aF 1 v26 v27))) fun v28 h28 =>
 aD (gd v25 false h28 (pu h28 (aC G false 1 v28 h28))) fun v29 h29 =>
 aD (gd v25 false h29 (pu h29 (aA 1 (aS xs 0)))) fun v30 h30 =>
 aD (gd v25 false h30 (pu h30 (aC G false 1 v30 h30))) fun v31 h31 =>
 aD (gd v25 false h31 (pu h31 (bE Tryd.prog .geq 2 false v29 v31))) fun v32 h32 =>
 aD (gd v19 true h32 (pu h32 (eW v25 (.bool true) v32))) fun v33 h33 =>
 aD (pu h33 (eW v19 v33 (.bool false))) fun v34 h34 =>
 bA v34
 (aD (pu h34 (aC G false 1 (.gl 2) h34)) fun v35 h35 =>
 some (.ret, [(aS xs 0), (aS xs 1), v35, (aS xs 3), (aS xs 4), (aS xs 5)], h35))
 (aD (pu h34 (bE Tryd.prog .add 3 true (aS xs 5) (.int .i64 1))) fun v36 h36 =>
 lp [(aS xs 0), (aS xs 1), (aS xs 2), (aS xs 3), (aS xs 4), v36] h36))
 (some (.exit 0, [(aS xs 0), (aS xs 1), (aS xs 2), (aS xs 3), (aS xs 4), (aS xs 5)], h17))
noncomputable def bY.l12 (G : aE) (k n0 : Nat) (self : cY) (lp : hO) : hO := fun xs h0 => rM n0 xs h0 fun h =>
 aD (pu h (bE Tryd.prog .lss 3 false (aS xs 6) (aS xs 5))) fun v39 h39 =>
 bA v39
 (aD (pu h39 (aF 1 (aS xs 4) (aS xs 6))) fun v40 h40 =>
 aD (pu h40 (aC G false 1 v40 h40)) fun v41 h41 =>
 aD (pu h41 (un .not v41)) fun v42 h42 =>
 aD (gd v42 true h42 (some ((aS xs 3), h42))) fun v43 h43 =>
 aD (gd v42 true h43 (some ((aS xs 6), h43))) fun v44 h44 =>
 aD (gd v42 true h44 (pu h44 (aF 1 v43 v44))) fun v45 h45 =>
 aD (gd v42 true h45 (pu h45 (aC G false 1 v45 h45))) fun v46 h46 =>
 aD (gd v42 true h46 (pu h46 (bE Tryd.prog .neq 2 true v46 (.int .i64 0)))) fun v47 h47 =>
 aD (pu h47 (eW v42 v47 (.bool false))) fun v48 h48 =>
 bA v48
 (aD (pu h48 (aC G false 1 (.gl 3) h48)) fun v49 h49 =>
 some (.ret, [(aS xs 0), (aS xs 1), v49, (aS xs 3), (aS xs 4), (aS xs 5), (aS xs 6)], h49))
 (aD (pu h48 (bE Tryd.prog .add 3 true (aS xs 6) (.int .i64 1))) fun v50 h50 =>
 lp [(aS xs 0), (aS xs 1), (aS xs 2), (aS xs 3), (aS xs 4), (aS xs 5), v50] h50))
 (some (.exit 2, [(aS xs 0), (aS xs 1), (aS xs 2), (aS xs 3), (aS xs 4), (aS xs 5), (aS xs 6)], h39))
noncomputable def bY.c (G : aE) (k : Nat) (self : cY) (x0 x1 : AV) (h : aB) : Option (AV × aB) := fD (
 aD (bC x0 h) fun v0 h0 =>
 aD (bC x1 h0) fun v1 h1 =>
 aD (pu h1 (aA 0 v1)) fun v2 h2 =>
 aD (pu h2 (aC G false 1 v2 h2)) fun v3 h3 =>
 aD (aL (eM.f G k) [v3] h3) fun v4 h4 =>
 aD (pu h4 (aG v4 0)) fun v5 h5 =>
 aD (pu h5 (aG v4 1)) fun v6 h6 =>
 aD (dC 113 (.agg [(.str ⟨#[]⟩), (.bool false), (.bool false), (.bool false), (.bool false), (.bool false)]) h6) fun v7 h7 =>
 aD (dY (aN 6 v7 v5 h7)) fun v8 h8 =>
 aD (pu h8 (un .not v6)) fun v9 h9 =>
 bA v9
 (aD (pu h9 (aC G false 1 (.gl 4) h9)) fun v10 h10 =>
 cT [v10] h.length h10)
 (aD (pu h9 (aC G true 6 v1 h9)) fun v11 h11 =>
 aD (pu h11 (aC G true 6 v7 h11)) fun v12 h12 =>
 aD (aL (eQ.f G k) [v11, v12] h12) fun v13 h13 =>
 aD (pu h13 (aG v13 0)) fun v14 h14 =>
 aD (pu h14 (aG v13 1)) fun v15 h15 =>
 fK (eU (bY.l6 G k h15.length self) k [v0, v1, .nili, v14, v15, (.int .i64 0)] h15) fun e16 x16 h16 => kY e16
 (none)
 (fun i16 => if i16 = 0 then (aD (pu h16 (bO (aS x16 3))) fun v37 h37 =>
 fK (eU (bY.l12 G k h37.length self) k [(aS x16 0), (aS x16 1), (aS x16 2), (aS x16 4), (aS x16 3), v37, (.int .i64 0)] h37) fun e38 x38 h38 => kY e38
 (none)
 (fun i38 => if i38 = 2 then (fK (
 aD (pu h38 (aA 0 (aS x38 1))) fun v51 h51 =>
 aD (pu h51 (aC G false 1 v51 h51)) fun v52 h52 =>
 fK (
 aD (pu h52 (bE Tryd.prog .eql 3 true v52 (.int .i64 10))) fun v53 h53 =>
 bA v53
 (some (.normal, [(aS x38 0), (aS x38 1), (.int .i64 (-1)), v52, v53], h53))
 (aD (pu h53 (bE Tryd.prog .eql 3 true v52 (.int .i64 11))) fun v54 h54 =>
 bA v54
 (some (.normal, [(aS x38 0), (aS x38 1), (.int .i64 (-1)), v52, v54], h54))
 (aD (pu h54 (bE Tryd.prog .eql 3 true v52 (.int .i64 12))) fun v55 h55 =>
 some (.normal, [(aS x38 0), (aS x38 1), (.int .i64 (-1)), v52, v55], h55)))) fun e56 x56 h56 => kY e56
 (bA (aS x56 4)
 (some (.normal, [(aS x56 1), .undef, (.int .i64 63)], h56))
 (aD (pu h56 (bE Tryd.prog .eql 3 true (aS x56 3) (.int .i64 20))) fun v57 h57 =>
 bA v57
 (some (.normal, [(aS x56 1), .undef, (.int .i64 2)], h57))
 (fK (
 aD (pu h57 (bE Tryd.prog .eql 3 true (aS x56 3) (.int .i64 15))) fun v58 h58 =>
 bA v58
 (some (.normal, [(aS x56 0), (aS x56 1), (aS x56 2), (aS x56 3), v58], h58))
 (aD (pu h58 (bE Tryd.prog .eql 3 true (aS x56 3) (.int .i64 16))) fun v59 h59 =>
 some (.normal, [(aS x56 0), (aS x56 1), (aS x56 2), (aS x56 3), v59], h59))) fun e60 x60 h60 => kY e60
 (bA (aS x60 4)
 (some (.normal, [(aS x60 1), .undef, (.int .i64 65535)], h60))
 (fK (
 aD (pu h60 (bE Tryd.prog .eql 3 true (aS x60 3) (.int .i64 17))) fun v61 h61 =>
 bA v61
 (some (.normal, [(aS x60 0), (aS x60 1), (aS x60 2), v61], h61))
 (aD (pu h61 (bE Tryd.prog .eql 3 true (aS x60 3) (.int .i64 18))) fun v62 h62 =>
 bA v62
 (some (.normal, [(aS x60 0), (aS x60 1), (aS x60 2), v62], h62))
 (aD (pu h62 (bE Tryd.prog .eql 3 true (aS x60 3) (.int .i64 19))) fun v63 h63 =>
 some (.normal, [(aS x60 0), (aS x60 1), (aS x60 2), v63], h63)))) fun e64 x64 h64 => kY e64
 (bA (aS x64 3)
 (aD (pu h64 (aA 5 (aS x64 1))) fun v65 h65 =>
 aD (pu h65 (aC G false 1 v65 h65)) fun v66 h66 =>
 aD (pu h66 (bE Tryd.prog .lss 2 true v66 (.int .i64 0))) fun v67 h67 =>
 aD (gd v67 false h67 (pu h67 (aA 5 (aS x64 1)))) fun v68 h68 =>
 aD (gd v67 false h68 (pu h68 (aC G false 1 v68 h68))) fun v69 h69 =>
 aD (gd v67 false h69 (pu h69 (aA 0 (aS x64 0)))) fun v70 h70 =>
 aD (gd v67 false h70 (pu h70 (aC G false 1 v70 h70))) fun v71 h71 =>
 aD (gd v67 false h71 (pu h71 (bO v71))) fun v72 h72 =>
 aD (gd v67 false h72 (pu h72 (bE Tryd.prog .gtr 2 false v69 v72))) fun v73 h73 =>
 aD (pu h73 (eW v67 (.bool true) v73)) fun v74 h74 =>
 bA v74
 (aD (pu h74 (aC G false 1 (.gl 5) h74)) fun v75 h75 =>
 some (.ret, [(aS x64 1), v75, (aS x64 2)], h75))
 (some (.normal, [(aS x64 1), .undef, (aS x64 2)], h74)))
 (some (.normal, [(aS x64 1), .undef, (aS x64 2)], h64)))
 (fun i64 => if i64 = 4 then (some (.normal, [(aS x64 1), .undef, (aS x64 2)], h64)) else (some (.exit i64, [(aS x64 1), .undef, (aS x64 2)], h64)))
 (some (.ret, [(aS x64 1), .undef, (aS x64 2)], h64))))
 (fun i60 => if i60 = 4 then (some (.normal, [(aS x60 1), .undef, (aS x60 2)], h60)) else (some (.exit i60, [(aS x60 1), .undef, (aS x60 2)], h60)))
 (some (.ret, [(aS x60 1), .undef, (aS x60 2)], h60)))))
 (fun i56 => if i56 = 4 then (some (.normal, [(aS x56 1), .undef, (aS x56 2)], h56)) else (some (.exit i56, [(aS x56 1), .undef, (aS x56 2)], h56)))
 (some (.ret, [(aS x56 1), .undef, (aS x56 2)], h56))) fun e76 x76 h76 => kY e76
 (aD (pu h76 (bE Tryd.prog .geq 2 true (aS x76 2) (.int .i64 0))) fun v77 h77 =>
 aD (gd v77 true h77 (pu h77 (aA 5 (aS x76 0)))) fun v78 h78 =>
 aD (gd v77 true h78 (pu h78 (aC G false 1 v78 h78))) fun v79 h79 =>
 aD (gd v77 true h79 (pu h79 (bE Tryd.prog .lss 2 true v79 (.int .i64 0)))) fun v80 h80 =>
 aD (gd v77 true h80 (some (v80, h80))) fun v81 h81 =>
 aD (gd v81 false h81 (pu h81 (aA 5 (aS x76 0)))) fun v82 h82 =>
 aD (gd v81 false h82 (pu h82 (aC G false 1 v82 h82))) fun v83 h83 =>
 aD (gd v81 false h83 (some ((aS x76 2), h83))) fun v84 h84 =>
 aD (gd v81 false h84 (pu h84 (bE Tryd.prog .gtr 2 false v83 v84))) fun v85 h85 =>
 aD (gd v77 true h85 (pu h85 (eW v81 (.bool true) v85))) fun v86 h86 =>
 aD (pu h86 (eW v77 v86 (.bool false))) fun v87 h87 =>
 bA v87
 (aD (pu h87 (aC G false 1 (.gl 2) h87)) fun v88 h88 =>
 cT [v88] h.length h88)
 (cT [.nili] h.length h87))
 (fun i76 => none)
 (cT [(aS x76 1)] h.length h76)) else (none))
 (cT [(aS x38 2)] h.length h38)) else (none))
 (cT [(aS x16 2)] h.length h16)))
noncomputable def bY.f (G : aE) : Nat → cY
 | 0 => fun _ _ => none
 | k + 1 => fun args h => kA args fun x0 x1 => (bY.c G k (bY.f G k) x0 x1 h)
theorem bY.step (G : aE) (k : Nat) (x0 x1 : AV) (h : aB) : bY.f G (k + 1) [x0, x1] h = bY.c G k (bY.f G k) x0 x1 h := rfl
noncomputable def bV.ann : Ann := fO [] [] [(6, [1, 2, 33, 34, 35])] []
noncomputable def bV.env (G : aE) (k : Nat) (self : cY) : List (Nat × Bool × cY) := [(43, true, bY.f G k)]
noncomputable def bV.l6 (G : aE) (k n0 : Nat) (self : cY) (lp : hO) : hO := fun xs h0 => rM n0 xs h0 fun h =>
 aD (pu h (bE Tryd.prog .lss 3 false (aS xs 4) (aS xs 3))) fun v26 h26 =>
 bA v26
 (aD (pu h26 (aF 6 (aS xs 2) (aS xs 4))) fun v27 h27 =>
 aD (pu h27 (aC G true 6 v27 h27)) fun v28 h28 =>
 aD (dC 52 (.agg [(.int .i64 0), (.int .i64 0), (.int .i64 0), (.int .i64 0), (.int .i64 0), (.int .i64 0)]) h28) fun v29 h29 =>
 aD (dY (aN 6 v29 v28 h29)) fun v30 h30 =>
 aD (pu h30 (aC G true 3 (aS xs 0) h30)) fun v31 h31 =>
 aD (pu h31 (aC G true 6 v29 h31)) fun v32 h32 =>
 aD (aL (bY.f G k) [v31, v32] h32) fun v33 h33 =>
 aD (pu h33 (bE Tryd.prog .neq 35 true v33 .nili)) fun v34 h34 =>
 bA v34
 (aD (pu h34 (aU [(0, 1), (1, 1)] [(.int .i64 0), .nili] [(0, (aS xs 4)), (1, v33)])) fun v35 h35 =>
 aD (bC v35 h35) fun v36 h36 =>
 some (.ret, [(aS xs 0), (.iface 89 v36), (aS xs 2), (aS xs 3), (aS xs 4)], h36))
 (aD (pu h34 (bE Tryd.prog .add 3 true (aS xs 4) (.int .i64 1))) fun v37 h37 =>
 lp [(aS xs 0), (aS xs 1), (aS xs 2), (aS xs 3), v37] h37))
 (some (.exit 1, [(aS xs 0), (aS xs 1), (aS xs 2), (aS xs 3), (aS xs 4)], h26))
noncomputable def bV.c (G : aE) (k : Nat) (self : cY) (x0 : AV) (h : aB) : Option (AV × aB) := fD (
 aD (bC x0 h) fun v0 h0 =>
 aD (pu h0 (aA 0 v0)) fun v1 h1 =>
 aD (pu h1 (aC G false 1 v1 h1)) fun v2 h2 =>
 aD (pu h2 (bO v2)) fun v3 h3 =>
 aD (pu h3 (bE Tryd.prog .gtr 3 true v3 (.int .i64 262144))) fun v4 h4 =>
 bA v4
 (aD (pu h4 (aC G false 1 (.gl 0) h4)) fun v5 h5 =>
 cT [v5] h.length h5)
 (aD (pu h4 (aA 1 v0)) fun v6 h6 =>
 aD (pu h6 (aC G false 1 v6 h6)) fun v7 h7 =>
 aD (pu h7 (bE Tryd.prog .lss 3 true v7 (.int .i64 0))) fun v8 h8 =>
 aD (gd v8 false h8 (pu h8 (aA 1 v0))) fun v9 h9 =>
 aD (gd v8 false h9 (pu h9 (aC G false 1 v9 h9))) fun v10 h10 =>
 aD (gd v8 false h10 (pu h10 (bE Tryd.prog .gtr 3 true v10 (.int .i64 65536)))) fun v11 h11 =>
 aD (pu h11 (eW v8 (.bool true) v11)) fun v12 h12 =>
 aD (gd v12 false h12 (pu h12 (aA 2 v0))) fun v13 h13 =>
 aD (gd v12 false h13 (pu h13 (aC G false 1 v13 h13))) fun v14 h14 =>
 aD (gd v12 false h14 (pu h14 (bE Tryd.prog .lss 3 true v14 (.int .i64 0)))) fun v15 h15 =>
 aD (pu h15 (eW v12 (.bool true) v15)) fun v16 h16 =>
 aD (gd v16 false h16 (pu h16 (aA 2 v0))) fun v17 h17 =>
 aD (gd v16 false h17 (pu h17 (aC G false 1 v17 h17))) fun v18 h18 =>
 aD (gd v16 false h18 (pu h18 (bE Tryd.prog .gtr 3 true v18 (.int .i64 65536)))) fun v19 h19 =>
 aD (pu h19 (eW v16 (.bool true) v19)) fun v20 h20 =>
 bA v20
 (aD (pu h20 (aC G false 1 (.gl 0) h20)) fun v21 h21 =>
 cT [v21] h.length h21)
 (aD (pu h20 (aA 0 v0)) fun v22 h22 =>
 aD (pu h22 (aC G false 1 v22 h22)) fun v23 h23 =>
 aD (pu h23 (bO v23)) fun v24 h24 =>
 fK (eU (bV.l6 G k h24.length self) k [v0, .nili, v23, v24, (.int .i64 0)] h24) fun e25 x25 h25 => kY e25
 (none)
 (fun i25 => if i25 = 1 then (cT [.nili] h.length h25) else (none))
 (cT [(aS x25 1)] h.length h25))))
noncomputable def bV.f (G : aE) : Nat → cY
 | 0 => fun _ _ => none
 | k + 1 => fun args h => wF args fun x0 => (bV.c G k (bV.f G k) x0 h)
theorem bV.step (G : aE) (k : Nat) (x0 : AV) (h : aB) : bV.f G (k + 1) [x0] h = bV.c G k (bV.f G k) x0 h := rfl
noncomputable def cX.ann : Ann := fO [] [] [] []
noncomputable def cX.env (G : aE) (k : Nat) (self : cY) : List (Nat × Bool × cY) := []
noncomputable def cX.c (G : aE) (k : Nat) (self : cY) (x0 x1 x2 : AV) (h : aB) : Option (AV × aB) := fD (
 aD (bC x0 h) fun v0 h0 =>
 aD (pu h0 (bO x1)) fun v1 h1 =>
 aD (pu h1 (aA 2 v0)) fun v2 h2 =>
 aD (pu h2 (aC G false 1 v2 h2)) fun v3 h3 =>
 aD (pu h3 (bE Tryd.prog .neq 3 false v1 v3)) fun v4 h4 =>
 bA v4
 (aD (pu h4 (aC G false 1 (.gl 1) h4)) fun v5 h5 =>
 cT [v5] h.length h5)
 (aD (pu h4 (bE Tryd.prog .lss 2 true x2 (.int .i64 0))) fun v6 h6 =>
 aD (gd v6 false h6 (some (x2, h6))) fun v7 h7 =>
 aD (gd v6 false h7 (pu h7 (bE Tryd.prog .gtr 2 true v7 (.int .i64 1073741824)))) fun v8 h8 =>
 aD (pu h8 (eW v6 (.bool true) v8)) fun v9 h9 =>
 bA v9
 (aD (pu h9 (aC G false 1 (.gl 2) h9)) fun v10 h10 =>
 cT [v10] h.length h10)
 (cT [.nili] h.length h9)))
noncomputable def cX.f (G : aE) : Nat → cY
 | 0 => fun _ _ => none
 | k + 1 => fun args h => aAS args fun x0 x1 x2 => (cX.c G k (cX.f G k) x0 x1 x2 h)
theorem cX.step (G : aE) (k : Nat) (x0 x1 x2 : AV) (h : aB) : cX.f G (k + 1) [x0, x1, x2] h = cX.c G k (cX.f G k) x0 x1 x2 h := rfl
noncomputable def aP.ann : Ann := fO [5] [2] [] []
noncomputable def aP.env (G : aE) (k : Nat) (self : cY) : List (Nat × Bool × cY) := []
noncomputable def aP.c (G : aE) (k : Nat) (self : cY) (x0 : AV) (h : aB) : Option (AV × aB) := fD (
 aD (some (.sl h.length 0 0 0 1, h ++ [⟨48, 1, []⟩])) fun v0 h0 =>
 aD (pu h0 (bE Tryd.prog .eql 25 true x0 .nils)) fun v1 h1 =>
 bA v1
 (aD (some (.sl h1.length 0 0 0 1, h1 ++ [⟨48, 1, []⟩])) fun v2 h2 =>
 aCL [v2] h2)
 (aD (aW 48 1 0 (.int .u64 0) [] h1) fun v3 h3 =>
 aD (eY 48 1 v3 x0 h3) fun v4 h4 =>
 aCL [v4] h4))
noncomputable def aP.f (G : aE) : Nat → cY
 | 0 => fun _ _ => none
 | k + 1 => fun args h => wF args fun x0 => (aP.c G k (aP.f G k) x0 h)
theorem aP.step (G : aE) (k : Nat) (x0 : AV) (h : aB) : aP.f G (k + 1) [x0] h = aP.c G k (aP.f G k) x0 h := rfl
noncomputable def bF.ann : Ann := fO [] [] [] []
noncomputable def bF.env (G : aE) (k : Nat) (self : cY) : List (Nat × Bool × cY) := []
noncomputable def bF.c (G : aE) (k : Nat) (self : cY) (x0 x1 x2 : AV) (h : aB) : Option (AV × aB) := fD (
 aD (pu h (gH x0)) fun v0 h0 =>
 aD (pu h0 (aA 5 v0)) fun v1 h1 =>
 aD (pu h1 (aA 2 v1)) fun v2 h2 =>
 aD (pu h2 (aC G false 1 v2 h2)) fun v3 h3 =>
 aD (pu h3 (aU [(0, 1), (1, 1)] [(.int .i64 0), (.int .i64 0)] [(0, x1), (1, x2)])) fun v4 h4 =>
 aD (aZ 2 1 (.agg [(.int .i64 0), (.int .i64 0)]) [(0, v4)] h4) fun v5 h5 =>
 aD (eY 96 2 v3 v5 h5) fun v6 h6 =>
 aD (pu h6 (gH x0)) fun v7 h7 =>
 aD (pu h7 (aA 5 v7)) fun v8 h8 =>
 aD (pu h8 (aA 2 v8)) fun v9 h9 =>
 aD (dY (aN 1 v9 v6 h9)) fun v10 h10 =>
 cT [] h.length h10)
noncomputable def bF.f (G : aE) : Nat → cY
 | 0 => fun _ _ => none
 | k + 1 => fun args h => aAS args fun x0 x1 x2 => (bF.c G k (bF.f G k) x0 x1 x2 h)
theorem bF.step (G : aE) (k : Nat) (x0 x1 x2 : AV) (h : aB) : bF.f G (k + 1) [x0, x1, x2] h = bF.c G k (bF.f G k) x0 x1 x2 h := rfl
noncomputable def bM.ann : Ann := fO [] [] [] []
noncomputable def bM.env (G : aE) (k : Nat) (self : cY) : List (Nat × Bool × cY) := []
noncomputable def bM.c (G : aE) (k : Nat) (self : cY) (x0 x1 : AV) (h : aB) : Option (AV × aB) := fD (
 aD (pu h (bE Tryd.prog .and 48 true x0 (.int .u64 4294967295))) fun v0 h0 =>
 aD (pu h0 (bE Tryd.prog .shr 48 true x0 (.int .u64 32))) fun v1 h1 =>
 aD (pu h1 (bE Tryd.prog .and 48 true x1 (.int .u64 4294967295))) fun v2 h2 =>
 aD (pu h2 (bE Tryd.prog .shr 48 true x1 (.int .u64 32))) fun v3 h3 =>
 aD (pu h3 (bE Tryd.prog .mul 48 false v0 v2)) fun v4 h4 =>
 aD (pu h4 (bE Tryd.prog .mul 48 false v1 v2)) fun v5 h5 =>
 aD (pu h5 (bE Tryd.prog .shr 48 true v4 (.int .u64 32))) fun v6 h6 =>
 aD (pu h6 (bE Tryd.prog .add 48 false v5 v6)) fun v7 h7 =>
 aD (pu h7 (bE Tryd.prog .and 48 true v7 (.int .u64 4294967295))) fun v8 h8 =>
 aD (pu h8 (bE Tryd.prog .shr 48 true v7 (.int .u64 32))) fun v9 h9 =>
 aD (pu h9 (bE Tryd.prog .mul 48 false v0 v3)) fun v10 h10 =>
 aD (pu h10 (bE Tryd.prog .add 48 false v8 v10)) fun v11 h11 =>
 aD (pu h11 (bE Tryd.prog .mul 48 false v1 v3)) fun v12 h12 =>
 aD (pu h12 (bE Tryd.prog .add 48 false v12 v9)) fun v13 h13 =>
 aD (pu h13 (bE Tryd.prog .shr 48 true v11 (.int .u64 32))) fun v14 h14 =>
 aD (pu h14 (bE Tryd.prog .add 48 false v13 v14)) fun v15 h15 =>
 aD (pu h15 (bE Tryd.prog .mul 48 false x0 x1)) fun v16 h16 =>
 cT [v15, v16] h.length h16)
noncomputable def bM.f (G : aE) : Nat → cY
 | 0 => fun _ _ => none
 | k + 1 => fun args h => kA args fun x0 x1 => (bM.c G k (bM.f G k) x0 x1 h)
theorem bM.step (G : aE) (k : Nat) (x0 x1 : AV) (h : aB) : bM.f G (k + 1) [x0, x1] h = bM.c G k (bM.f G k) x0 x1 h := rfl
noncomputable def cE.ann : Ann := fO [] [] [] []
noncomputable def cE.env (G : aE) (k : Nat) (self : cY) : List (Nat × Bool × cY) := []
noncomputable def cE.c (G : aE) (k : Nat) (self : cY) (x0 x1 : AV) (h : aB) : Option (AV × aB) := fD (
 aD (bC x0 h) fun v0 h0 =>
 aD (pu h0 (aA 5 v0)) fun v1 h1 =>
 aD (pu h1 (aC G false 1 v1 h1)) fun v2 h2 =>
 aD (pu h2 (bE Tryd.prog .lss 2 true v2 (.int .i64 0))) fun v3 h3 =>
 aD (gd v3 false h3 (pu h3 (aA 5 v0))) fun v4 h4 =>
 aD (gd v3 false h4 (pu h4 (aC G false 1 v4 h4))) fun v5 h5 =>
 aD (gd v3 false h5 (pu h5 (bE Tryd.prog .gtr 2 true v5 (.int .i64 63)))) fun v6 h6 =>
 aD (pu h6 (eW v3 (.bool true) v6)) fun v7 h7 =>
 bA v7
 (cT [(.int .u64 0), (.bool false)] h.length h7)
 (aD (pu h7 (aA 0 v0)) fun v8 h8 =>
 aD (pu h8 (aC G false 1 v8 h8)) fun v9 h9 =>
 aD (pu h9 (bE Tryd.prog .eql 3 true v9 (.int .i64 10))) fun v10 h10 =>
 bA v10
 (aD (pu h10 (aA 5 v0)) fun v11 h11 =>
 aD (pu h11 (aC G false 1 v11 h11)) fun v12 h12 =>
 aD (pu h12 (bE Tryd.prog .shl 48 false x1 v12)) fun v13 h13 =>
 cT [v13, (.bool true)] h.length h13)
 (aD (pu h10 (aA 0 v0)) fun v14 h14 =>
 aD (pu h14 (aC G false 1 v14 h14)) fun v15 h15 =>
 aD (pu h15 (bE Tryd.prog .eql 3 true v15 (.int .i64 11))) fun v16 h16 =>
 bA v16
 (aD (pu h16 (aA 5 v0)) fun v17 h17 =>
 aD (pu h17 (aC G false 1 v17 h17)) fun v18 h18 =>
 aD (pu h18 (bE Tryd.prog .shr 48 false x1 v18)) fun v19 h19 =>
 cT [v19, (.bool true)] h.length h19)
 (aD (pu h16 (eZ .i64 x1)) fun v20 h20 =>
 aD (pu h20 (aA 5 v0)) fun v21 h21 =>
 aD (pu h21 (aC G false 1 v21 h21)) fun v22 h22 =>
 aD (pu h22 (bE Tryd.prog .shr 2 false v20 v22)) fun v23 h23 =>
 aD (pu h23 (eZ .u64 v23)) fun v24 h24 =>
 cT [v24, (.bool true)] h.length h24))))
noncomputable def cE.f (G : aE) : Nat → cY
 | 0 => fun _ _ => none
 | k + 1 => fun args h => kA args fun x0 x1 => (cE.c G k (cE.f G k) x0 x1 h)
theorem cE.step (G : aE) (k : Nat) (x0 x1 : AV) (h : aB) : cE.f G (k + 1) [x0, x1] h = cE.c G k (cE.f G k) x0 x1 h := rfl
noncomputable def dQ.ann : Ann := fO [] [] [] []
noncomputable def dQ.env (G : aE) (k : Nat) (self : cY) : List (Nat × Bool × cY) := []
noncomputable def dQ.c (G : aE) (k : Nat) (self : cY) (x0 : AV) (h : aB) : Option (AV × aB) := fD (
 bA x0
 (cT [(.int .u64 1)] h.length h)
 (cT [(.int .u64 0)] h.length h))
noncomputable def dQ.f (G : aE) : Nat → cY
 | 0 => fun _ _ => none
 | k + 1 => fun args h => wF args fun x0 => (dQ.c G k (dQ.f G k) x0 h)
noncomputable def cV.ann : Ann := fO [] [] [] [(24, [1, 2, 3, 4, 13, 61])]
noncomputable def cV.env (G : aE) (k : Nat) (self : cY) : List (Nat × Bool × cY) := [(49, true, bM.f G k), (50, true, cE.f G k), (51, true, dQ.f G k)]
noncomputable def cV.c (G : aE) (k : Nat) (self : cY) (x0 x1 x2 x3 : AV) (h : aB) : Option (AV × aB) := fD (
 aD (bC x0 h) fun v0 h0 =>
 aD (pu h0 (aA 0 v0)) fun v1 h1 =>
 aD (pu h1 (aC G false 1 v1 h1)) fun v2 h2 =>
 aD (pu h2 (bE Tryd.prog .eql 3 true v2 (.int .i64 1))) fun v3 h3 =>
 bA v3
 (aD (pu h3 (aA 5 v0)) fun v4 h4 =>
 aD (pu h4 (aC G false 1 v4 h4)) fun v5 h5 =>
 aD (pu h5 (eZ .u64 v5)) fun v6 h6 =>
 cT [v6, (.bool true)] h.length h6)
 (aD (pu h3 (bE Tryd.prog .eql 3 true v2 (.int .i64 2))) fun v7 h7 =>
 bA v7
 (cT [x1, (.bool true)] h.length h7)
 (aD (pu h7 (bE Tryd.prog .eql 3 true v2 (.int .i64 3))) fun v8 h8 =>
 bA v8
 (aD (pu h8 (bE Tryd.prog .add 48 false x1 x2)) fun v9 h9 =>
 cT [v9, (.bool true)] h.length h9)
 (aD (pu h8 (bE Tryd.prog .eql 3 true v2 (.int .i64 4))) fun v10 h10 =>
 bA v10
 (aD (pu h10 (bE Tryd.prog .sub 48 false x1 x2)) fun v11 h11 =>
 cT [v11, (.bool true)] h.length h11)
 (aD (pu h10 (bE Tryd.prog .eql 3 true v2 (.int .i64 5))) fun v12 h12 =>
 bA v12
 (aD (pu h12 (bE Tryd.prog .mul 48 false x1 x2)) fun v13 h13 =>
 cT [v13, (.bool true)] h.length h13)
 (aD (pu h12 (bE Tryd.prog .eql 3 true v2 (.int .i64 6))) fun v14 h14 =>
 bA v14
 (aD (aL (bM.f G k) [x1, x2] h14) fun v15 h15 =>
 aD (pu h15 (aG v15 0)) fun v16 h16 =>
 aD (pu h16 (aG v15 1)) fun v17 h17 =>
 cT [v16, (.bool true)] h.length h17)
 (aD (pu h14 (bE Tryd.prog .eql 3 true v2 (.int .i64 7))) fun v18 h18 =>
 bA v18
 (aD (pu h18 (bE Tryd.prog .and 48 false x1 x2)) fun v19 h19 =>
 cT [v19, (.bool true)] h.length h19)
 (aD (pu h18 (bE Tryd.prog .eql 3 true v2 (.int .i64 8))) fun v20 h20 =>
 bA v20
 (aD (pu h20 (bE Tryd.prog .or 48 false x1 x2)) fun v21 h21 =>
 cT [v21, (.bool true)] h.length h21)
 (aD (pu h20 (bE Tryd.prog .eql 3 true v2 (.int .i64 9))) fun v22 h22 =>
 bA v22
 (aD (pu h22 (bE Tryd.prog .xor 48 false x1 x2)) fun v23 h23 =>
 cT [v23, (.bool true)] h.length h23)
 (fK (
 aD (pu h22 (bE Tryd.prog .eql 3 true v2 (.int .i64 10))) fun v24 h24 =>
 bA v24
 (some (.normal, [x1, x2, x3, v0, v2, v24], h24))
 (aD (pu h24 (bE Tryd.prog .eql 3 true v2 (.int .i64 11))) fun v25 h25 =>
 bA v25
 (some (.normal, [x1, x2, x3, v0, v2, v25], h25))
 (aD (pu h25 (bE Tryd.prog .eql 3 true v2 (.int .i64 12))) fun v26 h26 =>
 some (.normal, [x1, x2, x3, v0, v2, v26], h26)))) fun e27 x27 h27 => kY e27
 (bA (aS x27 5)
 (aD (pu h27 (aC G true 6 (aS x27 3) h27)) fun v28 h28 =>
 aD (aL (cE.f G k) [v28, (aS x27 0)] h28) fun v29 h29 =>
 aD (pu h29 (aG v29 0)) fun v30 h30 =>
 aD (pu h30 (aG v29 1)) fun v31 h31 =>
 cT [v30, v31] h.length h31)
 (aD (pu h27 (bE Tryd.prog .eql 3 true (aS x27 4) (.int .i64 13))) fun v32 h32 =>
 bA v32
 (aD (pu h32 (bE Tryd.prog .lss 48 false (aS x27 0) (aS x27 1))) fun v33 h33 =>
 aD (aL (dQ.f G k) [v33] h33) fun v34 h34 =>
 cT [v34, (.bool true)] h.length h34)
 (aD (pu h32 (bE Tryd.prog .eql 3 true (aS x27 4) (.int .i64 14))) fun v35 h35 =>
 bA v35
 (aD (pu h35 (bE Tryd.prog .neq 48 true (aS x27 0) (.int .u64 0))) fun v36 h36 =>
 bA v36
 (cT [(aS x27 1), (.bool true)] h.length h36)
 (cT [(aS x27 2), (.bool true)] h.length h36))
 (cT [(.int .u64 0), (.bool false)] h.length h35))))
 (fun i27 => if i27 = 0 then (cT [(.int .u64 0), (.bool false)] h.length h27) else (none))
 (cT [.undef, .undef] h.length h27)))))))))))
noncomputable def cV.f (G : aE) : Nat → cY
 | 0 => fun _ _ => none
 | k + 1 => fun args h => aDk args fun x0 x1 x2 x3 => (cV.c G k (cV.f G k) x0 x1 x2 x3 h)
theorem cV.step (G : aE) (k : Nat) (x0 x1 x2 x3 : AV) (h : aB) : cV.f G (k + 1) [x0, x1, x2, x3] h = cV.c G k (cV.f G k) x0 x1 x2 x3 h := rfl
noncomputable def bI.ann : Ann := fO [] [] [] []
noncomputable def bI.env (G : aE) (k : Nat) (self : cY) : List (Nat × Bool × cY) := [(73, false, bF.f G k)]
noncomputable def bI.c (G : aE) (k : Nat) (self : cY) (x0 x1 : AV) (h : aB) : Option (AV × aB) := fD (
 aD (bC x1 h) fun v0 h0 =>
 aD (pu h0 (gH x0)) fun v1 h1 =>
 aD (pu h1 (aA 3 v1)) fun v2 h2 =>
 aD (pu h2 (aC G false 1 v2 h2)) fun v3 h3 =>
 aD (pu h3 (aA 2 v0)) fun v4 h4 =>
 aD (pu h4 (aC G false 1 v4 h4)) fun v5 h5 =>
 aD (pu h5 (aF 1 v3 v5)) fun v6 h6 =>
 aD (pu h6 (aC G false 1 v6 h6)) fun v7 h7 =>
 aD (pu h7 (aA 5 v0)) fun v8 h8 =>
 aD (pu h8 (aC G false 1 v8 h8)) fun v9 h9 =>
 aD (pu h9 (eZ .u64 v9)) fun v10 h10 =>
 aD (pu h10 (bE Tryd.prog .add 48 false v7 v10)) fun v11 h11 =>
 aD (pu h11 (eZ .i64 v11)) fun v12 h12 =>
 aD (fJ (bF.f G k) [x0, (.int .i64 3), v12] h12) fun v13 h13 =>
 aD (pu h13 (gH x0)) fun v14 h14 =>
 aD (pu h14 (aA 5 v14)) fun v15 h15 =>
 aD (pu h15 (aA 1 v15)) fun v16 h16 =>
 aD (pu h16 (aC G false 1 v16 h16)) fun v17 h17 =>
 aD (pu h17 (bO v17)) fun v18 h18 =>
 aD (pu h18 (eZ .u64 v18)) fun v19 h19 =>
 aD (pu h19 (bE Tryd.prog .geq 48 false v11 v19)) fun v20 h20 =>
 bA v20
 (aD (pu h20 (gH x0)) fun v21 h21 =>
 aD (pu h21 (aA 5 v21)) fun v22 h22 =>
 aD (pu h22 (aA 0 v22)) fun v23 h23 =>
 aD (dY (aN 1 v23 (.int .i64 3) h23)) fun v24 h24 =>
 cT [(.bool false)] h.length h24)
 (aD (pu h20 (aA 0 v0)) fun v25 h25 =>
 aD (pu h25 (aC G false 1 v25 h25)) fun v26 h26 =>
 aD (pu h26 (bE Tryd.prog .eql 3 true v26 (.int .i64 15))) fun v27 h27 =>
 bA v27
 (aD (pu h27 (gH x0)) fun v28 h28 =>
 aD (pu h28 (aA 3 v28)) fun v29 h29 =>
 aD (pu h29 (aC G false 1 v29 h29)) fun v30 h30 =>
 aD (pu h30 (aA 1 v0)) fun v31 h31 =>
 aD (pu h31 (aC G false 1 v31 h31)) fun v32 h32 =>
 aD (pu h32 (gH x0)) fun v33 h33 =>
 aD (pu h33 (aA 5 v33)) fun v34 h34 =>
 aD (pu h34 (aA 1 v34)) fun v35 h35 =>
 aD (pu h35 (aC G false 1 v35 h35)) fun v36 h36 =>
 aD (pu h36 (aF 1 v36 v11)) fun v37 h37 =>
 aD (pu h37 (aC G false 1 v37 h37)) fun v38 h38 =>
 aD (pu h38 (aF 1 v30 v32)) fun v39 h39 =>
 aD (dY (aN 1 v39 v38 h39)) fun v40 h40 =>
 cT [(.bool true)] h.length h40)
 (aD (pu h27 (gH x0)) fun v41 h41 =>
 aD (pu h41 (aA 5 v41)) fun v42 h42 =>
 aD (pu h42 (aA 1 v42)) fun v43 h43 =>
 aD (pu h43 (aC G false 1 v43 h43)) fun v44 h44 =>
 aD (pu h44 (gH x0)) fun v45 h45 =>
 aD (pu h45 (aA 3 v45)) fun v46 h46 =>
 aD (pu h46 (aC G false 1 v46 h46)) fun v47 h47 =>
 aD (pu h47 (aA 3 v0)) fun v48 h48 =>
 aD (pu h48 (aC G false 1 v48 h48)) fun v49 h49 =>
 aD (pu h49 (aF 1 v47 v49)) fun v50 h50 =>
 aD (pu h50 (aC G false 1 v50 h50)) fun v51 h51 =>
 aD (pu h51 (aF 1 v44 v11)) fun v52 h52 =>
 aD (dY (aN 1 v52 v51 h52)) fun v53 h53 =>
 cT [(.bool true)] h.length h53)))
noncomputable def bI.f (G : aE) : Nat → cY
 | 0 => fun _ _ => none
 | k + 1 => fun args h => kA args fun x0 x1 => (bI.c G k (bI.f G k) x0 x1 h)
theorem bI.step (G : aE) (k : Nat) (x0 x1 : AV) (h : aB) : bI.f G (k + 1) [x0, x1] h = bI.c G k (bI.f G k) x0 x1 h := rfl
noncomputable def bG.ann : Ann := fO [] [] [] [(5, [0, 3])]
noncomputable def bG.env (G : aE) (k : Nat) (self : cY) : List (Nat × Bool × cY) := [(51, true, dQ.f G k), (73, false, bF.f G k)]
noncomputable def bG.c (G : aE) (k : Nat) (self : cY) (x0 x1 : AV) (h : aB) : Option (AV × aB) := fD (
 aD (bC x1 h) fun v0 h0 =>
 fK (
 aD (pu h0 (aA 0 v0)) fun v1 h1 =>
 aD (pu h1 (aC G false 1 v1 h1)) fun v2 h2 =>
 aD (pu h2 (bE Tryd.prog .neq 3 true v2 (.int .i64 17))) fun v3 h3 =>
 bA v3
 (aD (pu h3 (gH x0)) fun v4 h4 =>
 aD (pu h4 (aA 3 v4)) fun v5 h5 =>
 aD (pu h5 (aC G false 1 v5 h5)) fun v6 h6 =>
 aD (pu h6 (aA 2 v0)) fun v7 h7 =>
 aD (pu h7 (aC G false 1 v7 h7)) fun v8 h8 =>
 aD (pu h8 (aF 1 v6 v8)) fun v9 h9 =>
 aD (pu h9 (aC G false 1 v9 h9)) fun v10 h10 =>
 aD (pu h10 (bE Tryd.prog .eql 48 true v10 (.int .u64 0))) fun v11 h11 =>
 aD (pu h11 (aA 0 v0)) fun v12 h12 =>
 aD (pu h12 (aC G false 1 v12 h12)) fun v13 h13 =>
 aD (pu h13 (bE Tryd.prog .eql 3 true v13 (.int .i64 18))) fun v14 h14 =>
 aD (pu h14 (bE Tryd.prog .eql 4 false v11 v14)) fun v15 h15 =>
 aD (aL (dQ.f G k) [v15] h15) fun v16 h16 =>
 aD (pu h16 (eZ .i64 v16)) fun v17 h17 =>
 aD (fJ (bF.f G k) [x0, (.int .i64 2), v17] h17) fun v18 h18 =>
 aD (pu h18 (un .not v15)) fun v19 h19 =>
 bA v19
 (some (.ret, [x0, v0], h19))
 (some (.normal, [x0, v0], h19)))
 (some (.normal, [x0, v0], h3))) fun e20 x20 h20 => kY e20
 (aD (pu h20 (aA 5 (aS x20 1))) fun v21 h21 =>
 aD (pu h21 (aC G false 1 v21 h21)) fun v22 h22 =>
 aD (pu h22 (gH (aS x20 0))) fun v23 h23 =>
 aD (pu h23 (aA 4 v23)) fun v24 h24 =>
 aD (dY (aN 1 v24 v22 h24)) fun v25 h25 =>
 cT [] h.length h25)
 (fun i20 => none)
 (cT [] h.length h20))
noncomputable def bG.f (G : aE) : Nat → cY
 | 0 => fun _ _ => none
 | k + 1 => fun args h => kA args fun x0 x1 => (bG.c G k (bG.f G k) x0 x1 h)
theorem bG.step (G : aE) (k : Nat) (x0 x1 : AV) (h : aB) : bG.f G (k + 1) [x0, x1] h = bG.c G k (bG.f G k) x0 x1 h := rfl
noncomputable def bP.ann : Ann := fO [] [] [] [(14, [0, 3, 4]), (9, [0, 3, 15, 22]), (5, [0, 3, 15, 16])]
noncomputable def bP.env (G : aE) (k : Nat) (self : cY) : List (Nat × Bool × cY) := [(24, true, cV.f G k), (88, false, bI.f G k), (89, false, bG.f G k)]
noncomputable def bP.c (G : aE) (k : Nat) (self : cY) (x0 x1 : AV) (h : aB) : Option (AV × aB) := fD (
 aD (bC x1 h) fun v0 h0 =>
 aD (pu h0 (gH x0)) fun v1 h1 =>
 aD (pu h1 (aA 4 v1)) fun v2 h2 =>
 aD (pu h2 (aC G false 1 v2 h2)) fun v3 h3 =>
 aD (pu h3 (bE Tryd.prog .add 3 true v3 (.int .i64 1))) fun v4 h4 =>
 aD (pu h4 (gH x0)) fun v5 h5 =>
 aD (pu h5 (aA 4 v5)) fun v6 h6 =>
 aD (dY (aN 1 v6 v4 h6)) fun v7 h7 =>
 fK (
 aD (pu h7 (aA 0 v0)) fun v8 h8 =>
 aD (pu h8 (aC G false 1 v8 h8)) fun v9 h9 =>
 fK (
 aD (pu h9 (bE Tryd.prog .eql 3 true v9 (.int .i64 15))) fun v10 h10 =>
 bA v10
 (some (.normal, [x0, v0, v9, v10], h10))
 (aD (pu h10 (bE Tryd.prog .eql 3 true v9 (.int .i64 16))) fun v11 h11 =>
 some (.normal, [x0, v0, v9, v11], h11))) fun e12 x12 h12 => kY e12
 (bA (aS x12 3)
 (aD (pu h12 (aC G true 6 (aS x12 1) h12)) fun v13 h13 =>
 aD (fJ (bI.f G k) [(aS x12 0), v13] h13) fun v14 h14 =>
 some (.ret, [(aS x12 0), (aS x12 1), v14], h14))
 (fK (
 aD (pu h12 (bE Tryd.prog .eql 3 true (aS x12 2) (.int .i64 17))) fun v15 h15 =>
 bA v15
 (some (.normal, [(aS x12 0), (aS x12 1), (aS x12 2), v15], h15))
 (aD (pu h15 (bE Tryd.prog .eql 3 true (aS x12 2) (.int .i64 18))) fun v16 h16 =>
 bA v16
 (some (.normal, [(aS x12 0), (aS x12 1), (aS x12 2), v16], h16))
 (aD (pu h16 (bE Tryd.prog .eql 3 true (aS x12 2) (.int .i64 19))) fun v17 h17 =>
 some (.normal, [(aS x12 0), (aS x12 1), (aS x12 2), v17], h17)))) fun e18 x18 h18 => kY e18
 (bA (aS x18 3)
 (aD (pu h18 (aC G true 6 (aS x18 1) h18)) fun v19 h19 =>
 aD (fJ (bG.f G k) [(aS x18 0), v19] h19) fun v20 h20 =>
 some (.ret, [(aS x18 0), (aS x18 1), (.bool true)], h20))
 (aD (pu h18 (bE Tryd.prog .eql 3 true (aS x18 2) (.int .i64 20))) fun v21 h21 =>
 bA v21
 (aD (pu h21 (aA 5 (aS x18 1))) fun v22 h22 =>
 aD (pu h22 (aC G false 1 v22 h22)) fun v23 h23 =>
 aD (pu h23 (gH (aS x18 0))) fun v24 h24 =>
 aD (pu h24 (aA 5 v24)) fun v25 h25 =>
 aD (pu h25 (aA 0 v25)) fun v26 h26 =>
 aD (dY (aN 1 v26 v23 h26)) fun v27 h27 =>
 some (.ret, [(aS x18 0), (aS x18 1), (.bool false)], h27))
 (some (.normal, [(aS x18 0), (aS x18 1), .undef], h21))))
 (fun i18 => if i18 = 0 then (some (.normal, [(aS x18 0), (aS x18 1), .undef], h18)) else (some (.exit i18, [(aS x18 0), (aS x18 1), .undef], h18)))
 (some (.ret, [(aS x18 0), (aS x18 1), .undef], h18))))
 (fun i12 => if i12 = 0 then (some (.normal, [(aS x12 0), (aS x12 1), .undef], h12)) else (some (.exit i12, [(aS x12 0), (aS x12 1), .undef], h12)))
 (some (.ret, [(aS x12 0), (aS x12 1), .undef], h12))) fun e28 x28 h28 => kY e28
 (aD (pu h28 (aC G true 6 (aS x28 1) h28)) fun v29 h29 =>
 aD (pu h29 (gH (aS x28 0))) fun v30 h30 =>
 aD (pu h30 (aA 3 v30)) fun v31 h31 =>
 aD (pu h31 (aC G false 1 v31 h31)) fun v32 h32 =>
 aD (pu h32 (aA 2 (aS x28 1))) fun v33 h33 =>
 aD (pu h33 (aC G false 1 v33 h33)) fun v34 h34 =>
 aD (pu h34 (aF 1 v32 v34)) fun v35 h35 =>
 aD (pu h35 (aC G false 1 v35 h35)) fun v36 h36 =>
 aD (pu h36 (gH (aS x28 0))) fun v37 h37 =>
 aD (pu h37 (aA 3 v37)) fun v38 h38 =>
 aD (pu h38 (aC G false 1 v38 h38)) fun v39 h39 =>
 aD (pu h39 (aA 3 (aS x28 1))) fun v40 h40 =>
 aD (pu h40 (aC G false 1 v40 h40)) fun v41 h41 =>
 aD (pu h41 (aF 1 v39 v41)) fun v42 h42 =>
 aD (pu h42 (aC G false 1 v42 h42)) fun v43 h43 =>
 aD (pu h43 (gH (aS x28 0))) fun v44 h44 =>
 aD (pu h44 (aA 3 v44)) fun v45 h45 =>
 aD (pu h45 (aC G false 1 v45 h45)) fun v46 h46 =>
 aD (pu h46 (aA 4 (aS x28 1))) fun v47 h47 =>
 aD (pu h47 (aC G false 1 v47 h47)) fun v48 h48 =>
 aD (pu h48 (aF 1 v46 v48)) fun v49 h49 =>
 aD (pu h49 (aC G false 1 v49 h49)) fun v50 h50 =>
 aD (aL (cV.f G k) [v29, v36, v43, v50] h50) fun v51 h51 =>
 aD (pu h51 (aG v51 0)) fun v52 h52 =>
 aD (pu h52 (aG v51 1)) fun v53 h53 =>
 bA v53
 (aD (pu h53 (gH (aS x28 0))) fun v54 h54 =>
 aD (pu h54 (aA 3 v54)) fun v55 h55 =>
 aD (pu h55 (aC G false 1 v55 h55)) fun v56 h56 =>
 aD (pu h56 (aA 1 (aS x28 1))) fun v57 h57 =>
 aD (pu h57 (aC G false 1 v57 h57)) fun v58 h58 =>
 aD (pu h58 (aF 1 v56 v58)) fun v59 h59 =>
 aD (dY (aN 1 v59 v52 h59)) fun v60 h60 =>
 cT [(.bool true)] h.length h60)
 (cT [(.bool true)] h.length h53))
 (fun i28 => none)
 (cT [(aS x28 2)] h.length h28))
noncomputable def bP.f (G : aE) : Nat → cY
 | 0 => fun _ _ => none
 | k + 1 => fun args h => kA args fun x0 x1 => (bP.c G k (bP.f G k) x0 x1 h)
theorem bP.step (G : aE) (k : Nat) (x0 x1 : AV) (h : aB) : bP.f G (k + 1) [x0, x1] h = bP.c G k (bP.f G k) x0 x1 h := rfl
noncomputable def dI.ann : Ann := fO [] [] [] []
noncomputable def dI.env (G : aE) (k : Nat) (self : cY) : List (Nat × Bool × cY) := []
noncomputable def dI.c (G : aE) (k : Nat) (self : cY) (x0 x1 : AV) (h : aB) : Option (AV × aB) := fD (
 aD (pu h (bE Tryd.prog .add 2 false x0 x1)) fun v0 h0 =>
 aD (pu h0 (bE Tryd.prog .gtr 2 false v0 x0)) fun v1 h1 =>
 aD (pu h1 (bE Tryd.prog .gtr 2 true x1 (.int .i64 0))) fun v2 h2 =>
 aD (pu h2 (bE Tryd.prog .neq 4 false v1 v2)) fun v3 h3 =>
 aD (gd v3 true h3 (some (x1, h3))) fun v4 h4 =>
 aD (gd v3 true h4 (pu h4 (bE Tryd.prog .neq 2 true v4 (.int .i64 0)))) fun v5 h5 =>
 aD (pu h5 (eW v3 v5 (.bool false))) fun v6 h6 =>
 bA v6
 (cT [(.int .i64 0), (.bool false)] h.length h6)
 (cT [v0, (.bool true)] h.length h6))
noncomputable def dI.f (G : aE) : Nat → cY
 | 0 => fun _ _ => none
 | k + 1 => fun args h => kA args fun x0 x1 => (dI.c G k (dI.f G k) x0 x1 h)
theorem dI.step (G : aE) (k : Nat) (x0 x1 : AV) (h : aB) : dI.f G (k + 1) [x0, x1] h = dI.c G k (dI.f G k) x0 x1 h := rfl
noncomputable def dA.ann : Ann := fO [] [] [] []
noncomputable def dA.env (G : aE) (k : Nat) (self : cY) : List (Nat × Bool × cY) := []
noncomputable def dA.c (G : aE) (k : Nat) (self : cY) (x0 x1 : AV) (h : aB) : Option (AV × aB) := fD (
 aD (pu h (bE Tryd.prog .sub 2 false x0 x1)) fun v0 h0 =>
 aD (pu h0 (bE Tryd.prog .lss 2 false v0 x0)) fun v1 h1 =>
 aD (pu h1 (bE Tryd.prog .gtr 2 true x1 (.int .i64 0))) fun v2 h2 =>
 aD (pu h2 (bE Tryd.prog .neq 4 false v1 v2)) fun v3 h3 =>
 aD (gd v3 true h3 (some (x1, h3))) fun v4 h4 =>
 aD (gd v3 true h4 (pu h4 (bE Tryd.prog .neq 2 true v4 (.int .i64 0)))) fun v5 h5 =>
 aD (pu h5 (eW v3 v5 (.bool false))) fun v6 h6 =>
 bA v6
 (cT [(.int .i64 0), (.bool false)] h.length h6)
 (cT [v0, (.bool true)] h.length h6))
noncomputable def dA.f (G : aE) : Nat → cY
 | 0 => fun _ _ => none
 | k + 1 => fun args h => kA args fun x0 x1 => (dA.c G k (dA.f G k) x0 x1 h)
theorem dA.step (G : aE) (k : Nat) (x0 x1 : AV) (h : aB) : dA.f G (k + 1) [x0, x1] h = dA.c G k (dA.f G k) x0 x1 h := rfl
noncomputable def bJ.ann : Ann := fO [] [] [] []
noncomputable def bJ.env (G : aE) (k : Nat) (self : cY) : List (Nat × Bool × cY) := []
noncomputable def bJ.c (G : aE) (k : Nat) (self : cY) (x0 x1 : AV) (h : aB) : Option (AV × aB) := fD (
 aD (pu h (bE Tryd.prog .eql 2 true x0 (.int .i64 0))) fun v0 h0 =>
 aD (gd v0 false h0 (some (x1, h0))) fun v1 h1 =>
 aD (gd v0 false h1 (pu h1 (bE Tryd.prog .eql 2 true v1 (.int .i64 0)))) fun v2 h2 =>
 aD (pu h2 (eW v0 (.bool true) v2)) fun v3 h3 =>
 bA v3
 (cT [(.int .i64 0), (.bool true)] h.length h3)
 (aD (pu h3 (bE Tryd.prog .eql 2 true x0 (.int .i64 (-1)))) fun v4 h4 =>
 aD (gd v4 true h4 (some (x1, h4))) fun v5 h5 =>
 aD (gd v4 true h5 (pu h5 (bE Tryd.prog .eql 2 true v5 (.int .i64 (-9223372036854775808))))) fun v6 h6 =>
 aD (pu h6 (eW v4 v6 (.bool false))) fun v7 h7 =>
 aD (gd v7 false h7 (some (x1, h7))) fun v8 h8 =>
 aD (gd v7 false h8 (pu h8 (bE Tryd.prog .eql 2 true v8 (.int .i64 (-1))))) fun v9 h9 =>
 aD (gd v7 false h9 (some (v9, h9))) fun v10 h10 =>
 aD (gd v10 true h10 (some (x0, h10))) fun v11 h11 =>
 aD (gd v10 true h11 (pu h11 (bE Tryd.prog .eql 2 true v11 (.int .i64 (-9223372036854775808))))) fun v12 h12 =>
 aD (gd v7 false h12 (pu h12 (eW v10 v12 (.bool false)))) fun v13 h13 =>
 aD (pu h13 (eW v7 (.bool true) v13)) fun v14 h14 =>
 bA v14
 (cT [(.int .i64 0), (.bool false)] h.length h14)
 (aD (pu h14 (bE Tryd.prog .mul 2 false x0 x1)) fun v15 h15 =>
 aD (pu h15 (bE Tryd.prog .quo 2 false v15 x1)) fun v16 h16 =>
 aD (pu h16 (bE Tryd.prog .eql 2 false v16 x0)) fun v17 h17 =>
 bA v17
 (cT [v15, (.bool true)] h.length h17)
 (cT [(.int .i64 0), (.bool false)] h.length h17))))
noncomputable def bJ.f (G : aE) : Nat → cY
 | 0 => fun _ _ => none
 | k + 1 => fun args h => kA args fun x0 x1 => (bJ.c G k (bJ.f G k) x0 x1 h)
theorem bJ.step (G : aE) (k : Nat) (x0 x1 : AV) (h : aB) : bJ.f G (k + 1) [x0, x1] h = bJ.c G k (bJ.f G k) x0 x1 h := rfl
noncomputable def dD.ann : Ann := fO [] [] [] []
noncomputable def dD.env (G : aE) (k : Nat) (self : cY) : List (Nat × Bool × cY) := []
noncomputable def dD.c (G : aE) (k : Nat) (self : cY) (x0 x1 : AV) (h : aB) : Option (AV × aB) := fD (
 aD (pu h (bE Tryd.prog .lss 2 true x1 (.int .i64 0))) fun v0 h0 =>
 aD (gd v0 false h0 (some (x1, h0))) fun v1 h1 =>
 aD (gd v0 false h1 (pu h1 (bE Tryd.prog .gtr 2 true v1 (.int .i64 63)))) fun v2 h2 =>
 aD (pu h2 (eW v0 (.bool true) v2)) fun v3 h3 =>
 bA v3
 (cT [(.int .i64 0), (.bool false)] h.length h3)
 (aD (pu h3 (bE Tryd.prog .shl 2 false x0 x1)) fun v4 h4 =>
 aD (pu h4 (bE Tryd.prog .shr 2 false v4 x1)) fun v5 h5 =>
 aD (pu h5 (bE Tryd.prog .neq 2 false v5 x0)) fun v6 h6 =>
 bA v6
 (cT [(.int .i64 0), (.bool false)] h.length h6)
 (cT [v4, (.bool true)] h.length h6)))
noncomputable def dD.f (G : aE) : Nat → cY
 | 0 => fun _ _ => none
 | k + 1 => fun args h => kA args fun x0 x1 => (dD.c G k (dD.f G k) x0 x1 h)
theorem dD.step (G : aE) (k : Nat) (x0 x1 : AV) (h : aB) : dD.f G (k + 1) [x0, x1] h = dD.c G k (dD.f G k) x0 x1 h := rfl
noncomputable def bU.ann : Ann := fO [] [] [] []
noncomputable def bU.env (G : aE) (k : Nat) (self : cY) : List (Nat × Bool × cY) := [(52, true, dI.f G k), (53, true, dA.f G k), (54, true, bJ.f G k), (55, true, dD.f G k)]
noncomputable def bU.c (G : aE) (k : Nat) (self : cY) (x0 x1 x2 : AV) (h : aB) : Option (AV × aB) := fD (
 aD (bC x0 h) fun v0 h0 =>
 aD (pu h0 (eZ .i64 x1)) fun v1 h1 =>
 aD (pu h1 (eZ .i64 x2)) fun v2 h2 =>
 aD (pu h2 (aA 0 v0)) fun v3 h3 =>
 aD (pu h3 (aC G false 1 v3 h3)) fun v4 h4 =>
 aD (pu h4 (bE Tryd.prog .eql 3 true v4 (.int .i64 3))) fun v5 h5 =>
 bA v5
 (aD (aL (dI.f G k) [v1, v2] h5) fun v6 h6 =>
 aD (pu h6 (aG v6 0)) fun v7 h7 =>
 aD (pu h7 (aG v6 1)) fun v8 h8 =>
 cT [v7, v8] h.length h8)
 (aD (pu h5 (bE Tryd.prog .eql 3 true v4 (.int .i64 4))) fun v9 h9 =>
 bA v9
 (aD (aL (dA.f G k) [v1, v2] h9) fun v10 h10 =>
 aD (pu h10 (aG v10 0)) fun v11 h11 =>
 aD (pu h11 (aG v10 1)) fun v12 h12 =>
 cT [v11, v12] h.length h12)
 (aD (pu h9 (bE Tryd.prog .eql 3 true v4 (.int .i64 5))) fun v13 h13 =>
 bA v13
 (aD (aL (bJ.f G k) [v1, v2] h13) fun v14 h14 =>
 aD (pu h14 (aG v14 0)) fun v15 h15 =>
 aD (pu h15 (aG v14 1)) fun v16 h16 =>
 cT [v15, v16] h.length h16)
 (aD (pu h13 (bE Tryd.prog .eql 3 true v4 (.int .i64 10))) fun v17 h17 =>
 bA v17
 (aD (pu h17 (aA 5 v0)) fun v18 h18 =>
 aD (pu h18 (aC G false 1 v18 h18)) fun v19 h19 =>
 aD (aL (dD.f G k) [v1, v19] h19) fun v20 h20 =>
 aD (pu h20 (aG v20 0)) fun v21 h21 =>
 aD (pu h21 (aG v20 1)) fun v22 h22 =>
 cT [v21, v22] h.length h22)
 (cT [(.int .i64 0), (.bool false)] h.length h17)))))
noncomputable def bU.f (G : aE) : Nat → cY
 | 0 => fun _ _ => none
 | k + 1 => fun args h => aAS args fun x0 x1 x2 => (bU.c G k (bU.f G k) x0 x1 x2 h)
theorem bU.step (G : aE) (k : Nat) (x0 x1 x2 : AV) (h : aB) : bU.f G (k + 1) [x0, x1, x2] h = bU.c G k (bU.f G k) x0 x1 x2 h := rfl
noncomputable def cW.ann : Ann := fO [] [] [] []
noncomputable def cW.env (G : aE) (k : Nat) (self : cY) : List (Nat × Bool × cY) := []
noncomputable def cW.c (G : aE) (k : Nat) (self : cY) (x0 : AV) (h : aB) : Option (AV × aB) := fD (
 aD (pu h (bE Tryd.prog .eql 3 true x0 (.int .i64 3))) fun v0 h0 =>
 aD (gd v0 false h0 (some (x0, h0))) fun v1 h1 =>
 aD (gd v0 false h1 (pu h1 (bE Tryd.prog .eql 3 true v1 (.int .i64 4)))) fun v2 h2 =>
 aD (pu h2 (eW v0 (.bool true) v2)) fun v3 h3 =>
 aD (gd v3 false h3 (some (x0, h3))) fun v4 h4 =>
 aD (gd v3 false h4 (pu h4 (bE Tryd.prog .eql 3 true v4 (.int .i64 5)))) fun v5 h5 =>
 aD (pu h5 (eW v3 (.bool true) v5)) fun v6 h6 =>
 aD (gd v6 false h6 (some (x0, h6))) fun v7 h7 =>
 aD (gd v6 false h7 (pu h7 (bE Tryd.prog .eql 3 true v7 (.int .i64 10)))) fun v8 h8 =>
 aD (pu h8 (eW v6 (.bool true) v8)) fun v9 h9 =>
 cT [v9] h.length h9)
noncomputable def cW.f (G : aE) : Nat → cY
 | 0 => fun _ _ => none
 | k + 1 => fun args h => wF args fun x0 => (cW.c G k (cW.f G k) x0 h)
theorem cW.step (G : aE) (k : Nat) (x0 : AV) (h : aB) : cW.f G (k + 1) [x0] h = cW.c G k (cW.f G k) x0 h := rfl
noncomputable def eE.ann : Ann := fO [] [] [] []
noncomputable def eE.env (G : aE) (k : Nat) (self : cY) : List (Nat × Bool × cY) := []
noncomputable def eE.c (G : aE) (k : Nat) (self : cY) (x0 x1 : AV) (h : aB) : Option (AV × aB) := fD (
 aD (bC x0 h) fun v0 h0 =>
 aD (pu h0 (aA 0 v0)) fun v1 h1 =>
 aD (pu h1 (aC G false 1 v1 h1)) fun v2 h2 =>
 aD (pu h2 (bE Tryd.prog .leq 2 false v2 x1)) fun v3 h3 =>
 aD (gd v3 true h3 (some (x1, h3))) fun v4 h4 =>
 aD (gd v3 true h4 (pu h4 (aA 1 v0))) fun v5 h5 =>
 aD (gd v3 true h5 (pu h5 (aC G false 1 v5 h5))) fun v6 h6 =>
 aD (gd v3 true h6 (pu h6 (bE Tryd.prog .leq 2 false v4 v6))) fun v7 h7 =>
 aD (pu h7 (eW v3 v7 (.bool false))) fun v8 h8 =>
 cT [v8] h.length h8)
noncomputable def eE.f (G : aE) : Nat → cY
 | 0 => fun _ _ => none
 | k + 1 => fun args h => kA args fun x0 x1 => (eE.c G k (eE.f G k) x0 x1 h)
theorem eE.step (G : aE) (k : Nat) (x0 x1 : AV) (h : aB) : eE.f G (k + 1) [x0, x1] h = eE.c G k (eE.f G k) x0 x1 h := rfl
noncomputable def cC.ann : Ann := fO [] [] [] [(7, [4])]
noncomputable def cC.env (G : aE) (k : Nat) (self : cY) : List (Nat × Bool × cY) := [(28, true, bU.f G k), (61, true, cW.f G k), (62, true, eE.f G k)]
noncomputable def cC.c (G : aE) (k : Nat) (self : cY) (x0 x1 x2 x3 x4 : AV) (h : aB) : Option (AV × aB) := fD (
 aD (pu h (aA 0 x2)) fun v0 h0 =>
 aD (pu h0 (aC G false 1 v0 h0)) fun v1 h1 =>
 aD (pu h1 (aF 6 v1 x0)) fun v2 h2 =>
 aD (pu h2 (aC G true 6 v2 h2)) fun v3 h3 =>
 aD (dC 52 (.agg [(.int .i64 0), (.int .i64 0), (.int .i64 0), (.int .i64 0), (.int .i64 0), (.int .i64 0)]) h3) fun v4 h4 =>
 aD (dY (aN 6 v4 v3 h4)) fun v5 h5 =>
 aD (pu h5 (aA 0 v4)) fun v6 h6 =>
 aD (pu h6 (aC G false 1 v6 h6)) fun v7 h7 =>
 aD (aL (cW.f G k) [v7] h7) fun v8 h8 =>
 aD (pu h8 (un .not v8)) fun v9 h9 =>
 bA v9
 (cT [(.bool true)] h.length h9)
 (aD (pu h9 (aC G true 6 v4 h9)) fun v10 h10 =>
 aD (pu h10 (aA 2 v4)) fun v11 h11 =>
 aD (pu h11 (aC G false 1 v11 h11)) fun v12 h12 =>
 aD (pu h12 (aF 1 x1 v12)) fun v13 h13 =>
 aD (pu h13 (aC G false 1 v13 h13)) fun v14 h14 =>
 aD (pu h14 (aA 3 v4)) fun v15 h15 =>
 aD (pu h15 (aC G false 1 v15 h15)) fun v16 h16 =>
 aD (pu h16 (aF 1 x1 v16)) fun v17 h17 =>
 aD (pu h17 (aC G false 1 v17 h17)) fun v18 h18 =>
 aD (aL (bU.f G k) [v10, v14, v18] h18) fun v19 h19 =>
 aD (pu h19 (aG v19 0)) fun v20 h20 =>
 aD (pu h20 (aG v19 1)) fun v21 h21 =>
 fK (
 aD (pu h21 (un .not v21)) fun v22 h22 =>
 aD (gd v22 false h22 (pu h22 (aC G false 1 x3 h22))) fun v23 h23 =>
 aD (gd v22 false h23 (some (x0, h23))) fun v24 h24 =>
 aD (gd v22 false h24 (pu h24 (aF 2 v23 v24))) fun v25 h25 =>
 aD (gd v22 false h25 (pu h25 (aC G true 2 v25 h25))) fun v26 h26 =>
 aD (gd v22 false h26 (some (v20, h26))) fun v27 h27 =>
 aD (gd v22 false h27 (aL (eE.f G k) [v26, v27] h27)) fun v28 h28 =>
 aD (gd v22 false h28 (pu h28 (un .not v28))) fun v29 h29 =>
 aD (pu h29 (eW v22 (.bool true) v29)) fun v30 h30 =>
 bA v30
 (aD (dY (aN 1 x4 x0 h30)) fun v31 h31 =>
 some (.normal, [x4], h31))
 (some (.normal, [x4], h30))) fun e32 x32 h32 => kY e32
 (aD (pu h32 (aC G false 1 (aS x32 0) h32)) fun v33 h33 =>
 aD (pu h33 (bE Tryd.prog .lss 3 true v33 (.int .i64 0))) fun v34 h34 =>
 cT [v34] h.length h34)
 (fun i32 => none)
 (cT [.undef] h.length h32)))
noncomputable def cC.f (G : aE) : Nat → cY
 | 0 => fun _ _ => none
 | k + 1 => fun args h => aFu args fun x0 x1 x2 x3 x4 => (cC.c G k (cC.f G k) x0 x1 x2 x3 x4 h)
theorem cC.step (G : aE) (k : Nat) (x0 x1 x2 x3 x4 : AV) (h : aB) : cC.f G (k + 1) [x0, x1, x2, x3, x4] h = cC.c G k (cC.f G k) x0 x1 x2 x3 x4 h := rfl
noncomputable def bL.ann : Ann := aDE [15] [] [(3, [2, 3, 4, 8, 9])] [] [(3, [(9, 7, 96, 2)])] []
noncomputable def bL.env (G : aE) (k : Nat) (self : cY) : List (Nat × Bool × cY) := [(60, false, cC.f G k), (72, false, aP.f G k), (73, false, bF.f G k), (74, false, bP.f G k)]
noncomputable def bL.l3 (G : aE) (k n0 : Nat) (self : cY) (lp : hO) : hO := fun xs h0 => rM n0 xs h0 fun h =>
 aD (pu h (gH (aS xs 4))) fun v14 h14 =>
 aD (pu h14 (aA 4 v14)) fun v15 h15 =>
 aD (pu h15 (aC G false 1 v15 h15)) fun v16 h16 =>
 aD (pu h16 (aA 0 (aS xs 2))) fun v17 h17 =>
 aD (pu h17 (aC G false 1 v17 h17)) fun v18 h18 =>
 aD (pu h18 (bO v18)) fun v19 h19 =>
 aD (pu h19 (bE Tryd.prog .geq 3 false v16 v19)) fun v20 h20 =>
 bA v20
 (aD (pu h20 (gH (aS xs 4))) fun v21 h21 =>
 aD (pu h21 (aA 5 v21)) fun v22 h22 =>
 aD (pu h22 (aA 0 v22)) fun v23 h23 =>
 aD (dY (aN 1 v23 (.int .i64 3) h23)) fun v24 h24 =>
 aD (pu h24 (gH (aS xs 4))) fun v25 h25 =>
 aD (pu h25 (aA 5 v25)) fun v26 h26 =>
 aD (pu h26 (aC G true 4 v26 h26)) fun v27 h27 =>
 aD (dY (aN 4 (aS xs 3) v27 h27)) fun v28 h28 =>
 some (.ret, [(aS xs 0), (aS xs 1), (aS xs 2), (aS xs 3), (aS xs 4)], h28))
 (aD (pu h20 (gH (aS xs 4))) fun v29 h29 =>
 aD (pu h29 (aA 5 v29)) fun v30 h30 =>
 aD (pu h30 (aA 3 v30)) fun v31 h31 =>
 aD (pu h31 (aC G false 1 v31 h31)) fun v32 h32 =>
 aD (pu h32 (bE Tryd.prog .eql 2 false v32 (aS xs 0))) fun v33 h33 =>
 bA v33
 (aD (pu h33 (gH (aS xs 4))) fun v34 h34 =>
 aD (pu h34 (aA 5 v34)) fun v35 h35 =>
 aD (pu h35 (aA 0 v35)) fun v36 h36 =>
 aD (dY (aN 1 v36 (.int .i64 4) h36)) fun v37 h37 =>
 aD (pu h37 (gH (aS xs 4))) fun v38 h38 =>
 aD (pu h38 (aA 5 v38)) fun v39 h39 =>
 aD (pu h39 (aC G true 4 v39 h39)) fun v40 h40 =>
 aD (dY (aN 4 (aS xs 3) v40 h40)) fun v41 h41 =>
 some (.ret, [(aS xs 0), (aS xs 1), (aS xs 2), (aS xs 3), (aS xs 4)], h41))
 (aD (pu h33 (bE Tryd.prog .neq 107 true (aS xs 1) .nilf)) fun v42 h42 =>
 aD (gd v42 true h42 (some ((aS xs 1), h42))) fun v43 h43 =>
 aD (gd v42 true h43 (some ((aS xs 4), h43))) fun v44 h44 =>
 aD (gd v42 true h44 (pu h44 (gH v44))) fun v45 h45 =>
 aD (gd v42 true h45 (pu h45 (aA 4 v45))) fun v46 h46 =>
 aD (gd v42 true h46 (pu h46 (aC G false 1 v46 h46))) fun v47 h47 =>
 aD (gd v42 true h47 (some ((aS xs 4), h47))) fun v48 h48 =>
 aD (gd v42 true h48 (pu h48 (gH v48))) fun v49 h49 =>
 aD (gd v42 true h49 (pu h49 (aA 3 v49))) fun v50 h50 =>
 aD (gd v42 true h50 (pu h50 (aC G false 1 v50 h50))) fun v51 h51 =>
 aD (gd v42 true h51 (oY (fV (bL.env G k self)) v43 [v47, v51] h51)) fun v52 h52 =>
 aD (gd v42 true h52 (pu h52 (un .not v52))) fun v53 h53 =>
 aD (pu h53 (eW v42 v53 (.bool false))) fun v54 h54 =>
 bA v54
 (aD (pu h54 (gH (aS xs 4))) fun v55 h55 =>
 aD (pu h55 (aA 5 v55)) fun v56 h56 =>
 aD (pu h56 (aC G true 4 v56 h56)) fun v57 h57 =>
 aD (dY (aN 4 (aS xs 3) v57 h57)) fun v58 h58 =>
 some (.ret, [(aS xs 0), (aS xs 1), (aS xs 2), (aS xs 3), (aS xs 4)], h58))
 (aD (pu h54 (gH (aS xs 4))) fun v59 h59 =>
 aD (pu h59 (aA 5 v59)) fun v60 h60 =>
 aD (pu h60 (aA 3 v60)) fun v61 h61 =>
 aD (pu h61 (aC G false 1 v61 h61)) fun v62 h62 =>
 aD (pu h62 (bE Tryd.prog .add 2 true v62 (.int .i64 1))) fun v63 h63 =>
 aD (pu h63 (gH (aS xs 4))) fun v64 h64 =>
 aD (pu h64 (aA 5 v64)) fun v65 h65 =>
 aD (pu h65 (aA 3 v65)) fun v66 h66 =>
 aD (dY (aN 1 v66 v63 h66)) fun v67 h67 =>
 aD (pu h67 (gH (aS xs 4))) fun v68 h68 =>
 aD (pu h68 (aA 4 v68)) fun v69 h69 =>
 aD (pu h69 (aC G false 1 v69 h69)) fun v70 h70 =>
 aD (fJ (bF.f G k) [(aS xs 4), (.int .i64 1), v70] h70) fun v71 h71 =>
 aD (pu h71 (aA 0 (aS xs 2))) fun v72 h72 =>
 aD (pu h72 (aC G false 1 v72 h72)) fun v73 h73 =>
 aD (pu h73 (gH (aS xs 4))) fun v74 h74 =>
 aD (pu h74 (aA 4 v74)) fun v75 h75 =>
 aD (pu h75 (aC G false 1 v75 h75)) fun v76 h76 =>
 aD (pu h76 (aF 6 v73 v76)) fun v77 h77 =>
 aD (pu h77 (aC G true 6 v77 h77)) fun v78 h78 =>
 aD (fJ (bP.f G k) [(aS xs 4), v78] h78) fun v79 h79 =>
 aD (pu h79 (un .not v79)) fun v80 h80 =>
 bA v80
 (aD (pu h80 (gH (aS xs 4))) fun v81 h81 =>
 aD (pu h81 (aA 5 v81)) fun v82 h82 =>
 aD (pu h82 (aC G true 4 v82 h82)) fun v83 h83 =>
 aD (dY (aN 4 (aS xs 3) v83 h83)) fun v84 h84 =>
 some (.ret, [(aS xs 0), (aS xs 1), (aS xs 2), (aS xs 3), (aS xs 4)], h84))
 (lp [(aS xs 0), (aS xs 1), (aS xs 2), (aS xs 3), (aS xs 4)] h80))))
noncomputable def bL.c (G : aE) (k : Nat) (self : cY) (x0 x1 x2 x3 : AV) (h : aB) : Option (AV × aB) := fD (
 aD (bC x0 h) fun v0 h0 =>
 aD (dC 40 (.agg [(.int .i64 0), .nils, .nils, (.int .i64 0)]) h0) fun v1 h1 =>
 aD (pu h1 (aC G true 3 v0 h1)) fun v2 h2 =>
 aD (pu h2 (aA 1 v0)) fun v3 h3 =>
 aD (pu h3 (aC G false 1 v3 h3)) fun v4 h4 =>
 aD (fC 48 1 (.int .u64 0) v4 v4 h4) fun v5 h5 =>
 aD (pu h5 (aU [(0, 3), (3, 1), (4, 1), (5, 4)] [.nils, (.int .i64 0), (.int .i64 0), .nils, (.int .i64 0), (.int .i64 0), .nils, .nils, (.int .i64 0)] [(0, v2), (1, v5)])) fun v6 h6 =>
 aD (dC 126 v6 h6) fun v7 h7 =>
 aD (fJ (aP.f G k) [x1] h7) fun v8 h8 =>
 aD (pu h8 (gH v7)) fun v9 h9 =>
 aD (pu h9 (aA 5 v9)) fun v10 h10 =>
 aD (pu h10 (aA 1 v10)) fun v11 h11 =>
 aD (dY (aN 1 v11 v8 h11)) fun v12 h12 =>
 vK [(v7, 7, 96, 2)] h12 fun hv13 =>
 fK (eU (bL.l3 G k hv13.length self) k [x2, x3, v0, v1, v7] hv13) fun e13 x13 h13 => kY e13
 (none)
 (fun i13 => if i13 = 0 then (fT [aC G true 4 (aS x13 3) h13] h.length h13) else (none))
 (fT [aC G true 4 (aS x13 3) h13] h.length h13))
noncomputable def bL.f (G : aE) : Nat → cY
 | 0 => fun _ _ => none
 | k + 1 => fun args h => aDk args fun x0 x1 x2 x3 => (bL.c G k (bL.f G k) x0 x1 x2 x3 h)
theorem bL.step (G : aE) (k : Nat) (x0 x1 x2 x3 : AV) (h : aB) : bL.f G (k + 1) [x0, x1, x2, x3] h = bL.c G k (bL.f G k) x0 x1 x2 x3 h := rfl
noncomputable def bB.ann : Ann := fO [] [] [] []
noncomputable def bB.env (G : aE) (k : Nat) (self : cY) : List (Nat × Bool × cY) := []
noncomputable def bB.c (G : aE) (k : Nat) (self : cY) (x0 x1 : AV) (h : aB) : Option (AV × aB) := fD (
 aD (pu h (bE Tryd.prog .rem 3 false x0 x1)) fun v0 h0 =>
 aD (pu h0 (bE Tryd.prog .lss 3 true v0 (.int .i64 0))) fun v1 h1 =>
 bA v1
 (aD (pu h1 (bE Tryd.prog .add 3 false v0 x1)) fun v2 h2 =>
 cT [v2] h.length h2)
 (cT [v0] h.length h1))
noncomputable def bB.f (G : aE) : Nat → cY
 | 0 => fun _ _ => none
 | k + 1 => fun args h => kA args fun x0 x1 => (bB.c G k (bB.f G k) x0 x1 h)
theorem bB.step (G : aE) (k : Nat) (x0 x1 : AV) (h : aB) : bB.f G (k + 1) [x0, x1] h = bB.c G k (bB.f G k) x0 x1 h := rfl
noncomputable def cJ.ann : Ann := fO [4, 5] [] [] []
noncomputable def cJ.env (G : aE) (k : Nat) (self : cY) : List (Nat × Bool × cY) := [(17, true, bV.f G k), (44, true, cX.f G k), (45, false, bL.f G k), (60, false, cC.f G k)]
noncomputable def cJ.c (G : aE) (k : Nat) (self : cY) (x0 x1 x2 x3 : AV) (h : aB) : Option (AV × aB) := fD (
 aD (dC 24 x0 h) fun v0 h0 =>
 aD (dC 60 x1 h0) fun v1 h1 =>
 aD (pu h1 (aC G true 3 v0 h1)) fun v2 h2 =>
 aD (aL (bV.f G k) [v2] h2) fun v3 h3 =>
 aD (pu h3 (bE Tryd.prog .neq 35 true v3 .nili)) fun v4 h4 =>
 bA v4
 (cT [(.int .i64 0), v3] h.length h4)
 (aD (pu h4 (aC G false 1 v1 h4)) fun v5 h5 =>
 aD (pu h5 (bO v5)) fun v6 h6 =>
 aD (pu h6 (aA 0 v0)) fun v7 h7 =>
 aD (pu h7 (aC G false 1 v7 h7)) fun v8 h8 =>
 aD (pu h8 (bO v8)) fun v9 h9 =>
 aD (pu h9 (bE Tryd.prog .neq 3 false v6 v9)) fun v10 h10 =>
 bA v10
 (aD (pu h10 (aC G false 1 (.gl 1) h10)) fun v11 h11 =>
 cT [(.int .i64 0), v11] h.length h11)
 (aD (pu h10 (aC G true 3 v0 h10)) fun v12 h12 =>
 aD (aL (cX.f G k) [v12, x2, x3] h12) fun v13 h13 =>
 aD (pu h13 (bE Tryd.prog .neq 35 true v13 .nili)) fun v14 h14 =>
 bA v14
 (cT [(.int .i64 0), v13] h.length h14)
 (aD (dC 3 (.int .i64 0) h14) fun v15 h15 =>
 aD (dY (aN 1 v15 (.int .i64 (-1)) h15)) fun v16 h16 =>
 aD (pu h16 (aC G true 3 v0 h16)) fun v17 h17 =>
 aD (fJ (bL.f G k) [v17, x2, x3, (.fn 60 [v0, v1, v15])] h17) fun v18 h18 =>
 aD (pu h18 (aC G false 1 v15 h18)) fun v19 h19 =>
 cT [v19, .nili] h.length h19))))
noncomputable def cJ.f (G : aE) : Nat → cY
 | 0 => fun _ _ => none
 | k + 1 => fun args h => aDk args fun x0 x1 x2 x3 => (cJ.c G k (cJ.f G k) x0 x1 x2 x3 h)
theorem cJ.step (G : aE) (k : Nat) (x0 x1 x2 x3 : AV) (h : aB) : cJ.f G (k + 1) [x0, x1, x2, x3] h = cJ.c G k (cJ.f G k) x0 x1 x2 x3 h := rfl
noncomputable def bQ.ann : Ann := fO [] [] [] []
noncomputable def bQ.env (G : aE) (k : Nat) (self : cY) : List (Nat × Bool × cY) := [(28, true, bU.f G k), (30, true, cJ.f G k)]
noncomputable def bQ.c (G : aE) (k : Nat) (self : cY) (h : aB) : Option (AV × aB) := fD (
 aD (pu h (aU [(0, 1), (1, 1), (2, 1)] [.nils, (.int .i64 0), (.int .i64 0)] [])) fun v0 h0 =>
 aD (aL (cJ.f G k) [v0, .nils, .nils, (.int .i64 5)] h0) fun v1 h1 =>
 aD (pu h1 (aG v1 0)) fun v2 h2 =>
 aD (pu h2 (aG v1 1)) fun v3 h3 =>
 aD (pu h3 (aU [(0, 1), (1, 1), (2, 1), (3, 1), (4, 1), (5, 1)] [(.int .i64 0), (.int .i64 0), (.int .i64 0), (.int .i64 0), (.int .i64 0), (.int .i64 0)] [(0, (.int .i64 3))])) fun v4 h4 =>
 aD (aL (bU.f G k) [v4, (.int .u64 3), (.int .u64 4)] h4) fun v5 h5 =>
 aD (pu h5 (aG v5 0)) fun v6 h6 =>
 aD (pu h6 (aG v5 1)) fun v7 h7 =>
 aD (pu h7 (bE Tryd.prog .eql 35 true v3 .nili)) fun v8 h8 =>
 aD (gd v8 true h8 (some (v2, h8))) fun v9 h9 =>
 aD (gd v8 true h9 (pu h9 (bE Tryd.prog .eql 3 true v9 (.int .i64 (-1))))) fun v10 h10 =>
 aD (pu h10 (eW v8 v10 (.bool false))) fun v11 h11 =>
 aD (gd v11 true h11 (some (v7, h11))) fun v12 h12 =>
 aD (pu h12 (eW v11 v12 (.bool false))) fun v13 h13 =>
 aD (gd v13 true h13 (some (v6, h13))) fun v14 h14 =>
 aD (gd v13 true h14 (pu h14 (bE Tryd.prog .eql 2 true v14 (.int .i64 7)))) fun v15 h15 =>
 aD (pu h15 (eW v13 v15 (.bool false))) fun v16 h16 =>
 cT [v16] h.length h16)
noncomputable def bQ.f (G : aE) : Nat → cY
 | 0 => fun _ _ => none
 | k + 1 => fun args h => aEq args (bQ.c G k (bQ.f G k) h)
noncomputable def cP.ann : Ann := fO [] [] [] []
noncomputable def cP.env (G : aE) (k : Nat) (self : cY) : List (Nat × Bool × cY) := []
noncomputable def cP.c (G : aE) (k : Nat) (self : cY) (x0 : AV) (h : aB) : Option (AV × aB) := fD (
 aD (bC x0 h) fun v0 h0 =>
 aD (pu h0 (aA 0 v0)) fun v1 h1 =>
 aD (pu h1 (aC G false 1 v1 h1)) fun v2 h2 =>
 aD (pu h2 (aA 1 v0)) fun v3 h3 =>
 aD (pu h3 (aC G false 1 v3 h3)) fun v4 h4 =>
 aD (pu h4 (bE Tryd.prog .leq 2 false v2 v4)) fun v5 h5 =>
 cT [v5] h.length h5)
noncomputable def cP.f (G : aE) : Nat → cY
 | 0 => fun _ _ => none
 | k + 1 => fun args h => wF args fun x0 => (cP.c G k (cP.f G k) x0 h)
noncomputable def aJ.ann : Ann := fO [5] [2] [] []
noncomputable def aJ.env (G : aE) (k : Nat) (self : cY) : List (Nat × Bool × cY) := []
noncomputable def aJ.c (G : aE) (k : Nat) (self : cY) (x0 : AV) (h : aB) : Option (AV × aB) := fD (
 aD (some (.sl h.length 0 0 0 2, h ++ [⟨71, 2, []⟩])) fun v0 h0 =>
 aD (pu h0 (bE Tryd.prog .eql 60 true x0 .nils)) fun v1 h1 =>
 bA v1
 (aD (some (.sl h1.length 0 0 0 2, h1 ++ [⟨71, 2, []⟩])) fun v2 h2 =>
 aCL [v2] h2)
 (aD (aW 71 2 0 (.agg [(.int .i64 0), (.int .i64 0)]) [] h1) fun v3 h3 =>
 aD (eY 71 2 v3 x0 h3) fun v4 h4 =>
 aCL [v4] h4))
noncomputable def aJ.f (G : aE) : Nat → cY
 | 0 => fun _ _ => none
 | k + 1 => fun args h => wF args fun x0 => (aJ.c G k (aJ.f G k) x0 h)
theorem aJ.step (G : aE) (k : Nat) (x0 : AV) (h : aB) : aJ.f G (k + 1) [x0] h = aJ.c G k (aJ.f G k) x0 h := rfl
noncomputable def dW.ann : Ann := fO [] [] [(2, [0, 1, 6, 7, 10, 11, 12])] []
noncomputable def dW.env (G : aE) (k : Nat) (self : cY) : List (Nat × Bool × cY) := []
noncomputable def dW.l2 (G : aE) (k n0 : Nat) (self : cY) (lp : hO) : hO := fun xs h0 => rM n0 xs h0 fun h =>
 aD (pu h (bE Tryd.prog .lss 3 false (aS xs 6) (aS xs 5))) fun v3 h3 =>
 bA v3
 (aD (pu h3 (aF 1 (aS xs 4) (aS xs 6))) fun v4 h4 =>
 aD (pu h4 (aC G false 1 v4 h4)) fun v5 h5 =>
 aD (pu h5 (un .not v5)) fun v6 h6 =>
 bA v6
 (aD (pu h6 (aU [(0, 1), (1, 1)] [(.int .i64 0), (.int .i64 0)] [])) fun v7 h7 =>
 aD (dY (aN 2 (aS xs 2) v7 h7)) fun v8 h8 =>
 some (.ret, [(aS xs 0), (aS xs 1), (aS xs 2), (.bool false), (aS xs 4), (aS xs 5), (aS xs 6)], h8))
 (aD (pu h6 (bE Tryd.prog .add 3 true (aS xs 6) (.int .i64 1))) fun v9 h9 =>
 lp [(aS xs 0), (aS xs 1), (aS xs 2), (aS xs 3), (aS xs 4), (aS xs 5), v9] h9))
 (some (.exit 0, [(aS xs 0), (aS xs 1), (aS xs 2), (aS xs 3), (aS xs 4), (aS xs 5), (aS xs 6)], h3))
noncomputable def dW.c (G : aE) (k : Nat) (self : cY) (x0 x1 x2 : AV) (h : aB) : Option (AV × aB) := fD (
 aD (dC 71 (.agg [(.int .i64 0), (.int .i64 0)]) h) fun v0 h0 =>
 aD (pu h0 (bO x2)) fun v1 h1 =>
 fK (eU (dW.l2 G k h1.length self) k [x0, x1, v0, (.bool false), x2, v1, (.int .i64 0)] h1) fun e2 x2 h2 => kY e2
 (none)
 (fun i2 => if i2 = 0 then (aD (pu h2 (aU [(0, 1), (1, 1)] [(.int .i64 0), (.int .i64 0)] [(0, (aS x2 0)), (1, (aS x2 1))])) fun v10 h10 =>
 aD (dY (aN 2 (aS x2 2) v10 h10)) fun v11 h11 =>
 fT [aC G true 2 (aS x2 2) h11, some (.bool true)] h.length h11) else (none))
 (fT [aC G true 2 (aS x2 2) h2, some (aS x2 3)] h.length h2))
noncomputable def dW.f (G : aE) : Nat → cY
 | 0 => fun _ _ => none
 | k + 1 => fun args h => aAS args fun x0 x1 x2 => (dW.c G k (dW.f G k) x0 x1 x2 h)
noncomputable def eA.ann : Ann := fO [] [] [] []
noncomputable def eA.env (G : aE) (k : Nat) (self : cY) : List (Nat × Bool × cY) := [(52, true, dI.f G k), (63, true, cP.f G k), (90, true, dW.f G k)]
noncomputable def eA.c (G : aE) (k : Nat) (self : cY) (x0 x1 : AV) (h : aB) : Option (AV × aB) := fD (
 aD (bC x0 h) fun v0 h0 =>
 aD (bC x1 h0) fun v1 h1 =>
 aD (dC 71 (.agg [(.int .i64 0), (.int .i64 0)]) h1) fun v2 h2 =>
 aD (pu h2 (aA 0 v0)) fun v3 h3 =>
 aD (pu h3 (aC G false 1 v3 h3)) fun v4 h4 =>
 aD (pu h4 (aA 0 v1)) fun v5 h5 =>
 aD (pu h5 (aC G false 1 v5 h5)) fun v6 h6 =>
 aD (aL (dI.f G k) [v4, v6] h6) fun v7 h7 =>
 aD (pu h7 (aG v7 0)) fun v8 h8 =>
 aD (pu h8 (aG v7 1)) fun v9 h9 =>
 aD (pu h9 (aA 1 v0)) fun v10 h10 =>
 aD (pu h10 (aC G false 1 v10 h10)) fun v11 h11 =>
 aD (pu h11 (aA 1 v1)) fun v12 h12 =>
 aD (pu h12 (aC G false 1 v12 h12)) fun v13 h13 =>
 aD (aL (dI.f G k) [v11, v13] h13) fun v14 h14 =>
 aD (pu h14 (aG v14 0)) fun v15 h15 =>
 aD (pu h15 (aG v14 1)) fun v16 h16 =>
 aD (pu h16 (aC G true 2 v0 h16)) fun v17 h17 =>
 aD (aL (cP.f G k) [v17] h17) fun v18 h18 =>
 aD (pu h18 (aC G true 2 v1 h18)) fun v19 h19 =>
 aD (aL (cP.f G k) [v19] h19) fun v20 h20 =>
 aD (aZ 1 4 (.bool false) [(0, v18), (1, v20), (2, v9), (3, v16)] h20) fun v21 h21 =>
 aD (aL (dW.f G k) [v8, v15, v21] h21) fun v22 h22 =>
 aD (pu h22 (aG v22 0)) fun v23 h23 =>
 aD (pu h23 (aG v22 1)) fun v24 h24 =>
 aD (dY (aN 2 v2 v23 h24)) fun v25 h25 =>
 fT [aC G true 2 v2 h25, some v24] h.length h25)
noncomputable def eA.f (G : aE) : Nat → cY
 | 0 => fun _ _ => none
 | k + 1 => fun args h => kA args fun x0 x1 => (eA.c G k (eA.f G k) x0 x1 h)
theorem eA.step (G : aE) (k : Nat) (x0 x1 : AV) (h : aB) : eA.f G (k + 1) [x0, x1] h = eA.c G k (eA.f G k) x0 x1 h := rfl
noncomputable def eH.ann : Ann := fO [] [] [] []
noncomputable def eH.env (G : aE) (k : Nat) (self : cY) : List (Nat × Bool × cY) := [(53, true, dA.f G k), (63, true, cP.f G k), (90, true, dW.f G k)]
noncomputable def eH.c (G : aE) (k : Nat) (self : cY) (x0 x1 : AV) (h : aB) : Option (AV × aB) := fD (
 aD (bC x0 h) fun v0 h0 =>
 aD (bC x1 h0) fun v1 h1 =>
 aD (dC 71 (.agg [(.int .i64 0), (.int .i64 0)]) h1) fun v2 h2 =>
 aD (pu h2 (aA 0 v0)) fun v3 h3 =>
 aD (pu h3 (aC G false 1 v3 h3)) fun v4 h4 =>
 aD (pu h4 (aA 1 v1)) fun v5 h5 =>
 aD (pu h5 (aC G false 1 v5 h5)) fun v6 h6 =>
 aD (aL (dA.f G k) [v4, v6] h6) fun v7 h7 =>
 aD (pu h7 (aG v7 0)) fun v8 h8 =>
 aD (pu h8 (aG v7 1)) fun v9 h9 =>
 aD (pu h9 (aA 1 v0)) fun v10 h10 =>
 aD (pu h10 (aC G false 1 v10 h10)) fun v11 h11 =>
 aD (pu h11 (aA 0 v1)) fun v12 h12 =>
 aD (pu h12 (aC G false 1 v12 h12)) fun v13 h13 =>
 aD (aL (dA.f G k) [v11, v13] h13) fun v14 h14 =>
 aD (pu h14 (aG v14 0)) fun v15 h15 =>
 aD (pu h15 (aG v14 1)) fun v16 h16 =>
 aD (pu h16 (aC G true 2 v0 h16)) fun v17 h17 =>
 aD (aL (cP.f G k) [v17] h17) fun v18 h18 =>
 aD (pu h18 (aC G true 2 v1 h18)) fun v19 h19 =>
 aD (aL (cP.f G k) [v19] h19) fun v20 h20 =>
 aD (aZ 1 4 (.bool false) [(0, v18), (1, v20), (2, v9), (3, v16)] h20) fun v21 h21 =>
 aD (aL (dW.f G k) [v8, v15, v21] h21) fun v22 h22 =>
 aD (pu h22 (aG v22 0)) fun v23 h23 =>
 aD (pu h23 (aG v22 1)) fun v24 h24 =>
 aD (dY (aN 2 v2 v23 h24)) fun v25 h25 =>
 fT [aC G true 2 v2 h25, some v24] h.length h25)
noncomputable def eH.f (G : aE) : Nat → cY
 | 0 => fun _ _ => none
 | k + 1 => fun args h => kA args fun x0 x1 => (eH.c G k (eH.f G k) x0 x1 h)
theorem eH.step (G : aE) (k : Nat) (x0 x1 : AV) (h : aB) : eH.f G (k + 1) [x0, x1] h = eH.c G k (eH.f G k) x0 x1 h := rfl
noncomputable def dP.ann : Ann := fO [] [] [] []
noncomputable def dP.env (G : aE) (k : Nat) (self : cY) : List (Nat × Bool × cY) := [(54, true, bJ.f G k), (63, true, cP.f G k), (90, true, dW.f G k)]
noncomputable def dP.c (G : aE) (k : Nat) (self : cY) (x0 x1 : AV) (h : aB) : Option (AV × aB) := fD (
 aD (bC x0 h) fun v0 h0 =>
 aD (bC x1 h0) fun v1 h1 =>
 aD (dC 71 (.agg [(.int .i64 0), (.int .i64 0)]) h1) fun v2 h2 =>
 aD (pu h2 (aA 0 v0)) fun v3 h3 =>
 aD (pu h3 (aC G false 1 v3 h3)) fun v4 h4 =>
 aD (pu h4 (aA 0 v1)) fun v5 h5 =>
 aD (pu h5 (aC G false 1 v5 h5)) fun v6 h6 =>
 aD (aL (bJ.f G k) [v4, v6] h6) fun v7 h7 =>
 aD (pu h7 (aG v7 0)) fun v8 h8 =>
 aD (pu h8 (aG v7 1)) fun v9 h9 =>
 aD (pu h9 (aA 0 v0)) fun v10 h10 =>
 aD (pu h10 (aC G false 1 v10 h10)) fun v11 h11 =>
 aD (pu h11 (aA 1 v1)) fun v12 h12 =>
 aD (pu h12 (aC G false 1 v12 h12)) fun v13 h13 =>
 aD (aL (bJ.f G k) [v11, v13] h13) fun v14 h14 =>
 aD (pu h14 (aG v14 0)) fun v15 h15 =>
 aD (pu h15 (aG v14 1)) fun v16 h16 =>
 aD (pu h16 (aA 1 v0)) fun v17 h17 =>
 aD (pu h17 (aC G false 1 v17 h17)) fun v18 h18 =>
 aD (pu h18 (aA 0 v1)) fun v19 h19 =>
 aD (pu h19 (aC G false 1 v19 h19)) fun v20 h20 =>
 aD (aL (bJ.f G k) [v18, v20] h20) fun v21 h21 =>
 aD (pu h21 (aG v21 0)) fun v22 h22 =>
 aD (pu h22 (aG v21 1)) fun v23 h23 =>
 aD (pu h23 (aA 1 v0)) fun v24 h24 =>
 aD (pu h24 (aC G false 1 v24 h24)) fun v25 h25 =>
 aD (pu h25 (aA 1 v1)) fun v26 h26 =>
 aD (pu h26 (aC G false 1 v26 h26)) fun v27 h27 =>
 aD (aL (bJ.f G k) [v25, v27] h27) fun v28 h28 =>
 aD (pu h28 (aG v28 0)) fun v29 h29 =>
 aD (pu h29 (aG v28 1)) fun v30 h30 =>
 aD (pu h30 (iY pC v8 [v15, v22, v29])) fun v31 h31 =>
 aD (pu h31 (iY qT v8 [v15, v22, v29])) fun v32 h32 =>
 aD (pu h32 (aC G true 2 v0 h32)) fun v33 h33 =>
 aD (aL (cP.f G k) [v33] h33) fun v34 h34 =>
 aD (pu h34 (aC G true 2 v1 h34)) fun v35 h35 =>
 aD (aL (cP.f G k) [v35] h35) fun v36 h36 =>
 aD (aZ 1 6 (.bool false) [(0, v34), (1, v36), (2, v9), (3, v16), (4, v23), (5, v30)] h36) fun v37 h37 =>
 aD (aL (dW.f G k) [v31, v32, v37] h37) fun v38 h38 =>
 aD (pu h38 (aG v38 0)) fun v39 h39 =>
 aD (pu h39 (aG v38 1)) fun v40 h40 =>
 aD (dY (aN 2 v2 v39 h40)) fun v41 h41 =>
 fT [aC G true 2 v2 h41, some v40] h.length h41)
noncomputable def dP.f (G : aE) : Nat → cY
 | 0 => fun _ _ => none
 | k + 1 => fun args h => kA args fun x0 x1 => (dP.c G k (dP.f G k) x0 x1 h)
theorem dP.step (G : aE) (k : Nat) (x0 x1 : AV) (h : aB) : dP.f G (k + 1) [x0, x1] h = dP.c G k (dP.f G k) x0 x1 h := rfl
noncomputable def eG.ann : Ann := fO [] [] [] []
noncomputable def eG.env (G : aE) (k : Nat) (self : cY) : List (Nat × Bool × cY) := [(77, true, dP.f G k)]
noncomputable def eG.c (G : aE) (k : Nat) (self : cY) (x0 x1 : AV) (h : aB) : Option (AV × aB) := fD (
 aD (bC x0 h) fun v0 h0 =>
 aD (dC 71 (.agg [(.int .i64 0), (.int .i64 0)]) h0) fun v1 h1 =>
 aD (pu h1 (bE Tryd.prog .lss 3 true x1 (.int .i64 0))) fun v2 h2 =>
 aD (gd v2 false h2 (some (x1, h2))) fun v3 h3 =>
 aD (gd v2 false h3 (pu h3 (bE Tryd.prog .gtr 3 true v3 (.int .i64 62)))) fun v4 h4 =>
 aD (pu h4 (eW v2 (.bool true) v4)) fun v5 h5 =>
 bA v5
 (aD (pu h5 (aU [(0, 1), (1, 1)] [(.int .i64 0), (.int .i64 0)] [])) fun v6 h6 =>
 aD (dY (aN 2 v1 v6 h6)) fun v7 h7 =>
 fT [aC G true 2 v1 h7, some (.bool false)] h.length h7)
 (aD (pu h5 (bE Tryd.prog .shl 2 true (.int .i64 1) x1)) fun v8 h8 =>
 aD (pu h8 (aC G true 2 v0 h8)) fun v9 h9 =>
 aD (pu h9 (aU [(0, 1), (1, 1)] [(.int .i64 0), (.int .i64 0)] [(0, v8), (1, v8)])) fun v10 h10 =>
 aD (aL (dP.f G k) [v9, v10] h10) fun v11 h11 =>
 aD (pu h11 (aG v11 0)) fun v12 h12 =>
 aD (pu h12 (aG v11 1)) fun v13 h13 =>
 aD (dY (aN 2 v1 v12 h13)) fun v14 h14 =>
 fT [aC G true 2 v1 h14, some v13] h.length h14))
noncomputable def eG.f (G : aE) : Nat → cY
 | 0 => fun _ _ => none
 | k + 1 => fun args h => kA args fun x0 x1 => (eG.c G k (eG.f G k) x0 x1 h)
theorem eG.step (G : aE) (k : Nat) (x0 x1 : AV) (h : aB) : eG.f G (k + 1) [x0, x1] h = eG.c G k (eG.f G k) x0 x1 h := rfl
noncomputable def eF.ann : Ann := fO [] [] [] []
noncomputable def eF.env (G : aE) (k : Nat) (self : cY) : List (Nat × Bool × cY) := [(63, true, cP.f G k)]
noncomputable def eF.c (G : aE) (k : Nat) (self : cY) (x0 x1 : AV) (h : aB) : Option (AV × aB) := fD (
 aD (bC x0 h) fun v0 h0 =>
 aD (dC 71 (.agg [(.int .i64 0), (.int .i64 0)]) h0) fun v1 h1 =>
 aD (pu h1 (aC G true 2 v0 h1)) fun v2 h2 =>
 aD (aL (cP.f G k) [v2] h2) fun v3 h3 =>
 aD (pu h3 (un .not v3)) fun v4 h4 =>
 aD (gd v4 false h4 (some (x1, h4))) fun v5 h5 =>
 aD (gd v4 false h5 (pu h5 (bE Tryd.prog .lss 3 true v5 (.int .i64 0)))) fun v6 h6 =>
 aD (pu h6 (eW v4 (.bool true) v6)) fun v7 h7 =>
 aD (gd v7 false h7 (some (x1, h7))) fun v8 h8 =>
 aD (gd v7 false h8 (pu h8 (bE Tryd.prog .gtr 3 true v8 (.int .i64 63)))) fun v9 h9 =>
 aD (pu h9 (eW v7 (.bool true) v9)) fun v10 h10 =>
 bA v10
 (aD (pu h10 (aU [(0, 1), (1, 1)] [(.int .i64 0), (.int .i64 0)] [])) fun v11 h11 =>
 aD (dY (aN 2 v1 v11 h11)) fun v12 h12 =>
 fT [aC G true 2 v1 h12] h.length h12)
 (aD (pu h10 (aA 0 v0)) fun v13 h13 =>
 aD (pu h13 (aC G false 1 v13 h13)) fun v14 h14 =>
 aD (pu h14 (bE Tryd.prog .shr 2 false v14 x1)) fun v15 h15 =>
 aD (pu h15 (aA 1 v0)) fun v16 h16 =>
 aD (pu h16 (aC G false 1 v16 h16)) fun v17 h17 =>
 aD (pu h17 (bE Tryd.prog .shr 2 false v17 x1)) fun v18 h18 =>
 aD (pu h18 (aU [(0, 1), (1, 1)] [(.int .i64 0), (.int .i64 0)] [(0, v15), (1, v18)])) fun v19 h19 =>
 aD (dY (aN 2 v1 v19 h19)) fun v20 h20 =>
 fT [aC G true 2 v1 h20] h.length h20))
noncomputable def eF.f (G : aE) : Nat → cY
 | 0 => fun _ _ => none
 | k + 1 => fun args h => kA args fun x0 x1 => (eF.c G k (eF.f G k) x0 x1 h)
theorem eF.step (G : aE) (k : Nat) (x0 x1 : AV) (h : aB) : eF.f G (k + 1) [x0, x1] h = eF.c G k (eF.f G k) x0 x1 h := rfl
noncomputable def eP.ann : Ann := fO [] [] [] []
noncomputable def eP.env (G : aE) (k : Nat) (self : cY) : List (Nat × Bool × cY) := []
noncomputable def eP.c (G : aE) (k : Nat) (self : cY) (h : aB) : Option (AV × aB) := fD (
 aD (dC 71 (.agg [(.int .i64 0), (.int .i64 0)]) h) fun v0 h0 =>
 aD (pu h0 (aU [(0, 1), (1, 1)] [(.int .i64 0), (.int .i64 0)] [(0, (.int .i64 (-9223372036854775808))), (1, (.int .i64 9223372036854775807))])) fun v1 h1 =>
 aD (dY (aN 2 v0 v1 h1)) fun v2 h2 =>
 fT [aC G true 2 v0 h2] h.length h2)
noncomputable def eP.f (G : aE) : Nat → cY
 | 0 => fun _ _ => none
 | k + 1 => fun args h => aEq args (eP.c G k (eP.f G k) h)
noncomputable def eD.ann : Ann := fO [] [] [] []
noncomputable def eD.env (G : aE) (k : Nat) (self : cY) : List (Nat × Bool × cY) := [(63, true, cP.f G k), (82, true, eP.f G k)]
noncomputable def eD.c (G : aE) (k : Nat) (self : cY) (x0 x1 : AV) (h : aB) : Option (AV × aB) := fD (
 aD (bC x0 h) fun v0 h0 =>
 aD (bC x1 h0) fun v1 h1 =>
 aD (dC 71 (.agg [(.int .i64 0), (.int .i64 0)]) h1) fun v2 h2 =>
 aD (pu h2 (aC G true 2 v0 h2)) fun v3 h3 =>
 aD (aL (cP.f G k) [v3] h3) fun v4 h4 =>
 aD (pu h4 (un .not v4)) fun v5 h5 =>
 aD (gd v5 false h5 (pu h5 (aC G true 2 v1 h5))) fun v6 h6 =>
 aD (gd v5 false h6 (aL (cP.f G k) [v6] h6)) fun v7 h7 =>
 aD (gd v5 false h7 (pu h7 (un .not v7))) fun v8 h8 =>
 aD (pu h8 (eW v5 (.bool true) v8)) fun v9 h9 =>
 bA v9
 (aD (pu h9 (aU [(0, 1), (1, 1)] [(.int .i64 0), (.int .i64 0)] [])) fun v10 h10 =>
 aD (dY (aN 2 v2 v10 h10)) fun v11 h11 =>
 fT [aC G true 2 v2 h11] h.length h11)
 (aD (pu h9 (aA 0 v0)) fun v12 h12 =>
 aD (pu h12 (aC G false 1 v12 h12)) fun v13 h13 =>
 aD (pu h13 (bE Tryd.prog .geq 2 true v13 (.int .i64 0))) fun v14 h14 =>
 aD (gd v14 true h14 (pu h14 (aA 0 v1))) fun v15 h15 =>
 aD (gd v14 true h15 (pu h15 (aC G false 1 v15 h15))) fun v16 h16 =>
 aD (gd v14 true h16 (pu h16 (bE Tryd.prog .geq 2 true v16 (.int .i64 0)))) fun v17 h17 =>
 aD (pu h17 (eW v14 v17 (.bool false))) fun v18 h18 =>
 bA v18
 (aD (pu h18 (aA 1 v0)) fun v19 h19 =>
 aD (pu h19 (aC G false 1 v19 h19)) fun v20 h20 =>
 aD (pu h20 (aA 1 v1)) fun v21 h21 =>
 aD (pu h21 (aC G false 1 v21 h21)) fun v22 h22 =>
 aD (pu h22 (iY pC v20 [v22])) fun v23 h23 =>
 aD (pu h23 (aU [(0, 1), (1, 1)] [(.int .i64 0), (.int .i64 0)] [(1, v23)])) fun v24 h24 =>
 aD (dY (aN 2 v2 v24 h24)) fun v25 h25 =>
 fT [aC G true 2 v2 h25] h.length h25)
 (aD (pu h18 (aA 0 v0)) fun v26 h26 =>
 aD (pu h26 (aC G false 1 v26 h26)) fun v27 h27 =>
 aD (pu h27 (bE Tryd.prog .geq 2 true v27 (.int .i64 0))) fun v28 h28 =>
 bA v28
 (aD (pu h28 (aA 1 v0)) fun v29 h29 =>
 aD (pu h29 (aC G false 1 v29 h29)) fun v30 h30 =>
 aD (pu h30 (aU [(0, 1), (1, 1)] [(.int .i64 0), (.int .i64 0)] [(1, v30)])) fun v31 h31 =>
 aD (dY (aN 2 v2 v31 h31)) fun v32 h32 =>
 fT [aC G true 2 v2 h32] h.length h32)
 (aD (pu h28 (aA 0 v1)) fun v33 h33 =>
 aD (pu h33 (aC G false 1 v33 h33)) fun v34 h34 =>
 aD (pu h34 (bE Tryd.prog .geq 2 true v34 (.int .i64 0))) fun v35 h35 =>
 bA v35
 (aD (pu h35 (aA 1 v1)) fun v36 h36 =>
 aD (pu h36 (aC G false 1 v36 h36)) fun v37 h37 =>
 aD (pu h37 (aU [(0, 1), (1, 1)] [(.int .i64 0), (.int .i64 0)] [(1, v37)])) fun v38 h38 =>
 aD (dY (aN 2 v2 v38 h38)) fun v39 h39 =>
 fT [aC G true 2 v2 h39] h.length h39)
 (aD (aL (eP.f G k) [] h35) fun v40 h40 =>
 aD (dY (aN 2 v2 v40 h40)) fun v41 h41 =>
 fT [aC G true 2 v2 h41] h.length h41)))))
noncomputable def eD.f (G : aE) : Nat → cY
 | 0 => fun _ _ => none
 | k + 1 => fun args h => kA args fun x0 x1 => (eD.c G k (eD.f G k) x0 x1 h)
theorem eD.step (G : aE) (k : Nat) (x0 x1 : AV) (h : aB) : eD.f G (k + 1) [x0, x1] h = eD.c G k (eD.f G k) x0 x1 h := rfl
noncomputable def dM.ann : Ann := fO [] [] [] []
noncomputable def dM.env (G : aE) (k : Nat) (self : cY) : List (Nat × Bool × cY) := [(63, true, cP.f G k)]
noncomputable def dM.c (G : aE) (k : Nat) (self : cY) (x0 x1 : AV) (h : aB) : Option (AV × aB) := fD (
 aD (bC x0 h) fun v0 h0 =>
 aD (bC x1 h0) fun v1 h1 =>
 aD (dC 71 (.agg [(.int .i64 0), (.int .i64 0)]) h1) fun v2 h2 =>
 aD (pu h2 (aC G true 2 v0 h2)) fun v3 h3 =>
 aD (aL (cP.f G k) [v3] h3) fun v4 h4 =>
 aD (pu h4 (un .not v4)) fun v5 h5 =>
 aD (gd v5 false h5 (pu h5 (aC G true 2 v1 h5))) fun v6 h6 =>
 aD (gd v5 false h6 (aL (cP.f G k) [v6] h6)) fun v7 h7 =>
 aD (gd v5 false h7 (pu h7 (un .not v7))) fun v8 h8 =>
 aD (pu h8 (eW v5 (.bool true) v8)) fun v9 h9 =>
 bA v9
 (aD (pu h9 (aU [(0, 1), (1, 1)] [(.int .i64 0), (.int .i64 0)] [])) fun v10 h10 =>
 aD (dY (aN 2 v2 v10 h10)) fun v11 h11 =>
 fT [aC G true 2 v2 h11] h.length h11)
 (aD (pu h9 (aA 0 v0)) fun v12 h12 =>
 aD (pu h12 (aC G false 1 v12 h12)) fun v13 h13 =>
 aD (pu h13 (aA 0 v1)) fun v14 h14 =>
 aD (pu h14 (aC G false 1 v14 h14)) fun v15 h15 =>
 aD (pu h15 (iY pC v13 [v15])) fun v16 h16 =>
 aD (pu h16 (aA 1 v0)) fun v17 h17 =>
 aD (pu h17 (aC G false 1 v17 h17)) fun v18 h18 =>
 aD (pu h18 (aA 1 v1)) fun v19 h19 =>
 aD (pu h19 (aC G false 1 v19 h19)) fun v20 h20 =>
 aD (pu h20 (iY qT v18 [v20])) fun v21 h21 =>
 aD (pu h21 (aU [(0, 1), (1, 1)] [(.int .i64 0), (.int .i64 0)] [(0, v16), (1, v21)])) fun v22 h22 =>
 aD (dY (aN 2 v2 v22 h22)) fun v23 h23 =>
 fT [aC G true 2 v2 h23] h.length h23))
noncomputable def dM.f (G : aE) : Nat → cY
 | 0 => fun _ _ => none
 | k + 1 => fun args h => kA args fun x0 x1 => (dM.c G k (dM.f G k) x0 x1 h)
theorem dM.step (G : aE) (k : Nat) (x0 x1 : AV) (h : aB) : dM.f G (k + 1) [x0, x1] h = dM.c G k (dM.f G k) x0 x1 h := rfl
noncomputable def cZ.ann : Ann := fO [] [] [] []
noncomputable def cZ.env (G : aE) (k : Nat) (self : cY) : List (Nat × Bool × cY) := [(75, true, eA.f G k), (76, true, eH.f G k), (77, true, dP.f G k), (78, true, eG.f G k), (79, true, eF.f G k), (80, true, eD.f G k), (81, true, dM.f G k), (82, true, eP.f G k)]
noncomputable def cZ.c (G : aE) (k : Nat) (self : cY) (x0 x1 : AV) (h : aB) : Option (AV × aB) := fD (
 aD (bC x0 h) fun v0 h0 =>
 aD (dC 71 (.agg [(.int .i64 0), (.int .i64 0)]) h0) fun v1 h1 =>
 aD (pu h1 (aA 0 v0)) fun v2 h2 =>
 aD (pu h2 (aC G false 1 v2 h2)) fun v3 h3 =>
 aD (pu h3 (bE Tryd.prog .eql 3 true v3 (.int .i64 1))) fun v4 h4 =>
 bA v4
 (aD (pu h4 (aA 5 v0)) fun v5 h5 =>
 aD (pu h5 (aC G false 1 v5 h5)) fun v6 h6 =>
 aD (pu h6 (aA 5 v0)) fun v7 h7 =>
 aD (pu h7 (aC G false 1 v7 h7)) fun v8 h8 =>
 aD (pu h8 (aU [(0, 1), (1, 1)] [(.int .i64 0), (.int .i64 0)] [(0, v6), (1, v8)])) fun v9 h9 =>
 aD (dY (aN 2 v1 v9 h9)) fun v10 h10 =>
 fT [aC G true 2 v1 h10, some (.bool true)] h.length h10)
 (aD (pu h4 (bE Tryd.prog .eql 3 true v3 (.int .i64 2))) fun v11 h11 =>
 bA v11
 (aD (pu h11 (aA 2 v0)) fun v12 h12 =>
 aD (pu h12 (aC G false 1 v12 h12)) fun v13 h13 =>
 aD (pu h13 (aF 2 x1 v13)) fun v14 h14 =>
 aD (pu h14 (aC G true 2 v14 h14)) fun v15 h15 =>
 aD (dY (aN 2 v1 v15 h15)) fun v16 h16 =>
 fT [aC G true 2 v1 h16, some (.bool true)] h.length h16)
 (aD (pu h11 (bE Tryd.prog .eql 3 true v3 (.int .i64 3))) fun v17 h17 =>
 bA v17
 (aD (pu h17 (aA 2 v0)) fun v18 h18 =>
 aD (pu h18 (aC G false 1 v18 h18)) fun v19 h19 =>
 aD (pu h19 (aF 2 x1 v19)) fun v20 h20 =>
 aD (pu h20 (aC G true 2 v20 h20)) fun v21 h21 =>
 aD (pu h21 (aA 3 v0)) fun v22 h22 =>
 aD (pu h22 (aC G false 1 v22 h22)) fun v23 h23 =>
 aD (pu h23 (aF 2 x1 v23)) fun v24 h24 =>
 aD (pu h24 (aC G true 2 v24 h24)) fun v25 h25 =>
 aD (aL (eA.f G k) [v21, v25] h25) fun v26 h26 =>
 aD (pu h26 (aG v26 0)) fun v27 h27 =>
 aD (pu h27 (aG v26 1)) fun v28 h28 =>
 aD (dY (aN 2 v1 v27 h28)) fun v29 h29 =>
 fT [aC G true 2 v1 h29, some v28] h.length h29)
 (aD (pu h17 (bE Tryd.prog .eql 3 true v3 (.int .i64 4))) fun v30 h30 =>
 bA v30
 (aD (pu h30 (aA 2 v0)) fun v31 h31 =>
 aD (pu h31 (aC G false 1 v31 h31)) fun v32 h32 =>
 aD (pu h32 (aF 2 x1 v32)) fun v33 h33 =>
 aD (pu h33 (aC G true 2 v33 h33)) fun v34 h34 =>
 aD (pu h34 (aA 3 v0)) fun v35 h35 =>
 aD (pu h35 (aC G false 1 v35 h35)) fun v36 h36 =>
 aD (pu h36 (aF 2 x1 v36)) fun v37 h37 =>
 aD (pu h37 (aC G true 2 v37 h37)) fun v38 h38 =>
 aD (aL (eH.f G k) [v34, v38] h38) fun v39 h39 =>
 aD (pu h39 (aG v39 0)) fun v40 h40 =>
 aD (pu h40 (aG v39 1)) fun v41 h41 =>
 aD (dY (aN 2 v1 v40 h41)) fun v42 h42 =>
 fT [aC G true 2 v1 h42, some v41] h.length h42)
 (aD (pu h30 (bE Tryd.prog .eql 3 true v3 (.int .i64 5))) fun v43 h43 =>
 bA v43
 (aD (pu h43 (aA 2 v0)) fun v44 h44 =>
 aD (pu h44 (aC G false 1 v44 h44)) fun v45 h45 =>
 aD (pu h45 (aF 2 x1 v45)) fun v46 h46 =>
 aD (pu h46 (aC G true 2 v46 h46)) fun v47 h47 =>
 aD (pu h47 (aA 3 v0)) fun v48 h48 =>
 aD (pu h48 (aC G false 1 v48 h48)) fun v49 h49 =>
 aD (pu h49 (aF 2 x1 v49)) fun v50 h50 =>
 aD (pu h50 (aC G true 2 v50 h50)) fun v51 h51 =>
 aD (aL (dP.f G k) [v47, v51] h51) fun v52 h52 =>
 aD (pu h52 (aG v52 0)) fun v53 h53 =>
 aD (pu h53 (aG v52 1)) fun v54 h54 =>
 aD (dY (aN 2 v1 v53 h54)) fun v55 h55 =>
 fT [aC G true 2 v1 h55, some v54] h.length h55)
 (aD (pu h43 (bE Tryd.prog .eql 3 true v3 (.int .i64 10))) fun v56 h56 =>
 bA v56
 (aD (pu h56 (aA 2 v0)) fun v57 h57 =>
 aD (pu h57 (aC G false 1 v57 h57)) fun v58 h58 =>
 aD (pu h58 (aF 2 x1 v58)) fun v59 h59 =>
 aD (pu h59 (aC G true 2 v59 h59)) fun v60 h60 =>
 aD (pu h60 (aA 5 v0)) fun v61 h61 =>
 aD (pu h61 (aC G false 1 v61 h61)) fun v62 h62 =>
 aD (aL (eG.f G k) [v60, v62] h62) fun v63 h63 =>
 aD (pu h63 (aG v63 0)) fun v64 h64 =>
 aD (pu h64 (aG v63 1)) fun v65 h65 =>
 aD (dY (aN 2 v1 v64 h65)) fun v66 h66 =>
 fT [aC G true 2 v1 h66, some v65] h.length h66)
 (aD (pu h56 (bE Tryd.prog .eql 3 true v3 (.int .i64 12))) fun v67 h67 =>
 bA v67
 (aD (pu h67 (aA 2 v0)) fun v68 h68 =>
 aD (pu h68 (aC G false 1 v68 h68)) fun v69 h69 =>
 aD (pu h69 (aF 2 x1 v69)) fun v70 h70 =>
 aD (pu h70 (aC G true 2 v70 h70)) fun v71 h71 =>
 aD (pu h71 (aA 5 v0)) fun v72 h72 =>
 aD (pu h72 (aC G false 1 v72 h72)) fun v73 h73 =>
 aD (aL (eF.f G k) [v71, v73] h73) fun v74 h74 =>
 aD (dY (aN 2 v1 v74 h74)) fun v75 h75 =>
 fT [aC G true 2 v1 h75, some (.bool true)] h.length h75)
 (aD (pu h67 (bE Tryd.prog .eql 3 true v3 (.int .i64 7))) fun v76 h76 =>
 bA v76
 (aD (pu h76 (aA 2 v0)) fun v77 h77 =>
 aD (pu h77 (aC G false 1 v77 h77)) fun v78 h78 =>
 aD (pu h78 (aF 2 x1 v78)) fun v79 h79 =>
 aD (pu h79 (aC G true 2 v79 h79)) fun v80 h80 =>
 aD (pu h80 (aA 3 v0)) fun v81 h81 =>
 aD (pu h81 (aC G false 1 v81 h81)) fun v82 h82 =>
 aD (pu h82 (aF 2 x1 v82)) fun v83 h83 =>
 aD (pu h83 (aC G true 2 v83 h83)) fun v84 h84 =>
 aD (aL (eD.f G k) [v80, v84] h84) fun v85 h85 =>
 aD (dY (aN 2 v1 v85 h85)) fun v86 h86 =>
 fT [aC G true 2 v1 h86, some (.bool true)] h.length h86)
 (aD (pu h76 (bE Tryd.prog .eql 3 true v3 (.int .i64 13))) fun v87 h87 =>
 bA v87
 (aD (pu h87 (aU [(0, 1), (1, 1)] [(.int .i64 0), (.int .i64 0)] [(1, (.int .i64 1))])) fun v88 h88 =>
 aD (dY (aN 2 v1 v88 h88)) fun v89 h89 =>
 fT [aC G true 2 v1 h89, some (.bool true)] h.length h89)
 (aD (pu h87 (bE Tryd.prog .eql 3 true v3 (.int .i64 14))) fun v90 h90 =>
 bA v90
 (aD (pu h90 (aA 3 v0)) fun v91 h91 =>
 aD (pu h91 (aC G false 1 v91 h91)) fun v92 h92 =>
 aD (pu h92 (aF 2 x1 v92)) fun v93 h93 =>
 aD (pu h93 (aC G true 2 v93 h93)) fun v94 h94 =>
 aD (pu h94 (aA 4 v0)) fun v95 h95 =>
 aD (pu h95 (aC G false 1 v95 h95)) fun v96 h96 =>
 aD (pu h96 (aF 2 x1 v96)) fun v97 h97 =>
 aD (pu h97 (aC G true 2 v97 h97)) fun v98 h98 =>
 aD (aL (dM.f G k) [v94, v98] h98) fun v99 h99 =>
 aD (dY (aN 2 v1 v99 h99)) fun v100 h100 =>
 fT [aC G true 2 v1 h100, some (.bool true)] h.length h100)
 (aD (aL (eP.f G k) [] h90) fun v101 h101 =>
 aD (dY (aN 2 v1 v101 h101)) fun v102 h102 =>
 fT [aC G true 2 v1 h102, some (.bool true)] h.length h102)))))))))))
noncomputable def cZ.f (G : aE) : Nat → cY
 | 0 => fun _ _ => none
 | k + 1 => fun args h => kA args fun x0 x1 => (cZ.c G k (cZ.f G k) x0 x1 h)
theorem cZ.step (G : aE) (k : Nat) (x0 x1 : AV) (h : aB) : cZ.f G (k + 1) [x0, x1] h = cZ.c G k (cZ.f G k) x0 x1 h := rfl
noncomputable def aM.ann : Ann := fO [] [] [(15, [4, 5, 9, 10, 44, 45, 46]), (7, [1, 2, 4, 5, 26, 27, 28])] [(26, [4, 5, 9, 10, 11, 12, 44, 45, 46]), (25, [9, 10, 11, 12, 44, 45, 46, 56])]
noncomputable def aM.env (G : aE) (k : Nat) (self : cY) : List (Nat × Bool × cY) := [(17, true, bV.f G k), (63, true, cP.f G k), (64, false, aJ.f G k), (65, true, cZ.f G k)]
noncomputable def aM.l7 (G : aE) (k n0 : Nat) (self : cY) (lp : hO) : hO := fun xs h0 => rM n0 xs h0 fun h =>
 aD (pu h (bE Tryd.prog .lss 3 false (aS xs 6) (aS xs 5))) fun v11 h11 =>
 bA v11
 (aD (pu h11 (aF 2 (aS xs 4) (aS xs 6))) fun v12 h12 =>
 aD (pu h12 (aC G true 2 v12 h12)) fun v13 h13 =>
 aD (dC 71 (.agg [(.int .i64 0), (.int .i64 0)]) h13) fun v14 h14 =>
 aD (dY (aN 2 v14 v13 h14)) fun v15 h15 =>
 aD (pu h15 (aC G true 2 v14 h15)) fun v16 h16 =>
 aD (aL (cP.f G k) [v16] h16) fun v17 h17 =>
 aD (pu h17 (un .not v17)) fun v18 h18 =>
 bA v18
 (aD (pu h18 (aC G false 1 (.gl 2) h18)) fun v19 h19 =>
 some (.ret, [(aS xs 0), (aS xs 1), .nils, v19, (aS xs 4), (aS xs 5), (aS xs 6)], h19))
 (aD (pu h18 (bE Tryd.prog .add 3 true (aS xs 6) (.int .i64 1))) fun v20 h20 =>
 lp [(aS xs 0), (aS xs 1), (aS xs 2), (aS xs 3), (aS xs 4), (aS xs 5), v20] h20))
 (some (.exit 0, [(aS xs 0), (aS xs 1), (aS xs 2), (aS xs 3), (aS xs 4), (aS xs 5), (aS xs 6)], h11))
noncomputable def aM.l15 (G : aE) (k n0 : Nat) (self : cY) (lp : hO) : hO := fun xs h0 => rM n0 xs h0 fun h =>
 aD (pu h (bE Tryd.prog .lss 3 false (aS xs 6) (aS xs 5))) fun v30 h30 =>
 bA v30
 (aD (pu h30 (aF 6 (aS xs 4) (aS xs 6))) fun v31 h31 =>
 aD (pu h31 (aC G true 6 v31 h31)) fun v32 h32 =>
 aD (dC 52 (.agg [(.int .i64 0), (.int .i64 0), (.int .i64 0), (.int .i64 0), (.int .i64 0), (.int .i64 0)]) h32) fun v33 h33 =>
 aD (dY (aN 6 v33 v32 h33)) fun v34 h34 =>
 fK (
 aD (pu h34 (aA 0 v33)) fun v35 h35 =>
 aD (pu h35 (aC G false 1 v35 h35)) fun v36 h36 =>
 aD (pu h36 (bE Tryd.prog .eql 3 true v36 (.int .i64 20))) fun v37 h37 =>
 bA v37
 (some (.ret, [(aS xs 3), .nili, (aS xs 2), (aS xs 3), (aS xs 6), v33, (aS xs 4), (aS xs 5), (aS xs 6)], h37))
 (fK (
 aD (pu h37 (bE Tryd.prog .eql 3 true v36 (.int .i64 17))) fun v38 h38 =>
 bA v38
 (some (.normal, [(aS xs 2), (aS xs 3), (aS xs 6), v33, (aS xs 4), (aS xs 5), (aS xs 6), v38], h38))
 (aD (pu h38 (bE Tryd.prog .eql 3 true v36 (.int .i64 18))) fun v39 h39 =>
 bA v39
 (some (.normal, [(aS xs 2), (aS xs 3), (aS xs 6), v33, (aS xs 4), (aS xs 5), (aS xs 6), v39], h39))
 (aD (pu h39 (bE Tryd.prog .eql 3 true v36 (.int .i64 19))) fun v40 h40 =>
 bA v40
 (some (.normal, [(aS xs 2), (aS xs 3), (aS xs 6), v33, (aS xs 4), (aS xs 5), (aS xs 6), v40], h40))
 (aD (pu h40 (bE Tryd.prog .eql 3 true v36 (.int .i64 15))) fun v41 h41 =>
 bA v41
 (some (.normal, [(aS xs 2), (aS xs 3), (aS xs 6), v33, (aS xs 4), (aS xs 5), (aS xs 6), v41], h41))
 (aD (pu h41 (bE Tryd.prog .eql 3 true v36 (.int .i64 16))) fun v42 h42 =>
 some (.normal, [(aS xs 2), (aS xs 3), (aS xs 6), v33, (aS xs 4), (aS xs 5), (aS xs 6), v42], h42)))))) fun e43 x43 h43 => kY e43
 (bA (aS x43 7)
 (aD (pu h43 (aC G false 1 (.gl 3) h43)) fun v44 h44 =>
 aD (pu h44 (aU [(0, 1), (1, 1)] [(.int .i64 0), .nili] [(0, (aS x43 2)), (1, v44)])) fun v45 h45 =>
 aD (bC v45 h45) fun v46 h46 =>
 some (.ret, [.nils, (.iface 89 v46), (aS x43 0), (aS x43 1), (aS x43 2), (aS x43 3), (aS x43 4), (aS x43 5), (aS x43 6)], h46))
 (some (.normal, [.undef, .undef, (aS x43 0), (aS x43 1), (aS x43 2), (aS x43 3), (aS x43 4), (aS x43 5), (aS x43 6)], h43)))
 (fun i43 => if i43 = 4 then (some (.normal, [.undef, .undef, (aS x43 0), (aS x43 1), (aS x43 2), (aS x43 3), (aS x43 4), (aS x43 5), (aS x43 6)], h43)) else (some (.exit i43, [.undef, .undef, (aS x43 0), (aS x43 1), (aS x43 2), (aS x43 3), (aS x43 4), (aS x43 5), (aS x43 6)], h43)))
 (some (.ret, [.undef, .undef, (aS x43 0), (aS x43 1), (aS x43 2), (aS x43 3), (aS x43 4), (aS x43 5), (aS x43 6)], h43)))) fun e47 x47 h47 => kY e47
 (aD (pu h47 (aC G true 6 (aS x47 5) h47)) fun v48 h48 =>
 aD (aL (cZ.f G k) [v48, (aS x47 2)] h48) fun v49 h49 =>
 aD (pu h49 (aG v49 0)) fun v50 h50 =>
 aD (pu h50 (aG v49 1)) fun v51 h51 =>
 aD (dC 71 (.agg [(.int .i64 0), (.int .i64 0)]) h51) fun v52 h52 =>
 aD (dY (aN 2 v52 v50 h52)) fun v53 h53 =>
 aD (pu h53 (un .not v51)) fun v54 h54 =>
 bA v54
 (aD (pu h54 (aC G false 1 (.gl 2) h54)) fun v55 h55 =>
 aD (pu h55 (aU [(0, 1), (1, 1)] [(.int .i64 0), .nili] [(0, (aS x47 4)), (1, v55)])) fun v56 h56 =>
 aD (bC v56 h56) fun v57 h57 =>
 some (.ret, [.nils, (.iface 89 v57), (aS x47 2), (aS x47 3), (aS x47 6), (aS x47 7), (aS x47 8)], h57))
 (aD (pu h54 (aA 1 (aS x47 5))) fun v58 h58 =>
 aD (pu h58 (aC G false 1 v58 h58)) fun v59 h59 =>
 aD (pu h59 (aC G true 2 v52 h59)) fun v60 h60 =>
 aD (pu h60 (aC G true 2 v52 h60)) fun v61 h61 =>
 aD (pu h61 (aF 2 (aS x47 3) (aS x47 4))) fun v62 h62 =>
 aD (dY (aN 2 v62 v60 h62)) fun v63 h63 =>
 aD (pu h63 (aF 2 (aS x47 2) v59)) fun v64 h64 =>
 aD (dY (aN 2 v64 v61 h64)) fun v65 h65 =>
 grd [(v58, v62), (v52, v62)] (
aD (pu h65 (bE Tryd.prog .add 3 true (aS x47 8) (.int .i64 1))) fun v66 h66 =>
 lp [(aS x47 0), (aS x47 1), (aS x47 2), (aS x47 3), (aS x47 6), (aS x47 7), v66] h66)))
 (fun i47 => if i47 = 3 then (aD (pu h47 (bE Tryd.prog .add 3 true (aS x47 8) (.int .i64 1))) fun v67 h67 =>
 lp [(aS x47 0), (aS x47 1), (aS x47 2), (aS x47 3), (aS x47 6), (aS x47 7), v67] h67) else (some (.exit i47, [(aS x47 0), (aS x47 1), (aS x47 2), (aS x47 3), (aS x47 6), (aS x47 7), (aS x47 8)], h47)))
 (some (.ret, [(aS x47 0), (aS x47 1), (aS x47 2), (aS x47 3), (aS x47 6), (aS x47 7), (aS x47 8)], h47)))
 (some (.exit 2, [(aS xs 0), (aS xs 1), (aS xs 2), (aS xs 3), (aS xs 4), (aS xs 5), (aS xs 6)], h30))
noncomputable def aM.c (G : aE) (k : Nat) (self : cY) (x0 x1 : AV) (h : aB) : Option (AV × aB) := fD (
 aD (bC x0 h) fun v0 h0 =>
 aD (pu h0 (aC G true 3 v0 h0)) fun v1 h1 =>
 aD (aL (bV.f G k) [v1] h1) fun v2 h2 =>
 aD (pu h2 (bE Tryd.prog .neq 35 true v2 .nili)) fun v3 h3 =>
 bA v3
 (cT [.nils, v2] h.length h3)
 (aD (pu h3 (bO x1)) fun v4 h4 =>
 aD (pu h4 (aA 1 v0)) fun v5 h5 =>
 aD (pu h5 (aC G false 1 v5 h5)) fun v6 h6 =>
 aD (pu h6 (bE Tryd.prog .neq 3 false v4 v6)) fun v7 h7 =>
 bA v7
 (aD (pu h7 (aC G false 1 (.gl 1) h7)) fun v8 h8 =>
 cT [.nils, v8] h.length h8)
 (aD (pu h7 (bO x1)) fun v9 h9 =>
 fK (eU (aM.l7 G k h9.length self) k [x1, v0, .nils, .nili, x1, v9, (.int .i64 0)] h9) fun e10 x10 h10 => kY e10
 (none)
 (fun i10 => if i10 = 0 then (aD (fJ (aJ.f G k) [(aS x10 0)] h10) fun v21 h21 =>
 aD (pu h21 (aA 0 (aS x10 1))) fun v22 h22 =>
 aD (pu h22 (aC G false 1 v22 h22)) fun v23 h23 =>
 aD (pu h23 (bO v23)) fun v24 h24 =>
 aD (fC 71 2 (.agg [(.int .i64 0), (.int .i64 0)]) v24 v24 h24) fun v25 h25 =>
 aD (pu h25 (aA 0 (aS x10 1))) fun v26 h26 =>
 aD (pu h26 (aC G false 1 v26 h26)) fun v27 h27 =>
 aD (pu h27 (bO v27)) fun v28 h28 =>
 fK (eU (aM.l15 G k h28.length self) k [(aS x10 2), (aS x10 3), v21, v25, v27, v28, (.int .i64 0)] h28) fun e29 x29 h29 => kY e29
 (none)
 (fun i29 => if i29 = 2 then (cT [(aS x29 3), .nili] h.length h29) else (none))
 (cT [(aS x29 0), (aS x29 1)] h.length h29)) else (none))
 (cT [(aS x10 2), (aS x10 3)] h.length h10))))
noncomputable def aM.f (G : aE) : Nat → cY
 | 0 => fun _ _ => none
 | k + 1 => fun args h => kA args fun x0 x1 => (aM.c G k (aM.f G k) x0 x1 h)
theorem aM.step (G : aE) (k : Nat) (x0 x1 : AV) (h : aB) : aM.f G (k + 1) [x0, x1] h = aM.c G k (aM.f G k) x0 x1 h := rfl
noncomputable def alembiclaw18_BoundSound.ann : Ann := aDE [] [11] [(13, [1, 2, 3, 7, 8, 10, 11, 12, 13])] [(14, [1, 2, 3, 7, 8, 10, 11, 12, 13]), (21, [1, 2, 3, 7, 8, 10, 11, 12, 13, 14])] [(13, [(10, 0, 52, 6)])] []
noncomputable def alembiclaw18_BoundSound.env (G : aE) (k : Nat) (self : cY) : List (Nat × Bool × cY) := [(25, true, bB.f G k), (26, true, bQ.f G k), (30, true, cJ.f G k), (31, true, aM.f G k)]
noncomputable def alembiclaw18_BoundSound.l13 (G : aE) (k n0 : Nat) (self : cY) (lp : hO) : hO := fun xs h0 => rM n0 xs h0 fun h =>
 aD (pu h (aA 1 (aS xs 2))) fun v41 h41 =>
 aD (pu h41 (aC G false 1 v41 h41)) fun v42 h42 =>
 aD (pu h42 (bE Tryd.prog .lss 3 false (aS xs 8) v42)) fun v43 h43 =>
 bA v43
 (fK (
 aD (pu h43 (aF 2 (aS xs 0) (aS xs 8))) fun v44 h44 =>
 aD (pu h44 (aA 0 v44)) fun v45 h45 =>
 aD (pu h45 (aC G false 1 v45 h45)) fun v46 h46 =>
 aD (pu h46 (aF 2 (aS xs 0) (aS xs 8))) fun v47 h47 =>
 aD (pu h47 (aA 1 v47)) fun v48 h48 =>
 aD (pu h48 (aC G false 1 v48 h48)) fun v49 h49 =>
 aD (pu h49 (aF 2 (aS xs 0) (aS xs 8))) fun v50 h50 =>
 aD (pu h50 (aA 0 v50)) fun v51 h51 =>
 aD (pu h51 (aC G false 1 v51 h51)) fun v52 h52 =>
 aD (pu h52 (bE Tryd.prog .sub 2 false v49 v52)) fun v53 h53 =>
 fK (
 aD (pu h53 (bO (aS xs 1))) fun v54 h54 =>
 aD (pu h54 (bE Tryd.prog .lss 3 false (aS xs 8) v54)) fun v55 h55 =>
 aD (gd v55 true h55 (some (v53, h55))) fun v56 h56 =>
 aD (gd v55 true h56 (pu h56 (bE Tryd.prog .gtr 2 true v56 (.int .i64 0)))) fun v57 h57 =>
 aD (pu h57 (eW v55 v57 (.bool false))) fun v58 h58 =>
 aD (gd v58 true h58 (some (v53, h58))) fun v59 h59 =>
 aD (gd v58 true h59 (pu h59 (bE Tryd.prog .lss 2 true v59 (.int .i64 1099511627776)))) fun v60 h60 =>
 aD (pu h60 (eW v58 v60 (.bool false))) fun v61 h61 =>
 bA v61
 (aD (pu h61 (aF 1 (aS xs 1) (aS xs 8))) fun v62 h62 =>
 aD (pu h62 (aC G false 1 v62 h62)) fun v63 h63 =>
 aD (pu h63 (bE Tryd.prog .add 3 true v53 (.int .i64 1))) fun v64 h64 =>
 aD (aL (bB.f G k) [v63, v64] h64) fun v65 h65 =>
 aD (pu h65 (bE Tryd.prog .add 2 false v46 v65)) fun v66 h66 =>
 some (.normal, [(aS xs 0), (aS xs 1), (aS xs 2), (aS xs 3), (aS xs 4), (aS xs 5), (aS xs 6), (aS xs 7), (aS xs 8), v66], h66))
 (aD (pu h61 (bO (aS xs 1))) fun v67 h67 =>
 aD (pu h67 (bE Tryd.prog .lss 3 false (aS xs 8) v67)) fun v68 h68 =>
 aD (gd v68 true h68 (some ((aS xs 1), h68))) fun v69 h69 =>
 aD (gd v68 true h69 (some ((aS xs 8), h69))) fun v70 h70 =>
 aD (gd v68 true h70 (pu h70 (aF 1 v69 v70))) fun v71 h71 =>
 aD (gd v68 true h71 (pu h71 (aC G false 1 v71 h71))) fun v72 h72 =>
 aD (gd v68 true h72 (pu h72 (bE Tryd.prog .rem 3 true v72 (.int .i64 2)))) fun v73 h73 =>
 aD (gd v68 true h73 (pu h73 (bE Tryd.prog .neq 3 true v73 (.int .i64 0)))) fun v74 h74 =>
 aD (pu h74 (eW v68 v74 (.bool false))) fun v75 h75 =>
 bA v75
 (aD (pu h75 (aF 2 (aS xs 0) (aS xs 8))) fun v76 h76 =>
 aD (pu h76 (aA 1 v76)) fun v77 h77 =>
 aD (pu h77 (aC G false 1 v77 h77)) fun v78 h78 =>
 some (.normal, [(aS xs 0), (aS xs 1), (aS xs 2), (aS xs 3), (aS xs 4), (aS xs 5), (aS xs 6), (aS xs 7), (aS xs 8), v78], h78))
 (some (.normal, [(aS xs 0), (aS xs 1), (aS xs 2), (aS xs 3), (aS xs 4), (aS xs 5), (aS xs 6), (aS xs 7), (aS xs 8), v46], h75)))) fun e79 x79 h79 => kY e79
 (aD (pu h79 (eZ .u64 (aS x79 9))) fun v80 h80 =>
 aD (pu h80 (aF 1 (aS x79 7) (aS x79 8))) fun v81 h81 =>
 aD (dY (aN 1 v81 v80 h81)) fun v82 h82 =>
 aD (pu h82 (aA 0 (aS x79 5))) fun v83 h83 =>
 aD (pu h83 (aC G false 1 v83 h83)) fun v84 h84 =>
 aD (pu h84 (aA 1 (aS x79 2))) fun v85 h85 =>
 aD (pu h85 (aC G false 1 v85 h85)) fun v86 h86 =>
 aD (pu h86 (aU [(0, 1), (1, 1), (2, 1), (3, 1), (4, 1), (5, 1)] [(.int .i64 0), (.int .i64 0), (.int .i64 0), (.int .i64 0), (.int .i64 0), (.int .i64 0)] [(0, (.int .i64 15)), (1, (aS x79 8)), (2, v86), (5, (aS x79 8))])) fun v87 h87 =>
 aD (aZ 6 1 (.agg [(.int .i64 0), (.int .i64 0), (.int .i64 0), (.int .i64 0), (.int .i64 0), (.int .i64 0)]) [(0, v87)] h87) fun v88 h88 =>
 aD (eY 52 6 v84 v88 h88) fun v89 h89 =>
 aD (pu h89 (aA 0 (aS x79 5))) fun v90 h90 =>
 aD (dY (aN 1 v90 v89 h90)) fun v91 h91 =>
 aD (pu h91 (aU [(0, 1), (1, 1)] [(.int .i64 0), (.int .i64 0)] [])) fun v92 h92 =>
 aD (aZ 2 1 (.agg [(.int .i64 0), (.int .i64 0)]) [(0, v92)] h92) fun v93 h93 =>
 aD (eY 71 2 (aS x79 6) v93 h93) fun v94 h94 =>
 some (.normal, [(aS x79 0), (aS x79 1), (aS x79 2), (aS x79 3), (aS x79 4), (aS x79 5), v94, (aS x79 7), (aS x79 8)], h94))
 (fun i79 => if i79 = 1 then (some (.normal, [(aS x79 0), (aS x79 1), (aS x79 2), (aS x79 3), (aS x79 4), (aS x79 5), (aS x79 6), (aS x79 7), (aS x79 8)], h79)) else (some (.exit i79, [(aS x79 0), (aS x79 1), (aS x79 2), (aS x79 3), (aS x79 4), (aS x79 5), (aS x79 6), (aS x79 7), (aS x79 8)], h79)))
 (some (.ret, [(aS x79 0), (aS x79 1), (aS x79 2), (aS x79 3), (aS x79 4), (aS x79 5), (aS x79 6), (aS x79 7), (aS x79 8)], h79))) fun e95 x95 h95 => kY e95
 (aD (pu h95 (bE Tryd.prog .add 3 true (aS x95 8) (.int .i64 1))) fun v96 h96 =>
 lp [(aS x95 0), (aS x95 1), (aS x95 2), (aS x95 3), (aS x95 4), (aS x95 5), (aS x95 6), (aS x95 7), v96] h96)
 (fun i95 => some (.exit i95, [(aS x95 0), (aS x95 1), (aS x95 2), (aS x95 3), (aS x95 4), (aS x95 5), (aS x95 6), (aS x95 7), (aS x95 8)], h95))
 (some (.ret, [(aS x95 0), (aS x95 1), (aS x95 2), (aS x95 3), (aS x95 4), (aS x95 5), (aS x95 6), (aS x95 7), (aS x95 8)], h95)))
 (some (.exit 0, [(aS xs 0), (aS xs 1), (aS xs 2), (aS xs 3), (aS xs 4), (aS xs 5), (aS xs 6), (aS xs 7), (aS xs 8)], h43))
noncomputable def alembiclaw18_BoundSound.c (G : aE) (k : Nat) (self : cY) (x0 x1 x2 : AV) (h : aB) : Option (AV × aB) := fD (
 aD (bC x0 h) fun v0 h0 =>
 aD (aL (bQ.f G k) [] h0) fun v1 h1 =>
 aD (pu h1 (un .not v1)) fun v2 h2 =>
 bA v2
 (cT [(.bool false)] h.length h2)
 (aD (pu h2 (aA 0 v0)) fun v3 h3 =>
 aD (pu h3 (aC G false 1 v3 h3)) fun v4 h4 =>
 aD (pu h4 (bO v4)) fun v5 h5 =>
 aD (pu h5 (bE Tryd.prog .gtr 3 true v5 (.int .i64 60))) fun v6 h6 =>
 aD (gd v6 false h6 (pu h6 (aA 1 v0))) fun v7 h7 =>
 aD (gd v6 false h7 (pu h7 (aC G false 1 v7 h7))) fun v8 h8 =>
 aD (gd v6 false h8 (pu h8 (bE Tryd.prog .gtr 3 true v8 (.int .i64 20)))) fun v9 h9 =>
 aD (pu h9 (eW v6 (.bool true) v9)) fun v10 h10 =>
 aD (gd v10 false h10 (pu h10 (aA 1 v0))) fun v11 h11 =>
 aD (gd v10 false h11 (pu h11 (aC G false 1 v11 h11))) fun v12 h12 =>
 aD (gd v10 false h12 (pu h12 (bE Tryd.prog .lss 3 true v12 (.int .i64 0)))) fun v13 h13 =>
 aD (pu h13 (eW v10 (.bool true) v13)) fun v14 h14 =>
 aD (gd v14 false h14 (some (x1, h14))) fun v15 h15 =>
 aD (gd v14 false h15 (pu h15 (bO v15))) fun v16 h16 =>
 aD (gd v14 false h16 (pu h16 (bE Tryd.prog .gtr 3 true v16 (.int .i64 20)))) fun v17 h17 =>
 aD (pu h17 (eW v14 (.bool true) v17)) fun v18 h18 =>
 aD (gd v18 false h18 (some (x2, h18))) fun v19 h19 =>
 aD (gd v18 false h19 (pu h19 (bO v19))) fun v20 h20 =>
 aD (gd v18 false h20 (pu h20 (bE Tryd.prog .gtr 3 true v20 (.int .i64 20)))) fun v21 h21 =>
 aD (pu h21 (eW v18 (.bool true) v21)) fun v22 h22 =>
 bA v22
 (cT [v1] h.length h22)
 (aD (pu h22 (aC G true 3 v0 h22)) fun v23 h23 =>
 aD (aL (aM.f G k) [v23, x1] h23) fun v24 h24 =>
 aD (pu h24 (aG v24 0)) fun v25 h25 =>
 aD (pu h25 (aG v24 1)) fun v26 h26 =>
 aD (pu h26 (bE Tryd.prog .neq 35 true v26 .nili)) fun v27 h27 =>
 bA v27
 (cT [v1] h.length h27)
 (aD (pu h27 (aA 1 v0)) fun v28 h28 =>
 aD (pu h28 (aC G false 1 v28 h28)) fun v29 h29 =>
 aD (pu h29 (bE Tryd.prog .add 3 true v29 (.int .i64 1))) fun v30 h30 =>
 aD (pu h30 (aA 1 v0)) fun v31 h31 =>
 aD (pu h31 (aC G false 1 v31 h31)) fun v32 h32 =>
 aD (pu h32 (aU [(0, 1), (1, 1), (2, 1)] [.nils, (.int .i64 0), (.int .i64 0)] [(1, v30), (2, v32)])) fun v33 h33 =>
 aD (dC 24 (.agg [.nils, (.int .i64 0), (.int .i64 0)]) h33) fun v34 h34 =>
 aD (dY (aN 3 v34 v33 h34)) fun v35 h35 =>
 aD (some (.sl h35.length 0 0 0 2, h35 ++ [⟨71, 2, []⟩])) fun v36 h36 =>
 aD (pu h36 (aA 1 v0)) fun v37 h37 =>
 aD (pu h37 (aC G false 1 v37 h37)) fun v38 h38 =>
 aD (fC 48 1 (.int .u64 0) v38 v38 h38) fun v39 h39 =>
 vK [(v34, 0, 52, 6)] h39 fun hv40 =>
 fK (eU (alembiclaw18_BoundSound.l13 G k hv40.length self) k [x1, x2, v0, v1, v25, v34, v36, v39, (.int .i64 0)] hv40) fun e40 x40 h40 => kY e40
 (none)
 (fun i40 => if i40 = 0 then (aD (pu h40 (aA 0 (aS x40 5))) fun v97 h97 =>
 aD (pu h97 (aC G false 1 v97 h97)) fun v98 h98 =>
 aD (pu h98 (aA 0 (aS x40 2))) fun v99 h99 =>
 aD (pu h99 (aC G false 1 v99 h99)) fun v100 h100 =>
 aD (eY 52 6 v98 v100 h100) fun v101 h101 =>
 aD (pu h101 (aA 0 (aS x40 5))) fun v102 h102 =>
 aD (dY (aN 1 v102 v101 h102)) fun v103 h103 =>
 aD (eY 71 2 (aS x40 6) (aS x40 4) h103) fun v104 h104 =>
 aD (pu h104 (aC G true 3 (aS x40 5) h104)) fun v105 h105 =>
 aD (aL (cJ.f G k) [v105, v104, (aS x40 7), (.int .i64 1000)] h105) fun v106 h106 =>
 aD (pu h106 (aG v106 0)) fun v107 h107 =>
 aD (pu h107 (aG v106 1)) fun v108 h108 =>
 aD (gd (aS x40 3) true h108 (some (v108, h108))) fun v109 h109 =>
 aD (gd (aS x40 3) true h109 (pu h109 (bE Tryd.prog .eql 35 true v109 .nili))) fun v110 h110 =>
 aD (pu h110 (eW (aS x40 3) v110 (.bool false))) fun v111 h111 =>
 aD (gd v111 true h111 (some (v107, h111))) fun v112 h112 =>
 aD (gd v111 true h112 (pu h112 (bE Tryd.prog .eql 3 true v112 (.int .i64 (-1))))) fun v113 h113 =>
 aD (pu h113 (eW v111 v113 (.bool false))) fun v114 h114 =>
 cT [v114] h.length h114) else (none))
 (cT [.undef] h.length h40)))))
noncomputable def alembiclaw18_BoundSound.f (G : aE) : Nat → cY
 | 0 => fun _ _ => none
 | k + 1 => fun args h => aAS args fun x0 x1 x2 => (alembiclaw18_BoundSound.c G k (alembiclaw18_BoundSound.f G k) x0 x1 x2 h)
theorem alembiclaw18_BoundSound.step (G : aE) (k : Nat) (x0 x1 x2 : AV) (h : aB) : alembiclaw18_BoundSound.f G (k + 1) [x0, x1, x2] h = alembiclaw18_BoundSound.c G k (alembiclaw18_BoundSound.f G k) x0 x1 x2 h := rfl
end Go.Proofs.YtcmblhedhgiofaaDoor.Mir
