/- Part 5 of the proof: the functions that the statement reaches, and their contracts. -/
import Derived.Test.YtlkgkfgkiidhdaaDoorVj4
import Derived.Test.YtlkgkfgkiidhdaaDoorProg
namespace Go.Proofs.YtlkgkfgkiidhdaaDoor.Mir
open Go
set_option linter.unusedVariables false
noncomputable def eU.ann : Ann := fF [] [] [] []
noncomputable def eU.env (G : aG) (k : Nat) (self : cD) : List (Nat × Bool × cD) := []
noncomputable def eU.c (G : aG) (k : Nat) (self : cD) (x0 : AV) (h : aB) : Option (AV × aB) := fB (
 aD (pu h (aU Tryd.prog .eql 3 true x0 (.int .i64 3))) fun v0 h0 =>
 aW v0
 (cA [(.str ⟨#[97, 100, 100]⟩)] h.length h0)
 (aD (pu h0 (aU Tryd.prog .eql 3 true x0 (.int .i64 4))) fun v1 h1 =>
 aW v1
 (cA [(.str ⟨#[115, 117, 98]⟩)] h.length h1)
 (aD (pu h1 (aU Tryd.prog .eql 3 true x0 (.int .i64 5))) fun v2 h2 =>
 aW v2
 (cA [(.str ⟨#[109, 117, 108]⟩)] h.length h2)
 (aD (pu h2 (aU Tryd.prog .eql 3 true x0 (.int .i64 6))) fun v3 h3 =>
 aW v3
 (cA [(.str ⟨#[104, 105, 103, 104]⟩)] h.length h3)
 (aD (pu h3 (aU Tryd.prog .eql 3 true x0 (.int .i64 7))) fun v4 h4 =>
 aW v4
 (cA [(.str ⟨#[97, 110, 100]⟩)] h.length h4)
 (aD (pu h4 (aU Tryd.prog .eql 3 true x0 (.int .i64 8))) fun v5 h5 =>
 aW v5
 (cA [(.str ⟨#[111, 114]⟩)] h.length h5)
 (aD (pu h5 (aU Tryd.prog .eql 3 true x0 (.int .i64 9))) fun v6 h6 =>
 aW v6
 (cA [(.str ⟨#[120, 111, 114]⟩)] h.length h6)
 (aD (pu h6 (aU Tryd.prog .eql 3 true x0 (.int .i64 13))) fun v7 h7 =>
 aW v7
 (cA [(.str ⟨#[108, 101, 115, 115]⟩)] h.length h7)
 (aD (pu h7 (aU Tryd.prog .eql 3 true x0 (.int .i64 10))) fun v8 h8 =>
 aW v8
 (cA [(.str ⟨#[115, 104, 108]⟩)] h.length h8)
 (aD (pu h8 (aU Tryd.prog .eql 3 true x0 (.int .i64 11))) fun v9 h9 =>
 aW v9
 (cA [(.str ⟨#[115, 104, 114]⟩)] h.length h9)
 (aD (pu h9 (aU Tryd.prog .eql 3 true x0 (.int .i64 12))) fun v10 h10 =>
 aW v10
 (cA [(.str ⟨#[115, 97, 114]⟩)] h.length h10)
 (aD (pu h10 (aU Tryd.prog .eql 3 true x0 (.int .i64 15))) fun v11 h11 =>
 aW v11
 (cA [(.str ⟨#[108, 100]⟩)] h.length h11)
 (aD (pu h11 (aU Tryd.prog .eql 3 true x0 (.int .i64 17))) fun v12 h12 =>
 aW v12
 (cA [(.str ⟨#[98, 114]⟩)] h.length h12)
 (aD (pu h12 (aU Tryd.prog .eql 3 true x0 (.int .i64 20))) fun v13 h13 =>
 aW v13
 (cA [(.str ⟨#[104, 97, 108, 116]⟩)] h.length h13)
 (aD (pu h13 (aU Tryd.prog .eql 3 true x0 (.int .i64 18))) fun v14 h14 =>
 aW v14
 (cA [(.str ⟨#[98, 122]⟩)] h.length h14)
 (cA [(.str ⟨#[98, 110, 122]⟩)] h.length h14))))))))))))))))
noncomputable def eU.f (G : aG) : Nat → cD
 | 0 => fun _ _ => none
 | k + 1 => fun args h => mU args fun x0 => (eU.c G k (eU.f G k) x0 h)
noncomputable def dK.ann : Ann := fF [] [] [] [(30, [2, 3]), (29, [0, 2, 43]), (26, [0, 2, 4, 37]), (19, [0, 2, 4, 23]), (14, [0, 2, 4, 11])]
noncomputable def dK.env (G : aG) (k : Nat) (self : cD) : List (Nat × Bool × cD) := [(86, true, eU.f G k)]
noncomputable def dK.c (G : aG) (k : Nat) (self : cD) (x0 : AV) (h : aB) : Option (AV × aB) := fB (
 aD (fW 100 (.agg [(.str ⟨#[]⟩), (.bool false), (.bool false), (.bool false), (.bool false), (.bool false)]) h) fun v0 h0 =>
 dV (
 aD (pu h0 (aU Tryd.prog .eql 3 true x0 (.int .i64 1))) fun v1 h1 =>
 aW v1
 (aD (pu h1 (cU [(0, 1), (1, 1), (2, 1), (3, 1), (4, 1), (5, 1)] [(.str ⟨#[]⟩), (.bool false), (.bool false), (.bool false), (.bool false), (.bool false)] [(0, (.str ⟨#[99, 111, 110, 115, 116]⟩)), (1, (.bool true)), (5, (.bool true))])) fun v2 h2 =>
 aD (fM (aV 6 v0 v2 h2)) fun v3 h3 =>
 some (.ret, [v0, (.bool true)], h3))
 (aD (pu h1 (aU Tryd.prog .eql 3 true x0 (.int .i64 2))) fun v4 h4 =>
 aW v4
 (aD (pu h4 (cU [(0, 1), (1, 1), (2, 1), (3, 1), (4, 1), (5, 1)] [(.str ⟨#[]⟩), (.bool false), (.bool false), (.bool false), (.bool false), (.bool false)] [(0, (.str ⟨#[109, 111, 118]⟩)), (1, (.bool true)), (2, (.bool true))])) fun v5 h5 =>
 aD (fM (aV 6 v0 v5 h5)) fun v6 h6 =>
 some (.ret, [v0, (.bool true)], h6))
 (dV (
 aD (pu h4 (aU Tryd.prog .eql 3 true x0 (.int .i64 3))) fun v7 h7 =>
 aW v7
 (some (.normal, [x0, v0, x0, v7], h7))
 (aD (pu h7 (aU Tryd.prog .eql 3 true x0 (.int .i64 4))) fun v8 h8 =>
 aW v8
 (some (.normal, [x0, v0, x0, v8], h8))
 (aD (pu h8 (aU Tryd.prog .eql 3 true x0 (.int .i64 5))) fun v9 h9 =>
 aW v9
 (some (.normal, [x0, v0, x0, v9], h9))
 (aD (pu h9 (aU Tryd.prog .eql 3 true x0 (.int .i64 6))) fun v10 h10 =>
 aW v10
 (some (.normal, [x0, v0, x0, v10], h10))
 (aD (pu h10 (aU Tryd.prog .eql 3 true x0 (.int .i64 7))) fun v11 h11 =>
 aW v11
 (some (.normal, [x0, v0, x0, v11], h11))
 (aD (pu h11 (aU Tryd.prog .eql 3 true x0 (.int .i64 8))) fun v12 h12 =>
 aW v12
 (some (.normal, [x0, v0, x0, v12], h12))
 (aD (pu h12 (aU Tryd.prog .eql 3 true x0 (.int .i64 9))) fun v13 h13 =>
 aW v13
 (some (.normal, [x0, v0, x0, v13], h13))
 (aD (pu h13 (aU Tryd.prog .eql 3 true x0 (.int .i64 13))) fun v14 h14 =>
 some (.normal, [x0, v0, x0, v14], h14))))))))) fun e15 x15 h15 => hO e15
 (aW (aE x15 3)
 (aD (bF (eU.f G k) [(aE x15 0)] h15) fun v16 h16 =>
 aD (pu h16 (cU [(0, 1), (1, 1), (2, 1), (3, 1), (4, 1), (5, 1)] [(.str ⟨#[]⟩), (.bool false), (.bool false), (.bool false), (.bool false), (.bool false)] [(0, v16), (1, (.bool true)), (2, (.bool true)), (3, (.bool true))])) fun v17 h17 =>
 aD (fM (aV 6 (aE x15 1) v17 h17)) fun v18 h18 =>
 some (.ret, [(aE x15 1), (.bool true)], h18))
 (dV (
 aD (pu h15 (aU Tryd.prog .eql 3 true (aE x15 2) (.int .i64 10))) fun v19 h19 =>
 aW v19
 (some (.normal, [(aE x15 0), (aE x15 1), (aE x15 2), v19], h19))
 (aD (pu h19 (aU Tryd.prog .eql 3 true (aE x15 2) (.int .i64 11))) fun v20 h20 =>
 aW v20
 (some (.normal, [(aE x15 0), (aE x15 1), (aE x15 2), v20], h20))
 (aD (pu h20 (aU Tryd.prog .eql 3 true (aE x15 2) (.int .i64 12))) fun v21 h21 =>
 aW v21
 (some (.normal, [(aE x15 0), (aE x15 1), (aE x15 2), v21], h21))
 (aD (pu h21 (aU Tryd.prog .eql 3 true (aE x15 2) (.int .i64 15))) fun v22 h22 =>
 some (.normal, [(aE x15 0), (aE x15 1), (aE x15 2), v22], h22))))) fun e23 x23 h23 => hO e23
 (aW (aE x23 3)
 (aD (bF (eU.f G k) [(aE x23 0)] h23) fun v24 h24 =>
 aD (pu h24 (cU [(0, 1), (1, 1), (2, 1), (3, 1), (4, 1), (5, 1)] [(.str ⟨#[]⟩), (.bool false), (.bool false), (.bool false), (.bool false), (.bool false)] [(0, v24), (1, (.bool true)), (2, (.bool true)), (5, (.bool true))])) fun v25 h25 =>
 aD (fM (aV 6 (aE x23 1) v25 h25)) fun v26 h26 =>
 some (.ret, [(aE x23 1), (.bool true)], h26))
 (aD (pu h23 (aU Tryd.prog .eql 3 true (aE x23 2) (.int .i64 14))) fun v27 h27 =>
 aW v27
 (aD (pu h27 (cU [(0, 1), (1, 1), (2, 1), (3, 1), (4, 1), (5, 1)] [(.str ⟨#[]⟩), (.bool false), (.bool false), (.bool false), (.bool false), (.bool false)] [(0, (.str ⟨#[115, 101, 108]⟩)), (1, (.bool true)), (2, (.bool true)), (3, (.bool true)), (4, (.bool true))])) fun v28 h28 =>
 aD (fM (aV 6 (aE x23 1) v28 h28)) fun v29 h29 =>
 some (.ret, [(aE x23 1), (.bool true)], h29))
 (aD (pu h27 (aU Tryd.prog .eql 3 true (aE x23 2) (.int .i64 16))) fun v30 h30 =>
 aW v30
 (aD (pu h30 (cU [(0, 1), (1, 1), (2, 1), (3, 1), (4, 1), (5, 1)] [(.str ⟨#[]⟩), (.bool false), (.bool false), (.bool false), (.bool false), (.bool false)] [(0, (.str ⟨#[115, 116]⟩)), (2, (.bool true)), (3, (.bool true)), (5, (.bool true))])) fun v31 h31 =>
 aD (fM (aV 6 (aE x23 1) v31 h31)) fun v32 h32 =>
 some (.ret, [(aE x23 1), (.bool true)], h32))
 (dV (
 aD (pu h30 (aU Tryd.prog .eql 3 true (aE x23 2) (.int .i64 17))) fun v33 h33 =>
 aW v33
 (some (.normal, [(aE x23 0), (aE x23 1), (aE x23 2), v33], h33))
 (aD (pu h33 (aU Tryd.prog .eql 3 true (aE x23 2) (.int .i64 20))) fun v34 h34 =>
 some (.normal, [(aE x23 0), (aE x23 1), (aE x23 2), v34], h34))) fun e35 x35 h35 => hO e35
 (aW (aE x35 3)
 (aD (bF (eU.f G k) [(aE x35 0)] h35) fun v36 h36 =>
 aD (pu h36 (cU [(0, 1), (1, 1), (2, 1), (3, 1), (4, 1), (5, 1)] [(.str ⟨#[]⟩), (.bool false), (.bool false), (.bool false), (.bool false), (.bool false)] [(0, v36), (5, (.bool true))])) fun v37 h37 =>
 aD (fM (aV 6 (aE x35 1) v37 h37)) fun v38 h38 =>
 some (.ret, [(aE x35 1), (.bool true)], h38))
 (dV (
 aD (pu h35 (aU Tryd.prog .eql 3 true (aE x35 2) (.int .i64 18))) fun v39 h39 =>
 aW v39
 (some (.normal, [(aE x35 0), (aE x35 1), v39], h39))
 (aD (pu h39 (aU Tryd.prog .eql 3 true (aE x35 2) (.int .i64 19))) fun v40 h40 =>
 some (.normal, [(aE x35 0), (aE x35 1), v40], h40))) fun e41 x41 h41 => hO e41
 (aW (aE x41 2)
 (aD (bF (eU.f G k) [(aE x41 0)] h41) fun v42 h42 =>
 aD (pu h42 (cU [(0, 1), (1, 1), (2, 1), (3, 1), (4, 1), (5, 1)] [(.str ⟨#[]⟩), (.bool false), (.bool false), (.bool false), (.bool false), (.bool false)] [(0, v42), (2, (.bool true)), (5, (.bool true))])) fun v43 h43 =>
 aD (fM (aV 6 (aE x41 1) v43 h43)) fun v44 h44 =>
 some (.ret, [(aE x41 1), (.bool true)], h44))
 (some (.normal, [(aE x41 1), .undef], h41)))
 (fun i41 => if i41 = 0 then (some (.normal, [(aE x41 1), .undef], h41)) else (some (.exit i41, [(aE x41 1), .undef], h41)))
 (some (.ret, [(aE x41 1), .undef], h41))))
 (fun i35 => if i35 = 0 then (some (.normal, [(aE x35 1), .undef], h35)) else (some (.exit i35, [(aE x35 1), .undef], h35)))
 (some (.ret, [(aE x35 1), .undef], h35))))))
 (fun i23 => if i23 = 0 then (some (.normal, [(aE x23 1), .undef], h23)) else (some (.exit i23, [(aE x23 1), .undef], h23)))
 (some (.ret, [(aE x23 1), .undef], h23))))
 (fun i15 => if i15 = 0 then (some (.normal, [(aE x15 1), .undef], h15)) else (some (.exit i15, [(aE x15 1), .undef], h15)))
 (some (.ret, [(aE x15 1), .undef], h15))))) fun e45 x45 h45 => hO e45
 (aD (pu h45 (cU [(0, 1), (1, 1), (2, 1), (3, 1), (4, 1), (5, 1)] [(.str ⟨#[]⟩), (.bool false), (.bool false), (.bool false), (.bool false), (.bool false)] [(0, (.str ⟨#[110, 111, 110, 101]⟩))])) fun v46 h46 =>
 aD (fM (aV 6 (aE x45 0) v46 h46)) fun v47 h47 =>
 kT [aF G true 6 (aE x45 0) h47, some (.bool false)] h.length h47)
 (fun i45 => none)
 (kT [aF G true 6 (aE x45 0) h45, some (aE x45 1)] h.length h45))
noncomputable def dK.f (G : aG) : Nat → cD
 | 0 => fun _ _ => none
 | k + 1 => fun args h => mU args fun x0 => (dK.c G k (dK.f G k) x0 h)
theorem dK.step (G : aG) (k : Nat) (x0 : AV) (h : aB) : dK.f G (k + 1) [x0] h = dK.c G k (dK.f G k) x0 h := rfl
noncomputable def fN.ann : Ann := fF [] [] [] []
noncomputable def fN.env (G : aG) (k : Nat) (self : cD) : List (Nat × Bool × cD) := []
noncomputable def fN.c (G : aG) (k : Nat) (self : cD) (x0 x1 : AV) (h : aB) : Option (AV × aB) := fB (
 aD (gC x0 h) fun v0 h0 =>
 aD (gC x1 h0) fun v1 h1 =>
 aD (pu h1 (aA 1 v1)) fun v2 h2 =>
 aD (pu h2 (aF G false 1 v2 h2)) fun v3 h3 =>
 aD (pu h3 (aA 2 v1)) fun v4 h4 =>
 aD (pu h4 (aF G false 1 v4 h4)) fun v5 h5 =>
 aD (pu h5 (aA 3 v1)) fun v6 h6 =>
 aD (pu h6 (aF G false 1 v6 h6)) fun v7 h7 =>
 aD (pu h7 (aA 4 v1)) fun v8 h8 =>
 aD (pu h8 (aF G false 1 v8 h8)) fun v9 h9 =>
 aD (pu h9 (aA 5 v1)) fun v10 h10 =>
 aD (pu h10 (aF G false 1 v10 h10)) fun v11 h11 =>
 aD (eQ 1 5 (.bool false) [(0, v3), (1, v5), (2, v7), (3, v9), (4, v11)] h11) fun v12 h12 =>
 aD (pu h12 (aA 1 v0)) fun v13 h13 =>
 aD (pu h13 (aF G false 1 v13 h13)) fun v14 h14 =>
 aD (pu h14 (aA 2 v0)) fun v15 h15 =>
 aD (pu h15 (aF G false 1 v15 h15)) fun v16 h16 =>
 aD (pu h16 (aA 3 v0)) fun v17 h17 =>
 aD (pu h17 (aF G false 1 v17 h17)) fun v18 h18 =>
 aD (pu h18 (aA 4 v0)) fun v19 h19 =>
 aD (pu h19 (aF G false 1 v19 h19)) fun v20 h20 =>
 aD (pu h20 (aA 5 v0)) fun v21 h21 =>
 aD (pu h21 (aF G false 1 v21 h21)) fun v22 h22 =>
 aD (eQ 1 5 (.int .i64 0) [(0, v14), (1, v16), (2, v18), (3, v20), (4, v22)] h22) fun v23 h23 =>
 cA [v12, v23] h.length h23)
noncomputable def fN.f (G : aG) : Nat → cD
 | 0 => fun _ _ => none
 | k + 1 => fun args h => kW args fun x0 x1 => (fN.c G k (fN.f G k) x0 x1 h)
noncomputable def cO.ann : Ann := fF [] [] [(12, [2, 3, 4, 8, 53, 54, 55]), (6, [2, 3, 4, 7, 8, 28])] [(33, [3, 4, 12]), (31, [2, 3, 12, 82]), (27, [2, 3, 12, 72, 79]), (22, [2, 3, 12, 72, 73])]
noncomputable def cO.env (G : aG) (k : Nat) (self : cD) : List (Nat × Bool × cD) := [(51, true, dK.f G k), (95, true, fN.f G k)]
noncomputable def cO.l6 (G : aG) (k n0 : Nat) (self : cD) (lp : dY) : dY := fun xs h0 => iF n0 xs h0 fun h =>
 aD (pu h (aU Tryd.prog .lss 3 true (aE xs 5) (.int .i64 4))) fun v17 h17 =>
 aW v17
 (aD (pu h17 (aM 1 (aE xs 3) (aE xs 5))) fun v18 h18 =>
 aD (pu h18 (aF G false 1 v18 h18)) fun v19 h19 =>
 aD (gd v19 true h19 (some ((aE xs 4), h19))) fun v20 h20 =>
 aD (gd v19 true h20 (some ((aE xs 5), h20))) fun v21 h21 =>
 aD (gd v19 true h21 (pu h21 (aM 1 v20 v21))) fun v22 h22 =>
 aD (gd v19 true h22 (pu h22 (aF G false 1 v22 h22))) fun v23 h23 =>
 aD (gd v19 true h23 (pu h23 (aU Tryd.prog .lss 2 true v23 (.int .i64 0)))) fun v24 h24 =>
 aD (gd v19 true h24 (some (v24, h24))) fun v25 h25 =>
 aD (gd v25 false h25 (some ((aE xs 4), h25))) fun v26 h26 =>
 aD (gd v25 false h26 (some ((aE xs 5), h26))) fun v27 h27 =>
 aD (gd v25 false h27 (pu h27 (aM 1 v26 v27))) fun v28 h28 =>
 aD (gd v25 false h28 (pu h28 (aF G false 1 v28 h28))) fun v29 h29 =>
 aD (gd v25 false h29 (pu h29 (aA 1 (aE xs 0)))) fun v30 h30 =>
 aD (gd v25 false h30 (pu h30 (aF G false 1 v30 h30))) fun v31 h31 =>
 aD (gd v25 false h31 (pu h31 (aU Tryd.prog .geq 2 false v29 v31))) fun v32 h32 =>
 aD (gd v19 true h32 (pu h32 (fT v25 (.bool true) v32))) fun v33 h33 =>
 aD (pu h33 (fT v19 v33 (.bool false))) fun v34 h34 =>
 aW v34
 (aD (pu h34 (aF G false 1 (.gl 0) h34)) fun v35 h35 =>
 some (.ret, [(aE xs 0), (aE xs 1), v35, (aE xs 3), (aE xs 4), (aE xs 5)], h35))
 (aD (pu h34 (aU Tryd.prog .add 3 true (aE xs 5) (.int .i64 1))) fun v36 h36 =>
 lp [(aE xs 0), (aE xs 1), (aE xs 2), (aE xs 3), (aE xs 4), v36] h36))
 (some (.exit 0, [(aE xs 0), (aE xs 1), (aE xs 2), (aE xs 3), (aE xs 4), (aE xs 5)], h17))
noncomputable def cO.l12 (G : aG) (k n0 : Nat) (self : cD) (lp : dY) : dY := fun xs h0 => iF n0 xs h0 fun h =>
 aD (pu h (aU Tryd.prog .lss 3 false (aE xs 6) (aE xs 5))) fun v39 h39 =>
 aW v39
 (aD (pu h39 (aM 1 (aE xs 4) (aE xs 6))) fun v40 h40 =>
 aD (pu h40 (aF G false 1 v40 h40)) fun v41 h41 =>
 aD (pu h41 (un .not v41)) fun v42 h42 =>
 aD (gd v42 true h42 (some ((aE xs 3), h42))) fun v43 h43 =>
 aD (gd v42 true h43 (some ((aE xs 6), h43))) fun v44 h44 =>
 aD (gd v42 true h44 (pu h44 (aM 1 v43 v44))) fun v45 h45 =>
 aD (gd v42 true h45 (pu h45 (aF G false 1 v45 h45))) fun v46 h46 =>
 aD (gd v42 true h46 (pu h46 (aU Tryd.prog .neq 2 true v46 (.int .i64 0)))) fun v47 h47 =>
 aD (pu h47 (fT v42 v47 (.bool false))) fun v48 h48 =>
 aW v48
 (aD (pu h48 (aF G false 1 (.gl 4) h48)) fun v49 h49 =>
 some (.ret, [(aE xs 0), (aE xs 1), v49, (aE xs 3), (aE xs 4), (aE xs 5), (aE xs 6)], h49))
 (aD (pu h48 (aU Tryd.prog .add 3 true (aE xs 6) (.int .i64 1))) fun v50 h50 =>
 lp [(aE xs 0), (aE xs 1), (aE xs 2), (aE xs 3), (aE xs 4), (aE xs 5), v50] h50))
 (some (.exit 2, [(aE xs 0), (aE xs 1), (aE xs 2), (aE xs 3), (aE xs 4), (aE xs 5), (aE xs 6)], h39))
noncomputable def cO.c (G : aG) (k : Nat) (self : cD) (x0 x1 : AV) (h : aB) : Option (AV × aB) := fB (
 aD (gC x0 h) fun v0 h0 =>
 aD (gC x1 h0) fun v1 h1 =>
 aD (pu h1 (aA 0 v1)) fun v2 h2 =>
 aD (pu h2 (aF G false 1 v2 h2)) fun v3 h3 =>
 aD (bF (dK.f G k) [v3] h3) fun v4 h4 =>
 aD (pu h4 (cN v4 0)) fun v5 h5 =>
 aD (pu h5 (cN v4 1)) fun v6 h6 =>
 aD (fW 100 (.agg [(.str ⟨#[]⟩), (.bool false), (.bool false), (.bool false), (.bool false), (.bool false)]) h6) fun v7 h7 =>
 aD (fM (aV 6 v7 v5 h7)) fun v8 h8 =>
 aD (pu h8 (un .not v6)) fun v9 h9 =>
 aW v9
 (aD (pu h9 (aF G false 1 (.gl 3) h9)) fun v10 h10 =>
 cA [v10] h.length h10)
 (aD (pu h9 (aF G true 6 v1 h9)) fun v11 h11 =>
 aD (pu h11 (aF G true 6 v7 h11)) fun v12 h12 =>
 aD (bF (fN.f G k) [v11, v12] h12) fun v13 h13 =>
 aD (pu h13 (cN v13 0)) fun v14 h14 =>
 aD (pu h14 (cN v13 1)) fun v15 h15 =>
 dV (cQ (cO.l6 G k h15.length self) k [v0, v1, .nili, v14, v15, (.int .i64 0)] h15) fun e16 x16 h16 => hO e16
 (none)
 (fun i16 => if i16 = 0 then (aD (pu h16 (dN (aE x16 3))) fun v37 h37 =>
 dV (cQ (cO.l12 G k h37.length self) k [(aE x16 0), (aE x16 1), (aE x16 2), (aE x16 4), (aE x16 3), v37, (.int .i64 0)] h37) fun e38 x38 h38 => hO e38
 (none)
 (fun i38 => if i38 = 2 then (dV (
 aD (pu h38 (aA 0 (aE x38 1))) fun v51 h51 =>
 aD (pu h51 (aF G false 1 v51 h51)) fun v52 h52 =>
 dV (
 aD (pu h52 (aU Tryd.prog .eql 3 true v52 (.int .i64 10))) fun v53 h53 =>
 aW v53
 (some (.normal, [(aE x38 0), (aE x38 1), (.int .i64 (-1)), v52, v53], h53))
 (aD (pu h53 (aU Tryd.prog .eql 3 true v52 (.int .i64 11))) fun v54 h54 =>
 aW v54
 (some (.normal, [(aE x38 0), (aE x38 1), (.int .i64 (-1)), v52, v54], h54))
 (aD (pu h54 (aU Tryd.prog .eql 3 true v52 (.int .i64 12))) fun v55 h55 =>
 some (.normal, [(aE x38 0), (aE x38 1), (.int .i64 (-1)), v52, v55], h55)))) fun e56 x56 h56 => hO e56
 (aW (aE x56 4)
 (some (.normal, [(aE x56 1), .undef, (.int .i64 63)], h56))
 (aD (pu h56 (aU Tryd.prog .eql 3 true (aE x56 3) (.int .i64 20))) fun v57 h57 =>
 aW v57
 (some (.normal, [(aE x56 1), .undef, (.int .i64 2)], h57))
 (dV (
 aD (pu h57 (aU Tryd.prog .eql 3 true (aE x56 3) (.int .i64 15))) fun v58 h58 =>
 aW v58
 (some (.normal, [(aE x56 0), (aE x56 1), (aE x56 2), (aE x56 3), v58], h58))
 (aD (pu h58 (aU Tryd.prog .eql 3 true (aE x56 3) (.int .i64 16))) fun v59 h59 =>
 some (.normal, [(aE x56 0), (aE x56 1), (aE x56 2), (aE x56 3), v59], h59))) fun e60 x60 h60 => hO e60
 (aW (aE x60 4)
 (some (.normal, [(aE x60 1), .undef, (.int .i64 65535)], h60))
 (dV (
 aD (pu h60 (aU Tryd.prog .eql 3 true (aE x60 3) (.int .i64 17))) fun v61 h61 =>
 aW v61
 (some (.normal, [(aE x60 0), (aE x60 1), (aE x60 2), v61], h61))
 (aD (pu h61 (aU Tryd.prog .eql 3 true (aE x60 3) (.int .i64 18))) fun v62 h62 =>
 aW v62
 (some (.normal, [(aE x60 0), (aE x60 1), (aE x60 2), v62], h62))
 (aD (pu h62 (aU Tryd.prog .eql 3 true (aE x60 3) (.int .i64 19))) fun v63 h63 =>
 some (.normal, [(aE x60 0), (aE x60 1), (aE x60 2), v63], h63)))) fun e64 x64 h64 => hO e64
 (aW (aE x64 3)
 (aD (pu h64 (aA 5 (aE x64 1))) fun v65 h65 =>
 aD (pu h65 (aF G false 1 v65 h65)) fun v66 h66 =>
 aD (pu h66 (aU Tryd.prog .lss 2 true v66 (.int .i64 0))) fun v67 h67 =>
 aD (gd v67 false h67 (pu h67 (aA 5 (aE x64 1)))) fun v68 h68 =>
 aD (gd v67 false h68 (pu h68 (aF G false 1 v68 h68))) fun v69 h69 =>
 aD (gd v67 false h69 (pu h69 (aA 0 (aE x64 0)))) fun v70 h70 =>
 aD (gd v67 false h70 (pu h70 (aF G false 1 v70 h70))) fun v71 h71 =>
 aD (gd v67 false h71 (pu h71 (dN v71))) fun v72 h72 =>
 aD (gd v67 false h72 (pu h72 (aU Tryd.prog .gtr 2 false v69 v72))) fun v73 h73 =>
 aD (pu h73 (fT v67 (.bool true) v73)) fun v74 h74 =>
 aW v74
 (aD (pu h74 (aF G false 1 (.gl 5) h74)) fun v75 h75 =>
 some (.ret, [(aE x64 1), v75, (aE x64 2)], h75))
 (some (.normal, [(aE x64 1), .undef, (aE x64 2)], h74)))
 (some (.normal, [(aE x64 1), .undef, (aE x64 2)], h64)))
 (fun i64 => if i64 = 4 then (some (.normal, [(aE x64 1), .undef, (aE x64 2)], h64)) else (some (.exit i64, [(aE x64 1), .undef, (aE x64 2)], h64)))
 (some (.ret, [(aE x64 1), .undef, (aE x64 2)], h64))))
 (fun i60 => if i60 = 4 then (some (.normal, [(aE x60 1), .undef, (aE x60 2)], h60)) else (some (.exit i60, [(aE x60 1), .undef, (aE x60 2)], h60)))
 (some (.ret, [(aE x60 1), .undef, (aE x60 2)], h60)))))
 (fun i56 => if i56 = 4 then (some (.normal, [(aE x56 1), .undef, (aE x56 2)], h56)) else (some (.exit i56, [(aE x56 1), .undef, (aE x56 2)], h56)))
 (some (.ret, [(aE x56 1), .undef, (aE x56 2)], h56))) fun e76 x76 h76 => hO e76
 (aD (pu h76 (aU Tryd.prog .geq 2 true (aE x76 2) (.int .i64 0))) fun v77 h77 =>
 aD (gd v77 true h77 (pu h77 (aA 5 (aE x76 0)))) fun v78 h78 =>
 aD (gd v77 true h78 (pu h78 (aF G false 1 v78 h78))) fun v79 h79 =>
 aD (gd v77 true h79 (pu h79 (aU Tryd.prog .lss 2 true v79 (.int .i64 0)))) fun v80 h80 =>
 aD (gd v77 true h80 (some (v80, h80))) fun v81 h81 =>
 aD (gd v81 false h81 (pu h81 (aA 5 (aE x76 0)))) fun v82 h82 =>
 aD (gd v81 false h82 (pu h82 (aF G false 1 v82 h82))) fun v83 h83 =>
 aD (gd v81 false h83 (some ((aE x76 2), h83))) fun v84 h84 =>
 aD (gd v81 false h84 (pu h84 (aU Tryd.prog .gtr 2 false v83 v84))) fun v85 h85 =>
 aD (gd v77 true h85 (pu h85 (fT v81 (.bool true) v85))) fun v86 h86 =>
 aD (pu h86 (fT v77 v86 (.bool false))) fun v87 h87 =>
 aW v87
 (aD (pu h87 (aF G false 1 (.gl 0) h87)) fun v88 h88 =>
 cA [v88] h.length h88)
 (cA [.nili] h.length h87))
 (fun i76 => none)
 (cA [(aE x76 1)] h.length h76)) else (none))
 (cA [(aE x38 2)] h.length h38)) else (none))
 (cA [(aE x16 2)] h.length h16)))
noncomputable def cO.f (G : aG) : Nat → cD
 | 0 => fun _ _ => none
 | k + 1 => fun args h => kW args fun x0 x1 => (cO.c G k (cO.f G k) x0 x1 h)
theorem cO.step (G : aG) (k : Nat) (x0 x1 : AV) (h : aB) : cO.f G (k + 1) [x0, x1] h = cO.c G k (cO.f G k) x0 x1 h := rfl
noncomputable def cK.ann : Ann := fF [] [] [(6, [1, 2, 33, 34, 35])] []
noncomputable def cK.env (G : aG) (k : Nat) (self : cD) : List (Nat × Bool × cD) := [(72, true, cO.f G k)]
noncomputable def cK.l6 (G : aG) (k n0 : Nat) (self : cD) (lp : dY) : dY := fun xs h0 => iF n0 xs h0 fun h =>
 aD (pu h (aU Tryd.prog .lss 3 false (aE xs 4) (aE xs 3))) fun v26 h26 =>
 aW v26
 (aD (pu h26 (aM 6 (aE xs 2) (aE xs 4))) fun v27 h27 =>
 aD (pu h27 (aF G true 6 v27 h27)) fun v28 h28 =>
 aD (fW 29 (.agg [(.int .i64 0), (.int .i64 0), (.int .i64 0), (.int .i64 0), (.int .i64 0), (.int .i64 0)]) h28) fun v29 h29 =>
 aD (fM (aV 6 v29 v28 h29)) fun v30 h30 =>
 aD (pu h30 (aF G true 3 (aE xs 0) h30)) fun v31 h31 =>
 aD (pu h31 (aF G true 6 v29 h31)) fun v32 h32 =>
 aD (bF (cO.f G k) [v31, v32] h32) fun v33 h33 =>
 aD (pu h33 (aU Tryd.prog .neq 33 true v33 .nili)) fun v34 h34 =>
 aW v34
 (aD (pu h34 (cU [(0, 1), (1, 1)] [(.int .i64 0), .nili] [(0, (aE xs 4)), (1, v33)])) fun v35 h35 =>
 aD (gC v35 h35) fun v36 h36 =>
 some (.ret, [(aE xs 0), (.iface 126 v36), (aE xs 2), (aE xs 3), (aE xs 4)], h36))
 (aD (pu h34 (aU Tryd.prog .add 3 true (aE xs 4) (.int .i64 1))) fun v37 h37 =>
 lp [(aE xs 0), (aE xs 1), (aE xs 2), (aE xs 3), v37] h37))
 (some (.exit 1, [(aE xs 0), (aE xs 1), (aE xs 2), (aE xs 3), (aE xs 4)], h26))
noncomputable def cK.c (G : aG) (k : Nat) (self : cD) (x0 : AV) (h : aB) : Option (AV × aB) := fB (
 aD (gC x0 h) fun v0 h0 =>
 aD (pu h0 (aA 0 v0)) fun v1 h1 =>
 aD (pu h1 (aF G false 1 v1 h1)) fun v2 h2 =>
 aD (pu h2 (dN v2)) fun v3 h3 =>
 aD (pu h3 (aU Tryd.prog .gtr 3 true v3 (.int .i64 262144))) fun v4 h4 =>
 aW v4
 (aD (pu h4 (aF G false 1 (.gl 1) h4)) fun v5 h5 =>
 cA [v5] h.length h5)
 (aD (pu h4 (aA 1 v0)) fun v6 h6 =>
 aD (pu h6 (aF G false 1 v6 h6)) fun v7 h7 =>
 aD (pu h7 (aU Tryd.prog .lss 3 true v7 (.int .i64 0))) fun v8 h8 =>
 aD (gd v8 false h8 (pu h8 (aA 1 v0))) fun v9 h9 =>
 aD (gd v8 false h9 (pu h9 (aF G false 1 v9 h9))) fun v10 h10 =>
 aD (gd v8 false h10 (pu h10 (aU Tryd.prog .gtr 3 true v10 (.int .i64 65536)))) fun v11 h11 =>
 aD (pu h11 (fT v8 (.bool true) v11)) fun v12 h12 =>
 aD (gd v12 false h12 (pu h12 (aA 2 v0))) fun v13 h13 =>
 aD (gd v12 false h13 (pu h13 (aF G false 1 v13 h13))) fun v14 h14 =>
 aD (gd v12 false h14 (pu h14 (aU Tryd.prog .lss 3 true v14 (.int .i64 0)))) fun v15 h15 =>
 aD (pu h15 (fT v12 (.bool true) v15)) fun v16 h16 =>
 aD (gd v16 false h16 (pu h16 (aA 2 v0))) fun v17 h17 =>
 aD (gd v16 false h17 (pu h17 (aF G false 1 v17 h17))) fun v18 h18 =>
 aD (gd v16 false h18 (pu h18 (aU Tryd.prog .gtr 3 true v18 (.int .i64 65536)))) fun v19 h19 =>
 aD (pu h19 (fT v16 (.bool true) v19)) fun v20 h20 =>
 aW v20
 (aD (pu h20 (aF G false 1 (.gl 1) h20)) fun v21 h21 =>
 cA [v21] h.length h21)
 (aD (pu h20 (aA 0 v0)) fun v22 h22 =>
 aD (pu h22 (aF G false 1 v22 h22)) fun v23 h23 =>
 aD (pu h23 (dN v23)) fun v24 h24 =>
 dV (cQ (cK.l6 G k h24.length self) k [v0, .nili, v23, v24, (.int .i64 0)] h24) fun e25 x25 h25 => hO e25
 (none)
 (fun i25 => if i25 = 1 then (cA [.nili] h.length h25) else (none))
 (cA [(aE x25 1)] h.length h25))))
noncomputable def cK.f (G : aG) : Nat → cD
 | 0 => fun _ _ => none
 | k + 1 => fun args h => mU args fun x0 => (cK.c G k (cK.f G k) x0 h)
theorem cK.step (G : aG) (k : Nat) (x0 : AV) (h : aB) : cK.f G (k + 1) [x0] h = cK.c G k (cK.f G k) x0 h := rfl
noncomputable def aO.ann : Ann := fF [5] [2] [] []
noncomputable def aO.env (G : aG) (k : Nat) (self : cD) : List (Nat × Bool × cD) := []
noncomputable def aO.c (G : aG) (k : Nat) (self : cD) (x0 : AV) (h : aB) : Option (AV × aB) := fB (
 aD (some (.sl h.length 0 0 0 6, h ++ [⟨29, 6, []⟩])) fun v0 h0 =>
 aD (pu h0 (aU Tryd.prog .eql 25 true x0 .nils)) fun v1 h1 =>
 aW v1
 (aD (some (.sl h1.length 0 0 0 6, h1 ++ [⟨29, 6, []⟩])) fun v2 h2 =>
 uT [v2] h2)
 (aD (iC 29 6 0 (.agg [(.int .i64 0), (.int .i64 0), (.int .i64 0), (.int .i64 0), (.int .i64 0), (.int .i64 0)]) [] h1) fun v3 h3 =>
 aD (eE 29 6 v3 x0 h3) fun v4 h4 =>
 uT [v4] h4))
noncomputable def aO.f (G : aG) : Nat → cD
 | 0 => fun _ _ => none
 | k + 1 => fun args h => mU args fun x0 => (aO.c G k (aO.f G k) x0 h)
theorem aO.step (G : aG) (k : Nat) (x0 : AV) (h : aB) : aO.f G (k + 1) [x0] h = aO.c G k (aO.f G k) x0 h := rfl
noncomputable def dP.ann : Ann := fF [] [] [] []
noncomputable def dP.env (G : aG) (k : Nat) (self : cD) : List (Nat × Bool × cD) := [(51, true, dK.f G k)]
noncomputable def dP.c (G : aG) (k : Nat) (self : cD) (x0 : AV) (h : aB) : Option (AV × aB) := fB (
 aD (gC x0 h) fun v0 h0 =>
 aD (pu h0 (aA 0 v0)) fun v1 h1 =>
 aD (pu h1 (aF G false 1 v1 h1)) fun v2 h2 =>
 aD (bF (dK.f G k) [v2] h2) fun v3 h3 =>
 aD (pu h3 (cN v3 0)) fun v4 h4 =>
 aD (pu h4 (cN v3 1)) fun v5 h5 =>
 aD (fW 100 (.agg [(.str ⟨#[]⟩), (.bool false), (.bool false), (.bool false), (.bool false), (.bool false)]) h5) fun v6 h6 =>
 aD (fM (aV 6 v6 v4 h6)) fun v7 h7 =>
 aD (pu h7 (aA 1 v6)) fun v8 h8 =>
 aD (pu h8 (aF G false 1 v8 h8)) fun v9 h9 =>
 aD (pu h9 (un .not v9)) fun v10 h10 =>
 aW v10
 (cA [(.int .i64 0), (.bool false)] h.length h10)
 (aD (pu h10 (aA 1 v0)) fun v11 h11 =>
 aD (pu h11 (aF G false 1 v11 h11)) fun v12 h12 =>
 cA [v12, (.bool true)] h.length h12))
noncomputable def dP.f (G : aG) : Nat → cD
 | 0 => fun _ _ => none
 | k + 1 => fun args h => mU args fun x0 => (dP.c G k (dP.f G k) x0 h)
theorem dP.step (G : aG) (k : Nat) (x0 : AV) (h : aB) : dP.f G (k + 1) [x0] h = dP.c G k (dP.f G k) x0 h := rfl
noncomputable def cI.ann : Ann := fF [] [] [] []
noncomputable def cI.env (G : aG) (k : Nat) (self : cD) : List (Nat × Bool × cD) := []
noncomputable def cI.c (G : aG) (k : Nat) (self : cD) (x0 : AV) (h : aB) : Option (AV × aB) := fB (
 aD (pu h (aU Tryd.prog .neq 3 false x0 x0)) fun v0 h0 =>
 cA [v0] h.length h0)
noncomputable def cI.f (G : aG) : Nat → cD
 | 0 => fun _ _ => none
 | k + 1 => fun args h => mU args fun x0 => (cI.c G k (cI.f G k) x0 h)
theorem cI.step (G : aG) (k : Nat) (x0 : AV) (h : aB) : cI.f G (k + 1) [x0] h = cI.c G k (cI.f G k) x0 h := rfl
noncomputable def cP.ann : Ann := fF [] [] [] []
noncomputable def cP.env (G : aG) (k : Nat) (self : cD) : List (Nat × Bool × cD) := [(120, true, cI.f G k)]
noncomputable def cP.c (G : aG) (k : Nat) (self : cD) (x0 x1 : AV) (h : aB) : Option (AV × aB) := fB (
 aD (bF (cI.f G k) [x0] h) fun v0 h0 =>
 aD (gd v0 true h0 (some (x1, h0))) fun v1 h1 =>
 aD (gd v0 true h1 (bF (cI.f G k) [v1] h1)) fun v2 h2 =>
 aD (gd v0 true h2 (pu h2 (un .not v2))) fun v3 h3 =>
 aD (pu h3 (fT v0 v3 (.bool false))) fun v4 h4 =>
 aD (gd v4 false h4 (some (x0, h4))) fun v5 h5 =>
 aD (gd v4 false h5 (some (x1, h5))) fun v6 h6 =>
 aD (gd v4 false h6 (pu h6 (aU Tryd.prog .lss 3 false v5 v6))) fun v7 h7 =>
 aD (pu h7 (fT v4 (.bool true) v7)) fun v8 h8 =>
 cA [v8] h.length h8)
noncomputable def cP.f (G : aG) : Nat → cD
 | 0 => fun _ _ => none
 | k + 1 => fun args h => kW args fun x0 x1 => (cP.c G k (cP.f G k) x0 x1 h)
theorem cP.step (G : aG) (k : Nat) (x0 x1 : AV) (h : aB) : cP.f G (k + 1) [x0, x1] h = cP.c G k (cP.f G k) x0 x1 h := rfl
noncomputable def aJ.ann : Ann := fF [] [] [(4, [0, 1, 2, 6, 7]), (1, [0, 1, 2, 6])] []
noncomputable def aJ.env (G : aG) (k : Nat) (self : cD) : List (Nat × Bool × cD) := [(103, true, cP.f G k)]
noncomputable def aJ.l4 (G : aG) (k n0 : Nat) (self : cD) (lp : dY) : dY := fun xs h0 => iF n0 xs h0 fun h =>
 aD (pu h (aU Tryd.prog .gtr 3 false (aE xs 4) (aE xs 1))) fun v4 h4 =>
 aD (gd v4 true h4 (some ((aE xs 0), h4))) fun v5 h5 =>
 aD (gd v4 true h5 (some ((aE xs 4), h5))) fun v6 h6 =>
 aD (gd v4 true h6 (pu h6 (aM 1 v5 v6))) fun v7 h7 =>
 aD (gd v4 true h7 (pu h7 (aF G false 1 v7 h7))) fun v8 h8 =>
 aD (gd v4 true h8 (some ((aE xs 0), h8))) fun v9 h9 =>
 aD (gd v4 true h9 (some ((aE xs 4), h9))) fun v10 h10 =>
 aD (gd v4 true h10 (pu h10 (aU Tryd.prog .sub 3 true v10 (.int .i64 1)))) fun v11 h11 =>
 aD (gd v4 true h11 (pu h11 (aM 1 v9 v11))) fun v12 h12 =>
 aD (gd v4 true h12 (pu h12 (aF G false 1 v12 h12))) fun v13 h13 =>
 aD (gd v4 true h13 (bF (cP.f G k) [v8, v13] h13)) fun v14 h14 =>
 aD (pu h14 (fT v4 v14 (.bool false))) fun v15 h15 =>
 aW v15
 (aD (pu h15 (aU Tryd.prog .sub 3 true (aE xs 4) (.int .i64 1))) fun v16 h16 =>
 aD (pu h16 (aU Tryd.prog .sub 3 true (aE xs 4) (.int .i64 1))) fun v17 h17 =>
 aD (pu h17 (aM 1 (aE xs 0) v17)) fun v18 h18 =>
 aD (pu h18 (aF G false 1 v18 h18)) fun v19 h19 =>
 aD (pu h19 (aM 1 (aE xs 0) (aE xs 4))) fun v20 h20 =>
 aD (pu h20 (aF G false 1 v20 h20)) fun v21 h21 =>
 aD (pu h21 (aM 1 (aE xs 0) (aE xs 4))) fun v22 h22 =>
 aD (fM (aV 1 v22 v19 h22)) fun v23 h23 =>
 aD (pu h23 (aM 1 (aE xs 0) v16)) fun v24 h24 =>
 aD (fM (aV 1 v24 v21 h24)) fun v25 h25 =>
 aD (pu h25 (aU Tryd.prog .sub 3 true (aE xs 4) (.int .i64 1))) fun v26 h26 =>
 lp [(aE xs 0), (aE xs 1), (aE xs 2), (aE xs 3), v26] h26)
 (some (.exit 2, [(aE xs 0), (aE xs 1), (aE xs 2), (aE xs 3), (aE xs 4)], h15))
noncomputable def aJ.l1 (G : aG) (k n0 : Nat) (self : cD) (lp : dY) : dY := fun xs h0 => iF n0 xs h0 fun h =>
 aD (pu h (aU Tryd.prog .lss 3 false (aE xs 3) (aE xs 2))) fun v2 h2 =>
 aW v2
 (dV (cQ (aJ.l4 G k h2.length self) k [(aE xs 0), (aE xs 1), (aE xs 2), (aE xs 3), (aE xs 3)] h2) fun e3 x3 h3 => hO e3
 (none)
 (fun i3 => if i3 = 2 then (aD (pu h3 (aU Tryd.prog .add 3 true (aE x3 3) (.int .i64 1))) fun v27 h27 =>
 lp [(aE x3 0), (aE x3 1), (aE x3 2), v27] h27) else (if i3 = 1 then (aD (pu h3 (aU Tryd.prog .add 3 true (aE x3 3) (.int .i64 1))) fun v28 h28 =>
 lp [(aE x3 0), (aE x3 1), (aE x3 2), v28] h28) else (some (.exit i3, [(aE x3 0), (aE x3 1), (aE x3 2), (aE x3 3)], h3))))
 (some (.ret, [(aE x3 0), (aE x3 1), (aE x3 2), (aE x3 3)], h3)))
 (some (.exit 0, [(aE xs 0), (aE xs 1), (aE xs 2), (aE xs 3)], h2))
noncomputable def aJ.c (G : aG) (k : Nat) (self : cD) (x0 x1 x2 : AV) (h : aB) : Option (AV × aB) := fB (
 aD (pu h (aU Tryd.prog .add 3 true x1 (.int .i64 1))) fun v0 h0 =>
 dV (cQ (aJ.l1 G k h0.length self) k [x0, x1, x2, v0] h0) fun e1 x1 h1 => hO e1
 (none)
 (fun i1 => if i1 = 0 then (cA [] h.length h1) else (none))
 (cA [] h.length h1))
noncomputable def aJ.f (G : aG) : Nat → cD
 | 0 => fun _ _ => none
 | k + 1 => fun args h => vX args fun x0 x1 x2 => (aJ.c G k (aJ.f G k) x0 x1 x2 h)
theorem aJ.step (G : aG) (k : Nat) (x0 x1 x2 : AV) (h : aB) : aJ.f G (k + 1) [x0, x1, x2] h = aJ.c G k (aJ.f G k) x0 x1 x2 h := rfl
noncomputable def aT.ann : Ann := fF [] [] [(2, [0, 1, 2, 3, 8, 9])] [(17, [0, 1, 2, 3, 8, 9, 10, 11]), (15, [0, 1, 2, 3, 8, 9, 10, 11, 12]), (10, [0, 1, 2, 3, 8, 9, 10])]
noncomputable def aT.env (G : aG) (k : Nat) (self : cD) : List (Nat × Bool × cD) := [(87, false, self), (97, false, aJ.f G k), (103, true, cP.f G k)]
noncomputable def aT.l2 (G : aG) (k n0 : Nat) (self : cD) (lp : dY) : dY := fun xs h0 => iF n0 xs h0 fun h =>
 aD (pu h (aU Tryd.prog .sub 3 false (aE xs 2) (aE xs 1))) fun v1 h1 =>
 aD (pu h1 (aU Tryd.prog .leq 3 true v1 (.int .i64 12))) fun v2 h2 =>
 aW v2
 (aD (bB (aJ.f G k) [(aE xs 0), (aE xs 1), (aE xs 2)] h2) fun v3 h3 =>
 some (.ret, [(aE xs 0), (aE xs 1), (aE xs 2), (aE xs 3), (aE xs 4), (aE xs 5)], h3))
 (aD (pu h2 (aU Tryd.prog .eql 3 true (aE xs 3) (.int .i64 0))) fun v4 h4 =>
 aW v4
 (none)
 (dV (
 aD (pu h4 (un .not (aE xs 4))) fun v5 h5 =>
 aW v5
 (none)
 (some (.normal, [(aE xs 0), (aE xs 1), (aE xs 2), (aE xs 3), (aE xs 4), (aE xs 5), v1], h5))) fun e6 x6 h6 => hO e6
 (none)
 (fun i6 => if i6 = 1 then (lp [(aE x6 0), (aE x6 1), (aE x6 2), (aE x6 3), (aE x6 4), (aE x6 5)] h6) else (some (.exit i6, [(aE x6 0), (aE x6 1), (aE x6 2), (aE x6 3), (aE x6 4), (aE x6 5)], h6)))
 (some (.ret, [(aE x6 0), (aE x6 1), (aE x6 2), (aE x6 3), (aE x6 4), (aE x6 5)], h6))))
noncomputable def aT.c (G : aG) (k : Nat) (self : cD) (x0 x1 x2 x3 : AV) (h : aB) : Option (AV × aB) := fB (
 dV (cQ (aT.l2 G k h.length self) k [x0, x1, x2, x3, (.bool true), (.bool true)] h) fun e0 x0 h0 => hO e0
 (none)
 (fun i0 => if i0 = 0 then (cA [] h.length h0) else (none))
 (cA [] h.length h0))
noncomputable def aT.f (G : aG) : Nat → cD
 | 0 => fun _ _ => none
 | k + 1 => fun args h => aBA args fun x0 x1 x2 x3 => (aT.c G k (aT.f G k) x0 x1 x2 x3 h)
theorem aT.step (G : aG) (k : Nat) (x0 x1 x2 x3 : AV) (h : aB) : aT.f G (k + 1) [x0, x1, x2, x3] h = aT.c G k (aT.f G k) x0 x1 x2 x3 h := rfl
def dD.s0 : ByteArray := ⟨#[0, 1, 2, 2, 3, 3, 3, 3, 4, 4, 4, 4, 4, 4, 4, 4, 5, 5, 5, 5, 5, 5, 5, 5, 5, 5, 5, 5, 5, 5, 5, 5, 6, 6, 6, 6, 6, 6, 6, 6, 6, 6, 6, 6, 6, 6, 6, 6, 6, 6, 6, 6, 6, 6, 6, 6, 6, 6, 6, 6, 6, 6, 6, 6, 7, 7, 7, 7, 7, 7, 7, 7, 7, 7, 7, 7, 7, 7, 7, 7, 7, 7, 7, 7, 7, 7, 7, 7, 7, 7, 7, 7, 7, 7, 7, 7, 7, 7, 7, 7, 7, 7, 7, 7, 7, 7, 7, 7, 7, 7, 7, 7, 7, 7, 7, 7, 7, 7, 7, 7, 7, 7, 7, 7, 7, 7, 7, 7, 8, 8, 8, 8, 8, 8, 8, 8, 8, 8, 8, 8, 8, 8, 8, 8, 8, 8, 8, 8, 8, 8, 8, 8, 8, 8, 8, 8, 8, 8, 8, 8, 8, 8, 8, 8, 8, 8, 8, 8, 8, 8, 8, 8, 8, 8, 8, 8, 8, 8, 8, 8, 8, 8, 8, 8, 8, 8, 8, 8, 8, 8, 8, 8, 8, 8, 8, 8, 8, 8, 8, 8, 8, 8, 8, 8, 8, 8, 8, 8, 8, 8, 8, 8, 8, 8, 8, 8, 8, 8, 8, 8, 8, 8, 8, 8, 8, 8, 8, 8, 8, 8, 8, 8, 8, 8, 8, 8, 8, 8, 8, 8, 8, 8, 8, 8, 8, 8, 8, 8, 8, 8, 8, 8, 8, 8, 8, 8]⟩
noncomputable def dD.ann : Ann := fF [] [] [] [(7, [0, 2]), (4, [0, 2])]
noncomputable def dD.env (G : aG) (k : Nat) (self : cD) : List (Nat × Bool × cD) := []
noncomputable def dD.c (G : aG) (k : Nat) (self : cD) (x0 : AV) (h : aB) : Option (AV × aB) := fB (
 dV (
 aD (pu h (aU Tryd.prog .geq 161 true x0 (.int .u32 65536))) fun v0 h0 =>
 aW v0
 (aD (pu h0 (aU Tryd.prog .shr 161 true x0 (.int .u64 16))) fun v1 h1 =>
 some (.normal, [v1, (.int .i64 16)], h1))
 (some (.normal, [x0, (.int .i64 0)], h0))) fun e2 x2 h2 => hO e2
 (dV (
 aD (pu h2 (aU Tryd.prog .geq 161 true (aE x2 0) (.int .u32 256))) fun v3 h3 =>
 aW v3
 (aD (pu h3 (aU Tryd.prog .shr 161 true (aE x2 0) (.int .u64 8))) fun v4 h4 =>
 aD (pu h4 (aU Tryd.prog .add 3 true (aE x2 1) (.int .i64 8))) fun v5 h5 =>
 some (.normal, [v4, v5], h5))
 (some (.normal, [(aE x2 0), (aE x2 1)], h3))) fun e6 x6 h6 => hO e6
 (aD (pu h6 (dA .u8 (aE x6 0))) fun v7 h7 =>
 aD (pu h7 (aAD (.str dD.s0) v7)) fun v8 h8 =>
 aD (pu h8 (dA .i64 v8)) fun v9 h9 =>
 aD (pu h9 (aU Tryd.prog .add 3 false (aE x6 1) v9)) fun v10 h10 =>
 cA [v10] h.length h10)
 (fun i6 => none)
 (cA [(aE x6 1)] h.length h6))
 (fun i2 => none)
 (cA [(aE x2 1)] h.length h2))
noncomputable def dD.f (G : aG) : Nat → cD
 | 0 => fun _ _ => none
 | k + 1 => fun args h => mU args fun x0 => (dD.c G k (dD.f G k) x0 h)
def dE.s0 : ByteArray := ⟨#[0, 1, 2, 2, 3, 3, 3, 3, 4, 4, 4, 4, 4, 4, 4, 4, 5, 5, 5, 5, 5, 5, 5, 5, 5, 5, 5, 5, 5, 5, 5, 5, 6, 6, 6, 6, 6, 6, 6, 6, 6, 6, 6, 6, 6, 6, 6, 6, 6, 6, 6, 6, 6, 6, 6, 6, 6, 6, 6, 6, 6, 6, 6, 6, 7, 7, 7, 7, 7, 7, 7, 7, 7, 7, 7, 7, 7, 7, 7, 7, 7, 7, 7, 7, 7, 7, 7, 7, 7, 7, 7, 7, 7, 7, 7, 7, 7, 7, 7, 7, 7, 7, 7, 7, 7, 7, 7, 7, 7, 7, 7, 7, 7, 7, 7, 7, 7, 7, 7, 7, 7, 7, 7, 7, 7, 7, 7, 7, 8, 8, 8, 8, 8, 8, 8, 8, 8, 8, 8, 8, 8, 8, 8, 8, 8, 8, 8, 8, 8, 8, 8, 8, 8, 8, 8, 8, 8, 8, 8, 8, 8, 8, 8, 8, 8, 8, 8, 8, 8, 8, 8, 8, 8, 8, 8, 8, 8, 8, 8, 8, 8, 8, 8, 8, 8, 8, 8, 8, 8, 8, 8, 8, 8, 8, 8, 8, 8, 8, 8, 8, 8, 8, 8, 8, 8, 8, 8, 8, 8, 8, 8, 8, 8, 8, 8, 8, 8, 8, 8, 8, 8, 8, 8, 8, 8, 8, 8, 8, 8, 8, 8, 8, 8, 8, 8, 8, 8, 8, 8, 8, 8, 8, 8, 8, 8, 8, 8, 8, 8, 8, 8, 8, 8, 8, 8, 8]⟩
noncomputable def dE.ann : Ann := fF [] [] [] [(10, [0, 2]), (7, [0, 2]), (4, [0, 2])]
noncomputable def dE.env (G : aG) (k : Nat) (self : cD) : List (Nat × Bool × cD) := []
noncomputable def dE.c (G : aG) (k : Nat) (self : cD) (x0 : AV) (h : aB) : Option (AV × aB) := fB (
 dV (
 aD (pu h (aU Tryd.prog .geq 30 true x0 (.int .u64 4294967296))) fun v0 h0 =>
 aW v0
 (aD (pu h0 (aU Tryd.prog .shr 30 true x0 (.int .u64 32))) fun v1 h1 =>
 some (.normal, [v1, (.int .i64 32)], h1))
 (some (.normal, [x0, (.int .i64 0)], h0))) fun e2 x2 h2 => hO e2
 (dV (
 aD (pu h2 (aU Tryd.prog .geq 30 true (aE x2 0) (.int .u64 65536))) fun v3 h3 =>
 aW v3
 (aD (pu h3 (aU Tryd.prog .shr 30 true (aE x2 0) (.int .u64 16))) fun v4 h4 =>
 aD (pu h4 (aU Tryd.prog .add 3 true (aE x2 1) (.int .i64 16))) fun v5 h5 =>
 some (.normal, [v4, v5], h5))
 (some (.normal, [(aE x2 0), (aE x2 1)], h3))) fun e6 x6 h6 => hO e6
 (dV (
 aD (pu h6 (aU Tryd.prog .geq 30 true (aE x6 0) (.int .u64 256))) fun v7 h7 =>
 aW v7
 (aD (pu h7 (aU Tryd.prog .shr 30 true (aE x6 0) (.int .u64 8))) fun v8 h8 =>
 aD (pu h8 (aU Tryd.prog .add 3 true (aE x6 1) (.int .i64 8))) fun v9 h9 =>
 some (.normal, [v8, v9], h9))
 (some (.normal, [(aE x6 0), (aE x6 1)], h7))) fun e10 x10 h10 => hO e10
 (aD (pu h10 (dA .u8 (aE x10 0))) fun v11 h11 =>
 aD (pu h11 (aAD (.str dE.s0) v11)) fun v12 h12 =>
 aD (pu h12 (dA .i64 v12)) fun v13 h13 =>
 aD (pu h13 (aU Tryd.prog .add 3 false (aE x10 1) v13)) fun v14 h14 =>
 cA [v14] h.length h14)
 (fun i10 => none)
 (cA [(aE x10 1)] h.length h10))
 (fun i6 => none)
 (cA [(aE x6 1)] h.length h6))
 (fun i2 => none)
 (cA [(aE x2 1)] h.length h2))
noncomputable def dE.f (G : aG) : Nat → cD
 | 0 => fun _ _ => none
 | k + 1 => fun args h => mU args fun x0 => (dE.c G k (dE.f G k) x0 h)
noncomputable def dF.ann : Ann := fF [] [] [] []
noncomputable def dF.env (G : aG) (k : Nat) (self : cD) : List (Nat × Bool × cD) := [(106, true, dD.f G k), (107, true, dE.f G k)]
noncomputable def dF.c (G : aG) (k : Nat) (self : cD) (x0 : AV) (h : aB) : Option (AV × aB) := fB (
 aW (.bool false)
 (aD (pu h (dA .u32 x0)) fun v0 h0 =>
 aD (bF (dD.f G k) [v0] h0) fun v1 h1 =>
 cA [v1] h.length h1)
 (aD (bF (dE.f G k) [x0] h) fun v2 h2 =>
 cA [v2] h.length h2))
noncomputable def dF.f (G : aG) : Nat → cD
 | 0 => fun _ _ => none
 | k + 1 => fun args h => mU args fun x0 => (dF.c G k (dF.f G k) x0 h)
noncomputable def bG.ann : Ann := fF [] [] [] []
noncomputable def bG.env (G : aG) (k : Nat) (self : cD) : List (Nat × Bool × cD) := [(87, false, aT.f G k), (88, true, dF.f G k)]
noncomputable def bG.c (G : aG) (k : Nat) (self : cD) (x0 : AV) (h : aB) : Option (AV × aB) := fB (
 aD (pu h (dN x0)) fun v0 h0 =>
 aD (pu h0 (dA .u64 v0)) fun v1 h1 =>
 aD (bF (dF.f G k) [v1] h1) fun v2 h2 =>
 aD (bB (aT.f G k) [x0, (.int .i64 0), v0, v2] h2) fun v3 h3 =>
 cA [] h.length h3)
noncomputable def bG.f (G : aG) : Nat → cD
 | 0 => fun _ _ => none
 | k + 1 => fun args h => mU args fun x0 => (bG.c G k (bG.f G k) x0 h)
theorem bG.step (G : aG) (k : Nat) (x0 : AV) (h : aB) : bG.f G (k + 1) [x0] h = bG.c G k (bG.f G k) x0 h := rfl
noncomputable def aI.ann : Ann := fF [] [] [(9, [0, 3, 4, 5]), (4, [0, 2, 3])] [(10, [0, 3, 4, 5])]
noncomputable def aI.env (G : aG) (k : Nat) (self : cD) : List (Nat × Bool × cD) := []
noncomputable def aI.l9 (G : aG) (k n0 : Nat) (self : cD) (lp : dY) : dY := fun xs h0 => iF n0 xs h0 fun h =>
 aD (pu h (dN (aE xs 2))) fun v13 h13 =>
 aD (pu h13 (aU Tryd.prog .lss 3 false (aE xs 3) v13)) fun v14 h14 =>
 aW v14
 (dV (
 aD (pu h14 (aM 1 (aE xs 2) (aE xs 3))) fun v15 h15 =>
 aD (pu h15 (aF G false 1 v15 h15)) fun v16 h16 =>
 aD (pu h16 (aU Tryd.prog .sub 3 true (aE xs 3) (.int .i64 1))) fun v17 h17 =>
 aD (pu h17 (aM 1 (aE xs 2) v17)) fun v18 h18 =>
 aD (pu h18 (aF G false 1 v18 h18)) fun v19 h19 =>
 aD (pu h19 (aU Tryd.prog .neq 3 false v16 v19)) fun v20 h20 =>
 aW v20
 (aD (pu h20 (aM 1 (aE xs 2) (aE xs 3))) fun v21 h21 =>
 aD (pu h21 (aF G false 1 v21 h21)) fun v22 h22 =>
 aD (pu h22 (aM 1 (aE xs 0) (aE xs 1))) fun v23 h23 =>
 aD (fM (aV 1 v23 v22 h23)) fun v24 h24 =>
 aD (pu h24 (aU Tryd.prog .add 3 true (aE xs 1) (.int .i64 1))) fun v25 h25 =>
 some (.normal, [(aE xs 0), v25, (aE xs 2), (aE xs 3)], h25))
 (some (.normal, [(aE xs 0), (aE xs 1), (aE xs 2), (aE xs 3)], h20))) fun e26 x26 h26 => hO e26
 (aD (pu h26 (aU Tryd.prog .add 3 true (aE x26 3) (.int .i64 1))) fun v27 h27 =>
 lp [(aE x26 0), (aE x26 1), (aE x26 2), v27] h27)
 (fun i26 => some (.exit i26, [(aE x26 0), (aE x26 1), (aE x26 2), (aE x26 3)], h26))
 (some (.ret, [(aE x26 0), (aE x26 1), (aE x26 2), (aE x26 3)], h26)))
 (some (.exit 2, [(aE xs 0), (aE xs 1), (aE xs 2), (aE xs 3)], h14))
noncomputable def aI.l4 (G : aG) (k n0 : Nat) (self : cD) (lp : dY) : dY := fun xs h0 => iF n0 xs h0 fun h =>
 aD (pu h (dN (aE xs 0))) fun v3 h3 =>
 aD (pu h3 (aU Tryd.prog .lss 3 false (aE xs 2) v3)) fun v4 h4 =>
 aW v4
 (aD (pu h4 (aM 1 (aE xs 0) (aE xs 2))) fun v5 h5 =>
 aD (pu h5 (aF G false 1 v5 h5)) fun v6 h6 =>
 aD (pu h6 (aU Tryd.prog .sub 3 true (aE xs 2) (.int .i64 1))) fun v7 h7 =>
 aD (pu h7 (aM 1 (aE xs 0) v7)) fun v8 h8 =>
 aD (pu h8 (aF G false 1 v8 h8)) fun v9 h9 =>
 aD (pu h9 (aU Tryd.prog .eql 3 false v6 v9)) fun v10 h10 =>
 aW v10
 (aD (pu h10 (iQ 1 (aE xs 0) (some (aE xs 2)) none)) fun v11 h11 =>
 dV (cQ (aI.l9 G k h11.length self) k [(aE xs 0), (aE xs 2), v11, (.int .i64 1)] h11) fun e12 x12 h12 => hO e12
 (none)
 (fun i12 => if i12 = 2 then (aD (pu h12 (iQ 1 (aE x12 0) (some (aE x12 1)) none)) fun v28 h28 =>
 aD (sX (.int .i64 0) v28 h28) fun v29 h29 =>
 aD (pu h29 (iQ 1 (aE x12 0) none (some (aE x12 1)))) fun v30 h30 =>
 some (.ret, [(aE x12 0), v30, (aE x12 1)], h30)) else (if i12 = 1 then (aD (pu h12 (aU Tryd.prog .add 3 true (aE x12 1) (.int .i64 1))) fun v31 h31 =>
 lp [(aE x12 0), .undef, v31] h31) else (some (.exit i12, [(aE x12 0), .undef, (aE x12 1)], h12))))
 (some (.ret, [(aE x12 0), .undef, (aE x12 1)], h12)))
 (aD (pu h10 (aU Tryd.prog .add 3 true (aE xs 2) (.int .i64 1))) fun v32 h32 =>
 lp [(aE xs 0), (aE xs 1), v32] h32))
 (some (.exit 0, [(aE xs 0), (aE xs 1), (aE xs 2)], h4))
noncomputable def aI.c (G : aG) (k : Nat) (self : cD) (x0 : AV) (h : aB) : Option (AV × aB) := fB (
 aD (pu h (dN x0)) fun v0 h0 =>
 aD (pu h0 (aU Tryd.prog .lss 3 true v0 (.int .i64 2))) fun v1 h1 =>
 aW v1
 (cA [x0] h.length h1)
 (dV (cQ (aI.l4 G k h1.length self) k [x0, .nils, (.int .i64 1)] h1) fun e2 x2 h2 => hO e2
 (none)
 (fun i2 => if i2 = 0 then (cA [(aE x2 0)] h.length h2) else (none))
 (cA [(aE x2 1)] h.length h2)))
noncomputable def aI.f (G : aG) : Nat → cD
 | 0 => fun _ _ => none
 | k + 1 => fun args h => mU args fun x0 => (aI.c G k (aI.f G k) x0 h)
theorem aI.step (G : aG) (k : Nat) (x0 : AV) (h : aB) : aI.f G (k + 1) [x0] h = aI.c G k (aI.f G k) x0 h := rfl
noncomputable def cJ.ann : Ann := fF [] [5] [(4, [1, 5, 20, 21, 22])] []
noncomputable def cJ.env (G : aG) (k : Nat) (self : cD) : List (Nat × Bool × cD) := [(51, true, dK.f G k), (53, false, bG.f G k), (54, false, aI.f G k)]
noncomputable def cJ.l4 (G : aG) (k n0 : Nat) (self : cD) (lp : dY) : dY := fun xs h0 => iF n0 xs h0 fun h =>
 aD (pu h (aU Tryd.prog .lss 3 false (aE xs 4) (aE xs 3))) fun v18 h18 =>
 aW v18
 (aD (pu h18 (aM 1 (aE xs 2) (aE xs 4))) fun v19 h19 =>
 aD (pu h19 (aF G false 1 v19 h19)) fun v20 h20 =>
 aW v20
 (aD (pu h20 (aA 2 (aE xs 0))) fun v21 h21 =>
 aD (pu h21 (aF G false 1 v21 h21)) fun v22 h22 =>
 aD (pu h22 (aA 3 (aE xs 0))) fun v23 h23 =>
 aD (pu h23 (aF G false 1 v23 h23)) fun v24 h24 =>
 aD (pu h24 (aA 4 (aE xs 0))) fun v25 h25 =>
 aD (pu h25 (aF G false 1 v25 h25)) fun v26 h26 =>
 aD (eQ 1 3 (.int .i64 0) [(0, v22), (1, v24), (2, v26)] h26) fun v27 h27 =>
 aD (pu h27 (aM 1 v27 (aE xs 4))) fun v28 h28 =>
 aD (pu h28 (aF G false 1 v28 h28)) fun v29 h29 =>
 aD (eQ 1 1 (.int .i64 0) [(0, v29)] h29) fun v30 h30 =>
 aD (eE 3 1 (aE xs 1) v30 h30) fun v31 h31 =>
 aD (pu h31 (aU Tryd.prog .add 3 true (aE xs 4) (.int .i64 1))) fun v32 h32 =>
 lp [(aE xs 0), v31, (aE xs 2), (aE xs 3), v32] h32)
 (aD (pu h20 (aU Tryd.prog .add 3 true (aE xs 4) (.int .i64 1))) fun v33 h33 =>
 lp [(aE xs 0), (aE xs 1), (aE xs 2), (aE xs 3), v33] h33))
 (some (.exit 0, [(aE xs 0), (aE xs 1), (aE xs 2), (aE xs 3), (aE xs 4)], h18))
noncomputable def cJ.c (G : aG) (k : Nat) (self : cD) (x0 : AV) (h : aB) : Option (AV × aB) := fB (
 aD (gC x0 h) fun v0 h0 =>
 aD (pu h0 (aA 0 v0)) fun v1 h1 =>
 aD (pu h1 (aF G false 1 v1 h1)) fun v2 h2 =>
 aD (bF (dK.f G k) [v2] h2) fun v3 h3 =>
 aD (pu h3 (cN v3 0)) fun v4 h4 =>
 aD (pu h4 (cN v3 1)) fun v5 h5 =>
 aD (fW 100 (.agg [(.str ⟨#[]⟩), (.bool false), (.bool false), (.bool false), (.bool false), (.bool false)]) h5) fun v6 h6 =>
 aD (fM (aV 6 v6 v4 h6)) fun v7 h7 =>
 aD (some (.sl h7.length 0 0 0 1, h7 ++ [⟨3, 1, []⟩])) fun v8 h8 =>
 aD (pu h8 (aA 2 v6)) fun v9 h9 =>
 aD (pu h9 (aF G false 1 v9 h9)) fun v10 h10 =>
 aD (pu h10 (aA 3 v6)) fun v11 h11 =>
 aD (pu h11 (aF G false 1 v11 h11)) fun v12 h12 =>
 aD (pu h12 (aA 4 v6)) fun v13 h13 =>
 aD (pu h13 (aF G false 1 v13 h13)) fun v14 h14 =>
 aD (eQ 1 3 (.bool false) [(0, v10), (1, v12), (2, v14)] h14) fun v15 h15 =>
 aD (pu h15 (dN v15)) fun v16 h16 =>
 dV (cQ (cJ.l4 G k h16.length self) k [v0, v8, v15, v16, (.int .i64 0)] h16) fun e17 x17 h17 => hO e17
 (none)
 (fun i17 => if i17 = 0 then (aD (bB (bG.f G k) [(aE x17 1)] h17) fun v34 h34 =>
 aD (bB (aI.f G k) [(aE x17 1)] h34) fun v35 h35 =>
 cA [v35] h.length h35) else (none))
 (cA [.undef] h.length h17))
noncomputable def cJ.f (G : aG) : Nat → cD
 | 0 => fun _ _ => none
 | k + 1 => fun args h => mU args fun x0 => (cJ.c G k (cJ.f G k) x0 h)
theorem cJ.step (G : aG) (k : Nat) (x0 : AV) (h : aB) : cJ.f G (k + 1) [x0] h = cJ.c G k (cJ.f G k) x0 h := rfl
noncomputable def bI.ann : Ann := fF [] [] [] []
noncomputable def bI.env (G : aG) (k : Nat) (self : cD) : List (Nat × Bool × cD) := []
noncomputable def bI.c (G : aG) (k : Nat) (self : cD) (x0 x1 x2 : AV) (h : aB) : Option (AV × aB) := fB (
 aD (pu h (aF G false 1 x2 h)) fun v0 h0 =>
 aD (pu h0 (aM 1 v0 x1)) fun v1 h1 =>
 aD (pu h1 (aF G false 1 v1 h1)) fun v2 h2 =>
 aD (pu h2 (aF G false 1 x2 h2)) fun v3 h3 =>
 aD (pu h3 (aM 1 v3 x0)) fun v4 h4 =>
 aD (pu h4 (aF G false 1 v4 h4)) fun v5 h5 =>
 aD (pu h5 (aU Tryd.prog .sub 3 false v2 v5)) fun v6 h6 =>
 cA [v6] h.length h6)
noncomputable def bI.f (G : aG) : Nat → cD
 | 0 => fun _ _ => none
 | k + 1 => fun args h => vX args fun x0 x1 x2 => (bI.c G k (bI.f G k) x0 x1 x2 h)
theorem bI.step (G : aG) (k : Nat) (x0 x1 x2 : AV) (h : aB) : bI.f G (k + 1) [x0, x1, x2] h = bI.c G k (bI.f G k) x0 x1 x2 h := rfl
noncomputable def aH.ann : Ann := fF [] [] [(4, [0, 1, 2, 3, 8, 9]), (1, [0, 1, 2, 3, 8])] []
noncomputable def aH.env (G : aG) (k : Nat) (self : cD) : List (Nat × Bool × cD) := [(74, false, bI.f G k)]
noncomputable def aH.l4 (G : aG) (k n0 : Nat) (self : cD) (lp : dY) : dY := fun xs h0 => iF n0 xs h0 fun h =>
 aD (pu h (aU Tryd.prog .gtr 3 false (aE xs 5) (aE xs 1))) fun v4 h4 =>
 aD (gd v4 true h4 (some ((aE xs 3), h4))) fun v5 h5 =>
 aD (gd v4 true h5 (some ((aE xs 0), h5))) fun v6 h6 =>
 aD (gd v4 true h6 (some ((aE xs 5), h6))) fun v7 h7 =>
 aD (gd v4 true h7 (pu h7 (aM 1 v6 v7))) fun v8 h8 =>
 aD (gd v4 true h8 (pu h8 (aF G false 1 v8 h8))) fun v9 h9 =>
 aD (gd v4 true h9 (some ((aE xs 0), h9))) fun v10 h10 =>
 aD (gd v4 true h10 (some ((aE xs 5), h10))) fun v11 h11 =>
 aD (gd v4 true h11 (pu h11 (aU Tryd.prog .sub 3 true v11 (.int .i64 1)))) fun v12 h12 =>
 aD (gd v4 true h12 (pu h12 (aM 1 v10 v12))) fun v13 h13 =>
 aD (gd v4 true h13 (pu h13 (aF G false 1 v13 h13))) fun v14 h14 =>
 aD (gd v4 true h14 (kR (fJ (aH.env G k self)) v5 [v9, v14] h14)) fun v15 h15 =>
 aD (gd v4 true h15 (pu h15 (aU Tryd.prog .lss 3 true v15 (.int .i64 0)))) fun v16 h16 =>
 aD (pu h16 (fT v4 v16 (.bool false))) fun v17 h17 =>
 aW v17
 (aD (pu h17 (aU Tryd.prog .sub 3 true (aE xs 5) (.int .i64 1))) fun v18 h18 =>
 aD (pu h18 (aU Tryd.prog .sub 3 true (aE xs 5) (.int .i64 1))) fun v19 h19 =>
 aD (pu h19 (aM 1 (aE xs 0) v19)) fun v20 h20 =>
 aD (pu h20 (aF G false 1 v20 h20)) fun v21 h21 =>
 aD (pu h21 (aM 1 (aE xs 0) (aE xs 5))) fun v22 h22 =>
 aD (pu h22 (aF G false 1 v22 h22)) fun v23 h23 =>
 aD (pu h23 (aM 1 (aE xs 0) (aE xs 5))) fun v24 h24 =>
 aD (fM (aV 1 v24 v21 h24)) fun v25 h25 =>
 aD (pu h25 (aM 1 (aE xs 0) v18)) fun v26 h26 =>
 aD (fM (aV 1 v26 v23 h26)) fun v27 h27 =>
 aD (pu h27 (aU Tryd.prog .sub 3 true (aE xs 5) (.int .i64 1))) fun v28 h28 =>
 lp [(aE xs 0), (aE xs 1), (aE xs 2), (aE xs 3), (aE xs 4), v28] h28)
 (some (.exit 2, [(aE xs 0), (aE xs 1), (aE xs 2), (aE xs 3), (aE xs 4), (aE xs 5)], h17))
noncomputable def aH.l1 (G : aG) (k n0 : Nat) (self : cD) (lp : dY) : dY := fun xs h0 => iF n0 xs h0 fun h =>
 aD (pu h (aU Tryd.prog .lss 3 false (aE xs 4) (aE xs 2))) fun v2 h2 =>
 aW v2
 (dV (cQ (aH.l4 G k h2.length self) k [(aE xs 0), (aE xs 1), (aE xs 2), (aE xs 3), (aE xs 4), (aE xs 4)] h2) fun e3 x3 h3 => hO e3
 (none)
 (fun i3 => if i3 = 2 then (aD (pu h3 (aU Tryd.prog .add 3 true (aE x3 4) (.int .i64 1))) fun v29 h29 =>
 lp [(aE x3 0), (aE x3 1), (aE x3 2), (aE x3 3), v29] h29) else (if i3 = 1 then (aD (pu h3 (aU Tryd.prog .add 3 true (aE x3 4) (.int .i64 1))) fun v30 h30 =>
 lp [(aE x3 0), (aE x3 1), (aE x3 2), (aE x3 3), v30] h30) else (some (.exit i3, [(aE x3 0), (aE x3 1), (aE x3 2), (aE x3 3), (aE x3 4)], h3))))
 (some (.ret, [(aE x3 0), (aE x3 1), (aE x3 2), (aE x3 3), (aE x3 4)], h3)))
 (some (.exit 0, [(aE xs 0), (aE xs 1), (aE xs 2), (aE xs 3), (aE xs 4)], h2))
noncomputable def aH.c (G : aG) (k : Nat) (self : cD) (x0 x1 x2 x3 : AV) (h : aB) : Option (AV × aB) := fB (
 aD (pu h (aU Tryd.prog .add 3 true x1 (.int .i64 1))) fun v0 h0 =>
 dV (cQ (aH.l1 G k h0.length self) k [x0, x1, x2, x3, v0] h0) fun e1 x1 h1 => hO e1
 (none)
 (fun i1 => if i1 = 0 then (cA [] h.length h1) else (none))
 (cA [] h.length h1))
noncomputable def aH.f (G : aG) : Nat → cD
 | 0 => fun _ _ => none
 | k + 1 => fun args h => aBA args fun x0 x1 x2 x3 => (aH.c G k (aH.f G k) x0 x1 x2 x3 h)
theorem aH.step (G : aG) (k : Nat) (x0 x1 x2 x3 : AV) (h : aB) : aH.f G (k + 1) [x0, x1, x2, x3] h = aH.c G k (aH.f G k) x0 x1 x2 x3 h := rfl
noncomputable def aN.ann : Ann := fF [] [] [(1, [0, 1, 2, 3, 10])] []
noncomputable def aN.env (G : aG) (k : Nat) (self : cD) : List (Nat × Bool × cD) := []
noncomputable def aN.l1 (G : aG) (k n0 : Nat) (self : cD) (lp : dY) : dY := fun xs h0 => iF n0 xs h0 fun h =>
 aD (pu h (aU Tryd.prog .lss 3 false (aE xs 4) (aE xs 3))) fun v1 h1 =>
 aW v1
 (aD (pu h1 (aU Tryd.prog .add 3 false (aE xs 1) (aE xs 4))) fun v2 h2 =>
 aD (pu h2 (aU Tryd.prog .add 3 false (aE xs 2) (aE xs 4))) fun v3 h3 =>
 aD (pu h3 (aU Tryd.prog .add 3 false (aE xs 2) (aE xs 4))) fun v4 h4 =>
 aD (pu h4 (aM 1 (aE xs 0) v4)) fun v5 h5 =>
 aD (pu h5 (aF G false 1 v5 h5)) fun v6 h6 =>
 aD (pu h6 (aU Tryd.prog .add 3 false (aE xs 1) (aE xs 4))) fun v7 h7 =>
 aD (pu h7 (aM 1 (aE xs 0) v7)) fun v8 h8 =>
 aD (pu h8 (aF G false 1 v8 h8)) fun v9 h9 =>
 aD (pu h9 (aM 1 (aE xs 0) v2)) fun v10 h10 =>
 aD (fM (aV 1 v10 v6 h10)) fun v11 h11 =>
 aD (pu h11 (aM 1 (aE xs 0) v3)) fun v12 h12 =>
 aD (fM (aV 1 v12 v9 h12)) fun v13 h13 =>
 aD (pu h13 (aU Tryd.prog .add 3 true (aE xs 4) (.int .i64 1))) fun v14 h14 =>
 lp [(aE xs 0), (aE xs 1), (aE xs 2), (aE xs 3), v14] h14)
 (some (.exit 0, [(aE xs 0), (aE xs 1), (aE xs 2), (aE xs 3), (aE xs 4)], h1))
noncomputable def aN.c (G : aG) (k : Nat) (self : cD) (x0 x1 x2 x3 x4 : AV) (h : aB) : Option (AV × aB) := fB (
 dV (cQ (aN.l1 G k h.length self) k [x0, x1, x2, x3, (.int .i64 0)] h) fun e0 x0 h0 => hO e0
 (none)
 (fun i0 => if i0 = 0 then (cA [] h.length h0) else (none))
 (cA [] h.length h0))
noncomputable def aN.f (G : aG) : Nat → cD
 | 0 => fun _ _ => none
 | k + 1 => fun args h => aFP args fun x0 x1 x2 x3 x4 => (aN.c G k (aN.f G k) x0 x1 x2 x3 x4 h)
theorem aN.step (G : aG) (k : Nat) (x0 x1 x2 x3 x4 : AV) (h : aB) : aN.f G (k + 1) [x0, x1, x2, x3, x4] h = aN.c G k (aN.f G k) x0 x1 x2 x3 x4 h := rfl
noncomputable def aS.ann : Ann := fF [] [] [(2, [0, 2, 4, 10, 11])] []
noncomputable def aS.env (G : aG) (k : Nat) (self : cD) : List (Nat × Bool × cD) := [(125, false, aN.f G k)]
noncomputable def aS.l2 (G : aG) (k n0 : Nat) (self : cD) (lp : dY) : dY := fun xs h0 => iF n0 xs h0 fun h =>
 aD (pu h (aU Tryd.prog .neq 3 false (aE xs 3) (aE xs 4))) fun v3 h3 =>
 aW v3
 (aD (pu h3 (aU Tryd.prog .gtr 3 false (aE xs 3) (aE xs 4))) fun v4 h4 =>
 aW v4
 (aD (pu h4 (aU Tryd.prog .sub 3 false (aE xs 1) (aE xs 3))) fun v5 h5 =>
 aD (bB (aN.f G k) [(aE xs 0), v5, (aE xs 1), (aE xs 4), (aE xs 2)] h5) fun v6 h6 =>
 aD (pu h6 (aU Tryd.prog .sub 3 false (aE xs 3) (aE xs 4))) fun v7 h7 =>
 lp [(aE xs 0), (aE xs 1), (aE xs 2), v7, (aE xs 4)] h7)
 (aD (pu h4 (aU Tryd.prog .sub 3 false (aE xs 1) (aE xs 3))) fun v8 h8 =>
 aD (pu h8 (aU Tryd.prog .add 3 false (aE xs 1) (aE xs 4))) fun v9 h9 =>
 aD (pu h9 (aU Tryd.prog .sub 3 false v9 (aE xs 3))) fun v10 h10 =>
 aD (bB (aN.f G k) [(aE xs 0), v8, v10, (aE xs 3), (aE xs 2)] h10) fun v11 h11 =>
 aD (pu h11 (aU Tryd.prog .sub 3 false (aE xs 4) (aE xs 3))) fun v12 h12 =>
 lp [(aE xs 0), (aE xs 1), (aE xs 2), (aE xs 3), v12] h12))
 (some (.exit 0, [(aE xs 0), (aE xs 1), (aE xs 2), (aE xs 3), (aE xs 4)], h3))
noncomputable def aS.c (G : aG) (k : Nat) (self : cD) (x0 x1 x2 x3 x4 : AV) (h : aB) : Option (AV × aB) := fB (
 aD (pu h (aU Tryd.prog .sub 3 false x2 x1)) fun v0 h0 =>
 aD (pu h0 (aU Tryd.prog .sub 3 false x3 x2)) fun v1 h1 =>
 dV (cQ (aS.l2 G k h1.length self) k [x0, x2, x4, v0, v1] h1) fun e2 x2 h2 => hO e2
 (none)
 (fun i2 => if i2 = 0 then (aD (pu h2 (aU Tryd.prog .sub 3 false (aE x2 1) (aE x2 3))) fun v13 h13 =>
 aD (bB (aN.f G k) [(aE x2 0), v13, (aE x2 1), (aE x2 3), (aE x2 2)] h13) fun v14 h14 =>
 cA [] h.length h14) else (none))
 (cA [] h.length h2))
noncomputable def aS.f (G : aG) : Nat → cD
 | 0 => fun _ _ => none
 | k + 1 => fun args h => aFP args fun x0 x1 x2 x3 x4 => (aS.c G k (aS.f G k) x0 x1 x2 x3 x4 h)
theorem aS.step (G : aG) (k : Nat) (x0 x1 x2 x3 x4 : AV) (h : aB) : aS.f G (k + 1) [x0, x1, x2, x3, x4] h = aS.c G k (aS.f G k) x0 x1 x2 x3 x4 h := rfl
noncomputable def aC.ann : Ann := fF [] [] [(33, [0, 1, 2, 3, 4, 18, 19, 20, 21, 22]), (21, [0, 14, 17]), (15, [0, 2, 4, 14, 15]), (9, [0, 10, 13]), (3, [0, 1, 4, 10, 11])] [(43, [0, 3, 4, 18, 24]), (41, [0, 1, 3, 4, 18, 20, 24]), (32, [0, 1, 2, 3, 4, 18, 19, 20, 21])]
noncomputable def aC.env (G : aG) (k : Nat) (self : cD) : List (Nat × Bool × cD) := [(74, false, bI.f G k), (114, false, self), (123, false, aS.f G k)]
noncomputable def aC.l3 (G : aG) (k n0 : Nat) (self : cD) (lp : dY) : dY := fun xs h0 => iF n0 xs h0 fun h =>
 aD (pu h (aU Tryd.prog .lss 3 false (aE xs 3) (aE xs 4))) fun v3 h3 =>
 aW v3
 (aD (pu h3 (aU Tryd.prog .add 3 false (aE xs 3) (aE xs 4))) fun v4 h4 =>
 aD (pu h4 (dA .u64 v4)) fun v5 h5 =>
 aD (pu h5 (aU Tryd.prog .shr 134 true v5 (.int .u64 1))) fun v6 h6 =>
 aD (pu h6 (dA .i64 v6)) fun v7 h7 =>
 aD (pu h7 (aM 1 (aE xs 0) v7)) fun v8 h8 =>
 aD (pu h8 (aF G false 1 v8 h8)) fun v9 h9 =>
 aD (pu h9 (aM 1 (aE xs 0) (aE xs 1))) fun v10 h10 =>
 aD (pu h10 (aF G false 1 v10 h10)) fun v11 h11 =>
 aD (kR (fJ (aC.env G k self)) (aE xs 2) [v9, v11] h11) fun v12 h12 =>
 aD (pu h12 (aU Tryd.prog .lss 3 true v12 (.int .i64 0))) fun v13 h13 =>
 aW v13
 (aD (pu h13 (aU Tryd.prog .add 3 true v7 (.int .i64 1))) fun v14 h14 =>
 lp [(aE xs 0), (aE xs 1), (aE xs 2), v14, (aE xs 4)] h14)
 (lp [(aE xs 0), (aE xs 1), (aE xs 2), (aE xs 3), v7] h13))
 (some (.exit 0, [(aE xs 0), (aE xs 1), (aE xs 2), (aE xs 3), (aE xs 4)], h3))
noncomputable def aC.l9 (G : aG) (k n0 : Nat) (self : cD) (lp : dY) : dY := fun xs h0 => iF n0 xs h0 fun h =>
 aD (pu h (aU Tryd.prog .sub 3 true (aE xs 1) (.int .i64 1))) fun v16 h16 =>
 aD (pu h16 (aU Tryd.prog .lss 3 false (aE xs 2) v16)) fun v17 h17 =>
 aW v17
 (aD (pu h17 (aU Tryd.prog .add 3 true (aE xs 2) (.int .i64 1))) fun v18 h18 =>
 aD (pu h18 (aU Tryd.prog .add 3 true (aE xs 2) (.int .i64 1))) fun v19 h19 =>
 aD (pu h19 (aM 1 (aE xs 0) v19)) fun v20 h20 =>
 aD (pu h20 (aF G false 1 v20 h20)) fun v21 h21 =>
 aD (pu h21 (aM 1 (aE xs 0) (aE xs 2))) fun v22 h22 =>
 aD (pu h22 (aF G false 1 v22 h22)) fun v23 h23 =>
 aD (pu h23 (aM 1 (aE xs 0) (aE xs 2))) fun v24 h24 =>
 aD (fM (aV 1 v24 v21 h24)) fun v25 h25 =>
 aD (pu h25 (aM 1 (aE xs 0) v18)) fun v26 h26 =>
 aD (fM (aV 1 v26 v23 h26)) fun v27 h27 =>
 aD (pu h27 (aU Tryd.prog .add 3 true (aE xs 2) (.int .i64 1))) fun v28 h28 =>
 lp [(aE xs 0), (aE xs 1), v28] h28)
 (some (.exit 2, [(aE xs 0), (aE xs 1), (aE xs 2)], h17))
noncomputable def aC.l15 (G : aG) (k n0 : Nat) (self : cD) (lp : dY) : dY := fun xs h0 => iF n0 xs h0 fun h =>
 aD (pu h (aU Tryd.prog .lss 3 false (aE xs 3) (aE xs 4))) fun v32 h32 =>
 aW v32
 (aD (pu h32 (aU Tryd.prog .add 3 false (aE xs 3) (aE xs 4))) fun v33 h33 =>
 aD (pu h33 (dA .u64 v33)) fun v34 h34 =>
 aD (pu h34 (aU Tryd.prog .shr 134 true v34 (.int .u64 1))) fun v35 h35 =>
 aD (pu h35 (dA .i64 v35)) fun v36 h36 =>
 aD (pu h36 (aM 1 (aE xs 0) (aE xs 1))) fun v37 h37 =>
 aD (pu h37 (aF G false 1 v37 h37)) fun v38 h38 =>
 aD (pu h38 (aM 1 (aE xs 0) v36)) fun v39 h39 =>
 aD (pu h39 (aF G false 1 v39 h39)) fun v40 h40 =>
 aD (kR (fJ (aC.env G k self)) (aE xs 2) [v38, v40] h40) fun v41 h41 =>
 aD (pu h41 (aU Tryd.prog .lss 3 true v41 (.int .i64 0))) fun v42 h42 =>
 aD (pu h42 (un .not v42)) fun v43 h43 =>
 aW v43
 (aD (pu h43 (aU Tryd.prog .add 3 true v36 (.int .i64 1))) fun v44 h44 =>
 lp [(aE xs 0), (aE xs 1), (aE xs 2), v44, (aE xs 4)] h44)
 (lp [(aE xs 0), (aE xs 1), (aE xs 2), (aE xs 3), v36] h43))
 (some (.exit 4, [(aE xs 0), (aE xs 1), (aE xs 2), (aE xs 3), (aE xs 4)], h32))
noncomputable def aC.l21 (G : aG) (k n0 : Nat) (self : cD) (lp : dY) : dY := fun xs h0 => iF n0 xs h0 fun h =>
 aD (pu h (aU Tryd.prog .gtr 3 false (aE xs 2) (aE xs 1))) fun v46 h46 =>
 aW v46
 (aD (pu h46 (aU Tryd.prog .sub 3 true (aE xs 2) (.int .i64 1))) fun v47 h47 =>
 aD (pu h47 (aU Tryd.prog .sub 3 true (aE xs 2) (.int .i64 1))) fun v48 h48 =>
 aD (pu h48 (aM 1 (aE xs 0) v48)) fun v49 h49 =>
 aD (pu h49 (aF G false 1 v49 h49)) fun v50 h50 =>
 aD (pu h50 (aM 1 (aE xs 0) (aE xs 2))) fun v51 h51 =>
 aD (pu h51 (aF G false 1 v51 h51)) fun v52 h52 =>
 aD (pu h52 (aM 1 (aE xs 0) (aE xs 2))) fun v53 h53 =>
 aD (fM (aV 1 v53 v50 h53)) fun v54 h54 =>
 aD (pu h54 (aM 1 (aE xs 0) v47)) fun v55 h55 =>
 aD (fM (aV 1 v55 v52 h55)) fun v56 h56 =>
 aD (pu h56 (aU Tryd.prog .sub 3 true (aE xs 2) (.int .i64 1))) fun v57 h57 =>
 lp [(aE xs 0), (aE xs 1), v57] h57)
 (some (.exit 6, [(aE xs 0), (aE xs 1), (aE xs 2)], h46))
noncomputable def aC.l33 (G : aG) (k n0 : Nat) (self : cD) (lp : dY) : dY := fun xs h0 => iF n0 xs h0 fun h =>
 aD (pu h (aU Tryd.prog .lss 3 false (aE xs 7) (aE xs 8))) fun v68 h68 =>
 aW v68
 (aD (pu h68 (aU Tryd.prog .add 3 false (aE xs 7) (aE xs 8))) fun v69 h69 =>
 aD (pu h69 (dA .u64 v69)) fun v70 h70 =>
 aD (pu h70 (aU Tryd.prog .shr 134 true v70 (.int .u64 1))) fun v71 h71 =>
 aD (pu h71 (dA .i64 v71)) fun v72 h72 =>
 aD (pu h72 (aU Tryd.prog .sub 3 false (aE xs 9) v72)) fun v73 h73 =>
 aD (pu h73 (aM 1 (aE xs 0) v73)) fun v74 h74 =>
 aD (pu h74 (aF G false 1 v74 h74)) fun v75 h75 =>
 aD (pu h75 (aM 1 (aE xs 0) v72)) fun v76 h76 =>
 aD (pu h76 (aF G false 1 v76 h76)) fun v77 h77 =>
 aD (kR (fJ (aC.env G k self)) (aE xs 4) [v75, v77] h77) fun v78 h78 =>
 aD (pu h78 (aU Tryd.prog .lss 3 true v78 (.int .i64 0))) fun v79 h79 =>
 aD (pu h79 (un .not v79)) fun v80 h80 =>
 aW v80
 (aD (pu h80 (aU Tryd.prog .add 3 true v72 (.int .i64 1))) fun v81 h81 =>
 lp [(aE xs 0), (aE xs 1), (aE xs 2), (aE xs 3), (aE xs 4), (aE xs 5), (aE xs 6), v81, (aE xs 8), (aE xs 9)] h81)
 (lp [(aE xs 0), (aE xs 1), (aE xs 2), (aE xs 3), (aE xs 4), (aE xs 5), (aE xs 6), (aE xs 7), v72, (aE xs 9)] h80))
 (some (.exit 8, [(aE xs 0), (aE xs 1), (aE xs 2), (aE xs 3), (aE xs 4), (aE xs 5), (aE xs 6), (aE xs 7), (aE xs 8), (aE xs 9)], h68))
noncomputable def aC.c (G : aG) (k : Nat) (self : cD) (x0 x1 x2 x3 x4 : AV) (h : aB) : Option (AV × aB) := fB (
 aD (pu h (aU Tryd.prog .sub 3 false x2 x1)) fun v0 h0 =>
 aD (pu h0 (aU Tryd.prog .eql 3 true v0 (.int .i64 1))) fun v1 h1 =>
 aW v1
 (dV (cQ (aC.l3 G k h1.length self) k [x0, x1, x4, x2, x3] h1) fun e2 x2 h2 => hO e2
 (none)
 (fun i2 => if i2 = 0 then (dV (cQ (aC.l9 G k h2.length self) k [(aE x2 0), (aE x2 3), (aE x2 1)] h2) fun e15 x15 h15 => hO e15
 (none)
 (fun i15 => if i15 = 2 then (cA [] h.length h15) else (none))
 (cA [] h.length h15)) else (none))
 (cA [] h.length h2))
 (aD (pu h1 (aU Tryd.prog .sub 3 false x3 x2)) fun v29 h29 =>
 aD (pu h29 (aU Tryd.prog .eql 3 true v29 (.int .i64 1))) fun v30 h30 =>
 aW v30
 (dV (cQ (aC.l15 G k h30.length self) k [x0, x2, x4, x1, x2] h30) fun e31 x31 h31 => hO e31
 (none)
 (fun i31 => if i31 = 4 then (dV (cQ (aC.l21 G k h31.length self) k [(aE x31 0), (aE x31 3), (aE x31 1)] h31) fun e45 x45 h45 => hO e45
 (none)
 (fun i45 => if i45 = 6 then (cA [] h.length h45) else (none))
 (cA [] h.length h45)) else (none))
 (cA [] h.length h31))
 (aD (pu h30 (aU Tryd.prog .add 3 false x1 x3)) fun v58 h58 =>
 aD (pu h58 (dA .u64 v58)) fun v59 h59 =>
 aD (pu h59 (aU Tryd.prog .shr 134 true v59 (.int .u64 1))) fun v60 h60 =>
 aD (pu h60 (dA .i64 v60)) fun v61 h61 =>
 aD (pu h61 (aU Tryd.prog .add 3 false v61 x2)) fun v62 h62 =>
 dV (
 aD (pu h62 (aU Tryd.prog .gtr 3 false x2 v61)) fun v63 h63 =>
 aW v63
 (aD (pu h63 (aU Tryd.prog .sub 3 false v62 x3)) fun v64 h64 =>
 some (.normal, [x0, x1, x2, x3, x4, v61, v62, v64, v61], h64))
 (some (.normal, [x0, x1, x2, x3, x4, v61, v62, x1, x2], h63))) fun e65 x65 h65 => hO e65
 (aD (pu h65 (aU Tryd.prog .sub 3 true (aE x65 6) (.int .i64 1))) fun v66 h66 =>
 dV (cQ (aC.l33 G k h66.length self) k [(aE x65 0), (aE x65 1), (aE x65 2), (aE x65 3), (aE x65 4), (aE x65 5), (aE x65 6), (aE x65 7), (aE x65 8), v66] h66) fun e67 x67 h67 => hO e67
 (none)
 (fun i67 => if i67 = 8 then (aD (pu h67 (aU Tryd.prog .sub 3 false (aE x67 6) (aE x67 7))) fun v82 h82 =>
 dV (
 aD (pu h82 (aU Tryd.prog .lss 3 false (aE x67 7) (aE x67 2))) fun v83 h83 =>
 aD (gd v83 true h83 (some ((aE x67 2), h83))) fun v84 h84 =>
 aD (gd v83 true h84 (some (v82, h84))) fun v85 h85 =>
 aD (gd v83 true h85 (pu h85 (aU Tryd.prog .lss 3 false v84 v85))) fun v86 h86 =>
 aD (pu h86 (fT v83 v86 (.bool false))) fun v87 h87 =>
 aW v87
 (aD (bB (aS.f G k) [(aE x67 0), (aE x67 7), (aE x67 2), v82, (aE x67 4)] h87) fun v88 h88 =>
 some (.normal, [(aE x67 0), (aE x67 1), (aE x67 3), (aE x67 4), (aE x67 5), (aE x67 7), v82], h88))
 (some (.normal, [(aE x67 0), (aE x67 1), (aE x67 3), (aE x67 4), (aE x67 5), (aE x67 7), v82], h87))) fun e89 x89 h89 => hO e89
 (dV (
 aD (pu h89 (aU Tryd.prog .lss 3 false (aE x89 1) (aE x89 5))) fun v90 h90 =>
 aD (gd v90 true h90 (some ((aE x89 5), h90))) fun v91 h91 =>
 aD (gd v90 true h91 (some ((aE x89 4), h91))) fun v92 h92 =>
 aD (gd v90 true h92 (pu h92 (aU Tryd.prog .lss 3 false v91 v92))) fun v93 h93 =>
 aD (pu h93 (fT v90 v93 (.bool false))) fun v94 h94 =>
 aW v94
 (aD (bB self [(aE x89 0), (aE x89 1), (aE x89 5), (aE x89 4), (aE x89 3)] h94) fun v95 h95 =>
 some (.normal, [(aE x89 0), (aE x89 2), (aE x89 3), (aE x89 4), (aE x89 6)], h95))
 (some (.normal, [(aE x89 0), (aE x89 2), (aE x89 3), (aE x89 4), (aE x89 6)], h94))) fun e96 x96 h96 => hO e96
 (aD (pu h96 (aU Tryd.prog .lss 3 false (aE x96 3) (aE x96 4))) fun v97 h97 =>
 aD (gd v97 true h97 (some ((aE x96 4), h97))) fun v98 h98 =>
 aD (gd v97 true h98 (some ((aE x96 1), h98))) fun v99 h99 =>
 aD (gd v97 true h99 (pu h99 (aU Tryd.prog .lss 3 false v98 v99))) fun v100 h100 =>
 aD (pu h100 (fT v97 v100 (.bool false))) fun v101 h101 =>
 aW v101
 (aD (bB self [(aE x96 0), (aE x96 3), (aE x96 4), (aE x96 1), (aE x96 2)] h101) fun v102 h102 =>
 cA [] h.length h102)
 (cA [] h.length h101))
 (fun i96 => none)
 (cA [] h.length h96))
 (fun i89 => none)
 (cA [] h.length h89)) else (none))
 (cA [] h.length h67))
 (fun i65 => none)
 (cA [] h.length h65))))
noncomputable def aC.f (G : aG) : Nat → cD
 | 0 => fun _ _ => none
 | k + 1 => fun args h => aFP args fun x0 x1 x2 x3 x4 => (aC.c G k (aC.f G k) x0 x1 x2 x3 x4 h)
theorem aC.step (G : aG) (k : Nat) (x0 x1 x2 x3 x4 : AV) (h : aB) : aC.f G (k + 1) [x0, x1, x2, x3, x4] h = aC.c G k (aC.f G k) x0 x1 x2 x3 x4 h := rfl
noncomputable def aK.ann : Ann := fF [] [] [(9, [0, 1, 2, 6, 7, 8]), (7, [0, 1, 2, 6]), (2, [0, 1, 2, 6, 7, 8])] [(16, [0, 1, 2, 6])]
noncomputable def aK.env (G : aG) (k : Nat) (self : cD) : List (Nat × Bool × cD) := [(74, false, bI.f G k), (113, false, aH.f G k), (114, false, aC.f G k)]
noncomputable def aK.l2 (G : aG) (k n0 : Nat) (self : cD) (lp : dY) : dY := fun xs h0 => iF n0 xs h0 fun h =>
 aD (pu h (aU Tryd.prog .leq 3 false (aE xs 5) (aE xs 1))) fun v1 h1 =>
 aW v1
 (aD (bB (aH.f G k) [(aE xs 0), (aE xs 4), (aE xs 5), (aE xs 2)] h1) fun v2 h2 =>
 aD (pu h2 (aU Tryd.prog .add 3 false (aE xs 5) (aE xs 3))) fun v3 h3 =>
 lp [(aE xs 0), (aE xs 1), (aE xs 2), (aE xs 3), (aE xs 5), v3] h3)
 (some (.exit 0, [(aE xs 0), (aE xs 1), (aE xs 2), (aE xs 3), (aE xs 4), (aE xs 5)], h1))
noncomputable def aK.l9 (G : aG) (k n0 : Nat) (self : cD) (lp : dY) : dY := fun xs h0 => iF n0 xs h0 fun h =>
 aD (pu h (aU Tryd.prog .leq 3 false (aE xs 5) (aE xs 1))) fun v9 h9 =>
 aW v9
 (aD (pu h9 (aU Tryd.prog .add 3 false (aE xs 4) (aE xs 3))) fun v10 h10 =>
 aD (bB (aC.f G k) [(aE xs 0), (aE xs 4), v10, (aE xs 5), (aE xs 2)] h10) fun v11 h11 =>
 aD (pu h11 (aU Tryd.prog .mul 3 true (.int .i64 2) (aE xs 3))) fun v12 h12 =>
 aD (pu h12 (aU Tryd.prog .add 3 false (aE xs 5) v12)) fun v13 h13 =>
 lp [(aE xs 0), (aE xs 1), (aE xs 2), (aE xs 3), (aE xs 5), v13] h13)
 (some (.exit 4, [(aE xs 0), (aE xs 1), (aE xs 2), (aE xs 3), (aE xs 4), (aE xs 5)], h9))
noncomputable def aK.l7 (G : aG) (k n0 : Nat) (self : cD) (lp : dY) : dY := fun xs h0 => iF n0 xs h0 fun h =>
 aD (pu h (aU Tryd.prog .lss 3 false (aE xs 3) (aE xs 1))) fun v6 h6 =>
 aW v6
 (aD (pu h6 (aU Tryd.prog .mul 3 true (.int .i64 2) (aE xs 3))) fun v7 h7 =>
 dV (cQ (aK.l9 G k h7.length self) k [(aE xs 0), (aE xs 1), (aE xs 2), (aE xs 3), (.int .i64 0), v7] h7) fun e8 x8 h8 => hO e8
 (none)
 (fun i8 => if i8 = 4 then (dV (
 aD (pu h8 (aU Tryd.prog .add 3 false (aE x8 4) (aE x8 3))) fun v14 h14 =>
 aD (pu h14 (aU Tryd.prog .lss 3 false v14 (aE x8 1))) fun v15 h15 =>
 aW v15
 (aD (bB (aC.f G k) [(aE x8 0), (aE x8 4), v14, (aE x8 1), (aE x8 2)] h15) fun v16 h16 =>
 some (.normal, [(aE x8 0), (aE x8 1), (aE x8 2), (aE x8 3)], h16))
 (some (.normal, [(aE x8 0), (aE x8 1), (aE x8 2), (aE x8 3)], h15))) fun e17 x17 h17 => hO e17
 (aD (pu h17 (aU Tryd.prog .mul 3 true (aE x17 3) (.int .i64 2))) fun v18 h18 =>
 lp [(aE x17 0), (aE x17 1), (aE x17 2), v18] h18)
 (fun i17 => if i17 = 3 then (lp [(aE x17 0), (aE x17 1), (aE x17 2), (aE x17 3)] h17) else (some (.exit i17, [(aE x17 0), (aE x17 1), (aE x17 2), (aE x17 3)], h17)))
 (some (.ret, [(aE x17 0), (aE x17 1), (aE x17 2), (aE x17 3)], h17))) else (if i8 = 3 then (lp [(aE x8 0), (aE x8 1), (aE x8 2), (aE x8 3)] h8) else (some (.exit i8, [(aE x8 0), (aE x8 1), (aE x8 2), (aE x8 3)], h8))))
 (some (.ret, [(aE x8 0), (aE x8 1), (aE x8 2), (aE x8 3)], h8)))
 (some (.exit 2, [(aE xs 0), (aE xs 1), (aE xs 2), (aE xs 3)], h6))
noncomputable def aK.c (G : aG) (k : Nat) (self : cD) (x0 x1 x2 : AV) (h : aB) : Option (AV × aB) := fB (
 dV (cQ (aK.l2 G k h.length self) k [x0, x1, x2, (.int .i64 20), (.int .i64 0), (.int .i64 20)] h) fun e0 x0 h0 => hO e0
 (none)
 (fun i0 => if i0 = 0 then (aD (bB (aH.f G k) [(aE x0 0), (aE x0 4), (aE x0 1), (aE x0 2)] h0) fun v4 h4 =>
 dV (cQ (aK.l7 G k h4.length self) k [(aE x0 0), (aE x0 1), (aE x0 2), (aE x0 3)] h4) fun e5 x5 h5 => hO e5
 (none)
 (fun i5 => if i5 = 2 then (cA [] h.length h5) else (none))
 (cA [] h.length h5)) else (none))
 (cA [] h.length h0))
noncomputable def aK.f (G : aG) : Nat → cD
 | 0 => fun _ _ => none
 | k + 1 => fun args h => vX args fun x0 x1 x2 => (aK.c G k (aK.f G k) x0 x1 x2 h)
theorem aK.step (G : aG) (k : Nat) (x0 x1 x2 : AV) (h : aB) : aK.f G (k + 1) [x0, x1, x2] h = aK.c G k (aK.f G k) x0 x1 x2 h := rfl
noncomputable def aP.ann : Ann := fF [] [] [] []
noncomputable def aP.env (G : aG) (k : Nat) (self : cD) : List (Nat × Bool × cD) := [(96, false, aK.f G k)]
noncomputable def aP.c (G : aG) (k : Nat) (self : cD) (x0 x1 : AV) (h : aB) : Option (AV × aB) := fB (
 aD (pu h (dN x0)) fun v0 h0 =>
 aD (bB (aK.f G k) [x0, v0, x1] h0) fun v1 h1 =>
 cA [] h.length h1)
noncomputable def aP.f (G : aG) : Nat → cD
 | 0 => fun _ _ => none
 | k + 1 => fun args h => kW args fun x0 x1 => (aP.c G k (aP.f G k) x0 x1 h)
theorem aP.step (G : aG) (k : Nat) (x0 x1 : AV) (h : aB) : aP.f G (k + 1) [x0, x1] h = aP.c G k (aP.f G k) x0 x1 h := rfl
noncomputable def aQ.ann : Ann := fF [] [] [(24, [0, 1, 14, 97, 98, 99]), (16, [0, 1, 5, 12, 67, 68]), (6, [0, 1, 5, 7, 27, 28, 29, 34, 35, 36]), (3, [0, 1, 5, 27, 28, 29])] []
noncomputable def aQ.env (G : aG) (k : Nat) (self : cD) : List (Nat × Bool × cD) := [(20, true, dP.f G k), (23, true, cJ.f G k), (73, false, aP.f G k), (74, false, bI.f G k)]
noncomputable def aQ.l6 (G : aG) (k n0 : Nat) (self : cD) (lp : dY) : dY := fun xs h0 => iF n0 xs h0 fun h =>
 aD (pu h (aU Tryd.prog .lss 3 false (aE xs 9) (aE xs 8))) fun v22 h22 =>
 aW v22
 (aD (pu h22 (aM 1 (aE xs 7) (aE xs 9))) fun v23 h23 =>
 aD (pu h23 (aF G false 1 v23 h23)) fun v24 h24 =>
 aD (pu h24 (aF G false 1 (aE xs 2) h24)) fun v25 h25 =>
 aD (pu h25 (aM 1 v25 v24)) fun v26 h26 =>
 aD (pu h26 (aF G false 1 v26 h26)) fun v27 h27 =>
 aD (pu h27 (aU Tryd.prog .add 3 true v27 (.int .i64 1))) fun v28 h28 =>
 aD (pu h28 (aM 1 v25 v24)) fun v29 h29 =>
 aD (fM (aV 1 v29 v28 h29)) fun v30 h30 =>
 aD (pu h30 (aU Tryd.prog .add 3 true (aE xs 9) (.int .i64 1))) fun v31 h31 =>
 lp [(aE xs 0), (aE xs 1), (aE xs 2), (aE xs 3), (aE xs 4), (aE xs 5), (aE xs 6), (aE xs 7), (aE xs 8), v31] h31)
 (some (.exit 2, [(aE xs 0), (aE xs 1), (aE xs 2), (aE xs 3), (aE xs 4), (aE xs 5), (aE xs 6), (aE xs 7), (aE xs 8), (aE xs 9)], h22))
noncomputable def aQ.l3 (G : aG) (k n0 : Nat) (self : cD) (lp : dY) : dY := fun xs h0 => iF n0 xs h0 fun h =>
 aD (pu h (aU Tryd.prog .lss 3 false (aE xs 5) (aE xs 4))) fun v13 h13 =>
 aW v13
 (aD (pu h13 (aM 6 (aE xs 3) (aE xs 5))) fun v14 h14 =>
 aD (pu h14 (aF G true 6 v14 h14)) fun v15 h15 =>
 aD (fW 29 (.agg [(.int .i64 0), (.int .i64 0), (.int .i64 0), (.int .i64 0), (.int .i64 0), (.int .i64 0)]) h15) fun v16 h16 =>
 aD (fM (aV 6 v16 v15 h16)) fun v17 h17 =>
 aD (pu h17 (aF G true 6 v16 h17)) fun v18 h18 =>
 aD (bF (cJ.f G k) [v18] h18) fun v19 h19 =>
 aD (pu h19 (dN v19)) fun v20 h20 =>
 dV (cQ (aQ.l6 G k h20.length self) k [(aE xs 0), (aE xs 1), (aE xs 2), v16, (aE xs 3), (aE xs 4), (aE xs 5), v19, v20, (.int .i64 0)] h20) fun e21 x21 h21 => hO e21
 (none)
 (fun i21 => if i21 = 2 then (aD (pu h21 (aF G true 6 (aE x21 3) h21)) fun v32 h32 =>
 aD (bF (dP.f G k) [v32] h32) fun v33 h33 =>
 aD (pu h33 (cN v33 0)) fun v34 h34 =>
 aD (pu h34 (cN v33 1)) fun v35 h35 =>
 aW v35
 (aD (pu h35 (aF G false 1 (aE x21 2) h35)) fun v36 h36 =>
 aD (pu h36 (aM 1 v36 v34)) fun v37 h37 =>
 aD (pu h37 (aF G false 1 v37 h37)) fun v38 h38 =>
 aD (pu h38 (aU Tryd.prog .add 3 true v38 (.int .i64 1))) fun v39 h39 =>
 aD (pu h39 (aM 1 v36 v34)) fun v40 h40 =>
 aD (fM (aV 1 v40 v39 h40)) fun v41 h41 =>
 aD (pu h41 (aU Tryd.prog .add 3 true (aE x21 6) (.int .i64 1))) fun v42 h42 =>
 lp [(aE x21 0), (aE x21 1), (aE x21 2), (aE x21 4), (aE x21 5), v42] h42)
 (aD (pu h35 (aU Tryd.prog .add 3 true (aE x21 6) (.int .i64 1))) fun v43 h43 =>
 lp [(aE x21 0), (aE x21 1), (aE x21 2), (aE x21 4), (aE x21 5), v43] h43)) else (if i21 = 1 then (aD (pu h21 (aU Tryd.prog .add 3 true (aE x21 6) (.int .i64 1))) fun v44 h44 =>
 lp [(aE x21 0), (aE x21 1), (aE x21 2), (aE x21 4), (aE x21 5), v44] h44) else (some (.exit i21, [(aE x21 0), (aE x21 1), (aE x21 2), (aE x21 4), (aE x21 5), (aE x21 6)], h21))))
 (some (.ret, [(aE x21 0), (aE x21 1), (aE x21 2), (aE x21 4), (aE x21 5), (aE x21 6)], h21)))
 (some (.exit 0, [(aE xs 0), (aE xs 1), (aE xs 2), (aE xs 3), (aE xs 4), (aE xs 5)], h13))
noncomputable def aQ.l16 (G : aG) (k n0 : Nat) (self : cD) (lp : dY) : dY := fun xs h0 => iF n0 xs h0 fun h =>
 aD (pu h (aU Tryd.prog .lss 3 false (aE xs 5) (aE xs 4))) fun v52 h52 =>
 aW v52
 (aD (pu h52 (aM 1 (aE xs 3) (aE xs 5))) fun v53 h53 =>
 aD (fM (aV 1 v53 (aE xs 5) h53)) fun v54 h54 =>
 aD (pu h54 (aU Tryd.prog .add 3 true (aE xs 5) (.int .i64 1))) fun v55 h55 =>
 lp [(aE xs 0), (aE xs 1), (aE xs 2), (aE xs 3), (aE xs 4), v55] h55)
 (some (.exit 4, [(aE xs 0), (aE xs 1), (aE xs 2), (aE xs 3), (aE xs 4), (aE xs 5)], h52))
noncomputable def aQ.l24 (G : aG) (k n0 : Nat) (self : cD) (lp : dY) : dY := fun xs h0 => iF n0 xs h0 fun h =>
 aD (pu h (aU Tryd.prog .lss 3 false (aE xs 5) (aE xs 4))) fun v75 h75 =>
 aW v75
 (aD (pu h75 (aM 1 (aE xs 3) (aE xs 5))) fun v76 h76 =>
 aD (pu h76 (aF G false 1 v76 h76)) fun v77 h77 =>
 aD (pu h77 (aU Tryd.prog .sub 3 true (aE xs 1) (.int .i64 4))) fun v78 h78 =>
 aD (pu h78 (aU Tryd.prog .lss 3 false (aE xs 5) v78)) fun v79 h79 =>
 aW v79
 (aD (pu h79 (fH (aE xs 0))) fun v80 h80 =>
 aD (pu h80 (aA 3 v80)) fun v81 h81 =>
 aD (pu h81 (aF G false 1 v81 h81)) fun v82 h82 =>
 aD (pu h82 (aU Tryd.prog .add 3 true (.int .i64 4) (aE xs 5))) fun v83 h83 =>
 aD (pu h83 (aM 1 v82 v77)) fun v84 h84 =>
 aD (fM (aV 1 v84 v83 h84)) fun v85 h85 =>
 aD (pu h85 (aU Tryd.prog .add 3 true (aE xs 5) (.int .i64 1))) fun v86 h86 =>
 lp [(aE xs 0), (aE xs 1), (aE xs 2), (aE xs 3), (aE xs 4), v86] h86)
 (aD (pu h79 (fH (aE xs 0))) fun v87 h87 =>
 aD (pu h87 (aA 4 v87)) fun v88 h88 =>
 aD (pu h88 (aF G false 1 v88 h88)) fun v89 h89 =>
 aD (pu h89 (fH (aE xs 0))) fun v90 h90 =>
 aD (pu h90 (aA 0 v90)) fun v91 h91 =>
 aD (pu h91 (aA 2 v91)) fun v92 h92 =>
 aD (pu h92 (aF G false 1 v92 h92)) fun v93 h93 =>
 aD (pu h93 (aU Tryd.prog .add 3 false v93 (aE xs 2))) fun v94 h94 =>
 aD (pu h94 (aM 1 v89 v77)) fun v95 h95 =>
 aD (fM (aV 1 v95 v94 h95)) fun v96 h96 =>
 aD (pu h96 (aU Tryd.prog .add 3 true (aE xs 2) (.int .i64 1))) fun v97 h97 =>
 aD (pu h97 (aU Tryd.prog .add 3 true (aE xs 5) (.int .i64 1))) fun v98 h98 =>
 lp [(aE xs 0), (aE xs 1), v97, (aE xs 3), (aE xs 4), v98] h98))
 (some (.exit 6, [(aE xs 0), (aE xs 1), (aE xs 2), (aE xs 3), (aE xs 4), (aE xs 5)], h75))
noncomputable def aQ.c (G : aG) (k : Nat) (self : cD) (x0 x1 : AV) (h : aB) : Option (AV × aB) := fB (
 aD (pu h (fH x0)) fun v0 h0 =>
 aD (pu h0 (aA 0 v0)) fun v1 h1 =>
 aD (pu h1 (aA 1 v1)) fun v2 h2 =>
 aD (pu h2 (aF G false 1 v2 h2)) fun v3 h3 =>
 aD (dX 3 1 (.int .i64 0) v3 v3 h3) fun v4 h4 =>
 aD (fW 49 .nils h4) fun v5 h5 =>
 aD (fM (aV 1 v5 v4 h5)) fun v6 h6 =>
 aD (pu h6 (fH x0)) fun v7 h7 =>
 aD (pu h7 (aA 0 v7)) fun v8 h8 =>
 aD (pu h8 (aA 0 v8)) fun v9 h9 =>
 aD (pu h9 (aF G false 1 v9 h9)) fun v10 h10 =>
 aD (pu h10 (dN v10)) fun v11 h11 =>
 dV (cQ (aQ.l3 G k h11.length self) k [x0, x1, v5, v10, v11, (.int .i64 0)] h11) fun e12 x12 h12 => hO e12
 (none)
 (fun i12 => if i12 = 0 then (aD (pu h12 (fH (aE x12 0))) fun v45 h45 =>
 aD (pu h45 (aA 0 v45)) fun v46 h46 =>
 aD (pu h46 (aA 1 v46)) fun v47 h47 =>
 aD (pu h47 (aF G false 1 v47 h47)) fun v48 h48 =>
 aD (dX 3 1 (.int .i64 0) v48 v48 h48) fun v49 h49 =>
 aD (pu h49 (dN v49)) fun v50 h50 =>
 dV (cQ (aQ.l16 G k h50.length self) k [(aE x12 0), (aE x12 1), (aE x12 2), v49, v50, (.int .i64 0)] h50) fun e51 x51 h51 => hO e51
 (none)
 (fun i51 => if i51 = 4 then (aD (bB (aP.f G k) [(aE x51 3), (.fn 74 [(aE x51 2)])] h51) fun v56 h56 =>
 aD (pu h56 (fH (aE x51 0))) fun v57 h57 =>
 aD (pu h57 (aA 0 v57)) fun v58 h58 =>
 aD (pu h58 (aA 1 v58)) fun v59 h59 =>
 aD (pu h59 (aF G false 1 v59 h59)) fun v60 h60 =>
 aD (dX 3 1 (.int .i64 0) v60 v60 h60) fun v61 h61 =>
 aD (pu h61 (fH (aE x51 0))) fun v62 h62 =>
 aD (pu h62 (aA 0 v62)) fun v63 h63 =>
 aD (pu h63 (aA 1 v63)) fun v64 h64 =>
 aD (pu h64 (aF G false 1 v64 h64)) fun v65 h65 =>
 aD (dX 3 1 (.int .i64 0) v65 v65 h65) fun v66 h66 =>
 aD (pu h66 (fH (aE x51 0))) fun v67 h67 =>
 aD (pu h67 (aA 3 v67)) fun v68 h68 =>
 aD (fM (aV 1 v68 v61 h68)) fun v69 h69 =>
 aD (pu h69 (fH (aE x51 0))) fun v70 h70 =>
 aD (pu h70 (aA 4 v70)) fun v71 h71 =>
 aD (fM (aV 1 v71 v66 h71)) fun v72 h72 =>
 grd [(v66, v68)] (
aD (pu h72 (dN (aE x51 3))) fun v73 h73 =>
 dV (cQ (aQ.l24 G k h73.length self) k [(aE x51 0), (aE x51 1), (.int .i64 0), (aE x51 3), v73, (.int .i64 0)] h73) fun e74 x74 h74 => hO e74
 (none)
 (fun i74 => if i74 = 6 then (uT [(aE x74 2)] h74) else (none))
 (uT [.undef] h74))) else (none))
 (uT [.undef] h51)) else (none))
 (uT [.undef] h12))
noncomputable def aQ.f (G : aG) : Nat → cD
 | 0 => fun _ _ => none
 | k + 1 => fun args h => kW args fun x0 x1 => (aQ.c G k (aQ.f G k) x0 x1 h)
theorem aQ.step (G : aG) (k : Nat) (x0 x1 : AV) (h : aB) : aQ.f G (k + 1) [x0, x1] h = aQ.c G k (aQ.f G k) x0 x1 h := rfl
noncomputable def bD.ann : Ann := fF [] [] [] []
noncomputable def bD.env (G : aG) (k : Nat) (self : cD) : List (Nat × Bool × cD) := []
noncomputable def bD.c (G : aG) (k : Nat) (self : cD) (x0 x1 : AV) (h : aB) : Option (AV × aB) := fB (
 aD (gC x1 h) fun v0 h0 =>
 aD (pu h0 (fH x0)) fun v1 h1 =>
 aD (pu h1 (aA 5 v1)) fun v2 h2 =>
 aD (pu h2 (aF G false 1 v2 h2)) fun v3 h3 =>
 aD (pu h3 (aF G true 6 v0 h3)) fun v4 h4 =>
 aD (eQ 6 1 (.agg [(.int .i64 0), (.int .i64 0), (.int .i64 0), (.int .i64 0), (.int .i64 0), (.int .i64 0)]) [(0, v4)] h4) fun v5 h5 =>
 aD (eE 29 6 v3 v5 h5) fun v6 h6 =>
 aD (pu h6 (fH x0)) fun v7 h7 =>
 aD (pu h7 (aA 5 v7)) fun v8 h8 =>
 aD (fM (aV 1 v8 v6 h8)) fun v9 h9 =>
 cA [] h.length h9)
noncomputable def bD.f (G : aG) : Nat → cD
 | 0 => fun _ _ => none
 | k + 1 => fun args h => kW args fun x0 x1 => (bD.c G k (bD.f G k) x0 x1 h)
theorem bD.step (G : aG) (k : Nat) (x0 x1 : AV) (h : aB) : bD.f G (k + 1) [x0, x1] h = bD.c G k (bD.f G k) x0 x1 h := rfl
noncomputable def bP.ann : Ann := fF [] [] [] []
noncomputable def bP.env (G : aG) (k : Nat) (self : cD) : List (Nat × Bool × cD) := [(76, false, bD.f G k)]
noncomputable def bP.c (G : aG) (k : Nat) (self : cD) (x0 x1 x2 : AV) (h : aB) : Option (AV × aB) := fB (
 aD (pu h (fH x0)) fun v0 h0 =>
 aD (pu h0 (aA 3 v0)) fun v1 h1 =>
 aD (pu h1 (aF G false 1 v1 h1)) fun v2 h2 =>
 aD (pu h2 (aM 1 v2 x1)) fun v3 h3 =>
 aD (pu h3 (aF G false 1 v3 h3)) fun v4 h4 =>
 aD (pu h4 (aU Tryd.prog .neq 3 true v4 (.int .i64 0))) fun v5 h5 =>
 aW v5
 (aD (pu h5 (fH x0)) fun v6 h6 =>
 aD (pu h6 (aA 3 v6)) fun v7 h7 =>
 aD (pu h7 (aF G false 1 v7 h7)) fun v8 h8 =>
 aD (pu h8 (aM 1 v8 x1)) fun v9 h9 =>
 aD (pu h9 (aF G false 1 v9 h9)) fun v10 h10 =>
 cA [v10] h.length h10)
 (aD (pu h5 (fH x0)) fun v11 h11 =>
 aD (pu h11 (aA 4 v11)) fun v12 h12 =>
 aD (pu h12 (aF G false 1 v12 h12)) fun v13 h13 =>
 aD (pu h13 (aM 1 v13 x1)) fun v14 h14 =>
 aD (pu h14 (aF G false 1 v14 h14)) fun v15 h15 =>
 aD (pu h15 (cU [(0, 1), (1, 1), (2, 1), (3, 1), (4, 1), (5, 1)] [(.int .i64 0), (.int .i64 0), (.int .i64 0), (.int .i64 0), (.int .i64 0), (.int .i64 0)] [(0, (.int .i64 15)), (1, x2), (2, (.int .i64 0)), (5, v15)])) fun v16 h16 =>
 aD (bB (bD.f G k) [x0, v16] h16) fun v17 h17 =>
 cA [x2] h.length h17))
noncomputable def bP.f (G : aG) : Nat → cD
 | 0 => fun _ _ => none
 | k + 1 => fun args h => vX args fun x0 x1 x2 => (bP.c G k (bP.f G k) x0 x1 x2 h)
theorem bP.step (G : aG) (k : Nat) (x0 x1 x2 : AV) (h : aB) : bP.f G (k + 1) [x0, x1, x2] h = bP.c G k (bP.f G k) x0 x1 x2 h := rfl
noncomputable def bM.ann : Ann := fF [] [] [] []
noncomputable def bM.env (G : aG) (k : Nat) (self : cD) : List (Nat × Bool × cD) := [(76, false, bD.f G k), (79, false, bP.f G k)]
noncomputable def bM.c (G : aG) (k : Nat) (self : cD) (x0 x1 : AV) (h : aB) : Option (AV × aB) := fB (
 aD (gC x1 h) fun v0 h0 =>
 aD (pu h0 (aA 2 v0)) fun v1 h1 =>
 aD (pu h1 (aF G false 1 v1 h1)) fun v2 h2 =>
 aD (bB (bP.f G k) [x0, v2, (.int .i64 1)] h2) fun v3 h3 =>
 aD (pu h3 (aA 5 v0)) fun v4 h4 =>
 aD (pu h4 (aF G false 1 v4 h4)) fun v5 h5 =>
 aD (pu h5 (cU [(0, 1), (1, 1), (2, 1), (3, 1), (4, 1), (5, 1)] [(.int .i64 0), (.int .i64 0), (.int .i64 0), (.int .i64 0), (.int .i64 0), (.int .i64 0)] [(0, (.int .i64 1)), (1, (.int .i64 2)), (5, v5)])) fun v6 h6 =>
 aD (bB (bD.f G k) [x0, v6] h6) fun v7 h7 =>
 aD (pu h7 (cU [(0, 1), (1, 1), (2, 1), (3, 1), (4, 1), (5, 1)] [(.int .i64 0), (.int .i64 0), (.int .i64 0), (.int .i64 0), (.int .i64 0), (.int .i64 0)] [(0, (.int .i64 3)), (1, (.int .i64 2)), (2, v3), (3, (.int .i64 2))])) fun v8 h8 =>
 aD (bB (bD.f G k) [x0, v8] h8) fun v9 h9 =>
 aD (pu h9 (fH x0)) fun v10 h10 =>
 aD (pu h10 (aA 0 v10)) fun v11 h11 =>
 aD (pu h11 (aA 2 v11)) fun v12 h12 =>
 aD (pu h12 (aF G false 1 v12 h12)) fun v13 h13 =>
 aD (pu h13 (cU [(0, 1), (1, 1), (2, 1), (3, 1), (4, 1), (5, 1)] [(.int .i64 0), (.int .i64 0), (.int .i64 0), (.int .i64 0), (.int .i64 0), (.int .i64 0)] [(0, (.int .i64 1)), (1, (.int .i64 3)), (5, v13)])) fun v14 h14 =>
 aD (bB (bD.f G k) [x0, v14] h14) fun v15 h15 =>
 aD (pu h15 (cU [(0, 1), (1, 1), (2, 1), (3, 1), (4, 1), (5, 1)] [(.int .i64 0), (.int .i64 0), (.int .i64 0), (.int .i64 0), (.int .i64 0), (.int .i64 0)] [(0, (.int .i64 13)), (1, (.int .i64 3)), (2, (.int .i64 2)), (3, (.int .i64 3))])) fun v16 h16 =>
 aD (bB (bD.f G k) [x0, v16] h16) fun v17 h17 =>
 aD (pu h17 (cU [(0, 1), (1, 1), (2, 1), (3, 1), (4, 1), (5, 1)] [(.int .i64 0), (.int .i64 0), (.int .i64 0), (.int .i64 0), (.int .i64 0), (.int .i64 0)] [(0, (.int .i64 18)), (2, (.int .i64 3)), (5, (.int .i64 (-1)))])) fun v18 h18 =>
 aD (bB (bD.f G k) [x0, v18] h18) fun v19 h19 =>
 cA [] h.length h19)
noncomputable def bM.f (G : aG) : Nat → cD
 | 0 => fun _ _ => none
 | k + 1 => fun args h => kW args fun x0 x1 => (bM.c G k (bM.f G k) x0 x1 h)
theorem bM.step (G : aG) (k : Nat) (x0 x1 : AV) (h : aB) : bM.f G (k + 1) [x0, x1] h = bM.c G k (bM.f G k) x0 x1 h := rfl
noncomputable def bY.ann : Ann := fF [] [] [] []
noncomputable def bY.env (G : aG) (k : Nat) (self : cD) : List (Nat × Bool × cD) := []
noncomputable def bY.c (G : aG) (k : Nat) (self : cD) (x0 x1 : AV) (h : aB) : Option (AV × aB) := fB (
 aD (pu h (fH x0)) fun v0 h0 =>
 aD (pu h0 (aA 3 v0)) fun v1 h1 =>
 aD (pu h1 (aF G false 1 v1 h1)) fun v2 h2 =>
 aD (pu h2 (aM 1 v2 x1)) fun v3 h3 =>
 aD (pu h3 (aF G false 1 v3 h3)) fun v4 h4 =>
 aD (pu h4 (aU Tryd.prog .neq 3 true v4 (.int .i64 0))) fun v5 h5 =>
 aW v5
 (aD (pu h5 (fH x0)) fun v6 h6 =>
 aD (pu h6 (aA 3 v6)) fun v7 h7 =>
 aD (pu h7 (aF G false 1 v7 h7)) fun v8 h8 =>
 aD (pu h8 (aM 1 v8 x1)) fun v9 h9 =>
 aD (pu h9 (aF G false 1 v9 h9)) fun v10 h10 =>
 cA [v10] h.length h10)
 (cA [(.int .i64 1)] h.length h5))
noncomputable def bY.f (G : aG) : Nat → cD
 | 0 => fun _ _ => none
 | k + 1 => fun args h => kW args fun x0 x1 => (bY.c G k (bY.f G k) x0 x1 h)
theorem bY.step (G : aG) (k : Nat) (x0 x1 : AV) (h : aB) : bY.f G (k + 1) [x0, x1] h = bY.c G k (bY.f G k) x0 x1 h := rfl
noncomputable def bN.ann : Ann := fF [] [] [] []
noncomputable def bN.env (G : aG) (k : Nat) (self : cD) : List (Nat × Bool × cD) := [(76, false, bD.f G k)]
noncomputable def bN.c (G : aG) (k : Nat) (self : cD) (x0 x1 : AV) (h : aB) : Option (AV × aB) := fB (
 aD (pu h (fH x0)) fun v0 h0 =>
 aD (pu h0 (aA 3 v0)) fun v1 h1 =>
 aD (pu h1 (aF G false 1 v1 h1)) fun v2 h2 =>
 aD (pu h2 (aM 1 v2 x1)) fun v3 h3 =>
 aD (pu h3 (aF G false 1 v3 h3)) fun v4 h4 =>
 aD (pu h4 (aU Tryd.prog .eql 3 true v4 (.int .i64 0))) fun v5 h5 =>
 aW v5
 (aD (pu h5 (fH x0)) fun v6 h6 =>
 aD (pu h6 (aA 4 v6)) fun v7 h7 =>
 aD (pu h7 (aF G false 1 v7 h7)) fun v8 h8 =>
 aD (pu h8 (aM 1 v8 x1)) fun v9 h9 =>
 aD (pu h9 (aF G false 1 v9 h9)) fun v10 h10 =>
 aD (pu h10 (cU [(0, 1), (1, 1), (2, 1), (3, 1), (4, 1), (5, 1)] [(.int .i64 0), (.int .i64 0), (.int .i64 0), (.int .i64 0), (.int .i64 0), (.int .i64 0)] [(0, (.int .i64 16)), (2, (.int .i64 0)), (3, (.int .i64 1)), (5, v10)])) fun v11 h11 =>
 aD (bB (bD.f G k) [x0, v11] h11) fun v12 h12 =>
 cA [] h.length h12)
 (cA [] h.length h5))
noncomputable def bN.f (G : aG) : Nat → cD
 | 0 => fun _ _ => none
 | k + 1 => fun args h => kW args fun x0 x1 => (bN.c G k (bN.f G k) x0 x1 h)
theorem bN.step (G : aG) (k : Nat) (x0 x1 : AV) (h : aB) : bN.f G (k + 1) [x0, x1] h = bN.c G k (bN.f G k) x0 x1 h := rfl
noncomputable def aZ.ann : Ann := fF [3] [] [] [(17, [0, 3, 4]), (15, [0, 3, 4]), (13, [0, 3, 4])]
noncomputable def aZ.env (G : aG) (k : Nat) (self : cD) : List (Nat × Bool × cD) := [(51, true, dK.f G k), (75, false, bM.f G k), (76, false, bD.f G k), (77, false, bY.f G k), (78, false, bN.f G k), (79, false, bP.f G k)]
noncomputable def aZ.c (G : aG) (k : Nat) (self : cD) (x0 x1 : AV) (h : aB) : Option (AV × aB) := fB (
 aD (fW 29 x1 h) fun v0 h0 =>
 aD (pu h0 (aA 0 v0)) fun v1 h1 =>
 aD (pu h1 (aF G false 1 v1 h1)) fun v2 h2 =>
 aD (bF (dK.f G k) [v2] h2) fun v3 h3 =>
 aD (pu h3 (cN v3 0)) fun v4 h4 =>
 aD (pu h4 (cN v3 1)) fun v5 h5 =>
 aD (fW 100 (.agg [(.str ⟨#[]⟩), (.bool false), (.bool false), (.bool false), (.bool false), (.bool false)]) h5) fun v6 h6 =>
 aD (fM (aV 6 v6 v4 h6)) fun v7 h7 =>
 aD (pu h7 (aA 0 v0)) fun v8 h8 =>
 aD (pu h8 (aF G false 1 v8 h8)) fun v9 h9 =>
 aD (pu h9 (aU Tryd.prog .eql 3 true v9 (.int .i64 15))) fun v10 h10 =>
 aW v10
 (aD (pu h10 (aF G true 6 v0 h10)) fun v11 h11 =>
 aD (bB (bM.f G k) [x0, v11] h11) fun v12 h12 =>
 aD (pu h12 (aA 1 v0)) fun v13 h13 =>
 aD (pu h13 (aF G false 1 v13 h13)) fun v14 h14 =>
 aD (bB (bY.f G k) [x0, v14] h14) fun v15 h15 =>
 aD (pu h15 (cU [(0, 1), (1, 1), (2, 1), (3, 1), (4, 1), (5, 1)] [(.int .i64 0), (.int .i64 0), (.int .i64 0), (.int .i64 0), (.int .i64 0), (.int .i64 0)] [(0, (.int .i64 15)), (1, v15), (2, (.int .i64 2))])) fun v16 h16 =>
 aD (bB (bD.f G k) [x0, v16] h16) fun v17 h17 =>
 aD (pu h17 (aA 1 v0)) fun v18 h18 =>
 aD (pu h18 (aF G false 1 v18 h18)) fun v19 h19 =>
 aD (bB (bN.f G k) [x0, v19] h19) fun v20 h20 =>
 cA [] h.length h20)
 (aD (pu h10 (aU Tryd.prog .eql 3 true v9 (.int .i64 16))) fun v21 h21 =>
 aW v21
 (aD (pu h21 (aF G true 6 v0 h21)) fun v22 h22 =>
 aD (bB (bM.f G k) [x0, v22] h22) fun v23 h23 =>
 aD (pu h23 (aA 3 v0)) fun v24 h24 =>
 aD (pu h24 (aF G false 1 v24 h24)) fun v25 h25 =>
 aD (bB (bP.f G k) [x0, v25, (.int .i64 1)] h25) fun v26 h26 =>
 aD (pu h26 (cU [(0, 1), (1, 1), (2, 1), (3, 1), (4, 1), (5, 1)] [(.int .i64 0), (.int .i64 0), (.int .i64 0), (.int .i64 0), (.int .i64 0), (.int .i64 0)] [(0, (.int .i64 16)), (2, (.int .i64 2)), (3, v26)])) fun v27 h27 =>
 aD (bB (bD.f G k) [x0, v27] h27) fun v28 h28 =>
 cA [] h.length h28)
 (dV (
 aD (pu h21 (aA 2 v6)) fun v29 h29 =>
 aD (pu h29 (aF G false 1 v29 h29)) fun v30 h30 =>
 aW v30
 (aD (pu h30 (aA 2 v0)) fun v31 h31 =>
 aD (pu h31 (aF G false 1 v31 h31)) fun v32 h32 =>
 aD (bB (bP.f G k) [x0, v32, (.int .i64 1)] h32) fun v33 h33 =>
 aD (pu h33 (aA 2 v0)) fun v34 h34 =>
 aD (fM (aV 1 v34 v33 h34)) fun v35 h35 =>
 some (.normal, [x0, v0, v6], h35))
 (some (.normal, [x0, v0, v6], h30))) fun e36 x36 h36 => hO e36
 (dV (
 aD (pu h36 (aA 3 (aE x36 2))) fun v37 h37 =>
 aD (pu h37 (aF G false 1 v37 h37)) fun v38 h38 =>
 aW v38
 (aD (pu h38 (aA 3 (aE x36 1))) fun v39 h39 =>
 aD (pu h39 (aF G false 1 v39 h39)) fun v40 h40 =>
 aD (bB (bP.f G k) [(aE x36 0), v40, (.int .i64 2)] h40) fun v41 h41 =>
 aD (pu h41 (aA 3 (aE x36 1))) fun v42 h42 =>
 aD (fM (aV 1 v42 v41 h42)) fun v43 h43 =>
 some (.normal, [(aE x36 0), (aE x36 1), (aE x36 2)], h43))
 (some (.normal, [(aE x36 0), (aE x36 1), (aE x36 2)], h38))) fun e44 x44 h44 => hO e44
 (dV (
 aD (pu h44 (aA 4 (aE x44 2))) fun v45 h45 =>
 aD (pu h45 (aF G false 1 v45 h45)) fun v46 h46 =>
 aW v46
 (aD (pu h46 (aA 4 (aE x44 1))) fun v47 h47 =>
 aD (pu h47 (aF G false 1 v47 h47)) fun v48 h48 =>
 aD (bB (bP.f G k) [(aE x44 0), v48, (.int .i64 3)] h48) fun v49 h49 =>
 aD (pu h49 (aA 4 (aE x44 1))) fun v50 h50 =>
 aD (fM (aV 1 v50 v49 h50)) fun v51 h51 =>
 some (.normal, [(aE x44 0), (aE x44 1), (aE x44 2)], h51))
 (some (.normal, [(aE x44 0), (aE x44 1), (aE x44 2)], h46))) fun e52 x52 h52 => hO e52
 (aD (pu h52 (aA 1 (aE x52 2))) fun v53 h53 =>
 aD (pu h53 (aF G false 1 v53 h53)) fun v54 h54 =>
 aD (pu h54 (un .not v54)) fun v55 h55 =>
 aW v55
 (aD (pu h55 (aF G true 6 (aE x52 1) h55)) fun v56 h56 =>
 aD (bB (bD.f G k) [(aE x52 0), v56] h56) fun v57 h57 =>
 cA [] h.length h57)
 (aD (pu h55 (aA 1 (aE x52 1))) fun v58 h58 =>
 aD (pu h58 (aF G false 1 v58 h58)) fun v59 h59 =>
 aD (bB (bY.f G k) [(aE x52 0), v59] h59) fun v60 h60 =>
 aD (pu h60 (aA 1 (aE x52 1))) fun v61 h61 =>
 aD (fM (aV 1 v61 v60 h61)) fun v62 h62 =>
 aD (pu h62 (aF G true 6 (aE x52 1) h62)) fun v63 h63 =>
 aD (bB (bD.f G k) [(aE x52 0), v63] h63) fun v64 h64 =>
 aD (bB (bN.f G k) [(aE x52 0), v59] h64) fun v65 h65 =>
 cA [] h.length h65))
 (fun i52 => none)
 (cA [] h.length h52))
 (fun i44 => none)
 (cA [] h.length h44))
 (fun i36 => none)
 (cA [] h.length h36))))
noncomputable def aZ.f (G : aG) : Nat → cD
 | 0 => fun _ _ => none
 | k + 1 => fun args h => kW args fun x0 x1 => (aZ.c G k (aZ.f G k) x0 x1 h)
theorem aZ.step (G : aG) (k : Nat) (x0 x1 : AV) (h : aB) : aZ.f G (k + 1) [x0, x1] h = aZ.c G k (aZ.f G k) x0 x1 h := rfl
noncomputable def cL.ann : Ann := fF [] [] [] []
noncomputable def cL.env (G : aG) (k : Nat) (self : cD) : List (Nat × Bool × cD) := []
noncomputable def cL.c (G : aG) (k : Nat) (self : cD) (x0 : AV) (h : aB) : Option (AV × aB) := fB (
 aD (pu h (aU Tryd.prog .eql 3 true x0 (.int .i64 17))) fun v0 h0 =>
 aD (gd v0 false h0 (some (x0, h0))) fun v1 h1 =>
 aD (gd v0 false h1 (pu h1 (aU Tryd.prog .eql 3 true v1 (.int .i64 18)))) fun v2 h2 =>
 aD (pu h2 (fT v0 (.bool true) v2)) fun v3 h3 =>
 aD (gd v3 false h3 (some (x0, h3))) fun v4 h4 =>
 aD (gd v3 false h4 (pu h4 (aU Tryd.prog .eql 3 true v4 (.int .i64 19)))) fun v5 h5 =>
 aD (pu h5 (fT v3 (.bool true) v5)) fun v6 h6 =>
 cA [v6] h.length h6)
noncomputable def cL.f (G : aG) : Nat → cD
 | 0 => fun _ _ => none
 | k + 1 => fun args h => mU args fun x0 => (cL.c G k (cL.f G k) x0 h)
theorem cL.step (G : aG) (k : Nat) (x0 : AV) (h : aB) : cL.f G (k + 1) [x0] h = cL.c G k (cL.f G k) x0 h := rfl
noncomputable def bC.ann : Ann := fF [] [] [(2, [0, 22, 23])] []
noncomputable def bC.env (G : aG) (k : Nat) (self : cD) : List (Nat × Bool × cD) := [(80, true, cL.f G k)]
noncomputable def bC.l2 (G : aG) (k n0 : Nat) (self : cD) (lp : dY) : dY := fun xs h0 => iF n0 xs h0 fun h =>
 aD (pu h (aU Tryd.prog .lss 3 false (aE xs 2) (aE xs 1))) fun v17 h17 =>
 aW v17
 (aD (pu h17 (fH (aE xs 0))) fun v18 h18 =>
 aD (pu h18 (aA 5 v18)) fun v19 h19 =>
 aD (pu h19 (aF G false 1 v19 h19)) fun v20 h20 =>
 aD (pu h20 (aM 6 v20 (aE xs 2))) fun v21 h21 =>
 aD (pu h21 (fH v21)) fun v22 h22 =>
 aD (pu h22 (aA 0 v22)) fun v23 h23 =>
 aD (pu h23 (aF G false 1 v23 h23)) fun v24 h24 =>
 aD (bF (cL.f G k) [v24] h24) fun v25 h25 =>
 aD (pu h25 (un .not v25)) fun v26 h26 =>
 aW v26
 (aD (pu h26 (aU Tryd.prog .add 3 true (aE xs 2) (.int .i64 1))) fun v27 h27 =>
 lp [(aE xs 0), (aE xs 1), v27] h27)
 (aD (pu h26 (fH v21)) fun v28 h28 =>
 aD (pu h28 (aA 5 v28)) fun v29 h29 =>
 aD (pu h29 (aF G false 1 v29 h29)) fun v30 h30 =>
 aD (pu h30 (aU Tryd.prog .eql 2 true v30 (.int .i64 (-1)))) fun v31 h31 =>
 aW v31
 (aD (pu h31 (fH (aE xs 0))) fun v32 h32 =>
 aD (pu h32 (aA 5 v32)) fun v33 h33 =>
 aD (pu h33 (aF G false 1 v33 h33)) fun v34 h34 =>
 aD (pu h34 (dN v34)) fun v35 h35 =>
 aD (pu h35 (fH v21)) fun v36 h36 =>
 aD (pu h36 (aA 5 v36)) fun v37 h37 =>
 aD (fM (aV 1 v37 v35 h37)) fun v38 h38 =>
 aD (pu h38 (aU Tryd.prog .add 3 true (aE xs 2) (.int .i64 1))) fun v39 h39 =>
 lp [(aE xs 0), (aE xs 1), v39] h39)
 (aD (pu h31 (fH (aE xs 0))) fun v40 h40 =>
 aD (pu h40 (aA 6 v40)) fun v41 h41 =>
 aD (pu h41 (aF G false 1 v41 h41)) fun v42 h42 =>
 aD (pu h42 (fH v21)) fun v43 h43 =>
 aD (pu h43 (aA 5 v43)) fun v44 h44 =>
 aD (pu h44 (aF G false 1 v44 h44)) fun v45 h45 =>
 aD (pu h45 (aM 1 v42 v45)) fun v46 h46 =>
 aD (pu h46 (aF G false 1 v46 h46)) fun v47 h47 =>
 aD (pu h47 (fH v21)) fun v48 h48 =>
 aD (pu h48 (aA 5 v48)) fun v49 h49 =>
 aD (fM (aV 1 v49 v47 h49)) fun v50 h50 =>
 aD (pu h50 (aU Tryd.prog .add 3 true (aE xs 2) (.int .i64 1))) fun v51 h51 =>
 lp [(aE xs 0), (aE xs 1), v51] h51)))
 (some (.exit 0, [(aE xs 0), (aE xs 1), (aE xs 2)], h17))
noncomputable def bC.c (G : aG) (k : Nat) (self : cD) (x0 : AV) (h : aB) : Option (AV × aB) := fB (
 aD (pu h (fH x0)) fun v0 h0 =>
 aD (pu h0 (aA 6 v0)) fun v1 h1 =>
 aD (pu h1 (aF G false 1 v1 h1)) fun v2 h2 =>
 aD (pu h2 (fH x0)) fun v3 h3 =>
 aD (pu h3 (aA 5 v3)) fun v4 h4 =>
 aD (pu h4 (aF G false 1 v4 h4)) fun v5 h5 =>
 aD (pu h5 (dN v5)) fun v6 h6 =>
 aD (eQ 1 1 (.int .i64 0) [(0, v6)] h6) fun v7 h7 =>
 aD (eE 3 1 v2 v7 h7) fun v8 h8 =>
 aD (pu h8 (fH x0)) fun v9 h9 =>
 aD (pu h9 (aA 6 v9)) fun v10 h10 =>
 aD (fM (aV 1 v10 v8 h10)) fun v11 h11 =>
 aD (pu h11 (fH x0)) fun v12 h12 =>
 aD (pu h12 (aA 5 v12)) fun v13 h13 =>
 aD (pu h13 (aF G false 1 v13 h13)) fun v14 h14 =>
 aD (pu h14 (dN v14)) fun v15 h15 =>
 dV (cQ (bC.l2 G k h15.length self) k [x0, v15, (.int .i64 0)] h15) fun e16 x16 h16 => hO e16
 (none)
 (fun i16 => if i16 = 0 then (cA [] h.length h16) else (none))
 (cA [] h.length h16))
noncomputable def bC.f (G : aG) : Nat → cD
 | 0 => fun _ _ => none
 | k + 1 => fun args h => mU args fun x0 => (bC.c G k (bC.f G k) x0 h)
theorem bC.step (G : aG) (k : Nat) (x0 : AV) (h : aB) : bC.f G (k + 1) [x0] h = bC.c G k (bC.f G k) x0 h := rfl
noncomputable def cC.ann : Ann := aAL [2, 36] [] [(14, [1, 2, 4, 7, 8, 48, 49, 50])] [] [(14, [(7, 5, 29, 6), (7, 6, 3, 1)])] []
noncomputable def cC.env (G : aG) (k : Nat) (self : cD) : List (Nat × Bool × cD) := [(43, true, cK.f G k), (44, false, aO.f G k), (45, false, aQ.f G k), (46, false, aZ.f G k), (47, false, bC.f G k)]
noncomputable def cC.l14 (G : aG) (k n0 : Nat) (self : cD) (lp : dY) : dY := fun xs h0 => iF n0 xs h0 fun h =>
 aD (pu h (aU Tryd.prog .lss 3 false (aE xs 7) (aE xs 6))) fun v39 h39 =>
 aW v39
 (aD (pu h39 (aM 6 (aE xs 5) (aE xs 7))) fun v40 h40 =>
 aD (pu h40 (aF G true 6 v40 h40)) fun v41 h41 =>
 aD (fW 29 (.agg [(.int .i64 0), (.int .i64 0), (.int .i64 0), (.int .i64 0), (.int .i64 0), (.int .i64 0)]) h41) fun v42 h42 =>
 aD (fM (aV 6 v42 v41 h42)) fun v43 h43 =>
 aD (pu h43 (fH (aE xs 3))) fun v44 h44 =>
 aD (pu h44 (aA 6 v44)) fun v45 h45 =>
 aD (pu h45 (aF G false 1 v45 h45)) fun v46 h46 =>
 aD (pu h46 (fH (aE xs 3))) fun v47 h47 =>
 aD (pu h47 (aA 5 v47)) fun v48 h48 =>
 aD (pu h48 (aF G false 1 v48 h48)) fun v49 h49 =>
 aD (pu h49 (dN v49)) fun v50 h50 =>
 aD (eQ 1 1 (.int .i64 0) [(0, v50)] h50) fun v51 h51 =>
 aD (eE 3 1 v46 v51 h51) fun v52 h52 =>
 aD (pu h52 (fH (aE xs 3))) fun v53 h53 =>
 aD (pu h53 (aA 6 v53)) fun v54 h54 =>
 aD (fM (aV 1 v54 v52 h54)) fun v55 h55 =>
 aD (pu h55 (aF G true 6 v42 h55)) fun v56 h56 =>
 aD (bB (aZ.f G k) [(aE xs 3), v56] h56) fun v57 h57 =>
 aD (pu h57 (aU Tryd.prog .add 3 true (aE xs 7) (.int .i64 1))) fun v58 h58 =>
 lp [(aE xs 0), (aE xs 1), (aE xs 2), (aE xs 3), (aE xs 4), (aE xs 5), (aE xs 6), v58] h58)
 (some (.exit 0, [(aE xs 0), (aE xs 1), (aE xs 2), (aE xs 3), (aE xs 4), (aE xs 5), (aE xs 6), (aE xs 7)], h39))
noncomputable def cC.c (G : aG) (k : Nat) (self : cD) (x0 x1 : AV) (h : aB) : Option (AV × aB) := fB (
 aD (fW 27 x0 h) fun v0 h0 =>
 aD (fW 27 (.agg [.nils, (.int .i64 0), (.int .i64 0)]) h0) fun v1 h1 =>
 aD (pu h1 (aF G true 3 v0 h1)) fun v2 h2 =>
 aD (bF (cK.f G k) [v2] h2) fun v3 h3 =>
 aD (pu h3 (aU Tryd.prog .neq 33 true v3 .nili)) fun v4 h4 =>
 aW v4
 (aD (pu h4 (cU [(0, 1), (1, 1), (2, 1)] [.nils, (.int .i64 0), (.int .i64 0)] [])) fun v5 h5 =>
 aD (fM (aV 3 v1 v5 h5)) fun v6 h6 =>
 kT [aF G true 3 v1 h6, some v3] h.length h6)
 (aD (pu h4 (aU Tryd.prog .lss 3 true x1 (.int .i64 6))) fun v7 h7 =>
 aD (gd v7 false h7 (some (x1, h7))) fun v8 h8 =>
 aD (gd v7 false h8 (pu h8 (aU Tryd.prog .gtr 3 true v8 (.int .i64 28)))) fun v9 h9 =>
 aD (pu h9 (fT v7 (.bool true) v9)) fun v10 h10 =>
 aW v10
 (aD (pu h10 (cU [(0, 1), (1, 1), (2, 1)] [.nils, (.int .i64 0), (.int .i64 0)] [])) fun v11 h11 =>
 aD (pu h11 (aF G false 1 (.gl 0) h11)) fun v12 h12 =>
 aD (fM (aV 3 v1 v11 h12)) fun v13 h13 =>
 kT [aF G true 3 v1 h13, some v12] h.length h13)
 (aD (pu h10 (aA 1 v0)) fun v14 h14 =>
 aD (pu h14 (aF G false 1 v14 h14)) fun v15 h15 =>
 aD (pu h15 (aU Tryd.prog .leq 3 false v15 x1)) fun v16 h16 =>
 aW v16
 (aD (pu h16 (aA 0 v0)) fun v17 h17 =>
 aD (pu h17 (aF G false 1 v17 h17)) fun v18 h18 =>
 aD (bB (aO.f G k) [v18] h18) fun v19 h19 =>
 aD (pu h19 (aA 0 v0)) fun v20 h20 =>
 aD (fM (aV 1 v20 v19 h20)) fun v21 h21 =>
 aD (pu h21 (aF G true 3 v0 h21)) fun v22 h22 =>
 aD (fM (aV 3 v1 v22 h22)) fun v23 h23 =>
 kT [aF G true 3 v1 h23, some .nili] h.length h23)
 (aD (pu h16 (aF G true 3 v0 h16)) fun v24 h24 =>
 aD (pu h24 (cU [(0, 3), (3, 1), (4, 1), (5, 1), (6, 1)] [.nils, (.int .i64 0), (.int .i64 0), .nils, .nils, .nils, .nils] [(0, v24)])) fun v25 h25 =>
 aD (fW 86 v25 h25) fun v26 h26 =>
 aD (bB (aQ.f G k) [v26, x1] h26) fun v27 h27 =>
 aD (pu h27 (aA 2 v0)) fun v28 h28 =>
 aD (pu h28 (aF G false 1 v28 h28)) fun v29 h29 =>
 aD (pu h29 (aU Tryd.prog .add 3 false v29 v27)) fun v30 h30 =>
 aD (pu h30 (aU Tryd.prog .gtr 3 true v30 (.int .i64 65536))) fun v31 h31 =>
 aW v31
 (aD (pu h31 (cU [(0, 1), (1, 1), (2, 1)] [.nils, (.int .i64 0), (.int .i64 0)] [])) fun v32 h32 =>
 aD (pu h32 (aF G false 1 (.gl 1) h32)) fun v33 h33 =>
 aD (fM (aV 3 v1 v32 h33)) fun v34 h34 =>
 kT [aF G true 3 v1 h34, some v33] h.length h34)
 (aD (pu h31 (aA 0 v0)) fun v35 h35 =>
 aD (pu h35 (aF G false 1 v35 h35)) fun v36 h36 =>
 aD (pu h36 (dN v36)) fun v37 h37 =>
 vK [(v26, 5, 29, 6), (v26, 6, 3, 1)] h37 fun hv38 =>
 dV (cQ (cC.l14 G k hv38.length self) k [x1, v0, v1, v26, v27, v36, v37, (.int .i64 0)] hv38) fun e38 x38 h38 => hO e38
 (none)
 (fun i38 => if i38 = 0 then (aD (bB (bC.f G k) [(aE x38 3)] h38) fun v59 h59 =>
 aD (pu h59 (fH (aE x38 3))) fun v60 h60 =>
 aD (pu h60 (aA 5 v60)) fun v61 h61 =>
 aD (pu h61 (aF G false 1 v61 h61)) fun v62 h62 =>
 aD (pu h62 (dN v62)) fun v63 h63 =>
 aD (pu h63 (aU Tryd.prog .gtr 3 true v63 (.int .i64 262144))) fun v64 h64 =>
 aW v64
 (aD (pu h64 (cU [(0, 1), (1, 1), (2, 1)] [.nils, (.int .i64 0), (.int .i64 0)] [])) fun v65 h65 =>
 aD (pu h65 (aF G false 1 (.gl 1) h65)) fun v66 h66 =>
 aD (fM (aV 3 (aE x38 2) v65 h66)) fun v67 h67 =>
 kT [aF G true 3 (aE x38 2) h67, some v66] h.length h67)
 (aD (pu h64 (fH (aE x38 3))) fun v68 h68 =>
 aD (pu h68 (aA 5 v68)) fun v69 h69 =>
 aD (pu h69 (aF G false 1 v69 h69)) fun v70 h70 =>
 aD (pu h70 (aA 2 (aE x38 1))) fun v71 h71 =>
 aD (pu h71 (aF G false 1 v71 h71)) fun v72 h72 =>
 aD (pu h72 (aU Tryd.prog .add 3 false v72 (aE x38 4))) fun v73 h73 =>
 aD (pu h73 (cU [(0, 1), (1, 1), (2, 1)] [.nils, (.int .i64 0), (.int .i64 0)] [(0, v70), (1, (aE x38 0)), (2, v73)])) fun v74 h74 =>
 aD (fM (aV 3 (aE x38 2) v74 h74)) fun v75 h75 =>
 kT [aF G true 3 (aE x38 2) h75, some .nili] h.length h75)) else (none))
 (kT [aF G true 3 (aE x38 2) h38, some .undef] h.length h38))))))
noncomputable def cC.f (G : aG) : Nat → cD
 | 0 => fun _ _ => none
 | k + 1 => fun args h => kW args fun x0 x1 => (cC.c G k (cC.f G k) x0 x1 h)
theorem cC.step (G : aG) (k : Nat) (x0 x1 : AV) (h : aB) : cC.f G (k + 1) [x0, x1] h = cC.c G k (cC.f G k) x0 x1 h := rfl
noncomputable def eY.ann : Ann := fF [] [] [] []
noncomputable def eY.env (G : aG) (k : Nat) (self : cD) : List (Nat × Bool × cD) := []
noncomputable def eY.c (G : aG) (k : Nat) (self : cD) (x0 x1 x2 : AV) (h : aB) : Option (AV × aB) := fB (
 aD (gC x0 h) fun v0 h0 =>
 aD (pu h0 (dN x1)) fun v1 h1 =>
 aD (pu h1 (aA 2 v0)) fun v2 h2 =>
 aD (pu h2 (aF G false 1 v2 h2)) fun v3 h3 =>
 aD (pu h3 (aU Tryd.prog .neq 3 false v1 v3)) fun v4 h4 =>
 aW v4
 (aD (pu h4 (aF G false 1 (.gl 2) h4)) fun v5 h5 =>
 cA [v5] h.length h5)
 (aD (pu h4 (aU Tryd.prog .lss 2 true x2 (.int .i64 0))) fun v6 h6 =>
 aD (gd v6 false h6 (some (x2, h6))) fun v7 h7 =>
 aD (gd v6 false h7 (pu h7 (aU Tryd.prog .gtr 2 true v7 (.int .i64 1073741824)))) fun v8 h8 =>
 aD (pu h8 (fT v6 (.bool true) v8)) fun v9 h9 =>
 aW v9
 (aD (pu h9 (aF G false 1 (.gl 0) h9)) fun v10 h10 =>
 cA [v10] h.length h10)
 (cA [.nili] h.length h9)))
noncomputable def eY.f (G : aG) : Nat → cD
 | 0 => fun _ _ => none
 | k + 1 => fun args h => vX args fun x0 x1 x2 => (eY.c G k (eY.f G k) x0 x1 x2 h)
noncomputable def bH.ann : Ann := fF [5] [2] [] []
noncomputable def bH.env (G : aG) (k : Nat) (self : cD) : List (Nat × Bool × cD) := []
noncomputable def bH.c (G : aG) (k : Nat) (self : cD) (x0 : AV) (h : aB) : Option (AV × aB) := fB (
 aD (some (.sl h.length 0 0 0 1, h ++ [⟨30, 1, []⟩])) fun v0 h0 =>
 aD (pu h0 (aU Tryd.prog .eql 22 true x0 .nils)) fun v1 h1 =>
 aW v1
 (aD (some (.sl h1.length 0 0 0 1, h1 ++ [⟨30, 1, []⟩])) fun v2 h2 =>
 uT [v2] h2)
 (aD (iC 30 1 0 (.int .u64 0) [] h1) fun v3 h3 =>
 aD (eE 30 1 v3 x0 h3) fun v4 h4 =>
 uT [v4] h4))
noncomputable def bH.f (G : aG) : Nat → cD
 | 0 => fun _ _ => none
 | k + 1 => fun args h => mU args fun x0 => (bH.c G k (bH.f G k) x0 h)
noncomputable def cW.ann : Ann := fF [] [] [] []
noncomputable def cW.env (G : aG) (k : Nat) (self : cD) : List (Nat × Bool × cD) := []
noncomputable def cW.c (G : aG) (k : Nat) (self : cD) (x0 x1 x2 : AV) (h : aB) : Option (AV × aB) := fB (
 aD (pu h (fH x0)) fun v0 h0 =>
 aD (pu h0 (aA 5 v0)) fun v1 h1 =>
 aD (pu h1 (aA 2 v1)) fun v2 h2 =>
 aD (pu h2 (aF G false 1 v2 h2)) fun v3 h3 =>
 aD (pu h3 (cU [(0, 1), (1, 1)] [(.int .i64 0), (.int .i64 0)] [(0, x1), (1, x2)])) fun v4 h4 =>
 aD (eQ 2 1 (.agg [(.int .i64 0), (.int .i64 0)]) [(0, v4)] h4) fun v5 h5 =>
 aD (eE 91 2 v3 v5 h5) fun v6 h6 =>
 aD (pu h6 (fH x0)) fun v7 h7 =>
 aD (pu h7 (aA 5 v7)) fun v8 h8 =>
 aD (pu h8 (aA 2 v8)) fun v9 h9 =>
 aD (fM (aV 1 v9 v6 h9)) fun v10 h10 =>
 cA [] h.length h10)
noncomputable def cW.f (G : aG) : Nat → cD
 | 0 => fun _ _ => none
 | k + 1 => fun args h => vX args fun x0 x1 x2 => (cW.c G k (cW.f G k) x0 x1 x2 h)
noncomputable def dM.ann : Ann := fF [] [] [] []
noncomputable def dM.env (G : aG) (k : Nat) (self : cD) : List (Nat × Bool × cD) := [(93, false, cW.f G k)]
noncomputable def dM.c (G : aG) (k : Nat) (self : cD) (x0 x1 : AV) (h : aB) : Option (AV × aB) := fB (
 aD (gC x1 h) fun v0 h0 =>
 aD (pu h0 (fH x0)) fun v1 h1 =>
 aD (pu h1 (aA 3 v1)) fun v2 h2 =>
 aD (pu h2 (aF G false 1 v2 h2)) fun v3 h3 =>
 aD (pu h3 (aA 2 v0)) fun v4 h4 =>
 aD (pu h4 (aF G false 1 v4 h4)) fun v5 h5 =>
 aD (pu h5 (aM 1 v3 v5)) fun v6 h6 =>
 aD (pu h6 (aF G false 1 v6 h6)) fun v7 h7 =>
 aD (pu h7 (aA 5 v0)) fun v8 h8 =>
 aD (pu h8 (aF G false 1 v8 h8)) fun v9 h9 =>
 aD (pu h9 (dA .u64 v9)) fun v10 h10 =>
 aD (pu h10 (aU Tryd.prog .add 30 false v7 v10)) fun v11 h11 =>
 aD (pu h11 (dA .i64 v11)) fun v12 h12 =>
 aD (bB (cW.f G k) [x0, (.int .i64 3), v12] h12) fun v13 h13 =>
 aD (pu h13 (fH x0)) fun v14 h14 =>
 aD (pu h14 (aA 5 v14)) fun v15 h15 =>
 aD (pu h15 (aA 1 v15)) fun v16 h16 =>
 aD (pu h16 (aF G false 1 v16 h16)) fun v17 h17 =>
 aD (pu h17 (dN v17)) fun v18 h18 =>
 aD (pu h18 (dA .u64 v18)) fun v19 h19 =>
 aD (pu h19 (aU Tryd.prog .geq 30 false v11 v19)) fun v20 h20 =>
 aW v20
 (aD (pu h20 (fH x0)) fun v21 h21 =>
 aD (pu h21 (aA 5 v21)) fun v22 h22 =>
 aD (pu h22 (aA 0 v22)) fun v23 h23 =>
 aD (fM (aV 1 v23 (.int .i64 3) h23)) fun v24 h24 =>
 cA [(.bool false)] h.length h24)
 (aD (pu h20 (aA 0 v0)) fun v25 h25 =>
 aD (pu h25 (aF G false 1 v25 h25)) fun v26 h26 =>
 aD (pu h26 (aU Tryd.prog .eql 3 true v26 (.int .i64 15))) fun v27 h27 =>
 aW v27
 (aD (pu h27 (fH x0)) fun v28 h28 =>
 aD (pu h28 (aA 3 v28)) fun v29 h29 =>
 aD (pu h29 (aF G false 1 v29 h29)) fun v30 h30 =>
 aD (pu h30 (aA 1 v0)) fun v31 h31 =>
 aD (pu h31 (aF G false 1 v31 h31)) fun v32 h32 =>
 aD (pu h32 (fH x0)) fun v33 h33 =>
 aD (pu h33 (aA 5 v33)) fun v34 h34 =>
 aD (pu h34 (aA 1 v34)) fun v35 h35 =>
 aD (pu h35 (aF G false 1 v35 h35)) fun v36 h36 =>
 aD (pu h36 (aM 1 v36 v11)) fun v37 h37 =>
 aD (pu h37 (aF G false 1 v37 h37)) fun v38 h38 =>
 aD (pu h38 (aM 1 v30 v32)) fun v39 h39 =>
 aD (fM (aV 1 v39 v38 h39)) fun v40 h40 =>
 cA [(.bool true)] h.length h40)
 (aD (pu h27 (fH x0)) fun v41 h41 =>
 aD (pu h41 (aA 5 v41)) fun v42 h42 =>
 aD (pu h42 (aA 1 v42)) fun v43 h43 =>
 aD (pu h43 (aF G false 1 v43 h43)) fun v44 h44 =>
 aD (pu h44 (fH x0)) fun v45 h45 =>
 aD (pu h45 (aA 3 v45)) fun v46 h46 =>
 aD (pu h46 (aF G false 1 v46 h46)) fun v47 h47 =>
 aD (pu h47 (aA 3 v0)) fun v48 h48 =>
 aD (pu h48 (aF G false 1 v48 h48)) fun v49 h49 =>
 aD (pu h49 (aM 1 v47 v49)) fun v50 h50 =>
 aD (pu h50 (aF G false 1 v50 h50)) fun v51 h51 =>
 aD (pu h51 (aM 1 v44 v11)) fun v52 h52 =>
 aD (fM (aV 1 v52 v51 h52)) fun v53 h53 =>
 cA [(.bool true)] h.length h53)))
noncomputable def dM.f (G : aG) : Nat → cD
 | 0 => fun _ _ => none
 | k + 1 => fun args h => kW args fun x0 x1 => (dM.c G k (dM.f G k) x0 x1 h)
noncomputable def fI.ann : Ann := fF [] [] [] []
noncomputable def fI.env (G : aG) (k : Nat) (self : cD) : List (Nat × Bool × cD) := []
noncomputable def fI.c (G : aG) (k : Nat) (self : cD) (x0 : AV) (h : aB) : Option (AV × aB) := fB (
 aW x0
 (cA [(.int .u64 1)] h.length h)
 (cA [(.int .u64 0)] h.length h))
noncomputable def fI.f (G : aG) : Nat → cD
 | 0 => fun _ _ => none
 | k + 1 => fun args h => mU args fun x0 => (fI.c G k (fI.f G k) x0 h)
noncomputable def dJ.ann : Ann := fF [] [] [] [(5, [0, 3])]
noncomputable def dJ.env (G : aG) (k : Nat) (self : cD) : List (Nat × Bool × cD) := [(93, false, cW.f G k), (121, true, fI.f G k)]
noncomputable def dJ.c (G : aG) (k : Nat) (self : cD) (x0 x1 : AV) (h : aB) : Option (AV × aB) := fB (
 aD (gC x1 h) fun v0 h0 =>
 dV (
 aD (pu h0 (aA 0 v0)) fun v1 h1 =>
 aD (pu h1 (aF G false 1 v1 h1)) fun v2 h2 =>
 aD (pu h2 (aU Tryd.prog .neq 3 true v2 (.int .i64 17))) fun v3 h3 =>
 aW v3
 (aD (pu h3 (fH x0)) fun v4 h4 =>
 aD (pu h4 (aA 3 v4)) fun v5 h5 =>
 aD (pu h5 (aF G false 1 v5 h5)) fun v6 h6 =>
 aD (pu h6 (aA 2 v0)) fun v7 h7 =>
 aD (pu h7 (aF G false 1 v7 h7)) fun v8 h8 =>
 aD (pu h8 (aM 1 v6 v8)) fun v9 h9 =>
 aD (pu h9 (aF G false 1 v9 h9)) fun v10 h10 =>
 aD (pu h10 (aU Tryd.prog .eql 30 true v10 (.int .u64 0))) fun v11 h11 =>
 aD (pu h11 (aA 0 v0)) fun v12 h12 =>
 aD (pu h12 (aF G false 1 v12 h12)) fun v13 h13 =>
 aD (pu h13 (aU Tryd.prog .eql 3 true v13 (.int .i64 18))) fun v14 h14 =>
 aD (pu h14 (aU Tryd.prog .eql 4 false v11 v14)) fun v15 h15 =>
 aD (bF (fI.f G k) [v15] h15) fun v16 h16 =>
 aD (pu h16 (dA .i64 v16)) fun v17 h17 =>
 aD (bB (cW.f G k) [x0, (.int .i64 2), v17] h17) fun v18 h18 =>
 aD (pu h18 (un .not v15)) fun v19 h19 =>
 aW v19
 (some (.ret, [x0, v0], h19))
 (some (.normal, [x0, v0], h19)))
 (some (.normal, [x0, v0], h3))) fun e20 x20 h20 => hO e20
 (aD (pu h20 (aA 5 (aE x20 1))) fun v21 h21 =>
 aD (pu h21 (aF G false 1 v21 h21)) fun v22 h22 =>
 aD (pu h22 (fH (aE x20 0))) fun v23 h23 =>
 aD (pu h23 (aA 4 v23)) fun v24 h24 =>
 aD (fM (aV 1 v24 v22 h24)) fun v25 h25 =>
 cA [] h.length h25)
 (fun i20 => none)
 (cA [] h.length h20))
noncomputable def dJ.f (G : aG) : Nat → cD
 | 0 => fun _ _ => none
 | k + 1 => fun args h => kW args fun x0 x1 => (dJ.c G k (dJ.f G k) x0 x1 h)
noncomputable def bV.ann : Ann := fF [] [] [] []
noncomputable def bV.env (G : aG) (k : Nat) (self : cD) : List (Nat × Bool × cD) := []
noncomputable def bV.c (G : aG) (k : Nat) (self : cD) (x0 x1 : AV) (h : aB) : Option (AV × aB) := fB (
 aD (pu h (aU Tryd.prog .and 30 true x0 (.int .u64 4294967295))) fun v0 h0 =>
 aD (pu h0 (aU Tryd.prog .shr 30 true x0 (.int .u64 32))) fun v1 h1 =>
 aD (pu h1 (aU Tryd.prog .and 30 true x1 (.int .u64 4294967295))) fun v2 h2 =>
 aD (pu h2 (aU Tryd.prog .shr 30 true x1 (.int .u64 32))) fun v3 h3 =>
 aD (pu h3 (aU Tryd.prog .mul 30 false v0 v2)) fun v4 h4 =>
 aD (pu h4 (aU Tryd.prog .mul 30 false v1 v2)) fun v5 h5 =>
 aD (pu h5 (aU Tryd.prog .shr 30 true v4 (.int .u64 32))) fun v6 h6 =>
 aD (pu h6 (aU Tryd.prog .add 30 false v5 v6)) fun v7 h7 =>
 aD (pu h7 (aU Tryd.prog .and 30 true v7 (.int .u64 4294967295))) fun v8 h8 =>
 aD (pu h8 (aU Tryd.prog .shr 30 true v7 (.int .u64 32))) fun v9 h9 =>
 aD (pu h9 (aU Tryd.prog .mul 30 false v0 v3)) fun v10 h10 =>
 aD (pu h10 (aU Tryd.prog .add 30 false v8 v10)) fun v11 h11 =>
 aD (pu h11 (aU Tryd.prog .mul 30 false v1 v3)) fun v12 h12 =>
 aD (pu h12 (aU Tryd.prog .add 30 false v12 v9)) fun v13 h13 =>
 aD (pu h13 (aU Tryd.prog .shr 30 true v11 (.int .u64 32))) fun v14 h14 =>
 aD (pu h14 (aU Tryd.prog .add 30 false v13 v14)) fun v15 h15 =>
 aD (pu h15 (aU Tryd.prog .mul 30 false x0 x1)) fun v16 h16 =>
 cA [v15, v16] h.length h16)
noncomputable def bV.f (G : aG) : Nat → cD
 | 0 => fun _ _ => none
 | k + 1 => fun args h => kW args fun x0 x1 => (bV.c G k (bV.f G k) x0 x1 h)
theorem bV.step (G : aG) (k : Nat) (x0 x1 : AV) (h : aB) : bV.f G (k + 1) [x0, x1] h = bV.c G k (bV.f G k) x0 x1 h := rfl
noncomputable def dZ.ann : Ann := fF [] [] [] []
noncomputable def dZ.env (G : aG) (k : Nat) (self : cD) : List (Nat × Bool × cD) := []
noncomputable def dZ.c (G : aG) (k : Nat) (self : cD) (x0 x1 : AV) (h : aB) : Option (AV × aB) := fB (
 aD (gC x0 h) fun v0 h0 =>
 aD (pu h0 (aA 5 v0)) fun v1 h1 =>
 aD (pu h1 (aF G false 1 v1 h1)) fun v2 h2 =>
 aD (pu h2 (aU Tryd.prog .lss 2 true v2 (.int .i64 0))) fun v3 h3 =>
 aD (gd v3 false h3 (pu h3 (aA 5 v0))) fun v4 h4 =>
 aD (gd v3 false h4 (pu h4 (aF G false 1 v4 h4))) fun v5 h5 =>
 aD (gd v3 false h5 (pu h5 (aU Tryd.prog .gtr 2 true v5 (.int .i64 63)))) fun v6 h6 =>
 aD (pu h6 (fT v3 (.bool true) v6)) fun v7 h7 =>
 aW v7
 (cA [(.int .u64 0), (.bool false)] h.length h7)
 (aD (pu h7 (aA 0 v0)) fun v8 h8 =>
 aD (pu h8 (aF G false 1 v8 h8)) fun v9 h9 =>
 aD (pu h9 (aU Tryd.prog .eql 3 true v9 (.int .i64 10))) fun v10 h10 =>
 aW v10
 (aD (pu h10 (aA 5 v0)) fun v11 h11 =>
 aD (pu h11 (aF G false 1 v11 h11)) fun v12 h12 =>
 aD (pu h12 (aU Tryd.prog .shl 30 false x1 v12)) fun v13 h13 =>
 cA [v13, (.bool true)] h.length h13)
 (aD (pu h10 (aA 0 v0)) fun v14 h14 =>
 aD (pu h14 (aF G false 1 v14 h14)) fun v15 h15 =>
 aD (pu h15 (aU Tryd.prog .eql 3 true v15 (.int .i64 11))) fun v16 h16 =>
 aW v16
 (aD (pu h16 (aA 5 v0)) fun v17 h17 =>
 aD (pu h17 (aF G false 1 v17 h17)) fun v18 h18 =>
 aD (pu h18 (aU Tryd.prog .shr 30 false x1 v18)) fun v19 h19 =>
 cA [v19, (.bool true)] h.length h19)
 (aD (pu h16 (dA .i64 x1)) fun v20 h20 =>
 aD (pu h20 (aA 5 v0)) fun v21 h21 =>
 aD (pu h21 (aF G false 1 v21 h21)) fun v22 h22 =>
 aD (pu h22 (aU Tryd.prog .shr 2 false v20 v22)) fun v23 h23 =>
 aD (pu h23 (dA .u64 v23)) fun v24 h24 =>
 cA [v24, (.bool true)] h.length h24))))
noncomputable def dZ.f (G : aG) : Nat → cD
 | 0 => fun _ _ => none
 | k + 1 => fun args h => kW args fun x0 x1 => (dZ.c G k (dZ.f G k) x0 x1 h)
noncomputable def eZ.ann : Ann := fF [] [] [] [(24, [1, 2, 3, 4, 13, 61])]
noncomputable def eZ.env (G : aG) (k : Nat) (self : cD) : List (Nat × Bool × cD) := [(85, true, bV.f G k), (121, true, fI.f G k), (122, true, dZ.f G k)]
noncomputable def eZ.c (G : aG) (k : Nat) (self : cD) (x0 x1 x2 x3 : AV) (h : aB) : Option (AV × aB) := fB (
 aD (gC x0 h) fun v0 h0 =>
 aD (pu h0 (aA 0 v0)) fun v1 h1 =>
 aD (pu h1 (aF G false 1 v1 h1)) fun v2 h2 =>
 aD (pu h2 (aU Tryd.prog .eql 3 true v2 (.int .i64 1))) fun v3 h3 =>
 aW v3
 (aD (pu h3 (aA 5 v0)) fun v4 h4 =>
 aD (pu h4 (aF G false 1 v4 h4)) fun v5 h5 =>
 aD (pu h5 (dA .u64 v5)) fun v6 h6 =>
 cA [v6, (.bool true)] h.length h6)
 (aD (pu h3 (aU Tryd.prog .eql 3 true v2 (.int .i64 2))) fun v7 h7 =>
 aW v7
 (cA [x1, (.bool true)] h.length h7)
 (aD (pu h7 (aU Tryd.prog .eql 3 true v2 (.int .i64 3))) fun v8 h8 =>
 aW v8
 (aD (pu h8 (aU Tryd.prog .add 30 false x1 x2)) fun v9 h9 =>
 cA [v9, (.bool true)] h.length h9)
 (aD (pu h8 (aU Tryd.prog .eql 3 true v2 (.int .i64 4))) fun v10 h10 =>
 aW v10
 (aD (pu h10 (aU Tryd.prog .sub 30 false x1 x2)) fun v11 h11 =>
 cA [v11, (.bool true)] h.length h11)
 (aD (pu h10 (aU Tryd.prog .eql 3 true v2 (.int .i64 5))) fun v12 h12 =>
 aW v12
 (aD (pu h12 (aU Tryd.prog .mul 30 false x1 x2)) fun v13 h13 =>
 cA [v13, (.bool true)] h.length h13)
 (aD (pu h12 (aU Tryd.prog .eql 3 true v2 (.int .i64 6))) fun v14 h14 =>
 aW v14
 (aD (bF (bV.f G k) [x1, x2] h14) fun v15 h15 =>
 aD (pu h15 (cN v15 0)) fun v16 h16 =>
 aD (pu h16 (cN v15 1)) fun v17 h17 =>
 cA [v16, (.bool true)] h.length h17)
 (aD (pu h14 (aU Tryd.prog .eql 3 true v2 (.int .i64 7))) fun v18 h18 =>
 aW v18
 (aD (pu h18 (aU Tryd.prog .and 30 false x1 x2)) fun v19 h19 =>
 cA [v19, (.bool true)] h.length h19)
 (aD (pu h18 (aU Tryd.prog .eql 3 true v2 (.int .i64 8))) fun v20 h20 =>
 aW v20
 (aD (pu h20 (aU Tryd.prog .or 30 false x1 x2)) fun v21 h21 =>
 cA [v21, (.bool true)] h.length h21)
 (aD (pu h20 (aU Tryd.prog .eql 3 true v2 (.int .i64 9))) fun v22 h22 =>
 aW v22
 (aD (pu h22 (aU Tryd.prog .xor 30 false x1 x2)) fun v23 h23 =>
 cA [v23, (.bool true)] h.length h23)
 (dV (
 aD (pu h22 (aU Tryd.prog .eql 3 true v2 (.int .i64 10))) fun v24 h24 =>
 aW v24
 (some (.normal, [x1, x2, x3, v0, v2, v24], h24))
 (aD (pu h24 (aU Tryd.prog .eql 3 true v2 (.int .i64 11))) fun v25 h25 =>
 aW v25
 (some (.normal, [x1, x2, x3, v0, v2, v25], h25))
 (aD (pu h25 (aU Tryd.prog .eql 3 true v2 (.int .i64 12))) fun v26 h26 =>
 some (.normal, [x1, x2, x3, v0, v2, v26], h26)))) fun e27 x27 h27 => hO e27
 (aW (aE x27 5)
 (aD (pu h27 (aF G true 6 (aE x27 3) h27)) fun v28 h28 =>
 aD (bF (dZ.f G k) [v28, (aE x27 0)] h28) fun v29 h29 =>
 aD (pu h29 (cN v29 0)) fun v30 h30 =>
 aD (pu h30 (cN v29 1)) fun v31 h31 =>
 cA [v30, v31] h.length h31)
 (aD (pu h27 (aU Tryd.prog .eql 3 true (aE x27 4) (.int .i64 13))) fun v32 h32 =>
 aW v32
 (aD (pu h32 (aU Tryd.prog .lss 30 false (aE x27 0) (aE x27 1))) fun v33 h33 =>
 aD (bF (fI.f G k) [v33] h33) fun v34 h34 =>
 cA [v34, (.bool true)] h.length h34)
 (aD (pu h32 (aU Tryd.prog .eql 3 true (aE x27 4) (.int .i64 14))) fun v35 h35 =>
 aW v35
 (aD (pu h35 (aU Tryd.prog .neq 30 true (aE x27 0) (.int .u64 0))) fun v36 h36 =>
 aW v36
 (cA [(aE x27 1), (.bool true)] h.length h36)
 (cA [(aE x27 2), (.bool true)] h.length h36))
 (cA [(.int .u64 0), (.bool false)] h.length h35))))
 (fun i27 => if i27 = 0 then (cA [(.int .u64 0), (.bool false)] h.length h27) else (none))
 (cA [.undef, .undef] h.length h27)))))))))))
noncomputable def eZ.f (G : aG) : Nat → cD
 | 0 => fun _ _ => none
 | k + 1 => fun args h => aBA args fun x0 x1 x2 x3 => (eZ.c G k (eZ.f G k) x0 x1 x2 x3 h)
noncomputable def dU.ann : Ann := fF [] [] [] [(14, [0, 3, 4]), (9, [0, 3, 15, 22]), (5, [0, 3, 15, 16])]
noncomputable def dU.env (G : aG) (k : Nat) (self : cD) : List (Nat × Bool × cD) := [(110, false, dM.f G k), (111, false, dJ.f G k), (112, true, eZ.f G k)]
noncomputable def dU.c (G : aG) (k : Nat) (self : cD) (x0 x1 : AV) (h : aB) : Option (AV × aB) := fB (
 aD (gC x1 h) fun v0 h0 =>
 aD (pu h0 (fH x0)) fun v1 h1 =>
 aD (pu h1 (aA 4 v1)) fun v2 h2 =>
 aD (pu h2 (aF G false 1 v2 h2)) fun v3 h3 =>
 aD (pu h3 (aU Tryd.prog .add 3 true v3 (.int .i64 1))) fun v4 h4 =>
 aD (pu h4 (fH x0)) fun v5 h5 =>
 aD (pu h5 (aA 4 v5)) fun v6 h6 =>
 aD (fM (aV 1 v6 v4 h6)) fun v7 h7 =>
 dV (
 aD (pu h7 (aA 0 v0)) fun v8 h8 =>
 aD (pu h8 (aF G false 1 v8 h8)) fun v9 h9 =>
 dV (
 aD (pu h9 (aU Tryd.prog .eql 3 true v9 (.int .i64 15))) fun v10 h10 =>
 aW v10
 (some (.normal, [x0, v0, v9, v10], h10))
 (aD (pu h10 (aU Tryd.prog .eql 3 true v9 (.int .i64 16))) fun v11 h11 =>
 some (.normal, [x0, v0, v9, v11], h11))) fun e12 x12 h12 => hO e12
 (aW (aE x12 3)
 (aD (pu h12 (aF G true 6 (aE x12 1) h12)) fun v13 h13 =>
 aD (bB (dM.f G k) [(aE x12 0), v13] h13) fun v14 h14 =>
 some (.ret, [(aE x12 0), (aE x12 1), v14], h14))
 (dV (
 aD (pu h12 (aU Tryd.prog .eql 3 true (aE x12 2) (.int .i64 17))) fun v15 h15 =>
 aW v15
 (some (.normal, [(aE x12 0), (aE x12 1), (aE x12 2), v15], h15))
 (aD (pu h15 (aU Tryd.prog .eql 3 true (aE x12 2) (.int .i64 18))) fun v16 h16 =>
 aW v16
 (some (.normal, [(aE x12 0), (aE x12 1), (aE x12 2), v16], h16))
 (aD (pu h16 (aU Tryd.prog .eql 3 true (aE x12 2) (.int .i64 19))) fun v17 h17 =>
 some (.normal, [(aE x12 0), (aE x12 1), (aE x12 2), v17], h17)))) fun e18 x18 h18 => hO e18
 (aW (aE x18 3)
 (aD (pu h18 (aF G true 6 (aE x18 1) h18)) fun v19 h19 =>
 aD (bB (dJ.f G k) [(aE x18 0), v19] h19) fun v20 h20 =>
 some (.ret, [(aE x18 0), (aE x18 1), (.bool true)], h20))
 (aD (pu h18 (aU Tryd.prog .eql 3 true (aE x18 2) (.int .i64 20))) fun v21 h21 =>
 aW v21
 (aD (pu h21 (aA 5 (aE x18 1))) fun v22 h22 =>
 aD (pu h22 (aF G false 1 v22 h22)) fun v23 h23 =>
 aD (pu h23 (fH (aE x18 0))) fun v24 h24 =>
 aD (pu h24 (aA 5 v24)) fun v25 h25 =>
 aD (pu h25 (aA 0 v25)) fun v26 h26 =>
 aD (fM (aV 1 v26 v23 h26)) fun v27 h27 =>
 some (.ret, [(aE x18 0), (aE x18 1), (.bool false)], h27))
 (some (.normal, [(aE x18 0), (aE x18 1), .undef], h21))))
 (fun i18 => if i18 = 0 then (some (.normal, [(aE x18 0), (aE x18 1), .undef], h18)) else (some (.exit i18, [(aE x18 0), (aE x18 1), .undef], h18)))
 (some (.ret, [(aE x18 0), (aE x18 1), .undef], h18))))
 (fun i12 => if i12 = 0 then (some (.normal, [(aE x12 0), (aE x12 1), .undef], h12)) else (some (.exit i12, [(aE x12 0), (aE x12 1), .undef], h12)))
 (some (.ret, [(aE x12 0), (aE x12 1), .undef], h12))) fun e28 x28 h28 => hO e28
 (aD (pu h28 (aF G true 6 (aE x28 1) h28)) fun v29 h29 =>
 aD (pu h29 (fH (aE x28 0))) fun v30 h30 =>
 aD (pu h30 (aA 3 v30)) fun v31 h31 =>
 aD (pu h31 (aF G false 1 v31 h31)) fun v32 h32 =>
 aD (pu h32 (aA 2 (aE x28 1))) fun v33 h33 =>
 aD (pu h33 (aF G false 1 v33 h33)) fun v34 h34 =>
 aD (pu h34 (aM 1 v32 v34)) fun v35 h35 =>
 aD (pu h35 (aF G false 1 v35 h35)) fun v36 h36 =>
 aD (pu h36 (fH (aE x28 0))) fun v37 h37 =>
 aD (pu h37 (aA 3 v37)) fun v38 h38 =>
 aD (pu h38 (aF G false 1 v38 h38)) fun v39 h39 =>
 aD (pu h39 (aA 3 (aE x28 1))) fun v40 h40 =>
 aD (pu h40 (aF G false 1 v40 h40)) fun v41 h41 =>
 aD (pu h41 (aM 1 v39 v41)) fun v42 h42 =>
 aD (pu h42 (aF G false 1 v42 h42)) fun v43 h43 =>
 aD (pu h43 (fH (aE x28 0))) fun v44 h44 =>
 aD (pu h44 (aA 3 v44)) fun v45 h45 =>
 aD (pu h45 (aF G false 1 v45 h45)) fun v46 h46 =>
 aD (pu h46 (aA 4 (aE x28 1))) fun v47 h47 =>
 aD (pu h47 (aF G false 1 v47 h47)) fun v48 h48 =>
 aD (pu h48 (aM 1 v46 v48)) fun v49 h49 =>
 aD (pu h49 (aF G false 1 v49 h49)) fun v50 h50 =>
 aD (bF (eZ.f G k) [v29, v36, v43, v50] h50) fun v51 h51 =>
 aD (pu h51 (cN v51 0)) fun v52 h52 =>
 aD (pu h52 (cN v51 1)) fun v53 h53 =>
 aW v53
 (aD (pu h53 (fH (aE x28 0))) fun v54 h54 =>
 aD (pu h54 (aA 3 v54)) fun v55 h55 =>
 aD (pu h55 (aF G false 1 v55 h55)) fun v56 h56 =>
 aD (pu h56 (aA 1 (aE x28 1))) fun v57 h57 =>
 aD (pu h57 (aF G false 1 v57 h57)) fun v58 h58 =>
 aD (pu h58 (aM 1 v56 v58)) fun v59 h59 =>
 aD (fM (aV 1 v59 v52 h59)) fun v60 h60 =>
 cA [(.bool true)] h.length h60)
 (cA [(.bool true)] h.length h53))
 (fun i28 => none)
 (cA [(aE x28 2)] h.length h28))
noncomputable def dU.f (G : aG) : Nat → cD
 | 0 => fun _ _ => none
 | k + 1 => fun args h => kW args fun x0 x1 => (dU.c G k (dU.f G k) x0 x1 h)
noncomputable def eD.ann : Ann := aAL [15] [] [(3, [2, 3, 4, 8, 9])] [] [(3, [(9, 7, 91, 2)])] []
noncomputable def eD.env (G : aG) (k : Nat) (self : cD) : List (Nat × Bool × cD) := [(92, false, bH.f G k), (93, false, cW.f G k), (94, false, dU.f G k)]
noncomputable def eD.l3 (G : aG) (k n0 : Nat) (self : cD) (lp : dY) : dY := fun xs h0 => iF n0 xs h0 fun h =>
 aD (pu h (fH (aE xs 4))) fun v14 h14 =>
 aD (pu h14 (aA 4 v14)) fun v15 h15 =>
 aD (pu h15 (aF G false 1 v15 h15)) fun v16 h16 =>
 aD (pu h16 (aA 0 (aE xs 2))) fun v17 h17 =>
 aD (pu h17 (aF G false 1 v17 h17)) fun v18 h18 =>
 aD (pu h18 (dN v18)) fun v19 h19 =>
 aD (pu h19 (aU Tryd.prog .geq 3 false v16 v19)) fun v20 h20 =>
 aW v20
 (aD (pu h20 (fH (aE xs 4))) fun v21 h21 =>
 aD (pu h21 (aA 5 v21)) fun v22 h22 =>
 aD (pu h22 (aA 0 v22)) fun v23 h23 =>
 aD (fM (aV 1 v23 (.int .i64 3) h23)) fun v24 h24 =>
 aD (pu h24 (fH (aE xs 4))) fun v25 h25 =>
 aD (pu h25 (aA 5 v25)) fun v26 h26 =>
 aD (pu h26 (aF G true 4 v26 h26)) fun v27 h27 =>
 aD (fM (aV 4 (aE xs 3) v27 h27)) fun v28 h28 =>
 some (.ret, [(aE xs 0), (aE xs 1), (aE xs 2), (aE xs 3), (aE xs 4)], h28))
 (aD (pu h20 (fH (aE xs 4))) fun v29 h29 =>
 aD (pu h29 (aA 5 v29)) fun v30 h30 =>
 aD (pu h30 (aA 3 v30)) fun v31 h31 =>
 aD (pu h31 (aF G false 1 v31 h31)) fun v32 h32 =>
 aD (pu h32 (aU Tryd.prog .eql 2 false v32 (aE xs 0))) fun v33 h33 =>
 aW v33
 (aD (pu h33 (fH (aE xs 4))) fun v34 h34 =>
 aD (pu h34 (aA 5 v34)) fun v35 h35 =>
 aD (pu h35 (aA 0 v35)) fun v36 h36 =>
 aD (fM (aV 1 v36 (.int .i64 4) h36)) fun v37 h37 =>
 aD (pu h37 (fH (aE xs 4))) fun v38 h38 =>
 aD (pu h38 (aA 5 v38)) fun v39 h39 =>
 aD (pu h39 (aF G true 4 v39 h39)) fun v40 h40 =>
 aD (fM (aV 4 (aE xs 3) v40 h40)) fun v41 h41 =>
 some (.ret, [(aE xs 0), (aE xs 1), (aE xs 2), (aE xs 3), (aE xs 4)], h41))
 (aD (pu h33 (aU Tryd.prog .neq 144 true (aE xs 1) .nilf)) fun v42 h42 =>
 aD (gd v42 true h42 (some ((aE xs 1), h42))) fun v43 h43 =>
 aD (gd v42 true h43 (some ((aE xs 4), h43))) fun v44 h44 =>
 aD (gd v42 true h44 (pu h44 (fH v44))) fun v45 h45 =>
 aD (gd v42 true h45 (pu h45 (aA 4 v45))) fun v46 h46 =>
 aD (gd v42 true h46 (pu h46 (aF G false 1 v46 h46))) fun v47 h47 =>
 aD (gd v42 true h47 (some ((aE xs 4), h47))) fun v48 h48 =>
 aD (gd v42 true h48 (pu h48 (fH v48))) fun v49 h49 =>
 aD (gd v42 true h49 (pu h49 (aA 3 v49))) fun v50 h50 =>
 aD (gd v42 true h50 (pu h50 (aF G false 1 v50 h50))) fun v51 h51 =>
 aD (gd v42 true h51 (kR (fJ (eD.env G k self)) v43 [v47, v51] h51)) fun v52 h52 =>
 aD (gd v42 true h52 (pu h52 (un .not v52))) fun v53 h53 =>
 aD (pu h53 (fT v42 v53 (.bool false))) fun v54 h54 =>
 aW v54
 (aD (pu h54 (fH (aE xs 4))) fun v55 h55 =>
 aD (pu h55 (aA 5 v55)) fun v56 h56 =>
 aD (pu h56 (aF G true 4 v56 h56)) fun v57 h57 =>
 aD (fM (aV 4 (aE xs 3) v57 h57)) fun v58 h58 =>
 some (.ret, [(aE xs 0), (aE xs 1), (aE xs 2), (aE xs 3), (aE xs 4)], h58))
 (aD (pu h54 (fH (aE xs 4))) fun v59 h59 =>
 aD (pu h59 (aA 5 v59)) fun v60 h60 =>
 aD (pu h60 (aA 3 v60)) fun v61 h61 =>
 aD (pu h61 (aF G false 1 v61 h61)) fun v62 h62 =>
 aD (pu h62 (aU Tryd.prog .add 2 true v62 (.int .i64 1))) fun v63 h63 =>
 aD (pu h63 (fH (aE xs 4))) fun v64 h64 =>
 aD (pu h64 (aA 5 v64)) fun v65 h65 =>
 aD (pu h65 (aA 3 v65)) fun v66 h66 =>
 aD (fM (aV 1 v66 v63 h66)) fun v67 h67 =>
 aD (pu h67 (fH (aE xs 4))) fun v68 h68 =>
 aD (pu h68 (aA 4 v68)) fun v69 h69 =>
 aD (pu h69 (aF G false 1 v69 h69)) fun v70 h70 =>
 aD (bB (cW.f G k) [(aE xs 4), (.int .i64 1), v70] h70) fun v71 h71 =>
 aD (pu h71 (aA 0 (aE xs 2))) fun v72 h72 =>
 aD (pu h72 (aF G false 1 v72 h72)) fun v73 h73 =>
 aD (pu h73 (fH (aE xs 4))) fun v74 h74 =>
 aD (pu h74 (aA 4 v74)) fun v75 h75 =>
 aD (pu h75 (aF G false 1 v75 h75)) fun v76 h76 =>
 aD (pu h76 (aM 6 v73 v76)) fun v77 h77 =>
 aD (pu h77 (aF G true 6 v77 h77)) fun v78 h78 =>
 aD (bB (dU.f G k) [(aE xs 4), v78] h78) fun v79 h79 =>
 aD (pu h79 (un .not v79)) fun v80 h80 =>
 aW v80
 (aD (pu h80 (fH (aE xs 4))) fun v81 h81 =>
 aD (pu h81 (aA 5 v81)) fun v82 h82 =>
 aD (pu h82 (aF G true 4 v82 h82)) fun v83 h83 =>
 aD (fM (aV 4 (aE xs 3) v83 h83)) fun v84 h84 =>
 some (.ret, [(aE xs 0), (aE xs 1), (aE xs 2), (aE xs 3), (aE xs 4)], h84))
 (lp [(aE xs 0), (aE xs 1), (aE xs 2), (aE xs 3), (aE xs 4)] h80))))
noncomputable def eD.c (G : aG) (k : Nat) (self : cD) (x0 x1 x2 x3 : AV) (h : aB) : Option (AV × aB) := fB (
 aD (gC x0 h) fun v0 h0 =>
 aD (fW 73 (.agg [(.int .i64 0), .nils, .nils, (.int .i64 0)]) h0) fun v1 h1 =>
 aD (pu h1 (aF G true 3 v0 h1)) fun v2 h2 =>
 aD (pu h2 (aA 1 v0)) fun v3 h3 =>
 aD (pu h3 (aF G false 1 v3 h3)) fun v4 h4 =>
 aD (dX 30 1 (.int .u64 0) v4 v4 h4) fun v5 h5 =>
 aD (pu h5 (cU [(0, 3), (3, 1), (4, 1), (5, 4)] [.nils, (.int .i64 0), (.int .i64 0), .nils, (.int .i64 0), (.int .i64 0), .nils, .nils, (.int .i64 0)] [(0, v2), (1, v5)])) fun v6 h6 =>
 aD (fW 147 v6 h6) fun v7 h7 =>
 aD (bB (bH.f G k) [x1] h7) fun v8 h8 =>
 aD (pu h8 (fH v7)) fun v9 h9 =>
 aD (pu h9 (aA 5 v9)) fun v10 h10 =>
 aD (pu h10 (aA 1 v10)) fun v11 h11 =>
 aD (fM (aV 1 v11 v8 h11)) fun v12 h12 =>
 vK [(v7, 7, 91, 2)] h12 fun hv13 =>
 dV (cQ (eD.l3 G k hv13.length self) k [x2, x3, v0, v1, v7] hv13) fun e13 x13 h13 => hO e13
 (none)
 (fun i13 => if i13 = 0 then (kT [aF G true 4 (aE x13 3) h13] h.length h13) else (none))
 (kT [aF G true 4 (aE x13 3) h13] h.length h13))
noncomputable def eD.f (G : aG) : Nat → cD
 | 0 => fun _ _ => none
 | k + 1 => fun args h => aBA args fun x0 x1 x2 x3 => (eD.c G k (eD.f G k) x0 x1 x2 x3 h)
noncomputable def fU.ann : Ann := fF [] [] [] []
noncomputable def fU.env (G : aG) (k : Nat) (self : cD) : List (Nat × Bool × cD) := [(43, true, cK.f G k), (69, true, eY.f G k), (70, false, eD.f G k)]
noncomputable def fU.c (G : aG) (k : Nat) (self : cD) (x0 x1 x2 : AV) (h : aB) : Option (AV × aB) := fB (
 aD (gC x0 h) fun v0 h0 =>
 aD (fW 73 (.agg [(.int .i64 0), .nils, .nils, (.int .i64 0)]) h0) fun v1 h1 =>
 aD (pu h1 (aF G true 3 v0 h1)) fun v2 h2 =>
 aD (bF (cK.f G k) [v2] h2) fun v3 h3 =>
 aD (pu h3 (aU Tryd.prog .neq 33 true v3 .nili)) fun v4 h4 =>
 aW v4
 (aD (pu h4 (cU [(0, 1), (1, 1), (2, 1), (3, 1)] [(.int .i64 0), .nils, .nils, (.int .i64 0)] [])) fun v5 h5 =>
 aD (fM (aV 4 v1 v5 h5)) fun v6 h6 =>
 kT [aF G true 4 v1 h6, some v3] h.length h6)
 (aD (pu h4 (aF G true 3 v0 h4)) fun v7 h7 =>
 aD (bF (eY.f G k) [v7, x1, x2] h7) fun v8 h8 =>
 aD (pu h8 (aU Tryd.prog .neq 33 true v8 .nili)) fun v9 h9 =>
 aW v9
 (aD (pu h9 (cU [(0, 1), (1, 1), (2, 1), (3, 1)] [(.int .i64 0), .nils, .nils, (.int .i64 0)] [])) fun v10 h10 =>
 aD (fM (aV 4 v1 v10 h10)) fun v11 h11 =>
 kT [aF G true 4 v1 h11, some v8] h.length h11)
 (aD (pu h9 (aF G true 3 v0 h9)) fun v12 h12 =>
 aD (bB (eD.f G k) [v12, x1, x2, .nilf] h12) fun v13 h13 =>
 aD (fM (aV 4 v1 v13 h13)) fun v14 h14 =>
 kT [aF G true 4 v1 h14, some .nili] h.length h14)))
noncomputable def fU.f (G : aG) : Nat → cD
 | 0 => fun _ _ => none
 | k + 1 => fun args h => vX args fun x0 x1 x2 => (fU.c G k (fU.f G k) x0 x1 x2 h)
noncomputable def cH.ann : Ann := fF [] [] [] []
noncomputable def cH.env (G : aG) (k : Nat) (self : cD) : List (Nat × Bool × cD) := [(13, true, cC.f G k), (39, true, fU.f G k)]
noncomputable def cH.c (G : aG) (k : Nat) (self : cD) (h : aB) : Option (AV × aB) := fB (
 aD (pu h (cU [(0, 1), (1, 1), (2, 1), (3, 1), (4, 1), (5, 1)] [(.int .i64 0), (.int .i64 0), (.int .i64 0), (.int .i64 0), (.int .i64 0), (.int .i64 0)] [(0, (.int .i64 20))])) fun v0 h0 =>
 aD (eQ 6 1 (.agg [(.int .i64 0), (.int .i64 0), (.int .i64 0), (.int .i64 0), (.int .i64 0), (.int .i64 0)]) [(0, v0)] h0) fun v1 h1 =>
 aD (pu h1 (cU [(0, 1), (1, 1), (2, 1)] [.nils, (.int .i64 0), (.int .i64 0)] [(0, v1)])) fun v2 h2 =>
 aD (bF (cC.f G k) [v2, (.int .i64 6)] h2) fun v3 h3 =>
 aD (pu h3 (cN v3 0)) fun v4 h4 =>
 aD (pu h4 (cN v3 1)) fun v5 h5 =>
 aD (fW 27 (.agg [.nils, (.int .i64 0), (.int .i64 0)]) h5) fun v6 h6 =>
 aD (fM (aV 3 v6 v4 h6)) fun v7 h7 =>
 aD (pu h7 (aF G true 3 v6 h7)) fun v8 h8 =>
 aD (pu h8 (aA 2 v6)) fun v9 h9 =>
 aD (pu h9 (aF G false 1 v9 h9)) fun v10 h10 =>
 aD (pu h10 (rQ yW v10 [(.int .i64 0)])) fun v11 h11 =>
 aD (dX 30 1 (.int .u64 0) v11 v11 h11) fun v12 h12 =>
 aD (bF (fU.f G k) [v8, v12, (.int .i64 100)] h12) fun v13 h13 =>
 aD (pu h13 (cN v13 0)) fun v14 h14 =>
 aD (pu h14 (cN v13 1)) fun v15 h15 =>
 aD (fW 73 (.agg [(.int .i64 0), .nils, .nils, (.int .i64 0)]) h15) fun v16 h16 =>
 aD (fM (aV 4 v16 v14 h16)) fun v17 h17 =>
 aD (pu h17 (aU Tryd.prog .eql 33 true v5 .nili)) fun v18 h18 =>
 aD (gd v18 true h18 (some (v15, h18))) fun v19 h19 =>
 aD (gd v18 true h19 (pu h19 (aU Tryd.prog .eql 33 true v19 .nili))) fun v20 h20 =>
 aD (pu h20 (fT v18 v20 (.bool false))) fun v21 h21 =>
 aD (gd v21 true h21 (pu h21 (aA 0 v6))) fun v22 h22 =>
 aD (gd v21 true h22 (pu h22 (aF G false 1 v22 h22))) fun v23 h23 =>
 aD (gd v21 true h23 (pu h23 (dN v23))) fun v24 h24 =>
 aD (gd v21 true h24 (pu h24 (aU Tryd.prog .gtr 3 true v24 (.int .i64 0)))) fun v25 h25 =>
 aD (pu h25 (fT v21 v25 (.bool false))) fun v26 h26 =>
 aD (gd v26 true h26 (pu h26 (aA 0 v16))) fun v27 h27 =>
 aD (gd v26 true h27 (pu h27 (aF G false 1 v27 h27))) fun v28 h28 =>
 aD (gd v26 true h28 (pu h28 (aU Tryd.prog .eql 3 true v28 (.int .i64 0)))) fun v29 h29 =>
 aD (pu h29 (fT v26 v29 (.bool false))) fun v30 h30 =>
 cA [v30] h.length h30)
noncomputable def cH.f (G : aG) : Nat → cD
 | 0 => fun _ _ => none
 | k + 1 => fun args h => aJF args (cH.c G k (cH.f G k) h)
noncomputable def aX.ann : Ann := fF [] [2] [(3, [0, 3, 4])] []
noncomputable def aX.env (G : aG) (k : Nat) (self : cD) : List (Nat × Bool × cD) := []
noncomputable def aX.l3 (G : aG) (k n0 : Nat) (self : cD) (lp : dY) : dY := fun xs h0 => iF n0 xs h0 fun h =>
 aD (pu h (dN (aE xs 0))) fun v4 h4 =>
 aD (pu h4 (aU Tryd.prog .lss 3 false (aE xs 2) v4)) fun v5 h5 =>
 aW v5
 (aD (pu h5 (aM 1 (aE xs 0) (aE xs 2))) fun v6 h6 =>
 aD (pu h6 (aF G false 1 v6 h6)) fun v7 h7 =>
 aD (eQ 1 1 (.int .u64 0) [(0, v7)] h7) fun v8 h8 =>
 aD (eE 30 1 (aE xs 1) v8 h8) fun v9 h9 =>
 aD (pu h9 (aU Tryd.prog .add 3 true (aE xs 2) (.int .i64 1))) fun v10 h10 =>
 lp [(aE xs 0), v9, v10] h10)
 (some (.exit 0, [(aE xs 0), (aE xs 1), (aE xs 2)], h5))
noncomputable def aX.c (G : aG) (k : Nat) (self : cD) (x0 : AV) (h : aB) : Option (AV × aB) := fB (
 aD (some (.sl h.length 0 0 0 1, h ++ [⟨30, 1, []⟩])) fun v0 h0 =>
 aD (pu h0 (dN x0)) fun v1 h1 =>
 aD (dX 30 1 (.int .u64 0) (.int .i64 0) v1 h1) fun v2 h2 =>
 dV (cQ (aX.l3 G k h2.length self) k [x0, v2, (.int .i64 0)] h2) fun e3 x3 h3 => hO e3
 (none)
 (fun i3 => if i3 = 0 then (uT [(aE x3 1)] h3) else (none))
 (uT [.undef] h3))
noncomputable def aX.f (G : aG) : Nat → cD
 | 0 => fun _ _ => none
 | k + 1 => fun args h => mU args fun x0 => (aX.c G k (aX.f G k) x0 h)
theorem aX.step (G : aG) (k : Nat) (x0 : AV) (h : aB) : aX.f G (k + 1) [x0] h = aX.c G k (aX.f G k) x0 h := rfl
noncomputable def cX.ann : Ann := fF [] [] [] []
noncomputable def cX.env (G : aG) (k : Nat) (self : cD) : List (Nat × Bool × cD) := []
noncomputable def cX.c (G : aG) (k : Nat) (self : cD) (x0 : AV) (h : aB) : Option (AV × aB) := fB (
 aW x0
 (cA [(.int .i64 1)] h.length h)
 (cA [(.int .i64 0)] h.length h))
noncomputable def cX.f (G : aG) : Nat → cD
 | 0 => fun _ _ => none
 | k + 1 => fun args h => mU args fun x0 => (cX.c G k (cX.f G k) x0 h)
noncomputable def dI.ann : Ann := fF [] [] [] []
noncomputable def dI.env (G : aG) (k : Nat) (self : cD) : List (Nat × Bool × cD) := []
noncomputable def dI.c (G : aG) (k : Nat) (self : cD) (x0 x1 : AV) (h : aB) : Option (AV × aB) := fB (
 aD (pu h (aU Tryd.prog .add 2 false x0 x1)) fun v0 h0 =>
 aD (pu h0 (aU Tryd.prog .gtr 2 false v0 x0)) fun v1 h1 =>
 aD (pu h1 (aU Tryd.prog .gtr 2 true x1 (.int .i64 0))) fun v2 h2 =>
 aD (pu h2 (aU Tryd.prog .eql 4 false v1 v2)) fun v3 h3 =>
 aD (gd v3 false h3 (some (x1, h3))) fun v4 h4 =>
 aD (gd v3 false h4 (pu h4 (aU Tryd.prog .eql 2 true v4 (.int .i64 0)))) fun v5 h5 =>
 aD (pu h5 (fT v3 (.bool true) v5)) fun v6 h6 =>
 cA [v0, v6] h.length h6)
noncomputable def dI.f (G : aG) : Nat → cD
 | 0 => fun _ _ => none
 | k + 1 => fun args h => kW args fun x0 x1 => (dI.c G k (dI.f G k) x0 x1 h)
noncomputable def cG.ann : Ann := fF [] [] [] []
noncomputable def cG.env (G : aG) (k : Nat) (self : cD) : List (Nat × Bool × cD) := []
noncomputable def cG.c (G : aG) (k : Nat) (self : cD) (x0 x1 : AV) (h : aB) : Option (AV × aB) := fB (
 aD (pu h (un .not x1)) fun v0 h0 =>
 aW v0
 (cA [(.int .i64 0), (.bool false)] h.length h0)
 (cA [x0, (.bool true)] h.length h0))
noncomputable def cG.f (G : aG) : Nat → cD
 | 0 => fun _ _ => none
 | k + 1 => fun args h => kW args fun x0 x1 => (cG.c G k (cG.f G k) x0 x1 h)
noncomputable def cZ.ann : Ann := fF [] [] [] []
noncomputable def cZ.env (G : aG) (k : Nat) (self : cD) : List (Nat × Bool × cD) := []
noncomputable def cZ.c (G : aG) (k : Nat) (self : cD) (x0 x1 : AV) (h : aB) : Option (AV × aB) := fB (
 aD (pu h (aU Tryd.prog .sub 2 false x0 x1)) fun v0 h0 =>
 aD (pu h0 (aU Tryd.prog .lss 2 false v0 x0)) fun v1 h1 =>
 aD (pu h1 (aU Tryd.prog .gtr 2 true x1 (.int .i64 0))) fun v2 h2 =>
 aD (pu h2 (aU Tryd.prog .eql 4 false v1 v2)) fun v3 h3 =>
 aD (gd v3 false h3 (some (x1, h3))) fun v4 h4 =>
 aD (gd v3 false h4 (pu h4 (aU Tryd.prog .eql 2 true v4 (.int .i64 0)))) fun v5 h5 =>
 aD (pu h5 (fT v3 (.bool true) v5)) fun v6 h6 =>
 cA [v0, v6] h.length h6)
noncomputable def cZ.f (G : aG) : Nat → cD
 | 0 => fun _ _ => none
 | k + 1 => fun args h => kW args fun x0 x1 => (cZ.c G k (cZ.f G k) x0 x1 h)
noncomputable def cF.ann : Ann := fF [] [] [] [(7, [0, 1, 6, 7]), (5, [0, 1, 6, 7])]
noncomputable def cF.env (G : aG) (k : Nat) (self : cD) : List (Nat × Bool × cD) := [(82, true, cG.f G k), (85, true, bV.f G k)]
noncomputable def cF.c (G : aG) (k : Nat) (self : cD) (x0 x1 : AV) (h : aB) : Option (AV × aB) := fB (
 aD (pu h (dA .u64 x0)) fun v0 h0 =>
 aD (pu h0 (dA .u64 x1)) fun v1 h1 =>
 dV (
 aD (pu h1 (aU Tryd.prog .lss 2 true x0 (.int .i64 0))) fun v2 h2 =>
 aW v2
 (aD (pu h2 (un .neg v0)) fun v3 h3 =>
 some (.normal, [x0, x1, v3, v1], h3))
 (some (.normal, [x0, x1, v0, v1], h2))) fun e4 x4 h4 => hO e4
 (dV (
 aD (pu h4 (aU Tryd.prog .lss 2 true (aE x4 1) (.int .i64 0))) fun v5 h5 =>
 aW v5
 (aD (pu h5 (un .neg (aE x4 3))) fun v6 h6 =>
 some (.normal, [(aE x4 0), (aE x4 1), (aE x4 2), v6], h6))
 (some (.normal, [(aE x4 0), (aE x4 1), (aE x4 2), (aE x4 3)], h5))) fun e7 x7 h7 => hO e7
 (aD (bF (bV.f G k) [(aE x7 2), (aE x7 3)] h7) fun v8 h8 =>
 aD (pu h8 (cN v8 0)) fun v9 h9 =>
 aD (pu h9 (cN v8 1)) fun v10 h10 =>
 aD (pu h10 (aU Tryd.prog .neq 30 true v9 (.int .u64 0))) fun v11 h11 =>
 aW v11
 (cA [(.int .i64 0), (.bool false)] h.length h11)
 (aD (pu h11 (aU Tryd.prog .lss 2 true (aE x7 0) (.int .i64 0))) fun v12 h12 =>
 aD (pu h12 (aU Tryd.prog .lss 2 true (aE x7 1) (.int .i64 0))) fun v13 h13 =>
 aD (pu h13 (aU Tryd.prog .neq 4 false v12 v13)) fun v14 h14 =>
 aW v14
 (aD (pu h14 (aU Tryd.prog .eql 30 true v10 (.int .u64 9223372036854775808))) fun v15 h15 =>
 aW v15
 (cA [(.int .i64 (-9223372036854775808)), (.bool true)] h.length h15)
 (aD (pu h15 (aU Tryd.prog .and 30 true v10 (.int .u64 9223372036854775807))) fun v16 h16 =>
 aD (pu h16 (dA .i64 v16)) fun v17 h17 =>
 aD (pu h17 (un .neg v17)) fun v18 h18 =>
 aD (pu h18 (aU Tryd.prog .lss 30 true v10 (.int .u64 9223372036854775808))) fun v19 h19 =>
 aD (bF (cG.f G k) [v18, v19] h19) fun v20 h20 =>
 aD (pu h20 (cN v20 0)) fun v21 h21 =>
 aD (pu h21 (cN v20 1)) fun v22 h22 =>
 cA [v21, v22] h.length h22))
 (aD (pu h14 (dA .i64 v10)) fun v23 h23 =>
 aD (pu h23 (aU Tryd.prog .lss 30 true v10 (.int .u64 9223372036854775808))) fun v24 h24 =>
 cA [v23, v24] h.length h24)))
 (fun i7 => none)
 (cA [.undef, .undef] h.length h7))
 (fun i4 => none)
 (cA [.undef, .undef] h.length h4))
noncomputable def cF.f (G : aG) : Nat → cD
 | 0 => fun _ _ => none
 | k + 1 => fun args h => kW args fun x0 x1 => (cF.c G k (cF.f G k) x0 x1 h)
noncomputable def cT.ann : Ann := fF [] [] [] []
noncomputable def cT.env (G : aG) (k : Nat) (self : cD) : List (Nat × Bool × cD) := [(81, true, dI.f G k), (82, true, cG.f G k), (83, true, cZ.f G k), (84, true, cF.f G k)]
noncomputable def cT.c (G : aG) (k : Nat) (self : cD) (x0 x1 x2 : AV) (h : aB) : Option (AV × aB) := fB (
 aD (gC x0 h) fun v0 h0 =>
 aD (pu h0 (aA 0 v0)) fun v1 h1 =>
 aD (pu h1 (aF G false 1 v1 h1)) fun v2 h2 =>
 aD (pu h2 (aU Tryd.prog .eql 3 true v2 (.int .i64 3))) fun v3 h3 =>
 aW v3
 (aD (pu h3 (dA .i64 x1)) fun v4 h4 =>
 aD (pu h4 (dA .i64 x2)) fun v5 h5 =>
 aD (bF (dI.f G k) [v4, v5] h5) fun v6 h6 =>
 aD (pu h6 (cN v6 0)) fun v7 h7 =>
 aD (pu h7 (cN v6 1)) fun v8 h8 =>
 aD (bF (cG.f G k) [v7, v8] h8) fun v9 h9 =>
 aD (pu h9 (cN v9 0)) fun v10 h10 =>
 aD (pu h10 (cN v9 1)) fun v11 h11 =>
 cA [v10, v11] h.length h11)
 (aD (pu h3 (aU Tryd.prog .eql 3 true v2 (.int .i64 4))) fun v12 h12 =>
 aW v12
 (aD (pu h12 (dA .i64 x1)) fun v13 h13 =>
 aD (pu h13 (dA .i64 x2)) fun v14 h14 =>
 aD (bF (cZ.f G k) [v13, v14] h14) fun v15 h15 =>
 aD (pu h15 (cN v15 0)) fun v16 h16 =>
 aD (pu h16 (cN v15 1)) fun v17 h17 =>
 aD (bF (cG.f G k) [v16, v17] h17) fun v18 h18 =>
 aD (pu h18 (cN v18 0)) fun v19 h19 =>
 aD (pu h19 (cN v18 1)) fun v20 h20 =>
 cA [v19, v20] h.length h20)
 (aD (pu h12 (aU Tryd.prog .eql 3 true v2 (.int .i64 5))) fun v21 h21 =>
 aW v21
 (aD (pu h21 (dA .i64 x1)) fun v22 h22 =>
 aD (pu h22 (dA .i64 x2)) fun v23 h23 =>
 aD (bF (cF.f G k) [v22, v23] h23) fun v24 h24 =>
 aD (pu h24 (cN v24 0)) fun v25 h25 =>
 aD (pu h25 (cN v24 1)) fun v26 h26 =>
 aD (bF (cG.f G k) [v25, v26] h26) fun v27 h27 =>
 aD (pu h27 (cN v27 0)) fun v28 h28 =>
 aD (pu h28 (cN v27 1)) fun v29 h29 =>
 cA [v28, v29] h.length h29)
 (aD (pu h21 (aU Tryd.prog .eql 3 true v2 (.int .i64 10))) fun v30 h30 =>
 aW v30
 (aD (pu h30 (aA 5 v0)) fun v31 h31 =>
 aD (pu h31 (aF G false 1 v31 h31)) fun v32 h32 =>
 aD (pu h32 (aU Tryd.prog .lss 2 true v32 (.int .i64 0))) fun v33 h33 =>
 aD (gd v33 false h33 (pu h33 (aA 5 v0))) fun v34 h34 =>
 aD (gd v33 false h34 (pu h34 (aF G false 1 v34 h34))) fun v35 h35 =>
 aD (gd v33 false h35 (pu h35 (aU Tryd.prog .gtr 2 true v35 (.int .i64 63)))) fun v36 h36 =>
 aD (pu h36 (fT v33 (.bool true) v36)) fun v37 h37 =>
 aW v37
 (cA [(.int .i64 0), (.bool false)] h.length h37)
 (aD (pu h37 (dA .i64 x1)) fun v38 h38 =>
 aD (pu h38 (aA 5 v0)) fun v39 h39 =>
 aD (pu h39 (aF G false 1 v39 h39)) fun v40 h40 =>
 aD (pu h40 (dA .u64 v40)) fun v41 h41 =>
 aD (pu h41 (aU Tryd.prog .shl 2 false v38 v41)) fun v42 h42 =>
 aD (pu h42 (aA 5 v0)) fun v43 h43 =>
 aD (pu h43 (aF G false 1 v43 h43)) fun v44 h44 =>
 aD (pu h44 (dA .u64 v44)) fun v45 h45 =>
 aD (pu h45 (aU Tryd.prog .shr 2 false v42 v45)) fun v46 h46 =>
 aD (pu h46 (dA .i64 x1)) fun v47 h47 =>
 aD (pu h47 (aU Tryd.prog .eql 2 false v46 v47)) fun v48 h48 =>
 aD (bF (cG.f G k) [v42, v48] h48) fun v49 h49 =>
 aD (pu h49 (cN v49 0)) fun v50 h50 =>
 aD (pu h50 (cN v49 1)) fun v51 h51 =>
 cA [v50, v51] h.length h51))
 (cA [(.int .i64 0), (.bool false)] h.length h30)))))
noncomputable def cT.f (G : aG) : Nat → cD
 | 0 => fun _ _ => none
 | k + 1 => fun args h => vX args fun x0 x1 x2 => (cT.c G k (cT.f G k) x0 x1 x2 h)
noncomputable def bS.ann : Ann := fF [] [] [] []
noncomputable def bS.env (G : aG) (k : Nat) (self : cD) : List (Nat × Bool × cD) := [(85, true, bV.f G k)]
noncomputable def bS.c (G : aG) (k : Nat) (self : cD) (x0 x1 x2 x3 : AV) (h : aB) : Option (AV × aB) := fB (
 aD (gC x0 h) fun v0 h0 =>
 aD (pu h0 (aA 5 v0)) fun v1 h1 =>
 aD (pu h1 (aF G false 1 v1 h1)) fun v2 h2 =>
 aD (pu h2 (aU Tryd.prog .and 2 true v2 (.int .i64 63))) fun v3 h3 =>
 aD (pu h3 (dA .u64 v3)) fun v4 h4 =>
 aD (pu h4 (aA 5 v0)) fun v5 h5 =>
 aD (pu h5 (aF G false 1 v5 h5)) fun v6 h6 =>
 aD (pu h6 (aU Tryd.prog .geq 2 true v6 (.int .i64 0))) fun v7 h7 =>
 aD (gd v7 true h7 (pu h7 (aA 5 v0))) fun v8 h8 =>
 aD (gd v7 true h8 (pu h8 (aF G false 1 v8 h8))) fun v9 h9 =>
 aD (gd v7 true h9 (pu h9 (aU Tryd.prog .leq 2 true v9 (.int .i64 63)))) fun v10 h10 =>
 aD (pu h10 (fT v7 v10 (.bool false))) fun v11 h11 =>
 aD (pu h11 (aA 0 v0)) fun v12 h12 =>
 aD (pu h12 (aF G false 1 v12 h12)) fun v13 h13 =>
 aD (pu h13 (aU Tryd.prog .eql 3 true v13 (.int .i64 1))) fun v14 h14 =>
 aW v14
 (aD (pu h14 (aA 5 v0)) fun v15 h15 =>
 aD (pu h15 (aF G false 1 v15 h15)) fun v16 h16 =>
 aD (pu h16 (dA .u64 v16)) fun v17 h17 =>
 cA [v17, (.bool true)] h.length h17)
 (aD (pu h14 (aU Tryd.prog .eql 3 true v13 (.int .i64 2))) fun v18 h18 =>
 aW v18
 (cA [x1, (.bool true)] h.length h18)
 (aD (pu h18 (aU Tryd.prog .eql 3 true v13 (.int .i64 3))) fun v19 h19 =>
 aW v19
 (aD (pu h19 (aU Tryd.prog .add 30 false x1 x2)) fun v20 h20 =>
 cA [v20, (.bool true)] h.length h20)
 (aD (pu h19 (aU Tryd.prog .eql 3 true v13 (.int .i64 4))) fun v21 h21 =>
 aW v21
 (aD (pu h21 (aU Tryd.prog .sub 30 false x1 x2)) fun v22 h22 =>
 cA [v22, (.bool true)] h.length h22)
 (aD (pu h21 (aU Tryd.prog .eql 3 true v13 (.int .i64 5))) fun v23 h23 =>
 aW v23
 (aD (pu h23 (aU Tryd.prog .mul 30 false x1 x2)) fun v24 h24 =>
 cA [v24, (.bool true)] h.length h24)
 (aD (pu h23 (aU Tryd.prog .eql 3 true v13 (.int .i64 6))) fun v25 h25 =>
 aW v25
 (aD (bF (bV.f G k) [x1, x2] h25) fun v26 h26 =>
 aD (pu h26 (cN v26 0)) fun v27 h27 =>
 aD (pu h27 (cN v26 1)) fun v28 h28 =>
 cA [v27, (.bool true)] h.length h28)
 (aD (pu h25 (aU Tryd.prog .eql 3 true v13 (.int .i64 7))) fun v29 h29 =>
 aW v29
 (aD (pu h29 (aU Tryd.prog .and 30 false x1 x2)) fun v30 h30 =>
 cA [v30, (.bool true)] h.length h30)
 (aD (pu h29 (aU Tryd.prog .eql 3 true v13 (.int .i64 8))) fun v31 h31 =>
 aW v31
 (aD (pu h31 (aU Tryd.prog .or 30 false x1 x2)) fun v32 h32 =>
 cA [v32, (.bool true)] h.length h32)
 (aD (pu h31 (aU Tryd.prog .eql 3 true v13 (.int .i64 9))) fun v33 h33 =>
 aW v33
 (aD (pu h33 (aU Tryd.prog .xor 30 false x1 x2)) fun v34 h34 =>
 cA [v34, (.bool true)] h.length h34)
 (aD (pu h33 (aU Tryd.prog .eql 3 true v13 (.int .i64 13))) fun v35 h35 =>
 aW v35
 (aD (pu h35 (aU Tryd.prog .lss 30 false x1 x2)) fun v36 h36 =>
 aW v36
 (cA [(.int .u64 1), (.bool true)] h.length h36)
 (cA [(.int .u64 0), (.bool true)] h.length h36))
 (aD (pu h35 (aU Tryd.prog .eql 3 true v13 (.int .i64 14))) fun v37 h37 =>
 aW v37
 (aD (pu h37 (aU Tryd.prog .neq 30 true x1 (.int .u64 0))) fun v38 h38 =>
 aW v38
 (cA [x2, (.bool true)] h.length h38)
 (cA [x3, (.bool true)] h.length h38))
 (aD (pu h37 (un .not v11)) fun v39 h39 =>
 aW v39
 (cA [(.int .u64 0), (.bool false)] h.length h39)
 (aD (pu h39 (aA 0 v0)) fun v40 h40 =>
 aD (pu h40 (aF G false 1 v40 h40)) fun v41 h41 =>
 aD (pu h41 (aU Tryd.prog .eql 3 true v41 (.int .i64 10))) fun v42 h42 =>
 aW v42
 (aD (pu h42 (aU Tryd.prog .shl 30 false x1 v4)) fun v43 h43 =>
 cA [v43, (.bool true)] h.length h43)
 (aD (pu h42 (aU Tryd.prog .eql 3 true v41 (.int .i64 11))) fun v44 h44 =>
 aW v44
 (aD (pu h44 (aU Tryd.prog .shr 30 false x1 v4)) fun v45 h45 =>
 cA [v45, (.bool true)] h.length h45)
 (aD (pu h44 (aU Tryd.prog .eql 3 true v41 (.int .i64 12))) fun v46 h46 =>
 aW v46
 (aD (pu h46 (dA .i64 x1)) fun v47 h47 =>
 aD (pu h47 (aU Tryd.prog .shr 2 false v47 v4)) fun v48 h48 =>
 aD (pu h48 (dA .u64 v48)) fun v49 h49 =>
 cA [v49, (.bool true)] h.length h49)
 (cA [(.int .u64 0), (.bool false)] h.length h46))))))))))))))))
noncomputable def bS.f (G : aG) : Nat → cD
 | 0 => fun _ _ => none
 | k + 1 => fun args h => aBA args fun x0 x1 x2 x3 => (bS.c G k (bS.f G k) x0 x1 x2 x3 h)
theorem bS.step (G : aG) (k : Nat) (x0 x1 x2 x3 : AV) (h : aB) : bS.f G (k + 1) [x0, x1, x2, x3] h = bS.c G k (bS.f G k) x0 x1 x2 x3 h := rfl
noncomputable def bK.ann : Ann := aAL [] [] [(4, [1, 3, 4, 8, 9, 10, 11])] [(22, [1, 3, 4, 8, 9, 10, 12, 13, 14, 15]), (38, [1, 3, 4, 8, 9, 10, 11, 12, 13, 14, 15, 71, 186]), (26, [1, 3, 4, 8, 9, 10, 11, 12, 13, 14, 15, 71, 142])] [(4, [(8, 2, 91, 2), (9, 2, 91, 2)])] []
noncomputable def bK.env (G : aG) (k : Nat) (self : cD) : List (Nat × Bool × cD) := [(12, false, aX.f G k), (48, true, cX.f G k), (49, true, cT.f G k), (50, true, bS.f G k)]
noncomputable def bK.l4 (G : aG) (k n0 : Nat) (self : cD) (lp : dY) : dY := fun xs h0 => iF n0 xs h0 fun h =>
 aD (pu h (aA 0 (aE xs 2))) fun v11 h11 =>
 aD (pu h11 (aF G false 1 v11 h11)) fun v12 h12 =>
 aD (pu h12 (dN v12)) fun v13 h13 =>
 aD (pu h13 (aU Tryd.prog .geq 3 false (aE xs 6) v13)) fun v14 h14 =>
 aW v14
 (aD (pu h14 (aA 0 (aE xs 4))) fun v15 h15 =>
 aD (fM (aV 1 v15 (.int .i64 3) h15)) fun v16 h16 =>
 aD (pu h16 (aF G true 5 (aE xs 4) h16)) fun v17 h17 =>
 aD (fM (aV 5 (aE xs 3) v17 h17)) fun v18 h18 =>
 some (.ret, [(aE xs 0), (aE xs 1), (aE xs 2), (aE xs 3), (aE xs 4), (aE xs 5), (aE xs 6)], h18))
 (aD (pu h14 (aA 3 (aE xs 4))) fun v19 h19 =>
 aD (pu h19 (aF G false 1 v19 h19)) fun v20 h20 =>
 aD (pu h20 (aU Tryd.prog .geq 2 false v20 (aE xs 1))) fun v21 h21 =>
 aW v21
 (aD (pu h21 (aA 0 (aE xs 4))) fun v22 h22 =>
 aD (fM (aV 1 v22 (.int .i64 4) h22)) fun v23 h23 =>
 aD (pu h23 (aF G true 5 (aE xs 4) h23)) fun v24 h24 =>
 aD (fM (aV 5 (aE xs 3) v24 h24)) fun v25 h25 =>
 some (.ret, [(aE xs 0), (aE xs 1), (aE xs 2), (aE xs 3), (aE xs 4), (aE xs 5), (aE xs 6)], h25))
 (aD (pu h21 (aA 0 (aE xs 2))) fun v26 h26 =>
 aD (pu h26 (aF G false 1 v26 h26)) fun v27 h27 =>
 aD (pu h27 (aM 6 v27 (aE xs 6))) fun v28 h28 =>
 aD (pu h28 (aF G true 6 v28 h28)) fun v29 h29 =>
 aD (fW 29 (.agg [(.int .i64 0), (.int .i64 0), (.int .i64 0), (.int .i64 0), (.int .i64 0), (.int .i64 0)]) h29) fun v30 h30 =>
 aD (fM (aV 6 v30 v29 h30)) fun v31 h31 =>
 aD (pu h31 (aA 3 (aE xs 4))) fun v32 h32 =>
 aD (pu h32 (aF G false 1 v32 h32)) fun v33 h33 =>
 aD (pu h33 (aU Tryd.prog .add 2 true v33 (.int .i64 1))) fun v34 h34 =>
 aD (pu h34 (aA 3 (aE xs 4))) fun v35 h35 =>
 aD (fM (aV 1 v35 v34 h35)) fun v36 h36 =>
 aD (pu h36 (aA 2 (aE xs 4))) fun v37 h37 =>
 aD (pu h37 (aF G false 1 v37 h37)) fun v38 h38 =>
 aD (pu h38 (cU [(0, 1), (1, 1)] [(.int .i64 0), (.int .i64 0)] [(0, (.int .i64 1)), (1, (aE xs 6))])) fun v39 h39 =>
 aD (eQ 2 1 (.agg [(.int .i64 0), (.int .i64 0)]) [(0, v39)] h39) fun v40 h40 =>
 aD (eE 91 2 v38 v40 h40) fun v41 h41 =>
 aD (pu h41 (aA 2 (aE xs 4))) fun v42 h42 =>
 aD (fM (aV 1 v42 v41 h42)) fun v43 h43 =>
 aD (pu h43 (aA 2 v30)) fun v44 h44 =>
 aD (pu h44 (aF G false 1 v44 h44)) fun v45 h45 =>
 aD (pu h45 (aM 1 (aE xs 5) v45)) fun v46 h46 =>
 aD (pu h46 (aF G false 1 v46 h46)) fun v47 h47 =>
 aD (pu h47 (aA 3 v30)) fun v48 h48 =>
 aD (pu h48 (aF G false 1 v48 h48)) fun v49 h49 =>
 aD (pu h49 (aM 1 (aE xs 5) v49)) fun v50 h50 =>
 aD (pu h50 (aF G false 1 v50 h50)) fun v51 h51 =>
 aD (pu h51 (aU Tryd.prog .add 3 true (aE xs 6) (.int .i64 1))) fun v52 h52 =>
 aD (pu h52 (aA 0 v30)) fun v53 h53 =>
 aD (pu h53 (aF G false 1 v53 h53)) fun v54 h54 =>
 dV (
 aD (pu h54 (aU Tryd.prog .eql 3 true v54 (.int .i64 15))) fun v55 h55 =>
 aW v55
 (some (.normal, [(aE xs 0), (aE xs 1), (aE xs 2), (aE xs 3), (aE xs 4), (aE xs 5), (aE xs 6), v30, v47, v51, v52, v54, v55], h55))
 (aD (pu h55 (aU Tryd.prog .eql 3 true v54 (.int .i64 16))) fun v56 h56 =>
 some (.normal, [(aE xs 0), (aE xs 1), (aE xs 2), (aE xs 3), (aE xs 4), (aE xs 5), (aE xs 6), v30, v47, v51, v52, v54, v56], h56))) fun e57 x57 h57 => hO e57
 (aW (aE x57 12)
 (aD (pu h57 (aA 5 (aE x57 7))) fun v58 h58 =>
 aD (pu h58 (aF G false 1 v58 h58)) fun v59 h59 =>
 aD (pu h59 (dA .u64 v59)) fun v60 h60 =>
 aD (pu h60 (aU Tryd.prog .add 30 false (aE x57 8) v60)) fun v61 h61 =>
 aD (pu h61 (aA 2 (aE x57 4))) fun v62 h62 =>
 aD (pu h62 (aF G false 1 v62 h62)) fun v63 h63 =>
 aD (pu h63 (dA .i64 v61)) fun v64 h64 =>
 aD (pu h64 (cU [(0, 1), (1, 1)] [(.int .i64 0), (.int .i64 0)] [(0, (.int .i64 3)), (1, v64)])) fun v65 h65 =>
 aD (eQ 2 1 (.agg [(.int .i64 0), (.int .i64 0)]) [(0, v65)] h65) fun v66 h66 =>
 aD (eE 91 2 v63 v66 h66) fun v67 h67 =>
 aD (pu h67 (aA 2 (aE x57 4))) fun v68 h68 =>
 aD (fM (aV 1 v68 v67 h68)) fun v69 h69 =>
 aD (pu h69 (aA 2 (aE x57 2))) fun v70 h70 =>
 aD (pu h70 (aF G false 1 v70 h70)) fun v71 h71 =>
 aD (pu h71 (dA .u64 v71)) fun v72 h72 =>
 aD (pu h72 (aU Tryd.prog .geq 30 false v61 v72)) fun v73 h73 =>
 aW v73
 (aD (pu h73 (aA 0 (aE x57 4))) fun v74 h74 =>
 aD (fM (aV 1 v74 (.int .i64 3) h74)) fun v75 h75 =>
 aD (pu h75 (aF G true 5 (aE x57 4) h75)) fun v76 h76 =>
 aD (fM (aV 5 (aE x57 3) v76 h76)) fun v77 h77 =>
 some (.ret, [(aE x57 0), (aE x57 1), (aE x57 2), (aE x57 3), (aE x57 4), (aE x57 5), (aE x57 6)], h77))
 (aD (pu h73 (aA 0 (aE x57 7))) fun v78 h78 =>
 aD (pu h78 (aF G false 1 v78 h78)) fun v79 h79 =>
 aD (pu h79 (aU Tryd.prog .eql 3 true v79 (.int .i64 15))) fun v80 h80 =>
 aW v80
 (aD (pu h80 (aA 1 (aE x57 7))) fun v81 h81 =>
 aD (pu h81 (aF G false 1 v81 h81)) fun v82 h82 =>
 aD (pu h82 (aA 1 (aE x57 4))) fun v83 h83 =>
 aD (pu h83 (aF G false 1 v83 h83)) fun v84 h84 =>
 aD (pu h84 (aM 1 v84 v61)) fun v85 h85 =>
 aD (pu h85 (aF G false 1 v85 h85)) fun v86 h86 =>
 aD (pu h86 (aM 1 (aE x57 5) v82)) fun v87 h87 =>
 aD (fM (aV 1 v87 v86 h87)) fun v88 h88 =>
 lp [(aE x57 0), (aE x57 1), (aE x57 2), (aE x57 3), (aE x57 4), (aE x57 5), (aE x57 10)] h88)
 (aD (pu h80 (aA 1 (aE x57 4))) fun v89 h89 =>
 aD (pu h89 (aF G false 1 v89 h89)) fun v90 h90 =>
 aD (pu h90 (aM 1 v90 v61)) fun v91 h91 =>
 aD (fM (aV 1 v91 (aE x57 9) h91)) fun v92 h92 =>
 lp [(aE x57 0), (aE x57 1), (aE x57 2), (aE x57 3), (aE x57 4), (aE x57 5), (aE x57 10)] h92)))
 (aD (pu h57 (aU Tryd.prog .eql 3 true (aE x57 11) (.int .i64 17))) fun v93 h93 =>
 aW v93
 (aD (pu h93 (aA 5 (aE x57 7))) fun v94 h94 =>
 aD (pu h94 (aF G false 1 v94 h94)) fun v95 h95 =>
 lp [(aE x57 0), (aE x57 1), (aE x57 2), (aE x57 3), (aE x57 4), (aE x57 5), v95] h95)
 (dV (
 aD (pu h93 (aU Tryd.prog .eql 3 true (aE x57 11) (.int .i64 18))) fun v96 h96 =>
 aW v96
 (some (.normal, [(aE x57 0), (aE x57 1), (aE x57 2), (aE x57 3), (aE x57 4), (aE x57 5), (aE x57 6), (aE x57 7), (aE x57 8), (aE x57 9), (aE x57 10), (aE x57 11), v96], h96))
 (aD (pu h96 (aU Tryd.prog .eql 3 true (aE x57 11) (.int .i64 19))) fun v97 h97 =>
 some (.normal, [(aE x57 0), (aE x57 1), (aE x57 2), (aE x57 3), (aE x57 4), (aE x57 5), (aE x57 6), (aE x57 7), (aE x57 8), (aE x57 9), (aE x57 10), (aE x57 11), v97], h97))) fun e98 x98 h98 => hO e98
 (aW (aE x98 12)
 (aD (pu h98 (aU Tryd.prog .eql 30 true (aE x98 8) (.int .u64 0))) fun v99 h99 =>
 aD (pu h99 (aA 0 (aE x98 7))) fun v100 h100 =>
 aD (pu h100 (aF G false 1 v100 h100)) fun v101 h101 =>
 aD (pu h101 (aU Tryd.prog .eql 3 true v101 (.int .i64 18))) fun v102 h102 =>
 aD (pu h102 (aU Tryd.prog .eql 4 false v99 v102)) fun v103 h103 =>
 aD (pu h103 (aA 2 (aE x98 4))) fun v104 h104 =>
 aD (pu h104 (aF G false 1 v104 h104)) fun v105 h105 =>
 aD (bF (cX.f G k) [v103] h105) fun v106 h106 =>
 aD (pu h106 (cU [(0, 1), (1, 1)] [(.int .i64 0), (.int .i64 0)] [(0, (.int .i64 2)), (1, v106)])) fun v107 h107 =>
 aD (eQ 2 1 (.agg [(.int .i64 0), (.int .i64 0)]) [(0, v107)] h107) fun v108 h108 =>
 aD (eE 91 2 v105 v108 h108) fun v109 h109 =>
 aD (pu h109 (aA 2 (aE x98 4))) fun v110 h110 =>
 aD (fM (aV 1 v110 v109 h110)) fun v111 h111 =>
 aW v103
 (aD (pu h111 (aA 5 (aE x98 7))) fun v112 h112 =>
 aD (pu h112 (aF G false 1 v112 h112)) fun v113 h113 =>
 lp [(aE x98 0), (aE x98 1), (aE x98 2), (aE x98 3), (aE x98 4), (aE x98 5), v113] h113)
 (lp [(aE x98 0), (aE x98 1), (aE x98 2), (aE x98 3), (aE x98 4), (aE x98 5), (aE x98 10)] h111))
 (aD (pu h98 (aU Tryd.prog .eql 3 true (aE x98 11) (.int .i64 20))) fun v114 h114 =>
 aW v114
 (aD (pu h114 (aA 5 (aE x98 7))) fun v115 h115 =>
 aD (pu h115 (aF G false 1 v115 h115)) fun v116 h116 =>
 aD (pu h116 (aA 0 (aE x98 4))) fun v117 h117 =>
 aD (fM (aV 1 v117 v116 h117)) fun v118 h118 =>
 aD (pu h118 (aF G true 5 (aE x98 4) h118)) fun v119 h119 =>
 aD (fM (aV 5 (aE x98 3) v119 h119)) fun v120 h120 =>
 some (.ret, [(aE x98 0), (aE x98 1), (aE x98 2), (aE x98 3), (aE x98 4), (aE x98 5), (aE x98 6)], h120))
 (dV (
 aD (pu h114 (dN (aE x98 0))) fun v121 h121 =>
 aD (pu h121 (aU Tryd.prog .gtr 3 true v121 (.int .i64 0))) fun v122 h122 =>
 aD (gd v122 true h122 (pu h122 (aA 4 (aE x98 4)))) fun v123 h123 =>
 aD (gd v122 true h123 (pu h123 (aF G false 1 v123 h123))) fun v124 h124 =>
 aD (gd v122 true h124 (pu h124 (aU Tryd.prog .lss 3 true v124 (.int .i64 0)))) fun v125 h125 =>
 aD (pu h125 (fT v122 v125 (.bool false))) fun v126 h126 =>
 aD (gd v126 true h126 (pu h126 (aA 0 (aE x98 7)))) fun v127 h127 =>
 aD (gd v126 true h127 (pu h127 (aF G false 1 v127 h127))) fun v128 h128 =>
 aD (gd v126 true h128 (pu h128 (aU Tryd.prog .geq 3 true v128 (.int .i64 3)))) fun v129 h129 =>
 aD (gd v126 true h129 (some (v129, h129))) fun v130 h130 =>
 aD (gd v130 true h130 (pu h130 (aA 0 (aE x98 7)))) fun v131 h131 =>
 aD (gd v130 true h131 (pu h131 (aF G false 1 v131 h131))) fun v132 h132 =>
 aD (gd v130 true h132 (pu h132 (aU Tryd.prog .leq 3 true v132 (.int .i64 5)))) fun v133 h133 =>
 aD (gd v126 true h133 (pu h133 (fT v130 v133 (.bool false)))) fun v134 h134 =>
 aD (gd v126 true h134 (some (v134, h134))) fun v135 h135 =>
 aD (gd v135 false h135 (pu h135 (aA 0 (aE x98 7)))) fun v136 h136 =>
 aD (gd v135 false h136 (pu h136 (aF G false 1 v136 h136))) fun v137 h137 =>
 aD (gd v135 false h137 (pu h137 (aU Tryd.prog .eql 3 true v137 (.int .i64 10)))) fun v138 h138 =>
 aD (gd v126 true h138 (pu h138 (fT v135 (.bool true) v138))) fun v139 h139 =>
 aD (pu h139 (fT v126 v139 (.bool false))) fun v140 h140 =>
 aW v140
 (aD (pu h140 (aF G true 6 (aE x98 7) h140)) fun v141 h141 =>
 aD (bF (cT.f G k) [v141, (aE x98 8), (aE x98 9)] h141) fun v142 h142 =>
 aD (pu h142 (cN v142 0)) fun v143 h143 =>
 aD (pu h143 (cN v142 1)) fun v144 h144 =>
 aD (pu h144 (un .not v144)) fun v145 h145 =>
 aD (gd v145 false h145 (some (v143, h145))) fun v146 h146 =>
 aD (gd v145 false h146 (some ((aE x98 0), h146))) fun v147 h147 =>
 aD (gd v145 false h147 (some ((aE x98 6), h147))) fun v148 h148 =>
 aD (gd v145 false h148 (pu h148 (aM 2 v147 v148))) fun v149 h149 =>
 aD (gd v145 false h149 (pu h149 (aA 0 v149))) fun v150 h150 =>
 aD (gd v145 false h150 (pu h150 (aF G false 1 v150 h150))) fun v151 h151 =>
 aD (gd v145 false h151 (pu h151 (aU Tryd.prog .lss 2 false v146 v151))) fun v152 h152 =>
 aD (pu h152 (fT v145 (.bool true) v152)) fun v153 h153 =>
 aD (gd v153 false h153 (some (v143, h153))) fun v154 h154 =>
 aD (gd v153 false h154 (some ((aE x98 0), h154))) fun v155 h155 =>
 aD (gd v153 false h155 (some ((aE x98 6), h155))) fun v156 h156 =>
 aD (gd v153 false h156 (pu h156 (aM 2 v155 v156))) fun v157 h157 =>
 aD (gd v153 false h157 (pu h157 (aA 1 v157))) fun v158 h158 =>
 aD (gd v153 false h158 (pu h158 (aF G false 1 v158 h158))) fun v159 h159 =>
 aD (gd v153 false h159 (pu h159 (aU Tryd.prog .gtr 2 false v154 v159))) fun v160 h160 =>
 aD (pu h160 (fT v153 (.bool true) v160)) fun v161 h161 =>
 aW v161
 (aD (pu h161 (aA 4 (aE x98 4))) fun v162 h162 =>
 aD (fM (aV 1 v162 (aE x98 6) h162)) fun v163 h163 =>
 aD (pu h163 (aF G true 5 (aE x98 4) h163)) fun v164 h164 =>
 aD (fM (aV 5 (aE x98 3) v164 h164)) fun v165 h165 =>
 some (.ret, [(aE x98 0), (aE x98 1), (aE x98 2), (aE x98 3), (aE x98 4), (aE x98 5), (aE x98 7), (aE x98 8), (aE x98 9), (aE x98 10)], h165))
 (some (.normal, [(aE x98 0), (aE x98 1), (aE x98 2), (aE x98 3), (aE x98 4), (aE x98 5), (aE x98 7), (aE x98 8), (aE x98 9), (aE x98 10)], h161)))
 (some (.normal, [(aE x98 0), (aE x98 1), (aE x98 2), (aE x98 3), (aE x98 4), (aE x98 5), (aE x98 7), (aE x98 8), (aE x98 9), (aE x98 10)], h140))) fun e166 x166 h166 => hO e166
 (aD (pu h166 (aF G true 6 (aE x166 6) h166)) fun v167 h167 =>
 aD (pu h167 (aA 4 (aE x166 6))) fun v168 h168 =>
 aD (pu h168 (aF G false 1 v168 h168)) fun v169 h169 =>
 aD (pu h169 (aM 1 (aE x166 5) v169)) fun v170 h170 =>
 aD (pu h170 (aF G false 1 v170 h170)) fun v171 h171 =>
 aD (bF (bS.f G k) [v167, (aE x166 7), (aE x166 8), v171] h171) fun v172 h172 =>
 aD (pu h172 (cN v172 0)) fun v173 h173 =>
 aD (pu h173 (cN v172 1)) fun v174 h174 =>
 aD (pu h174 (aA 1 (aE x166 6))) fun v175 h175 =>
 aD (pu h175 (aF G false 1 v175 h175)) fun v176 h176 =>
 aD (pu h176 (aM 1 (aE x166 5) v176)) fun v177 h177 =>
 aD (fM (aV 1 v177 v173 h177)) fun v178 h178 =>
 lp [(aE x166 0), (aE x166 1), (aE x166 2), (aE x166 3), (aE x166 4), (aE x166 5), (aE x166 9)] h178)
 (fun i166 => if i166 = 2 then (lp [(aE x166 0), (aE x166 1), (aE x166 2), (aE x166 3), (aE x166 4), (aE x166 5), (aE x166 9)] h166) else (if i166 = 1 then (lp [(aE x166 0), (aE x166 1), (aE x166 2), (aE x166 3), (aE x166 4), (aE x166 5), .undef] h166) else (some (.exit i166, [(aE x166 0), (aE x166 1), (aE x166 2), (aE x166 3), (aE x166 4), (aE x166 5), .undef], h166))))
 (some (.ret, [(aE x166 0), (aE x166 1), (aE x166 2), (aE x166 3), (aE x166 4), (aE x166 5), .undef], h166)))))
 (fun i98 => if i98 = 2 then (lp [(aE x98 0), (aE x98 1), (aE x98 2), (aE x98 3), (aE x98 4), (aE x98 5), (aE x98 10)] h98) else (if i98 = 1 then (lp [(aE x98 0), (aE x98 1), (aE x98 2), (aE x98 3), (aE x98 4), (aE x98 5), (aE x98 6)] h98) else (some (.exit i98, [(aE x98 0), (aE x98 1), (aE x98 2), (aE x98 3), (aE x98 4), (aE x98 5), (aE x98 6)], h98))))
 (some (.ret, [(aE x98 0), (aE x98 1), (aE x98 2), (aE x98 3), (aE x98 4), (aE x98 5), (aE x98 6)], h98)))))
 (fun i57 => if i57 = 2 then (lp [(aE x57 0), (aE x57 1), (aE x57 2), (aE x57 3), (aE x57 4), (aE x57 5), (aE x57 10)] h57) else (if i57 = 1 then (lp [(aE x57 0), (aE x57 1), (aE x57 2), (aE x57 3), (aE x57 4), (aE x57 5), (aE x57 6)] h57) else (some (.exit i57, [(aE x57 0), (aE x57 1), (aE x57 2), (aE x57 3), (aE x57 4), (aE x57 5), (aE x57 6)], h57))))
 (some (.ret, [(aE x57 0), (aE x57 1), (aE x57 2), (aE x57 3), (aE x57 4), (aE x57 5), (aE x57 6)], h57))))
noncomputable def bK.c (G : aG) (k : Nat) (self : cD) (x0 x1 x2 x3 : AV) (h : aB) : Option (AV × aB) := fB (
 aD (gC x0 h) fun v0 h0 =>
 aD (fW 38 (.agg [(.int .i64 0), .nils, .nils, (.int .i64 0), (.int .i64 0)]) h0) fun v1 h1 =>
 aD (bB (aX.f G k) [x2] h1) fun v2 h2 =>
 aD (pu h2 (cU [(0, 1), (1, 1), (2, 1), (3, 1), (4, 1)] [(.int .i64 0), .nils, .nils, (.int .i64 0), (.int .i64 0)] [(1, v2), (4, (.int .i64 (-1)))])) fun v3 h3 =>
 aD (fW 38 (.agg [(.int .i64 0), .nils, .nils, (.int .i64 0), (.int .i64 0)]) h3) fun v4 h4 =>
 aD (fM (aV 5 v4 v3 h4)) fun v5 h5 =>
 aD (pu h5 (aA 1 v0)) fun v6 h6 =>
 aD (pu h6 (aF G false 1 v6 h6)) fun v7 h7 =>
 aD (pu h7 (aU Tryd.prog .add 3 true v7 (.int .i64 1))) fun v8 h8 =>
 aD (dX 30 1 (.int .u64 0) v8 v8 h8) fun v9 h9 =>
 vK [(v1, 2, 91, 2), (v4, 2, 91, 2)] h9 fun hv10 =>
 dV (cQ (bK.l4 G k hv10.length self) k [x1, x3, v0, v1, v4, v9, (.int .i64 0)] hv10) fun e10 x10 h10 => hO e10
 (none)
 (fun i10 => if i10 = 0 then (kT [aF G true 5 (aE x10 3) h10] h.length h10) else (none))
 (kT [aF G true 5 (aE x10 3) h10] h.length h10))
noncomputable def bK.f (G : aG) : Nat → cD
 | 0 => fun _ _ => none
 | k + 1 => fun args h => aBA args fun x0 x1 x2 x3 => (bK.c G k (bK.f G k) x0 x1 x2 x3 h)
theorem bK.step (G : aG) (k : Nat) (x0 x1 x2 x3 : AV) (h : aB) : bK.f G (k + 1) [x0, x1, x2, x3] h = bK.c G k (bK.f G k) x0 x1 x2 x3 h := rfl
noncomputable def bR.ann : Ann := fF [] [] [] []
noncomputable def bR.env (G : aG) (k : Nat) (self : cD) : List (Nat × Bool × cD) := []
noncomputable def bR.c (G : aG) (k : Nat) (self : cD) (x0 : AV) (h : aB) : Option (AV × aB) := fB (
 aD (gC x0 h) fun v0 h0 =>
 aD (fW 40 (.agg [.nils, (.int .i64 0), (.int .i64 0)]) h0) fun v1 h1 =>
 aD (pu h1 (aA 0 v0)) fun v2 h2 =>
 aD (pu h2 (aF G false 1 v2 h2)) fun v3 h3 =>
 aD (pu h3 (aA 1 v0)) fun v4 h4 =>
 aD (pu h4 (aF G false 1 v4 h4)) fun v5 h5 =>
 aD (pu h5 (aA 2 v0)) fun v6 h6 =>
 aD (pu h6 (aF G false 1 v6 h6)) fun v7 h7 =>
 aD (pu h7 (cU [(0, 1), (1, 1), (2, 1)] [.nils, (.int .i64 0), (.int .i64 0)] [(0, v3), (1, v5), (2, v7)])) fun v8 h8 =>
 aD (fM (aV 3 v1 v8 h8)) fun v9 h9 =>
 kT [aF G true 3 v1 h9] h.length h9)
noncomputable def bR.f (G : aG) : Nat → cD
 | 0 => fun _ _ => none
 | k + 1 => fun args h => mU args fun x0 => (bR.c G k (bR.f G k) x0 h)
theorem bR.step (G : aG) (k : Nat) (x0 : AV) (h : aB) : bR.f G (k + 1) [x0] h = bR.c G k (bR.f G k) x0 h := rfl
noncomputable def bQ.ann : Ann := fF [] [] [] []
noncomputable def bQ.env (G : aG) (k : Nat) (self : cD) : List (Nat × Bool × cD) := []
noncomputable def bQ.c (G : aG) (k : Nat) (self : cD) (x0 x1 : AV) (h : aB) : Option (AV × aB) := fB (
 aD (dX 30 1 (.int .u64 0) x1 x1 h) fun v0 h0 =>
 aD (qG v0 x0 h0) fun v1 h1 =>
 cA [v0] h.length h1)
noncomputable def bQ.f (G : aG) : Nat → cD
 | 0 => fun _ _ => none
 | k + 1 => fun args h => kW args fun x0 x1 => (bQ.c G k (bQ.f G k) x0 x1 h)
theorem bQ.step (G : aG) (k : Nat) (x0 x1 : AV) (h : aB) : bQ.f G (k + 1) [x0, x1] h = bQ.c G k (bQ.f G k) x0 x1 h := rfl
noncomputable def bA.ann : Ann := fF [] [] [(4, [0, 1, 4, 5])] []
noncomputable def bA.env (G : aG) (k : Nat) (self : cD) : List (Nat × Bool × cD) := []
noncomputable def bA.l4 (G : aG) (k n0 : Nat) (self : cD) (lp : dY) : dY := fun xs h0 => iF n0 xs h0 fun h =>
 aD (pu h (dN (aE xs 0))) fun v4 h4 =>
 aD (pu h4 (aU Tryd.prog .lss 3 false (aE xs 3) v4)) fun v5 h5 =>
 aW v5
 (aD (pu h5 (aM 1 (aE xs 0) (aE xs 3))) fun v6 h6 =>
 aD (pu h6 (aF G false 1 v6 h6)) fun v7 h7 =>
 aD (pu h7 (aM 1 (aE xs 1) (aE xs 3))) fun v8 h8 =>
 aD (pu h8 (aF G false 1 v8 h8)) fun v9 h9 =>
 aD (pu h9 (aU Tryd.prog .eql 30 false v7 v9)) fun v10 h10 =>
 aD (pu h10 (un .not v10)) fun v11 h11 =>
 aW v11
 (some (.ret, [(aE xs 0), (aE xs 1), (.bool false), (aE xs 3)], h11))
 (aD (pu h11 (aU Tryd.prog .add 3 true (aE xs 3) (.int .i64 1))) fun v12 h12 =>
 lp [(aE xs 0), (aE xs 1), (aE xs 2), v12] h12))
 (some (.exit 0, [(aE xs 0), (aE xs 1), (aE xs 2), (aE xs 3)], h5))
noncomputable def bA.c (G : aG) (k : Nat) (self : cD) (x0 x1 : AV) (h : aB) : Option (AV × aB) := fB (
 aD (pu h (dN x0)) fun v0 h0 =>
 aD (pu h0 (dN x1)) fun v1 h1 =>
 aD (pu h1 (aU Tryd.prog .neq 3 false v0 v1)) fun v2 h2 =>
 aW v2
 (cA [(.bool false)] h.length h2)
 (dV (cQ (bA.l4 G k h2.length self) k [x0, x1, (.bool false), (.int .i64 0)] h2) fun e3 x3 h3 => hO e3
 (none)
 (fun i3 => if i3 = 0 then (cA [(.bool true)] h.length h3) else (none))
 (cA [(aE x3 2)] h.length h3)))
noncomputable def bA.f (G : aG) : Nat → cD
 | 0 => fun _ _ => none
 | k + 1 => fun args h => kW args fun x0 x1 => (bA.c G k (bA.f G k) x0 x1 h)
theorem bA.step (G : aG) (k : Nat) (x0 x1 : AV) (h : aB) : bA.f G (k + 1) [x0, x1] h = bA.c G k (bA.f G k) x0 x1 h := rfl
noncomputable def bJ.ann : Ann := fF [] [] [] []
noncomputable def bJ.env (G : aG) (k : Nat) (self : cD) : List (Nat × Bool × cD) := []
noncomputable def bJ.c (G : aG) (k : Nat) (self : cD) (x0 x1 : AV) (h : aB) : Option (AV × aB) := fB (
 aD (pu h (aU Tryd.prog .rem 3 false x0 x1)) fun v0 h0 =>
 aD (pu h0 (aU Tryd.prog .lss 3 true v0 (.int .i64 0))) fun v1 h1 =>
 aW v1
 (aD (pu h1 (aU Tryd.prog .add 3 false v0 x1)) fun v2 h2 =>
 cA [v2] h.length h2)
 (cA [v0] h.length h1))
noncomputable def bJ.f (G : aG) : Nat → cD
 | 0 => fun _ _ => none
 | k + 1 => fun args h => kW args fun x0 x1 => (bJ.c G k (bJ.f G k) x0 x1 h)
theorem bJ.step (G : aG) (k : Nat) (x0 x1 : AV) (h : aB) : bJ.f G (k + 1) [x0, x1] h = bJ.c G k (bJ.f G k) x0 x1 h := rfl
noncomputable def alembiclaw21_AllocMany.ann : Ann := aAL [] [] [(29, [0, 1, 7, 8, 9, 13, 15]), (24, [0, 1, 7, 8, 9, 12, 13, 14]), (18, [0, 1, 7, 8, 9, 11]), (14, [0, 1, 7, 8, 9, 10])] [] [(14, [(9, 0, 29, 6)]), (18, [(9, 0, 29, 6)]), (24, [(9, 0, 29, 6)]), (29, [(9, 0, 29, 6)])] []
noncomputable def alembiclaw21_AllocMany.env (G : aG) (k : Nat) (self : cD) : List (Nat × Bool × cD) := [(10, true, cH.f G k), (11, true, bJ.f G k), (12, false, aX.f G k), (13, true, cC.f G k), (14, true, bK.f G k), (15, true, bR.f G k), (16, true, bQ.f G k), (17, true, bA.f G k)]
noncomputable def alembiclaw21_AllocMany.l14 (G : aG) (k n0 : Nat) (self : cD) (lp : dY) : dY := fun xs h0 => iF n0 xs h0 fun h =>
 aD (pu h (aU Tryd.prog .lss 3 false (aE xs 5) (aE xs 0))) fun v17 h17 =>
 aW v17
 (aD (pu h17 (aA 0 (aE xs 4))) fun v18 h18 =>
 aD (pu h18 (aF G false 1 v18 h18)) fun v19 h19 =>
 aD (pu h19 (cU [(0, 1), (1, 1), (2, 1), (3, 1), (4, 1), (5, 1)] [(.int .i64 0), (.int .i64 0), (.int .i64 0), (.int .i64 0), (.int .i64 0), (.int .i64 0)] [(0, (.int .i64 15)), (1, (aE xs 5)), (2, (aE xs 0)), (5, (aE xs 5))])) fun v20 h20 =>
 aD (eQ 6 1 (.agg [(.int .i64 0), (.int .i64 0), (.int .i64 0), (.int .i64 0), (.int .i64 0), (.int .i64 0)]) [(0, v20)] h20) fun v21 h21 =>
 aD (eE 29 6 v19 v21 h21) fun v22 h22 =>
 aD (pu h22 (aA 0 (aE xs 4))) fun v23 h23 =>
 aD (fM (aV 1 v23 v22 h23)) fun v24 h24 =>
 aD (pu h24 (aU Tryd.prog .add 3 true (aE xs 5) (.int .i64 1))) fun v25 h25 =>
 lp [(aE xs 0), (aE xs 1), (aE xs 2), (aE xs 3), (aE xs 4), v25] h25)
 (some (.exit 0, [(aE xs 0), (aE xs 1), (aE xs 2), (aE xs 3), (aE xs 4), (aE xs 5)], h17))
noncomputable def alembiclaw21_AllocMany.l18 (G : aG) (k n0 : Nat) (self : cD) (lp : dY) : dY := fun xs h0 => iF n0 xs h0 fun h =>
 aD (pu h (aU Tryd.prog .geq 3 true (aE xs 5) (.int .i64 0))) fun v28 h28 =>
 aW v28
 (aD (pu h28 (aA 0 (aE xs 4))) fun v29 h29 =>
 aD (pu h29 (aF G false 1 v29 h29)) fun v30 h30 =>
 aD (pu h30 (aU Tryd.prog .add 3 true (aE xs 0) (.int .i64 1))) fun v31 h31 =>
 aD (pu h31 (aU Tryd.prog .add 3 true (aE xs 0) (.int .i64 1))) fun v32 h32 =>
 aD (pu h32 (cU [(0, 1), (1, 1), (2, 1), (3, 1), (4, 1), (5, 1)] [(.int .i64 0), (.int .i64 0), (.int .i64 0), (.int .i64 0), (.int .i64 0), (.int .i64 0)] [(0, (.int .i64 3)), (1, v31), (2, v32), (3, (aE xs 5))])) fun v33 h33 =>
 aD (pu h33 (aU Tryd.prog .add 3 true (aE xs 0) (.int .i64 1))) fun v34 h34 =>
 aD (pu h34 (cU [(0, 1), (1, 1), (2, 1), (3, 1), (4, 1), (5, 1)] [(.int .i64 0), (.int .i64 0), (.int .i64 0), (.int .i64 0), (.int .i64 0), (.int .i64 0)] [(0, (.int .i64 5)), (1, (aE xs 5)), (2, (aE xs 5)), (3, v34)])) fun v35 h35 =>
 aD (eQ 6 2 (.agg [(.int .i64 0), (.int .i64 0), (.int .i64 0), (.int .i64 0), (.int .i64 0), (.int .i64 0)]) [(0, v33), (1, v35)] h35) fun v36 h36 =>
 aD (eE 29 6 v30 v36 h36) fun v37 h37 =>
 aD (pu h37 (aA 0 (aE xs 4))) fun v38 h38 =>
 aD (fM (aV 1 v38 v37 h38)) fun v39 h39 =>
 aD (pu h39 (aU Tryd.prog .sub 3 true (aE xs 5) (.int .i64 1))) fun v40 h40 =>
 lp [(aE xs 0), (aE xs 1), (aE xs 2), (aE xs 3), (aE xs 4), v40] h40)
 (some (.exit 2, [(aE xs 0), (aE xs 1), (aE xs 2), (aE xs 3), (aE xs 4), (aE xs 5)], h28))
noncomputable def alembiclaw21_AllocMany.l24 (G : aG) (k n0 : Nat) (self : cD) (lp : dY) : dY := fun xs h0 => iF n0 xs h0 fun h =>
 aD (pu h (aU Tryd.prog .geq 3 true (aE xs 7) (.int .i64 0))) fun v44 h44 =>
 aW v44
 (aD (pu h44 (aM 1 (aE xs 3) (aE xs 7))) fun v45 h45 =>
 aD (pu h45 (aF G false 1 v45 h45)) fun v46 h46 =>
 aD (pu h46 (aU Tryd.prog .add 30 false (aE xs 5) v46)) fun v47 h47 =>
 aD (pu h47 (aM 1 (aE xs 3) (aE xs 7))) fun v48 h48 =>
 aD (pu h48 (aF G false 1 v48 h48)) fun v49 h49 =>
 aD (pu h49 (aU Tryd.prog .mul 30 false v49 v47)) fun v50 h50 =>
 aD (pu h50 (aM 1 (aE xs 6) (aE xs 7))) fun v51 h51 =>
 aD (fM (aV 1 v51 v50 h51)) fun v52 h52 =>
 aD (pu h52 (aU Tryd.prog .sub 3 true (aE xs 7) (.int .i64 1))) fun v53 h53 =>
 lp [(aE xs 0), (aE xs 1), (aE xs 2), (aE xs 3), (aE xs 4), v47, (aE xs 6), v53] h53)
 (some (.exit 4, [(aE xs 0), (aE xs 1), (aE xs 2), (aE xs 3), (aE xs 4), (aE xs 5), (aE xs 6), (aE xs 7)], h44))
noncomputable def alembiclaw21_AllocMany.l29 (G : aG) (k n0 : Nat) (self : cD) (lp : dY) : dY := fun xs h0 => iF n0 xs h0 fun h =>
 aD (pu h (aU Tryd.prog .lss 3 false (aE xs 6) (aE xs 0))) fun v55 h55 =>
 aW v55
 (aD (pu h55 (aA 0 (aE xs 4))) fun v56 h56 =>
 aD (pu h56 (aF G false 1 v56 h56)) fun v57 h57 =>
 aD (pu h57 (cU [(0, 1), (1, 1), (2, 1), (3, 1), (4, 1), (5, 1)] [(.int .i64 0), (.int .i64 0), (.int .i64 0), (.int .i64 0), (.int .i64 0), (.int .i64 0)] [(0, (.int .i64 16)), (2, (aE xs 0)), (3, (aE xs 6)), (5, (aE xs 6))])) fun v58 h58 =>
 aD (eQ 6 1 (.agg [(.int .i64 0), (.int .i64 0), (.int .i64 0), (.int .i64 0), (.int .i64 0), (.int .i64 0)]) [(0, v58)] h58) fun v59 h59 =>
 aD (eE 29 6 v57 v59 h59) fun v60 h60 =>
 aD (pu h60 (aA 0 (aE xs 4))) fun v61 h61 =>
 aD (fM (aV 1 v61 v60 h61)) fun v62 h62 =>
 aD (pu h62 (aU Tryd.prog .add 3 true (aE xs 6) (.int .i64 1))) fun v63 h63 =>
 lp [(aE xs 0), (aE xs 1), (aE xs 2), (aE xs 3), (aE xs 4), (aE xs 5), v63] h63)
 (some (.exit 6, [(aE xs 0), (aE xs 1), (aE xs 2), (aE xs 3), (aE xs 4), (aE xs 5), (aE xs 6)], h55))
noncomputable def alembiclaw21_AllocMany.c (G : aG) (k : Nat) (self : cD) (x0 x1 x2 : AV) (h : aB) : Option (AV × aB) := fB (
 aD (bF (cH.f G k) [] h) fun v0 h0 =>
 aD (pu h0 (un .not v0)) fun v1 h1 =>
 aW v1
 (cA [(.bool false)] h.length h1)
 (aD (bF (bJ.f G k) [x0, (.int .i64 50)] h1) fun v2 h2 =>
 aD (pu h2 (aU Tryd.prog .add 3 true v2 (.int .i64 1))) fun v3 h3 =>
 aD (bF (bJ.f G k) [x1, (.int .i64 23)] h3) fun v4 h4 =>
 aD (pu h4 (aU Tryd.prog .add 3 true v4 (.int .i64 6))) fun v5 h5 =>
 aD (pu h5 (dN x2)) fun v6 h6 =>
 aD (pu h6 (aU Tryd.prog .gtr 3 true v6 (.int .i64 60))) fun v7 h7 =>
 aW v7
 (cA [v0] h.length h7)
 (aD (dX 30 1 (.int .u64 0) (.int .i64 60) (.int .i64 60) h7) fun v8 h8 =>
 aD (qG v8 x2 h8) fun v9 h9 =>
 aD (fW 27 (.agg [.nils, (.int .i64 0), (.int .i64 0)]) h9) fun v10 h10 =>
 aD (pu h10 (aU Tryd.prog .add 3 true v3 (.int .i64 2))) fun v11 h11 =>
 aD (pu h11 (aA 1 v10)) fun v12 h12 =>
 aD (fM (aV 1 v12 v11 h12)) fun v13 h13 =>
 aD (pu h13 (aA 2 v10)) fun v14 h14 =>
 aD (fM (aV 1 v14 (.int .i64 60) h14)) fun v15 h15 =>
 vK [(v10, 0, 29, 6)] h15 fun hv16 =>
 dV (cQ (alembiclaw21_AllocMany.l14 G k hv16.length self) k [v3, v5, v0, v8, v10, (.int .i64 0)] hv16) fun e16 x16 h16 => hO e16
 (none)
 (fun i16 => if i16 = 0 then (aD (pu h16 (aU Tryd.prog .sub 3 true (aE x16 0) (.int .i64 1))) fun v26 h26 =>
 vK [((aE x16 4), 0, 29, 6)] h26 fun hv27 =>
 dV (cQ (alembiclaw21_AllocMany.l18 G k hv27.length self) k [(aE x16 0), (aE x16 1), (aE x16 2), (aE x16 3), (aE x16 4), v26] hv27) fun e27 x27 h27 => hO e27
 (none)
 (fun i27 => if i27 = 2 then (aD (bB (aX.f G k) [(aE x27 3)] h27) fun v41 h41 =>
 aD (pu h41 (aU Tryd.prog .sub 3 true (aE x27 0) (.int .i64 1))) fun v42 h42 =>
 vK [((aE x27 4), 0, 29, 6)] h42 fun hv43 =>
 dV (cQ (alembiclaw21_AllocMany.l24 G k hv43.length self) k [(aE x27 0), (aE x27 1), (aE x27 2), (aE x27 3), (aE x27 4), (.int .u64 0), v41, v42] hv43) fun e43 x43 h43 => hO e43
 (none)
 (fun i43 => if i43 = 4 then (vK [((aE x43 4), 0, 29, 6)] h43 fun hv54 =>
 dV (cQ (alembiclaw21_AllocMany.l29 G k hv54.length self) k [(aE x43 0), (aE x43 1), (aE x43 2), (aE x43 3), (aE x43 4), (aE x43 6), (.int .i64 0)] hv54) fun e54 x54 h54 => hO e54
 (none)
 (fun i54 => if i54 = 6 then (aD (pu h54 (aA 0 (aE x54 4))) fun v64 h64 =>
 aD (pu h64 (aF G false 1 v64 h64)) fun v65 h65 =>
 aD (pu h65 (cU [(0, 1), (1, 1), (2, 1), (3, 1), (4, 1), (5, 1)] [(.int .i64 0), (.int .i64 0), (.int .i64 0), (.int .i64 0), (.int .i64 0), (.int .i64 0)] [(0, (.int .i64 20))])) fun v66 h66 =>
 aD (eQ 6 1 (.agg [(.int .i64 0), (.int .i64 0), (.int .i64 0), (.int .i64 0), (.int .i64 0), (.int .i64 0)]) [(0, v66)] h66) fun v67 h67 =>
 aD (eE 29 6 v65 v67 h67) fun v68 h68 =>
 aD (pu h68 (aA 0 (aE x54 4))) fun v69 h69 =>
 aD (fM (aV 1 v69 v68 h69)) fun v70 h70 =>
 aD (pu h70 (aF G true 3 (aE x54 4) h70)) fun v71 h71 =>
 aD (bF (cC.f G k) [v71, (aE x54 1)] h71) fun v72 h72 =>
 aD (pu h72 (cN v72 0)) fun v73 h73 =>
 aD (pu h73 (cN v72 1)) fun v74 h74 =>
 aD (fW 27 (.agg [.nils, (.int .i64 0), (.int .i64 0)]) h74) fun v75 h75 =>
 aD (fM (aV 3 v75 v73 h75)) fun v76 h76 =>
 aD (pu h76 (aU Tryd.prog .neq 33 true v74 .nili)) fun v77 h77 =>
 aD (gd v77 false h77 (pu h77 (aA 1 v75))) fun v78 h78 =>
 aD (gd v77 false h78 (pu h78 (aF G false 1 v78 h78))) fun v79 h79 =>
 aD (gd v77 false h79 (some ((aE x54 1), h79))) fun v80 h80 =>
 aD (gd v77 false h80 (pu h80 (aU Tryd.prog .gtr 3 false v79 v80))) fun v81 h81 =>
 aD (pu h81 (fT v77 (.bool true) v81)) fun v82 h82 =>
 aD (gd v82 false h82 (pu h82 (aA 2 v75))) fun v83 h83 =>
 aD (gd v82 false h83 (pu h83 (aF G false 1 v83 h83))) fun v84 h84 =>
 aD (gd v82 false h84 (pu h84 (aU Tryd.prog .lss 3 true v84 (.int .i64 60)))) fun v85 h85 =>
 aD (pu h85 (fT v82 (.bool true) v85)) fun v86 h86 =>
 aD (gd v86 false h86 (pu h86 (aA 2 v75))) fun v87 h87 =>
 aD (gd v86 false h87 (pu h87 (aF G false 1 v87 h87))) fun v88 h88 =>
 aD (gd v86 false h88 (pu h88 (aA 1 (aE x54 4)))) fun v89 h89 =>
 aD (gd v86 false h89 (pu h89 (aF G false 1 v89 h89))) fun v90 h90 =>
 aD (gd v86 false h90 (pu h90 (aU Tryd.prog .add 3 true (.int .i64 60) v90))) fun v91 h91 =>
 aD (gd v86 false h91 (pu h91 (aU Tryd.prog .gtr 3 false v88 v91))) fun v92 h92 =>
 aD (pu h92 (fT v86 (.bool true) v92)) fun v93 h93 =>
 aW v93
 (cA [(.bool false)] h.length h93)
 (aD (pu h93 (aF G true 3 v75 h93)) fun v94 h94 =>
 aD (bF (bR.f G k) [v94] h94) fun v95 h95 =>
 aD (pu h95 (aA 2 v75)) fun v96 h96 =>
 aD (pu h96 (aF G false 1 v96 h96)) fun v97 h97 =>
 aD (bF (bQ.f G k) [(aE x54 3), v97] h97) fun v98 h98 =>
 aD (pu h98 (aA 0 (aE x54 4))) fun v99 h99 =>
 aD (pu h99 (aF G false 1 v99 h99)) fun v100 h100 =>
 aD (pu h100 (dN v100)) fun v101 h101 =>
 aD (pu h101 (aU Tryd.prog .mul 3 true (.int .i64 8) v101)) fun v102 h102 =>
 aD (pu h102 (aU Tryd.prog .add 3 true v102 (.int .i64 64))) fun v103 h103 =>
 aD (bF (bK.f G k) [v95, .nils, v98, v103] h103) fun v104 h104 =>
 aD (fW 38 (.agg [(.int .i64 0), .nils, .nils, (.int .i64 0), (.int .i64 0)]) h104) fun v105 h105 =>
 aD (fM (aV 5 v105 v104 h105)) fun v106 h106 =>
 aD (gd (aE x54 2) true h106 (pu h106 (aA 0 v105))) fun v107 h107 =>
 aD (gd (aE x54 2) true h107 (pu h107 (aF G false 1 v107 h107))) fun v108 h108 =>
 aD (gd (aE x54 2) true h108 (pu h108 (aU Tryd.prog .eql 3 true v108 (.int .i64 0)))) fun v109 h109 =>
 aD (pu h109 (fT (aE x54 2) v109 (.bool false))) fun v110 h110 =>
 aD (gd v110 true h110 (pu h110 (aA 1 v105))) fun v111 h111 =>
 aD (gd v110 true h111 (pu h111 (aF G false 1 v111 h111))) fun v112 h112 =>
 aD (gd v110 true h112 (pu h112 (iQ 1 v112 none (some (.int .i64 60))))) fun v113 h113 =>
 aD (gd v110 true h113 (some ((aE x54 5), h113))) fun v114 h114 =>
 aD (gd v110 true h114 (bF (bA.f G k) [v113, v114] h114)) fun v115 h115 =>
 aD (pu h115 (fT v110 v115 (.bool false))) fun v116 h116 =>
 cA [v116] h.length h116)) else (none))
 (cA [.undef] h.length h54)) else (none))
 (cA [.undef] h.length h43)) else (none))
 (cA [.undef] h.length h27)) else (none))
 (cA [.undef] h.length h16))))
noncomputable def alembiclaw21_AllocMany.f (G : aG) : Nat → cD
 | 0 => fun _ _ => none
 | k + 1 => fun args h => vX args fun x0 x1 x2 => (alembiclaw21_AllocMany.c G k (alembiclaw21_AllocMany.f G k) x0 x1 x2 h)
theorem alembiclaw21_AllocMany.step (G : aG) (k : Nat) (x0 x1 x2 : AV) (h : aB) : alembiclaw21_AllocMany.f G (k + 1) [x0, x1, x2] h = alembiclaw21_AllocMany.c G k (alembiclaw21_AllocMany.f G k) x0 x1 x2 h := rfl
end Go.Proofs.YtlkgkfgkiidhdaaDoor.Mir
