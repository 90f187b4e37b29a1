/- Part 5 of the proof: the functions that the statement reaches, and their contracts. -/
import Derived.Test.YtlkgkfgkiidhdaaDoorVn4
import Derived.Test.YtlkgkfgkiidhdaaDoorProg
namespace Go.Proofs.YtlkgkfgkiidhdaaDoor.Mir
open Go
set_option linter.unusedVariables false
noncomputable def eD.ann : Ann := fY [] [] [] []
noncomputable def eD.env (G : aE) (k : Nat) (self : cQ) : List (Nat × Bool × cQ) := []
noncomputable def eD.c (G : aE) (k : Nat) (self : cQ) (x0 : AV) (h : aA) : Option (AV × aA) := fJ (
 aI (pu h (bA Tryd.prog .eql 3 true x0 (.int .i64 3))) fun v0 h0 =>
 bB v0
 (cP [(.str ⟨#[97, 100, 100]⟩)] h.length h0)
 (aI (pu h0 (bA Tryd.prog .eql 3 true x0 (.int .i64 4))) fun v1 h1 =>
 bB v1
 (cP [(.str ⟨#[115, 117, 98]⟩)] h.length h1)
 (aI (pu h1 (bA Tryd.prog .eql 3 true x0 (.int .i64 5))) fun v2 h2 =>
 bB v2
 (cP [(.str ⟨#[109, 117, 108]⟩)] h.length h2)
 (aI (pu h2 (bA Tryd.prog .eql 3 true x0 (.int .i64 6))) fun v3 h3 =>
 bB v3
 (cP [(.str ⟨#[104, 105, 103, 104]⟩)] h.length h3)
 (aI (pu h3 (bA Tryd.prog .eql 3 true x0 (.int .i64 7))) fun v4 h4 =>
 bB v4
 (cP [(.str ⟨#[97, 110, 100]⟩)] h.length h4)
 (aI (pu h4 (bA Tryd.prog .eql 3 true x0 (.int .i64 8))) fun v5 h5 =>
 bB v5
 (cP [(.str ⟨#[111, 114]⟩)] h.length h5)
 (aI (pu h5 (bA Tryd.prog .eql 3 true x0 (.int .i64 9))) fun v6 h6 =>
 bB v6
 (cP [(.str ⟨#[120, 111, 114]⟩)] h.length h6)
 (aI (pu h6 (bA Tryd.prog .eql 3 true x0 (.int .i64 13))) fun v7 h7 =>
 bB v7
 (cP [(.str ⟨#[108, 101, 115, 115]⟩)] h.length h7)
 (aI (pu h7 (bA Tryd.prog .eql 3 true x0 (.int .i64 10))) fun v8 h8 =>
 bB v8
 (cP [(.str ⟨#[115, 104, 108]⟩)] h.length h8)
 (aI (pu h8 (bA Tryd.prog .eql 3 true x0 (.int .i64 11))) fun v9 h9 =>
 bB v9
 (cP [(.str ⟨#[115, 104, 114]⟩)] h.length h9)
 (aI (pu h9 (bA Tryd.prog .eql 3 true x0 (.int .i64 12))) fun v10 h10 =>
 bB v10
 (cP [(.str ⟨#[115, 97, 114]⟩)] h.length h10)
 (aI (pu h10 (bA Tryd.prog .eql 3 true x0 (.int .i64 15))) fun v11 h11 =>
 bB v11
 (cP [(.str ⟨#[108, 100]⟩)] h.length h11)
 (aI (pu h11 (bA Tryd.prog .eql 3 true x0 (.int .i64 17))) fun v12 h12 =>
 bB v12
 (cP [(.str ⟨#[98, 114]⟩)] h.length h12)
 (aI (pu h12 (bA Tryd.prog .eql 3 true x0 (.int .i64 20))) fun v13 h13 =>
 bB v13
 (cP [(.str ⟨#[104, 97, 108, 116]⟩)] h.length h13)
 (aI (pu h13 (bA Tryd.prog .eql 3 true x0 (.int .i64 18))) fun v14 h14 =>
 bB v14
 (cP [(.str ⟨#[98, 122]⟩)] h.length h14)
 (cP [(.str ⟨#[98, 110, 122]⟩)] h.length h14))))))))))))))))
noncomputable def eD.f (G : aE) : Nat → cQ
 | 0 => fun _ _ => none
 | k + 1 => fun args h => nX args fun x0 => (eD.c G k (eD.f G k) x0 h)
noncomputable def dO.ann : Ann := fY [] [] [] [(30, [2, 3]), (29, [0, 2, 43]), (26, [0, 2, 4, 37]), (19, [0, 2, 4, 23]), (14, [0, 2, 4, 11])]
noncomputable def dO.env (G : aE) (k : Nat) (self : cQ) : List (Nat × Bool × cQ) := [(86, true, eD.f G k)]
noncomputable def dO.c (G : aE) (k : Nat) (self : cQ) (x0 : AV) (h : aA) : Option (AV × aA) := fJ (
 aI (eO 100 (.agg [(.str ⟨#[]⟩), (.bool false), (.bool false), (.bool false), (.bool false), (.bool false)]) h) fun v0 h0 =>
 eE (
 aI (pu h0 (bA Tryd.prog .eql 3 true x0 (.int .i64 1))) fun v1 h1 =>
 bB v1
 (aI (pu h1 (cH [(0, 1), (1, 1), (2, 1), (3, 1), (4, 1), (5, 1)] [(.str ⟨#[]⟩), (.bool false), (.bool false), (.bool false), (.bool false), (.bool false)] [(0, (.str ⟨#[99, 111, 110, 115, 116]⟩)), (1, (.bool true)), (5, (.bool true))])) fun v2 h2 =>
 aI (gB (aV 6 v0 v2 h2)) fun v3 h3 =>
 some (.ret, [v0, (.bool true)], h3))
 (aI (pu h1 (bA Tryd.prog .eql 3 true x0 (.int .i64 2))) fun v4 h4 =>
 bB v4
 (aI (pu h4 (cH [(0, 1), (1, 1), (2, 1), (3, 1), (4, 1), (5, 1)] [(.str ⟨#[]⟩), (.bool false), (.bool false), (.bool false), (.bool false), (.bool false)] [(0, (.str ⟨#[109, 111, 118]⟩)), (1, (.bool true)), (2, (.bool true))])) fun v5 h5 =>
 aI (gB (aV 6 v0 v5 h5)) fun v6 h6 =>
 some (.ret, [v0, (.bool true)], h6))
 (eE (
 aI (pu h4 (bA Tryd.prog .eql 3 true x0 (.int .i64 3))) fun v7 h7 =>
 bB v7
 (some (.normal, [x0, v0, x0, v7], h7))
 (aI (pu h7 (bA Tryd.prog .eql 3 true x0 (.int .i64 4))) fun v8 h8 =>
 bB v8
 (some (.normal, [x0, v0, x0, v8], h8))
 (aI (pu h8 (bA Tryd.prog .eql 3 true x0 (.int .i64 5))) fun v9 h9 =>
 bB v9
 (some (.normal, [x0, v0, x0, v9], h9))
 (aI (pu h9 (bA Tryd.prog .eql 3 true x0 (.int .i64 6))) fun v10 h10 =>
 bB v10
 (some (.normal, [x0, v0, x0, v10], h10))
 (aI (pu h10 (bA Tryd.prog .eql 3 true x0 (.int .i64 7))) fun v11 h11 =>
 bB v11
 (some (.normal, [x0, v0, x0, v11], h11))
 (aI (pu h11 (bA Tryd.prog .eql 3 true x0 (.int .i64 8))) fun v12 h12 =>
 bB v12
 (some (.normal, [x0, v0, x0, v12], h12))
 (aI (pu h12 (bA Tryd.prog .eql 3 true x0 (.int .i64 9))) fun v13 h13 =>
 bB v13
 (some (.normal, [x0, v0, x0, v13], h13))
 (aI (pu h13 (bA Tryd.prog .eql 3 true x0 (.int .i64 13))) fun v14 h14 =>
 some (.normal, [x0, v0, x0, v14], h14))))))))) fun e15 x15 h15 => iX e15
 (bB (aJ x15 3)
 (aI (aW (eD.f G k) [(aJ x15 0)] h15) fun v16 h16 =>
 aI (pu h16 (cH [(0, 1), (1, 1), (2, 1), (3, 1), (4, 1), (5, 1)] [(.str ⟨#[]⟩), (.bool false), (.bool false), (.bool false), (.bool false), (.bool false)] [(0, v16), (1, (.bool true)), (2, (.bool true)), (3, (.bool true))])) fun v17 h17 =>
 aI (gB (aV 6 (aJ x15 1) v17 h17)) fun v18 h18 =>
 some (.ret, [(aJ x15 1), (.bool true)], h18))
 (eE (
 aI (pu h15 (bA Tryd.prog .eql 3 true (aJ x15 2) (.int .i64 10))) fun v19 h19 =>
 bB v19
 (some (.normal, [(aJ x15 0), (aJ x15 1), (aJ x15 2), v19], h19))
 (aI (pu h19 (bA Tryd.prog .eql 3 true (aJ x15 2) (.int .i64 11))) fun v20 h20 =>
 bB v20
 (some (.normal, [(aJ x15 0), (aJ x15 1), (aJ x15 2), v20], h20))
 (aI (pu h20 (bA Tryd.prog .eql 3 true (aJ x15 2) (.int .i64 12))) fun v21 h21 =>
 bB v21
 (some (.normal, [(aJ x15 0), (aJ x15 1), (aJ x15 2), v21], h21))
 (aI (pu h21 (bA Tryd.prog .eql 3 true (aJ x15 2) (.int .i64 15))) fun v22 h22 =>
 some (.normal, [(aJ x15 0), (aJ x15 1), (aJ x15 2), v22], h22))))) fun e23 x23 h23 => iX e23
 (bB (aJ x23 3)
 (aI (aW (eD.f G k) [(aJ x23 0)] h23) fun v24 h24 =>
 aI (pu h24 (cH [(0, 1), (1, 1), (2, 1), (3, 1), (4, 1), (5, 1)] [(.str ⟨#[]⟩), (.bool false), (.bool false), (.bool false), (.bool false), (.bool false)] [(0, v24), (1, (.bool true)), (2, (.bool true)), (5, (.bool true))])) fun v25 h25 =>
 aI (gB (aV 6 (aJ x23 1) v25 h25)) fun v26 h26 =>
 some (.ret, [(aJ x23 1), (.bool true)], h26))
 (aI (pu h23 (bA Tryd.prog .eql 3 true (aJ x23 2) (.int .i64 14))) fun v27 h27 =>
 bB v27
 (aI (pu h27 (cH [(0, 1), (1, 1), (2, 1), (3, 1), (4, 1), (5, 1)] [(.str ⟨#[]⟩), (.bool false), (.bool false), (.bool false), (.bool false), (.bool false)] [(0, (.str ⟨#[115, 101, 108]⟩)), (1, (.bool true)), (2, (.bool true)), (3, (.bool true)), (4, (.bool true))])) fun v28 h28 =>
 aI (gB (aV 6 (aJ x23 1) v28 h28)) fun v29 h29 =>
 some (.ret, [(aJ x23 1), (.bool true)], h29))
 (aI (pu h27 (bA Tryd.prog .eql 3 true (aJ x23 2) (.int .i64 16))) fun v30 h30 =>
 bB v30
 (aI (pu h30 (cH [(0, 1), (1, 1), (2, 1), (3, 1), (4, 1), (5, 1)] [(.str ⟨#[]⟩), (.bool false), (.bool false), (.bool false), (.bool false), (.bool false)] [(0, (.str ⟨#[115, 116]⟩)), (2, (.bool true)), (3, (.bool true)), (5, (.bool true))])) fun v31 h31 =>
 aI (gB (aV 6 (aJ x23 1) v31 h31)) fun v32 h32 =>
 some (.ret, [(aJ x23 1), (.bool true)], h32))
 (eE (
 aI (pu h30 (bA Tryd.prog .eql 3 true (aJ x23 2) (.int .i64 17))) fun v33 h33 =>
 bB v33
 (some (.normal, [(aJ x23 0), (aJ x23 1), (aJ x23 2), v33], h33))
 (aI (pu h33 (bA Tryd.prog .eql 3 true (aJ x23 2) (.int .i64 20))) fun v34 h34 =>
 some (.normal, [(aJ x23 0), (aJ x23 1), (aJ x23 2), v34], h34))) fun e35 x35 h35 => iX e35
 (bB (aJ x35 3)
 (aI (aW (eD.f G k) [(aJ x35 0)] h35) fun v36 h36 =>
 aI (pu h36 (cH [(0, 1), (1, 1), (2, 1), (3, 1), (4, 1), (5, 1)] [(.str ⟨#[]⟩), (.bool false), (.bool false), (.bool false), (.bool false), (.bool false)] [(0, v36), (5, (.bool true))])) fun v37 h37 =>
 aI (gB (aV 6 (aJ x35 1) v37 h37)) fun v38 h38 =>
 some (.ret, [(aJ x35 1), (.bool true)], h38))
 (eE (
 aI (pu h35 (bA Tryd.prog .eql 3 true (aJ x35 2) (.int .i64 18))) fun v39 h39 =>
 bB v39
 (some (.normal, [(aJ x35 0), (aJ x35 1), v39], h39))
 (aI (pu h39 (bA Tryd.prog .eql 3 true (aJ x35 2) (.int .i64 19))) fun v40 h40 =>
 some (.normal, [(aJ x35 0), (aJ x35 1), v40], h40))) fun e41 x41 h41 => iX e41
 (bB (aJ x41 2)
 (aI (aW (eD.f G k) [(aJ x41 0)] h41) fun v42 h42 =>
 aI (pu h42 (cH [(0, 1), (1, 1), (2, 1), (3, 1), (4, 1), (5, 1)] [(.str ⟨#[]⟩), (.bool false), (.bool false), (.bool false), (.bool false), (.bool false)] [(0, v42), (2, (.bool true)), (5, (.bool true))])) fun v43 h43 =>
 aI (gB (aV 6 (aJ x41 1) v43 h43)) fun v44 h44 =>
 some (.ret, [(aJ x41 1), (.bool true)], h44))
 (some (.normal, [(aJ x41 1), .undef], h41)))
 (fun i41 => if i41 = 0 then (some (.normal, [(aJ x41 1), .undef], h41)) else (some (.exit i41, [(aJ x41 1), .undef], h41)))
 (some (.ret, [(aJ x41 1), .undef], h41))))
 (fun i35 => if i35 = 0 then (some (.normal, [(aJ x35 1), .undef], h35)) else (some (.exit i35, [(aJ x35 1), .undef], h35)))
 (some (.ret, [(aJ x35 1), .undef], h35))))))
 (fun i23 => if i23 = 0 then (some (.normal, [(aJ x23 1), .undef], h23)) else (some (.exit i23, [(aJ x23 1), .undef], h23)))
 (some (.ret, [(aJ x23 1), .undef], h23))))
 (fun i15 => if i15 = 0 then (some (.normal, [(aJ x15 1), .undef], h15)) else (some (.exit i15, [(aJ x15 1), .undef], h15)))
 (some (.ret, [(aJ x15 1), .undef], h15))))) fun e45 x45 h45 => iX e45
 (aI (pu h45 (cH [(0, 1), (1, 1), (2, 1), (3, 1), (4, 1), (5, 1)] [(.str ⟨#[]⟩), (.bool false), (.bool false), (.bool false), (.bool false), (.bool false)] [(0, (.str ⟨#[110, 111, 110, 101]⟩))])) fun v46 h46 =>
 aI (gB (aV 6 (aJ x45 0) v46 h46)) fun v47 h47 =>
 xA [aG G true 6 (aJ x45 0) h47, some (.bool false)] h.length h47)
 (fun i45 => none)
 (xA [aG G true 6 (aJ x45 0) h45, some (aJ x45 1)] h.length h45))
noncomputable def dO.f (G : aE) : Nat → cQ
 | 0 => fun _ _ => none
 | k + 1 => fun args h => nX args fun x0 => (dO.c G k (dO.f G k) x0 h)
theorem dO.step (G : aE) (k : Nat) (x0 : AV) (h : aA) : dO.f G (k + 1) [x0] h = dO.c G k (dO.f G k) x0 h := rfl
noncomputable def fG.ann : Ann := fY [] [] [] []
noncomputable def fG.env (G : aE) (k : Nat) (self : cQ) : List (Nat × Bool × cQ) := []
noncomputable def fG.c (G : aE) (k : Nat) (self : cQ) (x0 x1 : AV) (h : aA) : Option (AV × aA) := fJ (
 aI (cS x0 h) fun v0 h0 =>
 aI (cS x1 h0) fun v1 h1 =>
 aI (pu h1 (aB 1 v1)) fun v2 h2 =>
 aI (pu h2 (aG G false 1 v2 h2)) fun v3 h3 =>
 aI (pu h3 (aB 2 v1)) fun v4 h4 =>
 aI (pu h4 (aG G false 1 v4 h4)) fun v5 h5 =>
 aI (pu h5 (aB 3 v1)) fun v6 h6 =>
 aI (pu h6 (aG G false 1 v6 h6)) fun v7 h7 =>
 aI (pu h7 (aB 4 v1)) fun v8 h8 =>
 aI (pu h8 (aG G false 1 v8 h8)) fun v9 h9 =>
 aI (pu h9 (aB 5 v1)) fun v10 h10 =>
 aI (pu h10 (aG G false 1 v10 h10)) fun v11 h11 =>
 aI (bN 1 5 (.bool false) [(0, v3), (1, v5), (2, v7), (3, v9), (4, v11)] h11) fun v12 h12 =>
 aI (pu h12 (aB 1 v0)) fun v13 h13 =>
 aI (pu h13 (aG G false 1 v13 h13)) fun v14 h14 =>
 aI (pu h14 (aB 2 v0)) fun v15 h15 =>
 aI (pu h15 (aG G false 1 v15 h15)) fun v16 h16 =>
 aI (pu h16 (aB 3 v0)) fun v17 h17 =>
 aI (pu h17 (aG G false 1 v17 h17)) fun v18 h18 =>
 aI (pu h18 (aB 4 v0)) fun v19 h19 =>
 aI (pu h19 (aG G false 1 v19 h19)) fun v20 h20 =>
 aI (pu h20 (aB 5 v0)) fun v21 h21 =>
 aI (pu h21 (aG G false 1 v21 h21)) fun v22 h22 =>
 aI (bN 1 5 (.int .i64 0) [(0, v14), (1, v16), (2, v18), (3, v20), (4, v22)] h22) fun v23 h23 =>
 cP [v12, v23] h.length h23)
noncomputable def fG.f (G : aE) : Nat → cQ
 | 0 => fun _ _ => none
 | k + 1 => fun args h => mV args fun x0 x1 => (fG.c G k (fG.f G k) x0 x1 h)
noncomputable def cK.ann : Ann := fY [] [] [(12, [2, 3, 4, 8, 53, 54, 55]), (6, [2, 3, 4, 7, 8, 28])] [(33, [3, 4, 12]), (31, [2, 3, 12, 82]), (27, [2, 3, 12, 72, 79]), (22, [2, 3, 12, 72, 73])]
noncomputable def cK.env (G : aE) (k : Nat) (self : cQ) : List (Nat × Bool × cQ) := [(51, true, dO.f G k), (95, true, fG.f G k)]
noncomputable def cK.l6 (G : aE) (k n0 : Nat) (self : cQ) (lp : eU) : eU := fun xs h0 => jL n0 xs h0 fun h =>
 aI (pu h (bA Tryd.prog .lss 3 true (aJ xs 5) (.int .i64 4))) fun v17 h17 =>
 bB v17
 (aI (pu h17 (aF 1 (aJ xs 3) (aJ xs 5))) fun v18 h18 =>
 aI (pu h18 (aG G false 1 v18 h18)) fun v19 h19 =>
 aI (gd v19 true h19 (some ((aJ xs 4), h19))) fun v20 h20 =>
 aI (gd v19 true h20 (some ((aJ xs 5), h20))) fun v21 h21 =>
 aI (gd v19 true h21 (pu h21 (aF 1 v20 v21))) fun v22 h22 =>
 aI (gd v19 true h22 (pu h22 (aG G false 1 v22 h22))) fun v23 h23 =>
 aI (gd v19 true h23 (pu h23 (bA Tryd.prog .lss 2 true v23 (.int .i64 0)))) fun v24 h24 =>
 aI (gd v19 true h24 (some (v24, h24))) fun v25 h25 =>
 aI (gd v25 false h25 (some ((aJ xs 4), h25))) fun v26 h26 =>
 aI (gd v25 false h26 (some ((aJ xs 5), h26))) fun v27 h27 =>
 aI (gd v25 false h27 (pu h27 (aF 1 v26 v27))) fun v28 h28 =>
 aI (gd v25 false h28 (pu h28 (aG G false 1 v28 h28))) fun v29 h29 =>
 aI (gd v25 false h29 (pu h29 (aB 1 (aJ xs 0)))) fun v30 h30 =>
 aI (gd v25 false h30 (pu h30 (aG G false 1 v30 h30))) fun v31 h31 =>
 aI (gd v25 false h31 (pu h31 (bA Tryd.prog .geq 2 false v29 v31))) fun v32 h32 =>
 aI (gd v19 true h32 (pu h32 (fW v25 (.bool true) v32))) fun v33 h33 =>
 aI (pu h33 (fW v19 v33 (.bool false))) fun v34 h34 =>
 bB v34
 (aI (pu h34 (aG G false 1 (.gl 0) h34)) fun v35 h35 =>
 some (.ret, [(aJ xs 0), (aJ xs 1), v35, (aJ xs 3), (aJ xs 4), (aJ xs 5)], h35))
 (aI (pu h34 (bA Tryd.prog .add 3 true (aJ xs 5) (.int .i64 1))) fun v36 h36 =>
 lp [(aJ xs 0), (aJ xs 1), (aJ xs 2), (aJ xs 3), (aJ xs 4), v36] h36))
 (some (.exit 0, [(aJ xs 0), (aJ xs 1), (aJ xs 2), (aJ xs 3), (aJ xs 4), (aJ xs 5)], h17))
noncomputable def cK.l12 (G : aE) (k n0 : Nat) (self : cQ) (lp : eU) : eU := fun xs h0 => jL n0 xs h0 fun h =>
 aI (pu h (bA Tryd.prog .lss 3 false (aJ xs 6) (aJ xs 5))) fun v39 h39 =>
 bB v39
 (aI (pu h39 (aF 1 (aJ xs 4) (aJ xs 6))) fun v40 h40 =>
 aI (pu h40 (aG G false 1 v40 h40)) fun v41 h41 =>
 aI (pu h41 (un .not v41)) fun v42 h42 =>
 aI (gd v42 true h42 (some ((aJ xs 3), h42))) fun v43 h43 =>
 aI (gd v42 true h43 (some ((aJ xs 6), h43))) fun v44 h44 =>
 aI (gd v42 true h44 (pu h44 (aF 1 v43 v44))) fun v45 h45 =>
 aI (gd v42 true h45 (pu h45 (aG G false 1 v45 h45))) fun v46 h46 =>
 aI (gd v42 true h46 (pu h46 (bA Tryd.prog .neq 2 true v46 (.int .i64 0)))) fun v47 h47 =>
 aI (pu h47 (fW v42 v47 (.bool false))) fun v48 h48 =>
 bB v48
 (aI (pu h48 (aG G false 1 (.gl 4) h48)) fun v49 h49 =>
 some (.ret, [(aJ xs 0), (aJ xs 1), v49, (aJ xs 3), (aJ xs 4), (aJ xs 5), (aJ xs 6)], h49))
 (aI (pu h48 (bA Tryd.prog .add 3 true (aJ xs 6) (.int .i64 1))) fun v50 h50 =>
 lp [(aJ xs 0), (aJ xs 1), (aJ xs 2), (aJ xs 3), (aJ xs 4), (aJ xs 5), v50] h50))
 (some (.exit 2, [(aJ xs 0), (aJ xs 1), (aJ xs 2), (aJ xs 3), (aJ xs 4), (aJ xs 5), (aJ xs 6)], h39))
noncomputable def cK.c (G : aE) (k : Nat) (self : cQ) (x0 x1 : AV) (h : aA) : Option (AV × aA) := fJ (
 aI (cS x0 h) fun v0 h0 =>
 aI (cS x1 h0) fun v1 h1 =>
 aI (pu h1 (aB 0 v1)) fun v2 h2 =>
 aI (pu h2 (aG G false 1 v2 h2)) fun v3 h3 =>
 aI (aW (dO.f G k) [v3] h3) fun v4 h4 =>
 aI (pu h4 (bD v4 0)) fun v5 h5 =>
 aI (pu h5 (bD v4 1)) fun v6 h6 =>
 aI (eO 100 (.agg [(.str ⟨#[]⟩), (.bool false), (.bool false), (.bool false), (.bool false), (.bool false)]) h6) fun v7 h7 =>
 aI (gB (aV 6 v7 v5 h7)) fun v8 h8 =>
 aI (pu h8 (un .not v6)) fun v9 h9 =>
 bB v9
 (aI (pu h9 (aG G false 1 (.gl 3) h9)) fun v10 h10 =>
 cP [v10] h.length h10)
 (aI (pu h9 (aG G true 6 v1 h9)) fun v11 h11 =>
 aI (pu h11 (aG G true 6 v7 h11)) fun v12 h12 =>
 aI (aW (fG.f G k) [v11, v12] h12) fun v13 h13 =>
 aI (pu h13 (bD v13 0)) fun v14 h14 =>
 aI (pu h14 (bD v13 1)) fun v15 h15 =>
 eE (cM (cK.l6 G k h15.length self) k [v0, v1, .nili, v14, v15, (.int .i64 0)] h15) fun e16 x16 h16 => iX e16
 (none)
 (fun i16 => if i16 = 0 then (aI (pu h16 (bE (aJ x16 3))) fun v37 h37 =>
 eE (cM (cK.l12 G k h37.length self) k [(aJ x16 0), (aJ x16 1), (aJ x16 2), (aJ x16 4), (aJ x16 3), v37, (.int .i64 0)] h37) fun e38 x38 h38 => iX e38
 (none)
 (fun i38 => if i38 = 2 then (eE (
 aI (pu h38 (aB 0 (aJ x38 1))) fun v51 h51 =>
 aI (pu h51 (aG G false 1 v51 h51)) fun v52 h52 =>
 eE (
 aI (pu h52 (bA Tryd.prog .eql 3 true v52 (.int .i64 10))) fun v53 h53 =>
 bB v53
 (some (.normal, [(aJ x38 0), (aJ x38 1), (.int .i64 (-1)), v52, v53], h53))
 (aI (pu h53 (bA Tryd.prog .eql 3 true v52 (.int .i64 11))) fun v54 h54 =>
 bB v54
 (some (.normal, [(aJ x38 0), (aJ x38 1), (.int .i64 (-1)), v52, v54], h54))
 (aI (pu h54 (bA Tryd.prog .eql 3 true v52 (.int .i64 12))) fun v55 h55 =>
 some (.normal, [(aJ x38 0), (aJ x38 1), (.int .i64 (-1)), v52, v55], h55)))) fun e56 x56 h56 => iX e56
 (bB (aJ x56 4)
 (some (.normal, [(aJ x56 1), .undef, (.int .i64 63)], h56))
 (aI (pu h56 (bA Tryd.prog .eql 3 true (aJ x56 3) (.int .i64 20))) fun v57 h57 =>
 bB v57
 (some (.normal, [(aJ x56 1), .undef, (.int .i64 2)], h57))
 (eE (
 aI (pu h57 (bA Tryd.prog .eql 3 true (aJ x56 3) (.int .i64 15))) fun v58 h58 =>
 bB v58
 (some (.normal, [(aJ x56 0), (aJ x56 1), (aJ x56 2), (aJ x56 3), v58], h58))
 (aI (pu h58 (bA Tryd.prog .eql 3 true (aJ x56 3) (.int .i64 16))) fun v59 h59 =>
 some (.normal, [(aJ x56 0), (aJ x56 1), (aJ x56 2), (aJ x56 3), v59], h59))) fun e60 x60 h60 => iX e60
 (bB (aJ x60 4)
 (some (.normal, [(aJ x60 1), .undef, (.int .i64 65535)], h60))
 (eE (
 aI (pu h60 (bA Tryd.prog .eql 3 true (aJ x60 3) (.int .i64 17))) fun v61 h61 =>
 bB v61
 (some (.normal, [(aJ x60 0), (aJ x60 1), (aJ x60 2), v61], h61))
 (aI (pu h61 (bA Tryd.prog .eql 3 true (aJ x60 3) (.int .i64 18))) fun v62 h62 =>
 bB v62
 (some (.normal, [(aJ x60 0), (aJ x60 1), (aJ x60 2), v62], h62))
 (aI (pu h62 (bA Tryd.prog .eql 3 true (aJ x60 3) (.int .i64 19))) fun v63 h63 =>
 some (.normal, [(aJ x60 0), (aJ x60 1), (aJ x60 2), v63], h63)))) fun e64 x64 h64 => iX e64
 (bB (aJ x64 3)
 (aI (pu h64 (aB 5 (aJ x64 1))) fun v65 h65 =>
 aI (pu h65 (aG G false 1 v65 h65)) fun v66 h66 =>
 aI (pu h66 (bA Tryd.prog .lss 2 true v66 (.int .i64 0))) fun v67 h67 =>
 aI (gd v67 false h67 (pu h67 (aB 5 (aJ x64 1)))) fun v68 h68 =>
 aI (gd v67 false h68 (pu h68 (aG G false 1 v68 h68))) fun v69 h69 =>
 aI (gd v67 false h69 (pu h69 (aB 0 (aJ x64 0)))) fun v70 h70 =>
 aI (gd v67 false h70 (pu h70 (aG G false 1 v70 h70))) fun v71 h71 =>
 aI (gd v67 false h71 (pu h71 (bE v71))) fun v72 h72 =>
 aI (gd v67 false h72 (pu h72 (bA Tryd.prog .gtr 2 false v69 v72))) fun v73 h73 =>
 aI (pu h73 (fW v67 (.bool true) v73)) fun v74 h74 =>
 bB v74
 (aI (pu h74 (aG G false 1 (.gl 5) h74)) fun v75 h75 =>
 some (.ret, [(aJ x64 1), v75, (aJ x64 2)], h75))
 (some (.normal, [(aJ x64 1), .undef, (aJ x64 2)], h74)))
 (some (.normal, [(aJ x64 1), .undef, (aJ x64 2)], h64)))
 (fun i64 => if i64 = 4 then (some (.normal, [(aJ x64 1), .undef, (aJ x64 2)], h64)) else (some (.exit i64, [(aJ x64 1), .undef, (aJ x64 2)], h64)))
 (some (.ret, [(aJ x64 1), .undef, (aJ x64 2)], h64))))
 (fun i60 => if i60 = 4 then (some (.normal, [(aJ x60 1), .undef, (aJ x60 2)], h60)) else (some (.exit i60, [(aJ x60 1), .undef, (aJ x60 2)], h60)))
 (some (.ret, [(aJ x60 1), .undef, (aJ x60 2)], h60)))))
 (fun i56 => if i56 = 4 then (some (.normal, [(aJ x56 1), .undef, (aJ x56 2)], h56)) else (some (.exit i56, [(aJ x56 1), .undef, (aJ x56 2)], h56)))
 (some (.ret, [(aJ x56 1), .undef, (aJ x56 2)], h56))) fun e76 x76 h76 => iX e76
 (aI (pu h76 (bA Tryd.prog .geq 2 true (aJ x76 2) (.int .i64 0))) fun v77 h77 =>
 aI (gd v77 true h77 (pu h77 (aB 5 (aJ x76 0)))) fun v78 h78 =>
 aI (gd v77 true h78 (pu h78 (aG G false 1 v78 h78))) fun v79 h79 =>
 aI (gd v77 true h79 (pu h79 (bA Tryd.prog .lss 2 true v79 (.int .i64 0)))) fun v80 h80 =>
 aI (gd v77 true h80 (some (v80, h80))) fun v81 h81 =>
 aI (gd v81 false h81 (pu h81 (aB 5 (aJ x76 0)))) fun v82 h82 =>
 aI (gd v81 false h82 (pu h82 (aG G false 1 v82 h82))) fun v83 h83 =>
 aI (gd v81 false h83 (some ((aJ x76 2), h83))) fun v84 h84 =>
 aI (gd v81 false h84 (pu h84 (bA Tryd.prog .gtr 2 false v83 v84))) fun v85 h85 =>
 aI (gd v77 true h85 (pu h85 (fW v81 (.bool true) v85))) fun v86 h86 =>
 aI (pu h86 (fW v77 v86 (.bool false))) fun v87 h87 =>
 bB v87
 (aI (pu h87 (aG G false 1 (.gl 0) h87)) fun v88 h88 =>
 cP [v88] h.length h88)
 (cP [.nili] h.length h87))
 (fun i76 => none)
 (cP [(aJ x76 1)] h.length h76)) else (none))
 (cP [(aJ x38 2)] h.length h38)) else (none))
 (cP [(aJ x16 2)] h.length h16)))
noncomputable def cK.f (G : aE) : Nat → cQ
 | 0 => fun _ _ => none
 | k + 1 => fun args h => mV args fun x0 x1 => (cK.c G k (cK.f G k) x0 x1 h)
theorem cK.step (G : aE) (k : Nat) (x0 x1 : AV) (h : aA) : cK.f G (k + 1) [x0, x1] h = cK.c G k (cK.f G k) x0 x1 h := rfl
noncomputable def cG.ann : Ann := fY [] [] [(6, [1, 2, 33, 34, 35])] []
noncomputable def cG.env (G : aE) (k : Nat) (self : cQ) : List (Nat × Bool × cQ) := [(72, true, cK.f G k)]
noncomputable def cG.l6 (G : aE) (k n0 : Nat) (self : cQ) (lp : eU) : eU := fun xs h0 => jL n0 xs h0 fun h =>
 aI (pu h (bA Tryd.prog .lss 3 false (aJ xs 4) (aJ xs 3))) fun v26 h26 =>
 bB v26
 (aI (pu h26 (aF 6 (aJ xs 2) (aJ xs 4))) fun v27 h27 =>
 aI (pu h27 (aG G true 6 v27 h27)) fun v28 h28 =>
 aI (eO 29 (.agg [(.int .i64 0), (.int .i64 0), (.int .i64 0), (.int .i64 0), (.int .i64 0), (.int .i64 0)]) h28) fun v29 h29 =>
 aI (gB (aV 6 v29 v28 h29)) fun v30 h30 =>
 aI (pu h30 (aG G true 3 (aJ xs 0) h30)) fun v31 h31 =>
 aI (pu h31 (aG G true 6 v29 h31)) fun v32 h32 =>
 aI (aW (cK.f G k) [v31, v32] h32) fun v33 h33 =>
 aI (pu h33 (bA Tryd.prog .neq 33 true v33 .nili)) fun v34 h34 =>
 bB v34
 (aI (pu h34 (cH [(0, 1), (1, 1)] [(.int .i64 0), .nili] [(0, (aJ xs 4)), (1, v33)])) fun v35 h35 =>
 aI (cS v35 h35) fun v36 h36 =>
 some (.ret, [(aJ xs 0), (.iface 126 v36), (aJ xs 2), (aJ xs 3), (aJ xs 4)], h36))
 (aI (pu h34 (bA Tryd.prog .add 3 true (aJ xs 4) (.int .i64 1))) fun v37 h37 =>
 lp [(aJ xs 0), (aJ xs 1), (aJ xs 2), (aJ xs 3), v37] h37))
 (some (.exit 1, [(aJ xs 0), (aJ xs 1), (aJ xs 2), (aJ xs 3), (aJ xs 4)], h26))
noncomputable def cG.c (G : aE) (k : Nat) (self : cQ) (x0 : AV) (h : aA) : Option (AV × aA) := fJ (
 aI (cS x0 h) fun v0 h0 =>
 aI (pu h0 (aB 0 v0)) fun v1 h1 =>
 aI (pu h1 (aG G false 1 v1 h1)) fun v2 h2 =>
 aI (pu h2 (bE v2)) fun v3 h3 =>
 aI (pu h3 (bA Tryd.prog .gtr 3 true v3 (.int .i64 262144))) fun v4 h4 =>
 bB v4
 (aI (pu h4 (aG G false 1 (.gl 1) h4)) fun v5 h5 =>
 cP [v5] h.length h5)
 (aI (pu h4 (aB 1 v0)) fun v6 h6 =>
 aI (pu h6 (aG G false 1 v6 h6)) fun v7 h7 =>
 aI (pu h7 (bA Tryd.prog .lss 3 true v7 (.int .i64 0))) fun v8 h8 =>
 aI (gd v8 false h8 (pu h8 (aB 1 v0))) fun v9 h9 =>
 aI (gd v8 false h9 (pu h9 (aG G false 1 v9 h9))) fun v10 h10 =>
 aI (gd v8 false h10 (pu h10 (bA Tryd.prog .gtr 3 true v10 (.int .i64 65536)))) fun v11 h11 =>
 aI (pu h11 (fW v8 (.bool true) v11)) fun v12 h12 =>
 aI (gd v12 false h12 (pu h12 (aB 2 v0))) fun v13 h13 =>
 aI (gd v12 false h13 (pu h13 (aG G false 1 v13 h13))) fun v14 h14 =>
 aI (gd v12 false h14 (pu h14 (bA Tryd.prog .lss 3 true v14 (.int .i64 0)))) fun v15 h15 =>
 aI (pu h15 (fW v12 (.bool true) v15)) fun v16 h16 =>
 aI (gd v16 false h16 (pu h16 (aB 2 v0))) fun v17 h17 =>
 aI (gd v16 false h17 (pu h17 (aG G false 1 v17 h17))) fun v18 h18 =>
 aI (gd v16 false h18 (pu h18 (bA Tryd.prog .gtr 3 true v18 (.int .i64 65536)))) fun v19 h19 =>
 aI (pu h19 (fW v16 (.bool true) v19)) fun v20 h20 =>
 bB v20
 (aI (pu h20 (aG G false 1 (.gl 1) h20)) fun v21 h21 =>
 cP [v21] h.length h21)
 (aI (pu h20 (aB 0 v0)) fun v22 h22 =>
 aI (pu h22 (aG G false 1 v22 h22)) fun v23 h23 =>
 aI (pu h23 (bE v23)) fun v24 h24 =>
 eE (cM (cG.l6 G k h24.length self) k [v0, .nili, v23, v24, (.int .i64 0)] h24) fun e25 x25 h25 => iX e25
 (none)
 (fun i25 => if i25 = 1 then (cP [.nili] h.length h25) else (none))
 (cP [(aJ x25 1)] h.length h25))))
noncomputable def cG.f (G : aE) : Nat → cQ
 | 0 => fun _ _ => none
 | k + 1 => fun args h => nX args fun x0 => (cG.c G k (cG.f G k) x0 h)
theorem cG.step (G : aE) (k : Nat) (x0 : AV) (h : aA) : cG.f G (k + 1) [x0] h = cG.c G k (cG.f G k) x0 h := rfl
noncomputable def dD.ann : Ann := fY [] [] [] []
noncomputable def dD.env (G : aE) (k : Nat) (self : cQ) : List (Nat × Bool × cQ) := [(51, true, dO.f G k)]
noncomputable def dD.c (G : aE) (k : Nat) (self : cQ) (x0 : AV) (h : aA) : Option (AV × aA) := fJ (
 aI (cS x0 h) fun v0 h0 =>
 aI (pu h0 (aB 0 v0)) fun v1 h1 =>
 aI (pu h1 (aG G false 1 v1 h1)) fun v2 h2 =>
 aI (aW (dO.f G k) [v2] h2) fun v3 h3 =>
 aI (pu h3 (bD v3 0)) fun v4 h4 =>
 aI (pu h4 (bD v3 1)) fun v5 h5 =>
 aI (eO 100 (.agg [(.str ⟨#[]⟩), (.bool false), (.bool false), (.bool false), (.bool false), (.bool false)]) h5) fun v6 h6 =>
 aI (gB (aV 6 v6 v4 h6)) fun v7 h7 =>
 aI (pu h7 (aB 1 v6)) fun v8 h8 =>
 aI (pu h8 (aG G false 1 v8 h8)) fun v9 h9 =>
 aI (pu h9 (un .not v9)) fun v10 h10 =>
 bB v10
 (cP [(.int .i64 0), (.bool false)] h.length h10)
 (aI (pu h10 (aB 1 v0)) fun v11 h11 =>
 aI (pu h11 (aG G false 1 v11 h11)) fun v12 h12 =>
 cP [v12, (.bool true)] h.length h12))
noncomputable def dD.f (G : aE) : Nat → cQ
 | 0 => fun _ _ => none
 | k + 1 => fun args h => nX args fun x0 => (dD.c G k (dD.f G k) x0 h)
theorem dD.step (G : aE) (k : Nat) (x0 : AV) (h : aA) : dD.f G (k + 1) [x0] h = dD.c G k (dD.f G k) x0 h := rfl
noncomputable def bL.ann : Ann := fY [] [] [] []
noncomputable def bL.env (G : aE) (k : Nat) (self : cQ) : List (Nat × Bool × cQ) := []
noncomputable def bL.c (G : aE) (k : Nat) (self : cQ) (x0 : AV) (h : aA) : Option (AV × aA) := fJ (
 aI (pu h (bA Tryd.prog .neq 3 false x0 x0)) fun v0 h0 =>
 cP [v0] h.length h0)
noncomputable def bL.f (G : aE) : Nat → cQ
 | 0 => fun _ _ => none
 | k + 1 => fun args h => nX args fun x0 => (bL.c G k (bL.f G k) x0 h)
theorem bL.step (G : aE) (k : Nat) (x0 : AV) (h : aA) : bL.f G (k + 1) [x0] h = bL.c G k (bL.f G k) x0 h := rfl
noncomputable def bS.ann : Ann := fY [] [] [] []
noncomputable def bS.env (G : aE) (k : Nat) (self : cQ) : List (Nat × Bool × cQ) := [(120, true, bL.f G k)]
noncomputable def bS.c (G : aE) (k : Nat) (self : cQ) (x0 x1 : AV) (h : aA) : Option (AV × aA) := fJ (
 aI (aW (bL.f G k) [x0] h) fun v0 h0 =>
 aI (gd v0 true h0 (some (x1, h0))) fun v1 h1 =>
 aI (gd v0 true h1 (aW (bL.f G k) [v1] h1)) fun v2 h2 =>
 aI (gd v0 true h2 (pu h2 (un .not v2))) fun v3 h3 =>
 aI (pu h3 (fW v0 v3 (.bool false))) fun v4 h4 =>
 aI (gd v4 false h4 (some (x0, h4))) fun v5 h5 =>
 aI (gd v4 false h5 (some (x1, h5))) fun v6 h6 =>
 aI (gd v4 false h6 (pu h6 (bA Tryd.prog .lss 3 false v5 v6))) fun v7 h7 =>
 aI (pu h7 (fW v4 (.bool true) v7)) fun v8 h8 =>
 cP [v8] h.length h8)
noncomputable def bS.f (G : aE) : Nat → cQ
 | 0 => fun _ _ => none
 | k + 1 => fun args h => mV args fun x0 x1 => (bS.c G k (bS.f G k) x0 x1 h)
theorem bS.step (G : aE) (k : Nat) (x0 x1 : AV) (h : aA) : bS.f G (k + 1) [x0, x1] h = bS.c G k (bS.f G k) x0 x1 h := rfl
noncomputable def aD.ann : Ann := fY [] [] [(4, [0, 1, 2, 6, 7]), (1, [0, 1, 2, 6])] []
noncomputable def aD.env (G : aE) (k : Nat) (self : cQ) : List (Nat × Bool × cQ) := [(103, true, bS.f G k)]
noncomputable def aD.l4 (G : aE) (k n0 : Nat) (self : cQ) (lp : eU) : eU := fun xs h0 => jL n0 xs h0 fun h =>
 aI (pu h (bA Tryd.prog .gtr 3 false (aJ xs 4) (aJ xs 1))) fun v4 h4 =>
 aI (gd v4 true h4 (some ((aJ xs 0), h4))) fun v5 h5 =>
 aI (gd v4 true h5 (some ((aJ xs 4), h5))) fun v6 h6 =>
 aI (gd v4 true h6 (pu h6 (aF 1 v5 v6))) fun v7 h7 =>
 aI (gd v4 true h7 (pu h7 (aG G false 1 v7 h7))) fun v8 h8 =>
 aI (gd v4 true h8 (some ((aJ xs 0), h8))) fun v9 h9 =>
 aI (gd v4 true h9 (some ((aJ xs 4), h9))) fun v10 h10 =>
 aI (gd v4 true h10 (pu h10 (bA Tryd.prog .sub 3 true v10 (.int .i64 1)))) fun v11 h11 =>
 aI (gd v4 true h11 (pu h11 (aF 1 v9 v11))) fun v12 h12 =>
 aI (gd v4 true h12 (pu h12 (aG G false 1 v12 h12))) fun v13 h13 =>
 aI (gd v4 true h13 (aW (bS.f G k) [v8, v13] h13)) fun v14 h14 =>
 aI (pu h14 (fW v4 v14 (.bool false))) fun v15 h15 =>
 bB v15
 (aI (pu h15 (bA Tryd.prog .sub 3 true (aJ xs 4) (.int .i64 1))) fun v16 h16 =>
 aI (pu h16 (bA Tryd.prog .sub 3 true (aJ xs 4) (.int .i64 1))) fun v17 h17 =>
 aI (pu h17 (aF 1 (aJ xs 0) v17)) fun v18 h18 =>
 aI (pu h18 (aG G false 1 v18 h18)) fun v19 h19 =>
 aI (pu h19 (aF 1 (aJ xs 0) (aJ xs 4))) fun v20 h20 =>
 aI (pu h20 (aG G false 1 v20 h20)) fun v21 h21 =>
 aI (pu h21 (aF 1 (aJ xs 0) (aJ xs 4))) fun v22 h22 =>
 aI (gB (aV 1 v22 v19 h22)) fun v23 h23 =>
 aI (pu h23 (aF 1 (aJ xs 0) v16)) fun v24 h24 =>
 aI (gB (aV 1 v24 v21 h24)) fun v25 h25 =>
 aI (pu h25 (bA Tryd.prog .sub 3 true (aJ xs 4) (.int .i64 1))) fun v26 h26 =>
 lp [(aJ xs 0), (aJ xs 1), (aJ xs 2), (aJ xs 3), v26] h26)
 (some (.exit 2, [(aJ xs 0), (aJ xs 1), (aJ xs 2), (aJ xs 3), (aJ xs 4)], h15))
noncomputable def aD.l1 (G : aE) (k n0 : Nat) (self : cQ) (lp : eU) : eU := fun xs h0 => jL n0 xs h0 fun h =>
 aI (pu h (bA Tryd.prog .lss 3 false (aJ xs 3) (aJ xs 2))) fun v2 h2 =>
 bB v2
 (eE (cM (aD.l4 G k h2.length self) k [(aJ xs 0), (aJ xs 1), (aJ xs 2), (aJ xs 3), (aJ xs 3)] h2) fun e3 x3 h3 => iX e3
 (none)
 (fun i3 => if i3 = 2 then (aI (pu h3 (bA Tryd.prog .add 3 true (aJ x3 3) (.int .i64 1))) fun v27 h27 =>
 lp [(aJ x3 0), (aJ x3 1), (aJ x3 2), v27] h27) else (if i3 = 1 then (aI (pu h3 (bA Tryd.prog .add 3 true (aJ x3 3) (.int .i64 1))) fun v28 h28 =>
 lp [(aJ x3 0), (aJ x3 1), (aJ x3 2), v28] h28) else (some (.exit i3, [(aJ x3 0), (aJ x3 1), (aJ x3 2), (aJ x3 3)], h3))))
 (some (.ret, [(aJ x3 0), (aJ x3 1), (aJ x3 2), (aJ x3 3)], h3)))
 (some (.exit 0, [(aJ xs 0), (aJ xs 1), (aJ xs 2), (aJ xs 3)], h2))
noncomputable def aD.c (G : aE) (k : Nat) (self : cQ) (x0 x1 x2 : AV) (h : aA) : Option (AV × aA) := fJ (
 aI (pu h (bA Tryd.prog .add 3 true x1 (.int .i64 1))) fun v0 h0 =>
 eE (cM (aD.l1 G k h0.length self) k [x0, x1, x2, v0] h0) fun e1 x1 h1 => iX e1
 (none)
 (fun i1 => if i1 = 0 then (cP [] h.length h1) else (none))
 (cP [] h.length h1))
noncomputable def aD.f (G : aE) : Nat → cQ
 | 0 => fun _ _ => none
 | k + 1 => fun args h => aBG args fun x0 x1 x2 => (aD.c G k (aD.f G k) x0 x1 x2 h)
theorem aD.step (G : aE) (k : Nat) (x0 x1 x2 : AV) (h : aA) : aD.f G (k + 1) [x0, x1, x2] h = aD.c G k (aD.f G k) x0 x1 x2 h := rfl
noncomputable def aK.ann : Ann := fY [] [] [(2, [0, 1, 2, 3, 8, 9])] [(17, [0, 1, 2, 3, 8, 9, 10, 11]), (15, [0, 1, 2, 3, 8, 9, 10, 11, 12]), (10, [0, 1, 2, 3, 8, 9, 10])]
noncomputable def aK.env (G : aE) (k : Nat) (self : cQ) : List (Nat × Bool × cQ) := [(87, false, self), (97, false, aD.f G k), (103, true, bS.f G k)]
noncomputable def aK.l2 (G : aE) (k n0 : Nat) (self : cQ) (lp : eU) : eU := fun xs h0 => jL n0 xs h0 fun h =>
 aI (pu h (bA Tryd.prog .sub 3 false (aJ xs 2) (aJ xs 1))) fun v1 h1 =>
 aI (pu h1 (bA Tryd.prog .leq 3 true v1 (.int .i64 12))) fun v2 h2 =>
 bB v2
 (aI (cZ (aD.f G k) [(aJ xs 0), (aJ xs 1), (aJ xs 2)] h2) fun v3 h3 =>
 some (.ret, [(aJ xs 0), (aJ xs 1), (aJ xs 2), (aJ xs 3), (aJ xs 4), (aJ xs 5)], h3))
 (aI (pu h2 (bA Tryd.prog .eql 3 true (aJ xs 3) (.int .i64 0))) fun v4 h4 =>
 bB v4
 (none)
 (eE (
 aI (pu h4 (un .not (aJ xs 4))) fun v5 h5 =>
 bB v5
 (none)
 (some (.normal, [(aJ xs 0), (aJ xs 1), (aJ xs 2), (aJ xs 3), (aJ xs 4), (aJ xs 5), v1], h5))) fun e6 x6 h6 => iX e6
 (none)
 (fun i6 => if i6 = 1 then (lp [(aJ x6 0), (aJ x6 1), (aJ x6 2), (aJ x6 3), (aJ x6 4), (aJ x6 5)] h6) else (some (.exit i6, [(aJ x6 0), (aJ x6 1), (aJ x6 2), (aJ x6 3), (aJ x6 4), (aJ x6 5)], h6)))
 (some (.ret, [(aJ x6 0), (aJ x6 1), (aJ x6 2), (aJ x6 3), (aJ x6 4), (aJ x6 5)], h6))))
noncomputable def aK.c (G : aE) (k : Nat) (self : cQ) (x0 x1 x2 x3 : AV) (h : aA) : Option (AV × aA) := fJ (
 eE (cM (aK.l2 G k h.length self) k [x0, x1, x2, x3, (.bool true), (.bool true)] h) fun e0 x0 h0 => iX e0
 (none)
 (fun i0 => if i0 = 0 then (cP [] h.length h0) else (none))
 (cP [] h.length h0))
noncomputable def aK.f (G : aE) : Nat → cQ
 | 0 => fun _ _ => none
 | k + 1 => fun args h => aFE args fun x0 x1 x2 x3 => (aK.c G k (aK.f G k) x0 x1 x2 x3 h)
theorem aK.step (G : aE) (k : Nat) (x0 x1 x2 x3 : AV) (h : aA) : aK.f G (k + 1) [x0, x1, x2, x3] h = aK.c G k (aK.f G k) x0 x1 x2 x3 h := rfl
def dB.s0 : ByteArray := ⟨#[0, 1, 2, 2, 3, 3, 3, 3, 4, 4, 4, 4, 4, 4, 4, 4, 5, 5, 5, 5, 5, 5, 5, 5, 5, 5, 5, 5, 5, 5, 5, 5, 6, 6, 6, 6, 6, 6, 6, 6, 6, 6, 6, 6, 6, 6, 6, 6, 6, 6, 6, 6, 6, 6, 6, 6, 6, 6, 6, 6, 6, 6, 6, 6, 7, 7, 7, 7, 7, 7, 7, 7, 7, 7, 7, 7, 7, 7, 7, 7, 7, 7, 7, 7, 7, 7, 7, 7, 7, 7, 7, 7, 7, 7, 7, 7, 7, 7, 7, 7, 7, 7, 7, 7, 7, 7, 7, 7, 7, 7, 7, 7, 7, 7, 7, 7, 7, 7, 7, 7, 7, 7, 7, 7, 7, 7, 7, 7, 8, 8, 8, 8, 8, 8, 8, 8, 8, 8, 8, 8, 8, 8, 8, 8, 8, 8, 8, 8, 8, 8, 8, 8, 8, 8, 8, 8, 8, 8, 8, 8, 8, 8, 8, 8, 8, 8, 8, 8, 8, 8, 8, 8, 8, 8, 8, 8, 8, 8, 8, 8, 8, 8, 8, 8, 8, 8, 8, 8, 8, 8, 8, 8, 8, 8, 8, 8, 8, 8, 8, 8, 8, 8, 8, 8, 8, 8, 8, 8, 8, 8, 8, 8, 8, 8, 8, 8, 8, 8, 8, 8, 8, 8, 8, 8, 8, 8, 8, 8, 8, 8, 8, 8, 8, 8, 8, 8, 8, 8, 8, 8, 8, 8, 8, 8, 8, 8, 8, 8, 8, 8, 8, 8, 8, 8, 8, 8]⟩
noncomputable def dB.ann : Ann := fY [] [] [] [(7, [0, 2]), (4, [0, 2])]
noncomputable def dB.env (G : aE) (k : Nat) (self : cQ) : List (Nat × Bool × cQ) := []
noncomputable def dB.c (G : aE) (k : Nat) (self : cQ) (x0 : AV) (h : aA) : Option (AV × aA) := fJ (
 eE (
 aI (pu h (bA Tryd.prog .geq 161 true x0 (.int .u32 65536))) fun v0 h0 =>
 bB v0
 (aI (pu h0 (bA Tryd.prog .shr 161 true x0 (.int .u64 16))) fun v1 h1 =>
 some (.normal, [v1, (.int .i64 16)], h1))
 (some (.normal, [x0, (.int .i64 0)], h0))) fun e2 x2 h2 => iX e2
 (eE (
 aI (pu h2 (bA Tryd.prog .geq 161 true (aJ x2 0) (.int .u32 256))) fun v3 h3 =>
 bB v3
 (aI (pu h3 (bA Tryd.prog .shr 161 true (aJ x2 0) (.int .u64 8))) fun v4 h4 =>
 aI (pu h4 (bA Tryd.prog .add 3 true (aJ x2 1) (.int .i64 8))) fun v5 h5 =>
 some (.normal, [v4, v5], h5))
 (some (.normal, [(aJ x2 0), (aJ x2 1)], h3))) fun e6 x6 h6 => iX e6
 (aI (pu h6 (fH .u8 (aJ x6 0))) fun v7 h7 =>
 aI (pu h7 (aAN (.str dB.s0) v7)) fun v8 h8 =>
 aI (pu h8 (fH .i64 v8)) fun v9 h9 =>
 aI (pu h9 (bA Tryd.prog .add 3 false (aJ x6 1) v9)) fun v10 h10 =>
 cP [v10] h.length h10)
 (fun i6 => none)
 (cP [(aJ x6 1)] h.length h6))
 (fun i2 => none)
 (cP [(aJ x2 1)] h.length h2))
noncomputable def dB.f (G : aE) : Nat → cQ
 | 0 => fun _ _ => none
 | k + 1 => fun args h => nX args fun x0 => (dB.c G k (dB.f G k) x0 h)
def dC.s0 : ByteArray := ⟨#[0, 1, 2, 2, 3, 3, 3, 3, 4, 4, 4, 4, 4, 4, 4, 4, 5, 5, 5, 5, 5, 5, 5, 5, 5, 5, 5, 5, 5, 5, 5, 5, 6, 6, 6, 6, 6, 6, 6, 6, 6, 6, 6, 6, 6, 6, 6, 6, 6, 6, 6, 6, 6, 6, 6, 6, 6, 6, 6, 6, 6, 6, 6, 6, 7, 7, 7, 7, 7, 7, 7, 7, 7, 7, 7, 7, 7, 7, 7, 7, 7, 7, 7, 7, 7, 7, 7, 7, 7, 7, 7, 7, 7, 7, 7, 7, 7, 7, 7, 7, 7, 7, 7, 7, 7, 7, 7, 7, 7, 7, 7, 7, 7, 7, 7, 7, 7, 7, 7, 7, 7, 7, 7, 7, 7, 7, 7, 7, 8, 8, 8, 8, 8, 8, 8, 8, 8, 8, 8, 8, 8, 8, 8, 8, 8, 8, 8, 8, 8, 8, 8, 8, 8, 8, 8, 8, 8, 8, 8, 8, 8, 8, 8, 8, 8, 8, 8, 8, 8, 8, 8, 8, 8, 8, 8, 8, 8, 8, 8, 8, 8, 8, 8, 8, 8, 8, 8, 8, 8, 8, 8, 8, 8, 8, 8, 8, 8, 8, 8, 8, 8, 8, 8, 8, 8, 8, 8, 8, 8, 8, 8, 8, 8, 8, 8, 8, 8, 8, 8, 8, 8, 8, 8, 8, 8, 8, 8, 8, 8, 8, 8, 8, 8, 8, 8, 8, 8, 8, 8, 8, 8, 8, 8, 8, 8, 8, 8, 8, 8, 8, 8, 8, 8, 8, 8, 8]⟩
noncomputable def dC.ann : Ann := fY [] [] [] [(10, [0, 2]), (7, [0, 2]), (4, [0, 2])]
noncomputable def dC.env (G : aE) (k : Nat) (self : cQ) : List (Nat × Bool × cQ) := []
noncomputable def dC.c (G : aE) (k : Nat) (self : cQ) (x0 : AV) (h : aA) : Option (AV × aA) := fJ (
 eE (
 aI (pu h (bA Tryd.prog .geq 30 true x0 (.int .u64 4294967296))) fun v0 h0 =>
 bB v0
 (aI (pu h0 (bA Tryd.prog .shr 30 true x0 (.int .u64 32))) fun v1 h1 =>
 some (.normal, [v1, (.int .i64 32)], h1))
 (some (.normal, [x0, (.int .i64 0)], h0))) fun e2 x2 h2 => iX e2
 (eE (
 aI (pu h2 (bA Tryd.prog .geq 30 true (aJ x2 0) (.int .u64 65536))) fun v3 h3 =>
 bB v3
 (aI (pu h3 (bA Tryd.prog .shr 30 true (aJ x2 0) (.int .u64 16))) fun v4 h4 =>
 aI (pu h4 (bA Tryd.prog .add 3 true (aJ x2 1) (.int .i64 16))) fun v5 h5 =>
 some (.normal, [v4, v5], h5))
 (some (.normal, [(aJ x2 0), (aJ x2 1)], h3))) fun e6 x6 h6 => iX e6
 (eE (
 aI (pu h6 (bA Tryd.prog .geq 30 true (aJ x6 0) (.int .u64 256))) fun v7 h7 =>
 bB v7
 (aI (pu h7 (bA Tryd.prog .shr 30 true (aJ x6 0) (.int .u64 8))) fun v8 h8 =>
 aI (pu h8 (bA Tryd.prog .add 3 true (aJ x6 1) (.int .i64 8))) fun v9 h9 =>
 some (.normal, [v8, v9], h9))
 (some (.normal, [(aJ x6 0), (aJ x6 1)], h7))) fun e10 x10 h10 => iX e10
 (aI (pu h10 (fH .u8 (aJ x10 0))) fun v11 h11 =>
 aI (pu h11 (aAN (.str dC.s0) v11)) fun v12 h12 =>
 aI (pu h12 (fH .i64 v12)) fun v13 h13 =>
 aI (pu h13 (bA Tryd.prog .add 3 false (aJ x10 1) v13)) fun v14 h14 =>
 cP [v14] h.length h14)
 (fun i10 => none)
 (cP [(aJ x10 1)] h.length h10))
 (fun i6 => none)
 (cP [(aJ x6 1)] h.length h6))
 (fun i2 => none)
 (cP [(aJ x2 1)] h.length h2))
noncomputable def dC.f (G : aE) : Nat → cQ
 | 0 => fun _ _ => none
 | k + 1 => fun args h => nX args fun x0 => (dC.c G k (dC.f G k) x0 h)
noncomputable def cY.ann : Ann := fY [] [] [] []
noncomputable def cY.env (G : aE) (k : Nat) (self : cQ) : List (Nat × Bool × cQ) := [(106, true, dB.f G k), (107, true, dC.f G k)]
noncomputable def cY.c (G : aE) (k : Nat) (self : cQ) (x0 : AV) (h : aA) : Option (AV × aA) := fJ (
 bB (.bool false)
 (aI (pu h (fH .u32 x0)) fun v0 h0 =>
 aI (aW (dB.f G k) [v0] h0) fun v1 h1 =>
 cP [v1] h.length h1)
 (aI (aW (dC.f G k) [x0] h) fun v2 h2 =>
 cP [v2] h.length h2))
noncomputable def cY.f (G : aE) : Nat → cQ
 | 0 => fun _ _ => none
 | k + 1 => fun args h => nX args fun x0 => (cY.c G k (cY.f G k) x0 h)
noncomputable def aS.ann : Ann := fY [] [] [] []
noncomputable def aS.env (G : aE) (k : Nat) (self : cQ) : List (Nat × Bool × cQ) := [(87, false, aK.f G k), (88, true, cY.f G k)]
noncomputable def aS.c (G : aE) (k : Nat) (self : cQ) (x0 : AV) (h : aA) : Option (AV × aA) := fJ (
 aI (pu h (bE x0)) fun v0 h0 =>
 aI (pu h0 (fH .u64 v0)) fun v1 h1 =>
 aI (aW (cY.f G k) [v1] h1) fun v2 h2 =>
 aI (cZ (aK.f G k) [x0, (.int .i64 0), v0, v2] h2) fun v3 h3 =>
 cP [] h.length h3)
noncomputable def aS.f (G : aE) : Nat → cQ
 | 0 => fun _ _ => none
 | k + 1 => fun args h => nX args fun x0 => (aS.c G k (aS.f G k) x0 h)
theorem aS.step (G : aE) (k : Nat) (x0 : AV) (h : aA) : aS.f G (k + 1) [x0] h = aS.c G k (aS.f G k) x0 h := rfl
noncomputable def aC.ann : Ann := fY [] [] [(9, [0, 3, 4, 5]), (4, [0, 2, 3])] [(10, [0, 3, 4, 5])]
noncomputable def aC.env (G : aE) (k : Nat) (self : cQ) : List (Nat × Bool × cQ) := []
noncomputable def aC.l9 (G : aE) (k n0 : Nat) (self : cQ) (lp : eU) : eU := fun xs h0 => jL n0 xs h0 fun h =>
 aI (pu h (bE (aJ xs 2))) fun v13 h13 =>
 aI (pu h13 (bA Tryd.prog .lss 3 false (aJ xs 3) v13)) fun v14 h14 =>
 bB v14
 (eE (
 aI (pu h14 (aF 1 (aJ xs 2) (aJ xs 3))) fun v15 h15 =>
 aI (pu h15 (aG G false 1 v15 h15)) fun v16 h16 =>
 aI (pu h16 (bA Tryd.prog .sub 3 true (aJ xs 3) (.int .i64 1))) fun v17 h17 =>
 aI (pu h17 (aF 1 (aJ xs 2) v17)) fun v18 h18 =>
 aI (pu h18 (aG G false 1 v18 h18)) fun v19 h19 =>
 aI (pu h19 (bA Tryd.prog .neq 3 false v16 v19)) fun v20 h20 =>
 bB v20
 (aI (pu h20 (aF 1 (aJ xs 2) (aJ xs 3))) fun v21 h21 =>
 aI (pu h21 (aG G false 1 v21 h21)) fun v22 h22 =>
 aI (pu h22 (aF 1 (aJ xs 0) (aJ xs 1))) fun v23 h23 =>
 aI (gB (aV 1 v23 v22 h23)) fun v24 h24 =>
 aI (pu h24 (bA Tryd.prog .add 3 true (aJ xs 1) (.int .i64 1))) fun v25 h25 =>
 some (.normal, [(aJ xs 0), v25, (aJ xs 2), (aJ xs 3)], h25))
 (some (.normal, [(aJ xs 0), (aJ xs 1), (aJ xs 2), (aJ xs 3)], h20))) fun e26 x26 h26 => iX e26
 (aI (pu h26 (bA Tryd.prog .add 3 true (aJ x26 3) (.int .i64 1))) fun v27 h27 =>
 lp [(aJ x26 0), (aJ x26 1), (aJ x26 2), v27] h27)
 (fun i26 => some (.exit i26, [(aJ x26 0), (aJ x26 1), (aJ x26 2), (aJ x26 3)], h26))
 (some (.ret, [(aJ x26 0), (aJ x26 1), (aJ x26 2), (aJ x26 3)], h26)))
 (some (.exit 2, [(aJ xs 0), (aJ xs 1), (aJ xs 2), (aJ xs 3)], h14))
noncomputable def aC.l4 (G : aE) (k n0 : Nat) (self : cQ) (lp : eU) : eU := fun xs h0 => jL n0 xs h0 fun h =>
 aI (pu h (bE (aJ xs 0))) fun v3 h3 =>
 aI (pu h3 (bA Tryd.prog .lss 3 false (aJ xs 2) v3)) fun v4 h4 =>
 bB v4
 (aI (pu h4 (aF 1 (aJ xs 0) (aJ xs 2))) fun v5 h5 =>
 aI (pu h5 (aG G false 1 v5 h5)) fun v6 h6 =>
 aI (pu h6 (bA Tryd.prog .sub 3 true (aJ xs 2) (.int .i64 1))) fun v7 h7 =>
 aI (pu h7 (aF 1 (aJ xs 0) v7)) fun v8 h8 =>
 aI (pu h8 (aG G false 1 v8 h8)) fun v9 h9 =>
 aI (pu h9 (bA Tryd.prog .eql 3 false v6 v9)) fun v10 h10 =>
 bB v10
 (aI (pu h10 (gK 1 (aJ xs 0) (some (aJ xs 2)) none)) fun v11 h11 =>
 eE (cM (aC.l9 G k h11.length self) k [(aJ xs 0), (aJ xs 2), v11, (.int .i64 1)] h11) fun e12 x12 h12 => iX e12
 (none)
 (fun i12 => if i12 = 2 then (aI (pu h12 (gK 1 (aJ x12 0) (some (aJ x12 1)) none)) fun v28 h28 =>
 aI (pG (.int .i64 0) v28 h28) fun v29 h29 =>
 aI (pu h29 (gK 1 (aJ x12 0) none (some (aJ x12 1)))) fun v30 h30 =>
 some (.ret, [(aJ x12 0), v30, (aJ x12 1)], h30)) else (if i12 = 1 then (aI (pu h12 (bA Tryd.prog .add 3 true (aJ x12 1) (.int .i64 1))) fun v31 h31 =>
 lp [(aJ x12 0), .undef, v31] h31) else (some (.exit i12, [(aJ x12 0), .undef, (aJ x12 1)], h12))))
 (some (.ret, [(aJ x12 0), .undef, (aJ x12 1)], h12)))
 (aI (pu h10 (bA Tryd.prog .add 3 true (aJ xs 2) (.int .i64 1))) fun v32 h32 =>
 lp [(aJ xs 0), (aJ xs 1), v32] h32))
 (some (.exit 0, [(aJ xs 0), (aJ xs 1), (aJ xs 2)], h4))
noncomputable def aC.c (G : aE) (k : Nat) (self : cQ) (x0 : AV) (h : aA) : Option (AV × aA) := fJ (
 aI (pu h (bE x0)) fun v0 h0 =>
 aI (pu h0 (bA Tryd.prog .lss 3 true v0 (.int .i64 2))) fun v1 h1 =>
 bB v1
 (cP [x0] h.length h1)
 (eE (cM (aC.l4 G k h1.length self) k [x0, .nils, (.int .i64 1)] h1) fun e2 x2 h2 => iX e2
 (none)
 (fun i2 => if i2 = 0 then (cP [(aJ x2 0)] h.length h2) else (none))
 (cP [(aJ x2 1)] h.length h2)))
noncomputable def aC.f (G : aE) : Nat → cQ
 | 0 => fun _ _ => none
 | k + 1 => fun args h => nX args fun x0 => (aC.c G k (aC.f G k) x0 h)
theorem aC.step (G : aE) (k : Nat) (x0 : AV) (h : aA) : aC.f G (k + 1) [x0] h = aC.c G k (aC.f G k) x0 h := rfl
noncomputable def bT.ann : Ann := fY [] [5] [(4, [1, 5, 20, 21, 22])] []
noncomputable def bT.env (G : aE) (k : Nat) (self : cQ) : List (Nat × Bool × cQ) := [(51, true, dO.f G k), (53, false, aS.f G k), (54, false, aC.f G k)]
noncomputable def bT.l4 (G : aE) (k n0 : Nat) (self : cQ) (lp : eU) : eU := fun xs h0 => jL n0 xs h0 fun h =>
 aI (pu h (bA Tryd.prog .lss 3 false (aJ xs 4) (aJ xs 3))) fun v18 h18 =>
 bB v18
 (aI (pu h18 (aF 1 (aJ xs 2) (aJ xs 4))) fun v19 h19 =>
 aI (pu h19 (aG G false 1 v19 h19)) fun v20 h20 =>
 bB v20
 (aI (pu h20 (aB 2 (aJ xs 0))) fun v21 h21 =>
 aI (pu h21 (aG G false 1 v21 h21)) fun v22 h22 =>
 aI (pu h22 (aB 3 (aJ xs 0))) fun v23 h23 =>
 aI (pu h23 (aG G false 1 v23 h23)) fun v24 h24 =>
 aI (pu h24 (aB 4 (aJ xs 0))) fun v25 h25 =>
 aI (pu h25 (aG G false 1 v25 h25)) fun v26 h26 =>
 aI (bN 1 3 (.int .i64 0) [(0, v22), (1, v24), (2, v26)] h26) fun v27 h27 =>
 aI (pu h27 (aF 1 v27 (aJ xs 4))) fun v28 h28 =>
 aI (pu h28 (aG G false 1 v28 h28)) fun v29 h29 =>
 aI (bN 1 1 (.int .i64 0) [(0, v29)] h29) fun v30 h30 =>
 aI (eM 3 1 (aJ xs 1) v30 h30) fun v31 h31 =>
 aI (pu h31 (bA Tryd.prog .add 3 true (aJ xs 4) (.int .i64 1))) fun v32 h32 =>
 lp [(aJ xs 0), v31, (aJ xs 2), (aJ xs 3), v32] h32)
 (aI (pu h20 (bA Tryd.prog .add 3 true (aJ xs 4) (.int .i64 1))) fun v33 h33 =>
 lp [(aJ xs 0), (aJ xs 1), (aJ xs 2), (aJ xs 3), v33] h33))
 (some (.exit 0, [(aJ xs 0), (aJ xs 1), (aJ xs 2), (aJ xs 3), (aJ xs 4)], h18))
noncomputable def bT.c (G : aE) (k : Nat) (self : cQ) (x0 : AV) (h : aA) : Option (AV × aA) := fJ (
 aI (cS x0 h) fun v0 h0 =>
 aI (pu h0 (aB 0 v0)) fun v1 h1 =>
 aI (pu h1 (aG G false 1 v1 h1)) fun v2 h2 =>
 aI (aW (dO.f G k) [v2] h2) fun v3 h3 =>
 aI (pu h3 (bD v3 0)) fun v4 h4 =>
 aI (pu h4 (bD v3 1)) fun v5 h5 =>
 aI (eO 100 (.agg [(.str ⟨#[]⟩), (.bool false), (.bool false), (.bool false), (.bool false), (.bool false)]) h5) fun v6 h6 =>
 aI (gB (aV 6 v6 v4 h6)) fun v7 h7 =>
 aI (some (.sl h7.length 0 0 0 1, h7 ++ [⟨3, 1, []⟩])) fun v8 h8 =>
 aI (pu h8 (aB 2 v6)) fun v9 h9 =>
 aI (pu h9 (aG G false 1 v9 h9)) fun v10 h10 =>
 aI (pu h10 (aB 3 v6)) fun v11 h11 =>
 aI (pu h11 (aG G false 1 v11 h11)) fun v12 h12 =>
 aI (pu h12 (aB 4 v6)) fun v13 h13 =>
 aI (pu h13 (aG G false 1 v13 h13)) fun v14 h14 =>
 aI (bN 1 3 (.bool false) [(0, v10), (1, v12), (2, v14)] h14) fun v15 h15 =>
 aI (pu h15 (bE v15)) fun v16 h16 =>
 eE (cM (bT.l4 G k h16.length self) k [v0, v8, v15, v16, (.int .i64 0)] h16) fun e17 x17 h17 => iX e17
 (none)
 (fun i17 => if i17 = 0 then (aI (cZ (aS.f G k) [(aJ x17 1)] h17) fun v34 h34 =>
 aI (cZ (aC.f G k) [(aJ x17 1)] h34) fun v35 h35 =>
 cP [v35] h.length h35) else (none))
 (cP [.undef] h.length h17))
noncomputable def bT.f (G : aE) : Nat → cQ
 | 0 => fun _ _ => none
 | k + 1 => fun args h => nX args fun x0 => (bT.c G k (bT.f G k) x0 h)
theorem bT.step (G : aE) (k : Nat) (x0 : AV) (h : aA) : bT.f G (k + 1) [x0] h = bT.c G k (bT.f G k) x0 h := rfl
noncomputable def dG.ann : Ann := fY [] [] [] []
noncomputable def dG.env (G : aE) (k : Nat) (self : cQ) : List (Nat × Bool × cQ) := []
noncomputable def dG.c (G : aE) (k : Nat) (self : cQ) (x0 x1 x2 : AV) (h : aA) : Option (AV × aA) := fJ (
 aI (cS x0 h) fun v0 h0 =>
 aI (pu h0 (bE x1)) fun v1 h1 =>
 aI (pu h1 (aB 2 v0)) fun v2 h2 =>
 aI (pu h2 (aG G false 1 v2 h2)) fun v3 h3 =>
 aI (pu h3 (bA Tryd.prog .neq 3 false v1 v3)) fun v4 h4 =>
 bB v4
 (aI (pu h4 (aG G false 1 (.gl 2) h4)) fun v5 h5 =>
 cP [v5] h.length h5)
 (aI (pu h4 (bA Tryd.prog .lss 2 true x2 (.int .i64 0))) fun v6 h6 =>
 aI (gd v6 false h6 (some (x2, h6))) fun v7 h7 =>
 aI (gd v6 false h7 (pu h7 (bA Tryd.prog .gtr 2 true v7 (.int .i64 1073741824)))) fun v8 h8 =>
 aI (pu h8 (fW v6 (.bool true) v8)) fun v9 h9 =>
 bB v9
 (aI (pu h9 (aG G false 1 (.gl 0) h9)) fun v10 h10 =>
 cP [v10] h.length h10)
 (cP [.nili] h.length h9)))
noncomputable def dG.f (G : aE) : Nat → cQ
 | 0 => fun _ _ => none
 | k + 1 => fun args h => aBG args fun x0 x1 x2 => (dG.c G k (dG.f G k) x0 x1 x2 h)
theorem dG.step (G : aE) (k : Nat) (x0 x1 x2 : AV) (h : aA) : dG.f G (k + 1) [x0, x1, x2] h = dG.c G k (dG.f G k) x0 x1 x2 h := rfl
noncomputable def aN.ann : Ann := fY [5] [2] [] []
noncomputable def aN.env (G : aE) (k : Nat) (self : cQ) : List (Nat × Bool × cQ) := []
noncomputable def aN.c (G : aE) (k : Nat) (self : cQ) (x0 : AV) (h : aA) : Option (AV × aA) := fJ (
 aI (some (.sl h.length 0 0 0 1, h ++ [⟨30, 1, []⟩])) fun v0 h0 =>
 aI (pu h0 (bA Tryd.prog .eql 22 true x0 .nils)) fun v1 h1 =>
 bB v1
 (aI (some (.sl h1.length 0 0 0 1, h1 ++ [⟨30, 1, []⟩])) fun v2 h2 =>
 aBY [v2] h2)
 (aI (cL 30 1 0 (.int .u64 0) [] h1) fun v3 h3 =>
 aI (eM 30 1 v3 x0 h3) fun v4 h4 =>
 aBY [v4] h4))
noncomputable def aN.f (G : aE) : Nat → cQ
 | 0 => fun _ _ => none
 | k + 1 => fun args h => nX args fun x0 => (aN.c G k (aN.f G k) x0 h)
theorem aN.step (G : aE) (k : Nat) (x0 : AV) (h : aA) : aN.f G (k + 1) [x0] h = aN.c G k (aN.f G k) x0 h := rfl
noncomputable def bM.ann : Ann := fY [] [] [] []
noncomputable def bM.env (G : aE) (k : Nat) (self : cQ) : List (Nat × Bool × cQ) := []
noncomputable def bM.c (G : aE) (k : Nat) (self : cQ) (x0 x1 x2 : AV) (h : aA) : Option (AV × aA) := fJ (
 aI (pu h (gW x0)) fun v0 h0 =>
 aI (pu h0 (aB 5 v0)) fun v1 h1 =>
 aI (pu h1 (aB 2 v1)) fun v2 h2 =>
 aI (pu h2 (aG G false 1 v2 h2)) fun v3 h3 =>
 aI (pu h3 (cH [(0, 1), (1, 1)] [(.int .i64 0), (.int .i64 0)] [(0, x1), (1, x2)])) fun v4 h4 =>
 aI (bN 2 1 (.agg [(.int .i64 0), (.int .i64 0)]) [(0, v4)] h4) fun v5 h5 =>
 aI (eM 91 2 v3 v5 h5) fun v6 h6 =>
 aI (pu h6 (gW x0)) fun v7 h7 =>
 aI (pu h7 (aB 5 v7)) fun v8 h8 =>
 aI (pu h8 (aB 2 v8)) fun v9 h9 =>
 aI (gB (aV 1 v9 v6 h9)) fun v10 h10 =>
 cP [] h.length h10)
noncomputable def bM.f (G : aE) : Nat → cQ
 | 0 => fun _ _ => none
 | k + 1 => fun args h => aBG args fun x0 x1 x2 => (bM.c G k (bM.f G k) x0 x1 x2 h)
theorem bM.step (G : aE) (k : Nat) (x0 x1 x2 : AV) (h : aA) : bM.f G (k + 1) [x0, x1, x2] h = bM.c G k (bM.f G k) x0 x1 x2 h := rfl
noncomputable def cD.ann : Ann := fY [] [] [] []
noncomputable def cD.env (G : aE) (k : Nat) (self : cQ) : List (Nat × Bool × cQ) := [(93, false, bM.f G k)]
noncomputable def cD.c (G : aE) (k : Nat) (self : cQ) (x0 x1 : AV) (h : aA) : Option (AV × aA) := fJ (
 aI (cS x1 h) fun v0 h0 =>
 aI (pu h0 (gW x0)) fun v1 h1 =>
 aI (pu h1 (aB 3 v1)) fun v2 h2 =>
 aI (pu h2 (aG G false 1 v2 h2)) fun v3 h3 =>
 aI (pu h3 (aB 2 v0)) fun v4 h4 =>
 aI (pu h4 (aG G false 1 v4 h4)) fun v5 h5 =>
 aI (pu h5 (aF 1 v3 v5)) fun v6 h6 =>
 aI (pu h6 (aG G false 1 v6 h6)) fun v7 h7 =>
 aI (pu h7 (aB 5 v0)) fun v8 h8 =>
 aI (pu h8 (aG G false 1 v8 h8)) fun v9 h9 =>
 aI (pu h9 (fH .u64 v9)) fun v10 h10 =>
 aI (pu h10 (bA Tryd.prog .add 30 false v7 v10)) fun v11 h11 =>
 aI (pu h11 (fH .i64 v11)) fun v12 h12 =>
 aI (cZ (bM.f G k) [x0, (.int .i64 3), v12] h12) fun v13 h13 =>
 aI (pu h13 (gW x0)) fun v14 h14 =>
 aI (pu h14 (aB 5 v14)) fun v15 h15 =>
 aI (pu h15 (aB 1 v15)) fun v16 h16 =>
 aI (pu h16 (aG G false 1 v16 h16)) fun v17 h17 =>
 aI (pu h17 (bE v17)) fun v18 h18 =>
 aI (pu h18 (fH .u64 v18)) fun v19 h19 =>
 aI (pu h19 (bA Tryd.prog .geq 30 false v11 v19)) fun v20 h20 =>
 bB v20
 (aI (pu h20 (gW x0)) fun v21 h21 =>
 aI (pu h21 (aB 5 v21)) fun v22 h22 =>
 aI (pu h22 (aB 0 v22)) fun v23 h23 =>
 aI (gB (aV 1 v23 (.int .i64 3) h23)) fun v24 h24 =>
 cP [(.bool false)] h.length h24)
 (aI (pu h20 (aB 0 v0)) fun v25 h25 =>
 aI (pu h25 (aG G false 1 v25 h25)) fun v26 h26 =>
 aI (pu h26 (bA Tryd.prog .eql 3 true v26 (.int .i64 15))) fun v27 h27 =>
 bB v27
 (aI (pu h27 (gW x0)) fun v28 h28 =>
 aI (pu h28 (aB 3 v28)) fun v29 h29 =>
 aI (pu h29 (aG G false 1 v29 h29)) fun v30 h30 =>
 aI (pu h30 (aB 1 v0)) fun v31 h31 =>
 aI (pu h31 (aG G false 1 v31 h31)) fun v32 h32 =>
 aI (pu h32 (gW x0)) fun v33 h33 =>
 aI (pu h33 (aB 5 v33)) fun v34 h34 =>
 aI (pu h34 (aB 1 v34)) fun v35 h35 =>
 aI (pu h35 (aG G false 1 v35 h35)) fun v36 h36 =>
 aI (pu h36 (aF 1 v36 v11)) fun v37 h37 =>
 aI (pu h37 (aG G false 1 v37 h37)) fun v38 h38 =>
 aI (pu h38 (aF 1 v30 v32)) fun v39 h39 =>
 aI (gB (aV 1 v39 v38 h39)) fun v40 h40 =>
 cP [(.bool true)] h.length h40)
 (aI (pu h27 (gW x0)) fun v41 h41 =>
 aI (pu h41 (aB 5 v41)) fun v42 h42 =>
 aI (pu h42 (aB 1 v42)) fun v43 h43 =>
 aI (pu h43 (aG G false 1 v43 h43)) fun v44 h44 =>
 aI (pu h44 (gW x0)) fun v45 h45 =>
 aI (pu h45 (aB 3 v45)) fun v46 h46 =>
 aI (pu h46 (aG G false 1 v46 h46)) fun v47 h47 =>
 aI (pu h47 (aB 3 v0)) fun v48 h48 =>
 aI (pu h48 (aG G false 1 v48 h48)) fun v49 h49 =>
 aI (pu h49 (aF 1 v47 v49)) fun v50 h50 =>
 aI (pu h50 (aG G false 1 v50 h50)) fun v51 h51 =>
 aI (pu h51 (aF 1 v44 v11)) fun v52 h52 =>
 aI (gB (aV 1 v52 v51 h52)) fun v53 h53 =>
 cP [(.bool true)] h.length h53)))
noncomputable def cD.f (G : aE) : Nat → cQ
 | 0 => fun _ _ => none
 | k + 1 => fun args h => mV args fun x0 x1 => (cD.c G k (cD.f G k) x0 x1 h)
theorem cD.step (G : aE) (k : Nat) (x0 x1 : AV) (h : aA) : cD.f G (k + 1) [x0, x1] h = cD.c G k (cD.f G k) x0 x1 h := rfl
noncomputable def eF.ann : Ann := fY [] [] [] []
noncomputable def eF.env (G : aE) (k : Nat) (self : cQ) : List (Nat × Bool × cQ) := []
noncomputable def eF.c (G : aE) (k : Nat) (self : cQ) (x0 : AV) (h : aA) : Option (AV × aA) := fJ (
 bB x0
 (cP [(.int .u64 1)] h.length h)
 (cP [(.int .u64 0)] h.length h))
noncomputable def eF.f (G : aE) : Nat → cQ
 | 0 => fun _ _ => none
 | k + 1 => fun args h => nX args fun x0 => (eF.c G k (eF.f G k) x0 h)
noncomputable def bP.ann : Ann := fY [] [] [] [(5, [0, 3])]
noncomputable def bP.env (G : aE) (k : Nat) (self : cQ) : List (Nat × Bool × cQ) := [(93, false, bM.f G k), (121, true, eF.f G k)]
noncomputable def bP.c (G : aE) (k : Nat) (self : cQ) (x0 x1 : AV) (h : aA) : Option (AV × aA) := fJ (
 aI (cS x1 h) fun v0 h0 =>
 eE (
 aI (pu h0 (aB 0 v0)) fun v1 h1 =>
 aI (pu h1 (aG G false 1 v1 h1)) fun v2 h2 =>
 aI (pu h2 (bA Tryd.prog .neq 3 true v2 (.int .i64 17))) fun v3 h3 =>
 bB v3
 (aI (pu h3 (gW x0)) fun v4 h4 =>
 aI (pu h4 (aB 3 v4)) fun v5 h5 =>
 aI (pu h5 (aG G false 1 v5 h5)) fun v6 h6 =>
 aI (pu h6 (aB 2 v0)) fun v7 h7 =>
 aI (pu h7 (aG G false 1 v7 h7)) fun v8 h8 =>
 aI (pu h8 (aF 1 v6 v8)) fun v9 h9 =>
 aI (pu h9 (aG G false 1 v9 h9)) fun v10 h10 =>
 aI (pu h10 (bA Tryd.prog .eql 30 true v10 (.int .u64 0))) fun v11 h11 =>
 aI (pu h11 (aB 0 v0)) fun v12 h12 =>
 aI (pu h12 (aG G false 1 v12 h12)) fun v13 h13 =>
 aI (pu h13 (bA Tryd.prog .eql 3 true v13 (.int .i64 18))) fun v14 h14 =>
 aI (pu h14 (bA Tryd.prog .eql 4 false v11 v14)) fun v15 h15 =>
 aI (aW (eF.f G k) [v15] h15) fun v16 h16 =>
 aI (pu h16 (fH .i64 v16)) fun v17 h17 =>
 aI (cZ (bM.f G k) [x0, (.int .i64 2), v17] h17) fun v18 h18 =>
 aI (pu h18 (un .not v15)) fun v19 h19 =>
 bB v19
 (some (.ret, [x0, v0], h19))
 (some (.normal, [x0, v0], h19)))
 (some (.normal, [x0, v0], h3))) fun e20 x20 h20 => iX e20
 (aI (pu h20 (aB 5 (aJ x20 1))) fun v21 h21 =>
 aI (pu h21 (aG G false 1 v21 h21)) fun v22 h22 =>
 aI (pu h22 (gW (aJ x20 0))) fun v23 h23 =>
 aI (pu h23 (aB 4 v23)) fun v24 h24 =>
 aI (gB (aV 1 v24 v22 h24)) fun v25 h25 =>
 cP [] h.length h25)
 (fun i20 => none)
 (cP [] h.length h20))
noncomputable def bP.f (G : aE) : Nat → cQ
 | 0 => fun _ _ => none
 | k + 1 => fun args h => mV args fun x0 x1 => (bP.c G k (bP.f G k) x0 x1 h)
theorem bP.step (G : aE) (k : Nat) (x0 x1 : AV) (h : aA) : bP.f G (k + 1) [x0, x1] h = bP.c G k (bP.f G k) x0 x1 h := rfl
noncomputable def bW.ann : Ann := fY [] [] [] []
noncomputable def bW.env (G : aE) (k : Nat) (self : cQ) : List (Nat × Bool × cQ) := []
noncomputable def bW.c (G : aE) (k : Nat) (self : cQ) (x0 x1 : AV) (h : aA) : Option (AV × aA) := fJ (
 aI (pu h (bA Tryd.prog .and 30 true x0 (.int .u64 4294967295))) fun v0 h0 =>
 aI (pu h0 (bA Tryd.prog .shr 30 true x0 (.int .u64 32))) fun v1 h1 =>
 aI (pu h1 (bA Tryd.prog .and 30 true x1 (.int .u64 4294967295))) fun v2 h2 =>
 aI (pu h2 (bA Tryd.prog .shr 30 true x1 (.int .u64 32))) fun v3 h3 =>
 aI (pu h3 (bA Tryd.prog .mul 30 false v0 v2)) fun v4 h4 =>
 aI (pu h4 (bA Tryd.prog .mul 30 false v1 v2)) fun v5 h5 =>
 aI (pu h5 (bA Tryd.prog .shr 30 true v4 (.int .u64 32))) fun v6 h6 =>
 aI (pu h6 (bA Tryd.prog .add 30 false v5 v6)) fun v7 h7 =>
 aI (pu h7 (bA Tryd.prog .and 30 true v7 (.int .u64 4294967295))) fun v8 h8 =>
 aI (pu h8 (bA Tryd.prog .shr 30 true v7 (.int .u64 32))) fun v9 h9 =>
 aI (pu h9 (bA Tryd.prog .mul 30 false v0 v3)) fun v10 h10 =>
 aI (pu h10 (bA Tryd.prog .add 30 false v8 v10)) fun v11 h11 =>
 aI (pu h11 (bA Tryd.prog .mul 30 false v1 v3)) fun v12 h12 =>
 aI (pu h12 (bA Tryd.prog .add 30 false v12 v9)) fun v13 h13 =>
 aI (pu h13 (bA Tryd.prog .shr 30 true v11 (.int .u64 32))) fun v14 h14 =>
 aI (pu h14 (bA Tryd.prog .add 30 false v13 v14)) fun v15 h15 =>
 aI (pu h15 (bA Tryd.prog .mul 30 false x0 x1)) fun v16 h16 =>
 cP [v15, v16] h.length h16)
noncomputable def bW.f (G : aE) : Nat → cQ
 | 0 => fun _ _ => none
 | k + 1 => fun args h => mV args fun x0 x1 => (bW.c G k (bW.f G k) x0 x1 h)
theorem bW.step (G : aE) (k : Nat) (x0 x1 : AV) (h : aA) : bW.f G (k + 1) [x0, x1] h = bW.c G k (bW.f G k) x0 x1 h := rfl
noncomputable def cT.ann : Ann := fY [] [] [] []
noncomputable def cT.env (G : aE) (k : Nat) (self : cQ) : List (Nat × Bool × cQ) := []
noncomputable def cT.c (G : aE) (k : Nat) (self : cQ) (x0 x1 : AV) (h : aA) : Option (AV × aA) := fJ (
 aI (cS x0 h) fun v0 h0 =>
 aI (pu h0 (aB 5 v0)) fun v1 h1 =>
 aI (pu h1 (aG G false 1 v1 h1)) fun v2 h2 =>
 aI (pu h2 (bA Tryd.prog .lss 2 true v2 (.int .i64 0))) fun v3 h3 =>
 aI (gd v3 false h3 (pu h3 (aB 5 v0))) fun v4 h4 =>
 aI (gd v3 false h4 (pu h4 (aG G false 1 v4 h4))) fun v5 h5 =>
 aI (gd v3 false h5 (pu h5 (bA Tryd.prog .gtr 2 true v5 (.int .i64 63)))) fun v6 h6 =>
 aI (pu h6 (fW v3 (.bool true) v6)) fun v7 h7 =>
 bB v7
 (cP [(.int .u64 0), (.bool false)] h.length h7)
 (aI (pu h7 (aB 0 v0)) fun v8 h8 =>
 aI (pu h8 (aG G false 1 v8 h8)) fun v9 h9 =>
 aI (pu h9 (bA Tryd.prog .eql 3 true v9 (.int .i64 10))) fun v10 h10 =>
 bB v10
 (aI (pu h10 (aB 5 v0)) fun v11 h11 =>
 aI (pu h11 (aG G false 1 v11 h11)) fun v12 h12 =>
 aI (pu h12 (bA Tryd.prog .shl 30 false x1 v12)) fun v13 h13 =>
 cP [v13, (.bool true)] h.length h13)
 (aI (pu h10 (aB 0 v0)) fun v14 h14 =>
 aI (pu h14 (aG G false 1 v14 h14)) fun v15 h15 =>
 aI (pu h15 (bA Tryd.prog .eql 3 true v15 (.int .i64 11))) fun v16 h16 =>
 bB v16
 (aI (pu h16 (aB 5 v0)) fun v17 h17 =>
 aI (pu h17 (aG G false 1 v17 h17)) fun v18 h18 =>
 aI (pu h18 (bA Tryd.prog .shr 30 false x1 v18)) fun v19 h19 =>
 cP [v19, (.bool true)] h.length h19)
 (aI (pu h16 (fH .i64 x1)) fun v20 h20 =>
 aI (pu h20 (aB 5 v0)) fun v21 h21 =>
 aI (pu h21 (aG G false 1 v21 h21)) fun v22 h22 =>
 aI (pu h22 (bA Tryd.prog .shr 2 false v20 v22)) fun v23 h23 =>
 aI (pu h23 (fH .u64 v23)) fun v24 h24 =>
 cP [v24, (.bool true)] h.length h24))))
noncomputable def cT.f (G : aE) : Nat → cQ
 | 0 => fun _ _ => none
 | k + 1 => fun args h => mV args fun x0 x1 => (cT.c G k (cT.f G k) x0 x1 h)
theorem cT.step (G : aE) (k : Nat) (x0 x1 : AV) (h : aA) : cT.f G (k + 1) [x0, x1] h = cT.c G k (cT.f G k) x0 x1 h := rfl
noncomputable def dH.ann : Ann := fY [] [] [] [(24, [1, 2, 3, 4, 13, 61])]
noncomputable def dH.env (G : aE) (k : Nat) (self : cQ) : List (Nat × Bool × cQ) := [(85, true, bW.f G k), (121, true, eF.f G k), (122, true, cT.f G k)]
noncomputable def dH.c (G : aE) (k : Nat) (self : cQ) (x0 x1 x2 x3 : AV) (h : aA) : Option (AV × aA) := fJ (
 aI (cS x0 h) fun v0 h0 =>
 aI (pu h0 (aB 0 v0)) fun v1 h1 =>
 aI (pu h1 (aG G false 1 v1 h1)) fun v2 h2 =>
 aI (pu h2 (bA Tryd.prog .eql 3 true v2 (.int .i64 1))) fun v3 h3 =>
 bB v3
 (aI (pu h3 (aB 5 v0)) fun v4 h4 =>
 aI (pu h4 (aG G false 1 v4 h4)) fun v5 h5 =>
 aI (pu h5 (fH .u64 v5)) fun v6 h6 =>
 cP [v6, (.bool true)] h.length h6)
 (aI (pu h3 (bA Tryd.prog .eql 3 true v2 (.int .i64 2))) fun v7 h7 =>
 bB v7
 (cP [x1, (.bool true)] h.length h7)
 (aI (pu h7 (bA Tryd.prog .eql 3 true v2 (.int .i64 3))) fun v8 h8 =>
 bB v8
 (aI (pu h8 (bA Tryd.prog .add 30 false x1 x2)) fun v9 h9 =>
 cP [v9, (.bool true)] h.length h9)
 (aI (pu h8 (bA Tryd.prog .eql 3 true v2 (.int .i64 4))) fun v10 h10 =>
 bB v10
 (aI (pu h10 (bA Tryd.prog .sub 30 false x1 x2)) fun v11 h11 =>
 cP [v11, (.bool true)] h.length h11)
 (aI (pu h10 (bA Tryd.prog .eql 3 true v2 (.int .i64 5))) fun v12 h12 =>
 bB v12
 (aI (pu h12 (bA Tryd.prog .mul 30 false x1 x2)) fun v13 h13 =>
 cP [v13, (.bool true)] h.length h13)
 (aI (pu h12 (bA Tryd.prog .eql 3 true v2 (.int .i64 6))) fun v14 h14 =>
 bB v14
 (aI (aW (bW.f G k) [x1, x2] h14) fun v15 h15 =>
 aI (pu h15 (bD v15 0)) fun v16 h16 =>
 aI (pu h16 (bD v15 1)) fun v17 h17 =>
 cP [v16, (.bool true)] h.length h17)
 (aI (pu h14 (bA Tryd.prog .eql 3 true v2 (.int .i64 7))) fun v18 h18 =>
 bB v18
 (aI (pu h18 (bA Tryd.prog .and 30 false x1 x2)) fun v19 h19 =>
 cP [v19, (.bool true)] h.length h19)
 (aI (pu h18 (bA Tryd.prog .eql 3 true v2 (.int .i64 8))) fun v20 h20 =>
 bB v20
 (aI (pu h20 (bA Tryd.prog .or 30 false x1 x2)) fun v21 h21 =>
 cP [v21, (.bool true)] h.length h21)
 (aI (pu h20 (bA Tryd.prog .eql 3 true v2 (.int .i64 9))) fun v22 h22 =>
 bB v22
 (aI (pu h22 (bA Tryd.prog .xor 30 false x1 x2)) fun v23 h23 =>
 cP [v23, (.bool true)] h.length h23)
 (eE (
 aI (pu h22 (bA Tryd.prog .eql 3 true v2 (.int .i64 10))) fun v24 h24 =>
 bB v24
 (some (.normal, [x1, x2, x3, v0, v2, v24], h24))
 (aI (pu h24 (bA Tryd.prog .eql 3 true v2 (.int .i64 11))) fun v25 h25 =>
 bB v25
 (some (.normal, [x1, x2, x3, v0, v2, v25], h25))
 (aI (pu h25 (bA Tryd.prog .eql 3 true v2 (.int .i64 12))) fun v26 h26 =>
 some (.normal, [x1, x2, x3, v0, v2, v26], h26)))) fun e27 x27 h27 => iX e27
 (bB (aJ x27 5)
 (aI (pu h27 (aG G true 6 (aJ x27 3) h27)) fun v28 h28 =>
 aI (aW (cT.f G k) [v28, (aJ x27 0)] h28) fun v29 h29 =>
 aI (pu h29 (bD v29 0)) fun v30 h30 =>
 aI (pu h30 (bD v29 1)) fun v31 h31 =>
 cP [v30, v31] h.length h31)
 (aI (pu h27 (bA Tryd.prog .eql 3 true (aJ x27 4) (.int .i64 13))) fun v32 h32 =>
 bB v32
 (aI (pu h32 (bA Tryd.prog .lss 30 false (aJ x27 0) (aJ x27 1))) fun v33 h33 =>
 aI (aW (eF.f G k) [v33] h33) fun v34 h34 =>
 cP [v34, (.bool true)] h.length h34)
 (aI (pu h32 (bA Tryd.prog .eql 3 true (aJ x27 4) (.int .i64 14))) fun v35 h35 =>
 bB v35
 (aI (pu h35 (bA Tryd.prog .neq 30 true (aJ x27 0) (.int .u64 0))) fun v36 h36 =>
 bB v36
 (cP [(aJ x27 1), (.bool true)] h.length h36)
 (cP [(aJ x27 2), (.bool true)] h.length h36))
 (cP [(.int .u64 0), (.bool false)] h.length h35))))
 (fun i27 => if i27 = 0 then (cP [(.int .u64 0), (.bool false)] h.length h27) else (none))
 (cP [.undef, .undef] h.length h27)))))))))))
noncomputable def dH.f (G : aE) : Nat → cQ
 | 0 => fun _ _ => none
 | k + 1 => fun args h => aFE args fun x0 x1 x2 x3 => (dH.c G k (dH.f G k) x0 x1 x2 x3 h)
theorem dH.step (G : aE) (k : Nat) (x0 x1 x2 x3 : AV) (h : aA) : dH.f G (k + 1) [x0, x1, x2, x3] h = dH.c G k (dH.f G k) x0 x1 x2 x3 h := rfl
noncomputable def cN.ann : Ann := fY [] [] [] [(14, [0, 3, 4]), (9, [0, 3, 15, 22]), (5, [0, 3, 15, 16])]
noncomputable def cN.env (G : aE) (k : Nat) (self : cQ) : List (Nat × Bool × cQ) := [(110, false, cD.f G k), (111, false, bP.f G k), (112, true, dH.f G k)]
noncomputable def cN.c (G : aE) (k : Nat) (self : cQ) (x0 x1 : AV) (h : aA) : Option (AV × aA) := fJ (
 aI (cS x1 h) fun v0 h0 =>
 aI (pu h0 (gW x0)) fun v1 h1 =>
 aI (pu h1 (aB 4 v1)) fun v2 h2 =>
 aI (pu h2 (aG G false 1 v2 h2)) fun v3 h3 =>
 aI (pu h3 (bA Tryd.prog .add 3 true v3 (.int .i64 1))) fun v4 h4 =>
 aI (pu h4 (gW x0)) fun v5 h5 =>
 aI (pu h5 (aB 4 v5)) fun v6 h6 =>
 aI (gB (aV 1 v6 v4 h6)) fun v7 h7 =>
 eE (
 aI (pu h7 (aB 0 v0)) fun v8 h8 =>
 aI (pu h8 (aG G false 1 v8 h8)) fun v9 h9 =>
 eE (
 aI (pu h9 (bA Tryd.prog .eql 3 true v9 (.int .i64 15))) fun v10 h10 =>
 bB v10
 (some (.normal, [x0, v0, v9, v10], h10))
 (aI (pu h10 (bA Tryd.prog .eql 3 true v9 (.int .i64 16))) fun v11 h11 =>
 some (.normal, [x0, v0, v9, v11], h11))) fun e12 x12 h12 => iX e12
 (bB (aJ x12 3)
 (aI (pu h12 (aG G true 6 (aJ x12 1) h12)) fun v13 h13 =>
 aI (cZ (cD.f G k) [(aJ x12 0), v13] h13) fun v14 h14 =>
 some (.ret, [(aJ x12 0), (aJ x12 1), v14], h14))
 (eE (
 aI (pu h12 (bA Tryd.prog .eql 3 true (aJ x12 2) (.int .i64 17))) fun v15 h15 =>
 bB v15
 (some (.normal, [(aJ x12 0), (aJ x12 1), (aJ x12 2), v15], h15))
 (aI (pu h15 (bA Tryd.prog .eql 3 true (aJ x12 2) (.int .i64 18))) fun v16 h16 =>
 bB v16
 (some (.normal, [(aJ x12 0), (aJ x12 1), (aJ x12 2), v16], h16))
 (aI (pu h16 (bA Tryd.prog .eql 3 true (aJ x12 2) (.int .i64 19))) fun v17 h17 =>
 some (.normal, [(aJ x12 0), (aJ x12 1), (aJ x12 2), v17], h17)))) fun e18 x18 h18 => iX e18
 (bB (aJ x18 3)
 (aI (pu h18 (aG G true 6 (aJ x18 1) h18)) fun v19 h19 =>
 aI (cZ (bP.f G k) [(aJ x18 0), v19] h19) fun v20 h20 =>
 some (.ret, [(aJ x18 0), (aJ x18 1), (.bool true)], h20))
 (aI (pu h18 (bA Tryd.prog .eql 3 true (aJ x18 2) (.int .i64 20))) fun v21 h21 =>
 bB v21
 (aI (pu h21 (aB 5 (aJ x18 1))) fun v22 h22 =>
 aI (pu h22 (aG G false 1 v22 h22)) fun v23 h23 =>
 aI (pu h23 (gW (aJ x18 0))) fun v24 h24 =>
 aI (pu h24 (aB 5 v24)) fun v25 h25 =>
 aI (pu h25 (aB 0 v25)) fun v26 h26 =>
 aI (gB (aV 1 v26 v23 h26)) fun v27 h27 =>
 some (.ret, [(aJ x18 0), (aJ x18 1), (.bool false)], h27))
 (some (.normal, [(aJ x18 0), (aJ x18 1), .undef], h21))))
 (fun i18 => if i18 = 0 then (some (.normal, [(aJ x18 0), (aJ x18 1), .undef], h18)) else (some (.exit i18, [(aJ x18 0), (aJ x18 1), .undef], h18)))
 (some (.ret, [(aJ x18 0), (aJ x18 1), .undef], h18))))
 (fun i12 => if i12 = 0 then (some (.normal, [(aJ x12 0), (aJ x12 1), .undef], h12)) else (some (.exit i12, [(aJ x12 0), (aJ x12 1), .undef], h12)))
 (some (.ret, [(aJ x12 0), (aJ x12 1), .undef], h12))) fun e28 x28 h28 => iX e28
 (aI (pu h28 (aG G true 6 (aJ x28 1) h28)) fun v29 h29 =>
 aI (pu h29 (gW (aJ x28 0))) fun v30 h30 =>
 aI (pu h30 (aB 3 v30)) fun v31 h31 =>
 aI (pu h31 (aG G false 1 v31 h31)) fun v32 h32 =>
 aI (pu h32 (aB 2 (aJ x28 1))) fun v33 h33 =>
 aI (pu h33 (aG G false 1 v33 h33)) fun v34 h34 =>
 aI (pu h34 (aF 1 v32 v34)) fun v35 h35 =>
 aI (pu h35 (aG G false 1 v35 h35)) fun v36 h36 =>
 aI (pu h36 (gW (aJ x28 0))) fun v37 h37 =>
 aI (pu h37 (aB 3 v37)) fun v38 h38 =>
 aI (pu h38 (aG G false 1 v38 h38)) fun v39 h39 =>
 aI (pu h39 (aB 3 (aJ x28 1))) fun v40 h40 =>
 aI (pu h40 (aG G false 1 v40 h40)) fun v41 h41 =>
 aI (pu h41 (aF 1 v39 v41)) fun v42 h42 =>
 aI (pu h42 (aG G false 1 v42 h42)) fun v43 h43 =>
 aI (pu h43 (gW (aJ x28 0))) fun v44 h44 =>
 aI (pu h44 (aB 3 v44)) fun v45 h45 =>
 aI (pu h45 (aG G false 1 v45 h45)) fun v46 h46 =>
 aI (pu h46 (aB 4 (aJ x28 1))) fun v47 h47 =>
 aI (pu h47 (aG G false 1 v47 h47)) fun v48 h48 =>
 aI (pu h48 (aF 1 v46 v48)) fun v49 h49 =>
 aI (pu h49 (aG G false 1 v49 h49)) fun v50 h50 =>
 aI (aW (dH.f G k) [v29, v36, v43, v50] h50) fun v51 h51 =>
 aI (pu h51 (bD v51 0)) fun v52 h52 =>
 aI (pu h52 (bD v51 1)) fun v53 h53 =>
 bB v53
 (aI (pu h53 (gW (aJ x28 0))) fun v54 h54 =>
 aI (pu h54 (aB 3 v54)) fun v55 h55 =>
 aI (pu h55 (aG G false 1 v55 h55)) fun v56 h56 =>
 aI (pu h56 (aB 1 (aJ x28 1))) fun v57 h57 =>
 aI (pu h57 (aG G false 1 v57 h57)) fun v58 h58 =>
 aI (pu h58 (aF 1 v56 v58)) fun v59 h59 =>
 aI (gB (aV 1 v59 v52 h59)) fun v60 h60 =>
 cP [(.bool true)] h.length h60)
 (cP [(.bool true)] h.length h53))
 (fun i28 => none)
 (cP [(aJ x28 2)] h.length h28))
noncomputable def cN.f (G : aE) : Nat → cQ
 | 0 => fun _ _ => none
 | k + 1 => fun args h => mV args fun x0 x1 => (cN.c G k (cN.f G k) x0 x1 h)
theorem cN.step (G : aE) (k : Nat) (x0 x1 : AV) (h : aA) : cN.f G (k + 1) [x0, x1] h = cN.c G k (cN.f G k) x0 x1 h := rfl
noncomputable def cU.ann : Ann := aIX [15] [] [(3, [2, 3, 4, 8, 9])] [] [(3, [(9, 7, 91, 2)])] []
noncomputable def cU.env (G : aE) (k : Nat) (self : cQ) : List (Nat × Bool × cQ) := [(92, false, aN.f G k), (93, false, bM.f G k), (94, false, cN.f G k)]
noncomputable def cU.l3 (G : aE) (k n0 : Nat) (self : cQ) (lp : eU) : eU := fun xs h0 => jL n0 xs h0 fun h =>
 aI (pu h (gW (aJ xs 4))) fun v14 h14 =>
 aI (pu h14 (aB 4 v14)) fun v15 h15 =>
 aI (pu h15 (aG G false 1 v15 h15)) fun v16 h16 =>
 aI (pu h16 (aB 0 (aJ xs 2))) fun v17 h17 =>
 aI (pu h17 (aG G false 1 v17 h17)) fun v18 h18 =>
 aI (pu h18 (bE v18)) fun v19 h19 =>
 aI (pu h19 (bA Tryd.prog .geq 3 false v16 v19)) fun v20 h20 =>
 bB v20
 (aI (pu h20 (gW (aJ xs 4))) fun v21 h21 =>
 aI (pu h21 (aB 5 v21)) fun v22 h22 =>
 aI (pu h22 (aB 0 v22)) fun v23 h23 =>
 aI (gB (aV 1 v23 (.int .i64 3) h23)) fun v24 h24 =>
 aI (pu h24 (gW (aJ xs 4))) fun v25 h25 =>
 aI (pu h25 (aB 5 v25)) fun v26 h26 =>
 aI (pu h26 (aG G true 4 v26 h26)) fun v27 h27 =>
 aI (gB (aV 4 (aJ xs 3) v27 h27)) fun v28 h28 =>
 some (.ret, [(aJ xs 0), (aJ xs 1), (aJ xs 2), (aJ xs 3), (aJ xs 4)], h28))
 (aI (pu h20 (gW (aJ xs 4))) fun v29 h29 =>
 aI (pu h29 (aB 5 v29)) fun v30 h30 =>
 aI (pu h30 (aB 3 v30)) fun v31 h31 =>
 aI (pu h31 (aG G false 1 v31 h31)) fun v32 h32 =>
 aI (pu h32 (bA Tryd.prog .eql 2 false v32 (aJ xs 0))) fun v33 h33 =>
 bB v33
 (aI (pu h33 (gW (aJ xs 4))) fun v34 h34 =>
 aI (pu h34 (aB 5 v34)) fun v35 h35 =>
 aI (pu h35 (aB 0 v35)) fun v36 h36 =>
 aI (gB (aV 1 v36 (.int .i64 4) h36)) fun v37 h37 =>
 aI (pu h37 (gW (aJ xs 4))) fun v38 h38 =>
 aI (pu h38 (aB 5 v38)) fun v39 h39 =>
 aI (pu h39 (aG G true 4 v39 h39)) fun v40 h40 =>
 aI (gB (aV 4 (aJ xs 3) v40 h40)) fun v41 h41 =>
 some (.ret, [(aJ xs 0), (aJ xs 1), (aJ xs 2), (aJ xs 3), (aJ xs 4)], h41))
 (aI (pu h33 (bA Tryd.prog .neq 144 true (aJ xs 1) .nilf)) fun v42 h42 =>
 aI (gd v42 true h42 (some ((aJ xs 1), h42))) fun v43 h43 =>
 aI (gd v42 true h43 (some ((aJ xs 4), h43))) fun v44 h44 =>
 aI (gd v42 true h44 (pu h44 (gW v44))) fun v45 h45 =>
 aI (gd v42 true h45 (pu h45 (aB 4 v45))) fun v46 h46 =>
 aI (gd v42 true h46 (pu h46 (aG G false 1 v46 h46))) fun v47 h47 =>
 aI (gd v42 true h47 (some ((aJ xs 4), h47))) fun v48 h48 =>
 aI (gd v42 true h48 (pu h48 (gW v48))) fun v49 h49 =>
 aI (gd v42 true h49 (pu h49 (aB 3 v49))) fun v50 h50 =>
 aI (gd v42 true h50 (pu h50 (aG G false 1 v50 h50))) fun v51 h51 =>
 aI (gd v42 true h51 (kR (fU (cU.env G k self)) v43 [v47, v51] h51)) fun v52 h52 =>
 aI (gd v42 true h52 (pu h52 (un .not v52))) fun v53 h53 =>
 aI (pu h53 (fW v42 v53 (.bool false))) fun v54 h54 =>
 bB v54
 (aI (pu h54 (gW (aJ xs 4))) fun v55 h55 =>
 aI (pu h55 (aB 5 v55)) fun v56 h56 =>
 aI (pu h56 (aG G true 4 v56 h56)) fun v57 h57 =>
 aI (gB (aV 4 (aJ xs 3) v57 h57)) fun v58 h58 =>
 some (.ret, [(aJ xs 0), (aJ xs 1), (aJ xs 2), (aJ xs 3), (aJ xs 4)], h58))
 (aI (pu h54 (gW (aJ xs 4))) fun v59 h59 =>
 aI (pu h59 (aB 5 v59)) fun v60 h60 =>
 aI (pu h60 (aB 3 v60)) fun v61 h61 =>
 aI (pu h61 (aG G false 1 v61 h61)) fun v62 h62 =>
 aI (pu h62 (bA Tryd.prog .add 2 true v62 (.int .i64 1))) fun v63 h63 =>
 aI (pu h63 (gW (aJ xs 4))) fun v64 h64 =>
 aI (pu h64 (aB 5 v64)) fun v65 h65 =>
 aI (pu h65 (aB 3 v65)) fun v66 h66 =>
 aI (gB (aV 1 v66 v63 h66)) fun v67 h67 =>
 aI (pu h67 (gW (aJ xs 4))) fun v68 h68 =>
 aI (pu h68 (aB 4 v68)) fun v69 h69 =>
 aI (pu h69 (aG G false 1 v69 h69)) fun v70 h70 =>
 aI (cZ (bM.f G k) [(aJ xs 4), (.int .i64 1), v70] h70) fun v71 h71 =>
 aI (pu h71 (aB 0 (aJ xs 2))) fun v72 h72 =>
 aI (pu h72 (aG G false 1 v72 h72)) fun v73 h73 =>
 aI (pu h73 (gW (aJ xs 4))) fun v74 h74 =>
 aI (pu h74 (aB 4 v74)) fun v75 h75 =>
 aI (pu h75 (aG G false 1 v75 h75)) fun v76 h76 =>
 aI (pu h76 (aF 6 v73 v76)) fun v77 h77 =>
 aI (pu h77 (aG G true 6 v77 h77)) fun v78 h78 =>
 aI (cZ (cN.f G k) [(aJ xs 4), v78] h78) fun v79 h79 =>
 aI (pu h79 (un .not v79)) fun v80 h80 =>
 bB v80
 (aI (pu h80 (gW (aJ xs 4))) fun v81 h81 =>
 aI (pu h81 (aB 5 v81)) fun v82 h82 =>
 aI (pu h82 (aG G true 4 v82 h82)) fun v83 h83 =>
 aI (gB (aV 4 (aJ xs 3) v83 h83)) fun v84 h84 =>
 some (.ret, [(aJ xs 0), (aJ xs 1), (aJ xs 2), (aJ xs 3), (aJ xs 4)], h84))
 (lp [(aJ xs 0), (aJ xs 1), (aJ xs 2), (aJ xs 3), (aJ xs 4)] h80))))
noncomputable def cU.c (G : aE) (k : Nat) (self : cQ) (x0 x1 x2 x3 : AV) (h : aA) : Option (AV × aA) := fJ (
 aI (cS x0 h) fun v0 h0 =>
 aI (eO 73 (.agg [(.int .i64 0), .nils, .nils, (.int .i64 0)]) h0) fun v1 h1 =>
 aI (pu h1 (aG G true 3 v0 h1)) fun v2 h2 =>
 aI (pu h2 (aB 1 v0)) fun v3 h3 =>
 aI (pu h3 (aG G false 1 v3 h3)) fun v4 h4 =>
 aI (gD 30 1 (.int .u64 0) v4 v4 h4) fun v5 h5 =>
 aI (pu h5 (cH [(0, 3), (3, 1), (4, 1), (5, 4)] [.nils, (.int .i64 0), (.int .i64 0), .nils, (.int .i64 0), (.int .i64 0), .nils, .nils, (.int .i64 0)] [(0, v2), (1, v5)])) fun v6 h6 =>
 aI (eO 147 v6 h6) fun v7 h7 =>
 aI (cZ (aN.f G k) [x1] h7) fun v8 h8 =>
 aI (pu h8 (gW v7)) fun v9 h9 =>
 aI (pu h9 (aB 5 v9)) fun v10 h10 =>
 aI (pu h10 (aB 1 v10)) fun v11 h11 =>
 aI (gB (aV 1 v11 v8 h11)) fun v12 h12 =>
 vK [(v7, 7, 91, 2)] h12 fun hv13 =>
 eE (cM (cU.l3 G k hv13.length self) k [x2, x3, v0, v1, v7] hv13) fun e13 x13 h13 => iX e13
 (none)
 (fun i13 => if i13 = 0 then (xA [aG G true 4 (aJ x13 3) h13] h.length h13) else (none))
 (xA [aG G true 4 (aJ x13 3) h13] h.length h13))
noncomputable def cU.f (G : aE) : Nat → cQ
 | 0 => fun _ _ => none
 | k + 1 => fun args h => aFE args fun x0 x1 x2 x3 => (cU.c G k (cU.f G k) x0 x1 x2 x3 h)
theorem cU.step (G : aE) (k : Nat) (x0 x1 x2 x3 : AV) (h : aA) : cU.f G (k + 1) [x0, x1, x2, x3] h = cU.c G k (cU.f G k) x0 x1 x2 x3 h := rfl
noncomputable def dN.ann : Ann := fY [] [] [] []
noncomputable def dN.env (G : aE) (k : Nat) (self : cQ) : List (Nat × Bool × cQ) := [(43, true, cG.f G k), (69, true, dG.f G k), (70, false, cU.f G k)]
noncomputable def dN.c (G : aE) (k : Nat) (self : cQ) (x0 x1 x2 : AV) (h : aA) : Option (AV × aA) := fJ (
 aI (cS x0 h) fun v0 h0 =>
 aI (eO 73 (.agg [(.int .i64 0), .nils, .nils, (.int .i64 0)]) h0) fun v1 h1 =>
 aI (pu h1 (aG G true 3 v0 h1)) fun v2 h2 =>
 aI (aW (cG.f G k) [v2] h2) fun v3 h3 =>
 aI (pu h3 (bA Tryd.prog .neq 33 true v3 .nili)) fun v4 h4 =>
 bB v4
 (aI (pu h4 (cH [(0, 1), (1, 1), (2, 1), (3, 1)] [(.int .i64 0), .nils, .nils, (.int .i64 0)] [])) fun v5 h5 =>
 aI (gB (aV 4 v1 v5 h5)) fun v6 h6 =>
 xA [aG G true 4 v1 h6, some v3] h.length h6)
 (aI (pu h4 (aG G true 3 v0 h4)) fun v7 h7 =>
 aI (aW (dG.f G k) [v7, x1, x2] h7) fun v8 h8 =>
 aI (pu h8 (bA Tryd.prog .neq 33 true v8 .nili)) fun v9 h9 =>
 bB v9
 (aI (pu h9 (cH [(0, 1), (1, 1), (2, 1), (3, 1)] [(.int .i64 0), .nils, .nils, (.int .i64 0)] [])) fun v10 h10 =>
 aI (gB (aV 4 v1 v10 h10)) fun v11 h11 =>
 xA [aG G true 4 v1 h11, some v8] h.length h11)
 (aI (pu h9 (aG G true 3 v0 h9)) fun v12 h12 =>
 aI (cZ (cU.f G k) [v12, x1, x2, .nilf] h12) fun v13 h13 =>
 aI (gB (aV 4 v1 v13 h13)) fun v14 h14 =>
 xA [aG G true 4 v1 h14, some .nili] h.length h14)))
noncomputable def dN.f (G : aE) : Nat → cQ
 | 0 => fun _ _ => none
 | k + 1 => fun args h => aBG args fun x0 x1 x2 => (dN.c G k (dN.f G k) x0 x1 x2 h)
theorem dN.step (G : aE) (k : Nat) (x0 x1 x2 : AV) (h : aA) : dN.f G (k + 1) [x0, x1, x2] h = dN.c G k (dN.f G k) x0 x1 x2 h := rfl
noncomputable def aQ.ann : Ann := fY [] [] [(4, [0, 1, 4, 5])] []
noncomputable def aQ.env (G : aE) (k : Nat) (self : cQ) : List (Nat × Bool × cQ) := []
noncomputable def aQ.l4 (G : aE) (k n0 : Nat) (self : cQ) (lp : eU) : eU := fun xs h0 => jL n0 xs h0 fun h =>
 aI (pu h (bE (aJ xs 0))) fun v4 h4 =>
 aI (pu h4 (bA Tryd.prog .lss 3 false (aJ xs 3) v4)) fun v5 h5 =>
 bB v5
 (aI (pu h5 (aF 1 (aJ xs 0) (aJ xs 3))) fun v6 h6 =>
 aI (pu h6 (aG G false 1 v6 h6)) fun v7 h7 =>
 aI (pu h7 (aF 1 (aJ xs 1) (aJ xs 3))) fun v8 h8 =>
 aI (pu h8 (aG G false 1 v8 h8)) fun v9 h9 =>
 aI (pu h9 (bA Tryd.prog .eql 30 false v7 v9)) fun v10 h10 =>
 aI (pu h10 (un .not v10)) fun v11 h11 =>
 bB v11
 (some (.ret, [(aJ xs 0), (aJ xs 1), (.bool false), (aJ xs 3)], h11))
 (aI (pu h11 (bA Tryd.prog .add 3 true (aJ xs 3) (.int .i64 1))) fun v12 h12 =>
 lp [(aJ xs 0), (aJ xs 1), (aJ xs 2), v12] h12))
 (some (.exit 0, [(aJ xs 0), (aJ xs 1), (aJ xs 2), (aJ xs 3)], h5))
noncomputable def aQ.c (G : aE) (k : Nat) (self : cQ) (x0 x1 : AV) (h : aA) : Option (AV × aA) := fJ (
 aI (pu h (bE x0)) fun v0 h0 =>
 aI (pu h0 (bE x1)) fun v1 h1 =>
 aI (pu h1 (bA Tryd.prog .neq 3 false v0 v1)) fun v2 h2 =>
 bB v2
 (cP [(.bool false)] h.length h2)
 (eE (cM (aQ.l4 G k h2.length self) k [x0, x1, (.bool false), (.int .i64 0)] h2) fun e3 x3 h3 => iX e3
 (none)
 (fun i3 => if i3 = 0 then (cP [(.bool true)] h.length h3) else (none))
 (cP [(aJ x3 2)] h.length h3)))
noncomputable def aQ.f (G : aE) : Nat → cQ
 | 0 => fun _ _ => none
 | k + 1 => fun args h => mV args fun x0 x1 => (aQ.c G k (aQ.f G k) x0 x1 h)
theorem aQ.step (G : aE) (k : Nat) (x0 x1 : AV) (h : aA) : aQ.f G (k + 1) [x0, x1] h = aQ.c G k (aQ.f G k) x0 x1 h := rfl
noncomputable def bC.ann : Ann := fY [] [] [] []
noncomputable def bC.env (G : aE) (k : Nat) (self : cQ) : List (Nat × Bool × cQ) := []
noncomputable def bC.c (G : aE) (k : Nat) (self : cQ) (x0 x1 : AV) (h : aA) : Option (AV × aA) := fJ (
 aI (cS x0 h) fun v0 h0 =>
 aI (cS x1 h0) fun v1 h1 =>
 aI (pu h1 (aB 0 v0)) fun v2 h2 =>
 aI (pu h2 (aG G false 1 v2 h2)) fun v3 h3 =>
 aI (pu h3 (aB 0 v1)) fun v4 h4 =>
 aI (pu h4 (aG G false 1 v4 h4)) fun v5 h5 =>
 aI (pu h5 (bA Tryd.prog .eql 3 false v3 v5)) fun v6 h6 =>
 aI (gd v6 true h6 (pu h6 (aB 1 v0))) fun v7 h7 =>
 aI (gd v6 true h7 (pu h7 (aG G false 1 v7 h7))) fun v8 h8 =>
 aI (gd v6 true h8 (pu h8 (aB 1 v1))) fun v9 h9 =>
 aI (gd v6 true h9 (pu h9 (aG G false 1 v9 h9))) fun v10 h10 =>
 aI (gd v6 true h10 (pu h10 (bA Tryd.prog .eql 2 false v8 v10))) fun v11 h11 =>
 aI (pu h11 (fW v6 v11 (.bool false))) fun v12 h12 =>
 cP [v12] h.length h12)
noncomputable def bC.f (G : aE) : Nat → cQ
 | 0 => fun _ _ => none
 | k + 1 => fun args h => mV args fun x0 x1 => (bC.c G k (bC.f G k) x0 x1 h)
theorem bC.step (G : aE) (k : Nat) (x0 x1 : AV) (h : aA) : bC.f G (k + 1) [x0, x1] h = bC.c G k (bC.f G k) x0 x1 h := rfl
noncomputable def aP.ann : Ann := fY [] [] [(4, [0, 1, 4, 5])] []
noncomputable def aP.env (G : aE) (k : Nat) (self : cQ) : List (Nat × Bool × cQ) := [(71, true, bC.f G k)]
noncomputable def aP.l4 (G : aE) (k n0 : Nat) (self : cQ) (lp : eU) : eU := fun xs h0 => jL n0 xs h0 fun h =>
 aI (pu h (bE (aJ xs 0))) fun v4 h4 =>
 aI (pu h4 (bA Tryd.prog .lss 3 false (aJ xs 3) v4)) fun v5 h5 =>
 bB v5
 (aI (pu h5 (aF 2 (aJ xs 0) (aJ xs 3))) fun v6 h6 =>
 aI (pu h6 (aG G true 2 v6 h6)) fun v7 h7 =>
 aI (pu h7 (aF 2 (aJ xs 1) (aJ xs 3))) fun v8 h8 =>
 aI (pu h8 (aG G true 2 v8 h8)) fun v9 h9 =>
 aI (aW (bC.f G k) [v7, v9] h9) fun v10 h10 =>
 aI (pu h10 (un .not v10)) fun v11 h11 =>
 bB v11
 (some (.ret, [(aJ xs 0), (aJ xs 1), (.bool false), (aJ xs 3)], h11))
 (aI (pu h11 (bA Tryd.prog .add 3 true (aJ xs 3) (.int .i64 1))) fun v12 h12 =>
 lp [(aJ xs 0), (aJ xs 1), (aJ xs 2), v12] h12))
 (some (.exit 0, [(aJ xs 0), (aJ xs 1), (aJ xs 2), (aJ xs 3)], h5))
noncomputable def aP.c (G : aE) (k : Nat) (self : cQ) (x0 x1 : AV) (h : aA) : Option (AV × aA) := fJ (
 aI (pu h (bE x0)) fun v0 h0 =>
 aI (pu h0 (bE x1)) fun v1 h1 =>
 aI (pu h1 (bA Tryd.prog .neq 3 false v0 v1)) fun v2 h2 =>
 bB v2
 (cP [(.bool false)] h.length h2)
 (eE (cM (aP.l4 G k h2.length self) k [x0, x1, (.bool false), (.int .i64 0)] h2) fun e3 x3 h3 => iX e3
 (none)
 (fun i3 => if i3 = 0 then (cP [(.bool true)] h.length h3) else (none))
 (cP [(aJ x3 2)] h.length h3)))
noncomputable def aP.f (G : aE) : Nat → cQ
 | 0 => fun _ _ => none
 | k + 1 => fun args h => mV args fun x0 x1 => (aP.c G k (aP.f G k) x0 x1 h)
theorem aP.step (G : aE) (k : Nat) (x0 x1 : AV) (h : aA) : aP.f G (k + 1) [x0, x1] h = aP.c G k (aP.f G k) x0 x1 h := rfl
noncomputable def bQ.ann : Ann := fY [] [] [(4, [0, 1, 4, 5])] []
noncomputable def bQ.env (G : aE) (k : Nat) (self : cQ) : List (Nat × Bool × cQ) := []
noncomputable def bQ.l4 (G : aE) (k n0 : Nat) (self : cQ) (lp : eU) : eU := fun xs h0 => jL n0 xs h0 fun h =>
 aI (pu h (bE (aJ xs 0))) fun v4 h4 =>
 aI (pu h4 (bA Tryd.prog .lss 3 false (aJ xs 3) v4)) fun v5 h5 =>
 bB v5
 (aI (pu h5 (aF 1 (aJ xs 0) (aJ xs 3))) fun v6 h6 =>
 aI (pu h6 (aG G false 1 v6 h6)) fun v7 h7 =>
 aI (pu h7 (aF 1 (aJ xs 1) (aJ xs 3))) fun v8 h8 =>
 aI (pu h8 (aG G false 1 v8 h8)) fun v9 h9 =>
 aI (pu h9 (bA Tryd.prog .eql 3 false v7 v9)) fun v10 h10 =>
 aI (pu h10 (un .not v10)) fun v11 h11 =>
 bB v11
 (some (.ret, [(aJ xs 0), (aJ xs 1), (.bool false), (aJ xs 3)], h11))
 (aI (pu h11 (bA Tryd.prog .add 3 true (aJ xs 3) (.int .i64 1))) fun v12 h12 =>
 lp [(aJ xs 0), (aJ xs 1), (aJ xs 2), v12] h12))
 (some (.exit 0, [(aJ xs 0), (aJ xs 1), (aJ xs 2), (aJ xs 3)], h5))
noncomputable def bQ.c (G : aE) (k : Nat) (self : cQ) (x0 x1 : AV) (h : aA) : Option (AV × aA) := fJ (
 aI (pu h (bE x0)) fun v0 h0 =>
 aI (pu h0 (bE x1)) fun v1 h1 =>
 aI (pu h1 (bA Tryd.prog .neq 3 false v0 v1)) fun v2 h2 =>
 bB v2
 (cP [(.bool false)] h.length h2)
 (eE (cM (bQ.l4 G k h2.length self) k [x0, x1, (.bool false), (.int .i64 0)] h2) fun e3 x3 h3 => iX e3
 (none)
 (fun i3 => if i3 = 0 then (cP [(.bool true)] h.length h3) else (none))
 (cP [(aJ x3 2)] h.length h3)))
noncomputable def bQ.f (G : aE) : Nat → cQ
 | 0 => fun _ _ => none
 | k + 1 => fun args h => mV args fun x0 x1 => (bQ.c G k (bQ.f G k) x0 x1 h)
noncomputable def bZ.ann : Ann := fY [] [7] [(15, [2, 7, 44, 45, 46])] [(13, [2, 6]), (12, [1, 2, 5, 36])]
noncomputable def bZ.env (G : aE) (k : Nat) (self : cQ) : List (Nat × Bool × cQ) := [(53, false, aS.f G k), (54, false, aC.f G k)]
noncomputable def bZ.l15 (G : aE) (k n0 : Nat) (self : cQ) (lp : eU) : eU := fun xs h0 => jL n0 xs h0 fun h =>
 aI (pu h (bA Tryd.prog .lss 3 false (aJ xs 4) (aJ xs 3))) fun v34 h34 =>
 bB v34
 (aI (pu h34 (aF 1 (aJ xs 2) (aJ xs 4))) fun v35 h35 =>
 aI (pu h35 (aG G false 1 v35 h35)) fun v36 h36 =>
 aI (pu h36 (bA Tryd.prog .geq 2 true v36 (.int .i64 0))) fun v37 h37 =>
 aI (gd v37 true h37 (some (v36, h37))) fun v38 h38 =>
 aI (gd v37 true h38 (pu h38 (aB 0 (aJ xs 0)))) fun v39 h39 =>
 aI (gd v37 true h39 (pu h39 (aG G false 1 v39 h39))) fun v40 h40 =>
 aI (gd v37 true h40 (pu h40 (bE v40))) fun v41 h41 =>
 aI (gd v37 true h41 (pu h41 (bA Tryd.prog .lss 2 false v38 v41))) fun v42 h42 =>
 aI (pu h42 (fW v37 v42 (.bool false))) fun v43 h43 =>
 bB v43
 (aI (bN 1 1 (.int .i64 0) [(0, v36)] h43) fun v44 h44 =>
 aI (eM 3 1 (aJ xs 1) v44 h44) fun v45 h45 =>
 aI (pu h45 (bA Tryd.prog .add 3 true (aJ xs 4) (.int .i64 1))) fun v46 h46 =>
 lp [(aJ xs 0), v45, (aJ xs 2), (aJ xs 3), v46] h46)
 (aI (pu h43 (bA Tryd.prog .add 3 true (aJ xs 4) (.int .i64 1))) fun v47 h47 =>
 lp [(aJ xs 0), (aJ xs 1), (aJ xs 2), (aJ xs 3), v47] h47))
 (some (.exit 1, [(aJ xs 0), (aJ xs 1), (aJ xs 2), (aJ xs 3), (aJ xs 4)], h34))
noncomputable def bZ.c (G : aE) (k : Nat) (self : cQ) (x0 x1 : AV) (h : aA) : Option (AV × aA) := fJ (
 aI (cS x0 h) fun v0 h0 =>
 aI (pu h0 (bA Tryd.prog .lss 3 true x1 (.int .i64 0))) fun v1 h1 =>
 aI (gd v1 false h1 (some (x1, h1))) fun v2 h2 =>
 aI (gd v1 false h2 (pu h2 (aB 0 v0))) fun v3 h3 =>
 aI (gd v1 false h3 (pu h3 (aG G false 1 v3 h3))) fun v4 h4 =>
 aI (gd v1 false h4 (pu h4 (bE v4))) fun v5 h5 =>
 aI (gd v1 false h5 (pu h5 (bA Tryd.prog .geq 3 false v2 v5))) fun v6 h6 =>
 aI (pu h6 (fW v1 (.bool true) v6)) fun v7 h7 =>
 bB v7
 (cP [.nils] h.length h7)
 (aI (pu h7 (aB 0 v0)) fun v8 h8 =>
 aI (pu h8 (aG G false 1 v8 h8)) fun v9 h9 =>
 aI (pu h9 (aF 6 v9 x1)) fun v10 h10 =>
 aI (pu h10 (aG G true 6 v10 h10)) fun v11 h11 =>
 aI (eO 29 (.agg [(.int .i64 0), (.int .i64 0), (.int .i64 0), (.int .i64 0), (.int .i64 0), (.int .i64 0)]) h11) fun v12 h12 =>
 aI (gB (aV 6 v12 v11 h12)) fun v13 h13 =>
 eE (
 aI (pu h13 (aB 0 v12)) fun v14 h14 =>
 aI (pu h14 (aG G false 1 v14 h14)) fun v15 h15 =>
 aI (pu h15 (bA Tryd.prog .eql 3 true v15 (.int .i64 20))) fun v16 h16 =>
 bB v16
 (some (.normal, [v0, .nils], h16))
 (aI (pu h16 (bA Tryd.prog .eql 3 true v15 (.int .i64 17))) fun v17 h17 =>
 bB v17
 (aI (pu h17 (aB 5 v12)) fun v18 h18 =>
 aI (pu h18 (aG G false 1 v18 h18)) fun v19 h19 =>
 aI (bN 1 1 (.int .i64 0) [(0, v19)] h19) fun v20 h20 =>
 some (.normal, [v0, v20], h20))
 (eE (
 aI (pu h17 (bA Tryd.prog .eql 3 true v15 (.int .i64 18))) fun v21 h21 =>
 bB v21
 (some (.normal, [x1, v0, v12, v21], h21))
 (aI (pu h21 (bA Tryd.prog .eql 3 true v15 (.int .i64 19))) fun v22 h22 =>
 some (.normal, [x1, v0, v12, v22], h22))) fun e23 x23 h23 => iX e23
 (bB (aJ x23 3)
 (aI (pu h23 (bA Tryd.prog .add 2 true (aJ x23 0) (.int .i64 1))) fun v24 h24 =>
 aI (pu h24 (aB 5 (aJ x23 2))) fun v25 h25 =>
 aI (pu h25 (aG G false 1 v25 h25)) fun v26 h26 =>
 aI (bN 1 2 (.int .i64 0) [(0, v24), (1, v26)] h26) fun v27 h27 =>
 some (.normal, [(aJ x23 1), v27], h27))
 (aI (pu h23 (bA Tryd.prog .add 2 true (aJ x23 0) (.int .i64 1))) fun v28 h28 =>
 aI (bN 1 1 (.int .i64 0) [(0, v28)] h28) fun v29 h29 =>
 some (.normal, [(aJ x23 1), v29], h29)))
 (fun i23 => if i23 = 0 then (some (.normal, [(aJ x23 1), .undef], h23)) else (some (.exit i23, [(aJ x23 1), .undef], h23)))
 (some (.ret, [(aJ x23 1), .undef], h23))))) fun e30 x30 h30 => iX e30
 (aI (some (.sl h30.length 0 0 0 1, h30 ++ [⟨3, 1, []⟩])) fun v31 h31 =>
 aI (pu h31 (bE (aJ x30 1))) fun v32 h32 =>
 eE (cM (bZ.l15 G k h32.length self) k [(aJ x30 0), v31, (aJ x30 1), v32, (.int .i64 0)] h32) fun e33 x33 h33 => iX e33
 (none)
 (fun i33 => if i33 = 1 then (aI (cZ (aS.f G k) [(aJ x33 1)] h33) fun v48 h48 =>
 aI (cZ (aC.f G k) [(aJ x33 1)] h48) fun v49 h49 =>
 cP [v49] h.length h49) else (none))
 (cP [.undef] h.length h33))
 (fun i30 => none)
 (cP [.undef] h.length h30)))
noncomputable def bZ.f (G : aE) : Nat → cQ
 | 0 => fun _ _ => none
 | k + 1 => fun args h => mV args fun x0 x1 => (bZ.c G k (bZ.f G k) x0 x1 h)
theorem bZ.step (G : aE) (k : Nat) (x0 x1 : AV) (h : aA) : bZ.f G (k + 1) [x0, x1] h = bZ.c G k (bZ.f G k) x0 x1 h := rfl
noncomputable def dL.ann : Ann := fY [] [] [] []
noncomputable def dL.env (G : aE) (k : Nat) (self : cQ) : List (Nat × Bool × cQ) := []
noncomputable def dL.c (G : aE) (k : Nat) (self : cQ) (x0 x1 x2 : AV) (h : aA) : Option (AV × aA) := fJ (
 aI (pu h (aG G false 1 x2 h)) fun v0 h0 =>
 aI (pu h0 (aF 1 v0 x0)) fun v1 h1 =>
 aI (pu h1 (aG G false 1 v1 h1)) fun v2 h2 =>
 aI (pu h2 (bE v2)) fun v3 h3 =>
 aI (pu h3 (bA Tryd.prog .gtr 3 true v3 (.int .i64 0))) fun v4 h4 =>
 aI (gd v4 true h4 (pu h4 (aG G false 1 x2 h4))) fun v5 h5 =>
 aI (gd v4 true h5 (some (x0, h5))) fun v6 h6 =>
 aI (gd v4 true h6 (pu h6 (aF 1 v5 v6))) fun v7 h7 =>
 aI (gd v4 true h7 (pu h7 (aG G false 1 v7 h7))) fun v8 h8 =>
 aI (gd v4 true h8 (some (v3, h8))) fun v9 h9 =>
 aI (gd v4 true h9 (pu h9 (bA Tryd.prog .sub 3 true v9 (.int .i64 1)))) fun v10 h10 =>
 aI (gd v4 true h10 (pu h10 (aF 1 v8 v10))) fun v11 h11 =>
 aI (gd v4 true h11 (pu h11 (aG G false 1 v11 h11))) fun v12 h12 =>
 aI (gd v4 true h12 (some (x1, h12))) fun v13 h13 =>
 aI (gd v4 true h13 (pu h13 (bA Tryd.prog .eql 3 false v12 v13))) fun v14 h14 =>
 aI (pu h14 (fW v4 v14 (.bool false))) fun v15 h15 =>
 cP [v15] h.length h15)
noncomputable def dL.f (G : aE) : Nat → cQ
 | 0 => fun _ _ => none
 | k + 1 => fun args h => aBG args fun x0 x1 x2 => (dL.c G k (dL.f G k) x0 x1 x2 h)
theorem dL.step (G : aE) (k : Nat) (x0 x1 x2 : AV) (h : aA) : dL.f G (k + 1) [x0, x1, x2] h = dL.c G k (dL.f G k) x0 x1 x2 h := rfl
noncomputable def aU.ann : Ann := fY [5] [2] [] []
noncomputable def aU.env (G : aE) (k : Nat) (self : cQ) : List (Nat × Bool × cQ) := []
noncomputable def aU.c (G : aE) (k : Nat) (self : cQ) (x0 : AV) (h : aA) : Option (AV × aA) := fJ (
 aI (some (.sl h.length 0 0 0 1, h ++ [⟨3, 1, []⟩])) fun v0 h0 =>
 aI (pu h0 (bA Tryd.prog .eql 49 true x0 .nils)) fun v1 h1 =>
 bB v1
 (aI (some (.sl h1.length 0 0 0 1, h1 ++ [⟨3, 1, []⟩])) fun v2 h2 =>
 aBY [v2] h2)
 (aI (cL 3 1 0 (.int .i64 0) [] h1) fun v3 h3 =>
 aI (eM 3 1 v3 x0 h3) fun v4 h4 =>
 aBY [v4] h4))
noncomputable def aU.f (G : aE) : Nat → cQ
 | 0 => fun _ _ => none
 | k + 1 => fun args h => nX args fun x0 => (aU.c G k (aU.f G k) x0 h)
theorem aU.step (G : aE) (k : Nat) (x0 : AV) (h : aA) : aU.f G (k + 1) [x0] h = aU.c G k (aU.f G k) x0 h := rfl
noncomputable def aZ.ann : Ann := aGc [] [] [(35, [1, 5, 6, 13, 14, 15, 16, 84, 85, 126, 127, 128]), (31, [1, 5, 6, 13, 14, 15, 16, 84, 85]), (27, [1, 5, 6, 13, 14, 15, 16, 84, 85, 92, 93, 94]), (23, [1, 5, 6, 13, 14, 84, 85]), (15, [1, 5, 6, 7, 35, 36, 37, 62, 63, 64]), (10, [1, 5, 6, 7, 8, 35, 36, 37, 44, 45, 46]), (7, [1, 5, 6, 35, 36, 37])] [] [(23, [(13, 0, 3, 1)]), (7, [(5, 0, 3, 1)])] [] [(7, [(6, 0, 1, 3, 1)])] [] []
noncomputable def aZ.env (G : aE) (k : Nat) (self : cQ) : List (Nat × Bool × cQ) := [(20, true, dD.f G k), (23, true, bT.f G k), (25, true, bZ.f G k), (43, true, cG.f G k), (59, false, dL.f G k), (60, false, aU.f G k)]
noncomputable def aZ.l10 (G : aE) (k n0 : Nat) (self : cQ) (lp : eU) : eU := fun xs h0 => jL n0 xs h0 fun h =>
 aI (pu h (bA Tryd.prog .lss 3 false (aJ xs 10) (aJ xs 9))) fun v22 h22 =>
 bB v22
 (aI (pu h22 (aF 1 (aJ xs 8) (aJ xs 10))) fun v23 h23 =>
 aI (pu h23 (aG G false 1 v23 h23)) fun v24 h24 =>
 aI (pu h24 (aF 1 (aJ xs 1) v24)) fun v25 h25 =>
 aI (pu h25 (aG G false 1 v25 h25)) fun v26 h26 =>
 aI (bN 1 1 (.int .i64 0) [(0, (aJ xs 3))] h26) fun v27 h27 =>
 aI (eM 3 1 v26 v27 h27) fun v28 h28 =>
 aI (pu h28 (aF 1 (aJ xs 1) v24)) fun v29 h29 =>
 aI (gB (aV 1 v29 v28 h29)) fun v30 h30 =>
 aI (pu h30 (bA Tryd.prog .add 3 true (aJ xs 10) (.int .i64 1))) fun v31 h31 =>
 lp [(aJ xs 0), (aJ xs 1), (aJ xs 2), (aJ xs 3), (aJ xs 4), (aJ xs 5), (aJ xs 6), (aJ xs 7), (aJ xs 8), (aJ xs 9), v31] h31)
 (some (.exit 2, [(aJ xs 0), (aJ xs 1), (aJ xs 2), (aJ xs 3), (aJ xs 4), (aJ xs 5), (aJ xs 6), (aJ xs 7), (aJ xs 8), (aJ xs 9), (aJ xs 10)], h22))
noncomputable def aZ.l15 (G : aE) (k n0 : Nat) (self : cQ) (lp : eU) : eU := fun xs h0 => jL n0 xs h0 fun h =>
 aI (pu h (bA Tryd.prog .lss 3 false (aJ xs 9) (aJ xs 8))) fun v36 h36 =>
 bB v36
 (aI (pu h36 (aF 1 (aJ xs 7) (aJ xs 9))) fun v37 h37 =>
 aI (pu h37 (aG G false 1 v37 h37)) fun v38 h38 =>
 aI (pu h38 (aAe (aJ xs 2) v38 h38)) fun v39 h39 =>
 aI (bN 1 1 (.int .i64 0) [(0, (aJ xs 3))] h39) fun v40 h40 =>
 aI (eM 3 1 v39 v40 h40) fun v41 h41 =>
 aI (gB (aDG (aJ xs 2) v38 v41 h41)) fun v42 h42 =>
 aI (pu h42 (bA Tryd.prog .add 3 true (aJ xs 9) (.int .i64 1))) fun v43 h43 =>
 lp [(aJ xs 0), (aJ xs 1), (aJ xs 2), (aJ xs 3), (aJ xs 4), (aJ xs 5), (aJ xs 6), (aJ xs 7), (aJ xs 8), v43] h43)
 (some (.exit 4, [(aJ xs 0), (aJ xs 1), (aJ xs 2), (aJ xs 3), (aJ xs 4), (aJ xs 5), (aJ xs 6), (aJ xs 7), (aJ xs 8), (aJ xs 9)], h36))
noncomputable def aZ.l7 (G : aE) (k n0 : Nat) (self : cQ) (lp : eU) : eU := fun xs h0 => jL n0 xs h0 fun h =>
 aI (pu h (bA Tryd.prog .lss 3 false (aJ xs 5) (aJ xs 4))) fun v13 h13 =>
 bB v13
 (aI (pu h13 (aF 6 (aJ xs 3) (aJ xs 5))) fun v14 h14 =>
 aI (pu h14 (aG G true 6 v14 h14)) fun v15 h15 =>
 aI (eO 29 (.agg [(.int .i64 0), (.int .i64 0), (.int .i64 0), (.int .i64 0), (.int .i64 0), (.int .i64 0)]) h15) fun v16 h16 =>
 aI (gB (aV 6 v16 v15 h16)) fun v17 h17 =>
 aI (pu h17 (aG G true 3 (aJ xs 0) h17)) fun v18 h18 =>
 aI (aW (bZ.f G k) [v18, (aJ xs 5)] h18) fun v19 h19 =>
 aI (pu h19 (bE v19)) fun v20 h20 =>
 eE (cM (aZ.l10 G k h20.length self) k [(aJ xs 0), (aJ xs 1), (aJ xs 2), (aJ xs 5), v16, (aJ xs 3), (aJ xs 4), (aJ xs 5), v19, v20, (.int .i64 0)] h20) fun e21 x21 h21 => iX e21
 (none)
 (fun i21 => if i21 = 2 then (aI (pu h21 (aG G true 6 (aJ x21 4) h21)) fun v32 h32 =>
 aI (aW (bT.f G k) [v32] h32) fun v33 h33 =>
 aI (pu h33 (bE v33)) fun v34 h34 =>
 eE (cM (aZ.l15 G k h34.length self) k [(aJ x21 0), (aJ x21 1), (aJ x21 2), (aJ x21 3), (aJ x21 5), (aJ x21 6), (aJ x21 7), v33, v34, (.int .i64 0)] h34) fun e35 x35 h35 => iX e35
 (none)
 (fun i35 => if i35 = 4 then (aI (pu h35 (bA Tryd.prog .add 3 true (aJ x35 6) (.int .i64 1))) fun v44 h44 =>
 lp [(aJ x35 0), (aJ x35 1), (aJ x35 2), (aJ x35 4), (aJ x35 5), v44] h44) else (if i35 = 1 then (aI (pu h35 (bA Tryd.prog .add 3 true (aJ x35 6) (.int .i64 1))) fun v45 h45 =>
 lp [(aJ x35 0), (aJ x35 1), (aJ x35 2), (aJ x35 4), (aJ x35 5), v45] h45) else (some (.exit i35, [(aJ x35 0), (aJ x35 1), (aJ x35 2), (aJ x35 4), (aJ x35 5), (aJ x35 6)], h35))))
 (some (.ret, [(aJ x35 0), (aJ x35 1), (aJ x35 2), (aJ x35 4), (aJ x35 5), (aJ x35 6)], h35))) else (if i21 = 1 then (aI (pu h21 (bA Tryd.prog .add 3 true (aJ x21 7) (.int .i64 1))) fun v46 h46 =>
 lp [(aJ x21 0), (aJ x21 1), (aJ x21 2), (aJ x21 5), (aJ x21 6), v46] h46) else (some (.exit i21, [(aJ x21 0), (aJ x21 1), (aJ x21 2), (aJ x21 5), (aJ x21 6), (aJ x21 7)], h21))))
 (some (.ret, [(aJ x21 0), (aJ x21 1), (aJ x21 2), (aJ x21 5), (aJ x21 6), (aJ x21 7)], h21)))
 (some (.exit 0, [(aJ xs 0), (aJ xs 1), (aJ xs 2), (aJ xs 3), (aJ xs 4), (aJ xs 5)], h13))
noncomputable def aZ.l27 (G : aE) (k n0 : Nat) (self : cQ) (lp : eU) : eU := fun xs h0 => jL n0 xs h0 fun h =>
 aI (pu h (bA Tryd.prog .lss 3 false (aJ xs 11) (aJ xs 10))) fun v61 h61 =>
 bB v61
 (aI (pu h61 (aF 1 (aJ xs 9) (aJ xs 11))) fun v62 h62 =>
 aI (pu h62 (aG G false 1 v62 h62)) fun v63 h63 =>
 aI (pu h63 (aG G false 1 (aJ xs 3) h63)) fun v64 h64 =>
 aI (pu h64 (aG G false 1 (aJ xs 3) h64)) fun v65 h65 =>
 aI (pu h65 (aF 1 v65 v63)) fun v66 h66 =>
 aI (pu h66 (aG G false 1 v66 h66)) fun v67 h67 =>
 aI (bN 1 1 (.int .i64 0) [(0, (aJ xs 5))] h67) fun v68 h68 =>
 aI (eM 3 1 v67 v68 h68) fun v69 h69 =>
 aI (pu h69 (aF 1 v64 v63)) fun v70 h70 =>
 aI (gB (aV 1 v70 v69 h70)) fun v71 h71 =>
 grd [((aJ xs 3), v67)] (
aI (pu h71 (bA Tryd.prog .add 3 true (aJ xs 11) (.int .i64 1))) fun v72 h72 =>
 lp [(aJ xs 0), (aJ xs 1), (aJ xs 2), (aJ xs 3), (aJ xs 4), (aJ xs 5), (aJ xs 6), (aJ xs 7), (aJ xs 8), (aJ xs 9), (aJ xs 10), v72] h72))
 (some (.exit 8, [(aJ xs 0), (aJ xs 1), (aJ xs 2), (aJ xs 3), (aJ xs 4), (aJ xs 5), (aJ xs 6), (aJ xs 7), (aJ xs 8), (aJ xs 9), (aJ xs 10), (aJ xs 11)], h61))
noncomputable def aZ.l35 (G : aE) (k n0 : Nat) (self : cQ) (lp : eU) : eU := fun xs h0 => jL n0 xs h0 fun h =>
 aI (pu h (bA Tryd.prog .lss 3 false (aJ xs 11) (aJ xs 10))) fun v87 h87 =>
 bB v87
 (aI (pu h87 (aF 1 (aJ xs 9) (aJ xs 11))) fun v88 h88 =>
 aI (pu h88 (aG G false 1 v88 h88)) fun v89 h89 =>
 aI (pu h89 (aB 0 (aJ xs 0))) fun v90 h90 =>
 aI (pu h90 (aG G false 1 v90 h90)) fun v91 h91 =>
 aI (pu h91 (aF 6 v91 v89)) fun v92 h92 =>
 aI (pu h92 (aG G true 6 v92 h92)) fun v93 h93 =>
 aI (aW (dD.f G k) [v93] h93) fun v94 h94 =>
 aI (pu h94 (bD v94 0)) fun v95 h95 =>
 aI (pu h95 (bD v94 1)) fun v96 h96 =>
 aI (kR (fU (aZ.env G k self)) (aJ xs 4) [v89, (aJ xs 5)] h96) fun v97 h97 =>
 aI (gd v97 false h97 (some (v96, h97))) fun v98 h98 =>
 aI (gd v97 false h98 (some (v98, h98))) fun v99 h99 =>
 aI (gd v99 true h99 (some (v95, h99))) fun v100 h100 =>
 aI (gd v99 true h100 (some ((aJ xs 5), h100))) fun v101 h101 =>
 aI (gd v99 true h101 (pu h101 (bA Tryd.prog .eql 3 false v100 v101))) fun v102 h102 =>
 aI (gd v97 false h102 (pu h102 (fW v99 v102 (.bool false)))) fun v103 h103 =>
 aI (pu h103 (fW v97 (.bool true) v103)) fun v104 h104 =>
 bB v104
 (aI (pu h104 (bA Tryd.prog .add 3 true (aJ xs 11) (.int .i64 1))) fun v105 h105 =>
 lp [(aJ xs 0), (aJ xs 1), (aJ xs 2), (aJ xs 3), (aJ xs 4), (aJ xs 5), (aJ xs 6), (aJ xs 7), (aJ xs 8), (aJ xs 9), (aJ xs 10), v105] h105)
 (aI (pu h104 (aG G false 1 (aJ xs 3) h104)) fun v106 h106 =>
 aI (pu h106 (aG G false 1 (aJ xs 3) h106)) fun v107 h107 =>
 aI (pu h107 (aF 1 v107 v89)) fun v108 h108 =>
 aI (pu h108 (aG G false 1 v108 h108)) fun v109 h109 =>
 aI (bN 1 1 (.int .i64 0) [(0, (aJ xs 5))] h109) fun v110 h110 =>
 aI (eM 3 1 v109 v110 h110) fun v111 h111 =>
 aI (pu h111 (aF 1 v106 v89)) fun v112 h112 =>
 aI (gB (aV 1 v112 v111 h112)) fun v113 h113 =>
 grd [((aJ xs 3), v109)] (
aI (bN 1 1 (.int .i64 0) [(0, v89)] h113) fun v114 h114 =>
 aI (eM 3 1 (aJ xs 6) v114 h114) fun v115 h115 =>
 aI (pu h115 (bA Tryd.prog .add 3 true (aJ xs 11) (.int .i64 1))) fun v116 h116 =>
 lp [(aJ xs 0), (aJ xs 1), (aJ xs 2), (aJ xs 3), (aJ xs 4), (aJ xs 5), v115, (aJ xs 7), (aJ xs 8), (aJ xs 9), (aJ xs 10), v116] h116)))
 (some (.exit 12, [(aJ xs 0), (aJ xs 1), (aJ xs 2), (aJ xs 3), (aJ xs 4), (aJ xs 5), (aJ xs 6), (aJ xs 7), (aJ xs 8), (aJ xs 9), (aJ xs 10), (aJ xs 11)], h87))
noncomputable def aZ.l31 (G : aE) (k n0 : Nat) (self : cQ) (lp : eU) : eU := fun xs h0 => jL n0 xs h0 fun h =>
 aI (pu h (bE (aJ xs 6))) fun v74 h74 =>
 aI (pu h74 (bA Tryd.prog .gtr 3 true v74 (.int .i64 0))) fun v75 h75 =>
 bB v75
 (aI (pu h75 (bE (aJ xs 6))) fun v76 h76 =>
 aI (pu h76 (bA Tryd.prog .sub 3 true v76 (.int .i64 1))) fun v77 h77 =>
 aI (pu h77 (aF 1 (aJ xs 6) v77)) fun v78 h78 =>
 aI (pu h78 (aG G false 1 v78 h78)) fun v79 h79 =>
 aI (pu h79 (bE (aJ xs 6))) fun v80 h80 =>
 aI (pu h80 (bA Tryd.prog .sub 3 true v80 (.int .i64 1))) fun v81 h81 =>
 aI (pu h81 (gK 1 (aJ xs 6) none (some v81))) fun v82 h82 =>
 aI (pu h82 (aF 1 (aJ xs 1) v79)) fun v83 h83 =>
 aI (pu h83 (aG G false 1 v83 h83)) fun v84 h84 =>
 aI (pu h84 (bE v84)) fun v85 h85 =>
 eE (cM (aZ.l35 G k h85.length self) k [(aJ xs 0), (aJ xs 1), (aJ xs 2), (aJ xs 3), (aJ xs 4), (aJ xs 5), v82, (aJ xs 7), (aJ xs 8), v84, v85, (.int .i64 0)] h85) fun e86 x86 h86 => iX e86
 (none)
 (fun i86 => if i86 = 12 then (lp [(aJ x86 0), (aJ x86 1), (aJ x86 2), (aJ x86 3), (aJ x86 4), (aJ x86 5), (aJ x86 6), (aJ x86 7), (aJ x86 8)] h86) else (if i86 = 11 then (lp [(aJ x86 0), (aJ x86 1), (aJ x86 2), (aJ x86 3), (aJ x86 4), (aJ x86 5), (aJ x86 6), (aJ x86 7), (aJ x86 8)] h86) else (some (.exit i86, [(aJ x86 0), (aJ x86 1), (aJ x86 2), (aJ x86 3), (aJ x86 4), (aJ x86 5), (aJ x86 6), (aJ x86 7), (aJ x86 8)], h86))))
 (some (.ret, [(aJ x86 0), (aJ x86 1), (aJ x86 2), (aJ x86 3), (aJ x86 4), (aJ x86 5), (aJ x86 6), (aJ x86 7), (aJ x86 8)], h86)))
 (some (.exit 10, [(aJ xs 0), (aJ xs 1), (aJ xs 2), (aJ xs 3), (aJ xs 4), (aJ xs 5), (aJ xs 6), (aJ xs 7), (aJ xs 8)], h75))
noncomputable def aZ.l23 (G : aE) (k n0 : Nat) (self : cQ) (lp : eU) : eU := fun xs h0 => jL n0 xs h0 fun h =>
 aI (pu h (bA Tryd.prog .lss 3 false (aJ xs 6) (aJ xs 5))) fun v56 h56 =>
 bB v56
 (aI (pu h56 (aAe (aJ xs 2) (aJ xs 6) h56)) fun v57 h57 =>
 aI (cZ (aU.f G k) [v57] h57) fun v58 h58 =>
 aI (pu h58 (bE v58)) fun v59 h59 =>
 eE (cM (aZ.l27 G k h59.length self) k [(aJ xs 0), (aJ xs 1), (aJ xs 2), (aJ xs 3), (aJ xs 4), (aJ xs 6), v58, (aJ xs 5), (aJ xs 6), v58, v59, (.int .i64 0)] h59) fun e60 x60 h60 => iX e60
 (none)
 (fun i60 => if i60 = 8 then (eE (cM (aZ.l31 G k h60.length self) k [(aJ x60 0), (aJ x60 1), (aJ x60 2), (aJ x60 3), (aJ x60 4), (aJ x60 5), (aJ x60 6), (aJ x60 7), (aJ x60 8)] h60) fun e73 x73 h73 => iX e73
 (none)
 (fun i73 => if i73 = 10 then (aI (pu h73 (bA Tryd.prog .add 3 true (aJ x73 8) (.int .i64 1))) fun v117 h117 =>
 lp [(aJ x73 0), (aJ x73 1), (aJ x73 2), (aJ x73 3), (aJ x73 4), (aJ x73 7), v117] h117) else (if i73 = 7 then (aI (pu h73 (bA Tryd.prog .add 3 true (aJ x73 8) (.int .i64 1))) fun v118 h118 =>
 lp [(aJ x73 0), (aJ x73 1), (aJ x73 2), (aJ x73 3), (aJ x73 4), (aJ x73 7), v118] h118) else (some (.exit i73, [(aJ x73 0), (aJ x73 1), (aJ x73 2), (aJ x73 3), (aJ x73 4), (aJ x73 7), (aJ x73 8)], h73))))
 (some (.ret, [(aJ x73 0), (aJ x73 1), (aJ x73 2), (aJ x73 3), (aJ x73 4), (aJ x73 7), (aJ x73 8)], h73))) else (if i60 = 7 then (aI (pu h60 (bA Tryd.prog .add 3 true (aJ x60 8) (.int .i64 1))) fun v119 h119 =>
 lp [(aJ x60 0), (aJ x60 1), (aJ x60 2), (aJ x60 3), (aJ x60 4), (aJ x60 7), v119] h119) else (some (.exit i60, [(aJ x60 0), (aJ x60 1), (aJ x60 2), (aJ x60 3), (aJ x60 4), (aJ x60 7), (aJ x60 8)], h60))))
 (some (.ret, [(aJ x60 0), (aJ x60 1), (aJ x60 2), (aJ x60 3), (aJ x60 4), (aJ x60 7), (aJ x60 8)], h60)))
 (some (.exit 6, [(aJ xs 0), (aJ xs 1), (aJ xs 2), (aJ xs 3), (aJ xs 4), (aJ xs 5), (aJ xs 6)], h56))
noncomputable def aZ.c (G : aE) (k : Nat) (self : cQ) (x0 : AV) (h : aA) : Option (AV × aA) := fJ (
 aI (cS x0 h) fun v0 h0 =>
 aI (pu h0 (aG G true 3 v0 h0)) fun v1 h1 =>
 aI (aW (cG.f G k) [v1] h1) fun v2 h2 =>
 aI (pu h2 (bA Tryd.prog .neq 33 true v2 .nili)) fun v3 h3 =>
 bB v3
 (cP [.nils, v2] h.length h3)
 (aI (pu h3 (aB 0 v0)) fun v4 h4 =>
 aI (pu h4 (aG G false 1 v4 h4)) fun v5 h5 =>
 aI (pu h5 (bE v5)) fun v6 h6 =>
 aI (gD 49 1 .nils v6 v6 h6) fun v7 h7 =>
 aI (some (.mp h7.length, h7 ++ [⟨0, 0, []⟩])) fun v8 h8 =>
 aI (pu h8 (aB 0 v0)) fun v9 h9 =>
 aI (pu h9 (aG G false 1 v9 h9)) fun v10 h10 =>
 aI (pu h10 (bE v10)) fun v11 h11 =>
 vM [(v8, x0, 1, 3, 1)] h11 fun hm12 =>
 vK [(v7, 0, 3, 1)] hm12 fun hv12 =>
 eE (cM (aZ.l7 G k hv12.length self) k [v0, v7, v8, v10, v11, (.int .i64 0)] hv12) fun e12 x12 h12 => iX e12
 (none)
 (fun i12 => if i12 = 0 then (aI (pu h12 (aB 0 (aJ x12 0))) fun v47 h47 =>
 aI (pu h47 (aG G false 1 v47 h47)) fun v48 h48 =>
 aI (pu h48 (bE v48)) fun v49 h49 =>
 aI (gD 49 1 .nils v49 v49 h49) fun v50 h50 =>
 aI (eO 56 .nils h50) fun v51 h51 =>
 aI (gB (aV 1 v51 v50 h51)) fun v52 h52 =>
 aI (pu h52 (aB 1 (aJ x12 0))) fun v53 h53 =>
 aI (pu h53 (aG G false 1 v53 h53)) fun v54 h54 =>
 vK [(v51, 0, 3, 1)] h54 fun hv55 =>
 eE (cM (aZ.l23 G k hv55.length self) k [(aJ x12 0), (aJ x12 1), (aJ x12 2), v51, (.fn 59 [v51]), v54, (.int .i64 0)] hv55) fun e55 x55 h55 => iX e55
 (none)
 (fun i55 => if i55 = 6 then (aI (pu h55 (aG G false 1 (aJ x55 3) h55)) fun v120 h120 =>
 cP [v120, .nili] h.length h120) else (none))
 (cP [.undef, .undef] h.length h55)) else (none))
 (cP [.undef, .undef] h.length h12)))
noncomputable def aZ.f (G : aE) : Nat → cQ
 | 0 => fun _ _ => none
 | k + 1 => fun args h => nX args fun x0 => (aZ.c G k (aZ.f G k) x0 h)
theorem aZ.step (G : aE) (k : Nat) (x0 : AV) (h : aA) : aZ.f G (k + 1) [x0] h = aZ.c G k (aZ.f G k) x0 h := rfl
noncomputable def cA.ann : Ann := fY [] [] [] []
noncomputable def cA.env (G : aE) (k : Nat) (self : cQ) : List (Nat × Bool × cQ) := [(22, true, bQ.f G k), (23, true, bT.f G k), (29, true, aZ.f G k)]
noncomputable def cA.c (G : aE) (k : Nat) (self : cQ) (h : aA) : Option (AV × aA) := fJ (
 aI (pu h (cH [(0, 1), (1, 1), (2, 1), (3, 1), (4, 1), (5, 1)] [(.int .i64 0), (.int .i64 0), (.int .i64 0), (.int .i64 0), (.int .i64 0), (.int .i64 0)] [(0, (.int .i64 20))])) fun v0 h0 =>
 aI (bN 6 1 (.agg [(.int .i64 0), (.int .i64 0), (.int .i64 0), (.int .i64 0), (.int .i64 0), (.int .i64 0)]) [(0, v0)] h0) fun v1 h1 =>
 aI (pu h1 (cH [(0, 1), (1, 1), (2, 1)] [.nils, (.int .i64 0), (.int .i64 0)] [(0, v1)])) fun v2 h2 =>
 aI (aW (aZ.f G k) [v2] h2) fun v3 h3 =>
 aI (pu h3 (bD v3 0)) fun v4 h4 =>
 aI (pu h4 (bD v3 1)) fun v5 h5 =>
 aI (pu h5 (bA Tryd.prog .eql 33 true v5 .nili)) fun v6 h6 =>
 aI (gd v6 true h6 (some (v4, h6))) fun v7 h7 =>
 aI (gd v6 true h7 (pu h7 (bE v7))) fun v8 h8 =>
 aI (gd v6 true h8 (pu h8 (bA Tryd.prog .eql 3 true v8 (.int .i64 1)))) fun v9 h9 =>
 aI (pu h9 (fW v6 v9 (.bool false))) fun v10 h10 =>
 aI (gd v10 true h10 (some (v4, h10))) fun v11 h11 =>
 aI (gd v10 true h11 (pu h11 (aF 1 v11 (.int .i64 0)))) fun v12 h12 =>
 aI (gd v10 true h12 (pu h12 (aG G false 1 v12 h12))) fun v13 h13 =>
 aI (gd v10 true h13 (pu h13 (bE v13))) fun v14 h14 =>
 aI (gd v10 true h14 (pu h14 (bA Tryd.prog .eql 3 true v14 (.int .i64 0)))) fun v15 h15 =>
 aI (pu h15 (fW v10 v15 (.bool false))) fun v16 h16 =>
 aI (gd v16 true h16 (pu h16 (cH [(0, 1), (1, 1), (2, 1), (3, 1), (4, 1), (5, 1)] [(.int .i64 0), (.int .i64 0), (.int .i64 0), (.int .i64 0), (.int .i64 0), (.int .i64 0)] [(0, (.int .i64 3)), (2, (.int .i64 2)), (3, (.int .i64 1))]))) fun v17 h17 =>
 aI (gd v16 true h17 (aW (bT.f G k) [v17] h17)) fun v18 h18 =>
 aI (gd v16 true h18 (bN 1 2 (.int .i64 0) [(0, (.int .i64 1)), (1, (.int .i64 2))] h18)) fun v19 h19 =>
 aI (gd v16 true h19 (aW (bQ.f G k) [v18, v19] h19)) fun v20 h20 =>
 aI (pu h20 (fW v16 v20 (.bool false))) fun v21 h21 =>
 cP [v21] h.length h21)
noncomputable def cA.f (G : aE) : Nat → cQ
 | 0 => fun _ _ => none
 | k + 1 => fun args h => aII args (cA.c G k (cA.f G k) h)
noncomputable def bG.ann : Ann := fY [] [] [] []
noncomputable def bG.env (G : aE) (k : Nat) (self : cQ) : List (Nat × Bool × cQ) := []
noncomputable def bG.c (G : aE) (k : Nat) (self : cQ) (x0 : AV) (h : aA) : Option (AV × aA) := fJ (
 aI (cS x0 h) fun v0 h0 =>
 aI (pu h0 (aB 0 v0)) fun v1 h1 =>
 aI (pu h1 (aG G false 1 v1 h1)) fun v2 h2 =>
 aI (pu h2 (bE v2)) fun v3 h3 =>
 aI (pu h3 (bA Tryd.prog .leq 3 true v3 (.int .i64 60))) fun v4 h4 =>
 aI (gd v4 true h4 (pu h4 (aB 1 v0))) fun v5 h5 =>
 aI (gd v4 true h5 (pu h5 (aG G false 1 v5 h5))) fun v6 h6 =>
 aI (gd v4 true h6 (pu h6 (bA Tryd.prog .leq 3 true v6 (.int .i64 40)))) fun v7 h7 =>
 aI (pu h7 (fW v4 v7 (.bool false))) fun v8 h8 =>
 cP [v8] h.length h8)
noncomputable def bG.f (G : aE) : Nat → cQ
 | 0 => fun _ _ => none
 | k + 1 => fun args h => nX args fun x0 => (bG.c G k (bG.f G k) x0 h)
theorem bG.step (G : aE) (k : Nat) (x0 : AV) (h : aA) : bG.f G (k + 1) [x0] h = bG.c G k (bG.f G k) x0 h := rfl
noncomputable def aL.ann : Ann := fY [] [] [(2, [0, 1, 4, 7, 8])] []
noncomputable def aL.env (G : aE) (k : Nat) (self : cQ) : List (Nat × Bool × cQ) := []
noncomputable def aL.l2 (G : aE) (k n0 : Nat) (self : cQ) (lp : eU) : eU := fun xs h0 => jL n0 xs h0 fun h =>
 aI (pu h (bA Tryd.prog .lss 3 false (aJ xs 4) (aJ xs 3))) fun v2 h2 =>
 bB v2
 (aI (pu h2 (aF 1 (aJ xs 0) (aJ xs 4))) fun v3 h3 =>
 aI (pu h3 (aG G false 1 v3 h3)) fun v4 h4 =>
 aI (pu h4 (bA Tryd.prog .eql 3 false (aJ xs 1) v4)) fun v5 h5 =>
 bB v5
 (some (.ret, [(aJ xs 0), (aJ xs 1), (aJ xs 4), (aJ xs 3), (aJ xs 4)], h5))
 (aI (pu h5 (bA Tryd.prog .add 3 true (aJ xs 4) (.int .i64 1))) fun v6 h6 =>
 lp [(aJ xs 0), (aJ xs 1), (aJ xs 2), (aJ xs 3), v6] h6))
 (some (.exit 0, [(aJ xs 0), (aJ xs 1), (aJ xs 2), (aJ xs 3), (aJ xs 4)], h2))
noncomputable def aL.c (G : aE) (k : Nat) (self : cQ) (x0 x1 : AV) (h : aA) : Option (AV × aA) := fJ (
 aI (pu h (bE x0)) fun v0 h0 =>
 eE (cM (aL.l2 G k h0.length self) k [x0, x1, (.int .i64 0), v0, (.int .i64 0)] h0) fun e1 x1 h1 => iX e1
 (none)
 (fun i1 => if i1 = 0 then (cP [(.int .i64 (-1))] h.length h1) else (none))
 (cP [(aJ x1 2)] h.length h1))
noncomputable def aL.f (G : aE) : Nat → cQ
 | 0 => fun _ _ => none
 | k + 1 => fun args h => mV args fun x0 x1 => (aL.c G k (aL.f G k) x0 x1 h)
theorem aL.step (G : aE) (k : Nat) (x0 x1 : AV) (h : aA) : aL.f G (k + 1) [x0, x1] h = aL.c G k (aL.f G k) x0 x1 h := rfl
noncomputable def aO.ann : Ann := fY [] [] [] []
noncomputable def aO.env (G : aE) (k : Nat) (self : cQ) : List (Nat × Bool × cQ) := [(90, true, aL.f G k)]
noncomputable def aO.c (G : aE) (k : Nat) (self : cQ) (x0 x1 : AV) (h : aA) : Option (AV × aA) := fJ (
 aI (aW (aL.f G k) [x0, x1] h) fun v0 h0 =>
 aI (pu h0 (bA Tryd.prog .geq 3 true v0 (.int .i64 0))) fun v1 h1 =>
 cP [v1] h.length h1)
noncomputable def aO.f (G : aE) : Nat → cQ
 | 0 => fun _ _ => none
 | k + 1 => fun args h => mV args fun x0 x1 => (aO.c G k (aO.f G k) x0 x1 h)
theorem aO.step (G : aE) (k : Nat) (x0 x1 : AV) (h : aA) : aO.f G (k + 1) [x0, x1] h = aO.c G k (aO.f G k) x0 x1 h := rfl
noncomputable def dE.ann : Ann := fY [] [] [] []
noncomputable def dE.env (G : aE) (k : Nat) (self : cQ) : List (Nat × Bool × cQ) := [(63, true, aO.f G k)]
noncomputable def dE.c (G : aE) (k : Nat) (self : cQ) (x0 x1 x2 : AV) (h : aA) : Option (AV × aA) := fJ (
 aI (pu h (aG G false 1 x1 h)) fun v0 h0 =>
 aI (pu h0 (aF 1 v0 x0)) fun v1 h1 =>
 aI (pu h1 (aG G false 1 v1 h1)) fun v2 h2 =>
 aI (pu h2 (aG G false 1 x2 h2)) fun v3 h3 =>
 aI (aW (aO.f G k) [v2, v3] h3) fun v4 h4 =>
 cP [v4] h.length h4)
noncomputable def dE.f (G : aE) : Nat → cQ
 | 0 => fun _ _ => none
 | k + 1 => fun args h => aBG args fun x0 x1 x2 => (dE.c G k (dE.f G k) x0 x1 x2 h)
theorem dE.step (G : aE) (k : Nat) (x0 x1 x2 : AV) (h : aA) : dE.f G (k + 1) [x0, x1, x2] h = dE.c G k (dE.f G k) x0 x1 x2 h := rfl
noncomputable def aH.ann : Ann := fY [] [] [(2, [0, 1, 4, 7, 8])] []
noncomputable def aH.env (G : aE) (k : Nat) (self : cQ) : List (Nat × Bool × cQ) := [(62, false, dE.f G k)]
noncomputable def aH.l2 (G : aE) (k n0 : Nat) (self : cQ) (lp : eU) : eU := fun xs h0 => jL n0 xs h0 fun h =>
 aI (pu h (bA Tryd.prog .lss 3 false (aJ xs 4) (aJ xs 3))) fun v2 h2 =>
 bB v2
 (aI (pu h2 (aF 1 (aJ xs 0) (aJ xs 4))) fun v3 h3 =>
 aI (pu h3 (aG G false 1 v3 h3)) fun v4 h4 =>
 aI (kR (fU (aH.env G k self)) (aJ xs 1) [v4] h4) fun v5 h5 =>
 bB v5
 (some (.ret, [(aJ xs 0), (aJ xs 1), (aJ xs 4), (aJ xs 3), (aJ xs 4)], h5))
 (aI (pu h5 (bA Tryd.prog .add 3 true (aJ xs 4) (.int .i64 1))) fun v6 h6 =>
 lp [(aJ xs 0), (aJ xs 1), (aJ xs 2), (aJ xs 3), v6] h6))
 (some (.exit 0, [(aJ xs 0), (aJ xs 1), (aJ xs 2), (aJ xs 3), (aJ xs 4)], h2))
noncomputable def aH.c (G : aE) (k : Nat) (self : cQ) (x0 x1 : AV) (h : aA) : Option (AV × aA) := fJ (
 aI (pu h (bE x0)) fun v0 h0 =>
 eE (cM (aH.l2 G k h0.length self) k [x0, x1, (.int .i64 0), v0, (.int .i64 0)] h0) fun e1 x1 h1 => iX e1
 (none)
 (fun i1 => if i1 = 0 then (cP [(.int .i64 (-1))] h.length h1) else (none))
 (cP [(aJ x1 2)] h.length h1))
noncomputable def aH.f (G : aE) : Nat → cQ
 | 0 => fun _ _ => none
 | k + 1 => fun args h => mV args fun x0 x1 => (aH.c G k (aH.f G k) x0 x1 h)
theorem aH.step (G : aE) (k : Nat) (x0 x1 : AV) (h : aA) : aH.f G (k + 1) [x0, x1] h = aH.c G k (aH.f G k) x0 x1 h := rfl
noncomputable def aM.ann : Ann := fY [] [] [] []
noncomputable def aM.env (G : aE) (k : Nat) (self : cQ) : List (Nat × Bool × cQ) := [(89, false, aH.f G k)]
noncomputable def aM.c (G : aE) (k : Nat) (self : cQ) (x0 x1 : AV) (h : aA) : Option (AV × aA) := fJ (
 aI (cZ (aH.f G k) [x0, x1] h) fun v0 h0 =>
 aI (pu h0 (bA Tryd.prog .geq 3 true v0 (.int .i64 0))) fun v1 h1 =>
 cP [v1] h.length h1)
noncomputable def aM.f (G : aE) : Nat → cQ
 | 0 => fun _ _ => none
 | k + 1 => fun args h => mV args fun x0 x1 => (aM.c G k (aM.f G k) x0 x1 h)
theorem aM.step (G : aE) (k : Nat) (x0 x1 : AV) (h : aA) : aM.f G (k + 1) [x0, x1] h = aM.c G k (aM.f G k) x0 x1 h := rfl
noncomputable def cX.ann : Ann := fY [] [2, 6] [(6, [1, 4, 6, 20, 21, 22])] []
noncomputable def cX.env (G : aE) (k : Nat) (self : cQ) : List (Nat × Bool × cQ) := [(20, true, dD.f G k), (25, true, bZ.f G k), (29, true, aZ.f G k), (61, false, aM.f G k), (62, false, dE.f G k)]
noncomputable def cX.l6 (G : aE) (k n0 : Nat) (self : cQ) (lp : eU) : eU := fun xs h0 => jL n0 xs h0 fun h =>
 aI (pu h (bA Tryd.prog .lss 3 false (aJ xs 5) (aJ xs 4))) fun v15 h15 =>
 bB v15
 (aI (pu h15 (aF 6 (aJ xs 3) (aJ xs 5))) fun v16 h16 =>
 aI (pu h16 (aG G true 6 v16 h16)) fun v17 h17 =>
 aI (eO 29 (.agg [(.int .i64 0), (.int .i64 0), (.int .i64 0), (.int .i64 0), (.int .i64 0), (.int .i64 0)]) h17) fun v18 h18 =>
 aI (gB (aV 6 v18 v17 h18)) fun v19 h19 =>
 aI (pu h19 (aG G true 6 v18 h19)) fun v20 h20 =>
 aI (aW (dD.f G k) [v20] h20) fun v21 h21 =>
 aI (pu h21 (bD v21 0)) fun v22 h22 =>
 aI (pu h22 (bD v21 1)) fun v23 h23 =>
 aI (eO 3 (.int .i64 0) h23) fun v24 h24 =>
 aI (gB (aV 1 v24 v22 h24)) fun v25 h25 =>
 aI (pu h25 (un .not v23)) fun v26 h26 =>
 aI (gd v26 false h26 (pu h26 (aB 0 v18))) fun v27 h27 =>
 aI (gd v26 false h27 (pu h27 (aG G false 1 v27 h27))) fun v28 h28 =>
 aI (gd v26 false h28 (pu h28 (bA Tryd.prog .eql 3 true v28 (.int .i64 15)))) fun v29 h29 =>
 aI (pu h29 (fW v26 (.bool true) v29)) fun v30 h30 =>
 bB v30
 (aI (pu h30 (bA Tryd.prog .add 3 true (aJ xs 5) (.int .i64 1))) fun v31 h31 =>
 lp [(aJ xs 0), (aJ xs 1), (aJ xs 2), (aJ xs 3), (aJ xs 4), v31] h31)
 (aI (pu h30 (aG G true 3 (aJ xs 0) h30)) fun v32 h32 =>
 aI (aW (bZ.f G k) [v32, (aJ xs 5)] h32) fun v33 h33 =>
 aI (cZ (aM.f G k) [v33, (.fn 62 [(aJ xs 1), v24])] h33) fun v34 h34 =>
 aI (pu h34 (un .not v34)) fun v35 h35 =>
 bB v35
 (aI (bN 1 1 (.int .i64 0) [(0, (aJ xs 5))] h35) fun v36 h36 =>
 aI (eM 3 1 (aJ xs 2) v36 h36) fun v37 h37 =>
 aI (pu h37 (bA Tryd.prog .add 3 true (aJ xs 5) (.int .i64 1))) fun v38 h38 =>
 lp [(aJ xs 0), (aJ xs 1), v37, (aJ xs 3), (aJ xs 4), v38] h38)
 (aI (pu h35 (bA Tryd.prog .add 3 true (aJ xs 5) (.int .i64 1))) fun v39 h39 =>
 lp [(aJ xs 0), (aJ xs 1), (aJ xs 2), (aJ xs 3), (aJ xs 4), v39] h39)))
 (some (.exit 0, [(aJ xs 0), (aJ xs 1), (aJ xs 2), (aJ xs 3), (aJ xs 4), (aJ xs 5)], h15))
noncomputable def cX.c (G : aE) (k : Nat) (self : cQ) (x0 : AV) (h : aA) : Option (AV × aA) := fJ (
 aI (cS x0 h) fun v0 h0 =>
 aI (some (.sl h0.length 0 0 0 1, h0 ++ [⟨3, 1, []⟩])) fun v1 h1 =>
 aI (pu h1 (aG G true 3 v0 h1)) fun v2 h2 =>
 aI (aW (aZ.f G k) [v2] h2) fun v3 h3 =>
 aI (pu h3 (bD v3 0)) fun v4 h4 =>
 aI (pu h4 (bD v3 1)) fun v5 h5 =>
 aI (eO 56 .nils h5) fun v6 h6 =>
 aI (gB (aV 1 v6 v4 h6)) fun v7 h7 =>
 aI (pu h7 (bA Tryd.prog .neq 33 true v5 .nili)) fun v8 h8 =>
 bB v8
 (aI (some (.sl h8.length 0 0 0 1, h8 ++ [⟨3, 1, []⟩])) fun v9 h9 =>
 cP [v9, v5] h.length h9)
 (aI (some (.sl h8.length 0 0 0 1, h8 ++ [⟨3, 1, []⟩])) fun v10 h10 =>
 aI (pu h10 (aB 0 v0)) fun v11 h11 =>
 aI (pu h11 (aG G false 1 v11 h11)) fun v12 h12 =>
 aI (pu h12 (bE v12)) fun v13 h13 =>
 eE (cM (cX.l6 G k h13.length self) k [v0, v6, v10, v12, v13, (.int .i64 0)] h13) fun e14 x14 h14 => iX e14
 (none)
 (fun i14 => if i14 = 0 then (cP [(aJ x14 2), .nili] h.length h14) else (none))
 (cP [.undef, .undef] h.length h14)))
noncomputable def cX.f (G : aE) : Nat → cQ
 | 0 => fun _ _ => none
 | k + 1 => fun args h => nX args fun x0 => (cX.c G k (cX.f G k) x0 h)
theorem cX.step (G : aE) (k : Nat) (x0 : AV) (h : aA) : cX.f G (k + 1) [x0] h = cX.c G k (cX.f G k) x0 h := rfl
noncomputable def alembiclaw20_LiveDead.ann : Ann := aGc [46] [] [(11, [1, 2, 4, 5, 6, 8, 9])] [] [] [] [] [] [46, 49]
noncomputable def alembiclaw20_LiveDead.env (G : aE) (k : Nat) (self : cQ) : List (Nat × Bool × cQ) := [(17, true, aQ.f G k), (18, true, cA.f G k), (19, true, bG.f G k), (31, true, cX.f G k), (39, true, dN.f G k), (40, true, aP.f G k)]
noncomputable def alembiclaw20_LiveDead.l11 (G : aE) (k n0 : Nat) (self : cQ) (lp : eU) : eU := fun xs h0 => jL n0 xs h0 fun h =>
 aI (pu h (bE (aJ xs 4))) fun v38 h38 =>
 aI (pu h38 (bA Tryd.prog .lss 3 false (aJ xs 6) v38)) fun v39 h39 =>
 bB v39
 (aI (pu h39 (aF 1 (aJ xs 4) (aJ xs 6))) fun v40 h40 =>
 aI (pu h40 (aG G false 1 v40 h40)) fun v41 h41 =>
 aI (pu h41 (bA Tryd.prog .lss 3 true v41 (.int .i64 0))) fun v42 h42 =>
 aI (gd v42 false h42 (some ((aJ xs 4), h42))) fun v43 h43 =>
 aI (gd v42 false h43 (some ((aJ xs 6), h43))) fun v44 h44 =>
 aI (gd v42 false h44 (pu h44 (aF 1 v43 v44))) fun v45 h45 =>
 aI (gd v42 false h45 (pu h45 (aG G false 1 v45 h45))) fun v46 h46 =>
 aI (gd v42 false h46 (pu h46 (aB 0 (aJ xs 1)))) fun v47 h47 =>
 aI (gd v42 false h47 (pu h47 (aG G false 1 v47 h47))) fun v48 h48 =>
 aI (gd v42 false h48 (pu h48 (bE v48))) fun v49 h49 =>
 aI (gd v42 false h49 (pu h49 (bA Tryd.prog .geq 3 false v46 v49))) fun v50 h50 =>
 aI (pu h50 (fW v42 (.bool true) v50)) fun v51 h51 =>
 bB v51
 (some (.ret, [(aJ xs 0), (aJ xs 1), (.bool false), (aJ xs 3), (aJ xs 4), (aJ xs 5), (aJ xs 6)], h51))
 (aI (pu h51 (aB 0 (aJ xs 5))) fun v52 h52 =>
 aI (pu h52 (aG G false 1 v52 h52)) fun v53 h53 =>
 aI (pu h53 (aF 1 (aJ xs 4) (aJ xs 6))) fun v54 h54 =>
 aI (pu h54 (aG G false 1 v54 h54)) fun v55 h55 =>
 aI (pu h55 (aB 1 (aJ xs 1))) fun v56 h56 =>
 aI (pu h56 (aG G false 1 v56 h56)) fun v57 h57 =>
 aI (pu h57 (cH [(0, 1), (1, 1), (2, 1), (3, 1), (4, 1), (5, 1)] [(.int .i64 0), (.int .i64 0), (.int .i64 0), (.int .i64 0), (.int .i64 0), (.int .i64 0)] [(0, (.int .i64 1)), (1, v57), (5, (.int .i64 7))])) fun v58 h58 =>
 aI (pu h58 (aF 6 v53 v55)) fun v59 h59 =>
 aI (gB (aV 6 v59 v58 h59)) fun v60 h60 =>
 aI (pu h60 (bA Tryd.prog .add 3 true (aJ xs 6) (.int .i64 1))) fun v61 h61 =>
 lp [(aJ xs 0), (aJ xs 1), (aJ xs 2), (aJ xs 3), (aJ xs 4), (aJ xs 5), v61] h61))
 (some (.exit 0, [(aJ xs 0), (aJ xs 1), (aJ xs 2), (aJ xs 3), (aJ xs 4), (aJ xs 5), (aJ xs 6)], h39))
noncomputable def alembiclaw20_LiveDead.c (G : aE) (k : Nat) (self : cQ) (x0 x1 : AV) (h : aA) : Option (AV × aA) := fJ (
 aI (cS x0 h) fun v0 h0 =>
 aI (aW (cA.f G k) [] h0) fun v1 h1 =>
 aI (pu h1 (un .not v1)) fun v2 h2 =>
 bB v2
 (cP [(.bool false)] h.length h2)
 (aI (pu h2 (aG G true 3 v0 h2)) fun v3 h3 =>
 aI (aW (bG.f G k) [v3] h3) fun v4 h4 =>
 aI (pu h4 (un .not v4)) fun v5 h5 =>
 aI (gd v5 false h5 (pu h5 (aB 2 v0))) fun v6 h6 =>
 aI (gd v5 false h6 (pu h6 (aG G false 1 v6 h6))) fun v7 h7 =>
 aI (gd v5 false h7 (pu h7 (bA Tryd.prog .lss 3 true v7 (.int .i64 0)))) fun v8 h8 =>
 aI (pu h8 (fW v5 (.bool true) v8)) fun v9 h9 =>
 aI (gd v9 false h9 (pu h9 (aB 2 v0))) fun v10 h10 =>
 aI (gd v9 false h10 (pu h10 (aG G false 1 v10 h10))) fun v11 h11 =>
 aI (gd v9 false h11 (pu h11 (bA Tryd.prog .gtr 3 true v11 (.int .i64 60)))) fun v12 h12 =>
 aI (pu h12 (fW v9 (.bool true) v12)) fun v13 h13 =>
 aI (gd v13 false h13 (some (x1, h13))) fun v14 h14 =>
 aI (gd v13 false h14 (pu h14 (bE v14))) fun v15 h15 =>
 aI (gd v13 false h15 (pu h15 (aB 2 v0))) fun v16 h16 =>
 aI (gd v13 false h16 (pu h16 (aG G false 1 v16 h16))) fun v17 h17 =>
 aI (gd v13 false h17 (pu h17 (bA Tryd.prog .neq 3 false v15 v17))) fun v18 h18 =>
 aI (pu h18 (fW v13 (.bool true) v18)) fun v19 h19 =>
 bB v19
 (cP [v1] h.length h19)
 (aI (pu h19 (aG G true 3 v0 h19)) fun v20 h20 =>
 aI (aW (cX.f G k) [v20] h20) fun v21 h21 =>
 aI (pu h21 (bD v21 0)) fun v22 h22 =>
 aI (pu h22 (bD v21 1)) fun v23 h23 =>
 aI (pu h23 (bA Tryd.prog .neq 33 true v23 .nili)) fun v24 h24 =>
 bB v24
 (cP [v1] h.length h24)
 (aI (some (.emp, h24)) fun v25 h25 =>
 aI (pu h25 (aB 0 v0)) fun v26 h26 =>
 aI (pu h26 (aG G false 1 v26 h26)) fun v27 h27 =>
 aI (rK 29 6 v25 v27 h27) fun v28 h28 =>
 aI (pu h28 (aB 1 v0)) fun v29 h29 =>
 aI (pu h29 (aG G false 1 v29 h29)) fun v30 h30 =>
 aI (pu h30 (bA Tryd.prog .add 3 true v30 (.int .i64 1))) fun v31 h31 =>
 aI (pu h31 (aB 2 v0)) fun v32 h32 =>
 aI (pu h32 (aG G false 1 v32 h32)) fun v33 h33 =>
 aI (pu h33 (cH [(0, 1), (1, 1), (2, 1)] [.nils, (.int .i64 0), (.int .i64 0)] [(0, v28), (1, v31), (2, v33)])) fun v34 h34 =>
 aI (eO 27 (.agg [.nils, (.int .i64 0), (.int .i64 0)]) h34) fun v35 h35 =>
 aI (gB (aV 3 v35 v34 h35)) fun v36 h36 =>
 grd [(v29, v25), (v32, v25)] (
eE (cM (alembiclaw20_LiveDead.l11 G k h36.length self) k [x1, v0, (.bool false), v1, v22, v35, (.int .i64 0)] h36) fun e37 x37 h37 => iX e37
 (none)
 (fun i37 => if i37 = 0 then (aI (pu h37 (aG G true 3 (aJ x37 1) h37)) fun v62 h62 =>
 aI (aW (dN.f G k) [v62, (aJ x37 0), (.int .i64 500)] h62) fun v63 h63 =>
 aI (pu h63 (bD v63 0)) fun v64 h64 =>
 aI (pu h64 (bD v63 1)) fun v65 h65 =>
 aI (eO 73 (.agg [(.int .i64 0), .nils, .nils, (.int .i64 0)]) h65) fun v66 h66 =>
 aI (gB (aV 4 v66 v64 h66)) fun v67 h67 =>
 aI (pu h67 (aG G true 3 (aJ x37 5) h67)) fun v68 h68 =>
 aI (aW (dN.f G k) [v68, (aJ x37 0), (.int .i64 500)] h68) fun v69 h69 =>
 aI (pu h69 (bD v69 0)) fun v70 h70 =>
 aI (pu h70 (bD v69 1)) fun v71 h71 =>
 aI (eO 73 (.agg [(.int .i64 0), .nils, .nils, (.int .i64 0)]) h71) fun v72 h72 =>
 aI (gB (aV 4 v72 v70 h72)) fun v73 h73 =>
 aI (gd (aJ x37 3) true h73 (some (v65, h73))) fun v74 h74 =>
 aI (gd (aJ x37 3) true h74 (pu h74 (bA Tryd.prog .eql 33 true v74 .nili))) fun v75 h75 =>
 aI (pu h75 (fW (aJ x37 3) v75 (.bool false))) fun v76 h76 =>
 aI (gd v76 true h76 (some (v71, h76))) fun v77 h77 =>
 aI (gd v76 true h77 (pu h77 (bA Tryd.prog .eql 33 true v77 .nili))) fun v78 h78 =>
 aI (pu h78 (fW v76 v78 (.bool false))) fun v79 h79 =>
 aI (gd v79 true h79 (pu h79 (aB 0 v66))) fun v80 h80 =>
 aI (gd v79 true h80 (pu h80 (aG G false 1 v80 h80))) fun v81 h81 =>
 aI (gd v79 true h81 (pu h81 (aB 0 v72))) fun v82 h82 =>
 aI (gd v79 true h82 (pu h82 (aG G false 1 v82 h82))) fun v83 h83 =>
 aI (gd v79 true h83 (pu h83 (bA Tryd.prog .eql 3 false v81 v83))) fun v84 h84 =>
 aI (pu h84 (fW v79 v84 (.bool false))) fun v85 h85 =>
 aI (gd v85 true h85 (pu h85 (aB 1 v66))) fun v86 h86 =>
 aI (gd v85 true h86 (pu h86 (aG G false 1 v86 h86))) fun v87 h87 =>
 aI (gd v85 true h87 (pu h87 (aB 1 v72))) fun v88 h88 =>
 aI (gd v85 true h88 (pu h88 (aG G false 1 v88 h88))) fun v89 h89 =>
 aI (gd v85 true h89 (aW (aQ.f G k) [v87, v89] h89)) fun v90 h90 =>
 aI (pu h90 (fW v85 v90 (.bool false))) fun v91 h91 =>
 aI (gd v91 true h91 (pu h91 (aB 2 v66))) fun v92 h92 =>
 aI (gd v91 true h92 (pu h92 (aG G false 1 v92 h92))) fun v93 h93 =>
 aI (gd v91 true h93 (pu h93 (aB 2 v72))) fun v94 h94 =>
 aI (gd v91 true h94 (pu h94 (aG G false 1 v94 h94))) fun v95 h95 =>
 aI (gd v91 true h95 (aW (aP.f G k) [v93, v95] h95)) fun v96 h96 =>
 aI (pu h96 (fW v91 v96 (.bool false))) fun v97 h97 =>
 cP [v97] h.length h97) else (none))
 (cP [(aJ x37 2)] h.length h37))))))
noncomputable def alembiclaw20_LiveDead.f (G : aE) : Nat → cQ
 | 0 => fun _ _ => none
 | k + 1 => fun args h => mV args fun x0 x1 => (alembiclaw20_LiveDead.c G k (alembiclaw20_LiveDead.f G k) x0 x1 h)
theorem alembiclaw20_LiveDead.step (G : aE) (k : Nat) (x0 x1 : AV) (h : aA) : alembiclaw20_LiveDead.f G (k + 1) [x0, x1] h = alembiclaw20_LiveDead.c G k (alembiclaw20_LiveDead.f G k) x0 x1 h := rfl
end Go.Proofs.YtlkgkfgkiidhdaaDoor.Mir
