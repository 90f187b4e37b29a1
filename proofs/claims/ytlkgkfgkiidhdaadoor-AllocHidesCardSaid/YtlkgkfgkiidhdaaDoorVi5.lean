/- Part 5 of the proof: the functions that the statement reaches, and their contracts. -/
import Derived.Test.YtlkgkfgkiidhdaaDoorVi4
import Derived.Test.YtlkgkfgkiidhdaaDoorProg
namespace Go.Proofs.YtlkgkfgkiidhdaaDoor.Mir
open Go
set_option linter.unusedVariables false
noncomputable def fG.ann : Ann := fD [] [] [] []
noncomputable def fG.env (G : aF) (k : Nat) (self : cE) : List (Nat × Bool × cE) := []
noncomputable def fG.c (G : aF) (k : Nat) (self : cE) (x0 : AV) (h : aB) : Option (AV × aB) := fE (
 aC (pu h (aX Tryd.prog .eql 3 true x0 (.int .i64 3))) fun v0 h0 =>
 aY v0
 (cH [(.str ⟨#[97, 100, 100]⟩)] h.length h0)
 (aC (pu h0 (aX Tryd.prog .eql 3 true x0 (.int .i64 4))) fun v1 h1 =>
 aY v1
 (cH [(.str ⟨#[115, 117, 98]⟩)] h.length h1)
 (aC (pu h1 (aX Tryd.prog .eql 3 true x0 (.int .i64 5))) fun v2 h2 =>
 aY v2
 (cH [(.str ⟨#[109, 117, 108]⟩)] h.length h2)
 (aC (pu h2 (aX Tryd.prog .eql 3 true x0 (.int .i64 6))) fun v3 h3 =>
 aY v3
 (cH [(.str ⟨#[104, 105, 103, 104]⟩)] h.length h3)
 (aC (pu h3 (aX Tryd.prog .eql 3 true x0 (.int .i64 7))) fun v4 h4 =>
 aY v4
 (cH [(.str ⟨#[97, 110, 100]⟩)] h.length h4)
 (aC (pu h4 (aX Tryd.prog .eql 3 true x0 (.int .i64 8))) fun v5 h5 =>
 aY v5
 (cH [(.str ⟨#[111, 114]⟩)] h.length h5)
 (aC (pu h5 (aX Tryd.prog .eql 3 true x0 (.int .i64 9))) fun v6 h6 =>
 aY v6
 (cH [(.str ⟨#[120, 111, 114]⟩)] h.length h6)
 (aC (pu h6 (aX Tryd.prog .eql 3 true x0 (.int .i64 13))) fun v7 h7 =>
 aY v7
 (cH [(.str ⟨#[108, 101, 115, 115]⟩)] h.length h7)
 (aC (pu h7 (aX Tryd.prog .eql 3 true x0 (.int .i64 10))) fun v8 h8 =>
 aY v8
 (cH [(.str ⟨#[115, 104, 108]⟩)] h.length h8)
 (aC (pu h8 (aX Tryd.prog .eql 3 true x0 (.int .i64 11))) fun v9 h9 =>
 aY v9
 (cH [(.str ⟨#[115, 104, 114]⟩)] h.length h9)
 (aC (pu h9 (aX Tryd.prog .eql 3 true x0 (.int .i64 12))) fun v10 h10 =>
 aY v10
 (cH [(.str ⟨#[115, 97, 114]⟩)] h.length h10)
 (aC (pu h10 (aX Tryd.prog .eql 3 true x0 (.int .i64 15))) fun v11 h11 =>
 aY v11
 (cH [(.str ⟨#[108, 100]⟩)] h.length h11)
 (aC (pu h11 (aX Tryd.prog .eql 3 true x0 (.int .i64 17))) fun v12 h12 =>
 aY v12
 (cH [(.str ⟨#[98, 114]⟩)] h.length h12)
 (aC (pu h12 (aX Tryd.prog .eql 3 true x0 (.int .i64 20))) fun v13 h13 =>
 aY v13
 (cH [(.str ⟨#[104, 97, 108, 116]⟩)] h.length h13)
 (aC (pu h13 (aX Tryd.prog .eql 3 true x0 (.int .i64 18))) fun v14 h14 =>
 aY v14
 (cH [(.str ⟨#[98, 122]⟩)] h.length h14)
 (cH [(.str ⟨#[98, 110, 122]⟩)] h.length h14))))))))))))))))
noncomputable def fG.f (G : aF) : Nat → cE
 | 0 => fun _ _ => none
 | k + 1 => fun args h => lS args fun x0 => (fG.c G k (fG.f G k) x0 h)
noncomputable def dY.ann : Ann := fD [] [] [] [(30, [2, 3]), (29, [0, 2, 43]), (26, [0, 2, 4, 37]), (19, [0, 2, 4, 23]), (14, [0, 2, 4, 11])]
noncomputable def dY.env (G : aF) (k : Nat) (self : cE) : List (Nat × Bool × cE) := [(86, true, fG.f G k)]
noncomputable def dY.c (G : aF) (k : Nat) (self : cE) (x0 : AV) (h : aB) : Option (AV × aB) := fE (
 aC (fR 100 (.agg [(.str ⟨#[]⟩), (.bool false), (.bool false), (.bool false), (.bool false), (.bool false)]) h) fun v0 h0 =>
 eP (
 aC (pu h0 (aX Tryd.prog .eql 3 true x0 (.int .i64 1))) fun v1 h1 =>
 aY v1
 (aC (pu h1 (cP [(0, 1), (1, 1), (2, 1), (3, 1), (4, 1), (5, 1)] [(.str ⟨#[]⟩), (.bool false), (.bool false), (.bool false), (.bool false), (.bool false)] [(0, (.str ⟨#[99, 111, 110, 115, 116]⟩)), (1, (.bool true)), (5, (.bool true))])) fun v2 h2 =>
 aC (fM (aV 6 v0 v2 h2)) fun v3 h3 =>
 some (.ret, [v0, (.bool true)], h3))
 (aC (pu h1 (aX Tryd.prog .eql 3 true x0 (.int .i64 2))) fun v4 h4 =>
 aY v4
 (aC (pu h4 (cP [(0, 1), (1, 1), (2, 1), (3, 1), (4, 1), (5, 1)] [(.str ⟨#[]⟩), (.bool false), (.bool false), (.bool false), (.bool false), (.bool false)] [(0, (.str ⟨#[109, 111, 118]⟩)), (1, (.bool true)), (2, (.bool true))])) fun v5 h5 =>
 aC (fM (aV 6 v0 v5 h5)) fun v6 h6 =>
 some (.ret, [v0, (.bool true)], h6))
 (eP (
 aC (pu h4 (aX Tryd.prog .eql 3 true x0 (.int .i64 3))) fun v7 h7 =>
 aY v7
 (some (.normal, [x0, v0, x0, v7], h7))
 (aC (pu h7 (aX Tryd.prog .eql 3 true x0 (.int .i64 4))) fun v8 h8 =>
 aY v8
 (some (.normal, [x0, v0, x0, v8], h8))
 (aC (pu h8 (aX Tryd.prog .eql 3 true x0 (.int .i64 5))) fun v9 h9 =>
 aY v9
 (some (.normal, [x0, v0, x0, v9], h9))
 (aC (pu h9 (aX Tryd.prog .eql 3 true x0 (.int .i64 6))) fun v10 h10 =>
 aY v10
 (some (.normal, [x0, v0, x0, v10], h10))
 (aC (pu h10 (aX Tryd.prog .eql 3 true x0 (.int .i64 7))) fun v11 h11 =>
 aY v11
 (some (.normal, [x0, v0, x0, v11], h11))
 (aC (pu h11 (aX Tryd.prog .eql 3 true x0 (.int .i64 8))) fun v12 h12 =>
 aY v12
 (some (.normal, [x0, v0, x0, v12], h12))
 (aC (pu h12 (aX Tryd.prog .eql 3 true x0 (.int .i64 9))) fun v13 h13 =>
 aY v13
 (some (.normal, [x0, v0, x0, v13], h13))
 (aC (pu h13 (aX Tryd.prog .eql 3 true x0 (.int .i64 13))) fun v14 h14 =>
 some (.normal, [x0, v0, x0, v14], h14))))))))) fun e15 x15 h15 => iM e15
 (aY (aG x15 3)
 (aC (aW (fG.f G k) [(aG x15 0)] h15) fun v16 h16 =>
 aC (pu h16 (cP [(0, 1), (1, 1), (2, 1), (3, 1), (4, 1), (5, 1)] [(.str ⟨#[]⟩), (.bool false), (.bool false), (.bool false), (.bool false), (.bool false)] [(0, v16), (1, (.bool true)), (2, (.bool true)), (3, (.bool true))])) fun v17 h17 =>
 aC (fM (aV 6 (aG x15 1) v17 h17)) fun v18 h18 =>
 some (.ret, [(aG x15 1), (.bool true)], h18))
 (eP (
 aC (pu h15 (aX Tryd.prog .eql 3 true (aG x15 2) (.int .i64 10))) fun v19 h19 =>
 aY v19
 (some (.normal, [(aG x15 0), (aG x15 1), (aG x15 2), v19], h19))
 (aC (pu h19 (aX Tryd.prog .eql 3 true (aG x15 2) (.int .i64 11))) fun v20 h20 =>
 aY v20
 (some (.normal, [(aG x15 0), (aG x15 1), (aG x15 2), v20], h20))
 (aC (pu h20 (aX Tryd.prog .eql 3 true (aG x15 2) (.int .i64 12))) fun v21 h21 =>
 aY v21
 (some (.normal, [(aG x15 0), (aG x15 1), (aG x15 2), v21], h21))
 (aC (pu h21 (aX Tryd.prog .eql 3 true (aG x15 2) (.int .i64 15))) fun v22 h22 =>
 some (.normal, [(aG x15 0), (aG x15 1), (aG x15 2), v22], h22))))) fun e23 x23 h23 => iM e23
 (aY (aG x23 3)
 (aC (aW (fG.f G k) [(aG x23 0)] h23) fun v24 h24 =>
 aC (pu h24 (cP [(0, 1), (1, 1), (2, 1), (3, 1), (4, 1), (5, 1)] [(.str ⟨#[]⟩), (.bool false), (.bool false), (.bool false), (.bool false), (.bool false)] [(0, v24), (1, (.bool true)), (2, (.bool true)), (5, (.bool true))])) fun v25 h25 =>
 aC (fM (aV 6 (aG x23 1) v25 h25)) fun v26 h26 =>
 some (.ret, [(aG x23 1), (.bool true)], h26))
 (aC (pu h23 (aX Tryd.prog .eql 3 true (aG x23 2) (.int .i64 14))) fun v27 h27 =>
 aY v27
 (aC (pu h27 (cP [(0, 1), (1, 1), (2, 1), (3, 1), (4, 1), (5, 1)] [(.str ⟨#[]⟩), (.bool false), (.bool false), (.bool false), (.bool false), (.bool false)] [(0, (.str ⟨#[115, 101, 108]⟩)), (1, (.bool true)), (2, (.bool true)), (3, (.bool true)), (4, (.bool true))])) fun v28 h28 =>
 aC (fM (aV 6 (aG x23 1) v28 h28)) fun v29 h29 =>
 some (.ret, [(aG x23 1), (.bool true)], h29))
 (aC (pu h27 (aX Tryd.prog .eql 3 true (aG x23 2) (.int .i64 16))) fun v30 h30 =>
 aY v30
 (aC (pu h30 (cP [(0, 1), (1, 1), (2, 1), (3, 1), (4, 1), (5, 1)] [(.str ⟨#[]⟩), (.bool false), (.bool false), (.bool false), (.bool false), (.bool false)] [(0, (.str ⟨#[115, 116]⟩)), (2, (.bool true)), (3, (.bool true)), (5, (.bool true))])) fun v31 h31 =>
 aC (fM (aV 6 (aG x23 1) v31 h31)) fun v32 h32 =>
 some (.ret, [(aG x23 1), (.bool true)], h32))
 (eP (
 aC (pu h30 (aX Tryd.prog .eql 3 true (aG x23 2) (.int .i64 17))) fun v33 h33 =>
 aY v33
 (some (.normal, [(aG x23 0), (aG x23 1), (aG x23 2), v33], h33))
 (aC (pu h33 (aX Tryd.prog .eql 3 true (aG x23 2) (.int .i64 20))) fun v34 h34 =>
 some (.normal, [(aG x23 0), (aG x23 1), (aG x23 2), v34], h34))) fun e35 x35 h35 => iM e35
 (aY (aG x35 3)
 (aC (aW (fG.f G k) [(aG x35 0)] h35) fun v36 h36 =>
 aC (pu h36 (cP [(0, 1), (1, 1), (2, 1), (3, 1), (4, 1), (5, 1)] [(.str ⟨#[]⟩), (.bool false), (.bool false), (.bool false), (.bool false), (.bool false)] [(0, v36), (5, (.bool true))])) fun v37 h37 =>
 aC (fM (aV 6 (aG x35 1) v37 h37)) fun v38 h38 =>
 some (.ret, [(aG x35 1), (.bool true)], h38))
 (eP (
 aC (pu h35 (aX Tryd.prog .eql 3 true (aG x35 2) (.int .i64 18))) fun v39 h39 =>
 aY v39
 (some (.normal, [(aG x35 0), (aG x35 1), v39], h39))
 (aC (pu h39 (aX Tryd.prog .eql 3 true (aG x35 2) (.int .i64 19))) fun v40 h40 =>
 some (.normal, [(aG x35 0), (aG x35 1), v40], h40))) fun e41 x41 h41 => iM e41
 (aY (aG x41 2)
 (aC (aW (fG.f G k) [(aG x41 0)] h41) fun v42 h42 =>
 aC (pu h42 (cP [(0, 1), (1, 1), (2, 1), (3, 1), (4, 1), (5, 1)] [(.str ⟨#[]⟩), (.bool false), (.bool false), (.bool false), (.bool false), (.bool false)] [(0, v42), (2, (.bool true)), (5, (.bool true))])) fun v43 h43 =>
 aC (fM (aV 6 (aG x41 1) v43 h43)) fun v44 h44 =>
 some (.ret, [(aG x41 1), (.bool true)], h44))
 (some (.normal, [(aG x41 1), .undef], h41)))
 (fun i41 => if i41 = 0 then (some (.normal, [(aG x41 1), .undef], h41)) else (some (.exit i41, [(aG x41 1), .undef], h41)))
 (some (.ret, [(aG x41 1), .undef], h41))))
 (fun i35 => if i35 = 0 then (some (.normal, [(aG x35 1), .undef], h35)) else (some (.exit i35, [(aG x35 1), .undef], h35)))
 (some (.ret, [(aG x35 1), .undef], h35))))))
 (fun i23 => if i23 = 0 then (some (.normal, [(aG x23 1), .undef], h23)) else (some (.exit i23, [(aG x23 1), .undef], h23)))
 (some (.ret, [(aG x23 1), .undef], h23))))
 (fun i15 => if i15 = 0 then (some (.normal, [(aG x15 1), .undef], h15)) else (some (.exit i15, [(aG x15 1), .undef], h15)))
 (some (.ret, [(aG x15 1), .undef], h15))))) fun e45 x45 h45 => iM e45
 (aC (pu h45 (cP [(0, 1), (1, 1), (2, 1), (3, 1), (4, 1), (5, 1)] [(.str ⟨#[]⟩), (.bool false), (.bool false), (.bool false), (.bool false), (.bool false)] [(0, (.str ⟨#[110, 111, 110, 101]⟩))])) fun v46 h46 =>
 aC (fM (aV 6 (aG x45 0) v46 h46)) fun v47 h47 =>
 iB [aE G true 6 (aG x45 0) h47, some (.bool false)] h.length h47)
 (fun i45 => none)
 (iB [aE G true 6 (aG x45 0) h45, some (aG x45 1)] h.length h45))
noncomputable def dY.f (G : aF) : Nat → cE
 | 0 => fun _ _ => none
 | k + 1 => fun args h => lS args fun x0 => (dY.c G k (dY.f G k) x0 h)
theorem dY.step (G : aF) (k : Nat) (x0 : AV) (h : aB) : dY.f G (k + 1) [x0] h = dY.c G k (dY.f G k) x0 h := rfl
noncomputable def fX.ann : Ann := fD [] [] [] []
noncomputable def fX.env (G : aF) (k : Nat) (self : cE) : List (Nat × Bool × cE) := []
noncomputable def fX.c (G : aF) (k : Nat) (self : cE) (x0 x1 : AV) (h : aB) : Option (AV × aB) := fE (
 aC (gB x0 h) fun v0 h0 =>
 aC (gB x1 h0) fun v1 h1 =>
 aC (pu h1 (aA 1 v1)) fun v2 h2 =>
 aC (pu h2 (aE G false 1 v2 h2)) fun v3 h3 =>
 aC (pu h3 (aA 2 v1)) fun v4 h4 =>
 aC (pu h4 (aE G false 1 v4 h4)) fun v5 h5 =>
 aC (pu h5 (aA 3 v1)) fun v6 h6 =>
 aC (pu h6 (aE G false 1 v6 h6)) fun v7 h7 =>
 aC (pu h7 (aA 4 v1)) fun v8 h8 =>
 aC (pu h8 (aE G false 1 v8 h8)) fun v9 h9 =>
 aC (pu h9 (aA 5 v1)) fun v10 h10 =>
 aC (pu h10 (aE G false 1 v10 h10)) fun v11 h11 =>
 aC (fQ 1 5 (.bool false) [(0, v3), (1, v5), (2, v7), (3, v9), (4, v11)] h11) fun v12 h12 =>
 aC (pu h12 (aA 1 v0)) fun v13 h13 =>
 aC (pu h13 (aE G false 1 v13 h13)) fun v14 h14 =>
 aC (pu h14 (aA 2 v0)) fun v15 h15 =>
 aC (pu h15 (aE G false 1 v15 h15)) fun v16 h16 =>
 aC (pu h16 (aA 3 v0)) fun v17 h17 =>
 aC (pu h17 (aE G false 1 v17 h17)) fun v18 h18 =>
 aC (pu h18 (aA 4 v0)) fun v19 h19 =>
 aC (pu h19 (aE G false 1 v19 h19)) fun v20 h20 =>
 aC (pu h20 (aA 5 v0)) fun v21 h21 =>
 aC (pu h21 (aE G false 1 v21 h21)) fun v22 h22 =>
 aC (fQ 1 5 (.int .i64 0) [(0, v14), (1, v16), (2, v18), (3, v20), (4, v22)] h22) fun v23 h23 =>
 cH [v12, v23] h.length h23)
noncomputable def fX.f (G : aF) : Nat → cE
 | 0 => fun _ _ => none
 | k + 1 => fun args h => kC args fun x0 x1 => (fX.c G k (fX.f G k) x0 x1 h)
noncomputable def cZ.ann : Ann := fD [] [] [(12, [2, 3, 4, 8, 53, 54, 55]), (6, [2, 3, 4, 7, 8, 28])] [(33, [3, 4, 12]), (31, [2, 3, 12, 82]), (27, [2, 3, 12, 72, 79]), (22, [2, 3, 12, 72, 73])]
noncomputable def cZ.env (G : aF) (k : Nat) (self : cE) : List (Nat × Bool × cE) := [(51, true, dY.f G k), (95, true, fX.f G k)]
noncomputable def cZ.l6 (G : aF) (k n0 : Nat) (self : cE) (lp : eU) : eU := fun xs h0 => iX n0 xs h0 fun h =>
 aC (pu h (aX Tryd.prog .lss 3 true (aG xs 5) (.int .i64 4))) fun v17 h17 =>
 aY v17
 (aC (pu h17 (aM 1 (aG xs 3) (aG xs 5))) fun v18 h18 =>
 aC (pu h18 (aE G false 1 v18 h18)) fun v19 h19 =>
 aC (gd v19 true h19 (some ((aG xs 4), h19))) fun v20 h20 =>
 aC (gd v19 true h20 (some ((aG xs 5), h20))) fun v21 h21 =>
 aC (gd v19 true h21 (pu h21 (aM 1 v20 v21))) fun v22 h22 =>
 aC (gd v19 true h22 (pu h22 (aE G false 1 v22 h22))) fun v23 h23 =>
 aC (gd v19 true h23 (pu h23 (aX Tryd.prog .lss 2 true v23 (.int .i64 0)))) fun v24 h24 =>
 aC (gd v19 true h24 (some (v24, h24))) fun v25 h25 =>
 aC (gd v25 false h25 (some ((aG xs 4), h25))) fun v26 h26 =>
 aC (gd v25 false h26 (some ((aG xs 5), h26))) fun v27 h27 =>
 aC (gd v25 false h27 (pu h27 (aM 1 v26 v27))) fun v28 h28 =>
 aC (gd v25 false h28 (pu h28 (aE G false 1 v28 h28))) fun v29 h29 =>
 aC (gd v25 false h29 (pu h29 (aA 1 (aG xs 0)))) fun v30 h30 =>
 aC (gd v25 false h30 (pu h30 (aE G false 1 v30 h30))) fun v31 h31 =>
 aC (gd v25 false h31 (pu h31 (aX Tryd.prog .geq 2 false v29 v31))) fun v32 h32 =>
 aC (gd v19 true h32 (pu h32 (eH v25 (.bool true) v32))) fun v33 h33 =>
 aC (pu h33 (eH v19 v33 (.bool false))) fun v34 h34 =>
 aY v34
 (aC (pu h34 (aE G false 1 (.gl 0) h34)) fun v35 h35 =>
 some (.ret, [(aG xs 0), (aG xs 1), v35, (aG xs 3), (aG xs 4), (aG xs 5)], h35))
 (aC (pu h34 (aX Tryd.prog .add 3 true (aG xs 5) (.int .i64 1))) fun v36 h36 =>
 lp [(aG xs 0), (aG xs 1), (aG xs 2), (aG xs 3), (aG xs 4), v36] h36))
 (some (.exit 0, [(aG xs 0), (aG xs 1), (aG xs 2), (aG xs 3), (aG xs 4), (aG xs 5)], h17))
noncomputable def cZ.l12 (G : aF) (k n0 : Nat) (self : cE) (lp : eU) : eU := fun xs h0 => iX n0 xs h0 fun h =>
 aC (pu h (aX Tryd.prog .lss 3 false (aG xs 6) (aG xs 5))) fun v39 h39 =>
 aY v39
 (aC (pu h39 (aM 1 (aG xs 4) (aG xs 6))) fun v40 h40 =>
 aC (pu h40 (aE G false 1 v40 h40)) fun v41 h41 =>
 aC (pu h41 (un .not v41)) fun v42 h42 =>
 aC (gd v42 true h42 (some ((aG xs 3), h42))) fun v43 h43 =>
 aC (gd v42 true h43 (some ((aG xs 6), h43))) fun v44 h44 =>
 aC (gd v42 true h44 (pu h44 (aM 1 v43 v44))) fun v45 h45 =>
 aC (gd v42 true h45 (pu h45 (aE G false 1 v45 h45))) fun v46 h46 =>
 aC (gd v42 true h46 (pu h46 (aX Tryd.prog .neq 2 true v46 (.int .i64 0)))) fun v47 h47 =>
 aC (pu h47 (eH v42 v47 (.bool false))) fun v48 h48 =>
 aY v48
 (aC (pu h48 (aE G false 1 (.gl 4) h48)) fun v49 h49 =>
 some (.ret, [(aG xs 0), (aG xs 1), v49, (aG xs 3), (aG xs 4), (aG xs 5), (aG xs 6)], h49))
 (aC (pu h48 (aX Tryd.prog .add 3 true (aG xs 6) (.int .i64 1))) fun v50 h50 =>
 lp [(aG xs 0), (aG xs 1), (aG xs 2), (aG xs 3), (aG xs 4), (aG xs 5), v50] h50))
 (some (.exit 2, [(aG xs 0), (aG xs 1), (aG xs 2), (aG xs 3), (aG xs 4), (aG xs 5), (aG xs 6)], h39))
noncomputable def cZ.c (G : aF) (k : Nat) (self : cE) (x0 x1 : AV) (h : aB) : Option (AV × aB) := fE (
 aC (gB x0 h) fun v0 h0 =>
 aC (gB x1 h0) fun v1 h1 =>
 aC (pu h1 (aA 0 v1)) fun v2 h2 =>
 aC (pu h2 (aE G false 1 v2 h2)) fun v3 h3 =>
 aC (aW (dY.f G k) [v3] h3) fun v4 h4 =>
 aC (pu h4 (cU v4 0)) fun v5 h5 =>
 aC (pu h5 (cU v4 1)) fun v6 h6 =>
 aC (fR 100 (.agg [(.str ⟨#[]⟩), (.bool false), (.bool false), (.bool false), (.bool false), (.bool false)]) h6) fun v7 h7 =>
 aC (fM (aV 6 v7 v5 h7)) fun v8 h8 =>
 aC (pu h8 (un .not v6)) fun v9 h9 =>
 aY v9
 (aC (pu h9 (aE G false 1 (.gl 3) h9)) fun v10 h10 =>
 cH [v10] h.length h10)
 (aC (pu h9 (aE G true 6 v1 h9)) fun v11 h11 =>
 aC (pu h11 (aE G true 6 v7 h11)) fun v12 h12 =>
 aC (aW (fX.f G k) [v11, v12] h12) fun v13 h13 =>
 aC (pu h13 (cU v13 0)) fun v14 h14 =>
 aC (pu h14 (cU v13 1)) fun v15 h15 =>
 eP (dK (cZ.l6 G k h15.length self) k [v0, v1, .nili, v14, v15, (.int .i64 0)] h15) fun e16 x16 h16 => iM e16
 (none)
 (fun i16 => if i16 = 0 then (aC (pu h16 (dD (aG x16 3))) fun v37 h37 =>
 eP (dK (cZ.l12 G k h37.length self) k [(aG x16 0), (aG x16 1), (aG x16 2), (aG x16 4), (aG x16 3), v37, (.int .i64 0)] h37) fun e38 x38 h38 => iM e38
 (none)
 (fun i38 => if i38 = 2 then (eP (
 aC (pu h38 (aA 0 (aG x38 1))) fun v51 h51 =>
 aC (pu h51 (aE G false 1 v51 h51)) fun v52 h52 =>
 eP (
 aC (pu h52 (aX Tryd.prog .eql 3 true v52 (.int .i64 10))) fun v53 h53 =>
 aY v53
 (some (.normal, [(aG x38 0), (aG x38 1), (.int .i64 (-1)), v52, v53], h53))
 (aC (pu h53 (aX Tryd.prog .eql 3 true v52 (.int .i64 11))) fun v54 h54 =>
 aY v54
 (some (.normal, [(aG x38 0), (aG x38 1), (.int .i64 (-1)), v52, v54], h54))
 (aC (pu h54 (aX Tryd.prog .eql 3 true v52 (.int .i64 12))) fun v55 h55 =>
 some (.normal, [(aG x38 0), (aG x38 1), (.int .i64 (-1)), v52, v55], h55)))) fun e56 x56 h56 => iM e56
 (aY (aG x56 4)
 (some (.normal, [(aG x56 1), .undef, (.int .i64 63)], h56))
 (aC (pu h56 (aX Tryd.prog .eql 3 true (aG x56 3) (.int .i64 20))) fun v57 h57 =>
 aY v57
 (some (.normal, [(aG x56 1), .undef, (.int .i64 2)], h57))
 (eP (
 aC (pu h57 (aX Tryd.prog .eql 3 true (aG x56 3) (.int .i64 15))) fun v58 h58 =>
 aY v58
 (some (.normal, [(aG x56 0), (aG x56 1), (aG x56 2), (aG x56 3), v58], h58))
 (aC (pu h58 (aX Tryd.prog .eql 3 true (aG x56 3) (.int .i64 16))) fun v59 h59 =>
 some (.normal, [(aG x56 0), (aG x56 1), (aG x56 2), (aG x56 3), v59], h59))) fun e60 x60 h60 => iM e60
 (aY (aG x60 4)
 (some (.normal, [(aG x60 1), .undef, (.int .i64 65535)], h60))
 (eP (
 aC (pu h60 (aX Tryd.prog .eql 3 true (aG x60 3) (.int .i64 17))) fun v61 h61 =>
 aY v61
 (some (.normal, [(aG x60 0), (aG x60 1), (aG x60 2), v61], h61))
 (aC (pu h61 (aX Tryd.prog .eql 3 true (aG x60 3) (.int .i64 18))) fun v62 h62 =>
 aY v62
 (some (.normal, [(aG x60 0), (aG x60 1), (aG x60 2), v62], h62))
 (aC (pu h62 (aX Tryd.prog .eql 3 true (aG x60 3) (.int .i64 19))) fun v63 h63 =>
 some (.normal, [(aG x60 0), (aG x60 1), (aG x60 2), v63], h63)))) fun e64 x64 h64 => iM e64
 (aY (aG x64 3)
 (aC (pu h64 (aA 5 (aG x64 1))) fun v65 h65 =>
 aC (pu h65 (aE G false 1 v65 h65)) fun v66 h66 =>
 aC (pu h66 (aX Tryd.prog .lss 2 true v66 (.int .i64 0))) fun v67 h67 =>
 aC (gd v67 false h67 (pu h67 (aA 5 (aG x64 1)))) fun v68 h68 =>
 aC (gd v67 false h68 (pu h68 (aE G false 1 v68 h68))) fun v69 h69 =>
 aC (gd v67 false h69 (pu h69 (aA 0 (aG x64 0)))) fun v70 h70 =>
 aC (gd v67 false h70 (pu h70 (aE G false 1 v70 h70))) fun v71 h71 =>
 aC (gd v67 false h71 (pu h71 (dD v71))) fun v72 h72 =>
 aC (gd v67 false h72 (pu h72 (aX Tryd.prog .gtr 2 false v69 v72))) fun v73 h73 =>
 aC (pu h73 (eH v67 (.bool true) v73)) fun v74 h74 =>
 aY v74
 (aC (pu h74 (aE G false 1 (.gl 5) h74)) fun v75 h75 =>
 some (.ret, [(aG x64 1), v75, (aG x64 2)], h75))
 (some (.normal, [(aG x64 1), .undef, (aG x64 2)], h74)))
 (some (.normal, [(aG x64 1), .undef, (aG x64 2)], h64)))
 (fun i64 => if i64 = 4 then (some (.normal, [(aG x64 1), .undef, (aG x64 2)], h64)) else (some (.exit i64, [(aG x64 1), .undef, (aG x64 2)], h64)))
 (some (.ret, [(aG x64 1), .undef, (aG x64 2)], h64))))
 (fun i60 => if i60 = 4 then (some (.normal, [(aG x60 1), .undef, (aG x60 2)], h60)) else (some (.exit i60, [(aG x60 1), .undef, (aG x60 2)], h60)))
 (some (.ret, [(aG x60 1), .undef, (aG x60 2)], h60)))))
 (fun i56 => if i56 = 4 then (some (.normal, [(aG x56 1), .undef, (aG x56 2)], h56)) else (some (.exit i56, [(aG x56 1), .undef, (aG x56 2)], h56)))
 (some (.ret, [(aG x56 1), .undef, (aG x56 2)], h56))) fun e76 x76 h76 => iM e76
 (aC (pu h76 (aX Tryd.prog .geq 2 true (aG x76 2) (.int .i64 0))) fun v77 h77 =>
 aC (gd v77 true h77 (pu h77 (aA 5 (aG x76 0)))) fun v78 h78 =>
 aC (gd v77 true h78 (pu h78 (aE G false 1 v78 h78))) fun v79 h79 =>
 aC (gd v77 true h79 (pu h79 (aX Tryd.prog .lss 2 true v79 (.int .i64 0)))) fun v80 h80 =>
 aC (gd v77 true h80 (some (v80, h80))) fun v81 h81 =>
 aC (gd v81 false h81 (pu h81 (aA 5 (aG x76 0)))) fun v82 h82 =>
 aC (gd v81 false h82 (pu h82 (aE G false 1 v82 h82))) fun v83 h83 =>
 aC (gd v81 false h83 (some ((aG x76 2), h83))) fun v84 h84 =>
 aC (gd v81 false h84 (pu h84 (aX Tryd.prog .gtr 2 false v83 v84))) fun v85 h85 =>
 aC (gd v77 true h85 (pu h85 (eH v81 (.bool true) v85))) fun v86 h86 =>
 aC (pu h86 (eH v77 v86 (.bool false))) fun v87 h87 =>
 aY v87
 (aC (pu h87 (aE G false 1 (.gl 0) h87)) fun v88 h88 =>
 cH [v88] h.length h88)
 (cH [.nili] h.length h87))
 (fun i76 => none)
 (cH [(aG x76 1)] h.length h76)) else (none))
 (cH [(aG x38 2)] h.length h38)) else (none))
 (cH [(aG x16 2)] h.length h16)))
noncomputable def cZ.f (G : aF) : Nat → cE
 | 0 => fun _ _ => none
 | k + 1 => fun args h => kC args fun x0 x1 => (cZ.c G k (cZ.f G k) x0 x1 h)
theorem cZ.step (G : aF) (k : Nat) (x0 x1 : AV) (h : aB) : cZ.f G (k + 1) [x0, x1] h = cZ.c G k (cZ.f G k) x0 x1 h := rfl
noncomputable def cX.ann : Ann := fD [] [] [(6, [1, 2, 33, 34, 35])] []
noncomputable def cX.env (G : aF) (k : Nat) (self : cE) : List (Nat × Bool × cE) := [(72, true, cZ.f G k)]
noncomputable def cX.l6 (G : aF) (k n0 : Nat) (self : cE) (lp : eU) : eU := fun xs h0 => iX n0 xs h0 fun h =>
 aC (pu h (aX Tryd.prog .lss 3 false (aG xs 4) (aG xs 3))) fun v26 h26 =>
 aY v26
 (aC (pu h26 (aM 6 (aG xs 2) (aG xs 4))) fun v27 h27 =>
 aC (pu h27 (aE G true 6 v27 h27)) fun v28 h28 =>
 aC (fR 29 (.agg [(.int .i64 0), (.int .i64 0), (.int .i64 0), (.int .i64 0), (.int .i64 0), (.int .i64 0)]) h28) fun v29 h29 =>
 aC (fM (aV 6 v29 v28 h29)) fun v30 h30 =>
 aC (pu h30 (aE G true 3 (aG xs 0) h30)) fun v31 h31 =>
 aC (pu h31 (aE G true 6 v29 h31)) fun v32 h32 =>
 aC (aW (cZ.f G k) [v31, v32] h32) fun v33 h33 =>
 aC (pu h33 (aX Tryd.prog .neq 33 true v33 .nili)) fun v34 h34 =>
 aY v34
 (aC (pu h34 (cP [(0, 1), (1, 1)] [(.int .i64 0), .nili] [(0, (aG xs 4)), (1, v33)])) fun v35 h35 =>
 aC (gB v35 h35) fun v36 h36 =>
 some (.ret, [(aG xs 0), (.iface 126 v36), (aG xs 2), (aG xs 3), (aG xs 4)], h36))
 (aC (pu h34 (aX Tryd.prog .add 3 true (aG xs 4) (.int .i64 1))) fun v37 h37 =>
 lp [(aG xs 0), (aG xs 1), (aG xs 2), (aG xs 3), v37] h37))
 (some (.exit 1, [(aG xs 0), (aG xs 1), (aG xs 2), (aG xs 3), (aG xs 4)], h26))
noncomputable def cX.c (G : aF) (k : Nat) (self : cE) (x0 : AV) (h : aB) : Option (AV × aB) := fE (
 aC (gB x0 h) fun v0 h0 =>
 aC (pu h0 (aA 0 v0)) fun v1 h1 =>
 aC (pu h1 (aE G false 1 v1 h1)) fun v2 h2 =>
 aC (pu h2 (dD v2)) fun v3 h3 =>
 aC (pu h3 (aX Tryd.prog .gtr 3 true v3 (.int .i64 262144))) fun v4 h4 =>
 aY v4
 (aC (pu h4 (aE G false 1 (.gl 1) h4)) fun v5 h5 =>
 cH [v5] h.length h5)
 (aC (pu h4 (aA 1 v0)) fun v6 h6 =>
 aC (pu h6 (aE G false 1 v6 h6)) fun v7 h7 =>
 aC (pu h7 (aX Tryd.prog .lss 3 true v7 (.int .i64 0))) fun v8 h8 =>
 aC (gd v8 false h8 (pu h8 (aA 1 v0))) fun v9 h9 =>
 aC (gd v8 false h9 (pu h9 (aE G false 1 v9 h9))) fun v10 h10 =>
 aC (gd v8 false h10 (pu h10 (aX Tryd.prog .gtr 3 true v10 (.int .i64 65536)))) fun v11 h11 =>
 aC (pu h11 (eH v8 (.bool true) v11)) fun v12 h12 =>
 aC (gd v12 false h12 (pu h12 (aA 2 v0))) fun v13 h13 =>
 aC (gd v12 false h13 (pu h13 (aE G false 1 v13 h13))) fun v14 h14 =>
 aC (gd v12 false h14 (pu h14 (aX Tryd.prog .lss 3 true v14 (.int .i64 0)))) fun v15 h15 =>
 aC (pu h15 (eH v12 (.bool true) v15)) fun v16 h16 =>
 aC (gd v16 false h16 (pu h16 (aA 2 v0))) fun v17 h17 =>
 aC (gd v16 false h17 (pu h17 (aE G false 1 v17 h17))) fun v18 h18 =>
 aC (gd v16 false h18 (pu h18 (aX Tryd.prog .gtr 3 true v18 (.int .i64 65536)))) fun v19 h19 =>
 aC (pu h19 (eH v16 (.bool true) v19)) fun v20 h20 =>
 aY v20
 (aC (pu h20 (aE G false 1 (.gl 1) h20)) fun v21 h21 =>
 cH [v21] h.length h21)
 (aC (pu h20 (aA 0 v0)) fun v22 h22 =>
 aC (pu h22 (aE G false 1 v22 h22)) fun v23 h23 =>
 aC (pu h23 (dD v23)) fun v24 h24 =>
 eP (dK (cX.l6 G k h24.length self) k [v0, .nili, v23, v24, (.int .i64 0)] h24) fun e25 x25 h25 => iM e25
 (none)
 (fun i25 => if i25 = 1 then (cH [.nili] h.length h25) else (none))
 (cH [(aG x25 1)] h.length h25))))
noncomputable def cX.f (G : aF) : Nat → cE
 | 0 => fun _ _ => none
 | k + 1 => fun args h => lS args fun x0 => (cX.c G k (cX.f G k) x0 h)
theorem cX.step (G : aF) (k : Nat) (x0 : AV) (h : aB) : cX.f G (k + 1) [x0] h = cX.c G k (cX.f G k) x0 h := rfl
noncomputable def aP.ann : Ann := fD [5] [2] [] []
noncomputable def aP.env (G : aF) (k : Nat) (self : cE) : List (Nat × Bool × cE) := []
noncomputable def aP.c (G : aF) (k : Nat) (self : cE) (x0 : AV) (h : aB) : Option (AV × aB) := fE (
 aC (some (.sl h.length 0 0 0 6, h ++ [⟨29, 6, []⟩])) fun v0 h0 =>
 aC (pu h0 (aX Tryd.prog .eql 25 true x0 .nils)) fun v1 h1 =>
 aY v1
 (aC (some (.sl h1.length 0 0 0 6, h1 ++ [⟨29, 6, []⟩])) fun v2 h2 =>
 uX [v2] h2)
 (aC (gX 29 6 0 (.agg [(.int .i64 0), (.int .i64 0), (.int .i64 0), (.int .i64 0), (.int .i64 0), (.int .i64 0)]) [] h1) fun v3 h3 =>
 aC (fU 29 6 v3 x0 h3) fun v4 h4 =>
 uX [v4] h4))
noncomputable def aP.f (G : aF) : Nat → cE
 | 0 => fun _ _ => none
 | k + 1 => fun args h => lS args fun x0 => (aP.c G k (aP.f G k) x0 h)
theorem aP.step (G : aF) (k : Nat) (x0 : AV) (h : aB) : aP.f G (k + 1) [x0] h = aP.c G k (aP.f G k) x0 h := rfl
noncomputable def eF.ann : Ann := fD [] [] [] []
noncomputable def eF.env (G : aF) (k : Nat) (self : cE) : List (Nat × Bool × cE) := [(51, true, dY.f G k)]
noncomputable def eF.c (G : aF) (k : Nat) (self : cE) (x0 : AV) (h : aB) : Option (AV × aB) := fE (
 aC (gB x0 h) fun v0 h0 =>
 aC (pu h0 (aA 0 v0)) fun v1 h1 =>
 aC (pu h1 (aE G false 1 v1 h1)) fun v2 h2 =>
 aC (aW (dY.f G k) [v2] h2) fun v3 h3 =>
 aC (pu h3 (cU v3 0)) fun v4 h4 =>
 aC (pu h4 (cU v3 1)) fun v5 h5 =>
 aC (fR 100 (.agg [(.str ⟨#[]⟩), (.bool false), (.bool false), (.bool false), (.bool false), (.bool false)]) h5) fun v6 h6 =>
 aC (fM (aV 6 v6 v4 h6)) fun v7 h7 =>
 aC (pu h7 (aA 1 v6)) fun v8 h8 =>
 aC (pu h8 (aE G false 1 v8 h8)) fun v9 h9 =>
 aC (pu h9 (un .not v9)) fun v10 h10 =>
 aY v10
 (cH [(.int .i64 0), (.bool false)] h.length h10)
 (aC (pu h10 (aA 1 v0)) fun v11 h11 =>
 aC (pu h11 (aE G false 1 v11 h11)) fun v12 h12 =>
 cH [v12, (.bool true)] h.length h12))
noncomputable def eF.f (G : aF) : Nat → cE
 | 0 => fun _ _ => none
 | k + 1 => fun args h => lS args fun x0 => (eF.c G k (eF.f G k) x0 h)
theorem eF.step (G : aF) (k : Nat) (x0 : AV) (h : aB) : eF.f G (k + 1) [x0] h = eF.c G k (eF.f G k) x0 h := rfl
noncomputable def cT.ann : Ann := fD [] [] [] []
noncomputable def cT.env (G : aF) (k : Nat) (self : cE) : List (Nat × Bool × cE) := []
noncomputable def cT.c (G : aF) (k : Nat) (self : cE) (x0 : AV) (h : aB) : Option (AV × aB) := fE (
 aC (pu h (aX Tryd.prog .neq 3 false x0 x0)) fun v0 h0 =>
 cH [v0] h.length h0)
noncomputable def cT.f (G : aF) : Nat → cE
 | 0 => fun _ _ => none
 | k + 1 => fun args h => lS args fun x0 => (cT.c G k (cT.f G k) x0 h)
theorem cT.step (G : aF) (k : Nat) (x0 : AV) (h : aB) : cT.f G (k + 1) [x0] h = cT.c G k (cT.f G k) x0 h := rfl
noncomputable def dA.ann : Ann := fD [] [] [] []
noncomputable def dA.env (G : aF) (k : Nat) (self : cE) : List (Nat × Bool × cE) := [(120, true, cT.f G k)]
noncomputable def dA.c (G : aF) (k : Nat) (self : cE) (x0 x1 : AV) (h : aB) : Option (AV × aB) := fE (
 aC (aW (cT.f G k) [x0] h) fun v0 h0 =>
 aC (gd v0 true h0 (some (x1, h0))) fun v1 h1 =>
 aC (gd v0 true h1 (aW (cT.f G k) [v1] h1)) fun v2 h2 =>
 aC (gd v0 true h2 (pu h2 (un .not v2))) fun v3 h3 =>
 aC (pu h3 (eH v0 v3 (.bool false))) fun v4 h4 =>
 aC (gd v4 false h4 (some (x0, h4))) fun v5 h5 =>
 aC (gd v4 false h5 (some (x1, h5))) fun v6 h6 =>
 aC (gd v4 false h6 (pu h6 (aX Tryd.prog .lss 3 false v5 v6))) fun v7 h7 =>
 aC (pu h7 (eH v4 (.bool true) v7)) fun v8 h8 =>
 cH [v8] h.length h8)
noncomputable def dA.f (G : aF) : Nat → cE
 | 0 => fun _ _ => none
 | k + 1 => fun args h => kC args fun x0 x1 => (dA.c G k (dA.f G k) x0 x1 h)
theorem dA.step (G : aF) (k : Nat) (x0 x1 : AV) (h : aB) : dA.f G (k + 1) [x0, x1] h = dA.c G k (dA.f G k) x0 x1 h := rfl
noncomputable def aJ.ann : Ann := fD [] [] [(4, [0, 1, 2, 6, 7]), (1, [0, 1, 2, 6])] []
noncomputable def aJ.env (G : aF) (k : Nat) (self : cE) : List (Nat × Bool × cE) := [(103, true, dA.f G k)]
noncomputable def aJ.l4 (G : aF) (k n0 : Nat) (self : cE) (lp : eU) : eU := fun xs h0 => iX n0 xs h0 fun h =>
 aC (pu h (aX Tryd.prog .gtr 3 false (aG xs 4) (aG xs 1))) fun v4 h4 =>
 aC (gd v4 true h4 (some ((aG xs 0), h4))) fun v5 h5 =>
 aC (gd v4 true h5 (some ((aG xs 4), h5))) fun v6 h6 =>
 aC (gd v4 true h6 (pu h6 (aM 1 v5 v6))) fun v7 h7 =>
 aC (gd v4 true h7 (pu h7 (aE G false 1 v7 h7))) fun v8 h8 =>
 aC (gd v4 true h8 (some ((aG xs 0), h8))) fun v9 h9 =>
 aC (gd v4 true h9 (some ((aG xs 4), h9))) fun v10 h10 =>
 aC (gd v4 true h10 (pu h10 (aX Tryd.prog .sub 3 true v10 (.int .i64 1)))) fun v11 h11 =>
 aC (gd v4 true h11 (pu h11 (aM 1 v9 v11))) fun v12 h12 =>
 aC (gd v4 true h12 (pu h12 (aE G false 1 v12 h12))) fun v13 h13 =>
 aC (gd v4 true h13 (aW (dA.f G k) [v8, v13] h13)) fun v14 h14 =>
 aC (pu h14 (eH v4 v14 (.bool false))) fun v15 h15 =>
 aY v15
 (aC (pu h15 (aX Tryd.prog .sub 3 true (aG xs 4) (.int .i64 1))) fun v16 h16 =>
 aC (pu h16 (aX Tryd.prog .sub 3 true (aG xs 4) (.int .i64 1))) fun v17 h17 =>
 aC (pu h17 (aM 1 (aG xs 0) v17)) fun v18 h18 =>
 aC (pu h18 (aE G false 1 v18 h18)) fun v19 h19 =>
 aC (pu h19 (aM 1 (aG xs 0) (aG xs 4))) fun v20 h20 =>
 aC (pu h20 (aE G false 1 v20 h20)) fun v21 h21 =>
 aC (pu h21 (aM 1 (aG xs 0) (aG xs 4))) fun v22 h22 =>
 aC (fM (aV 1 v22 v19 h22)) fun v23 h23 =>
 aC (pu h23 (aM 1 (aG xs 0) v16)) fun v24 h24 =>
 aC (fM (aV 1 v24 v21 h24)) fun v25 h25 =>
 aC (pu h25 (aX Tryd.prog .sub 3 true (aG xs 4) (.int .i64 1))) fun v26 h26 =>
 lp [(aG xs 0), (aG xs 1), (aG xs 2), (aG xs 3), v26] h26)
 (some (.exit 2, [(aG xs 0), (aG xs 1), (aG xs 2), (aG xs 3), (aG xs 4)], h15))
noncomputable def aJ.l1 (G : aF) (k n0 : Nat) (self : cE) (lp : eU) : eU := fun xs h0 => iX n0 xs h0 fun h =>
 aC (pu h (aX Tryd.prog .lss 3 false (aG xs 3) (aG xs 2))) fun v2 h2 =>
 aY v2
 (eP (dK (aJ.l4 G k h2.length self) k [(aG xs 0), (aG xs 1), (aG xs 2), (aG xs 3), (aG xs 3)] h2) fun e3 x3 h3 => iM e3
 (none)
 (fun i3 => if i3 = 2 then (aC (pu h3 (aX Tryd.prog .add 3 true (aG x3 3) (.int .i64 1))) fun v27 h27 =>
 lp [(aG x3 0), (aG x3 1), (aG x3 2), v27] h27) else (if i3 = 1 then (aC (pu h3 (aX Tryd.prog .add 3 true (aG x3 3) (.int .i64 1))) fun v28 h28 =>
 lp [(aG x3 0), (aG x3 1), (aG x3 2), v28] h28) else (some (.exit i3, [(aG x3 0), (aG x3 1), (aG x3 2), (aG x3 3)], h3))))
 (some (.ret, [(aG x3 0), (aG x3 1), (aG x3 2), (aG x3 3)], h3)))
 (some (.exit 0, [(aG xs 0), (aG xs 1), (aG xs 2), (aG xs 3)], h2))
noncomputable def aJ.c (G : aF) (k : Nat) (self : cE) (x0 x1 x2 : AV) (h : aB) : Option (AV × aB) := fE (
 aC (pu h (aX Tryd.prog .add 3 true x1 (.int .i64 1))) fun v0 h0 =>
 eP (dK (aJ.l1 G k h0.length self) k [x0, x1, x2, v0] h0) fun e1 x1 h1 => iM e1
 (none)
 (fun i1 => if i1 = 0 then (cH [] h.length h1) else (none))
 (cH [] h.length h1))
noncomputable def aJ.f (G : aF) : Nat → cE
 | 0 => fun _ _ => none
 | k + 1 => fun args h => vX args fun x0 x1 x2 => (aJ.c G k (aJ.f G k) x0 x1 x2 h)
theorem aJ.step (G : aF) (k : Nat) (x0 x1 x2 : AV) (h : aB) : aJ.f G (k + 1) [x0, x1, x2] h = aJ.c G k (aJ.f G k) x0 x1 x2 h := rfl
noncomputable def aU.ann : Ann := fD [] [] [(2, [0, 1, 2, 3, 8, 9])] [(17, [0, 1, 2, 3, 8, 9, 10, 11]), (15, [0, 1, 2, 3, 8, 9, 10, 11, 12]), (10, [0, 1, 2, 3, 8, 9, 10])]
noncomputable def aU.env (G : aF) (k : Nat) (self : cE) : List (Nat × Bool × cE) := [(87, false, self), (97, false, aJ.f G k), (103, true, dA.f G k)]
noncomputable def aU.l2 (G : aF) (k n0 : Nat) (self : cE) (lp : eU) : eU := fun xs h0 => iX n0 xs h0 fun h =>
 aC (pu h (aX Tryd.prog .sub 3 false (aG xs 2) (aG xs 1))) fun v1 h1 =>
 aC (pu h1 (aX Tryd.prog .leq 3 true v1 (.int .i64 12))) fun v2 h2 =>
 aY v2
 (aC (bD (aJ.f G k) [(aG xs 0), (aG xs 1), (aG xs 2)] h2) fun v3 h3 =>
 some (.ret, [(aG xs 0), (aG xs 1), (aG xs 2), (aG xs 3), (aG xs 4), (aG xs 5)], h3))
 (aC (pu h2 (aX Tryd.prog .eql 3 true (aG xs 3) (.int .i64 0))) fun v4 h4 =>
 aY v4
 (none)
 (eP (
 aC (pu h4 (un .not (aG xs 4))) fun v5 h5 =>
 aY v5
 (none)
 (some (.normal, [(aG xs 0), (aG xs 1), (aG xs 2), (aG xs 3), (aG xs 4), (aG xs 5), v1], h5))) fun e6 x6 h6 => iM e6
 (none)
 (fun i6 => if i6 = 1 then (lp [(aG x6 0), (aG x6 1), (aG x6 2), (aG x6 3), (aG x6 4), (aG x6 5)] h6) else (some (.exit i6, [(aG x6 0), (aG x6 1), (aG x6 2), (aG x6 3), (aG x6 4), (aG x6 5)], h6)))
 (some (.ret, [(aG x6 0), (aG x6 1), (aG x6 2), (aG x6 3), (aG x6 4), (aG x6 5)], h6))))
noncomputable def aU.c (G : aF) (k : Nat) (self : cE) (x0 x1 x2 x3 : AV) (h : aB) : Option (AV × aB) := fE (
 eP (dK (aU.l2 G k h.length self) k [x0, x1, x2, x3, (.bool true), (.bool true)] h) fun e0 x0 h0 => iM e0
 (none)
 (fun i0 => if i0 = 0 then (cH [] h.length h0) else (none))
 (cH [] h.length h0))
noncomputable def aU.f (G : aF) : Nat → cE
 | 0 => fun _ _ => none
 | k + 1 => fun args h => aAm args fun x0 x1 x2 x3 => (aU.c G k (aU.f G k) x0 x1 x2 x3 h)
theorem aU.step (G : aF) (k : Nat) (x0 x1 x2 x3 : AV) (h : aB) : aU.f G (k + 1) [x0, x1, x2, x3] h = aU.c G k (aU.f G k) x0 x1 x2 x3 h := rfl
def dO.s0 : ByteArray := ⟨#[0, 1, 2, 2, 3, 3, 3, 3, 4, 4, 4, 4, 4, 4, 4, 4, 5, 5, 5, 5, 5, 5, 5, 5, 5, 5, 5, 5, 5, 5, 5, 5, 6, 6, 6, 6, 6, 6, 6, 6, 6, 6, 6, 6, 6, 6, 6, 6, 6, 6, 6, 6, 6, 6, 6, 6, 6, 6, 6, 6, 6, 6, 6, 6, 7, 7, 7, 7, 7, 7, 7, 7, 7, 7, 7, 7, 7, 7, 7, 7, 7, 7, 7, 7, 7, 7, 7, 7, 7, 7, 7, 7, 7, 7, 7, 7, 7, 7, 7, 7, 7, 7, 7, 7, 7, 7, 7, 7, 7, 7, 7, 7, 7, 7, 7, 7, 7, 7, 7, 7, 7, 7, 7, 7, 7, 7, 7, 7, 8, 8, 8, 8, 8, 8, 8, 8, 8, 8, 8, 8, 8, 8, 8, 8, 8, 8, 8, 8, 8, 8, 8, 8, 8, 8, 8, 8, 8, 8, 8, 8, 8, 8, 8, 8, 8, 8, 8, 8, 8, 8, 8, 8, 8, 8, 8, 8, 8, 8, 8, 8, 8, 8, 8, 8, 8, 8, 8, 8, 8, 8, 8, 8, 8, 8, 8, 8, 8, 8, 8, 8, 8, 8, 8, 8, 8, 8, 8, 8, 8, 8, 8, 8, 8, 8, 8, 8, 8, 8, 8, 8, 8, 8, 8, 8, 8, 8, 8, 8, 8, 8, 8, 8, 8, 8, 8, 8, 8, 8, 8, 8, 8, 8, 8, 8, 8, 8, 8, 8, 8, 8, 8, 8, 8, 8, 8, 8]⟩
noncomputable def dO.ann : Ann := fD [] [] [] [(7, [0, 2]), (4, [0, 2])]
noncomputable def dO.env (G : aF) (k : Nat) (self : cE) : List (Nat × Bool × cE) := []
noncomputable def dO.c (G : aF) (k : Nat) (self : cE) (x0 : AV) (h : aB) : Option (AV × aB) := fE (
 eP (
 aC (pu h (aX Tryd.prog .geq 161 true x0 (.int .u32 65536))) fun v0 h0 =>
 aY v0
 (aC (pu h0 (aX Tryd.prog .shr 161 true x0 (.int .u64 16))) fun v1 h1 =>
 some (.normal, [v1, (.int .i64 16)], h1))
 (some (.normal, [x0, (.int .i64 0)], h0))) fun e2 x2 h2 => iM e2
 (eP (
 aC (pu h2 (aX Tryd.prog .geq 161 true (aG x2 0) (.int .u32 256))) fun v3 h3 =>
 aY v3
 (aC (pu h3 (aX Tryd.prog .shr 161 true (aG x2 0) (.int .u64 8))) fun v4 h4 =>
 aC (pu h4 (aX Tryd.prog .add 3 true (aG x2 1) (.int .i64 8))) fun v5 h5 =>
 some (.normal, [v4, v5], h5))
 (some (.normal, [(aG x2 0), (aG x2 1)], h3))) fun e6 x6 h6 => iM e6
 (aC (pu h6 (dJ .u8 (aG x6 0))) fun v7 h7 =>
 aC (pu h7 (aAR (.str dO.s0) v7)) fun v8 h8 =>
 aC (pu h8 (dJ .i64 v8)) fun v9 h9 =>
 aC (pu h9 (aX Tryd.prog .add 3 false (aG x6 1) v9)) fun v10 h10 =>
 cH [v10] h.length h10)
 (fun i6 => none)
 (cH [(aG x6 1)] h.length h6))
 (fun i2 => none)
 (cH [(aG x2 1)] h.length h2))
noncomputable def dO.f (G : aF) : Nat → cE
 | 0 => fun _ _ => none
 | k + 1 => fun args h => lS args fun x0 => (dO.c G k (dO.f G k) x0 h)
def dP.s0 : ByteArray := ⟨#[0, 1, 2, 2, 3, 3, 3, 3, 4, 4, 4, 4, 4, 4, 4, 4, 5, 5, 5, 5, 5, 5, 5, 5, 5, 5, 5, 5, 5, 5, 5, 5, 6, 6, 6, 6, 6, 6, 6, 6, 6, 6, 6, 6, 6, 6, 6, 6, 6, 6, 6, 6, 6, 6, 6, 6, 6, 6, 6, 6, 6, 6, 6, 6, 7, 7, 7, 7, 7, 7, 7, 7, 7, 7, 7, 7, 7, 7, 7, 7, 7, 7, 7, 7, 7, 7, 7, 7, 7, 7, 7, 7, 7, 7, 7, 7, 7, 7, 7, 7, 7, 7, 7, 7, 7, 7, 7, 7, 7, 7, 7, 7, 7, 7, 7, 7, 7, 7, 7, 7, 7, 7, 7, 7, 7, 7, 7, 7, 8, 8, 8, 8, 8, 8, 8, 8, 8, 8, 8, 8, 8, 8, 8, 8, 8, 8, 8, 8, 8, 8, 8, 8, 8, 8, 8, 8, 8, 8, 8, 8, 8, 8, 8, 8, 8, 8, 8, 8, 8, 8, 8, 8, 8, 8, 8, 8, 8, 8, 8, 8, 8, 8, 8, 8, 8, 8, 8, 8, 8, 8, 8, 8, 8, 8, 8, 8, 8, 8, 8, 8, 8, 8, 8, 8, 8, 8, 8, 8, 8, 8, 8, 8, 8, 8, 8, 8, 8, 8, 8, 8, 8, 8, 8, 8, 8, 8, 8, 8, 8, 8, 8, 8, 8, 8, 8, 8, 8, 8, 8, 8, 8, 8, 8, 8, 8, 8, 8, 8, 8, 8, 8, 8, 8, 8, 8, 8]⟩
noncomputable def dP.ann : Ann := fD [] [] [] [(10, [0, 2]), (7, [0, 2]), (4, [0, 2])]
noncomputable def dP.env (G : aF) (k : Nat) (self : cE) : List (Nat × Bool × cE) := []
noncomputable def dP.c (G : aF) (k : Nat) (self : cE) (x0 : AV) (h : aB) : Option (AV × aB) := fE (
 eP (
 aC (pu h (aX Tryd.prog .geq 30 true x0 (.int .u64 4294967296))) fun v0 h0 =>
 aY v0
 (aC (pu h0 (aX Tryd.prog .shr 30 true x0 (.int .u64 32))) fun v1 h1 =>
 some (.normal, [v1, (.int .i64 32)], h1))
 (some (.normal, [x0, (.int .i64 0)], h0))) fun e2 x2 h2 => iM e2
 (eP (
 aC (pu h2 (aX Tryd.prog .geq 30 true (aG x2 0) (.int .u64 65536))) fun v3 h3 =>
 aY v3
 (aC (pu h3 (aX Tryd.prog .shr 30 true (aG x2 0) (.int .u64 16))) fun v4 h4 =>
 aC (pu h4 (aX Tryd.prog .add 3 true (aG x2 1) (.int .i64 16))) fun v5 h5 =>
 some (.normal, [v4, v5], h5))
 (some (.normal, [(aG x2 0), (aG x2 1)], h3))) fun e6 x6 h6 => iM e6
 (eP (
 aC (pu h6 (aX Tryd.prog .geq 30 true (aG x6 0) (.int .u64 256))) fun v7 h7 =>
 aY v7
 (aC (pu h7 (aX Tryd.prog .shr 30 true (aG x6 0) (.int .u64 8))) fun v8 h8 =>
 aC (pu h8 (aX Tryd.prog .add 3 true (aG x6 1) (.int .i64 8))) fun v9 h9 =>
 some (.normal, [v8, v9], h9))
 (some (.normal, [(aG x6 0), (aG x6 1)], h7))) fun e10 x10 h10 => iM e10
 (aC (pu h10 (dJ .u8 (aG x10 0))) fun v11 h11 =>
 aC (pu h11 (aAR (.str dP.s0) v11)) fun v12 h12 =>
 aC (pu h12 (dJ .i64 v12)) fun v13 h13 =>
 aC (pu h13 (aX Tryd.prog .add 3 false (aG x10 1) v13)) fun v14 h14 =>
 cH [v14] h.length h14)
 (fun i10 => none)
 (cH [(aG x10 1)] h.length h10))
 (fun i6 => none)
 (cH [(aG x6 1)] h.length h6))
 (fun i2 => none)
 (cH [(aG x2 1)] h.length h2))
noncomputable def dP.f (G : aF) : Nat → cE
 | 0 => fun _ _ => none
 | k + 1 => fun args h => lS args fun x0 => (dP.c G k (dP.f G k) x0 h)
noncomputable def dQ.ann : Ann := fD [] [] [] []
noncomputable def dQ.env (G : aF) (k : Nat) (self : cE) : List (Nat × Bool × cE) := [(106, true, dO.f G k), (107, true, dP.f G k)]
noncomputable def dQ.c (G : aF) (k : Nat) (self : cE) (x0 : AV) (h : aB) : Option (AV × aB) := fE (
 aY (.bool false)
 (aC (pu h (dJ .u32 x0)) fun v0 h0 =>
 aC (aW (dO.f G k) [v0] h0) fun v1 h1 =>
 cH [v1] h.length h1)
 (aC (aW (dP.f G k) [x0] h) fun v2 h2 =>
 cH [v2] h.length h2))
noncomputable def dQ.f (G : aF) : Nat → cE
 | 0 => fun _ _ => none
 | k + 1 => fun args h => lS args fun x0 => (dQ.c G k (dQ.f G k) x0 h)
noncomputable def bK.ann : Ann := fD [] [] [] []
noncomputable def bK.env (G : aF) (k : Nat) (self : cE) : List (Nat × Bool × cE) := [(87, false, aU.f G k), (88, true, dQ.f G k)]
noncomputable def bK.c (G : aF) (k : Nat) (self : cE) (x0 : AV) (h : aB) : Option (AV × aB) := fE (
 aC (pu h (dD x0)) fun v0 h0 =>
 aC (pu h0 (dJ .u64 v0)) fun v1 h1 =>
 aC (aW (dQ.f G k) [v1] h1) fun v2 h2 =>
 aC (bD (aU.f G k) [x0, (.int .i64 0), v0, v2] h2) fun v3 h3 =>
 cH [] h.length h3)
noncomputable def bK.f (G : aF) : Nat → cE
 | 0 => fun _ _ => none
 | k + 1 => fun args h => lS args fun x0 => (bK.c G k (bK.f G k) x0 h)
theorem bK.step (G : aF) (k : Nat) (x0 : AV) (h : aB) : bK.f G (k + 1) [x0] h = bK.c G k (bK.f G k) x0 h := rfl
noncomputable def aI.ann : Ann := fD [] [] [(9, [0, 3, 4, 5]), (4, [0, 2, 3])] [(10, [0, 3, 4, 5])]
noncomputable def aI.env (G : aF) (k : Nat) (self : cE) : List (Nat × Bool × cE) := []
noncomputable def aI.l9 (G : aF) (k n0 : Nat) (self : cE) (lp : eU) : eU := fun xs h0 => iX n0 xs h0 fun h =>
 aC (pu h (dD (aG xs 2))) fun v13 h13 =>
 aC (pu h13 (aX Tryd.prog .lss 3 false (aG xs 3) v13)) fun v14 h14 =>
 aY v14
 (eP (
 aC (pu h14 (aM 1 (aG xs 2) (aG xs 3))) fun v15 h15 =>
 aC (pu h15 (aE G false 1 v15 h15)) fun v16 h16 =>
 aC (pu h16 (aX Tryd.prog .sub 3 true (aG xs 3) (.int .i64 1))) fun v17 h17 =>
 aC (pu h17 (aM 1 (aG xs 2) v17)) fun v18 h18 =>
 aC (pu h18 (aE G false 1 v18 h18)) fun v19 h19 =>
 aC (pu h19 (aX Tryd.prog .neq 3 false v16 v19)) fun v20 h20 =>
 aY v20
 (aC (pu h20 (aM 1 (aG xs 2) (aG xs 3))) fun v21 h21 =>
 aC (pu h21 (aE G false 1 v21 h21)) fun v22 h22 =>
 aC (pu h22 (aM 1 (aG xs 0) (aG xs 1))) fun v23 h23 =>
 aC (fM (aV 1 v23 v22 h23)) fun v24 h24 =>
 aC (pu h24 (aX Tryd.prog .add 3 true (aG xs 1) (.int .i64 1))) fun v25 h25 =>
 some (.normal, [(aG xs 0), v25, (aG xs 2), (aG xs 3)], h25))
 (some (.normal, [(aG xs 0), (aG xs 1), (aG xs 2), (aG xs 3)], h20))) fun e26 x26 h26 => iM e26
 (aC (pu h26 (aX Tryd.prog .add 3 true (aG x26 3) (.int .i64 1))) fun v27 h27 =>
 lp [(aG x26 0), (aG x26 1), (aG x26 2), v27] h27)
 (fun i26 => some (.exit i26, [(aG x26 0), (aG x26 1), (aG x26 2), (aG x26 3)], h26))
 (some (.ret, [(aG x26 0), (aG x26 1), (aG x26 2), (aG x26 3)], h26)))
 (some (.exit 2, [(aG xs 0), (aG xs 1), (aG xs 2), (aG xs 3)], h14))
noncomputable def aI.l4 (G : aF) (k n0 : Nat) (self : cE) (lp : eU) : eU := fun xs h0 => iX n0 xs h0 fun h =>
 aC (pu h (dD (aG xs 0))) fun v3 h3 =>
 aC (pu h3 (aX Tryd.prog .lss 3 false (aG xs 2) v3)) fun v4 h4 =>
 aY v4
 (aC (pu h4 (aM 1 (aG xs 0) (aG xs 2))) fun v5 h5 =>
 aC (pu h5 (aE G false 1 v5 h5)) fun v6 h6 =>
 aC (pu h6 (aX Tryd.prog .sub 3 true (aG xs 2) (.int .i64 1))) fun v7 h7 =>
 aC (pu h7 (aM 1 (aG xs 0) v7)) fun v8 h8 =>
 aC (pu h8 (aE G false 1 v8 h8)) fun v9 h9 =>
 aC (pu h9 (aX Tryd.prog .eql 3 false v6 v9)) fun v10 h10 =>
 aY v10
 (aC (pu h10 (kK 1 (aG xs 0) (some (aG xs 2)) none)) fun v11 h11 =>
 eP (dK (aI.l9 G k h11.length self) k [(aG xs 0), (aG xs 2), v11, (.int .i64 1)] h11) fun e12 x12 h12 => iM e12
 (none)
 (fun i12 => if i12 = 2 then (aC (pu h12 (kK 1 (aG x12 0) (some (aG x12 1)) none)) fun v28 h28 =>
 aC (tA (.int .i64 0) v28 h28) fun v29 h29 =>
 aC (pu h29 (kK 1 (aG x12 0) none (some (aG x12 1)))) fun v30 h30 =>
 some (.ret, [(aG x12 0), v30, (aG x12 1)], h30)) else (if i12 = 1 then (aC (pu h12 (aX Tryd.prog .add 3 true (aG x12 1) (.int .i64 1))) fun v31 h31 =>
 lp [(aG x12 0), .undef, v31] h31) else (some (.exit i12, [(aG x12 0), .undef, (aG x12 1)], h12))))
 (some (.ret, [(aG x12 0), .undef, (aG x12 1)], h12)))
 (aC (pu h10 (aX Tryd.prog .add 3 true (aG xs 2) (.int .i64 1))) fun v32 h32 =>
 lp [(aG xs 0), (aG xs 1), v32] h32))
 (some (.exit 0, [(aG xs 0), (aG xs 1), (aG xs 2)], h4))
noncomputable def aI.c (G : aF) (k : Nat) (self : cE) (x0 : AV) (h : aB) : Option (AV × aB) := fE (
 aC (pu h (dD x0)) fun v0 h0 =>
 aC (pu h0 (aX Tryd.prog .lss 3 true v0 (.int .i64 2))) fun v1 h1 =>
 aY v1
 (cH [x0] h.length h1)
 (eP (dK (aI.l4 G k h1.length self) k [x0, .nils, (.int .i64 1)] h1) fun e2 x2 h2 => iM e2
 (none)
 (fun i2 => if i2 = 0 then (cH [(aG x2 0)] h.length h2) else (none))
 (cH [(aG x2 1)] h.length h2)))
noncomputable def aI.f (G : aF) : Nat → cE
 | 0 => fun _ _ => none
 | k + 1 => fun args h => lS args fun x0 => (aI.c G k (aI.f G k) x0 h)
theorem aI.step (G : aF) (k : Nat) (x0 : AV) (h : aB) : aI.f G (k + 1) [x0] h = aI.c G k (aI.f G k) x0 h := rfl
noncomputable def cW.ann : Ann := fD [] [5] [(4, [1, 5, 20, 21, 22])] []
noncomputable def cW.env (G : aF) (k : Nat) (self : cE) : List (Nat × Bool × cE) := [(51, true, dY.f G k), (53, false, bK.f G k), (54, false, aI.f G k)]
noncomputable def cW.l4 (G : aF) (k n0 : Nat) (self : cE) (lp : eU) : eU := fun xs h0 => iX n0 xs h0 fun h =>
 aC (pu h (aX Tryd.prog .lss 3 false (aG xs 4) (aG xs 3))) fun v18 h18 =>
 aY v18
 (aC (pu h18 (aM 1 (aG xs 2) (aG xs 4))) fun v19 h19 =>
 aC (pu h19 (aE G false 1 v19 h19)) fun v20 h20 =>
 aY v20
 (aC (pu h20 (aA 2 (aG xs 0))) fun v21 h21 =>
 aC (pu h21 (aE G false 1 v21 h21)) fun v22 h22 =>
 aC (pu h22 (aA 3 (aG xs 0))) fun v23 h23 =>
 aC (pu h23 (aE G false 1 v23 h23)) fun v24 h24 =>
 aC (pu h24 (aA 4 (aG xs 0))) fun v25 h25 =>
 aC (pu h25 (aE G false 1 v25 h25)) fun v26 h26 =>
 aC (fQ 1 3 (.int .i64 0) [(0, v22), (1, v24), (2, v26)] h26) fun v27 h27 =>
 aC (pu h27 (aM 1 v27 (aG xs 4))) fun v28 h28 =>
 aC (pu h28 (aE G false 1 v28 h28)) fun v29 h29 =>
 aC (fQ 1 1 (.int .i64 0) [(0, v29)] h29) fun v30 h30 =>
 aC (fU 3 1 (aG xs 1) v30 h30) fun v31 h31 =>
 aC (pu h31 (aX Tryd.prog .add 3 true (aG xs 4) (.int .i64 1))) fun v32 h32 =>
 lp [(aG xs 0), v31, (aG xs 2), (aG xs 3), v32] h32)
 (aC (pu h20 (aX Tryd.prog .add 3 true (aG xs 4) (.int .i64 1))) fun v33 h33 =>
 lp [(aG xs 0), (aG xs 1), (aG xs 2), (aG xs 3), v33] h33))
 (some (.exit 0, [(aG xs 0), (aG xs 1), (aG xs 2), (aG xs 3), (aG xs 4)], h18))
noncomputable def cW.c (G : aF) (k : Nat) (self : cE) (x0 : AV) (h : aB) : Option (AV × aB) := fE (
 aC (gB x0 h) fun v0 h0 =>
 aC (pu h0 (aA 0 v0)) fun v1 h1 =>
 aC (pu h1 (aE G false 1 v1 h1)) fun v2 h2 =>
 aC (aW (dY.f G k) [v2] h2) fun v3 h3 =>
 aC (pu h3 (cU v3 0)) fun v4 h4 =>
 aC (pu h4 (cU v3 1)) fun v5 h5 =>
 aC (fR 100 (.agg [(.str ⟨#[]⟩), (.bool false), (.bool false), (.bool false), (.bool false), (.bool false)]) h5) fun v6 h6 =>
 aC (fM (aV 6 v6 v4 h6)) fun v7 h7 =>
 aC (some (.sl h7.length 0 0 0 1, h7 ++ [⟨3, 1, []⟩])) fun v8 h8 =>
 aC (pu h8 (aA 2 v6)) fun v9 h9 =>
 aC (pu h9 (aE G false 1 v9 h9)) fun v10 h10 =>
 aC (pu h10 (aA 3 v6)) fun v11 h11 =>
 aC (pu h11 (aE G false 1 v11 h11)) fun v12 h12 =>
 aC (pu h12 (aA 4 v6)) fun v13 h13 =>
 aC (pu h13 (aE G false 1 v13 h13)) fun v14 h14 =>
 aC (fQ 1 3 (.bool false) [(0, v10), (1, v12), (2, v14)] h14) fun v15 h15 =>
 aC (pu h15 (dD v15)) fun v16 h16 =>
 eP (dK (cW.l4 G k h16.length self) k [v0, v8, v15, v16, (.int .i64 0)] h16) fun e17 x17 h17 => iM e17
 (none)
 (fun i17 => if i17 = 0 then (aC (bD (bK.f G k) [(aG x17 1)] h17) fun v34 h34 =>
 aC (bD (aI.f G k) [(aG x17 1)] h34) fun v35 h35 =>
 cH [v35] h.length h35) else (none))
 (cH [.undef] h.length h17))
noncomputable def cW.f (G : aF) : Nat → cE
 | 0 => fun _ _ => none
 | k + 1 => fun args h => lS args fun x0 => (cW.c G k (cW.f G k) x0 h)
theorem cW.step (G : aF) (k : Nat) (x0 : AV) (h : aB) : cW.f G (k + 1) [x0] h = cW.c G k (cW.f G k) x0 h := rfl
noncomputable def bN.ann : Ann := fD [] [] [] []
noncomputable def bN.env (G : aF) (k : Nat) (self : cE) : List (Nat × Bool × cE) := []
noncomputable def bN.c (G : aF) (k : Nat) (self : cE) (x0 x1 x2 : AV) (h : aB) : Option (AV × aB) := fE (
 aC (pu h (aE G false 1 x2 h)) fun v0 h0 =>
 aC (pu h0 (aM 1 v0 x1)) fun v1 h1 =>
 aC (pu h1 (aE G false 1 v1 h1)) fun v2 h2 =>
 aC (pu h2 (aE G false 1 x2 h2)) fun v3 h3 =>
 aC (pu h3 (aM 1 v3 x0)) fun v4 h4 =>
 aC (pu h4 (aE G false 1 v4 h4)) fun v5 h5 =>
 aC (pu h5 (aX Tryd.prog .sub 3 false v2 v5)) fun v6 h6 =>
 cH [v6] h.length h6)
noncomputable def bN.f (G : aF) : Nat → cE
 | 0 => fun _ _ => none
 | k + 1 => fun args h => vX args fun x0 x1 x2 => (bN.c G k (bN.f G k) x0 x1 x2 h)
theorem bN.step (G : aF) (k : Nat) (x0 x1 x2 : AV) (h : aB) : bN.f G (k + 1) [x0, x1, x2] h = bN.c G k (bN.f G k) x0 x1 x2 h := rfl
noncomputable def aH.ann : Ann := fD [] [] [(4, [0, 1, 2, 3, 8, 9]), (1, [0, 1, 2, 3, 8])] []
noncomputable def aH.env (G : aF) (k : Nat) (self : cE) : List (Nat × Bool × cE) := [(74, false, bN.f G k)]
noncomputable def aH.l4 (G : aF) (k n0 : Nat) (self : cE) (lp : eU) : eU := fun xs h0 => iX n0 xs h0 fun h =>
 aC (pu h (aX Tryd.prog .gtr 3 false (aG xs 5) (aG xs 1))) fun v4 h4 =>
 aC (gd v4 true h4 (some ((aG xs 3), h4))) fun v5 h5 =>
 aC (gd v4 true h5 (some ((aG xs 0), h5))) fun v6 h6 =>
 aC (gd v4 true h6 (some ((aG xs 5), h6))) fun v7 h7 =>
 aC (gd v4 true h7 (pu h7 (aM 1 v6 v7))) fun v8 h8 =>
 aC (gd v4 true h8 (pu h8 (aE G false 1 v8 h8))) fun v9 h9 =>
 aC (gd v4 true h9 (some ((aG xs 0), h9))) fun v10 h10 =>
 aC (gd v4 true h10 (some ((aG xs 5), h10))) fun v11 h11 =>
 aC (gd v4 true h11 (pu h11 (aX Tryd.prog .sub 3 true v11 (.int .i64 1)))) fun v12 h12 =>
 aC (gd v4 true h12 (pu h12 (aM 1 v10 v12))) fun v13 h13 =>
 aC (gd v4 true h13 (pu h13 (aE G false 1 v13 h13))) fun v14 h14 =>
 aC (gd v4 true h14 (lE (fL (aH.env G k self)) v5 [v9, v14] h14)) fun v15 h15 =>
 aC (gd v4 true h15 (pu h15 (aX Tryd.prog .lss 3 true v15 (.int .i64 0)))) fun v16 h16 =>
 aC (pu h16 (eH v4 v16 (.bool false))) fun v17 h17 =>
 aY v17
 (aC (pu h17 (aX Tryd.prog .sub 3 true (aG xs 5) (.int .i64 1))) fun v18 h18 =>
 aC (pu h18 (aX Tryd.prog .sub 3 true (aG xs 5) (.int .i64 1))) fun v19 h19 =>
 aC (pu h19 (aM 1 (aG xs 0) v19)) fun v20 h20 =>
 aC (pu h20 (aE G false 1 v20 h20)) fun v21 h21 =>
 aC (pu h21 (aM 1 (aG xs 0) (aG xs 5))) fun v22 h22 =>
 aC (pu h22 (aE G false 1 v22 h22)) fun v23 h23 =>
 aC (pu h23 (aM 1 (aG xs 0) (aG xs 5))) fun v24 h24 =>
 aC (fM (aV 1 v24 v21 h24)) fun v25 h25 =>
 aC (pu h25 (aM 1 (aG xs 0) v18)) fun v26 h26 =>
 aC (fM (aV 1 v26 v23 h26)) fun v27 h27 =>
 aC (pu h27 (aX Tryd.prog .sub 3 true (aG xs 5) (.int .i64 1))) fun v28 h28 =>
 lp [(aG xs 0), (aG xs 1), (aG xs 2), (aG xs 3), (aG xs 4), v28] h28)
 (some (.exit 2, [(aG xs 0), (aG xs 1), (aG xs 2), (aG xs 3), (aG xs 4), (aG xs 5)], h17))
noncomputable def aH.l1 (G : aF) (k n0 : Nat) (self : cE) (lp : eU) : eU := fun xs h0 => iX n0 xs h0 fun h =>
 aC (pu h (aX Tryd.prog .lss 3 false (aG xs 4) (aG xs 2))) fun v2 h2 =>
 aY v2
 (eP (dK (aH.l4 G k h2.length self) k [(aG xs 0), (aG xs 1), (aG xs 2), (aG xs 3), (aG xs 4), (aG xs 4)] h2) fun e3 x3 h3 => iM e3
 (none)
 (fun i3 => if i3 = 2 then (aC (pu h3 (aX Tryd.prog .add 3 true (aG x3 4) (.int .i64 1))) fun v29 h29 =>
 lp [(aG x3 0), (aG x3 1), (aG x3 2), (aG x3 3), v29] h29) else (if i3 = 1 then (aC (pu h3 (aX Tryd.prog .add 3 true (aG x3 4) (.int .i64 1))) fun v30 h30 =>
 lp [(aG x3 0), (aG x3 1), (aG x3 2), (aG x3 3), v30] h30) else (some (.exit i3, [(aG x3 0), (aG x3 1), (aG x3 2), (aG x3 3), (aG x3 4)], h3))))
 (some (.ret, [(aG x3 0), (aG x3 1), (aG x3 2), (aG x3 3), (aG x3 4)], h3)))
 (some (.exit 0, [(aG xs 0), (aG xs 1), (aG xs 2), (aG xs 3), (aG xs 4)], h2))
noncomputable def aH.c (G : aF) (k : Nat) (self : cE) (x0 x1 x2 x3 : AV) (h : aB) : Option (AV × aB) := fE (
 aC (pu h (aX Tryd.prog .add 3 true x1 (.int .i64 1))) fun v0 h0 =>
 eP (dK (aH.l1 G k h0.length self) k [x0, x1, x2, x3, v0] h0) fun e1 x1 h1 => iM e1
 (none)
 (fun i1 => if i1 = 0 then (cH [] h.length h1) else (none))
 (cH [] h.length h1))
noncomputable def aH.f (G : aF) : Nat → cE
 | 0 => fun _ _ => none
 | k + 1 => fun args h => aAm args fun x0 x1 x2 x3 => (aH.c G k (aH.f G k) x0 x1 x2 x3 h)
theorem aH.step (G : aF) (k : Nat) (x0 x1 x2 x3 : AV) (h : aB) : aH.f G (k + 1) [x0, x1, x2, x3] h = aH.c G k (aH.f G k) x0 x1 x2 x3 h := rfl
noncomputable def aN.ann : Ann := fD [] [] [(1, [0, 1, 2, 3, 10])] []
noncomputable def aN.env (G : aF) (k : Nat) (self : cE) : List (Nat × Bool × cE) := []
noncomputable def aN.l1 (G : aF) (k n0 : Nat) (self : cE) (lp : eU) : eU := fun xs h0 => iX n0 xs h0 fun h =>
 aC (pu h (aX Tryd.prog .lss 3 false (aG xs 4) (aG xs 3))) fun v1 h1 =>
 aY v1
 (aC (pu h1 (aX Tryd.prog .add 3 false (aG xs 1) (aG xs 4))) fun v2 h2 =>
 aC (pu h2 (aX Tryd.prog .add 3 false (aG xs 2) (aG xs 4))) fun v3 h3 =>
 aC (pu h3 (aX Tryd.prog .add 3 false (aG xs 2) (aG xs 4))) fun v4 h4 =>
 aC (pu h4 (aM 1 (aG xs 0) v4)) fun v5 h5 =>
 aC (pu h5 (aE G false 1 v5 h5)) fun v6 h6 =>
 aC (pu h6 (aX Tryd.prog .add 3 false (aG xs 1) (aG xs 4))) fun v7 h7 =>
 aC (pu h7 (aM 1 (aG xs 0) v7)) fun v8 h8 =>
 aC (pu h8 (aE G false 1 v8 h8)) fun v9 h9 =>
 aC (pu h9 (aM 1 (aG xs 0) v2)) fun v10 h10 =>
 aC (fM (aV 1 v10 v6 h10)) fun v11 h11 =>
 aC (pu h11 (aM 1 (aG xs 0) v3)) fun v12 h12 =>
 aC (fM (aV 1 v12 v9 h12)) fun v13 h13 =>
 aC (pu h13 (aX Tryd.prog .add 3 true (aG xs 4) (.int .i64 1))) fun v14 h14 =>
 lp [(aG xs 0), (aG xs 1), (aG xs 2), (aG xs 3), v14] h14)
 (some (.exit 0, [(aG xs 0), (aG xs 1), (aG xs 2), (aG xs 3), (aG xs 4)], h1))
noncomputable def aN.c (G : aF) (k : Nat) (self : cE) (x0 x1 x2 x3 x4 : AV) (h : aB) : Option (AV × aB) := fE (
 eP (dK (aN.l1 G k h.length self) k [x0, x1, x2, x3, (.int .i64 0)] h) fun e0 x0 h0 => iM e0
 (none)
 (fun i0 => if i0 = 0 then (cH [] h.length h0) else (none))
 (cH [] h.length h0))
noncomputable def aN.f (G : aF) : Nat → cE
 | 0 => fun _ _ => none
 | k + 1 => fun args h => aGf args fun x0 x1 x2 x3 x4 => (aN.c G k (aN.f G k) x0 x1 x2 x3 x4 h)
theorem aN.step (G : aF) (k : Nat) (x0 x1 x2 x3 x4 : AV) (h : aB) : aN.f G (k + 1) [x0, x1, x2, x3, x4] h = aN.c G k (aN.f G k) x0 x1 x2 x3 x4 h := rfl
noncomputable def aT.ann : Ann := fD [] [] [(2, [0, 2, 4, 10, 11])] []
noncomputable def aT.env (G : aF) (k : Nat) (self : cE) : List (Nat × Bool × cE) := [(125, false, aN.f G k)]
noncomputable def aT.l2 (G : aF) (k n0 : Nat) (self : cE) (lp : eU) : eU := fun xs h0 => iX n0 xs h0 fun h =>
 aC (pu h (aX Tryd.prog .neq 3 false (aG xs 3) (aG xs 4))) fun v3 h3 =>
 aY v3
 (aC (pu h3 (aX Tryd.prog .gtr 3 false (aG xs 3) (aG xs 4))) fun v4 h4 =>
 aY v4
 (aC (pu h4 (aX Tryd.prog .sub 3 false (aG xs 1) (aG xs 3))) fun v5 h5 =>
 aC (bD (aN.f G k) [(aG xs 0), v5, (aG xs 1), (aG xs 4), (aG xs 2)] h5) fun v6 h6 =>
 aC (pu h6 (aX Tryd.prog .sub 3 false (aG xs 3) (aG xs 4))) fun v7 h7 =>
 lp [(aG xs 0), (aG xs 1), (aG xs 2), v7, (aG xs 4)] h7)
 (aC (pu h4 (aX Tryd.prog .sub 3 false (aG xs 1) (aG xs 3))) fun v8 h8 =>
 aC (pu h8 (aX Tryd.prog .add 3 false (aG xs 1) (aG xs 4))) fun v9 h9 =>
 aC (pu h9 (aX Tryd.prog .sub 3 false v9 (aG xs 3))) fun v10 h10 =>
 aC (bD (aN.f G k) [(aG xs 0), v8, v10, (aG xs 3), (aG xs 2)] h10) fun v11 h11 =>
 aC (pu h11 (aX Tryd.prog .sub 3 false (aG xs 4) (aG xs 3))) fun v12 h12 =>
 lp [(aG xs 0), (aG xs 1), (aG xs 2), (aG xs 3), v12] h12))
 (some (.exit 0, [(aG xs 0), (aG xs 1), (aG xs 2), (aG xs 3), (aG xs 4)], h3))
noncomputable def aT.c (G : aF) (k : Nat) (self : cE) (x0 x1 x2 x3 x4 : AV) (h : aB) : Option (AV × aB) := fE (
 aC (pu h (aX Tryd.prog .sub 3 false x2 x1)) fun v0 h0 =>
 aC (pu h0 (aX Tryd.prog .sub 3 false x3 x2)) fun v1 h1 =>
 eP (dK (aT.l2 G k h1.length self) k [x0, x2, x4, v0, v1] h1) fun e2 x2 h2 => iM e2
 (none)
 (fun i2 => if i2 = 0 then (aC (pu h2 (aX Tryd.prog .sub 3 false (aG x2 1) (aG x2 3))) fun v13 h13 =>
 aC (bD (aN.f G k) [(aG x2 0), v13, (aG x2 1), (aG x2 3), (aG x2 2)] h13) fun v14 h14 =>
 cH [] h.length h14) else (none))
 (cH [] h.length h2))
noncomputable def aT.f (G : aF) : Nat → cE
 | 0 => fun _ _ => none
 | k + 1 => fun args h => aGf args fun x0 x1 x2 x3 x4 => (aT.c G k (aT.f G k) x0 x1 x2 x3 x4 h)
theorem aT.step (G : aF) (k : Nat) (x0 x1 x2 x3 x4 : AV) (h : aB) : aT.f G (k + 1) [x0, x1, x2, x3, x4] h = aT.c G k (aT.f G k) x0 x1 x2 x3 x4 h := rfl
noncomputable def aD.ann : Ann := fD [] [] [(33, [0, 1, 2, 3, 4, 18, 19, 20, 21, 22]), (21, [0, 14, 17]), (15, [0, 2, 4, 14, 15]), (9, [0, 10, 13]), (3, [0, 1, 4, 10, 11])] [(43, [0, 3, 4, 18, 24]), (41, [0, 1, 3, 4, 18, 20, 24]), (32, [0, 1, 2, 3, 4, 18, 19, 20, 21])]
noncomputable def aD.env (G : aF) (k : Nat) (self : cE) : List (Nat × Bool × cE) := [(74, false, bN.f G k), (114, false, self), (123, false, aT.f G k)]
noncomputable def aD.l3 (G : aF) (k n0 : Nat) (self : cE) (lp : eU) : eU := fun xs h0 => iX n0 xs h0 fun h =>
 aC (pu h (aX Tryd.prog .lss 3 false (aG xs 3) (aG xs 4))) fun v3 h3 =>
 aY v3
 (aC (pu h3 (aX Tryd.prog .add 3 false (aG xs 3) (aG xs 4))) fun v4 h4 =>
 aC (pu h4 (dJ .u64 v4)) fun v5 h5 =>
 aC (pu h5 (aX Tryd.prog .shr 134 true v5 (.int .u64 1))) fun v6 h6 =>
 aC (pu h6 (dJ .i64 v6)) fun v7 h7 =>
 aC (pu h7 (aM 1 (aG xs 0) v7)) fun v8 h8 =>
 aC (pu h8 (aE G false 1 v8 h8)) fun v9 h9 =>
 aC (pu h9 (aM 1 (aG xs 0) (aG xs 1))) fun v10 h10 =>
 aC (pu h10 (aE G false 1 v10 h10)) fun v11 h11 =>
 aC (lE (fL (aD.env G k self)) (aG xs 2) [v9, v11] h11) fun v12 h12 =>
 aC (pu h12 (aX Tryd.prog .lss 3 true v12 (.int .i64 0))) fun v13 h13 =>
 aY v13
 (aC (pu h13 (aX Tryd.prog .add 3 true v7 (.int .i64 1))) fun v14 h14 =>
 lp [(aG xs 0), (aG xs 1), (aG xs 2), v14, (aG xs 4)] h14)
 (lp [(aG xs 0), (aG xs 1), (aG xs 2), (aG xs 3), v7] h13))
 (some (.exit 0, [(aG xs 0), (aG xs 1), (aG xs 2), (aG xs 3), (aG xs 4)], h3))
noncomputable def aD.l9 (G : aF) (k n0 : Nat) (self : cE) (lp : eU) : eU := fun xs h0 => iX n0 xs h0 fun h =>
 aC (pu h (aX Tryd.prog .sub 3 true (aG xs 1) (.int .i64 1))) fun v16 h16 =>
 aC (pu h16 (aX Tryd.prog .lss 3 false (aG xs 2) v16)) fun v17 h17 =>
 aY v17
 (aC (pu h17 (aX Tryd.prog .add 3 true (aG xs 2) (.int .i64 1))) fun v18 h18 =>
 aC (pu h18 (aX Tryd.prog .add 3 true (aG xs 2) (.int .i64 1))) fun v19 h19 =>
 aC (pu h19 (aM 1 (aG xs 0) v19)) fun v20 h20 =>
 aC (pu h20 (aE G false 1 v20 h20)) fun v21 h21 =>
 aC (pu h21 (aM 1 (aG xs 0) (aG xs 2))) fun v22 h22 =>
 aC (pu h22 (aE G false 1 v22 h22)) fun v23 h23 =>
 aC (pu h23 (aM 1 (aG xs 0) (aG xs 2))) fun v24 h24 =>
 aC (fM (aV 1 v24 v21 h24)) fun v25 h25 =>
 aC (pu h25 (aM 1 (aG xs 0) v18)) fun v26 h26 =>
 aC (fM (aV 1 v26 v23 h26)) fun v27 h27 =>
 aC (pu h27 (aX Tryd.prog .add 3 true (aG xs 2) (.int .i64 1))) fun v28 h28 =>
 lp [(aG xs 0), (aG xs 1), v28] h28)
 (some (.exit 2, [(aG xs 0), (aG xs 1), (aG xs 2)], h17))
noncomputable def aD.l15 (G : aF) (k n0 : Nat) (self : cE) (lp : eU) : eU := fun xs h0 => iX n0 xs h0 fun h =>
 aC (pu h (aX Tryd.prog .lss 3 false (aG xs 3) (aG xs 4))) fun v32 h32 =>
 aY v32
 (aC (pu h32 (aX Tryd.prog .add 3 false (aG xs 3) (aG xs 4))) fun v33 h33 =>
 aC (pu h33 (dJ .u64 v33)) fun v34 h34 =>
 aC (pu h34 (aX Tryd.prog .shr 134 true v34 (.int .u64 1))) fun v35 h35 =>
 aC (pu h35 (dJ .i64 v35)) fun v36 h36 =>
 aC (pu h36 (aM 1 (aG xs 0) (aG xs 1))) fun v37 h37 =>
 aC (pu h37 (aE G false 1 v37 h37)) fun v38 h38 =>
 aC (pu h38 (aM 1 (aG xs 0) v36)) fun v39 h39 =>
 aC (pu h39 (aE G false 1 v39 h39)) fun v40 h40 =>
 aC (lE (fL (aD.env G k self)) (aG xs 2) [v38, v40] h40) fun v41 h41 =>
 aC (pu h41 (aX Tryd.prog .lss 3 true v41 (.int .i64 0))) fun v42 h42 =>
 aC (pu h42 (un .not v42)) fun v43 h43 =>
 aY v43
 (aC (pu h43 (aX Tryd.prog .add 3 true v36 (.int .i64 1))) fun v44 h44 =>
 lp [(aG xs 0), (aG xs 1), (aG xs 2), v44, (aG xs 4)] h44)
 (lp [(aG xs 0), (aG xs 1), (aG xs 2), (aG xs 3), v36] h43))
 (some (.exit 4, [(aG xs 0), (aG xs 1), (aG xs 2), (aG xs 3), (aG xs 4)], h32))
noncomputable def aD.l21 (G : aF) (k n0 : Nat) (self : cE) (lp : eU) : eU := fun xs h0 => iX n0 xs h0 fun h =>
 aC (pu h (aX Tryd.prog .gtr 3 false (aG xs 2) (aG xs 1))) fun v46 h46 =>
 aY v46
 (aC (pu h46 (aX Tryd.prog .sub 3 true (aG xs 2) (.int .i64 1))) fun v47 h47 =>
 aC (pu h47 (aX Tryd.prog .sub 3 true (aG xs 2) (.int .i64 1))) fun v48 h48 =>
 aC (pu h48 (aM 1 (aG xs 0) v48)) fun v49 h49 =>
 aC (pu h49 (aE G false 1 v49 h49)) fun v50 h50 =>
 aC (pu h50 (aM 1 (aG xs 0) (aG xs 2))) fun v51 h51 =>
 aC (pu h51 (aE G false 1 v51 h51)) fun v52 h52 =>
 aC (pu h52 (aM 1 (aG xs 0) (aG xs 2))) fun v53 h53 =>
 aC (fM (aV 1 v53 v50 h53)) fun v54 h54 =>
 aC (pu h54 (aM 1 (aG xs 0) v47)) fun v55 h55 =>
 aC (fM (aV 1 v55 v52 h55)) fun v56 h56 =>
 aC (pu h56 (aX Tryd.prog .sub 3 true (aG xs 2) (.int .i64 1))) fun v57 h57 =>
 lp [(aG xs 0), (aG xs 1), v57] h57)
 (some (.exit 6, [(aG xs 0), (aG xs 1), (aG xs 2)], h46))
noncomputable def aD.l33 (G : aF) (k n0 : Nat) (self : cE) (lp : eU) : eU := fun xs h0 => iX n0 xs h0 fun h =>
 aC (pu h (aX Tryd.prog .lss 3 false (aG xs 7) (aG xs 8))) fun v68 h68 =>
 aY v68
 (aC (pu h68 (aX Tryd.prog .add 3 false (aG xs 7) (aG xs 8))) fun v69 h69 =>
 aC (pu h69 (dJ .u64 v69)) fun v70 h70 =>
 aC (pu h70 (aX Tryd.prog .shr 134 true v70 (.int .u64 1))) fun v71 h71 =>
 aC (pu h71 (dJ .i64 v71)) fun v72 h72 =>
 aC (pu h72 (aX Tryd.prog .sub 3 false (aG xs 9) v72)) fun v73 h73 =>
 aC (pu h73 (aM 1 (aG xs 0) v73)) fun v74 h74 =>
 aC (pu h74 (aE G false 1 v74 h74)) fun v75 h75 =>
 aC (pu h75 (aM 1 (aG xs 0) v72)) fun v76 h76 =>
 aC (pu h76 (aE G false 1 v76 h76)) fun v77 h77 =>
 aC (lE (fL (aD.env G k self)) (aG xs 4) [v75, v77] h77) fun v78 h78 =>
 aC (pu h78 (aX Tryd.prog .lss 3 true v78 (.int .i64 0))) fun v79 h79 =>
 aC (pu h79 (un .not v79)) fun v80 h80 =>
 aY v80
 (aC (pu h80 (aX Tryd.prog .add 3 true v72 (.int .i64 1))) fun v81 h81 =>
 lp [(aG xs 0), (aG xs 1), (aG xs 2), (aG xs 3), (aG xs 4), (aG xs 5), (aG xs 6), v81, (aG xs 8), (aG xs 9)] h81)
 (lp [(aG xs 0), (aG xs 1), (aG xs 2), (aG xs 3), (aG xs 4), (aG xs 5), (aG xs 6), (aG xs 7), v72, (aG xs 9)] h80))
 (some (.exit 8, [(aG xs 0), (aG xs 1), (aG xs 2), (aG xs 3), (aG xs 4), (aG xs 5), (aG xs 6), (aG xs 7), (aG xs 8), (aG xs 9)], h68))
noncomputable def aD.c (G : aF) (k : Nat) (self : cE) (x0 x1 x2 x3 x4 : AV) (h : aB) : Option (AV × aB) := fE (
 aC (pu h (aX Tryd.prog .sub 3 false x2 x1)) fun v0 h0 =>
 aC (pu h0 (aX Tryd.prog .eql 3 true v0 (.int .i64 1))) fun v1 h1 =>
 aY v1
 (eP (dK (aD.l3 G k h1.length self) k [x0, x1, x4, x2, x3] h1) fun e2 x2 h2 => iM e2
 (none)
 (fun i2 => if i2 = 0 then (eP (dK (aD.l9 G k h2.length self) k [(aG x2 0), (aG x2 3), (aG x2 1)] h2) fun e15 x15 h15 => iM e15
 (none)
 (fun i15 => if i15 = 2 then (cH [] h.length h15) else (none))
 (cH [] h.length h15)) else (none))
 (cH [] h.length h2))
 (aC (pu h1 (aX Tryd.prog .sub 3 false x3 x2)) fun v29 h29 =>
 aC (pu h29 (aX Tryd.prog .eql 3 true v29 (.int .i64 1))) fun v30 h30 =>
 aY v30
 (eP (dK (aD.l15 G k h30.length self) k [x0, x2, x4, x1, x2] h30) fun e31 x31 h31 => iM e31
 (none)
 (fun i31 => if i31 = 4 then (eP (dK (aD.l21 G k h31.length self) k [(aG x31 0), (aG x31 3), (aG x31 1)] h31) fun e45 x45 h45 => iM e45
 (none)
 (fun i45 => if i45 = 6 then (cH [] h.length h45) else (none))
 (cH [] h.length h45)) else (none))
 (cH [] h.length h31))
 (aC (pu h30 (aX Tryd.prog .add 3 false x1 x3)) fun v58 h58 =>
 aC (pu h58 (dJ .u64 v58)) fun v59 h59 =>
 aC (pu h59 (aX Tryd.prog .shr 134 true v59 (.int .u64 1))) fun v60 h60 =>
 aC (pu h60 (dJ .i64 v60)) fun v61 h61 =>
 aC (pu h61 (aX Tryd.prog .add 3 false v61 x2)) fun v62 h62 =>
 eP (
 aC (pu h62 (aX Tryd.prog .gtr 3 false x2 v61)) fun v63 h63 =>
 aY v63
 (aC (pu h63 (aX Tryd.prog .sub 3 false v62 x3)) fun v64 h64 =>
 some (.normal, [x0, x1, x2, x3, x4, v61, v62, v64, v61], h64))
 (some (.normal, [x0, x1, x2, x3, x4, v61, v62, x1, x2], h63))) fun e65 x65 h65 => iM e65
 (aC (pu h65 (aX Tryd.prog .sub 3 true (aG x65 6) (.int .i64 1))) fun v66 h66 =>
 eP (dK (aD.l33 G k h66.length self) k [(aG x65 0), (aG x65 1), (aG x65 2), (aG x65 3), (aG x65 4), (aG x65 5), (aG x65 6), (aG x65 7), (aG x65 8), v66] h66) fun e67 x67 h67 => iM e67
 (none)
 (fun i67 => if i67 = 8 then (aC (pu h67 (aX Tryd.prog .sub 3 false (aG x67 6) (aG x67 7))) fun v82 h82 =>
 eP (
 aC (pu h82 (aX Tryd.prog .lss 3 false (aG x67 7) (aG x67 2))) fun v83 h83 =>
 aC (gd v83 true h83 (some ((aG x67 2), h83))) fun v84 h84 =>
 aC (gd v83 true h84 (some (v82, h84))) fun v85 h85 =>
 aC (gd v83 true h85 (pu h85 (aX Tryd.prog .lss 3 false v84 v85))) fun v86 h86 =>
 aC (pu h86 (eH v83 v86 (.bool false))) fun v87 h87 =>
 aY v87
 (aC (bD (aT.f G k) [(aG x67 0), (aG x67 7), (aG x67 2), v82, (aG x67 4)] h87) fun v88 h88 =>
 some (.normal, [(aG x67 0), (aG x67 1), (aG x67 3), (aG x67 4), (aG x67 5), (aG x67 7), v82], h88))
 (some (.normal, [(aG x67 0), (aG x67 1), (aG x67 3), (aG x67 4), (aG x67 5), (aG x67 7), v82], h87))) fun e89 x89 h89 => iM e89
 (eP (
 aC (pu h89 (aX Tryd.prog .lss 3 false (aG x89 1) (aG x89 5))) fun v90 h90 =>
 aC (gd v90 true h90 (some ((aG x89 5), h90))) fun v91 h91 =>
 aC (gd v90 true h91 (some ((aG x89 4), h91))) fun v92 h92 =>
 aC (gd v90 true h92 (pu h92 (aX Tryd.prog .lss 3 false v91 v92))) fun v93 h93 =>
 aC (pu h93 (eH v90 v93 (.bool false))) fun v94 h94 =>
 aY v94
 (aC (bD self [(aG x89 0), (aG x89 1), (aG x89 5), (aG x89 4), (aG x89 3)] h94) fun v95 h95 =>
 some (.normal, [(aG x89 0), (aG x89 2), (aG x89 3), (aG x89 4), (aG x89 6)], h95))
 (some (.normal, [(aG x89 0), (aG x89 2), (aG x89 3), (aG x89 4), (aG x89 6)], h94))) fun e96 x96 h96 => iM e96
 (aC (pu h96 (aX Tryd.prog .lss 3 false (aG x96 3) (aG x96 4))) fun v97 h97 =>
 aC (gd v97 true h97 (some ((aG x96 4), h97))) fun v98 h98 =>
 aC (gd v97 true h98 (some ((aG x96 1), h98))) fun v99 h99 =>
 aC (gd v97 true h99 (pu h99 (aX Tryd.prog .lss 3 false v98 v99))) fun v100 h100 =>
 aC (pu h100 (eH v97 v100 (.bool false))) fun v101 h101 =>
 aY v101
 (aC (bD self [(aG x96 0), (aG x96 3), (aG x96 4), (aG x96 1), (aG x96 2)] h101) fun v102 h102 =>
 cH [] h.length h102)
 (cH [] h.length h101))
 (fun i96 => none)
 (cH [] h.length h96))
 (fun i89 => none)
 (cH [] h.length h89)) else (none))
 (cH [] h.length h67))
 (fun i65 => none)
 (cH [] h.length h65))))
noncomputable def aD.f (G : aF) : Nat → cE
 | 0 => fun _ _ => none
 | k + 1 => fun args h => aGf args fun x0 x1 x2 x3 x4 => (aD.c G k (aD.f G k) x0 x1 x2 x3 x4 h)
theorem aD.step (G : aF) (k : Nat) (x0 x1 x2 x3 x4 : AV) (h : aB) : aD.f G (k + 1) [x0, x1, x2, x3, x4] h = aD.c G k (aD.f G k) x0 x1 x2 x3 x4 h := rfl
noncomputable def aK.ann : Ann := fD [] [] [(9, [0, 1, 2, 6, 7, 8]), (7, [0, 1, 2, 6]), (2, [0, 1, 2, 6, 7, 8])] [(16, [0, 1, 2, 6])]
noncomputable def aK.env (G : aF) (k : Nat) (self : cE) : List (Nat × Bool × cE) := [(74, false, bN.f G k), (113, false, aH.f G k), (114, false, aD.f G k)]
noncomputable def aK.l2 (G : aF) (k n0 : Nat) (self : cE) (lp : eU) : eU := fun xs h0 => iX n0 xs h0 fun h =>
 aC (pu h (aX Tryd.prog .leq 3 false (aG xs 5) (aG xs 1))) fun v1 h1 =>
 aY v1
 (aC (bD (aH.f G k) [(aG xs 0), (aG xs 4), (aG xs 5), (aG xs 2)] h1) fun v2 h2 =>
 aC (pu h2 (aX Tryd.prog .add 3 false (aG xs 5) (aG xs 3))) fun v3 h3 =>
 lp [(aG xs 0), (aG xs 1), (aG xs 2), (aG xs 3), (aG xs 5), v3] h3)
 (some (.exit 0, [(aG xs 0), (aG xs 1), (aG xs 2), (aG xs 3), (aG xs 4), (aG xs 5)], h1))
noncomputable def aK.l9 (G : aF) (k n0 : Nat) (self : cE) (lp : eU) : eU := fun xs h0 => iX n0 xs h0 fun h =>
 aC (pu h (aX Tryd.prog .leq 3 false (aG xs 5) (aG xs 1))) fun v9 h9 =>
 aY v9
 (aC (pu h9 (aX Tryd.prog .add 3 false (aG xs 4) (aG xs 3))) fun v10 h10 =>
 aC (bD (aD.f G k) [(aG xs 0), (aG xs 4), v10, (aG xs 5), (aG xs 2)] h10) fun v11 h11 =>
 aC (pu h11 (aX Tryd.prog .mul 3 true (.int .i64 2) (aG xs 3))) fun v12 h12 =>
 aC (pu h12 (aX Tryd.prog .add 3 false (aG xs 5) v12)) fun v13 h13 =>
 lp [(aG xs 0), (aG xs 1), (aG xs 2), (aG xs 3), (aG xs 5), v13] h13)
 (some (.exit 4, [(aG xs 0), (aG xs 1), (aG xs 2), (aG xs 3), (aG xs 4), (aG xs 5)], h9))
noncomputable def aK.l7 (G : aF) (k n0 : Nat) (self : cE) (lp : eU) : eU := fun xs h0 => iX n0 xs h0 fun h =>
 aC (pu h (aX Tryd.prog .lss 3 false (aG xs 3) (aG xs 1))) fun v6 h6 =>
 aY v6
 (aC (pu h6 (aX Tryd.prog .mul 3 true (.int .i64 2) (aG xs 3))) fun v7 h7 =>
 eP (dK (aK.l9 G k h7.length self) k [(aG xs 0), (aG xs 1), (aG xs 2), (aG xs 3), (.int .i64 0), v7] h7) fun e8 x8 h8 => iM e8
 (none)
 (fun i8 => if i8 = 4 then (eP (
 aC (pu h8 (aX Tryd.prog .add 3 false (aG x8 4) (aG x8 3))) fun v14 h14 =>
 aC (pu h14 (aX Tryd.prog .lss 3 false v14 (aG x8 1))) fun v15 h15 =>
 aY v15
 (aC (bD (aD.f G k) [(aG x8 0), (aG x8 4), v14, (aG x8 1), (aG x8 2)] h15) fun v16 h16 =>
 some (.normal, [(aG x8 0), (aG x8 1), (aG x8 2), (aG x8 3)], h16))
 (some (.normal, [(aG x8 0), (aG x8 1), (aG x8 2), (aG x8 3)], h15))) fun e17 x17 h17 => iM e17
 (aC (pu h17 (aX Tryd.prog .mul 3 true (aG x17 3) (.int .i64 2))) fun v18 h18 =>
 lp [(aG x17 0), (aG x17 1), (aG x17 2), v18] h18)
 (fun i17 => if i17 = 3 then (lp [(aG x17 0), (aG x17 1), (aG x17 2), (aG x17 3)] h17) else (some (.exit i17, [(aG x17 0), (aG x17 1), (aG x17 2), (aG x17 3)], h17)))
 (some (.ret, [(aG x17 0), (aG x17 1), (aG x17 2), (aG x17 3)], h17))) else (if i8 = 3 then (lp [(aG x8 0), (aG x8 1), (aG x8 2), (aG x8 3)] h8) else (some (.exit i8, [(aG x8 0), (aG x8 1), (aG x8 2), (aG x8 3)], h8))))
 (some (.ret, [(aG x8 0), (aG x8 1), (aG x8 2), (aG x8 3)], h8)))
 (some (.exit 2, [(aG xs 0), (aG xs 1), (aG xs 2), (aG xs 3)], h6))
noncomputable def aK.c (G : aF) (k : Nat) (self : cE) (x0 x1 x2 : AV) (h : aB) : Option (AV × aB) := fE (
 eP (dK (aK.l2 G k h.length self) k [x0, x1, x2, (.int .i64 20), (.int .i64 0), (.int .i64 20)] h) fun e0 x0 h0 => iM e0
 (none)
 (fun i0 => if i0 = 0 then (aC (bD (aH.f G k) [(aG x0 0), (aG x0 4), (aG x0 1), (aG x0 2)] h0) fun v4 h4 =>
 eP (dK (aK.l7 G k h4.length self) k [(aG x0 0), (aG x0 1), (aG x0 2), (aG x0 3)] h4) fun e5 x5 h5 => iM e5
 (none)
 (fun i5 => if i5 = 2 then (cH [] h.length h5) else (none))
 (cH [] h.length h5)) else (none))
 (cH [] h.length h0))
noncomputable def aK.f (G : aF) : Nat → cE
 | 0 => fun _ _ => none
 | k + 1 => fun args h => vX args fun x0 x1 x2 => (aK.c G k (aK.f G k) x0 x1 x2 h)
theorem aK.step (G : aF) (k : Nat) (x0 x1 x2 : AV) (h : aB) : aK.f G (k + 1) [x0, x1, x2] h = aK.c G k (aK.f G k) x0 x1 x2 h := rfl
noncomputable def aQ.ann : Ann := fD [] [] [] []
noncomputable def aQ.env (G : aF) (k : Nat) (self : cE) : List (Nat × Bool × cE) := [(96, false, aK.f G k)]
noncomputable def aQ.c (G : aF) (k : Nat) (self : cE) (x0 x1 : AV) (h : aB) : Option (AV × aB) := fE (
 aC (pu h (dD x0)) fun v0 h0 =>
 aC (bD (aK.f G k) [x0, v0, x1] h0) fun v1 h1 =>
 cH [] h.length h1)
noncomputable def aQ.f (G : aF) : Nat → cE
 | 0 => fun _ _ => none
 | k + 1 => fun args h => kC args fun x0 x1 => (aQ.c G k (aQ.f G k) x0 x1 h)
theorem aQ.step (G : aF) (k : Nat) (x0 x1 : AV) (h : aB) : aQ.f G (k + 1) [x0, x1] h = aQ.c G k (aQ.f G k) x0 x1 h := rfl
noncomputable def aS.ann : Ann := fD [] [] [(24, [0, 1, 14, 97, 98, 99]), (16, [0, 1, 5, 12, 67, 68]), (6, [0, 1, 5, 7, 27, 28, 29, 34, 35, 36]), (3, [0, 1, 5, 27, 28, 29])] []
noncomputable def aS.env (G : aF) (k : Nat) (self : cE) : List (Nat × Bool × cE) := [(20, true, eF.f G k), (23, true, cW.f G k), (73, false, aQ.f G k), (74, false, bN.f G k)]
noncomputable def aS.l6 (G : aF) (k n0 : Nat) (self : cE) (lp : eU) : eU := fun xs h0 => iX n0 xs h0 fun h =>
 aC (pu h (aX Tryd.prog .lss 3 false (aG xs 9) (aG xs 8))) fun v22 h22 =>
 aY v22
 (aC (pu h22 (aM 1 (aG xs 7) (aG xs 9))) fun v23 h23 =>
 aC (pu h23 (aE G false 1 v23 h23)) fun v24 h24 =>
 aC (pu h24 (aE G false 1 (aG xs 2) h24)) fun v25 h25 =>
 aC (pu h25 (aM 1 v25 v24)) fun v26 h26 =>
 aC (pu h26 (aE G false 1 v26 h26)) fun v27 h27 =>
 aC (pu h27 (aX Tryd.prog .add 3 true v27 (.int .i64 1))) fun v28 h28 =>
 aC (pu h28 (aM 1 v25 v24)) fun v29 h29 =>
 aC (fM (aV 1 v29 v28 h29)) fun v30 h30 =>
 aC (pu h30 (aX Tryd.prog .add 3 true (aG xs 9) (.int .i64 1))) fun v31 h31 =>
 lp [(aG xs 0), (aG xs 1), (aG xs 2), (aG xs 3), (aG xs 4), (aG xs 5), (aG xs 6), (aG xs 7), (aG xs 8), v31] h31)
 (some (.exit 2, [(aG xs 0), (aG xs 1), (aG xs 2), (aG xs 3), (aG xs 4), (aG xs 5), (aG xs 6), (aG xs 7), (aG xs 8), (aG xs 9)], h22))
noncomputable def aS.l3 (G : aF) (k n0 : Nat) (self : cE) (lp : eU) : eU := fun xs h0 => iX n0 xs h0 fun h =>
 aC (pu h (aX Tryd.prog .lss 3 false (aG xs 5) (aG xs 4))) fun v13 h13 =>
 aY v13
 (aC (pu h13 (aM 6 (aG xs 3) (aG xs 5))) fun v14 h14 =>
 aC (pu h14 (aE G true 6 v14 h14)) fun v15 h15 =>
 aC (fR 29 (.agg [(.int .i64 0), (.int .i64 0), (.int .i64 0), (.int .i64 0), (.int .i64 0), (.int .i64 0)]) h15) fun v16 h16 =>
 aC (fM (aV 6 v16 v15 h16)) fun v17 h17 =>
 aC (pu h17 (aE G true 6 v16 h17)) fun v18 h18 =>
 aC (aW (cW.f G k) [v18] h18) fun v19 h19 =>
 aC (pu h19 (dD v19)) fun v20 h20 =>
 eP (dK (aS.l6 G k h20.length self) k [(aG xs 0), (aG xs 1), (aG xs 2), v16, (aG xs 3), (aG xs 4), (aG xs 5), v19, v20, (.int .i64 0)] h20) fun e21 x21 h21 => iM e21
 (none)
 (fun i21 => if i21 = 2 then (aC (pu h21 (aE G true 6 (aG x21 3) h21)) fun v32 h32 =>
 aC (aW (eF.f G k) [v32] h32) fun v33 h33 =>
 aC (pu h33 (cU v33 0)) fun v34 h34 =>
 aC (pu h34 (cU v33 1)) fun v35 h35 =>
 aY v35
 (aC (pu h35 (aE G false 1 (aG x21 2) h35)) fun v36 h36 =>
 aC (pu h36 (aM 1 v36 v34)) fun v37 h37 =>
 aC (pu h37 (aE G false 1 v37 h37)) fun v38 h38 =>
 aC (pu h38 (aX Tryd.prog .add 3 true v38 (.int .i64 1))) fun v39 h39 =>
 aC (pu h39 (aM 1 v36 v34)) fun v40 h40 =>
 aC (fM (aV 1 v40 v39 h40)) fun v41 h41 =>
 aC (pu h41 (aX Tryd.prog .add 3 true (aG x21 6) (.int .i64 1))) fun v42 h42 =>
 lp [(aG x21 0), (aG x21 1), (aG x21 2), (aG x21 4), (aG x21 5), v42] h42)
 (aC (pu h35 (aX Tryd.prog .add 3 true (aG x21 6) (.int .i64 1))) fun v43 h43 =>
 lp [(aG x21 0), (aG x21 1), (aG x21 2), (aG x21 4), (aG x21 5), v43] h43)) else (if i21 = 1 then (aC (pu h21 (aX Tryd.prog .add 3 true (aG x21 6) (.int .i64 1))) fun v44 h44 =>
 lp [(aG x21 0), (aG x21 1), (aG x21 2), (aG x21 4), (aG x21 5), v44] h44) else (some (.exit i21, [(aG x21 0), (aG x21 1), (aG x21 2), (aG x21 4), (aG x21 5), (aG x21 6)], h21))))
 (some (.ret, [(aG x21 0), (aG x21 1), (aG x21 2), (aG x21 4), (aG x21 5), (aG x21 6)], h21)))
 (some (.exit 0, [(aG xs 0), (aG xs 1), (aG xs 2), (aG xs 3), (aG xs 4), (aG xs 5)], h13))
noncomputable def aS.l16 (G : aF) (k n0 : Nat) (self : cE) (lp : eU) : eU := fun xs h0 => iX n0 xs h0 fun h =>
 aC (pu h (aX Tryd.prog .lss 3 false (aG xs 5) (aG xs 4))) fun v52 h52 =>
 aY v52
 (aC (pu h52 (aM 1 (aG xs 3) (aG xs 5))) fun v53 h53 =>
 aC (fM (aV 1 v53 (aG xs 5) h53)) fun v54 h54 =>
 aC (pu h54 (aX Tryd.prog .add 3 true (aG xs 5) (.int .i64 1))) fun v55 h55 =>
 lp [(aG xs 0), (aG xs 1), (aG xs 2), (aG xs 3), (aG xs 4), v55] h55)
 (some (.exit 4, [(aG xs 0), (aG xs 1), (aG xs 2), (aG xs 3), (aG xs 4), (aG xs 5)], h52))
noncomputable def aS.l24 (G : aF) (k n0 : Nat) (self : cE) (lp : eU) : eU := fun xs h0 => iX n0 xs h0 fun h =>
 aC (pu h (aX Tryd.prog .lss 3 false (aG xs 5) (aG xs 4))) fun v75 h75 =>
 aY v75
 (aC (pu h75 (aM 1 (aG xs 3) (aG xs 5))) fun v76 h76 =>
 aC (pu h76 (aE G false 1 v76 h76)) fun v77 h77 =>
 aC (pu h77 (aX Tryd.prog .sub 3 true (aG xs 1) (.int .i64 4))) fun v78 h78 =>
 aC (pu h78 (aX Tryd.prog .lss 3 false (aG xs 5) v78)) fun v79 h79 =>
 aY v79
 (aC (pu h79 (fS (aG xs 0))) fun v80 h80 =>
 aC (pu h80 (aA 3 v80)) fun v81 h81 =>
 aC (pu h81 (aE G false 1 v81 h81)) fun v82 h82 =>
 aC (pu h82 (aX Tryd.prog .add 3 true (.int .i64 4) (aG xs 5))) fun v83 h83 =>
 aC (pu h83 (aM 1 v82 v77)) fun v84 h84 =>
 aC (fM (aV 1 v84 v83 h84)) fun v85 h85 =>
 aC (pu h85 (aX Tryd.prog .add 3 true (aG xs 5) (.int .i64 1))) fun v86 h86 =>
 lp [(aG xs 0), (aG xs 1), (aG xs 2), (aG xs 3), (aG xs 4), v86] h86)
 (aC (pu h79 (fS (aG xs 0))) fun v87 h87 =>
 aC (pu h87 (aA 4 v87)) fun v88 h88 =>
 aC (pu h88 (aE G false 1 v88 h88)) fun v89 h89 =>
 aC (pu h89 (fS (aG xs 0))) fun v90 h90 =>
 aC (pu h90 (aA 0 v90)) fun v91 h91 =>
 aC (pu h91 (aA 2 v91)) fun v92 h92 =>
 aC (pu h92 (aE G false 1 v92 h92)) fun v93 h93 =>
 aC (pu h93 (aX Tryd.prog .add 3 false v93 (aG xs 2))) fun v94 h94 =>
 aC (pu h94 (aM 1 v89 v77)) fun v95 h95 =>
 aC (fM (aV 1 v95 v94 h95)) fun v96 h96 =>
 aC (pu h96 (aX Tryd.prog .add 3 true (aG xs 2) (.int .i64 1))) fun v97 h97 =>
 aC (pu h97 (aX Tryd.prog .add 3 true (aG xs 5) (.int .i64 1))) fun v98 h98 =>
 lp [(aG xs 0), (aG xs 1), v97, (aG xs 3), (aG xs 4), v98] h98))
 (some (.exit 6, [(aG xs 0), (aG xs 1), (aG xs 2), (aG xs 3), (aG xs 4), (aG xs 5)], h75))
noncomputable def aS.c (G : aF) (k : Nat) (self : cE) (x0 x1 : AV) (h : aB) : Option (AV × aB) := fE (
 aC (pu h (fS x0)) fun v0 h0 =>
 aC (pu h0 (aA 0 v0)) fun v1 h1 =>
 aC (pu h1 (aA 1 v1)) fun v2 h2 =>
 aC (pu h2 (aE G false 1 v2 h2)) fun v3 h3 =>
 aC (eW 3 1 (.int .i64 0) v3 v3 h3) fun v4 h4 =>
 aC (fR 49 .nils h4) fun v5 h5 =>
 aC (fM (aV 1 v5 v4 h5)) fun v6 h6 =>
 aC (pu h6 (fS x0)) fun v7 h7 =>
 aC (pu h7 (aA 0 v7)) fun v8 h8 =>
 aC (pu h8 (aA 0 v8)) fun v9 h9 =>
 aC (pu h9 (aE G false 1 v9 h9)) fun v10 h10 =>
 aC (pu h10 (dD v10)) fun v11 h11 =>
 eP (dK (aS.l3 G k h11.length self) k [x0, x1, v5, v10, v11, (.int .i64 0)] h11) fun e12 x12 h12 => iM e12
 (none)
 (fun i12 => if i12 = 0 then (aC (pu h12 (fS (aG x12 0))) fun v45 h45 =>
 aC (pu h45 (aA 0 v45)) fun v46 h46 =>
 aC (pu h46 (aA 1 v46)) fun v47 h47 =>
 aC (pu h47 (aE G false 1 v47 h47)) fun v48 h48 =>
 aC (eW 3 1 (.int .i64 0) v48 v48 h48) fun v49 h49 =>
 aC (pu h49 (dD v49)) fun v50 h50 =>
 eP (dK (aS.l16 G k h50.length self) k [(aG x12 0), (aG x12 1), (aG x12 2), v49, v50, (.int .i64 0)] h50) fun e51 x51 h51 => iM e51
 (none)
 (fun i51 => if i51 = 4 then (aC (bD (aQ.f G k) [(aG x51 3), (.fn 74 [(aG x51 2)])] h51) fun v56 h56 =>
 aC (pu h56 (fS (aG x51 0))) fun v57 h57 =>
 aC (pu h57 (aA 0 v57)) fun v58 h58 =>
 aC (pu h58 (aA 1 v58)) fun v59 h59 =>
 aC (pu h59 (aE G false 1 v59 h59)) fun v60 h60 =>
 aC (eW 3 1 (.int .i64 0) v60 v60 h60) fun v61 h61 =>
 aC (pu h61 (fS (aG x51 0))) fun v62 h62 =>
 aC (pu h62 (aA 0 v62)) fun v63 h63 =>
 aC (pu h63 (aA 1 v63)) fun v64 h64 =>
 aC (pu h64 (aE G false 1 v64 h64)) fun v65 h65 =>
 aC (eW 3 1 (.int .i64 0) v65 v65 h65) fun v66 h66 =>
 aC (pu h66 (fS (aG x51 0))) fun v67 h67 =>
 aC (pu h67 (aA 3 v67)) fun v68 h68 =>
 aC (fM (aV 1 v68 v61 h68)) fun v69 h69 =>
 aC (pu h69 (fS (aG x51 0))) fun v70 h70 =>
 aC (pu h70 (aA 4 v70)) fun v71 h71 =>
 aC (fM (aV 1 v71 v66 h71)) fun v72 h72 =>
 grd [(v66, v68)] (
aC (pu h72 (dD (aG x51 3))) fun v73 h73 =>
 eP (dK (aS.l24 G k h73.length self) k [(aG x51 0), (aG x51 1), (.int .i64 0), (aG x51 3), v73, (.int .i64 0)] h73) fun e74 x74 h74 => iM e74
 (none)
 (fun i74 => if i74 = 6 then (uX [(aG x74 2)] h74) else (none))
 (uX [.undef] h74))) else (none))
 (uX [.undef] h51)) else (none))
 (uX [.undef] h12))
noncomputable def aS.f (G : aF) : Nat → cE
 | 0 => fun _ _ => none
 | k + 1 => fun args h => kC args fun x0 x1 => (aS.c G k (aS.f G k) x0 x1 h)
theorem aS.step (G : aF) (k : Nat) (x0 x1 : AV) (h : aB) : aS.f G (k + 1) [x0, x1] h = aS.c G k (aS.f G k) x0 x1 h := rfl
noncomputable def bI.ann : Ann := fD [] [] [] []
noncomputable def bI.env (G : aF) (k : Nat) (self : cE) : List (Nat × Bool × cE) := []
noncomputable def bI.c (G : aF) (k : Nat) (self : cE) (x0 x1 : AV) (h : aB) : Option (AV × aB) := fE (
 aC (gB x1 h) fun v0 h0 =>
 aC (pu h0 (fS x0)) fun v1 h1 =>
 aC (pu h1 (aA 5 v1)) fun v2 h2 =>
 aC (pu h2 (aE G false 1 v2 h2)) fun v3 h3 =>
 aC (pu h3 (aE G true 6 v0 h3)) fun v4 h4 =>
 aC (fQ 6 1 (.agg [(.int .i64 0), (.int .i64 0), (.int .i64 0), (.int .i64 0), (.int .i64 0), (.int .i64 0)]) [(0, v4)] h4) fun v5 h5 =>
 aC (fU 29 6 v3 v5 h5) fun v6 h6 =>
 aC (pu h6 (fS x0)) fun v7 h7 =>
 aC (pu h7 (aA 5 v7)) fun v8 h8 =>
 aC (fM (aV 1 v8 v6 h8)) fun v9 h9 =>
 cH [] h.length h9)
noncomputable def bI.f (G : aF) : Nat → cE
 | 0 => fun _ _ => none
 | k + 1 => fun args h => kC args fun x0 x1 => (bI.c G k (bI.f G k) x0 x1 h)
theorem bI.step (G : aF) (k : Nat) (x0 x1 : AV) (h : aB) : bI.f G (k + 1) [x0, x1] h = bI.c G k (bI.f G k) x0 x1 h := rfl
noncomputable def bW.ann : Ann := fD [] [] [] []
noncomputable def bW.env (G : aF) (k : Nat) (self : cE) : List (Nat × Bool × cE) := [(76, false, bI.f G k)]
noncomputable def bW.c (G : aF) (k : Nat) (self : cE) (x0 x1 x2 : AV) (h : aB) : Option (AV × aB) := fE (
 aC (pu h (fS x0)) fun v0 h0 =>
 aC (pu h0 (aA 3 v0)) fun v1 h1 =>
 aC (pu h1 (aE G false 1 v1 h1)) fun v2 h2 =>
 aC (pu h2 (aM 1 v2 x1)) fun v3 h3 =>
 aC (pu h3 (aE G false 1 v3 h3)) fun v4 h4 =>
 aC (pu h4 (aX Tryd.prog .neq 3 true v4 (.int .i64 0))) fun v5 h5 =>
 aY v5
 (aC (pu h5 (fS x0)) fun v6 h6 =>
 aC (pu h6 (aA 3 v6)) fun v7 h7 =>
 aC (pu h7 (aE G false 1 v7 h7)) fun v8 h8 =>
 aC (pu h8 (aM 1 v8 x1)) fun v9 h9 =>
 aC (pu h9 (aE G false 1 v9 h9)) fun v10 h10 =>
 cH [v10] h.length h10)
 (aC (pu h5 (fS x0)) fun v11 h11 =>
 aC (pu h11 (aA 4 v11)) fun v12 h12 =>
 aC (pu h12 (aE G false 1 v12 h12)) fun v13 h13 =>
 aC (pu h13 (aM 1 v13 x1)) fun v14 h14 =>
 aC (pu h14 (aE G false 1 v14 h14)) fun v15 h15 =>
 aC (pu h15 (cP [(0, 1), (1, 1), (2, 1), (3, 1), (4, 1), (5, 1)] [(.int .i64 0), (.int .i64 0), (.int .i64 0), (.int .i64 0), (.int .i64 0), (.int .i64 0)] [(0, (.int .i64 15)), (1, x2), (2, (.int .i64 0)), (5, v15)])) fun v16 h16 =>
 aC (bD (bI.f G k) [x0, v16] h16) fun v17 h17 =>
 cH [x2] h.length h17))
noncomputable def bW.f (G : aF) : Nat → cE
 | 0 => fun _ _ => none
 | k + 1 => fun args h => vX args fun x0 x1 x2 => (bW.c G k (bW.f G k) x0 x1 x2 h)
theorem bW.step (G : aF) (k : Nat) (x0 x1 x2 : AV) (h : aB) : bW.f G (k + 1) [x0, x1, x2] h = bW.c G k (bW.f G k) x0 x1 x2 h := rfl
noncomputable def bT.ann : Ann := fD [] [] [] []
noncomputable def bT.env (G : aF) (k : Nat) (self : cE) : List (Nat × Bool × cE) := [(76, false, bI.f G k), (79, false, bW.f G k)]
noncomputable def bT.c (G : aF) (k : Nat) (self : cE) (x0 x1 : AV) (h : aB) : Option (AV × aB) := fE (
 aC (gB x1 h) fun v0 h0 =>
 aC (pu h0 (aA 2 v0)) fun v1 h1 =>
 aC (pu h1 (aE G false 1 v1 h1)) fun v2 h2 =>
 aC (bD (bW.f G k) [x0, v2, (.int .i64 1)] h2) fun v3 h3 =>
 aC (pu h3 (aA 5 v0)) fun v4 h4 =>
 aC (pu h4 (aE G false 1 v4 h4)) fun v5 h5 =>
 aC (pu h5 (cP [(0, 1), (1, 1), (2, 1), (3, 1), (4, 1), (5, 1)] [(.int .i64 0), (.int .i64 0), (.int .i64 0), (.int .i64 0), (.int .i64 0), (.int .i64 0)] [(0, (.int .i64 1)), (1, (.int .i64 2)), (5, v5)])) fun v6 h6 =>
 aC (bD (bI.f G k) [x0, v6] h6) fun v7 h7 =>
 aC (pu h7 (cP [(0, 1), (1, 1), (2, 1), (3, 1), (4, 1), (5, 1)] [(.int .i64 0), (.int .i64 0), (.int .i64 0), (.int .i64 0), (.int .i64 0), (.int .i64 0)] [(0, (.int .i64 3)), (1, (.int .i64 2)), (2, v3), (3, (.int .i64 2))])) fun v8 h8 =>
 aC (bD (bI.f G k) [x0, v8] h8) fun v9 h9 =>
 aC (pu h9 (fS x0)) fun v10 h10 =>
 aC (pu h10 (aA 0 v10)) fun v11 h11 =>
 aC (pu h11 (aA 2 v11)) fun v12 h12 =>
 aC (pu h12 (aE G false 1 v12 h12)) fun v13 h13 =>
 aC (pu h13 (cP [(0, 1), (1, 1), (2, 1), (3, 1), (4, 1), (5, 1)] [(.int .i64 0), (.int .i64 0), (.int .i64 0), (.int .i64 0), (.int .i64 0), (.int .i64 0)] [(0, (.int .i64 1)), (1, (.int .i64 3)), (5, v13)])) fun v14 h14 =>
 aC (bD (bI.f G k) [x0, v14] h14) fun v15 h15 =>
 aC (pu h15 (cP [(0, 1), (1, 1), (2, 1), (3, 1), (4, 1), (5, 1)] [(.int .i64 0), (.int .i64 0), (.int .i64 0), (.int .i64 0), (.int .i64 0), (.int .i64 0)] [(0, (.int .i64 13)), (1, (.int .i64 3)), (2, (.int .i64 2)), (3, (.int .i64 3))])) fun v16 h16 =>
 aC (bD (bI.f G k) [x0, v16] h16) fun v17 h17 =>
 aC (pu h17 (cP [(0, 1), (1, 1), (2, 1), (3, 1), (4, 1), (5, 1)] [(.int .i64 0), (.int .i64 0), (.int .i64 0), (.int .i64 0), (.int .i64 0), (.int .i64 0)] [(0, (.int .i64 18)), (2, (.int .i64 3)), (5, (.int .i64 (-1)))])) fun v18 h18 =>
 aC (bD (bI.f G k) [x0, v18] h18) fun v19 h19 =>
 cH [] h.length h19)
noncomputable def bT.f (G : aF) : Nat → cE
 | 0 => fun _ _ => none
 | k + 1 => fun args h => kC args fun x0 x1 => (bT.c G k (bT.f G k) x0 x1 h)
theorem bT.step (G : aF) (k : Nat) (x0 x1 : AV) (h : aB) : bT.f G (k + 1) [x0, x1] h = bT.c G k (bT.f G k) x0 x1 h := rfl
noncomputable def cD.ann : Ann := fD [] [] [] []
noncomputable def cD.env (G : aF) (k : Nat) (self : cE) : List (Nat × Bool × cE) := []
noncomputable def cD.c (G : aF) (k : Nat) (self : cE) (x0 x1 : AV) (h : aB) : Option (AV × aB) := fE (
 aC (pu h (fS x0)) fun v0 h0 =>
 aC (pu h0 (aA 3 v0)) fun v1 h1 =>
 aC (pu h1 (aE G false 1 v1 h1)) fun v2 h2 =>
 aC (pu h2 (aM 1 v2 x1)) fun v3 h3 =>
 aC (pu h3 (aE G false 1 v3 h3)) fun v4 h4 =>
 aC (pu h4 (aX Tryd.prog .neq 3 true v4 (.int .i64 0))) fun v5 h5 =>
 aY v5
 (aC (pu h5 (fS x0)) fun v6 h6 =>
 aC (pu h6 (aA 3 v6)) fun v7 h7 =>
 aC (pu h7 (aE G false 1 v7 h7)) fun v8 h8 =>
 aC (pu h8 (aM 1 v8 x1)) fun v9 h9 =>
 aC (pu h9 (aE G false 1 v9 h9)) fun v10 h10 =>
 cH [v10] h.length h10)
 (cH [(.int .i64 1)] h.length h5))
noncomputable def cD.f (G : aF) : Nat → cE
 | 0 => fun _ _ => none
 | k + 1 => fun args h => kC args fun x0 x1 => (cD.c G k (cD.f G k) x0 x1 h)
theorem cD.step (G : aF) (k : Nat) (x0 x1 : AV) (h : aB) : cD.f G (k + 1) [x0, x1] h = cD.c G k (cD.f G k) x0 x1 h := rfl
noncomputable def bU.ann : Ann := fD [] [] [] []
noncomputable def bU.env (G : aF) (k : Nat) (self : cE) : List (Nat × Bool × cE) := [(76, false, bI.f G k)]
noncomputable def bU.c (G : aF) (k : Nat) (self : cE) (x0 x1 : AV) (h : aB) : Option (AV × aB) := fE (
 aC (pu h (fS x0)) fun v0 h0 =>
 aC (pu h0 (aA 3 v0)) fun v1 h1 =>
 aC (pu h1 (aE G false 1 v1 h1)) fun v2 h2 =>
 aC (pu h2 (aM 1 v2 x1)) fun v3 h3 =>
 aC (pu h3 (aE G false 1 v3 h3)) fun v4 h4 =>
 aC (pu h4 (aX Tryd.prog .eql 3 true v4 (.int .i64 0))) fun v5 h5 =>
 aY v5
 (aC (pu h5 (fS x0)) fun v6 h6 =>
 aC (pu h6 (aA 4 v6)) fun v7 h7 =>
 aC (pu h7 (aE G false 1 v7 h7)) fun v8 h8 =>
 aC (pu h8 (aM 1 v8 x1)) fun v9 h9 =>
 aC (pu h9 (aE G false 1 v9 h9)) fun v10 h10 =>
 aC (pu h10 (cP [(0, 1), (1, 1), (2, 1), (3, 1), (4, 1), (5, 1)] [(.int .i64 0), (.int .i64 0), (.int .i64 0), (.int .i64 0), (.int .i64 0), (.int .i64 0)] [(0, (.int .i64 16)), (2, (.int .i64 0)), (3, (.int .i64 1)), (5, v10)])) fun v11 h11 =>
 aC (bD (bI.f G k) [x0, v11] h11) fun v12 h12 =>
 cH [] h.length h12)
 (cH [] h.length h5))
noncomputable def bU.f (G : aF) : Nat → cE
 | 0 => fun _ _ => none
 | k + 1 => fun args h => kC args fun x0 x1 => (bU.c G k (bU.f G k) x0 x1 h)
theorem bU.step (G : aF) (k : Nat) (x0 x1 : AV) (h : aB) : bU.f G (k + 1) [x0, x1] h = bU.c G k (bU.f G k) x0 x1 h := rfl
noncomputable def aZ.ann : Ann := fD [3] [] [] [(17, [0, 3, 4]), (15, [0, 3, 4]), (13, [0, 3, 4])]
noncomputable def aZ.env (G : aF) (k : Nat) (self : cE) : List (Nat × Bool × cE) := [(51, true, dY.f G k), (75, false, bT.f G k), (76, false, bI.f G k), (77, false, cD.f G k), (78, false, bU.f G k), (79, false, bW.f G k)]
noncomputable def aZ.c (G : aF) (k : Nat) (self : cE) (x0 x1 : AV) (h : aB) : Option (AV × aB) := fE (
 aC (fR 29 x1 h) fun v0 h0 =>
 aC (pu h0 (aA 0 v0)) fun v1 h1 =>
 aC (pu h1 (aE G false 1 v1 h1)) fun v2 h2 =>
 aC (aW (dY.f G k) [v2] h2) fun v3 h3 =>
 aC (pu h3 (cU v3 0)) fun v4 h4 =>
 aC (pu h4 (cU v3 1)) fun v5 h5 =>
 aC (fR 100 (.agg [(.str ⟨#[]⟩), (.bool false), (.bool false), (.bool false), (.bool false), (.bool false)]) h5) fun v6 h6 =>
 aC (fM (aV 6 v6 v4 h6)) fun v7 h7 =>
 aC (pu h7 (aA 0 v0)) fun v8 h8 =>
 aC (pu h8 (aE G false 1 v8 h8)) fun v9 h9 =>
 aC (pu h9 (aX Tryd.prog .eql 3 true v9 (.int .i64 15))) fun v10 h10 =>
 aY v10
 (aC (pu h10 (aE G true 6 v0 h10)) fun v11 h11 =>
 aC (bD (bT.f G k) [x0, v11] h11) fun v12 h12 =>
 aC (pu h12 (aA 1 v0)) fun v13 h13 =>
 aC (pu h13 (aE G false 1 v13 h13)) fun v14 h14 =>
 aC (bD (cD.f G k) [x0, v14] h14) fun v15 h15 =>
 aC (pu h15 (cP [(0, 1), (1, 1), (2, 1), (3, 1), (4, 1), (5, 1)] [(.int .i64 0), (.int .i64 0), (.int .i64 0), (.int .i64 0), (.int .i64 0), (.int .i64 0)] [(0, (.int .i64 15)), (1, v15), (2, (.int .i64 2))])) fun v16 h16 =>
 aC (bD (bI.f G k) [x0, v16] h16) fun v17 h17 =>
 aC (pu h17 (aA 1 v0)) fun v18 h18 =>
 aC (pu h18 (aE G false 1 v18 h18)) fun v19 h19 =>
 aC (bD (bU.f G k) [x0, v19] h19) fun v20 h20 =>
 cH [] h.length h20)
 (aC (pu h10 (aX Tryd.prog .eql 3 true v9 (.int .i64 16))) fun v21 h21 =>
 aY v21
 (aC (pu h21 (aE G true 6 v0 h21)) fun v22 h22 =>
 aC (bD (bT.f G k) [x0, v22] h22) fun v23 h23 =>
 aC (pu h23 (aA 3 v0)) fun v24 h24 =>
 aC (pu h24 (aE G false 1 v24 h24)) fun v25 h25 =>
 aC (bD (bW.f G k) [x0, v25, (.int .i64 1)] h25) fun v26 h26 =>
 aC (pu h26 (cP [(0, 1), (1, 1), (2, 1), (3, 1), (4, 1), (5, 1)] [(.int .i64 0), (.int .i64 0), (.int .i64 0), (.int .i64 0), (.int .i64 0), (.int .i64 0)] [(0, (.int .i64 16)), (2, (.int .i64 2)), (3, v26)])) fun v27 h27 =>
 aC (bD (bI.f G k) [x0, v27] h27) fun v28 h28 =>
 cH [] h.length h28)
 (eP (
 aC (pu h21 (aA 2 v6)) fun v29 h29 =>
 aC (pu h29 (aE G false 1 v29 h29)) fun v30 h30 =>
 aY v30
 (aC (pu h30 (aA 2 v0)) fun v31 h31 =>
 aC (pu h31 (aE G false 1 v31 h31)) fun v32 h32 =>
 aC (bD (bW.f G k) [x0, v32, (.int .i64 1)] h32) fun v33 h33 =>
 aC (pu h33 (aA 2 v0)) fun v34 h34 =>
 aC (fM (aV 1 v34 v33 h34)) fun v35 h35 =>
 some (.normal, [x0, v0, v6], h35))
 (some (.normal, [x0, v0, v6], h30))) fun e36 x36 h36 => iM e36
 (eP (
 aC (pu h36 (aA 3 (aG x36 2))) fun v37 h37 =>
 aC (pu h37 (aE G false 1 v37 h37)) fun v38 h38 =>
 aY v38
 (aC (pu h38 (aA 3 (aG x36 1))) fun v39 h39 =>
 aC (pu h39 (aE G false 1 v39 h39)) fun v40 h40 =>
 aC (bD (bW.f G k) [(aG x36 0), v40, (.int .i64 2)] h40) fun v41 h41 =>
 aC (pu h41 (aA 3 (aG x36 1))) fun v42 h42 =>
 aC (fM (aV 1 v42 v41 h42)) fun v43 h43 =>
 some (.normal, [(aG x36 0), (aG x36 1), (aG x36 2)], h43))
 (some (.normal, [(aG x36 0), (aG x36 1), (aG x36 2)], h38))) fun e44 x44 h44 => iM e44
 (eP (
 aC (pu h44 (aA 4 (aG x44 2))) fun v45 h45 =>
 aC (pu h45 (aE G false 1 v45 h45)) fun v46 h46 =>
 aY v46
 (aC (pu h46 (aA 4 (aG x44 1))) fun v47 h47 =>
 aC (pu h47 (aE G false 1 v47 h47)) fun v48 h48 =>
 aC (bD (bW.f G k) [(aG x44 0), v48, (.int .i64 3)] h48) fun v49 h49 =>
 aC (pu h49 (aA 4 (aG x44 1))) fun v50 h50 =>
 aC (fM (aV 1 v50 v49 h50)) fun v51 h51 =>
 some (.normal, [(aG x44 0), (aG x44 1), (aG x44 2)], h51))
 (some (.normal, [(aG x44 0), (aG x44 1), (aG x44 2)], h46))) fun e52 x52 h52 => iM e52
 (aC (pu h52 (aA 1 (aG x52 2))) fun v53 h53 =>
 aC (pu h53 (aE G false 1 v53 h53)) fun v54 h54 =>
 aC (pu h54 (un .not v54)) fun v55 h55 =>
 aY v55
 (aC (pu h55 (aE G true 6 (aG x52 1) h55)) fun v56 h56 =>
 aC (bD (bI.f G k) [(aG x52 0), v56] h56) fun v57 h57 =>
 cH [] h.length h57)
 (aC (pu h55 (aA 1 (aG x52 1))) fun v58 h58 =>
 aC (pu h58 (aE G false 1 v58 h58)) fun v59 h59 =>
 aC (bD (cD.f G k) [(aG x52 0), v59] h59) fun v60 h60 =>
 aC (pu h60 (aA 1 (aG x52 1))) fun v61 h61 =>
 aC (fM (aV 1 v61 v60 h61)) fun v62 h62 =>
 aC (pu h62 (aE G true 6 (aG x52 1) h62)) fun v63 h63 =>
 aC (bD (bI.f G k) [(aG x52 0), v63] h63) fun v64 h64 =>
 aC (bD (bU.f G k) [(aG x52 0), v59] h64) fun v65 h65 =>
 cH [] h.length h65))
 (fun i52 => none)
 (cH [] h.length h52))
 (fun i44 => none)
 (cH [] h.length h44))
 (fun i36 => none)
 (cH [] h.length h36))))
noncomputable def aZ.f (G : aF) : Nat → cE
 | 0 => fun _ _ => none
 | k + 1 => fun args h => kC args fun x0 x1 => (aZ.c G k (aZ.f G k) x0 x1 h)
theorem aZ.step (G : aF) (k : Nat) (x0 x1 : AV) (h : aB) : aZ.f G (k + 1) [x0, x1] h = aZ.c G k (aZ.f G k) x0 x1 h := rfl
noncomputable def cY.ann : Ann := fD [] [] [] []
noncomputable def cY.env (G : aF) (k : Nat) (self : cE) : List (Nat × Bool × cE) := []
noncomputable def cY.c (G : aF) (k : Nat) (self : cE) (x0 : AV) (h : aB) : Option (AV × aB) := fE (
 aC (pu h (aX Tryd.prog .eql 3 true x0 (.int .i64 17))) fun v0 h0 =>
 aC (gd v0 false h0 (some (x0, h0))) fun v1 h1 =>
 aC (gd v0 false h1 (pu h1 (aX Tryd.prog .eql 3 true v1 (.int .i64 18)))) fun v2 h2 =>
 aC (pu h2 (eH v0 (.bool true) v2)) fun v3 h3 =>
 aC (gd v3 false h3 (some (x0, h3))) fun v4 h4 =>
 aC (gd v3 false h4 (pu h4 (aX Tryd.prog .eql 3 true v4 (.int .i64 19)))) fun v5 h5 =>
 aC (pu h5 (eH v3 (.bool true) v5)) fun v6 h6 =>
 cH [v6] h.length h6)
noncomputable def cY.f (G : aF) : Nat → cE
 | 0 => fun _ _ => none
 | k + 1 => fun args h => lS args fun x0 => (cY.c G k (cY.f G k) x0 h)
theorem cY.step (G : aF) (k : Nat) (x0 : AV) (h : aB) : cY.f G (k + 1) [x0] h = cY.c G k (cY.f G k) x0 h := rfl
noncomputable def bC.ann : Ann := fD [] [] [(2, [0, 22, 23])] []
noncomputable def bC.env (G : aF) (k : Nat) (self : cE) : List (Nat × Bool × cE) := [(80, true, cY.f G k)]
noncomputable def bC.l2 (G : aF) (k n0 : Nat) (self : cE) (lp : eU) : eU := fun xs h0 => iX n0 xs h0 fun h =>
 aC (pu h (aX Tryd.prog .lss 3 false (aG xs 2) (aG xs 1))) fun v17 h17 =>
 aY v17
 (aC (pu h17 (fS (aG xs 0))) fun v18 h18 =>
 aC (pu h18 (aA 5 v18)) fun v19 h19 =>
 aC (pu h19 (aE G false 1 v19 h19)) fun v20 h20 =>
 aC (pu h20 (aM 6 v20 (aG xs 2))) fun v21 h21 =>
 aC (pu h21 (fS v21)) fun v22 h22 =>
 aC (pu h22 (aA 0 v22)) fun v23 h23 =>
 aC (pu h23 (aE G false 1 v23 h23)) fun v24 h24 =>
 aC (aW (cY.f G k) [v24] h24) fun v25 h25 =>
 aC (pu h25 (un .not v25)) fun v26 h26 =>
 aY v26
 (aC (pu h26 (aX Tryd.prog .add 3 true (aG xs 2) (.int .i64 1))) fun v27 h27 =>
 lp [(aG xs 0), (aG xs 1), v27] h27)
 (aC (pu h26 (fS v21)) fun v28 h28 =>
 aC (pu h28 (aA 5 v28)) fun v29 h29 =>
 aC (pu h29 (aE G false 1 v29 h29)) fun v30 h30 =>
 aC (pu h30 (aX Tryd.prog .eql 2 true v30 (.int .i64 (-1)))) fun v31 h31 =>
 aY v31
 (aC (pu h31 (fS (aG xs 0))) fun v32 h32 =>
 aC (pu h32 (aA 5 v32)) fun v33 h33 =>
 aC (pu h33 (aE G false 1 v33 h33)) fun v34 h34 =>
 aC (pu h34 (dD v34)) fun v35 h35 =>
 aC (pu h35 (fS v21)) fun v36 h36 =>
 aC (pu h36 (aA 5 v36)) fun v37 h37 =>
 aC (fM (aV 1 v37 v35 h37)) fun v38 h38 =>
 aC (pu h38 (aX Tryd.prog .add 3 true (aG xs 2) (.int .i64 1))) fun v39 h39 =>
 lp [(aG xs 0), (aG xs 1), v39] h39)
 (aC (pu h31 (fS (aG xs 0))) fun v40 h40 =>
 aC (pu h40 (aA 6 v40)) fun v41 h41 =>
 aC (pu h41 (aE G false 1 v41 h41)) fun v42 h42 =>
 aC (pu h42 (fS v21)) fun v43 h43 =>
 aC (pu h43 (aA 5 v43)) fun v44 h44 =>
 aC (pu h44 (aE G false 1 v44 h44)) fun v45 h45 =>
 aC (pu h45 (aM 1 v42 v45)) fun v46 h46 =>
 aC (pu h46 (aE G false 1 v46 h46)) fun v47 h47 =>
 aC (pu h47 (fS v21)) fun v48 h48 =>
 aC (pu h48 (aA 5 v48)) fun v49 h49 =>
 aC (fM (aV 1 v49 v47 h49)) fun v50 h50 =>
 aC (pu h50 (aX Tryd.prog .add 3 true (aG xs 2) (.int .i64 1))) fun v51 h51 =>
 lp [(aG xs 0), (aG xs 1), v51] h51)))
 (some (.exit 0, [(aG xs 0), (aG xs 1), (aG xs 2)], h17))
noncomputable def bC.c (G : aF) (k : Nat) (self : cE) (x0 : AV) (h : aB) : Option (AV × aB) := fE (
 aC (pu h (fS x0)) fun v0 h0 =>
 aC (pu h0 (aA 6 v0)) fun v1 h1 =>
 aC (pu h1 (aE G false 1 v1 h1)) fun v2 h2 =>
 aC (pu h2 (fS x0)) fun v3 h3 =>
 aC (pu h3 (aA 5 v3)) fun v4 h4 =>
 aC (pu h4 (aE G false 1 v4 h4)) fun v5 h5 =>
 aC (pu h5 (dD v5)) fun v6 h6 =>
 aC (fQ 1 1 (.int .i64 0) [(0, v6)] h6) fun v7 h7 =>
 aC (fU 3 1 v2 v7 h7) fun v8 h8 =>
 aC (pu h8 (fS x0)) fun v9 h9 =>
 aC (pu h9 (aA 6 v9)) fun v10 h10 =>
 aC (fM (aV 1 v10 v8 h10)) fun v11 h11 =>
 aC (pu h11 (fS x0)) fun v12 h12 =>
 aC (pu h12 (aA 5 v12)) fun v13 h13 =>
 aC (pu h13 (aE G false 1 v13 h13)) fun v14 h14 =>
 aC (pu h14 (dD v14)) fun v15 h15 =>
 eP (dK (bC.l2 G k h15.length self) k [x0, v15, (.int .i64 0)] h15) fun e16 x16 h16 => iM e16
 (none)
 (fun i16 => if i16 = 0 then (cH [] h.length h16) else (none))
 (cH [] h.length h16))
noncomputable def bC.f (G : aF) : Nat → cE
 | 0 => fun _ _ => none
 | k + 1 => fun args h => lS args fun x0 => (bC.c G k (bC.f G k) x0 h)
theorem bC.step (G : aF) (k : Nat) (x0 : AV) (h : aB) : bC.f G (k + 1) [x0] h = bC.c G k (bC.f G k) x0 h := rfl
noncomputable def cF.ann : Ann := aDM [2, 36] [] [(14, [1, 2, 4, 7, 8, 48, 49, 50])] [] [(14, [(7, 5, 29, 6), (7, 6, 3, 1)])] []
noncomputable def cF.env (G : aF) (k : Nat) (self : cE) : List (Nat × Bool × cE) := [(43, true, cX.f G k), (44, false, aP.f G k), (45, false, aS.f G k), (46, false, aZ.f G k), (47, false, bC.f G k)]
noncomputable def cF.l14 (G : aF) (k n0 : Nat) (self : cE) (lp : eU) : eU := fun xs h0 => iX n0 xs h0 fun h =>
 aC (pu h (aX Tryd.prog .lss 3 false (aG xs 7) (aG xs 6))) fun v39 h39 =>
 aY v39
 (aC (pu h39 (aM 6 (aG xs 5) (aG xs 7))) fun v40 h40 =>
 aC (pu h40 (aE G true 6 v40 h40)) fun v41 h41 =>
 aC (fR 29 (.agg [(.int .i64 0), (.int .i64 0), (.int .i64 0), (.int .i64 0), (.int .i64 0), (.int .i64 0)]) h41) fun v42 h42 =>
 aC (fM (aV 6 v42 v41 h42)) fun v43 h43 =>
 aC (pu h43 (fS (aG xs 3))) fun v44 h44 =>
 aC (pu h44 (aA 6 v44)) fun v45 h45 =>
 aC (pu h45 (aE G false 1 v45 h45)) fun v46 h46 =>
 aC (pu h46 (fS (aG xs 3))) fun v47 h47 =>
 aC (pu h47 (aA 5 v47)) fun v48 h48 =>
 aC (pu h48 (aE G false 1 v48 h48)) fun v49 h49 =>
 aC (pu h49 (dD v49)) fun v50 h50 =>
 aC (fQ 1 1 (.int .i64 0) [(0, v50)] h50) fun v51 h51 =>
 aC (fU 3 1 v46 v51 h51) fun v52 h52 =>
 aC (pu h52 (fS (aG xs 3))) fun v53 h53 =>
 aC (pu h53 (aA 6 v53)) fun v54 h54 =>
 aC (fM (aV 1 v54 v52 h54)) fun v55 h55 =>
 aC (pu h55 (aE G true 6 v42 h55)) fun v56 h56 =>
 aC (bD (aZ.f G k) [(aG xs 3), v56] h56) fun v57 h57 =>
 aC (pu h57 (aX Tryd.prog .add 3 true (aG xs 7) (.int .i64 1))) fun v58 h58 =>
 lp [(aG xs 0), (aG xs 1), (aG xs 2), (aG xs 3), (aG xs 4), (aG xs 5), (aG xs 6), v58] h58)
 (some (.exit 0, [(aG xs 0), (aG xs 1), (aG xs 2), (aG xs 3), (aG xs 4), (aG xs 5), (aG xs 6), (aG xs 7)], h39))
noncomputable def cF.c (G : aF) (k : Nat) (self : cE) (x0 x1 : AV) (h : aB) : Option (AV × aB) := fE (
 aC (fR 27 x0 h) fun v0 h0 =>
 aC (fR 27 (.agg [.nils, (.int .i64 0), (.int .i64 0)]) h0) fun v1 h1 =>
 aC (pu h1 (aE G true 3 v0 h1)) fun v2 h2 =>
 aC (aW (cX.f G k) [v2] h2) fun v3 h3 =>
 aC (pu h3 (aX Tryd.prog .neq 33 true v3 .nili)) fun v4 h4 =>
 aY v4
 (aC (pu h4 (cP [(0, 1), (1, 1), (2, 1)] [.nils, (.int .i64 0), (.int .i64 0)] [])) fun v5 h5 =>
 aC (fM (aV 3 v1 v5 h5)) fun v6 h6 =>
 iB [aE G true 3 v1 h6, some v3] h.length h6)
 (aC (pu h4 (aX Tryd.prog .lss 3 true x1 (.int .i64 6))) fun v7 h7 =>
 aC (gd v7 false h7 (some (x1, h7))) fun v8 h8 =>
 aC (gd v7 false h8 (pu h8 (aX Tryd.prog .gtr 3 true v8 (.int .i64 28)))) fun v9 h9 =>
 aC (pu h9 (eH v7 (.bool true) v9)) fun v10 h10 =>
 aY v10
 (aC (pu h10 (cP [(0, 1), (1, 1), (2, 1)] [.nils, (.int .i64 0), (.int .i64 0)] [])) fun v11 h11 =>
 aC (pu h11 (aE G false 1 (.gl 0) h11)) fun v12 h12 =>
 aC (fM (aV 3 v1 v11 h12)) fun v13 h13 =>
 iB [aE G true 3 v1 h13, some v12] h.length h13)
 (aC (pu h10 (aA 1 v0)) fun v14 h14 =>
 aC (pu h14 (aE G false 1 v14 h14)) fun v15 h15 =>
 aC (pu h15 (aX Tryd.prog .leq 3 false v15 x1)) fun v16 h16 =>
 aY v16
 (aC (pu h16 (aA 0 v0)) fun v17 h17 =>
 aC (pu h17 (aE G false 1 v17 h17)) fun v18 h18 =>
 aC (bD (aP.f G k) [v18] h18) fun v19 h19 =>
 aC (pu h19 (aA 0 v0)) fun v20 h20 =>
 aC (fM (aV 1 v20 v19 h20)) fun v21 h21 =>
 aC (pu h21 (aE G true 3 v0 h21)) fun v22 h22 =>
 aC (fM (aV 3 v1 v22 h22)) fun v23 h23 =>
 iB [aE G true 3 v1 h23, some .nili] h.length h23)
 (aC (pu h16 (aE G true 3 v0 h16)) fun v24 h24 =>
 aC (pu h24 (cP [(0, 3), (3, 1), (4, 1), (5, 1), (6, 1)] [.nils, (.int .i64 0), (.int .i64 0), .nils, .nils, .nils, .nils] [(0, v24)])) fun v25 h25 =>
 aC (fR 86 v25 h25) fun v26 h26 =>
 aC (bD (aS.f G k) [v26, x1] h26) fun v27 h27 =>
 aC (pu h27 (aA 2 v0)) fun v28 h28 =>
 aC (pu h28 (aE G false 1 v28 h28)) fun v29 h29 =>
 aC (pu h29 (aX Tryd.prog .add 3 false v29 v27)) fun v30 h30 =>
 aC (pu h30 (aX Tryd.prog .gtr 3 true v30 (.int .i64 65536))) fun v31 h31 =>
 aY v31
 (aC (pu h31 (cP [(0, 1), (1, 1), (2, 1)] [.nils, (.int .i64 0), (.int .i64 0)] [])) fun v32 h32 =>
 aC (pu h32 (aE G false 1 (.gl 1) h32)) fun v33 h33 =>
 aC (fM (aV 3 v1 v32 h33)) fun v34 h34 =>
 iB [aE G true 3 v1 h34, some v33] h.length h34)
 (aC (pu h31 (aA 0 v0)) fun v35 h35 =>
 aC (pu h35 (aE G false 1 v35 h35)) fun v36 h36 =>
 aC (pu h36 (dD v36)) fun v37 h37 =>
 vK [(v26, 5, 29, 6), (v26, 6, 3, 1)] h37 fun hv38 =>
 eP (dK (cF.l14 G k hv38.length self) k [x1, v0, v1, v26, v27, v36, v37, (.int .i64 0)] hv38) fun e38 x38 h38 => iM e38
 (none)
 (fun i38 => if i38 = 0 then (aC (bD (bC.f G k) [(aG x38 3)] h38) fun v59 h59 =>
 aC (pu h59 (fS (aG x38 3))) fun v60 h60 =>
 aC (pu h60 (aA 5 v60)) fun v61 h61 =>
 aC (pu h61 (aE G false 1 v61 h61)) fun v62 h62 =>
 aC (pu h62 (dD v62)) fun v63 h63 =>
 aC (pu h63 (aX Tryd.prog .gtr 3 true v63 (.int .i64 262144))) fun v64 h64 =>
 aY v64
 (aC (pu h64 (cP [(0, 1), (1, 1), (2, 1)] [.nils, (.int .i64 0), (.int .i64 0)] [])) fun v65 h65 =>
 aC (pu h65 (aE G false 1 (.gl 1) h65)) fun v66 h66 =>
 aC (fM (aV 3 (aG x38 2) v65 h66)) fun v67 h67 =>
 iB [aE G true 3 (aG x38 2) h67, some v66] h.length h67)
 (aC (pu h64 (fS (aG x38 3))) fun v68 h68 =>
 aC (pu h68 (aA 5 v68)) fun v69 h69 =>
 aC (pu h69 (aE G false 1 v69 h69)) fun v70 h70 =>
 aC (pu h70 (aA 2 (aG x38 1))) fun v71 h71 =>
 aC (pu h71 (aE G false 1 v71 h71)) fun v72 h72 =>
 aC (pu h72 (aX Tryd.prog .add 3 false v72 (aG x38 4))) fun v73 h73 =>
 aC (pu h73 (cP [(0, 1), (1, 1), (2, 1)] [.nils, (.int .i64 0), (.int .i64 0)] [(0, v70), (1, (aG x38 0)), (2, v73)])) fun v74 h74 =>
 aC (fM (aV 3 (aG x38 2) v74 h74)) fun v75 h75 =>
 iB [aE G true 3 (aG x38 2) h75, some .nili] h.length h75)) else (none))
 (iB [aE G true 3 (aG x38 2) h38, some .undef] h.length h38))))))
noncomputable def cF.f (G : aF) : Nat → cE
 | 0 => fun _ _ => none
 | k + 1 => fun args h => kC args fun x0 x1 => (cF.c G k (cF.f G k) x0 x1 h)
theorem cF.step (G : aF) (k : Nat) (x0 x1 : AV) (h : aB) : cF.f G (k + 1) [x0, x1] h = cF.c G k (cF.f G k) x0 x1 h := rfl
noncomputable def fI.ann : Ann := fD [] [] [] []
noncomputable def fI.env (G : aF) (k : Nat) (self : cE) : List (Nat × Bool × cE) := []
noncomputable def fI.c (G : aF) (k : Nat) (self : cE) (x0 x1 x2 : AV) (h : aB) : Option (AV × aB) := fE (
 aC (gB x0 h) fun v0 h0 =>
 aC (pu h0 (dD x1)) fun v1 h1 =>
 aC (pu h1 (aA 2 v0)) fun v2 h2 =>
 aC (pu h2 (aE G false 1 v2 h2)) fun v3 h3 =>
 aC (pu h3 (aX Tryd.prog .neq 3 false v1 v3)) fun v4 h4 =>
 aY v4
 (aC (pu h4 (aE G false 1 (.gl 2) h4)) fun v5 h5 =>
 cH [v5] h.length h5)
 (aC (pu h4 (aX Tryd.prog .lss 2 true x2 (.int .i64 0))) fun v6 h6 =>
 aC (gd v6 false h6 (some (x2, h6))) fun v7 h7 =>
 aC (gd v6 false h7 (pu h7 (aX Tryd.prog .gtr 2 true v7 (.int .i64 1073741824)))) fun v8 h8 =>
 aC (pu h8 (eH v6 (.bool true) v8)) fun v9 h9 =>
 aY v9
 (aC (pu h9 (aE G false 1 (.gl 0) h9)) fun v10 h10 =>
 cH [v10] h.length h10)
 (cH [.nili] h.length h9)))
noncomputable def fI.f (G : aF) : Nat → cE
 | 0 => fun _ _ => none
 | k + 1 => fun args h => vX args fun x0 x1 x2 => (fI.c G k (fI.f G k) x0 x1 x2 h)
noncomputable def bL.ann : Ann := fD [5] [2] [] []
noncomputable def bL.env (G : aF) (k : Nat) (self : cE) : List (Nat × Bool × cE) := []
noncomputable def bL.c (G : aF) (k : Nat) (self : cE) (x0 : AV) (h : aB) : Option (AV × aB) := fE (
 aC (some (.sl h.length 0 0 0 1, h ++ [⟨30, 1, []⟩])) fun v0 h0 =>
 aC (pu h0 (aX Tryd.prog .eql 22 true x0 .nils)) fun v1 h1 =>
 aY v1
 (aC (some (.sl h1.length 0 0 0 1, h1 ++ [⟨30, 1, []⟩])) fun v2 h2 =>
 uX [v2] h2)
 (aC (gX 30 1 0 (.int .u64 0) [] h1) fun v3 h3 =>
 aC (fU 30 1 v3 x0 h3) fun v4 h4 =>
 uX [v4] h4))
noncomputable def bL.f (G : aF) : Nat → cE
 | 0 => fun _ _ => none
 | k + 1 => fun args h => lS args fun x0 => (bL.c G k (bL.f G k) x0 h)
noncomputable def dE.ann : Ann := fD [] [] [] []
noncomputable def dE.env (G : aF) (k : Nat) (self : cE) : List (Nat × Bool × cE) := []
noncomputable def dE.c (G : aF) (k : Nat) (self : cE) (x0 x1 x2 : AV) (h : aB) : Option (AV × aB) := fE (
 aC (pu h (fS x0)) fun v0 h0 =>
 aC (pu h0 (aA 5 v0)) fun v1 h1 =>
 aC (pu h1 (aA 2 v1)) fun v2 h2 =>
 aC (pu h2 (aE G false 1 v2 h2)) fun v3 h3 =>
 aC (pu h3 (cP [(0, 1), (1, 1)] [(.int .i64 0), (.int .i64 0)] [(0, x1), (1, x2)])) fun v4 h4 =>
 aC (fQ 2 1 (.agg [(.int .i64 0), (.int .i64 0)]) [(0, v4)] h4) fun v5 h5 =>
 aC (fU 91 2 v3 v5 h5) fun v6 h6 =>
 aC (pu h6 (fS x0)) fun v7 h7 =>
 aC (pu h7 (aA 5 v7)) fun v8 h8 =>
 aC (pu h8 (aA 2 v8)) fun v9 h9 =>
 aC (fM (aV 1 v9 v6 h9)) fun v10 h10 =>
 cH [] h.length h10)
noncomputable def dE.f (G : aF) : Nat → cE
 | 0 => fun _ _ => none
 | k + 1 => fun args h => vX args fun x0 x1 x2 => (dE.c G k (dE.f G k) x0 x1 x2 h)
noncomputable def eE.ann : Ann := fD [] [] [] []
noncomputable def eE.env (G : aF) (k : Nat) (self : cE) : List (Nat × Bool × cE) := [(93, false, dE.f G k)]
noncomputable def eE.c (G : aF) (k : Nat) (self : cE) (x0 x1 : AV) (h : aB) : Option (AV × aB) := fE (
 aC (gB x1 h) fun v0 h0 =>
 aC (pu h0 (fS x0)) fun v1 h1 =>
 aC (pu h1 (aA 3 v1)) fun v2 h2 =>
 aC (pu h2 (aE G false 1 v2 h2)) fun v3 h3 =>
 aC (pu h3 (aA 2 v0)) fun v4 h4 =>
 aC (pu h4 (aE G false 1 v4 h4)) fun v5 h5 =>
 aC (pu h5 (aM 1 v3 v5)) fun v6 h6 =>
 aC (pu h6 (aE G false 1 v6 h6)) fun v7 h7 =>
 aC (pu h7 (aA 5 v0)) fun v8 h8 =>
 aC (pu h8 (aE G false 1 v8 h8)) fun v9 h9 =>
 aC (pu h9 (dJ .u64 v9)) fun v10 h10 =>
 aC (pu h10 (aX Tryd.prog .add 30 false v7 v10)) fun v11 h11 =>
 aC (pu h11 (dJ .i64 v11)) fun v12 h12 =>
 aC (bD (dE.f G k) [x0, (.int .i64 3), v12] h12) fun v13 h13 =>
 aC (pu h13 (fS x0)) fun v14 h14 =>
 aC (pu h14 (aA 5 v14)) fun v15 h15 =>
 aC (pu h15 (aA 1 v15)) fun v16 h16 =>
 aC (pu h16 (aE G false 1 v16 h16)) fun v17 h17 =>
 aC (pu h17 (dD v17)) fun v18 h18 =>
 aC (pu h18 (dJ .u64 v18)) fun v19 h19 =>
 aC (pu h19 (aX Tryd.prog .geq 30 false v11 v19)) fun v20 h20 =>
 aY v20
 (aC (pu h20 (fS x0)) fun v21 h21 =>
 aC (pu h21 (aA 5 v21)) fun v22 h22 =>
 aC (pu h22 (aA 0 v22)) fun v23 h23 =>
 aC (fM (aV 1 v23 (.int .i64 3) h23)) fun v24 h24 =>
 cH [(.bool false)] h.length h24)
 (aC (pu h20 (aA 0 v0)) fun v25 h25 =>
 aC (pu h25 (aE G false 1 v25 h25)) fun v26 h26 =>
 aC (pu h26 (aX Tryd.prog .eql 3 true v26 (.int .i64 15))) fun v27 h27 =>
 aY v27
 (aC (pu h27 (fS x0)) fun v28 h28 =>
 aC (pu h28 (aA 3 v28)) fun v29 h29 =>
 aC (pu h29 (aE G false 1 v29 h29)) fun v30 h30 =>
 aC (pu h30 (aA 1 v0)) fun v31 h31 =>
 aC (pu h31 (aE G false 1 v31 h31)) fun v32 h32 =>
 aC (pu h32 (fS x0)) fun v33 h33 =>
 aC (pu h33 (aA 5 v33)) fun v34 h34 =>
 aC (pu h34 (aA 1 v34)) fun v35 h35 =>
 aC (pu h35 (aE G false 1 v35 h35)) fun v36 h36 =>
 aC (pu h36 (aM 1 v36 v11)) fun v37 h37 =>
 aC (pu h37 (aE G false 1 v37 h37)) fun v38 h38 =>
 aC (pu h38 (aM 1 v30 v32)) fun v39 h39 =>
 aC (fM (aV 1 v39 v38 h39)) fun v40 h40 =>
 cH [(.bool true)] h.length h40)
 (aC (pu h27 (fS x0)) fun v41 h41 =>
 aC (pu h41 (aA 5 v41)) fun v42 h42 =>
 aC (pu h42 (aA 1 v42)) fun v43 h43 =>
 aC (pu h43 (aE G false 1 v43 h43)) fun v44 h44 =>
 aC (pu h44 (fS x0)) fun v45 h45 =>
 aC (pu h45 (aA 3 v45)) fun v46 h46 =>
 aC (pu h46 (aE G false 1 v46 h46)) fun v47 h47 =>
 aC (pu h47 (aA 3 v0)) fun v48 h48 =>
 aC (pu h48 (aE G false 1 v48 h48)) fun v49 h49 =>
 aC (pu h49 (aM 1 v47 v49)) fun v50 h50 =>
 aC (pu h50 (aE G false 1 v50 h50)) fun v51 h51 =>
 aC (pu h51 (aM 1 v44 v11)) fun v52 h52 =>
 aC (fM (aV 1 v52 v51 h52)) fun v53 h53 =>
 cH [(.bool true)] h.length h53)))
noncomputable def eE.f (G : aF) : Nat → cE
 | 0 => fun _ _ => none
 | k + 1 => fun args h => kC args fun x0 x1 => (eE.c G k (eE.f G k) x0 x1 h)
noncomputable def fT.ann : Ann := fD [] [] [] []
noncomputable def fT.env (G : aF) (k : Nat) (self : cE) : List (Nat × Bool × cE) := []
noncomputable def fT.c (G : aF) (k : Nat) (self : cE) (x0 : AV) (h : aB) : Option (AV × aB) := fE (
 aY x0
 (cH [(.int .u64 1)] h.length h)
 (cH [(.int .u64 0)] h.length h))
noncomputable def fT.f (G : aF) : Nat → cE
 | 0 => fun _ _ => none
 | k + 1 => fun args h => lS args fun x0 => (fT.c G k (fT.f G k) x0 h)
noncomputable def dW.ann : Ann := fD [] [] [] [(5, [0, 3])]
noncomputable def dW.env (G : aF) (k : Nat) (self : cE) : List (Nat × Bool × cE) := [(93, false, dE.f G k), (121, true, fT.f G k)]
noncomputable def dW.c (G : aF) (k : Nat) (self : cE) (x0 x1 : AV) (h : aB) : Option (AV × aB) := fE (
 aC (gB x1 h) fun v0 h0 =>
 eP (
 aC (pu h0 (aA 0 v0)) fun v1 h1 =>
 aC (pu h1 (aE G false 1 v1 h1)) fun v2 h2 =>
 aC (pu h2 (aX Tryd.prog .neq 3 true v2 (.int .i64 17))) fun v3 h3 =>
 aY v3
 (aC (pu h3 (fS x0)) fun v4 h4 =>
 aC (pu h4 (aA 3 v4)) fun v5 h5 =>
 aC (pu h5 (aE G false 1 v5 h5)) fun v6 h6 =>
 aC (pu h6 (aA 2 v0)) fun v7 h7 =>
 aC (pu h7 (aE G false 1 v7 h7)) fun v8 h8 =>
 aC (pu h8 (aM 1 v6 v8)) fun v9 h9 =>
 aC (pu h9 (aE G false 1 v9 h9)) fun v10 h10 =>
 aC (pu h10 (aX Tryd.prog .eql 30 true v10 (.int .u64 0))) fun v11 h11 =>
 aC (pu h11 (aA 0 v0)) fun v12 h12 =>
 aC (pu h12 (aE G false 1 v12 h12)) fun v13 h13 =>
 aC (pu h13 (aX Tryd.prog .eql 3 true v13 (.int .i64 18))) fun v14 h14 =>
 aC (pu h14 (aX Tryd.prog .eql 4 false v11 v14)) fun v15 h15 =>
 aC (aW (fT.f G k) [v15] h15) fun v16 h16 =>
 aC (pu h16 (dJ .i64 v16)) fun v17 h17 =>
 aC (bD (dE.f G k) [x0, (.int .i64 2), v17] h17) fun v18 h18 =>
 aC (pu h18 (un .not v15)) fun v19 h19 =>
 aY v19
 (some (.ret, [x0, v0], h19))
 (some (.normal, [x0, v0], h19)))
 (some (.normal, [x0, v0], h3))) fun e20 x20 h20 => iM e20
 (aC (pu h20 (aA 5 (aG x20 1))) fun v21 h21 =>
 aC (pu h21 (aE G false 1 v21 h21)) fun v22 h22 =>
 aC (pu h22 (fS (aG x20 0))) fun v23 h23 =>
 aC (pu h23 (aA 4 v23)) fun v24 h24 =>
 aC (fM (aV 1 v24 v22 h24)) fun v25 h25 =>
 cH [] h.length h25)
 (fun i20 => none)
 (cH [] h.length h20))
noncomputable def dW.f (G : aF) : Nat → cE
 | 0 => fun _ _ => none
 | k + 1 => fun args h => kC args fun x0 x1 => (dW.c G k (dW.f G k) x0 x1 h)
noncomputable def cA.ann : Ann := fD [] [] [] []
noncomputable def cA.env (G : aF) (k : Nat) (self : cE) : List (Nat × Bool × cE) := []
noncomputable def cA.c (G : aF) (k : Nat) (self : cE) (x0 x1 : AV) (h : aB) : Option (AV × aB) := fE (
 aC (pu h (aX Tryd.prog .and 30 true x0 (.int .u64 4294967295))) fun v0 h0 =>
 aC (pu h0 (aX Tryd.prog .shr 30 true x0 (.int .u64 32))) fun v1 h1 =>
 aC (pu h1 (aX Tryd.prog .and 30 true x1 (.int .u64 4294967295))) fun v2 h2 =>
 aC (pu h2 (aX Tryd.prog .shr 30 true x1 (.int .u64 32))) fun v3 h3 =>
 aC (pu h3 (aX Tryd.prog .mul 30 false v0 v2)) fun v4 h4 =>
 aC (pu h4 (aX Tryd.prog .mul 30 false v1 v2)) fun v5 h5 =>
 aC (pu h5 (aX Tryd.prog .shr 30 true v4 (.int .u64 32))) fun v6 h6 =>
 aC (pu h6 (aX Tryd.prog .add 30 false v5 v6)) fun v7 h7 =>
 aC (pu h7 (aX Tryd.prog .and 30 true v7 (.int .u64 4294967295))) fun v8 h8 =>
 aC (pu h8 (aX Tryd.prog .shr 30 true v7 (.int .u64 32))) fun v9 h9 =>
 aC (pu h9 (aX Tryd.prog .mul 30 false v0 v3)) fun v10 h10 =>
 aC (pu h10 (aX Tryd.prog .add 30 false v8 v10)) fun v11 h11 =>
 aC (pu h11 (aX Tryd.prog .mul 30 false v1 v3)) fun v12 h12 =>
 aC (pu h12 (aX Tryd.prog .add 30 false v12 v9)) fun v13 h13 =>
 aC (pu h13 (aX Tryd.prog .shr 30 true v11 (.int .u64 32))) fun v14 h14 =>
 aC (pu h14 (aX Tryd.prog .add 30 false v13 v14)) fun v15 h15 =>
 aC (pu h15 (aX Tryd.prog .mul 30 false x0 x1)) fun v16 h16 =>
 cH [v15, v16] h.length h16)
noncomputable def cA.f (G : aF) : Nat → cE
 | 0 => fun _ _ => none
 | k + 1 => fun args h => kC args fun x0 x1 => (cA.c G k (cA.f G k) x0 x1 h)
theorem cA.step (G : aF) (k : Nat) (x0 x1 : AV) (h : aB) : cA.f G (k + 1) [x0, x1] h = cA.c G k (cA.f G k) x0 x1 h := rfl
noncomputable def eQ.ann : Ann := fD [] [] [] []
noncomputable def eQ.env (G : aF) (k : Nat) (self : cE) : List (Nat × Bool × cE) := []
noncomputable def eQ.c (G : aF) (k : Nat) (self : cE) (x0 x1 : AV) (h : aB) : Option (AV × aB) := fE (
 aC (gB x0 h) fun v0 h0 =>
 aC (pu h0 (aA 5 v0)) fun v1 h1 =>
 aC (pu h1 (aE G false 1 v1 h1)) fun v2 h2 =>
 aC (pu h2 (aX Tryd.prog .lss 2 true v2 (.int .i64 0))) fun v3 h3 =>
 aC (gd v3 false h3 (pu h3 (aA 5 v0))) fun v4 h4 =>
 aC (gd v3 false h4 (pu h4 (aE G false 1 v4 h4))) fun v5 h5 =>
 aC (gd v3 false h5 (pu h5 (aX Tryd.prog .gtr 2 true v5 (.int .i64 63)))) fun v6 h6 =>
 aC (pu h6 (eH v3 (.bool true) v6)) fun v7 h7 =>
 aY v7
 (cH [(.int .u64 0), (.bool false)] h.length h7)
 (aC (pu h7 (aA 0 v0)) fun v8 h8 =>
 aC (pu h8 (aE G false 1 v8 h8)) fun v9 h9 =>
 aC (pu h9 (aX Tryd.prog .eql 3 true v9 (.int .i64 10))) fun v10 h10 =>
 aY v10
 (aC (pu h10 (aA 5 v0)) fun v11 h11 =>
 aC (pu h11 (aE G false 1 v11 h11)) fun v12 h12 =>
 aC (pu h12 (aX Tryd.prog .shl 30 false x1 v12)) fun v13 h13 =>
 cH [v13, (.bool true)] h.length h13)
 (aC (pu h10 (aA 0 v0)) fun v14 h14 =>
 aC (pu h14 (aE G false 1 v14 h14)) fun v15 h15 =>
 aC (pu h15 (aX Tryd.prog .eql 3 true v15 (.int .i64 11))) fun v16 h16 =>
 aY v16
 (aC (pu h16 (aA 5 v0)) fun v17 h17 =>
 aC (pu h17 (aE G false 1 v17 h17)) fun v18 h18 =>
 aC (pu h18 (aX Tryd.prog .shr 30 false x1 v18)) fun v19 h19 =>
 cH [v19, (.bool true)] h.length h19)
 (aC (pu h16 (dJ .i64 x1)) fun v20 h20 =>
 aC (pu h20 (aA 5 v0)) fun v21 h21 =>
 aC (pu h21 (aE G false 1 v21 h21)) fun v22 h22 =>
 aC (pu h22 (aX Tryd.prog .shr 2 false v20 v22)) fun v23 h23 =>
 aC (pu h23 (dJ .u64 v23)) fun v24 h24 =>
 cH [v24, (.bool true)] h.length h24))))
noncomputable def eQ.f (G : aF) : Nat → cE
 | 0 => fun _ _ => none
 | k + 1 => fun args h => kC args fun x0 x1 => (eQ.c G k (eQ.f G k) x0 x1 h)
noncomputable def fJ.ann : Ann := fD [] [] [] [(24, [1, 2, 3, 4, 13, 61])]
noncomputable def fJ.env (G : aF) (k : Nat) (self : cE) : List (Nat × Bool × cE) := [(85, true, cA.f G k), (121, true, fT.f G k), (122, true, eQ.f G k)]
noncomputable def fJ.c (G : aF) (k : Nat) (self : cE) (x0 x1 x2 x3 : AV) (h : aB) : Option (AV × aB) := fE (
 aC (gB x0 h) fun v0 h0 =>
 aC (pu h0 (aA 0 v0)) fun v1 h1 =>
 aC (pu h1 (aE G false 1 v1 h1)) fun v2 h2 =>
 aC (pu h2 (aX Tryd.prog .eql 3 true v2 (.int .i64 1))) fun v3 h3 =>
 aY v3
 (aC (pu h3 (aA 5 v0)) fun v4 h4 =>
 aC (pu h4 (aE G false 1 v4 h4)) fun v5 h5 =>
 aC (pu h5 (dJ .u64 v5)) fun v6 h6 =>
 cH [v6, (.bool true)] h.length h6)
 (aC (pu h3 (aX Tryd.prog .eql 3 true v2 (.int .i64 2))) fun v7 h7 =>
 aY v7
 (cH [x1, (.bool true)] h.length h7)
 (aC (pu h7 (aX Tryd.prog .eql 3 true v2 (.int .i64 3))) fun v8 h8 =>
 aY v8
 (aC (pu h8 (aX Tryd.prog .add 30 false x1 x2)) fun v9 h9 =>
 cH [v9, (.bool true)] h.length h9)
 (aC (pu h8 (aX Tryd.prog .eql 3 true v2 (.int .i64 4))) fun v10 h10 =>
 aY v10
 (aC (pu h10 (aX Tryd.prog .sub 30 false x1 x2)) fun v11 h11 =>
 cH [v11, (.bool true)] h.length h11)
 (aC (pu h10 (aX Tryd.prog .eql 3 true v2 (.int .i64 5))) fun v12 h12 =>
 aY v12
 (aC (pu h12 (aX Tryd.prog .mul 30 false x1 x2)) fun v13 h13 =>
 cH [v13, (.bool true)] h.length h13)
 (aC (pu h12 (aX Tryd.prog .eql 3 true v2 (.int .i64 6))) fun v14 h14 =>
 aY v14
 (aC (aW (cA.f G k) [x1, x2] h14) fun v15 h15 =>
 aC (pu h15 (cU v15 0)) fun v16 h16 =>
 aC (pu h16 (cU v15 1)) fun v17 h17 =>
 cH [v16, (.bool true)] h.length h17)
 (aC (pu h14 (aX Tryd.prog .eql 3 true v2 (.int .i64 7))) fun v18 h18 =>
 aY v18
 (aC (pu h18 (aX Tryd.prog .and 30 false x1 x2)) fun v19 h19 =>
 cH [v19, (.bool true)] h.length h19)
 (aC (pu h18 (aX Tryd.prog .eql 3 true v2 (.int .i64 8))) fun v20 h20 =>
 aY v20
 (aC (pu h20 (aX Tryd.prog .or 30 false x1 x2)) fun v21 h21 =>
 cH [v21, (.bool true)] h.length h21)
 (aC (pu h20 (aX Tryd.prog .eql 3 true v2 (.int .i64 9))) fun v22 h22 =>
 aY v22
 (aC (pu h22 (aX Tryd.prog .xor 30 false x1 x2)) fun v23 h23 =>
 cH [v23, (.bool true)] h.length h23)
 (eP (
 aC (pu h22 (aX Tryd.prog .eql 3 true v2 (.int .i64 10))) fun v24 h24 =>
 aY v24
 (some (.normal, [x1, x2, x3, v0, v2, v24], h24))
 (aC (pu h24 (aX Tryd.prog .eql 3 true v2 (.int .i64 11))) fun v25 h25 =>
 aY v25
 (some (.normal, [x1, x2, x3, v0, v2, v25], h25))
 (aC (pu h25 (aX Tryd.prog .eql 3 true v2 (.int .i64 12))) fun v26 h26 =>
 some (.normal, [x1, x2, x3, v0, v2, v26], h26)))) fun e27 x27 h27 => iM e27
 (aY (aG x27 5)
 (aC (pu h27 (aE G true 6 (aG x27 3) h27)) fun v28 h28 =>
 aC (aW (eQ.f G k) [v28, (aG x27 0)] h28) fun v29 h29 =>
 aC (pu h29 (cU v29 0)) fun v30 h30 =>
 aC (pu h30 (cU v29 1)) fun v31 h31 =>
 cH [v30, v31] h.length h31)
 (aC (pu h27 (aX Tryd.prog .eql 3 true (aG x27 4) (.int .i64 13))) fun v32 h32 =>
 aY v32
 (aC (pu h32 (aX Tryd.prog .lss 30 false (aG x27 0) (aG x27 1))) fun v33 h33 =>
 aC (aW (fT.f G k) [v33] h33) fun v34 h34 =>
 cH [v34, (.bool true)] h.length h34)
 (aC (pu h32 (aX Tryd.prog .eql 3 true (aG x27 4) (.int .i64 14))) fun v35 h35 =>
 aY v35
 (aC (pu h35 (aX Tryd.prog .neq 30 true (aG x27 0) (.int .u64 0))) fun v36 h36 =>
 aY v36
 (cH [(aG x27 1), (.bool true)] h.length h36)
 (cH [(aG x27 2), (.bool true)] h.length h36))
 (cH [(.int .u64 0), (.bool false)] h.length h35))))
 (fun i27 => if i27 = 0 then (cH [(.int .u64 0), (.bool false)] h.length h27) else (none))
 (cH [.undef, .undef] h.length h27)))))))))))
noncomputable def fJ.f (G : aF) : Nat → cE
 | 0 => fun _ _ => none
 | k + 1 => fun args h => aAm args fun x0 x1 x2 x3 => (fJ.c G k (fJ.f G k) x0 x1 x2 x3 h)
noncomputable def eO.ann : Ann := fD [] [] [] [(14, [0, 3, 4]), (9, [0, 3, 15, 22]), (5, [0, 3, 15, 16])]
noncomputable def eO.env (G : aF) (k : Nat) (self : cE) : List (Nat × Bool × cE) := [(110, false, eE.f G k), (111, false, dW.f G k), (112, true, fJ.f G k)]
noncomputable def eO.c (G : aF) (k : Nat) (self : cE) (x0 x1 : AV) (h : aB) : Option (AV × aB) := fE (
 aC (gB x1 h) fun v0 h0 =>
 aC (pu h0 (fS x0)) fun v1 h1 =>
 aC (pu h1 (aA 4 v1)) fun v2 h2 =>
 aC (pu h2 (aE G false 1 v2 h2)) fun v3 h3 =>
 aC (pu h3 (aX Tryd.prog .add 3 true v3 (.int .i64 1))) fun v4 h4 =>
 aC (pu h4 (fS x0)) fun v5 h5 =>
 aC (pu h5 (aA 4 v5)) fun v6 h6 =>
 aC (fM (aV 1 v6 v4 h6)) fun v7 h7 =>
 eP (
 aC (pu h7 (aA 0 v0)) fun v8 h8 =>
 aC (pu h8 (aE G false 1 v8 h8)) fun v9 h9 =>
 eP (
 aC (pu h9 (aX Tryd.prog .eql 3 true v9 (.int .i64 15))) fun v10 h10 =>
 aY v10
 (some (.normal, [x0, v0, v9, v10], h10))
 (aC (pu h10 (aX Tryd.prog .eql 3 true v9 (.int .i64 16))) fun v11 h11 =>
 some (.normal, [x0, v0, v9, v11], h11))) fun e12 x12 h12 => iM e12
 (aY (aG x12 3)
 (aC (pu h12 (aE G true 6 (aG x12 1) h12)) fun v13 h13 =>
 aC (bD (eE.f G k) [(aG x12 0), v13] h13) fun v14 h14 =>
 some (.ret, [(aG x12 0), (aG x12 1), v14], h14))
 (eP (
 aC (pu h12 (aX Tryd.prog .eql 3 true (aG x12 2) (.int .i64 17))) fun v15 h15 =>
 aY v15
 (some (.normal, [(aG x12 0), (aG x12 1), (aG x12 2), v15], h15))
 (aC (pu h15 (aX Tryd.prog .eql 3 true (aG x12 2) (.int .i64 18))) fun v16 h16 =>
 aY v16
 (some (.normal, [(aG x12 0), (aG x12 1), (aG x12 2), v16], h16))
 (aC (pu h16 (aX Tryd.prog .eql 3 true (aG x12 2) (.int .i64 19))) fun v17 h17 =>
 some (.normal, [(aG x12 0), (aG x12 1), (aG x12 2), v17], h17)))) fun e18 x18 h18 => iM e18
 (aY (aG x18 3)
 (aC (pu h18 (aE G true 6 (aG x18 1) h18)) fun v19 h19 =>
 aC (bD (dW.f G k) [(aG x18 0), v19] h19) fun v20 h20 =>
 some (.ret, [(aG x18 0), (aG x18 1), (.bool true)], h20))
 (aC (pu h18 (aX Tryd.prog .eql 3 true (aG x18 2) (.int .i64 20))) fun v21 h21 =>
 aY v21
 (aC (pu h21 (aA 5 (aG x18 1))) fun v22 h22 =>
 aC (pu h22 (aE G false 1 v22 h22)) fun v23 h23 =>
 aC (pu h23 (fS (aG x18 0))) fun v24 h24 =>
 aC (pu h24 (aA 5 v24)) fun v25 h25 =>
 aC (pu h25 (aA 0 v25)) fun v26 h26 =>
 aC (fM (aV 1 v26 v23 h26)) fun v27 h27 =>
 some (.ret, [(aG x18 0), (aG x18 1), (.bool false)], h27))
 (some (.normal, [(aG x18 0), (aG x18 1), .undef], h21))))
 (fun i18 => if i18 = 0 then (some (.normal, [(aG x18 0), (aG x18 1), .undef], h18)) else (some (.exit i18, [(aG x18 0), (aG x18 1), .undef], h18)))
 (some (.ret, [(aG x18 0), (aG x18 1), .undef], h18))))
 (fun i12 => if i12 = 0 then (some (.normal, [(aG x12 0), (aG x12 1), .undef], h12)) else (some (.exit i12, [(aG x12 0), (aG x12 1), .undef], h12)))
 (some (.ret, [(aG x12 0), (aG x12 1), .undef], h12))) fun e28 x28 h28 => iM e28
 (aC (pu h28 (aE G true 6 (aG x28 1) h28)) fun v29 h29 =>
 aC (pu h29 (fS (aG x28 0))) fun v30 h30 =>
 aC (pu h30 (aA 3 v30)) fun v31 h31 =>
 aC (pu h31 (aE G false 1 v31 h31)) fun v32 h32 =>
 aC (pu h32 (aA 2 (aG x28 1))) fun v33 h33 =>
 aC (pu h33 (aE G false 1 v33 h33)) fun v34 h34 =>
 aC (pu h34 (aM 1 v32 v34)) fun v35 h35 =>
 aC (pu h35 (aE G false 1 v35 h35)) fun v36 h36 =>
 aC (pu h36 (fS (aG x28 0))) fun v37 h37 =>
 aC (pu h37 (aA 3 v37)) fun v38 h38 =>
 aC (pu h38 (aE G false 1 v38 h38)) fun v39 h39 =>
 aC (pu h39 (aA 3 (aG x28 1))) fun v40 h40 =>
 aC (pu h40 (aE G false 1 v40 h40)) fun v41 h41 =>
 aC (pu h41 (aM 1 v39 v41)) fun v42 h42 =>
 aC (pu h42 (aE G false 1 v42 h42)) fun v43 h43 =>
 aC (pu h43 (fS (aG x28 0))) fun v44 h44 =>
 aC (pu h44 (aA 3 v44)) fun v45 h45 =>
 aC (pu h45 (aE G false 1 v45 h45)) fun v46 h46 =>
 aC (pu h46 (aA 4 (aG x28 1))) fun v47 h47 =>
 aC (pu h47 (aE G false 1 v47 h47)) fun v48 h48 =>
 aC (pu h48 (aM 1 v46 v48)) fun v49 h49 =>
 aC (pu h49 (aE G false 1 v49 h49)) fun v50 h50 =>
 aC (aW (fJ.f G k) [v29, v36, v43, v50] h50) fun v51 h51 =>
 aC (pu h51 (cU v51 0)) fun v52 h52 =>
 aC (pu h52 (cU v51 1)) fun v53 h53 =>
 aY v53
 (aC (pu h53 (fS (aG x28 0))) fun v54 h54 =>
 aC (pu h54 (aA 3 v54)) fun v55 h55 =>
 aC (pu h55 (aE G false 1 v55 h55)) fun v56 h56 =>
 aC (pu h56 (aA 1 (aG x28 1))) fun v57 h57 =>
 aC (pu h57 (aE G false 1 v57 h57)) fun v58 h58 =>
 aC (pu h58 (aM 1 v56 v58)) fun v59 h59 =>
 aC (fM (aV 1 v59 v52 h59)) fun v60 h60 =>
 cH [(.bool true)] h.length h60)
 (cH [(.bool true)] h.length h53))
 (fun i28 => none)
 (cH [(aG x28 2)] h.length h28))
noncomputable def eO.f (G : aF) : Nat → cE
 | 0 => fun _ _ => none
 | k + 1 => fun args h => kC args fun x0 x1 => (eO.c G k (eO.f G k) x0 x1 h)
noncomputable def eY.ann : Ann := aDM [15] [] [(3, [2, 3, 4, 8, 9])] [] [(3, [(9, 7, 91, 2)])] []
noncomputable def eY.env (G : aF) (k : Nat) (self : cE) : List (Nat × Bool × cE) := [(92, false, bL.f G k), (93, false, dE.f G k), (94, false, eO.f G k)]
noncomputable def eY.l3 (G : aF) (k n0 : Nat) (self : cE) (lp : eU) : eU := fun xs h0 => iX n0 xs h0 fun h =>
 aC (pu h (fS (aG xs 4))) fun v14 h14 =>
 aC (pu h14 (aA 4 v14)) fun v15 h15 =>
 aC (pu h15 (aE G false 1 v15 h15)) fun v16 h16 =>
 aC (pu h16 (aA 0 (aG xs 2))) fun v17 h17 =>
 aC (pu h17 (aE G false 1 v17 h17)) fun v18 h18 =>
 aC (pu h18 (dD v18)) fun v19 h19 =>
 aC (pu h19 (aX Tryd.prog .geq 3 false v16 v19)) fun v20 h20 =>
 aY v20
 (aC (pu h20 (fS (aG xs 4))) fun v21 h21 =>
 aC (pu h21 (aA 5 v21)) fun v22 h22 =>
 aC (pu h22 (aA 0 v22)) fun v23 h23 =>
 aC (fM (aV 1 v23 (.int .i64 3) h23)) fun v24 h24 =>
 aC (pu h24 (fS (aG xs 4))) fun v25 h25 =>
 aC (pu h25 (aA 5 v25)) fun v26 h26 =>
 aC (pu h26 (aE G true 4 v26 h26)) fun v27 h27 =>
 aC (fM (aV 4 (aG xs 3) v27 h27)) fun v28 h28 =>
 some (.ret, [(aG xs 0), (aG xs 1), (aG xs 2), (aG xs 3), (aG xs 4)], h28))
 (aC (pu h20 (fS (aG xs 4))) fun v29 h29 =>
 aC (pu h29 (aA 5 v29)) fun v30 h30 =>
 aC (pu h30 (aA 3 v30)) fun v31 h31 =>
 aC (pu h31 (aE G false 1 v31 h31)) fun v32 h32 =>
 aC (pu h32 (aX Tryd.prog .eql 2 false v32 (aG xs 0))) fun v33 h33 =>
 aY v33
 (aC (pu h33 (fS (aG xs 4))) fun v34 h34 =>
 aC (pu h34 (aA 5 v34)) fun v35 h35 =>
 aC (pu h35 (aA 0 v35)) fun v36 h36 =>
 aC (fM (aV 1 v36 (.int .i64 4) h36)) fun v37 h37 =>
 aC (pu h37 (fS (aG xs 4))) fun v38 h38 =>
 aC (pu h38 (aA 5 v38)) fun v39 h39 =>
 aC (pu h39 (aE G true 4 v39 h39)) fun v40 h40 =>
 aC (fM (aV 4 (aG xs 3) v40 h40)) fun v41 h41 =>
 some (.ret, [(aG xs 0), (aG xs 1), (aG xs 2), (aG xs 3), (aG xs 4)], h41))
 (aC (pu h33 (aX Tryd.prog .neq 144 true (aG xs 1) .nilf)) fun v42 h42 =>
 aC (gd v42 true h42 (some ((aG xs 1), h42))) fun v43 h43 =>
 aC (gd v42 true h43 (some ((aG xs 4), h43))) fun v44 h44 =>
 aC (gd v42 true h44 (pu h44 (fS v44))) fun v45 h45 =>
 aC (gd v42 true h45 (pu h45 (aA 4 v45))) fun v46 h46 =>
 aC (gd v42 true h46 (pu h46 (aE G false 1 v46 h46))) fun v47 h47 =>
 aC (gd v42 true h47 (some ((aG xs 4), h47))) fun v48 h48 =>
 aC (gd v42 true h48 (pu h48 (fS v48))) fun v49 h49 =>
 aC (gd v42 true h49 (pu h49 (aA 3 v49))) fun v50 h50 =>
 aC (gd v42 true h50 (pu h50 (aE G false 1 v50 h50))) fun v51 h51 =>
 aC (gd v42 true h51 (lE (fL (eY.env G k self)) v43 [v47, v51] h51)) fun v52 h52 =>
 aC (gd v42 true h52 (pu h52 (un .not v52))) fun v53 h53 =>
 aC (pu h53 (eH v42 v53 (.bool false))) fun v54 h54 =>
 aY v54
 (aC (pu h54 (fS (aG xs 4))) fun v55 h55 =>
 aC (pu h55 (aA 5 v55)) fun v56 h56 =>
 aC (pu h56 (aE G true 4 v56 h56)) fun v57 h57 =>
 aC (fM (aV 4 (aG xs 3) v57 h57)) fun v58 h58 =>
 some (.ret, [(aG xs 0), (aG xs 1), (aG xs 2), (aG xs 3), (aG xs 4)], h58))
 (aC (pu h54 (fS (aG xs 4))) fun v59 h59 =>
 aC (pu h59 (aA 5 v59)) fun v60 h60 =>
 aC (pu h60 (aA 3 v60)) fun v61 h61 =>
 aC (pu h61 (aE G false 1 v61 h61)) fun v62 h62 =>
 aC (pu h62 (aX Tryd.prog .add 2 true v62 (.int .i64 1))) fun v63 h63 =>
 aC (pu h63 (fS (aG xs 4))) fun v64 h64 =>
 aC (pu h64 (aA 5 v64)) fun v65 h65 =>
 aC (pu h65 (aA 3 v65)) fun v66 h66 =>
 aC (fM (aV 1 v66 v63 h66)) fun v67 h67 =>
 aC (pu h67 (fS (aG xs 4))) fun v68 h68 =>
 aC (pu h68 (aA 4 v68)) fun v69 h69 =>
 aC (pu h69 (aE G false 1 v69 h69)) fun v70 h70 =>
 aC (bD (dE.f G k) [(aG xs 4), (.int .i64 1), v70] h70) fun v71 h71 =>
 aC (pu h71 (aA 0 (aG xs 2))) fun v72 h72 =>
 aC (pu h72 (aE G false 1 v72 h72)) fun v73 h73 =>
 aC (pu h73 (fS (aG xs 4))) fun v74 h74 =>
 aC (pu h74 (aA 4 v74)) fun v75 h75 =>
 aC (pu h75 (aE G false 1 v75 h75)) fun v76 h76 =>
 aC (pu h76 (aM 6 v73 v76)) fun v77 h77 =>
 aC (pu h77 (aE G true 6 v77 h77)) fun v78 h78 =>
 aC (bD (eO.f G k) [(aG xs 4), v78] h78) fun v79 h79 =>
 aC (pu h79 (un .not v79)) fun v80 h80 =>
 aY v80
 (aC (pu h80 (fS (aG xs 4))) fun v81 h81 =>
 aC (pu h81 (aA 5 v81)) fun v82 h82 =>
 aC (pu h82 (aE G true 4 v82 h82)) fun v83 h83 =>
 aC (fM (aV 4 (aG xs 3) v83 h83)) fun v84 h84 =>
 some (.ret, [(aG xs 0), (aG xs 1), (aG xs 2), (aG xs 3), (aG xs 4)], h84))
 (lp [(aG xs 0), (aG xs 1), (aG xs 2), (aG xs 3), (aG xs 4)] h80))))
noncomputable def eY.c (G : aF) (k : Nat) (self : cE) (x0 x1 x2 x3 : AV) (h : aB) : Option (AV × aB) := fE (
 aC (gB x0 h) fun v0 h0 =>
 aC (fR 73 (.agg [(.int .i64 0), .nils, .nils, (.int .i64 0)]) h0) fun v1 h1 =>
 aC (pu h1 (aE G true 3 v0 h1)) fun v2 h2 =>
 aC (pu h2 (aA 1 v0)) fun v3 h3 =>
 aC (pu h3 (aE G false 1 v3 h3)) fun v4 h4 =>
 aC (eW 30 1 (.int .u64 0) v4 v4 h4) fun v5 h5 =>
 aC (pu h5 (cP [(0, 3), (3, 1), (4, 1), (5, 4)] [.nils, (.int .i64 0), (.int .i64 0), .nils, (.int .i64 0), (.int .i64 0), .nils, .nils, (.int .i64 0)] [(0, v2), (1, v5)])) fun v6 h6 =>
 aC (fR 147 v6 h6) fun v7 h7 =>
 aC (bD (bL.f G k) [x1] h7) fun v8 h8 =>
 aC (pu h8 (fS v7)) fun v9 h9 =>
 aC (pu h9 (aA 5 v9)) fun v10 h10 =>
 aC (pu h10 (aA 1 v10)) fun v11 h11 =>
 aC (fM (aV 1 v11 v8 h11)) fun v12 h12 =>
 vK [(v7, 7, 91, 2)] h12 fun hv13 =>
 eP (dK (eY.l3 G k hv13.length self) k [x2, x3, v0, v1, v7] hv13) fun e13 x13 h13 => iM e13
 (none)
 (fun i13 => if i13 = 0 then (iB [aE G true 4 (aG x13 3) h13] h.length h13) else (none))
 (iB [aE G true 4 (aG x13 3) h13] h.length h13))
noncomputable def eY.f (G : aF) : Nat → cE
 | 0 => fun _ _ => none
 | k + 1 => fun args h => aAm args fun x0 x1 x2 x3 => (eY.c G k (eY.f G k) x0 x1 x2 x3 h)
noncomputable def gG.ann : Ann := fD [] [] [] []
noncomputable def gG.env (G : aF) (k : Nat) (self : cE) : List (Nat × Bool × cE) := [(43, true, cX.f G k), (69, true, fI.f G k), (70, false, eY.f G k)]
noncomputable def gG.c (G : aF) (k : Nat) (self : cE) (x0 x1 x2 : AV) (h : aB) : Option (AV × aB) := fE (
 aC (gB x0 h) fun v0 h0 =>
 aC (fR 73 (.agg [(.int .i64 0), .nils, .nils, (.int .i64 0)]) h0) fun v1 h1 =>
 aC (pu h1 (aE G true 3 v0 h1)) fun v2 h2 =>
 aC (aW (cX.f G k) [v2] h2) fun v3 h3 =>
 aC (pu h3 (aX Tryd.prog .neq 33 true v3 .nili)) fun v4 h4 =>
 aY v4
 (aC (pu h4 (cP [(0, 1), (1, 1), (2, 1), (3, 1)] [(.int .i64 0), .nils, .nils, (.int .i64 0)] [])) fun v5 h5 =>
 aC (fM (aV 4 v1 v5 h5)) fun v6 h6 =>
 iB [aE G true 4 v1 h6, some v3] h.length h6)
 (aC (pu h4 (aE G true 3 v0 h4)) fun v7 h7 =>
 aC (aW (fI.f G k) [v7, x1, x2] h7) fun v8 h8 =>
 aC (pu h8 (aX Tryd.prog .neq 33 true v8 .nili)) fun v9 h9 =>
 aY v9
 (aC (pu h9 (cP [(0, 1), (1, 1), (2, 1), (3, 1)] [(.int .i64 0), .nils, .nils, (.int .i64 0)] [])) fun v10 h10 =>
 aC (fM (aV 4 v1 v10 h10)) fun v11 h11 =>
 iB [aE G true 4 v1 h11, some v8] h.length h11)
 (aC (pu h9 (aE G true 3 v0 h9)) fun v12 h12 =>
 aC (bD (eY.f G k) [v12, x1, x2, .nilf] h12) fun v13 h13 =>
 aC (fM (aV 4 v1 v13 h13)) fun v14 h14 =>
 iB [aE G true 4 v1 h14, some .nili] h.length h14)))
noncomputable def gG.f (G : aF) : Nat → cE
 | 0 => fun _ _ => none
 | k + 1 => fun args h => vX args fun x0 x1 x2 => (gG.c G k (gG.f G k) x0 x1 x2 h)
noncomputable def cQ.ann : Ann := fD [] [] [] []
noncomputable def cQ.env (G : aF) (k : Nat) (self : cE) : List (Nat × Bool × cE) := [(13, true, cF.f G k), (39, true, gG.f G k)]
noncomputable def cQ.c (G : aF) (k : Nat) (self : cE) (h : aB) : Option (AV × aB) := fE (
 aC (pu h (cP [(0, 1), (1, 1), (2, 1), (3, 1), (4, 1), (5, 1)] [(.int .i64 0), (.int .i64 0), (.int .i64 0), (.int .i64 0), (.int .i64 0), (.int .i64 0)] [(0, (.int .i64 20))])) fun v0 h0 =>
 aC (fQ 6 1 (.agg [(.int .i64 0), (.int .i64 0), (.int .i64 0), (.int .i64 0), (.int .i64 0), (.int .i64 0)]) [(0, v0)] h0) fun v1 h1 =>
 aC (pu h1 (cP [(0, 1), (1, 1), (2, 1)] [.nils, (.int .i64 0), (.int .i64 0)] [(0, v1)])) fun v2 h2 =>
 aC (aW (cF.f G k) [v2, (.int .i64 6)] h2) fun v3 h3 =>
 aC (pu h3 (cU v3 0)) fun v4 h4 =>
 aC (pu h4 (cU v3 1)) fun v5 h5 =>
 aC (fR 27 (.agg [.nils, (.int .i64 0), (.int .i64 0)]) h5) fun v6 h6 =>
 aC (fM (aV 3 v6 v4 h6)) fun v7 h7 =>
 aC (pu h7 (aE G true 3 v6 h7)) fun v8 h8 =>
 aC (pu h8 (aA 2 v6)) fun v9 h9 =>
 aC (pu h9 (aE G false 1 v9 h9)) fun v10 h10 =>
 aC (pu h10 (rU zJ v10 [(.int .i64 0)])) fun v11 h11 =>
 aC (eW 30 1 (.int .u64 0) v11 v11 h11) fun v12 h12 =>
 aC (aW (gG.f G k) [v8, v12, (.int .i64 100)] h12) fun v13 h13 =>
 aC (pu h13 (cU v13 0)) fun v14 h14 =>
 aC (pu h14 (cU v13 1)) fun v15 h15 =>
 aC (fR 73 (.agg [(.int .i64 0), .nils, .nils, (.int .i64 0)]) h15) fun v16 h16 =>
 aC (fM (aV 4 v16 v14 h16)) fun v17 h17 =>
 aC (pu h17 (aX Tryd.prog .eql 33 true v5 .nili)) fun v18 h18 =>
 aC (gd v18 true h18 (some (v15, h18))) fun v19 h19 =>
 aC (gd v18 true h19 (pu h19 (aX Tryd.prog .eql 33 true v19 .nili))) fun v20 h20 =>
 aC (pu h20 (eH v18 v20 (.bool false))) fun v21 h21 =>
 aC (gd v21 true h21 (pu h21 (aA 0 v6))) fun v22 h22 =>
 aC (gd v21 true h22 (pu h22 (aE G false 1 v22 h22))) fun v23 h23 =>
 aC (gd v21 true h23 (pu h23 (dD v23))) fun v24 h24 =>
 aC (gd v21 true h24 (pu h24 (aX Tryd.prog .gtr 3 true v24 (.int .i64 0)))) fun v25 h25 =>
 aC (pu h25 (eH v21 v25 (.bool false))) fun v26 h26 =>
 aC (gd v26 true h26 (pu h26 (aA 0 v16))) fun v27 h27 =>
 aC (gd v26 true h27 (pu h27 (aE G false 1 v27 h27))) fun v28 h28 =>
 aC (gd v26 true h28 (pu h28 (aX Tryd.prog .eql 3 true v28 (.int .i64 0)))) fun v29 h29 =>
 aC (pu h29 (eH v26 v29 (.bool false))) fun v30 h30 =>
 cH [v30] h.length h30)
noncomputable def cQ.f (G : aF) : Nat → cE
 | 0 => fun _ _ => none
 | k + 1 => fun args h => aHZ args (cQ.c G k (cQ.f G k) h)
noncomputable def bQ.ann : Ann := fD [] [2] [(3, [0, 3, 4])] []
noncomputable def bQ.env (G : aF) (k : Nat) (self : cE) : List (Nat × Bool × cE) := []
noncomputable def bQ.l3 (G : aF) (k n0 : Nat) (self : cE) (lp : eU) : eU := fun xs h0 => iX n0 xs h0 fun h =>
 aC (pu h (dD (aG xs 0))) fun v4 h4 =>
 aC (pu h4 (aX Tryd.prog .lss 3 false (aG xs 2) v4)) fun v5 h5 =>
 aY v5
 (aC (pu h5 (aM 1 (aG xs 0) (aG xs 2))) fun v6 h6 =>
 aC (pu h6 (aE G false 1 v6 h6)) fun v7 h7 =>
 aC (fQ 1 1 (.int .u64 0) [(0, v7)] h7) fun v8 h8 =>
 aC (fU 30 1 (aG xs 1) v8 h8) fun v9 h9 =>
 aC (pu h9 (aX Tryd.prog .add 3 true (aG xs 2) (.int .i64 1))) fun v10 h10 =>
 lp [(aG xs 0), v9, v10] h10)
 (some (.exit 0, [(aG xs 0), (aG xs 1), (aG xs 2)], h5))
noncomputable def bQ.c (G : aF) (k : Nat) (self : cE) (x0 : AV) (h : aB) : Option (AV × aB) := fE (
 aC (some (.sl h.length 0 0 0 1, h ++ [⟨30, 1, []⟩])) fun v0 h0 =>
 aC (pu h0 (dD x0)) fun v1 h1 =>
 aC (eW 30 1 (.int .u64 0) (.int .i64 0) v1 h1) fun v2 h2 =>
 eP (dK (bQ.l3 G k h2.length self) k [x0, v2, (.int .i64 0)] h2) fun e3 x3 h3 => iM e3
 (none)
 (fun i3 => if i3 = 0 then (uX [(aG x3 1)] h3) else (none))
 (uX [.undef] h3))
noncomputable def bQ.f (G : aF) : Nat → cE
 | 0 => fun _ _ => none
 | k + 1 => fun args h => lS args fun x0 => (bQ.c G k (bQ.f G k) x0 h)
theorem bQ.step (G : aF) (k : Nat) (x0 : AV) (h : aB) : bQ.f G (k + 1) [x0] h = bQ.c G k (bQ.f G k) x0 h := rfl
noncomputable def dF.ann : Ann := fD [] [] [] []
noncomputable def dF.env (G : aF) (k : Nat) (self : cE) : List (Nat × Bool × cE) := []
noncomputable def dF.c (G : aF) (k : Nat) (self : cE) (x0 : AV) (h : aB) : Option (AV × aB) := fE (
 aY x0
 (cH [(.int .i64 1)] h.length h)
 (cH [(.int .i64 0)] h.length h))
noncomputable def dF.f (G : aF) : Nat → cE
 | 0 => fun _ _ => none
 | k + 1 => fun args h => lS args fun x0 => (dF.c G k (dF.f G k) x0 h)
noncomputable def dV.ann : Ann := fD [] [] [] []
noncomputable def dV.env (G : aF) (k : Nat) (self : cE) : List (Nat × Bool × cE) := []
noncomputable def dV.c (G : aF) (k : Nat) (self : cE) (x0 x1 : AV) (h : aB) : Option (AV × aB) := fE (
 aC (pu h (aX Tryd.prog .add 2 false x0 x1)) fun v0 h0 =>
 aC (pu h0 (aX Tryd.prog .gtr 2 false v0 x0)) fun v1 h1 =>
 aC (pu h1 (aX Tryd.prog .gtr 2 true x1 (.int .i64 0))) fun v2 h2 =>
 aC (pu h2 (aX Tryd.prog .eql 4 false v1 v2)) fun v3 h3 =>
 aC (gd v3 false h3 (some (x1, h3))) fun v4 h4 =>
 aC (gd v3 false h4 (pu h4 (aX Tryd.prog .eql 2 true v4 (.int .i64 0)))) fun v5 h5 =>
 aC (pu h5 (eH v3 (.bool true) v5)) fun v6 h6 =>
 cH [v0, v6] h.length h6)
noncomputable def dV.f (G : aF) : Nat → cE
 | 0 => fun _ _ => none
 | k + 1 => fun args h => kC args fun x0 x1 => (dV.c G k (dV.f G k) x0 x1 h)
noncomputable def cN.ann : Ann := fD [] [] [] []
noncomputable def cN.env (G : aF) (k : Nat) (self : cE) : List (Nat × Bool × cE) := []
noncomputable def cN.c (G : aF) (k : Nat) (self : cE) (x0 x1 : AV) (h : aB) : Option (AV × aB) := fE (
 aC (pu h (un .not x1)) fun v0 h0 =>
 aY v0
 (cH [(.int .i64 0), (.bool false)] h.length h0)
 (cH [x0, (.bool true)] h.length h0))
noncomputable def cN.f (G : aF) : Nat → cE
 | 0 => fun _ _ => none
 | k + 1 => fun args h => kC args fun x0 x1 => (cN.c G k (cN.f G k) x0 x1 h)
noncomputable def dH.ann : Ann := fD [] [] [] []
noncomputable def dH.env (G : aF) (k : Nat) (self : cE) : List (Nat × Bool × cE) := []
noncomputable def dH.c (G : aF) (k : Nat) (self : cE) (x0 x1 : AV) (h : aB) : Option (AV × aB) := fE (
 aC (pu h (aX Tryd.prog .sub 2 false x0 x1)) fun v0 h0 =>
 aC (pu h0 (aX Tryd.prog .lss 2 false v0 x0)) fun v1 h1 =>
 aC (pu h1 (aX Tryd.prog .gtr 2 true x1 (.int .i64 0))) fun v2 h2 =>
 aC (pu h2 (aX Tryd.prog .eql 4 false v1 v2)) fun v3 h3 =>
 aC (gd v3 false h3 (some (x1, h3))) fun v4 h4 =>
 aC (gd v3 false h4 (pu h4 (aX Tryd.prog .eql 2 true v4 (.int .i64 0)))) fun v5 h5 =>
 aC (pu h5 (eH v3 (.bool true) v5)) fun v6 h6 =>
 cH [v0, v6] h.length h6)
noncomputable def dH.f (G : aF) : Nat → cE
 | 0 => fun _ _ => none
 | k + 1 => fun args h => kC args fun x0 x1 => (dH.c G k (dH.f G k) x0 x1 h)
noncomputable def cL.ann : Ann := fD [] [] [] [(7, [0, 1, 6, 7]), (5, [0, 1, 6, 7])]
noncomputable def cL.env (G : aF) (k : Nat) (self : cE) : List (Nat × Bool × cE) := [(82, true, cN.f G k), (85, true, cA.f G k)]
noncomputable def cL.c (G : aF) (k : Nat) (self : cE) (x0 x1 : AV) (h : aB) : Option (AV × aB) := fE (
 aC (pu h (dJ .u64 x0)) fun v0 h0 =>
 aC (pu h0 (dJ .u64 x1)) fun v1 h1 =>
 eP (
 aC (pu h1 (aX Tryd.prog .lss 2 true x0 (.int .i64 0))) fun v2 h2 =>
 aY v2
 (aC (pu h2 (un .neg v0)) fun v3 h3 =>
 some (.normal, [x0, x1, v3, v1], h3))
 (some (.normal, [x0, x1, v0, v1], h2))) fun e4 x4 h4 => iM e4
 (eP (
 aC (pu h4 (aX Tryd.prog .lss 2 true (aG x4 1) (.int .i64 0))) fun v5 h5 =>
 aY v5
 (aC (pu h5 (un .neg (aG x4 3))) fun v6 h6 =>
 some (.normal, [(aG x4 0), (aG x4 1), (aG x4 2), v6], h6))
 (some (.normal, [(aG x4 0), (aG x4 1), (aG x4 2), (aG x4 3)], h5))) fun e7 x7 h7 => iM e7
 (aC (aW (cA.f G k) [(aG x7 2), (aG x7 3)] h7) fun v8 h8 =>
 aC (pu h8 (cU v8 0)) fun v9 h9 =>
 aC (pu h9 (cU v8 1)) fun v10 h10 =>
 aC (pu h10 (aX Tryd.prog .neq 30 true v9 (.int .u64 0))) fun v11 h11 =>
 aY v11
 (cH [(.int .i64 0), (.bool false)] h.length h11)
 (aC (pu h11 (aX Tryd.prog .lss 2 true (aG x7 0) (.int .i64 0))) fun v12 h12 =>
 aC (pu h12 (aX Tryd.prog .lss 2 true (aG x7 1) (.int .i64 0))) fun v13 h13 =>
 aC (pu h13 (aX Tryd.prog .neq 4 false v12 v13)) fun v14 h14 =>
 aY v14
 (aC (pu h14 (aX Tryd.prog .eql 30 true v10 (.int .u64 9223372036854775808))) fun v15 h15 =>
 aY v15
 (cH [(.int .i64 (-9223372036854775808)), (.bool true)] h.length h15)
 (aC (pu h15 (aX Tryd.prog .and 30 true v10 (.int .u64 9223372036854775807))) fun v16 h16 =>
 aC (pu h16 (dJ .i64 v16)) fun v17 h17 =>
 aC (pu h17 (un .neg v17)) fun v18 h18 =>
 aC (pu h18 (aX Tryd.prog .lss 30 true v10 (.int .u64 9223372036854775808))) fun v19 h19 =>
 aC (aW (cN.f G k) [v18, v19] h19) fun v20 h20 =>
 aC (pu h20 (cU v20 0)) fun v21 h21 =>
 aC (pu h21 (cU v20 1)) fun v22 h22 =>
 cH [v21, v22] h.length h22))
 (aC (pu h14 (dJ .i64 v10)) fun v23 h23 =>
 aC (pu h23 (aX Tryd.prog .lss 30 true v10 (.int .u64 9223372036854775808))) fun v24 h24 =>
 cH [v23, v24] h.length h24)))
 (fun i7 => none)
 (cH [.undef, .undef] h.length h7))
 (fun i4 => none)
 (cH [.undef, .undef] h.length h4))
noncomputable def cL.f (G : aF) : Nat → cE
 | 0 => fun _ _ => none
 | k + 1 => fun args h => kC args fun x0 x1 => (cL.c G k (cL.f G k) x0 x1 h)
noncomputable def dC.ann : Ann := fD [] [] [] []
noncomputable def dC.env (G : aF) (k : Nat) (self : cE) : List (Nat × Bool × cE) := [(81, true, dV.f G k), (82, true, cN.f G k), (83, true, dH.f G k), (84, true, cL.f G k)]
noncomputable def dC.c (G : aF) (k : Nat) (self : cE) (x0 x1 x2 : AV) (h : aB) : Option (AV × aB) := fE (
 aC (gB x0 h) fun v0 h0 =>
 aC (pu h0 (aA 0 v0)) fun v1 h1 =>
 aC (pu h1 (aE G false 1 v1 h1)) fun v2 h2 =>
 aC (pu h2 (aX Tryd.prog .eql 3 true v2 (.int .i64 3))) fun v3 h3 =>
 aY v3
 (aC (pu h3 (dJ .i64 x1)) fun v4 h4 =>
 aC (pu h4 (dJ .i64 x2)) fun v5 h5 =>
 aC (aW (dV.f G k) [v4, v5] h5) fun v6 h6 =>
 aC (pu h6 (cU v6 0)) fun v7 h7 =>
 aC (pu h7 (cU v6 1)) fun v8 h8 =>
 aC (aW (cN.f G k) [v7, v8] h8) fun v9 h9 =>
 aC (pu h9 (cU v9 0)) fun v10 h10 =>
 aC (pu h10 (cU v9 1)) fun v11 h11 =>
 cH [v10, v11] h.length h11)
 (aC (pu h3 (aX Tryd.prog .eql 3 true v2 (.int .i64 4))) fun v12 h12 =>
 aY v12
 (aC (pu h12 (dJ .i64 x1)) fun v13 h13 =>
 aC (pu h13 (dJ .i64 x2)) fun v14 h14 =>
 aC (aW (dH.f G k) [v13, v14] h14) fun v15 h15 =>
 aC (pu h15 (cU v15 0)) fun v16 h16 =>
 aC (pu h16 (cU v15 1)) fun v17 h17 =>
 aC (aW (cN.f G k) [v16, v17] h17) fun v18 h18 =>
 aC (pu h18 (cU v18 0)) fun v19 h19 =>
 aC (pu h19 (cU v18 1)) fun v20 h20 =>
 cH [v19, v20] h.length h20)
 (aC (pu h12 (aX Tryd.prog .eql 3 true v2 (.int .i64 5))) fun v21 h21 =>
 aY v21
 (aC (pu h21 (dJ .i64 x1)) fun v22 h22 =>
 aC (pu h22 (dJ .i64 x2)) fun v23 h23 =>
 aC (aW (cL.f G k) [v22, v23] h23) fun v24 h24 =>
 aC (pu h24 (cU v24 0)) fun v25 h25 =>
 aC (pu h25 (cU v24 1)) fun v26 h26 =>
 aC (aW (cN.f G k) [v25, v26] h26) fun v27 h27 =>
 aC (pu h27 (cU v27 0)) fun v28 h28 =>
 aC (pu h28 (cU v27 1)) fun v29 h29 =>
 cH [v28, v29] h.length h29)
 (aC (pu h21 (aX Tryd.prog .eql 3 true v2 (.int .i64 10))) fun v30 h30 =>
 aY v30
 (aC (pu h30 (aA 5 v0)) fun v31 h31 =>
 aC (pu h31 (aE G false 1 v31 h31)) fun v32 h32 =>
 aC (pu h32 (aX Tryd.prog .lss 2 true v32 (.int .i64 0))) fun v33 h33 =>
 aC (gd v33 false h33 (pu h33 (aA 5 v0))) fun v34 h34 =>
 aC (gd v33 false h34 (pu h34 (aE G false 1 v34 h34))) fun v35 h35 =>
 aC (gd v33 false h35 (pu h35 (aX Tryd.prog .gtr 2 true v35 (.int .i64 63)))) fun v36 h36 =>
 aC (pu h36 (eH v33 (.bool true) v36)) fun v37 h37 =>
 aY v37
 (cH [(.int .i64 0), (.bool false)] h.length h37)
 (aC (pu h37 (dJ .i64 x1)) fun v38 h38 =>
 aC (pu h38 (aA 5 v0)) fun v39 h39 =>
 aC (pu h39 (aE G false 1 v39 h39)) fun v40 h40 =>
 aC (pu h40 (dJ .u64 v40)) fun v41 h41 =>
 aC (pu h41 (aX Tryd.prog .shl 2 false v38 v41)) fun v42 h42 =>
 aC (pu h42 (aA 5 v0)) fun v43 h43 =>
 aC (pu h43 (aE G false 1 v43 h43)) fun v44 h44 =>
 aC (pu h44 (dJ .u64 v44)) fun v45 h45 =>
 aC (pu h45 (aX Tryd.prog .shr 2 false v42 v45)) fun v46 h46 =>
 aC (pu h46 (dJ .i64 x1)) fun v47 h47 =>
 aC (pu h47 (aX Tryd.prog .eql 2 false v46 v47)) fun v48 h48 =>
 aC (aW (cN.f G k) [v42, v48] h48) fun v49 h49 =>
 aC (pu h49 (cU v49 0)) fun v50 h50 =>
 aC (pu h50 (cU v49 1)) fun v51 h51 =>
 cH [v50, v51] h.length h51))
 (cH [(.int .i64 0), (.bool false)] h.length h30)))))
noncomputable def dC.f (G : aF) : Nat → cE
 | 0 => fun _ _ => none
 | k + 1 => fun args h => vX args fun x0 x1 x2 => (dC.c G k (dC.f G k) x0 x1 x2 h)
noncomputable def bY.ann : Ann := fD [] [] [] []
noncomputable def bY.env (G : aF) (k : Nat) (self : cE) : List (Nat × Bool × cE) := [(85, true, cA.f G k)]
noncomputable def bY.c (G : aF) (k : Nat) (self : cE) (x0 x1 x2 x3 : AV) (h : aB) : Option (AV × aB) := fE (
 aC (gB x0 h) fun v0 h0 =>
 aC (pu h0 (aA 5 v0)) fun v1 h1 =>
 aC (pu h1 (aE G false 1 v1 h1)) fun v2 h2 =>
 aC (pu h2 (aX Tryd.prog .and 2 true v2 (.int .i64 63))) fun v3 h3 =>
 aC (pu h3 (dJ .u64 v3)) fun v4 h4 =>
 aC (pu h4 (aA 5 v0)) fun v5 h5 =>
 aC (pu h5 (aE G false 1 v5 h5)) fun v6 h6 =>
 aC (pu h6 (aX Tryd.prog .geq 2 true v6 (.int .i64 0))) fun v7 h7 =>
 aC (gd v7 true h7 (pu h7 (aA 5 v0))) fun v8 h8 =>
 aC (gd v7 true h8 (pu h8 (aE G false 1 v8 h8))) fun v9 h9 =>
 aC (gd v7 true h9 (pu h9 (aX Tryd.prog .leq 2 true v9 (.int .i64 63)))) fun v10 h10 =>
 aC (pu h10 (eH v7 v10 (.bool false))) fun v11 h11 =>
 aC (pu h11 (aA 0 v0)) fun v12 h12 =>
 aC (pu h12 (aE G false 1 v12 h12)) fun v13 h13 =>
 aC (pu h13 (aX Tryd.prog .eql 3 true v13 (.int .i64 1))) fun v14 h14 =>
 aY v14
 (aC (pu h14 (aA 5 v0)) fun v15 h15 =>
 aC (pu h15 (aE G false 1 v15 h15)) fun v16 h16 =>
 aC (pu h16 (dJ .u64 v16)) fun v17 h17 =>
 cH [v17, (.bool true)] h.length h17)
 (aC (pu h14 (aX Tryd.prog .eql 3 true v13 (.int .i64 2))) fun v18 h18 =>
 aY v18
 (cH [x1, (.bool true)] h.length h18)
 (aC (pu h18 (aX Tryd.prog .eql 3 true v13 (.int .i64 3))) fun v19 h19 =>
 aY v19
 (aC (pu h19 (aX Tryd.prog .add 30 false x1 x2)) fun v20 h20 =>
 cH [v20, (.bool true)] h.length h20)
 (aC (pu h19 (aX Tryd.prog .eql 3 true v13 (.int .i64 4))) fun v21 h21 =>
 aY v21
 (aC (pu h21 (aX Tryd.prog .sub 30 false x1 x2)) fun v22 h22 =>
 cH [v22, (.bool true)] h.length h22)
 (aC (pu h21 (aX Tryd.prog .eql 3 true v13 (.int .i64 5))) fun v23 h23 =>
 aY v23
 (aC (pu h23 (aX Tryd.prog .mul 30 false x1 x2)) fun v24 h24 =>
 cH [v24, (.bool true)] h.length h24)
 (aC (pu h23 (aX Tryd.prog .eql 3 true v13 (.int .i64 6))) fun v25 h25 =>
 aY v25
 (aC (aW (cA.f G k) [x1, x2] h25) fun v26 h26 =>
 aC (pu h26 (cU v26 0)) fun v27 h27 =>
 aC (pu h27 (cU v26 1)) fun v28 h28 =>
 cH [v27, (.bool true)] h.length h28)
 (aC (pu h25 (aX Tryd.prog .eql 3 true v13 (.int .i64 7))) fun v29 h29 =>
 aY v29
 (aC (pu h29 (aX Tryd.prog .and 30 false x1 x2)) fun v30 h30 =>
 cH [v30, (.bool true)] h.length h30)
 (aC (pu h29 (aX Tryd.prog .eql 3 true v13 (.int .i64 8))) fun v31 h31 =>
 aY v31
 (aC (pu h31 (aX Tryd.prog .or 30 false x1 x2)) fun v32 h32 =>
 cH [v32, (.bool true)] h.length h32)
 (aC (pu h31 (aX Tryd.prog .eql 3 true v13 (.int .i64 9))) fun v33 h33 =>
 aY v33
 (aC (pu h33 (aX Tryd.prog .xor 30 false x1 x2)) fun v34 h34 =>
 cH [v34, (.bool true)] h.length h34)
 (aC (pu h33 (aX Tryd.prog .eql 3 true v13 (.int .i64 13))) fun v35 h35 =>
 aY v35
 (aC (pu h35 (aX Tryd.prog .lss 30 false x1 x2)) fun v36 h36 =>
 aY v36
 (cH [(.int .u64 1), (.bool true)] h.length h36)
 (cH [(.int .u64 0), (.bool true)] h.length h36))
 (aC (pu h35 (aX Tryd.prog .eql 3 true v13 (.int .i64 14))) fun v37 h37 =>
 aY v37
 (aC (pu h37 (aX Tryd.prog .neq 30 true x1 (.int .u64 0))) fun v38 h38 =>
 aY v38
 (cH [x2, (.bool true)] h.length h38)
 (cH [x3, (.bool true)] h.length h38))
 (aC (pu h37 (un .not v11)) fun v39 h39 =>
 aY v39
 (cH [(.int .u64 0), (.bool false)] h.length h39)
 (aC (pu h39 (aA 0 v0)) fun v40 h40 =>
 aC (pu h40 (aE G false 1 v40 h40)) fun v41 h41 =>
 aC (pu h41 (aX Tryd.prog .eql 3 true v41 (.int .i64 10))) fun v42 h42 =>
 aY v42
 (aC (pu h42 (aX Tryd.prog .shl 30 false x1 v4)) fun v43 h43 =>
 cH [v43, (.bool true)] h.length h43)
 (aC (pu h42 (aX Tryd.prog .eql 3 true v41 (.int .i64 11))) fun v44 h44 =>
 aY v44
 (aC (pu h44 (aX Tryd.prog .shr 30 false x1 v4)) fun v45 h45 =>
 cH [v45, (.bool true)] h.length h45)
 (aC (pu h44 (aX Tryd.prog .eql 3 true v41 (.int .i64 12))) fun v46 h46 =>
 aY v46
 (aC (pu h46 (dJ .i64 x1)) fun v47 h47 =>
 aC (pu h47 (aX Tryd.prog .shr 2 false v47 v4)) fun v48 h48 =>
 aC (pu h48 (dJ .u64 v48)) fun v49 h49 =>
 cH [v49, (.bool true)] h.length h49)
 (cH [(.int .u64 0), (.bool false)] h.length h46))))))))))))))))
noncomputable def bY.f (G : aF) : Nat → cE
 | 0 => fun _ _ => none
 | k + 1 => fun args h => aAm args fun x0 x1 x2 x3 => (bY.c G k (bY.f G k) x0 x1 x2 x3 h)
theorem bY.step (G : aF) (k : Nat) (x0 x1 x2 x3 : AV) (h : aB) : bY.f G (k + 1) [x0, x1, x2, x3] h = bY.c G k (bY.f G k) x0 x1 x2 x3 h := rfl
noncomputable def bH.ann : Ann := aDM [] [] [(4, [1, 3, 4, 8, 9, 10, 11])] [(22, [1, 3, 4, 8, 9, 10, 12, 13, 14, 15]), (38, [1, 3, 4, 8, 9, 10, 11, 12, 13, 14, 15, 71, 186]), (26, [1, 3, 4, 8, 9, 10, 11, 12, 13, 14, 15, 71, 142])] [(4, [(8, 2, 91, 2), (9, 2, 91, 2)])] []
noncomputable def bH.env (G : aF) (k : Nat) (self : cE) : List (Nat × Bool × cE) := [(12, false, bQ.f G k), (48, true, dF.f G k), (49, true, dC.f G k), (50, true, bY.f G k)]
noncomputable def bH.l4 (G : aF) (k n0 : Nat) (self : cE) (lp : eU) : eU := fun xs h0 => iX n0 xs h0 fun h =>
 aC (pu h (aA 0 (aG xs 2))) fun v11 h11 =>
 aC (pu h11 (aE G false 1 v11 h11)) fun v12 h12 =>
 aC (pu h12 (dD v12)) fun v13 h13 =>
 aC (pu h13 (aX Tryd.prog .geq 3 false (aG xs 6) v13)) fun v14 h14 =>
 aY v14
 (aC (pu h14 (aA 0 (aG xs 4))) fun v15 h15 =>
 aC (fM (aV 1 v15 (.int .i64 3) h15)) fun v16 h16 =>
 aC (pu h16 (aE G true 5 (aG xs 4) h16)) fun v17 h17 =>
 aC (fM (aV 5 (aG xs 3) v17 h17)) fun v18 h18 =>
 some (.ret, [(aG xs 0), (aG xs 1), (aG xs 2), (aG xs 3), (aG xs 4), (aG xs 5), (aG xs 6)], h18))
 (aC (pu h14 (aA 3 (aG xs 4))) fun v19 h19 =>
 aC (pu h19 (aE G false 1 v19 h19)) fun v20 h20 =>
 aC (pu h20 (aX Tryd.prog .geq 2 false v20 (aG xs 1))) fun v21 h21 =>
 aY v21
 (aC (pu h21 (aA 0 (aG xs 4))) fun v22 h22 =>
 aC (fM (aV 1 v22 (.int .i64 4) h22)) fun v23 h23 =>
 aC (pu h23 (aE G true 5 (aG xs 4) h23)) fun v24 h24 =>
 aC (fM (aV 5 (aG xs 3) v24 h24)) fun v25 h25 =>
 some (.ret, [(aG xs 0), (aG xs 1), (aG xs 2), (aG xs 3), (aG xs 4), (aG xs 5), (aG xs 6)], h25))
 (aC (pu h21 (aA 0 (aG xs 2))) fun v26 h26 =>
 aC (pu h26 (aE G false 1 v26 h26)) fun v27 h27 =>
 aC (pu h27 (aM 6 v27 (aG xs 6))) fun v28 h28 =>
 aC (pu h28 (aE G true 6 v28 h28)) fun v29 h29 =>
 aC (fR 29 (.agg [(.int .i64 0), (.int .i64 0), (.int .i64 0), (.int .i64 0), (.int .i64 0), (.int .i64 0)]) h29) fun v30 h30 =>
 aC (fM (aV 6 v30 v29 h30)) fun v31 h31 =>
 aC (pu h31 (aA 3 (aG xs 4))) fun v32 h32 =>
 aC (pu h32 (aE G false 1 v32 h32)) fun v33 h33 =>
 aC (pu h33 (aX Tryd.prog .add 2 true v33 (.int .i64 1))) fun v34 h34 =>
 aC (pu h34 (aA 3 (aG xs 4))) fun v35 h35 =>
 aC (fM (aV 1 v35 v34 h35)) fun v36 h36 =>
 aC (pu h36 (aA 2 (aG xs 4))) fun v37 h37 =>
 aC (pu h37 (aE G false 1 v37 h37)) fun v38 h38 =>
 aC (pu h38 (cP [(0, 1), (1, 1)] [(.int .i64 0), (.int .i64 0)] [(0, (.int .i64 1)), (1, (aG xs 6))])) fun v39 h39 =>
 aC (fQ 2 1 (.agg [(.int .i64 0), (.int .i64 0)]) [(0, v39)] h39) fun v40 h40 =>
 aC (fU 91 2 v38 v40 h40) fun v41 h41 =>
 aC (pu h41 (aA 2 (aG xs 4))) fun v42 h42 =>
 aC (fM (aV 1 v42 v41 h42)) fun v43 h43 =>
 aC (pu h43 (aA 2 v30)) fun v44 h44 =>
 aC (pu h44 (aE G false 1 v44 h44)) fun v45 h45 =>
 aC (pu h45 (aM 1 (aG xs 5) v45)) fun v46 h46 =>
 aC (pu h46 (aE G false 1 v46 h46)) fun v47 h47 =>
 aC (pu h47 (aA 3 v30)) fun v48 h48 =>
 aC (pu h48 (aE G false 1 v48 h48)) fun v49 h49 =>
 aC (pu h49 (aM 1 (aG xs 5) v49)) fun v50 h50 =>
 aC (pu h50 (aE G false 1 v50 h50)) fun v51 h51 =>
 aC (pu h51 (aX Tryd.prog .add 3 true (aG xs 6) (.int .i64 1))) fun v52 h52 =>
 aC (pu h52 (aA 0 v30)) fun v53 h53 =>
 aC (pu h53 (aE G false 1 v53 h53)) fun v54 h54 =>
 eP (
 aC (pu h54 (aX Tryd.prog .eql 3 true v54 (.int .i64 15))) fun v55 h55 =>
 aY v55
 (some (.normal, [(aG xs 0), (aG xs 1), (aG xs 2), (aG xs 3), (aG xs 4), (aG xs 5), (aG xs 6), v30, v47, v51, v52, v54, v55], h55))
 (aC (pu h55 (aX Tryd.prog .eql 3 true v54 (.int .i64 16))) fun v56 h56 =>
 some (.normal, [(aG xs 0), (aG xs 1), (aG xs 2), (aG xs 3), (aG xs 4), (aG xs 5), (aG xs 6), v30, v47, v51, v52, v54, v56], h56))) fun e57 x57 h57 => iM e57
 (aY (aG x57 12)
 (aC (pu h57 (aA 5 (aG x57 7))) fun v58 h58 =>
 aC (pu h58 (aE G false 1 v58 h58)) fun v59 h59 =>
 aC (pu h59 (dJ .u64 v59)) fun v60 h60 =>
 aC (pu h60 (aX Tryd.prog .add 30 false (aG x57 8) v60)) fun v61 h61 =>
 aC (pu h61 (aA 2 (aG x57 4))) fun v62 h62 =>
 aC (pu h62 (aE G false 1 v62 h62)) fun v63 h63 =>
 aC (pu h63 (dJ .i64 v61)) fun v64 h64 =>
 aC (pu h64 (cP [(0, 1), (1, 1)] [(.int .i64 0), (.int .i64 0)] [(0, (.int .i64 3)), (1, v64)])) fun v65 h65 =>
 aC (fQ 2 1 (.agg [(.int .i64 0), (.int .i64 0)]) [(0, v65)] h65) fun v66 h66 =>
 aC (fU 91 2 v63 v66 h66) fun v67 h67 =>
 aC (pu h67 (aA 2 (aG x57 4))) fun v68 h68 =>
 aC (fM (aV 1 v68 v67 h68)) fun v69 h69 =>
 aC (pu h69 (aA 2 (aG x57 2))) fun v70 h70 =>
 aC (pu h70 (aE G false 1 v70 h70)) fun v71 h71 =>
 aC (pu h71 (dJ .u64 v71)) fun v72 h72 =>
 aC (pu h72 (aX Tryd.prog .geq 30 false v61 v72)) fun v73 h73 =>
 aY v73
 (aC (pu h73 (aA 0 (aG x57 4))) fun v74 h74 =>
 aC (fM (aV 1 v74 (.int .i64 3) h74)) fun v75 h75 =>
 aC (pu h75 (aE G true 5 (aG x57 4) h75)) fun v76 h76 =>
 aC (fM (aV 5 (aG x57 3) v76 h76)) fun v77 h77 =>
 some (.ret, [(aG x57 0), (aG x57 1), (aG x57 2), (aG x57 3), (aG x57 4), (aG x57 5), (aG x57 6)], h77))
 (aC (pu h73 (aA 0 (aG x57 7))) fun v78 h78 =>
 aC (pu h78 (aE G false 1 v78 h78)) fun v79 h79 =>
 aC (pu h79 (aX Tryd.prog .eql 3 true v79 (.int .i64 15))) fun v80 h80 =>
 aY v80
 (aC (pu h80 (aA 1 (aG x57 7))) fun v81 h81 =>
 aC (pu h81 (aE G false 1 v81 h81)) fun v82 h82 =>
 aC (pu h82 (aA 1 (aG x57 4))) fun v83 h83 =>
 aC (pu h83 (aE G false 1 v83 h83)) fun v84 h84 =>
 aC (pu h84 (aM 1 v84 v61)) fun v85 h85 =>
 aC (pu h85 (aE G false 1 v85 h85)) fun v86 h86 =>
 aC (pu h86 (aM 1 (aG x57 5) v82)) fun v87 h87 =>
 aC (fM (aV 1 v87 v86 h87)) fun v88 h88 =>
 lp [(aG x57 0), (aG x57 1), (aG x57 2), (aG x57 3), (aG x57 4), (aG x57 5), (aG x57 10)] h88)
 (aC (pu h80 (aA 1 (aG x57 4))) fun v89 h89 =>
 aC (pu h89 (aE G false 1 v89 h89)) fun v90 h90 =>
 aC (pu h90 (aM 1 v90 v61)) fun v91 h91 =>
 aC (fM (aV 1 v91 (aG x57 9) h91)) fun v92 h92 =>
 lp [(aG x57 0), (aG x57 1), (aG x57 2), (aG x57 3), (aG x57 4), (aG x57 5), (aG x57 10)] h92)))
 (aC (pu h57 (aX Tryd.prog .eql 3 true (aG x57 11) (.int .i64 17))) fun v93 h93 =>
 aY v93
 (aC (pu h93 (aA 5 (aG x57 7))) fun v94 h94 =>
 aC (pu h94 (aE G false 1 v94 h94)) fun v95 h95 =>
 lp [(aG x57 0), (aG x57 1), (aG x57 2), (aG x57 3), (aG x57 4), (aG x57 5), v95] h95)
 (eP (
 aC (pu h93 (aX Tryd.prog .eql 3 true (aG x57 11) (.int .i64 18))) fun v96 h96 =>
 aY v96
 (some (.normal, [(aG x57 0), (aG x57 1), (aG x57 2), (aG x57 3), (aG x57 4), (aG x57 5), (aG x57 6), (aG x57 7), (aG x57 8), (aG x57 9), (aG x57 10), (aG x57 11), v96], h96))
 (aC (pu h96 (aX Tryd.prog .eql 3 true (aG x57 11) (.int .i64 19))) fun v97 h97 =>
 some (.normal, [(aG x57 0), (aG x57 1), (aG x57 2), (aG x57 3), (aG x57 4), (aG x57 5), (aG x57 6), (aG x57 7), (aG x57 8), (aG x57 9), (aG x57 10), (aG x57 11), v97], h97))) fun e98 x98 h98 => iM e98
 (aY (aG x98 12)
 (aC (pu h98 (aX Tryd.prog .eql 30 true (aG x98 8) (.int .u64 0))) fun v99 h99 =>
 aC (pu h99 (aA 0 (aG x98 7))) fun v100 h100 =>
 aC (pu h100 (aE G false 1 v100 h100)) fun v101 h101 =>
 aC (pu h101 (aX Tryd.prog .eql 3 true v101 (.int .i64 18))) fun v102 h102 =>
 aC (pu h102 (aX Tryd.prog .eql 4 false v99 v102)) fun v103 h103 =>
 aC (pu h103 (aA 2 (aG x98 4))) fun v104 h104 =>
 aC (pu h104 (aE G false 1 v104 h104)) fun v105 h105 =>
 aC (aW (dF.f G k) [v103] h105) fun v106 h106 =>
 aC (pu h106 (cP [(0, 1), (1, 1)] [(.int .i64 0), (.int .i64 0)] [(0, (.int .i64 2)), (1, v106)])) fun v107 h107 =>
 aC (fQ 2 1 (.agg [(.int .i64 0), (.int .i64 0)]) [(0, v107)] h107) fun v108 h108 =>
 aC (fU 91 2 v105 v108 h108) fun v109 h109 =>
 aC (pu h109 (aA 2 (aG x98 4))) fun v110 h110 =>
 aC (fM (aV 1 v110 v109 h110)) fun v111 h111 =>
 aY v103
 (aC (pu h111 (aA 5 (aG x98 7))) fun v112 h112 =>
 aC (pu h112 (aE G false 1 v112 h112)) fun v113 h113 =>
 lp [(aG x98 0), (aG x98 1), (aG x98 2), (aG x98 3), (aG x98 4), (aG x98 5), v113] h113)
 (lp [(aG x98 0), (aG x98 1), (aG x98 2), (aG x98 3), (aG x98 4), (aG x98 5), (aG x98 10)] h111))
 (aC (pu h98 (aX Tryd.prog .eql 3 true (aG x98 11) (.int .i64 20))) fun v114 h114 =>
 aY v114
 (aC (pu h114 (aA 5 (aG x98 7))) fun v115 h115 =>
 aC (pu h115 (aE G false 1 v115 h115)) fun v116 h116 =>
 aC (pu h116 (aA 0 (aG x98 4))) fun v117 h117 =>
 aC (fM (aV 1 v117 v116 h117)) fun v118 h118 =>
 aC (pu h118 (aE G true 5 (aG x98 4) h118)) fun v119 h119 =>
 aC (fM (aV 5 (aG x98 3) v119 h119)) fun v120 h120 =>
 some (.ret, [(aG x98 0), (aG x98 1), (aG x98 2), (aG x98 3), (aG x98 4), (aG x98 5), (aG x98 6)], h120))
 (eP (
 aC (pu h114 (dD (aG x98 0))) fun v121 h121 =>
 aC (pu h121 (aX Tryd.prog .gtr 3 true v121 (.int .i64 0))) fun v122 h122 =>
 aC (gd v122 true h122 (pu h122 (aA 4 (aG x98 4)))) fun v123 h123 =>
 aC (gd v122 true h123 (pu h123 (aE G false 1 v123 h123))) fun v124 h124 =>
 aC (gd v122 true h124 (pu h124 (aX Tryd.prog .lss 3 true v124 (.int .i64 0)))) fun v125 h125 =>
 aC (pu h125 (eH v122 v125 (.bool false))) fun v126 h126 =>
 aC (gd v126 true h126 (pu h126 (aA 0 (aG x98 7)))) fun v127 h127 =>
 aC (gd v126 true h127 (pu h127 (aE G false 1 v127 h127))) fun v128 h128 =>
 aC (gd v126 true h128 (pu h128 (aX Tryd.prog .geq 3 true v128 (.int .i64 3)))) fun v129 h129 =>
 aC (gd v126 true h129 (some (v129, h129))) fun v130 h130 =>
 aC (gd v130 true h130 (pu h130 (aA 0 (aG x98 7)))) fun v131 h131 =>
 aC (gd v130 true h131 (pu h131 (aE G false 1 v131 h131))) fun v132 h132 =>
 aC (gd v130 true h132 (pu h132 (aX Tryd.prog .leq 3 true v132 (.int .i64 5)))) fun v133 h133 =>
 aC (gd v126 true h133 (pu h133 (eH v130 v133 (.bool false)))) fun v134 h134 =>
 aC (gd v126 true h134 (some (v134, h134))) fun v135 h135 =>
 aC (gd v135 false h135 (pu h135 (aA 0 (aG x98 7)))) fun v136 h136 =>
 aC (gd v135 false h136 (pu h136 (aE G false 1 v136 h136))) fun v137 h137 =>
 aC (gd v135 false h137 (pu h137 (aX Tryd.prog .eql 3 true v137 (.int .i64 10)))) fun v138 h138 =>
 aC (gd v126 true h138 (pu h138 (eH v135 (.bool true) v138))) fun v139 h139 =>
 aC (pu h139 (eH v126 v139 (.bool false))) fun v140 h140 =>
 aY v140
 (aC (pu h140 (aE G true 6 (aG x98 7) h140)) fun v141 h141 =>
 aC (aW (dC.f G k) [v141, (aG x98 8), (aG x98 9)] h141) fun v142 h142 =>
 aC (pu h142 (cU v142 0)) fun v143 h143 =>
 aC (pu h143 (cU v142 1)) fun v144 h144 =>
 aC (pu h144 (un .not v144)) fun v145 h145 =>
 aC (gd v145 false h145 (some (v143, h145))) fun v146 h146 =>
 aC (gd v145 false h146 (some ((aG x98 0), h146))) fun v147 h147 =>
 aC (gd v145 false h147 (some ((aG x98 6), h147))) fun v148 h148 =>
 aC (gd v145 false h148 (pu h148 (aM 2 v147 v148))) fun v149 h149 =>
 aC (gd v145 false h149 (pu h149 (aA 0 v149))) fun v150 h150 =>
 aC (gd v145 false h150 (pu h150 (aE G false 1 v150 h150))) fun v151 h151 =>
 aC (gd v145 false h151 (pu h151 (aX Tryd.prog .lss 2 false v146 v151))) fun v152 h152 =>
 aC (pu h152 (eH v145 (.bool true) v152)) fun v153 h153 =>
 aC (gd v153 false h153 (some (v143, h153))) fun v154 h154 =>
 aC (gd v153 false h154 (some ((aG x98 0), h154))) fun v155 h155 =>
 aC (gd v153 false h155 (some ((aG x98 6), h155))) fun v156 h156 =>
 aC (gd v153 false h156 (pu h156 (aM 2 v155 v156))) fun v157 h157 =>
 aC (gd v153 false h157 (pu h157 (aA 1 v157))) fun v158 h158 =>
 aC (gd v153 false h158 (pu h158 (aE G false 1 v158 h158))) fun v159 h159 =>
 aC (gd v153 false h159 (pu h159 (aX Tryd.prog .gtr 2 false v154 v159))) fun v160 h160 =>
 aC (pu h160 (eH v153 (.bool true) v160)) fun v161 h161 =>
 aY v161
 (aC (pu h161 (aA 4 (aG x98 4))) fun v162 h162 =>
 aC (fM (aV 1 v162 (aG x98 6) h162)) fun v163 h163 =>
 aC (pu h163 (aE G true 5 (aG x98 4) h163)) fun v164 h164 =>
 aC (fM (aV 5 (aG x98 3) v164 h164)) fun v165 h165 =>
 some (.ret, [(aG x98 0), (aG x98 1), (aG x98 2), (aG x98 3), (aG x98 4), (aG x98 5), (aG x98 7), (aG x98 8), (aG x98 9), (aG x98 10)], h165))
 (some (.normal, [(aG x98 0), (aG x98 1), (aG x98 2), (aG x98 3), (aG x98 4), (aG x98 5), (aG x98 7), (aG x98 8), (aG x98 9), (aG x98 10)], h161)))
 (some (.normal, [(aG x98 0), (aG x98 1), (aG x98 2), (aG x98 3), (aG x98 4), (aG x98 5), (aG x98 7), (aG x98 8), (aG x98 9), (aG x98 10)], h140))) fun e166 x166 h166 => iM e166
 (aC (pu h166 (aE G true 6 (aG x166 6) h166)) fun v167 h167 =>
 aC (pu h167 (aA 4 (aG x166 6))) fun v168 h168 =>
 aC (pu h168 (aE G false 1 v168 h168)) fun v169 h169 =>
 aC (pu h169 (aM 1 (aG x166 5) v169)) fun v170 h170 =>
 aC (pu h170 (aE G false 1 v170 h170)) fun v171 h171 =>
 aC (aW (bY.f G k) [v167, (aG x166 7), (aG x166 8), v171] h171) fun v172 h172 =>
 aC (pu h172 (cU v172 0)) fun v173 h173 =>
 aC (pu h173 (cU v172 1)) fun v174 h174 =>
 aC (pu h174 (aA 1 (aG x166 6))) fun v175 h175 =>
 aC (pu h175 (aE G false 1 v175 h175)) fun v176 h176 =>
 aC (pu h176 (aM 1 (aG x166 5) v176)) fun v177 h177 =>
 aC (fM (aV 1 v177 v173 h177)) fun v178 h178 =>
 lp [(aG x166 0), (aG x166 1), (aG x166 2), (aG x166 3), (aG x166 4), (aG x166 5), (aG x166 9)] h178)
 (fun i166 => if i166 = 2 then (lp [(aG x166 0), (aG x166 1), (aG x166 2), (aG x166 3), (aG x166 4), (aG x166 5), (aG x166 9)] h166) else (if i166 = 1 then (lp [(aG x166 0), (aG x166 1), (aG x166 2), (aG x166 3), (aG x166 4), (aG x166 5), .undef] h166) else (some (.exit i166, [(aG x166 0), (aG x166 1), (aG x166 2), (aG x166 3), (aG x166 4), (aG x166 5), .undef], h166))))
 (some (.ret, [(aG x166 0), (aG x166 1), (aG x166 2), (aG x166 3), (aG x166 4), (aG x166 5), .undef], h166)))))
 (fun i98 => if i98 = 2 then (lp [(aG x98 0), (aG x98 1), (aG x98 2), (aG x98 3), (aG x98 4), (aG x98 5), (aG x98 10)] h98) else (if i98 = 1 then (lp [(aG x98 0), (aG x98 1), (aG x98 2), (aG x98 3), (aG x98 4), (aG x98 5), (aG x98 6)] h98) else (some (.exit i98, [(aG x98 0), (aG x98 1), (aG x98 2), (aG x98 3), (aG x98 4), (aG x98 5), (aG x98 6)], h98))))
 (some (.ret, [(aG x98 0), (aG x98 1), (aG x98 2), (aG x98 3), (aG x98 4), (aG x98 5), (aG x98 6)], h98)))))
 (fun i57 => if i57 = 2 then (lp [(aG x57 0), (aG x57 1), (aG x57 2), (aG x57 3), (aG x57 4), (aG x57 5), (aG x57 10)] h57) else (if i57 = 1 then (lp [(aG x57 0), (aG x57 1), (aG x57 2), (aG x57 3), (aG x57 4), (aG x57 5), (aG x57 6)] h57) else (some (.exit i57, [(aG x57 0), (aG x57 1), (aG x57 2), (aG x57 3), (aG x57 4), (aG x57 5), (aG x57 6)], h57))))
 (some (.ret, [(aG x57 0), (aG x57 1), (aG x57 2), (aG x57 3), (aG x57 4), (aG x57 5), (aG x57 6)], h57))))
noncomputable def bH.c (G : aF) (k : Nat) (self : cE) (x0 x1 x2 x3 : AV) (h : aB) : Option (AV × aB) := fE (
 aC (gB x0 h) fun v0 h0 =>
 aC (fR 38 (.agg [(.int .i64 0), .nils, .nils, (.int .i64 0), (.int .i64 0)]) h0) fun v1 h1 =>
 aC (bD (bQ.f G k) [x2] h1) fun v2 h2 =>
 aC (pu h2 (cP [(0, 1), (1, 1), (2, 1), (3, 1), (4, 1)] [(.int .i64 0), .nils, .nils, (.int .i64 0), (.int .i64 0)] [(1, v2), (4, (.int .i64 (-1)))])) fun v3 h3 =>
 aC (fR 38 (.agg [(.int .i64 0), .nils, .nils, (.int .i64 0), (.int .i64 0)]) h3) fun v4 h4 =>
 aC (fM (aV 5 v4 v3 h4)) fun v5 h5 =>
 aC (pu h5 (aA 1 v0)) fun v6 h6 =>
 aC (pu h6 (aE G false 1 v6 h6)) fun v7 h7 =>
 aC (pu h7 (aX Tryd.prog .add 3 true v7 (.int .i64 1))) fun v8 h8 =>
 aC (eW 30 1 (.int .u64 0) v8 v8 h8) fun v9 h9 =>
 vK [(v1, 2, 91, 2), (v4, 2, 91, 2)] h9 fun hv10 =>
 eP (dK (bH.l4 G k hv10.length self) k [x1, x3, v0, v1, v4, v9, (.int .i64 0)] hv10) fun e10 x10 h10 => iM e10
 (none)
 (fun i10 => if i10 = 0 then (iB [aE G true 5 (aG x10 3) h10] h.length h10) else (none))
 (iB [aE G true 5 (aG x10 3) h10] h.length h10))
noncomputable def bH.f (G : aF) : Nat → cE
 | 0 => fun _ _ => none
 | k + 1 => fun args h => aAm args fun x0 x1 x2 x3 => (bH.c G k (bH.f G k) x0 x1 x2 x3 h)
theorem bH.step (G : aF) (k : Nat) (x0 x1 x2 x3 : AV) (h : aB) : bH.f G (k + 1) [x0, x1, x2, x3] h = bH.c G k (bH.f G k) x0 x1 x2 x3 h := rfl
noncomputable def bP.ann : Ann := fD [] [] [] []
noncomputable def bP.env (G : aF) (k : Nat) (self : cE) : List (Nat × Bool × cE) := []
noncomputable def bP.c (G : aF) (k : Nat) (self : cE) (x0 : AV) (h : aB) : Option (AV × aB) := fE (
 aC (gB x0 h) fun v0 h0 =>
 aC (fR 40 (.agg [.nils, (.int .i64 0), (.int .i64 0)]) h0) fun v1 h1 =>
 aC (pu h1 (aA 0 v0)) fun v2 h2 =>
 aC (pu h2 (aE G false 1 v2 h2)) fun v3 h3 =>
 aC (pu h3 (aA 1 v0)) fun v4 h4 =>
 aC (pu h4 (aE G false 1 v4 h4)) fun v5 h5 =>
 aC (pu h5 (aA 2 v0)) fun v6 h6 =>
 aC (pu h6 (aE G false 1 v6 h6)) fun v7 h7 =>
 aC (pu h7 (cP [(0, 1), (1, 1), (2, 1)] [.nils, (.int .i64 0), (.int .i64 0)] [(0, v3), (1, v5), (2, v7)])) fun v8 h8 =>
 aC (fM (aV 3 v1 v8 h8)) fun v9 h9 =>
 iB [aE G true 3 v1 h9] h.length h9)
noncomputable def bP.f (G : aF) : Nat → cE
 | 0 => fun _ _ => none
 | k + 1 => fun args h => lS args fun x0 => (bP.c G k (bP.f G k) x0 h)
theorem bP.step (G : aF) (k : Nat) (x0 : AV) (h : aB) : bP.f G (k + 1) [x0] h = bP.c G k (bP.f G k) x0 h := rfl
noncomputable def bR.ann : Ann := fD [] [] [] []
noncomputable def bR.env (G : aF) (k : Nat) (self : cE) : List (Nat × Bool × cE) := []
noncomputable def bR.c (G : aF) (k : Nat) (self : cE) (x0 x1 : AV) (h : aB) : Option (AV × aB) := fE (
 aC (eW 30 1 (.int .u64 0) x1 x1 h) fun v0 h0 =>
 aC (wB v0 x0 h0) fun v1 h1 =>
 cH [v0] h.length h1)
noncomputable def bR.f (G : aF) : Nat → cE
 | 0 => fun _ _ => none
 | k + 1 => fun args h => kC args fun x0 x1 => (bR.c G k (bR.f G k) x0 x1 h)
theorem bR.step (G : aF) (k : Nat) (x0 x1 : AV) (h : aB) : bR.f G (k + 1) [x0, x1] h = bR.c G k (bR.f G k) x0 x1 h := rfl
noncomputable def dN.ann : Ann := fD [] [] [] []
noncomputable def dN.env (G : aF) (k : Nat) (self : cE) : List (Nat × Bool × cE) := []
noncomputable def dN.c (G : aF) (k : Nat) (self : cE) (x0 : AV) (h : aB) : Option (AV × aB) := fE (
 aC (fR 54 (.agg [(.int .i64 0), (.bool false), (.int .i64 0)]) h) fun v0 h0 =>
 aC (pu h0 (cP [(0, 1), (1, 1), (2, 1)] [(.int .i64 0), (.bool false), (.int .i64 0)] [(0, x0)])) fun v1 h1 =>
 aC (fM (aV 3 v0 v1 h1)) fun v2 h2 =>
 iB [aE G true 3 v0 h2] h.length h2)
noncomputable def dN.f (G : aF) : Nat → cE
 | 0 => fun _ _ => none
 | k + 1 => fun args h => lS args fun x0 => (dN.c G k (dN.f G k) x0 h)
noncomputable def cO.ann : Ann := fD [] [] [] []
noncomputable def cO.env (G : aF) (k : Nat) (self : cE) : List (Nat × Bool × cE) := []
noncomputable def cO.c (G : aF) (k : Nat) (self : cE) (x0 : AV) (h : aB) : Option (AV × aB) := fE (
 aC (fR 104 (.agg [(.bool false), (.bool false), (.bool false), (.bool false), (.int .i64 0)]) h) fun v0 h0 =>
 aC (pu h0 (aX Tryd.prog .eql 3 true x0 (.int .i64 1))) fun v1 h1 =>
 aY v1
 (aC (pu h1 (cP [(0, 1), (1, 1), (2, 1), (3, 1), (4, 1)] [(.bool false), (.bool false), (.bool false), (.bool false), (.int .i64 0)] [(0, (.bool true)), (4, (.int .i64 1))])) fun v2 h2 =>
 aC (fM (aV 5 v0 v2 h2)) fun v3 h3 =>
 iB [aE G true 5 v0 h3, some (.bool true)] h.length h3)
 (aC (pu h1 (aX Tryd.prog .eql 3 true x0 (.int .i64 2))) fun v4 h4 =>
 aY v4
 (aC (pu h4 (cP [(0, 1), (1, 1), (2, 1), (3, 1), (4, 1)] [(.bool false), (.bool false), (.bool false), (.bool false), (.int .i64 0)] [(0, (.bool true)), (1, (.bool true))])) fun v5 h5 =>
 aC (fM (aV 5 v0 v5 h5)) fun v6 h6 =>
 iB [aE G true 5 v0 h6, some (.bool true)] h.length h6)
 (aC (pu h4 (aX Tryd.prog .geq 3 true x0 (.int .i64 3))) fun v7 h7 =>
 aC (gd v7 true h7 (some (x0, h7))) fun v8 h8 =>
 aC (gd v7 true h8 (pu h8 (aX Tryd.prog .leq 3 true v8 (.int .i64 9)))) fun v9 h9 =>
 aC (pu h9 (eH v7 v9 (.bool false))) fun v10 h10 =>
 aC (gd v10 false h10 (some (x0, h10))) fun v11 h11 =>
 aC (gd v10 false h11 (pu h11 (aX Tryd.prog .eql 3 true v11 (.int .i64 13)))) fun v12 h12 =>
 aC (pu h12 (eH v10 (.bool true) v12)) fun v13 h13 =>
 aY v13
 (aC (pu h13 (cP [(0, 1), (1, 1), (2, 1), (3, 1), (4, 1)] [(.bool false), (.bool false), (.bool false), (.bool false), (.int .i64 0)] [(0, (.bool true)), (1, (.bool true)), (2, (.bool true))])) fun v14 h14 =>
 aC (fM (aV 5 v0 v14 h14)) fun v15 h15 =>
 iB [aE G true 5 v0 h15, some (.bool true)] h.length h15)
 (aC (pu h13 (aX Tryd.prog .geq 3 true x0 (.int .i64 10))) fun v16 h16 =>
 aC (gd v16 true h16 (some (x0, h16))) fun v17 h17 =>
 aC (gd v16 true h17 (pu h17 (aX Tryd.prog .leq 3 true v17 (.int .i64 12)))) fun v18 h18 =>
 aC (pu h18 (eH v16 v18 (.bool false))) fun v19 h19 =>
 aY v19
 (aC (pu h19 (cP [(0, 1), (1, 1), (2, 1), (3, 1), (4, 1)] [(.bool false), (.bool false), (.bool false), (.bool false), (.int .i64 0)] [(0, (.bool true)), (1, (.bool true)), (4, (.int .i64 2))])) fun v20 h20 =>
 aC (fM (aV 5 v0 v20 h20)) fun v21 h21 =>
 iB [aE G true 5 v0 h21, some (.bool true)] h.length h21)
 (aC (pu h19 (aX Tryd.prog .eql 3 true x0 (.int .i64 14))) fun v22 h22 =>
 aY v22
 (aC (pu h22 (cP [(0, 1), (1, 1), (2, 1), (3, 1), (4, 1)] [(.bool false), (.bool false), (.bool false), (.bool false), (.int .i64 0)] [(0, (.bool true)), (1, (.bool true)), (2, (.bool true)), (3, (.bool true))])) fun v23 h23 =>
 aC (fM (aV 5 v0 v23 h23)) fun v24 h24 =>
 iB [aE G true 5 v0 h24, some (.bool true)] h.length h24)
 (aC (pu h22 (aX Tryd.prog .eql 3 true x0 (.int .i64 15))) fun v25 h25 =>
 aY v25
 (aC (pu h25 (cP [(0, 1), (1, 1), (2, 1), (3, 1), (4, 1)] [(.bool false), (.bool false), (.bool false), (.bool false), (.int .i64 0)] [(0, (.bool true)), (1, (.bool true)), (4, (.int .i64 3))])) fun v26 h26 =>
 aC (fM (aV 5 v0 v26 h26)) fun v27 h27 =>
 iB [aE G true 5 v0 h27, some (.bool true)] h.length h27)
 (aC (pu h25 (aX Tryd.prog .eql 3 true x0 (.int .i64 16))) fun v28 h28 =>
 aY v28
 (aC (pu h28 (cP [(0, 1), (1, 1), (2, 1), (3, 1), (4, 1)] [(.bool false), (.bool false), (.bool false), (.bool false), (.int .i64 0)] [(1, (.bool true)), (2, (.bool true)), (4, (.int .i64 3))])) fun v29 h29 =>
 aC (fM (aV 5 v0 v29 h29)) fun v30 h30 =>
 iB [aE G true 5 v0 h30, some (.bool true)] h.length h30)
 (aC (pu h28 (aX Tryd.prog .eql 3 true x0 (.int .i64 17))) fun v31 h31 =>
 aY v31
 (aC (pu h31 (cP [(0, 1), (1, 1), (2, 1), (3, 1), (4, 1)] [(.bool false), (.bool false), (.bool false), (.bool false), (.int .i64 0)] [(4, (.int .i64 4))])) fun v32 h32 =>
 aC (fM (aV 5 v0 v32 h32)) fun v33 h33 =>
 iB [aE G true 5 v0 h33, some (.bool true)] h.length h33)
 (aC (pu h31 (aX Tryd.prog .eql 3 true x0 (.int .i64 18))) fun v34 h34 =>
 aC (gd v34 false h34 (some (x0, h34))) fun v35 h35 =>
 aC (gd v34 false h35 (pu h35 (aX Tryd.prog .eql 3 true v35 (.int .i64 19)))) fun v36 h36 =>
 aC (pu h36 (eH v34 (.bool true) v36)) fun v37 h37 =>
 aY v37
 (aC (pu h37 (cP [(0, 1), (1, 1), (2, 1), (3, 1), (4, 1)] [(.bool false), (.bool false), (.bool false), (.bool false), (.int .i64 0)] [(1, (.bool true)), (4, (.int .i64 4))])) fun v38 h38 =>
 aC (fM (aV 5 v0 v38 h38)) fun v39 h39 =>
 iB [aE G true 5 v0 h39, some (.bool true)] h.length h39)
 (aC (pu h37 (aX Tryd.prog .eql 3 true x0 (.int .i64 20))) fun v40 h40 =>
 aY v40
 (aC (pu h40 (cP [(0, 1), (1, 1), (2, 1), (3, 1), (4, 1)] [(.bool false), (.bool false), (.bool false), (.bool false), (.int .i64 0)] [(4, (.int .i64 5))])) fun v41 h41 =>
 aC (fM (aV 5 v0 v41 h41)) fun v42 h42 =>
 iB [aE G true 5 v0 h42, some (.bool true)] h.length h42)
 (aC (pu h40 (cP [(0, 1), (1, 1), (2, 1), (3, 1), (4, 1)] [(.bool false), (.bool false), (.bool false), (.bool false), (.int .i64 0)] [])) fun v43 h43 =>
 aC (fM (aV 5 v0 v43 h43)) fun v44 h44 =>
 iB [aE G true 5 v0 h44, some (.bool false)] h.length h44)))))))))))
noncomputable def cO.f (G : aF) : Nat → cE
 | 0 => fun _ _ => none
 | k + 1 => fun args h => lS args fun x0 => (cO.c G k (cO.f G k) x0 h)
theorem cO.step (G : aF) (k : Nat) (x0 : AV) (h : aB) : cO.f G (k + 1) [x0] h = cO.c G k (cO.f G k) x0 h := rfl
noncomputable def bG.ann : Ann := fD [] [] [] []
noncomputable def bG.env (G : aF) (k : Nat) (self : cE) : List (Nat × Bool × cE) := []
noncomputable def bG.c (G : aF) (k : Nat) (self : cE) (x0 x1 x2 : AV) (h : aB) : Option (AV × aB) := fE (
 aC (gd x0 true h (some (x1, h))) fun v0 h0 =>
 aC (gd x0 true h0 (pu h0 (aX Tryd.prog .lss 3 true v0 (.int .i64 0)))) fun v1 h1 =>
 aC (gd x0 true h1 (some (v1, h1))) fun v2 h2 =>
 aC (gd v2 false h2 (some (x1, h2))) fun v3 h3 =>
 aC (gd v2 false h3 (some (x2, h3))) fun v4 h4 =>
 aC (gd v2 false h4 (pu h4 (aX Tryd.prog .geq 3 false v3 v4))) fun v5 h5 =>
 aC (gd x0 true h5 (pu h5 (eH v2 (.bool true) v5))) fun v6 h6 =>
 aC (pu h6 (eH x0 v6 (.bool false))) fun v7 h7 =>
 cH [v7] h.length h7)
noncomputable def bG.f (G : aF) : Nat → cE
 | 0 => fun _ _ => none
 | k + 1 => fun args h => vX args fun x0 x1 x2 => (bG.c G k (bG.f G k) x0 x1 x2 h)
theorem bG.step (G : aF) (k : Nat) (x0 x1 x2 : AV) (h : aB) : bG.f G (k + 1) [x0, x1, x2] h = bG.c G k (bG.f G k) x0 x1 x2 h := rfl
noncomputable def bM.ann : Ann := fD [] [] [] []
noncomputable def bM.env (G : aF) (k : Nat) (self : cE) : List (Nat × Bool × cE) := []
noncomputable def bM.c (G : aF) (k : Nat) (self : cE) (x0 x1 : AV) (h : aB) : Option (AV × aB) := fE (
 aC (pu h (aX Tryd.prog .geq 2 true x0 (.int .i64 0))) fun v0 h0 =>
 aC (gd v0 true h0 (some (x0, h0))) fun v1 h1 =>
 aC (gd v0 true h1 (some (x1, h1))) fun v2 h2 =>
 aC (gd v0 true h2 (pu h2 (aX Tryd.prog .lss 2 false v1 v2))) fun v3 h3 =>
 aC (pu h3 (eH v0 v3 (.bool false))) fun v4 h4 =>
 cH [v4] h.length h4)
noncomputable def bM.f (G : aF) : Nat → cE
 | 0 => fun _ _ => none
 | k + 1 => fun args h => kC args fun x0 x1 => (bM.c G k (bM.f G k) x0 x1 h)
theorem bM.step (G : aF) (k : Nat) (x0 x1 : AV) (h : aB) : bM.f G (k + 1) [x0, x1] h = bM.c G k (bM.f G k) x0 x1 h := rfl
noncomputable def dB.ann : Ann := fD [] [] [] []
noncomputable def dB.env (G : aF) (k : Nat) (self : cE) : List (Nat × Bool × cE) := []
noncomputable def dB.c (G : aF) (k : Nat) (self : cE) (h : aB) : Option (AV × aB) := fE (
 aC (fR 54 (.agg [(.int .i64 0), (.bool false), (.int .i64 0)]) h) fun v0 h0 =>
 aC (pu h0 (cP [(0, 1), (1, 1), (2, 1)] [(.int .i64 0), (.bool false), (.int .i64 0)] [])) fun v1 h1 =>
 aC (fM (aV 3 v0 v1 h1)) fun v2 h2 =>
 iB [aE G true 3 v0 h2] h.length h2)
noncomputable def dB.f (G : aF) : Nat → cE
 | 0 => fun _ _ => none
 | k + 1 => fun args h => aHZ args (dB.c G k (dB.f G k) h)
noncomputable def cC.ann : Ann := fD [] [] [] []
noncomputable def cC.env (G : aF) (k : Nat) (self : cE) : List (Nat × Bool × cE) := [(58, true, dB.f G k)]
noncomputable def cC.c (G : aF) (k : Nat) (self : cE) (x0 x1 : AV) (h : aB) : Option (AV × aB) := fE (
 aC (fR 54 (.agg [(.int .i64 0), (.bool false), (.int .i64 0)]) h) fun v0 h0 =>
 aC (pu h0 (aX Tryd.prog .eql 3 true x0 (.int .i64 0))) fun v1 h1 =>
 aY v1
 (aC (aW (dB.f G k) [] h1) fun v2 h2 =>
 aC (fM (aV 3 v0 v2 h2)) fun v3 h3 =>
 iB [aE G true 3 v0 h3] h.length h3)
 (aC (pu h1 (cP [(0, 1), (1, 1), (2, 1)] [(.int .i64 0), (.bool false), (.int .i64 0)] [(0, x0), (1, (.bool true)), (2, x1)])) fun v4 h4 =>
 aC (fM (aV 3 v0 v4 h4)) fun v5 h5 =>
 iB [aE G true 3 v0 h5] h.length h5))
noncomputable def cC.f (G : aF) : Nat → cE
 | 0 => fun _ _ => none
 | k + 1 => fun args h => kC args fun x0 x1 => (cC.c G k (cC.f G k) x0 x1 h)
theorem cC.step (G : aF) (k : Nat) (x0 x1 : AV) (h : aB) : cC.f G (k + 1) [x0, x1] h = cC.c G k (cC.f G k) x0 x1 h := rfl
noncomputable def bF.ann : Ann := fD [] [] [(4, [1, 2, 3])] [(5, [1, 2, 3]), (19, [1, 2, 3, 7])]
noncomputable def bF.env (G : aF) (k : Nat) (self : cE) : List (Nat × Bool × cE) := [(42, true, dN.f G k), (52, true, cO.f G k), (55, true, bG.f G k), (56, true, bM.f G k), (57, true, cC.f G k), (58, true, dB.f G k)]
noncomputable def bF.l4 (G : aF) (k n0 : Nat) (self : cE) (lp : eU) : eU := fun xs h0 => iX n0 xs h0 fun h =>
 aC (pu h (aA 0 (aG xs 0))) fun v25 h25 =>
 aC (pu h25 (aE G false 1 v25 h25)) fun v26 h26 =>
 aC (pu h26 (dD v26)) fun v27 h27 =>
 aC (pu h27 (aX Tryd.prog .lss 3 false (aG xs 2) v27)) fun v28 h28 =>
 aY v28
 (eP (
 aC (pu h28 (aA 0 (aG xs 0))) fun v29 h29 =>
 aC (pu h29 (aE G false 1 v29 h29)) fun v30 h30 =>
 aC (pu h30 (aM 6 v30 (aG xs 2))) fun v31 h31 =>
 aC (pu h31 (aE G true 6 v31 h31)) fun v32 h32 =>
 aC (fR 29 (.agg [(.int .i64 0), (.int .i64 0), (.int .i64 0), (.int .i64 0), (.int .i64 0), (.int .i64 0)]) h32) fun v33 h33 =>
 aC (fM (aV 6 v33 v32 h33)) fun v34 h34 =>
 aC (pu h34 (aA 0 v33)) fun v35 h35 =>
 aC (pu h35 (aE G false 1 v35 h35)) fun v36 h36 =>
 aC (aW (cO.f G k) [v36] h36) fun v37 h37 =>
 aC (pu h37 (cU v37 0)) fun v38 h38 =>
 aC (pu h38 (cU v37 1)) fun v39 h39 =>
 aC (fR 104 (.agg [(.bool false), (.bool false), (.bool false), (.bool false), (.int .i64 0)]) h39) fun v40 h40 =>
 aC (fM (aV 5 v40 v38 h40)) fun v41 h41 =>
 eP (
 aC (pu h41 (un .not v39)) fun v42 h42 =>
 aY v42
 (some (.normal, [(aG xs 0), (aG xs 1), (aG xs 2), (.int .i64 106)], h42))
 (aC (pu h42 (aA 0 v40)) fun v43 h43 =>
 aC (pu h43 (aE G false 1 v43 h43)) fun v44 h44 =>
 aC (pu h44 (aA 1 v33)) fun v45 h45 =>
 aC (pu h45 (aE G false 1 v45 h45)) fun v46 h46 =>
 aC (pu h46 (aA 1 (aG xs 0))) fun v47 h47 =>
 aC (pu h47 (aE G false 1 v47 h47)) fun v48 h48 =>
 aC (aW (bG.f G k) [v44, v46, v48] h48) fun v49 h49 =>
 aC (gd v49 false h49 (pu h49 (aA 1 v40))) fun v50 h50 =>
 aC (gd v49 false h50 (pu h50 (aE G false 1 v50 h50))) fun v51 h51 =>
 aC (gd v49 false h51 (pu h51 (aA 2 v33))) fun v52 h52 =>
 aC (gd v49 false h52 (pu h52 (aE G false 1 v52 h52))) fun v53 h53 =>
 aC (gd v49 false h53 (pu h53 (aA 1 (aG xs 0)))) fun v54 h54 =>
 aC (gd v49 false h54 (pu h54 (aE G false 1 v54 h54))) fun v55 h55 =>
 aC (gd v49 false h55 (aW (bG.f G k) [v51, v53, v55] h55)) fun v56 h56 =>
 aC (pu h56 (eH v49 (.bool true) v56)) fun v57 h57 =>
 aC (gd v57 false h57 (pu h57 (aA 2 v40))) fun v58 h58 =>
 aC (gd v57 false h58 (pu h58 (aE G false 1 v58 h58))) fun v59 h59 =>
 aC (gd v57 false h59 (pu h59 (aA 3 v33))) fun v60 h60 =>
 aC (gd v57 false h60 (pu h60 (aE G false 1 v60 h60))) fun v61 h61 =>
 aC (gd v57 false h61 (pu h61 (aA 1 (aG xs 0)))) fun v62 h62 =>
 aC (gd v57 false h62 (pu h62 (aE G false 1 v62 h62))) fun v63 h63 =>
 aC (gd v57 false h63 (aW (bG.f G k) [v59, v61, v63] h63)) fun v64 h64 =>
 aC (pu h64 (eH v57 (.bool true) v64)) fun v65 h65 =>
 aC (gd v65 false h65 (pu h65 (aA 3 v40))) fun v66 h66 =>
 aC (gd v65 false h66 (pu h66 (aE G false 1 v66 h66))) fun v67 h67 =>
 aC (gd v65 false h67 (pu h67 (aA 4 v33))) fun v68 h68 =>
 aC (gd v65 false h68 (pu h68 (aE G false 1 v68 h68))) fun v69 h69 =>
 aC (gd v65 false h69 (pu h69 (aA 1 (aG xs 0)))) fun v70 h70 =>
 aC (gd v65 false h70 (pu h70 (aE G false 1 v70 h70))) fun v71 h71 =>
 aC (gd v65 false h71 (aW (bG.f G k) [v67, v69, v71] h71)) fun v72 h72 =>
 aC (pu h72 (eH v65 (.bool true) v72)) fun v73 h73 =>
 aY v73
 (some (.normal, [(aG xs 0), (aG xs 1), (aG xs 2), (.int .i64 101)], h73))
 (aC (pu h73 (aA 0 v40)) fun v74 h74 =>
 aC (pu h74 (aE G false 1 v74 h74)) fun v75 h75 =>
 aC (pu h75 (un .not v75)) fun v76 h76 =>
 aC (gd v76 true h76 (pu h76 (aA 1 v33))) fun v77 h77 =>
 aC (gd v76 true h77 (pu h77 (aE G false 1 v77 h77))) fun v78 h78 =>
 aC (gd v76 true h78 (pu h78 (aX Tryd.prog .neq 3 true v78 (.int .i64 0)))) fun v79 h79 =>
 aC (pu h79 (eH v76 v79 (.bool false))) fun v80 h80 =>
 aC (gd v80 false h80 (pu h80 (aA 1 v40))) fun v81 h81 =>
 aC (gd v80 false h81 (pu h81 (aE G false 1 v81 h81))) fun v82 h82 =>
 aC (gd v80 false h82 (pu h82 (un .not v82))) fun v83 h83 =>
 aC (gd v80 false h83 (some (v83, h83))) fun v84 h84 =>
 aC (gd v84 true h84 (pu h84 (aA 2 v33))) fun v85 h85 =>
 aC (gd v84 true h85 (pu h85 (aE G false 1 v85 h85))) fun v86 h86 =>
 aC (gd v84 true h86 (pu h86 (aX Tryd.prog .neq 3 true v86 (.int .i64 0)))) fun v87 h87 =>
 aC (gd v80 false h87 (pu h87 (eH v84 v87 (.bool false)))) fun v88 h88 =>
 aC (pu h88 (eH v80 (.bool true) v88)) fun v89 h89 =>
 aC (gd v89 false h89 (pu h89 (aA 2 v40))) fun v90 h90 =>
 aC (gd v89 false h90 (pu h90 (aE G false 1 v90 h90))) fun v91 h91 =>
 aC (gd v89 false h91 (pu h91 (un .not v91))) fun v92 h92 =>
 aC (gd v89 false h92 (some (v92, h92))) fun v93 h93 =>
 aC (gd v93 true h93 (pu h93 (aA 3 v33))) fun v94 h94 =>
 aC (gd v93 true h94 (pu h94 (aE G false 1 v94 h94))) fun v95 h95 =>
 aC (gd v93 true h95 (pu h95 (aX Tryd.prog .neq 3 true v95 (.int .i64 0)))) fun v96 h96 =>
 aC (gd v89 false h96 (pu h96 (eH v93 v96 (.bool false)))) fun v97 h97 =>
 aC (pu h97 (eH v89 (.bool true) v97)) fun v98 h98 =>
 aC (gd v98 false h98 (pu h98 (aA 3 v40))) fun v99 h99 =>
 aC (gd v98 false h99 (pu h99 (aE G false 1 v99 h99))) fun v100 h100 =>
 aC (gd v98 false h100 (pu h100 (un .not v100))) fun v101 h101 =>
 aC (gd v98 false h101 (some (v101, h101))) fun v102 h102 =>
 aC (gd v102 true h102 (pu h102 (aA 4 v33))) fun v103 h103 =>
 aC (gd v102 true h103 (pu h103 (aE G false 1 v103 h103))) fun v104 h104 =>
 aC (gd v102 true h104 (pu h104 (aX Tryd.prog .neq 3 true v104 (.int .i64 0)))) fun v105 h105 =>
 aC (gd v98 false h105 (pu h105 (eH v102 v105 (.bool false)))) fun v106 h106 =>
 aC (pu h106 (eH v98 (.bool true) v106)) fun v107 h107 =>
 aC (gd v107 false h107 (pu h107 (aA 4 v40))) fun v108 h108 =>
 aC (gd v107 false h108 (pu h108 (aE G false 1 v108 h108))) fun v109 h109 =>
 aC (gd v107 false h109 (pu h109 (aX Tryd.prog .eql 3 true v109 (.int .i64 0)))) fun v110 h110 =>
 aC (gd v107 false h110 (some (v110, h110))) fun v111 h111 =>
 aC (gd v111 true h111 (pu h111 (aA 5 v33))) fun v112 h112 =>
 aC (gd v111 true h112 (pu h112 (aE G false 1 v112 h112))) fun v113 h113 =>
 aC (gd v111 true h113 (pu h113 (aX Tryd.prog .neq 2 true v113 (.int .i64 0)))) fun v114 h114 =>
 aC (gd v107 false h114 (pu h114 (eH v111 v114 (.bool false)))) fun v115 h115 =>
 aC (pu h115 (eH v107 (.bool true) v115)) fun v116 h116 =>
 aY v116
 (some (.normal, [(aG xs 0), (aG xs 1), (aG xs 2), (.int .i64 104)], h116))
 (aC (pu h116 (aA 4 v40)) fun v117 h117 =>
 aC (pu h117 (aE G false 1 v117 h117)) fun v118 h118 =>
 aC (pu h118 (aX Tryd.prog .eql 3 true v118 (.int .i64 2))) fun v119 h119 =>
 aC (gd v119 true h119 (pu h119 (aA 5 v33))) fun v120 h120 =>
 aC (gd v119 true h120 (pu h120 (aE G false 1 v120 h120))) fun v121 h121 =>
 aC (gd v119 true h121 (aW (bM.f G k) [v121, (.int .i64 64)] h121)) fun v122 h122 =>
 aC (gd v119 true h122 (pu h122 (un .not v122))) fun v123 h123 =>
 aC (pu h123 (eH v119 v123 (.bool false))) fun v124 h124 =>
 aC (gd v124 false h124 (pu h124 (aA 4 v40))) fun v125 h125 =>
 aC (gd v124 false h125 (pu h125 (aE G false 1 v125 h125))) fun v126 h126 =>
 aC (gd v124 false h126 (pu h126 (aX Tryd.prog .eql 3 true v126 (.int .i64 5)))) fun v127 h127 =>
 aC (gd v124 false h127 (some (v127, h127))) fun v128 h128 =>
 aC (gd v128 true h128 (pu h128 (aA 5 v33))) fun v129 h129 =>
 aC (gd v128 true h129 (pu h129 (aE G false 1 v129 h129))) fun v130 h130 =>
 aC (gd v128 true h130 (aW (bM.f G k) [v130, (.int .i64 3)] h130)) fun v131 h131 =>
 aC (gd v128 true h131 (pu h131 (un .not v131))) fun v132 h132 =>
 aC (gd v124 false h132 (pu h132 (eH v128 v132 (.bool false)))) fun v133 h133 =>
 aC (pu h133 (eH v124 (.bool true) v133)) fun v134 h134 =>
 aC (gd v134 false h134 (pu h134 (aA 4 v40))) fun v135 h135 =>
 aC (gd v134 false h135 (pu h135 (aE G false 1 v135 h135))) fun v136 h136 =>
 aC (gd v134 false h136 (pu h136 (aX Tryd.prog .eql 3 true v136 (.int .i64 3)))) fun v137 h137 =>
 aC (gd v134 false h137 (some (v137, h137))) fun v138 h138 =>
 aC (gd v138 true h138 (pu h138 (aA 5 v33))) fun v139 h139 =>
 aC (gd v138 true h139 (pu h139 (aE G false 1 v139 h139))) fun v140 h140 =>
 aC (gd v138 true h140 (aW (bM.f G k) [v140, (.int .i64 65536)] h140)) fun v141 h141 =>
 aC (gd v138 true h141 (pu h141 (un .not v141))) fun v142 h142 =>
 aC (gd v134 false h142 (pu h142 (eH v138 v142 (.bool false)))) fun v143 h143 =>
 aC (pu h143 (eH v134 (.bool true) v143)) fun v144 h144 =>
 aY v144
 (some (.normal, [(aG xs 0), (aG xs 1), (aG xs 2), (.int .i64 101)], h144))
 (aC (pu h144 (aA 4 v40)) fun v145 h145 =>
 aC (pu h145 (aE G false 1 v145 h145)) fun v146 h146 =>
 aC (pu h146 (aX Tryd.prog .eql 3 true v146 (.int .i64 4))) fun v147 h147 =>
 aC (gd v147 true h147 (pu h147 (aA 5 v33))) fun v148 h148 =>
 aC (gd v147 true h148 (pu h148 (aE G false 1 v148 h148))) fun v149 h149 =>
 aC (gd v147 true h149 (pu h149 (aA 0 (aG xs 0)))) fun v150 h150 =>
 aC (gd v147 true h150 (pu h150 (aE G false 1 v150 h150))) fun v151 h151 =>
 aC (gd v147 true h151 (pu h151 (dD v151))) fun v152 h152 =>
 aC (gd v147 true h152 (pu h152 (aX Tryd.prog .add 3 true v152 (.int .i64 1)))) fun v153 h153 =>
 aC (gd v147 true h153 (aW (bM.f G k) [v149, v153] h153)) fun v154 h154 =>
 aC (gd v147 true h154 (pu h154 (un .not v154))) fun v155 h155 =>
 aC (pu h155 (eH v147 v155 (.bool false))) fun v156 h156 =>
 aY v156
 (some (.normal, [(aG xs 0), (aG xs 1), (aG xs 2), (.int .i64 109)], h156))
 (some (.normal, [(aG xs 0), (aG xs 1), (aG xs 2), (.int .i64 0)], h156))))))) fun e157 x157 h157 => iM e157
 (aC (pu h157 (aX Tryd.prog .neq 3 true (aG x157 3) (.int .i64 0))) fun v158 h158 =>
 aY v158
 (aC (aW (cC.f G k) [(aG x157 3), (aG x157 2)] h158) fun v159 h159 =>
 aC (fM (aV 3 (aG x157 1) v159 h159)) fun v160 h160 =>
 some (.ret, [(aG x157 0), (aG x157 1), (aG x157 2)], h160))
 (some (.normal, [(aG x157 0), (aG x157 1), (aG x157 2)], h158)))
 (fun i157 => if i157 = 1 then (some (.normal, [(aG x157 0), (aG x157 1), (aG x157 2)], h157)) else (some (.exit i157, [(aG x157 0), (aG x157 1), (aG x157 2)], h157)))
 (some (.ret, [(aG x157 0), (aG x157 1), (aG x157 2)], h157))) fun e161 x161 h161 => iM e161
 (aC (pu h161 (aX Tryd.prog .add 3 true (aG x161 2) (.int .i64 1))) fun v162 h162 =>
 lp [(aG x161 0), (aG x161 1), v162] h162)
 (fun i161 => some (.exit i161, [(aG x161 0), (aG x161 1), (aG x161 2)], h161))
 (some (.ret, [(aG x161 0), (aG x161 1), (aG x161 2)], h161)))
 (some (.exit 0, [(aG xs 0), (aG xs 1), (aG xs 2)], h28))
noncomputable def bF.c (G : aF) (k : Nat) (self : cE) (x0 : AV) (h : aB) : Option (AV × aB) := fE (
 aC (gB x0 h) fun v0 h0 =>
 aC (fR 54 (.agg [(.int .i64 0), (.bool false), (.int .i64 0)]) h0) fun v1 h1 =>
 aC (pu h1 (aA 0 v0)) fun v2 h2 =>
 aC (pu h2 (aE G false 1 v2 h2)) fun v3 h3 =>
 aC (pu h3 (dD v3)) fun v4 h4 =>
 aC (pu h4 (aX Tryd.prog .gtr 3 true v4 (.int .i64 262144))) fun v5 h5 =>
 aC (gd v5 false h5 (pu h5 (aA 1 v0))) fun v6 h6 =>
 aC (gd v5 false h6 (pu h6 (aE G false 1 v6 h6))) fun v7 h7 =>
 aC (gd v5 false h7 (pu h7 (aX Tryd.prog .lss 3 true v7 (.int .i64 0)))) fun v8 h8 =>
 aC (pu h8 (eH v5 (.bool true) v8)) fun v9 h9 =>
 aC (gd v9 false h9 (pu h9 (aA 1 v0))) fun v10 h10 =>
 aC (gd v9 false h10 (pu h10 (aE G false 1 v10 h10))) fun v11 h11 =>
 aC (gd v9 false h11 (pu h11 (aX Tryd.prog .gtr 3 true v11 (.int .i64 65536)))) fun v12 h12 =>
 aC (pu h12 (eH v9 (.bool true) v12)) fun v13 h13 =>
 aC (gd v13 false h13 (pu h13 (aA 2 v0))) fun v14 h14 =>
 aC (gd v13 false h14 (pu h14 (aE G false 1 v14 h14))) fun v15 h15 =>
 aC (gd v13 false h15 (pu h15 (aX Tryd.prog .lss 3 true v15 (.int .i64 0)))) fun v16 h16 =>
 aC (pu h16 (eH v13 (.bool true) v16)) fun v17 h17 =>
 aC (gd v17 false h17 (pu h17 (aA 2 v0))) fun v18 h18 =>
 aC (gd v17 false h18 (pu h18 (aE G false 1 v18 h18))) fun v19 h19 =>
 aC (gd v17 false h19 (pu h19 (aX Tryd.prog .gtr 3 true v19 (.int .i64 65536)))) fun v20 h20 =>
 aC (pu h20 (eH v17 (.bool true) v20)) fun v21 h21 =>
 aY v21
 (aC (aW (dN.f G k) [(.int .i64 103)] h21) fun v22 h22 =>
 aC (fM (aV 3 v1 v22 h22)) fun v23 h23 =>
 iB [aE G true 3 v1 h23] h.length h23)
 (eP (dK (bF.l4 G k h21.length self) k [v0, v1, (.int .i64 0)] h21) fun e24 x24 h24 => iM e24
 (none)
 (fun i24 => if i24 = 0 then (aC (aW (dB.f G k) [] h24) fun v163 h163 =>
 aC (fM (aV 3 (aG x24 1) v163 h163)) fun v164 h164 =>
 iB [aE G true 3 (aG x24 1) h164] h.length h164) else (none))
 (iB [aE G true 3 (aG x24 1) h24] h.length h24)))
noncomputable def bF.f (G : aF) : Nat → cE
 | 0 => fun _ _ => none
 | k + 1 => fun args h => lS args fun x0 => (bF.c G k (bF.f G k) x0 h)
theorem bF.step (G : aF) (k : Nat) (x0 : AV) (h : aB) : bF.f G (k + 1) [x0] h = bF.c G k (bF.f G k) x0 h := rfl
noncomputable def bX.ann : Ann := fD [] [] [] []
noncomputable def bX.env (G : aF) (k : Nat) (self : cE) : List (Nat × Bool × cE) := []
noncomputable def bX.c (G : aF) (k : Nat) (self : cE) (x0 x1 : AV) (h : aB) : Option (AV × aB) := fE (
 aC (gB x0 h) fun v0 h0 =>
 aC (pu h0 (aA 0 v0)) fun v1 h1 =>
 aC (pu h1 (aE G false 1 v1 h1)) fun v2 h2 =>
 aC (pu h2 (dD v2)) fun v3 h3 =>
 aC (pu h3 (aX Tryd.prog .leq 3 true v3 (.int .i64 60))) fun v4 h4 =>
 aC (gd v4 true h4 (pu h4 (aA 1 v0))) fun v5 h5 =>
 aC (gd v4 true h5 (pu h5 (aE G false 1 v5 h5))) fun v6 h6 =>
 aC (gd v4 true h6 (pu h6 (aX Tryd.prog .leq 3 true v6 (.int .i64 60)))) fun v7 h7 =>
 aC (pu h7 (eH v4 v7 (.bool false))) fun v8 h8 =>
 aC (gd v8 true h8 (pu h8 (aA 2 v0))) fun v9 h9 =>
 aC (gd v8 true h9 (pu h9 (aE G false 1 v9 h9))) fun v10 h10 =>
 aC (gd v8 true h10 (pu h10 (aX Tryd.prog .leq 3 true v10 (.int .i64 80)))) fun v11 h11 =>
 aC (pu h11 (eH v8 v11 (.bool false))) fun v12 h12 =>
 aC (gd v12 true h12 (some (x1, h12))) fun v13 h13 =>
 aC (gd v12 true h13 (pu h13 (dD v13))) fun v14 h14 =>
 aC (gd v12 true h14 (pu h14 (aX Tryd.prog .leq 3 true v14 (.int .i64 80)))) fun v15 h15 =>
 aC (pu h15 (eH v12 v15 (.bool false))) fun v16 h16 =>
 cH [v16] h.length h16)
noncomputable def bX.f (G : aF) : Nat → cE
 | 0 => fun _ _ => none
 | k + 1 => fun args h => kC args fun x0 x1 => (bX.c G k (bX.f G k) x0 x1 h)
theorem bX.step (G : aF) (k : Nat) (x0 x1 : AV) (h : aB) : bX.f G (k + 1) [x0, x1] h = bX.c G k (bX.f G k) x0 x1 h := rfl
noncomputable def bS.ann : Ann := fD [] [] [] []
noncomputable def bS.env (G : aF) (k : Nat) (self : cE) : List (Nat × Bool × cE) := []
noncomputable def bS.c (G : aF) (k : Nat) (self : cE) (x0 x1 : AV) (h : aB) : Option (AV × aB) := fE (
 aC (pu h (aX Tryd.prog .rem 3 false x0 x1)) fun v0 h0 =>
 aC (pu h0 (aX Tryd.prog .lss 3 true v0 (.int .i64 0))) fun v1 h1 =>
 aY v1
 (aC (pu h1 (aX Tryd.prog .add 3 false v0 x1)) fun v2 h2 =>
 cH [v2] h.length h2)
 (cH [v0] h.length h1))
noncomputable def bS.f (G : aF) : Nat → cE
 | 0 => fun _ _ => none
 | k + 1 => fun args h => kC args fun x0 x1 => (bS.c G k (bS.f G k) x0 x1 h)
theorem bS.step (G : aF) (k : Nat) (x0 x1 : AV) (h : aB) : bS.f G (k + 1) [x0, x1] h = bS.c G k (bS.f G k) x0 x1 h := rfl
noncomputable def bE.ann : Ann := fD [] [] [] []
noncomputable def bE.env (G : aF) (k : Nat) (self : cE) : List (Nat × Bool × cE) := []
noncomputable def bE.c (G : aF) (k : Nat) (self : cE) (x0 x1 : AV) (h : aB) : Option (AV × aB) := fE (
 aC (gB x0 h) fun v0 h0 =>
 aC (gB x1 h0) fun v1 h1 =>
 aC (pu h1 (aA 0 v0)) fun v2 h2 =>
 aC (pu h2 (aE G false 1 v2 h2)) fun v3 h3 =>
 aC (pu h3 (aA 0 v1)) fun v4 h4 =>
 aC (pu h4 (aE G false 1 v4 h4)) fun v5 h5 =>
 aC (pu h5 (aX Tryd.prog .eql 3 false v3 v5)) fun v6 h6 =>
 aC (gd v6 true h6 (pu h6 (aA 1 v0))) fun v7 h7 =>
 aC (gd v6 true h7 (pu h7 (aE G false 1 v7 h7))) fun v8 h8 =>
 aC (gd v6 true h8 (pu h8 (aA 1 v1))) fun v9 h9 =>
 aC (gd v6 true h9 (pu h9 (aE G false 1 v9 h9))) fun v10 h10 =>
 aC (gd v6 true h10 (pu h10 (aX Tryd.prog .eql 2 false v8 v10))) fun v11 h11 =>
 aC (pu h11 (eH v6 v11 (.bool false))) fun v12 h12 =>
 cH [v12] h.length h12)
noncomputable def bE.f (G : aF) : Nat → cE
 | 0 => fun _ _ => none
 | k + 1 => fun args h => kC args fun x0 x1 => (bE.c G k (bE.f G k) x0 x1 h)
theorem bE.step (G : aF) (k : Nat) (x0 x1 : AV) (h : aB) : bE.f G (k + 1) [x0, x1] h = bE.c G k (bE.f G k) x0 x1 h := rfl
noncomputable def aO.ann : Ann := fD [] [] [(4, [0, 1, 4, 5])] []
noncomputable def aO.env (G : aF) (k : Nat) (self : cE) : List (Nat × Bool × cE) := [(71, true, bE.f G k)]
noncomputable def aO.l4 (G : aF) (k n0 : Nat) (self : cE) (lp : eU) : eU := fun xs h0 => iX n0 xs h0 fun h =>
 aC (pu h (dD (aG xs 0))) fun v4 h4 =>
 aC (pu h4 (aX Tryd.prog .lss 3 false (aG xs 3) v4)) fun v5 h5 =>
 aY v5
 (aC (pu h5 (aM 2 (aG xs 0) (aG xs 3))) fun v6 h6 =>
 aC (pu h6 (aE G true 2 v6 h6)) fun v7 h7 =>
 aC (pu h7 (aM 2 (aG xs 1) (aG xs 3))) fun v8 h8 =>
 aC (pu h8 (aE G true 2 v8 h8)) fun v9 h9 =>
 aC (aW (bE.f G k) [v7, v9] h9) fun v10 h10 =>
 aC (pu h10 (un .not v10)) fun v11 h11 =>
 aY v11
 (some (.ret, [(aG xs 0), (aG xs 1), (.bool false), (aG xs 3)], h11))
 (aC (pu h11 (aX Tryd.prog .add 3 true (aG xs 3) (.int .i64 1))) fun v12 h12 =>
 lp [(aG xs 0), (aG xs 1), (aG xs 2), v12] h12))
 (some (.exit 0, [(aG xs 0), (aG xs 1), (aG xs 2), (aG xs 3)], h5))
noncomputable def aO.c (G : aF) (k : Nat) (self : cE) (x0 x1 : AV) (h : aB) : Option (AV × aB) := fE (
 aC (pu h (dD x0)) fun v0 h0 =>
 aC (pu h0 (dD x1)) fun v1 h1 =>
 aC (pu h1 (aX Tryd.prog .neq 3 false v0 v1)) fun v2 h2 =>
 aY v2
 (cH [(.bool false)] h.length h2)
 (eP (dK (aO.l4 G k h2.length self) k [x0, x1, (.bool false), (.int .i64 0)] h2) fun e3 x3 h3 => iM e3
 (none)
 (fun i3 => if i3 = 0 then (cH [(.bool true)] h.length h3) else (none))
 (cH [(aG x3 2)] h.length h3)))
noncomputable def aO.f (G : aF) : Nat → cE
 | 0 => fun _ _ => none
 | k + 1 => fun args h => kC args fun x0 x1 => (aO.c G k (aO.f G k) x0 x1 h)
theorem aO.step (G : aF) (k : Nat) (x0 x1 : AV) (h : aB) : aO.f G (k + 1) [x0, x1] h = aO.c G k (aO.f G k) x0 x1 h := rfl
noncomputable def alembiclaw21_AllocHides.ann : Ann := fD [] [] [] []
noncomputable def alembiclaw21_AllocHides.env (G : aF) (k : Nat) (self : cE) : List (Nat × Bool × cE) := [(10, true, cQ.f G k), (11, true, bS.f G k), (13, true, cF.f G k), (14, true, bH.f G k), (15, true, bP.f G k), (16, true, bR.f G k), (28, true, bF.f G k), (40, true, aO.f G k), (41, true, bX.f G k)]
noncomputable def alembiclaw21_AllocHides.c (G : aF) (k : Nat) (self : cE) (x0 x1 x2 x3 : AV) (h : aB) : Option (AV × aB) := fE (
 aC (gB x0 h) fun v0 h0 =>
 aC (aW (cQ.f G k) [] h0) fun v1 h1 =>
 aC (pu h1 (un .not v1)) fun v2 h2 =>
 aY v2
 (cH [(.bool false)] h.length h2)
 (aC (pu h2 (aE G true 3 v0 h2)) fun v3 h3 =>
 aC (aW (bX.f G k) [v3, x2] h3) fun v4 h4 =>
 aC (pu h4 (un .not v4)) fun v5 h5 =>
 aC (gd v5 false h5 (some (x2, h5))) fun v6 h6 =>
 aC (gd v5 false h6 (pu h6 (dD v6))) fun v7 h7 =>
 aC (gd v5 false h7 (pu h7 (aA 2 v0))) fun v8 h8 =>
 aC (gd v5 false h8 (pu h8 (aE G false 1 v8 h8))) fun v9 h9 =>
 aC (gd v5 false h9 (pu h9 (aX Tryd.prog .neq 3 false v7 v9))) fun v10 h10 =>
 aC (pu h10 (eH v5 (.bool true) v10)) fun v11 h11 =>
 aC (gd v11 false h11 (some (x3, h11))) fun v12 h12 =>
 aC (gd v11 false h12 (pu h12 (dD v12))) fun v13 h13 =>
 aC (gd v11 false h13 (pu h13 (aA 2 v0))) fun v14 h14 =>
 aC (gd v11 false h14 (pu h14 (aE G false 1 v14 h14))) fun v15 h15 =>
 aC (gd v11 false h15 (pu h15 (aX Tryd.prog .neq 3 false v13 v15))) fun v16 h16 =>
 aC (pu h16 (eH v11 (.bool true) v16)) fun v17 h17 =>
 aY v17
 (cH [v1] h.length h17)
 (aC (aW (bS.f G k) [x1, (.int .i64 23)] h17) fun v18 h18 =>
 aC (pu h18 (aX Tryd.prog .add 3 true v18 (.int .i64 6))) fun v19 h19 =>
 aC (pu h19 (aE G true 3 v0 h19)) fun v20 h20 =>
 aC (aW (cF.f G k) [v20, v19] h20) fun v21 h21 =>
 aC (pu h21 (cU v21 0)) fun v22 h22 =>
 aC (pu h22 (cU v21 1)) fun v23 h23 =>
 aC (fR 27 (.agg [.nils, (.int .i64 0), (.int .i64 0)]) h23) fun v24 h24 =>
 aC (fM (aV 3 v24 v22 h24)) fun v25 h25 =>
 aC (pu h25 (aX Tryd.prog .neq 33 true v23 .nili)) fun v26 h26 =>
 aC (gd v26 false h26 (pu h26 (aA 2 v24))) fun v27 h27 =>
 aC (gd v26 false h27 (pu h27 (aE G false 1 v27 h27))) fun v28 h28 =>
 aC (gd v26 false h28 (pu h28 (aA 2 v0))) fun v29 h29 =>
 aC (gd v26 false h29 (pu h29 (aE G false 1 v29 h29))) fun v30 h30 =>
 aC (gd v26 false h30 (pu h30 (aX Tryd.prog .lss 3 false v28 v30))) fun v31 h31 =>
 aC (pu h31 (eH v26 (.bool true) v31)) fun v32 h32 =>
 aY v32
 (aC (gd v1 true h32 (pu h32 (aE G true 3 v0 h32))) fun v33 h33 =>
 aC (gd v1 true h33 (aW (bP.f G k) [v33] h33)) fun v34 h34 =>
 aC (gd v1 true h34 (aW (bF.f G k) [v34] h34)) fun v35 h35 =>
 aC (gd v1 true h35 (pu h35 (aAL false 1 0 v35))) fun v36 h36 =>
 aC (gd v1 true h36 (pu h36 (aX Tryd.prog .neq 3 true v36 (.int .i64 0)))) fun v37 h37 =>
 aC (pu h37 (eH v1 v37 (.bool false))) fun v38 h38 =>
 cH [v38] h.length h38)
 (aC (pu h32 (aE G true 3 v0 h32)) fun v39 h39 =>
 aC (aW (bP.f G k) [v39] h39) fun v40 h40 =>
 aC (aW (bH.f G k) [v40, .nils, x2, (.int .i64 400)] h40) fun v41 h41 =>
 aC (fR 38 (.agg [(.int .i64 0), .nils, .nils, (.int .i64 0), (.int .i64 0)]) h41) fun v42 h42 =>
 aC (fM (aV 5 v42 v41 h42)) fun v43 h43 =>
 aC (pu h43 (aE G true 3 v0 h43)) fun v44 h44 =>
 aC (aW (bP.f G k) [v44] h44) fun v45 h45 =>
 aC (aW (bH.f G k) [v45, .nils, x3, (.int .i64 400)] h45) fun v46 h46 =>
 aC (fR 38 (.agg [(.int .i64 0), .nils, .nils, (.int .i64 0), (.int .i64 0)]) h46) fun v47 h47 =>
 aC (fM (aV 5 v47 v46 h47)) fun v48 h48 =>
 aC (pu h48 (aA 0 v42)) fun v49 h49 =>
 aC (pu h49 (aE G false 1 v49 h49)) fun v50 h50 =>
 aC (pu h50 (aX Tryd.prog .eql 3 true v50 (.int .i64 4))) fun v51 h51 =>
 aC (gd v51 false h51 (pu h51 (aA 0 v47))) fun v52 h52 =>
 aC (gd v51 false h52 (pu h52 (aE G false 1 v52 h52))) fun v53 h53 =>
 aC (gd v51 false h53 (pu h53 (aX Tryd.prog .eql 3 true v53 (.int .i64 4)))) fun v54 h54 =>
 aC (pu h54 (eH v51 (.bool true) v54)) fun v55 h55 =>
 aC (gd v55 false h55 (pu h55 (aA 2 v42))) fun v56 h56 =>
 aC (gd v55 false h56 (pu h56 (aE G false 1 v56 h56))) fun v57 h57 =>
 aC (gd v55 false h57 (pu h57 (aA 2 v47))) fun v58 h58 =>
 aC (gd v55 false h58 (pu h58 (aE G false 1 v58 h58))) fun v59 h59 =>
 aC (gd v55 false h59 (aW (aO.f G k) [v57, v59] h59)) fun v60 h60 =>
 aC (gd v55 false h60 (pu h60 (un .not v60))) fun v61 h61 =>
 aC (pu h61 (eH v55 (.bool true) v61)) fun v62 h62 =>
 aY v62
 (cH [v1] h.length h62)
 (aC (pu h62 (aE G true 3 v24 h62)) fun v63 h63 =>
 aC (aW (bP.f G k) [v63] h63) fun v64 h64 =>
 aC (pu h64 (aA 2 v24)) fun v65 h65 =>
 aC (pu h65 (aE G false 1 v65 h65)) fun v66 h66 =>
 aC (aW (bR.f G k) [x2, v66] h66) fun v67 h67 =>
 aC (aW (bH.f G k) [v64, .nils, v67, (.int .i64 3264)] h67) fun v68 h68 =>
 aC (fR 38 (.agg [(.int .i64 0), .nils, .nils, (.int .i64 0), (.int .i64 0)]) h68) fun v69 h69 =>
 aC (fM (aV 5 v69 v68 h69)) fun v70 h70 =>
 aC (pu h70 (aE G true 3 v24 h70)) fun v71 h71 =>
 aC (aW (bP.f G k) [v71] h71) fun v72 h72 =>
 aC (pu h72 (aA 2 v24)) fun v73 h73 =>
 aC (pu h73 (aE G false 1 v73 h73)) fun v74 h74 =>
 aC (aW (bR.f G k) [x3, v74] h74) fun v75 h75 =>
 aC (aW (bH.f G k) [v72, .nils, v75, (.int .i64 3264)] h75) fun v76 h76 =>
 aC (fR 38 (.agg [(.int .i64 0), .nils, .nils, (.int .i64 0), (.int .i64 0)]) h76) fun v77 h77 =>
 aC (fM (aV 5 v77 v76 h77)) fun v78 h78 =>
 aC (gd v1 true h78 (pu h78 (aA 2 v69))) fun v79 h79 =>
 aC (gd v1 true h79 (pu h79 (aE G false 1 v79 h79))) fun v80 h80 =>
 aC (gd v1 true h80 (pu h80 (aA 2 v77))) fun v81 h81 =>
 aC (gd v1 true h81 (pu h81 (aE G false 1 v81 h81))) fun v82 h82 =>
 aC (gd v1 true h82 (aW (aO.f G k) [v80, v82] h82)) fun v83 h83 =>
 aC (pu h83 (eH v1 v83 (.bool false))) fun v84 h84 =>
 cH [v84] h.length h84)))))
noncomputable def alembiclaw21_AllocHides.f (G : aF) : Nat → cE
 | 0 => fun _ _ => none
 | k + 1 => fun args h => aAm args fun x0 x1 x2 x3 => (alembiclaw21_AllocHides.c G k (alembiclaw21_AllocHides.f G k) x0 x1 x2 x3 h)
theorem alembiclaw21_AllocHides.step (G : aF) (k : Nat) (x0 x1 x2 x3 : AV) (h : aB) : alembiclaw21_AllocHides.f G (k + 1) [x0, x1, x2, x3] h = alembiclaw21_AllocHides.c G k (alembiclaw21_AllocHides.f G k) x0 x1 x2 x3 h := rfl
end Go.Proofs.YtlkgkfgkiidhdaaDoor.Mir
