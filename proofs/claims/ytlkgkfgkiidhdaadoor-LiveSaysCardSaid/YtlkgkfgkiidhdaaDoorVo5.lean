/- Part 5 of the proof: the functions that the statement reaches, and their contracts. -/
import Derived.Test.YtlkgkfgkiidhdaaDoorVo4
import Derived.Test.YtlkgkfgkiidhdaaDoorProg
namespace Go.Proofs.YtlkgkfgkiidhdaaDoor.Mir
open Go
set_option linter.unusedVariables false
noncomputable def eP.ann : Ann := fD [] [] [] []
noncomputable def eP.env (G : aC) (k : Nat) (self : cK) : List (Nat × Bool × cK) := []
noncomputable def eP.c (G : aC) (k : Nat) (self : cK) (x0 : AV) (h : aA) : Option (AV × aA) := fQ (
 aE (pu h (bC Tryd.prog .eql 3 true x0 (.int .i64 3))) fun v0 h0 =>
 bK v0
 (cS [(.str ⟨#[97, 100, 100]⟩)] h.length h0)
 (aE (pu h0 (bC Tryd.prog .eql 3 true x0 (.int .i64 4))) fun v1 h1 =>
 bK v1
 (cS [(.str ⟨#[115, 117, 98]⟩)] h.length h1)
 (aE (pu h1 (bC Tryd.prog .eql 3 true x0 (.int .i64 5))) fun v2 h2 =>
 bK v2
 (cS [(.str ⟨#[109, 117, 108]⟩)] h.length h2)
 (aE (pu h2 (bC Tryd.prog .eql 3 true x0 (.int .i64 6))) fun v3 h3 =>
 bK v3
 (cS [(.str ⟨#[104, 105, 103, 104]⟩)] h.length h3)
 (aE (pu h3 (bC Tryd.prog .eql 3 true x0 (.int .i64 7))) fun v4 h4 =>
 bK v4
 (cS [(.str ⟨#[97, 110, 100]⟩)] h.length h4)
 (aE (pu h4 (bC Tryd.prog .eql 3 true x0 (.int .i64 8))) fun v5 h5 =>
 bK v5
 (cS [(.str ⟨#[111, 114]⟩)] h.length h5)
 (aE (pu h5 (bC Tryd.prog .eql 3 true x0 (.int .i64 9))) fun v6 h6 =>
 bK v6
 (cS [(.str ⟨#[120, 111, 114]⟩)] h.length h6)
 (aE (pu h6 (bC Tryd.prog .eql 3 true x0 (.int .i64 13))) fun v7 h7 =>
 bK v7
 (cS [(.str ⟨#[108, 101, 115, 115]⟩)] h.length h7)
 (aE (pu h7 (bC Tryd.prog .eql 3 true x0 (.int .i64 10))) fun v8 h8 =>
 bK v8
 (cS [(.str ⟨#[115, 104, 108]⟩)] h.length h8)
 (aE (pu h8 (bC Tryd.prog .eql 3 true x0 (.int .i64 11))) fun v9 h9 =>
 bK v9
 (cS [(.str ⟨#[115, 104, 114]⟩)] h.length h9)
 (aE (pu h9 (bC Tryd.prog .eql 3 true x0 (.int .i64 12))) fun v10 h10 =>
 bK v10
 (cS [(.str ⟨#[115, 97, 114]⟩)] h.length h10)
 (aE (pu h10 (bC Tryd.prog .eql 3 true x0 (.int .i64 15))) fun v11 h11 =>
 bK v11
 (cS [(.str ⟨#[108, 100]⟩)] h.length h11)
 (aE (pu h11 (bC Tryd.prog .eql 3 true x0 (.int .i64 17))) fun v12 h12 =>
 bK v12
 (cS [(.str ⟨#[98, 114]⟩)] h.length h12)
 (aE (pu h12 (bC Tryd.prog .eql 3 true x0 (.int .i64 20))) fun v13 h13 =>
 bK v13
 (cS [(.str ⟨#[104, 97, 108, 116]⟩)] h.length h13)
 (aE (pu h13 (bC Tryd.prog .eql 3 true x0 (.int .i64 18))) fun v14 h14 =>
 bK v14
 (cS [(.str ⟨#[98, 122]⟩)] h.length h14)
 (cS [(.str ⟨#[98, 110, 122]⟩)] h.length h14))))))))))))))))
noncomputable def eP.f (G : aC) : Nat → cK
 | 0 => fun _ _ => none
 | k + 1 => fun args h => jD args fun x0 => (eP.c G k (eP.f G k) x0 h)
noncomputable def dX.ann : Ann := fD [] [] [] [(30, [2, 3]), (29, [0, 2, 43]), (26, [0, 2, 4, 37]), (19, [0, 2, 4, 23]), (14, [0, 2, 4, 11])]
noncomputable def dX.env (G : aC) (k : Nat) (self : cK) : List (Nat × Bool × cK) := [(86, true, eP.f G k)]
noncomputable def dX.c (G : aC) (k : Nat) (self : cK) (x0 : AV) (h : aA) : Option (AV × aA) := fQ (
 aE (gD 100 (.agg [(.str ⟨#[]⟩), (.bool false), (.bool false), (.bool false), (.bool false), (.bool false)]) h) fun v0 h0 =>
 dW (
 aE (pu h0 (bC Tryd.prog .eql 3 true x0 (.int .i64 1))) fun v1 h1 =>
 bK v1
 (aE (pu h1 (eU [(0, 1), (1, 1), (2, 1), (3, 1), (4, 1), (5, 1)] [(.str ⟨#[]⟩), (.bool false), (.bool false), (.bool false), (.bool false), (.bool false)] [(0, (.str ⟨#[99, 111, 110, 115, 116]⟩)), (1, (.bool true)), (5, (.bool true))])) fun v2 h2 =>
 aE (hX (cH 6 v0 v2 h2)) fun v3 h3 =>
 some (.ret, [v0, (.bool true)], h3))
 (aE (pu h1 (bC Tryd.prog .eql 3 true x0 (.int .i64 2))) fun v4 h4 =>
 bK v4
 (aE (pu h4 (eU [(0, 1), (1, 1), (2, 1), (3, 1), (4, 1), (5, 1)] [(.str ⟨#[]⟩), (.bool false), (.bool false), (.bool false), (.bool false), (.bool false)] [(0, (.str ⟨#[109, 111, 118]⟩)), (1, (.bool true)), (2, (.bool true))])) fun v5 h5 =>
 aE (hX (cH 6 v0 v5 h5)) fun v6 h6 =>
 some (.ret, [v0, (.bool true)], h6))
 (dW (
 aE (pu h4 (bC Tryd.prog .eql 3 true x0 (.int .i64 3))) fun v7 h7 =>
 bK v7
 (some (.normal, [x0, v0, x0, v7], h7))
 (aE (pu h7 (bC Tryd.prog .eql 3 true x0 (.int .i64 4))) fun v8 h8 =>
 bK v8
 (some (.normal, [x0, v0, x0, v8], h8))
 (aE (pu h8 (bC Tryd.prog .eql 3 true x0 (.int .i64 5))) fun v9 h9 =>
 bK v9
 (some (.normal, [x0, v0, x0, v9], h9))
 (aE (pu h9 (bC Tryd.prog .eql 3 true x0 (.int .i64 6))) fun v10 h10 =>
 bK v10
 (some (.normal, [x0, v0, x0, v10], h10))
 (aE (pu h10 (bC Tryd.prog .eql 3 true x0 (.int .i64 7))) fun v11 h11 =>
 bK v11
 (some (.normal, [x0, v0, x0, v11], h11))
 (aE (pu h11 (bC Tryd.prog .eql 3 true x0 (.int .i64 8))) fun v12 h12 =>
 bK v12
 (some (.normal, [x0, v0, x0, v12], h12))
 (aE (pu h12 (bC Tryd.prog .eql 3 true x0 (.int .i64 9))) fun v13 h13 =>
 bK v13
 (some (.normal, [x0, v0, x0, v13], h13))
 (aE (pu h13 (bC Tryd.prog .eql 3 true x0 (.int .i64 13))) fun v14 h14 =>
 some (.normal, [x0, v0, x0, v14], h14))))))))) fun e15 x15 h15 => iJ e15
 (bK (aG x15 3)
 (aE (aJ (eP.f G k) [(aG x15 0)] h15) fun v16 h16 =>
 aE (pu h16 (eU [(0, 1), (1, 1), (2, 1), (3, 1), (4, 1), (5, 1)] [(.str ⟨#[]⟩), (.bool false), (.bool false), (.bool false), (.bool false), (.bool false)] [(0, v16), (1, (.bool true)), (2, (.bool true)), (3, (.bool true))])) fun v17 h17 =>
 aE (hX (cH 6 (aG x15 1) v17 h17)) fun v18 h18 =>
 some (.ret, [(aG x15 1), (.bool true)], h18))
 (dW (
 aE (pu h15 (bC Tryd.prog .eql 3 true (aG x15 2) (.int .i64 10))) fun v19 h19 =>
 bK v19
 (some (.normal, [(aG x15 0), (aG x15 1), (aG x15 2), v19], h19))
 (aE (pu h19 (bC Tryd.prog .eql 3 true (aG x15 2) (.int .i64 11))) fun v20 h20 =>
 bK v20
 (some (.normal, [(aG x15 0), (aG x15 1), (aG x15 2), v20], h20))
 (aE (pu h20 (bC Tryd.prog .eql 3 true (aG x15 2) (.int .i64 12))) fun v21 h21 =>
 bK v21
 (some (.normal, [(aG x15 0), (aG x15 1), (aG x15 2), v21], h21))
 (aE (pu h21 (bC Tryd.prog .eql 3 true (aG x15 2) (.int .i64 15))) fun v22 h22 =>
 some (.normal, [(aG x15 0), (aG x15 1), (aG x15 2), v22], h22))))) fun e23 x23 h23 => iJ e23
 (bK (aG x23 3)
 (aE (aJ (eP.f G k) [(aG x23 0)] h23) fun v24 h24 =>
 aE (pu h24 (eU [(0, 1), (1, 1), (2, 1), (3, 1), (4, 1), (5, 1)] [(.str ⟨#[]⟩), (.bool false), (.bool false), (.bool false), (.bool false), (.bool false)] [(0, v24), (1, (.bool true)), (2, (.bool true)), (5, (.bool true))])) fun v25 h25 =>
 aE (hX (cH 6 (aG x23 1) v25 h25)) fun v26 h26 =>
 some (.ret, [(aG x23 1), (.bool true)], h26))
 (aE (pu h23 (bC Tryd.prog .eql 3 true (aG x23 2) (.int .i64 14))) fun v27 h27 =>
 bK v27
 (aE (pu h27 (eU [(0, 1), (1, 1), (2, 1), (3, 1), (4, 1), (5, 1)] [(.str ⟨#[]⟩), (.bool false), (.bool false), (.bool false), (.bool false), (.bool false)] [(0, (.str ⟨#[115, 101, 108]⟩)), (1, (.bool true)), (2, (.bool true)), (3, (.bool true)), (4, (.bool true))])) fun v28 h28 =>
 aE (hX (cH 6 (aG x23 1) v28 h28)) fun v29 h29 =>
 some (.ret, [(aG x23 1), (.bool true)], h29))
 (aE (pu h27 (bC Tryd.prog .eql 3 true (aG x23 2) (.int .i64 16))) fun v30 h30 =>
 bK v30
 (aE (pu h30 (eU [(0, 1), (1, 1), (2, 1), (3, 1), (4, 1), (5, 1)] [(.str ⟨#[]⟩), (.bool false), (.bool false), (.bool false), (.bool false), (.bool false)] [(0, (.str ⟨#[115, 116]⟩)), (2, (.bool true)), (3, (.bool true)), (5, (.bool true))])) fun v31 h31 =>
 aE (hX (cH 6 (aG x23 1) v31 h31)) fun v32 h32 =>
 some (.ret, [(aG x23 1), (.bool true)], h32))
 (dW (
 aE (pu h30 (bC Tryd.prog .eql 3 true (aG x23 2) (.int .i64 17))) fun v33 h33 =>
 bK v33
 (some (.normal, [(aG x23 0), (aG x23 1), (aG x23 2), v33], h33))
 (aE (pu h33 (bC Tryd.prog .eql 3 true (aG x23 2) (.int .i64 20))) fun v34 h34 =>
 some (.normal, [(aG x23 0), (aG x23 1), (aG x23 2), v34], h34))) fun e35 x35 h35 => iJ e35
 (bK (aG x35 3)
 (aE (aJ (eP.f G k) [(aG x35 0)] h35) fun v36 h36 =>
 aE (pu h36 (eU [(0, 1), (1, 1), (2, 1), (3, 1), (4, 1), (5, 1)] [(.str ⟨#[]⟩), (.bool false), (.bool false), (.bool false), (.bool false), (.bool false)] [(0, v36), (5, (.bool true))])) fun v37 h37 =>
 aE (hX (cH 6 (aG x35 1) v37 h37)) fun v38 h38 =>
 some (.ret, [(aG x35 1), (.bool true)], h38))
 (dW (
 aE (pu h35 (bC Tryd.prog .eql 3 true (aG x35 2) (.int .i64 18))) fun v39 h39 =>
 bK v39
 (some (.normal, [(aG x35 0), (aG x35 1), v39], h39))
 (aE (pu h39 (bC Tryd.prog .eql 3 true (aG x35 2) (.int .i64 19))) fun v40 h40 =>
 some (.normal, [(aG x35 0), (aG x35 1), v40], h40))) fun e41 x41 h41 => iJ e41
 (bK (aG x41 2)
 (aE (aJ (eP.f G k) [(aG x41 0)] h41) fun v42 h42 =>
 aE (pu h42 (eU [(0, 1), (1, 1), (2, 1), (3, 1), (4, 1), (5, 1)] [(.str ⟨#[]⟩), (.bool false), (.bool false), (.bool false), (.bool false), (.bool false)] [(0, v42), (2, (.bool true)), (5, (.bool true))])) fun v43 h43 =>
 aE (hX (cH 6 (aG x41 1) v43 h43)) fun v44 h44 =>
 some (.ret, [(aG x41 1), (.bool true)], h44))
 (some (.normal, [(aG x41 1), .undef], h41)))
 (fun i41 => if i41 = 0 then (some (.normal, [(aG x41 1), .undef], h41)) else (some (.exit i41, [(aG x41 1), .undef], h41)))
 (some (.ret, [(aG x41 1), .undef], h41))))
 (fun i35 => if i35 = 0 then (some (.normal, [(aG x35 1), .undef], h35)) else (some (.exit i35, [(aG x35 1), .undef], h35)))
 (some (.ret, [(aG x35 1), .undef], h35))))))
 (fun i23 => if i23 = 0 then (some (.normal, [(aG x23 1), .undef], h23)) else (some (.exit i23, [(aG x23 1), .undef], h23)))
 (some (.ret, [(aG x23 1), .undef], h23))))
 (fun i15 => if i15 = 0 then (some (.normal, [(aG x15 1), .undef], h15)) else (some (.exit i15, [(aG x15 1), .undef], h15)))
 (some (.ret, [(aG x15 1), .undef], h15))))) fun e45 x45 h45 => iJ e45
 (aE (pu h45 (eU [(0, 1), (1, 1), (2, 1), (3, 1), (4, 1), (5, 1)] [(.str ⟨#[]⟩), (.bool false), (.bool false), (.bool false), (.bool false), (.bool false)] [(0, (.str ⟨#[110, 111, 110, 101]⟩))])) fun v46 h46 =>
 aE (hX (cH 6 (aG x45 0) v46 h46)) fun v47 h47 =>
 jM [aH G true 6 (aG x45 0) h47, some (.bool false)] h.length h47)
 (fun i45 => none)
 (jM [aH G true 6 (aG x45 0) h45, some (aG x45 1)] h.length h45))
noncomputable def dX.f (G : aC) : Nat → cK
 | 0 => fun _ _ => none
 | k + 1 => fun args h => jD args fun x0 => (dX.c G k (dX.f G k) x0 h)
theorem dX.step (G : aC) (k : Nat) (x0 : AV) (h : aA) : dX.f G (k + 1) [x0] h = dX.c G k (dX.f G k) x0 h := rfl
noncomputable def fG.ann : Ann := fD [] [] [] []
noncomputable def fG.env (G : aC) (k : Nat) (self : cK) : List (Nat × Bool × cK) := []
noncomputable def fG.c (G : aC) (k : Nat) (self : cK) (x0 x1 : AV) (h : aA) : Option (AV × aA) := fQ (
 aE (eE x0 h) fun v0 h0 =>
 aE (eE x1 h0) fun v1 h1 =>
 aE (pu h1 (aF 1 v1)) fun v2 h2 =>
 aE (pu h2 (aH G false 1 v2 h2)) fun v3 h3 =>
 aE (pu h3 (aF 2 v1)) fun v4 h4 =>
 aE (pu h4 (aH G false 1 v4 h4)) fun v5 h5 =>
 aE (pu h5 (aF 3 v1)) fun v6 h6 =>
 aE (pu h6 (aH G false 1 v6 h6)) fun v7 h7 =>
 aE (pu h7 (aF 4 v1)) fun v8 h8 =>
 aE (pu h8 (aH G false 1 v8 h8)) fun v9 h9 =>
 aE (pu h9 (aF 5 v1)) fun v10 h10 =>
 aE (pu h10 (aH G false 1 v10 h10)) fun v11 h11 =>
 aE (dN 1 5 (.bool false) [(0, v3), (1, v5), (2, v7), (3, v9), (4, v11)] h11) fun v12 h12 =>
 aE (pu h12 (aF 1 v0)) fun v13 h13 =>
 aE (pu h13 (aH G false 1 v13 h13)) fun v14 h14 =>
 aE (pu h14 (aF 2 v0)) fun v15 h15 =>
 aE (pu h15 (aH G false 1 v15 h15)) fun v16 h16 =>
 aE (pu h16 (aF 3 v0)) fun v17 h17 =>
 aE (pu h17 (aH G false 1 v17 h17)) fun v18 h18 =>
 aE (pu h18 (aF 4 v0)) fun v19 h19 =>
 aE (pu h19 (aH G false 1 v19 h19)) fun v20 h20 =>
 aE (pu h20 (aF 5 v0)) fun v21 h21 =>
 aE (pu h21 (aH G false 1 v21 h21)) fun v22 h22 =>
 aE (dN 1 5 (.int .i64 0) [(0, v14), (1, v16), (2, v18), (3, v20), (4, v22)] h22) fun v23 h23 =>
 cS [v12, v23] h.length h23)
noncomputable def fG.f (G : aC) : Nat → cK
 | 0 => fun _ _ => none
 | k + 1 => fun args h => lW args fun x0 x1 => (fG.c G k (fG.f G k) x0 x1 h)
noncomputable def cR.ann : Ann := fD [] [] [(12, [2, 3, 4, 8, 53, 54, 55]), (6, [2, 3, 4, 7, 8, 28])] [(33, [3, 4, 12]), (31, [2, 3, 12, 82]), (27, [2, 3, 12, 72, 79]), (22, [2, 3, 12, 72, 73])]
noncomputable def cR.env (G : aC) (k : Nat) (self : cK) : List (Nat × Bool × cK) := [(51, true, dX.f G k), (95, true, fG.f G k)]
noncomputable def cR.l6 (G : aC) (k n0 : Nat) (self : cK) (lp : dO) : dO := fun xs h0 => gX n0 xs h0 fun h =>
 aE (pu h (bC Tryd.prog .lss 3 true (aG xs 5) (.int .i64 4))) fun v17 h17 =>
 bK v17
 (aE (pu h17 (aM 1 (aG xs 3) (aG xs 5))) fun v18 h18 =>
 aE (pu h18 (aH G false 1 v18 h18)) fun v19 h19 =>
 aE (gd v19 true h19 (some ((aG xs 4), h19))) fun v20 h20 =>
 aE (gd v19 true h20 (some ((aG xs 5), h20))) fun v21 h21 =>
 aE (gd v19 true h21 (pu h21 (aM 1 v20 v21))) fun v22 h22 =>
 aE (gd v19 true h22 (pu h22 (aH G false 1 v22 h22))) fun v23 h23 =>
 aE (gd v19 true h23 (pu h23 (bC Tryd.prog .lss 2 true v23 (.int .i64 0)))) fun v24 h24 =>
 aE (gd v19 true h24 (some (v24, h24))) fun v25 h25 =>
 aE (gd v25 false h25 (some ((aG xs 4), h25))) fun v26 h26 =>
 aE (gd v25 false h26 (some ((aG xs 5), h26))) fun v27 h27 =>
 aE (gd v25 false h27 (pu h27 (aM 1 v26 v27))) fun v28 h28 =>
 aE (gd v25 false h28 (pu h28 (aH G false 1 v28 h28))) fun v29 h29 =>
 aE (gd v25 false h29 (pu h29 (aF 1 (aG xs 0)))) fun v30 h30 =>
 aE (gd v25 false h30 (pu h30 (aH G false 1 v30 h30))) fun v31 h31 =>
 aE (gd v25 false h31 (pu h31 (bC Tryd.prog .geq 2 false v29 v31))) fun v32 h32 =>
 aE (gd v19 true h32 (pu h32 (dL v25 (.bool true) v32))) fun v33 h33 =>
 aE (pu h33 (dL v19 v33 (.bool false))) fun v34 h34 =>
 bK v34
 (aE (pu h34 (aH G false 1 (.gl 0) h34)) fun v35 h35 =>
 some (.ret, [(aG xs 0), (aG xs 1), v35, (aG xs 3), (aG xs 4), (aG xs 5)], h35))
 (aE (pu h34 (bC Tryd.prog .add 3 true (aG xs 5) (.int .i64 1))) fun v36 h36 =>
 lp [(aG xs 0), (aG xs 1), (aG xs 2), (aG xs 3), (aG xs 4), v36] h36))
 (some (.exit 0, [(aG xs 0), (aG xs 1), (aG xs 2), (aG xs 3), (aG xs 4), (aG xs 5)], h17))
noncomputable def cR.l12 (G : aC) (k n0 : Nat) (self : cK) (lp : dO) : dO := fun xs h0 => gX n0 xs h0 fun h =>
 aE (pu h (bC Tryd.prog .lss 3 false (aG xs 6) (aG xs 5))) fun v39 h39 =>
 bK v39
 (aE (pu h39 (aM 1 (aG xs 4) (aG xs 6))) fun v40 h40 =>
 aE (pu h40 (aH G false 1 v40 h40)) fun v41 h41 =>
 aE (pu h41 (un .not v41)) fun v42 h42 =>
 aE (gd v42 true h42 (some ((aG xs 3), h42))) fun v43 h43 =>
 aE (gd v42 true h43 (some ((aG xs 6), h43))) fun v44 h44 =>
 aE (gd v42 true h44 (pu h44 (aM 1 v43 v44))) fun v45 h45 =>
 aE (gd v42 true h45 (pu h45 (aH G false 1 v45 h45))) fun v46 h46 =>
 aE (gd v42 true h46 (pu h46 (bC Tryd.prog .neq 2 true v46 (.int .i64 0)))) fun v47 h47 =>
 aE (pu h47 (dL v42 v47 (.bool false))) fun v48 h48 =>
 bK v48
 (aE (pu h48 (aH G false 1 (.gl 4) h48)) fun v49 h49 =>
 some (.ret, [(aG xs 0), (aG xs 1), v49, (aG xs 3), (aG xs 4), (aG xs 5), (aG xs 6)], h49))
 (aE (pu h48 (bC Tryd.prog .add 3 true (aG xs 6) (.int .i64 1))) fun v50 h50 =>
 lp [(aG xs 0), (aG xs 1), (aG xs 2), (aG xs 3), (aG xs 4), (aG xs 5), v50] h50))
 (some (.exit 2, [(aG xs 0), (aG xs 1), (aG xs 2), (aG xs 3), (aG xs 4), (aG xs 5), (aG xs 6)], h39))
noncomputable def cR.c (G : aC) (k : Nat) (self : cK) (x0 x1 : AV) (h : aA) : Option (AV × aA) := fQ (
 aE (eE x0 h) fun v0 h0 =>
 aE (eE x1 h0) fun v1 h1 =>
 aE (pu h1 (aF 0 v1)) fun v2 h2 =>
 aE (pu h2 (aH G false 1 v2 h2)) fun v3 h3 =>
 aE (aJ (dX.f G k) [v3] h3) fun v4 h4 =>
 aE (pu h4 (cX v4 0)) fun v5 h5 =>
 aE (pu h5 (cX v4 1)) fun v6 h6 =>
 aE (gD 100 (.agg [(.str ⟨#[]⟩), (.bool false), (.bool false), (.bool false), (.bool false), (.bool false)]) h6) fun v7 h7 =>
 aE (hX (cH 6 v7 v5 h7)) fun v8 h8 =>
 aE (pu h8 (un .not v6)) fun v9 h9 =>
 bK v9
 (aE (pu h9 (aH G false 1 (.gl 3) h9)) fun v10 h10 =>
 cS [v10] h.length h10)
 (aE (pu h9 (aH G true 6 v1 h9)) fun v11 h11 =>
 aE (pu h11 (aH G true 6 v7 h11)) fun v12 h12 =>
 aE (aJ (fG.f G k) [v11, v12] h12) fun v13 h13 =>
 aE (pu h13 (cX v13 0)) fun v14 h14 =>
 aE (pu h14 (cX v13 1)) fun v15 h15 =>
 dW (cC (cR.l6 G k h15.length self) k [v0, v1, .nili, v14, v15, (.int .i64 0)] h15) fun e16 x16 h16 => iJ e16
 (none)
 (fun i16 => if i16 = 0 then (aE (pu h16 (cB (aG x16 3))) fun v37 h37 =>
 dW (cC (cR.l12 G k h37.length self) k [(aG x16 0), (aG x16 1), (aG x16 2), (aG x16 4), (aG x16 3), v37, (.int .i64 0)] h37) fun e38 x38 h38 => iJ e38
 (none)
 (fun i38 => if i38 = 2 then (dW (
 aE (pu h38 (aF 0 (aG x38 1))) fun v51 h51 =>
 aE (pu h51 (aH G false 1 v51 h51)) fun v52 h52 =>
 dW (
 aE (pu h52 (bC Tryd.prog .eql 3 true v52 (.int .i64 10))) fun v53 h53 =>
 bK v53
 (some (.normal, [(aG x38 0), (aG x38 1), (.int .i64 (-1)), v52, v53], h53))
 (aE (pu h53 (bC Tryd.prog .eql 3 true v52 (.int .i64 11))) fun v54 h54 =>
 bK v54
 (some (.normal, [(aG x38 0), (aG x38 1), (.int .i64 (-1)), v52, v54], h54))
 (aE (pu h54 (bC Tryd.prog .eql 3 true v52 (.int .i64 12))) fun v55 h55 =>
 some (.normal, [(aG x38 0), (aG x38 1), (.int .i64 (-1)), v52, v55], h55)))) fun e56 x56 h56 => iJ e56
 (bK (aG x56 4)
 (some (.normal, [(aG x56 1), .undef, (.int .i64 63)], h56))
 (aE (pu h56 (bC Tryd.prog .eql 3 true (aG x56 3) (.int .i64 20))) fun v57 h57 =>
 bK v57
 (some (.normal, [(aG x56 1), .undef, (.int .i64 2)], h57))
 (dW (
 aE (pu h57 (bC Tryd.prog .eql 3 true (aG x56 3) (.int .i64 15))) fun v58 h58 =>
 bK v58
 (some (.normal, [(aG x56 0), (aG x56 1), (aG x56 2), (aG x56 3), v58], h58))
 (aE (pu h58 (bC Tryd.prog .eql 3 true (aG x56 3) (.int .i64 16))) fun v59 h59 =>
 some (.normal, [(aG x56 0), (aG x56 1), (aG x56 2), (aG x56 3), v59], h59))) fun e60 x60 h60 => iJ e60
 (bK (aG x60 4)
 (some (.normal, [(aG x60 1), .undef, (.int .i64 65535)], h60))
 (dW (
 aE (pu h60 (bC Tryd.prog .eql 3 true (aG x60 3) (.int .i64 17))) fun v61 h61 =>
 bK v61
 (some (.normal, [(aG x60 0), (aG x60 1), (aG x60 2), v61], h61))
 (aE (pu h61 (bC Tryd.prog .eql 3 true (aG x60 3) (.int .i64 18))) fun v62 h62 =>
 bK v62
 (some (.normal, [(aG x60 0), (aG x60 1), (aG x60 2), v62], h62))
 (aE (pu h62 (bC Tryd.prog .eql 3 true (aG x60 3) (.int .i64 19))) fun v63 h63 =>
 some (.normal, [(aG x60 0), (aG x60 1), (aG x60 2), v63], h63)))) fun e64 x64 h64 => iJ e64
 (bK (aG x64 3)
 (aE (pu h64 (aF 5 (aG x64 1))) fun v65 h65 =>
 aE (pu h65 (aH G false 1 v65 h65)) fun v66 h66 =>
 aE (pu h66 (bC Tryd.prog .lss 2 true v66 (.int .i64 0))) fun v67 h67 =>
 aE (gd v67 false h67 (pu h67 (aF 5 (aG x64 1)))) fun v68 h68 =>
 aE (gd v67 false h68 (pu h68 (aH G false 1 v68 h68))) fun v69 h69 =>
 aE (gd v67 false h69 (pu h69 (aF 0 (aG x64 0)))) fun v70 h70 =>
 aE (gd v67 false h70 (pu h70 (aH G false 1 v70 h70))) fun v71 h71 =>
 aE (gd v67 false h71 (pu h71 (cB v71))) fun v72 h72 =>
 aE (gd v67 false h72 (pu h72 (bC Tryd.prog .gtr 2 false v69 v72))) fun v73 h73 =>
 aE (pu h73 (dL v67 (.bool true) v73)) fun v74 h74 =>
 bK v74
 (aE (pu h74 (aH G false 1 (.gl 5) h74)) fun v75 h75 =>
 some (.ret, [(aG x64 1), v75, (aG x64 2)], h75))
 (some (.normal, [(aG x64 1), .undef, (aG x64 2)], h74)))
 (some (.normal, [(aG x64 1), .undef, (aG x64 2)], h64)))
 (fun i64 => if i64 = 4 then (some (.normal, [(aG x64 1), .undef, (aG x64 2)], h64)) else (some (.exit i64, [(aG x64 1), .undef, (aG x64 2)], h64)))
 (some (.ret, [(aG x64 1), .undef, (aG x64 2)], h64))))
 (fun i60 => if i60 = 4 then (some (.normal, [(aG x60 1), .undef, (aG x60 2)], h60)) else (some (.exit i60, [(aG x60 1), .undef, (aG x60 2)], h60)))
 (some (.ret, [(aG x60 1), .undef, (aG x60 2)], h60)))))
 (fun i56 => if i56 = 4 then (some (.normal, [(aG x56 1), .undef, (aG x56 2)], h56)) else (some (.exit i56, [(aG x56 1), .undef, (aG x56 2)], h56)))
 (some (.ret, [(aG x56 1), .undef, (aG x56 2)], h56))) fun e76 x76 h76 => iJ e76
 (aE (pu h76 (bC Tryd.prog .geq 2 true (aG x76 2) (.int .i64 0))) fun v77 h77 =>
 aE (gd v77 true h77 (pu h77 (aF 5 (aG x76 0)))) fun v78 h78 =>
 aE (gd v77 true h78 (pu h78 (aH G false 1 v78 h78))) fun v79 h79 =>
 aE (gd v77 true h79 (pu h79 (bC Tryd.prog .lss 2 true v79 (.int .i64 0)))) fun v80 h80 =>
 aE (gd v77 true h80 (some (v80, h80))) fun v81 h81 =>
 aE (gd v81 false h81 (pu h81 (aF 5 (aG x76 0)))) fun v82 h82 =>
 aE (gd v81 false h82 (pu h82 (aH G false 1 v82 h82))) fun v83 h83 =>
 aE (gd v81 false h83 (some ((aG x76 2), h83))) fun v84 h84 =>
 aE (gd v81 false h84 (pu h84 (bC Tryd.prog .gtr 2 false v83 v84))) fun v85 h85 =>
 aE (gd v77 true h85 (pu h85 (dL v81 (.bool true) v85))) fun v86 h86 =>
 aE (pu h86 (dL v77 v86 (.bool false))) fun v87 h87 =>
 bK v87
 (aE (pu h87 (aH G false 1 (.gl 0) h87)) fun v88 h88 =>
 cS [v88] h.length h88)
 (cS [.nili] h.length h87))
 (fun i76 => none)
 (cS [(aG x76 1)] h.length h76)) else (none))
 (cS [(aG x38 2)] h.length h38)) else (none))
 (cS [(aG x16 2)] h.length h16)))
noncomputable def cR.f (G : aC) : Nat → cK
 | 0 => fun _ _ => none
 | k + 1 => fun args h => lW args fun x0 x1 => (cR.c G k (cR.f G k) x0 x1 h)
theorem cR.step (G : aC) (k : Nat) (x0 x1 : AV) (h : aA) : cR.f G (k + 1) [x0, x1] h = cR.c G k (cR.f G k) x0 x1 h := rfl
noncomputable def cW.ann : Ann := fD [] [] [(6, [1, 2, 33, 34, 35])] []
noncomputable def cW.env (G : aC) (k : Nat) (self : cK) : List (Nat × Bool × cK) := [(72, true, cR.f G k)]
noncomputable def cW.l6 (G : aC) (k n0 : Nat) (self : cK) (lp : dO) : dO := fun xs h0 => gX n0 xs h0 fun h =>
 aE (pu h (bC Tryd.prog .lss 3 false (aG xs 4) (aG xs 3))) fun v26 h26 =>
 bK v26
 (aE (pu h26 (aM 6 (aG xs 2) (aG xs 4))) fun v27 h27 =>
 aE (pu h27 (aH G true 6 v27 h27)) fun v28 h28 =>
 aE (gD 29 (.agg [(.int .i64 0), (.int .i64 0), (.int .i64 0), (.int .i64 0), (.int .i64 0), (.int .i64 0)]) h28) fun v29 h29 =>
 aE (hX (cH 6 v29 v28 h29)) fun v30 h30 =>
 aE (pu h30 (aH G true 3 (aG xs 0) h30)) fun v31 h31 =>
 aE (pu h31 (aH G true 6 v29 h31)) fun v32 h32 =>
 aE (aJ (cR.f G k) [v31, v32] h32) fun v33 h33 =>
 aE (pu h33 (bC Tryd.prog .neq 33 true v33 .nili)) fun v34 h34 =>
 bK v34
 (aE (pu h34 (eU [(0, 1), (1, 1)] [(.int .i64 0), .nili] [(0, (aG xs 4)), (1, v33)])) fun v35 h35 =>
 aE (eE v35 h35) fun v36 h36 =>
 some (.ret, [(aG xs 0), (.iface 126 v36), (aG xs 2), (aG xs 3), (aG xs 4)], h36))
 (aE (pu h34 (bC Tryd.prog .add 3 true (aG xs 4) (.int .i64 1))) fun v37 h37 =>
 lp [(aG xs 0), (aG xs 1), (aG xs 2), (aG xs 3), v37] h37))
 (some (.exit 1, [(aG xs 0), (aG xs 1), (aG xs 2), (aG xs 3), (aG xs 4)], h26))
noncomputable def cW.c (G : aC) (k : Nat) (self : cK) (x0 : AV) (h : aA) : Option (AV × aA) := fQ (
 aE (eE x0 h) fun v0 h0 =>
 aE (pu h0 (aF 0 v0)) fun v1 h1 =>
 aE (pu h1 (aH G false 1 v1 h1)) fun v2 h2 =>
 aE (pu h2 (cB v2)) fun v3 h3 =>
 aE (pu h3 (bC Tryd.prog .gtr 3 true v3 (.int .i64 262144))) fun v4 h4 =>
 bK v4
 (aE (pu h4 (aH G false 1 (.gl 1) h4)) fun v5 h5 =>
 cS [v5] h.length h5)
 (aE (pu h4 (aF 1 v0)) fun v6 h6 =>
 aE (pu h6 (aH G false 1 v6 h6)) fun v7 h7 =>
 aE (pu h7 (bC Tryd.prog .lss 3 true v7 (.int .i64 0))) fun v8 h8 =>
 aE (gd v8 false h8 (pu h8 (aF 1 v0))) fun v9 h9 =>
 aE (gd v8 false h9 (pu h9 (aH G false 1 v9 h9))) fun v10 h10 =>
 aE (gd v8 false h10 (pu h10 (bC Tryd.prog .gtr 3 true v10 (.int .i64 65536)))) fun v11 h11 =>
 aE (pu h11 (dL v8 (.bool true) v11)) fun v12 h12 =>
 aE (gd v12 false h12 (pu h12 (aF 2 v0))) fun v13 h13 =>
 aE (gd v12 false h13 (pu h13 (aH G false 1 v13 h13))) fun v14 h14 =>
 aE (gd v12 false h14 (pu h14 (bC Tryd.prog .lss 3 true v14 (.int .i64 0)))) fun v15 h15 =>
 aE (pu h15 (dL v12 (.bool true) v15)) fun v16 h16 =>
 aE (gd v16 false h16 (pu h16 (aF 2 v0))) fun v17 h17 =>
 aE (gd v16 false h17 (pu h17 (aH G false 1 v17 h17))) fun v18 h18 =>
 aE (gd v16 false h18 (pu h18 (bC Tryd.prog .gtr 3 true v18 (.int .i64 65536)))) fun v19 h19 =>
 aE (pu h19 (dL v16 (.bool true) v19)) fun v20 h20 =>
 bK v20
 (aE (pu h20 (aH G false 1 (.gl 1) h20)) fun v21 h21 =>
 cS [v21] h.length h21)
 (aE (pu h20 (aF 0 v0)) fun v22 h22 =>
 aE (pu h22 (aH G false 1 v22 h22)) fun v23 h23 =>
 aE (pu h23 (cB v23)) fun v24 h24 =>
 dW (cC (cW.l6 G k h24.length self) k [v0, .nili, v23, v24, (.int .i64 0)] h24) fun e25 x25 h25 => iJ e25
 (none)
 (fun i25 => if i25 = 1 then (cS [.nili] h.length h25) else (none))
 (cS [(aG x25 1)] h.length h25))))
noncomputable def cW.f (G : aC) : Nat → cK
 | 0 => fun _ _ => none
 | k + 1 => fun args h => jD args fun x0 => (cW.c G k (cW.f G k) x0 h)
theorem cW.step (G : aC) (k : Nat) (x0 : AV) (h : aA) : cW.f G (k + 1) [x0] h = cW.c G k (cW.f G k) x0 h := rfl
noncomputable def cT.ann : Ann := fD [] [] [] []
noncomputable def cT.env (G : aC) (k : Nat) (self : cK) : List (Nat × Bool × cK) := [(51, true, dX.f G k)]
noncomputable def cT.c (G : aC) (k : Nat) (self : cK) (x0 : AV) (h : aA) : Option (AV × aA) := fQ (
 aE (eE x0 h) fun v0 h0 =>
 aE (pu h0 (aF 0 v0)) fun v1 h1 =>
 aE (pu h1 (aH G false 1 v1 h1)) fun v2 h2 =>
 aE (aJ (dX.f G k) [v2] h2) fun v3 h3 =>
 aE (pu h3 (cX v3 0)) fun v4 h4 =>
 aE (pu h4 (cX v3 1)) fun v5 h5 =>
 aE (gD 100 (.agg [(.str ⟨#[]⟩), (.bool false), (.bool false), (.bool false), (.bool false), (.bool false)]) h5) fun v6 h6 =>
 aE (hX (cH 6 v6 v4 h6)) fun v7 h7 =>
 aE (pu h7 (aF 1 v6)) fun v8 h8 =>
 aE (pu h8 (aH G false 1 v8 h8)) fun v9 h9 =>
 aE (pu h9 (un .not v9)) fun v10 h10 =>
 bK v10
 (cS [(.int .i64 0), (.bool false)] h.length h10)
 (aE (pu h10 (aF 1 v0)) fun v11 h11 =>
 aE (pu h11 (aH G false 1 v11 h11)) fun v12 h12 =>
 cS [v12, (.bool true)] h.length h12))
noncomputable def cT.f (G : aC) : Nat → cK
 | 0 => fun _ _ => none
 | k + 1 => fun args h => jD args fun x0 => (cT.c G k (cT.f G k) x0 h)
theorem cT.step (G : aC) (k : Nat) (x0 : AV) (h : aA) : cT.f G (k + 1) [x0] h = cT.c G k (cT.f G k) x0 h := rfl
noncomputable def cF.ann : Ann := fD [] [] [] []
noncomputable def cF.env (G : aC) (k : Nat) (self : cK) : List (Nat × Bool × cK) := []
noncomputable def cF.c (G : aC) (k : Nat) (self : cK) (x0 : AV) (h : aA) : Option (AV × aA) := fQ (
 aE (pu h (bC Tryd.prog .neq 3 false x0 x0)) fun v0 h0 =>
 cS [v0] h.length h0)
noncomputable def cF.f (G : aC) : Nat → cK
 | 0 => fun _ _ => none
 | k + 1 => fun args h => jD args fun x0 => (cF.c G k (cF.f G k) x0 h)
theorem cF.step (G : aC) (k : Nat) (x0 : AV) (h : aA) : cF.f G (k + 1) [x0] h = cF.c G k (cF.f G k) x0 h := rfl
noncomputable def cL.ann : Ann := fD [] [] [] []
noncomputable def cL.env (G : aC) (k : Nat) (self : cK) : List (Nat × Bool × cK) := [(120, true, cF.f G k)]
noncomputable def cL.c (G : aC) (k : Nat) (self : cK) (x0 x1 : AV) (h : aA) : Option (AV × aA) := fQ (
 aE (aJ (cF.f G k) [x0] h) fun v0 h0 =>
 aE (gd v0 true h0 (some (x1, h0))) fun v1 h1 =>
 aE (gd v0 true h1 (aJ (cF.f G k) [v1] h1)) fun v2 h2 =>
 aE (gd v0 true h2 (pu h2 (un .not v2))) fun v3 h3 =>
 aE (pu h3 (dL v0 v3 (.bool false))) fun v4 h4 =>
 aE (gd v4 false h4 (some (x0, h4))) fun v5 h5 =>
 aE (gd v4 false h5 (some (x1, h5))) fun v6 h6 =>
 aE (gd v4 false h6 (pu h6 (bC Tryd.prog .lss 3 false v5 v6))) fun v7 h7 =>
 aE (pu h7 (dL v4 (.bool true) v7)) fun v8 h8 =>
 cS [v8] h.length h8)
noncomputable def cL.f (G : aC) : Nat → cK
 | 0 => fun _ _ => none
 | k + 1 => fun args h => lW args fun x0 x1 => (cL.c G k (cL.f G k) x0 x1 h)
theorem cL.step (G : aC) (k : Nat) (x0 x1 : AV) (h : aA) : cL.f G (k + 1) [x0, x1] h = cL.c G k (cL.f G k) x0 x1 h := rfl
noncomputable def aD.ann : Ann := fD [] [] [(4, [0, 1, 2, 6, 7]), (1, [0, 1, 2, 6])] []
noncomputable def aD.env (G : aC) (k : Nat) (self : cK) : List (Nat × Bool × cK) := [(103, true, cL.f G k)]
noncomputable def aD.l4 (G : aC) (k n0 : Nat) (self : cK) (lp : dO) : dO := fun xs h0 => gX n0 xs h0 fun h =>
 aE (pu h (bC Tryd.prog .gtr 3 false (aG xs 4) (aG xs 1))) fun v4 h4 =>
 aE (gd v4 true h4 (some ((aG xs 0), h4))) fun v5 h5 =>
 aE (gd v4 true h5 (some ((aG xs 4), h5))) fun v6 h6 =>
 aE (gd v4 true h6 (pu h6 (aM 1 v5 v6))) fun v7 h7 =>
 aE (gd v4 true h7 (pu h7 (aH G false 1 v7 h7))) fun v8 h8 =>
 aE (gd v4 true h8 (some ((aG xs 0), h8))) fun v9 h9 =>
 aE (gd v4 true h9 (some ((aG xs 4), h9))) fun v10 h10 =>
 aE (gd v4 true h10 (pu h10 (bC Tryd.prog .sub 3 true v10 (.int .i64 1)))) fun v11 h11 =>
 aE (gd v4 true h11 (pu h11 (aM 1 v9 v11))) fun v12 h12 =>
 aE (gd v4 true h12 (pu h12 (aH G false 1 v12 h12))) fun v13 h13 =>
 aE (gd v4 true h13 (aJ (cL.f G k) [v8, v13] h13)) fun v14 h14 =>
 aE (pu h14 (dL v4 v14 (.bool false))) fun v15 h15 =>
 bK v15
 (aE (pu h15 (bC Tryd.prog .sub 3 true (aG xs 4) (.int .i64 1))) fun v16 h16 =>
 aE (pu h16 (bC Tryd.prog .sub 3 true (aG xs 4) (.int .i64 1))) fun v17 h17 =>
 aE (pu h17 (aM 1 (aG xs 0) v17)) fun v18 h18 =>
 aE (pu h18 (aH G false 1 v18 h18)) fun v19 h19 =>
 aE (pu h19 (aM 1 (aG xs 0) (aG xs 4))) fun v20 h20 =>
 aE (pu h20 (aH G false 1 v20 h20)) fun v21 h21 =>
 aE (pu h21 (aM 1 (aG xs 0) (aG xs 4))) fun v22 h22 =>
 aE (hX (cH 1 v22 v19 h22)) fun v23 h23 =>
 aE (pu h23 (aM 1 (aG xs 0) v16)) fun v24 h24 =>
 aE (hX (cH 1 v24 v21 h24)) fun v25 h25 =>
 aE (pu h25 (bC Tryd.prog .sub 3 true (aG xs 4) (.int .i64 1))) fun v26 h26 =>
 lp [(aG xs 0), (aG xs 1), (aG xs 2), (aG xs 3), v26] h26)
 (some (.exit 2, [(aG xs 0), (aG xs 1), (aG xs 2), (aG xs 3), (aG xs 4)], h15))
noncomputable def aD.l1 (G : aC) (k n0 : Nat) (self : cK) (lp : dO) : dO := fun xs h0 => gX n0 xs h0 fun h =>
 aE (pu h (bC Tryd.prog .lss 3 false (aG xs 3) (aG xs 2))) fun v2 h2 =>
 bK v2
 (dW (cC (aD.l4 G k h2.length self) k [(aG xs 0), (aG xs 1), (aG xs 2), (aG xs 3), (aG xs 3)] h2) fun e3 x3 h3 => iJ e3
 (none)
 (fun i3 => if i3 = 2 then (aE (pu h3 (bC Tryd.prog .add 3 true (aG x3 3) (.int .i64 1))) fun v27 h27 =>
 lp [(aG x3 0), (aG x3 1), (aG x3 2), v27] h27) else (if i3 = 1 then (aE (pu h3 (bC Tryd.prog .add 3 true (aG x3 3) (.int .i64 1))) fun v28 h28 =>
 lp [(aG x3 0), (aG x3 1), (aG x3 2), v28] h28) else (some (.exit i3, [(aG x3 0), (aG x3 1), (aG x3 2), (aG x3 3)], h3))))
 (some (.ret, [(aG x3 0), (aG x3 1), (aG x3 2), (aG x3 3)], h3)))
 (some (.exit 0, [(aG xs 0), (aG xs 1), (aG xs 2), (aG xs 3)], h2))
noncomputable def aD.c (G : aC) (k : Nat) (self : cK) (x0 x1 x2 : AV) (h : aA) : Option (AV × aA) := fQ (
 aE (pu h (bC Tryd.prog .add 3 true x1 (.int .i64 1))) fun v0 h0 =>
 dW (cC (aD.l1 G k h0.length self) k [x0, x1, x2, v0] h0) fun e1 x1 h1 => iJ e1
 (none)
 (fun i1 => if i1 = 0 then (cS [] h.length h1) else (none))
 (cS [] h.length h1))
noncomputable def aD.f (G : aC) : Nat → cK
 | 0 => fun _ _ => none
 | k + 1 => fun args h => aBR args fun x0 x1 x2 => (aD.c G k (aD.f G k) x0 x1 x2 h)
theorem aD.step (G : aC) (k : Nat) (x0 x1 x2 : AV) (h : aA) : aD.f G (k + 1) [x0, x1, x2] h = aD.c G k (aD.f G k) x0 x1 x2 h := rfl
noncomputable def aL.ann : Ann := fD [] [] [(2, [0, 1, 2, 3, 8, 9])] [(17, [0, 1, 2, 3, 8, 9, 10, 11]), (15, [0, 1, 2, 3, 8, 9, 10, 11, 12]), (10, [0, 1, 2, 3, 8, 9, 10])]
noncomputable def aL.env (G : aC) (k : Nat) (self : cK) : List (Nat × Bool × cK) := [(87, false, self), (97, false, aD.f G k), (103, true, cL.f G k)]
noncomputable def aL.l2 (G : aC) (k n0 : Nat) (self : cK) (lp : dO) : dO := fun xs h0 => gX n0 xs h0 fun h =>
 aE (pu h (bC Tryd.prog .sub 3 false (aG xs 2) (aG xs 1))) fun v1 h1 =>
 aE (pu h1 (bC Tryd.prog .leq 3 true v1 (.int .i64 12))) fun v2 h2 =>
 bK v2
 (aE (dG (aD.f G k) [(aG xs 0), (aG xs 1), (aG xs 2)] h2) fun v3 h3 =>
 some (.ret, [(aG xs 0), (aG xs 1), (aG xs 2), (aG xs 3), (aG xs 4), (aG xs 5)], h3))
 (aE (pu h2 (bC Tryd.prog .eql 3 true (aG xs 3) (.int .i64 0))) fun v4 h4 =>
 bK v4
 (none)
 (dW (
 aE (pu h4 (un .not (aG xs 4))) fun v5 h5 =>
 bK v5
 (none)
 (some (.normal, [(aG xs 0), (aG xs 1), (aG xs 2), (aG xs 3), (aG xs 4), (aG xs 5), v1], h5))) fun e6 x6 h6 => iJ e6
 (none)
 (fun i6 => if i6 = 1 then (lp [(aG x6 0), (aG x6 1), (aG x6 2), (aG x6 3), (aG x6 4), (aG x6 5)] h6) else (some (.exit i6, [(aG x6 0), (aG x6 1), (aG x6 2), (aG x6 3), (aG x6 4), (aG x6 5)], h6)))
 (some (.ret, [(aG x6 0), (aG x6 1), (aG x6 2), (aG x6 3), (aG x6 4), (aG x6 5)], h6))))
noncomputable def aL.c (G : aC) (k : Nat) (self : cK) (x0 x1 x2 x3 : AV) (h : aA) : Option (AV × aA) := fQ (
 dW (cC (aL.l2 G k h.length self) k [x0, x1, x2, x3, (.bool true), (.bool true)] h) fun e0 x0 h0 => iJ e0
 (none)
 (fun i0 => if i0 = 0 then (cS [] h.length h0) else (none))
 (cS [] h.length h0))
noncomputable def aL.f (G : aC) : Nat → cK
 | 0 => fun _ _ => none
 | k + 1 => fun args h => aIW args fun x0 x1 x2 x3 => (aL.c G k (aL.f G k) x0 x1 x2 x3 h)
theorem aL.step (G : aC) (k : Nat) (x0 x1 x2 x3 : AV) (h : aA) : aL.f G (k + 1) [x0, x1, x2, x3] h = aL.c G k (aL.f G k) x0 x1 x2 x3 h := rfl
def dA.s0 : ByteArray := ⟨#[0, 1, 2, 2, 3, 3, 3, 3, 4, 4, 4, 4, 4, 4, 4, 4, 5, 5, 5, 5, 5, 5, 5, 5, 5, 5, 5, 5, 5, 5, 5, 5, 6, 6, 6, 6, 6, 6, 6, 6, 6, 6, 6, 6, 6, 6, 6, 6, 6, 6, 6, 6, 6, 6, 6, 6, 6, 6, 6, 6, 6, 6, 6, 6, 7, 7, 7, 7, 7, 7, 7, 7, 7, 7, 7, 7, 7, 7, 7, 7, 7, 7, 7, 7, 7, 7, 7, 7, 7, 7, 7, 7, 7, 7, 7, 7, 7, 7, 7, 7, 7, 7, 7, 7, 7, 7, 7, 7, 7, 7, 7, 7, 7, 7, 7, 7, 7, 7, 7, 7, 7, 7, 7, 7, 7, 7, 7, 7, 8, 8, 8, 8, 8, 8, 8, 8, 8, 8, 8, 8, 8, 8, 8, 8, 8, 8, 8, 8, 8, 8, 8, 8, 8, 8, 8, 8, 8, 8, 8, 8, 8, 8, 8, 8, 8, 8, 8, 8, 8, 8, 8, 8, 8, 8, 8, 8, 8, 8, 8, 8, 8, 8, 8, 8, 8, 8, 8, 8, 8, 8, 8, 8, 8, 8, 8, 8, 8, 8, 8, 8, 8, 8, 8, 8, 8, 8, 8, 8, 8, 8, 8, 8, 8, 8, 8, 8, 8, 8, 8, 8, 8, 8, 8, 8, 8, 8, 8, 8, 8, 8, 8, 8, 8, 8, 8, 8, 8, 8, 8, 8, 8, 8, 8, 8, 8, 8, 8, 8, 8, 8, 8, 8, 8, 8, 8, 8]⟩
noncomputable def dA.ann : Ann := fD [] [] [] [(7, [0, 2]), (4, [0, 2])]
noncomputable def dA.env (G : aC) (k : Nat) (self : cK) : List (Nat × Bool × cK) := []
noncomputable def dA.c (G : aC) (k : Nat) (self : cK) (x0 : AV) (h : aA) : Option (AV × aA) := fQ (
 dW (
 aE (pu h (bC Tryd.prog .geq 161 true x0 (.int .u32 65536))) fun v0 h0 =>
 bK v0
 (aE (pu h0 (bC Tryd.prog .shr 161 true x0 (.int .u64 16))) fun v1 h1 =>
 some (.normal, [v1, (.int .i64 16)], h1))
 (some (.normal, [x0, (.int .i64 0)], h0))) fun e2 x2 h2 => iJ e2
 (dW (
 aE (pu h2 (bC Tryd.prog .geq 161 true (aG x2 0) (.int .u32 256))) fun v3 h3 =>
 bK v3
 (aE (pu h3 (bC Tryd.prog .shr 161 true (aG x2 0) (.int .u64 8))) fun v4 h4 =>
 aE (pu h4 (bC Tryd.prog .add 3 true (aG x2 1) (.int .i64 8))) fun v5 h5 =>
 some (.normal, [v4, v5], h5))
 (some (.normal, [(aG x2 0), (aG x2 1)], h3))) fun e6 x6 h6 => iJ e6
 (aE (pu h6 (gL .u8 (aG x6 0))) fun v7 h7 =>
 aE (pu h7 (aAY (.str dA.s0) v7)) fun v8 h8 =>
 aE (pu h8 (gL .i64 v8)) fun v9 h9 =>
 aE (pu h9 (bC Tryd.prog .add 3 false (aG x6 1) v9)) fun v10 h10 =>
 cS [v10] h.length h10)
 (fun i6 => none)
 (cS [(aG x6 1)] h.length h6))
 (fun i2 => none)
 (cS [(aG x2 1)] h.length h2))
noncomputable def dA.f (G : aC) : Nat → cK
 | 0 => fun _ _ => none
 | k + 1 => fun args h => jD args fun x0 => (dA.c G k (dA.f G k) x0 h)
def dB.s0 : ByteArray := ⟨#[0, 1, 2, 2, 3, 3, 3, 3, 4, 4, 4, 4, 4, 4, 4, 4, 5, 5, 5, 5, 5, 5, 5, 5, 5, 5, 5, 5, 5, 5, 5, 5, 6, 6, 6, 6, 6, 6, 6, 6, 6, 6, 6, 6, 6, 6, 6, 6, 6, 6, 6, 6, 6, 6, 6, 6, 6, 6, 6, 6, 6, 6, 6, 6, 7, 7, 7, 7, 7, 7, 7, 7, 7, 7, 7, 7, 7, 7, 7, 7, 7, 7, 7, 7, 7, 7, 7, 7, 7, 7, 7, 7, 7, 7, 7, 7, 7, 7, 7, 7, 7, 7, 7, 7, 7, 7, 7, 7, 7, 7, 7, 7, 7, 7, 7, 7, 7, 7, 7, 7, 7, 7, 7, 7, 7, 7, 7, 7, 8, 8, 8, 8, 8, 8, 8, 8, 8, 8, 8, 8, 8, 8, 8, 8, 8, 8, 8, 8, 8, 8, 8, 8, 8, 8, 8, 8, 8, 8, 8, 8, 8, 8, 8, 8, 8, 8, 8, 8, 8, 8, 8, 8, 8, 8, 8, 8, 8, 8, 8, 8, 8, 8, 8, 8, 8, 8, 8, 8, 8, 8, 8, 8, 8, 8, 8, 8, 8, 8, 8, 8, 8, 8, 8, 8, 8, 8, 8, 8, 8, 8, 8, 8, 8, 8, 8, 8, 8, 8, 8, 8, 8, 8, 8, 8, 8, 8, 8, 8, 8, 8, 8, 8, 8, 8, 8, 8, 8, 8, 8, 8, 8, 8, 8, 8, 8, 8, 8, 8, 8, 8, 8, 8, 8, 8, 8, 8]⟩
noncomputable def dB.ann : Ann := fD [] [] [] [(10, [0, 2]), (7, [0, 2]), (4, [0, 2])]
noncomputable def dB.env (G : aC) (k : Nat) (self : cK) : List (Nat × Bool × cK) := []
noncomputable def dB.c (G : aC) (k : Nat) (self : cK) (x0 : AV) (h : aA) : Option (AV × aA) := fQ (
 dW (
 aE (pu h (bC Tryd.prog .geq 30 true x0 (.int .u64 4294967296))) fun v0 h0 =>
 bK v0
 (aE (pu h0 (bC Tryd.prog .shr 30 true x0 (.int .u64 32))) fun v1 h1 =>
 some (.normal, [v1, (.int .i64 32)], h1))
 (some (.normal, [x0, (.int .i64 0)], h0))) fun e2 x2 h2 => iJ e2
 (dW (
 aE (pu h2 (bC Tryd.prog .geq 30 true (aG x2 0) (.int .u64 65536))) fun v3 h3 =>
 bK v3
 (aE (pu h3 (bC Tryd.prog .shr 30 true (aG x2 0) (.int .u64 16))) fun v4 h4 =>
 aE (pu h4 (bC Tryd.prog .add 3 true (aG x2 1) (.int .i64 16))) fun v5 h5 =>
 some (.normal, [v4, v5], h5))
 (some (.normal, [(aG x2 0), (aG x2 1)], h3))) fun e6 x6 h6 => iJ e6
 (dW (
 aE (pu h6 (bC Tryd.prog .geq 30 true (aG x6 0) (.int .u64 256))) fun v7 h7 =>
 bK v7
 (aE (pu h7 (bC Tryd.prog .shr 30 true (aG x6 0) (.int .u64 8))) fun v8 h8 =>
 aE (pu h8 (bC Tryd.prog .add 3 true (aG x6 1) (.int .i64 8))) fun v9 h9 =>
 some (.normal, [v8, v9], h9))
 (some (.normal, [(aG x6 0), (aG x6 1)], h7))) fun e10 x10 h10 => iJ e10
 (aE (pu h10 (gL .u8 (aG x10 0))) fun v11 h11 =>
 aE (pu h11 (aAY (.str dB.s0) v11)) fun v12 h12 =>
 aE (pu h12 (gL .i64 v12)) fun v13 h13 =>
 aE (pu h13 (bC Tryd.prog .add 3 false (aG x10 1) v13)) fun v14 h14 =>
 cS [v14] h.length h14)
 (fun i10 => none)
 (cS [(aG x10 1)] h.length h10))
 (fun i6 => none)
 (cS [(aG x6 1)] h.length h6))
 (fun i2 => none)
 (cS [(aG x2 1)] h.length h2))
noncomputable def dB.f (G : aC) : Nat → cK
 | 0 => fun _ _ => none
 | k + 1 => fun args h => jD args fun x0 => (dB.c G k (dB.f G k) x0 h)
noncomputable def cZ.ann : Ann := fD [] [] [] []
noncomputable def cZ.env (G : aC) (k : Nat) (self : cK) : List (Nat × Bool × cK) := [(106, true, dA.f G k), (107, true, dB.f G k)]
noncomputable def cZ.c (G : aC) (k : Nat) (self : cK) (x0 : AV) (h : aA) : Option (AV × aA) := fQ (
 bK (.bool false)
 (aE (pu h (gL .u32 x0)) fun v0 h0 =>
 aE (aJ (dA.f G k) [v0] h0) fun v1 h1 =>
 cS [v1] h.length h1)
 (aE (aJ (dB.f G k) [x0] h) fun v2 h2 =>
 cS [v2] h.length h2))
noncomputable def cZ.f (G : aC) : Nat → cK
 | 0 => fun _ _ => none
 | k + 1 => fun args h => jD args fun x0 => (cZ.c G k (cZ.f G k) x0 h)
noncomputable def aX.ann : Ann := fD [] [] [] []
noncomputable def aX.env (G : aC) (k : Nat) (self : cK) : List (Nat × Bool × cK) := [(87, false, aL.f G k), (88, true, cZ.f G k)]
noncomputable def aX.c (G : aC) (k : Nat) (self : cK) (x0 : AV) (h : aA) : Option (AV × aA) := fQ (
 aE (pu h (cB x0)) fun v0 h0 =>
 aE (pu h0 (gL .u64 v0)) fun v1 h1 =>
 aE (aJ (cZ.f G k) [v1] h1) fun v2 h2 =>
 aE (dG (aL.f G k) [x0, (.int .i64 0), v0, v2] h2) fun v3 h3 =>
 cS [] h.length h3)
noncomputable def aX.f (G : aC) : Nat → cK
 | 0 => fun _ _ => none
 | k + 1 => fun args h => jD args fun x0 => (aX.c G k (aX.f G k) x0 h)
theorem aX.step (G : aC) (k : Nat) (x0 : AV) (h : aA) : aX.f G (k + 1) [x0] h = aX.c G k (aX.f G k) x0 h := rfl
noncomputable def aB.ann : Ann := fD [] [] [(9, [0, 3, 4, 5]), (4, [0, 2, 3])] [(10, [0, 3, 4, 5])]
noncomputable def aB.env (G : aC) (k : Nat) (self : cK) : List (Nat × Bool × cK) := []
noncomputable def aB.l9 (G : aC) (k n0 : Nat) (self : cK) (lp : dO) : dO := fun xs h0 => gX n0 xs h0 fun h =>
 aE (pu h (cB (aG xs 2))) fun v13 h13 =>
 aE (pu h13 (bC Tryd.prog .lss 3 false (aG xs 3) v13)) fun v14 h14 =>
 bK v14
 (dW (
 aE (pu h14 (aM 1 (aG xs 2) (aG xs 3))) fun v15 h15 =>
 aE (pu h15 (aH G false 1 v15 h15)) fun v16 h16 =>
 aE (pu h16 (bC Tryd.prog .sub 3 true (aG xs 3) (.int .i64 1))) fun v17 h17 =>
 aE (pu h17 (aM 1 (aG xs 2) v17)) fun v18 h18 =>
 aE (pu h18 (aH G false 1 v18 h18)) fun v19 h19 =>
 aE (pu h19 (bC Tryd.prog .neq 3 false v16 v19)) fun v20 h20 =>
 bK v20
 (aE (pu h20 (aM 1 (aG xs 2) (aG xs 3))) fun v21 h21 =>
 aE (pu h21 (aH G false 1 v21 h21)) fun v22 h22 =>
 aE (pu h22 (aM 1 (aG xs 0) (aG xs 1))) fun v23 h23 =>
 aE (hX (cH 1 v23 v22 h23)) fun v24 h24 =>
 aE (pu h24 (bC Tryd.prog .add 3 true (aG xs 1) (.int .i64 1))) fun v25 h25 =>
 some (.normal, [(aG xs 0), v25, (aG xs 2), (aG xs 3)], h25))
 (some (.normal, [(aG xs 0), (aG xs 1), (aG xs 2), (aG xs 3)], h20))) fun e26 x26 h26 => iJ e26
 (aE (pu h26 (bC Tryd.prog .add 3 true (aG x26 3) (.int .i64 1))) fun v27 h27 =>
 lp [(aG x26 0), (aG x26 1), (aG x26 2), v27] h27)
 (fun i26 => some (.exit i26, [(aG x26 0), (aG x26 1), (aG x26 2), (aG x26 3)], h26))
 (some (.ret, [(aG x26 0), (aG x26 1), (aG x26 2), (aG x26 3)], h26)))
 (some (.exit 2, [(aG xs 0), (aG xs 1), (aG xs 2), (aG xs 3)], h14))
noncomputable def aB.l4 (G : aC) (k n0 : Nat) (self : cK) (lp : dO) : dO := fun xs h0 => gX n0 xs h0 fun h =>
 aE (pu h (cB (aG xs 0))) fun v3 h3 =>
 aE (pu h3 (bC Tryd.prog .lss 3 false (aG xs 2) v3)) fun v4 h4 =>
 bK v4
 (aE (pu h4 (aM 1 (aG xs 0) (aG xs 2))) fun v5 h5 =>
 aE (pu h5 (aH G false 1 v5 h5)) fun v6 h6 =>
 aE (pu h6 (bC Tryd.prog .sub 3 true (aG xs 2) (.int .i64 1))) fun v7 h7 =>
 aE (pu h7 (aM 1 (aG xs 0) v7)) fun v8 h8 =>
 aE (pu h8 (aH G false 1 v8 h8)) fun v9 h9 =>
 aE (pu h9 (bC Tryd.prog .eql 3 false v6 v9)) fun v10 h10 =>
 bK v10
 (aE (pu h10 (fO 1 (aG xs 0) (some (aG xs 2)) none)) fun v11 h11 =>
 dW (cC (aB.l9 G k h11.length self) k [(aG xs 0), (aG xs 2), v11, (.int .i64 1)] h11) fun e12 x12 h12 => iJ e12
 (none)
 (fun i12 => if i12 = 2 then (aE (pu h12 (fO 1 (aG x12 0) (some (aG x12 1)) none)) fun v28 h28 =>
 aE (oD (.int .i64 0) v28 h28) fun v29 h29 =>
 aE (pu h29 (fO 1 (aG x12 0) none (some (aG x12 1)))) fun v30 h30 =>
 some (.ret, [(aG x12 0), v30, (aG x12 1)], h30)) else (if i12 = 1 then (aE (pu h12 (bC Tryd.prog .add 3 true (aG x12 1) (.int .i64 1))) fun v31 h31 =>
 lp [(aG x12 0), .undef, v31] h31) else (some (.exit i12, [(aG x12 0), .undef, (aG x12 1)], h12))))
 (some (.ret, [(aG x12 0), .undef, (aG x12 1)], h12)))
 (aE (pu h10 (bC Tryd.prog .add 3 true (aG xs 2) (.int .i64 1))) fun v32 h32 =>
 lp [(aG xs 0), (aG xs 1), v32] h32))
 (some (.exit 0, [(aG xs 0), (aG xs 1), (aG xs 2)], h4))
noncomputable def aB.c (G : aC) (k : Nat) (self : cK) (x0 : AV) (h : aA) : Option (AV × aA) := fQ (
 aE (pu h (cB x0)) fun v0 h0 =>
 aE (pu h0 (bC Tryd.prog .lss 3 true v0 (.int .i64 2))) fun v1 h1 =>
 bK v1
 (cS [x0] h.length h1)
 (dW (cC (aB.l4 G k h1.length self) k [x0, .nils, (.int .i64 1)] h1) fun e2 x2 h2 => iJ e2
 (none)
 (fun i2 => if i2 = 0 then (cS [(aG x2 0)] h.length h2) else (none))
 (cS [(aG x2 1)] h.length h2)))
noncomputable def aB.f (G : aC) : Nat → cK
 | 0 => fun _ _ => none
 | k + 1 => fun args h => jD args fun x0 => (aB.c G k (aB.f G k) x0 h)
theorem aB.step (G : aC) (k : Nat) (x0 : AV) (h : aA) : aB.f G (k + 1) [x0] h = aB.c G k (aB.f G k) x0 h := rfl
noncomputable def cD.ann : Ann := fD [] [5] [(4, [1, 5, 20, 21, 22])] []
noncomputable def cD.env (G : aC) (k : Nat) (self : cK) : List (Nat × Bool × cK) := [(51, true, dX.f G k), (53, false, aX.f G k), (54, false, aB.f G k)]
noncomputable def cD.l4 (G : aC) (k n0 : Nat) (self : cK) (lp : dO) : dO := fun xs h0 => gX n0 xs h0 fun h =>
 aE (pu h (bC Tryd.prog .lss 3 false (aG xs 4) (aG xs 3))) fun v18 h18 =>
 bK v18
 (aE (pu h18 (aM 1 (aG xs 2) (aG xs 4))) fun v19 h19 =>
 aE (pu h19 (aH G false 1 v19 h19)) fun v20 h20 =>
 bK v20
 (aE (pu h20 (aF 2 (aG xs 0))) fun v21 h21 =>
 aE (pu h21 (aH G false 1 v21 h21)) fun v22 h22 =>
 aE (pu h22 (aF 3 (aG xs 0))) fun v23 h23 =>
 aE (pu h23 (aH G false 1 v23 h23)) fun v24 h24 =>
 aE (pu h24 (aF 4 (aG xs 0))) fun v25 h25 =>
 aE (pu h25 (aH G false 1 v25 h25)) fun v26 h26 =>
 aE (dN 1 3 (.int .i64 0) [(0, v22), (1, v24), (2, v26)] h26) fun v27 h27 =>
 aE (pu h27 (aM 1 v27 (aG xs 4))) fun v28 h28 =>
 aE (pu h28 (aH G false 1 v28 h28)) fun v29 h29 =>
 aE (dN 1 1 (.int .i64 0) [(0, v29)] h29) fun v30 h30 =>
 aE (eQ 3 1 (aG xs 1) v30 h30) fun v31 h31 =>
 aE (pu h31 (bC Tryd.prog .add 3 true (aG xs 4) (.int .i64 1))) fun v32 h32 =>
 lp [(aG xs 0), v31, (aG xs 2), (aG xs 3), v32] h32)
 (aE (pu h20 (bC Tryd.prog .add 3 true (aG xs 4) (.int .i64 1))) fun v33 h33 =>
 lp [(aG xs 0), (aG xs 1), (aG xs 2), (aG xs 3), v33] h33))
 (some (.exit 0, [(aG xs 0), (aG xs 1), (aG xs 2), (aG xs 3), (aG xs 4)], h18))
noncomputable def cD.c (G : aC) (k : Nat) (self : cK) (x0 : AV) (h : aA) : Option (AV × aA) := fQ (
 aE (eE x0 h) fun v0 h0 =>
 aE (pu h0 (aF 0 v0)) fun v1 h1 =>
 aE (pu h1 (aH G false 1 v1 h1)) fun v2 h2 =>
 aE (aJ (dX.f G k) [v2] h2) fun v3 h3 =>
 aE (pu h3 (cX v3 0)) fun v4 h4 =>
 aE (pu h4 (cX v3 1)) fun v5 h5 =>
 aE (gD 100 (.agg [(.str ⟨#[]⟩), (.bool false), (.bool false), (.bool false), (.bool false), (.bool false)]) h5) fun v6 h6 =>
 aE (hX (cH 6 v6 v4 h6)) fun v7 h7 =>
 aE (some (.sl h7.length 0 0 0 1, h7 ++ [⟨3, 1, []⟩])) fun v8 h8 =>
 aE (pu h8 (aF 2 v6)) fun v9 h9 =>
 aE (pu h9 (aH G false 1 v9 h9)) fun v10 h10 =>
 aE (pu h10 (aF 3 v6)) fun v11 h11 =>
 aE (pu h11 (aH G false 1 v11 h11)) fun v12 h12 =>
 aE (pu h12 (aF 4 v6)) fun v13 h13 =>
 aE (pu h13 (aH G false 1 v13 h13)) fun v14 h14 =>
 aE (dN 1 3 (.bool false) [(0, v10), (1, v12), (2, v14)] h14) fun v15 h15 =>
 aE (pu h15 (cB v15)) fun v16 h16 =>
 dW (cC (cD.l4 G k h16.length self) k [v0, v8, v15, v16, (.int .i64 0)] h16) fun e17 x17 h17 => iJ e17
 (none)
 (fun i17 => if i17 = 0 then (aE (dG (aX.f G k) [(aG x17 1)] h17) fun v34 h34 =>
 aE (dG (aB.f G k) [(aG x17 1)] h34) fun v35 h35 =>
 cS [v35] h.length h35) else (none))
 (cS [.undef] h.length h17))
noncomputable def cD.f (G : aC) : Nat → cK
 | 0 => fun _ _ => none
 | k + 1 => fun args h => jD args fun x0 => (cD.c G k (cD.f G k) x0 h)
theorem cD.step (G : aC) (k : Nat) (x0 : AV) (h : aA) : cD.f G (k + 1) [x0] h = cD.c G k (cD.f G k) x0 h := rfl
noncomputable def cQ.ann : Ann := fD [] [] [] []
noncomputable def cQ.env (G : aC) (k : Nat) (self : cK) : List (Nat × Bool × cK) := []
noncomputable def cQ.c (G : aC) (k : Nat) (self : cK) (x0 : AV) (h : aA) : Option (AV × aA) := fQ (
 aE (gD 54 (.agg [(.int .i64 0), (.bool false), (.int .i64 0)]) h) fun v0 h0 =>
 aE (pu h0 (eU [(0, 1), (1, 1), (2, 1)] [(.int .i64 0), (.bool false), (.int .i64 0)] [(0, x0)])) fun v1 h1 =>
 aE (hX (cH 3 v0 v1 h1)) fun v2 h2 =>
 jM [aH G true 3 v0 h2] h.length h2)
noncomputable def cQ.f (G : aC) : Nat → cK
 | 0 => fun _ _ => none
 | k + 1 => fun args h => jD args fun x0 => (cQ.c G k (cQ.f G k) x0 h)
noncomputable def bT.ann : Ann := fD [] [] [] []
noncomputable def bT.env (G : aC) (k : Nat) (self : cK) : List (Nat × Bool × cK) := []
noncomputable def bT.c (G : aC) (k : Nat) (self : cK) (x0 : AV) (h : aA) : Option (AV × aA) := fQ (
 aE (gD 104 (.agg [(.bool false), (.bool false), (.bool false), (.bool false), (.int .i64 0)]) h) fun v0 h0 =>
 aE (pu h0 (bC Tryd.prog .eql 3 true x0 (.int .i64 1))) fun v1 h1 =>
 bK v1
 (aE (pu h1 (eU [(0, 1), (1, 1), (2, 1), (3, 1), (4, 1)] [(.bool false), (.bool false), (.bool false), (.bool false), (.int .i64 0)] [(0, (.bool true)), (4, (.int .i64 1))])) fun v2 h2 =>
 aE (hX (cH 5 v0 v2 h2)) fun v3 h3 =>
 jM [aH G true 5 v0 h3, some (.bool true)] h.length h3)
 (aE (pu h1 (bC Tryd.prog .eql 3 true x0 (.int .i64 2))) fun v4 h4 =>
 bK v4
 (aE (pu h4 (eU [(0, 1), (1, 1), (2, 1), (3, 1), (4, 1)] [(.bool false), (.bool false), (.bool false), (.bool false), (.int .i64 0)] [(0, (.bool true)), (1, (.bool true))])) fun v5 h5 =>
 aE (hX (cH 5 v0 v5 h5)) fun v6 h6 =>
 jM [aH G true 5 v0 h6, some (.bool true)] h.length h6)
 (aE (pu h4 (bC Tryd.prog .geq 3 true x0 (.int .i64 3))) fun v7 h7 =>
 aE (gd v7 true h7 (some (x0, h7))) fun v8 h8 =>
 aE (gd v7 true h8 (pu h8 (bC Tryd.prog .leq 3 true v8 (.int .i64 9)))) fun v9 h9 =>
 aE (pu h9 (dL v7 v9 (.bool false))) fun v10 h10 =>
 aE (gd v10 false h10 (some (x0, h10))) fun v11 h11 =>
 aE (gd v10 false h11 (pu h11 (bC Tryd.prog .eql 3 true v11 (.int .i64 13)))) fun v12 h12 =>
 aE (pu h12 (dL v10 (.bool true) v12)) fun v13 h13 =>
 bK v13
 (aE (pu h13 (eU [(0, 1), (1, 1), (2, 1), (3, 1), (4, 1)] [(.bool false), (.bool false), (.bool false), (.bool false), (.int .i64 0)] [(0, (.bool true)), (1, (.bool true)), (2, (.bool true))])) fun v14 h14 =>
 aE (hX (cH 5 v0 v14 h14)) fun v15 h15 =>
 jM [aH G true 5 v0 h15, some (.bool true)] h.length h15)
 (aE (pu h13 (bC Tryd.prog .geq 3 true x0 (.int .i64 10))) fun v16 h16 =>
 aE (gd v16 true h16 (some (x0, h16))) fun v17 h17 =>
 aE (gd v16 true h17 (pu h17 (bC Tryd.prog .leq 3 true v17 (.int .i64 12)))) fun v18 h18 =>
 aE (pu h18 (dL v16 v18 (.bool false))) fun v19 h19 =>
 bK v19
 (aE (pu h19 (eU [(0, 1), (1, 1), (2, 1), (3, 1), (4, 1)] [(.bool false), (.bool false), (.bool false), (.bool false), (.int .i64 0)] [(0, (.bool true)), (1, (.bool true)), (4, (.int .i64 2))])) fun v20 h20 =>
 aE (hX (cH 5 v0 v20 h20)) fun v21 h21 =>
 jM [aH G true 5 v0 h21, some (.bool true)] h.length h21)
 (aE (pu h19 (bC Tryd.prog .eql 3 true x0 (.int .i64 14))) fun v22 h22 =>
 bK v22
 (aE (pu h22 (eU [(0, 1), (1, 1), (2, 1), (3, 1), (4, 1)] [(.bool false), (.bool false), (.bool false), (.bool false), (.int .i64 0)] [(0, (.bool true)), (1, (.bool true)), (2, (.bool true)), (3, (.bool true))])) fun v23 h23 =>
 aE (hX (cH 5 v0 v23 h23)) fun v24 h24 =>
 jM [aH G true 5 v0 h24, some (.bool true)] h.length h24)
 (aE (pu h22 (bC Tryd.prog .eql 3 true x0 (.int .i64 15))) fun v25 h25 =>
 bK v25
 (aE (pu h25 (eU [(0, 1), (1, 1), (2, 1), (3, 1), (4, 1)] [(.bool false), (.bool false), (.bool false), (.bool false), (.int .i64 0)] [(0, (.bool true)), (1, (.bool true)), (4, (.int .i64 3))])) fun v26 h26 =>
 aE (hX (cH 5 v0 v26 h26)) fun v27 h27 =>
 jM [aH G true 5 v0 h27, some (.bool true)] h.length h27)
 (aE (pu h25 (bC Tryd.prog .eql 3 true x0 (.int .i64 16))) fun v28 h28 =>
 bK v28
 (aE (pu h28 (eU [(0, 1), (1, 1), (2, 1), (3, 1), (4, 1)] [(.bool false), (.bool false), (.bool false), (.bool false), (.int .i64 0)] [(1, (.bool true)), (2, (.bool true)), (4, (.int .i64 3))])) fun v29 h29 =>
 aE (hX (cH 5 v0 v29 h29)) fun v30 h30 =>
 jM [aH G true 5 v0 h30, some (.bool true)] h.length h30)
 (aE (pu h28 (bC Tryd.prog .eql 3 true x0 (.int .i64 17))) fun v31 h31 =>
 bK v31
 (aE (pu h31 (eU [(0, 1), (1, 1), (2, 1), (3, 1), (4, 1)] [(.bool false), (.bool false), (.bool false), (.bool false), (.int .i64 0)] [(4, (.int .i64 4))])) fun v32 h32 =>
 aE (hX (cH 5 v0 v32 h32)) fun v33 h33 =>
 jM [aH G true 5 v0 h33, some (.bool true)] h.length h33)
 (aE (pu h31 (bC Tryd.prog .eql 3 true x0 (.int .i64 18))) fun v34 h34 =>
 aE (gd v34 false h34 (some (x0, h34))) fun v35 h35 =>
 aE (gd v34 false h35 (pu h35 (bC Tryd.prog .eql 3 true v35 (.int .i64 19)))) fun v36 h36 =>
 aE (pu h36 (dL v34 (.bool true) v36)) fun v37 h37 =>
 bK v37
 (aE (pu h37 (eU [(0, 1), (1, 1), (2, 1), (3, 1), (4, 1)] [(.bool false), (.bool false), (.bool false), (.bool false), (.int .i64 0)] [(1, (.bool true)), (4, (.int .i64 4))])) fun v38 h38 =>
 aE (hX (cH 5 v0 v38 h38)) fun v39 h39 =>
 jM [aH G true 5 v0 h39, some (.bool true)] h.length h39)
 (aE (pu h37 (bC Tryd.prog .eql 3 true x0 (.int .i64 20))) fun v40 h40 =>
 bK v40
 (aE (pu h40 (eU [(0, 1), (1, 1), (2, 1), (3, 1), (4, 1)] [(.bool false), (.bool false), (.bool false), (.bool false), (.int .i64 0)] [(4, (.int .i64 5))])) fun v41 h41 =>
 aE (hX (cH 5 v0 v41 h41)) fun v42 h42 =>
 jM [aH G true 5 v0 h42, some (.bool true)] h.length h42)
 (aE (pu h40 (eU [(0, 1), (1, 1), (2, 1), (3, 1), (4, 1)] [(.bool false), (.bool false), (.bool false), (.bool false), (.int .i64 0)] [])) fun v43 h43 =>
 aE (hX (cH 5 v0 v43 h43)) fun v44 h44 =>
 jM [aH G true 5 v0 h44, some (.bool false)] h.length h44)))))))))))
noncomputable def bT.f (G : aC) : Nat → cK
 | 0 => fun _ _ => none
 | k + 1 => fun args h => jD args fun x0 => (bT.c G k (bT.f G k) x0 h)
theorem bT.step (G : aC) (k : Nat) (x0 : AV) (h : aA) : bT.f G (k + 1) [x0] h = bT.c G k (bT.f G k) x0 h := rfl
noncomputable def bF.ann : Ann := fD [] [] [] []
noncomputable def bF.env (G : aC) (k : Nat) (self : cK) : List (Nat × Bool × cK) := []
noncomputable def bF.c (G : aC) (k : Nat) (self : cK) (x0 x1 x2 : AV) (h : aA) : Option (AV × aA) := fQ (
 aE (gd x0 true h (some (x1, h))) fun v0 h0 =>
 aE (gd x0 true h0 (pu h0 (bC Tryd.prog .lss 3 true v0 (.int .i64 0)))) fun v1 h1 =>
 aE (gd x0 true h1 (some (v1, h1))) fun v2 h2 =>
 aE (gd v2 false h2 (some (x1, h2))) fun v3 h3 =>
 aE (gd v2 false h3 (some (x2, h3))) fun v4 h4 =>
 aE (gd v2 false h4 (pu h4 (bC Tryd.prog .geq 3 false v3 v4))) fun v5 h5 =>
 aE (gd x0 true h5 (pu h5 (dL v2 (.bool true) v5))) fun v6 h6 =>
 aE (pu h6 (dL x0 v6 (.bool false))) fun v7 h7 =>
 cS [v7] h.length h7)
noncomputable def bF.f (G : aC) : Nat → cK
 | 0 => fun _ _ => none
 | k + 1 => fun args h => aBR args fun x0 x1 x2 => (bF.c G k (bF.f G k) x0 x1 x2 h)
theorem bF.step (G : aC) (k : Nat) (x0 x1 x2 : AV) (h : aA) : bF.f G (k + 1) [x0, x1, x2] h = bF.c G k (bF.f G k) x0 x1 x2 h := rfl
noncomputable def bJ.ann : Ann := fD [] [] [] []
noncomputable def bJ.env (G : aC) (k : Nat) (self : cK) : List (Nat × Bool × cK) := []
noncomputable def bJ.c (G : aC) (k : Nat) (self : cK) (x0 x1 : AV) (h : aA) : Option (AV × aA) := fQ (
 aE (pu h (bC Tryd.prog .geq 2 true x0 (.int .i64 0))) fun v0 h0 =>
 aE (gd v0 true h0 (some (x0, h0))) fun v1 h1 =>
 aE (gd v0 true h1 (some (x1, h1))) fun v2 h2 =>
 aE (gd v0 true h2 (pu h2 (bC Tryd.prog .lss 2 false v1 v2))) fun v3 h3 =>
 aE (pu h3 (dL v0 v3 (.bool false))) fun v4 h4 =>
 cS [v4] h.length h4)
noncomputable def bJ.f (G : aC) : Nat → cK
 | 0 => fun _ _ => none
 | k + 1 => fun args h => lW args fun x0 x1 => (bJ.c G k (bJ.f G k) x0 x1 h)
theorem bJ.step (G : aC) (k : Nat) (x0 x1 : AV) (h : aA) : bJ.f G (k + 1) [x0, x1] h = bJ.c G k (bJ.f G k) x0 x1 h := rfl
noncomputable def cN.ann : Ann := fD [] [] [] []
noncomputable def cN.env (G : aC) (k : Nat) (self : cK) : List (Nat × Bool × cK) := []
noncomputable def cN.c (G : aC) (k : Nat) (self : cK) (h : aA) : Option (AV × aA) := fQ (
 aE (gD 54 (.agg [(.int .i64 0), (.bool false), (.int .i64 0)]) h) fun v0 h0 =>
 aE (pu h0 (eU [(0, 1), (1, 1), (2, 1)] [(.int .i64 0), (.bool false), (.int .i64 0)] [])) fun v1 h1 =>
 aE (hX (cH 3 v0 v1 h1)) fun v2 h2 =>
 jM [aH G true 3 v0 h2] h.length h2)
noncomputable def cN.f (G : aC) : Nat → cK
 | 0 => fun _ _ => none
 | k + 1 => fun args h => aFX args (cN.c G k (cN.f G k) h)
noncomputable def bU.ann : Ann := fD [] [] [] []
noncomputable def bU.env (G : aC) (k : Nat) (self : cK) : List (Nat × Bool × cK) := [(58, true, cN.f G k)]
noncomputable def bU.c (G : aC) (k : Nat) (self : cK) (x0 x1 : AV) (h : aA) : Option (AV × aA) := fQ (
 aE (gD 54 (.agg [(.int .i64 0), (.bool false), (.int .i64 0)]) h) fun v0 h0 =>
 aE (pu h0 (bC Tryd.prog .eql 3 true x0 (.int .i64 0))) fun v1 h1 =>
 bK v1
 (aE (aJ (cN.f G k) [] h1) fun v2 h2 =>
 aE (hX (cH 3 v0 v2 h2)) fun v3 h3 =>
 jM [aH G true 3 v0 h3] h.length h3)
 (aE (pu h1 (eU [(0, 1), (1, 1), (2, 1)] [(.int .i64 0), (.bool false), (.int .i64 0)] [(0, x0), (1, (.bool true)), (2, x1)])) fun v4 h4 =>
 aE (hX (cH 3 v0 v4 h4)) fun v5 h5 =>
 jM [aH G true 3 v0 h5] h.length h5))
noncomputable def bU.f (G : aC) : Nat → cK
 | 0 => fun _ _ => none
 | k + 1 => fun args h => lW args fun x0 x1 => (bU.c G k (bU.f G k) x0 x1 h)
theorem bU.step (G : aC) (k : Nat) (x0 x1 : AV) (h : aA) : bU.f G (k + 1) [x0, x1] h = bU.c G k (bU.f G k) x0 x1 h := rfl
noncomputable def bE.ann : Ann := fD [] [] [(4, [1, 2, 3])] [(5, [1, 2, 3]), (19, [1, 2, 3, 7])]
noncomputable def bE.env (G : aC) (k : Nat) (self : cK) : List (Nat × Bool × cK) := [(42, true, cQ.f G k), (52, true, bT.f G k), (55, true, bF.f G k), (56, true, bJ.f G k), (57, true, bU.f G k), (58, true, cN.f G k)]
noncomputable def bE.l4 (G : aC) (k n0 : Nat) (self : cK) (lp : dO) : dO := fun xs h0 => gX n0 xs h0 fun h =>
 aE (pu h (aF 0 (aG xs 0))) fun v25 h25 =>
 aE (pu h25 (aH G false 1 v25 h25)) fun v26 h26 =>
 aE (pu h26 (cB v26)) fun v27 h27 =>
 aE (pu h27 (bC Tryd.prog .lss 3 false (aG xs 2) v27)) fun v28 h28 =>
 bK v28
 (dW (
 aE (pu h28 (aF 0 (aG xs 0))) fun v29 h29 =>
 aE (pu h29 (aH G false 1 v29 h29)) fun v30 h30 =>
 aE (pu h30 (aM 6 v30 (aG xs 2))) fun v31 h31 =>
 aE (pu h31 (aH G true 6 v31 h31)) fun v32 h32 =>
 aE (gD 29 (.agg [(.int .i64 0), (.int .i64 0), (.int .i64 0), (.int .i64 0), (.int .i64 0), (.int .i64 0)]) h32) fun v33 h33 =>
 aE (hX (cH 6 v33 v32 h33)) fun v34 h34 =>
 aE (pu h34 (aF 0 v33)) fun v35 h35 =>
 aE (pu h35 (aH G false 1 v35 h35)) fun v36 h36 =>
 aE (aJ (bT.f G k) [v36] h36) fun v37 h37 =>
 aE (pu h37 (cX v37 0)) fun v38 h38 =>
 aE (pu h38 (cX v37 1)) fun v39 h39 =>
 aE (gD 104 (.agg [(.bool false), (.bool false), (.bool false), (.bool false), (.int .i64 0)]) h39) fun v40 h40 =>
 aE (hX (cH 5 v40 v38 h40)) fun v41 h41 =>
 dW (
 aE (pu h41 (un .not v39)) fun v42 h42 =>
 bK v42
 (some (.normal, [(aG xs 0), (aG xs 1), (aG xs 2), (.int .i64 106)], h42))
 (aE (pu h42 (aF 0 v40)) fun v43 h43 =>
 aE (pu h43 (aH G false 1 v43 h43)) fun v44 h44 =>
 aE (pu h44 (aF 1 v33)) fun v45 h45 =>
 aE (pu h45 (aH G false 1 v45 h45)) fun v46 h46 =>
 aE (pu h46 (aF 1 (aG xs 0))) fun v47 h47 =>
 aE (pu h47 (aH G false 1 v47 h47)) fun v48 h48 =>
 aE (aJ (bF.f G k) [v44, v46, v48] h48) fun v49 h49 =>
 aE (gd v49 false h49 (pu h49 (aF 1 v40))) fun v50 h50 =>
 aE (gd v49 false h50 (pu h50 (aH G false 1 v50 h50))) fun v51 h51 =>
 aE (gd v49 false h51 (pu h51 (aF 2 v33))) fun v52 h52 =>
 aE (gd v49 false h52 (pu h52 (aH G false 1 v52 h52))) fun v53 h53 =>
 aE (gd v49 false h53 (pu h53 (aF 1 (aG xs 0)))) fun v54 h54 =>
 aE (gd v49 false h54 (pu h54 (aH G false 1 v54 h54))) fun v55 h55 =>
 aE (gd v49 false h55 (aJ (bF.f G k) [v51, v53, v55] h55)) fun v56 h56 =>
 aE (pu h56 (dL v49 (.bool true) v56)) fun v57 h57 =>
 aE (gd v57 false h57 (pu h57 (aF 2 v40))) fun v58 h58 =>
 aE (gd v57 false h58 (pu h58 (aH G false 1 v58 h58))) fun v59 h59 =>
 aE (gd v57 false h59 (pu h59 (aF 3 v33))) fun v60 h60 =>
 aE (gd v57 false h60 (pu h60 (aH G false 1 v60 h60))) fun v61 h61 =>
 aE (gd v57 false h61 (pu h61 (aF 1 (aG xs 0)))) fun v62 h62 =>
 aE (gd v57 false h62 (pu h62 (aH G false 1 v62 h62))) fun v63 h63 =>
 aE (gd v57 false h63 (aJ (bF.f G k) [v59, v61, v63] h63)) fun v64 h64 =>
 aE (pu h64 (dL v57 (.bool true) v64)) fun v65 h65 =>
 aE (gd v65 false h65 (pu h65 (aF 3 v40))) fun v66 h66 =>
 aE (gd v65 false h66 (pu h66 (aH G false 1 v66 h66))) fun v67 h67 =>
 aE (gd v65 false h67 (pu h67 (aF 4 v33))) fun v68 h68 =>
 aE (gd v65 false h68 (pu h68 (aH G false 1 v68 h68))) fun v69 h69 =>
 aE (gd v65 false h69 (pu h69 (aF 1 (aG xs 0)))) fun v70 h70 =>
 aE (gd v65 false h70 (pu h70 (aH G false 1 v70 h70))) fun v71 h71 =>
 aE (gd v65 false h71 (aJ (bF.f G k) [v67, v69, v71] h71)) fun v72 h72 =>
 aE (pu h72 (dL v65 (.bool true) v72)) fun v73 h73 =>
 bK v73
 (some (.normal, [(aG xs 0), (aG xs 1), (aG xs 2), (.int .i64 101)], h73))
 (aE (pu h73 (aF 0 v40)) fun v74 h74 =>
 aE (pu h74 (aH G false 1 v74 h74)) fun v75 h75 =>
 aE (pu h75 (un .not v75)) fun v76 h76 =>
 aE (gd v76 true h76 (pu h76 (aF 1 v33))) fun v77 h77 =>
 aE (gd v76 true h77 (pu h77 (aH G false 1 v77 h77))) fun v78 h78 =>
 aE (gd v76 true h78 (pu h78 (bC Tryd.prog .neq 3 true v78 (.int .i64 0)))) fun v79 h79 =>
 aE (pu h79 (dL v76 v79 (.bool false))) fun v80 h80 =>
 aE (gd v80 false h80 (pu h80 (aF 1 v40))) fun v81 h81 =>
 aE (gd v80 false h81 (pu h81 (aH G false 1 v81 h81))) fun v82 h82 =>
 aE (gd v80 false h82 (pu h82 (un .not v82))) fun v83 h83 =>
 aE (gd v80 false h83 (some (v83, h83))) fun v84 h84 =>
 aE (gd v84 true h84 (pu h84 (aF 2 v33))) fun v85 h85 =>
 aE (gd v84 true h85 (pu h85 (aH G false 1 v85 h85))) fun v86 h86 =>
 aE (gd v84 true h86 (pu h86 (bC Tryd.prog .neq 3 true v86 (.int .i64 0)))) fun v87 h87 =>
 aE (gd v80 false h87 (pu h87 (dL v84 v87 (.bool false)))) fun v88 h88 =>
 aE (pu h88 (dL v80 (.bool true) v88)) fun v89 h89 =>
 aE (gd v89 false h89 (pu h89 (aF 2 v40))) fun v90 h90 =>
 aE (gd v89 false h90 (pu h90 (aH G false 1 v90 h90))) fun v91 h91 =>
 aE (gd v89 false h91 (pu h91 (un .not v91))) fun v92 h92 =>
 aE (gd v89 false h92 (some (v92, h92))) fun v93 h93 =>
 aE (gd v93 true h93 (pu h93 (aF 3 v33))) fun v94 h94 =>
 aE (gd v93 true h94 (pu h94 (aH G false 1 v94 h94))) fun v95 h95 =>
 aE (gd v93 true h95 (pu h95 (bC Tryd.prog .neq 3 true v95 (.int .i64 0)))) fun v96 h96 =>
 aE (gd v89 false h96 (pu h96 (dL v93 v96 (.bool false)))) fun v97 h97 =>
 aE (pu h97 (dL v89 (.bool true) v97)) fun v98 h98 =>
 aE (gd v98 false h98 (pu h98 (aF 3 v40))) fun v99 h99 =>
 aE (gd v98 false h99 (pu h99 (aH G false 1 v99 h99))) fun v100 h100 =>
 aE (gd v98 false h100 (pu h100 (un .not v100))) fun v101 h101 =>
 aE (gd v98 false h101 (some (v101, h101))) fun v102 h102 =>
 aE (gd v102 true h102 (pu h102 (aF 4 v33))) fun v103 h103 =>
 aE (gd v102 true h103 (pu h103 (aH G false 1 v103 h103))) fun v104 h104 =>
 aE (gd v102 true h104 (pu h104 (bC Tryd.prog .neq 3 true v104 (.int .i64 0)))) fun v105 h105 =>
 aE (gd v98 false h105 (pu h105 (dL v102 v105 (.bool false)))) fun v106 h106 =>
 aE (pu h106 (dL v98 (.bool true) v106)) fun v107 h107 =>
 aE (gd v107 false h107 (pu h107 (aF 4 v40))) fun v108 h108 =>
 aE (gd v107 false h108 (pu h108 (aH G false 1 v108 h108))) fun v109 h109 =>
 aE (gd v107 false h109 (pu h109 (bC Tryd.prog .eql 3 true v109 (.int .i64 0)))) fun v110 h110 =>
 aE (gd v107 false h110 (some (v110, h110))) fun v111 h111 =>
 aE (gd v111 true h111 (pu h111 (aF 5 v33))) fun v112 h112 =>
 aE (gd v111 true h112 (pu h112 (aH G false 1 v112 h112))) fun v113 h113 =>
 aE (gd v111 true h113 (pu h113 (bC Tryd.prog .neq 2 true v113 (.int .i64 0)))) fun v114 h114 =>
 aE (gd v107 false h114 (pu h114 (dL v111 v114 (.bool false)))) fun v115 h115 =>
 aE (pu h115 (dL v107 (.bool true) v115)) fun v116 h116 =>
 bK v116
 (some (.normal, [(aG xs 0), (aG xs 1), (aG xs 2), (.int .i64 104)], h116))
 (aE (pu h116 (aF 4 v40)) fun v117 h117 =>
 aE (pu h117 (aH G false 1 v117 h117)) fun v118 h118 =>
 aE (pu h118 (bC Tryd.prog .eql 3 true v118 (.int .i64 2))) fun v119 h119 =>
 aE (gd v119 true h119 (pu h119 (aF 5 v33))) fun v120 h120 =>
 aE (gd v119 true h120 (pu h120 (aH G false 1 v120 h120))) fun v121 h121 =>
 aE (gd v119 true h121 (aJ (bJ.f G k) [v121, (.int .i64 64)] h121)) fun v122 h122 =>
 aE (gd v119 true h122 (pu h122 (un .not v122))) fun v123 h123 =>
 aE (pu h123 (dL v119 v123 (.bool false))) fun v124 h124 =>
 aE (gd v124 false h124 (pu h124 (aF 4 v40))) fun v125 h125 =>
 aE (gd v124 false h125 (pu h125 (aH G false 1 v125 h125))) fun v126 h126 =>
 aE (gd v124 false h126 (pu h126 (bC Tryd.prog .eql 3 true v126 (.int .i64 5)))) fun v127 h127 =>
 aE (gd v124 false h127 (some (v127, h127))) fun v128 h128 =>
 aE (gd v128 true h128 (pu h128 (aF 5 v33))) fun v129 h129 =>
 aE (gd v128 true h129 (pu h129 (aH G false 1 v129 h129))) fun v130 h130 =>
 aE (gd v128 true h130 (aJ (bJ.f G k) [v130, (.int .i64 3)] h130)) fun v131 h131 =>
 aE (gd v128 true h131 (pu h131 (un .not v131))) fun v132 h132 =>
 aE (gd v124 false h132 (pu h132 (dL v128 v132 (.bool false)))) fun v133 h133 =>
 aE (pu h133 (dL v124 (.bool true) v133)) fun v134 h134 =>
 aE (gd v134 false h134 (pu h134 (aF 4 v40))) fun v135 h135 =>
 aE (gd v134 false h135 (pu h135 (aH G false 1 v135 h135))) fun v136 h136 =>
 aE (gd v134 false h136 (pu h136 (bC Tryd.prog .eql 3 true v136 (.int .i64 3)))) fun v137 h137 =>
 aE (gd v134 false h137 (some (v137, h137))) fun v138 h138 =>
 aE (gd v138 true h138 (pu h138 (aF 5 v33))) fun v139 h139 =>
 aE (gd v138 true h139 (pu h139 (aH G false 1 v139 h139))) fun v140 h140 =>
 aE (gd v138 true h140 (aJ (bJ.f G k) [v140, (.int .i64 65536)] h140)) fun v141 h141 =>
 aE (gd v138 true h141 (pu h141 (un .not v141))) fun v142 h142 =>
 aE (gd v134 false h142 (pu h142 (dL v138 v142 (.bool false)))) fun v143 h143 =>
 aE (pu h143 (dL v134 (.bool true) v143)) fun v144 h144 =>
 bK v144
 (some (.normal, [(aG xs 0), (aG xs 1), (aG xs 2), (.int .i64 101)], h144))
 (aE (pu h144 (aF 4 v40)) fun v145 h145 =>
 aE (pu h145 (aH G false 1 v145 h145)) fun v146 h146 =>
 aE (pu h146 (bC Tryd.prog .eql 3 true v146 (.int .i64 4))) fun v147 h147 =>
 aE (gd v147 true h147 (pu h147 (aF 5 v33))) fun v148 h148 =>
 aE (gd v147 true h148 (pu h148 (aH G false 1 v148 h148))) fun v149 h149 =>
 aE (gd v147 true h149 (pu h149 (aF 0 (aG xs 0)))) fun v150 h150 =>
 aE (gd v147 true h150 (pu h150 (aH G false 1 v150 h150))) fun v151 h151 =>
 aE (gd v147 true h151 (pu h151 (cB v151))) fun v152 h152 =>
 aE (gd v147 true h152 (pu h152 (bC Tryd.prog .add 3 true v152 (.int .i64 1)))) fun v153 h153 =>
 aE (gd v147 true h153 (aJ (bJ.f G k) [v149, v153] h153)) fun v154 h154 =>
 aE (gd v147 true h154 (pu h154 (un .not v154))) fun v155 h155 =>
 aE (pu h155 (dL v147 v155 (.bool false))) fun v156 h156 =>
 bK v156
 (some (.normal, [(aG xs 0), (aG xs 1), (aG xs 2), (.int .i64 109)], h156))
 (some (.normal, [(aG xs 0), (aG xs 1), (aG xs 2), (.int .i64 0)], h156))))))) fun e157 x157 h157 => iJ e157
 (aE (pu h157 (bC Tryd.prog .neq 3 true (aG x157 3) (.int .i64 0))) fun v158 h158 =>
 bK v158
 (aE (aJ (bU.f G k) [(aG x157 3), (aG x157 2)] h158) fun v159 h159 =>
 aE (hX (cH 3 (aG x157 1) v159 h159)) fun v160 h160 =>
 some (.ret, [(aG x157 0), (aG x157 1), (aG x157 2)], h160))
 (some (.normal, [(aG x157 0), (aG x157 1), (aG x157 2)], h158)))
 (fun i157 => if i157 = 1 then (some (.normal, [(aG x157 0), (aG x157 1), (aG x157 2)], h157)) else (some (.exit i157, [(aG x157 0), (aG x157 1), (aG x157 2)], h157)))
 (some (.ret, [(aG x157 0), (aG x157 1), (aG x157 2)], h157))) fun e161 x161 h161 => iJ e161
 (aE (pu h161 (bC Tryd.prog .add 3 true (aG x161 2) (.int .i64 1))) fun v162 h162 =>
 lp [(aG x161 0), (aG x161 1), v162] h162)
 (fun i161 => some (.exit i161, [(aG x161 0), (aG x161 1), (aG x161 2)], h161))
 (some (.ret, [(aG x161 0), (aG x161 1), (aG x161 2)], h161)))
 (some (.exit 0, [(aG xs 0), (aG xs 1), (aG xs 2)], h28))
noncomputable def bE.c (G : aC) (k : Nat) (self : cK) (x0 : AV) (h : aA) : Option (AV × aA) := fQ (
 aE (eE x0 h) fun v0 h0 =>
 aE (gD 54 (.agg [(.int .i64 0), (.bool false), (.int .i64 0)]) h0) fun v1 h1 =>
 aE (pu h1 (aF 0 v0)) fun v2 h2 =>
 aE (pu h2 (aH G false 1 v2 h2)) fun v3 h3 =>
 aE (pu h3 (cB v3)) fun v4 h4 =>
 aE (pu h4 (bC Tryd.prog .gtr 3 true v4 (.int .i64 262144))) fun v5 h5 =>
 aE (gd v5 false h5 (pu h5 (aF 1 v0))) fun v6 h6 =>
 aE (gd v5 false h6 (pu h6 (aH G false 1 v6 h6))) fun v7 h7 =>
 aE (gd v5 false h7 (pu h7 (bC Tryd.prog .lss 3 true v7 (.int .i64 0)))) fun v8 h8 =>
 aE (pu h8 (dL v5 (.bool true) v8)) fun v9 h9 =>
 aE (gd v9 false h9 (pu h9 (aF 1 v0))) fun v10 h10 =>
 aE (gd v9 false h10 (pu h10 (aH G false 1 v10 h10))) fun v11 h11 =>
 aE (gd v9 false h11 (pu h11 (bC Tryd.prog .gtr 3 true v11 (.int .i64 65536)))) fun v12 h12 =>
 aE (pu h12 (dL v9 (.bool true) v12)) fun v13 h13 =>
 aE (gd v13 false h13 (pu h13 (aF 2 v0))) fun v14 h14 =>
 aE (gd v13 false h14 (pu h14 (aH G false 1 v14 h14))) fun v15 h15 =>
 aE (gd v13 false h15 (pu h15 (bC Tryd.prog .lss 3 true v15 (.int .i64 0)))) fun v16 h16 =>
 aE (pu h16 (dL v13 (.bool true) v16)) fun v17 h17 =>
 aE (gd v17 false h17 (pu h17 (aF 2 v0))) fun v18 h18 =>
 aE (gd v17 false h18 (pu h18 (aH G false 1 v18 h18))) fun v19 h19 =>
 aE (gd v17 false h19 (pu h19 (bC Tryd.prog .gtr 3 true v19 (.int .i64 65536)))) fun v20 h20 =>
 aE (pu h20 (dL v17 (.bool true) v20)) fun v21 h21 =>
 bK v21
 (aE (aJ (cQ.f G k) [(.int .i64 103)] h21) fun v22 h22 =>
 aE (hX (cH 3 v1 v22 h22)) fun v23 h23 =>
 jM [aH G true 3 v1 h23] h.length h23)
 (dW (cC (bE.l4 G k h21.length self) k [v0, v1, (.int .i64 0)] h21) fun e24 x24 h24 => iJ e24
 (none)
 (fun i24 => if i24 = 0 then (aE (aJ (cN.f G k) [] h24) fun v163 h163 =>
 aE (hX (cH 3 (aG x24 1) v163 h163)) fun v164 h164 =>
 jM [aH G true 3 (aG x24 1) h164] h.length h164) else (none))
 (jM [aH G true 3 (aG x24 1) h24] h.length h24)))
noncomputable def bE.f (G : aC) : Nat → cK
 | 0 => fun _ _ => none
 | k + 1 => fun args h => jD args fun x0 => (bE.c G k (bE.f G k) x0 h)
theorem bE.step (G : aC) (k : Nat) (x0 : AV) (h : aA) : bE.f G (k + 1) [x0] h = bE.c G k (bE.f G k) x0 h := rfl
noncomputable def bM.ann : Ann := fD [] [] [] []
noncomputable def bM.env (G : aC) (k : Nat) (self : cK) : List (Nat × Bool × cK) := []
noncomputable def bM.c (G : aC) (k : Nat) (self : cK) (x0 x1 : AV) (h : aA) : Option (AV × aA) := fQ (
 aE (eE x0 h) fun v0 h0 =>
 aE (eE x1 h0) fun v1 h1 =>
 aE (pu h1 (aF 0 v0)) fun v2 h2 =>
 aE (pu h2 (aH G false 1 v2 h2)) fun v3 h3 =>
 aE (pu h3 (aF 0 v1)) fun v4 h4 =>
 aE (pu h4 (aH G false 1 v4 h4)) fun v5 h5 =>
 aE (pu h5 (bC Tryd.prog .eql 3 false v3 v5)) fun v6 h6 =>
 aE (gd v6 true h6 (pu h6 (aF 1 v0))) fun v7 h7 =>
 aE (gd v6 true h7 (pu h7 (aH G false 1 v7 h7))) fun v8 h8 =>
 aE (gd v6 true h8 (pu h8 (aF 1 v1))) fun v9 h9 =>
 aE (gd v6 true h9 (pu h9 (aH G false 1 v9 h9))) fun v10 h10 =>
 aE (gd v6 true h10 (pu h10 (bC Tryd.prog .eql 4 false v8 v10))) fun v11 h11 =>
 aE (pu h11 (dL v6 v11 (.bool false))) fun v12 h12 =>
 aE (gd v12 true h12 (pu h12 (aF 2 v0))) fun v13 h13 =>
 aE (gd v12 true h13 (pu h13 (aH G false 1 v13 h13))) fun v14 h14 =>
 aE (gd v12 true h14 (pu h14 (aF 2 v1))) fun v15 h15 =>
 aE (gd v12 true h15 (pu h15 (aH G false 1 v15 h15))) fun v16 h16 =>
 aE (gd v12 true h16 (pu h16 (bC Tryd.prog .eql 3 false v14 v16))) fun v17 h17 =>
 aE (pu h17 (dL v12 v17 (.bool false))) fun v18 h18 =>
 cS [v18] h.length h18)
noncomputable def bM.f (G : aC) : Nat → cK
 | 0 => fun _ _ => none
 | k + 1 => fun args h => lW args fun x0 x1 => (bM.c G k (bM.f G k) x0 x1 h)
theorem bM.step (G : aC) (k : Nat) (x0 x1 : AV) (h : aA) : bM.f G (k + 1) [x0, x1] h = bM.c G k (bM.f G k) x0 x1 h := rfl
noncomputable def cM.ann : Ann := fD [] [] [] []
noncomputable def cM.env (G : aC) (k : Nat) (self : cK) : List (Nat × Bool × cK) := []
noncomputable def cM.c (G : aC) (k : Nat) (self : cK) (h : aA) : Option (AV × aA) := fQ (
 aE (pu h (aH G false 1 (.gl 0) h)) fun v0 h0 =>
 aE (pu h0 (aH G false 1 (.gl 2) h0)) fun v1 h1 =>
 aE (pu h1 (aH G false 1 (.gl 1) h1)) fun v2 h2 =>
 aE (pu h2 (aH G false 1 (.gl 4) h2)) fun v3 h3 =>
 aE (pu h3 (aH G false 1 (.gl 6) h3)) fun v4 h4 =>
 aE (pu h4 (aH G false 1 (.gl 3) h4)) fun v5 h5 =>
 aE (pu h5 (aH G false 1 (.gl 7) h5)) fun v6 h6 =>
 aE (pu h6 (aH G false 1 (.gl 8) h6)) fun v7 h7 =>
 aE (pu h7 (aH G false 1 (.gl 5) h7)) fun v8 h8 =>
 aE (pu h8 (aH G false 1 (.gl 9) h8)) fun v9 h9 =>
 aE (pu h9 (aH G false 1 (.gl 10) h9)) fun v10 h10 =>
 aE (pu h10 (aH G false 1 (.gl 11) h10)) fun v11 h11 =>
 aE (pu h11 (aH G false 1 (.gl 12) h11)) fun v12 h12 =>
 aE (pu h12 (aH G false 1 (.gl 13) h12)) fun v13 h13 =>
 aE (dN 1 14 .nili [(0, v0), (1, v1), (2, v2), (3, v3), (4, v4), (5, v5), (6, v6), (7, v7), (8, v8), (9, v9), (10, v10), (11, v11), (12, v12), (13, v13)] h13) fun v14 h14 =>
 cS [v14] h.length h14)
noncomputable def cM.f (G : aC) : Nat → cK
 | 0 => fun _ _ => none
 | k + 1 => fun args h => aFX args (cM.c G k (cM.f G k) h)
noncomputable def dC.ann : Ann := fD [] [] [] []
noncomputable def dC.env (G : aC) (k : Nat) (self : cK) : List (Nat × Bool × cK) := []
noncomputable def dC.c (G : aC) (k : Nat) (self : cK) (x0 x1 : AV) (h : aA) : Option (AV × aA) := fQ (
 aE (pu h (bC Tryd.prog .eql 33 true x0 .nili)) fun v0 h0 =>
 aE (gd v0 false h0 (some (x1, h0))) fun v1 h1 =>
 aE (gd v0 false h1 (pu h1 (bC Tryd.prog .eql 33 true v1 .nili))) fun v2 h2 =>
 aE (pu h2 (dL v0 (.bool true) v2)) fun v3 h3 =>
 bK v3
 (aE (pu h3 (bC Tryd.prog .eql 33 true x0 .nili)) fun v4 h4 =>
 aE (gd v4 true h4 (some (x1, h4))) fun v5 h5 =>
 aE (gd v4 true h5 (pu h5 (bC Tryd.prog .eql 33 true v5 .nili))) fun v6 h6 =>
 aE (pu h6 (dL v4 v6 (.bool false))) fun v7 h7 =>
 cS [v7] h.length h7)
 (aE (pu h3 (bC Tryd.prog .eql 33 false x0 x1)) fun v8 h8 =>
 cS [v8] h.length h8))
noncomputable def dC.f (G : aC) : Nat → cK
 | 0 => fun _ _ => none
 | k + 1 => fun args h => lW args fun x0 x1 => (dC.c G k (dC.f G k) x0 x1 h)
noncomputable def cE.ann : Ann := fD [] [] [(3, [0, 2, 3, 4])] []
noncomputable def cE.env (G : aC) (k : Nat) (self : cK) : List (Nat × Bool × cK) := [(108, true, cM.f G k), (109, true, dC.f G k)]
noncomputable def cE.l3 (G : aC) (k n0 : Nat) (self : cK) (lp : dO) : dO := fun xs h0 => gX n0 xs h0 fun h =>
 aE (pu h (cB (aG xs 2))) fun v2 h2 =>
 aE (pu h2 (bC Tryd.prog .lss 3 false (aG xs 3) v2)) fun v3 h3 =>
 bK v3
 (aE (pu h3 (aM 1 (aG xs 2) (aG xs 3))) fun v4 h4 =>
 aE (pu h4 (aH G false 1 v4 h4)) fun v5 h5 =>
 aE (aJ (dC.f G k) [(aG xs 0), v5] h5) fun v6 h6 =>
 bK v6
 (aE (pu h6 (bC Tryd.prog .add 3 true (.int .i64 101) (aG xs 3))) fun v7 h7 =>
 some (.ret, [(aG xs 0), v7, (aG xs 2), (aG xs 3)], h7))
 (aE (pu h6 (bC Tryd.prog .add 3 true (aG xs 3) (.int .i64 1))) fun v8 h8 =>
 lp [(aG xs 0), (aG xs 1), (aG xs 2), v8] h8))
 (some (.exit 0, [(aG xs 0), (aG xs 1), (aG xs 2), (aG xs 3)], h3))
noncomputable def cE.c (G : aC) (k : Nat) (self : cK) (x0 : AV) (h : aA) : Option (AV × aA) := fQ (
 aE (aJ (cM.f G k) [] h) fun v0 h0 =>
 dW (cC (cE.l3 G k h0.length self) k [x0, (.int .i64 0), v0, (.int .i64 0)] h0) fun e1 x1 h1 => iJ e1
 (none)
 (fun i1 => if i1 = 0 then (cS [(.int .i64 (-1))] h.length h1) else (none))
 (cS [(aG x1 1)] h.length h1))
noncomputable def cE.f (G : aC) : Nat → cK
 | 0 => fun _ _ => none
 | k + 1 => fun args h => jD args fun x0 => (cE.c G k (cE.f G k) x0 h)
noncomputable def cP.ann : Ann := fD [] [] [] []
noncomputable def cP.env (G : aC) (k : Nat) (self : cK) : List (Nat × Bool × cK) := [(42, true, cQ.f G k), (57, true, bU.f G k), (58, true, cN.f G k), (91, true, cE.f G k)]
noncomputable def cP.c (G : aC) (k : Nat) (self : cK) (x0 : AV) (h : aA) : Option (AV × aA) := fQ (
 aE (gD 54 (.agg [(.int .i64 0), (.bool false), (.int .i64 0)]) h) fun v0 h0 =>
 aE (pu h0 (bC Tryd.prog .eql 33 true x0 .nili)) fun v1 h1 =>
 bK v1
 (aE (aJ (cN.f G k) [] h1) fun v2 h2 =>
 aE (hX (cH 3 v0 v2 h2)) fun v3 h3 =>
 jM [aH G true 3 v0 h3] h.length h3)
 (aE (pu h1 (aAB 126 .nilp true x0)) fun v4 h4 =>
 aE (pu h4 (cX v4 0)) fun v5 h5 =>
 aE (pu h5 (cX v4 1)) fun v6 h6 =>
 aE (pu h6 (un .not v6)) fun v7 h7 =>
 bK v7
 (aE (aJ (cE.f G k) [x0] h7) fun v8 h8 =>
 aE (aJ (cQ.f G k) [v8] h8) fun v9 h9 =>
 aE (hX (cH 3 v0 v9 h9)) fun v10 h10 =>
 jM [aH G true 3 v0 h10] h.length h10)
 (aE (pu h7 (bC Tryd.prog .eql 126 true v5 .nilp)) fun v11 h11 =>
 aE (gd v11 false h11 (some (v5, h11))) fun v12 h12 =>
 aE (gd v11 false h12 (pu h12 (rT v12))) fun v13 h13 =>
 aE (gd v11 false h13 (pu h13 (aF 1 v13))) fun v14 h14 =>
 aE (gd v11 false h14 (pu h14 (aH G false 1 v14 h14))) fun v15 h15 =>
 aE (gd v11 false h15 (pu h15 (bC Tryd.prog .eql 33 true v15 .nili))) fun v16 h16 =>
 aE (pu h16 (dL v11 (.bool true) v16)) fun v17 h17 =>
 bK v17
 (aE (aJ (cQ.f G k) [(.int .i64 (-1))] h17) fun v18 h18 =>
 aE (hX (cH 3 v0 v18 h18)) fun v19 h19 =>
 jM [aH G true 3 v0 h19] h.length h19)
 (aE (pu h17 (rT v5)) fun v20 h20 =>
 aE (pu h20 (aF 1 v20)) fun v21 h21 =>
 aE (pu h21 (aH G false 1 v21 h21)) fun v22 h22 =>
 aE (aJ (cE.f G k) [v22] h22) fun v23 h23 =>
 aE (pu h23 (rT v5)) fun v24 h24 =>
 aE (pu h24 (aF 0 v24)) fun v25 h25 =>
 aE (pu h25 (aH G false 1 v25 h25)) fun v26 h26 =>
 aE (aJ (bU.f G k) [v23, v26] h26) fun v27 h27 =>
 aE (hX (cH 3 v0 v27 h27)) fun v28 h28 =>
 jM [aH G true 3 v0 h28] h.length h28))))
noncomputable def cP.f (G : aC) : Nat → cK
 | 0 => fun _ _ => none
 | k + 1 => fun args h => jD args fun x0 => (cP.c G k (cP.f G k) x0 h)
noncomputable def cI.ann : Ann := fD [] [] [] []
noncomputable def cI.env (G : aC) (k : Nat) (self : cK) : List (Nat × Bool × cK) := [(64, true, bM.f G k), (65, true, cP.f G k)]
noncomputable def cI.c (G : aC) (k : Nat) (self : cK) (x0 x1 : AV) (h : aA) : Option (AV × aA) := fQ (
 aE (eE x1 h) fun v0 h0 =>
 aE (aJ (cP.f G k) [x0] h0) fun v1 h1 =>
 aE (pu h1 (aH G true 3 v0 h1)) fun v2 h2 =>
 aE (aJ (bM.f G k) [v1, v2] h2) fun v3 h3 =>
 cS [v3] h.length h3)
noncomputable def cI.f (G : aC) : Nat → cK
 | 0 => fun _ _ => none
 | k + 1 => fun args h => lW args fun x0 x1 => (cI.c G k (cI.f G k) x0 x1 h)
theorem cI.step (G : aC) (k : Nat) (x0 x1 : AV) (h : aA) : cI.f G (k + 1) [x0, x1] h = cI.c G k (cI.f G k) x0 x1 h := rfl
end Go.Proofs.YtlkgkfgkiidhdaaDoor.Mir
