/- Part 5 of the proof: the functions that the statement reaches, and their contracts. -/
import Derived.Test.YtlkgkfgkiidhdaaDoorVh4
import Derived.Test.YtlkgkfgkiidhdaaDoorProg
namespace Go.Proofs.YtlkgkfgkiidhdaaDoor.Mir
open Go
set_option linter.unusedVariables false
noncomputable def fJ.ann : Ann := fC [] [] [] []
noncomputable def fJ.env (G : aF) (k : Nat) (self : cC) : List (Nat × Bool × cC) := []
noncomputable def fJ.c (G : aF) (k : Nat) (self : cC) (x0 : AV) (h : aB) : Option (AV × aB) := fG (
 aC (pu h (aW Tryd.prog .eql 3 true x0 (.int .i64 3))) fun v0 h0 =>
 aX v0
 (cF [(.str ⟨#[97, 100, 100]⟩)] h.length h0)
 (aC (pu h0 (aW Tryd.prog .eql 3 true x0 (.int .i64 4))) fun v1 h1 =>
 aX v1
 (cF [(.str ⟨#[115, 117, 98]⟩)] h.length h1)
 (aC (pu h1 (aW Tryd.prog .eql 3 true x0 (.int .i64 5))) fun v2 h2 =>
 aX v2
 (cF [(.str ⟨#[109, 117, 108]⟩)] h.length h2)
 (aC (pu h2 (aW Tryd.prog .eql 3 true x0 (.int .i64 6))) fun v3 h3 =>
 aX v3
 (cF [(.str ⟨#[104, 105, 103, 104]⟩)] h.length h3)
 (aC (pu h3 (aW Tryd.prog .eql 3 true x0 (.int .i64 7))) fun v4 h4 =>
 aX v4
 (cF [(.str ⟨#[97, 110, 100]⟩)] h.length h4)
 (aC (pu h4 (aW Tryd.prog .eql 3 true x0 (.int .i64 8))) fun v5 h5 =>
 aX v5
 (cF [(.str ⟨#[111, 114]⟩)] h.length h5)
 (aC (pu h5 (aW Tryd.prog .eql 3 true x0 (.int .i64 9))) fun v6 h6 =>
 aX v6
 (cF [(.str ⟨#[120, 111, 114]⟩)] h.length h6)
 (aC (pu h6 (aW Tryd.prog .eql 3 true x0 (.int .i64 13))) fun v7 h7 =>
 aX v7
 (cF [(.str ⟨#[108, 101, 115, 115]⟩)] h.length h7)
 (aC (pu h7 (aW Tryd.prog .eql 3 true x0 (.int .i64 10))) fun v8 h8 =>
 aX v8
 (cF [(.str ⟨#[115, 104, 108]⟩)] h.length h8)
 (aC (pu h8 (aW Tryd.prog .eql 3 true x0 (.int .i64 11))) fun v9 h9 =>
 aX v9
 (cF [(.str ⟨#[115, 104, 114]⟩)] h.length h9)
 (aC (pu h9 (aW Tryd.prog .eql 3 true x0 (.int .i64 12))) fun v10 h10 =>
 aX v10
 (cF [(.str ⟨#[115, 97, 114]⟩)] h.length h10)
 (aC (pu h10 (aW Tryd.prog .eql 3 true x0 (.int .i64 15))) fun v11 h11 =>
 aX v11
 (cF [(.str ⟨#[108, 100]⟩)] h.length h11)
 (aC (pu h11 (aW Tryd.prog .eql 3 true x0 (.int .i64 17))) fun v12 h12 =>
 aX v12
 (cF [(.str ⟨#[98, 114]⟩)] h.length h12)
 (aC (pu h12 (aW Tryd.prog .eql 3 true x0 (.int .i64 20))) fun v13 h13 =>
 aX v13
 (cF [(.str ⟨#[104, 97, 108, 116]⟩)] h.length h13)
 (aC (pu h13 (aW Tryd.prog .eql 3 true x0 (.int .i64 18))) fun v14 h14 =>
 aX v14
 (cF [(.str ⟨#[98, 122]⟩)] h.length h14)
 (cF [(.str ⟨#[98, 110, 122]⟩)] h.length h14))))))))))))))))
noncomputable def fJ.f (G : aF) : Nat → cC
 | 0 => fun _ _ => none
 | k + 1 => fun args h => lF args fun x0 => (fJ.c G k (fJ.f G k) x0 h)
noncomputable def eF.ann : Ann := fC [] [] [] [(30, [2, 3]), (29, [0, 2, 43]), (26, [0, 2, 4, 37]), (19, [0, 2, 4, 23]), (14, [0, 2, 4, 11])]
noncomputable def eF.env (G : aF) (k : Nat) (self : cC) : List (Nat × Bool × cC) := [(86, true, fJ.f G k)]
noncomputable def eF.c (G : aF) (k : Nat) (self : cC) (x0 : AV) (h : aB) : Option (AV × aB) := fG (
 aC (fV 100 (.agg [(.str ⟨#[]⟩), (.bool false), (.bool false), (.bool false), (.bool false), (.bool false)]) h) fun v0 h0 =>
 eQ (
 aC (pu h0 (aW Tryd.prog .eql 3 true x0 (.int .i64 1))) fun v1 h1 =>
 aX v1
 (aC (pu h1 (cX [(0, 1), (1, 1), (2, 1), (3, 1), (4, 1), (5, 1)] [(.str ⟨#[]⟩), (.bool false), (.bool false), (.bool false), (.bool false), (.bool false)] [(0, (.str ⟨#[99, 111, 110, 115, 116]⟩)), (1, (.bool true)), (5, (.bool true))])) fun v2 h2 =>
 aC (fP (aT 6 v0 v2 h2)) fun v3 h3 =>
 some (.ret, [v0, (.bool true)], h3))
 (aC (pu h1 (aW Tryd.prog .eql 3 true x0 (.int .i64 2))) fun v4 h4 =>
 aX v4
 (aC (pu h4 (cX [(0, 1), (1, 1), (2, 1), (3, 1), (4, 1), (5, 1)] [(.str ⟨#[]⟩), (.bool false), (.bool false), (.bool false), (.bool false), (.bool false)] [(0, (.str ⟨#[109, 111, 118]⟩)), (1, (.bool true)), (2, (.bool true))])) fun v5 h5 =>
 aC (fP (aT 6 v0 v5 h5)) fun v6 h6 =>
 some (.ret, [v0, (.bool true)], h6))
 (eQ (
 aC (pu h4 (aW Tryd.prog .eql 3 true x0 (.int .i64 3))) fun v7 h7 =>
 aX v7
 (some (.normal, [x0, v0, x0, v7], h7))
 (aC (pu h7 (aW Tryd.prog .eql 3 true x0 (.int .i64 4))) fun v8 h8 =>
 aX v8
 (some (.normal, [x0, v0, x0, v8], h8))
 (aC (pu h8 (aW Tryd.prog .eql 3 true x0 (.int .i64 5))) fun v9 h9 =>
 aX v9
 (some (.normal, [x0, v0, x0, v9], h9))
 (aC (pu h9 (aW Tryd.prog .eql 3 true x0 (.int .i64 6))) fun v10 h10 =>
 aX v10
 (some (.normal, [x0, v0, x0, v10], h10))
 (aC (pu h10 (aW Tryd.prog .eql 3 true x0 (.int .i64 7))) fun v11 h11 =>
 aX v11
 (some (.normal, [x0, v0, x0, v11], h11))
 (aC (pu h11 (aW Tryd.prog .eql 3 true x0 (.int .i64 8))) fun v12 h12 =>
 aX v12
 (some (.normal, [x0, v0, x0, v12], h12))
 (aC (pu h12 (aW Tryd.prog .eql 3 true x0 (.int .i64 9))) fun v13 h13 =>
 aX v13
 (some (.normal, [x0, v0, x0, v13], h13))
 (aC (pu h13 (aW Tryd.prog .eql 3 true x0 (.int .i64 13))) fun v14 h14 =>
 some (.normal, [x0, v0, x0, v14], h14))))))))) fun e15 x15 h15 => iL e15
 (aX (aG x15 3)
 (aC (aU (fJ.f G k) [(aG x15 0)] h15) fun v16 h16 =>
 aC (pu h16 (cX [(0, 1), (1, 1), (2, 1), (3, 1), (4, 1), (5, 1)] [(.str ⟨#[]⟩), (.bool false), (.bool false), (.bool false), (.bool false), (.bool false)] [(0, v16), (1, (.bool true)), (2, (.bool true)), (3, (.bool true))])) fun v17 h17 =>
 aC (fP (aT 6 (aG x15 1) v17 h17)) fun v18 h18 =>
 some (.ret, [(aG x15 1), (.bool true)], h18))
 (eQ (
 aC (pu h15 (aW Tryd.prog .eql 3 true (aG x15 2) (.int .i64 10))) fun v19 h19 =>
 aX v19
 (some (.normal, [(aG x15 0), (aG x15 1), (aG x15 2), v19], h19))
 (aC (pu h19 (aW Tryd.prog .eql 3 true (aG x15 2) (.int .i64 11))) fun v20 h20 =>
 aX v20
 (some (.normal, [(aG x15 0), (aG x15 1), (aG x15 2), v20], h20))
 (aC (pu h20 (aW Tryd.prog .eql 3 true (aG x15 2) (.int .i64 12))) fun v21 h21 =>
 aX v21
 (some (.normal, [(aG x15 0), (aG x15 1), (aG x15 2), v21], h21))
 (aC (pu h21 (aW Tryd.prog .eql 3 true (aG x15 2) (.int .i64 15))) fun v22 h22 =>
 some (.normal, [(aG x15 0), (aG x15 1), (aG x15 2), v22], h22))))) fun e23 x23 h23 => iL e23
 (aX (aG x23 3)
 (aC (aU (fJ.f G k) [(aG x23 0)] h23) fun v24 h24 =>
 aC (pu h24 (cX [(0, 1), (1, 1), (2, 1), (3, 1), (4, 1), (5, 1)] [(.str ⟨#[]⟩), (.bool false), (.bool false), (.bool false), (.bool false), (.bool false)] [(0, v24), (1, (.bool true)), (2, (.bool true)), (5, (.bool true))])) fun v25 h25 =>
 aC (fP (aT 6 (aG x23 1) v25 h25)) fun v26 h26 =>
 some (.ret, [(aG x23 1), (.bool true)], h26))
 (aC (pu h23 (aW Tryd.prog .eql 3 true (aG x23 2) (.int .i64 14))) fun v27 h27 =>
 aX v27
 (aC (pu h27 (cX [(0, 1), (1, 1), (2, 1), (3, 1), (4, 1), (5, 1)] [(.str ⟨#[]⟩), (.bool false), (.bool false), (.bool false), (.bool false), (.bool false)] [(0, (.str ⟨#[115, 101, 108]⟩)), (1, (.bool true)), (2, (.bool true)), (3, (.bool true)), (4, (.bool true))])) fun v28 h28 =>
 aC (fP (aT 6 (aG x23 1) v28 h28)) fun v29 h29 =>
 some (.ret, [(aG x23 1), (.bool true)], h29))
 (aC (pu h27 (aW Tryd.prog .eql 3 true (aG x23 2) (.int .i64 16))) fun v30 h30 =>
 aX v30
 (aC (pu h30 (cX [(0, 1), (1, 1), (2, 1), (3, 1), (4, 1), (5, 1)] [(.str ⟨#[]⟩), (.bool false), (.bool false), (.bool false), (.bool false), (.bool false)] [(0, (.str ⟨#[115, 116]⟩)), (2, (.bool true)), (3, (.bool true)), (5, (.bool true))])) fun v31 h31 =>
 aC (fP (aT 6 (aG x23 1) v31 h31)) fun v32 h32 =>
 some (.ret, [(aG x23 1), (.bool true)], h32))
 (eQ (
 aC (pu h30 (aW Tryd.prog .eql 3 true (aG x23 2) (.int .i64 17))) fun v33 h33 =>
 aX v33
 (some (.normal, [(aG x23 0), (aG x23 1), (aG x23 2), v33], h33))
 (aC (pu h33 (aW Tryd.prog .eql 3 true (aG x23 2) (.int .i64 20))) fun v34 h34 =>
 some (.normal, [(aG x23 0), (aG x23 1), (aG x23 2), v34], h34))) fun e35 x35 h35 => iL e35
 (aX (aG x35 3)
 (aC (aU (fJ.f G k) [(aG x35 0)] h35) fun v36 h36 =>
 aC (pu h36 (cX [(0, 1), (1, 1), (2, 1), (3, 1), (4, 1), (5, 1)] [(.str ⟨#[]⟩), (.bool false), (.bool false), (.bool false), (.bool false), (.bool false)] [(0, v36), (5, (.bool true))])) fun v37 h37 =>
 aC (fP (aT 6 (aG x35 1) v37 h37)) fun v38 h38 =>
 some (.ret, [(aG x35 1), (.bool true)], h38))
 (eQ (
 aC (pu h35 (aW Tryd.prog .eql 3 true (aG x35 2) (.int .i64 18))) fun v39 h39 =>
 aX v39
 (some (.normal, [(aG x35 0), (aG x35 1), v39], h39))
 (aC (pu h39 (aW Tryd.prog .eql 3 true (aG x35 2) (.int .i64 19))) fun v40 h40 =>
 some (.normal, [(aG x35 0), (aG x35 1), v40], h40))) fun e41 x41 h41 => iL e41
 (aX (aG x41 2)
 (aC (aU (fJ.f G k) [(aG x41 0)] h41) fun v42 h42 =>
 aC (pu h42 (cX [(0, 1), (1, 1), (2, 1), (3, 1), (4, 1), (5, 1)] [(.str ⟨#[]⟩), (.bool false), (.bool false), (.bool false), (.bool false), (.bool false)] [(0, v42), (2, (.bool true)), (5, (.bool true))])) fun v43 h43 =>
 aC (fP (aT 6 (aG x41 1) v43 h43)) fun v44 h44 =>
 some (.ret, [(aG x41 1), (.bool true)], h44))
 (some (.normal, [(aG x41 1), .undef], h41)))
 (fun i41 => if i41 = 0 then (some (.normal, [(aG x41 1), .undef], h41)) else (some (.exit i41, [(aG x41 1), .undef], h41)))
 (some (.ret, [(aG x41 1), .undef], h41))))
 (fun i35 => if i35 = 0 then (some (.normal, [(aG x35 1), .undef], h35)) else (some (.exit i35, [(aG x35 1), .undef], h35)))
 (some (.ret, [(aG x35 1), .undef], h35))))))
 (fun i23 => if i23 = 0 then (some (.normal, [(aG x23 1), .undef], h23)) else (some (.exit i23, [(aG x23 1), .undef], h23)))
 (some (.ret, [(aG x23 1), .undef], h23))))
 (fun i15 => if i15 = 0 then (some (.normal, [(aG x15 1), .undef], h15)) else (some (.exit i15, [(aG x15 1), .undef], h15)))
 (some (.ret, [(aG x15 1), .undef], h15))))) fun e45 x45 h45 => iL e45
 (aC (pu h45 (cX [(0, 1), (1, 1), (2, 1), (3, 1), (4, 1), (5, 1)] [(.str ⟨#[]⟩), (.bool false), (.bool false), (.bool false), (.bool false), (.bool false)] [(0, (.str ⟨#[110, 111, 110, 101]⟩))])) fun v46 h46 =>
 aC (fP (aT 6 (aG x45 0) v46 h46)) fun v47 h47 =>
 hJ [aD G true 6 (aG x45 0) h47, some (.bool false)] h.length h47)
 (fun i45 => none)
 (hJ [aD G true 6 (aG x45 0) h45, some (aG x45 1)] h.length h45))
noncomputable def eF.f (G : aF) : Nat → cC
 | 0 => fun _ _ => none
 | k + 1 => fun args h => lF args fun x0 => (eF.c G k (eF.f G k) x0 h)
theorem eF.step (G : aF) (k : Nat) (x0 : AV) (h : aB) : eF.f G (k + 1) [x0] h = eF.c G k (eF.f G k) x0 h := rfl
noncomputable def gA.ann : Ann := fC [] [] [] []
noncomputable def gA.env (G : aF) (k : Nat) (self : cC) : List (Nat × Bool × cC) := []
noncomputable def gA.c (G : aF) (k : Nat) (self : cC) (x0 x1 : AV) (h : aB) : Option (AV × aB) := fG (
 aC (gB x0 h) fun v0 h0 =>
 aC (gB x1 h0) fun v1 h1 =>
 aC (pu h1 (aA 1 v1)) fun v2 h2 =>
 aC (pu h2 (aD G false 1 v2 h2)) fun v3 h3 =>
 aC (pu h3 (aA 2 v1)) fun v4 h4 =>
 aC (pu h4 (aD G false 1 v4 h4)) fun v5 h5 =>
 aC (pu h5 (aA 3 v1)) fun v6 h6 =>
 aC (pu h6 (aD G false 1 v6 h6)) fun v7 h7 =>
 aC (pu h7 (aA 4 v1)) fun v8 h8 =>
 aC (pu h8 (aD G false 1 v8 h8)) fun v9 h9 =>
 aC (pu h9 (aA 5 v1)) fun v10 h10 =>
 aC (pu h10 (aD G false 1 v10 h10)) fun v11 h11 =>
 aC (fS 1 5 (.bool false) [(0, v3), (1, v5), (2, v7), (3, v9), (4, v11)] h11) fun v12 h12 =>
 aC (pu h12 (aA 1 v0)) fun v13 h13 =>
 aC (pu h13 (aD G false 1 v13 h13)) fun v14 h14 =>
 aC (pu h14 (aA 2 v0)) fun v15 h15 =>
 aC (pu h15 (aD G false 1 v15 h15)) fun v16 h16 =>
 aC (pu h16 (aA 3 v0)) fun v17 h17 =>
 aC (pu h17 (aD G false 1 v17 h17)) fun v18 h18 =>
 aC (pu h18 (aA 4 v0)) fun v19 h19 =>
 aC (pu h19 (aD G false 1 v19 h19)) fun v20 h20 =>
 aC (pu h20 (aA 5 v0)) fun v21 h21 =>
 aC (pu h21 (aD G false 1 v21 h21)) fun v22 h22 =>
 aC (fS 1 5 (.int .i64 0) [(0, v14), (1, v16), (2, v18), (3, v20), (4, v22)] h22) fun v23 h23 =>
 cF [v12, v23] h.length h23)
noncomputable def gA.f (G : aF) : Nat → cC
 | 0 => fun _ _ => none
 | k + 1 => fun args h => kC args fun x0 x1 => (gA.c G k (gA.f G k) x0 x1 h)
noncomputable def dE.ann : Ann := fC [] [] [(12, [2, 3, 4, 8, 53, 54, 55]), (6, [2, 3, 4, 7, 8, 28])] [(33, [3, 4, 12]), (31, [2, 3, 12, 82]), (27, [2, 3, 12, 72, 79]), (22, [2, 3, 12, 72, 73])]
noncomputable def dE.env (G : aF) (k : Nat) (self : cC) : List (Nat × Bool × cC) := [(51, true, eF.f G k), (95, true, gA.f G k)]
noncomputable def dE.l6 (G : aF) (k n0 : Nat) (self : cC) (lp : eY) : eY := fun xs h0 => iZ n0 xs h0 fun h =>
 aC (pu h (aW Tryd.prog .lss 3 true (aG xs 5) (.int .i64 4))) fun v17 h17 =>
 aX v17
 (aC (pu h17 (aM 1 (aG xs 3) (aG xs 5))) fun v18 h18 =>
 aC (pu h18 (aD G false 1 v18 h18)) fun v19 h19 =>
 aC (gd v19 true h19 (some ((aG xs 4), h19))) fun v20 h20 =>
 aC (gd v19 true h20 (some ((aG xs 5), h20))) fun v21 h21 =>
 aC (gd v19 true h21 (pu h21 (aM 1 v20 v21))) fun v22 h22 =>
 aC (gd v19 true h22 (pu h22 (aD G false 1 v22 h22))) fun v23 h23 =>
 aC (gd v19 true h23 (pu h23 (aW Tryd.prog .lss 2 true v23 (.int .i64 0)))) fun v24 h24 =>
 aC (gd v19 true h24 (some (v24, h24))) fun v25 h25 =>
 aC (gd v25 false h25 (some ((aG xs 4), h25))) fun v26 h26 =>
 aC (gd v25 false h26 (some ((aG xs 5), h26))) fun v27 h27 =>
 aC (gd v25 false h27 (pu h27 (aM 1 v26 v27))) fun v28 h28 =>
 aC (gd v25 false h28 (pu h28 (aD G false 1 v28 h28))) fun v29 h29 =>
 aC (gd v25 false h29 (pu h29 (aA 1 (aG xs 0)))) fun v30 h30 =>
 aC (gd v25 false h30 (pu h30 (aD G false 1 v30 h30))) fun v31 h31 =>
 aC (gd v25 false h31 (pu h31 (aW Tryd.prog .geq 2 false v29 v31))) fun v32 h32 =>
 aC (gd v19 true h32 (pu h32 (eG v25 (.bool true) v32))) fun v33 h33 =>
 aC (pu h33 (eG v19 v33 (.bool false))) fun v34 h34 =>
 aX v34
 (aC (pu h34 (aD G false 1 (.gl 0) h34)) fun v35 h35 =>
 some (.ret, [(aG xs 0), (aG xs 1), v35, (aG xs 3), (aG xs 4), (aG xs 5)], h35))
 (aC (pu h34 (aW Tryd.prog .add 3 true (aG xs 5) (.int .i64 1))) fun v36 h36 =>
 lp [(aG xs 0), (aG xs 1), (aG xs 2), (aG xs 3), (aG xs 4), v36] h36))
 (some (.exit 0, [(aG xs 0), (aG xs 1), (aG xs 2), (aG xs 3), (aG xs 4), (aG xs 5)], h17))
noncomputable def dE.l12 (G : aF) (k n0 : Nat) (self : cC) (lp : eY) : eY := fun xs h0 => iZ n0 xs h0 fun h =>
 aC (pu h (aW Tryd.prog .lss 3 false (aG xs 6) (aG xs 5))) fun v39 h39 =>
 aX v39
 (aC (pu h39 (aM 1 (aG xs 4) (aG xs 6))) fun v40 h40 =>
 aC (pu h40 (aD G false 1 v40 h40)) fun v41 h41 =>
 aC (pu h41 (un .not v41)) fun v42 h42 =>
 aC (gd v42 true h42 (some ((aG xs 3), h42))) fun v43 h43 =>
 aC (gd v42 true h43 (some ((aG xs 6), h43))) fun v44 h44 =>
 aC (gd v42 true h44 (pu h44 (aM 1 v43 v44))) fun v45 h45 =>
 aC (gd v42 true h45 (pu h45 (aD G false 1 v45 h45))) fun v46 h46 =>
 aC (gd v42 true h46 (pu h46 (aW Tryd.prog .neq 2 true v46 (.int .i64 0)))) fun v47 h47 =>
 aC (pu h47 (eG v42 v47 (.bool false))) fun v48 h48 =>
 aX v48
 (aC (pu h48 (aD G false 1 (.gl 4) h48)) fun v49 h49 =>
 some (.ret, [(aG xs 0), (aG xs 1), v49, (aG xs 3), (aG xs 4), (aG xs 5), (aG xs 6)], h49))
 (aC (pu h48 (aW Tryd.prog .add 3 true (aG xs 6) (.int .i64 1))) fun v50 h50 =>
 lp [(aG xs 0), (aG xs 1), (aG xs 2), (aG xs 3), (aG xs 4), (aG xs 5), v50] h50))
 (some (.exit 2, [(aG xs 0), (aG xs 1), (aG xs 2), (aG xs 3), (aG xs 4), (aG xs 5), (aG xs 6)], h39))
noncomputable def dE.c (G : aF) (k : Nat) (self : cC) (x0 x1 : AV) (h : aB) : Option (AV × aB) := fG (
 aC (gB x0 h) fun v0 h0 =>
 aC (gB x1 h0) fun v1 h1 =>
 aC (pu h1 (aA 0 v1)) fun v2 h2 =>
 aC (pu h2 (aD G false 1 v2 h2)) fun v3 h3 =>
 aC (aU (eF.f G k) [v3] h3) fun v4 h4 =>
 aC (pu h4 (cY v4 0)) fun v5 h5 =>
 aC (pu h5 (cY v4 1)) fun v6 h6 =>
 aC (fV 100 (.agg [(.str ⟨#[]⟩), (.bool false), (.bool false), (.bool false), (.bool false), (.bool false)]) h6) fun v7 h7 =>
 aC (fP (aT 6 v7 v5 h7)) fun v8 h8 =>
 aC (pu h8 (un .not v6)) fun v9 h9 =>
 aX v9
 (aC (pu h9 (aD G false 1 (.gl 3) h9)) fun v10 h10 =>
 cF [v10] h.length h10)
 (aC (pu h9 (aD G true 6 v1 h9)) fun v11 h11 =>
 aC (pu h11 (aD G true 6 v7 h11)) fun v12 h12 =>
 aC (aU (gA.f G k) [v11, v12] h12) fun v13 h13 =>
 aC (pu h13 (cY v13 0)) fun v14 h14 =>
 aC (pu h14 (cY v13 1)) fun v15 h15 =>
 eQ (dP (dE.l6 G k h15.length self) k [v0, v1, .nili, v14, v15, (.int .i64 0)] h15) fun e16 x16 h16 => iL e16
 (none)
 (fun i16 => if i16 = 0 then (aC (pu h16 (dN (aG x16 3))) fun v37 h37 =>
 eQ (dP (dE.l12 G k h37.length self) k [(aG x16 0), (aG x16 1), (aG x16 2), (aG x16 4), (aG x16 3), v37, (.int .i64 0)] h37) fun e38 x38 h38 => iL e38
 (none)
 (fun i38 => if i38 = 2 then (eQ (
 aC (pu h38 (aA 0 (aG x38 1))) fun v51 h51 =>
 aC (pu h51 (aD G false 1 v51 h51)) fun v52 h52 =>
 eQ (
 aC (pu h52 (aW Tryd.prog .eql 3 true v52 (.int .i64 10))) fun v53 h53 =>
 aX v53
 (some (.normal, [(aG x38 0), (aG x38 1), (.int .i64 (-1)), v52, v53], h53))
 (aC (pu h53 (aW Tryd.prog .eql 3 true v52 (.int .i64 11))) fun v54 h54 =>
 aX v54
 (some (.normal, [(aG x38 0), (aG x38 1), (.int .i64 (-1)), v52, v54], h54))
 (aC (pu h54 (aW Tryd.prog .eql 3 true v52 (.int .i64 12))) fun v55 h55 =>
 some (.normal, [(aG x38 0), (aG x38 1), (.int .i64 (-1)), v52, v55], h55)))) fun e56 x56 h56 => iL e56
 (aX (aG x56 4)
 (some (.normal, [(aG x56 1), .undef, (.int .i64 63)], h56))
 (aC (pu h56 (aW Tryd.prog .eql 3 true (aG x56 3) (.int .i64 20))) fun v57 h57 =>
 aX v57
 (some (.normal, [(aG x56 1), .undef, (.int .i64 2)], h57))
 (eQ (
 aC (pu h57 (aW Tryd.prog .eql 3 true (aG x56 3) (.int .i64 15))) fun v58 h58 =>
 aX v58
 (some (.normal, [(aG x56 0), (aG x56 1), (aG x56 2), (aG x56 3), v58], h58))
 (aC (pu h58 (aW Tryd.prog .eql 3 true (aG x56 3) (.int .i64 16))) fun v59 h59 =>
 some (.normal, [(aG x56 0), (aG x56 1), (aG x56 2), (aG x56 3), v59], h59))) fun e60 x60 h60 => iL e60
 (aX (aG x60 4)
 (some (.normal, [(aG x60 1), .undef, (.int .i64 65535)], h60))
 (eQ (
 aC (pu h60 (aW Tryd.prog .eql 3 true (aG x60 3) (.int .i64 17))) fun v61 h61 =>
 aX v61
 (some (.normal, [(aG x60 0), (aG x60 1), (aG x60 2), v61], h61))
 (aC (pu h61 (aW Tryd.prog .eql 3 true (aG x60 3) (.int .i64 18))) fun v62 h62 =>
 aX v62
 (some (.normal, [(aG x60 0), (aG x60 1), (aG x60 2), v62], h62))
 (aC (pu h62 (aW Tryd.prog .eql 3 true (aG x60 3) (.int .i64 19))) fun v63 h63 =>
 some (.normal, [(aG x60 0), (aG x60 1), (aG x60 2), v63], h63)))) fun e64 x64 h64 => iL e64
 (aX (aG x64 3)
 (aC (pu h64 (aA 5 (aG x64 1))) fun v65 h65 =>
 aC (pu h65 (aD G false 1 v65 h65)) fun v66 h66 =>
 aC (pu h66 (aW Tryd.prog .lss 2 true v66 (.int .i64 0))) fun v67 h67 =>
 aC (gd v67 false h67 (pu h67 (aA 5 (aG x64 1)))) fun v68 h68 =>
 aC (gd v67 false h68 (pu h68 (aD G false 1 v68 h68))) fun v69 h69 =>
 aC (gd v67 false h69 (pu h69 (aA 0 (aG x64 0)))) fun v70 h70 =>
 aC (gd v67 false h70 (pu h70 (aD G false 1 v70 h70))) fun v71 h71 =>
 aC (gd v67 false h71 (pu h71 (dN v71))) fun v72 h72 =>
 aC (gd v67 false h72 (pu h72 (aW Tryd.prog .gtr 2 false v69 v72))) fun v73 h73 =>
 aC (pu h73 (eG v67 (.bool true) v73)) fun v74 h74 =>
 aX v74
 (aC (pu h74 (aD G false 1 (.gl 5) h74)) fun v75 h75 =>
 some (.ret, [(aG x64 1), v75, (aG x64 2)], h75))
 (some (.normal, [(aG x64 1), .undef, (aG x64 2)], h74)))
 (some (.normal, [(aG x64 1), .undef, (aG x64 2)], h64)))
 (fun i64 => if i64 = 4 then (some (.normal, [(aG x64 1), .undef, (aG x64 2)], h64)) else (some (.exit i64, [(aG x64 1), .undef, (aG x64 2)], h64)))
 (some (.ret, [(aG x64 1), .undef, (aG x64 2)], h64))))
 (fun i60 => if i60 = 4 then (some (.normal, [(aG x60 1), .undef, (aG x60 2)], h60)) else (some (.exit i60, [(aG x60 1), .undef, (aG x60 2)], h60)))
 (some (.ret, [(aG x60 1), .undef, (aG x60 2)], h60)))))
 (fun i56 => if i56 = 4 then (some (.normal, [(aG x56 1), .undef, (aG x56 2)], h56)) else (some (.exit i56, [(aG x56 1), .undef, (aG x56 2)], h56)))
 (some (.ret, [(aG x56 1), .undef, (aG x56 2)], h56))) fun e76 x76 h76 => iL e76
 (aC (pu h76 (aW Tryd.prog .geq 2 true (aG x76 2) (.int .i64 0))) fun v77 h77 =>
 aC (gd v77 true h77 (pu h77 (aA 5 (aG x76 0)))) fun v78 h78 =>
 aC (gd v77 true h78 (pu h78 (aD G false 1 v78 h78))) fun v79 h79 =>
 aC (gd v77 true h79 (pu h79 (aW Tryd.prog .lss 2 true v79 (.int .i64 0)))) fun v80 h80 =>
 aC (gd v77 true h80 (some (v80, h80))) fun v81 h81 =>
 aC (gd v81 false h81 (pu h81 (aA 5 (aG x76 0)))) fun v82 h82 =>
 aC (gd v81 false h82 (pu h82 (aD G false 1 v82 h82))) fun v83 h83 =>
 aC (gd v81 false h83 (some ((aG x76 2), h83))) fun v84 h84 =>
 aC (gd v81 false h84 (pu h84 (aW Tryd.prog .gtr 2 false v83 v84))) fun v85 h85 =>
 aC (gd v77 true h85 (pu h85 (eG v81 (.bool true) v85))) fun v86 h86 =>
 aC (pu h86 (eG v77 v86 (.bool false))) fun v87 h87 =>
 aX v87
 (aC (pu h87 (aD G false 1 (.gl 0) h87)) fun v88 h88 =>
 cF [v88] h.length h88)
 (cF [.nili] h.length h87))
 (fun i76 => none)
 (cF [(aG x76 1)] h.length h76)) else (none))
 (cF [(aG x38 2)] h.length h38)) else (none))
 (cF [(aG x16 2)] h.length h16)))
noncomputable def dE.f (G : aF) : Nat → cC
 | 0 => fun _ _ => none
 | k + 1 => fun args h => kC args fun x0 x1 => (dE.c G k (dE.f G k) x0 x1 h)
theorem dE.step (G : aF) (k : Nat) (x0 x1 : AV) (h : aB) : dE.f G (k + 1) [x0, x1] h = dE.c G k (dE.f G k) x0 x1 h := rfl
noncomputable def cI.ann : Ann := fC [] [] [(6, [1, 2, 33, 34, 35])] []
noncomputable def cI.env (G : aF) (k : Nat) (self : cC) : List (Nat × Bool × cC) := [(72, true, dE.f G k)]
noncomputable def cI.l6 (G : aF) (k n0 : Nat) (self : cC) (lp : eY) : eY := fun xs h0 => iZ n0 xs h0 fun h =>
 aC (pu h (aW Tryd.prog .lss 3 false (aG xs 4) (aG xs 3))) fun v26 h26 =>
 aX v26
 (aC (pu h26 (aM 6 (aG xs 2) (aG xs 4))) fun v27 h27 =>
 aC (pu h27 (aD G true 6 v27 h27)) fun v28 h28 =>
 aC (fV 29 (.agg [(.int .i64 0), (.int .i64 0), (.int .i64 0), (.int .i64 0), (.int .i64 0), (.int .i64 0)]) h28) fun v29 h29 =>
 aC (fP (aT 6 v29 v28 h29)) fun v30 h30 =>
 aC (pu h30 (aD G true 3 (aG xs 0) h30)) fun v31 h31 =>
 aC (pu h31 (aD G true 6 v29 h31)) fun v32 h32 =>
 aC (aU (dE.f G k) [v31, v32] h32) fun v33 h33 =>
 aC (pu h33 (aW Tryd.prog .neq 33 true v33 .nili)) fun v34 h34 =>
 aX v34
 (aC (pu h34 (cX [(0, 1), (1, 1)] [(.int .i64 0), .nili] [(0, (aG xs 4)), (1, v33)])) fun v35 h35 =>
 aC (gB v35 h35) fun v36 h36 =>
 some (.ret, [(aG xs 0), (.iface 126 v36), (aG xs 2), (aG xs 3), (aG xs 4)], h36))
 (aC (pu h34 (aW Tryd.prog .add 3 true (aG xs 4) (.int .i64 1))) fun v37 h37 =>
 lp [(aG xs 0), (aG xs 1), (aG xs 2), (aG xs 3), v37] h37))
 (some (.exit 1, [(aG xs 0), (aG xs 1), (aG xs 2), (aG xs 3), (aG xs 4)], h26))
noncomputable def cI.c (G : aF) (k : Nat) (self : cC) (x0 : AV) (h : aB) : Option (AV × aB) := fG (
 aC (gB x0 h) fun v0 h0 =>
 aC (pu h0 (aA 0 v0)) fun v1 h1 =>
 aC (pu h1 (aD G false 1 v1 h1)) fun v2 h2 =>
 aC (pu h2 (dN v2)) fun v3 h3 =>
 aC (pu h3 (aW Tryd.prog .gtr 3 true v3 (.int .i64 262144))) fun v4 h4 =>
 aX v4
 (aC (pu h4 (aD G false 1 (.gl 1) h4)) fun v5 h5 =>
 cF [v5] h.length h5)
 (aC (pu h4 (aA 1 v0)) fun v6 h6 =>
 aC (pu h6 (aD G false 1 v6 h6)) fun v7 h7 =>
 aC (pu h7 (aW Tryd.prog .lss 3 true v7 (.int .i64 0))) fun v8 h8 =>
 aC (gd v8 false h8 (pu h8 (aA 1 v0))) fun v9 h9 =>
 aC (gd v8 false h9 (pu h9 (aD G false 1 v9 h9))) fun v10 h10 =>
 aC (gd v8 false h10 (pu h10 (aW Tryd.prog .gtr 3 true v10 (.int .i64 65536)))) fun v11 h11 =>
 aC (pu h11 (eG v8 (.bool true) v11)) fun v12 h12 =>
 aC (gd v12 false h12 (pu h12 (aA 2 v0))) fun v13 h13 =>
 aC (gd v12 false h13 (pu h13 (aD G false 1 v13 h13))) fun v14 h14 =>
 aC (gd v12 false h14 (pu h14 (aW Tryd.prog .lss 3 true v14 (.int .i64 0)))) fun v15 h15 =>
 aC (pu h15 (eG v12 (.bool true) v15)) fun v16 h16 =>
 aC (gd v16 false h16 (pu h16 (aA 2 v0))) fun v17 h17 =>
 aC (gd v16 false h17 (pu h17 (aD G false 1 v17 h17))) fun v18 h18 =>
 aC (gd v16 false h18 (pu h18 (aW Tryd.prog .gtr 3 true v18 (.int .i64 65536)))) fun v19 h19 =>
 aC (pu h19 (eG v16 (.bool true) v19)) fun v20 h20 =>
 aX v20
 (aC (pu h20 (aD G false 1 (.gl 1) h20)) fun v21 h21 =>
 cF [v21] h.length h21)
 (aC (pu h20 (aA 0 v0)) fun v22 h22 =>
 aC (pu h22 (aD G false 1 v22 h22)) fun v23 h23 =>
 aC (pu h23 (dN v23)) fun v24 h24 =>
 eQ (dP (cI.l6 G k h24.length self) k [v0, .nili, v23, v24, (.int .i64 0)] h24) fun e25 x25 h25 => iL e25
 (none)
 (fun i25 => if i25 = 1 then (cF [.nili] h.length h25) else (none))
 (cF [(aG x25 1)] h.length h25))))
noncomputable def cI.f (G : aF) : Nat → cC
 | 0 => fun _ _ => none
 | k + 1 => fun args h => lF args fun x0 => (cI.c G k (cI.f G k) x0 h)
theorem cI.step (G : aF) (k : Nat) (x0 : AV) (h : aB) : cI.f G (k + 1) [x0] h = cI.c G k (cI.f G k) x0 h := rfl
noncomputable def aO.ann : Ann := fC [5] [2] [] []
noncomputable def aO.env (G : aF) (k : Nat) (self : cC) : List (Nat × Bool × cC) := []
noncomputable def aO.c (G : aF) (k : Nat) (self : cC) (x0 : AV) (h : aB) : Option (AV × aB) := fG (
 aC (some (.sl h.length 0 0 0 6, h ++ [⟨29, 6, []⟩])) fun v0 h0 =>
 aC (pu h0 (aW Tryd.prog .eql 25 true x0 .nils)) fun v1 h1 =>
 aX v1
 (aC (some (.sl h1.length 0 0 0 6, h1 ++ [⟨29, 6, []⟩])) fun v2 h2 =>
 vC [v2] h2)
 (aC (hO 29 6 0 (.agg [(.int .i64 0), (.int .i64 0), (.int .i64 0), (.int .i64 0), (.int .i64 0), (.int .i64 0)]) [] h1) fun v3 h3 =>
 aC (fY 29 6 v3 x0 h3) fun v4 h4 =>
 vC [v4] h4))
noncomputable def aO.f (G : aF) : Nat → cC
 | 0 => fun _ _ => none
 | k + 1 => fun args h => lF args fun x0 => (aO.c G k (aO.f G k) x0 h)
theorem aO.step (G : aF) (k : Nat) (x0 : AV) (h : aB) : aO.f G (k + 1) [x0] h = aO.c G k (aO.f G k) x0 h := rfl
noncomputable def eO.ann : Ann := fC [] [] [] []
noncomputable def eO.env (G : aF) (k : Nat) (self : cC) : List (Nat × Bool × cC) := [(51, true, eF.f G k)]
noncomputable def eO.c (G : aF) (k : Nat) (self : cC) (x0 : AV) (h : aB) : Option (AV × aB) := fG (
 aC (gB x0 h) fun v0 h0 =>
 aC (pu h0 (aA 0 v0)) fun v1 h1 =>
 aC (pu h1 (aD G false 1 v1 h1)) fun v2 h2 =>
 aC (aU (eF.f G k) [v2] h2) fun v3 h3 =>
 aC (pu h3 (cY v3 0)) fun v4 h4 =>
 aC (pu h4 (cY v3 1)) fun v5 h5 =>
 aC (fV 100 (.agg [(.str ⟨#[]⟩), (.bool false), (.bool false), (.bool false), (.bool false), (.bool false)]) h5) fun v6 h6 =>
 aC (fP (aT 6 v6 v4 h6)) fun v7 h7 =>
 aC (pu h7 (aA 1 v6)) fun v8 h8 =>
 aC (pu h8 (aD G false 1 v8 h8)) fun v9 h9 =>
 aC (pu h9 (un .not v9)) fun v10 h10 =>
 aX v10
 (cF [(.int .i64 0), (.bool false)] h.length h10)
 (aC (pu h10 (aA 1 v0)) fun v11 h11 =>
 aC (pu h11 (aD G false 1 v11 h11)) fun v12 h12 =>
 cF [v12, (.bool true)] h.length h12))
noncomputable def eO.f (G : aF) : Nat → cC
 | 0 => fun _ _ => none
 | k + 1 => fun args h => lF args fun x0 => (eO.c G k (eO.f G k) x0 h)
theorem eO.step (G : aF) (k : Nat) (x0 : AV) (h : aB) : eO.f G (k + 1) [x0] h = eO.c G k (eO.f G k) x0 h := rfl
noncomputable def dB.ann : Ann := fC [] [] [] []
noncomputable def dB.env (G : aF) (k : Nat) (self : cC) : List (Nat × Bool × cC) := []
noncomputable def dB.c (G : aF) (k : Nat) (self : cC) (x0 : AV) (h : aB) : Option (AV × aB) := fG (
 aC (pu h (aW Tryd.prog .neq 3 false x0 x0)) fun v0 h0 =>
 cF [v0] h.length h0)
noncomputable def dB.f (G : aF) : Nat → cC
 | 0 => fun _ _ => none
 | k + 1 => fun args h => lF args fun x0 => (dB.c G k (dB.f G k) x0 h)
theorem dB.step (G : aF) (k : Nat) (x0 : AV) (h : aB) : dB.f G (k + 1) [x0] h = dB.c G k (dB.f G k) x0 h := rfl
noncomputable def dG.ann : Ann := fC [] [] [] []
noncomputable def dG.env (G : aF) (k : Nat) (self : cC) : List (Nat × Bool × cC) := [(120, true, dB.f G k)]
noncomputable def dG.c (G : aF) (k : Nat) (self : cC) (x0 x1 : AV) (h : aB) : Option (AV × aB) := fG (
 aC (aU (dB.f G k) [x0] h) fun v0 h0 =>
 aC (gd v0 true h0 (some (x1, h0))) fun v1 h1 =>
 aC (gd v0 true h1 (aU (dB.f G k) [v1] h1)) fun v2 h2 =>
 aC (gd v0 true h2 (pu h2 (un .not v2))) fun v3 h3 =>
 aC (pu h3 (eG v0 v3 (.bool false))) fun v4 h4 =>
 aC (gd v4 false h4 (some (x0, h4))) fun v5 h5 =>
 aC (gd v4 false h5 (some (x1, h5))) fun v6 h6 =>
 aC (gd v4 false h6 (pu h6 (aW Tryd.prog .lss 3 false v5 v6))) fun v7 h7 =>
 aC (pu h7 (eG v4 (.bool true) v7)) fun v8 h8 =>
 cF [v8] h.length h8)
noncomputable def dG.f (G : aF) : Nat → cC
 | 0 => fun _ _ => none
 | k + 1 => fun args h => kC args fun x0 x1 => (dG.c G k (dG.f G k) x0 x1 h)
theorem dG.step (G : aF) (k : Nat) (x0 x1 : AV) (h : aB) : dG.f G (k + 1) [x0, x1] h = dG.c G k (dG.f G k) x0 x1 h := rfl
noncomputable def aJ.ann : Ann := fC [] [] [(4, [0, 1, 2, 6, 7]), (1, [0, 1, 2, 6])] []
noncomputable def aJ.env (G : aF) (k : Nat) (self : cC) : List (Nat × Bool × cC) := [(103, true, dG.f G k)]
noncomputable def aJ.l4 (G : aF) (k n0 : Nat) (self : cC) (lp : eY) : eY := fun xs h0 => iZ n0 xs h0 fun h =>
 aC (pu h (aW Tryd.prog .gtr 3 false (aG xs 4) (aG xs 1))) fun v4 h4 =>
 aC (gd v4 true h4 (some ((aG xs 0), h4))) fun v5 h5 =>
 aC (gd v4 true h5 (some ((aG xs 4), h5))) fun v6 h6 =>
 aC (gd v4 true h6 (pu h6 (aM 1 v5 v6))) fun v7 h7 =>
 aC (gd v4 true h7 (pu h7 (aD G false 1 v7 h7))) fun v8 h8 =>
 aC (gd v4 true h8 (some ((aG xs 0), h8))) fun v9 h9 =>
 aC (gd v4 true h9 (some ((aG xs 4), h9))) fun v10 h10 =>
 aC (gd v4 true h10 (pu h10 (aW Tryd.prog .sub 3 true v10 (.int .i64 1)))) fun v11 h11 =>
 aC (gd v4 true h11 (pu h11 (aM 1 v9 v11))) fun v12 h12 =>
 aC (gd v4 true h12 (pu h12 (aD G false 1 v12 h12))) fun v13 h13 =>
 aC (gd v4 true h13 (aU (dG.f G k) [v8, v13] h13)) fun v14 h14 =>
 aC (pu h14 (eG v4 v14 (.bool false))) fun v15 h15 =>
 aX v15
 (aC (pu h15 (aW Tryd.prog .sub 3 true (aG xs 4) (.int .i64 1))) fun v16 h16 =>
 aC (pu h16 (aW Tryd.prog .sub 3 true (aG xs 4) (.int .i64 1))) fun v17 h17 =>
 aC (pu h17 (aM 1 (aG xs 0) v17)) fun v18 h18 =>
 aC (pu h18 (aD G false 1 v18 h18)) fun v19 h19 =>
 aC (pu h19 (aM 1 (aG xs 0) (aG xs 4))) fun v20 h20 =>
 aC (pu h20 (aD G false 1 v20 h20)) fun v21 h21 =>
 aC (pu h21 (aM 1 (aG xs 0) (aG xs 4))) fun v22 h22 =>
 aC (fP (aT 1 v22 v19 h22)) fun v23 h23 =>
 aC (pu h23 (aM 1 (aG xs 0) v16)) fun v24 h24 =>
 aC (fP (aT 1 v24 v21 h24)) fun v25 h25 =>
 aC (pu h25 (aW Tryd.prog .sub 3 true (aG xs 4) (.int .i64 1))) fun v26 h26 =>
 lp [(aG xs 0), (aG xs 1), (aG xs 2), (aG xs 3), v26] h26)
 (some (.exit 2, [(aG xs 0), (aG xs 1), (aG xs 2), (aG xs 3), (aG xs 4)], h15))
noncomputable def aJ.l1 (G : aF) (k n0 : Nat) (self : cC) (lp : eY) : eY := fun xs h0 => iZ n0 xs h0 fun h =>
 aC (pu h (aW Tryd.prog .lss 3 false (aG xs 3) (aG xs 2))) fun v2 h2 =>
 aX v2
 (eQ (dP (aJ.l4 G k h2.length self) k [(aG xs 0), (aG xs 1), (aG xs 2), (aG xs 3), (aG xs 3)] h2) fun e3 x3 h3 => iL e3
 (none)
 (fun i3 => if i3 = 2 then (aC (pu h3 (aW Tryd.prog .add 3 true (aG x3 3) (.int .i64 1))) fun v27 h27 =>
 lp [(aG x3 0), (aG x3 1), (aG x3 2), v27] h27) else (if i3 = 1 then (aC (pu h3 (aW Tryd.prog .add 3 true (aG x3 3) (.int .i64 1))) fun v28 h28 =>
 lp [(aG x3 0), (aG x3 1), (aG x3 2), v28] h28) else (some (.exit i3, [(aG x3 0), (aG x3 1), (aG x3 2), (aG x3 3)], h3))))
 (some (.ret, [(aG x3 0), (aG x3 1), (aG x3 2), (aG x3 3)], h3)))
 (some (.exit 0, [(aG xs 0), (aG xs 1), (aG xs 2), (aG xs 3)], h2))
noncomputable def aJ.c (G : aF) (k : Nat) (self : cC) (x0 x1 x2 : AV) (h : aB) : Option (AV × aB) := fG (
 aC (pu h (aW Tryd.prog .add 3 true x1 (.int .i64 1))) fun v0 h0 =>
 eQ (dP (aJ.l1 G k h0.length self) k [x0, x1, x2, v0] h0) fun e1 x1 h1 => iL e1
 (none)
 (fun i1 => if i1 = 0 then (cF [] h.length h1) else (none))
 (cF [] h.length h1))
noncomputable def aJ.f (G : aF) : Nat → cC
 | 0 => fun _ _ => none
 | k + 1 => fun args h => vB args fun x0 x1 x2 => (aJ.c G k (aJ.f G k) x0 x1 x2 h)
theorem aJ.step (G : aF) (k : Nat) (x0 x1 x2 : AV) (h : aB) : aJ.f G (k + 1) [x0, x1, x2] h = aJ.c G k (aJ.f G k) x0 x1 x2 h := rfl
noncomputable def aV.ann : Ann := fC [] [] [(2, [0, 1, 2, 3, 8, 9])] [(17, [0, 1, 2, 3, 8, 9, 10, 11]), (15, [0, 1, 2, 3, 8, 9, 10, 11, 12]), (10, [0, 1, 2, 3, 8, 9, 10])]
noncomputable def aV.env (G : aF) (k : Nat) (self : cC) : List (Nat × Bool × cC) := [(87, false, self), (97, false, aJ.f G k), (103, true, dG.f G k)]
noncomputable def aV.l2 (G : aF) (k n0 : Nat) (self : cC) (lp : eY) : eY := fun xs h0 => iZ n0 xs h0 fun h =>
 aC (pu h (aW Tryd.prog .sub 3 false (aG xs 2) (aG xs 1))) fun v1 h1 =>
 aC (pu h1 (aW Tryd.prog .leq 3 true v1 (.int .i64 12))) fun v2 h2 =>
 aX v2
 (aC (bC (aJ.f G k) [(aG xs 0), (aG xs 1), (aG xs 2)] h2) fun v3 h3 =>
 some (.ret, [(aG xs 0), (aG xs 1), (aG xs 2), (aG xs 3), (aG xs 4), (aG xs 5)], h3))
 (aC (pu h2 (aW Tryd.prog .eql 3 true (aG xs 3) (.int .i64 0))) fun v4 h4 =>
 aX v4
 (none)
 (eQ (
 aC (pu h4 (un .not (aG xs 4))) fun v5 h5 =>
 aX v5
 (none)
 (some (.normal, [(aG xs 0), (aG xs 1), (aG xs 2), (aG xs 3), (aG xs 4), (aG xs 5), v1], h5))) fun e6 x6 h6 => iL e6
 (none)
 (fun i6 => if i6 = 1 then (lp [(aG x6 0), (aG x6 1), (aG x6 2), (aG x6 3), (aG x6 4), (aG x6 5)] h6) else (some (.exit i6, [(aG x6 0), (aG x6 1), (aG x6 2), (aG x6 3), (aG x6 4), (aG x6 5)], h6)))
 (some (.ret, [(aG x6 0), (aG x6 1), (aG x6 2), (aG x6 3), (aG x6 4), (aG x6 5)], h6))))
noncomputable def aV.c (G : aF) (k : Nat) (self : cC) (x0 x1 x2 x3 : AV) (h : aB) : Option (AV × aB) := fG (
 eQ (dP (aV.l2 G k h.length self) k [x0, x1, x2, x3, (.bool true), (.bool true)] h) fun e0 x0 h0 => iL e0
 (none)
 (fun i0 => if i0 = 0 then (cF [] h.length h0) else (none))
 (cF [] h.length h0))
noncomputable def aV.f (G : aF) : Nat → cC
 | 0 => fun _ _ => none
 | k + 1 => fun args h => aBS args fun x0 x1 x2 x3 => (aV.c G k (aV.f G k) x0 x1 x2 x3 h)
theorem aV.step (G : aF) (k : Nat) (x0 x1 x2 x3 : AV) (h : aB) : aV.f G (k + 1) [x0, x1, x2, x3] h = aV.c G k (aV.f G k) x0 x1 x2 x3 h := rfl
def dV.s0 : ByteArray := ⟨#[0, 1, 2, 2, 3, 3, 3, 3, 4, 4, 4, 4, 4, 4, 4, 4, 5, 5, 5, 5, 5, 5, 5, 5, 5, 5, 5, 5, 5, 5, 5, 5, 6, 6, 6, 6, 6, 6, 6, 6, 6, 6, 6, 6, 6, 6, 6, 6, 6, 6, 6, 6, 6, 6, 6, 6, 6, 6, 6, 6, 6, 6, 6, 6, 7, 7, 7, 7, 7, 7, 7, 7, 7, 7, 7, 7, 7, 7, 7, 7, 7, 7, 7, 7, 7, 7, 7, 7, 7, 7, 7, 7, 7, 7, 7, 7, 7, 7, 7, 7, 7, 7, 7, 7, 7, 7, 7, 7, 7, 7, 7, 7, 7, 7, 7, 7, 7, 7, 7, 7, 7, 7, 7, 7, 7, 7, 7, 7, 8, 8, 8, 8, 8, 8, 8, 8, 8, 8, 8, 8, 8, 8, 8, 8, 8, 8, 8, 8, 8, 8, 8, 8, 8, 8, 8, 8, 8, 8, 8, 8, 8, 8, 8, 8, 8, 8, 8, 8, 8, 8, 8, 8, 8, 8, 8, 8, 8, 8, 8, 8, 8, 8, 8, 8, 8, 8, 8, 8, 8, 8, 8, 8, 8, 8, 8, 8, 8, 8, 8, 8, 8, 8, 8, 8, 8, 8, 8, 8, 8, 8, 8, 8, 8, 8, 8, 8, 8, 8, 8, 8, 8, 8, 8, 8, 8, 8, 8, 8, 8, 8, 8, 8, 8, 8, 8, 8, 8, 8, 8, 8, 8, 8, 8, 8, 8, 8, 8, 8, 8, 8, 8, 8, 8, 8, 8, 8]⟩
noncomputable def dV.ann : Ann := fC [] [] [] [(7, [0, 2]), (4, [0, 2])]
noncomputable def dV.env (G : aF) (k : Nat) (self : cC) : List (Nat × Bool × cC) := []
noncomputable def dV.c (G : aF) (k : Nat) (self : cC) (x0 : AV) (h : aB) : Option (AV × aB) := fG (
 eQ (
 aC (pu h (aW Tryd.prog .geq 161 true x0 (.int .u32 65536))) fun v0 h0 =>
 aX v0
 (aC (pu h0 (aW Tryd.prog .shr 161 true x0 (.int .u64 16))) fun v1 h1 =>
 some (.normal, [v1, (.int .i64 16)], h1))
 (some (.normal, [x0, (.int .i64 0)], h0))) fun e2 x2 h2 => iL e2
 (eQ (
 aC (pu h2 (aW Tryd.prog .geq 161 true (aG x2 0) (.int .u32 256))) fun v3 h3 =>
 aX v3
 (aC (pu h3 (aW Tryd.prog .shr 161 true (aG x2 0) (.int .u64 8))) fun v4 h4 =>
 aC (pu h4 (aW Tryd.prog .add 3 true (aG x2 1) (.int .i64 8))) fun v5 h5 =>
 some (.normal, [v4, v5], h5))
 (some (.normal, [(aG x2 0), (aG x2 1)], h3))) fun e6 x6 h6 => iL e6
 (aC (pu h6 (dM .u8 (aG x6 0))) fun v7 h7 =>
 aC (pu h7 (aAS (.str dV.s0) v7)) fun v8 h8 =>
 aC (pu h8 (dM .i64 v8)) fun v9 h9 =>
 aC (pu h9 (aW Tryd.prog .add 3 false (aG x6 1) v9)) fun v10 h10 =>
 cF [v10] h.length h10)
 (fun i6 => none)
 (cF [(aG x6 1)] h.length h6))
 (fun i2 => none)
 (cF [(aG x2 1)] h.length h2))
noncomputable def dV.f (G : aF) : Nat → cC
 | 0 => fun _ _ => none
 | k + 1 => fun args h => lF args fun x0 => (dV.c G k (dV.f G k) x0 h)
def dW.s0 : ByteArray := ⟨#[0, 1, 2, 2, 3, 3, 3, 3, 4, 4, 4, 4, 4, 4, 4, 4, 5, 5, 5, 5, 5, 5, 5, 5, 5, 5, 5, 5, 5, 5, 5, 5, 6, 6, 6, 6, 6, 6, 6, 6, 6, 6, 6, 6, 6, 6, 6, 6, 6, 6, 6, 6, 6, 6, 6, 6, 6, 6, 6, 6, 6, 6, 6, 6, 7, 7, 7, 7, 7, 7, 7, 7, 7, 7, 7, 7, 7, 7, 7, 7, 7, 7, 7, 7, 7, 7, 7, 7, 7, 7, 7, 7, 7, 7, 7, 7, 7, 7, 7, 7, 7, 7, 7, 7, 7, 7, 7, 7, 7, 7, 7, 7, 7, 7, 7, 7, 7, 7, 7, 7, 7, 7, 7, 7, 7, 7, 7, 7, 8, 8, 8, 8, 8, 8, 8, 8, 8, 8, 8, 8, 8, 8, 8, 8, 8, 8, 8, 8, 8, 8, 8, 8, 8, 8, 8, 8, 8, 8, 8, 8, 8, 8, 8, 8, 8, 8, 8, 8, 8, 8, 8, 8, 8, 8, 8, 8, 8, 8, 8, 8, 8, 8, 8, 8, 8, 8, 8, 8, 8, 8, 8, 8, 8, 8, 8, 8, 8, 8, 8, 8, 8, 8, 8, 8, 8, 8, 8, 8, 8, 8, 8, 8, 8, 8, 8, 8, 8, 8, 8, 8, 8, 8, 8, 8, 8, 8, 8, 8, 8, 8, 8, 8, 8, 8, 8, 8, 8, 8, 8, 8, 8, 8, 8, 8, 8, 8, 8, 8, 8, 8, 8, 8, 8, 8, 8, 8]⟩
noncomputable def dW.ann : Ann := fC [] [] [] [(10, [0, 2]), (7, [0, 2]), (4, [0, 2])]
noncomputable def dW.env (G : aF) (k : Nat) (self : cC) : List (Nat × Bool × cC) := []
noncomputable def dW.c (G : aF) (k : Nat) (self : cC) (x0 : AV) (h : aB) : Option (AV × aB) := fG (
 eQ (
 aC (pu h (aW Tryd.prog .geq 30 true x0 (.int .u64 4294967296))) fun v0 h0 =>
 aX v0
 (aC (pu h0 (aW Tryd.prog .shr 30 true x0 (.int .u64 32))) fun v1 h1 =>
 some (.normal, [v1, (.int .i64 32)], h1))
 (some (.normal, [x0, (.int .i64 0)], h0))) fun e2 x2 h2 => iL e2
 (eQ (
 aC (pu h2 (aW Tryd.prog .geq 30 true (aG x2 0) (.int .u64 65536))) fun v3 h3 =>
 aX v3
 (aC (pu h3 (aW Tryd.prog .shr 30 true (aG x2 0) (.int .u64 16))) fun v4 h4 =>
 aC (pu h4 (aW Tryd.prog .add 3 true (aG x2 1) (.int .i64 16))) fun v5 h5 =>
 some (.normal, [v4, v5], h5))
 (some (.normal, [(aG x2 0), (aG x2 1)], h3))) fun e6 x6 h6 => iL e6
 (eQ (
 aC (pu h6 (aW Tryd.prog .geq 30 true (aG x6 0) (.int .u64 256))) fun v7 h7 =>
 aX v7
 (aC (pu h7 (aW Tryd.prog .shr 30 true (aG x6 0) (.int .u64 8))) fun v8 h8 =>
 aC (pu h8 (aW Tryd.prog .add 3 true (aG x6 1) (.int .i64 8))) fun v9 h9 =>
 some (.normal, [v8, v9], h9))
 (some (.normal, [(aG x6 0), (aG x6 1)], h7))) fun e10 x10 h10 => iL e10
 (aC (pu h10 (dM .u8 (aG x10 0))) fun v11 h11 =>
 aC (pu h11 (aAS (.str dW.s0) v11)) fun v12 h12 =>
 aC (pu h12 (dM .i64 v12)) fun v13 h13 =>
 aC (pu h13 (aW Tryd.prog .add 3 false (aG x10 1) v13)) fun v14 h14 =>
 cF [v14] h.length h14)
 (fun i10 => none)
 (cF [(aG x10 1)] h.length h10))
 (fun i6 => none)
 (cF [(aG x6 1)] h.length h6))
 (fun i2 => none)
 (cF [(aG x2 1)] h.length h2))
noncomputable def dW.f (G : aF) : Nat → cC
 | 0 => fun _ _ => none
 | k + 1 => fun args h => lF args fun x0 => (dW.c G k (dW.f G k) x0 h)
noncomputable def dX.ann : Ann := fC [] [] [] []
noncomputable def dX.env (G : aF) (k : Nat) (self : cC) : List (Nat × Bool × cC) := [(106, true, dV.f G k), (107, true, dW.f G k)]
noncomputable def dX.c (G : aF) (k : Nat) (self : cC) (x0 : AV) (h : aB) : Option (AV × aB) := fG (
 aX (.bool false)
 (aC (pu h (dM .u32 x0)) fun v0 h0 =>
 aC (aU (dV.f G k) [v0] h0) fun v1 h1 =>
 cF [v1] h.length h1)
 (aC (aU (dW.f G k) [x0] h) fun v2 h2 =>
 cF [v2] h.length h2))
noncomputable def dX.f (G : aF) : Nat → cC
 | 0 => fun _ _ => none
 | k + 1 => fun args h => lF args fun x0 => (dX.c G k (dX.f G k) x0 h)
noncomputable def bJ.ann : Ann := fC [] [] [] []
noncomputable def bJ.env (G : aF) (k : Nat) (self : cC) : List (Nat × Bool × cC) := [(87, false, aV.f G k), (88, true, dX.f G k)]
noncomputable def bJ.c (G : aF) (k : Nat) (self : cC) (x0 : AV) (h : aB) : Option (AV × aB) := fG (
 aC (pu h (dN x0)) fun v0 h0 =>
 aC (pu h0 (dM .u64 v0)) fun v1 h1 =>
 aC (aU (dX.f G k) [v1] h1) fun v2 h2 =>
 aC (bC (aV.f G k) [x0, (.int .i64 0), v0, v2] h2) fun v3 h3 =>
 cF [] h.length h3)
noncomputable def bJ.f (G : aF) : Nat → cC
 | 0 => fun _ _ => none
 | k + 1 => fun args h => lF args fun x0 => (bJ.c G k (bJ.f G k) x0 h)
theorem bJ.step (G : aF) (k : Nat) (x0 : AV) (h : aB) : bJ.f G (k + 1) [x0] h = bJ.c G k (bJ.f G k) x0 h := rfl
noncomputable def aI.ann : Ann := fC [] [] [(9, [0, 3, 4, 5]), (4, [0, 2, 3])] [(10, [0, 3, 4, 5])]
noncomputable def aI.env (G : aF) (k : Nat) (self : cC) : List (Nat × Bool × cC) := []
noncomputable def aI.l9 (G : aF) (k n0 : Nat) (self : cC) (lp : eY) : eY := fun xs h0 => iZ n0 xs h0 fun h =>
 aC (pu h (dN (aG xs 2))) fun v13 h13 =>
 aC (pu h13 (aW Tryd.prog .lss 3 false (aG xs 3) v13)) fun v14 h14 =>
 aX v14
 (eQ (
 aC (pu h14 (aM 1 (aG xs 2) (aG xs 3))) fun v15 h15 =>
 aC (pu h15 (aD G false 1 v15 h15)) fun v16 h16 =>
 aC (pu h16 (aW Tryd.prog .sub 3 true (aG xs 3) (.int .i64 1))) fun v17 h17 =>
 aC (pu h17 (aM 1 (aG xs 2) v17)) fun v18 h18 =>
 aC (pu h18 (aD G false 1 v18 h18)) fun v19 h19 =>
 aC (pu h19 (aW Tryd.prog .neq 3 false v16 v19)) fun v20 h20 =>
 aX v20
 (aC (pu h20 (aM 1 (aG xs 2) (aG xs 3))) fun v21 h21 =>
 aC (pu h21 (aD G false 1 v21 h21)) fun v22 h22 =>
 aC (pu h22 (aM 1 (aG xs 0) (aG xs 1))) fun v23 h23 =>
 aC (fP (aT 1 v23 v22 h23)) fun v24 h24 =>
 aC (pu h24 (aW Tryd.prog .add 3 true (aG xs 1) (.int .i64 1))) fun v25 h25 =>
 some (.normal, [(aG xs 0), v25, (aG xs 2), (aG xs 3)], h25))
 (some (.normal, [(aG xs 0), (aG xs 1), (aG xs 2), (aG xs 3)], h20))) fun e26 x26 h26 => iL e26
 (aC (pu h26 (aW Tryd.prog .add 3 true (aG x26 3) (.int .i64 1))) fun v27 h27 =>
 lp [(aG x26 0), (aG x26 1), (aG x26 2), v27] h27)
 (fun i26 => some (.exit i26, [(aG x26 0), (aG x26 1), (aG x26 2), (aG x26 3)], h26))
 (some (.ret, [(aG x26 0), (aG x26 1), (aG x26 2), (aG x26 3)], h26)))
 (some (.exit 2, [(aG xs 0), (aG xs 1), (aG xs 2), (aG xs 3)], h14))
noncomputable def aI.l4 (G : aF) (k n0 : Nat) (self : cC) (lp : eY) : eY := fun xs h0 => iZ n0 xs h0 fun h =>
 aC (pu h (dN (aG xs 0))) fun v3 h3 =>
 aC (pu h3 (aW Tryd.prog .lss 3 false (aG xs 2) v3)) fun v4 h4 =>
 aX v4
 (aC (pu h4 (aM 1 (aG xs 0) (aG xs 2))) fun v5 h5 =>
 aC (pu h5 (aD G false 1 v5 h5)) fun v6 h6 =>
 aC (pu h6 (aW Tryd.prog .sub 3 true (aG xs 2) (.int .i64 1))) fun v7 h7 =>
 aC (pu h7 (aM 1 (aG xs 0) v7)) fun v8 h8 =>
 aC (pu h8 (aD G false 1 v8 h8)) fun v9 h9 =>
 aC (pu h9 (aW Tryd.prog .eql 3 false v6 v9)) fun v10 h10 =>
 aX v10
 (aC (pu h10 (jD 1 (aG xs 0) (some (aG xs 2)) none)) fun v11 h11 =>
 eQ (dP (aI.l9 G k h11.length self) k [(aG xs 0), (aG xs 2), v11, (.int .i64 1)] h11) fun e12 x12 h12 => iL e12
 (none)
 (fun i12 => if i12 = 2 then (aC (pu h12 (jD 1 (aG x12 0) (some (aG x12 1)) none)) fun v28 h28 =>
 aC (tH (.int .i64 0) v28 h28) fun v29 h29 =>
 aC (pu h29 (jD 1 (aG x12 0) none (some (aG x12 1)))) fun v30 h30 =>
 some (.ret, [(aG x12 0), v30, (aG x12 1)], h30)) else (if i12 = 1 then (aC (pu h12 (aW Tryd.prog .add 3 true (aG x12 1) (.int .i64 1))) fun v31 h31 =>
 lp [(aG x12 0), .undef, v31] h31) else (some (.exit i12, [(aG x12 0), .undef, (aG x12 1)], h12))))
 (some (.ret, [(aG x12 0), .undef, (aG x12 1)], h12)))
 (aC (pu h10 (aW Tryd.prog .add 3 true (aG xs 2) (.int .i64 1))) fun v32 h32 =>
 lp [(aG xs 0), (aG xs 1), v32] h32))
 (some (.exit 0, [(aG xs 0), (aG xs 1), (aG xs 2)], h4))
noncomputable def aI.c (G : aF) (k : Nat) (self : cC) (x0 : AV) (h : aB) : Option (AV × aB) := fG (
 aC (pu h (dN x0)) fun v0 h0 =>
 aC (pu h0 (aW Tryd.prog .lss 3 true v0 (.int .i64 2))) fun v1 h1 =>
 aX v1
 (cF [x0] h.length h1)
 (eQ (dP (aI.l4 G k h1.length self) k [x0, .nils, (.int .i64 1)] h1) fun e2 x2 h2 => iL e2
 (none)
 (fun i2 => if i2 = 0 then (cF [(aG x2 0)] h.length h2) else (none))
 (cF [(aG x2 1)] h.length h2)))
noncomputable def aI.f (G : aF) : Nat → cC
 | 0 => fun _ _ => none
 | k + 1 => fun args h => lF args fun x0 => (aI.c G k (aI.f G k) x0 h)
theorem aI.step (G : aF) (k : Nat) (x0 : AV) (h : aB) : aI.f G (k + 1) [x0] h = aI.c G k (aI.f G k) x0 h := rfl
noncomputable def dC.ann : Ann := fC [] [5] [(4, [1, 5, 20, 21, 22])] []
noncomputable def dC.env (G : aF) (k : Nat) (self : cC) : List (Nat × Bool × cC) := [(51, true, eF.f G k), (53, false, bJ.f G k), (54, false, aI.f G k)]
noncomputable def dC.l4 (G : aF) (k n0 : Nat) (self : cC) (lp : eY) : eY := fun xs h0 => iZ n0 xs h0 fun h =>
 aC (pu h (aW Tryd.prog .lss 3 false (aG xs 4) (aG xs 3))) fun v18 h18 =>
 aX v18
 (aC (pu h18 (aM 1 (aG xs 2) (aG xs 4))) fun v19 h19 =>
 aC (pu h19 (aD G false 1 v19 h19)) fun v20 h20 =>
 aX v20
 (aC (pu h20 (aA 2 (aG xs 0))) fun v21 h21 =>
 aC (pu h21 (aD G false 1 v21 h21)) fun v22 h22 =>
 aC (pu h22 (aA 3 (aG xs 0))) fun v23 h23 =>
 aC (pu h23 (aD G false 1 v23 h23)) fun v24 h24 =>
 aC (pu h24 (aA 4 (aG xs 0))) fun v25 h25 =>
 aC (pu h25 (aD G false 1 v25 h25)) fun v26 h26 =>
 aC (fS 1 3 (.int .i64 0) [(0, v22), (1, v24), (2, v26)] h26) fun v27 h27 =>
 aC (pu h27 (aM 1 v27 (aG xs 4))) fun v28 h28 =>
 aC (pu h28 (aD G false 1 v28 h28)) fun v29 h29 =>
 aC (fS 1 1 (.int .i64 0) [(0, v29)] h29) fun v30 h30 =>
 aC (fY 3 1 (aG xs 1) v30 h30) fun v31 h31 =>
 aC (pu h31 (aW Tryd.prog .add 3 true (aG xs 4) (.int .i64 1))) fun v32 h32 =>
 lp [(aG xs 0), v31, (aG xs 2), (aG xs 3), v32] h32)
 (aC (pu h20 (aW Tryd.prog .add 3 true (aG xs 4) (.int .i64 1))) fun v33 h33 =>
 lp [(aG xs 0), (aG xs 1), (aG xs 2), (aG xs 3), v33] h33))
 (some (.exit 0, [(aG xs 0), (aG xs 1), (aG xs 2), (aG xs 3), (aG xs 4)], h18))
noncomputable def dC.c (G : aF) (k : Nat) (self : cC) (x0 : AV) (h : aB) : Option (AV × aB) := fG (
 aC (gB x0 h) fun v0 h0 =>
 aC (pu h0 (aA 0 v0)) fun v1 h1 =>
 aC (pu h1 (aD G false 1 v1 h1)) fun v2 h2 =>
 aC (aU (eF.f G k) [v2] h2) fun v3 h3 =>
 aC (pu h3 (cY v3 0)) fun v4 h4 =>
 aC (pu h4 (cY v3 1)) fun v5 h5 =>
 aC (fV 100 (.agg [(.str ⟨#[]⟩), (.bool false), (.bool false), (.bool false), (.bool false), (.bool false)]) h5) fun v6 h6 =>
 aC (fP (aT 6 v6 v4 h6)) fun v7 h7 =>
 aC (some (.sl h7.length 0 0 0 1, h7 ++ [⟨3, 1, []⟩])) fun v8 h8 =>
 aC (pu h8 (aA 2 v6)) fun v9 h9 =>
 aC (pu h9 (aD G false 1 v9 h9)) fun v10 h10 =>
 aC (pu h10 (aA 3 v6)) fun v11 h11 =>
 aC (pu h11 (aD G false 1 v11 h11)) fun v12 h12 =>
 aC (pu h12 (aA 4 v6)) fun v13 h13 =>
 aC (pu h13 (aD G false 1 v13 h13)) fun v14 h14 =>
 aC (fS 1 3 (.bool false) [(0, v10), (1, v12), (2, v14)] h14) fun v15 h15 =>
 aC (pu h15 (dN v15)) fun v16 h16 =>
 eQ (dP (dC.l4 G k h16.length self) k [v0, v8, v15, v16, (.int .i64 0)] h16) fun e17 x17 h17 => iL e17
 (none)
 (fun i17 => if i17 = 0 then (aC (bC (bJ.f G k) [(aG x17 1)] h17) fun v34 h34 =>
 aC (bC (aI.f G k) [(aG x17 1)] h34) fun v35 h35 =>
 cF [v35] h.length h35) else (none))
 (cF [.undef] h.length h17))
noncomputable def dC.f (G : aF) : Nat → cC
 | 0 => fun _ _ => none
 | k + 1 => fun args h => lF args fun x0 => (dC.c G k (dC.f G k) x0 h)
theorem dC.step (G : aF) (k : Nat) (x0 : AV) (h : aB) : dC.f G (k + 1) [x0] h = dC.c G k (dC.f G k) x0 h := rfl
noncomputable def bN.ann : Ann := fC [] [] [] []
noncomputable def bN.env (G : aF) (k : Nat) (self : cC) : List (Nat × Bool × cC) := []
noncomputable def bN.c (G : aF) (k : Nat) (self : cC) (x0 x1 x2 : AV) (h : aB) : Option (AV × aB) := fG (
 aC (pu h (aD G false 1 x2 h)) fun v0 h0 =>
 aC (pu h0 (aM 1 v0 x1)) fun v1 h1 =>
 aC (pu h1 (aD G false 1 v1 h1)) fun v2 h2 =>
 aC (pu h2 (aD G false 1 x2 h2)) fun v3 h3 =>
 aC (pu h3 (aM 1 v3 x0)) fun v4 h4 =>
 aC (pu h4 (aD G false 1 v4 h4)) fun v5 h5 =>
 aC (pu h5 (aW Tryd.prog .sub 3 false v2 v5)) fun v6 h6 =>
 cF [v6] h.length h6)
noncomputable def bN.f (G : aF) : Nat → cC
 | 0 => fun _ _ => none
 | k + 1 => fun args h => vB args fun x0 x1 x2 => (bN.c G k (bN.f G k) x0 x1 x2 h)
theorem bN.step (G : aF) (k : Nat) (x0 x1 x2 : AV) (h : aB) : bN.f G (k + 1) [x0, x1, x2] h = bN.c G k (bN.f G k) x0 x1 x2 h := rfl
noncomputable def aH.ann : Ann := fC [] [] [(4, [0, 1, 2, 3, 8, 9]), (1, [0, 1, 2, 3, 8])] []
noncomputable def aH.env (G : aF) (k : Nat) (self : cC) : List (Nat × Bool × cC) := [(74, false, bN.f G k)]
noncomputable def aH.l4 (G : aF) (k n0 : Nat) (self : cC) (lp : eY) : eY := fun xs h0 => iZ n0 xs h0 fun h =>
 aC (pu h (aW Tryd.prog .gtr 3 false (aG xs 5) (aG xs 1))) fun v4 h4 =>
 aC (gd v4 true h4 (some ((aG xs 3), h4))) fun v5 h5 =>
 aC (gd v4 true h5 (some ((aG xs 0), h5))) fun v6 h6 =>
 aC (gd v4 true h6 (some ((aG xs 5), h6))) fun v7 h7 =>
 aC (gd v4 true h7 (pu h7 (aM 1 v6 v7))) fun v8 h8 =>
 aC (gd v4 true h8 (pu h8 (aD G false 1 v8 h8))) fun v9 h9 =>
 aC (gd v4 true h9 (some ((aG xs 0), h9))) fun v10 h10 =>
 aC (gd v4 true h10 (some ((aG xs 5), h10))) fun v11 h11 =>
 aC (gd v4 true h11 (pu h11 (aW Tryd.prog .sub 3 true v11 (.int .i64 1)))) fun v12 h12 =>
 aC (gd v4 true h12 (pu h12 (aM 1 v10 v12))) fun v13 h13 =>
 aC (gd v4 true h13 (pu h13 (aD G false 1 v13 h13))) fun v14 h14 =>
 aC (gd v4 true h14 (lL (fK (aH.env G k self)) v5 [v9, v14] h14)) fun v15 h15 =>
 aC (gd v4 true h15 (pu h15 (aW Tryd.prog .lss 3 true v15 (.int .i64 0)))) fun v16 h16 =>
 aC (pu h16 (eG v4 v16 (.bool false))) fun v17 h17 =>
 aX v17
 (aC (pu h17 (aW Tryd.prog .sub 3 true (aG xs 5) (.int .i64 1))) fun v18 h18 =>
 aC (pu h18 (aW Tryd.prog .sub 3 true (aG xs 5) (.int .i64 1))) fun v19 h19 =>
 aC (pu h19 (aM 1 (aG xs 0) v19)) fun v20 h20 =>
 aC (pu h20 (aD G false 1 v20 h20)) fun v21 h21 =>
 aC (pu h21 (aM 1 (aG xs 0) (aG xs 5))) fun v22 h22 =>
 aC (pu h22 (aD G false 1 v22 h22)) fun v23 h23 =>
 aC (pu h23 (aM 1 (aG xs 0) (aG xs 5))) fun v24 h24 =>
 aC (fP (aT 1 v24 v21 h24)) fun v25 h25 =>
 aC (pu h25 (aM 1 (aG xs 0) v18)) fun v26 h26 =>
 aC (fP (aT 1 v26 v23 h26)) fun v27 h27 =>
 aC (pu h27 (aW Tryd.prog .sub 3 true (aG xs 5) (.int .i64 1))) fun v28 h28 =>
 lp [(aG xs 0), (aG xs 1), (aG xs 2), (aG xs 3), (aG xs 4), v28] h28)
 (some (.exit 2, [(aG xs 0), (aG xs 1), (aG xs 2), (aG xs 3), (aG xs 4), (aG xs 5)], h17))
noncomputable def aH.l1 (G : aF) (k n0 : Nat) (self : cC) (lp : eY) : eY := fun xs h0 => iZ n0 xs h0 fun h =>
 aC (pu h (aW Tryd.prog .lss 3 false (aG xs 4) (aG xs 2))) fun v2 h2 =>
 aX v2
 (eQ (dP (aH.l4 G k h2.length self) k [(aG xs 0), (aG xs 1), (aG xs 2), (aG xs 3), (aG xs 4), (aG xs 4)] h2) fun e3 x3 h3 => iL e3
 (none)
 (fun i3 => if i3 = 2 then (aC (pu h3 (aW Tryd.prog .add 3 true (aG x3 4) (.int .i64 1))) fun v29 h29 =>
 lp [(aG x3 0), (aG x3 1), (aG x3 2), (aG x3 3), v29] h29) else (if i3 = 1 then (aC (pu h3 (aW Tryd.prog .add 3 true (aG x3 4) (.int .i64 1))) fun v30 h30 =>
 lp [(aG x3 0), (aG x3 1), (aG x3 2), (aG x3 3), v30] h30) else (some (.exit i3, [(aG x3 0), (aG x3 1), (aG x3 2), (aG x3 3), (aG x3 4)], h3))))
 (some (.ret, [(aG x3 0), (aG x3 1), (aG x3 2), (aG x3 3), (aG x3 4)], h3)))
 (some (.exit 0, [(aG xs 0), (aG xs 1), (aG xs 2), (aG xs 3), (aG xs 4)], h2))
noncomputable def aH.c (G : aF) (k : Nat) (self : cC) (x0 x1 x2 x3 : AV) (h : aB) : Option (AV × aB) := fG (
 aC (pu h (aW Tryd.prog .add 3 true x1 (.int .i64 1))) fun v0 h0 =>
 eQ (dP (aH.l1 G k h0.length self) k [x0, x1, x2, x3, v0] h0) fun e1 x1 h1 => iL e1
 (none)
 (fun i1 => if i1 = 0 then (cF [] h.length h1) else (none))
 (cF [] h.length h1))
noncomputable def aH.f (G : aF) : Nat → cC
 | 0 => fun _ _ => none
 | k + 1 => fun args h => aBS args fun x0 x1 x2 x3 => (aH.c G k (aH.f G k) x0 x1 x2 x3 h)
theorem aH.step (G : aF) (k : Nat) (x0 x1 x2 x3 : AV) (h : aB) : aH.f G (k + 1) [x0, x1, x2, x3] h = aH.c G k (aH.f G k) x0 x1 x2 x3 h := rfl
noncomputable def aN.ann : Ann := fC [] [] [(1, [0, 1, 2, 3, 10])] []
noncomputable def aN.env (G : aF) (k : Nat) (self : cC) : List (Nat × Bool × cC) := []
noncomputable def aN.l1 (G : aF) (k n0 : Nat) (self : cC) (lp : eY) : eY := fun xs h0 => iZ n0 xs h0 fun h =>
 aC (pu h (aW Tryd.prog .lss 3 false (aG xs 4) (aG xs 3))) fun v1 h1 =>
 aX v1
 (aC (pu h1 (aW Tryd.prog .add 3 false (aG xs 1) (aG xs 4))) fun v2 h2 =>
 aC (pu h2 (aW Tryd.prog .add 3 false (aG xs 2) (aG xs 4))) fun v3 h3 =>
 aC (pu h3 (aW Tryd.prog .add 3 false (aG xs 2) (aG xs 4))) fun v4 h4 =>
 aC (pu h4 (aM 1 (aG xs 0) v4)) fun v5 h5 =>
 aC (pu h5 (aD G false 1 v5 h5)) fun v6 h6 =>
 aC (pu h6 (aW Tryd.prog .add 3 false (aG xs 1) (aG xs 4))) fun v7 h7 =>
 aC (pu h7 (aM 1 (aG xs 0) v7)) fun v8 h8 =>
 aC (pu h8 (aD G false 1 v8 h8)) fun v9 h9 =>
 aC (pu h9 (aM 1 (aG xs 0) v2)) fun v10 h10 =>
 aC (fP (aT 1 v10 v6 h10)) fun v11 h11 =>
 aC (pu h11 (aM 1 (aG xs 0) v3)) fun v12 h12 =>
 aC (fP (aT 1 v12 v9 h12)) fun v13 h13 =>
 aC (pu h13 (aW Tryd.prog .add 3 true (aG xs 4) (.int .i64 1))) fun v14 h14 =>
 lp [(aG xs 0), (aG xs 1), (aG xs 2), (aG xs 3), v14] h14)
 (some (.exit 0, [(aG xs 0), (aG xs 1), (aG xs 2), (aG xs 3), (aG xs 4)], h1))
noncomputable def aN.c (G : aF) (k : Nat) (self : cC) (x0 x1 x2 x3 x4 : AV) (h : aB) : Option (AV × aB) := fG (
 eQ (dP (aN.l1 G k h.length self) k [x0, x1, x2, x3, (.int .i64 0)] h) fun e0 x0 h0 => iL e0
 (none)
 (fun i0 => if i0 = 0 then (cF [] h.length h0) else (none))
 (cF [] h.length h0))
noncomputable def aN.f (G : aF) : Nat → cC
 | 0 => fun _ _ => none
 | k + 1 => fun args h => aGf args fun x0 x1 x2 x3 x4 => (aN.c G k (aN.f G k) x0 x1 x2 x3 x4 h)
theorem aN.step (G : aF) (k : Nat) (x0 x1 x2 x3 x4 : AV) (h : aB) : aN.f G (k + 1) [x0, x1, x2, x3, x4] h = aN.c G k (aN.f G k) x0 x1 x2 x3 x4 h := rfl
noncomputable def aS.ann : Ann := fC [] [] [(2, [0, 2, 4, 10, 11])] []
noncomputable def aS.env (G : aF) (k : Nat) (self : cC) : List (Nat × Bool × cC) := [(125, false, aN.f G k)]
noncomputable def aS.l2 (G : aF) (k n0 : Nat) (self : cC) (lp : eY) : eY := fun xs h0 => iZ n0 xs h0 fun h =>
 aC (pu h (aW Tryd.prog .neq 3 false (aG xs 3) (aG xs 4))) fun v3 h3 =>
 aX v3
 (aC (pu h3 (aW Tryd.prog .gtr 3 false (aG xs 3) (aG xs 4))) fun v4 h4 =>
 aX v4
 (aC (pu h4 (aW Tryd.prog .sub 3 false (aG xs 1) (aG xs 3))) fun v5 h5 =>
 aC (bC (aN.f G k) [(aG xs 0), v5, (aG xs 1), (aG xs 4), (aG xs 2)] h5) fun v6 h6 =>
 aC (pu h6 (aW Tryd.prog .sub 3 false (aG xs 3) (aG xs 4))) fun v7 h7 =>
 lp [(aG xs 0), (aG xs 1), (aG xs 2), v7, (aG xs 4)] h7)
 (aC (pu h4 (aW Tryd.prog .sub 3 false (aG xs 1) (aG xs 3))) fun v8 h8 =>
 aC (pu h8 (aW Tryd.prog .add 3 false (aG xs 1) (aG xs 4))) fun v9 h9 =>
 aC (pu h9 (aW Tryd.prog .sub 3 false v9 (aG xs 3))) fun v10 h10 =>
 aC (bC (aN.f G k) [(aG xs 0), v8, v10, (aG xs 3), (aG xs 2)] h10) fun v11 h11 =>
 aC (pu h11 (aW Tryd.prog .sub 3 false (aG xs 4) (aG xs 3))) fun v12 h12 =>
 lp [(aG xs 0), (aG xs 1), (aG xs 2), (aG xs 3), v12] h12))
 (some (.exit 0, [(aG xs 0), (aG xs 1), (aG xs 2), (aG xs 3), (aG xs 4)], h3))
noncomputable def aS.c (G : aF) (k : Nat) (self : cC) (x0 x1 x2 x3 x4 : AV) (h : aB) : Option (AV × aB) := fG (
 aC (pu h (aW Tryd.prog .sub 3 false x2 x1)) fun v0 h0 =>
 aC (pu h0 (aW Tryd.prog .sub 3 false x3 x2)) fun v1 h1 =>
 eQ (dP (aS.l2 G k h1.length self) k [x0, x2, x4, v0, v1] h1) fun e2 x2 h2 => iL e2
 (none)
 (fun i2 => if i2 = 0 then (aC (pu h2 (aW Tryd.prog .sub 3 false (aG x2 1) (aG x2 3))) fun v13 h13 =>
 aC (bC (aN.f G k) [(aG x2 0), v13, (aG x2 1), (aG x2 3), (aG x2 2)] h13) fun v14 h14 =>
 cF [] h.length h14) else (none))
 (cF [] h.length h2))
noncomputable def aS.f (G : aF) : Nat → cC
 | 0 => fun _ _ => none
 | k + 1 => fun args h => aGf args fun x0 x1 x2 x3 x4 => (aS.c G k (aS.f G k) x0 x1 x2 x3 x4 h)
theorem aS.step (G : aF) (k : Nat) (x0 x1 x2 x3 x4 : AV) (h : aB) : aS.f G (k + 1) [x0, x1, x2, x3, x4] h = aS.c G k (aS.f G k) x0 x1 x2 x3 x4 h := rfl
noncomputable def aE.ann : Ann := fC [] [] [(33, [0, 1, 2, 3, 4, 18, 19, 20, 21, 22]), (21, [0, 14, 17]), (15, [0, 2, 4, 14, 15]), (9, [0, 10, 13]), (3, [0, 1, 4, 10, 11])] [(43, [0, 3, 4, 18, 24]), (41, [0, 1, 3, 4, 18, 20, 24]), (32, [0, 1, 2, 3, 4, 18, 19, 20, 21])]
noncomputable def aE.env (G : aF) (k : Nat) (self : cC) : List (Nat × Bool × cC) := [(74, false, bN.f G k), (114, false, self), (123, false, aS.f G k)]
noncomputable def aE.l3 (G : aF) (k n0 : Nat) (self : cC) (lp : eY) : eY := fun xs h0 => iZ n0 xs h0 fun h =>
 aC (pu h (aW Tryd.prog .lss 3 false (aG xs 3) (aG xs 4))) fun v3 h3 =>
 aX v3
 (aC (pu h3 (aW Tryd.prog .add 3 false (aG xs 3) (aG xs 4))) fun v4 h4 =>
 aC (pu h4 (dM .u64 v4)) fun v5 h5 =>
 aC (pu h5 (aW Tryd.prog .shr 134 true v5 (.int .u64 1))) fun v6 h6 =>
 aC (pu h6 (dM .i64 v6)) fun v7 h7 =>
 aC (pu h7 (aM 1 (aG xs 0) v7)) fun v8 h8 =>
 aC (pu h8 (aD G false 1 v8 h8)) fun v9 h9 =>
 aC (pu h9 (aM 1 (aG xs 0) (aG xs 1))) fun v10 h10 =>
 aC (pu h10 (aD G false 1 v10 h10)) fun v11 h11 =>
 aC (lL (fK (aE.env G k self)) (aG xs 2) [v9, v11] h11) fun v12 h12 =>
 aC (pu h12 (aW Tryd.prog .lss 3 true v12 (.int .i64 0))) fun v13 h13 =>
 aX v13
 (aC (pu h13 (aW Tryd.prog .add 3 true v7 (.int .i64 1))) fun v14 h14 =>
 lp [(aG xs 0), (aG xs 1), (aG xs 2), v14, (aG xs 4)] h14)
 (lp [(aG xs 0), (aG xs 1), (aG xs 2), (aG xs 3), v7] h13))
 (some (.exit 0, [(aG xs 0), (aG xs 1), (aG xs 2), (aG xs 3), (aG xs 4)], h3))
noncomputable def aE.l9 (G : aF) (k n0 : Nat) (self : cC) (lp : eY) : eY := fun xs h0 => iZ n0 xs h0 fun h =>
 aC (pu h (aW Tryd.prog .sub 3 true (aG xs 1) (.int .i64 1))) fun v16 h16 =>
 aC (pu h16 (aW Tryd.prog .lss 3 false (aG xs 2) v16)) fun v17 h17 =>
 aX v17
 (aC (pu h17 (aW Tryd.prog .add 3 true (aG xs 2) (.int .i64 1))) fun v18 h18 =>
 aC (pu h18 (aW Tryd.prog .add 3 true (aG xs 2) (.int .i64 1))) fun v19 h19 =>
 aC (pu h19 (aM 1 (aG xs 0) v19)) fun v20 h20 =>
 aC (pu h20 (aD G false 1 v20 h20)) fun v21 h21 =>
 aC (pu h21 (aM 1 (aG xs 0) (aG xs 2))) fun v22 h22 =>
 aC (pu h22 (aD G false 1 v22 h22)) fun v23 h23 =>
 aC (pu h23 (aM 1 (aG xs 0) (aG xs 2))) fun v24 h24 =>
 aC (fP (aT 1 v24 v21 h24)) fun v25 h25 =>
 aC (pu h25 (aM 1 (aG xs 0) v18)) fun v26 h26 =>
 aC (fP (aT 1 v26 v23 h26)) fun v27 h27 =>
 aC (pu h27 (aW Tryd.prog .add 3 true (aG xs 2) (.int .i64 1))) fun v28 h28 =>
 lp [(aG xs 0), (aG xs 1), v28] h28)
 (some (.exit 2, [(aG xs 0), (aG xs 1), (aG xs 2)], h17))
noncomputable def aE.l15 (G : aF) (k n0 : Nat) (self : cC) (lp : eY) : eY := fun xs h0 => iZ n0 xs h0 fun h =>
 aC (pu h (aW Tryd.prog .lss 3 false (aG xs 3) (aG xs 4))) fun v32 h32 =>
 aX v32
 (aC (pu h32 (aW Tryd.prog .add 3 false (aG xs 3) (aG xs 4))) fun v33 h33 =>
 aC (pu h33 (dM .u64 v33)) fun v34 h34 =>
 aC (pu h34 (aW Tryd.prog .shr 134 true v34 (.int .u64 1))) fun v35 h35 =>
 aC (pu h35 (dM .i64 v35)) fun v36 h36 =>
 aC (pu h36 (aM 1 (aG xs 0) (aG xs 1))) fun v37 h37 =>
 aC (pu h37 (aD G false 1 v37 h37)) fun v38 h38 =>
 aC (pu h38 (aM 1 (aG xs 0) v36)) fun v39 h39 =>
 aC (pu h39 (aD G false 1 v39 h39)) fun v40 h40 =>
 aC (lL (fK (aE.env G k self)) (aG xs 2) [v38, v40] h40) fun v41 h41 =>
 aC (pu h41 (aW Tryd.prog .lss 3 true v41 (.int .i64 0))) fun v42 h42 =>
 aC (pu h42 (un .not v42)) fun v43 h43 =>
 aX v43
 (aC (pu h43 (aW Tryd.prog .add 3 true v36 (.int .i64 1))) fun v44 h44 =>
 lp [(aG xs 0), (aG xs 1), (aG xs 2), v44, (aG xs 4)] h44)
 (lp [(aG xs 0), (aG xs 1), (aG xs 2), (aG xs 3), v36] h43))
 (some (.exit 4, [(aG xs 0), (aG xs 1), (aG xs 2), (aG xs 3), (aG xs 4)], h32))
noncomputable def aE.l21 (G : aF) (k n0 : Nat) (self : cC) (lp : eY) : eY := fun xs h0 => iZ n0 xs h0 fun h =>
 aC (pu h (aW Tryd.prog .gtr 3 false (aG xs 2) (aG xs 1))) fun v46 h46 =>
 aX v46
 (aC (pu h46 (aW Tryd.prog .sub 3 true (aG xs 2) (.int .i64 1))) fun v47 h47 =>
 aC (pu h47 (aW Tryd.prog .sub 3 true (aG xs 2) (.int .i64 1))) fun v48 h48 =>
 aC (pu h48 (aM 1 (aG xs 0) v48)) fun v49 h49 =>
 aC (pu h49 (aD G false 1 v49 h49)) fun v50 h50 =>
 aC (pu h50 (aM 1 (aG xs 0) (aG xs 2))) fun v51 h51 =>
 aC (pu h51 (aD G false 1 v51 h51)) fun v52 h52 =>
 aC (pu h52 (aM 1 (aG xs 0) (aG xs 2))) fun v53 h53 =>
 aC (fP (aT 1 v53 v50 h53)) fun v54 h54 =>
 aC (pu h54 (aM 1 (aG xs 0) v47)) fun v55 h55 =>
 aC (fP (aT 1 v55 v52 h55)) fun v56 h56 =>
 aC (pu h56 (aW Tryd.prog .sub 3 true (aG xs 2) (.int .i64 1))) fun v57 h57 =>
 lp [(aG xs 0), (aG xs 1), v57] h57)
 (some (.exit 6, [(aG xs 0), (aG xs 1), (aG xs 2)], h46))
noncomputable def aE.l33 (G : aF) (k n0 : Nat) (self : cC) (lp : eY) : eY := fun xs h0 => iZ n0 xs h0 fun h =>
 aC (pu h (aW Tryd.prog .lss 3 false (aG xs 7) (aG xs 8))) fun v68 h68 =>
 aX v68
 (aC (pu h68 (aW Tryd.prog .add 3 false (aG xs 7) (aG xs 8))) fun v69 h69 =>
 aC (pu h69 (dM .u64 v69)) fun v70 h70 =>
 aC (pu h70 (aW Tryd.prog .shr 134 true v70 (.int .u64 1))) fun v71 h71 =>
 aC (pu h71 (dM .i64 v71)) fun v72 h72 =>
 aC (pu h72 (aW Tryd.prog .sub 3 false (aG xs 9) v72)) fun v73 h73 =>
 aC (pu h73 (aM 1 (aG xs 0) v73)) fun v74 h74 =>
 aC (pu h74 (aD G false 1 v74 h74)) fun v75 h75 =>
 aC (pu h75 (aM 1 (aG xs 0) v72)) fun v76 h76 =>
 aC (pu h76 (aD G false 1 v76 h76)) fun v77 h77 =>
 aC (lL (fK (aE.env G k self)) (aG xs 4) [v75, v77] h77) fun v78 h78 =>
 aC (pu h78 (aW Tryd.prog .lss 3 true v78 (.int .i64 0))) fun v79 h79 =>
 aC (pu h79 (un .not v79)) fun v80 h80 =>
 aX v80
 (aC (pu h80 (aW Tryd.prog .add 3 true v72 (.int .i64 1))) fun v81 h81 =>
 lp [(aG xs 0), (aG xs 1), (aG xs 2), (aG xs 3), (aG xs 4), (aG xs 5), (aG xs 6), v81, (aG xs 8), (aG xs 9)] h81)
 (lp [(aG xs 0), (aG xs 1), (aG xs 2), (aG xs 3), (aG xs 4), (aG xs 5), (aG xs 6), (aG xs 7), v72, (aG xs 9)] h80))
 (some (.exit 8, [(aG xs 0), (aG xs 1), (aG xs 2), (aG xs 3), (aG xs 4), (aG xs 5), (aG xs 6), (aG xs 7), (aG xs 8), (aG xs 9)], h68))
noncomputable def aE.c (G : aF) (k : Nat) (self : cC) (x0 x1 x2 x3 x4 : AV) (h : aB) : Option (AV × aB) := fG (
 aC (pu h (aW Tryd.prog .sub 3 false x2 x1)) fun v0 h0 =>
 aC (pu h0 (aW Tryd.prog .eql 3 true v0 (.int .i64 1))) fun v1 h1 =>
 aX v1
 (eQ (dP (aE.l3 G k h1.length self) k [x0, x1, x4, x2, x3] h1) fun e2 x2 h2 => iL e2
 (none)
 (fun i2 => if i2 = 0 then (eQ (dP (aE.l9 G k h2.length self) k [(aG x2 0), (aG x2 3), (aG x2 1)] h2) fun e15 x15 h15 => iL e15
 (none)
 (fun i15 => if i15 = 2 then (cF [] h.length h15) else (none))
 (cF [] h.length h15)) else (none))
 (cF [] h.length h2))
 (aC (pu h1 (aW Tryd.prog .sub 3 false x3 x2)) fun v29 h29 =>
 aC (pu h29 (aW Tryd.prog .eql 3 true v29 (.int .i64 1))) fun v30 h30 =>
 aX v30
 (eQ (dP (aE.l15 G k h30.length self) k [x0, x2, x4, x1, x2] h30) fun e31 x31 h31 => iL e31
 (none)
 (fun i31 => if i31 = 4 then (eQ (dP (aE.l21 G k h31.length self) k [(aG x31 0), (aG x31 3), (aG x31 1)] h31) fun e45 x45 h45 => iL e45
 (none)
 (fun i45 => if i45 = 6 then (cF [] h.length h45) else (none))
 (cF [] h.length h45)) else (none))
 (cF [] h.length h31))
 (aC (pu h30 (aW Tryd.prog .add 3 false x1 x3)) fun v58 h58 =>
 aC (pu h58 (dM .u64 v58)) fun v59 h59 =>
 aC (pu h59 (aW Tryd.prog .shr 134 true v59 (.int .u64 1))) fun v60 h60 =>
 aC (pu h60 (dM .i64 v60)) fun v61 h61 =>
 aC (pu h61 (aW Tryd.prog .add 3 false v61 x2)) fun v62 h62 =>
 eQ (
 aC (pu h62 (aW Tryd.prog .gtr 3 false x2 v61)) fun v63 h63 =>
 aX v63
 (aC (pu h63 (aW Tryd.prog .sub 3 false v62 x3)) fun v64 h64 =>
 some (.normal, [x0, x1, x2, x3, x4, v61, v62, v64, v61], h64))
 (some (.normal, [x0, x1, x2, x3, x4, v61, v62, x1, x2], h63))) fun e65 x65 h65 => iL e65
 (aC (pu h65 (aW Tryd.prog .sub 3 true (aG x65 6) (.int .i64 1))) fun v66 h66 =>
 eQ (dP (aE.l33 G k h66.length self) k [(aG x65 0), (aG x65 1), (aG x65 2), (aG x65 3), (aG x65 4), (aG x65 5), (aG x65 6), (aG x65 7), (aG x65 8), v66] h66) fun e67 x67 h67 => iL e67
 (none)
 (fun i67 => if i67 = 8 then (aC (pu h67 (aW Tryd.prog .sub 3 false (aG x67 6) (aG x67 7))) fun v82 h82 =>
 eQ (
 aC (pu h82 (aW Tryd.prog .lss 3 false (aG x67 7) (aG x67 2))) fun v83 h83 =>
 aC (gd v83 true h83 (some ((aG x67 2), h83))) fun v84 h84 =>
 aC (gd v83 true h84 (some (v82, h84))) fun v85 h85 =>
 aC (gd v83 true h85 (pu h85 (aW Tryd.prog .lss 3 false v84 v85))) fun v86 h86 =>
 aC (pu h86 (eG v83 v86 (.bool false))) fun v87 h87 =>
 aX v87
 (aC (bC (aS.f G k) [(aG x67 0), (aG x67 7), (aG x67 2), v82, (aG x67 4)] h87) fun v88 h88 =>
 some (.normal, [(aG x67 0), (aG x67 1), (aG x67 3), (aG x67 4), (aG x67 5), (aG x67 7), v82], h88))
 (some (.normal, [(aG x67 0), (aG x67 1), (aG x67 3), (aG x67 4), (aG x67 5), (aG x67 7), v82], h87))) fun e89 x89 h89 => iL e89
 (eQ (
 aC (pu h89 (aW Tryd.prog .lss 3 false (aG x89 1) (aG x89 5))) fun v90 h90 =>
 aC (gd v90 true h90 (some ((aG x89 5), h90))) fun v91 h91 =>
 aC (gd v90 true h91 (some ((aG x89 4), h91))) fun v92 h92 =>
 aC (gd v90 true h92 (pu h92 (aW Tryd.prog .lss 3 false v91 v92))) fun v93 h93 =>
 aC (pu h93 (eG v90 v93 (.bool false))) fun v94 h94 =>
 aX v94
 (aC (bC self [(aG x89 0), (aG x89 1), (aG x89 5), (aG x89 4), (aG x89 3)] h94) fun v95 h95 =>
 some (.normal, [(aG x89 0), (aG x89 2), (aG x89 3), (aG x89 4), (aG x89 6)], h95))
 (some (.normal, [(aG x89 0), (aG x89 2), (aG x89 3), (aG x89 4), (aG x89 6)], h94))) fun e96 x96 h96 => iL e96
 (aC (pu h96 (aW Tryd.prog .lss 3 false (aG x96 3) (aG x96 4))) fun v97 h97 =>
 aC (gd v97 true h97 (some ((aG x96 4), h97))) fun v98 h98 =>
 aC (gd v97 true h98 (some ((aG x96 1), h98))) fun v99 h99 =>
 aC (gd v97 true h99 (pu h99 (aW Tryd.prog .lss 3 false v98 v99))) fun v100 h100 =>
 aC (pu h100 (eG v97 v100 (.bool false))) fun v101 h101 =>
 aX v101
 (aC (bC self [(aG x96 0), (aG x96 3), (aG x96 4), (aG x96 1), (aG x96 2)] h101) fun v102 h102 =>
 cF [] h.length h102)
 (cF [] h.length h101))
 (fun i96 => none)
 (cF [] h.length h96))
 (fun i89 => none)
 (cF [] h.length h89)) else (none))
 (cF [] h.length h67))
 (fun i65 => none)
 (cF [] h.length h65))))
noncomputable def aE.f (G : aF) : Nat → cC
 | 0 => fun _ _ => none
 | k + 1 => fun args h => aGf args fun x0 x1 x2 x3 x4 => (aE.c G k (aE.f G k) x0 x1 x2 x3 x4 h)
theorem aE.step (G : aF) (k : Nat) (x0 x1 x2 x3 x4 : AV) (h : aB) : aE.f G (k + 1) [x0, x1, x2, x3, x4] h = aE.c G k (aE.f G k) x0 x1 x2 x3 x4 h := rfl
noncomputable def aK.ann : Ann := fC [] [] [(9, [0, 1, 2, 6, 7, 8]), (7, [0, 1, 2, 6]), (2, [0, 1, 2, 6, 7, 8])] [(16, [0, 1, 2, 6])]
noncomputable def aK.env (G : aF) (k : Nat) (self : cC) : List (Nat × Bool × cC) := [(74, false, bN.f G k), (113, false, aH.f G k), (114, false, aE.f G k)]
noncomputable def aK.l2 (G : aF) (k n0 : Nat) (self : cC) (lp : eY) : eY := fun xs h0 => iZ n0 xs h0 fun h =>
 aC (pu h (aW Tryd.prog .leq 3 false (aG xs 5) (aG xs 1))) fun v1 h1 =>
 aX v1
 (aC (bC (aH.f G k) [(aG xs 0), (aG xs 4), (aG xs 5), (aG xs 2)] h1) fun v2 h2 =>
 aC (pu h2 (aW Tryd.prog .add 3 false (aG xs 5) (aG xs 3))) fun v3 h3 =>
 lp [(aG xs 0), (aG xs 1), (aG xs 2), (aG xs 3), (aG xs 5), v3] h3)
 (some (.exit 0, [(aG xs 0), (aG xs 1), (aG xs 2), (aG xs 3), (aG xs 4), (aG xs 5)], h1))
noncomputable def aK.l9 (G : aF) (k n0 : Nat) (self : cC) (lp : eY) : eY := fun xs h0 => iZ n0 xs h0 fun h =>
 aC (pu h (aW Tryd.prog .leq 3 false (aG xs 5) (aG xs 1))) fun v9 h9 =>
 aX v9
 (aC (pu h9 (aW Tryd.prog .add 3 false (aG xs 4) (aG xs 3))) fun v10 h10 =>
 aC (bC (aE.f G k) [(aG xs 0), (aG xs 4), v10, (aG xs 5), (aG xs 2)] h10) fun v11 h11 =>
 aC (pu h11 (aW Tryd.prog .mul 3 true (.int .i64 2) (aG xs 3))) fun v12 h12 =>
 aC (pu h12 (aW Tryd.prog .add 3 false (aG xs 5) v12)) fun v13 h13 =>
 lp [(aG xs 0), (aG xs 1), (aG xs 2), (aG xs 3), (aG xs 5), v13] h13)
 (some (.exit 4, [(aG xs 0), (aG xs 1), (aG xs 2), (aG xs 3), (aG xs 4), (aG xs 5)], h9))
noncomputable def aK.l7 (G : aF) (k n0 : Nat) (self : cC) (lp : eY) : eY := fun xs h0 => iZ n0 xs h0 fun h =>
 aC (pu h (aW Tryd.prog .lss 3 false (aG xs 3) (aG xs 1))) fun v6 h6 =>
 aX v6
 (aC (pu h6 (aW Tryd.prog .mul 3 true (.int .i64 2) (aG xs 3))) fun v7 h7 =>
 eQ (dP (aK.l9 G k h7.length self) k [(aG xs 0), (aG xs 1), (aG xs 2), (aG xs 3), (.int .i64 0), v7] h7) fun e8 x8 h8 => iL e8
 (none)
 (fun i8 => if i8 = 4 then (eQ (
 aC (pu h8 (aW Tryd.prog .add 3 false (aG x8 4) (aG x8 3))) fun v14 h14 =>
 aC (pu h14 (aW Tryd.prog .lss 3 false v14 (aG x8 1))) fun v15 h15 =>
 aX v15
 (aC (bC (aE.f G k) [(aG x8 0), (aG x8 4), v14, (aG x8 1), (aG x8 2)] h15) fun v16 h16 =>
 some (.normal, [(aG x8 0), (aG x8 1), (aG x8 2), (aG x8 3)], h16))
 (some (.normal, [(aG x8 0), (aG x8 1), (aG x8 2), (aG x8 3)], h15))) fun e17 x17 h17 => iL e17
 (aC (pu h17 (aW Tryd.prog .mul 3 true (aG x17 3) (.int .i64 2))) fun v18 h18 =>
 lp [(aG x17 0), (aG x17 1), (aG x17 2), v18] h18)
 (fun i17 => if i17 = 3 then (lp [(aG x17 0), (aG x17 1), (aG x17 2), (aG x17 3)] h17) else (some (.exit i17, [(aG x17 0), (aG x17 1), (aG x17 2), (aG x17 3)], h17)))
 (some (.ret, [(aG x17 0), (aG x17 1), (aG x17 2), (aG x17 3)], h17))) else (if i8 = 3 then (lp [(aG x8 0), (aG x8 1), (aG x8 2), (aG x8 3)] h8) else (some (.exit i8, [(aG x8 0), (aG x8 1), (aG x8 2), (aG x8 3)], h8))))
 (some (.ret, [(aG x8 0), (aG x8 1), (aG x8 2), (aG x8 3)], h8)))
 (some (.exit 2, [(aG xs 0), (aG xs 1), (aG xs 2), (aG xs 3)], h6))
noncomputable def aK.c (G : aF) (k : Nat) (self : cC) (x0 x1 x2 : AV) (h : aB) : Option (AV × aB) := fG (
 eQ (dP (aK.l2 G k h.length self) k [x0, x1, x2, (.int .i64 20), (.int .i64 0), (.int .i64 20)] h) fun e0 x0 h0 => iL e0
 (none)
 (fun i0 => if i0 = 0 then (aC (bC (aH.f G k) [(aG x0 0), (aG x0 4), (aG x0 1), (aG x0 2)] h0) fun v4 h4 =>
 eQ (dP (aK.l7 G k h4.length self) k [(aG x0 0), (aG x0 1), (aG x0 2), (aG x0 3)] h4) fun e5 x5 h5 => iL e5
 (none)
 (fun i5 => if i5 = 2 then (cF [] h.length h5) else (none))
 (cF [] h.length h5)) else (none))
 (cF [] h.length h0))
noncomputable def aK.f (G : aF) : Nat → cC
 | 0 => fun _ _ => none
 | k + 1 => fun args h => vB args fun x0 x1 x2 => (aK.c G k (aK.f G k) x0 x1 x2 h)
theorem aK.step (G : aF) (k : Nat) (x0 x1 x2 : AV) (h : aB) : aK.f G (k + 1) [x0, x1, x2] h = aK.c G k (aK.f G k) x0 x1 x2 h := rfl
noncomputable def aP.ann : Ann := fC [] [] [] []
noncomputable def aP.env (G : aF) (k : Nat) (self : cC) : List (Nat × Bool × cC) := [(96, false, aK.f G k)]
noncomputable def aP.c (G : aF) (k : Nat) (self : cC) (x0 x1 : AV) (h : aB) : Option (AV × aB) := fG (
 aC (pu h (dN x0)) fun v0 h0 =>
 aC (bC (aK.f G k) [x0, v0, x1] h0) fun v1 h1 =>
 cF [] h.length h1)
noncomputable def aP.f (G : aF) : Nat → cC
 | 0 => fun _ _ => none
 | k + 1 => fun args h => kC args fun x0 x1 => (aP.c G k (aP.f G k) x0 x1 h)
theorem aP.step (G : aF) (k : Nat) (x0 x1 : AV) (h : aB) : aP.f G (k + 1) [x0, x1] h = aP.c G k (aP.f G k) x0 x1 h := rfl
noncomputable def aQ.ann : Ann := fC [] [] [(24, [0, 1, 14, 97, 98, 99]), (16, [0, 1, 5, 12, 67, 68]), (6, [0, 1, 5, 7, 27, 28, 29, 34, 35, 36]), (3, [0, 1, 5, 27, 28, 29])] []
noncomputable def aQ.env (G : aF) (k : Nat) (self : cC) : List (Nat × Bool × cC) := [(20, true, eO.f G k), (23, true, dC.f G k), (73, false, aP.f G k), (74, false, bN.f G k)]
noncomputable def aQ.l6 (G : aF) (k n0 : Nat) (self : cC) (lp : eY) : eY := fun xs h0 => iZ n0 xs h0 fun h =>
 aC (pu h (aW Tryd.prog .lss 3 false (aG xs 9) (aG xs 8))) fun v22 h22 =>
 aX v22
 (aC (pu h22 (aM 1 (aG xs 7) (aG xs 9))) fun v23 h23 =>
 aC (pu h23 (aD G false 1 v23 h23)) fun v24 h24 =>
 aC (pu h24 (aD G false 1 (aG xs 2) h24)) fun v25 h25 =>
 aC (pu h25 (aM 1 v25 v24)) fun v26 h26 =>
 aC (pu h26 (aD G false 1 v26 h26)) fun v27 h27 =>
 aC (pu h27 (aW Tryd.prog .add 3 true v27 (.int .i64 1))) fun v28 h28 =>
 aC (pu h28 (aM 1 v25 v24)) fun v29 h29 =>
 aC (fP (aT 1 v29 v28 h29)) fun v30 h30 =>
 aC (pu h30 (aW Tryd.prog .add 3 true (aG xs 9) (.int .i64 1))) fun v31 h31 =>
 lp [(aG xs 0), (aG xs 1), (aG xs 2), (aG xs 3), (aG xs 4), (aG xs 5), (aG xs 6), (aG xs 7), (aG xs 8), v31] h31)
 (some (.exit 2, [(aG xs 0), (aG xs 1), (aG xs 2), (aG xs 3), (aG xs 4), (aG xs 5), (aG xs 6), (aG xs 7), (aG xs 8), (aG xs 9)], h22))
noncomputable def aQ.l3 (G : aF) (k n0 : Nat) (self : cC) (lp : eY) : eY := fun xs h0 => iZ n0 xs h0 fun h =>
 aC (pu h (aW Tryd.prog .lss 3 false (aG xs 5) (aG xs 4))) fun v13 h13 =>
 aX v13
 (aC (pu h13 (aM 6 (aG xs 3) (aG xs 5))) fun v14 h14 =>
 aC (pu h14 (aD G true 6 v14 h14)) fun v15 h15 =>
 aC (fV 29 (.agg [(.int .i64 0), (.int .i64 0), (.int .i64 0), (.int .i64 0), (.int .i64 0), (.int .i64 0)]) h15) fun v16 h16 =>
 aC (fP (aT 6 v16 v15 h16)) fun v17 h17 =>
 aC (pu h17 (aD G true 6 v16 h17)) fun v18 h18 =>
 aC (aU (dC.f G k) [v18] h18) fun v19 h19 =>
 aC (pu h19 (dN v19)) fun v20 h20 =>
 eQ (dP (aQ.l6 G k h20.length self) k [(aG xs 0), (aG xs 1), (aG xs 2), v16, (aG xs 3), (aG xs 4), (aG xs 5), v19, v20, (.int .i64 0)] h20) fun e21 x21 h21 => iL e21
 (none)
 (fun i21 => if i21 = 2 then (aC (pu h21 (aD G true 6 (aG x21 3) h21)) fun v32 h32 =>
 aC (aU (eO.f G k) [v32] h32) fun v33 h33 =>
 aC (pu h33 (cY v33 0)) fun v34 h34 =>
 aC (pu h34 (cY v33 1)) fun v35 h35 =>
 aX v35
 (aC (pu h35 (aD G false 1 (aG x21 2) h35)) fun v36 h36 =>
 aC (pu h36 (aM 1 v36 v34)) fun v37 h37 =>
 aC (pu h37 (aD G false 1 v37 h37)) fun v38 h38 =>
 aC (pu h38 (aW Tryd.prog .add 3 true v38 (.int .i64 1))) fun v39 h39 =>
 aC (pu h39 (aM 1 v36 v34)) fun v40 h40 =>
 aC (fP (aT 1 v40 v39 h40)) fun v41 h41 =>
 aC (pu h41 (aW Tryd.prog .add 3 true (aG x21 6) (.int .i64 1))) fun v42 h42 =>
 lp [(aG x21 0), (aG x21 1), (aG x21 2), (aG x21 4), (aG x21 5), v42] h42)
 (aC (pu h35 (aW Tryd.prog .add 3 true (aG x21 6) (.int .i64 1))) fun v43 h43 =>
 lp [(aG x21 0), (aG x21 1), (aG x21 2), (aG x21 4), (aG x21 5), v43] h43)) else (if i21 = 1 then (aC (pu h21 (aW Tryd.prog .add 3 true (aG x21 6) (.int .i64 1))) fun v44 h44 =>
 lp [(aG x21 0), (aG x21 1), (aG x21 2), (aG x21 4), (aG x21 5), v44] h44) else (some (.exit i21, [(aG x21 0), (aG x21 1), (aG x21 2), (aG x21 4), (aG x21 5), (aG x21 6)], h21))))
 (some (.ret, [(aG x21 0), (aG x21 1), (aG x21 2), (aG x21 4), (aG x21 5), (aG x21 6)], h21)))
 (some (.exit 0, [(aG xs 0), (aG xs 1), (aG xs 2), (aG xs 3), (aG xs 4), (aG xs 5)], h13))
noncomputable def aQ.l16 (G : aF) (k n0 : Nat) (self : cC) (lp : eY) : eY := fun xs h0 => iZ n0 xs h0 fun h =>
 aC (pu h (aW Tryd.prog .lss 3 false (aG xs 5) (aG xs 4))) fun v52 h52 =>
 aX v52
 (aC (pu h52 (aM 1 (aG xs 3) (aG xs 5))) fun v53 h53 =>
 aC (fP (aT 1 v53 (aG xs 5) h53)) fun v54 h54 =>
 aC (pu h54 (aW Tryd.prog .add 3 true (aG xs 5) (.int .i64 1))) fun v55 h55 =>
 lp [(aG xs 0), (aG xs 1), (aG xs 2), (aG xs 3), (aG xs 4), v55] h55)
 (some (.exit 4, [(aG xs 0), (aG xs 1), (aG xs 2), (aG xs 3), (aG xs 4), (aG xs 5)], h52))
noncomputable def aQ.l24 (G : aF) (k n0 : Nat) (self : cC) (lp : eY) : eY := fun xs h0 => iZ n0 xs h0 fun h =>
 aC (pu h (aW Tryd.prog .lss 3 false (aG xs 5) (aG xs 4))) fun v75 h75 =>
 aX v75
 (aC (pu h75 (aM 1 (aG xs 3) (aG xs 5))) fun v76 h76 =>
 aC (pu h76 (aD G false 1 v76 h76)) fun v77 h77 =>
 aC (pu h77 (aW Tryd.prog .sub 3 true (aG xs 1) (.int .i64 4))) fun v78 h78 =>
 aC (pu h78 (aW Tryd.prog .lss 3 false (aG xs 5) v78)) fun v79 h79 =>
 aX v79
 (aC (pu h79 (fT (aG xs 0))) fun v80 h80 =>
 aC (pu h80 (aA 3 v80)) fun v81 h81 =>
 aC (pu h81 (aD G false 1 v81 h81)) fun v82 h82 =>
 aC (pu h82 (aW Tryd.prog .add 3 true (.int .i64 4) (aG xs 5))) fun v83 h83 =>
 aC (pu h83 (aM 1 v82 v77)) fun v84 h84 =>
 aC (fP (aT 1 v84 v83 h84)) fun v85 h85 =>
 aC (pu h85 (aW Tryd.prog .add 3 true (aG xs 5) (.int .i64 1))) fun v86 h86 =>
 lp [(aG xs 0), (aG xs 1), (aG xs 2), (aG xs 3), (aG xs 4), v86] h86)
 (aC (pu h79 (fT (aG xs 0))) fun v87 h87 =>
 aC (pu h87 (aA 4 v87)) fun v88 h88 =>
 aC (pu h88 (aD G false 1 v88 h88)) fun v89 h89 =>
 aC (pu h89 (fT (aG xs 0))) fun v90 h90 =>
 aC (pu h90 (aA 0 v90)) fun v91 h91 =>
 aC (pu h91 (aA 2 v91)) fun v92 h92 =>
 aC (pu h92 (aD G false 1 v92 h92)) fun v93 h93 =>
 aC (pu h93 (aW Tryd.prog .add 3 false v93 (aG xs 2))) fun v94 h94 =>
 aC (pu h94 (aM 1 v89 v77)) fun v95 h95 =>
 aC (fP (aT 1 v95 v94 h95)) fun v96 h96 =>
 aC (pu h96 (aW Tryd.prog .add 3 true (aG xs 2) (.int .i64 1))) fun v97 h97 =>
 aC (pu h97 (aW Tryd.prog .add 3 true (aG xs 5) (.int .i64 1))) fun v98 h98 =>
 lp [(aG xs 0), (aG xs 1), v97, (aG xs 3), (aG xs 4), v98] h98))
 (some (.exit 6, [(aG xs 0), (aG xs 1), (aG xs 2), (aG xs 3), (aG xs 4), (aG xs 5)], h75))
noncomputable def aQ.c (G : aF) (k : Nat) (self : cC) (x0 x1 : AV) (h : aB) : Option (AV × aB) := fG (
 aC (pu h (fT x0)) fun v0 h0 =>
 aC (pu h0 (aA 0 v0)) fun v1 h1 =>
 aC (pu h1 (aA 1 v1)) fun v2 h2 =>
 aC (pu h2 (aD G false 1 v2 h2)) fun v3 h3 =>
 aC (fA 3 1 (.int .i64 0) v3 v3 h3) fun v4 h4 =>
 aC (fV 49 .nils h4) fun v5 h5 =>
 aC (fP (aT 1 v5 v4 h5)) fun v6 h6 =>
 aC (pu h6 (fT x0)) fun v7 h7 =>
 aC (pu h7 (aA 0 v7)) fun v8 h8 =>
 aC (pu h8 (aA 0 v8)) fun v9 h9 =>
 aC (pu h9 (aD G false 1 v9 h9)) fun v10 h10 =>
 aC (pu h10 (dN v10)) fun v11 h11 =>
 eQ (dP (aQ.l3 G k h11.length self) k [x0, x1, v5, v10, v11, (.int .i64 0)] h11) fun e12 x12 h12 => iL e12
 (none)
 (fun i12 => if i12 = 0 then (aC (pu h12 (fT (aG x12 0))) fun v45 h45 =>
 aC (pu h45 (aA 0 v45)) fun v46 h46 =>
 aC (pu h46 (aA 1 v46)) fun v47 h47 =>
 aC (pu h47 (aD G false 1 v47 h47)) fun v48 h48 =>
 aC (fA 3 1 (.int .i64 0) v48 v48 h48) fun v49 h49 =>
 aC (pu h49 (dN v49)) fun v50 h50 =>
 eQ (dP (aQ.l16 G k h50.length self) k [(aG x12 0), (aG x12 1), (aG x12 2), v49, v50, (.int .i64 0)] h50) fun e51 x51 h51 => iL e51
 (none)
 (fun i51 => if i51 = 4 then (aC (bC (aP.f G k) [(aG x51 3), (.fn 74 [(aG x51 2)])] h51) fun v56 h56 =>
 aC (pu h56 (fT (aG x51 0))) fun v57 h57 =>
 aC (pu h57 (aA 0 v57)) fun v58 h58 =>
 aC (pu h58 (aA 1 v58)) fun v59 h59 =>
 aC (pu h59 (aD G false 1 v59 h59)) fun v60 h60 =>
 aC (fA 3 1 (.int .i64 0) v60 v60 h60) fun v61 h61 =>
 aC (pu h61 (fT (aG x51 0))) fun v62 h62 =>
 aC (pu h62 (aA 0 v62)) fun v63 h63 =>
 aC (pu h63 (aA 1 v63)) fun v64 h64 =>
 aC (pu h64 (aD G false 1 v64 h64)) fun v65 h65 =>
 aC (fA 3 1 (.int .i64 0) v65 v65 h65) fun v66 h66 =>
 aC (pu h66 (fT (aG x51 0))) fun v67 h67 =>
 aC (pu h67 (aA 3 v67)) fun v68 h68 =>
 aC (fP (aT 1 v68 v61 h68)) fun v69 h69 =>
 aC (pu h69 (fT (aG x51 0))) fun v70 h70 =>
 aC (pu h70 (aA 4 v70)) fun v71 h71 =>
 aC (fP (aT 1 v71 v66 h71)) fun v72 h72 =>
 grd [(v66, v68)] (
aC (pu h72 (dN (aG x51 3))) fun v73 h73 =>
 eQ (dP (aQ.l24 G k h73.length self) k [(aG x51 0), (aG x51 1), (.int .i64 0), (aG x51 3), v73, (.int .i64 0)] h73) fun e74 x74 h74 => iL e74
 (none)
 (fun i74 => if i74 = 6 then (vC [(aG x74 2)] h74) else (none))
 (vC [.undef] h74))) else (none))
 (vC [.undef] h51)) else (none))
 (vC [.undef] h12))
noncomputable def aQ.f (G : aF) : Nat → cC
 | 0 => fun _ _ => none
 | k + 1 => fun args h => kC args fun x0 x1 => (aQ.c G k (aQ.f G k) x0 x1 h)
theorem aQ.step (G : aF) (k : Nat) (x0 x1 : AV) (h : aB) : aQ.f G (k + 1) [x0, x1] h = aQ.c G k (aQ.f G k) x0 x1 h := rfl
noncomputable def bH.ann : Ann := fC [] [] [] []
noncomputable def bH.env (G : aF) (k : Nat) (self : cC) : List (Nat × Bool × cC) := []
noncomputable def bH.c (G : aF) (k : Nat) (self : cC) (x0 x1 : AV) (h : aB) : Option (AV × aB) := fG (
 aC (gB x1 h) fun v0 h0 =>
 aC (pu h0 (fT x0)) fun v1 h1 =>
 aC (pu h1 (aA 5 v1)) fun v2 h2 =>
 aC (pu h2 (aD G false 1 v2 h2)) fun v3 h3 =>
 aC (pu h3 (aD G true 6 v0 h3)) fun v4 h4 =>
 aC (fS 6 1 (.agg [(.int .i64 0), (.int .i64 0), (.int .i64 0), (.int .i64 0), (.int .i64 0), (.int .i64 0)]) [(0, v4)] h4) fun v5 h5 =>
 aC (fY 29 6 v3 v5 h5) fun v6 h6 =>
 aC (pu h6 (fT x0)) fun v7 h7 =>
 aC (pu h7 (aA 5 v7)) fun v8 h8 =>
 aC (fP (aT 1 v8 v6 h8)) fun v9 h9 =>
 cF [] h.length h9)
noncomputable def bH.f (G : aF) : Nat → cC
 | 0 => fun _ _ => none
 | k + 1 => fun args h => kC args fun x0 x1 => (bH.c G k (bH.f G k) x0 x1 h)
theorem bH.step (G : aF) (k : Nat) (x0 x1 : AV) (h : aB) : bH.f G (k + 1) [x0, x1] h = bH.c G k (bH.f G k) x0 x1 h := rfl
noncomputable def bW.ann : Ann := fC [] [] [] []
noncomputable def bW.env (G : aF) (k : Nat) (self : cC) : List (Nat × Bool × cC) := [(76, false, bH.f G k)]
noncomputable def bW.c (G : aF) (k : Nat) (self : cC) (x0 x1 x2 : AV) (h : aB) : Option (AV × aB) := fG (
 aC (pu h (fT x0)) fun v0 h0 =>
 aC (pu h0 (aA 3 v0)) fun v1 h1 =>
 aC (pu h1 (aD G false 1 v1 h1)) fun v2 h2 =>
 aC (pu h2 (aM 1 v2 x1)) fun v3 h3 =>
 aC (pu h3 (aD G false 1 v3 h3)) fun v4 h4 =>
 aC (pu h4 (aW Tryd.prog .neq 3 true v4 (.int .i64 0))) fun v5 h5 =>
 aX v5
 (aC (pu h5 (fT x0)) fun v6 h6 =>
 aC (pu h6 (aA 3 v6)) fun v7 h7 =>
 aC (pu h7 (aD G false 1 v7 h7)) fun v8 h8 =>
 aC (pu h8 (aM 1 v8 x1)) fun v9 h9 =>
 aC (pu h9 (aD G false 1 v9 h9)) fun v10 h10 =>
 cF [v10] h.length h10)
 (aC (pu h5 (fT x0)) fun v11 h11 =>
 aC (pu h11 (aA 4 v11)) fun v12 h12 =>
 aC (pu h12 (aD G false 1 v12 h12)) fun v13 h13 =>
 aC (pu h13 (aM 1 v13 x1)) fun v14 h14 =>
 aC (pu h14 (aD G false 1 v14 h14)) fun v15 h15 =>
 aC (pu h15 (cX [(0, 1), (1, 1), (2, 1), (3, 1), (4, 1), (5, 1)] [(.int .i64 0), (.int .i64 0), (.int .i64 0), (.int .i64 0), (.int .i64 0), (.int .i64 0)] [(0, (.int .i64 15)), (1, x2), (2, (.int .i64 0)), (5, v15)])) fun v16 h16 =>
 aC (bC (bH.f G k) [x0, v16] h16) fun v17 h17 =>
 cF [x2] h.length h17))
noncomputable def bW.f (G : aF) : Nat → cC
 | 0 => fun _ _ => none
 | k + 1 => fun args h => vB args fun x0 x1 x2 => (bW.c G k (bW.f G k) x0 x1 x2 h)
theorem bW.step (G : aF) (k : Nat) (x0 x1 x2 : AV) (h : aB) : bW.f G (k + 1) [x0, x1, x2] h = bW.c G k (bW.f G k) x0 x1 x2 h := rfl
noncomputable def bT.ann : Ann := fC [] [] [] []
noncomputable def bT.env (G : aF) (k : Nat) (self : cC) : List (Nat × Bool × cC) := [(76, false, bH.f G k), (79, false, bW.f G k)]
noncomputable def bT.c (G : aF) (k : Nat) (self : cC) (x0 x1 : AV) (h : aB) : Option (AV × aB) := fG (
 aC (gB x1 h) fun v0 h0 =>
 aC (pu h0 (aA 2 v0)) fun v1 h1 =>
 aC (pu h1 (aD G false 1 v1 h1)) fun v2 h2 =>
 aC (bC (bW.f G k) [x0, v2, (.int .i64 1)] h2) fun v3 h3 =>
 aC (pu h3 (aA 5 v0)) fun v4 h4 =>
 aC (pu h4 (aD G false 1 v4 h4)) fun v5 h5 =>
 aC (pu h5 (cX [(0, 1), (1, 1), (2, 1), (3, 1), (4, 1), (5, 1)] [(.int .i64 0), (.int .i64 0), (.int .i64 0), (.int .i64 0), (.int .i64 0), (.int .i64 0)] [(0, (.int .i64 1)), (1, (.int .i64 2)), (5, v5)])) fun v6 h6 =>
 aC (bC (bH.f G k) [x0, v6] h6) fun v7 h7 =>
 aC (pu h7 (cX [(0, 1), (1, 1), (2, 1), (3, 1), (4, 1), (5, 1)] [(.int .i64 0), (.int .i64 0), (.int .i64 0), (.int .i64 0), (.int .i64 0), (.int .i64 0)] [(0, (.int .i64 3)), (1, (.int .i64 2)), (2, v3), (3, (.int .i64 2))])) fun v8 h8 =>
 aC (bC (bH.f G k) [x0, v8] h8) fun v9 h9 =>
 aC (pu h9 (fT x0)) fun v10 h10 =>
 aC (pu h10 (aA 0 v10)) fun v11 h11 =>
 aC (pu h11 (aA 2 v11)) fun v12 h12 =>
 aC (pu h12 (aD G false 1 v12 h12)) fun v13 h13 =>
 aC (pu h13 (cX [(0, 1), (1, 1), (2, 1), (3, 1), (4, 1), (5, 1)] [(.int .i64 0), (.int .i64 0), (.int .i64 0), (.int .i64 0), (.int .i64 0), (.int .i64 0)] [(0, (.int .i64 1)), (1, (.int .i64 3)), (5, v13)])) fun v14 h14 =>
 aC (bC (bH.f G k) [x0, v14] h14) fun v15 h15 =>
 aC (pu h15 (cX [(0, 1), (1, 1), (2, 1), (3, 1), (4, 1), (5, 1)] [(.int .i64 0), (.int .i64 0), (.int .i64 0), (.int .i64 0), (.int .i64 0), (.int .i64 0)] [(0, (.int .i64 13)), (1, (.int .i64 3)), (2, (.int .i64 2)), (3, (.int .i64 3))])) fun v16 h16 =>
 aC (bC (bH.f G k) [x0, v16] h16) fun v17 h17 =>
 aC (pu h17 (cX [(0, 1), (1, 1), (2, 1), (3, 1), (4, 1), (5, 1)] [(.int .i64 0), (.int .i64 0), (.int .i64 0), (.int .i64 0), (.int .i64 0), (.int .i64 0)] [(0, (.int .i64 18)), (2, (.int .i64 3)), (5, (.int .i64 (-1)))])) fun v18 h18 =>
 aC (bC (bH.f G k) [x0, v18] h18) fun v19 h19 =>
 cF [] h.length h19)
noncomputable def bT.f (G : aF) : Nat → cC
 | 0 => fun _ _ => none
 | k + 1 => fun args h => kC args fun x0 x1 => (bT.c G k (bT.f G k) x0 x1 h)
theorem bT.step (G : aF) (k : Nat) (x0 x1 : AV) (h : aB) : bT.f G (k + 1) [x0, x1] h = bT.c G k (bT.f G k) x0 x1 h := rfl
noncomputable def cG.ann : Ann := fC [] [] [] []
noncomputable def cG.env (G : aF) (k : Nat) (self : cC) : List (Nat × Bool × cC) := []
noncomputable def cG.c (G : aF) (k : Nat) (self : cC) (x0 x1 : AV) (h : aB) : Option (AV × aB) := fG (
 aC (pu h (fT x0)) fun v0 h0 =>
 aC (pu h0 (aA 3 v0)) fun v1 h1 =>
 aC (pu h1 (aD G false 1 v1 h1)) fun v2 h2 =>
 aC (pu h2 (aM 1 v2 x1)) fun v3 h3 =>
 aC (pu h3 (aD G false 1 v3 h3)) fun v4 h4 =>
 aC (pu h4 (aW Tryd.prog .neq 3 true v4 (.int .i64 0))) fun v5 h5 =>
 aX v5
 (aC (pu h5 (fT x0)) fun v6 h6 =>
 aC (pu h6 (aA 3 v6)) fun v7 h7 =>
 aC (pu h7 (aD G false 1 v7 h7)) fun v8 h8 =>
 aC (pu h8 (aM 1 v8 x1)) fun v9 h9 =>
 aC (pu h9 (aD G false 1 v9 h9)) fun v10 h10 =>
 cF [v10] h.length h10)
 (cF [(.int .i64 1)] h.length h5))
noncomputable def cG.f (G : aF) : Nat → cC
 | 0 => fun _ _ => none
 | k + 1 => fun args h => kC args fun x0 x1 => (cG.c G k (cG.f G k) x0 x1 h)
theorem cG.step (G : aF) (k : Nat) (x0 x1 : AV) (h : aB) : cG.f G (k + 1) [x0, x1] h = cG.c G k (cG.f G k) x0 x1 h := rfl
noncomputable def bU.ann : Ann := fC [] [] [] []
noncomputable def bU.env (G : aF) (k : Nat) (self : cC) : List (Nat × Bool × cC) := [(76, false, bH.f G k)]
noncomputable def bU.c (G : aF) (k : Nat) (self : cC) (x0 x1 : AV) (h : aB) : Option (AV × aB) := fG (
 aC (pu h (fT x0)) fun v0 h0 =>
 aC (pu h0 (aA 3 v0)) fun v1 h1 =>
 aC (pu h1 (aD G false 1 v1 h1)) fun v2 h2 =>
 aC (pu h2 (aM 1 v2 x1)) fun v3 h3 =>
 aC (pu h3 (aD G false 1 v3 h3)) fun v4 h4 =>
 aC (pu h4 (aW Tryd.prog .eql 3 true v4 (.int .i64 0))) fun v5 h5 =>
 aX v5
 (aC (pu h5 (fT x0)) fun v6 h6 =>
 aC (pu h6 (aA 4 v6)) fun v7 h7 =>
 aC (pu h7 (aD G false 1 v7 h7)) fun v8 h8 =>
 aC (pu h8 (aM 1 v8 x1)) fun v9 h9 =>
 aC (pu h9 (aD G false 1 v9 h9)) fun v10 h10 =>
 aC (pu h10 (cX [(0, 1), (1, 1), (2, 1), (3, 1), (4, 1), (5, 1)] [(.int .i64 0), (.int .i64 0), (.int .i64 0), (.int .i64 0), (.int .i64 0), (.int .i64 0)] [(0, (.int .i64 16)), (2, (.int .i64 0)), (3, (.int .i64 1)), (5, v10)])) fun v11 h11 =>
 aC (bC (bH.f G k) [x0, v11] h11) fun v12 h12 =>
 cF [] h.length h12)
 (cF [] h.length h5))
noncomputable def bU.f (G : aF) : Nat → cC
 | 0 => fun _ _ => none
 | k + 1 => fun args h => kC args fun x0 x1 => (bU.c G k (bU.f G k) x0 x1 h)
theorem bU.step (G : aF) (k : Nat) (x0 x1 : AV) (h : aB) : bU.f G (k + 1) [x0, x1] h = bU.c G k (bU.f G k) x0 x1 h := rfl
noncomputable def bA.ann : Ann := fC [3] [] [] [(17, [0, 3, 4]), (15, [0, 3, 4]), (13, [0, 3, 4])]
noncomputable def bA.env (G : aF) (k : Nat) (self : cC) : List (Nat × Bool × cC) := [(51, true, eF.f G k), (75, false, bT.f G k), (76, false, bH.f G k), (77, false, cG.f G k), (78, false, bU.f G k), (79, false, bW.f G k)]
noncomputable def bA.c (G : aF) (k : Nat) (self : cC) (x0 x1 : AV) (h : aB) : Option (AV × aB) := fG (
 aC (fV 29 x1 h) fun v0 h0 =>
 aC (pu h0 (aA 0 v0)) fun v1 h1 =>
 aC (pu h1 (aD G false 1 v1 h1)) fun v2 h2 =>
 aC (aU (eF.f G k) [v2] h2) fun v3 h3 =>
 aC (pu h3 (cY v3 0)) fun v4 h4 =>
 aC (pu h4 (cY v3 1)) fun v5 h5 =>
 aC (fV 100 (.agg [(.str ⟨#[]⟩), (.bool false), (.bool false), (.bool false), (.bool false), (.bool false)]) h5) fun v6 h6 =>
 aC (fP (aT 6 v6 v4 h6)) fun v7 h7 =>
 aC (pu h7 (aA 0 v0)) fun v8 h8 =>
 aC (pu h8 (aD G false 1 v8 h8)) fun v9 h9 =>
 aC (pu h9 (aW Tryd.prog .eql 3 true v9 (.int .i64 15))) fun v10 h10 =>
 aX v10
 (aC (pu h10 (aD G true 6 v0 h10)) fun v11 h11 =>
 aC (bC (bT.f G k) [x0, v11] h11) fun v12 h12 =>
 aC (pu h12 (aA 1 v0)) fun v13 h13 =>
 aC (pu h13 (aD G false 1 v13 h13)) fun v14 h14 =>
 aC (bC (cG.f G k) [x0, v14] h14) fun v15 h15 =>
 aC (pu h15 (cX [(0, 1), (1, 1), (2, 1), (3, 1), (4, 1), (5, 1)] [(.int .i64 0), (.int .i64 0), (.int .i64 0), (.int .i64 0), (.int .i64 0), (.int .i64 0)] [(0, (.int .i64 15)), (1, v15), (2, (.int .i64 2))])) fun v16 h16 =>
 aC (bC (bH.f G k) [x0, v16] h16) fun v17 h17 =>
 aC (pu h17 (aA 1 v0)) fun v18 h18 =>
 aC (pu h18 (aD G false 1 v18 h18)) fun v19 h19 =>
 aC (bC (bU.f G k) [x0, v19] h19) fun v20 h20 =>
 cF [] h.length h20)
 (aC (pu h10 (aW Tryd.prog .eql 3 true v9 (.int .i64 16))) fun v21 h21 =>
 aX v21
 (aC (pu h21 (aD G true 6 v0 h21)) fun v22 h22 =>
 aC (bC (bT.f G k) [x0, v22] h22) fun v23 h23 =>
 aC (pu h23 (aA 3 v0)) fun v24 h24 =>
 aC (pu h24 (aD G false 1 v24 h24)) fun v25 h25 =>
 aC (bC (bW.f G k) [x0, v25, (.int .i64 1)] h25) fun v26 h26 =>
 aC (pu h26 (cX [(0, 1), (1, 1), (2, 1), (3, 1), (4, 1), (5, 1)] [(.int .i64 0), (.int .i64 0), (.int .i64 0), (.int .i64 0), (.int .i64 0), (.int .i64 0)] [(0, (.int .i64 16)), (2, (.int .i64 2)), (3, v26)])) fun v27 h27 =>
 aC (bC (bH.f G k) [x0, v27] h27) fun v28 h28 =>
 cF [] h.length h28)
 (eQ (
 aC (pu h21 (aA 2 v6)) fun v29 h29 =>
 aC (pu h29 (aD G false 1 v29 h29)) fun v30 h30 =>
 aX v30
 (aC (pu h30 (aA 2 v0)) fun v31 h31 =>
 aC (pu h31 (aD G false 1 v31 h31)) fun v32 h32 =>
 aC (bC (bW.f G k) [x0, v32, (.int .i64 1)] h32) fun v33 h33 =>
 aC (pu h33 (aA 2 v0)) fun v34 h34 =>
 aC (fP (aT 1 v34 v33 h34)) fun v35 h35 =>
 some (.normal, [x0, v0, v6], h35))
 (some (.normal, [x0, v0, v6], h30))) fun e36 x36 h36 => iL e36
 (eQ (
 aC (pu h36 (aA 3 (aG x36 2))) fun v37 h37 =>
 aC (pu h37 (aD G false 1 v37 h37)) fun v38 h38 =>
 aX v38
 (aC (pu h38 (aA 3 (aG x36 1))) fun v39 h39 =>
 aC (pu h39 (aD G false 1 v39 h39)) fun v40 h40 =>
 aC (bC (bW.f G k) [(aG x36 0), v40, (.int .i64 2)] h40) fun v41 h41 =>
 aC (pu h41 (aA 3 (aG x36 1))) fun v42 h42 =>
 aC (fP (aT 1 v42 v41 h42)) fun v43 h43 =>
 some (.normal, [(aG x36 0), (aG x36 1), (aG x36 2)], h43))
 (some (.normal, [(aG x36 0), (aG x36 1), (aG x36 2)], h38))) fun e44 x44 h44 => iL e44
 (eQ (
 aC (pu h44 (aA 4 (aG x44 2))) fun v45 h45 =>
 aC (pu h45 (aD G false 1 v45 h45)) fun v46 h46 =>
 aX v46
 (aC (pu h46 (aA 4 (aG x44 1))) fun v47 h47 =>
 aC (pu h47 (aD G false 1 v47 h47)) fun v48 h48 =>
 aC (bC (bW.f G k) [(aG x44 0), v48, (.int .i64 3)] h48) fun v49 h49 =>
 aC (pu h49 (aA 4 (aG x44 1))) fun v50 h50 =>
 aC (fP (aT 1 v50 v49 h50)) fun v51 h51 =>
 some (.normal, [(aG x44 0), (aG x44 1), (aG x44 2)], h51))
 (some (.normal, [(aG x44 0), (aG x44 1), (aG x44 2)], h46))) fun e52 x52 h52 => iL e52
 (aC (pu h52 (aA 1 (aG x52 2))) fun v53 h53 =>
 aC (pu h53 (aD G false 1 v53 h53)) fun v54 h54 =>
 aC (pu h54 (un .not v54)) fun v55 h55 =>
 aX v55
 (aC (pu h55 (aD G true 6 (aG x52 1) h55)) fun v56 h56 =>
 aC (bC (bH.f G k) [(aG x52 0), v56] h56) fun v57 h57 =>
 cF [] h.length h57)
 (aC (pu h55 (aA 1 (aG x52 1))) fun v58 h58 =>
 aC (pu h58 (aD G false 1 v58 h58)) fun v59 h59 =>
 aC (bC (cG.f G k) [(aG x52 0), v59] h59) fun v60 h60 =>
 aC (pu h60 (aA 1 (aG x52 1))) fun v61 h61 =>
 aC (fP (aT 1 v61 v60 h61)) fun v62 h62 =>
 aC (pu h62 (aD G true 6 (aG x52 1) h62)) fun v63 h63 =>
 aC (bC (bH.f G k) [(aG x52 0), v63] h63) fun v64 h64 =>
 aC (bC (bU.f G k) [(aG x52 0), v59] h64) fun v65 h65 =>
 cF [] h.length h65))
 (fun i52 => none)
 (cF [] h.length h52))
 (fun i44 => none)
 (cF [] h.length h44))
 (fun i36 => none)
 (cF [] h.length h36))))
noncomputable def bA.f (G : aF) : Nat → cC
 | 0 => fun _ _ => none
 | k + 1 => fun args h => kC args fun x0 x1 => (bA.c G k (bA.f G k) x0 x1 h)
theorem bA.step (G : aF) (k : Nat) (x0 x1 : AV) (h : aB) : bA.f G (k + 1) [x0, x1] h = bA.c G k (bA.f G k) x0 x1 h := rfl
noncomputable def dD.ann : Ann := fC [] [] [] []
noncomputable def dD.env (G : aF) (k : Nat) (self : cC) : List (Nat × Bool × cC) := []
noncomputable def dD.c (G : aF) (k : Nat) (self : cC) (x0 : AV) (h : aB) : Option (AV × aB) := fG (
 aC (pu h (aW Tryd.prog .eql 3 true x0 (.int .i64 17))) fun v0 h0 =>
 aC (gd v0 false h0 (some (x0, h0))) fun v1 h1 =>
 aC (gd v0 false h1 (pu h1 (aW Tryd.prog .eql 3 true v1 (.int .i64 18)))) fun v2 h2 =>
 aC (pu h2 (eG v0 (.bool true) v2)) fun v3 h3 =>
 aC (gd v3 false h3 (some (x0, h3))) fun v4 h4 =>
 aC (gd v3 false h4 (pu h4 (aW Tryd.prog .eql 3 true v4 (.int .i64 19)))) fun v5 h5 =>
 aC (pu h5 (eG v3 (.bool true) v5)) fun v6 h6 =>
 cF [v6] h.length h6)
noncomputable def dD.f (G : aF) : Nat → cC
 | 0 => fun _ _ => none
 | k + 1 => fun args h => lF args fun x0 => (dD.c G k (dD.f G k) x0 h)
theorem dD.step (G : aF) (k : Nat) (x0 : AV) (h : aB) : dD.f G (k + 1) [x0] h = dD.c G k (dD.f G k) x0 h := rfl
noncomputable def bB.ann : Ann := fC [] [] [(2, [0, 22, 23])] []
noncomputable def bB.env (G : aF) (k : Nat) (self : cC) : List (Nat × Bool × cC) := [(80, true, dD.f G k)]
noncomputable def bB.l2 (G : aF) (k n0 : Nat) (self : cC) (lp : eY) : eY := fun xs h0 => iZ n0 xs h0 fun h =>
 aC (pu h (aW Tryd.prog .lss 3 false (aG xs 2) (aG xs 1))) fun v17 h17 =>
 aX v17
 (aC (pu h17 (fT (aG xs 0))) fun v18 h18 =>
 aC (pu h18 (aA 5 v18)) fun v19 h19 =>
 aC (pu h19 (aD G false 1 v19 h19)) fun v20 h20 =>
 aC (pu h20 (aM 6 v20 (aG xs 2))) fun v21 h21 =>
 aC (pu h21 (fT v21)) fun v22 h22 =>
 aC (pu h22 (aA 0 v22)) fun v23 h23 =>
 aC (pu h23 (aD G false 1 v23 h23)) fun v24 h24 =>
 aC (aU (dD.f G k) [v24] h24) fun v25 h25 =>
 aC (pu h25 (un .not v25)) fun v26 h26 =>
 aX v26
 (aC (pu h26 (aW Tryd.prog .add 3 true (aG xs 2) (.int .i64 1))) fun v27 h27 =>
 lp [(aG xs 0), (aG xs 1), v27] h27)
 (aC (pu h26 (fT v21)) fun v28 h28 =>
 aC (pu h28 (aA 5 v28)) fun v29 h29 =>
 aC (pu h29 (aD G false 1 v29 h29)) fun v30 h30 =>
 aC (pu h30 (aW Tryd.prog .eql 2 true v30 (.int .i64 (-1)))) fun v31 h31 =>
 aX v31
 (aC (pu h31 (fT (aG xs 0))) fun v32 h32 =>
 aC (pu h32 (aA 5 v32)) fun v33 h33 =>
 aC (pu h33 (aD G false 1 v33 h33)) fun v34 h34 =>
 aC (pu h34 (dN v34)) fun v35 h35 =>
 aC (pu h35 (fT v21)) fun v36 h36 =>
 aC (pu h36 (aA 5 v36)) fun v37 h37 =>
 aC (fP (aT 1 v37 v35 h37)) fun v38 h38 =>
 aC (pu h38 (aW Tryd.prog .add 3 true (aG xs 2) (.int .i64 1))) fun v39 h39 =>
 lp [(aG xs 0), (aG xs 1), v39] h39)
 (aC (pu h31 (fT (aG xs 0))) fun v40 h40 =>
 aC (pu h40 (aA 6 v40)) fun v41 h41 =>
 aC (pu h41 (aD G false 1 v41 h41)) fun v42 h42 =>
 aC (pu h42 (fT v21)) fun v43 h43 =>
 aC (pu h43 (aA 5 v43)) fun v44 h44 =>
 aC (pu h44 (aD G false 1 v44 h44)) fun v45 h45 =>
 aC (pu h45 (aM 1 v42 v45)) fun v46 h46 =>
 aC (pu h46 (aD G false 1 v46 h46)) fun v47 h47 =>
 aC (pu h47 (fT v21)) fun v48 h48 =>
 aC (pu h48 (aA 5 v48)) fun v49 h49 =>
 aC (fP (aT 1 v49 v47 h49)) fun v50 h50 =>
 aC (pu h50 (aW Tryd.prog .add 3 true (aG xs 2) (.int .i64 1))) fun v51 h51 =>
 lp [(aG xs 0), (aG xs 1), v51] h51)))
 (some (.exit 0, [(aG xs 0), (aG xs 1), (aG xs 2)], h17))
noncomputable def bB.c (G : aF) (k : Nat) (self : cC) (x0 : AV) (h : aB) : Option (AV × aB) := fG (
 aC (pu h (fT x0)) fun v0 h0 =>
 aC (pu h0 (aA 6 v0)) fun v1 h1 =>
 aC (pu h1 (aD G false 1 v1 h1)) fun v2 h2 =>
 aC (pu h2 (fT x0)) fun v3 h3 =>
 aC (pu h3 (aA 5 v3)) fun v4 h4 =>
 aC (pu h4 (aD G false 1 v4 h4)) fun v5 h5 =>
 aC (pu h5 (dN v5)) fun v6 h6 =>
 aC (fS 1 1 (.int .i64 0) [(0, v6)] h6) fun v7 h7 =>
 aC (fY 3 1 v2 v7 h7) fun v8 h8 =>
 aC (pu h8 (fT x0)) fun v9 h9 =>
 aC (pu h9 (aA 6 v9)) fun v10 h10 =>
 aC (fP (aT 1 v10 v8 h10)) fun v11 h11 =>
 aC (pu h11 (fT x0)) fun v12 h12 =>
 aC (pu h12 (aA 5 v12)) fun v13 h13 =>
 aC (pu h13 (aD G false 1 v13 h13)) fun v14 h14 =>
 aC (pu h14 (dN v14)) fun v15 h15 =>
 eQ (dP (bB.l2 G k h15.length self) k [x0, v15, (.int .i64 0)] h15) fun e16 x16 h16 => iL e16
 (none)
 (fun i16 => if i16 = 0 then (cF [] h.length h16) else (none))
 (cF [] h.length h16))
noncomputable def bB.f (G : aF) : Nat → cC
 | 0 => fun _ _ => none
 | k + 1 => fun args h => lF args fun x0 => (bB.c G k (bB.f G k) x0 h)
theorem bB.step (G : aF) (k : Nat) (x0 : AV) (h : aB) : bB.f G (k + 1) [x0] h = bB.c G k (bB.f G k) x0 h := rfl
noncomputable def bX.ann : Ann := aDN [2, 36] [] [(14, [1, 2, 4, 7, 8, 48, 49, 50])] [] [(14, [(7, 5, 29, 6), (7, 6, 3, 1)])] []
noncomputable def bX.env (G : aF) (k : Nat) (self : cC) : List (Nat × Bool × cC) := [(43, true, cI.f G k), (44, false, aO.f G k), (45, false, aQ.f G k), (46, false, bA.f G k), (47, false, bB.f G k)]
noncomputable def bX.l14 (G : aF) (k n0 : Nat) (self : cC) (lp : eY) : eY := fun xs h0 => iZ n0 xs h0 fun h =>
 aC (pu h (aW Tryd.prog .lss 3 false (aG xs 7) (aG xs 6))) fun v39 h39 =>
 aX v39
 (aC (pu h39 (aM 6 (aG xs 5) (aG xs 7))) fun v40 h40 =>
 aC (pu h40 (aD G true 6 v40 h40)) fun v41 h41 =>
 aC (fV 29 (.agg [(.int .i64 0), (.int .i64 0), (.int .i64 0), (.int .i64 0), (.int .i64 0), (.int .i64 0)]) h41) fun v42 h42 =>
 aC (fP (aT 6 v42 v41 h42)) fun v43 h43 =>
 aC (pu h43 (fT (aG xs 3))) fun v44 h44 =>
 aC (pu h44 (aA 6 v44)) fun v45 h45 =>
 aC (pu h45 (aD G false 1 v45 h45)) fun v46 h46 =>
 aC (pu h46 (fT (aG xs 3))) fun v47 h47 =>
 aC (pu h47 (aA 5 v47)) fun v48 h48 =>
 aC (pu h48 (aD G false 1 v48 h48)) fun v49 h49 =>
 aC (pu h49 (dN v49)) fun v50 h50 =>
 aC (fS 1 1 (.int .i64 0) [(0, v50)] h50) fun v51 h51 =>
 aC (fY 3 1 v46 v51 h51) fun v52 h52 =>
 aC (pu h52 (fT (aG xs 3))) fun v53 h53 =>
 aC (pu h53 (aA 6 v53)) fun v54 h54 =>
 aC (fP (aT 1 v54 v52 h54)) fun v55 h55 =>
 aC (pu h55 (aD G true 6 v42 h55)) fun v56 h56 =>
 aC (bC (bA.f G k) [(aG xs 3), v56] h56) fun v57 h57 =>
 aC (pu h57 (aW Tryd.prog .add 3 true (aG xs 7) (.int .i64 1))) fun v58 h58 =>
 lp [(aG xs 0), (aG xs 1), (aG xs 2), (aG xs 3), (aG xs 4), (aG xs 5), (aG xs 6), v58] h58)
 (some (.exit 0, [(aG xs 0), (aG xs 1), (aG xs 2), (aG xs 3), (aG xs 4), (aG xs 5), (aG xs 6), (aG xs 7)], h39))
noncomputable def bX.c (G : aF) (k : Nat) (self : cC) (x0 x1 : AV) (h : aB) : Option (AV × aB) := fG (
 aC (fV 27 x0 h) fun v0 h0 =>
 aC (fV 27 (.agg [.nils, (.int .i64 0), (.int .i64 0)]) h0) fun v1 h1 =>
 aC (pu h1 (aD G true 3 v0 h1)) fun v2 h2 =>
 aC (aU (cI.f G k) [v2] h2) fun v3 h3 =>
 aC (pu h3 (aW Tryd.prog .neq 33 true v3 .nili)) fun v4 h4 =>
 aX v4
 (aC (pu h4 (cX [(0, 1), (1, 1), (2, 1)] [.nils, (.int .i64 0), (.int .i64 0)] [])) fun v5 h5 =>
 aC (fP (aT 3 v1 v5 h5)) fun v6 h6 =>
 hJ [aD G true 3 v1 h6, some v3] h.length h6)
 (aC (pu h4 (aW Tryd.prog .lss 3 true x1 (.int .i64 6))) fun v7 h7 =>
 aC (gd v7 false h7 (some (x1, h7))) fun v8 h8 =>
 aC (gd v7 false h8 (pu h8 (aW Tryd.prog .gtr 3 true v8 (.int .i64 28)))) fun v9 h9 =>
 aC (pu h9 (eG v7 (.bool true) v9)) fun v10 h10 =>
 aX v10
 (aC (pu h10 (cX [(0, 1), (1, 1), (2, 1)] [.nils, (.int .i64 0), (.int .i64 0)] [])) fun v11 h11 =>
 aC (pu h11 (aD G false 1 (.gl 0) h11)) fun v12 h12 =>
 aC (fP (aT 3 v1 v11 h12)) fun v13 h13 =>
 hJ [aD G true 3 v1 h13, some v12] h.length h13)
 (aC (pu h10 (aA 1 v0)) fun v14 h14 =>
 aC (pu h14 (aD G false 1 v14 h14)) fun v15 h15 =>
 aC (pu h15 (aW Tryd.prog .leq 3 false v15 x1)) fun v16 h16 =>
 aX v16
 (aC (pu h16 (aA 0 v0)) fun v17 h17 =>
 aC (pu h17 (aD G false 1 v17 h17)) fun v18 h18 =>
 aC (bC (aO.f G k) [v18] h18) fun v19 h19 =>
 aC (pu h19 (aA 0 v0)) fun v20 h20 =>
 aC (fP (aT 1 v20 v19 h20)) fun v21 h21 =>
 aC (pu h21 (aD G true 3 v0 h21)) fun v22 h22 =>
 aC (fP (aT 3 v1 v22 h22)) fun v23 h23 =>
 hJ [aD G true 3 v1 h23, some .nili] h.length h23)
 (aC (pu h16 (aD G true 3 v0 h16)) fun v24 h24 =>
 aC (pu h24 (cX [(0, 3), (3, 1), (4, 1), (5, 1), (6, 1)] [.nils, (.int .i64 0), (.int .i64 0), .nils, .nils, .nils, .nils] [(0, v24)])) fun v25 h25 =>
 aC (fV 86 v25 h25) fun v26 h26 =>
 aC (bC (aQ.f G k) [v26, x1] h26) fun v27 h27 =>
 aC (pu h27 (aA 2 v0)) fun v28 h28 =>
 aC (pu h28 (aD G false 1 v28 h28)) fun v29 h29 =>
 aC (pu h29 (aW Tryd.prog .add 3 false v29 v27)) fun v30 h30 =>
 aC (pu h30 (aW Tryd.prog .gtr 3 true v30 (.int .i64 65536))) fun v31 h31 =>
 aX v31
 (aC (pu h31 (cX [(0, 1), (1, 1), (2, 1)] [.nils, (.int .i64 0), (.int .i64 0)] [])) fun v32 h32 =>
 aC (pu h32 (aD G false 1 (.gl 1) h32)) fun v33 h33 =>
 aC (fP (aT 3 v1 v32 h33)) fun v34 h34 =>
 hJ [aD G true 3 v1 h34, some v33] h.length h34)
 (aC (pu h31 (aA 0 v0)) fun v35 h35 =>
 aC (pu h35 (aD G false 1 v35 h35)) fun v36 h36 =>
 aC (pu h36 (dN v36)) fun v37 h37 =>
 vK [(v26, 5, 29, 6), (v26, 6, 3, 1)] h37 fun hv38 =>
 eQ (dP (bX.l14 G k hv38.length self) k [x1, v0, v1, v26, v27, v36, v37, (.int .i64 0)] hv38) fun e38 x38 h38 => iL e38
 (none)
 (fun i38 => if i38 = 0 then (aC (bC (bB.f G k) [(aG x38 3)] h38) fun v59 h59 =>
 aC (pu h59 (fT (aG x38 3))) fun v60 h60 =>
 aC (pu h60 (aA 5 v60)) fun v61 h61 =>
 aC (pu h61 (aD G false 1 v61 h61)) fun v62 h62 =>
 aC (pu h62 (dN v62)) fun v63 h63 =>
 aC (pu h63 (aW Tryd.prog .gtr 3 true v63 (.int .i64 262144))) fun v64 h64 =>
 aX v64
 (aC (pu h64 (cX [(0, 1), (1, 1), (2, 1)] [.nils, (.int .i64 0), (.int .i64 0)] [])) fun v65 h65 =>
 aC (pu h65 (aD G false 1 (.gl 1) h65)) fun v66 h66 =>
 aC (fP (aT 3 (aG x38 2) v65 h66)) fun v67 h67 =>
 hJ [aD G true 3 (aG x38 2) h67, some v66] h.length h67)
 (aC (pu h64 (fT (aG x38 3))) fun v68 h68 =>
 aC (pu h68 (aA 5 v68)) fun v69 h69 =>
 aC (pu h69 (aD G false 1 v69 h69)) fun v70 h70 =>
 aC (pu h70 (aA 2 (aG x38 1))) fun v71 h71 =>
 aC (pu h71 (aD G false 1 v71 h71)) fun v72 h72 =>
 aC (pu h72 (aW Tryd.prog .add 3 false v72 (aG x38 4))) fun v73 h73 =>
 aC (pu h73 (cX [(0, 1), (1, 1), (2, 1)] [.nils, (.int .i64 0), (.int .i64 0)] [(0, v70), (1, (aG x38 0)), (2, v73)])) fun v74 h74 =>
 aC (fP (aT 3 (aG x38 2) v74 h74)) fun v75 h75 =>
 hJ [aD G true 3 (aG x38 2) h75, some .nili] h.length h75)) else (none))
 (hJ [aD G true 3 (aG x38 2) h38, some .undef] h.length h38))))))
noncomputable def bX.f (G : aF) : Nat → cC
 | 0 => fun _ _ => none
 | k + 1 => fun args h => kC args fun x0 x1 => (bX.c G k (bX.f G k) x0 x1 h)
theorem bX.step (G : aF) (k : Nat) (x0 x1 : AV) (h : aB) : bX.f G (k + 1) [x0, x1] h = bX.c G k (bX.f G k) x0 x1 h := rfl
noncomputable def fM.ann : Ann := fC [] [] [] []
noncomputable def fM.env (G : aF) (k : Nat) (self : cC) : List (Nat × Bool × cC) := []
noncomputable def fM.c (G : aF) (k : Nat) (self : cC) (x0 x1 x2 : AV) (h : aB) : Option (AV × aB) := fG (
 aC (gB x0 h) fun v0 h0 =>
 aC (pu h0 (dN x1)) fun v1 h1 =>
 aC (pu h1 (aA 2 v0)) fun v2 h2 =>
 aC (pu h2 (aD G false 1 v2 h2)) fun v3 h3 =>
 aC (pu h3 (aW Tryd.prog .neq 3 false v1 v3)) fun v4 h4 =>
 aX v4
 (aC (pu h4 (aD G false 1 (.gl 2) h4)) fun v5 h5 =>
 cF [v5] h.length h5)
 (aC (pu h4 (aW Tryd.prog .lss 2 true x2 (.int .i64 0))) fun v6 h6 =>
 aC (gd v6 false h6 (some (x2, h6))) fun v7 h7 =>
 aC (gd v6 false h7 (pu h7 (aW Tryd.prog .gtr 2 true v7 (.int .i64 1073741824)))) fun v8 h8 =>
 aC (pu h8 (eG v6 (.bool true) v8)) fun v9 h9 =>
 aX v9
 (aC (pu h9 (aD G false 1 (.gl 0) h9)) fun v10 h10 =>
 cF [v10] h.length h10)
 (cF [.nili] h.length h9)))
noncomputable def fM.f (G : aF) : Nat → cC
 | 0 => fun _ _ => none
 | k + 1 => fun args h => vB args fun x0 x1 x2 => (fM.c G k (fM.f G k) x0 x1 x2 h)
noncomputable def bL.ann : Ann := fC [5] [2] [] []
noncomputable def bL.env (G : aF) (k : Nat) (self : cC) : List (Nat × Bool × cC) := []
noncomputable def bL.c (G : aF) (k : Nat) (self : cC) (x0 : AV) (h : aB) : Option (AV × aB) := fG (
 aC (some (.sl h.length 0 0 0 1, h ++ [⟨30, 1, []⟩])) fun v0 h0 =>
 aC (pu h0 (aW Tryd.prog .eql 22 true x0 .nils)) fun v1 h1 =>
 aX v1
 (aC (some (.sl h1.length 0 0 0 1, h1 ++ [⟨30, 1, []⟩])) fun v2 h2 =>
 vC [v2] h2)
 (aC (hO 30 1 0 (.int .u64 0) [] h1) fun v3 h3 =>
 aC (fY 30 1 v3 x0 h3) fun v4 h4 =>
 vC [v4] h4))
noncomputable def bL.f (G : aF) : Nat → cC
 | 0 => fun _ _ => none
 | k + 1 => fun args h => lF args fun x0 => (bL.c G k (bL.f G k) x0 h)
noncomputable def dJ.ann : Ann := fC [] [] [] []
noncomputable def dJ.env (G : aF) (k : Nat) (self : cC) : List (Nat × Bool × cC) := []
noncomputable def dJ.c (G : aF) (k : Nat) (self : cC) (x0 x1 x2 : AV) (h : aB) : Option (AV × aB) := fG (
 aC (pu h (fT x0)) fun v0 h0 =>
 aC (pu h0 (aA 5 v0)) fun v1 h1 =>
 aC (pu h1 (aA 2 v1)) fun v2 h2 =>
 aC (pu h2 (aD G false 1 v2 h2)) fun v3 h3 =>
 aC (pu h3 (cX [(0, 1), (1, 1)] [(.int .i64 0), (.int .i64 0)] [(0, x1), (1, x2)])) fun v4 h4 =>
 aC (fS 2 1 (.agg [(.int .i64 0), (.int .i64 0)]) [(0, v4)] h4) fun v5 h5 =>
 aC (fY 91 2 v3 v5 h5) fun v6 h6 =>
 aC (pu h6 (fT x0)) fun v7 h7 =>
 aC (pu h7 (aA 5 v7)) fun v8 h8 =>
 aC (pu h8 (aA 2 v8)) fun v9 h9 =>
 aC (fP (aT 1 v9 v6 h9)) fun v10 h10 =>
 cF [] h.length h10)
noncomputable def dJ.f (G : aF) : Nat → cC
 | 0 => fun _ _ => none
 | k + 1 => fun args h => vB args fun x0 x1 x2 => (dJ.c G k (dJ.f G k) x0 x1 x2 h)
noncomputable def eH.ann : Ann := fC [] [] [] []
noncomputable def eH.env (G : aF) (k : Nat) (self : cC) : List (Nat × Bool × cC) := [(93, false, dJ.f G k)]
noncomputable def eH.c (G : aF) (k : Nat) (self : cC) (x0 x1 : AV) (h : aB) : Option (AV × aB) := fG (
 aC (gB x1 h) fun v0 h0 =>
 aC (pu h0 (fT x0)) fun v1 h1 =>
 aC (pu h1 (aA 3 v1)) fun v2 h2 =>
 aC (pu h2 (aD G false 1 v2 h2)) fun v3 h3 =>
 aC (pu h3 (aA 2 v0)) fun v4 h4 =>
 aC (pu h4 (aD G false 1 v4 h4)) fun v5 h5 =>
 aC (pu h5 (aM 1 v3 v5)) fun v6 h6 =>
 aC (pu h6 (aD G false 1 v6 h6)) fun v7 h7 =>
 aC (pu h7 (aA 5 v0)) fun v8 h8 =>
 aC (pu h8 (aD G false 1 v8 h8)) fun v9 h9 =>
 aC (pu h9 (dM .u64 v9)) fun v10 h10 =>
 aC (pu h10 (aW Tryd.prog .add 30 false v7 v10)) fun v11 h11 =>
 aC (pu h11 (dM .i64 v11)) fun v12 h12 =>
 aC (bC (dJ.f G k) [x0, (.int .i64 3), v12] h12) fun v13 h13 =>
 aC (pu h13 (fT x0)) fun v14 h14 =>
 aC (pu h14 (aA 5 v14)) fun v15 h15 =>
 aC (pu h15 (aA 1 v15)) fun v16 h16 =>
 aC (pu h16 (aD G false 1 v16 h16)) fun v17 h17 =>
 aC (pu h17 (dN v17)) fun v18 h18 =>
 aC (pu h18 (dM .u64 v18)) fun v19 h19 =>
 aC (pu h19 (aW Tryd.prog .geq 30 false v11 v19)) fun v20 h20 =>
 aX v20
 (aC (pu h20 (fT x0)) fun v21 h21 =>
 aC (pu h21 (aA 5 v21)) fun v22 h22 =>
 aC (pu h22 (aA 0 v22)) fun v23 h23 =>
 aC (fP (aT 1 v23 (.int .i64 3) h23)) fun v24 h24 =>
 cF [(.bool false)] h.length h24)
 (aC (pu h20 (aA 0 v0)) fun v25 h25 =>
 aC (pu h25 (aD G false 1 v25 h25)) fun v26 h26 =>
 aC (pu h26 (aW Tryd.prog .eql 3 true v26 (.int .i64 15))) fun v27 h27 =>
 aX v27
 (aC (pu h27 (fT x0)) fun v28 h28 =>
 aC (pu h28 (aA 3 v28)) fun v29 h29 =>
 aC (pu h29 (aD G false 1 v29 h29)) fun v30 h30 =>
 aC (pu h30 (aA 1 v0)) fun v31 h31 =>
 aC (pu h31 (aD G false 1 v31 h31)) fun v32 h32 =>
 aC (pu h32 (fT x0)) fun v33 h33 =>
 aC (pu h33 (aA 5 v33)) fun v34 h34 =>
 aC (pu h34 (aA 1 v34)) fun v35 h35 =>
 aC (pu h35 (aD G false 1 v35 h35)) fun v36 h36 =>
 aC (pu h36 (aM 1 v36 v11)) fun v37 h37 =>
 aC (pu h37 (aD G false 1 v37 h37)) fun v38 h38 =>
 aC (pu h38 (aM 1 v30 v32)) fun v39 h39 =>
 aC (fP (aT 1 v39 v38 h39)) fun v40 h40 =>
 cF [(.bool true)] h.length h40)
 (aC (pu h27 (fT x0)) fun v41 h41 =>
 aC (pu h41 (aA 5 v41)) fun v42 h42 =>
 aC (pu h42 (aA 1 v42)) fun v43 h43 =>
 aC (pu h43 (aD G false 1 v43 h43)) fun v44 h44 =>
 aC (pu h44 (fT x0)) fun v45 h45 =>
 aC (pu h45 (aA 3 v45)) fun v46 h46 =>
 aC (pu h46 (aD G false 1 v46 h46)) fun v47 h47 =>
 aC (pu h47 (aA 3 v0)) fun v48 h48 =>
 aC (pu h48 (aD G false 1 v48 h48)) fun v49 h49 =>
 aC (pu h49 (aM 1 v47 v49)) fun v50 h50 =>
 aC (pu h50 (aD G false 1 v50 h50)) fun v51 h51 =>
 aC (pu h51 (aM 1 v44 v11)) fun v52 h52 =>
 aC (fP (aT 1 v52 v51 h52)) fun v53 h53 =>
 cF [(.bool true)] h.length h53)))
noncomputable def eH.f (G : aF) : Nat → cC
 | 0 => fun _ _ => none
 | k + 1 => fun args h => kC args fun x0 x1 => (eH.c G k (eH.f G k) x0 x1 h)
noncomputable def fX.ann : Ann := fC [] [] [] []
noncomputable def fX.env (G : aF) (k : Nat) (self : cC) : List (Nat × Bool × cC) := []
noncomputable def fX.c (G : aF) (k : Nat) (self : cC) (x0 : AV) (h : aB) : Option (AV × aB) := fG (
 aX x0
 (cF [(.int .u64 1)] h.length h)
 (cF [(.int .u64 0)] h.length h))
noncomputable def fX.f (G : aF) : Nat → cC
 | 0 => fun _ _ => none
 | k + 1 => fun args h => lF args fun x0 => (fX.c G k (fX.f G k) x0 h)
noncomputable def eE.ann : Ann := fC [] [] [] [(5, [0, 3])]
noncomputable def eE.env (G : aF) (k : Nat) (self : cC) : List (Nat × Bool × cC) := [(93, false, dJ.f G k), (121, true, fX.f G k)]
noncomputable def eE.c (G : aF) (k : Nat) (self : cC) (x0 x1 : AV) (h : aB) : Option (AV × aB) := fG (
 aC (gB x1 h) fun v0 h0 =>
 eQ (
 aC (pu h0 (aA 0 v0)) fun v1 h1 =>
 aC (pu h1 (aD G false 1 v1 h1)) fun v2 h2 =>
 aC (pu h2 (aW Tryd.prog .neq 3 true v2 (.int .i64 17))) fun v3 h3 =>
 aX v3
 (aC (pu h3 (fT x0)) fun v4 h4 =>
 aC (pu h4 (aA 3 v4)) fun v5 h5 =>
 aC (pu h5 (aD G false 1 v5 h5)) fun v6 h6 =>
 aC (pu h6 (aA 2 v0)) fun v7 h7 =>
 aC (pu h7 (aD G false 1 v7 h7)) fun v8 h8 =>
 aC (pu h8 (aM 1 v6 v8)) fun v9 h9 =>
 aC (pu h9 (aD G false 1 v9 h9)) fun v10 h10 =>
 aC (pu h10 (aW Tryd.prog .eql 30 true v10 (.int .u64 0))) fun v11 h11 =>
 aC (pu h11 (aA 0 v0)) fun v12 h12 =>
 aC (pu h12 (aD G false 1 v12 h12)) fun v13 h13 =>
 aC (pu h13 (aW Tryd.prog .eql 3 true v13 (.int .i64 18))) fun v14 h14 =>
 aC (pu h14 (aW Tryd.prog .eql 4 false v11 v14)) fun v15 h15 =>
 aC (aU (fX.f G k) [v15] h15) fun v16 h16 =>
 aC (pu h16 (dM .i64 v16)) fun v17 h17 =>
 aC (bC (dJ.f G k) [x0, (.int .i64 2), v17] h17) fun v18 h18 =>
 aC (pu h18 (un .not v15)) fun v19 h19 =>
 aX v19
 (some (.ret, [x0, v0], h19))
 (some (.normal, [x0, v0], h19)))
 (some (.normal, [x0, v0], h3))) fun e20 x20 h20 => iL e20
 (aC (pu h20 (aA 5 (aG x20 1))) fun v21 h21 =>
 aC (pu h21 (aD G false 1 v21 h21)) fun v22 h22 =>
 aC (pu h22 (fT (aG x20 0))) fun v23 h23 =>
 aC (pu h23 (aA 4 v23)) fun v24 h24 =>
 aC (fP (aT 1 v24 v22 h24)) fun v25 h25 =>
 cF [] h.length h25)
 (fun i20 => none)
 (cF [] h.length h20))
noncomputable def eE.f (G : aF) : Nat → cC
 | 0 => fun _ _ => none
 | k + 1 => fun args h => kC args fun x0 x1 => (eE.c G k (eE.f G k) x0 x1 h)
noncomputable def cB.ann : Ann := fC [] [] [] []
noncomputable def cB.env (G : aF) (k : Nat) (self : cC) : List (Nat × Bool × cC) := []
noncomputable def cB.c (G : aF) (k : Nat) (self : cC) (x0 x1 : AV) (h : aB) : Option (AV × aB) := fG (
 aC (pu h (aW Tryd.prog .and 30 true x0 (.int .u64 4294967295))) fun v0 h0 =>
 aC (pu h0 (aW Tryd.prog .shr 30 true x0 (.int .u64 32))) fun v1 h1 =>
 aC (pu h1 (aW Tryd.prog .and 30 true x1 (.int .u64 4294967295))) fun v2 h2 =>
 aC (pu h2 (aW Tryd.prog .shr 30 true x1 (.int .u64 32))) fun v3 h3 =>
 aC (pu h3 (aW Tryd.prog .mul 30 false v0 v2)) fun v4 h4 =>
 aC (pu h4 (aW Tryd.prog .mul 30 false v1 v2)) fun v5 h5 =>
 aC (pu h5 (aW Tryd.prog .shr 30 true v4 (.int .u64 32))) fun v6 h6 =>
 aC (pu h6 (aW Tryd.prog .add 30 false v5 v6)) fun v7 h7 =>
 aC (pu h7 (aW Tryd.prog .and 30 true v7 (.int .u64 4294967295))) fun v8 h8 =>
 aC (pu h8 (aW Tryd.prog .shr 30 true v7 (.int .u64 32))) fun v9 h9 =>
 aC (pu h9 (aW Tryd.prog .mul 30 false v0 v3)) fun v10 h10 =>
 aC (pu h10 (aW Tryd.prog .add 30 false v8 v10)) fun v11 h11 =>
 aC (pu h11 (aW Tryd.prog .mul 30 false v1 v3)) fun v12 h12 =>
 aC (pu h12 (aW Tryd.prog .add 30 false v12 v9)) fun v13 h13 =>
 aC (pu h13 (aW Tryd.prog .shr 30 true v11 (.int .u64 32))) fun v14 h14 =>
 aC (pu h14 (aW Tryd.prog .add 30 false v13 v14)) fun v15 h15 =>
 aC (pu h15 (aW Tryd.prog .mul 30 false x0 x1)) fun v16 h16 =>
 cF [v15, v16] h.length h16)
noncomputable def cB.f (G : aF) : Nat → cC
 | 0 => fun _ _ => none
 | k + 1 => fun args h => kC args fun x0 x1 => (cB.c G k (cB.f G k) x0 x1 h)
theorem cB.step (G : aF) (k : Nat) (x0 x1 : AV) (h : aB) : cB.f G (k + 1) [x0, x1] h = cB.c G k (cB.f G k) x0 x1 h := rfl
noncomputable def eZ.ann : Ann := fC [] [] [] []
noncomputable def eZ.env (G : aF) (k : Nat) (self : cC) : List (Nat × Bool × cC) := []
noncomputable def eZ.c (G : aF) (k : Nat) (self : cC) (x0 x1 : AV) (h : aB) : Option (AV × aB) := fG (
 aC (gB x0 h) fun v0 h0 =>
 aC (pu h0 (aA 5 v0)) fun v1 h1 =>
 aC (pu h1 (aD G false 1 v1 h1)) fun v2 h2 =>
 aC (pu h2 (aW Tryd.prog .lss 2 true v2 (.int .i64 0))) fun v3 h3 =>
 aC (gd v3 false h3 (pu h3 (aA 5 v0))) fun v4 h4 =>
 aC (gd v3 false h4 (pu h4 (aD G false 1 v4 h4))) fun v5 h5 =>
 aC (gd v3 false h5 (pu h5 (aW Tryd.prog .gtr 2 true v5 (.int .i64 63)))) fun v6 h6 =>
 aC (pu h6 (eG v3 (.bool true) v6)) fun v7 h7 =>
 aX v7
 (cF [(.int .u64 0), (.bool false)] h.length h7)
 (aC (pu h7 (aA 0 v0)) fun v8 h8 =>
 aC (pu h8 (aD G false 1 v8 h8)) fun v9 h9 =>
 aC (pu h9 (aW Tryd.prog .eql 3 true v9 (.int .i64 10))) fun v10 h10 =>
 aX v10
 (aC (pu h10 (aA 5 v0)) fun v11 h11 =>
 aC (pu h11 (aD G false 1 v11 h11)) fun v12 h12 =>
 aC (pu h12 (aW Tryd.prog .shl 30 false x1 v12)) fun v13 h13 =>
 cF [v13, (.bool true)] h.length h13)
 (aC (pu h10 (aA 0 v0)) fun v14 h14 =>
 aC (pu h14 (aD G false 1 v14 h14)) fun v15 h15 =>
 aC (pu h15 (aW Tryd.prog .eql 3 true v15 (.int .i64 11))) fun v16 h16 =>
 aX v16
 (aC (pu h16 (aA 5 v0)) fun v17 h17 =>
 aC (pu h17 (aD G false 1 v17 h17)) fun v18 h18 =>
 aC (pu h18 (aW Tryd.prog .shr 30 false x1 v18)) fun v19 h19 =>
 cF [v19, (.bool true)] h.length h19)
 (aC (pu h16 (dM .i64 x1)) fun v20 h20 =>
 aC (pu h20 (aA 5 v0)) fun v21 h21 =>
 aC (pu h21 (aD G false 1 v21 h21)) fun v22 h22 =>
 aC (pu h22 (aW Tryd.prog .shr 2 false v20 v22)) fun v23 h23 =>
 aC (pu h23 (dM .u64 v23)) fun v24 h24 =>
 cF [v24, (.bool true)] h.length h24))))
noncomputable def eZ.f (G : aF) : Nat → cC
 | 0 => fun _ _ => none
 | k + 1 => fun args h => kC args fun x0 x1 => (eZ.c G k (eZ.f G k) x0 x1 h)
noncomputable def fN.ann : Ann := fC [] [] [] [(24, [1, 2, 3, 4, 13, 61])]
noncomputable def fN.env (G : aF) (k : Nat) (self : cC) : List (Nat × Bool × cC) := [(85, true, cB.f G k), (121, true, fX.f G k), (122, true, eZ.f G k)]
noncomputable def fN.c (G : aF) (k : Nat) (self : cC) (x0 x1 x2 x3 : AV) (h : aB) : Option (AV × aB) := fG (
 aC (gB x0 h) fun v0 h0 =>
 aC (pu h0 (aA 0 v0)) fun v1 h1 =>
 aC (pu h1 (aD G false 1 v1 h1)) fun v2 h2 =>
 aC (pu h2 (aW Tryd.prog .eql 3 true v2 (.int .i64 1))) fun v3 h3 =>
 aX v3
 (aC (pu h3 (aA 5 v0)) fun v4 h4 =>
 aC (pu h4 (aD G false 1 v4 h4)) fun v5 h5 =>
 aC (pu h5 (dM .u64 v5)) fun v6 h6 =>
 cF [v6, (.bool true)] h.length h6)
 (aC (pu h3 (aW Tryd.prog .eql 3 true v2 (.int .i64 2))) fun v7 h7 =>
 aX v7
 (cF [x1, (.bool true)] h.length h7)
 (aC (pu h7 (aW Tryd.prog .eql 3 true v2 (.int .i64 3))) fun v8 h8 =>
 aX v8
 (aC (pu h8 (aW Tryd.prog .add 30 false x1 x2)) fun v9 h9 =>
 cF [v9, (.bool true)] h.length h9)
 (aC (pu h8 (aW Tryd.prog .eql 3 true v2 (.int .i64 4))) fun v10 h10 =>
 aX v10
 (aC (pu h10 (aW Tryd.prog .sub 30 false x1 x2)) fun v11 h11 =>
 cF [v11, (.bool true)] h.length h11)
 (aC (pu h10 (aW Tryd.prog .eql 3 true v2 (.int .i64 5))) fun v12 h12 =>
 aX v12
 (aC (pu h12 (aW Tryd.prog .mul 30 false x1 x2)) fun v13 h13 =>
 cF [v13, (.bool true)] h.length h13)
 (aC (pu h12 (aW Tryd.prog .eql 3 true v2 (.int .i64 6))) fun v14 h14 =>
 aX v14
 (aC (aU (cB.f G k) [x1, x2] h14) fun v15 h15 =>
 aC (pu h15 (cY v15 0)) fun v16 h16 =>
 aC (pu h16 (cY v15 1)) fun v17 h17 =>
 cF [v16, (.bool true)] h.length h17)
 (aC (pu h14 (aW Tryd.prog .eql 3 true v2 (.int .i64 7))) fun v18 h18 =>
 aX v18
 (aC (pu h18 (aW Tryd.prog .and 30 false x1 x2)) fun v19 h19 =>
 cF [v19, (.bool true)] h.length h19)
 (aC (pu h18 (aW Tryd.prog .eql 3 true v2 (.int .i64 8))) fun v20 h20 =>
 aX v20
 (aC (pu h20 (aW Tryd.prog .or 30 false x1 x2)) fun v21 h21 =>
 cF [v21, (.bool true)] h.length h21)
 (aC (pu h20 (aW Tryd.prog .eql 3 true v2 (.int .i64 9))) fun v22 h22 =>
 aX v22
 (aC (pu h22 (aW Tryd.prog .xor 30 false x1 x2)) fun v23 h23 =>
 cF [v23, (.bool true)] h.length h23)
 (eQ (
 aC (pu h22 (aW Tryd.prog .eql 3 true v2 (.int .i64 10))) fun v24 h24 =>
 aX v24
 (some (.normal, [x1, x2, x3, v0, v2, v24], h24))
 (aC (pu h24 (aW Tryd.prog .eql 3 true v2 (.int .i64 11))) fun v25 h25 =>
 aX v25
 (some (.normal, [x1, x2, x3, v0, v2, v25], h25))
 (aC (pu h25 (aW Tryd.prog .eql 3 true v2 (.int .i64 12))) fun v26 h26 =>
 some (.normal, [x1, x2, x3, v0, v2, v26], h26)))) fun e27 x27 h27 => iL e27
 (aX (aG x27 5)
 (aC (pu h27 (aD G true 6 (aG x27 3) h27)) fun v28 h28 =>
 aC (aU (eZ.f G k) [v28, (aG x27 0)] h28) fun v29 h29 =>
 aC (pu h29 (cY v29 0)) fun v30 h30 =>
 aC (pu h30 (cY v29 1)) fun v31 h31 =>
 cF [v30, v31] h.length h31)
 (aC (pu h27 (aW Tryd.prog .eql 3 true (aG x27 4) (.int .i64 13))) fun v32 h32 =>
 aX v32
 (aC (pu h32 (aW Tryd.prog .lss 30 false (aG x27 0) (aG x27 1))) fun v33 h33 =>
 aC (aU (fX.f G k) [v33] h33) fun v34 h34 =>
 cF [v34, (.bool true)] h.length h34)
 (aC (pu h32 (aW Tryd.prog .eql 3 true (aG x27 4) (.int .i64 14))) fun v35 h35 =>
 aX v35
 (aC (pu h35 (aW Tryd.prog .neq 30 true (aG x27 0) (.int .u64 0))) fun v36 h36 =>
 aX v36
 (cF [(aG x27 1), (.bool true)] h.length h36)
 (cF [(aG x27 2), (.bool true)] h.length h36))
 (cF [(.int .u64 0), (.bool false)] h.length h35))))
 (fun i27 => if i27 = 0 then (cF [(.int .u64 0), (.bool false)] h.length h27) else (none))
 (cF [.undef, .undef] h.length h27)))))))))))
noncomputable def fN.f (G : aF) : Nat → cC
 | 0 => fun _ _ => none
 | k + 1 => fun args h => aBS args fun x0 x1 x2 x3 => (fN.c G k (fN.f G k) x0 x1 x2 x3 h)
noncomputable def eU.ann : Ann := fC [] [] [] [(14, [0, 3, 4]), (9, [0, 3, 15, 22]), (5, [0, 3, 15, 16])]
noncomputable def eU.env (G : aF) (k : Nat) (self : cC) : List (Nat × Bool × cC) := [(110, false, eH.f G k), (111, false, eE.f G k), (112, true, fN.f G k)]
noncomputable def eU.c (G : aF) (k : Nat) (self : cC) (x0 x1 : AV) (h : aB) : Option (AV × aB) := fG (
 aC (gB x1 h) fun v0 h0 =>
 aC (pu h0 (fT x0)) fun v1 h1 =>
 aC (pu h1 (aA 4 v1)) fun v2 h2 =>
 aC (pu h2 (aD G false 1 v2 h2)) fun v3 h3 =>
 aC (pu h3 (aW Tryd.prog .add 3 true v3 (.int .i64 1))) fun v4 h4 =>
 aC (pu h4 (fT x0)) fun v5 h5 =>
 aC (pu h5 (aA 4 v5)) fun v6 h6 =>
 aC (fP (aT 1 v6 v4 h6)) fun v7 h7 =>
 eQ (
 aC (pu h7 (aA 0 v0)) fun v8 h8 =>
 aC (pu h8 (aD G false 1 v8 h8)) fun v9 h9 =>
 eQ (
 aC (pu h9 (aW Tryd.prog .eql 3 true v9 (.int .i64 15))) fun v10 h10 =>
 aX v10
 (some (.normal, [x0, v0, v9, v10], h10))
 (aC (pu h10 (aW Tryd.prog .eql 3 true v9 (.int .i64 16))) fun v11 h11 =>
 some (.normal, [x0, v0, v9, v11], h11))) fun e12 x12 h12 => iL e12
 (aX (aG x12 3)
 (aC (pu h12 (aD G true 6 (aG x12 1) h12)) fun v13 h13 =>
 aC (bC (eH.f G k) [(aG x12 0), v13] h13) fun v14 h14 =>
 some (.ret, [(aG x12 0), (aG x12 1), v14], h14))
 (eQ (
 aC (pu h12 (aW Tryd.prog .eql 3 true (aG x12 2) (.int .i64 17))) fun v15 h15 =>
 aX v15
 (some (.normal, [(aG x12 0), (aG x12 1), (aG x12 2), v15], h15))
 (aC (pu h15 (aW Tryd.prog .eql 3 true (aG x12 2) (.int .i64 18))) fun v16 h16 =>
 aX v16
 (some (.normal, [(aG x12 0), (aG x12 1), (aG x12 2), v16], h16))
 (aC (pu h16 (aW Tryd.prog .eql 3 true (aG x12 2) (.int .i64 19))) fun v17 h17 =>
 some (.normal, [(aG x12 0), (aG x12 1), (aG x12 2), v17], h17)))) fun e18 x18 h18 => iL e18
 (aX (aG x18 3)
 (aC (pu h18 (aD G true 6 (aG x18 1) h18)) fun v19 h19 =>
 aC (bC (eE.f G k) [(aG x18 0), v19] h19) fun v20 h20 =>
 some (.ret, [(aG x18 0), (aG x18 1), (.bool true)], h20))
 (aC (pu h18 (aW Tryd.prog .eql 3 true (aG x18 2) (.int .i64 20))) fun v21 h21 =>
 aX v21
 (aC (pu h21 (aA 5 (aG x18 1))) fun v22 h22 =>
 aC (pu h22 (aD G false 1 v22 h22)) fun v23 h23 =>
 aC (pu h23 (fT (aG x18 0))) fun v24 h24 =>
 aC (pu h24 (aA 5 v24)) fun v25 h25 =>
 aC (pu h25 (aA 0 v25)) fun v26 h26 =>
 aC (fP (aT 1 v26 v23 h26)) fun v27 h27 =>
 some (.ret, [(aG x18 0), (aG x18 1), (.bool false)], h27))
 (some (.normal, [(aG x18 0), (aG x18 1), .undef], h21))))
 (fun i18 => if i18 = 0 then (some (.normal, [(aG x18 0), (aG x18 1), .undef], h18)) else (some (.exit i18, [(aG x18 0), (aG x18 1), .undef], h18)))
 (some (.ret, [(aG x18 0), (aG x18 1), .undef], h18))))
 (fun i12 => if i12 = 0 then (some (.normal, [(aG x12 0), (aG x12 1), .undef], h12)) else (some (.exit i12, [(aG x12 0), (aG x12 1), .undef], h12)))
 (some (.ret, [(aG x12 0), (aG x12 1), .undef], h12))) fun e28 x28 h28 => iL e28
 (aC (pu h28 (aD G true 6 (aG x28 1) h28)) fun v29 h29 =>
 aC (pu h29 (fT (aG x28 0))) fun v30 h30 =>
 aC (pu h30 (aA 3 v30)) fun v31 h31 =>
 aC (pu h31 (aD G false 1 v31 h31)) fun v32 h32 =>
 aC (pu h32 (aA 2 (aG x28 1))) fun v33 h33 =>
 aC (pu h33 (aD G false 1 v33 h33)) fun v34 h34 =>
 aC (pu h34 (aM 1 v32 v34)) fun v35 h35 =>
 aC (pu h35 (aD G false 1 v35 h35)) fun v36 h36 =>
 aC (pu h36 (fT (aG x28 0))) fun v37 h37 =>
 aC (pu h37 (aA 3 v37)) fun v38 h38 =>
 aC (pu h38 (aD G false 1 v38 h38)) fun v39 h39 =>
 aC (pu h39 (aA 3 (aG x28 1))) fun v40 h40 =>
 aC (pu h40 (aD G false 1 v40 h40)) fun v41 h41 =>
 aC (pu h41 (aM 1 v39 v41)) fun v42 h42 =>
 aC (pu h42 (aD G false 1 v42 h42)) fun v43 h43 =>
 aC (pu h43 (fT (aG x28 0))) fun v44 h44 =>
 aC (pu h44 (aA 3 v44)) fun v45 h45 =>
 aC (pu h45 (aD G false 1 v45 h45)) fun v46 h46 =>
 aC (pu h46 (aA 4 (aG x28 1))) fun v47 h47 =>
 aC (pu h47 (aD G false 1 v47 h47)) fun v48 h48 =>
 aC (pu h48 (aM 1 v46 v48)) fun v49 h49 =>
 aC (pu h49 (aD G false 1 v49 h49)) fun v50 h50 =>
 aC (aU (fN.f G k) [v29, v36, v43, v50] h50) fun v51 h51 =>
 aC (pu h51 (cY v51 0)) fun v52 h52 =>
 aC (pu h52 (cY v51 1)) fun v53 h53 =>
 aX v53
 (aC (pu h53 (fT (aG x28 0))) fun v54 h54 =>
 aC (pu h54 (aA 3 v54)) fun v55 h55 =>
 aC (pu h55 (aD G false 1 v55 h55)) fun v56 h56 =>
 aC (pu h56 (aA 1 (aG x28 1))) fun v57 h57 =>
 aC (pu h57 (aD G false 1 v57 h57)) fun v58 h58 =>
 aC (pu h58 (aM 1 v56 v58)) fun v59 h59 =>
 aC (fP (aT 1 v59 v52 h59)) fun v60 h60 =>
 cF [(.bool true)] h.length h60)
 (cF [(.bool true)] h.length h53))
 (fun i28 => none)
 (cF [(aG x28 2)] h.length h28))
noncomputable def eU.f (G : aF) : Nat → cC
 | 0 => fun _ _ => none
 | k + 1 => fun args h => kC args fun x0 x1 => (eU.c G k (eU.f G k) x0 x1 h)
noncomputable def fD.ann : Ann := aDN [15] [] [(3, [2, 3, 4, 8, 9])] [] [(3, [(9, 7, 91, 2)])] []
noncomputable def fD.env (G : aF) (k : Nat) (self : cC) : List (Nat × Bool × cC) := [(92, false, bL.f G k), (93, false, dJ.f G k), (94, false, eU.f G k)]
noncomputable def fD.l3 (G : aF) (k n0 : Nat) (self : cC) (lp : eY) : eY := fun xs h0 => iZ n0 xs h0 fun h =>
 aC (pu h (fT (aG xs 4))) fun v14 h14 =>
 aC (pu h14 (aA 4 v14)) fun v15 h15 =>
 aC (pu h15 (aD G false 1 v15 h15)) fun v16 h16 =>
 aC (pu h16 (aA 0 (aG xs 2))) fun v17 h17 =>
 aC (pu h17 (aD G false 1 v17 h17)) fun v18 h18 =>
 aC (pu h18 (dN v18)) fun v19 h19 =>
 aC (pu h19 (aW Tryd.prog .geq 3 false v16 v19)) fun v20 h20 =>
 aX v20
 (aC (pu h20 (fT (aG xs 4))) fun v21 h21 =>
 aC (pu h21 (aA 5 v21)) fun v22 h22 =>
 aC (pu h22 (aA 0 v22)) fun v23 h23 =>
 aC (fP (aT 1 v23 (.int .i64 3) h23)) fun v24 h24 =>
 aC (pu h24 (fT (aG xs 4))) fun v25 h25 =>
 aC (pu h25 (aA 5 v25)) fun v26 h26 =>
 aC (pu h26 (aD G true 4 v26 h26)) fun v27 h27 =>
 aC (fP (aT 4 (aG xs 3) v27 h27)) fun v28 h28 =>
 some (.ret, [(aG xs 0), (aG xs 1), (aG xs 2), (aG xs 3), (aG xs 4)], h28))
 (aC (pu h20 (fT (aG xs 4))) fun v29 h29 =>
 aC (pu h29 (aA 5 v29)) fun v30 h30 =>
 aC (pu h30 (aA 3 v30)) fun v31 h31 =>
 aC (pu h31 (aD G false 1 v31 h31)) fun v32 h32 =>
 aC (pu h32 (aW Tryd.prog .eql 2 false v32 (aG xs 0))) fun v33 h33 =>
 aX v33
 (aC (pu h33 (fT (aG xs 4))) fun v34 h34 =>
 aC (pu h34 (aA 5 v34)) fun v35 h35 =>
 aC (pu h35 (aA 0 v35)) fun v36 h36 =>
 aC (fP (aT 1 v36 (.int .i64 4) h36)) fun v37 h37 =>
 aC (pu h37 (fT (aG xs 4))) fun v38 h38 =>
 aC (pu h38 (aA 5 v38)) fun v39 h39 =>
 aC (pu h39 (aD G true 4 v39 h39)) fun v40 h40 =>
 aC (fP (aT 4 (aG xs 3) v40 h40)) fun v41 h41 =>
 some (.ret, [(aG xs 0), (aG xs 1), (aG xs 2), (aG xs 3), (aG xs 4)], h41))
 (aC (pu h33 (aW Tryd.prog .neq 144 true (aG xs 1) .nilf)) fun v42 h42 =>
 aC (gd v42 true h42 (some ((aG xs 1), h42))) fun v43 h43 =>
 aC (gd v42 true h43 (some ((aG xs 4), h43))) fun v44 h44 =>
 aC (gd v42 true h44 (pu h44 (fT v44))) fun v45 h45 =>
 aC (gd v42 true h45 (pu h45 (aA 4 v45))) fun v46 h46 =>
 aC (gd v42 true h46 (pu h46 (aD G false 1 v46 h46))) fun v47 h47 =>
 aC (gd v42 true h47 (some ((aG xs 4), h47))) fun v48 h48 =>
 aC (gd v42 true h48 (pu h48 (fT v48))) fun v49 h49 =>
 aC (gd v42 true h49 (pu h49 (aA 3 v49))) fun v50 h50 =>
 aC (gd v42 true h50 (pu h50 (aD G false 1 v50 h50))) fun v51 h51 =>
 aC (gd v42 true h51 (lL (fK (fD.env G k self)) v43 [v47, v51] h51)) fun v52 h52 =>
 aC (gd v42 true h52 (pu h52 (un .not v52))) fun v53 h53 =>
 aC (pu h53 (eG v42 v53 (.bool false))) fun v54 h54 =>
 aX v54
 (aC (pu h54 (fT (aG xs 4))) fun v55 h55 =>
 aC (pu h55 (aA 5 v55)) fun v56 h56 =>
 aC (pu h56 (aD G true 4 v56 h56)) fun v57 h57 =>
 aC (fP (aT 4 (aG xs 3) v57 h57)) fun v58 h58 =>
 some (.ret, [(aG xs 0), (aG xs 1), (aG xs 2), (aG xs 3), (aG xs 4)], h58))
 (aC (pu h54 (fT (aG xs 4))) fun v59 h59 =>
 aC (pu h59 (aA 5 v59)) fun v60 h60 =>
 aC (pu h60 (aA 3 v60)) fun v61 h61 =>
 aC (pu h61 (aD G false 1 v61 h61)) fun v62 h62 =>
 aC (pu h62 (aW Tryd.prog .add 2 true v62 (.int .i64 1))) fun v63 h63 =>
 aC (pu h63 (fT (aG xs 4))) fun v64 h64 =>
 aC (pu h64 (aA 5 v64)) fun v65 h65 =>
 aC (pu h65 (aA 3 v65)) fun v66 h66 =>
 aC (fP (aT 1 v66 v63 h66)) fun v67 h67 =>
 aC (pu h67 (fT (aG xs 4))) fun v68 h68 =>
 aC (pu h68 (aA 4 v68)) fun v69 h69 =>
 aC (pu h69 (aD G false 1 v69 h69)) fun v70 h70 =>
 aC (bC (dJ.f G k) [(aG xs 4), (.int .i64 1), v70] h70) fun v71 h71 =>
 aC (pu h71 (aA 0 (aG xs 2))) fun v72 h72 =>
 aC (pu h72 (aD G false 1 v72 h72)) fun v73 h73 =>
 aC (pu h73 (fT (aG xs 4))) fun v74 h74 =>
 aC (pu h74 (aA 4 v74)) fun v75 h75 =>
 aC (pu h75 (aD G false 1 v75 h75)) fun v76 h76 =>
 aC (pu h76 (aM 6 v73 v76)) fun v77 h77 =>
 aC (pu h77 (aD G true 6 v77 h77)) fun v78 h78 =>
 aC (bC (eU.f G k) [(aG xs 4), v78] h78) fun v79 h79 =>
 aC (pu h79 (un .not v79)) fun v80 h80 =>
 aX v80
 (aC (pu h80 (fT (aG xs 4))) fun v81 h81 =>
 aC (pu h81 (aA 5 v81)) fun v82 h82 =>
 aC (pu h82 (aD G true 4 v82 h82)) fun v83 h83 =>
 aC (fP (aT 4 (aG xs 3) v83 h83)) fun v84 h84 =>
 some (.ret, [(aG xs 0), (aG xs 1), (aG xs 2), (aG xs 3), (aG xs 4)], h84))
 (lp [(aG xs 0), (aG xs 1), (aG xs 2), (aG xs 3), (aG xs 4)] h80))))
noncomputable def fD.c (G : aF) (k : Nat) (self : cC) (x0 x1 x2 x3 : AV) (h : aB) : Option (AV × aB) := fG (
 aC (gB x0 h) fun v0 h0 =>
 aC (fV 73 (.agg [(.int .i64 0), .nils, .nils, (.int .i64 0)]) h0) fun v1 h1 =>
 aC (pu h1 (aD G true 3 v0 h1)) fun v2 h2 =>
 aC (pu h2 (aA 1 v0)) fun v3 h3 =>
 aC (pu h3 (aD G false 1 v3 h3)) fun v4 h4 =>
 aC (fA 30 1 (.int .u64 0) v4 v4 h4) fun v5 h5 =>
 aC (pu h5 (cX [(0, 3), (3, 1), (4, 1), (5, 4)] [.nils, (.int .i64 0), (.int .i64 0), .nils, (.int .i64 0), (.int .i64 0), .nils, .nils, (.int .i64 0)] [(0, v2), (1, v5)])) fun v6 h6 =>
 aC (fV 147 v6 h6) fun v7 h7 =>
 aC (bC (bL.f G k) [x1] h7) fun v8 h8 =>
 aC (pu h8 (fT v7)) fun v9 h9 =>
 aC (pu h9 (aA 5 v9)) fun v10 h10 =>
 aC (pu h10 (aA 1 v10)) fun v11 h11 =>
 aC (fP (aT 1 v11 v8 h11)) fun v12 h12 =>
 vK [(v7, 7, 91, 2)] h12 fun hv13 =>
 eQ (dP (fD.l3 G k hv13.length self) k [x2, x3, v0, v1, v7] hv13) fun e13 x13 h13 => iL e13
 (none)
 (fun i13 => if i13 = 0 then (hJ [aD G true 4 (aG x13 3) h13] h.length h13) else (none))
 (hJ [aD G true 4 (aG x13 3) h13] h.length h13))
noncomputable def fD.f (G : aF) : Nat → cC
 | 0 => fun _ _ => none
 | k + 1 => fun args h => aBS args fun x0 x1 x2 x3 => (fD.c G k (fD.f G k) x0 x1 x2 x3 h)
noncomputable def gL.ann : Ann := fC [] [] [] []
noncomputable def gL.env (G : aF) (k : Nat) (self : cC) : List (Nat × Bool × cC) := [(43, true, cI.f G k), (69, true, fM.f G k), (70, false, fD.f G k)]
noncomputable def gL.c (G : aF) (k : Nat) (self : cC) (x0 x1 x2 : AV) (h : aB) : Option (AV × aB) := fG (
 aC (gB x0 h) fun v0 h0 =>
 aC (fV 73 (.agg [(.int .i64 0), .nils, .nils, (.int .i64 0)]) h0) fun v1 h1 =>
 aC (pu h1 (aD G true 3 v0 h1)) fun v2 h2 =>
 aC (aU (cI.f G k) [v2] h2) fun v3 h3 =>
 aC (pu h3 (aW Tryd.prog .neq 33 true v3 .nili)) fun v4 h4 =>
 aX v4
 (aC (pu h4 (cX [(0, 1), (1, 1), (2, 1), (3, 1)] [(.int .i64 0), .nils, .nils, (.int .i64 0)] [])) fun v5 h5 =>
 aC (fP (aT 4 v1 v5 h5)) fun v6 h6 =>
 hJ [aD G true 4 v1 h6, some v3] h.length h6)
 (aC (pu h4 (aD G true 3 v0 h4)) fun v7 h7 =>
 aC (aU (fM.f G k) [v7, x1, x2] h7) fun v8 h8 =>
 aC (pu h8 (aW Tryd.prog .neq 33 true v8 .nili)) fun v9 h9 =>
 aX v9
 (aC (pu h9 (cX [(0, 1), (1, 1), (2, 1), (3, 1)] [(.int .i64 0), .nils, .nils, (.int .i64 0)] [])) fun v10 h10 =>
 aC (fP (aT 4 v1 v10 h10)) fun v11 h11 =>
 hJ [aD G true 4 v1 h11, some v8] h.length h11)
 (aC (pu h9 (aD G true 3 v0 h9)) fun v12 h12 =>
 aC (bC (fD.f G k) [v12, x1, x2, .nilf] h12) fun v13 h13 =>
 aC (fP (aT 4 v1 v13 h13)) fun v14 h14 =>
 hJ [aD G true 4 v1 h14, some .nili] h.length h14)))
noncomputable def gL.f (G : aF) : Nat → cC
 | 0 => fun _ _ => none
 | k + 1 => fun args h => vB args fun x0 x1 x2 => (gL.c G k (gL.f G k) x0 x1 x2 h)
noncomputable def cZ.ann : Ann := fC [] [] [] []
noncomputable def cZ.env (G : aF) (k : Nat) (self : cC) : List (Nat × Bool × cC) := [(13, true, bX.f G k), (39, true, gL.f G k)]
noncomputable def cZ.c (G : aF) (k : Nat) (self : cC) (h : aB) : Option (AV × aB) := fG (
 aC (pu h (cX [(0, 1), (1, 1), (2, 1), (3, 1), (4, 1), (5, 1)] [(.int .i64 0), (.int .i64 0), (.int .i64 0), (.int .i64 0), (.int .i64 0), (.int .i64 0)] [(0, (.int .i64 20))])) fun v0 h0 =>
 aC (fS 6 1 (.agg [(.int .i64 0), (.int .i64 0), (.int .i64 0), (.int .i64 0), (.int .i64 0), (.int .i64 0)]) [(0, v0)] h0) fun v1 h1 =>
 aC (pu h1 (cX [(0, 1), (1, 1), (2, 1)] [.nils, (.int .i64 0), (.int .i64 0)] [(0, v1)])) fun v2 h2 =>
 aC (aU (bX.f G k) [v2, (.int .i64 6)] h2) fun v3 h3 =>
 aC (pu h3 (cY v3 0)) fun v4 h4 =>
 aC (pu h4 (cY v3 1)) fun v5 h5 =>
 aC (fV 27 (.agg [.nils, (.int .i64 0), (.int .i64 0)]) h5) fun v6 h6 =>
 aC (fP (aT 3 v6 v4 h6)) fun v7 h7 =>
 aC (pu h7 (aD G true 3 v6 h7)) fun v8 h8 =>
 aC (pu h8 (aA 2 v6)) fun v9 h9 =>
 aC (pu h9 (aD G false 1 v9 h9)) fun v10 h10 =>
 aC (pu h10 (rY zN v10 [(.int .i64 0)])) fun v11 h11 =>
 aC (fA 30 1 (.int .u64 0) v11 v11 h11) fun v12 h12 =>
 aC (aU (gL.f G k) [v8, v12, (.int .i64 100)] h12) fun v13 h13 =>
 aC (pu h13 (cY v13 0)) fun v14 h14 =>
 aC (pu h14 (cY v13 1)) fun v15 h15 =>
 aC (fV 73 (.agg [(.int .i64 0), .nils, .nils, (.int .i64 0)]) h15) fun v16 h16 =>
 aC (fP (aT 4 v16 v14 h16)) fun v17 h17 =>
 aC (pu h17 (aW Tryd.prog .eql 33 true v5 .nili)) fun v18 h18 =>
 aC (gd v18 true h18 (some (v15, h18))) fun v19 h19 =>
 aC (gd v18 true h19 (pu h19 (aW Tryd.prog .eql 33 true v19 .nili))) fun v20 h20 =>
 aC (pu h20 (eG v18 v20 (.bool false))) fun v21 h21 =>
 aC (gd v21 true h21 (pu h21 (aA 0 v6))) fun v22 h22 =>
 aC (gd v21 true h22 (pu h22 (aD G false 1 v22 h22))) fun v23 h23 =>
 aC (gd v21 true h23 (pu h23 (dN v23))) fun v24 h24 =>
 aC (gd v21 true h24 (pu h24 (aW Tryd.prog .gtr 3 true v24 (.int .i64 0)))) fun v25 h25 =>
 aC (pu h25 (eG v21 v25 (.bool false))) fun v26 h26 =>
 aC (gd v26 true h26 (pu h26 (aA 0 v16))) fun v27 h27 =>
 aC (gd v26 true h27 (pu h27 (aD G false 1 v27 h27))) fun v28 h28 =>
 aC (gd v26 true h28 (pu h28 (aW Tryd.prog .eql 3 true v28 (.int .i64 0)))) fun v29 h29 =>
 aC (pu h29 (eG v26 v29 (.bool false))) fun v30 h30 =>
 cF [v30] h.length h30)
noncomputable def cZ.f (G : aF) : Nat → cC
 | 0 => fun _ _ => none
 | k + 1 => fun args h => aGe args (cZ.c G k (cZ.f G k) h)
noncomputable def bP.ann : Ann := fC [] [2] [(3, [0, 3, 4])] []
noncomputable def bP.env (G : aF) (k : Nat) (self : cC) : List (Nat × Bool × cC) := []
noncomputable def bP.l3 (G : aF) (k n0 : Nat) (self : cC) (lp : eY) : eY := fun xs h0 => iZ n0 xs h0 fun h =>
 aC (pu h (dN (aG xs 0))) fun v4 h4 =>
 aC (pu h4 (aW Tryd.prog .lss 3 false (aG xs 2) v4)) fun v5 h5 =>
 aX v5
 (aC (pu h5 (aM 1 (aG xs 0) (aG xs 2))) fun v6 h6 =>
 aC (pu h6 (aD G false 1 v6 h6)) fun v7 h7 =>
 aC (fS 1 1 (.int .u64 0) [(0, v7)] h7) fun v8 h8 =>
 aC (fY 30 1 (aG xs 1) v8 h8) fun v9 h9 =>
 aC (pu h9 (aW Tryd.prog .add 3 true (aG xs 2) (.int .i64 1))) fun v10 h10 =>
 lp [(aG xs 0), v9, v10] h10)
 (some (.exit 0, [(aG xs 0), (aG xs 1), (aG xs 2)], h5))
noncomputable def bP.c (G : aF) (k : Nat) (self : cC) (x0 : AV) (h : aB) : Option (AV × aB) := fG (
 aC (some (.sl h.length 0 0 0 1, h ++ [⟨30, 1, []⟩])) fun v0 h0 =>
 aC (pu h0 (dN x0)) fun v1 h1 =>
 aC (fA 30 1 (.int .u64 0) (.int .i64 0) v1 h1) fun v2 h2 =>
 eQ (dP (bP.l3 G k h2.length self) k [x0, v2, (.int .i64 0)] h2) fun e3 x3 h3 => iL e3
 (none)
 (fun i3 => if i3 = 0 then (vC [(aG x3 1)] h3) else (none))
 (vC [.undef] h3))
noncomputable def bP.f (G : aF) : Nat → cC
 | 0 => fun _ _ => none
 | k + 1 => fun args h => lF args fun x0 => (bP.c G k (bP.f G k) x0 h)
theorem bP.step (G : aF) (k : Nat) (x0 : AV) (h : aB) : bP.f G (k + 1) [x0] h = bP.c G k (bP.f G k) x0 h := rfl
noncomputable def dK.ann : Ann := fC [] [] [] []
noncomputable def dK.env (G : aF) (k : Nat) (self : cC) : List (Nat × Bool × cC) := []
noncomputable def dK.c (G : aF) (k : Nat) (self : cC) (x0 : AV) (h : aB) : Option (AV × aB) := fG (
 aX x0
 (cF [(.int .i64 1)] h.length h)
 (cF [(.int .i64 0)] h.length h))
noncomputable def dK.f (G : aF) : Nat → cC
 | 0 => fun _ _ => none
 | k + 1 => fun args h => lF args fun x0 => (dK.c G k (dK.f G k) x0 h)
noncomputable def dZ.ann : Ann := fC [] [] [] []
noncomputable def dZ.env (G : aF) (k : Nat) (self : cC) : List (Nat × Bool × cC) := []
noncomputable def dZ.c (G : aF) (k : Nat) (self : cC) (x0 x1 : AV) (h : aB) : Option (AV × aB) := fG (
 aC (pu h (aW Tryd.prog .add 2 false x0 x1)) fun v0 h0 =>
 aC (pu h0 (aW Tryd.prog .gtr 2 false v0 x0)) fun v1 h1 =>
 aC (pu h1 (aW Tryd.prog .gtr 2 true x1 (.int .i64 0))) fun v2 h2 =>
 aC (pu h2 (aW Tryd.prog .eql 4 false v1 v2)) fun v3 h3 =>
 aC (gd v3 false h3 (some (x1, h3))) fun v4 h4 =>
 aC (gd v3 false h4 (pu h4 (aW Tryd.prog .eql 2 true v4 (.int .i64 0)))) fun v5 h5 =>
 aC (pu h5 (eG v3 (.bool true) v5)) fun v6 h6 =>
 cF [v0, v6] h.length h6)
noncomputable def dZ.f (G : aF) : Nat → cC
 | 0 => fun _ _ => none
 | k + 1 => fun args h => kC args fun x0 x1 => (dZ.c G k (dZ.f G k) x0 x1 h)
noncomputable def cP.ann : Ann := fC [] [] [] []
noncomputable def cP.env (G : aF) (k : Nat) (self : cC) : List (Nat × Bool × cC) := []
noncomputable def cP.c (G : aF) (k : Nat) (self : cC) (x0 x1 : AV) (h : aB) : Option (AV × aB) := fG (
 aC (pu h (un .not x1)) fun v0 h0 =>
 aX v0
 (cF [(.int .i64 0), (.bool false)] h.length h0)
 (cF [x0, (.bool true)] h.length h0))
noncomputable def cP.f (G : aF) : Nat → cC
 | 0 => fun _ _ => none
 | k + 1 => fun args h => kC args fun x0 x1 => (cP.c G k (cP.f G k) x0 x1 h)
noncomputable def dL.ann : Ann := fC [] [] [] []
noncomputable def dL.env (G : aF) (k : Nat) (self : cC) : List (Nat × Bool × cC) := []
noncomputable def dL.c (G : aF) (k : Nat) (self : cC) (x0 x1 : AV) (h : aB) : Option (AV × aB) := fG (
 aC (pu h (aW Tryd.prog .sub 2 false x0 x1)) fun v0 h0 =>
 aC (pu h0 (aW Tryd.prog .lss 2 false v0 x0)) fun v1 h1 =>
 aC (pu h1 (aW Tryd.prog .gtr 2 true x1 (.int .i64 0))) fun v2 h2 =>
 aC (pu h2 (aW Tryd.prog .eql 4 false v1 v2)) fun v3 h3 =>
 aC (gd v3 false h3 (some (x1, h3))) fun v4 h4 =>
 aC (gd v3 false h4 (pu h4 (aW Tryd.prog .eql 2 true v4 (.int .i64 0)))) fun v5 h5 =>
 aC (pu h5 (eG v3 (.bool true) v5)) fun v6 h6 =>
 cF [v0, v6] h.length h6)
noncomputable def dL.f (G : aF) : Nat → cC
 | 0 => fun _ _ => none
 | k + 1 => fun args h => kC args fun x0 x1 => (dL.c G k (dL.f G k) x0 x1 h)
noncomputable def cO.ann : Ann := fC [] [] [] [(7, [0, 1, 6, 7]), (5, [0, 1, 6, 7])]
noncomputable def cO.env (G : aF) (k : Nat) (self : cC) : List (Nat × Bool × cC) := [(82, true, cP.f G k), (85, true, cB.f G k)]
noncomputable def cO.c (G : aF) (k : Nat) (self : cC) (x0 x1 : AV) (h : aB) : Option (AV × aB) := fG (
 aC (pu h (dM .u64 x0)) fun v0 h0 =>
 aC (pu h0 (dM .u64 x1)) fun v1 h1 =>
 eQ (
 aC (pu h1 (aW Tryd.prog .lss 2 true x0 (.int .i64 0))) fun v2 h2 =>
 aX v2
 (aC (pu h2 (un .neg v0)) fun v3 h3 =>
 some (.normal, [x0, x1, v3, v1], h3))
 (some (.normal, [x0, x1, v0, v1], h2))) fun e4 x4 h4 => iL e4
 (eQ (
 aC (pu h4 (aW Tryd.prog .lss 2 true (aG x4 1) (.int .i64 0))) fun v5 h5 =>
 aX v5
 (aC (pu h5 (un .neg (aG x4 3))) fun v6 h6 =>
 some (.normal, [(aG x4 0), (aG x4 1), (aG x4 2), v6], h6))
 (some (.normal, [(aG x4 0), (aG x4 1), (aG x4 2), (aG x4 3)], h5))) fun e7 x7 h7 => iL e7
 (aC (aU (cB.f G k) [(aG x7 2), (aG x7 3)] h7) fun v8 h8 =>
 aC (pu h8 (cY v8 0)) fun v9 h9 =>
 aC (pu h9 (cY v8 1)) fun v10 h10 =>
 aC (pu h10 (aW Tryd.prog .neq 30 true v9 (.int .u64 0))) fun v11 h11 =>
 aX v11
 (cF [(.int .i64 0), (.bool false)] h.length h11)
 (aC (pu h11 (aW Tryd.prog .lss 2 true (aG x7 0) (.int .i64 0))) fun v12 h12 =>
 aC (pu h12 (aW Tryd.prog .lss 2 true (aG x7 1) (.int .i64 0))) fun v13 h13 =>
 aC (pu h13 (aW Tryd.prog .neq 4 false v12 v13)) fun v14 h14 =>
 aX v14
 (aC (pu h14 (aW Tryd.prog .eql 30 true v10 (.int .u64 9223372036854775808))) fun v15 h15 =>
 aX v15
 (cF [(.int .i64 (-9223372036854775808)), (.bool true)] h.length h15)
 (aC (pu h15 (aW Tryd.prog .and 30 true v10 (.int .u64 9223372036854775807))) fun v16 h16 =>
 aC (pu h16 (dM .i64 v16)) fun v17 h17 =>
 aC (pu h17 (un .neg v17)) fun v18 h18 =>
 aC (pu h18 (aW Tryd.prog .lss 30 true v10 (.int .u64 9223372036854775808))) fun v19 h19 =>
 aC (aU (cP.f G k) [v18, v19] h19) fun v20 h20 =>
 aC (pu h20 (cY v20 0)) fun v21 h21 =>
 aC (pu h21 (cY v20 1)) fun v22 h22 =>
 cF [v21, v22] h.length h22))
 (aC (pu h14 (dM .i64 v10)) fun v23 h23 =>
 aC (pu h23 (aW Tryd.prog .lss 30 true v10 (.int .u64 9223372036854775808))) fun v24 h24 =>
 cF [v23, v24] h.length h24)))
 (fun i7 => none)
 (cF [.undef, .undef] h.length h7))
 (fun i4 => none)
 (cF [.undef, .undef] h.length h4))
noncomputable def cO.f (G : aF) : Nat → cC
 | 0 => fun _ _ => none
 | k + 1 => fun args h => kC args fun x0 x1 => (cO.c G k (cO.f G k) x0 x1 h)
noncomputable def dH.ann : Ann := fC [] [] [] []
noncomputable def dH.env (G : aF) (k : Nat) (self : cC) : List (Nat × Bool × cC) := [(81, true, dZ.f G k), (82, true, cP.f G k), (83, true, dL.f G k), (84, true, cO.f G k)]
noncomputable def dH.c (G : aF) (k : Nat) (self : cC) (x0 x1 x2 : AV) (h : aB) : Option (AV × aB) := fG (
 aC (gB x0 h) fun v0 h0 =>
 aC (pu h0 (aA 0 v0)) fun v1 h1 =>
 aC (pu h1 (aD G false 1 v1 h1)) fun v2 h2 =>
 aC (pu h2 (aW Tryd.prog .eql 3 true v2 (.int .i64 3))) fun v3 h3 =>
 aX v3
 (aC (pu h3 (dM .i64 x1)) fun v4 h4 =>
 aC (pu h4 (dM .i64 x2)) fun v5 h5 =>
 aC (aU (dZ.f G k) [v4, v5] h5) fun v6 h6 =>
 aC (pu h6 (cY v6 0)) fun v7 h7 =>
 aC (pu h7 (cY v6 1)) fun v8 h8 =>
 aC (aU (cP.f G k) [v7, v8] h8) fun v9 h9 =>
 aC (pu h9 (cY v9 0)) fun v10 h10 =>
 aC (pu h10 (cY v9 1)) fun v11 h11 =>
 cF [v10, v11] h.length h11)
 (aC (pu h3 (aW Tryd.prog .eql 3 true v2 (.int .i64 4))) fun v12 h12 =>
 aX v12
 (aC (pu h12 (dM .i64 x1)) fun v13 h13 =>
 aC (pu h13 (dM .i64 x2)) fun v14 h14 =>
 aC (aU (dL.f G k) [v13, v14] h14) fun v15 h15 =>
 aC (pu h15 (cY v15 0)) fun v16 h16 =>
 aC (pu h16 (cY v15 1)) fun v17 h17 =>
 aC (aU (cP.f G k) [v16, v17] h17) fun v18 h18 =>
 aC (pu h18 (cY v18 0)) fun v19 h19 =>
 aC (pu h19 (cY v18 1)) fun v20 h20 =>
 cF [v19, v20] h.length h20)
 (aC (pu h12 (aW Tryd.prog .eql 3 true v2 (.int .i64 5))) fun v21 h21 =>
 aX v21
 (aC (pu h21 (dM .i64 x1)) fun v22 h22 =>
 aC (pu h22 (dM .i64 x2)) fun v23 h23 =>
 aC (aU (cO.f G k) [v22, v23] h23) fun v24 h24 =>
 aC (pu h24 (cY v24 0)) fun v25 h25 =>
 aC (pu h25 (cY v24 1)) fun v26 h26 =>
 aC (aU (cP.f G k) [v25, v26] h26) fun v27 h27 =>
 aC (pu h27 (cY v27 0)) fun v28 h28 =>
 aC (pu h28 (cY v27 1)) fun v29 h29 =>
 cF [v28, v29] h.length h29)
 (aC (pu h21 (aW Tryd.prog .eql 3 true v2 (.int .i64 10))) fun v30 h30 =>
 aX v30
 (aC (pu h30 (aA 5 v0)) fun v31 h31 =>
 aC (pu h31 (aD G false 1 v31 h31)) fun v32 h32 =>
 aC (pu h32 (aW Tryd.prog .lss 2 true v32 (.int .i64 0))) fun v33 h33 =>
 aC (gd v33 false h33 (pu h33 (aA 5 v0))) fun v34 h34 =>
 aC (gd v33 false h34 (pu h34 (aD G false 1 v34 h34))) fun v35 h35 =>
 aC (gd v33 false h35 (pu h35 (aW Tryd.prog .gtr 2 true v35 (.int .i64 63)))) fun v36 h36 =>
 aC (pu h36 (eG v33 (.bool true) v36)) fun v37 h37 =>
 aX v37
 (cF [(.int .i64 0), (.bool false)] h.length h37)
 (aC (pu h37 (dM .i64 x1)) fun v38 h38 =>
 aC (pu h38 (aA 5 v0)) fun v39 h39 =>
 aC (pu h39 (aD G false 1 v39 h39)) fun v40 h40 =>
 aC (pu h40 (dM .u64 v40)) fun v41 h41 =>
 aC (pu h41 (aW Tryd.prog .shl 2 false v38 v41)) fun v42 h42 =>
 aC (pu h42 (aA 5 v0)) fun v43 h43 =>
 aC (pu h43 (aD G false 1 v43 h43)) fun v44 h44 =>
 aC (pu h44 (dM .u64 v44)) fun v45 h45 =>
 aC (pu h45 (aW Tryd.prog .shr 2 false v42 v45)) fun v46 h46 =>
 aC (pu h46 (dM .i64 x1)) fun v47 h47 =>
 aC (pu h47 (aW Tryd.prog .eql 2 false v46 v47)) fun v48 h48 =>
 aC (aU (cP.f G k) [v42, v48] h48) fun v49 h49 =>
 aC (pu h49 (cY v49 0)) fun v50 h50 =>
 aC (pu h50 (cY v49 1)) fun v51 h51 =>
 cF [v50, v51] h.length h51))
 (cF [(.int .i64 0), (.bool false)] h.length h30)))))
noncomputable def dH.f (G : aF) : Nat → cC
 | 0 => fun _ _ => none
 | k + 1 => fun args h => vB args fun x0 x1 x2 => (dH.c G k (dH.f G k) x0 x1 x2 h)
noncomputable def cA.ann : Ann := fC [] [] [] []
noncomputable def cA.env (G : aF) (k : Nat) (self : cC) : List (Nat × Bool × cC) := [(85, true, cB.f G k)]
noncomputable def cA.c (G : aF) (k : Nat) (self : cC) (x0 x1 x2 x3 : AV) (h : aB) : Option (AV × aB) := fG (
 aC (gB x0 h) fun v0 h0 =>
 aC (pu h0 (aA 5 v0)) fun v1 h1 =>
 aC (pu h1 (aD G false 1 v1 h1)) fun v2 h2 =>
 aC (pu h2 (aW Tryd.prog .and 2 true v2 (.int .i64 63))) fun v3 h3 =>
 aC (pu h3 (dM .u64 v3)) fun v4 h4 =>
 aC (pu h4 (aA 5 v0)) fun v5 h5 =>
 aC (pu h5 (aD G false 1 v5 h5)) fun v6 h6 =>
 aC (pu h6 (aW Tryd.prog .geq 2 true v6 (.int .i64 0))) fun v7 h7 =>
 aC (gd v7 true h7 (pu h7 (aA 5 v0))) fun v8 h8 =>
 aC (gd v7 true h8 (pu h8 (aD G false 1 v8 h8))) fun v9 h9 =>
 aC (gd v7 true h9 (pu h9 (aW Tryd.prog .leq 2 true v9 (.int .i64 63)))) fun v10 h10 =>
 aC (pu h10 (eG v7 v10 (.bool false))) fun v11 h11 =>
 aC (pu h11 (aA 0 v0)) fun v12 h12 =>
 aC (pu h12 (aD G false 1 v12 h12)) fun v13 h13 =>
 aC (pu h13 (aW Tryd.prog .eql 3 true v13 (.int .i64 1))) fun v14 h14 =>
 aX v14
 (aC (pu h14 (aA 5 v0)) fun v15 h15 =>
 aC (pu h15 (aD G false 1 v15 h15)) fun v16 h16 =>
 aC (pu h16 (dM .u64 v16)) fun v17 h17 =>
 cF [v17, (.bool true)] h.length h17)
 (aC (pu h14 (aW Tryd.prog .eql 3 true v13 (.int .i64 2))) fun v18 h18 =>
 aX v18
 (cF [x1, (.bool true)] h.length h18)
 (aC (pu h18 (aW Tryd.prog .eql 3 true v13 (.int .i64 3))) fun v19 h19 =>
 aX v19
 (aC (pu h19 (aW Tryd.prog .add 30 false x1 x2)) fun v20 h20 =>
 cF [v20, (.bool true)] h.length h20)
 (aC (pu h19 (aW Tryd.prog .eql 3 true v13 (.int .i64 4))) fun v21 h21 =>
 aX v21
 (aC (pu h21 (aW Tryd.prog .sub 30 false x1 x2)) fun v22 h22 =>
 cF [v22, (.bool true)] h.length h22)
 (aC (pu h21 (aW Tryd.prog .eql 3 true v13 (.int .i64 5))) fun v23 h23 =>
 aX v23
 (aC (pu h23 (aW Tryd.prog .mul 30 false x1 x2)) fun v24 h24 =>
 cF [v24, (.bool true)] h.length h24)
 (aC (pu h23 (aW Tryd.prog .eql 3 true v13 (.int .i64 6))) fun v25 h25 =>
 aX v25
 (aC (aU (cB.f G k) [x1, x2] h25) fun v26 h26 =>
 aC (pu h26 (cY v26 0)) fun v27 h27 =>
 aC (pu h27 (cY v26 1)) fun v28 h28 =>
 cF [v27, (.bool true)] h.length h28)
 (aC (pu h25 (aW Tryd.prog .eql 3 true v13 (.int .i64 7))) fun v29 h29 =>
 aX v29
 (aC (pu h29 (aW Tryd.prog .and 30 false x1 x2)) fun v30 h30 =>
 cF [v30, (.bool true)] h.length h30)
 (aC (pu h29 (aW Tryd.prog .eql 3 true v13 (.int .i64 8))) fun v31 h31 =>
 aX v31
 (aC (pu h31 (aW Tryd.prog .or 30 false x1 x2)) fun v32 h32 =>
 cF [v32, (.bool true)] h.length h32)
 (aC (pu h31 (aW Tryd.prog .eql 3 true v13 (.int .i64 9))) fun v33 h33 =>
 aX v33
 (aC (pu h33 (aW Tryd.prog .xor 30 false x1 x2)) fun v34 h34 =>
 cF [v34, (.bool true)] h.length h34)
 (aC (pu h33 (aW Tryd.prog .eql 3 true v13 (.int .i64 13))) fun v35 h35 =>
 aX v35
 (aC (pu h35 (aW Tryd.prog .lss 30 false x1 x2)) fun v36 h36 =>
 aX v36
 (cF [(.int .u64 1), (.bool true)] h.length h36)
 (cF [(.int .u64 0), (.bool true)] h.length h36))
 (aC (pu h35 (aW Tryd.prog .eql 3 true v13 (.int .i64 14))) fun v37 h37 =>
 aX v37
 (aC (pu h37 (aW Tryd.prog .neq 30 true x1 (.int .u64 0))) fun v38 h38 =>
 aX v38
 (cF [x2, (.bool true)] h.length h38)
 (cF [x3, (.bool true)] h.length h38))
 (aC (pu h37 (un .not v11)) fun v39 h39 =>
 aX v39
 (cF [(.int .u64 0), (.bool false)] h.length h39)
 (aC (pu h39 (aA 0 v0)) fun v40 h40 =>
 aC (pu h40 (aD G false 1 v40 h40)) fun v41 h41 =>
 aC (pu h41 (aW Tryd.prog .eql 3 true v41 (.int .i64 10))) fun v42 h42 =>
 aX v42
 (aC (pu h42 (aW Tryd.prog .shl 30 false x1 v4)) fun v43 h43 =>
 cF [v43, (.bool true)] h.length h43)
 (aC (pu h42 (aW Tryd.prog .eql 3 true v41 (.int .i64 11))) fun v44 h44 =>
 aX v44
 (aC (pu h44 (aW Tryd.prog .shr 30 false x1 v4)) fun v45 h45 =>
 cF [v45, (.bool true)] h.length h45)
 (aC (pu h44 (aW Tryd.prog .eql 3 true v41 (.int .i64 12))) fun v46 h46 =>
 aX v46
 (aC (pu h46 (dM .i64 x1)) fun v47 h47 =>
 aC (pu h47 (aW Tryd.prog .shr 2 false v47 v4)) fun v48 h48 =>
 aC (pu h48 (dM .u64 v48)) fun v49 h49 =>
 cF [v49, (.bool true)] h.length h49)
 (cF [(.int .u64 0), (.bool false)] h.length h46))))))))))))))))
noncomputable def cA.f (G : aF) : Nat → cC
 | 0 => fun _ _ => none
 | k + 1 => fun args h => aBS args fun x0 x1 x2 x3 => (cA.c G k (cA.f G k) x0 x1 x2 x3 h)
theorem cA.step (G : aF) (k : Nat) (x0 x1 x2 x3 : AV) (h : aB) : cA.f G (k + 1) [x0, x1, x2, x3] h = cA.c G k (cA.f G k) x0 x1 x2 x3 h := rfl
noncomputable def bK.ann : Ann := aDN [] [] [(4, [1, 3, 4, 8, 9, 10, 11])] [(22, [1, 3, 4, 8, 9, 10, 12, 13, 14, 15]), (38, [1, 3, 4, 8, 9, 10, 11, 12, 13, 14, 15, 71, 186]), (26, [1, 3, 4, 8, 9, 10, 11, 12, 13, 14, 15, 71, 142])] [(4, [(8, 2, 91, 2), (9, 2, 91, 2)])] []
noncomputable def bK.env (G : aF) (k : Nat) (self : cC) : List (Nat × Bool × cC) := [(12, false, bP.f G k), (48, true, dK.f G k), (49, true, dH.f G k), (50, true, cA.f G k)]
noncomputable def bK.l4 (G : aF) (k n0 : Nat) (self : cC) (lp : eY) : eY := fun xs h0 => iZ n0 xs h0 fun h =>
 aC (pu h (aA 0 (aG xs 2))) fun v11 h11 =>
 aC (pu h11 (aD G false 1 v11 h11)) fun v12 h12 =>
 aC (pu h12 (dN v12)) fun v13 h13 =>
 aC (pu h13 (aW Tryd.prog .geq 3 false (aG xs 6) v13)) fun v14 h14 =>
 aX v14
 (aC (pu h14 (aA 0 (aG xs 4))) fun v15 h15 =>
 aC (fP (aT 1 v15 (.int .i64 3) h15)) fun v16 h16 =>
 aC (pu h16 (aD G true 5 (aG xs 4) h16)) fun v17 h17 =>
 aC (fP (aT 5 (aG xs 3) v17 h17)) fun v18 h18 =>
 some (.ret, [(aG xs 0), (aG xs 1), (aG xs 2), (aG xs 3), (aG xs 4), (aG xs 5), (aG xs 6)], h18))
 (aC (pu h14 (aA 3 (aG xs 4))) fun v19 h19 =>
 aC (pu h19 (aD G false 1 v19 h19)) fun v20 h20 =>
 aC (pu h20 (aW Tryd.prog .geq 2 false v20 (aG xs 1))) fun v21 h21 =>
 aX v21
 (aC (pu h21 (aA 0 (aG xs 4))) fun v22 h22 =>
 aC (fP (aT 1 v22 (.int .i64 4) h22)) fun v23 h23 =>
 aC (pu h23 (aD G true 5 (aG xs 4) h23)) fun v24 h24 =>
 aC (fP (aT 5 (aG xs 3) v24 h24)) fun v25 h25 =>
 some (.ret, [(aG xs 0), (aG xs 1), (aG xs 2), (aG xs 3), (aG xs 4), (aG xs 5), (aG xs 6)], h25))
 (aC (pu h21 (aA 0 (aG xs 2))) fun v26 h26 =>
 aC (pu h26 (aD G false 1 v26 h26)) fun v27 h27 =>
 aC (pu h27 (aM 6 v27 (aG xs 6))) fun v28 h28 =>
 aC (pu h28 (aD G true 6 v28 h28)) fun v29 h29 =>
 aC (fV 29 (.agg [(.int .i64 0), (.int .i64 0), (.int .i64 0), (.int .i64 0), (.int .i64 0), (.int .i64 0)]) h29) fun v30 h30 =>
 aC (fP (aT 6 v30 v29 h30)) fun v31 h31 =>
 aC (pu h31 (aA 3 (aG xs 4))) fun v32 h32 =>
 aC (pu h32 (aD G false 1 v32 h32)) fun v33 h33 =>
 aC (pu h33 (aW Tryd.prog .add 2 true v33 (.int .i64 1))) fun v34 h34 =>
 aC (pu h34 (aA 3 (aG xs 4))) fun v35 h35 =>
 aC (fP (aT 1 v35 v34 h35)) fun v36 h36 =>
 aC (pu h36 (aA 2 (aG xs 4))) fun v37 h37 =>
 aC (pu h37 (aD G false 1 v37 h37)) fun v38 h38 =>
 aC (pu h38 (cX [(0, 1), (1, 1)] [(.int .i64 0), (.int .i64 0)] [(0, (.int .i64 1)), (1, (aG xs 6))])) fun v39 h39 =>
 aC (fS 2 1 (.agg [(.int .i64 0), (.int .i64 0)]) [(0, v39)] h39) fun v40 h40 =>
 aC (fY 91 2 v38 v40 h40) fun v41 h41 =>
 aC (pu h41 (aA 2 (aG xs 4))) fun v42 h42 =>
 aC (fP (aT 1 v42 v41 h42)) fun v43 h43 =>
 aC (pu h43 (aA 2 v30)) fun v44 h44 =>
 aC (pu h44 (aD G false 1 v44 h44)) fun v45 h45 =>
 aC (pu h45 (aM 1 (aG xs 5) v45)) fun v46 h46 =>
 aC (pu h46 (aD G false 1 v46 h46)) fun v47 h47 =>
 aC (pu h47 (aA 3 v30)) fun v48 h48 =>
 aC (pu h48 (aD G false 1 v48 h48)) fun v49 h49 =>
 aC (pu h49 (aM 1 (aG xs 5) v49)) fun v50 h50 =>
 aC (pu h50 (aD G false 1 v50 h50)) fun v51 h51 =>
 aC (pu h51 (aW Tryd.prog .add 3 true (aG xs 6) (.int .i64 1))) fun v52 h52 =>
 aC (pu h52 (aA 0 v30)) fun v53 h53 =>
 aC (pu h53 (aD G false 1 v53 h53)) fun v54 h54 =>
 eQ (
 aC (pu h54 (aW Tryd.prog .eql 3 true v54 (.int .i64 15))) fun v55 h55 =>
 aX v55
 (some (.normal, [(aG xs 0), (aG xs 1), (aG xs 2), (aG xs 3), (aG xs 4), (aG xs 5), (aG xs 6), v30, v47, v51, v52, v54, v55], h55))
 (aC (pu h55 (aW Tryd.prog .eql 3 true v54 (.int .i64 16))) fun v56 h56 =>
 some (.normal, [(aG xs 0), (aG xs 1), (aG xs 2), (aG xs 3), (aG xs 4), (aG xs 5), (aG xs 6), v30, v47, v51, v52, v54, v56], h56))) fun e57 x57 h57 => iL e57
 (aX (aG x57 12)
 (aC (pu h57 (aA 5 (aG x57 7))) fun v58 h58 =>
 aC (pu h58 (aD G false 1 v58 h58)) fun v59 h59 =>
 aC (pu h59 (dM .u64 v59)) fun v60 h60 =>
 aC (pu h60 (aW Tryd.prog .add 30 false (aG x57 8) v60)) fun v61 h61 =>
 aC (pu h61 (aA 2 (aG x57 4))) fun v62 h62 =>
 aC (pu h62 (aD G false 1 v62 h62)) fun v63 h63 =>
 aC (pu h63 (dM .i64 v61)) fun v64 h64 =>
 aC (pu h64 (cX [(0, 1), (1, 1)] [(.int .i64 0), (.int .i64 0)] [(0, (.int .i64 3)), (1, v64)])) fun v65 h65 =>
 aC (fS 2 1 (.agg [(.int .i64 0), (.int .i64 0)]) [(0, v65)] h65) fun v66 h66 =>
 aC (fY 91 2 v63 v66 h66) fun v67 h67 =>
 aC (pu h67 (aA 2 (aG x57 4))) fun v68 h68 =>
 aC (fP (aT 1 v68 v67 h68)) fun v69 h69 =>
 aC (pu h69 (aA 2 (aG x57 2))) fun v70 h70 =>
 aC (pu h70 (aD G false 1 v70 h70)) fun v71 h71 =>
 aC (pu h71 (dM .u64 v71)) fun v72 h72 =>
 aC (pu h72 (aW Tryd.prog .geq 30 false v61 v72)) fun v73 h73 =>
 aX v73
 (aC (pu h73 (aA 0 (aG x57 4))) fun v74 h74 =>
 aC (fP (aT 1 v74 (.int .i64 3) h74)) fun v75 h75 =>
 aC (pu h75 (aD G true 5 (aG x57 4) h75)) fun v76 h76 =>
 aC (fP (aT 5 (aG x57 3) v76 h76)) fun v77 h77 =>
 some (.ret, [(aG x57 0), (aG x57 1), (aG x57 2), (aG x57 3), (aG x57 4), (aG x57 5), (aG x57 6)], h77))
 (aC (pu h73 (aA 0 (aG x57 7))) fun v78 h78 =>
 aC (pu h78 (aD G false 1 v78 h78)) fun v79 h79 =>
 aC (pu h79 (aW Tryd.prog .eql 3 true v79 (.int .i64 15))) fun v80 h80 =>
 aX v80
 (aC (pu h80 (aA 1 (aG x57 7))) fun v81 h81 =>
 aC (pu h81 (aD G false 1 v81 h81)) fun v82 h82 =>
 aC (pu h82 (aA 1 (aG x57 4))) fun v83 h83 =>
 aC (pu h83 (aD G false 1 v83 h83)) fun v84 h84 =>
 aC (pu h84 (aM 1 v84 v61)) fun v85 h85 =>
 aC (pu h85 (aD G false 1 v85 h85)) fun v86 h86 =>
 aC (pu h86 (aM 1 (aG x57 5) v82)) fun v87 h87 =>
 aC (fP (aT 1 v87 v86 h87)) fun v88 h88 =>
 lp [(aG x57 0), (aG x57 1), (aG x57 2), (aG x57 3), (aG x57 4), (aG x57 5), (aG x57 10)] h88)
 (aC (pu h80 (aA 1 (aG x57 4))) fun v89 h89 =>
 aC (pu h89 (aD G false 1 v89 h89)) fun v90 h90 =>
 aC (pu h90 (aM 1 v90 v61)) fun v91 h91 =>
 aC (fP (aT 1 v91 (aG x57 9) h91)) fun v92 h92 =>
 lp [(aG x57 0), (aG x57 1), (aG x57 2), (aG x57 3), (aG x57 4), (aG x57 5), (aG x57 10)] h92)))
 (aC (pu h57 (aW Tryd.prog .eql 3 true (aG x57 11) (.int .i64 17))) fun v93 h93 =>
 aX v93
 (aC (pu h93 (aA 5 (aG x57 7))) fun v94 h94 =>
 aC (pu h94 (aD G false 1 v94 h94)) fun v95 h95 =>
 lp [(aG x57 0), (aG x57 1), (aG x57 2), (aG x57 3), (aG x57 4), (aG x57 5), v95] h95)
 (eQ (
 aC (pu h93 (aW Tryd.prog .eql 3 true (aG x57 11) (.int .i64 18))) fun v96 h96 =>
 aX v96
 (some (.normal, [(aG x57 0), (aG x57 1), (aG x57 2), (aG x57 3), (aG x57 4), (aG x57 5), (aG x57 6), (aG x57 7), (aG x57 8), (aG x57 9), (aG x57 10), (aG x57 11), v96], h96))
 (aC (pu h96 (aW Tryd.prog .eql 3 true (aG x57 11) (.int .i64 19))) fun v97 h97 =>
 some (.normal, [(aG x57 0), (aG x57 1), (aG x57 2), (aG x57 3), (aG x57 4), (aG x57 5), (aG x57 6), (aG x57 7), (aG x57 8), (aG x57 9), (aG x57 10), (aG x57 11), v97], h97))) fun e98 x98 h98 => iL e98
 (aX (aG x98 12)
 (aC (pu h98 (aW Tryd.prog .eql 30 true (aG x98 8) (.int .u64 0))) fun v99 h99 =>
 aC (pu h99 (aA 0 (aG x98 7))) fun v100 h100 =>
 aC (pu h100 (aD G false 1 v100 h100)) fun v101 h101 =>
 aC (pu h101 (aW Tryd.prog .eql 3 true v101 (.int .i64 18))) fun v102 h102 =>
 aC (pu h102 (aW Tryd.prog .eql 4 false v99 v102)) fun v103 h103 =>
 aC (pu h103 (aA 2 (aG x98 4))) fun v104 h104 =>
 aC (pu h104 (aD G false 1 v104 h104)) fun v105 h105 =>
 aC (aU (dK.f G k) [v103] h105) fun v106 h106 =>
 aC (pu h106 (cX [(0, 1), (1, 1)] [(.int .i64 0), (.int .i64 0)] [(0, (.int .i64 2)), (1, v106)])) fun v107 h107 =>
 aC (fS 2 1 (.agg [(.int .i64 0), (.int .i64 0)]) [(0, v107)] h107) fun v108 h108 =>
 aC (fY 91 2 v105 v108 h108) fun v109 h109 =>
 aC (pu h109 (aA 2 (aG x98 4))) fun v110 h110 =>
 aC (fP (aT 1 v110 v109 h110)) fun v111 h111 =>
 aX v103
 (aC (pu h111 (aA 5 (aG x98 7))) fun v112 h112 =>
 aC (pu h112 (aD G false 1 v112 h112)) fun v113 h113 =>
 lp [(aG x98 0), (aG x98 1), (aG x98 2), (aG x98 3), (aG x98 4), (aG x98 5), v113] h113)
 (lp [(aG x98 0), (aG x98 1), (aG x98 2), (aG x98 3), (aG x98 4), (aG x98 5), (aG x98 10)] h111))
 (aC (pu h98 (aW Tryd.prog .eql 3 true (aG x98 11) (.int .i64 20))) fun v114 h114 =>
 aX v114
 (aC (pu h114 (aA 5 (aG x98 7))) fun v115 h115 =>
 aC (pu h115 (aD G false 1 v115 h115)) fun v116 h116 =>
 aC (pu h116 (aA 0 (aG x98 4))) fun v117 h117 =>
 aC (fP (aT 1 v117 v116 h117)) fun v118 h118 =>
 aC (pu h118 (aD G true 5 (aG x98 4) h118)) fun v119 h119 =>
 aC (fP (aT 5 (aG x98 3) v119 h119)) fun v120 h120 =>
 some (.ret, [(aG x98 0), (aG x98 1), (aG x98 2), (aG x98 3), (aG x98 4), (aG x98 5), (aG x98 6)], h120))
 (eQ (
 aC (pu h114 (dN (aG x98 0))) fun v121 h121 =>
 aC (pu h121 (aW Tryd.prog .gtr 3 true v121 (.int .i64 0))) fun v122 h122 =>
 aC (gd v122 true h122 (pu h122 (aA 4 (aG x98 4)))) fun v123 h123 =>
 aC (gd v122 true h123 (pu h123 (aD G false 1 v123 h123))) fun v124 h124 =>
 aC (gd v122 true h124 (pu h124 (aW Tryd.prog .lss 3 true v124 (.int .i64 0)))) fun v125 h125 =>
 aC (pu h125 (eG v122 v125 (.bool false))) fun v126 h126 =>
 aC (gd v126 true h126 (pu h126 (aA 0 (aG x98 7)))) fun v127 h127 =>
 aC (gd v126 true h127 (pu h127 (aD G false 1 v127 h127))) fun v128 h128 =>
 aC (gd v126 true h128 (pu h128 (aW Tryd.prog .geq 3 true v128 (.int .i64 3)))) fun v129 h129 =>
 aC (gd v126 true h129 (some (v129, h129))) fun v130 h130 =>
 aC (gd v130 true h130 (pu h130 (aA 0 (aG x98 7)))) fun v131 h131 =>
 aC (gd v130 true h131 (pu h131 (aD G false 1 v131 h131))) fun v132 h132 =>
 aC (gd v130 true h132 (pu h132 (aW Tryd.prog .leq 3 true v132 (.int .i64 5)))) fun v133 h133 =>
 aC (gd v126 true h133 (pu h133 (eG v130 v133 (.bool false)))) fun v134 h134 =>
 aC (gd v126 true h134 (some (v134, h134))) fun v135 h135 =>
 aC (gd v135 false h135 (pu h135 (aA 0 (aG x98 7)))) fun v136 h136 =>
 aC (gd v135 false h136 (pu h136 (aD G false 1 v136 h136))) fun v137 h137 =>
 aC (gd v135 false h137 (pu h137 (aW Tryd.prog .eql 3 true v137 (.int .i64 10)))) fun v138 h138 =>
 aC (gd v126 true h138 (pu h138 (eG v135 (.bool true) v138))) fun v139 h139 =>
 aC (pu h139 (eG v126 v139 (.bool false))) fun v140 h140 =>
 aX v140
 (aC (pu h140 (aD G true 6 (aG x98 7) h140)) fun v141 h141 =>
 aC (aU (dH.f G k) [v141, (aG x98 8), (aG x98 9)] h141) fun v142 h142 =>
 aC (pu h142 (cY v142 0)) fun v143 h143 =>
 aC (pu h143 (cY v142 1)) fun v144 h144 =>
 aC (pu h144 (un .not v144)) fun v145 h145 =>
 aC (gd v145 false h145 (some (v143, h145))) fun v146 h146 =>
 aC (gd v145 false h146 (some ((aG x98 0), h146))) fun v147 h147 =>
 aC (gd v145 false h147 (some ((aG x98 6), h147))) fun v148 h148 =>
 aC (gd v145 false h148 (pu h148 (aM 2 v147 v148))) fun v149 h149 =>
 aC (gd v145 false h149 (pu h149 (aA 0 v149))) fun v150 h150 =>
 aC (gd v145 false h150 (pu h150 (aD G false 1 v150 h150))) fun v151 h151 =>
 aC (gd v145 false h151 (pu h151 (aW Tryd.prog .lss 2 false v146 v151))) fun v152 h152 =>
 aC (pu h152 (eG v145 (.bool true) v152)) fun v153 h153 =>
 aC (gd v153 false h153 (some (v143, h153))) fun v154 h154 =>
 aC (gd v153 false h154 (some ((aG x98 0), h154))) fun v155 h155 =>
 aC (gd v153 false h155 (some ((aG x98 6), h155))) fun v156 h156 =>
 aC (gd v153 false h156 (pu h156 (aM 2 v155 v156))) fun v157 h157 =>
 aC (gd v153 false h157 (pu h157 (aA 1 v157))) fun v158 h158 =>
 aC (gd v153 false h158 (pu h158 (aD G false 1 v158 h158))) fun v159 h159 =>
 aC (gd v153 false h159 (pu h159 (aW Tryd.prog .gtr 2 false v154 v159))) fun v160 h160 =>
 aC (pu h160 (eG v153 (.bool true) v160)) fun v161 h161 =>
 aX v161
 (aC (pu h161 (aA 4 (aG x98 4))) fun v162 h162 =>
 aC (fP (aT 1 v162 (aG x98 6) h162)) fun v163 h163 =>
 aC (pu h163 (aD G true 5 (aG x98 4) h163)) fun v164 h164 =>
 aC (fP (aT 5 (aG x98 3) v164 h164)) fun v165 h165 =>
 some (.ret, [(aG x98 0), (aG x98 1), (aG x98 2), (aG x98 3), (aG x98 4), (aG x98 5), (aG x98 7), (aG x98 8), (aG x98 9), (aG x98 10)], h165))
 (some (.normal, [(aG x98 0), (aG x98 1), (aG x98 2), (aG x98 3), (aG x98 4), (aG x98 5), (aG x98 7), (aG x98 8), (aG x98 9), (aG x98 10)], h161)))
 (some (.normal, [(aG x98 0), (aG x98 1), (aG x98 2), (aG x98 3), (aG x98 4), (aG x98 5), (aG x98 7), (aG x98 8), (aG x98 9), (aG x98 10)], h140))) fun e166 x166 h166 => iL e166
 (aC (pu h166 (aD G true 6 (aG x166 6) h166)) fun v167 h167 =>
 aC (pu h167 (aA 4 (aG x166 6))) fun v168 h168 =>
 aC (pu h168 (aD G false 1 v168 h168)) fun v169 h169 =>
 aC (pu h169 (aM 1 (aG x166 5) v169)) fun v170 h170 =>
 aC (pu h170 (aD G false 1 v170 h170)) fun v171 h171 =>
 aC (aU (cA.f G k) [v167, (aG x166 7), (aG x166 8), v171] h171) fun v172 h172 =>
 aC (pu h172 (cY v172 0)) fun v173 h173 =>
 aC (pu h173 (cY v172 1)) fun v174 h174 =>
 aC (pu h174 (aA 1 (aG x166 6))) fun v175 h175 =>
 aC (pu h175 (aD G false 1 v175 h175)) fun v176 h176 =>
 aC (pu h176 (aM 1 (aG x166 5) v176)) fun v177 h177 =>
 aC (fP (aT 1 v177 v173 h177)) fun v178 h178 =>
 lp [(aG x166 0), (aG x166 1), (aG x166 2), (aG x166 3), (aG x166 4), (aG x166 5), (aG x166 9)] h178)
 (fun i166 => if i166 = 2 then (lp [(aG x166 0), (aG x166 1), (aG x166 2), (aG x166 3), (aG x166 4), (aG x166 5), (aG x166 9)] h166) else (if i166 = 1 then (lp [(aG x166 0), (aG x166 1), (aG x166 2), (aG x166 3), (aG x166 4), (aG x166 5), .undef] h166) else (some (.exit i166, [(aG x166 0), (aG x166 1), (aG x166 2), (aG x166 3), (aG x166 4), (aG x166 5), .undef], h166))))
 (some (.ret, [(aG x166 0), (aG x166 1), (aG x166 2), (aG x166 3), (aG x166 4), (aG x166 5), .undef], h166)))))
 (fun i98 => if i98 = 2 then (lp [(aG x98 0), (aG x98 1), (aG x98 2), (aG x98 3), (aG x98 4), (aG x98 5), (aG x98 10)] h98) else (if i98 = 1 then (lp [(aG x98 0), (aG x98 1), (aG x98 2), (aG x98 3), (aG x98 4), (aG x98 5), (aG x98 6)] h98) else (some (.exit i98, [(aG x98 0), (aG x98 1), (aG x98 2), (aG x98 3), (aG x98 4), (aG x98 5), (aG x98 6)], h98))))
 (some (.ret, [(aG x98 0), (aG x98 1), (aG x98 2), (aG x98 3), (aG x98 4), (aG x98 5), (aG x98 6)], h98)))))
 (fun i57 => if i57 = 2 then (lp [(aG x57 0), (aG x57 1), (aG x57 2), (aG x57 3), (aG x57 4), (aG x57 5), (aG x57 10)] h57) else (if i57 = 1 then (lp [(aG x57 0), (aG x57 1), (aG x57 2), (aG x57 3), (aG x57 4), (aG x57 5), (aG x57 6)] h57) else (some (.exit i57, [(aG x57 0), (aG x57 1), (aG x57 2), (aG x57 3), (aG x57 4), (aG x57 5), (aG x57 6)], h57))))
 (some (.ret, [(aG x57 0), (aG x57 1), (aG x57 2), (aG x57 3), (aG x57 4), (aG x57 5), (aG x57 6)], h57))))
noncomputable def bK.c (G : aF) (k : Nat) (self : cC) (x0 x1 x2 x3 : AV) (h : aB) : Option (AV × aB) := fG (
 aC (gB x0 h) fun v0 h0 =>
 aC (fV 38 (.agg [(.int .i64 0), .nils, .nils, (.int .i64 0), (.int .i64 0)]) h0) fun v1 h1 =>
 aC (bC (bP.f G k) [x2] h1) fun v2 h2 =>
 aC (pu h2 (cX [(0, 1), (1, 1), (2, 1), (3, 1), (4, 1)] [(.int .i64 0), .nils, .nils, (.int .i64 0), (.int .i64 0)] [(1, v2), (4, (.int .i64 (-1)))])) fun v3 h3 =>
 aC (fV 38 (.agg [(.int .i64 0), .nils, .nils, (.int .i64 0), (.int .i64 0)]) h3) fun v4 h4 =>
 aC (fP (aT 5 v4 v3 h4)) fun v5 h5 =>
 aC (pu h5 (aA 1 v0)) fun v6 h6 =>
 aC (pu h6 (aD G false 1 v6 h6)) fun v7 h7 =>
 aC (pu h7 (aW Tryd.prog .add 3 true v7 (.int .i64 1))) fun v8 h8 =>
 aC (fA 30 1 (.int .u64 0) v8 v8 h8) fun v9 h9 =>
 vK [(v1, 2, 91, 2), (v4, 2, 91, 2)] h9 fun hv10 =>
 eQ (dP (bK.l4 G k hv10.length self) k [x1, x3, v0, v1, v4, v9, (.int .i64 0)] hv10) fun e10 x10 h10 => iL e10
 (none)
 (fun i10 => if i10 = 0 then (hJ [aD G true 5 (aG x10 3) h10] h.length h10) else (none))
 (hJ [aD G true 5 (aG x10 3) h10] h.length h10))
noncomputable def bK.f (G : aF) : Nat → cC
 | 0 => fun _ _ => none
 | k + 1 => fun args h => aBS args fun x0 x1 x2 x3 => (bK.c G k (bK.f G k) x0 x1 x2 x3 h)
theorem bK.step (G : aF) (k : Nat) (x0 x1 x2 x3 : AV) (h : aB) : bK.f G (k + 1) [x0, x1, x2, x3] h = bK.c G k (bK.f G k) x0 x1 x2 x3 h := rfl
noncomputable def bS.ann : Ann := fC [] [] [] []
noncomputable def bS.env (G : aF) (k : Nat) (self : cC) : List (Nat × Bool × cC) := []
noncomputable def bS.c (G : aF) (k : Nat) (self : cC) (x0 : AV) (h : aB) : Option (AV × aB) := fG (
 aC (gB x0 h) fun v0 h0 =>
 aC (fV 40 (.agg [.nils, (.int .i64 0), (.int .i64 0)]) h0) fun v1 h1 =>
 aC (pu h1 (aA 0 v0)) fun v2 h2 =>
 aC (pu h2 (aD G false 1 v2 h2)) fun v3 h3 =>
 aC (pu h3 (aA 1 v0)) fun v4 h4 =>
 aC (pu h4 (aD G false 1 v4 h4)) fun v5 h5 =>
 aC (pu h5 (aA 2 v0)) fun v6 h6 =>
 aC (pu h6 (aD G false 1 v6 h6)) fun v7 h7 =>
 aC (pu h7 (cX [(0, 1), (1, 1), (2, 1)] [.nils, (.int .i64 0), (.int .i64 0)] [(0, v3), (1, v5), (2, v7)])) fun v8 h8 =>
 aC (fP (aT 3 v1 v8 h8)) fun v9 h9 =>
 hJ [aD G true 3 v1 h9] h.length h9)
noncomputable def bS.f (G : aF) : Nat → cC
 | 0 => fun _ _ => none
 | k + 1 => fun args h => lF args fun x0 => (bS.c G k (bS.f G k) x0 h)
theorem bS.step (G : aF) (k : Nat) (x0 : AV) (h : aB) : bS.f G (k + 1) [x0] h = bS.c G k (bS.f G k) x0 h := rfl
noncomputable def bY.ann : Ann := fC [] [] [] []
noncomputable def bY.env (G : aF) (k : Nat) (self : cC) : List (Nat × Bool × cC) := []
noncomputable def bY.c (G : aF) (k : Nat) (self : cC) (x0 x1 : AV) (h : aB) : Option (AV × aB) := fG (
 aC (fA 30 1 (.int .u64 0) x1 x1 h) fun v0 h0 =>
 aC (wE v0 x0 h0) fun v1 h1 =>
 cF [v0] h.length h1)
noncomputable def bY.f (G : aF) : Nat → cC
 | 0 => fun _ _ => none
 | k + 1 => fun args h => kC args fun x0 x1 => (bY.c G k (bY.f G k) x0 x1 h)
theorem bY.step (G : aF) (k : Nat) (x0 x1 : AV) (h : aB) : bY.f G (k + 1) [x0, x1] h = bY.c G k (bY.f G k) x0 x1 h := rfl
noncomputable def aZ.ann : Ann := fC [] [] [(4, [0, 1, 4, 5])] []
noncomputable def aZ.env (G : aF) (k : Nat) (self : cC) : List (Nat × Bool × cC) := []
noncomputable def aZ.l4 (G : aF) (k n0 : Nat) (self : cC) (lp : eY) : eY := fun xs h0 => iZ n0 xs h0 fun h =>
 aC (pu h (dN (aG xs 0))) fun v4 h4 =>
 aC (pu h4 (aW Tryd.prog .lss 3 false (aG xs 3) v4)) fun v5 h5 =>
 aX v5
 (aC (pu h5 (aM 1 (aG xs 0) (aG xs 3))) fun v6 h6 =>
 aC (pu h6 (aD G false 1 v6 h6)) fun v7 h7 =>
 aC (pu h7 (aM 1 (aG xs 1) (aG xs 3))) fun v8 h8 =>
 aC (pu h8 (aD G false 1 v8 h8)) fun v9 h9 =>
 aC (pu h9 (aW Tryd.prog .eql 30 false v7 v9)) fun v10 h10 =>
 aC (pu h10 (un .not v10)) fun v11 h11 =>
 aX v11
 (some (.ret, [(aG xs 0), (aG xs 1), (.bool false), (aG xs 3)], h11))
 (aC (pu h11 (aW Tryd.prog .add 3 true (aG xs 3) (.int .i64 1))) fun v12 h12 =>
 lp [(aG xs 0), (aG xs 1), (aG xs 2), v12] h12))
 (some (.exit 0, [(aG xs 0), (aG xs 1), (aG xs 2), (aG xs 3)], h5))
noncomputable def aZ.c (G : aF) (k : Nat) (self : cC) (x0 x1 : AV) (h : aB) : Option (AV × aB) := fG (
 aC (pu h (dN x0)) fun v0 h0 =>
 aC (pu h0 (dN x1)) fun v1 h1 =>
 aC (pu h1 (aW Tryd.prog .neq 3 false v0 v1)) fun v2 h2 =>
 aX v2
 (cF [(.bool false)] h.length h2)
 (eQ (dP (aZ.l4 G k h2.length self) k [x0, x1, (.bool false), (.int .i64 0)] h2) fun e3 x3 h3 => iL e3
 (none)
 (fun i3 => if i3 = 0 then (cF [(.bool true)] h.length h3) else (none))
 (cF [(aG x3 2)] h.length h3)))
noncomputable def aZ.f (G : aF) : Nat → cC
 | 0 => fun _ _ => none
 | k + 1 => fun args h => kC args fun x0 x1 => (aZ.c G k (aZ.f G k) x0 x1 h)
theorem aZ.step (G : aF) (k : Nat) (x0 x1 : AV) (h : aB) : aZ.f G (k + 1) [x0, x1] h = aZ.c G k (aZ.f G k) x0 x1 h := rfl
noncomputable def cK.ann : Ann := fC [] [] [] []
noncomputable def cK.env (G : aF) (k : Nat) (self : cC) : List (Nat × Bool × cC) := []
noncomputable def cK.c (G : aF) (k : Nat) (self : cC) (x0 : AV) (h : aB) : Option (AV × aB) := fG (
 aC (fV 54 (.agg [(.int .i64 0), (.bool false), (.int .i64 0)]) h) fun v0 h0 =>
 aC (pu h0 (cX [(0, 1), (1, 1), (2, 1)] [(.int .i64 0), (.bool false), (.int .i64 0)] [(0, x0)])) fun v1 h1 =>
 aC (fP (aT 3 v0 v1 h1)) fun v2 h2 =>
 hJ [aD G true 3 v0 h2] h.length h2)
noncomputable def cK.f (G : aF) : Nat → cC
 | 0 => fun _ _ => none
 | k + 1 => fun args h => lF args fun x0 => (cK.c G k (cK.f G k) x0 h)
noncomputable def cT.ann : Ann := fC [] [] [] []
noncomputable def cT.env (G : aF) (k : Nat) (self : cC) : List (Nat × Bool × cC) := []
noncomputable def cT.c (G : aF) (k : Nat) (self : cC) (x0 : AV) (h : aB) : Option (AV × aB) := fG (
 aC (fV 104 (.agg [(.bool false), (.bool false), (.bool false), (.bool false), (.int .i64 0)]) h) fun v0 h0 =>
 aC (pu h0 (aW Tryd.prog .eql 3 true x0 (.int .i64 1))) fun v1 h1 =>
 aX v1
 (aC (pu h1 (cX [(0, 1), (1, 1), (2, 1), (3, 1), (4, 1)] [(.bool false), (.bool false), (.bool false), (.bool false), (.int .i64 0)] [(0, (.bool true)), (4, (.int .i64 1))])) fun v2 h2 =>
 aC (fP (aT 5 v0 v2 h2)) fun v3 h3 =>
 hJ [aD G true 5 v0 h3, some (.bool true)] h.length h3)
 (aC (pu h1 (aW Tryd.prog .eql 3 true x0 (.int .i64 2))) fun v4 h4 =>
 aX v4
 (aC (pu h4 (cX [(0, 1), (1, 1), (2, 1), (3, 1), (4, 1)] [(.bool false), (.bool false), (.bool false), (.bool false), (.int .i64 0)] [(0, (.bool true)), (1, (.bool true))])) fun v5 h5 =>
 aC (fP (aT 5 v0 v5 h5)) fun v6 h6 =>
 hJ [aD G true 5 v0 h6, some (.bool true)] h.length h6)
 (aC (pu h4 (aW Tryd.prog .geq 3 true x0 (.int .i64 3))) fun v7 h7 =>
 aC (gd v7 true h7 (some (x0, h7))) fun v8 h8 =>
 aC (gd v7 true h8 (pu h8 (aW Tryd.prog .leq 3 true v8 (.int .i64 9)))) fun v9 h9 =>
 aC (pu h9 (eG v7 v9 (.bool false))) fun v10 h10 =>
 aC (gd v10 false h10 (some (x0, h10))) fun v11 h11 =>
 aC (gd v10 false h11 (pu h11 (aW Tryd.prog .eql 3 true v11 (.int .i64 13)))) fun v12 h12 =>
 aC (pu h12 (eG v10 (.bool true) v12)) fun v13 h13 =>
 aX v13
 (aC (pu h13 (cX [(0, 1), (1, 1), (2, 1), (3, 1), (4, 1)] [(.bool false), (.bool false), (.bool false), (.bool false), (.int .i64 0)] [(0, (.bool true)), (1, (.bool true)), (2, (.bool true))])) fun v14 h14 =>
 aC (fP (aT 5 v0 v14 h14)) fun v15 h15 =>
 hJ [aD G true 5 v0 h15, some (.bool true)] h.length h15)
 (aC (pu h13 (aW Tryd.prog .geq 3 true x0 (.int .i64 10))) fun v16 h16 =>
 aC (gd v16 true h16 (some (x0, h16))) fun v17 h17 =>
 aC (gd v16 true h17 (pu h17 (aW Tryd.prog .leq 3 true v17 (.int .i64 12)))) fun v18 h18 =>
 aC (pu h18 (eG v16 v18 (.bool false))) fun v19 h19 =>
 aX v19
 (aC (pu h19 (cX [(0, 1), (1, 1), (2, 1), (3, 1), (4, 1)] [(.bool false), (.bool false), (.bool false), (.bool false), (.int .i64 0)] [(0, (.bool true)), (1, (.bool true)), (4, (.int .i64 2))])) fun v20 h20 =>
 aC (fP (aT 5 v0 v20 h20)) fun v21 h21 =>
 hJ [aD G true 5 v0 h21, some (.bool true)] h.length h21)
 (aC (pu h19 (aW Tryd.prog .eql 3 true x0 (.int .i64 14))) fun v22 h22 =>
 aX v22
 (aC (pu h22 (cX [(0, 1), (1, 1), (2, 1), (3, 1), (4, 1)] [(.bool false), (.bool false), (.bool false), (.bool false), (.int .i64 0)] [(0, (.bool true)), (1, (.bool true)), (2, (.bool true)), (3, (.bool true))])) fun v23 h23 =>
 aC (fP (aT 5 v0 v23 h23)) fun v24 h24 =>
 hJ [aD G true 5 v0 h24, some (.bool true)] h.length h24)
 (aC (pu h22 (aW Tryd.prog .eql 3 true x0 (.int .i64 15))) fun v25 h25 =>
 aX v25
 (aC (pu h25 (cX [(0, 1), (1, 1), (2, 1), (3, 1), (4, 1)] [(.bool false), (.bool false), (.bool false), (.bool false), (.int .i64 0)] [(0, (.bool true)), (1, (.bool true)), (4, (.int .i64 3))])) fun v26 h26 =>
 aC (fP (aT 5 v0 v26 h26)) fun v27 h27 =>
 hJ [aD G true 5 v0 h27, some (.bool true)] h.length h27)
 (aC (pu h25 (aW Tryd.prog .eql 3 true x0 (.int .i64 16))) fun v28 h28 =>
 aX v28
 (aC (pu h28 (cX [(0, 1), (1, 1), (2, 1), (3, 1), (4, 1)] [(.bool false), (.bool false), (.bool false), (.bool false), (.int .i64 0)] [(1, (.bool true)), (2, (.bool true)), (4, (.int .i64 3))])) fun v29 h29 =>
 aC (fP (aT 5 v0 v29 h29)) fun v30 h30 =>
 hJ [aD G true 5 v0 h30, some (.bool true)] h.length h30)
 (aC (pu h28 (aW Tryd.prog .eql 3 true x0 (.int .i64 17))) fun v31 h31 =>
 aX v31
 (aC (pu h31 (cX [(0, 1), (1, 1), (2, 1), (3, 1), (4, 1)] [(.bool false), (.bool false), (.bool false), (.bool false), (.int .i64 0)] [(4, (.int .i64 4))])) fun v32 h32 =>
 aC (fP (aT 5 v0 v32 h32)) fun v33 h33 =>
 hJ [aD G true 5 v0 h33, some (.bool true)] h.length h33)
 (aC (pu h31 (aW Tryd.prog .eql 3 true x0 (.int .i64 18))) fun v34 h34 =>
 aC (gd v34 false h34 (some (x0, h34))) fun v35 h35 =>
 aC (gd v34 false h35 (pu h35 (aW Tryd.prog .eql 3 true v35 (.int .i64 19)))) fun v36 h36 =>
 aC (pu h36 (eG v34 (.bool true) v36)) fun v37 h37 =>
 aX v37
 (aC (pu h37 (cX [(0, 1), (1, 1), (2, 1), (3, 1), (4, 1)] [(.bool false), (.bool false), (.bool false), (.bool false), (.int .i64 0)] [(1, (.bool true)), (4, (.int .i64 4))])) fun v38 h38 =>
 aC (fP (aT 5 v0 v38 h38)) fun v39 h39 =>
 hJ [aD G true 5 v0 h39, some (.bool true)] h.length h39)
 (aC (pu h37 (aW Tryd.prog .eql 3 true x0 (.int .i64 20))) fun v40 h40 =>
 aX v40
 (aC (pu h40 (cX [(0, 1), (1, 1), (2, 1), (3, 1), (4, 1)] [(.bool false), (.bool false), (.bool false), (.bool false), (.int .i64 0)] [(4, (.int .i64 5))])) fun v41 h41 =>
 aC (fP (aT 5 v0 v41 h41)) fun v42 h42 =>
 hJ [aD G true 5 v0 h42, some (.bool true)] h.length h42)
 (aC (pu h40 (cX [(0, 1), (1, 1), (2, 1), (3, 1), (4, 1)] [(.bool false), (.bool false), (.bool false), (.bool false), (.int .i64 0)] [])) fun v43 h43 =>
 aC (fP (aT 5 v0 v43 h43)) fun v44 h44 =>
 hJ [aD G true 5 v0 h44, some (.bool false)] h.length h44)))))))))))
noncomputable def cT.f (G : aF) : Nat → cC
 | 0 => fun _ _ => none
 | k + 1 => fun args h => lF args fun x0 => (cT.c G k (cT.f G k) x0 h)
theorem cT.step (G : aF) (k : Nat) (x0 : AV) (h : aB) : cT.f G (k + 1) [x0] h = cT.c G k (cT.f G k) x0 h := rfl
noncomputable def bG.ann : Ann := fC [] [] [] []
noncomputable def bG.env (G : aF) (k : Nat) (self : cC) : List (Nat × Bool × cC) := []
noncomputable def bG.c (G : aF) (k : Nat) (self : cC) (x0 x1 x2 : AV) (h : aB) : Option (AV × aB) := fG (
 aC (gd x0 true h (some (x1, h))) fun v0 h0 =>
 aC (gd x0 true h0 (pu h0 (aW Tryd.prog .lss 3 true v0 (.int .i64 0)))) fun v1 h1 =>
 aC (gd x0 true h1 (some (v1, h1))) fun v2 h2 =>
 aC (gd v2 false h2 (some (x1, h2))) fun v3 h3 =>
 aC (gd v2 false h3 (some (x2, h3))) fun v4 h4 =>
 aC (gd v2 false h4 (pu h4 (aW Tryd.prog .geq 3 false v3 v4))) fun v5 h5 =>
 aC (gd x0 true h5 (pu h5 (eG v2 (.bool true) v5))) fun v6 h6 =>
 aC (pu h6 (eG x0 v6 (.bool false))) fun v7 h7 =>
 cF [v7] h.length h7)
noncomputable def bG.f (G : aF) : Nat → cC
 | 0 => fun _ _ => none
 | k + 1 => fun args h => vB args fun x0 x1 x2 => (bG.c G k (bG.f G k) x0 x1 x2 h)
theorem bG.step (G : aF) (k : Nat) (x0 x1 x2 : AV) (h : aB) : bG.f G (k + 1) [x0, x1, x2] h = bG.c G k (bG.f G k) x0 x1 x2 h := rfl
noncomputable def bM.ann : Ann := fC [] [] [] []
noncomputable def bM.env (G : aF) (k : Nat) (self : cC) : List (Nat × Bool × cC) := []
noncomputable def bM.c (G : aF) (k : Nat) (self : cC) (x0 x1 : AV) (h : aB) : Option (AV × aB) := fG (
 aC (pu h (aW Tryd.prog .geq 2 true x0 (.int .i64 0))) fun v0 h0 =>
 aC (gd v0 true h0 (some (x0, h0))) fun v1 h1 =>
 aC (gd v0 true h1 (some (x1, h1))) fun v2 h2 =>
 aC (gd v0 true h2 (pu h2 (aW Tryd.prog .lss 2 false v1 v2))) fun v3 h3 =>
 aC (pu h3 (eG v0 v3 (.bool false))) fun v4 h4 =>
 cF [v4] h.length h4)
noncomputable def bM.f (G : aF) : Nat → cC
 | 0 => fun _ _ => none
 | k + 1 => fun args h => kC args fun x0 x1 => (bM.c G k (bM.f G k) x0 x1 h)
theorem bM.step (G : aF) (k : Nat) (x0 x1 : AV) (h : aB) : bM.f G (k + 1) [x0, x1] h = bM.c G k (bM.f G k) x0 x1 h := rfl
noncomputable def cU.ann : Ann := fC [] [] [] []
noncomputable def cU.env (G : aF) (k : Nat) (self : cC) : List (Nat × Bool × cC) := []
noncomputable def cU.c (G : aF) (k : Nat) (self : cC) (h : aB) : Option (AV × aB) := fG (
 aC (fV 54 (.agg [(.int .i64 0), (.bool false), (.int .i64 0)]) h) fun v0 h0 =>
 aC (pu h0 (cX [(0, 1), (1, 1), (2, 1)] [(.int .i64 0), (.bool false), (.int .i64 0)] [])) fun v1 h1 =>
 aC (fP (aT 3 v0 v1 h1)) fun v2 h2 =>
 hJ [aD G true 3 v0 h2] h.length h2)
noncomputable def cU.f (G : aF) : Nat → cC
 | 0 => fun _ _ => none
 | k + 1 => fun args h => aGe args (cU.c G k (cU.f G k) h)
noncomputable def bV.ann : Ann := fC [] [] [] []
noncomputable def bV.env (G : aF) (k : Nat) (self : cC) : List (Nat × Bool × cC) := [(58, true, cU.f G k)]
noncomputable def bV.c (G : aF) (k : Nat) (self : cC) (x0 x1 : AV) (h : aB) : Option (AV × aB) := fG (
 aC (fV 54 (.agg [(.int .i64 0), (.bool false), (.int .i64 0)]) h) fun v0 h0 =>
 aC (pu h0 (aW Tryd.prog .eql 3 true x0 (.int .i64 0))) fun v1 h1 =>
 aX v1
 (aC (aU (cU.f G k) [] h1) fun v2 h2 =>
 aC (fP (aT 3 v0 v2 h2)) fun v3 h3 =>
 hJ [aD G true 3 v0 h3] h.length h3)
 (aC (pu h1 (cX [(0, 1), (1, 1), (2, 1)] [(.int .i64 0), (.bool false), (.int .i64 0)] [(0, x0), (1, (.bool true)), (2, x1)])) fun v4 h4 =>
 aC (fP (aT 3 v0 v4 h4)) fun v5 h5 =>
 hJ [aD G true 3 v0 h5] h.length h5))
noncomputable def bV.f (G : aF) : Nat → cC
 | 0 => fun _ _ => none
 | k + 1 => fun args h => kC args fun x0 x1 => (bV.c G k (bV.f G k) x0 x1 h)
theorem bV.step (G : aF) (k : Nat) (x0 x1 : AV) (h : aB) : bV.f G (k + 1) [x0, x1] h = bV.c G k (bV.f G k) x0 x1 h := rfl
noncomputable def bF.ann : Ann := fC [] [] [(4, [1, 2, 3])] [(5, [1, 2, 3]), (19, [1, 2, 3, 7])]
noncomputable def bF.env (G : aF) (k : Nat) (self : cC) : List (Nat × Bool × cC) := [(42, true, cK.f G k), (52, true, cT.f G k), (55, true, bG.f G k), (56, true, bM.f G k), (57, true, bV.f G k), (58, true, cU.f G k)]
noncomputable def bF.l4 (G : aF) (k n0 : Nat) (self : cC) (lp : eY) : eY := fun xs h0 => iZ n0 xs h0 fun h =>
 aC (pu h (aA 0 (aG xs 0))) fun v25 h25 =>
 aC (pu h25 (aD G false 1 v25 h25)) fun v26 h26 =>
 aC (pu h26 (dN v26)) fun v27 h27 =>
 aC (pu h27 (aW Tryd.prog .lss 3 false (aG xs 2) v27)) fun v28 h28 =>
 aX v28
 (eQ (
 aC (pu h28 (aA 0 (aG xs 0))) fun v29 h29 =>
 aC (pu h29 (aD G false 1 v29 h29)) fun v30 h30 =>
 aC (pu h30 (aM 6 v30 (aG xs 2))) fun v31 h31 =>
 aC (pu h31 (aD G true 6 v31 h31)) fun v32 h32 =>
 aC (fV 29 (.agg [(.int .i64 0), (.int .i64 0), (.int .i64 0), (.int .i64 0), (.int .i64 0), (.int .i64 0)]) h32) fun v33 h33 =>
 aC (fP (aT 6 v33 v32 h33)) fun v34 h34 =>
 aC (pu h34 (aA 0 v33)) fun v35 h35 =>
 aC (pu h35 (aD G false 1 v35 h35)) fun v36 h36 =>
 aC (aU (cT.f G k) [v36] h36) fun v37 h37 =>
 aC (pu h37 (cY v37 0)) fun v38 h38 =>
 aC (pu h38 (cY v37 1)) fun v39 h39 =>
 aC (fV 104 (.agg [(.bool false), (.bool false), (.bool false), (.bool false), (.int .i64 0)]) h39) fun v40 h40 =>
 aC (fP (aT 5 v40 v38 h40)) fun v41 h41 =>
 eQ (
 aC (pu h41 (un .not v39)) fun v42 h42 =>
 aX v42
 (some (.normal, [(aG xs 0), (aG xs 1), (aG xs 2), (.int .i64 106)], h42))
 (aC (pu h42 (aA 0 v40)) fun v43 h43 =>
 aC (pu h43 (aD G false 1 v43 h43)) fun v44 h44 =>
 aC (pu h44 (aA 1 v33)) fun v45 h45 =>
 aC (pu h45 (aD G false 1 v45 h45)) fun v46 h46 =>
 aC (pu h46 (aA 1 (aG xs 0))) fun v47 h47 =>
 aC (pu h47 (aD G false 1 v47 h47)) fun v48 h48 =>
 aC (aU (bG.f G k) [v44, v46, v48] h48) fun v49 h49 =>
 aC (gd v49 false h49 (pu h49 (aA 1 v40))) fun v50 h50 =>
 aC (gd v49 false h50 (pu h50 (aD G false 1 v50 h50))) fun v51 h51 =>
 aC (gd v49 false h51 (pu h51 (aA 2 v33))) fun v52 h52 =>
 aC (gd v49 false h52 (pu h52 (aD G false 1 v52 h52))) fun v53 h53 =>
 aC (gd v49 false h53 (pu h53 (aA 1 (aG xs 0)))) fun v54 h54 =>
 aC (gd v49 false h54 (pu h54 (aD G false 1 v54 h54))) fun v55 h55 =>
 aC (gd v49 false h55 (aU (bG.f G k) [v51, v53, v55] h55)) fun v56 h56 =>
 aC (pu h56 (eG v49 (.bool true) v56)) fun v57 h57 =>
 aC (gd v57 false h57 (pu h57 (aA 2 v40))) fun v58 h58 =>
 aC (gd v57 false h58 (pu h58 (aD G false 1 v58 h58))) fun v59 h59 =>
 aC (gd v57 false h59 (pu h59 (aA 3 v33))) fun v60 h60 =>
 aC (gd v57 false h60 (pu h60 (aD G false 1 v60 h60))) fun v61 h61 =>
 aC (gd v57 false h61 (pu h61 (aA 1 (aG xs 0)))) fun v62 h62 =>
 aC (gd v57 false h62 (pu h62 (aD G false 1 v62 h62))) fun v63 h63 =>
 aC (gd v57 false h63 (aU (bG.f G k) [v59, v61, v63] h63)) fun v64 h64 =>
 aC (pu h64 (eG v57 (.bool true) v64)) fun v65 h65 =>
 aC (gd v65 false h65 (pu h65 (aA 3 v40))) fun v66 h66 =>
 aC (gd v65 false h66 (pu h66 (aD G false 1 v66 h66))) fun v67 h67 =>
 aC (gd v65 false h67 (pu h67 (aA 4 v33))) fun v68 h68 =>
 aC (gd v65 false h68 (pu h68 (aD G false 1 v68 h68))) fun v69 h69 =>
 aC (gd v65 false h69 (pu h69 (aA 1 (aG xs 0)))) fun v70 h70 =>
 aC (gd v65 false h70 (pu h70 (aD G false 1 v70 h70))) fun v71 h71 =>
 aC (gd v65 false h71 (aU (bG.f G k) [v67, v69, v71] h71)) fun v72 h72 =>
 aC (pu h72 (eG v65 (.bool true) v72)) fun v73 h73 =>
 aX v73
 (some (.normal, [(aG xs 0), (aG xs 1), (aG xs 2), (.int .i64 101)], h73))
 (aC (pu h73 (aA 0 v40)) fun v74 h74 =>
 aC (pu h74 (aD G false 1 v74 h74)) fun v75 h75 =>
 aC (pu h75 (un .not v75)) fun v76 h76 =>
 aC (gd v76 true h76 (pu h76 (aA 1 v33))) fun v77 h77 =>
 aC (gd v76 true h77 (pu h77 (aD G false 1 v77 h77))) fun v78 h78 =>
 aC (gd v76 true h78 (pu h78 (aW Tryd.prog .neq 3 true v78 (.int .i64 0)))) fun v79 h79 =>
 aC (pu h79 (eG v76 v79 (.bool false))) fun v80 h80 =>
 aC (gd v80 false h80 (pu h80 (aA 1 v40))) fun v81 h81 =>
 aC (gd v80 false h81 (pu h81 (aD G false 1 v81 h81))) fun v82 h82 =>
 aC (gd v80 false h82 (pu h82 (un .not v82))) fun v83 h83 =>
 aC (gd v80 false h83 (some (v83, h83))) fun v84 h84 =>
 aC (gd v84 true h84 (pu h84 (aA 2 v33))) fun v85 h85 =>
 aC (gd v84 true h85 (pu h85 (aD G false 1 v85 h85))) fun v86 h86 =>
 aC (gd v84 true h86 (pu h86 (aW Tryd.prog .neq 3 true v86 (.int .i64 0)))) fun v87 h87 =>
 aC (gd v80 false h87 (pu h87 (eG v84 v87 (.bool false)))) fun v88 h88 =>
 aC (pu h88 (eG v80 (.bool true) v88)) fun v89 h89 =>
 aC (gd v89 false h89 (pu h89 (aA 2 v40))) fun v90 h90 =>
 aC (gd v89 false h90 (pu h90 (aD G false 1 v90 h90))) fun v91 h91 =>
 aC (gd v89 false h91 (pu h91 (un .not v91))) fun v92 h92 =>
 aC (gd v89 false h92 (some (v92, h92))) fun v93 h93 =>
 aC (gd v93 true h93 (pu h93 (aA 3 v33))) fun v94 h94 =>
 aC (gd v93 true h94 (pu h94 (aD G false 1 v94 h94))) fun v95 h95 =>
 aC (gd v93 true h95 (pu h95 (aW Tryd.prog .neq 3 true v95 (.int .i64 0)))) fun v96 h96 =>
 aC (gd v89 false h96 (pu h96 (eG v93 v96 (.bool false)))) fun v97 h97 =>
 aC (pu h97 (eG v89 (.bool true) v97)) fun v98 h98 =>
 aC (gd v98 false h98 (pu h98 (aA 3 v40))) fun v99 h99 =>
 aC (gd v98 false h99 (pu h99 (aD G false 1 v99 h99))) fun v100 h100 =>
 aC (gd v98 false h100 (pu h100 (un .not v100))) fun v101 h101 =>
 aC (gd v98 false h101 (some (v101, h101))) fun v102 h102 =>
 aC (gd v102 true h102 (pu h102 (aA 4 v33))) fun v103 h103 =>
 aC (gd v102 true h103 (pu h103 (aD G false 1 v103 h103))) fun v104 h104 =>
 aC (gd v102 true h104 (pu h104 (aW Tryd.prog .neq 3 true v104 (.int .i64 0)))) fun v105 h105 =>
 aC (gd v98 false h105 (pu h105 (eG v102 v105 (.bool false)))) fun v106 h106 =>
 aC (pu h106 (eG v98 (.bool true) v106)) fun v107 h107 =>
 aC (gd v107 false h107 (pu h107 (aA 4 v40))) fun v108 h108 =>
 aC (gd v107 false h108 (pu h108 (aD G false 1 v108 h108))) fun v109 h109 =>
 aC (gd v107 false h109 (pu h109 (aW Tryd.prog .eql 3 true v109 (.int .i64 0)))) fun v110 h110 =>
 aC (gd v107 false h110 (some (v110, h110))) fun v111 h111 =>
 aC (gd v111 true h111 (pu h111 (aA 5 v33))) fun v112 h112 =>
 aC (gd v111 true h112 (pu h112 (aD G false 1 v112 h112))) fun v113 h113 =>
 aC (gd v111 true h113 (pu h113 (aW Tryd.prog .neq 2 true v113 (.int .i64 0)))) fun v114 h114 =>
 aC (gd v107 false h114 (pu h114 (eG v111 v114 (.bool false)))) fun v115 h115 =>
 aC (pu h115 (eG v107 (.bool true) v115)) fun v116 h116 =>
 aX v116
 (some (.normal, [(aG xs 0), (aG xs 1), (aG xs 2), (.int .i64 104)], h116))
 (aC (pu h116 (aA 4 v40)) fun v117 h117 =>
 aC (pu h117 (aD G false 1 v117 h117)) fun v118 h118 =>
 aC (pu h118 (aW Tryd.prog .eql 3 true v118 (.int .i64 2))) fun v119 h119 =>
 aC (gd v119 true h119 (pu h119 (aA 5 v33))) fun v120 h120 =>
 aC (gd v119 true h120 (pu h120 (aD G false 1 v120 h120))) fun v121 h121 =>
 aC (gd v119 true h121 (aU (bM.f G k) [v121, (.int .i64 64)] h121)) fun v122 h122 =>
 aC (gd v119 true h122 (pu h122 (un .not v122))) fun v123 h123 =>
 aC (pu h123 (eG v119 v123 (.bool false))) fun v124 h124 =>
 aC (gd v124 false h124 (pu h124 (aA 4 v40))) fun v125 h125 =>
 aC (gd v124 false h125 (pu h125 (aD G false 1 v125 h125))) fun v126 h126 =>
 aC (gd v124 false h126 (pu h126 (aW Tryd.prog .eql 3 true v126 (.int .i64 5)))) fun v127 h127 =>
 aC (gd v124 false h127 (some (v127, h127))) fun v128 h128 =>
 aC (gd v128 true h128 (pu h128 (aA 5 v33))) fun v129 h129 =>
 aC (gd v128 true h129 (pu h129 (aD G false 1 v129 h129))) fun v130 h130 =>
 aC (gd v128 true h130 (aU (bM.f G k) [v130, (.int .i64 3)] h130)) fun v131 h131 =>
 aC (gd v128 true h131 (pu h131 (un .not v131))) fun v132 h132 =>
 aC (gd v124 false h132 (pu h132 (eG v128 v132 (.bool false)))) fun v133 h133 =>
 aC (pu h133 (eG v124 (.bool true) v133)) fun v134 h134 =>
 aC (gd v134 false h134 (pu h134 (aA 4 v40))) fun v135 h135 =>
 aC (gd v134 false h135 (pu h135 (aD G false 1 v135 h135))) fun v136 h136 =>
 aC (gd v134 false h136 (pu h136 (aW Tryd.prog .eql 3 true v136 (.int .i64 3)))) fun v137 h137 =>
 aC (gd v134 false h137 (some (v137, h137))) fun v138 h138 =>
 aC (gd v138 true h138 (pu h138 (aA 5 v33))) fun v139 h139 =>
 aC (gd v138 true h139 (pu h139 (aD G false 1 v139 h139))) fun v140 h140 =>
 aC (gd v138 true h140 (aU (bM.f G k) [v140, (.int .i64 65536)] h140)) fun v141 h141 =>
 aC (gd v138 true h141 (pu h141 (un .not v141))) fun v142 h142 =>
 aC (gd v134 false h142 (pu h142 (eG v138 v142 (.bool false)))) fun v143 h143 =>
 aC (pu h143 (eG v134 (.bool true) v143)) fun v144 h144 =>
 aX v144
 (some (.normal, [(aG xs 0), (aG xs 1), (aG xs 2), (.int .i64 101)], h144))
 (aC (pu h144 (aA 4 v40)) fun v145 h145 =>
 aC (pu h145 (aD G false 1 v145 h145)) fun v146 h146 =>
 aC (pu h146 (aW Tryd.prog .eql 3 true v146 (.int .i64 4))) fun v147 h147 =>
 aC (gd v147 true h147 (pu h147 (aA 5 v33))) fun v148 h148 =>
 aC (gd v147 true h148 (pu h148 (aD G false 1 v148 h148))) fun v149 h149 =>
 aC (gd v147 true h149 (pu h149 (aA 0 (aG xs 0)))) fun v150 h150 =>
 aC (gd v147 true h150 (pu h150 (aD G false 1 v150 h150))) fun v151 h151 =>
 aC (gd v147 true h151 (pu h151 (dN v151))) fun v152 h152 =>
 aC (gd v147 true h152 (pu h152 (aW Tryd.prog .add 3 true v152 (.int .i64 1)))) fun v153 h153 =>
 aC (gd v147 true h153 (aU (bM.f G k) [v149, v153] h153)) fun v154 h154 =>
 aC (gd v147 true h154 (pu h154 (un .not v154))) fun v155 h155 =>
 aC (pu h155 (eG v147 v155 (.bool false))) fun v156 h156 =>
 aX v156
 (some (.normal, [(aG xs 0), (aG xs 1), (aG xs 2), (.int .i64 109)], h156))
 (some (.normal, [(aG xs 0), (aG xs 1), (aG xs 2), (.int .i64 0)], h156))))))) fun e157 x157 h157 => iL e157
 (aC (pu h157 (aW Tryd.prog .neq 3 true (aG x157 3) (.int .i64 0))) fun v158 h158 =>
 aX v158
 (aC (aU (bV.f G k) [(aG x157 3), (aG x157 2)] h158) fun v159 h159 =>
 aC (fP (aT 3 (aG x157 1) v159 h159)) fun v160 h160 =>
 some (.ret, [(aG x157 0), (aG x157 1), (aG x157 2)], h160))
 (some (.normal, [(aG x157 0), (aG x157 1), (aG x157 2)], h158)))
 (fun i157 => if i157 = 1 then (some (.normal, [(aG x157 0), (aG x157 1), (aG x157 2)], h157)) else (some (.exit i157, [(aG x157 0), (aG x157 1), (aG x157 2)], h157)))
 (some (.ret, [(aG x157 0), (aG x157 1), (aG x157 2)], h157))) fun e161 x161 h161 => iL e161
 (aC (pu h161 (aW Tryd.prog .add 3 true (aG x161 2) (.int .i64 1))) fun v162 h162 =>
 lp [(aG x161 0), (aG x161 1), v162] h162)
 (fun i161 => some (.exit i161, [(aG x161 0), (aG x161 1), (aG x161 2)], h161))
 (some (.ret, [(aG x161 0), (aG x161 1), (aG x161 2)], h161)))
 (some (.exit 0, [(aG xs 0), (aG xs 1), (aG xs 2)], h28))
noncomputable def bF.c (G : aF) (k : Nat) (self : cC) (x0 : AV) (h : aB) : Option (AV × aB) := fG (
 aC (gB x0 h) fun v0 h0 =>
 aC (fV 54 (.agg [(.int .i64 0), (.bool false), (.int .i64 0)]) h0) fun v1 h1 =>
 aC (pu h1 (aA 0 v0)) fun v2 h2 =>
 aC (pu h2 (aD G false 1 v2 h2)) fun v3 h3 =>
 aC (pu h3 (dN v3)) fun v4 h4 =>
 aC (pu h4 (aW Tryd.prog .gtr 3 true v4 (.int .i64 262144))) fun v5 h5 =>
 aC (gd v5 false h5 (pu h5 (aA 1 v0))) fun v6 h6 =>
 aC (gd v5 false h6 (pu h6 (aD G false 1 v6 h6))) fun v7 h7 =>
 aC (gd v5 false h7 (pu h7 (aW Tryd.prog .lss 3 true v7 (.int .i64 0)))) fun v8 h8 =>
 aC (pu h8 (eG v5 (.bool true) v8)) fun v9 h9 =>
 aC (gd v9 false h9 (pu h9 (aA 1 v0))) fun v10 h10 =>
 aC (gd v9 false h10 (pu h10 (aD G false 1 v10 h10))) fun v11 h11 =>
 aC (gd v9 false h11 (pu h11 (aW Tryd.prog .gtr 3 true v11 (.int .i64 65536)))) fun v12 h12 =>
 aC (pu h12 (eG v9 (.bool true) v12)) fun v13 h13 =>
 aC (gd v13 false h13 (pu h13 (aA 2 v0))) fun v14 h14 =>
 aC (gd v13 false h14 (pu h14 (aD G false 1 v14 h14))) fun v15 h15 =>
 aC (gd v13 false h15 (pu h15 (aW Tryd.prog .lss 3 true v15 (.int .i64 0)))) fun v16 h16 =>
 aC (pu h16 (eG v13 (.bool true) v16)) fun v17 h17 =>
 aC (gd v17 false h17 (pu h17 (aA 2 v0))) fun v18 h18 =>
 aC (gd v17 false h18 (pu h18 (aD G false 1 v18 h18))) fun v19 h19 =>
 aC (gd v17 false h19 (pu h19 (aW Tryd.prog .gtr 3 true v19 (.int .i64 65536)))) fun v20 h20 =>
 aC (pu h20 (eG v17 (.bool true) v20)) fun v21 h21 =>
 aX v21
 (aC (aU (cK.f G k) [(.int .i64 103)] h21) fun v22 h22 =>
 aC (fP (aT 3 v1 v22 h22)) fun v23 h23 =>
 hJ [aD G true 3 v1 h23] h.length h23)
 (eQ (dP (bF.l4 G k h21.length self) k [v0, v1, (.int .i64 0)] h21) fun e24 x24 h24 => iL e24
 (none)
 (fun i24 => if i24 = 0 then (aC (aU (cU.f G k) [] h24) fun v163 h163 =>
 aC (fP (aT 3 (aG x24 1) v163 h163)) fun v164 h164 =>
 hJ [aD G true 3 (aG x24 1) h164] h.length h164) else (none))
 (hJ [aD G true 3 (aG x24 1) h24] h.length h24)))
noncomputable def bF.f (G : aF) : Nat → cC
 | 0 => fun _ _ => none
 | k + 1 => fun args h => lF args fun x0 => (bF.c G k (bF.f G k) x0 h)
theorem bF.step (G : aF) (k : Nat) (x0 : AV) (h : aB) : bF.f G (k + 1) [x0] h = bF.c G k (bF.f G k) x0 h := rfl
noncomputable def bO.ann : Ann := fC [] [] [] []
noncomputable def bO.env (G : aF) (k : Nat) (self : cC) : List (Nat × Bool × cC) := []
noncomputable def bO.c (G : aF) (k : Nat) (self : cC) (x0 x1 : AV) (h : aB) : Option (AV × aB) := fG (
 aC (gB x0 h) fun v0 h0 =>
 aC (gB x1 h0) fun v1 h1 =>
 aC (pu h1 (aA 0 v0)) fun v2 h2 =>
 aC (pu h2 (aD G false 1 v2 h2)) fun v3 h3 =>
 aC (pu h3 (aA 0 v1)) fun v4 h4 =>
 aC (pu h4 (aD G false 1 v4 h4)) fun v5 h5 =>
 aC (pu h5 (aW Tryd.prog .eql 3 false v3 v5)) fun v6 h6 =>
 aC (gd v6 true h6 (pu h6 (aA 1 v0))) fun v7 h7 =>
 aC (gd v6 true h7 (pu h7 (aD G false 1 v7 h7))) fun v8 h8 =>
 aC (gd v6 true h8 (pu h8 (aA 1 v1))) fun v9 h9 =>
 aC (gd v6 true h9 (pu h9 (aD G false 1 v9 h9))) fun v10 h10 =>
 aC (gd v6 true h10 (pu h10 (aW Tryd.prog .eql 4 false v8 v10))) fun v11 h11 =>
 aC (pu h11 (eG v6 v11 (.bool false))) fun v12 h12 =>
 aC (gd v12 true h12 (pu h12 (aA 2 v0))) fun v13 h13 =>
 aC (gd v12 true h13 (pu h13 (aD G false 1 v13 h13))) fun v14 h14 =>
 aC (gd v12 true h14 (pu h14 (aA 2 v1))) fun v15 h15 =>
 aC (gd v12 true h15 (pu h15 (aD G false 1 v15 h15))) fun v16 h16 =>
 aC (gd v12 true h16 (pu h16 (aW Tryd.prog .eql 3 false v14 v16))) fun v17 h17 =>
 aC (pu h17 (eG v12 v17 (.bool false))) fun v18 h18 =>
 cF [v18] h.length h18)
noncomputable def bO.f (G : aF) : Nat → cC
 | 0 => fun _ _ => none
 | k + 1 => fun args h => kC args fun x0 x1 => (bO.c G k (bO.f G k) x0 x1 h)
theorem bO.step (G : aF) (k : Nat) (x0 x1 : AV) (h : aB) : bO.f G (k + 1) [x0, x1] h = bO.c G k (bO.f G k) x0 x1 h := rfl
noncomputable def cQ.ann : Ann := fC [] [] [] []
noncomputable def cQ.env (G : aF) (k : Nat) (self : cC) : List (Nat × Bool × cC) := []
noncomputable def cQ.c (G : aF) (k : Nat) (self : cC) (h : aB) : Option (AV × aB) := fG (
 aC (pu h (aD G false 1 (.gl 0) h)) fun v0 h0 =>
 aC (pu h0 (aD G false 1 (.gl 2) h0)) fun v1 h1 =>
 aC (pu h1 (aD G false 1 (.gl 1) h1)) fun v2 h2 =>
 aC (pu h2 (aD G false 1 (.gl 4) h2)) fun v3 h3 =>
 aC (pu h3 (aD G false 1 (.gl 6) h3)) fun v4 h4 =>
 aC (pu h4 (aD G false 1 (.gl 3) h4)) fun v5 h5 =>
 aC (pu h5 (aD G false 1 (.gl 7) h5)) fun v6 h6 =>
 aC (pu h6 (aD G false 1 (.gl 8) h6)) fun v7 h7 =>
 aC (pu h7 (aD G false 1 (.gl 5) h7)) fun v8 h8 =>
 aC (pu h8 (aD G false 1 (.gl 9) h8)) fun v9 h9 =>
 aC (pu h9 (aD G false 1 (.gl 10) h9)) fun v10 h10 =>
 aC (pu h10 (aD G false 1 (.gl 11) h10)) fun v11 h11 =>
 aC (pu h11 (aD G false 1 (.gl 12) h11)) fun v12 h12 =>
 aC (pu h12 (aD G false 1 (.gl 13) h12)) fun v13 h13 =>
 aC (fS 1 14 .nili [(0, v0), (1, v1), (2, v2), (3, v3), (4, v4), (5, v5), (6, v6), (7, v7), (8, v8), (9, v9), (10, v10), (11, v11), (12, v12), (13, v13)] h13) fun v14 h14 =>
 cF [v14] h.length h14)
noncomputable def cQ.f (G : aF) : Nat → cC
 | 0 => fun _ _ => none
 | k + 1 => fun args h => aGe args (cQ.c G k (cQ.f G k) h)
noncomputable def eD.ann : Ann := fC [] [] [] []
noncomputable def eD.env (G : aF) (k : Nat) (self : cC) : List (Nat × Bool × cC) := []
noncomputable def eD.c (G : aF) (k : Nat) (self : cC) (x0 x1 : AV) (h : aB) : Option (AV × aB) := fG (
 aC (pu h (aW Tryd.prog .eql 33 true x0 .nili)) fun v0 h0 =>
 aC (gd v0 false h0 (some (x1, h0))) fun v1 h1 =>
 aC (gd v0 false h1 (pu h1 (aW Tryd.prog .eql 33 true v1 .nili))) fun v2 h2 =>
 aC (pu h2 (eG v0 (.bool true) v2)) fun v3 h3 =>
 aX v3
 (aC (pu h3 (aW Tryd.prog .eql 33 true x0 .nili)) fun v4 h4 =>
 aC (gd v4 true h4 (some (x1, h4))) fun v5 h5 =>
 aC (gd v4 true h5 (pu h5 (aW Tryd.prog .eql 33 true v5 .nili))) fun v6 h6 =>
 aC (pu h6 (eG v4 v6 (.bool false))) fun v7 h7 =>
 cF [v7] h.length h7)
 (aC (pu h3 (aW Tryd.prog .eql 33 false x0 x1)) fun v8 h8 =>
 cF [v8] h.length h8))
noncomputable def eD.f (G : aF) : Nat → cC
 | 0 => fun _ _ => none
 | k + 1 => fun args h => kC args fun x0 x1 => (eD.c G k (eD.f G k) x0 x1 h)
noncomputable def cH.ann : Ann := fC [] [] [(3, [0, 2, 3, 4])] []
noncomputable def cH.env (G : aF) (k : Nat) (self : cC) : List (Nat × Bool × cC) := [(108, true, cQ.f G k), (109, true, eD.f G k)]
noncomputable def cH.l3 (G : aF) (k n0 : Nat) (self : cC) (lp : eY) : eY := fun xs h0 => iZ n0 xs h0 fun h =>
 aC (pu h (dN (aG xs 2))) fun v2 h2 =>
 aC (pu h2 (aW Tryd.prog .lss 3 false (aG xs 3) v2)) fun v3 h3 =>
 aX v3
 (aC (pu h3 (aM 1 (aG xs 2) (aG xs 3))) fun v4 h4 =>
 aC (pu h4 (aD G false 1 v4 h4)) fun v5 h5 =>
 aC (aU (eD.f G k) [(aG xs 0), v5] h5) fun v6 h6 =>
 aX v6
 (aC (pu h6 (aW Tryd.prog .add 3 true (.int .i64 101) (aG xs 3))) fun v7 h7 =>
 some (.ret, [(aG xs 0), v7, (aG xs 2), (aG xs 3)], h7))
 (aC (pu h6 (aW Tryd.prog .add 3 true (aG xs 3) (.int .i64 1))) fun v8 h8 =>
 lp [(aG xs 0), (aG xs 1), (aG xs 2), v8] h8))
 (some (.exit 0, [(aG xs 0), (aG xs 1), (aG xs 2), (aG xs 3)], h3))
noncomputable def cH.c (G : aF) (k : Nat) (self : cC) (x0 : AV) (h : aB) : Option (AV × aB) := fG (
 aC (aU (cQ.f G k) [] h) fun v0 h0 =>
 eQ (dP (cH.l3 G k h0.length self) k [x0, (.int .i64 0), v0, (.int .i64 0)] h0) fun e1 x1 h1 => iL e1
 (none)
 (fun i1 => if i1 = 0 then (cF [(.int .i64 (-1))] h.length h1) else (none))
 (cF [(aG x1 1)] h.length h1))
noncomputable def cH.f (G : aF) : Nat → cC
 | 0 => fun _ _ => none
 | k + 1 => fun args h => lF args fun x0 => (cH.c G k (cH.f G k) x0 h)
noncomputable def dA.ann : Ann := fC [] [] [] []
noncomputable def dA.env (G : aF) (k : Nat) (self : cC) : List (Nat × Bool × cC) := [(42, true, cK.f G k), (57, true, bV.f G k), (58, true, cU.f G k), (91, true, cH.f G k)]
noncomputable def dA.c (G : aF) (k : Nat) (self : cC) (x0 : AV) (h : aB) : Option (AV × aB) := fG (
 aC (fV 54 (.agg [(.int .i64 0), (.bool false), (.int .i64 0)]) h) fun v0 h0 =>
 aC (pu h0 (aW Tryd.prog .eql 33 true x0 .nili)) fun v1 h1 =>
 aX v1
 (aC (aU (cU.f G k) [] h1) fun v2 h2 =>
 aC (fP (aT 3 v0 v2 h2)) fun v3 h3 =>
 hJ [aD G true 3 v0 h3] h.length h3)
 (aC (pu h1 (aAu 126 .nilp true x0)) fun v4 h4 =>
 aC (pu h4 (cY v4 0)) fun v5 h5 =>
 aC (pu h5 (cY v4 1)) fun v6 h6 =>
 aC (pu h6 (un .not v6)) fun v7 h7 =>
 aX v7
 (aC (aU (cH.f G k) [x0] h7) fun v8 h8 =>
 aC (aU (cK.f G k) [v8] h8) fun v9 h9 =>
 aC (fP (aT 3 v0 v9 h9)) fun v10 h10 =>
 hJ [aD G true 3 v0 h10] h.length h10)
 (aC (pu h7 (aW Tryd.prog .eql 126 true v5 .nilp)) fun v11 h11 =>
 aC (gd v11 false h11 (some (v5, h11))) fun v12 h12 =>
 aC (gd v11 false h12 (pu h12 (fT v12))) fun v13 h13 =>
 aC (gd v11 false h13 (pu h13 (aA 1 v13))) fun v14 h14 =>
 aC (gd v11 false h14 (pu h14 (aD G false 1 v14 h14))) fun v15 h15 =>
 aC (gd v11 false h15 (pu h15 (aW Tryd.prog .eql 33 true v15 .nili))) fun v16 h16 =>
 aC (pu h16 (eG v11 (.bool true) v16)) fun v17 h17 =>
 aX v17
 (aC (aU (cK.f G k) [(.int .i64 (-1))] h17) fun v18 h18 =>
 aC (fP (aT 3 v0 v18 h18)) fun v19 h19 =>
 hJ [aD G true 3 v0 h19] h.length h19)
 (aC (pu h17 (fT v5)) fun v20 h20 =>
 aC (pu h20 (aA 1 v20)) fun v21 h21 =>
 aC (pu h21 (aD G false 1 v21 h21)) fun v22 h22 =>
 aC (aU (cH.f G k) [v22] h22) fun v23 h23 =>
 aC (pu h23 (fT v5)) fun v24 h24 =>
 aC (pu h24 (aA 0 v24)) fun v25 h25 =>
 aC (pu h25 (aD G false 1 v25 h25)) fun v26 h26 =>
 aC (aU (bV.f G k) [v23, v26] h26) fun v27 h27 =>
 aC (fP (aT 3 v0 v27 h27)) fun v28 h28 =>
 hJ [aD G true 3 v0 h28] h.length h28))))
noncomputable def dA.f (G : aF) : Nat → cC
 | 0 => fun _ _ => none
 | k + 1 => fun args h => lF args fun x0 => (dA.c G k (dA.f G k) x0 h)
noncomputable def cW.ann : Ann := fC [] [] [] []
noncomputable def cW.env (G : aF) (k : Nat) (self : cC) : List (Nat × Bool × cC) := [(64, true, bO.f G k), (65, true, dA.f G k)]
noncomputable def cW.c (G : aF) (k : Nat) (self : cC) (x0 x1 : AV) (h : aB) : Option (AV × aB) := fG (
 aC (gB x1 h) fun v0 h0 =>
 aC (aU (dA.f G k) [x0] h0) fun v1 h1 =>
 aC (pu h1 (aD G true 3 v0 h1)) fun v2 h2 =>
 aC (aU (bO.f G k) [v1, v2] h2) fun v3 h3 =>
 cF [v3] h.length h3)
noncomputable def cW.f (G : aF) : Nat → cC
 | 0 => fun _ _ => none
 | k + 1 => fun args h => kC args fun x0 x1 => (cW.c G k (cW.f G k) x0 x1 h)
theorem cW.step (G : aF) (k : Nat) (x0 x1 : AV) (h : aB) : cW.f G (k + 1) [x0, x1] h = cW.c G k (cW.f G k) x0 x1 h := rfl
noncomputable def bZ.ann : Ann := fC [] [] [] []
noncomputable def bZ.env (G : aF) (k : Nat) (self : cC) : List (Nat × Bool × cC) := []
noncomputable def bZ.c (G : aF) (k : Nat) (self : cC) (x0 x1 : AV) (h : aB) : Option (AV × aB) := fG (
 aC (gB x0 h) fun v0 h0 =>
 aC (pu h0 (aA 0 v0)) fun v1 h1 =>
 aC (pu h1 (aD G false 1 v1 h1)) fun v2 h2 =>
 aC (pu h2 (dN v2)) fun v3 h3 =>
 aC (pu h3 (aW Tryd.prog .leq 3 true v3 (.int .i64 60))) fun v4 h4 =>
 aC (gd v4 true h4 (pu h4 (aA 1 v0))) fun v5 h5 =>
 aC (gd v4 true h5 (pu h5 (aD G false 1 v5 h5))) fun v6 h6 =>
 aC (gd v4 true h6 (pu h6 (aW Tryd.prog .leq 3 true v6 (.int .i64 60)))) fun v7 h7 =>
 aC (pu h7 (eG v4 v7 (.bool false))) fun v8 h8 =>
 aC (gd v8 true h8 (pu h8 (aA 2 v0))) fun v9 h9 =>
 aC (gd v8 true h9 (pu h9 (aD G false 1 v9 h9))) fun v10 h10 =>
 aC (gd v8 true h10 (pu h10 (aW Tryd.prog .leq 3 true v10 (.int .i64 80)))) fun v11 h11 =>
 aC (pu h11 (eG v8 v11 (.bool false))) fun v12 h12 =>
 aC (gd v12 true h12 (some (x1, h12))) fun v13 h13 =>
 aC (gd v12 true h13 (pu h13 (dN v13))) fun v14 h14 =>
 aC (gd v12 true h14 (pu h14 (aW Tryd.prog .leq 3 true v14 (.int .i64 80)))) fun v15 h15 =>
 aC (pu h15 (eG v12 v15 (.bool false))) fun v16 h16 =>
 cF [v16] h.length h16)
noncomputable def bZ.f (G : aF) : Nat → cC
 | 0 => fun _ _ => none
 | k + 1 => fun args h => kC args fun x0 x1 => (bZ.c G k (bZ.f G k) x0 x1 h)
theorem bZ.step (G : aF) (k : Nat) (x0 x1 : AV) (h : aB) : bZ.f G (k + 1) [x0, x1] h = bZ.c G k (bZ.f G k) x0 x1 h := rfl
noncomputable def alembiclaw21_AllocMeans.ann : Ann := fC [] [] [] [(9, [1, 2, 3, 7, 8])]
noncomputable def alembiclaw21_AllocMeans.env (G : aF) (k : Nat) (self : cC) : List (Nat × Bool × cC) := [(10, true, cZ.f G k), (13, true, bX.f G k), (14, true, bK.f G k), (15, true, bS.f G k), (16, true, bY.f G k), (17, true, aZ.f G k), (28, true, bF.f G k), (32, true, cW.f G k), (41, true, bZ.f G k), (42, true, cK.f G k), (43, true, cI.f G k)]
noncomputable def alembiclaw21_AllocMeans.c (G : aF) (k : Nat) (self : cC) (x0 x1 x2 : AV) (h : aB) : Option (AV × aB) := fG (
 aC (gB x0 h) fun v0 h0 =>
 aC (aU (cZ.f G k) [] h0) fun v1 h1 =>
 aC (pu h1 (un .not v1)) fun v2 h2 =>
 aX v2
 (cF [(.bool false)] h.length h2)
 (aC (pu h2 (aD G true 3 v0 h2)) fun v3 h3 =>
 aC (aU (bZ.f G k) [v3, x2] h3) fun v4 h4 =>
 aC (pu h4 (un .not v4)) fun v5 h5 =>
 aX v5
 (cF [v1] h.length h5)
 (aC (pu h5 (aD G true 3 v0 h5)) fun v6 h6 =>
 aC (aU (bS.f G k) [v6] h6) fun v7 h7 =>
 aC (aU (bF.f G k) [v7] h7) fun v8 h8 =>
 aC (fV 54 (.agg [(.int .i64 0), (.bool false), (.int .i64 0)]) h8) fun v9 h9 =>
 aC (fP (aT 3 v9 v8 h9)) fun v10 h10 =>
 eQ (
 aC (pu h10 (aA 0 v9)) fun v11 h11 =>
 aC (pu h11 (aD G false 1 v11 h11)) fun v12 h12 =>
 aC (pu h12 (aW Tryd.prog .eql 3 true v12 (.int .i64 0))) fun v13 h13 =>
 aC (gd v13 true h13 (some (x1, h13))) fun v14 h14 =>
 aC (gd v13 true h14 (pu h14 (aW Tryd.prog .lss 3 true v14 (.int .i64 6)))) fun v15 h15 =>
 aC (gd v13 true h15 (some (v15, h15))) fun v16 h16 =>
 aC (gd v16 false h16 (some (x1, h16))) fun v17 h17 =>
 aC (gd v16 false h17 (pu h17 (aW Tryd.prog .gtr 3 true v17 (.int .i64 28)))) fun v18 h18 =>
 aC (gd v13 true h18 (pu h18 (eG v16 (.bool true) v18))) fun v19 h19 =>
 aC (pu h19 (eG v13 v19 (.bool false))) fun v20 h20 =>
 aX v20
 (aC (aU (cK.f G k) [(.int .i64 101)] h20) fun v21 h21 =>
 aC (fP (aT 3 v9 v21 h21)) fun v22 h22 =>
 some (.normal, [x1, x2, v0, v1, v9], h22))
 (some (.normal, [x1, x2, v0, v1, v9], h20))) fun e23 x23 h23 => iL e23
 (aC (pu h23 (aD G true 3 (aG x23 2) h23)) fun v24 h24 =>
 aC (aU (bX.f G k) [v24, (aG x23 0)] h24) fun v25 h25 =>
 aC (pu h25 (cY v25 0)) fun v26 h26 =>
 aC (pu h26 (cY v25 1)) fun v27 h27 =>
 aC (fV 27 (.agg [.nils, (.int .i64 0), (.int .i64 0)]) h27) fun v28 h28 =>
 aC (fP (aT 3 v28 v26 h28)) fun v29 h29 =>
 aC (pu h29 (aD G true 3 (aG x23 4) h29)) fun v30 h30 =>
 aC (aU (cW.f G k) [v27, v30] h30) fun v31 h31 =>
 aC (pu h31 (un .not v31)) fun v32 h32 =>
 aX v32
 (cF [(.bool false)] h.length h32)
 (aC (pu h32 (aA 0 (aG x23 4))) fun v33 h33 =>
 aC (pu h33 (aD G false 1 v33 h33)) fun v34 h34 =>
 aC (pu h34 (aW Tryd.prog .neq 3 true v34 (.int .i64 0))) fun v35 h35 =>
 aX v35
 (aC (gd (aG x23 3) true h35 (pu h35 (aA 0 v28))) fun v36 h36 =>
 aC (gd (aG x23 3) true h36 (pu h36 (aD G false 1 v36 h36))) fun v37 h37 =>
 aC (gd (aG x23 3) true h37 (pu h37 (dN v37))) fun v38 h38 =>
 aC (gd (aG x23 3) true h38 (pu h38 (aW Tryd.prog .eql 3 true v38 (.int .i64 0)))) fun v39 h39 =>
 aC (pu h39 (eG (aG x23 3) v39 (.bool false))) fun v40 h40 =>
 aC (gd v40 true h40 (pu h40 (aA 1 v28))) fun v41 h41 =>
 aC (gd v40 true h41 (pu h41 (aD G false 1 v41 h41))) fun v42 h42 =>
 aC (gd v40 true h42 (pu h42 (aW Tryd.prog .eql 3 true v42 (.int .i64 0)))) fun v43 h43 =>
 aC (pu h43 (eG v40 v43 (.bool false))) fun v44 h44 =>
 aC (gd v44 true h44 (pu h44 (aA 2 v28))) fun v45 h45 =>
 aC (gd v44 true h45 (pu h45 (aD G false 1 v45 h45))) fun v46 h46 =>
 aC (gd v44 true h46 (pu h46 (aW Tryd.prog .eql 3 true v46 (.int .i64 0)))) fun v47 h47 =>
 aC (pu h47 (eG v44 v47 (.bool false))) fun v48 h48 =>
 cF [v48] h.length h48)
 (aC (pu h35 (aD G true 3 v28 h35)) fun v49 h49 =>
 aC (aU (cI.f G k) [v49] h49) fun v50 h50 =>
 aC (pu h50 (aW Tryd.prog .neq 33 true v50 .nili)) fun v51 h51 =>
 aC (gd v51 false h51 (pu h51 (aA 1 v28))) fun v52 h52 =>
 aC (gd v51 false h52 (pu h52 (aD G false 1 v52 h52))) fun v53 h53 =>
 aC (gd v51 false h53 (some ((aG x23 0), h53))) fun v54 h54 =>
 aC (gd v51 false h54 (pu h54 (aW Tryd.prog .gtr 3 false v53 v54))) fun v55 h55 =>
 aC (pu h55 (eG v51 (.bool true) v55)) fun v56 h56 =>
 aC (gd v56 false h56 (pu h56 (aA 2 v28))) fun v57 h57 =>
 aC (gd v56 false h57 (pu h57 (aD G false 1 v57 h57))) fun v58 h58 =>
 aC (gd v56 false h58 (pu h58 (aA 2 (aG x23 2)))) fun v59 h59 =>
 aC (gd v56 false h59 (pu h59 (aD G false 1 v59 h59))) fun v60 h60 =>
 aC (gd v56 false h60 (pu h60 (aW Tryd.prog .lss 3 false v58 v60))) fun v61 h61 =>
 aC (pu h61 (eG v56 (.bool true) v61)) fun v62 h62 =>
 aC (gd v62 false h62 (pu h62 (aA 2 v28))) fun v63 h63 =>
 aC (gd v62 false h63 (pu h63 (aD G false 1 v63 h63))) fun v64 h64 =>
 aC (gd v62 false h64 (pu h64 (aA 2 (aG x23 2)))) fun v65 h65 =>
 aC (gd v62 false h65 (pu h65 (aD G false 1 v65 h65))) fun v66 h66 =>
 aC (gd v62 false h66 (pu h66 (aA 1 (aG x23 2)))) fun v67 h67 =>
 aC (gd v62 false h67 (pu h67 (aD G false 1 v67 h67))) fun v68 h68 =>
 aC (gd v62 false h68 (pu h68 (aW Tryd.prog .add 3 false v66 v68))) fun v69 h69 =>
 aC (gd v62 false h69 (pu h69 (aW Tryd.prog .gtr 3 false v64 v69))) fun v70 h70 =>
 aC (pu h70 (eG v62 (.bool true) v70)) fun v71 h71 =>
 aX v71
 (cF [(.bool false)] h.length h71)
 (aC (pu h71 (dN (aG x23 1))) fun v72 h72 =>
 aC (pu h72 (aA 2 (aG x23 2))) fun v73 h73 =>
 aC (pu h73 (aD G false 1 v73 h73)) fun v74 h74 =>
 aC (pu h74 (aW Tryd.prog .neq 3 false v72 v74)) fun v75 h75 =>
 aX v75
 (cF [(aG x23 3)] h.length h75)
 (aC (pu h75 (aD G true 3 (aG x23 2) h75)) fun v76 h76 =>
 aC (aU (bS.f G k) [v76] h76) fun v77 h77 =>
 aC (aU (bK.f G k) [v77, .nils, (aG x23 1), (.int .i64 400)] h77) fun v78 h78 =>
 aC (fV 38 (.agg [(.int .i64 0), .nils, .nils, (.int .i64 0), (.int .i64 0)]) h78) fun v79 h79 =>
 aC (fP (aT 5 v79 v78 h79)) fun v80 h80 =>
 aC (pu h80 (aD G true 3 v28 h80)) fun v81 h81 =>
 aC (aU (bS.f G k) [v81] h81) fun v82 h82 =>
 aC (pu h82 (aA 2 v28)) fun v83 h83 =>
 aC (pu h83 (aD G false 1 v83 h83)) fun v84 h84 =>
 aC (aU (bY.f G k) [(aG x23 1), v84] h84) fun v85 h85 =>
 aC (aU (bK.f G k) [v82, .nils, v85, (.int .i64 3264)] h85) fun v86 h86 =>
 aC (fV 38 (.agg [(.int .i64 0), .nils, .nils, (.int .i64 0), (.int .i64 0)]) h86) fun v87 h87 =>
 aC (fP (aT 5 v87 v86 h87)) fun v88 h88 =>
 aC (pu h88 (aA 0 v79)) fun v89 h89 =>
 aC (pu h89 (aD G false 1 v89 h89)) fun v90 h90 =>
 aC (pu h90 (aW Tryd.prog .eql 3 true v90 (.int .i64 4))) fun v91 h91 =>
 aX v91
 (cF [(aG x23 3)] h.length h91)
 (aC (gd (aG x23 3) true h91 (pu h91 (aA 0 v79))) fun v92 h92 =>
 aC (gd (aG x23 3) true h92 (pu h92 (aD G false 1 v92 h92))) fun v93 h93 =>
 aC (gd (aG x23 3) true h93 (pu h93 (aA 0 v87))) fun v94 h94 =>
 aC (gd (aG x23 3) true h94 (pu h94 (aD G false 1 v94 h94))) fun v95 h95 =>
 aC (gd (aG x23 3) true h95 (pu h95 (aW Tryd.prog .eql 3 false v93 v95))) fun v96 h96 =>
 aC (pu h96 (eG (aG x23 3) v96 (.bool false))) fun v97 h97 =>
 aC (gd v97 true h97 (pu h97 (aA 0 v79))) fun v98 h98 =>
 aC (gd v97 true h98 (pu h98 (aD G false 1 v98 h98))) fun v99 h99 =>
 aC (gd v97 true h99 (pu h99 (aW Tryd.prog .eql 3 true v99 (.int .i64 3)))) fun v100 h100 =>
 aC (gd v97 true h100 (some (v100, h100))) fun v101 h101 =>
 aC (gd v101 false h101 (pu h101 (aA 1 v79))) fun v102 h102 =>
 aC (gd v101 false h102 (pu h102 (aD G false 1 v102 h102))) fun v103 h103 =>
 aC (gd v101 false h103 (pu h103 (aA 1 v87))) fun v104 h104 =>
 aC (gd v101 false h104 (pu h104 (aD G false 1 v104 h104))) fun v105 h105 =>
 aC (gd v101 false h105 (pu h105 (aA 2 (aG x23 2)))) fun v106 h106 =>
 aC (gd v101 false h106 (pu h106 (aD G false 1 v106 h106))) fun v107 h107 =>
 aC (gd v101 false h107 (pu h107 (jD 1 v105 none (some v107)))) fun v108 h108 =>
 aC (gd v101 false h108 (aU (aZ.f G k) [v103, v108] h108)) fun v109 h109 =>
 aC (gd v97 true h109 (pu h109 (eG v101 (.bool true) v109))) fun v110 h110 =>
 aC (pu h110 (eG v97 v110 (.bool false))) fun v111 h111 =>
 cF [v111] h.length h111))))))
 (fun i23 => none)
 (cF [.undef] h.length h23))))
noncomputable def alembiclaw21_AllocMeans.f (G : aF) : Nat → cC
 | 0 => fun _ _ => none
 | k + 1 => fun args h => vB args fun x0 x1 x2 => (alembiclaw21_AllocMeans.c G k (alembiclaw21_AllocMeans.f G k) x0 x1 x2 h)
theorem alembiclaw21_AllocMeans.step (G : aF) (k : Nat) (x0 x1 x2 : AV) (h : aB) : alembiclaw21_AllocMeans.f G (k + 1) [x0, x1, x2] h = alembiclaw21_AllocMeans.c G k (alembiclaw21_AllocMeans.f G k) x0 x1 x2 h := rfl
end Go.Proofs.YtlkgkfgkiidhdaaDoor.Mir
