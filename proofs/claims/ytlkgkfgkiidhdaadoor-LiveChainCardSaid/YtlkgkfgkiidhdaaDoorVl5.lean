/- Part 5 of the proof: the functions that the statement reaches, and their contracts. -/
import Derived.Test.YtlkgkfgkiidhdaaDoorVl4
import Derived.Test.YtlkgkfgkiidhdaaDoorProg
import Derived.KernelRfl
namespace Go.Proofs.YtlkgkfgkiidhdaaDoor.Mir
open Go
set_option linter.unusedVariables false
noncomputable def bT.ann : Ann := cW [] [] [] []
noncomputable def bT.env (G : aB) (k : Nat) (self : bH) : List (Nat × Bool × bH) := []
noncomputable def bT.c (G : aB) (k : Nat) (self : bH) (x0 : AV) (h : aA) : Option (AV × aA) := dG (
 aD (pu h (bJ Tryd.prog .eql 3 true x0 (.int .i64 3))) fun v0 h0 =>
 aS v0
 (bR [(.str ⟨#[97, 100, 100]⟩)] h.length h0)
 (aD (pu h0 (bJ Tryd.prog .eql 3 true x0 (.int .i64 4))) fun v1 h1 =>
 aS v1
 (bR [(.str ⟨#[115, 117, 98]⟩)] h.length h1)
 (aD (pu h1 (bJ Tryd.prog .eql 3 true x0 (.int .i64 5))) fun v2 h2 =>
 aS v2
 (bR [(.str ⟨#[109, 117, 108]⟩)] h.length h2)
 (aD (pu h2 (bJ Tryd.prog .eql 3 true x0 (.int .i64 6))) fun v3 h3 =>
 aS v3
 (bR [(.str ⟨#[104, 105, 103, 104]⟩)] h.length h3)
 (aD (pu h3 (bJ Tryd.prog .eql 3 true x0 (.int .i64 7))) fun v4 h4 =>
 aS v4
 (bR [(.str ⟨#[97, 110, 100]⟩)] h.length h4)
 (aD (pu h4 (bJ Tryd.prog .eql 3 true x0 (.int .i64 8))) fun v5 h5 =>
 aS v5
 (bR [(.str ⟨#[111, 114]⟩)] h.length h5)
 (aD (pu h5 (bJ Tryd.prog .eql 3 true x0 (.int .i64 9))) fun v6 h6 =>
 aS v6
 (bR [(.str ⟨#[120, 111, 114]⟩)] h.length h6)
 (aD (pu h6 (bJ Tryd.prog .eql 3 true x0 (.int .i64 13))) fun v7 h7 =>
 aS v7
 (bR [(.str ⟨#[108, 101, 115, 115]⟩)] h.length h7)
 (aD (pu h7 (bJ Tryd.prog .eql 3 true x0 (.int .i64 10))) fun v8 h8 =>
 aS v8
 (bR [(.str ⟨#[115, 104, 108]⟩)] h.length h8)
 (aD (pu h8 (bJ Tryd.prog .eql 3 true x0 (.int .i64 11))) fun v9 h9 =>
 aS v9
 (bR [(.str ⟨#[115, 104, 114]⟩)] h.length h9)
 (aD (pu h9 (bJ Tryd.prog .eql 3 true x0 (.int .i64 12))) fun v10 h10 =>
 aS v10
 (bR [(.str ⟨#[115, 97, 114]⟩)] h.length h10)
 (aD (pu h10 (bJ Tryd.prog .eql 3 true x0 (.int .i64 15))) fun v11 h11 =>
 aS v11
 (bR [(.str ⟨#[108, 100]⟩)] h.length h11)
 (aD (pu h11 (bJ Tryd.prog .eql 3 true x0 (.int .i64 17))) fun v12 h12 =>
 aS v12
 (bR [(.str ⟨#[98, 114]⟩)] h.length h12)
 (aD (pu h12 (bJ Tryd.prog .eql 3 true x0 (.int .i64 20))) fun v13 h13 =>
 aS v13
 (bR [(.str ⟨#[104, 97, 108, 116]⟩)] h.length h13)
 (aD (pu h13 (bJ Tryd.prog .eql 3 true x0 (.int .i64 18))) fun v14 h14 =>
 aS v14
 (bR [(.str ⟨#[98, 122]⟩)] h.length h14)
 (bR [(.str ⟨#[98, 110, 122]⟩)] h.length h14))))))))))))))))
noncomputable def bT.f (G : aB) : Nat → bH
 | 0 => fun _ _ => none
 | k + 1 => fun args h => gM args fun x0 => (bT.c G k (bT.f G k) x0 h)
noncomputable def cB.ann : Ann := cW [] [] [] [(30, [2, 3]), (29, [0, 2, 43]), (26, [0, 2, 4, 37]), (19, [0, 2, 4, 23]), (14, [0, 2, 4, 11])]
noncomputable def cB.env (G : aB) (k : Nat) (self : bH) : List (Nat × Bool × bH) := [(86, true, bT.f G k)]
noncomputable def cB.c (G : aB) (k : Nat) (self : bH) (x0 : AV) (h : aA) : Option (AV × aA) := dG (
 aD (fM 100 (.agg [(.str ⟨#[]⟩), (.bool false), (.bool false), (.bool false), (.bool false), (.bool false)]) h) fun v0 h0 =>
 bU (
 aD (pu h0 (bJ Tryd.prog .eql 3 true x0 (.int .i64 1))) fun v1 h1 =>
 aS v1
 (aD (pu h1 (cT [(0, 1), (1, 1), (2, 1), (3, 1), (4, 1), (5, 1)] [(.str ⟨#[]⟩), (.bool false), (.bool false), (.bool false), (.bool false), (.bool false)] [(0, (.str ⟨#[99, 111, 110, 115, 116]⟩)), (1, (.bool true)), (5, (.bool true))])) fun v2 h2 =>
 aD (iK (cG 6 v0 v2 h2)) fun v3 h3 =>
 some (.ret, [v0, (.bool true)], h3))
 (aD (pu h1 (bJ Tryd.prog .eql 3 true x0 (.int .i64 2))) fun v4 h4 =>
 aS v4
 (aD (pu h4 (cT [(0, 1), (1, 1), (2, 1), (3, 1), (4, 1), (5, 1)] [(.str ⟨#[]⟩), (.bool false), (.bool false), (.bool false), (.bool false), (.bool false)] [(0, (.str ⟨#[109, 111, 118]⟩)), (1, (.bool true)), (2, (.bool true))])) fun v5 h5 =>
 aD (iK (cG 6 v0 v5 h5)) fun v6 h6 =>
 some (.ret, [v0, (.bool true)], h6))
 (bU (
 aD (pu h4 (bJ Tryd.prog .eql 3 true x0 (.int .i64 3))) fun v7 h7 =>
 aS v7
 (some (.normal, [x0, v0, x0, v7], h7))
 (aD (pu h7 (bJ Tryd.prog .eql 3 true x0 (.int .i64 4))) fun v8 h8 =>
 aS v8
 (some (.normal, [x0, v0, x0, v8], h8))
 (aD (pu h8 (bJ Tryd.prog .eql 3 true x0 (.int .i64 5))) fun v9 h9 =>
 aS v9
 (some (.normal, [x0, v0, x0, v9], h9))
 (aD (pu h9 (bJ Tryd.prog .eql 3 true x0 (.int .i64 6))) fun v10 h10 =>
 aS v10
 (some (.normal, [x0, v0, x0, v10], h10))
 (aD (pu h10 (bJ Tryd.prog .eql 3 true x0 (.int .i64 7))) fun v11 h11 =>
 aS v11
 (some (.normal, [x0, v0, x0, v11], h11))
 (aD (pu h11 (bJ Tryd.prog .eql 3 true x0 (.int .i64 8))) fun v12 h12 =>
 aS v12
 (some (.normal, [x0, v0, x0, v12], h12))
 (aD (pu h12 (bJ Tryd.prog .eql 3 true x0 (.int .i64 9))) fun v13 h13 =>
 aS v13
 (some (.normal, [x0, v0, x0, v13], h13))
 (aD (pu h13 (bJ Tryd.prog .eql 3 true x0 (.int .i64 13))) fun v14 h14 =>
 some (.normal, [x0, v0, x0, v14], h14))))))))) fun e15 x15 h15 => eE e15
 (aS (aC x15 3)
 (aD (bA (bT.f G k) [(aC x15 0)] h15) fun v16 h16 =>
 aD (pu h16 (cT [(0, 1), (1, 1), (2, 1), (3, 1), (4, 1), (5, 1)] [(.str ⟨#[]⟩), (.bool false), (.bool false), (.bool false), (.bool false), (.bool false)] [(0, v16), (1, (.bool true)), (2, (.bool true)), (3, (.bool true))])) fun v17 h17 =>
 aD (iK (cG 6 (aC x15 1) v17 h17)) fun v18 h18 =>
 some (.ret, [(aC x15 1), (.bool true)], h18))
 (bU (
 aD (pu h15 (bJ Tryd.prog .eql 3 true (aC x15 2) (.int .i64 10))) fun v19 h19 =>
 aS v19
 (some (.normal, [(aC x15 0), (aC x15 1), (aC x15 2), v19], h19))
 (aD (pu h19 (bJ Tryd.prog .eql 3 true (aC x15 2) (.int .i64 11))) fun v20 h20 =>
 aS v20
 (some (.normal, [(aC x15 0), (aC x15 1), (aC x15 2), v20], h20))
 (aD (pu h20 (bJ Tryd.prog .eql 3 true (aC x15 2) (.int .i64 12))) fun v21 h21 =>
 aS v21
 (some (.normal, [(aC x15 0), (aC x15 1), (aC x15 2), v21], h21))
 (aD (pu h21 (bJ Tryd.prog .eql 3 true (aC x15 2) (.int .i64 15))) fun v22 h22 =>
 some (.normal, [(aC x15 0), (aC x15 1), (aC x15 2), v22], h22))))) fun e23 x23 h23 => eE e23
 (aS (aC x23 3)
 (aD (bA (bT.f G k) [(aC x23 0)] h23) fun v24 h24 =>
 aD (pu h24 (cT [(0, 1), (1, 1), (2, 1), (3, 1), (4, 1), (5, 1)] [(.str ⟨#[]⟩), (.bool false), (.bool false), (.bool false), (.bool false), (.bool false)] [(0, v24), (1, (.bool true)), (2, (.bool true)), (5, (.bool true))])) fun v25 h25 =>
 aD (iK (cG 6 (aC x23 1) v25 h25)) fun v26 h26 =>
 some (.ret, [(aC x23 1), (.bool true)], h26))
 (aD (pu h23 (bJ Tryd.prog .eql 3 true (aC x23 2) (.int .i64 14))) fun v27 h27 =>
 aS v27
 (aD (pu h27 (cT [(0, 1), (1, 1), (2, 1), (3, 1), (4, 1), (5, 1)] [(.str ⟨#[]⟩), (.bool false), (.bool false), (.bool false), (.bool false), (.bool false)] [(0, (.str ⟨#[115, 101, 108]⟩)), (1, (.bool true)), (2, (.bool true)), (3, (.bool true)), (4, (.bool true))])) fun v28 h28 =>
 aD (iK (cG 6 (aC x23 1) v28 h28)) fun v29 h29 =>
 some (.ret, [(aC x23 1), (.bool true)], h29))
 (aD (pu h27 (bJ Tryd.prog .eql 3 true (aC x23 2) (.int .i64 16))) fun v30 h30 =>
 aS v30
 (aD (pu h30 (cT [(0, 1), (1, 1), (2, 1), (3, 1), (4, 1), (5, 1)] [(.str ⟨#[]⟩), (.bool false), (.bool false), (.bool false), (.bool false), (.bool false)] [(0, (.str ⟨#[115, 116]⟩)), (2, (.bool true)), (3, (.bool true)), (5, (.bool true))])) fun v31 h31 =>
 aD (iK (cG 6 (aC x23 1) v31 h31)) fun v32 h32 =>
 some (.ret, [(aC x23 1), (.bool true)], h32))
 (bU (
 aD (pu h30 (bJ Tryd.prog .eql 3 true (aC x23 2) (.int .i64 17))) fun v33 h33 =>
 aS v33
 (some (.normal, [(aC x23 0), (aC x23 1), (aC x23 2), v33], h33))
 (aD (pu h33 (bJ Tryd.prog .eql 3 true (aC x23 2) (.int .i64 20))) fun v34 h34 =>
 some (.normal, [(aC x23 0), (aC x23 1), (aC x23 2), v34], h34))) fun e35 x35 h35 => eE e35
 (aS (aC x35 3)
 (aD (bA (bT.f G k) [(aC x35 0)] h35) fun v36 h36 =>
 aD (pu h36 (cT [(0, 1), (1, 1), (2, 1), (3, 1), (4, 1), (5, 1)] [(.str ⟨#[]⟩), (.bool false), (.bool false), (.bool false), (.bool false), (.bool false)] [(0, v36), (5, (.bool true))])) fun v37 h37 =>
 aD (iK (cG 6 (aC x35 1) v37 h37)) fun v38 h38 =>
 some (.ret, [(aC x35 1), (.bool true)], h38))
 (bU (
 aD (pu h35 (bJ Tryd.prog .eql 3 true (aC x35 2) (.int .i64 18))) fun v39 h39 =>
 aS v39
 (some (.normal, [(aC x35 0), (aC x35 1), v39], h39))
 (aD (pu h39 (bJ Tryd.prog .eql 3 true (aC x35 2) (.int .i64 19))) fun v40 h40 =>
 some (.normal, [(aC x35 0), (aC x35 1), v40], h40))) fun e41 x41 h41 => eE e41
 (aS (aC x41 2)
 (aD (bA (bT.f G k) [(aC x41 0)] h41) fun v42 h42 =>
 aD (pu h42 (cT [(0, 1), (1, 1), (2, 1), (3, 1), (4, 1), (5, 1)] [(.str ⟨#[]⟩), (.bool false), (.bool false), (.bool false), (.bool false), (.bool false)] [(0, v42), (2, (.bool true)), (5, (.bool true))])) fun v43 h43 =>
 aD (iK (cG 6 (aC x41 1) v43 h43)) fun v44 h44 =>
 some (.ret, [(aC x41 1), (.bool true)], h44))
 (some (.normal, [(aC x41 1), .undef], h41)))
 (fun i41 => if i41 = 0 then (some (.normal, [(aC x41 1), .undef], h41)) else (some (.exit i41, [(aC x41 1), .undef], h41)))
 (some (.ret, [(aC x41 1), .undef], h41))))
 (fun i35 => if i35 = 0 then (some (.normal, [(aC x35 1), .undef], h35)) else (some (.exit i35, [(aC x35 1), .undef], h35)))
 (some (.ret, [(aC x35 1), .undef], h35))))))
 (fun i23 => if i23 = 0 then (some (.normal, [(aC x23 1), .undef], h23)) else (some (.exit i23, [(aC x23 1), .undef], h23)))
 (some (.ret, [(aC x23 1), .undef], h23))))
 (fun i15 => if i15 = 0 then (some (.normal, [(aC x15 1), .undef], h15)) else (some (.exit i15, [(aC x15 1), .undef], h15)))
 (some (.ret, [(aC x15 1), .undef], h15))))) fun e45 x45 h45 => eE e45
 (aD (pu h45 (cT [(0, 1), (1, 1), (2, 1), (3, 1), (4, 1), (5, 1)] [(.str ⟨#[]⟩), (.bool false), (.bool false), (.bool false), (.bool false), (.bool false)] [(0, (.str ⟨#[110, 111, 110, 101]⟩))])) fun v46 h46 =>
 aD (iK (cG 6 (aC x45 0) v46 h46)) fun v47 h47 =>
 zE [aQ G true 6 (aC x45 0) h47, some (.bool false)] h.length h47)
 (fun i45 => none)
 (zE [aQ G true 6 (aC x45 0) h45, some (aC x45 1)] h.length h45))
noncomputable def cB.f (G : aB) : Nat → bH
 | 0 => fun _ _ => none
 | k + 1 => fun args h => gM args fun x0 => (cB.c G k (cB.f G k) x0 h)
noncomputable def cH.ann : Ann := cW [] [] [] []
noncomputable def cH.env (G : aB) (k : Nat) (self : bH) : List (Nat × Bool × bH) := []
noncomputable def cH.c (G : aB) (k : Nat) (self : bH) (x0 x1 : AV) (h : aA) : Option (AV × aA) := dG (
 aD (dR x0 h) fun v0 h0 =>
 aD (dR x1 h0) fun v1 h1 =>
 aD (pu h1 (aL 1 v1)) fun v2 h2 =>
 aD (pu h2 (aQ G false 1 v2 h2)) fun v3 h3 =>
 aD (pu h3 (aL 2 v1)) fun v4 h4 =>
 aD (pu h4 (aQ G false 1 v4 h4)) fun v5 h5 =>
 aD (pu h5 (aL 3 v1)) fun v6 h6 =>
 aD (pu h6 (aQ G false 1 v6 h6)) fun v7 h7 =>
 aD (pu h7 (aL 4 v1)) fun v8 h8 =>
 aD (pu h8 (aQ G false 1 v8 h8)) fun v9 h9 =>
 aD (pu h9 (aL 5 v1)) fun v10 h10 =>
 aD (pu h10 (aQ G false 1 v10 h10)) fun v11 h11 =>
 aD (cI 1 5 (.bool false) [(0, v3), (1, v5), (2, v7), (3, v9), (4, v11)] h11) fun v12 h12 =>
 aD (pu h12 (aL 1 v0)) fun v13 h13 =>
 aD (pu h13 (aQ G false 1 v13 h13)) fun v14 h14 =>
 aD (pu h14 (aL 2 v0)) fun v15 h15 =>
 aD (pu h15 (aQ G false 1 v15 h15)) fun v16 h16 =>
 aD (pu h16 (aL 3 v0)) fun v17 h17 =>
 aD (pu h17 (aQ G false 1 v17 h17)) fun v18 h18 =>
 aD (pu h18 (aL 4 v0)) fun v19 h19 =>
 aD (pu h19 (aQ G false 1 v19 h19)) fun v20 h20 =>
 aD (pu h20 (aL 5 v0)) fun v21 h21 =>
 aD (pu h21 (aQ G false 1 v21 h21)) fun v22 h22 =>
 aD (cI 1 5 (.int .i64 0) [(0, v14), (1, v16), (2, v18), (3, v20), (4, v22)] h22) fun v23 h23 =>
 bR [v12, v23] h.length h23)
noncomputable def cH.f (G : aB) : Nat → bH
 | 0 => fun _ _ => none
 | k + 1 => fun args h => iR args fun x0 x1 => (cH.c G k (cH.f G k) x0 x1 h)
noncomputable def bX.ann : Ann := cW [] [] [(12, [2, 3, 4, 8, 53, 54, 55]), (6, [2, 3, 4, 7, 8, 28])] [(33, [3, 4, 12]), (31, [2, 3, 12, 82]), (27, [2, 3, 12, 72, 79]), (22, [2, 3, 12, 72, 73])]
noncomputable def bX.env (G : aB) (k : Nat) (self : bH) : List (Nat × Bool × bH) := [(51, true, cB.f G k), (95, true, cH.f G k)]
noncomputable def bX.l6 (G : aB) (k n0 : Nat) (self : bH) (lp : bW) : bW := fun xs h0 => eF n0 xs h0 fun h =>
 aD (pu h (bJ Tryd.prog .lss 3 true (aC xs 5) (.int .i64 4))) fun v17 h17 =>
 aS v17
 (aD (pu h17 (aR 1 (aC xs 3) (aC xs 5))) fun v18 h18 =>
 aD (pu h18 (aQ G false 1 v18 h18)) fun v19 h19 =>
 aD (gd v19 true h19 (some ((aC xs 4), h19))) fun v20 h20 =>
 aD (gd v19 true h20 (some ((aC xs 5), h20))) fun v21 h21 =>
 aD (gd v19 true h21 (pu h21 (aR 1 v20 v21))) fun v22 h22 =>
 aD (gd v19 true h22 (pu h22 (aQ G false 1 v22 h22))) fun v23 h23 =>
 aD (gd v19 true h23 (pu h23 (bJ Tryd.prog .lss 2 true v23 (.int .i64 0)))) fun v24 h24 =>
 aD (gd v19 true h24 (some (v24, h24))) fun v25 h25 =>
 aD (gd v25 false h25 (some ((aC xs 4), h25))) fun v26 h26 =>
 aD (gd v25 false h26 (some ((aC xs 5), h26))) fun v27 h27 =>
 aD (gd v25 false h27 (pu h27 (aR 1 v26 v27))) fun v28 h28 =>
 aD (gd v25 false h28 (pu h28 (aQ G false 1 v28 h28))) fun v29 h29 =>
 aD (gd v25 false h29 (pu h29 (aL 1 (aC xs 0)))) fun v30 h30 =>
 aD (gd v25 false h30 (pu h30 (aQ G false 1 v30 h30))) fun v31 h31 =>
 aD (gd v25 false h31 (pu h31 (bJ Tryd.prog .geq 2 false v29 v31))) fun v32 h32 =>
 aD (gd v19 true h32 (pu h32 (cO v25 (.bool true) v32))) fun v33 h33 =>
 aD (pu h33 (cO v19 v33 (.bool false))) fun v34 h34 =>
 aS v34
 (aD (pu h34 (aQ G false 1 (.gl 0) h34)) fun v35 h35 =>
 some (.ret, [(aC xs 0), (aC xs 1), v35, (aC xs 3), (aC xs 4), (aC xs 5)], h35))
 (aD (pu h34 (bJ Tryd.prog .add 3 true (aC xs 5) (.int .i64 1))) fun v36 h36 =>
 lp [(aC xs 0), (aC xs 1), (aC xs 2), (aC xs 3), (aC xs 4), v36] h36))
 (some (.exit 0, [(aC xs 0), (aC xs 1), (aC xs 2), (aC xs 3), (aC xs 4), (aC xs 5)], h17))
noncomputable def bX.l12 (G : aB) (k n0 : Nat) (self : bH) (lp : bW) : bW := fun xs h0 => eF n0 xs h0 fun h =>
 aD (pu h (bJ Tryd.prog .lss 3 false (aC xs 6) (aC xs 5))) fun v39 h39 =>
 aS v39
 (aD (pu h39 (aR 1 (aC xs 4) (aC xs 6))) fun v40 h40 =>
 aD (pu h40 (aQ G false 1 v40 h40)) fun v41 h41 =>
 aD (pu h41 (un .not v41)) fun v42 h42 =>
 aD (gd v42 true h42 (some ((aC xs 3), h42))) fun v43 h43 =>
 aD (gd v42 true h43 (some ((aC xs 6), h43))) fun v44 h44 =>
 aD (gd v42 true h44 (pu h44 (aR 1 v43 v44))) fun v45 h45 =>
 aD (gd v42 true h45 (pu h45 (aQ G false 1 v45 h45))) fun v46 h46 =>
 aD (gd v42 true h46 (pu h46 (bJ Tryd.prog .neq 2 true v46 (.int .i64 0)))) fun v47 h47 =>
 aD (pu h47 (cO v42 v47 (.bool false))) fun v48 h48 =>
 aS v48
 (aD (pu h48 (aQ G false 1 (.gl 4) h48)) fun v49 h49 =>
 some (.ret, [(aC xs 0), (aC xs 1), v49, (aC xs 3), (aC xs 4), (aC xs 5), (aC xs 6)], h49))
 (aD (pu h48 (bJ Tryd.prog .add 3 true (aC xs 6) (.int .i64 1))) fun v50 h50 =>
 lp [(aC xs 0), (aC xs 1), (aC xs 2), (aC xs 3), (aC xs 4), (aC xs 5), v50] h50))
 (some (.exit 2, [(aC xs 0), (aC xs 1), (aC xs 2), (aC xs 3), (aC xs 4), (aC xs 5), (aC xs 6)], h39))
noncomputable def bX.c (G : aB) (k : Nat) (self : bH) (x0 x1 : AV) (h : aA) : Option (AV × aA) := dG (
 aD (dR x0 h) fun v0 h0 =>
 aD (dR x1 h0) fun v1 h1 =>
 aD (pu h1 (aL 0 v1)) fun v2 h2 =>
 aD (pu h2 (aQ G false 1 v2 h2)) fun v3 h3 =>
 aD (bA (cB.f G k) [v3] h3) fun v4 h4 =>
 aD (pu h4 (bZ v4 0)) fun v5 h5 =>
 aD (pu h5 (bZ v4 1)) fun v6 h6 =>
 aD (fM 100 (.agg [(.str ⟨#[]⟩), (.bool false), (.bool false), (.bool false), (.bool false), (.bool false)]) h6) fun v7 h7 =>
 aD (iK (cG 6 v7 v5 h7)) fun v8 h8 =>
 aD (pu h8 (un .not v6)) fun v9 h9 =>
 aS v9
 (aD (pu h9 (aQ G false 1 (.gl 3) h9)) fun v10 h10 =>
 bR [v10] h.length h10)
 (aD (pu h9 (aQ G true 6 v1 h9)) fun v11 h11 =>
 aD (pu h11 (aQ G true 6 v7 h11)) fun v12 h12 =>
 aD (bA (cH.f G k) [v11, v12] h12) fun v13 h13 =>
 aD (pu h13 (bZ v13 0)) fun v14 h14 =>
 aD (pu h14 (bZ v13 1)) fun v15 h15 =>
 bU (dD (bX.l6 G k h15.length self) k [v0, v1, .nili, v14, v15, (.int .i64 0)] h15) fun e16 x16 h16 => eE e16
 (none)
 (fun i16 => if i16 = 0 then (aD (pu h16 (cK (aC x16 3))) fun v37 h37 =>
 bU (dD (bX.l12 G k h37.length self) k [(aC x16 0), (aC x16 1), (aC x16 2), (aC x16 4), (aC x16 3), v37, (.int .i64 0)] h37) fun e38 x38 h38 => eE e38
 (none)
 (fun i38 => if i38 = 2 then (bU (
 aD (pu h38 (aL 0 (aC x38 1))) fun v51 h51 =>
 aD (pu h51 (aQ G false 1 v51 h51)) fun v52 h52 =>
 bU (
 aD (pu h52 (bJ Tryd.prog .eql 3 true v52 (.int .i64 10))) fun v53 h53 =>
 aS v53
 (some (.normal, [(aC x38 0), (aC x38 1), (.int .i64 (-1)), v52, v53], h53))
 (aD (pu h53 (bJ Tryd.prog .eql 3 true v52 (.int .i64 11))) fun v54 h54 =>
 aS v54
 (some (.normal, [(aC x38 0), (aC x38 1), (.int .i64 (-1)), v52, v54], h54))
 (aD (pu h54 (bJ Tryd.prog .eql 3 true v52 (.int .i64 12))) fun v55 h55 =>
 some (.normal, [(aC x38 0), (aC x38 1), (.int .i64 (-1)), v52, v55], h55)))) fun e56 x56 h56 => eE e56
 (aS (aC x56 4)
 (some (.normal, [(aC x56 1), .undef, (.int .i64 63)], h56))
 (aD (pu h56 (bJ Tryd.prog .eql 3 true (aC x56 3) (.int .i64 20))) fun v57 h57 =>
 aS v57
 (some (.normal, [(aC x56 1), .undef, (.int .i64 2)], h57))
 (bU (
 aD (pu h57 (bJ Tryd.prog .eql 3 true (aC x56 3) (.int .i64 15))) fun v58 h58 =>
 aS v58
 (some (.normal, [(aC x56 0), (aC x56 1), (aC x56 2), (aC x56 3), v58], h58))
 (aD (pu h58 (bJ Tryd.prog .eql 3 true (aC x56 3) (.int .i64 16))) fun v59 h59 =>
 some (.normal, [(aC x56 0), (aC x56 1), (aC x56 2), (aC x56 3), v59], h59))) fun e60 x60 h60 => eE e60
 (aS (aC x60 4)
 (some (.normal, [(aC x60 1), .undef, (.int .i64 65535)], h60))
 (bU (
 aD (pu h60 (bJ Tryd.prog .eql 3 true (aC x60 3) (.int .i64 17))) fun v61 h61 =>
 aS v61
 (some (.normal, [(aC x60 0), (aC x60 1), (aC x60 2), v61], h61))
 (aD (pu h61 (bJ Tryd.prog .eql 3 true (aC x60 3) (.int .i64 18))) fun v62 h62 =>
 aS v62
 (some (.normal, [(aC x60 0), (aC x60 1), (aC x60 2), v62], h62))
 (aD (pu h62 (bJ Tryd.prog .eql 3 true (aC x60 3) (.int .i64 19))) fun v63 h63 =>
 some (.normal, [(aC x60 0), (aC x60 1), (aC x60 2), v63], h63)))) fun e64 x64 h64 => eE e64
 (aS (aC x64 3)
 (aD (pu h64 (aL 5 (aC x64 1))) fun v65 h65 =>
 aD (pu h65 (aQ G false 1 v65 h65)) fun v66 h66 =>
 aD (pu h66 (bJ Tryd.prog .lss 2 true v66 (.int .i64 0))) fun v67 h67 =>
 aD (gd v67 false h67 (pu h67 (aL 5 (aC x64 1)))) fun v68 h68 =>
 aD (gd v67 false h68 (pu h68 (aQ G false 1 v68 h68))) fun v69 h69 =>
 aD (gd v67 false h69 (pu h69 (aL 0 (aC x64 0)))) fun v70 h70 =>
 aD (gd v67 false h70 (pu h70 (aQ G false 1 v70 h70))) fun v71 h71 =>
 aD (gd v67 false h71 (pu h71 (cK v71))) fun v72 h72 =>
 aD (gd v67 false h72 (pu h72 (bJ Tryd.prog .gtr 2 false v69 v72))) fun v73 h73 =>
 aD (pu h73 (cO v67 (.bool true) v73)) fun v74 h74 =>
 aS v74
 (aD (pu h74 (aQ G false 1 (.gl 5) h74)) fun v75 h75 =>
 some (.ret, [(aC x64 1), v75, (aC x64 2)], h75))
 (some (.normal, [(aC x64 1), .undef, (aC x64 2)], h74)))
 (some (.normal, [(aC x64 1), .undef, (aC x64 2)], h64)))
 (fun i64 => if i64 = 4 then (some (.normal, [(aC x64 1), .undef, (aC x64 2)], h64)) else (some (.exit i64, [(aC x64 1), .undef, (aC x64 2)], h64)))
 (some (.ret, [(aC x64 1), .undef, (aC x64 2)], h64))))
 (fun i60 => if i60 = 4 then (some (.normal, [(aC x60 1), .undef, (aC x60 2)], h60)) else (some (.exit i60, [(aC x60 1), .undef, (aC x60 2)], h60)))
 (some (.ret, [(aC x60 1), .undef, (aC x60 2)], h60)))))
 (fun i56 => if i56 = 4 then (some (.normal, [(aC x56 1), .undef, (aC x56 2)], h56)) else (some (.exit i56, [(aC x56 1), .undef, (aC x56 2)], h56)))
 (some (.ret, [(aC x56 1), .undef, (aC x56 2)], h56))) fun e76 x76 h76 => eE e76
 (aD (pu h76 (bJ Tryd.prog .geq 2 true (aC x76 2) (.int .i64 0))) fun v77 h77 =>
 aD (gd v77 true h77 (pu h77 (aL 5 (aC x76 0)))) fun v78 h78 =>
 aD (gd v77 true h78 (pu h78 (aQ G false 1 v78 h78))) fun v79 h79 =>
 aD (gd v77 true h79 (pu h79 (bJ Tryd.prog .lss 2 true v79 (.int .i64 0)))) fun v80 h80 =>
 aD (gd v77 true h80 (some (v80, h80))) fun v81 h81 =>
 aD (gd v81 false h81 (pu h81 (aL 5 (aC x76 0)))) fun v82 h82 =>
 aD (gd v81 false h82 (pu h82 (aQ G false 1 v82 h82))) fun v83 h83 =>
 aD (gd v81 false h83 (some ((aC x76 2), h83))) fun v84 h84 =>
 aD (gd v81 false h84 (pu h84 (bJ Tryd.prog .gtr 2 false v83 v84))) fun v85 h85 =>
 aD (gd v77 true h85 (pu h85 (cO v81 (.bool true) v85))) fun v86 h86 =>
 aD (pu h86 (cO v77 v86 (.bool false))) fun v87 h87 =>
 aS v87
 (aD (pu h87 (aQ G false 1 (.gl 0) h87)) fun v88 h88 =>
 bR [v88] h.length h88)
 (bR [.nili] h.length h87))
 (fun i76 => none)
 (bR [(aC x76 1)] h.length h76)) else (none))
 (bR [(aC x38 2)] h.length h38)) else (none))
 (bR [(aC x16 2)] h.length h16)))
noncomputable def bX.f (G : aB) : Nat → bH
 | 0 => fun _ _ => none
 | k + 1 => fun args h => iR args fun x0 x1 => (bX.c G k (bX.f G k) x0 x1 h)
noncomputable def bP.ann : Ann := cW [] [] [(6, [1, 2, 33, 34, 35])] []
noncomputable def bP.env (G : aB) (k : Nat) (self : bH) : List (Nat × Bool × bH) := [(72, true, bX.f G k)]
noncomputable def bP.l6 (G : aB) (k n0 : Nat) (self : bH) (lp : bW) : bW := fun xs h0 => eF n0 xs h0 fun h =>
 aD (pu h (bJ Tryd.prog .lss 3 false (aC xs 4) (aC xs 3))) fun v26 h26 =>
 aS v26
 (aD (pu h26 (aR 6 (aC xs 2) (aC xs 4))) fun v27 h27 =>
 aD (pu h27 (aQ G true 6 v27 h27)) fun v28 h28 =>
 aD (fM 29 (.agg [(.int .i64 0), (.int .i64 0), (.int .i64 0), (.int .i64 0), (.int .i64 0), (.int .i64 0)]) h28) fun v29 h29 =>
 aD (iK (cG 6 v29 v28 h29)) fun v30 h30 =>
 aD (pu h30 (aQ G true 3 (aC xs 0) h30)) fun v31 h31 =>
 aD (pu h31 (aQ G true 6 v29 h31)) fun v32 h32 =>
 aD (bA (bX.f G k) [v31, v32] h32) fun v33 h33 =>
 aD (pu h33 (bJ Tryd.prog .neq 33 true v33 .nili)) fun v34 h34 =>
 aS v34
 (aD (pu h34 (cT [(0, 1), (1, 1)] [(.int .i64 0), .nili] [(0, (aC xs 4)), (1, v33)])) fun v35 h35 =>
 aD (dR v35 h35) fun v36 h36 =>
 some (.ret, [(aC xs 0), (.iface 126 v36), (aC xs 2), (aC xs 3), (aC xs 4)], h36))
 (aD (pu h34 (bJ Tryd.prog .add 3 true (aC xs 4) (.int .i64 1))) fun v37 h37 =>
 lp [(aC xs 0), (aC xs 1), (aC xs 2), (aC xs 3), v37] h37))
 (some (.exit 1, [(aC xs 0), (aC xs 1), (aC xs 2), (aC xs 3), (aC xs 4)], h26))
noncomputable def bP.c (G : aB) (k : Nat) (self : bH) (x0 : AV) (h : aA) : Option (AV × aA) := dG (
 aD (dR x0 h) fun v0 h0 =>
 aD (pu h0 (aL 0 v0)) fun v1 h1 =>
 aD (pu h1 (aQ G false 1 v1 h1)) fun v2 h2 =>
 aD (pu h2 (cK v2)) fun v3 h3 =>
 aD (pu h3 (bJ Tryd.prog .gtr 3 true v3 (.int .i64 262144))) fun v4 h4 =>
 aS v4
 (aD (pu h4 (aQ G false 1 (.gl 1) h4)) fun v5 h5 =>
 bR [v5] h.length h5)
 (aD (pu h4 (aL 1 v0)) fun v6 h6 =>
 aD (pu h6 (aQ G false 1 v6 h6)) fun v7 h7 =>
 aD (pu h7 (bJ Tryd.prog .lss 3 true v7 (.int .i64 0))) fun v8 h8 =>
 aD (gd v8 false h8 (pu h8 (aL 1 v0))) fun v9 h9 =>
 aD (gd v8 false h9 (pu h9 (aQ G false 1 v9 h9))) fun v10 h10 =>
 aD (gd v8 false h10 (pu h10 (bJ Tryd.prog .gtr 3 true v10 (.int .i64 65536)))) fun v11 h11 =>
 aD (pu h11 (cO v8 (.bool true) v11)) fun v12 h12 =>
 aD (gd v12 false h12 (pu h12 (aL 2 v0))) fun v13 h13 =>
 aD (gd v12 false h13 (pu h13 (aQ G false 1 v13 h13))) fun v14 h14 =>
 aD (gd v12 false h14 (pu h14 (bJ Tryd.prog .lss 3 true v14 (.int .i64 0)))) fun v15 h15 =>
 aD (pu h15 (cO v12 (.bool true) v15)) fun v16 h16 =>
 aD (gd v16 false h16 (pu h16 (aL 2 v0))) fun v17 h17 =>
 aD (gd v16 false h17 (pu h17 (aQ G false 1 v17 h17))) fun v18 h18 =>
 aD (gd v16 false h18 (pu h18 (bJ Tryd.prog .gtr 3 true v18 (.int .i64 65536)))) fun v19 h19 =>
 aD (pu h19 (cO v16 (.bool true) v19)) fun v20 h20 =>
 aS v20
 (aD (pu h20 (aQ G false 1 (.gl 1) h20)) fun v21 h21 =>
 bR [v21] h.length h21)
 (aD (pu h20 (aL 0 v0)) fun v22 h22 =>
 aD (pu h22 (aQ G false 1 v22 h22)) fun v23 h23 =>
 aD (pu h23 (cK v23)) fun v24 h24 =>
 bU (dD (bP.l6 G k h24.length self) k [v0, .nili, v23, v24, (.int .i64 0)] h24) fun e25 x25 h25 => eE e25
 (none)
 (fun i25 => if i25 = 1 then (bR [.nili] h.length h25) else (none))
 (bR [(aC x25 1)] h.length h25))))
noncomputable def bP.f (G : aB) : Nat → bH
 | 0 => fun _ _ => none
 | k + 1 => fun args h => gM args fun x0 => (bP.c G k (bP.f G k) x0 h)
noncomputable def bM.ann : Ann := cW [] [] [] []
noncomputable def bM.env (G : aB) (k : Nat) (self : bH) : List (Nat × Bool × bH) := [(51, true, cB.f G k)]
noncomputable def bM.c (G : aB) (k : Nat) (self : bH) (x0 : AV) (h : aA) : Option (AV × aA) := dG (
 aD (dR x0 h) fun v0 h0 =>
 aD (pu h0 (aL 0 v0)) fun v1 h1 =>
 aD (pu h1 (aQ G false 1 v1 h1)) fun v2 h2 =>
 aD (bA (cB.f G k) [v2] h2) fun v3 h3 =>
 aD (pu h3 (bZ v3 0)) fun v4 h4 =>
 aD (pu h4 (bZ v3 1)) fun v5 h5 =>
 aD (fM 100 (.agg [(.str ⟨#[]⟩), (.bool false), (.bool false), (.bool false), (.bool false), (.bool false)]) h5) fun v6 h6 =>
 aD (iK (cG 6 v6 v4 h6)) fun v7 h7 =>
 aD (pu h7 (aL 1 v6)) fun v8 h8 =>
 aD (pu h8 (aQ G false 1 v8 h8)) fun v9 h9 =>
 aD (pu h9 (un .not v9)) fun v10 h10 =>
 aS v10
 (bR [(.int .i64 0), (.bool false)] h.length h10)
 (aD (pu h10 (aL 1 v0)) fun v11 h11 =>
 aD (pu h11 (aQ G false 1 v11 h11)) fun v12 h12 =>
 bR [v12, (.bool true)] h.length h12))
noncomputable def bM.f (G : aB) : Nat → bH
 | 0 => fun _ _ => none
 | k + 1 => fun args h => gM args fun x0 => (bM.c G k (bM.f G k) x0 h)
noncomputable def bE.ann : Ann := cW [] [] [] []
noncomputable def bE.env (G : aB) (k : Nat) (self : bH) : List (Nat × Bool × bH) := []
noncomputable def bE.c (G : aB) (k : Nat) (self : bH) (x0 : AV) (h : aA) : Option (AV × aA) := dG (
 aD (pu h (bJ Tryd.prog .neq 3 false x0 x0)) fun v0 h0 =>
 bR [v0] h.length h0)
noncomputable def bE.f (G : aB) : Nat → bH
 | 0 => fun _ _ => none
 | k + 1 => fun args h => gM args fun x0 => (bE.c G k (bE.f G k) x0 h)
noncomputable def bG.ann : Ann := cW [] [] [] []
noncomputable def bG.env (G : aB) (k : Nat) (self : bH) : List (Nat × Bool × bH) := [(120, true, bE.f G k)]
noncomputable def bG.c (G : aB) (k : Nat) (self : bH) (x0 x1 : AV) (h : aA) : Option (AV × aA) := dG (
 aD (bA (bE.f G k) [x0] h) fun v0 h0 =>
 aD (gd v0 true h0 (some (x1, h0))) fun v1 h1 =>
 aD (gd v0 true h1 (bA (bE.f G k) [v1] h1)) fun v2 h2 =>
 aD (gd v0 true h2 (pu h2 (un .not v2))) fun v3 h3 =>
 aD (pu h3 (cO v0 v3 (.bool false))) fun v4 h4 =>
 aD (gd v4 false h4 (some (x0, h4))) fun v5 h5 =>
 aD (gd v4 false h5 (some (x1, h5))) fun v6 h6 =>
 aD (gd v4 false h6 (pu h6 (bJ Tryd.prog .lss 3 false v5 v6))) fun v7 h7 =>
 aD (pu h7 (cO v4 (.bool true) v7)) fun v8 h8 =>
 bR [v8] h.length h8)
noncomputable def bG.f (G : aB) : Nat → bH
 | 0 => fun _ _ => none
 | k + 1 => fun args h => iR args fun x0 x1 => (bG.c G k (bG.f G k) x0 x1 h)
noncomputable def aE.ann : Ann := cW [] [] [(4, [0, 1, 2, 6, 7]), (1, [0, 1, 2, 6])] []
noncomputable def aE.env (G : aB) (k : Nat) (self : bH) : List (Nat × Bool × bH) := [(103, true, bG.f G k)]
noncomputable def aE.l4 (G : aB) (k n0 : Nat) (self : bH) (lp : bW) : bW := fun xs h0 => eF n0 xs h0 fun h =>
 aD (pu h (bJ Tryd.prog .gtr 3 false (aC xs 4) (aC xs 1))) fun v4 h4 =>
 aD (gd v4 true h4 (some ((aC xs 0), h4))) fun v5 h5 =>
 aD (gd v4 true h5 (some ((aC xs 4), h5))) fun v6 h6 =>
 aD (gd v4 true h6 (pu h6 (aR 1 v5 v6))) fun v7 h7 =>
 aD (gd v4 true h7 (pu h7 (aQ G false 1 v7 h7))) fun v8 h8 =>
 aD (gd v4 true h8 (some ((aC xs 0), h8))) fun v9 h9 =>
 aD (gd v4 true h9 (some ((aC xs 4), h9))) fun v10 h10 =>
 aD (gd v4 true h10 (pu h10 (bJ Tryd.prog .sub 3 true v10 (.int .i64 1)))) fun v11 h11 =>
 aD (gd v4 true h11 (pu h11 (aR 1 v9 v11))) fun v12 h12 =>
 aD (gd v4 true h12 (pu h12 (aQ G false 1 v12 h12))) fun v13 h13 =>
 aD (gd v4 true h13 (bA (bG.f G k) [v8, v13] h13)) fun v14 h14 =>
 aD (pu h14 (cO v4 v14 (.bool false))) fun v15 h15 =>
 aS v15
 (aD (pu h15 (bJ Tryd.prog .sub 3 true (aC xs 4) (.int .i64 1))) fun v16 h16 =>
 aD (pu h16 (bJ Tryd.prog .sub 3 true (aC xs 4) (.int .i64 1))) fun v17 h17 =>
 aD (pu h17 (aR 1 (aC xs 0) v17)) fun v18 h18 =>
 aD (pu h18 (aQ G false 1 v18 h18)) fun v19 h19 =>
 aD (pu h19 (aR 1 (aC xs 0) (aC xs 4))) fun v20 h20 =>
 aD (pu h20 (aQ G false 1 v20 h20)) fun v21 h21 =>
 aD (pu h21 (aR 1 (aC xs 0) (aC xs 4))) fun v22 h22 =>
 aD (iK (cG 1 v22 v19 h22)) fun v23 h23 =>
 aD (pu h23 (aR 1 (aC xs 0) v16)) fun v24 h24 =>
 aD (iK (cG 1 v24 v21 h24)) fun v25 h25 =>
 aD (pu h25 (bJ Tryd.prog .sub 3 true (aC xs 4) (.int .i64 1))) fun v26 h26 =>
 lp [(aC xs 0), (aC xs 1), (aC xs 2), (aC xs 3), v26] h26)
 (some (.exit 2, [(aC xs 0), (aC xs 1), (aC xs 2), (aC xs 3), (aC xs 4)], h15))
noncomputable def aE.l1 (G : aB) (k n0 : Nat) (self : bH) (lp : bW) : bW := fun xs h0 => eF n0 xs h0 fun h =>
 aD (pu h (bJ Tryd.prog .lss 3 false (aC xs 3) (aC xs 2))) fun v2 h2 =>
 aS v2
 (bU (dD (aE.l4 G k h2.length self) k [(aC xs 0), (aC xs 1), (aC xs 2), (aC xs 3), (aC xs 3)] h2) fun e3 x3 h3 => eE e3
 (none)
 (fun i3 => if i3 = 2 then (aD (pu h3 (bJ Tryd.prog .add 3 true (aC x3 3) (.int .i64 1))) fun v27 h27 =>
 lp [(aC x3 0), (aC x3 1), (aC x3 2), v27] h27) else (if i3 = 1 then (aD (pu h3 (bJ Tryd.prog .add 3 true (aC x3 3) (.int .i64 1))) fun v28 h28 =>
 lp [(aC x3 0), (aC x3 1), (aC x3 2), v28] h28) else (some (.exit i3, [(aC x3 0), (aC x3 1), (aC x3 2), (aC x3 3)], h3))))
 (some (.ret, [(aC x3 0), (aC x3 1), (aC x3 2), (aC x3 3)], h3)))
 (some (.exit 0, [(aC xs 0), (aC xs 1), (aC xs 2), (aC xs 3)], h2))
noncomputable def aE.c (G : aB) (k : Nat) (self : bH) (x0 x1 x2 : AV) (h : aA) : Option (AV × aA) := dG (
 aD (pu h (bJ Tryd.prog .add 3 true x1 (.int .i64 1))) fun v0 h0 =>
 bU (dD (aE.l1 G k h0.length self) k [x0, x1, x2, v0] h0) fun e1 x1 h1 => eE e1
 (none)
 (fun i1 => if i1 = 0 then (bR [] h.length h1) else (none))
 (bR [] h.length h1))
noncomputable def aE.f (G : aB) : Nat → bH
 | 0 => fun _ _ => none
 | k + 1 => fun args h => vR args fun x0 x1 x2 => (aE.c G k (aE.f G k) x0 x1 x2 h)
noncomputable def aH.ann : Ann := cW [] [] [(2, [0, 1, 2, 3, 8, 9])] [(17, [0, 1, 2, 3, 8, 9, 10, 11]), (15, [0, 1, 2, 3, 8, 9, 10, 11, 12]), (10, [0, 1, 2, 3, 8, 9, 10])]
noncomputable def aH.env (G : aB) (k : Nat) (self : bH) : List (Nat × Bool × bH) := [(87, false, self), (97, false, aE.f G k), (103, true, bG.f G k)]
noncomputable def aH.l2 (G : aB) (k n0 : Nat) (self : bH) (lp : bW) : bW := fun xs h0 => eF n0 xs h0 fun h =>
 aD (pu h (bJ Tryd.prog .sub 3 false (aC xs 2) (aC xs 1))) fun v1 h1 =>
 aD (pu h1 (bJ Tryd.prog .leq 3 true v1 (.int .i64 12))) fun v2 h2 =>
 aS v2
 (aD (dA (aE.f G k) [(aC xs 0), (aC xs 1), (aC xs 2)] h2) fun v3 h3 =>
 some (.ret, [(aC xs 0), (aC xs 1), (aC xs 2), (aC xs 3), (aC xs 4), (aC xs 5)], h3))
 (aD (pu h2 (bJ Tryd.prog .eql 3 true (aC xs 3) (.int .i64 0))) fun v4 h4 =>
 aS v4
 (none)
 (bU (
 aD (pu h4 (un .not (aC xs 4))) fun v5 h5 =>
 aS v5
 (none)
 (some (.normal, [(aC xs 0), (aC xs 1), (aC xs 2), (aC xs 3), (aC xs 4), (aC xs 5), v1], h5))) fun e6 x6 h6 => eE e6
 (none)
 (fun i6 => if i6 = 1 then (lp [(aC x6 0), (aC x6 1), (aC x6 2), (aC x6 3), (aC x6 4), (aC x6 5)] h6) else (some (.exit i6, [(aC x6 0), (aC x6 1), (aC x6 2), (aC x6 3), (aC x6 4), (aC x6 5)], h6)))
 (some (.ret, [(aC x6 0), (aC x6 1), (aC x6 2), (aC x6 3), (aC x6 4), (aC x6 5)], h6))))
noncomputable def aH.c (G : aB) (k : Nat) (self : bH) (x0 x1 x2 x3 : AV) (h : aA) : Option (AV × aA) := dG (
 bU (dD (aH.l2 G k h.length self) k [x0, x1, x2, x3, (.bool true), (.bool true)] h) fun e0 x0 h0 => eE e0
 (none)
 (fun i0 => if i0 = 0 then (bR [] h.length h0) else (none))
 (bR [] h.length h0))
noncomputable def aH.f (G : aB) : Nat → bH
 | 0 => fun _ _ => none
 | k + 1 => fun args h => xT args fun x0 x1 x2 x3 => (aH.c G k (aH.f G k) x0 x1 x2 x3 h)
def aX.s0 : ByteArray := ⟨#[0, 1, 2, 2, 3, 3, 3, 3, 4, 4, 4, 4, 4, 4, 4, 4, 5, 5, 5, 5, 5, 5, 5, 5, 5, 5, 5, 5, 5, 5, 5, 5, 6, 6, 6, 6, 6, 6, 6, 6, 6, 6, 6, 6, 6, 6, 6, 6, 6, 6, 6, 6, 6, 6, 6, 6, 6, 6, 6, 6, 6, 6, 6, 6, 7, 7, 7, 7, 7, 7, 7, 7, 7, 7, 7, 7, 7, 7, 7, 7, 7, 7, 7, 7, 7, 7, 7, 7, 7, 7, 7, 7, 7, 7, 7, 7, 7, 7, 7, 7, 7, 7, 7, 7, 7, 7, 7, 7, 7, 7, 7, 7, 7, 7, 7, 7, 7, 7, 7, 7, 7, 7, 7, 7, 7, 7, 7, 7, 8, 8, 8, 8, 8, 8, 8, 8, 8, 8, 8, 8, 8, 8, 8, 8, 8, 8, 8, 8, 8, 8, 8, 8, 8, 8, 8, 8, 8, 8, 8, 8, 8, 8, 8, 8, 8, 8, 8, 8, 8, 8, 8, 8, 8, 8, 8, 8, 8, 8, 8, 8, 8, 8, 8, 8, 8, 8, 8, 8, 8, 8, 8, 8, 8, 8, 8, 8, 8, 8, 8, 8, 8, 8, 8, 8, 8, 8, 8, 8, 8, 8, 8, 8, 8, 8, 8, 8, 8, 8, 8, 8, 8, 8, 8, 8, 8, 8, 8, 8, 8, 8, 8, 8, 8, 8, 8, 8, 8, 8, 8, 8, 8, 8, 8, 8, 8, 8, 8, 8, 8, 8, 8, 8, 8, 8, 8, 8]⟩
noncomputable def aX.ann : Ann := cW [] [] [] [(7, [0, 2]), (4, [0, 2])]
noncomputable def aX.env (G : aB) (k : Nat) (self : bH) : List (Nat × Bool × bH) := []
noncomputable def aX.c (G : aB) (k : Nat) (self : bH) (x0 : AV) (h : aA) : Option (AV × aA) := dG (
 bU (
 aD (pu h (bJ Tryd.prog .geq 161 true x0 (.int .u32 65536))) fun v0 h0 =>
 aS v0
 (aD (pu h0 (bJ Tryd.prog .shr 161 true x0 (.int .u64 16))) fun v1 h1 =>
 some (.normal, [v1, (.int .i64 16)], h1))
 (some (.normal, [x0, (.int .i64 0)], h0))) fun e2 x2 h2 => eE e2
 (bU (
 aD (pu h2 (bJ Tryd.prog .geq 161 true (aC x2 0) (.int .u32 256))) fun v3 h3 =>
 aS v3
 (aD (pu h3 (bJ Tryd.prog .shr 161 true (aC x2 0) (.int .u64 8))) fun v4 h4 =>
 aD (pu h4 (bJ Tryd.prog .add 3 true (aC x2 1) (.int .i64 8))) fun v5 h5 =>
 some (.normal, [v4, v5], h5))
 (some (.normal, [(aC x2 0), (aC x2 1)], h3))) fun e6 x6 h6 => eE e6
 (aD (pu h6 (eJ .u8 (aC x6 0))) fun v7 h7 =>
 aD (pu h7 (qL (.str aX.s0) v7)) fun v8 h8 =>
 aD (pu h8 (eJ .i64 v8)) fun v9 h9 =>
 aD (pu h9 (bJ Tryd.prog .add 3 false (aC x6 1) v9)) fun v10 h10 =>
 bR [v10] h.length h10)
 (fun i6 => none)
 (bR [(aC x6 1)] h.length h6))
 (fun i2 => none)
 (bR [(aC x2 1)] h.length h2))
noncomputable def aX.f (G : aB) : Nat → bH
 | 0 => fun _ _ => none
 | k + 1 => fun args h => gM args fun x0 => (aX.c G k (aX.f G k) x0 h)
def aY.s0 : ByteArray := ⟨#[0, 1, 2, 2, 3, 3, 3, 3, 4, 4, 4, 4, 4, 4, 4, 4, 5, 5, 5, 5, 5, 5, 5, 5, 5, 5, 5, 5, 5, 5, 5, 5, 6, 6, 6, 6, 6, 6, 6, 6, 6, 6, 6, 6, 6, 6, 6, 6, 6, 6, 6, 6, 6, 6, 6, 6, 6, 6, 6, 6, 6, 6, 6, 6, 7, 7, 7, 7, 7, 7, 7, 7, 7, 7, 7, 7, 7, 7, 7, 7, 7, 7, 7, 7, 7, 7, 7, 7, 7, 7, 7, 7, 7, 7, 7, 7, 7, 7, 7, 7, 7, 7, 7, 7, 7, 7, 7, 7, 7, 7, 7, 7, 7, 7, 7, 7, 7, 7, 7, 7, 7, 7, 7, 7, 7, 7, 7, 7, 8, 8, 8, 8, 8, 8, 8, 8, 8, 8, 8, 8, 8, 8, 8, 8, 8, 8, 8, 8, 8, 8, 8, 8, 8, 8, 8, 8, 8, 8, 8, 8, 8, 8, 8, 8, 8, 8, 8, 8, 8, 8, 8, 8, 8, 8, 8, 8, 8, 8, 8, 8, 8, 8, 8, 8, 8, 8, 8, 8, 8, 8, 8, 8, 8, 8, 8, 8, 8, 8, 8, 8, 8, 8, 8, 8, 8, 8, 8, 8, 8, 8, 8, 8, 8, 8, 8, 8, 8, 8, 8, 8, 8, 8, 8, 8, 8, 8, 8, 8, 8, 8, 8, 8, 8, 8, 8, 8, 8, 8, 8, 8, 8, 8, 8, 8, 8, 8, 8, 8, 8, 8, 8, 8, 8, 8, 8, 8]⟩
noncomputable def aY.ann : Ann := cW [] [] [] [(10, [0, 2]), (7, [0, 2]), (4, [0, 2])]
noncomputable def aY.env (G : aB) (k : Nat) (self : bH) : List (Nat × Bool × bH) := []
noncomputable def aY.c (G : aB) (k : Nat) (self : bH) (x0 : AV) (h : aA) : Option (AV × aA) := dG (
 bU (
 aD (pu h (bJ Tryd.prog .geq 30 true x0 (.int .u64 4294967296))) fun v0 h0 =>
 aS v0
 (aD (pu h0 (bJ Tryd.prog .shr 30 true x0 (.int .u64 32))) fun v1 h1 =>
 some (.normal, [v1, (.int .i64 32)], h1))
 (some (.normal, [x0, (.int .i64 0)], h0))) fun e2 x2 h2 => eE e2
 (bU (
 aD (pu h2 (bJ Tryd.prog .geq 30 true (aC x2 0) (.int .u64 65536))) fun v3 h3 =>
 aS v3
 (aD (pu h3 (bJ Tryd.prog .shr 30 true (aC x2 0) (.int .u64 16))) fun v4 h4 =>
 aD (pu h4 (bJ Tryd.prog .add 3 true (aC x2 1) (.int .i64 16))) fun v5 h5 =>
 some (.normal, [v4, v5], h5))
 (some (.normal, [(aC x2 0), (aC x2 1)], h3))) fun e6 x6 h6 => eE e6
 (bU (
 aD (pu h6 (bJ Tryd.prog .geq 30 true (aC x6 0) (.int .u64 256))) fun v7 h7 =>
 aS v7
 (aD (pu h7 (bJ Tryd.prog .shr 30 true (aC x6 0) (.int .u64 8))) fun v8 h8 =>
 aD (pu h8 (bJ Tryd.prog .add 3 true (aC x6 1) (.int .i64 8))) fun v9 h9 =>
 some (.normal, [v8, v9], h9))
 (some (.normal, [(aC x6 0), (aC x6 1)], h7))) fun e10 x10 h10 => eE e10
 (aD (pu h10 (eJ .u8 (aC x10 0))) fun v11 h11 =>
 aD (pu h11 (qL (.str aY.s0) v11)) fun v12 h12 =>
 aD (pu h12 (eJ .i64 v12)) fun v13 h13 =>
 aD (pu h13 (bJ Tryd.prog .add 3 false (aC x10 1) v13)) fun v14 h14 =>
 bR [v14] h.length h14)
 (fun i10 => none)
 (bR [(aC x10 1)] h.length h10))
 (fun i6 => none)
 (bR [(aC x6 1)] h.length h6))
 (fun i2 => none)
 (bR [(aC x2 1)] h.length h2))
noncomputable def aY.f (G : aB) : Nat → bH
 | 0 => fun _ _ => none
 | k + 1 => fun args h => gM args fun x0 => (aY.c G k (aY.f G k) x0 h)
noncomputable def bK.ann : Ann := cW [] [] [] []
noncomputable def bK.env (G : aB) (k : Nat) (self : bH) : List (Nat × Bool × bH) := [(106, true, aX.f G k), (107, true, aY.f G k)]
noncomputable def bK.c (G : aB) (k : Nat) (self : bH) (x0 : AV) (h : aA) : Option (AV × aA) := dG (
 aS (.bool false)
 (aD (pu h (eJ .u32 x0)) fun v0 h0 =>
 aD (bA (aX.f G k) [v0] h0) fun v1 h1 =>
 bR [v1] h.length h1)
 (aD (bA (aY.f G k) [x0] h) fun v2 h2 =>
 bR [v2] h.length h2))
noncomputable def bK.f (G : aB) : Nat → bH
 | 0 => fun _ _ => none
 | k + 1 => fun args h => gM args fun x0 => (bK.c G k (bK.f G k) x0 h)
noncomputable def aO.ann : Ann := cW [] [] [] []
noncomputable def aO.env (G : aB) (k : Nat) (self : bH) : List (Nat × Bool × bH) := [(87, false, aH.f G k), (88, true, bK.f G k)]
noncomputable def aO.c (G : aB) (k : Nat) (self : bH) (x0 : AV) (h : aA) : Option (AV × aA) := dG (
 aD (pu h (cK x0)) fun v0 h0 =>
 aD (pu h0 (eJ .u64 v0)) fun v1 h1 =>
 aD (bA (bK.f G k) [v1] h1) fun v2 h2 =>
 aD (dA (aH.f G k) [x0, (.int .i64 0), v0, v2] h2) fun v3 h3 =>
 bR [] h.length h3)
noncomputable def aO.f (G : aB) : Nat → bH
 | 0 => fun _ _ => none
 | k + 1 => fun args h => gM args fun x0 => (aO.c G k (aO.f G k) x0 h)
noncomputable def aF.ann : Ann := cW [] [] [(9, [0, 3, 4, 5]), (4, [0, 2, 3])] [(10, [0, 3, 4, 5])]
noncomputable def aF.env (G : aB) (k : Nat) (self : bH) : List (Nat × Bool × bH) := []
noncomputable def aF.l9 (G : aB) (k n0 : Nat) (self : bH) (lp : bW) : bW := fun xs h0 => eF n0 xs h0 fun h =>
 aD (pu h (cK (aC xs 2))) fun v13 h13 =>
 aD (pu h13 (bJ Tryd.prog .lss 3 false (aC xs 3) v13)) fun v14 h14 =>
 aS v14
 (bU (
 aD (pu h14 (aR 1 (aC xs 2) (aC xs 3))) fun v15 h15 =>
 aD (pu h15 (aQ G false 1 v15 h15)) fun v16 h16 =>
 aD (pu h16 (bJ Tryd.prog .sub 3 true (aC xs 3) (.int .i64 1))) fun v17 h17 =>
 aD (pu h17 (aR 1 (aC xs 2) v17)) fun v18 h18 =>
 aD (pu h18 (aQ G false 1 v18 h18)) fun v19 h19 =>
 aD (pu h19 (bJ Tryd.prog .neq 3 false v16 v19)) fun v20 h20 =>
 aS v20
 (aD (pu h20 (aR 1 (aC xs 2) (aC xs 3))) fun v21 h21 =>
 aD (pu h21 (aQ G false 1 v21 h21)) fun v22 h22 =>
 aD (pu h22 (aR 1 (aC xs 0) (aC xs 1))) fun v23 h23 =>
 aD (iK (cG 1 v23 v22 h23)) fun v24 h24 =>
 aD (pu h24 (bJ Tryd.prog .add 3 true (aC xs 1) (.int .i64 1))) fun v25 h25 =>
 some (.normal, [(aC xs 0), v25, (aC xs 2), (aC xs 3)], h25))
 (some (.normal, [(aC xs 0), (aC xs 1), (aC xs 2), (aC xs 3)], h20))) fun e26 x26 h26 => eE e26
 (aD (pu h26 (bJ Tryd.prog .add 3 true (aC x26 3) (.int .i64 1))) fun v27 h27 =>
 lp [(aC x26 0), (aC x26 1), (aC x26 2), v27] h27)
 (fun i26 => some (.exit i26, [(aC x26 0), (aC x26 1), (aC x26 2), (aC x26 3)], h26))
 (some (.ret, [(aC x26 0), (aC x26 1), (aC x26 2), (aC x26 3)], h26)))
 (some (.exit 2, [(aC xs 0), (aC xs 1), (aC xs 2), (aC xs 3)], h14))
noncomputable def aF.l4 (G : aB) (k n0 : Nat) (self : bH) (lp : bW) : bW := fun xs h0 => eF n0 xs h0 fun h =>
 aD (pu h (cK (aC xs 0))) fun v3 h3 =>
 aD (pu h3 (bJ Tryd.prog .lss 3 false (aC xs 2) v3)) fun v4 h4 =>
 aS v4
 (aD (pu h4 (aR 1 (aC xs 0) (aC xs 2))) fun v5 h5 =>
 aD (pu h5 (aQ G false 1 v5 h5)) fun v6 h6 =>
 aD (pu h6 (bJ Tryd.prog .sub 3 true (aC xs 2) (.int .i64 1))) fun v7 h7 =>
 aD (pu h7 (aR 1 (aC xs 0) v7)) fun v8 h8 =>
 aD (pu h8 (aQ G false 1 v8 h8)) fun v9 h9 =>
 aD (pu h9 (bJ Tryd.prog .eql 3 false v6 v9)) fun v10 h10 =>
 aS v10
 (aD (pu h10 (fK 1 (aC xs 0) (some (aC xs 2)) none)) fun v11 h11 =>
 bU (dD (aF.l9 G k h11.length self) k [(aC xs 0), (aC xs 2), v11, (.int .i64 1)] h11) fun e12 x12 h12 => eE e12
 (none)
 (fun i12 => if i12 = 2 then (aD (pu h12 (fK 1 (aC x12 0) (some (aC x12 1)) none)) fun v28 h28 =>
 aD (qG (.int .i64 0) v28 h28) fun v29 h29 =>
 aD (pu h29 (fK 1 (aC x12 0) none (some (aC x12 1)))) fun v30 h30 =>
 some (.ret, [(aC x12 0), v30, (aC x12 1)], h30)) else (if i12 = 1 then (aD (pu h12 (bJ Tryd.prog .add 3 true (aC x12 1) (.int .i64 1))) fun v31 h31 =>
 lp [(aC x12 0), .undef, v31] h31) else (some (.exit i12, [(aC x12 0), .undef, (aC x12 1)], h12))))
 (some (.ret, [(aC x12 0), .undef, (aC x12 1)], h12)))
 (aD (pu h10 (bJ Tryd.prog .add 3 true (aC xs 2) (.int .i64 1))) fun v32 h32 =>
 lp [(aC xs 0), (aC xs 1), v32] h32))
 (some (.exit 0, [(aC xs 0), (aC xs 1), (aC xs 2)], h4))
noncomputable def aF.c (G : aB) (k : Nat) (self : bH) (x0 : AV) (h : aA) : Option (AV × aA) := dG (
 aD (pu h (cK x0)) fun v0 h0 =>
 aD (pu h0 (bJ Tryd.prog .lss 3 true v0 (.int .i64 2))) fun v1 h1 =>
 aS v1
 (bR [x0] h.length h1)
 (bU (dD (aF.l4 G k h1.length self) k [x0, .nils, (.int .i64 1)] h1) fun e2 x2 h2 => eE e2
 (none)
 (fun i2 => if i2 = 0 then (bR [(aC x2 0)] h.length h2) else (none))
 (bR [(aC x2 1)] h.length h2)))
noncomputable def aF.f (G : aB) : Nat → bH
 | 0 => fun _ _ => none
 | k + 1 => fun args h => gM args fun x0 => (aF.c G k (aF.f G k) x0 h)
noncomputable def bN.ann : Ann := cW [] [5] [(4, [1, 5, 20, 21, 22])] []
noncomputable def bN.env (G : aB) (k : Nat) (self : bH) : List (Nat × Bool × bH) := [(51, true, cB.f G k), (53, false, aO.f G k), (54, false, aF.f G k)]
noncomputable def bN.l4 (G : aB) (k n0 : Nat) (self : bH) (lp : bW) : bW := fun xs h0 => eF n0 xs h0 fun h =>
 aD (pu h (bJ Tryd.prog .lss 3 false (aC xs 4) (aC xs 3))) fun v18 h18 =>
 aS v18
 (aD (pu h18 (aR 1 (aC xs 2) (aC xs 4))) fun v19 h19 =>
 aD (pu h19 (aQ G false 1 v19 h19)) fun v20 h20 =>
 aS v20
 (aD (pu h20 (aL 2 (aC xs 0))) fun v21 h21 =>
 aD (pu h21 (aQ G false 1 v21 h21)) fun v22 h22 =>
 aD (pu h22 (aL 3 (aC xs 0))) fun v23 h23 =>
 aD (pu h23 (aQ G false 1 v23 h23)) fun v24 h24 =>
 aD (pu h24 (aL 4 (aC xs 0))) fun v25 h25 =>
 aD (pu h25 (aQ G false 1 v25 h25)) fun v26 h26 =>
 aD (cI 1 3 (.int .i64 0) [(0, v22), (1, v24), (2, v26)] h26) fun v27 h27 =>
 aD (pu h27 (aR 1 v27 (aC xs 4))) fun v28 h28 =>
 aD (pu h28 (aQ G false 1 v28 h28)) fun v29 h29 =>
 aD (cI 1 1 (.int .i64 0) [(0, v29)] h29) fun v30 h30 =>
 aD (cN 3 1 (aC xs 1) v30 h30) fun v31 h31 =>
 aD (pu h31 (bJ Tryd.prog .add 3 true (aC xs 4) (.int .i64 1))) fun v32 h32 =>
 lp [(aC xs 0), v31, (aC xs 2), (aC xs 3), v32] h32)
 (aD (pu h20 (bJ Tryd.prog .add 3 true (aC xs 4) (.int .i64 1))) fun v33 h33 =>
 lp [(aC xs 0), (aC xs 1), (aC xs 2), (aC xs 3), v33] h33))
 (some (.exit 0, [(aC xs 0), (aC xs 1), (aC xs 2), (aC xs 3), (aC xs 4)], h18))
noncomputable def bN.c (G : aB) (k : Nat) (self : bH) (x0 : AV) (h : aA) : Option (AV × aA) := dG (
 aD (dR x0 h) fun v0 h0 =>
 aD (pu h0 (aL 0 v0)) fun v1 h1 =>
 aD (pu h1 (aQ G false 1 v1 h1)) fun v2 h2 =>
 aD (bA (cB.f G k) [v2] h2) fun v3 h3 =>
 aD (pu h3 (bZ v3 0)) fun v4 h4 =>
 aD (pu h4 (bZ v3 1)) fun v5 h5 =>
 aD (fM 100 (.agg [(.str ⟨#[]⟩), (.bool false), (.bool false), (.bool false), (.bool false), (.bool false)]) h5) fun v6 h6 =>
 aD (iK (cG 6 v6 v4 h6)) fun v7 h7 =>
 aD (some (.sl h7.length 0 0 0 1, h7 ++ [⟨3, 1, []⟩])) fun v8 h8 =>
 aD (pu h8 (aL 2 v6)) fun v9 h9 =>
 aD (pu h9 (aQ G false 1 v9 h9)) fun v10 h10 =>
 aD (pu h10 (aL 3 v6)) fun v11 h11 =>
 aD (pu h11 (aQ G false 1 v11 h11)) fun v12 h12 =>
 aD (pu h12 (aL 4 v6)) fun v13 h13 =>
 aD (pu h13 (aQ G false 1 v13 h13)) fun v14 h14 =>
 aD (cI 1 3 (.bool false) [(0, v10), (1, v12), (2, v14)] h14) fun v15 h15 =>
 aD (pu h15 (cK v15)) fun v16 h16 =>
 bU (dD (bN.l4 G k h16.length self) k [v0, v8, v15, v16, (.int .i64 0)] h16) fun e17 x17 h17 => eE e17
 (none)
 (fun i17 => if i17 = 0 then (aD (dA (aO.f G k) [(aC x17 1)] h17) fun v34 h34 =>
 aD (dA (aF.f G k) [(aC x17 1)] h34) fun v35 h35 =>
 bR [v35] h.length h35) else (none))
 (bR [.undef] h.length h17))
noncomputable def bN.f (G : aB) : Nat → bH
 | 0 => fun _ _ => none
 | k + 1 => fun args h => gM args fun x0 => (bN.c G k (bN.f G k) x0 h)
noncomputable def aJ.ann : Ann := cW [] [] [] []
noncomputable def aJ.env (G : aB) (k : Nat) (self : bH) : List (Nat × Bool × bH) := []
noncomputable def aJ.c (G : aB) (k : Nat) (self : bH) (x0 x1 : AV) (h : aA) : Option (AV × aA) := dG (
 aD (pu h (bJ Tryd.prog .rem 3 false x0 x1)) fun v0 h0 =>
 aD (pu h0 (bJ Tryd.prog .lss 3 true v0 (.int .i64 0))) fun v1 h1 =>
 aS v1
 (aD (pu h1 (bJ Tryd.prog .add 3 false v0 x1)) fun v2 h2 =>
 bR [v2] h.length h2)
 (bR [v0] h.length h1))
noncomputable def aJ.f (G : aB) : Nat → bH
 | 0 => fun _ _ => none
 | k + 1 => fun args h => iR args fun x0 x1 => (aJ.c G k (aJ.f G k) x0 x1 h)
theorem aJ.step (G : aB) (k : Nat) (x0 x1 : AV) (h : aA) : aJ.f G (k + 1) [x0, x1] h = aJ.c G k (aJ.f G k) x0 x1 h := rfl
noncomputable def aN.ann : Ann := cW [] [] [(4, [0, 1, 4, 5])] []
noncomputable def aN.env (G : aB) (k : Nat) (self : bH) : List (Nat × Bool × bH) := []
noncomputable def aN.l4 (G : aB) (k n0 : Nat) (self : bH) (lp : bW) : bW := fun xs h0 => eF n0 xs h0 fun h =>
 aD (pu h (cK (aC xs 0))) fun v4 h4 =>
 aD (pu h4 (bJ Tryd.prog .lss 3 false (aC xs 3) v4)) fun v5 h5 =>
 aS v5
 (aD (pu h5 (aR 1 (aC xs 0) (aC xs 3))) fun v6 h6 =>
 aD (pu h6 (aQ G false 1 v6 h6)) fun v7 h7 =>
 aD (pu h7 (aR 1 (aC xs 1) (aC xs 3))) fun v8 h8 =>
 aD (pu h8 (aQ G false 1 v8 h8)) fun v9 h9 =>
 aD (pu h9 (bJ Tryd.prog .eql 3 false v7 v9)) fun v10 h10 =>
 aD (pu h10 (un .not v10)) fun v11 h11 =>
 aS v11
 (some (.ret, [(aC xs 0), (aC xs 1), (.bool false), (aC xs 3)], h11))
 (aD (pu h11 (bJ Tryd.prog .add 3 true (aC xs 3) (.int .i64 1))) fun v12 h12 =>
 lp [(aC xs 0), (aC xs 1), (aC xs 2), v12] h12))
 (some (.exit 0, [(aC xs 0), (aC xs 1), (aC xs 2), (aC xs 3)], h5))
noncomputable def aN.c (G : aB) (k : Nat) (self : bH) (x0 x1 : AV) (h : aA) : Option (AV × aA) := dG (
 aD (pu h (cK x0)) fun v0 h0 =>
 aD (pu h0 (cK x1)) fun v1 h1 =>
 aD (pu h1 (bJ Tryd.prog .neq 3 false v0 v1)) fun v2 h2 =>
 aS v2
 (bR [(.bool false)] h.length h2)
 (bU (dD (aN.l4 G k h2.length self) k [x0, x1, (.bool false), (.int .i64 0)] h2) fun e3 x3 h3 => eE e3
 (none)
 (fun i3 => if i3 = 0 then (bR [(.bool true)] h.length h3) else (none))
 (bR [(aC x3 2)] h.length h3)))
noncomputable def aN.f (G : aB) : Nat → bH
 | 0 => fun _ _ => none
 | k + 1 => fun args h => iR args fun x0 x1 => (aN.c G k (aN.f G k) x0 x1 h)
noncomputable def bV.ann : Ann := cW [] [7] [(15, [2, 7, 44, 45, 46])] [(13, [2, 6]), (12, [1, 2, 5, 36])]
noncomputable def bV.env (G : aB) (k : Nat) (self : bH) : List (Nat × Bool × bH) := [(53, false, aO.f G k), (54, false, aF.f G k)]
noncomputable def bV.l15 (G : aB) (k n0 : Nat) (self : bH) (lp : bW) : bW := fun xs h0 => eF n0 xs h0 fun h =>
 aD (pu h (bJ Tryd.prog .lss 3 false (aC xs 4) (aC xs 3))) fun v34 h34 =>
 aS v34
 (aD (pu h34 (aR 1 (aC xs 2) (aC xs 4))) fun v35 h35 =>
 aD (pu h35 (aQ G false 1 v35 h35)) fun v36 h36 =>
 aD (pu h36 (bJ Tryd.prog .geq 2 true v36 (.int .i64 0))) fun v37 h37 =>
 aD (gd v37 true h37 (some (v36, h37))) fun v38 h38 =>
 aD (gd v37 true h38 (pu h38 (aL 0 (aC xs 0)))) fun v39 h39 =>
 aD (gd v37 true h39 (pu h39 (aQ G false 1 v39 h39))) fun v40 h40 =>
 aD (gd v37 true h40 (pu h40 (cK v40))) fun v41 h41 =>
 aD (gd v37 true h41 (pu h41 (bJ Tryd.prog .lss 2 false v38 v41))) fun v42 h42 =>
 aD (pu h42 (cO v37 v42 (.bool false))) fun v43 h43 =>
 aS v43
 (aD (cI 1 1 (.int .i64 0) [(0, v36)] h43) fun v44 h44 =>
 aD (cN 3 1 (aC xs 1) v44 h44) fun v45 h45 =>
 aD (pu h45 (bJ Tryd.prog .add 3 true (aC xs 4) (.int .i64 1))) fun v46 h46 =>
 lp [(aC xs 0), v45, (aC xs 2), (aC xs 3), v46] h46)
 (aD (pu h43 (bJ Tryd.prog .add 3 true (aC xs 4) (.int .i64 1))) fun v47 h47 =>
 lp [(aC xs 0), (aC xs 1), (aC xs 2), (aC xs 3), v47] h47))
 (some (.exit 1, [(aC xs 0), (aC xs 1), (aC xs 2), (aC xs 3), (aC xs 4)], h34))
noncomputable def bV.c (G : aB) (k : Nat) (self : bH) (x0 x1 : AV) (h : aA) : Option (AV × aA) := dG (
 aD (dR x0 h) fun v0 h0 =>
 aD (pu h0 (bJ Tryd.prog .lss 3 true x1 (.int .i64 0))) fun v1 h1 =>
 aD (gd v1 false h1 (some (x1, h1))) fun v2 h2 =>
 aD (gd v1 false h2 (pu h2 (aL 0 v0))) fun v3 h3 =>
 aD (gd v1 false h3 (pu h3 (aQ G false 1 v3 h3))) fun v4 h4 =>
 aD (gd v1 false h4 (pu h4 (cK v4))) fun v5 h5 =>
 aD (gd v1 false h5 (pu h5 (bJ Tryd.prog .geq 3 false v2 v5))) fun v6 h6 =>
 aD (pu h6 (cO v1 (.bool true) v6)) fun v7 h7 =>
 aS v7
 (bR [.nils] h.length h7)
 (aD (pu h7 (aL 0 v0)) fun v8 h8 =>
 aD (pu h8 (aQ G false 1 v8 h8)) fun v9 h9 =>
 aD (pu h9 (aR 6 v9 x1)) fun v10 h10 =>
 aD (pu h10 (aQ G true 6 v10 h10)) fun v11 h11 =>
 aD (fM 29 (.agg [(.int .i64 0), (.int .i64 0), (.int .i64 0), (.int .i64 0), (.int .i64 0), (.int .i64 0)]) h11) fun v12 h12 =>
 aD (iK (cG 6 v12 v11 h12)) fun v13 h13 =>
 bU (
 aD (pu h13 (aL 0 v12)) fun v14 h14 =>
 aD (pu h14 (aQ G false 1 v14 h14)) fun v15 h15 =>
 aD (pu h15 (bJ Tryd.prog .eql 3 true v15 (.int .i64 20))) fun v16 h16 =>
 aS v16
 (some (.normal, [v0, .nils], h16))
 (aD (pu h16 (bJ Tryd.prog .eql 3 true v15 (.int .i64 17))) fun v17 h17 =>
 aS v17
 (aD (pu h17 (aL 5 v12)) fun v18 h18 =>
 aD (pu h18 (aQ G false 1 v18 h18)) fun v19 h19 =>
 aD (cI 1 1 (.int .i64 0) [(0, v19)] h19) fun v20 h20 =>
 some (.normal, [v0, v20], h20))
 (bU (
 aD (pu h17 (bJ Tryd.prog .eql 3 true v15 (.int .i64 18))) fun v21 h21 =>
 aS v21
 (some (.normal, [x1, v0, v12, v21], h21))
 (aD (pu h21 (bJ Tryd.prog .eql 3 true v15 (.int .i64 19))) fun v22 h22 =>
 some (.normal, [x1, v0, v12, v22], h22))) fun e23 x23 h23 => eE e23
 (aS (aC x23 3)
 (aD (pu h23 (bJ Tryd.prog .add 2 true (aC x23 0) (.int .i64 1))) fun v24 h24 =>
 aD (pu h24 (aL 5 (aC x23 2))) fun v25 h25 =>
 aD (pu h25 (aQ G false 1 v25 h25)) fun v26 h26 =>
 aD (cI 1 2 (.int .i64 0) [(0, v24), (1, v26)] h26) fun v27 h27 =>
 some (.normal, [(aC x23 1), v27], h27))
 (aD (pu h23 (bJ Tryd.prog .add 2 true (aC x23 0) (.int .i64 1))) fun v28 h28 =>
 aD (cI 1 1 (.int .i64 0) [(0, v28)] h28) fun v29 h29 =>
 some (.normal, [(aC x23 1), v29], h29)))
 (fun i23 => if i23 = 0 then (some (.normal, [(aC x23 1), .undef], h23)) else (some (.exit i23, [(aC x23 1), .undef], h23)))
 (some (.ret, [(aC x23 1), .undef], h23))))) fun e30 x30 h30 => eE e30
 (aD (some (.sl h30.length 0 0 0 1, h30 ++ [⟨3, 1, []⟩])) fun v31 h31 =>
 aD (pu h31 (cK (aC x30 1))) fun v32 h32 =>
 bU (dD (bV.l15 G k h32.length self) k [(aC x30 0), v31, (aC x30 1), v32, (.int .i64 0)] h32) fun e33 x33 h33 => eE e33
 (none)
 (fun i33 => if i33 = 1 then (aD (dA (aO.f G k) [(aC x33 1)] h33) fun v48 h48 =>
 aD (dA (aF.f G k) [(aC x33 1)] h48) fun v49 h49 =>
 bR [v49] h.length h49) else (none))
 (bR [.undef] h.length h33))
 (fun i30 => none)
 (bR [.undef] h.length h30)))
noncomputable def bV.f (G : aB) : Nat → bH
 | 0 => fun _ _ => none
 | k + 1 => fun args h => iR args fun x0 x1 => (bV.c G k (bV.f G k) x0 x1 h)
noncomputable def cE.ann : Ann := cW [] [] [] []
noncomputable def cE.env (G : aB) (k : Nat) (self : bH) : List (Nat × Bool × bH) := []
noncomputable def cE.c (G : aB) (k : Nat) (self : bH) (x0 x1 x2 : AV) (h : aA) : Option (AV × aA) := dG (
 aD (pu h (aQ G false 1 x2 h)) fun v0 h0 =>
 aD (pu h0 (aR 1 v0 x0)) fun v1 h1 =>
 aD (pu h1 (aQ G false 1 v1 h1)) fun v2 h2 =>
 aD (pu h2 (cK v2)) fun v3 h3 =>
 aD (pu h3 (bJ Tryd.prog .gtr 3 true v3 (.int .i64 0))) fun v4 h4 =>
 aD (gd v4 true h4 (pu h4 (aQ G false 1 x2 h4))) fun v5 h5 =>
 aD (gd v4 true h5 (some (x0, h5))) fun v6 h6 =>
 aD (gd v4 true h6 (pu h6 (aR 1 v5 v6))) fun v7 h7 =>
 aD (gd v4 true h7 (pu h7 (aQ G false 1 v7 h7))) fun v8 h8 =>
 aD (gd v4 true h8 (some (v3, h8))) fun v9 h9 =>
 aD (gd v4 true h9 (pu h9 (bJ Tryd.prog .sub 3 true v9 (.int .i64 1)))) fun v10 h10 =>
 aD (gd v4 true h10 (pu h10 (aR 1 v8 v10))) fun v11 h11 =>
 aD (gd v4 true h11 (pu h11 (aQ G false 1 v11 h11))) fun v12 h12 =>
 aD (gd v4 true h12 (some (x1, h12))) fun v13 h13 =>
 aD (gd v4 true h13 (pu h13 (bJ Tryd.prog .eql 3 false v12 v13))) fun v14 h14 =>
 aD (pu h14 (cO v4 v14 (.bool false))) fun v15 h15 =>
 bR [v15] h.length h15)
noncomputable def cE.f (G : aB) : Nat → bH
 | 0 => fun _ _ => none
 | k + 1 => fun args h => vR args fun x0 x1 x2 => (cE.c G k (cE.f G k) x0 x1 x2 h)
noncomputable def aP.ann : Ann := cW [5] [2] [] []
noncomputable def aP.env (G : aB) (k : Nat) (self : bH) : List (Nat × Bool × bH) := []
noncomputable def aP.c (G : aB) (k : Nat) (self : bH) (x0 : AV) (h : aA) : Option (AV × aA) := dG (
 aD (some (.sl h.length 0 0 0 1, h ++ [⟨3, 1, []⟩])) fun v0 h0 =>
 aD (pu h0 (bJ Tryd.prog .eql 49 true x0 .nils)) fun v1 h1 =>
 aS v1
 (aD (some (.sl h1.length 0 0 0 1, h1 ++ [⟨3, 1, []⟩])) fun v2 h2 =>
 vA [v2] h2)
 (aD (iW 3 1 0 (.int .i64 0) [] h1) fun v3 h3 =>
 aD (cN 3 1 v3 x0 h3) fun v4 h4 =>
 vA [v4] h4))
noncomputable def aP.f (G : aB) : Nat → bH
 | 0 => fun _ _ => none
 | k + 1 => fun args h => gM args fun x0 => (aP.c G k (aP.f G k) x0 h)
noncomputable def bD.ann : Ann := wH [] [] [(35, [1, 5, 6, 13, 14, 15, 16, 84, 85, 126, 127, 128]), (31, [1, 5, 6, 13, 14, 15, 16, 84, 85]), (27, [1, 5, 6, 13, 14, 15, 16, 84, 85, 92, 93, 94]), (23, [1, 5, 6, 13, 14, 84, 85]), (15, [1, 5, 6, 7, 35, 36, 37, 62, 63, 64]), (10, [1, 5, 6, 7, 8, 35, 36, 37, 44, 45, 46]), (7, [1, 5, 6, 35, 36, 37])] [] [(23, [(13, 0, 3, 1)]), (7, [(5, 0, 3, 1)])] [] [(7, [(6, 0, 1, 3, 1)])] [] []
noncomputable def bD.env (G : aB) (k : Nat) (self : bH) : List (Nat × Bool × bH) := [(20, true, bM.f G k), (23, true, bN.f G k), (25, true, bV.f G k), (43, true, bP.f G k), (59, false, cE.f G k), (60, false, aP.f G k)]
noncomputable def bD.l10 (G : aB) (k n0 : Nat) (self : bH) (lp : bW) : bW := fun xs h0 => eF n0 xs h0 fun h =>
 aD (pu h (bJ Tryd.prog .lss 3 false (aC xs 10) (aC xs 9))) fun v22 h22 =>
 aS v22
 (aD (pu h22 (aR 1 (aC xs 8) (aC xs 10))) fun v23 h23 =>
 aD (pu h23 (aQ G false 1 v23 h23)) fun v24 h24 =>
 aD (pu h24 (aR 1 (aC xs 1) v24)) fun v25 h25 =>
 aD (pu h25 (aQ G false 1 v25 h25)) fun v26 h26 =>
 aD (cI 1 1 (.int .i64 0) [(0, (aC xs 3))] h26) fun v27 h27 =>
 aD (cN 3 1 v26 v27 h27) fun v28 h28 =>
 aD (pu h28 (aR 1 (aC xs 1) v24)) fun v29 h29 =>
 aD (iK (cG 1 v29 v28 h29)) fun v30 h30 =>
 aD (pu h30 (bJ Tryd.prog .add 3 true (aC xs 10) (.int .i64 1))) fun v31 h31 =>
 lp [(aC xs 0), (aC xs 1), (aC xs 2), (aC xs 3), (aC xs 4), (aC xs 5), (aC xs 6), (aC xs 7), (aC xs 8), (aC xs 9), v31] h31)
 (some (.exit 2, [(aC xs 0), (aC xs 1), (aC xs 2), (aC xs 3), (aC xs 4), (aC xs 5), (aC xs 6), (aC xs 7), (aC xs 8), (aC xs 9), (aC xs 10)], h22))
noncomputable def bD.l15 (G : aB) (k n0 : Nat) (self : bH) (lp : bW) : bW := fun xs h0 => eF n0 xs h0 fun h =>
 aD (pu h (bJ Tryd.prog .lss 3 false (aC xs 9) (aC xs 8))) fun v36 h36 =>
 aS v36
 (aD (pu h36 (aR 1 (aC xs 7) (aC xs 9))) fun v37 h37 =>
 aD (pu h37 (aQ G false 1 v37 h37)) fun v38 h38 =>
 aD (pu h38 (uM (aC xs 2) v38 h38)) fun v39 h39 =>
 aD (cI 1 1 (.int .i64 0) [(0, (aC xs 3))] h39) fun v40 h40 =>
 aD (cN 3 1 v39 v40 h40) fun v41 h41 =>
 aD (iK (xH (aC xs 2) v38 v41 h41)) fun v42 h42 =>
 aD (pu h42 (bJ Tryd.prog .add 3 true (aC xs 9) (.int .i64 1))) fun v43 h43 =>
 lp [(aC xs 0), (aC xs 1), (aC xs 2), (aC xs 3), (aC xs 4), (aC xs 5), (aC xs 6), (aC xs 7), (aC xs 8), v43] h43)
 (some (.exit 4, [(aC xs 0), (aC xs 1), (aC xs 2), (aC xs 3), (aC xs 4), (aC xs 5), (aC xs 6), (aC xs 7), (aC xs 8), (aC xs 9)], h36))
noncomputable def bD.l7 (G : aB) (k n0 : Nat) (self : bH) (lp : bW) : bW := fun xs h0 => eF n0 xs h0 fun h =>
 aD (pu h (bJ Tryd.prog .lss 3 false (aC xs 5) (aC xs 4))) fun v13 h13 =>
 aS v13
 (aD (pu h13 (aR 6 (aC xs 3) (aC xs 5))) fun v14 h14 =>
 aD (pu h14 (aQ G true 6 v14 h14)) fun v15 h15 =>
 aD (fM 29 (.agg [(.int .i64 0), (.int .i64 0), (.int .i64 0), (.int .i64 0), (.int .i64 0), (.int .i64 0)]) h15) fun v16 h16 =>
 aD (iK (cG 6 v16 v15 h16)) fun v17 h17 =>
 aD (pu h17 (aQ G true 3 (aC xs 0) h17)) fun v18 h18 =>
 aD (bA (bV.f G k) [v18, (aC xs 5)] h18) fun v19 h19 =>
 aD (pu h19 (cK v19)) fun v20 h20 =>
 bU (dD (bD.l10 G k h20.length self) k [(aC xs 0), (aC xs 1), (aC xs 2), (aC xs 5), v16, (aC xs 3), (aC xs 4), (aC xs 5), v19, v20, (.int .i64 0)] h20) fun e21 x21 h21 => eE e21
 (none)
 (fun i21 => if i21 = 2 then (aD (pu h21 (aQ G true 6 (aC x21 4) h21)) fun v32 h32 =>
 aD (bA (bN.f G k) [v32] h32) fun v33 h33 =>
 aD (pu h33 (cK v33)) fun v34 h34 =>
 bU (dD (bD.l15 G k h34.length self) k [(aC x21 0), (aC x21 1), (aC x21 2), (aC x21 3), (aC x21 5), (aC x21 6), (aC x21 7), v33, v34, (.int .i64 0)] h34) fun e35 x35 h35 => eE e35
 (none)
 (fun i35 => if i35 = 4 then (aD (pu h35 (bJ Tryd.prog .add 3 true (aC x35 6) (.int .i64 1))) fun v44 h44 =>
 lp [(aC x35 0), (aC x35 1), (aC x35 2), (aC x35 4), (aC x35 5), v44] h44) else (if i35 = 1 then (aD (pu h35 (bJ Tryd.prog .add 3 true (aC x35 6) (.int .i64 1))) fun v45 h45 =>
 lp [(aC x35 0), (aC x35 1), (aC x35 2), (aC x35 4), (aC x35 5), v45] h45) else (some (.exit i35, [(aC x35 0), (aC x35 1), (aC x35 2), (aC x35 4), (aC x35 5), (aC x35 6)], h35))))
 (some (.ret, [(aC x35 0), (aC x35 1), (aC x35 2), (aC x35 4), (aC x35 5), (aC x35 6)], h35))) else (if i21 = 1 then (aD (pu h21 (bJ Tryd.prog .add 3 true (aC x21 7) (.int .i64 1))) fun v46 h46 =>
 lp [(aC x21 0), (aC x21 1), (aC x21 2), (aC x21 5), (aC x21 6), v46] h46) else (some (.exit i21, [(aC x21 0), (aC x21 1), (aC x21 2), (aC x21 5), (aC x21 6), (aC x21 7)], h21))))
 (some (.ret, [(aC x21 0), (aC x21 1), (aC x21 2), (aC x21 5), (aC x21 6), (aC x21 7)], h21)))
 (some (.exit 0, [(aC xs 0), (aC xs 1), (aC xs 2), (aC xs 3), (aC xs 4), (aC xs 5)], h13))
noncomputable def bD.l27 (G : aB) (k n0 : Nat) (self : bH) (lp : bW) : bW := fun xs h0 => eF n0 xs h0 fun h =>
 aD (pu h (bJ Tryd.prog .lss 3 false (aC xs 11) (aC xs 10))) fun v61 h61 =>
 aS v61
 (aD (pu h61 (aR 1 (aC xs 9) (aC xs 11))) fun v62 h62 =>
 aD (pu h62 (aQ G false 1 v62 h62)) fun v63 h63 =>
 aD (pu h63 (aQ G false 1 (aC xs 3) h63)) fun v64 h64 =>
 aD (pu h64 (aQ G false 1 (aC xs 3) h64)) fun v65 h65 =>
 aD (pu h65 (aR 1 v65 v63)) fun v66 h66 =>
 aD (pu h66 (aQ G false 1 v66 h66)) fun v67 h67 =>
 aD (cI 1 1 (.int .i64 0) [(0, (aC xs 5))] h67) fun v68 h68 =>
 aD (cN 3 1 v67 v68 h68) fun v69 h69 =>
 aD (pu h69 (aR 1 v64 v63)) fun v70 h70 =>
 aD (iK (cG 1 v70 v69 h70)) fun v71 h71 =>
 xL [((aC xs 3), v67)] (
aD (pu h71 (bJ Tryd.prog .add 3 true (aC xs 11) (.int .i64 1))) fun v72 h72 =>
 lp [(aC xs 0), (aC xs 1), (aC xs 2), (aC xs 3), (aC xs 4), (aC xs 5), (aC xs 6), (aC xs 7), (aC xs 8), (aC xs 9), (aC xs 10), v72] h72))
 (some (.exit 8, [(aC xs 0), (aC xs 1), (aC xs 2), (aC xs 3), (aC xs 4), (aC xs 5), (aC xs 6), (aC xs 7), (aC xs 8), (aC xs 9), (aC xs 10), (aC xs 11)], h61))
noncomputable def bD.l35 (G : aB) (k n0 : Nat) (self : bH) (lp : bW) : bW := fun xs h0 => eF n0 xs h0 fun h =>
 aD (pu h (bJ Tryd.prog .lss 3 false (aC xs 11) (aC xs 10))) fun v87 h87 =>
 aS v87
 (aD (pu h87 (aR 1 (aC xs 9) (aC xs 11))) fun v88 h88 =>
 aD (pu h88 (aQ G false 1 v88 h88)) fun v89 h89 =>
 aD (pu h89 (aL 0 (aC xs 0))) fun v90 h90 =>
 aD (pu h90 (aQ G false 1 v90 h90)) fun v91 h91 =>
 aD (pu h91 (aR 6 v91 v89)) fun v92 h92 =>
 aD (pu h92 (aQ G true 6 v92 h92)) fun v93 h93 =>
 aD (bA (bM.f G k) [v93] h93) fun v94 h94 =>
 aD (pu h94 (bZ v94 0)) fun v95 h95 =>
 aD (pu h95 (bZ v94 1)) fun v96 h96 =>
 aD (iF (cY (bD.env G k self)) (aC xs 4) [v89, (aC xs 5)] h96) fun v97 h97 =>
 aD (gd v97 false h97 (some (v96, h97))) fun v98 h98 =>
 aD (gd v97 false h98 (some (v98, h98))) fun v99 h99 =>
 aD (gd v99 true h99 (some (v95, h99))) fun v100 h100 =>
 aD (gd v99 true h100 (some ((aC xs 5), h100))) fun v101 h101 =>
 aD (gd v99 true h101 (pu h101 (bJ Tryd.prog .eql 3 false v100 v101))) fun v102 h102 =>
 aD (gd v97 false h102 (pu h102 (cO v99 v102 (.bool false)))) fun v103 h103 =>
 aD (pu h103 (cO v97 (.bool true) v103)) fun v104 h104 =>
 aS v104
 (aD (pu h104 (bJ Tryd.prog .add 3 true (aC xs 11) (.int .i64 1))) fun v105 h105 =>
 lp [(aC xs 0), (aC xs 1), (aC xs 2), (aC xs 3), (aC xs 4), (aC xs 5), (aC xs 6), (aC xs 7), (aC xs 8), (aC xs 9), (aC xs 10), v105] h105)
 (aD (pu h104 (aQ G false 1 (aC xs 3) h104)) fun v106 h106 =>
 aD (pu h106 (aQ G false 1 (aC xs 3) h106)) fun v107 h107 =>
 aD (pu h107 (aR 1 v107 v89)) fun v108 h108 =>
 aD (pu h108 (aQ G false 1 v108 h108)) fun v109 h109 =>
 aD (cI 1 1 (.int .i64 0) [(0, (aC xs 5))] h109) fun v110 h110 =>
 aD (cN 3 1 v109 v110 h110) fun v111 h111 =>
 aD (pu h111 (aR 1 v106 v89)) fun v112 h112 =>
 aD (iK (cG 1 v112 v111 h112)) fun v113 h113 =>
 xL [((aC xs 3), v109)] (
aD (cI 1 1 (.int .i64 0) [(0, v89)] h113) fun v114 h114 =>
 aD (cN 3 1 (aC xs 6) v114 h114) fun v115 h115 =>
 aD (pu h115 (bJ Tryd.prog .add 3 true (aC xs 11) (.int .i64 1))) fun v116 h116 =>
 lp [(aC xs 0), (aC xs 1), (aC xs 2), (aC xs 3), (aC xs 4), (aC xs 5), v115, (aC xs 7), (aC xs 8), (aC xs 9), (aC xs 10), v116] h116)))
 (some (.exit 12, [(aC xs 0), (aC xs 1), (aC xs 2), (aC xs 3), (aC xs 4), (aC xs 5), (aC xs 6), (aC xs 7), (aC xs 8), (aC xs 9), (aC xs 10), (aC xs 11)], h87))
noncomputable def bD.l31 (G : aB) (k n0 : Nat) (self : bH) (lp : bW) : bW := fun xs h0 => eF n0 xs h0 fun h =>
 aD (pu h (cK (aC xs 6))) fun v74 h74 =>
 aD (pu h74 (bJ Tryd.prog .gtr 3 true v74 (.int .i64 0))) fun v75 h75 =>
 aS v75
 (aD (pu h75 (cK (aC xs 6))) fun v76 h76 =>
 aD (pu h76 (bJ Tryd.prog .sub 3 true v76 (.int .i64 1))) fun v77 h77 =>
 aD (pu h77 (aR 1 (aC xs 6) v77)) fun v78 h78 =>
 aD (pu h78 (aQ G false 1 v78 h78)) fun v79 h79 =>
 aD (pu h79 (cK (aC xs 6))) fun v80 h80 =>
 aD (pu h80 (bJ Tryd.prog .sub 3 true v80 (.int .i64 1))) fun v81 h81 =>
 aD (pu h81 (fK 1 (aC xs 6) none (some v81))) fun v82 h82 =>
 aD (pu h82 (aR 1 (aC xs 1) v79)) fun v83 h83 =>
 aD (pu h83 (aQ G false 1 v83 h83)) fun v84 h84 =>
 aD (pu h84 (cK v84)) fun v85 h85 =>
 bU (dD (bD.l35 G k h85.length self) k [(aC xs 0), (aC xs 1), (aC xs 2), (aC xs 3), (aC xs 4), (aC xs 5), v82, (aC xs 7), (aC xs 8), v84, v85, (.int .i64 0)] h85) fun e86 x86 h86 => eE e86
 (none)
 (fun i86 => if i86 = 12 then (lp [(aC x86 0), (aC x86 1), (aC x86 2), (aC x86 3), (aC x86 4), (aC x86 5), (aC x86 6), (aC x86 7), (aC x86 8)] h86) else (if i86 = 11 then (lp [(aC x86 0), (aC x86 1), (aC x86 2), (aC x86 3), (aC x86 4), (aC x86 5), (aC x86 6), (aC x86 7), (aC x86 8)] h86) else (some (.exit i86, [(aC x86 0), (aC x86 1), (aC x86 2), (aC x86 3), (aC x86 4), (aC x86 5), (aC x86 6), (aC x86 7), (aC x86 8)], h86))))
 (some (.ret, [(aC x86 0), (aC x86 1), (aC x86 2), (aC x86 3), (aC x86 4), (aC x86 5), (aC x86 6), (aC x86 7), (aC x86 8)], h86)))
 (some (.exit 10, [(aC xs 0), (aC xs 1), (aC xs 2), (aC xs 3), (aC xs 4), (aC xs 5), (aC xs 6), (aC xs 7), (aC xs 8)], h75))
noncomputable def bD.l23 (G : aB) (k n0 : Nat) (self : bH) (lp : bW) : bW := fun xs h0 => eF n0 xs h0 fun h =>
 aD (pu h (bJ Tryd.prog .lss 3 false (aC xs 6) (aC xs 5))) fun v56 h56 =>
 aS v56
 (aD (pu h56 (uM (aC xs 2) (aC xs 6) h56)) fun v57 h57 =>
 aD (dA (aP.f G k) [v57] h57) fun v58 h58 =>
 aD (pu h58 (cK v58)) fun v59 h59 =>
 bU (dD (bD.l27 G k h59.length self) k [(aC xs 0), (aC xs 1), (aC xs 2), (aC xs 3), (aC xs 4), (aC xs 6), v58, (aC xs 5), (aC xs 6), v58, v59, (.int .i64 0)] h59) fun e60 x60 h60 => eE e60
 (none)
 (fun i60 => if i60 = 8 then (bU (dD (bD.l31 G k h60.length self) k [(aC x60 0), (aC x60 1), (aC x60 2), (aC x60 3), (aC x60 4), (aC x60 5), (aC x60 6), (aC x60 7), (aC x60 8)] h60) fun e73 x73 h73 => eE e73
 (none)
 (fun i73 => if i73 = 10 then (aD (pu h73 (bJ Tryd.prog .add 3 true (aC x73 8) (.int .i64 1))) fun v117 h117 =>
 lp [(aC x73 0), (aC x73 1), (aC x73 2), (aC x73 3), (aC x73 4), (aC x73 7), v117] h117) else (if i73 = 7 then (aD (pu h73 (bJ Tryd.prog .add 3 true (aC x73 8) (.int .i64 1))) fun v118 h118 =>
 lp [(aC x73 0), (aC x73 1), (aC x73 2), (aC x73 3), (aC x73 4), (aC x73 7), v118] h118) else (some (.exit i73, [(aC x73 0), (aC x73 1), (aC x73 2), (aC x73 3), (aC x73 4), (aC x73 7), (aC x73 8)], h73))))
 (some (.ret, [(aC x73 0), (aC x73 1), (aC x73 2), (aC x73 3), (aC x73 4), (aC x73 7), (aC x73 8)], h73))) else (if i60 = 7 then (aD (pu h60 (bJ Tryd.prog .add 3 true (aC x60 8) (.int .i64 1))) fun v119 h119 =>
 lp [(aC x60 0), (aC x60 1), (aC x60 2), (aC x60 3), (aC x60 4), (aC x60 7), v119] h119) else (some (.exit i60, [(aC x60 0), (aC x60 1), (aC x60 2), (aC x60 3), (aC x60 4), (aC x60 7), (aC x60 8)], h60))))
 (some (.ret, [(aC x60 0), (aC x60 1), (aC x60 2), (aC x60 3), (aC x60 4), (aC x60 7), (aC x60 8)], h60)))
 (some (.exit 6, [(aC xs 0), (aC xs 1), (aC xs 2), (aC xs 3), (aC xs 4), (aC xs 5), (aC xs 6)], h56))
noncomputable def bD.c (G : aB) (k : Nat) (self : bH) (x0 : AV) (h : aA) : Option (AV × aA) := dG (
 aD (dR x0 h) fun v0 h0 =>
 aD (pu h0 (aQ G true 3 v0 h0)) fun v1 h1 =>
 aD (bA (bP.f G k) [v1] h1) fun v2 h2 =>
 aD (pu h2 (bJ Tryd.prog .neq 33 true v2 .nili)) fun v3 h3 =>
 aS v3
 (bR [.nils, v2] h.length h3)
 (aD (pu h3 (aL 0 v0)) fun v4 h4 =>
 aD (pu h4 (aQ G false 1 v4 h4)) fun v5 h5 =>
 aD (pu h5 (cK v5)) fun v6 h6 =>
 aD (dL 49 1 .nils v6 v6 h6) fun v7 h7 =>
 aD (some (.mp h7.length, h7 ++ [⟨0, 0, []⟩])) fun v8 h8 =>
 aD (pu h8 (aL 0 v0)) fun v9 h9 =>
 aD (pu h9 (aQ G false 1 v9 h9)) fun v10 h10 =>
 aD (pu h10 (cK v10)) fun v11 h11 =>
 vM [(v8, x0, 1, 3, 1)] h11 fun hm12 =>
 vK [(v7, 0, 3, 1)] hm12 fun hv12 =>
 bU (dD (bD.l7 G k hv12.length self) k [v0, v7, v8, v10, v11, (.int .i64 0)] hv12) fun e12 x12 h12 => eE e12
 (none)
 (fun i12 => if i12 = 0 then (aD (pu h12 (aL 0 (aC x12 0))) fun v47 h47 =>
 aD (pu h47 (aQ G false 1 v47 h47)) fun v48 h48 =>
 aD (pu h48 (cK v48)) fun v49 h49 =>
 aD (dL 49 1 .nils v49 v49 h49) fun v50 h50 =>
 aD (fM 56 .nils h50) fun v51 h51 =>
 aD (iK (cG 1 v51 v50 h51)) fun v52 h52 =>
 aD (pu h52 (aL 1 (aC x12 0))) fun v53 h53 =>
 aD (pu h53 (aQ G false 1 v53 h53)) fun v54 h54 =>
 vK [(v51, 0, 3, 1)] h54 fun hv55 =>
 bU (dD (bD.l23 G k hv55.length self) k [(aC x12 0), (aC x12 1), (aC x12 2), v51, (.fn 59 [v51]), v54, (.int .i64 0)] hv55) fun e55 x55 h55 => eE e55
 (none)
 (fun i55 => if i55 = 6 then (aD (pu h55 (aQ G false 1 (aC x55 3) h55)) fun v120 h120 =>
 bR [v120, .nili] h.length h120) else (none))
 (bR [.undef, .undef] h.length h55)) else (none))
 (bR [.undef, .undef] h.length h12)))
noncomputable def bD.f (G : aB) : Nat → bH
 | 0 => fun _ _ => none
 | k + 1 => fun args h => gM args fun x0 => (bD.c G k (bD.f G k) x0 h)
noncomputable def aT.ann : Ann := cW [] [] [] []
noncomputable def aT.env (G : aB) (k : Nat) (self : bH) : List (Nat × Bool × bH) := [(22, true, aN.f G k), (23, true, bN.f G k), (29, true, bD.f G k)]
noncomputable def aT.c (G : aB) (k : Nat) (self : bH) (h : aA) : Option (AV × aA) := dG (
 aD (pu h (cT [(0, 1), (1, 1), (2, 1), (3, 1), (4, 1), (5, 1)] [(.int .i64 0), (.int .i64 0), (.int .i64 0), (.int .i64 0), (.int .i64 0), (.int .i64 0)] [(0, (.int .i64 20))])) fun v0 h0 =>
 aD (cI 6 1 (.agg [(.int .i64 0), (.int .i64 0), (.int .i64 0), (.int .i64 0), (.int .i64 0), (.int .i64 0)]) [(0, v0)] h0) fun v1 h1 =>
 aD (pu h1 (cT [(0, 1), (1, 1), (2, 1)] [.nils, (.int .i64 0), (.int .i64 0)] [(0, v1)])) fun v2 h2 =>
 aD (bA (bD.f G k) [v2] h2) fun v3 h3 =>
 aD (pu h3 (bZ v3 0)) fun v4 h4 =>
 aD (pu h4 (bZ v3 1)) fun v5 h5 =>
 aD (pu h5 (bJ Tryd.prog .eql 33 true v5 .nili)) fun v6 h6 =>
 aD (gd v6 true h6 (some (v4, h6))) fun v7 h7 =>
 aD (gd v6 true h7 (pu h7 (cK v7))) fun v8 h8 =>
 aD (gd v6 true h8 (pu h8 (bJ Tryd.prog .eql 3 true v8 (.int .i64 1)))) fun v9 h9 =>
 aD (pu h9 (cO v6 v9 (.bool false))) fun v10 h10 =>
 aD (gd v10 true h10 (some (v4, h10))) fun v11 h11 =>
 aD (gd v10 true h11 (pu h11 (aR 1 v11 (.int .i64 0)))) fun v12 h12 =>
 aD (gd v10 true h12 (pu h12 (aQ G false 1 v12 h12))) fun v13 h13 =>
 aD (gd v10 true h13 (pu h13 (cK v13))) fun v14 h14 =>
 aD (gd v10 true h14 (pu h14 (bJ Tryd.prog .eql 3 true v14 (.int .i64 0)))) fun v15 h15 =>
 aD (pu h15 (cO v10 v15 (.bool false))) fun v16 h16 =>
 aD (gd v16 true h16 (pu h16 (cT [(0, 1), (1, 1), (2, 1), (3, 1), (4, 1), (5, 1)] [(.int .i64 0), (.int .i64 0), (.int .i64 0), (.int .i64 0), (.int .i64 0), (.int .i64 0)] [(0, (.int .i64 3)), (2, (.int .i64 2)), (3, (.int .i64 1))]))) fun v17 h17 =>
 aD (gd v16 true h17 (bA (bN.f G k) [v17] h17)) fun v18 h18 =>
 aD (gd v16 true h18 (cI 1 2 (.int .i64 0) [(0, (.int .i64 1)), (1, (.int .i64 2))] h18)) fun v19 h19 =>
 aD (gd v16 true h19 (bA (aN.f G k) [v18, v19] h19)) fun v20 h20 =>
 aD (pu h20 (cO v16 v20 (.bool false))) fun v21 h21 =>
 bR [v21] h.length h21)
noncomputable def aT.f (G : aB) : Nat → bH
 | 0 => fun _ _ => none
 | k + 1 => fun args h => xS args (aT.c G k (aT.f G k) h)
noncomputable def aV.ann : Ann := cW [] [2] [(3, [0, 3, 4])] []
noncomputable def aV.env (G : aB) (k : Nat) (self : bH) : List (Nat × Bool × bH) := []
noncomputable def aV.l3 (G : aB) (k n0 : Nat) (self : bH) (lp : bW) : bW := fun xs h0 => eF n0 xs h0 fun h =>
 aD (pu h (cK (aC xs 0))) fun v4 h4 =>
 aD (pu h4 (bJ Tryd.prog .lss 3 false (aC xs 2) v4)) fun v5 h5 =>
 aS v5
 (aD (pu h5 (aR 1 (aC xs 0) (aC xs 2))) fun v6 h6 =>
 aD (pu h6 (aQ G false 1 v6 h6)) fun v7 h7 =>
 aD (cI 1 1 (.int .i64 0) [(0, v7)] h7) fun v8 h8 =>
 aD (cN 3 1 (aC xs 1) v8 h8) fun v9 h9 =>
 aD (pu h9 (bJ Tryd.prog .add 3 true (aC xs 2) (.int .i64 1))) fun v10 h10 =>
 lp [(aC xs 0), v9, v10] h10)
 (some (.exit 0, [(aC xs 0), (aC xs 1), (aC xs 2)], h5))
noncomputable def aV.c (G : aB) (k : Nat) (self : bH) (x0 : AV) (h : aA) : Option (AV × aA) := dG (
 aD (some (.sl h.length 0 0 0 1, h ++ [⟨3, 1, []⟩])) fun v0 h0 =>
 aD (pu h0 (cK x0)) fun v1 h1 =>
 aD (dL 3 1 (.int .i64 0) (.int .i64 0) v1 h1) fun v2 h2 =>
 bU (dD (aV.l3 G k h2.length self) k [x0, v2, (.int .i64 0)] h2) fun e3 x3 h3 => eE e3
 (none)
 (fun i3 => if i3 = 0 then (vA [(aC x3 1)] h3) else (none))
 (vA [.undef] h3))
noncomputable def aV.f (G : aB) : Nat → bH
 | 0 => fun _ _ => none
 | k + 1 => fun args h => gM args fun x0 => (aV.c G k (aV.f G k) x0 h)
noncomputable def bB.ann : Ann := cW [] [4] [(2, [0, 1, 5])] []
noncomputable def bB.env (G : aB) (k : Nat) (self : bH) : List (Nat × Bool × bH) := [(68, false, aV.f G k)]
noncomputable def bB.l2 (G : aB) (k n0 : Nat) (self : bH) (lp : bW) : bW := fun xs h0 => eF n0 xs h0 fun h =>
 aD (pu h (cK (aC xs 0))) fun v2 h2 =>
 aD (pu h2 (bJ Tryd.prog .lss 3 false (aC xs 2) v2)) fun v3 h3 =>
 aD (gd v3 true h3 (some ((aC xs 0), h3))) fun v4 h4 =>
 aD (gd v3 true h4 (some ((aC xs 2), h4))) fun v5 h5 =>
 aD (gd v3 true h5 (pu h5 (aR 1 v4 v5))) fun v6 h6 =>
 aD (gd v3 true h6 (pu h6 (aQ G false 1 v6 h6))) fun v7 h7 =>
 aD (gd v3 true h7 (some ((aC xs 1), h7))) fun v8 h8 =>
 aD (gd v3 true h8 (pu h8 (bJ Tryd.prog .lss 3 false v7 v8))) fun v9 h9 =>
 aD (pu h9 (cO v3 v9 (.bool false))) fun v10 h10 =>
 aS v10
 (aD (pu h10 (bJ Tryd.prog .add 3 true (aC xs 2) (.int .i64 1))) fun v11 h11 =>
 lp [(aC xs 0), (aC xs 1), v11] h11)
 (some (.exit 0, [(aC xs 0), (aC xs 1), (aC xs 2)], h10))
noncomputable def bB.c (G : aB) (k : Nat) (self : bH) (x0 x1 : AV) (h : aA) : Option (AV × aA) := dG (
 aD (some (.sl h.length 0 0 0 1, h ++ [⟨3, 1, []⟩])) fun v0 h0 =>
 bU (dD (bB.l2 G k h0.length self) k [x0, x1, (.int .i64 0)] h0) fun e1 x1 h1 => eE e1
 (none)
 (fun i1 => if i1 = 0 then (aD (pu h1 (cK (aC x1 0))) fun v12 h12 =>
 aD (pu h12 (bJ Tryd.prog .lss 3 false (aC x1 2) v12)) fun v13 h13 =>
 aD (gd v13 true h13 (some ((aC x1 0), h13))) fun v14 h14 =>
 aD (gd v13 true h14 (some ((aC x1 2), h14))) fun v15 h15 =>
 aD (gd v13 true h15 (pu h15 (aR 1 v14 v15))) fun v16 h16 =>
 aD (gd v13 true h16 (pu h16 (aQ G false 1 v16 h16))) fun v17 h17 =>
 aD (gd v13 true h17 (some ((aC x1 1), h17))) fun v18 h18 =>
 aD (gd v13 true h18 (pu h18 (bJ Tryd.prog .eql 3 false v17 v18))) fun v19 h19 =>
 aD (pu h19 (cO v13 v19 (.bool false))) fun v20 h20 =>
 aS v20
 (aD (dA (aV.f G k) [(aC x1 0)] h20) fun v21 h21 =>
 bR [v21] h.length h21)
 (aD (pu h20 (fK 1 (aC x1 0) none (some (aC x1 2)))) fun v22 h22 =>
 aD (dA (aV.f G k) [v22] h22) fun v23 h23 =>
 aD (cI 1 1 (.int .i64 0) [(0, (aC x1 1))] h23) fun v24 h24 =>
 aD (cN 3 1 v23 v24 h24) fun v25 h25 =>
 aD (pu h25 (fK 1 (aC x1 0) (some (aC x1 2)) none)) fun v26 h26 =>
 aD (cN 3 1 v25 v26 h26) fun v27 h27 =>
 bR [v27] h.length h27)) else (none))
 (bR [.undef] h.length h1))
noncomputable def bB.f (G : aB) : Nat → bH
 | 0 => fun _ _ => none
 | k + 1 => fun args h => iR args fun x0 x1 => (bB.c G k (bB.f G k) x0 x1 h)
noncomputable def cD.ann : Ann := cW [] [] [(6, [6, 17, 18, 19])] []
noncomputable def cD.env (G : aB) (k : Nat) (self : bH) : List (Nat × Bool × bH) := [(29, true, bD.f G k)]
noncomputable def cD.l6 (G : aB) (k n0 : Nat) (self : bH) (lp : bW) : bW := fun xs h0 => eF n0 xs h0 fun h =>
 aD (pu h (bJ Tryd.prog .lss 3 false (aC xs 3) (aC xs 2))) fun v8 h8 =>
 aS v8
 (aD (pu h8 (aR 1 (aC xs 1) (aC xs 3))) fun v9 h9 =>
 aD (pu h9 (aQ G false 1 v9 h9)) fun v10 h10 =>
 aD (pu h10 (cK v10)) fun v11 h11 =>
 aD (pu h11 (jD pB (aC xs 0) [v11])) fun v12 h12 =>
 aD (pu h12 (bJ Tryd.prog .add 3 true (aC xs 3) (.int .i64 1))) fun v13 h13 =>
 lp [v12, (aC xs 1), (aC xs 2), v13] h13)
 (some (.exit 0, [(aC xs 0), (aC xs 1), (aC xs 2), (aC xs 3)], h8))
noncomputable def cD.c (G : aB) (k : Nat) (self : bH) (x0 : AV) (h : aA) : Option (AV × aA) := dG (
 aD (dR x0 h) fun v0 h0 =>
 aD (pu h0 (aQ G true 3 v0 h0)) fun v1 h1 =>
 aD (bA (bD.f G k) [v1] h1) fun v2 h2 =>
 aD (pu h2 (bZ v2 0)) fun v3 h3 =>
 aD (pu h3 (bZ v2 1)) fun v4 h4 =>
 aD (pu h4 (bJ Tryd.prog .neq 33 true v4 .nili)) fun v5 h5 =>
 aS v5
 (bR [(.int .i64 0), v4] h.length h5)
 (aD (pu h5 (cK v3)) fun v6 h6 =>
 bU (dD (cD.l6 G k h6.length self) k [(.int .i64 0), v3, v6, (.int .i64 0)] h6) fun e7 x7 h7 => eE e7
 (none)
 (fun i7 => if i7 = 0 then (bR [(aC x7 0), .nili] h.length h7) else (none))
 (bR [.undef, .undef] h.length h7)))
noncomputable def cD.f (G : aB) : Nat → bH
 | 0 => fun _ _ => none
 | k + 1 => fun args h => gM args fun x0 => (cD.c G k (cD.f G k) x0 h)
noncomputable def aM.ann : Ann := cW [] [] [(2, [0, 1, 4, 7, 8])] []
noncomputable def aM.env (G : aB) (k : Nat) (self : bH) : List (Nat × Bool × bH) := []
noncomputable def aM.l2 (G : aB) (k n0 : Nat) (self : bH) (lp : bW) : bW := fun xs h0 => eF n0 xs h0 fun h =>
 aD (pu h (bJ Tryd.prog .lss 3 false (aC xs 4) (aC xs 3))) fun v2 h2 =>
 aS v2
 (aD (pu h2 (aR 1 (aC xs 0) (aC xs 4))) fun v3 h3 =>
 aD (pu h3 (aQ G false 1 v3 h3)) fun v4 h4 =>
 aD (pu h4 (bJ Tryd.prog .eql 3 false (aC xs 1) v4)) fun v5 h5 =>
 aS v5
 (some (.ret, [(aC xs 0), (aC xs 1), (aC xs 4), (aC xs 3), (aC xs 4)], h5))
 (aD (pu h5 (bJ Tryd.prog .add 3 true (aC xs 4) (.int .i64 1))) fun v6 h6 =>
 lp [(aC xs 0), (aC xs 1), (aC xs 2), (aC xs 3), v6] h6))
 (some (.exit 0, [(aC xs 0), (aC xs 1), (aC xs 2), (aC xs 3), (aC xs 4)], h2))
noncomputable def aM.c (G : aB) (k : Nat) (self : bH) (x0 x1 : AV) (h : aA) : Option (AV × aA) := dG (
 aD (pu h (cK x0)) fun v0 h0 =>
 bU (dD (aM.l2 G k h0.length self) k [x0, x1, (.int .i64 0), v0, (.int .i64 0)] h0) fun e1 x1 h1 => eE e1
 (none)
 (fun i1 => if i1 = 0 then (bR [(.int .i64 (-1))] h.length h1) else (none))
 (bR [(aC x1 2)] h.length h1))
noncomputable def aM.f (G : aB) : Nat → bH
 | 0 => fun _ _ => none
 | k + 1 => fun args h => iR args fun x0 x1 => (aM.c G k (aM.f G k) x0 x1 h)
noncomputable def aK.ann : Ann := cW [] [] [] []
noncomputable def aK.env (G : aB) (k : Nat) (self : bH) : List (Nat × Bool × bH) := [(90, true, aM.f G k)]
noncomputable def aK.c (G : aB) (k : Nat) (self : bH) (x0 x1 : AV) (h : aA) : Option (AV × aA) := dG (
 aD (bA (aM.f G k) [x0, x1] h) fun v0 h0 =>
 aD (pu h0 (bJ Tryd.prog .geq 3 true v0 (.int .i64 0))) fun v1 h1 =>
 bR [v1] h.length h1)
noncomputable def aK.f (G : aB) : Nat → bH
 | 0 => fun _ _ => none
 | k + 1 => fun args h => iR args fun x0 x1 => (aK.c G k (aK.f G k) x0 x1 h)
noncomputable def bQ.ann : Ann := cW [] [] [] []
noncomputable def bQ.env (G : aB) (k : Nat) (self : bH) : List (Nat × Bool × bH) := [(63, true, aK.f G k)]
noncomputable def bQ.c (G : aB) (k : Nat) (self : bH) (x0 x1 x2 : AV) (h : aA) : Option (AV × aA) := dG (
 aD (pu h (aQ G false 1 x1 h)) fun v0 h0 =>
 aD (pu h0 (aR 1 v0 x0)) fun v1 h1 =>
 aD (pu h1 (aQ G false 1 v1 h1)) fun v2 h2 =>
 aD (pu h2 (aQ G false 1 x2 h2)) fun v3 h3 =>
 aD (bA (aK.f G k) [v2, v3] h3) fun v4 h4 =>
 bR [v4] h.length h4)
noncomputable def bQ.f (G : aB) : Nat → bH
 | 0 => fun _ _ => none
 | k + 1 => fun args h => vR args fun x0 x1 x2 => (bQ.c G k (bQ.f G k) x0 x1 x2 h)
noncomputable def aG.ann : Ann := cW [] [] [(2, [0, 1, 4, 7, 8])] []
noncomputable def aG.env (G : aB) (k : Nat) (self : bH) : List (Nat × Bool × bH) := [(62, false, bQ.f G k)]
noncomputable def aG.l2 (G : aB) (k n0 : Nat) (self : bH) (lp : bW) : bW := fun xs h0 => eF n0 xs h0 fun h =>
 aD (pu h (bJ Tryd.prog .lss 3 false (aC xs 4) (aC xs 3))) fun v2 h2 =>
 aS v2
 (aD (pu h2 (aR 1 (aC xs 0) (aC xs 4))) fun v3 h3 =>
 aD (pu h3 (aQ G false 1 v3 h3)) fun v4 h4 =>
 aD (iF (cY (aG.env G k self)) (aC xs 1) [v4] h4) fun v5 h5 =>
 aS v5
 (some (.ret, [(aC xs 0), (aC xs 1), (aC xs 4), (aC xs 3), (aC xs 4)], h5))
 (aD (pu h5 (bJ Tryd.prog .add 3 true (aC xs 4) (.int .i64 1))) fun v6 h6 =>
 lp [(aC xs 0), (aC xs 1), (aC xs 2), (aC xs 3), v6] h6))
 (some (.exit 0, [(aC xs 0), (aC xs 1), (aC xs 2), (aC xs 3), (aC xs 4)], h2))
noncomputable def aG.c (G : aB) (k : Nat) (self : bH) (x0 x1 : AV) (h : aA) : Option (AV × aA) := dG (
 aD (pu h (cK x0)) fun v0 h0 =>
 bU (dD (aG.l2 G k h0.length self) k [x0, x1, (.int .i64 0), v0, (.int .i64 0)] h0) fun e1 x1 h1 => eE e1
 (none)
 (fun i1 => if i1 = 0 then (bR [(.int .i64 (-1))] h.length h1) else (none))
 (bR [(aC x1 2)] h.length h1))
noncomputable def aG.f (G : aB) : Nat → bH
 | 0 => fun _ _ => none
 | k + 1 => fun args h => iR args fun x0 x1 => (aG.c G k (aG.f G k) x0 x1 h)
noncomputable def aI.ann : Ann := cW [] [] [] []
noncomputable def aI.env (G : aB) (k : Nat) (self : bH) : List (Nat × Bool × bH) := [(89, false, aG.f G k)]
noncomputable def aI.c (G : aB) (k : Nat) (self : bH) (x0 x1 : AV) (h : aA) : Option (AV × aA) := dG (
 aD (dA (aG.f G k) [x0, x1] h) fun v0 h0 =>
 aD (pu h0 (bJ Tryd.prog .geq 3 true v0 (.int .i64 0))) fun v1 h1 =>
 bR [v1] h.length h1)
noncomputable def aI.f (G : aB) : Nat → bH
 | 0 => fun _ _ => none
 | k + 1 => fun args h => iR args fun x0 x1 => (aI.c G k (aI.f G k) x0 x1 h)
noncomputable def cC.ann : Ann := cW [] [2, 6] [(6, [1, 4, 6, 20, 21, 22])] []
noncomputable def cC.env (G : aB) (k : Nat) (self : bH) : List (Nat × Bool × bH) := [(20, true, bM.f G k), (25, true, bV.f G k), (29, true, bD.f G k), (61, false, aI.f G k), (62, false, bQ.f G k)]
noncomputable def cC.l6 (G : aB) (k n0 : Nat) (self : bH) (lp : bW) : bW := fun xs h0 => eF n0 xs h0 fun h =>
 aD (pu h (bJ Tryd.prog .lss 3 false (aC xs 5) (aC xs 4))) fun v15 h15 =>
 aS v15
 (aD (pu h15 (aR 6 (aC xs 3) (aC xs 5))) fun v16 h16 =>
 aD (pu h16 (aQ G true 6 v16 h16)) fun v17 h17 =>
 aD (fM 29 (.agg [(.int .i64 0), (.int .i64 0), (.int .i64 0), (.int .i64 0), (.int .i64 0), (.int .i64 0)]) h17) fun v18 h18 =>
 aD (iK (cG 6 v18 v17 h18)) fun v19 h19 =>
 aD (pu h19 (aQ G true 6 v18 h19)) fun v20 h20 =>
 aD (bA (bM.f G k) [v20] h20) fun v21 h21 =>
 aD (pu h21 (bZ v21 0)) fun v22 h22 =>
 aD (pu h22 (bZ v21 1)) fun v23 h23 =>
 aD (fM 3 (.int .i64 0) h23) fun v24 h24 =>
 aD (iK (cG 1 v24 v22 h24)) fun v25 h25 =>
 aD (pu h25 (un .not v23)) fun v26 h26 =>
 aD (gd v26 false h26 (pu h26 (aL 0 v18))) fun v27 h27 =>
 aD (gd v26 false h27 (pu h27 (aQ G false 1 v27 h27))) fun v28 h28 =>
 aD (gd v26 false h28 (pu h28 (bJ Tryd.prog .eql 3 true v28 (.int .i64 15)))) fun v29 h29 =>
 aD (pu h29 (cO v26 (.bool true) v29)) fun v30 h30 =>
 aS v30
 (aD (pu h30 (bJ Tryd.prog .add 3 true (aC xs 5) (.int .i64 1))) fun v31 h31 =>
 lp [(aC xs 0), (aC xs 1), (aC xs 2), (aC xs 3), (aC xs 4), v31] h31)
 (aD (pu h30 (aQ G true 3 (aC xs 0) h30)) fun v32 h32 =>
 aD (bA (bV.f G k) [v32, (aC xs 5)] h32) fun v33 h33 =>
 aD (dA (aI.f G k) [v33, (.fn 62 [(aC xs 1), v24])] h33) fun v34 h34 =>
 aD (pu h34 (un .not v34)) fun v35 h35 =>
 aS v35
 (aD (cI 1 1 (.int .i64 0) [(0, (aC xs 5))] h35) fun v36 h36 =>
 aD (cN 3 1 (aC xs 2) v36 h36) fun v37 h37 =>
 aD (pu h37 (bJ Tryd.prog .add 3 true (aC xs 5) (.int .i64 1))) fun v38 h38 =>
 lp [(aC xs 0), (aC xs 1), v37, (aC xs 3), (aC xs 4), v38] h38)
 (aD (pu h35 (bJ Tryd.prog .add 3 true (aC xs 5) (.int .i64 1))) fun v39 h39 =>
 lp [(aC xs 0), (aC xs 1), (aC xs 2), (aC xs 3), (aC xs 4), v39] h39)))
 (some (.exit 0, [(aC xs 0), (aC xs 1), (aC xs 2), (aC xs 3), (aC xs 4), (aC xs 5)], h15))
noncomputable def cC.c (G : aB) (k : Nat) (self : bH) (x0 : AV) (h : aA) : Option (AV × aA) := dG (
 aD (dR x0 h) fun v0 h0 =>
 aD (some (.sl h0.length 0 0 0 1, h0 ++ [⟨3, 1, []⟩])) fun v1 h1 =>
 aD (pu h1 (aQ G true 3 v0 h1)) fun v2 h2 =>
 aD (bA (bD.f G k) [v2] h2) fun v3 h3 =>
 aD (pu h3 (bZ v3 0)) fun v4 h4 =>
 aD (pu h4 (bZ v3 1)) fun v5 h5 =>
 aD (fM 56 .nils h5) fun v6 h6 =>
 aD (iK (cG 1 v6 v4 h6)) fun v7 h7 =>
 aD (pu h7 (bJ Tryd.prog .neq 33 true v5 .nili)) fun v8 h8 =>
 aS v8
 (aD (some (.sl h8.length 0 0 0 1, h8 ++ [⟨3, 1, []⟩])) fun v9 h9 =>
 bR [v9, v5] h.length h9)
 (aD (some (.sl h8.length 0 0 0 1, h8 ++ [⟨3, 1, []⟩])) fun v10 h10 =>
 aD (pu h10 (aL 0 v0)) fun v11 h11 =>
 aD (pu h11 (aQ G false 1 v11 h11)) fun v12 h12 =>
 aD (pu h12 (cK v12)) fun v13 h13 =>
 bU (dD (cC.l6 G k h13.length self) k [v0, v6, v10, v12, v13, (.int .i64 0)] h13) fun e14 x14 h14 => eE e14
 (none)
 (fun i14 => if i14 = 0 then (bR [(aC x14 2), .nili] h.length h14) else (none))
 (bR [.undef, .undef] h.length h14)))
noncomputable def cC.f (G : aB) : Nat → bH
 | 0 => fun _ _ => none
 | k + 1 => fun args h => gM args fun x0 => (cC.c G k (cC.f G k) x0 h)
noncomputable def alembiclaw20_LiveChain.ann : Ann := wH [] [] [(20, [0, 1, 4, 5, 6, 8, 10]), (10, [0, 1, 5, 6, 7])] [(34, [0, 5, 8, 12, 13, 14, 15, 16]), (21, [0, 1, 4, 5, 6, 8, 10]), (27, [0, 1, 5, 6, 8, 10, 11]), (25, [0, 1, 5, 6, 8, 10, 11]), (16, [0, 1, 5, 6])] [] [] [] [] [31]
noncomputable def alembiclaw20_LiveChain.env (G : aB) (k : Nat) (self : bH) : List (Nat × Bool × bH) := [(11, true, aJ.f G k), (18, true, aT.f G k), (22, true, aN.f G k), (29, true, bD.f G k), (30, true, cD.f G k), (31, true, cC.f G k), (37, true, bB.f G k)]
noncomputable def alembiclaw20_LiveChain.l10 (G : aB) (k n0 : Nat) (self : bH) (lp : bW) : bW := fun xs h0 => eF n0 xs h0 fun h =>
 aD (pu h (bJ Tryd.prog .lss 3 false (aC xs 4) (aC xs 0))) fun v18 h18 =>
 aS v18
 (aD (pu h18 (aL 0 (aC xs 3))) fun v19 h19 =>
 aD (pu h19 (aQ G false 1 v19 h19)) fun v20 h20 =>
 aD (pu h20 (bJ Tryd.prog .sub 3 true (aC xs 4) (.int .i64 1))) fun v21 h21 =>
 aD (pu h21 (cT [(0, 1), (1, 1), (2, 1), (3, 1), (4, 1), (5, 1)] [(.int .i64 0), (.int .i64 0), (.int .i64 0), (.int .i64 0), (.int .i64 0), (.int .i64 0)] [(0, (.int .i64 2)), (1, (aC xs 4)), (2, v21)])) fun v22 h22 =>
 aD (cI 6 1 (.agg [(.int .i64 0), (.int .i64 0), (.int .i64 0), (.int .i64 0), (.int .i64 0), (.int .i64 0)]) [(0, v22)] h22) fun v23 h23 =>
 aD (cN 29 6 v20 v23 h23) fun v24 h24 =>
 aD (pu h24 (aL 0 (aC xs 3))) fun v25 h25 =>
 aD (iK (cG 1 v25 v24 h25)) fun v26 h26 =>
 aD (pu h26 (bJ Tryd.prog .add 3 true (aC xs 4) (.int .i64 1))) fun v27 h27 =>
 lp [(aC xs 0), (aC xs 1), (aC xs 2), (aC xs 3), v27] h27)
 (some (.exit 0, [(aC xs 0), (aC xs 1), (aC xs 2), (aC xs 3), (aC xs 4)], h18))
noncomputable def alembiclaw20_LiveChain.l20 (G : aB) (k n0 : Nat) (self : bH) (lp : bW) : bW := fun xs h0 => eF n0 xs h0 fun h =>
 aD (pu h (bJ Tryd.prog .lss 3 false (aC xs 6) (aC xs 0))) fun v57 h57 =>
 aS v57
 (bU (
 aD (cI 1 1 (.int .i64 0) [(0, (aC xs 0))] h57) fun v58 h58 =>
 bU (
 aD (pu h58 (bJ Tryd.prog .gtr 3 true (aC xs 6) (.int .i64 0))) fun v59 h59 =>
 aS v59
 (aD (pu h59 (bJ Tryd.prog .sub 3 true (aC xs 6) (.int .i64 1))) fun v60 h60 =>
 aD (cI 1 2 (.int .i64 0) [(0, v60), (1, (aC xs 0))] h60) fun v61 h61 =>
 some (.normal, [(aC xs 0), (aC xs 1), (aC xs 3), (aC xs 4), (aC xs 5), (aC xs 6), v61], h61))
 (some (.normal, [(aC xs 0), (aC xs 1), (aC xs 3), (aC xs 4), (aC xs 5), (aC xs 6), v58], h59))) fun e62 x62 h62 => eE e62
 (bU (
 aS (aC x62 1)
 (aD (pu h62 (bJ Tryd.prog .sub 3 true (aC x62 0) (.int .i64 1))) fun v63 h63 =>
 aD (bA (bB.f G k) [(aC x62 6), v63] h63) fun v64 h64 =>
 some (.normal, [(aC x62 0), (aC x62 1), (aC x62 2), (aC x62 3), (aC x62 4), (aC x62 5), v64], h64))
 (some (.normal, [(aC x62 0), (aC x62 1), (aC x62 2), (aC x62 3), (aC x62 4), (aC x62 5), (aC x62 6)], h62))) fun e65 x65 h65 => eE e65
 (aD (pu h65 (aR 1 (aC x65 4) (aC x65 5))) fun v66 h66 =>
 aD (pu h66 (aQ G false 1 v66 h66)) fun v67 h67 =>
 aD (bA (aN.f G k) [v67, (aC x65 6)] h67) fun v68 h68 =>
 aD (pu h68 (un .not v68)) fun v69 h69 =>
 aS v69
 (some (.ret, [(aC x65 0), (aC x65 1), (.bool false), (aC x65 2), (aC x65 3), (aC x65 4), (aC x65 5)], h69))
 (some (.normal, [(aC x65 0), (aC x65 1), .undef, (aC x65 2), (aC x65 3), (aC x65 4), (aC x65 5)], h69)))
 (fun i65 => if i65 = 3 then (some (.normal, [(aC x65 0), (aC x65 1), .undef, (aC x65 2), (aC x65 3), (aC x65 4), (aC x65 5)], h65)) else (some (.exit i65, [(aC x65 0), (aC x65 1), .undef, (aC x65 2), (aC x65 3), (aC x65 4), (aC x65 5)], h65)))
 (some (.ret, [(aC x65 0), (aC x65 1), .undef, (aC x65 2), (aC x65 3), (aC x65 4), (aC x65 5)], h65)))
 (fun i62 => if i62 = 3 then (some (.normal, [(aC x62 0), (aC x62 1), .undef, (aC x62 2), (aC x62 3), (aC x62 4), (aC x62 5)], h62)) else (some (.exit i62, [(aC x62 0), (aC x62 1), .undef, (aC x62 2), (aC x62 3), (aC x62 4), (aC x62 5)], h62)))
 (some (.ret, [(aC x62 0), (aC x62 1), .undef, (aC x62 2), (aC x62 3), (aC x62 4), (aC x62 5)], h62))) fun e70 x70 h70 => eE e70
 (aD (pu h70 (bJ Tryd.prog .add 3 true (aC x70 6) (.int .i64 1))) fun v71 h71 =>
 lp [(aC x70 0), (aC x70 1), (aC x70 2), (aC x70 3), (aC x70 4), (aC x70 5), v71] h71)
 (fun i70 => some (.exit i70, [(aC x70 0), (aC x70 1), (aC x70 2), (aC x70 3), (aC x70 4), (aC x70 5), (aC x70 6)], h70))
 (some (.ret, [(aC x70 0), (aC x70 1), (aC x70 2), (aC x70 3), (aC x70 4), (aC x70 5), (aC x70 6)], h70)))
 (some (.exit 2, [(aC xs 0), (aC xs 1), (aC xs 2), (aC xs 3), (aC xs 4), (aC xs 5), (aC xs 6)], h57))
noncomputable def alembiclaw20_LiveChain.c (G : aB) (k : Nat) (self : bH) (x0 x1 : AV) (h : aA) : Option (AV × aA) := dG (
 aD (bA (aT.f G k) [] h) fun v0 h0 =>
 aD (pu h0 (un .not v0)) fun v1 h1 =>
 aS v1
 (bR [(.bool false)] h.length h1)
 (aD (bA (aJ.f G k) [x0, (.int .i64 20)] h1) fun v2 h2 =>
 aD (pu h2 (bJ Tryd.prog .add 3 true v2 (.int .i64 2))) fun v3 h3 =>
 aD (fM 27 (.agg [.nils, (.int .i64 0), (.int .i64 0)]) h3) fun v4 h4 =>
 aD (pu h4 (bJ Tryd.prog .add 3 true v3 (.int .i64 1))) fun v5 h5 =>
 aD (pu h5 (aL 1 v4)) fun v6 h6 =>
 aD (iK (cG 1 v6 v5 h6)) fun v7 h7 =>
 aD (pu h7 (aL 2 v4)) fun v8 h8 =>
 aD (iK (cG 1 v8 (.int .i64 1) h8)) fun v9 h9 =>
 aD (pu h9 (aL 0 v4)) fun v10 h10 =>
 aD (pu h10 (aQ G false 1 v10 h10)) fun v11 h11 =>
 aD (pu h11 (cT [(0, 1), (1, 1), (2, 1), (3, 1), (4, 1), (5, 1)] [(.int .i64 0), (.int .i64 0), (.int .i64 0), (.int .i64 0), (.int .i64 0), (.int .i64 0)] [(0, (.int .i64 1)), (1, (.int .i64 0)), (5, (.int .i64 5))])) fun v12 h12 =>
 aD (cI 6 1 (.agg [(.int .i64 0), (.int .i64 0), (.int .i64 0), (.int .i64 0), (.int .i64 0), (.int .i64 0)]) [(0, v12)] h12) fun v13 h13 =>
 aD (pM 29 6 v11 v13 h13) fun v14 h14 =>
 aD (pu h14 (aL 0 v4)) fun v15 h15 =>
 aD (iK (cG 1 v15 v14 h15)) fun v16 h16 =>
 bU (dD (alembiclaw20_LiveChain.l10 G k h16.length self) k [v3, x1, v0, v4, (.int .i64 1)] h16) fun e17 x17 h17 => eE e17
 (none)
 (fun i17 => if i17 = 0 then (aD (pu h17 (aL 0 (aC x17 3))) fun v28 h28 =>
 aD (pu h28 (aQ G false 1 v28 h28)) fun v29 h29 =>
 aD (pu h29 (bJ Tryd.prog .sub 3 true (aC x17 0) (.int .i64 1))) fun v30 h30 =>
 aD (pu h30 (cT [(0, 1), (1, 1), (2, 1), (3, 1), (4, 1), (5, 1)] [(.int .i64 0), (.int .i64 0), (.int .i64 0), (.int .i64 0), (.int .i64 0), (.int .i64 0)] [(0, (.int .i64 16)), (2, (aC x17 0)), (3, v30)])) fun v31 h31 =>
 aD (pu h31 (cT [(0, 1), (1, 1), (2, 1), (3, 1), (4, 1), (5, 1)] [(.int .i64 0), (.int .i64 0), (.int .i64 0), (.int .i64 0), (.int .i64 0), (.int .i64 0)] [(0, (.int .i64 20))])) fun v32 h32 =>
 aD (cI 6 2 (.agg [(.int .i64 0), (.int .i64 0), (.int .i64 0), (.int .i64 0), (.int .i64 0), (.int .i64 0)]) [(0, v31), (1, v32)] h32) fun v33 h33 =>
 aD (cN 29 6 v29 v33 h33) fun v34 h34 =>
 aD (pu h34 (aL 0 (aC x17 3))) fun v35 h35 =>
 aD (iK (cG 1 v35 v34 h35)) fun v36 h36 =>
 bU (
 aS (aC x17 1)
 (aD (pu h36 (aL 0 (aC x17 3))) fun v37 h37 =>
 aD (pu h37 (aQ G false 1 v37 h37)) fun v38 h38 =>
 aD (pu h38 (bJ Tryd.prog .sub 3 true (aC x17 0) (.int .i64 1))) fun v39 h39 =>
 aD (pu h39 (bJ Tryd.prog .sub 3 true (aC x17 0) (.int .i64 2))) fun v40 h40 =>
 aD (pu h40 (cT [(0, 1), (1, 1), (2, 1), (3, 1), (4, 1), (5, 1)] [(.int .i64 0), (.int .i64 0), (.int .i64 0), (.int .i64 0), (.int .i64 0), (.int .i64 0)] [(0, (.int .i64 18)), (2, v40), (5, (aC x17 0))])) fun v41 h41 =>
 aD (pu h41 (aR 6 v38 v39)) fun v42 h42 =>
 aD (iK (cG 6 v42 v41 h42)) fun v43 h43 =>
 some (.normal, [(aC x17 0), (aC x17 1), (aC x17 2), (aC x17 3)], h43))
 (some (.normal, [(aC x17 0), (aC x17 1), (aC x17 2), (aC x17 3)], h36))) fun e44 x44 h44 => eE e44
 (aD (pu h44 (aQ G true 3 (aC x44 3) h44)) fun v45 h45 =>
 aD (bA (bD.f G k) [v45] h45) fun v46 h46 =>
 aD (pu h46 (bZ v46 0)) fun v47 h47 =>
 aD (pu h47 (bZ v46 1)) fun v48 h48 =>
 aD (pu h48 (bJ Tryd.prog .neq 33 true v48 .nili)) fun v49 h49 =>
 aD (gd v49 false h49 (some (v47, h49))) fun v50 h50 =>
 aD (gd v49 false h50 (pu h50 (cK v50))) fun v51 h51 =>
 aD (gd v49 false h51 (some ((aC x44 0), h51))) fun v52 h52 =>
 aD (gd v49 false h52 (pu h52 (bJ Tryd.prog .add 3 true v52 (.int .i64 2)))) fun v53 h53 =>
 aD (gd v49 false h53 (pu h53 (bJ Tryd.prog .neq 3 false v51 v53))) fun v54 h54 =>
 aD (pu h54 (cO v49 (.bool true) v54)) fun v55 h55 =>
 aS v55
 (bR [(.bool false)] h.length h55)
 (bU (dD (alembiclaw20_LiveChain.l20 G k h55.length self) k [(aC x44 0), (aC x44 1), .undef, (aC x44 2), (aC x44 3), v47, (.int .i64 0)] h55) fun e56 x56 h56 => eE e56
 (none)
 (fun i56 => if i56 = 2 then (aD (pu h56 (aQ G true 3 (aC x56 4) h56)) fun v72 h72 =>
 aD (bA (cC.f G k) [v72] h72) fun v73 h73 =>
 aD (pu h73 (bZ v73 0)) fun v74 h74 =>
 aD (pu h74 (bZ v73 1)) fun v75 h75 =>
 aD (pu h75 (aQ G true 3 (aC x56 4) h75)) fun v76 h76 =>
 aD (bA (cD.f G k) [v76] h76) fun v77 h77 =>
 aD (pu h77 (bZ v77 0)) fun v78 h78 =>
 aD (pu h78 (bZ v77 1)) fun v79 h79 =>
 bU (
 aS (aC x56 1)
 (some (.normal, [(aC x56 0), (aC x56 3), (aC x56 5), v74, v75, v78, v79, (.int .i64 3)], h79))
 (some (.normal, [(aC x56 0), (aC x56 3), (aC x56 5), v74, v75, v78, v79, (.int .i64 2)], h79))) fun e80 x80 h80 => eE e80
 (aD (gd (aC x80 1) true h80 (some ((aC x80 4), h80))) fun v81 h81 =>
 aD (gd (aC x80 1) true h81 (pu h81 (bJ Tryd.prog .eql 33 true v81 .nili))) fun v82 h82 =>
 aD (pu h82 (cO (aC x80 1) v82 (.bool false))) fun v83 h83 =>
 aD (gd v83 true h83 (some ((aC x80 6), h83))) fun v84 h84 =>
 aD (gd v83 true h84 (pu h84 (bJ Tryd.prog .eql 33 true v84 .nili))) fun v85 h85 =>
 aD (pu h85 (cO v83 v85 (.bool false))) fun v86 h86 =>
 aD (gd v86 true h86 (some ((aC x80 3), h86))) fun v87 h87 =>
 aD (gd v86 true h87 (pu h87 (cK v87))) fun v88 h88 =>
 aD (gd v86 true h88 (pu h88 (bJ Tryd.prog .eql 3 true v88 (.int .i64 0)))) fun v89 h89 =>
 aD (pu h89 (cO v86 v89 (.bool false))) fun v90 h90 =>
 aD (gd v90 true h90 (some ((aC x80 5), h90))) fun v91 h91 =>
 aD (gd v90 true h91 (some ((aC x80 7), h91))) fun v92 h92 =>
 aD (gd v90 true h92 (pu h92 (bJ Tryd.prog .eql 3 false v91 v92))) fun v93 h93 =>
 aD (pu h93 (cO v90 v93 (.bool false))) fun v94 h94 =>
 aD (gd v94 true h94 (some ((aC x80 2), h94))) fun v95 h95 =>
 aD (gd v94 true h95 (some ((aC x80 0), h95))) fun v96 h96 =>
 aD (gd v94 true h96 (pu h96 (aR 1 v95 v96))) fun v97 h97 =>
 aD (gd v94 true h97 (pu h97 (aQ G false 1 v97 h97))) fun v98 h98 =>
 aD (gd v94 true h98 (some ((aC x80 0), h98))) fun v99 h99 =>
 aD (gd v94 true h99 (pu h99 (bJ Tryd.prog .sub 3 true v99 (.int .i64 1)))) fun v100 h100 =>
 aD (gd v94 true h100 (some ((aC x80 0), h100))) fun v101 h101 =>
 aD (gd v94 true h101 (cI 1 2 (.int .i64 0) [(0, v100), (1, v101)] h101)) fun v102 h102 =>
 aD (gd v94 true h102 (bA (aN.f G k) [v98, v102] h102)) fun v103 h103 =>
 aD (pu h103 (cO v94 v103 (.bool false))) fun v104 h104 =>
 aD (gd v104 true h104 (some ((aC x80 2), h104))) fun v105 h105 =>
 aD (gd v104 true h105 (some ((aC x80 0), h105))) fun v106 h106 =>
 aD (gd v104 true h106 (pu h106 (bJ Tryd.prog .add 3 true v106 (.int .i64 1)))) fun v107 h107 =>
 aD (gd v104 true h107 (pu h107 (aR 1 v105 v107))) fun v108 h108 =>
 aD (gd v104 true h108 (pu h108 (aQ G false 1 v108 h108))) fun v109 h109 =>
 aD (gd v104 true h109 (pu h109 (cK v109))) fun v110 h110 =>
 aD (gd v104 true h110 (pu h110 (bJ Tryd.prog .eql 3 true v110 (.int .i64 0)))) fun v111 h111 =>
 aD (pu h111 (cO v104 v111 (.bool false))) fun v112 h112 =>
 bR [v112] h.length h112)
 (fun i80 => none)
 (bR [.undef] h.length h80)) else (none))
 (bR [(aC x56 2)] h.length h56)))
 (fun i44 => none)
 (bR [.undef] h.length h44)) else (none))
 (bR [.undef] h.length h17)))
noncomputable def alembiclaw20_LiveChain.f (G : aB) : Nat → bH
 | 0 => fun _ _ => none
 | k + 1 => fun args h => iR args fun x0 x1 => (alembiclaw20_LiveChain.c G k (alembiclaw20_LiveChain.f G k) x0 x1 h)
theorem alembiclaw20_LiveChain.step (G : aB) (k : Nat) (x0 x1 : AV) (h : aA) : alembiclaw20_LiveChain.f G (k + 1) [x0, x1] h = alembiclaw20_LiveChain.c G k (alembiclaw20_LiveChain.f G k) x0 x1 h := rfl
theorem orders : Tryd.prog.follows .mixedOrders = true := by kernel_rfl
theorem bT.here : HrP Tryd.prog 86 := ⟨_, Tryd.func86, by kernel_rfl, by kernel_rfl⟩
theorem bT.eq (G : aB) (k : Nat) (self : bH) (x0 : AV) (h : aA) : cR Tryd.prog G (cY (bT.env G k self)) bT.ann Tryd.f86.results.toList (bY Tryd.f86) Tryd.f86.ntmps k [x0] h = bT.c G k self x0 h := by kernel_rfl
theorem bT.sound {G : aB} (hG : ∀ g x, G g = some x → aZ x = true) : ∀ k, Sound Tryd.prog G 86 (bT.f G k)
 | 0 => bC bT.here (fun _ _ => rfl)
 | k + 1 => bF (l := bT.env G k (bT.f G k)) (ann := bT.ann) (n := k) (aW hG cJ) orders Tryd.func86 (by kernel_rfl) (by kernel_rfl) rfl (by kernel_rfl) (dF fun x0 h => bT.eq G k _ x0 h)
theorem cB.here : HrP Tryd.prog 51 := ⟨_, Tryd.func51, by kernel_rfl, by kernel_rfl⟩
theorem cB.eq (G : aB) (k : Nat) (self : bH) (x0 : AV) (h : aA) : cR Tryd.prog G (cY (cB.env G k self)) cB.ann Tryd.f51.results.toList (bY Tryd.f51) Tryd.f51.ntmps k [x0] h = cB.c G k self x0 h := by kernel_rfl
theorem cB.sound {G : aB} (hG : ∀ g x, G g = some x → aZ x = true) : ∀ k, Sound Tryd.prog G 51 (cB.f G k)
 | 0 => bC cB.here (fun _ _ => rfl)
 | k + 1 => bF (l := cB.env G k (cB.f G k)) (ann := cB.ann) (n := k) (aW hG (bI (bT.sound hG k) cJ)) orders Tryd.func51 (by kernel_rfl) (by kernel_rfl) rfl (by kernel_rfl) (dF fun x0 h => cB.eq G k _ x0 h)
theorem cH.here : HrP Tryd.prog 95 := ⟨_, Tryd.func95, by kernel_rfl, by kernel_rfl⟩
theorem cH.eq (G : aB) (k : Nat) (self : bH) (x0 x1 : AV) (h : aA) : cR Tryd.prog G (cY (cH.env G k self)) cH.ann Tryd.f95.results.toList (bY Tryd.f95) Tryd.f95.ntmps k [x0, x1] h = cH.c G k self x0 x1 h := by kernel_rfl
theorem cH.sound {G : aB} (hG : ∀ g x, G g = some x → aZ x = true) : ∀ k, Sound Tryd.prog G 95 (cH.f G k)
 | 0 => bC cH.here (fun _ _ => rfl)
 | k + 1 => bF (l := cH.env G k (cH.f G k)) (ann := cH.ann) (n := k) (aW hG cJ) orders Tryd.func95 (by kernel_rfl) (by kernel_rfl) rfl (by kernel_rfl) (dX fun x0 x1 h => cH.eq G k _ x0 x1 h)
theorem bX.here : HrP Tryd.prog 72 := ⟨_, Tryd.func72, by kernel_rfl, by kernel_rfl⟩
theorem bX.eq (G : aB) (k : Nat) (self : bH) (x0 x1 : AV) (h : aA) : cR Tryd.prog G (cY (bX.env G k self)) bX.ann Tryd.f72.results.toList (bY Tryd.f72) Tryd.f72.ntmps k [x0, x1] h = bX.c G k self x0 x1 h := by kernel_rfl
theorem bX.sound {G : aB} (hG : ∀ g x, G g = some x → aZ x = true) : ∀ k, Sound Tryd.prog G 72 (bX.f G k)
 | 0 => bC bX.here (fun _ _ => rfl)
 | k + 1 => bF (l := bX.env G k (bX.f G k)) (ann := bX.ann) (n := k) (aW hG (bI (cB.sound hG k) (bI (cH.sound hG k) cJ))) orders Tryd.func72 (by kernel_rfl) (by kernel_rfl) rfl (by kernel_rfl) (dX fun x0 x1 h => bX.eq G k _ x0 x1 h)
theorem bP.here : HrP Tryd.prog 43 := ⟨_, Tryd.func43, by kernel_rfl, by kernel_rfl⟩
theorem bP.eq (G : aB) (k : Nat) (self : bH) (x0 : AV) (h : aA) : cR Tryd.prog G (cY (bP.env G k self)) bP.ann Tryd.f43.results.toList (bY Tryd.f43) Tryd.f43.ntmps k [x0] h = bP.c G k self x0 h := by kernel_rfl
theorem bP.sound {G : aB} (hG : ∀ g x, G g = some x → aZ x = true) : ∀ k, Sound Tryd.prog G 43 (bP.f G k)
 | 0 => bC bP.here (fun _ _ => rfl)
 | k + 1 => bF (l := bP.env G k (bP.f G k)) (ann := bP.ann) (n := k) (aW hG (bI (bX.sound hG k) cJ)) orders Tryd.func43 (by kernel_rfl) (by kernel_rfl) rfl (by kernel_rfl) (dF fun x0 h => bP.eq G k _ x0 h)
theorem bM.here : HrP Tryd.prog 20 := ⟨_, Tryd.func20, by kernel_rfl, by kernel_rfl⟩
theorem bM.eq (G : aB) (k : Nat) (self : bH) (x0 : AV) (h : aA) : cR Tryd.prog G (cY (bM.env G k self)) bM.ann Tryd.f20.results.toList (bY Tryd.f20) Tryd.f20.ntmps k [x0] h = bM.c G k self x0 h := by kernel_rfl
theorem bM.sound {G : aB} (hG : ∀ g x, G g = some x → aZ x = true) : ∀ k, Sound Tryd.prog G 20 (bM.f G k)
 | 0 => bC bM.here (fun _ _ => rfl)
 | k + 1 => bF (l := bM.env G k (bM.f G k)) (ann := bM.ann) (n := k) (aW hG (bI (cB.sound hG k) cJ)) orders Tryd.func20 (by kernel_rfl) (by kernel_rfl) rfl (by kernel_rfl) (dF fun x0 h => bM.eq G k _ x0 h)
theorem bE.here : HrP Tryd.prog 120 := ⟨_, Tryd.func120, by kernel_rfl, by kernel_rfl⟩
theorem bE.eq (G : aB) (k : Nat) (self : bH) (x0 : AV) (h : aA) : cR Tryd.prog G (cY (bE.env G k self)) bE.ann Tryd.f120.results.toList (bY Tryd.f120) Tryd.f120.ntmps k [x0] h = bE.c G k self x0 h := by kernel_rfl
theorem bE.sound {G : aB} (hG : ∀ g x, G g = some x → aZ x = true) : ∀ k, Sound Tryd.prog G 120 (bE.f G k)
 | 0 => bC bE.here (fun _ _ => rfl)
 | k + 1 => bF (l := bE.env G k (bE.f G k)) (ann := bE.ann) (n := k) (aW hG cJ) orders Tryd.func120 (by kernel_rfl) (by kernel_rfl) rfl (by kernel_rfl) (dF fun x0 h => bE.eq G k _ x0 h)
theorem bG.here : HrP Tryd.prog 103 := ⟨_, Tryd.func103, by kernel_rfl, by kernel_rfl⟩
theorem bG.eq (G : aB) (k : Nat) (self : bH) (x0 x1 : AV) (h : aA) : cR Tryd.prog G (cY (bG.env G k self)) bG.ann Tryd.f103.results.toList (bY Tryd.f103) Tryd.f103.ntmps k [x0, x1] h = bG.c G k self x0 x1 h := by kernel_rfl
theorem bG.sound {G : aB} (hG : ∀ g x, G g = some x → aZ x = true) : ∀ k, Sound Tryd.prog G 103 (bG.f G k)
 | 0 => bC bG.here (fun _ _ => rfl)
 | k + 1 => bF (l := bG.env G k (bG.f G k)) (ann := bG.ann) (n := k) (aW hG (bI (bE.sound hG k) cJ)) orders Tryd.func103 (by kernel_rfl) (by kernel_rfl) rfl (by kernel_rfl) (dX fun x0 x1 h => bG.eq G k _ x0 x1 h)
theorem aE.here : HrP Tryd.prog 97 := ⟨_, Tryd.func97, by kernel_rfl, by kernel_rfl⟩
theorem aE.eq (G : aB) (k : Nat) (self : bH) (x0 x1 x2 : AV) (h : aA) : cR Tryd.prog G (cY (aE.env G k self)) aE.ann Tryd.f97.results.toList (bY Tryd.f97) Tryd.f97.ntmps k [x0, x1, x2] h = aE.c G k self x0 x1 x2 h := by kernel_rfl
theorem aE.sound {G : aB} (hG : ∀ g x, G g = some x → aZ x = true) : ∀ k, Sound Tryd.prog G 97 (aE.f G k)
 | 0 => bC aE.here (fun _ _ => rfl)
 | k + 1 => bF (l := aE.env G k (aE.f G k)) (ann := aE.ann) (n := k) (aW hG (bI (bG.sound hG k) cJ)) orders Tryd.func97 (by kernel_rfl) (by kernel_rfl) rfl (by kernel_rfl) (pN fun x0 x1 x2 h => aE.eq G k _ x0 x1 x2 h)
theorem aH.here : HrP Tryd.prog 87 := ⟨_, Tryd.func87, by kernel_rfl, by kernel_rfl⟩
theorem aH.eq (G : aB) (k : Nat) (self : bH) (x0 x1 x2 x3 : AV) (h : aA) : cR Tryd.prog G (cY (aH.env G k self)) aH.ann Tryd.f87.results.toList (bY Tryd.f87) Tryd.f87.ntmps k [x0, x1, x2, x3] h = aH.c G k self x0 x1 x2 x3 h := by kernel_rfl
theorem aH.sound {G : aB} (hG : ∀ g x, G g = some x → aZ x = true) : ∀ k, Sound Tryd.prog G 87 (aH.f G k)
 | 0 => bC aH.here (fun _ _ => rfl)
 | k + 1 => bF (l := aH.env G k (aH.f G k)) (ann := aH.ann) (n := k) (aW hG (bI (aH.sound hG k) (bI (aE.sound hG k) (bI (bG.sound hG k) cJ)))) orders Tryd.func87 (by kernel_rfl) (by kernel_rfl) rfl (by kernel_rfl) (wT fun x0 x1 x2 x3 h => aH.eq G k _ x0 x1 x2 x3 h)
theorem aX.here : HrP Tryd.prog 106 := ⟨_, Tryd.func106, by kernel_rfl, by kernel_rfl⟩
theorem aX.eq (G : aB) (k : Nat) (self : bH) (x0 : AV) (h : aA) : cR Tryd.prog G (cY (aX.env G k self)) aX.ann Tryd.f106.results.toList (bY Tryd.f106) Tryd.f106.ntmps k [x0] h = aX.c G k self x0 h := by kernel_rfl
theorem aX.sound {G : aB} (hG : ∀ g x, G g = some x → aZ x = true) : ∀ k, Sound Tryd.prog G 106 (aX.f G k)
 | 0 => bC aX.here (fun _ _ => rfl)
 | k + 1 => bF (l := aX.env G k (aX.f G k)) (ann := aX.ann) (n := k) (aW hG cJ) orders Tryd.func106 (by kernel_rfl) (by kernel_rfl) rfl (by kernel_rfl) (dF fun x0 h => aX.eq G k _ x0 h)
theorem aY.here : HrP Tryd.prog 107 := ⟨_, Tryd.func107, by kernel_rfl, by kernel_rfl⟩
theorem aY.eq (G : aB) (k : Nat) (self : bH) (x0 : AV) (h : aA) : cR Tryd.prog G (cY (aY.env G k self)) aY.ann Tryd.f107.results.toList (bY Tryd.f107) Tryd.f107.ntmps k [x0] h = aY.c G k self x0 h := by kernel_rfl
theorem aY.sound {G : aB} (hG : ∀ g x, G g = some x → aZ x = true) : ∀ k, Sound Tryd.prog G 107 (aY.f G k)
 | 0 => bC aY.here (fun _ _ => rfl)
 | k + 1 => bF (l := aY.env G k (aY.f G k)) (ann := aY.ann) (n := k) (aW hG cJ) orders Tryd.func107 (by kernel_rfl) (by kernel_rfl) rfl (by kernel_rfl) (dF fun x0 h => aY.eq G k _ x0 h)
theorem bK.here : HrP Tryd.prog 88 := ⟨_, Tryd.func88, by kernel_rfl, by kernel_rfl⟩
theorem bK.eq (G : aB) (k : Nat) (self : bH) (x0 : AV) (h : aA) : cR Tryd.prog G (cY (bK.env G k self)) bK.ann Tryd.f88.results.toList (bY Tryd.f88) Tryd.f88.ntmps k [x0] h = bK.c G k self x0 h := by kernel_rfl
theorem bK.sound {G : aB} (hG : ∀ g x, G g = some x → aZ x = true) : ∀ k, Sound Tryd.prog G 88 (bK.f G k)
 | 0 => bC bK.here (fun _ _ => rfl)
 | k + 1 => bF (l := bK.env G k (bK.f G k)) (ann := bK.ann) (n := k) (aW hG (bI (aX.sound hG k) (bI (aY.sound hG k) cJ))) orders Tryd.func88 (by kernel_rfl) (by kernel_rfl) rfl (by kernel_rfl) (dF fun x0 h => bK.eq G k _ x0 h)
theorem aO.here : HrP Tryd.prog 53 := ⟨_, Tryd.func53, by kernel_rfl, by kernel_rfl⟩
theorem aO.eq (G : aB) (k : Nat) (self : bH) (x0 : AV) (h : aA) : cR Tryd.prog G (cY (aO.env G k self)) aO.ann Tryd.f53.results.toList (bY Tryd.f53) Tryd.f53.ntmps k [x0] h = aO.c G k self x0 h := by kernel_rfl
theorem aO.sound {G : aB} (hG : ∀ g x, G g = some x → aZ x = true) : ∀ k, Sound Tryd.prog G 53 (aO.f G k)
 | 0 => bC aO.here (fun _ _ => rfl)
 | k + 1 => bF (l := aO.env G k (aO.f G k)) (ann := aO.ann) (n := k) (aW hG (bI (aH.sound hG k) (bI (bK.sound hG k) cJ))) orders Tryd.func53 (by kernel_rfl) (by kernel_rfl) rfl (by kernel_rfl) (dF fun x0 h => aO.eq G k _ x0 h)
theorem aF.here : HrP Tryd.prog 54 := ⟨_, Tryd.func54, by kernel_rfl, by kernel_rfl⟩
theorem aF.eq (G : aB) (k : Nat) (self : bH) (x0 : AV) (h : aA) : cR Tryd.prog G (cY (aF.env G k self)) aF.ann Tryd.f54.results.toList (bY Tryd.f54) Tryd.f54.ntmps k [x0] h = aF.c G k self x0 h := by kernel_rfl
theorem aF.sound {G : aB} (hG : ∀ g x, G g = some x → aZ x = true) : ∀ k, Sound Tryd.prog G 54 (aF.f G k)
 | 0 => bC aF.here (fun _ _ => rfl)
 | k + 1 => bF (l := aF.env G k (aF.f G k)) (ann := aF.ann) (n := k) (aW hG cJ) orders Tryd.func54 (by kernel_rfl) (by kernel_rfl) rfl (by kernel_rfl) (dF fun x0 h => aF.eq G k _ x0 h)
theorem bN.here : HrP Tryd.prog 23 := ⟨_, Tryd.func23, by kernel_rfl, by kernel_rfl⟩
theorem bN.eq (G : aB) (k : Nat) (self : bH) (x0 : AV) (h : aA) : cR Tryd.prog G (cY (bN.env G k self)) bN.ann Tryd.f23.results.toList (bY Tryd.f23) Tryd.f23.ntmps k [x0] h = bN.c G k self x0 h := by kernel_rfl
theorem bN.sound {G : aB} (hG : ∀ g x, G g = some x → aZ x = true) : ∀ k, Sound Tryd.prog G 23 (bN.f G k)
 | 0 => bC bN.here (fun _ _ => rfl)
 | k + 1 => bF (l := bN.env G k (bN.f G k)) (ann := bN.ann) (n := k) (aW hG (bI (cB.sound hG k) (bI (aO.sound hG k) (bI (aF.sound hG k) cJ)))) orders Tryd.func23 (by kernel_rfl) (by kernel_rfl) rfl (by kernel_rfl) (dF fun x0 h => bN.eq G k _ x0 h)
theorem aJ.here : HrP Tryd.prog 11 := ⟨_, Tryd.func11, by kernel_rfl, by kernel_rfl⟩
theorem aJ.eq (G : aB) (k : Nat) (self : bH) (x0 x1 : AV) (h : aA) : cR Tryd.prog G (cY (aJ.env G k self)) aJ.ann Tryd.f11.results.toList (bY Tryd.f11) Tryd.f11.ntmps k [x0, x1] h = aJ.c G k self x0 x1 h := by kernel_rfl
theorem aJ.sound {G : aB} (hG : ∀ g x, G g = some x → aZ x = true) : ∀ k, Sound Tryd.prog G 11 (aJ.f G k)
 | 0 => bC aJ.here (fun _ _ => rfl)
 | k + 1 => bF (l := aJ.env G k (aJ.f G k)) (ann := aJ.ann) (n := k) (aW hG cJ) orders Tryd.func11 (by kernel_rfl) (by kernel_rfl) rfl (by kernel_rfl) (dX fun x0 x1 h => aJ.eq G k _ x0 x1 h)
theorem aN.here : HrP Tryd.prog 22 := ⟨_, Tryd.func22, by kernel_rfl, by kernel_rfl⟩
theorem aN.eq (G : aB) (k : Nat) (self : bH) (x0 x1 : AV) (h : aA) : cR Tryd.prog G (cY (aN.env G k self)) aN.ann Tryd.f22.results.toList (bY Tryd.f22) Tryd.f22.ntmps k [x0, x1] h = aN.c G k self x0 x1 h := by kernel_rfl
theorem aN.sound {G : aB} (hG : ∀ g x, G g = some x → aZ x = true) : ∀ k, Sound Tryd.prog G 22 (aN.f G k)
 | 0 => bC aN.here (fun _ _ => rfl)
 | k + 1 => bF (l := aN.env G k (aN.f G k)) (ann := aN.ann) (n := k) (aW hG cJ) orders Tryd.func22 (by kernel_rfl) (by kernel_rfl) rfl (by kernel_rfl) (dX fun x0 x1 h => aN.eq G k _ x0 x1 h)
theorem bV.here : HrP Tryd.prog 25 := ⟨_, Tryd.func25, by kernel_rfl, by kernel_rfl⟩
theorem bV.eq (G : aB) (k : Nat) (self : bH) (x0 x1 : AV) (h : aA) : cR Tryd.prog G (cY (bV.env G k self)) bV.ann Tryd.f25.results.toList (bY Tryd.f25) Tryd.f25.ntmps k [x0, x1] h = bV.c G k self x0 x1 h := by kernel_rfl
theorem bV.sound {G : aB} (hG : ∀ g x, G g = some x → aZ x = true) : ∀ k, Sound Tryd.prog G 25 (bV.f G k)
 | 0 => bC bV.here (fun _ _ => rfl)
 | k + 1 => bF (l := bV.env G k (bV.f G k)) (ann := bV.ann) (n := k) (aW hG (bI (aO.sound hG k) (bI (aF.sound hG k) cJ))) orders Tryd.func25 (by kernel_rfl) (by kernel_rfl) rfl (by kernel_rfl) (dX fun x0 x1 h => bV.eq G k _ x0 x1 h)
theorem cE.here : HrP Tryd.prog 59 := ⟨_, Tryd.func59, by kernel_rfl, by kernel_rfl⟩
theorem cE.eq (G : aB) (k : Nat) (self : bH) (x0 x1 x2 : AV) (h : aA) : cR Tryd.prog G (cY (cE.env G k self)) cE.ann Tryd.f59.results.toList (bY Tryd.f59) Tryd.f59.ntmps k [x0, x1, x2] h = cE.c G k self x0 x1 x2 h := by kernel_rfl
theorem cE.sound {G : aB} (hG : ∀ g x, G g = some x → aZ x = true) : ∀ k, Sound Tryd.prog G 59 (cE.f G k)
 | 0 => bC cE.here (fun _ _ => rfl)
 | k + 1 => bF (l := cE.env G k (cE.f G k)) (ann := cE.ann) (n := k) (aW hG cJ) orders Tryd.func59 (by kernel_rfl) (by kernel_rfl) rfl (by kernel_rfl) (pN fun x0 x1 x2 h => cE.eq G k _ x0 x1 x2 h)
theorem aP.here : HrP Tryd.prog 60 := ⟨_, Tryd.func60, by kernel_rfl, by kernel_rfl⟩
theorem aP.eq (G : aB) (k : Nat) (self : bH) (x0 : AV) (h : aA) : lP Tryd.prog G (cY (aP.env G k self)) aP.ann Tryd.f60.results.toList (bY Tryd.f60) Tryd.f60.ntmps k [x0] h = aP.c G k self x0 h := by kernel_rfl
theorem aP.sound {G : aB} (hG : ∀ g x, G g = some x → aZ x = true) : ∀ k, Sound Tryd.prog G 60 (aP.f G k)
 | 0 => bC aP.here (fun _ _ => rfl)
 | k + 1 => lC (l := aP.env G k (aP.f G k)) (ann := aP.ann) (n := k) (aW hG cJ) orders Tryd.func60 (by kernel_rfl) (by kernel_rfl) rfl (by kernel_rfl) (dF fun x0 h => aP.eq G k _ x0 h)
theorem bD.here : HrP Tryd.prog 29 := ⟨_, Tryd.func29, by kernel_rfl, by kernel_rfl⟩
theorem bD.eq (G : aB) (k : Nat) (self : bH) (x0 : AV) (h : aA) : cR Tryd.prog G (cY (bD.env G k self)) bD.ann Tryd.f29.results.toList (bY Tryd.f29) Tryd.f29.ntmps k [x0] h = bD.c G k self x0 h := by kernel_rfl
theorem bD.sound {G : aB} (hG : ∀ g x, G g = some x → aZ x = true) : ∀ k, Sound Tryd.prog G 29 (bD.f G k)
 | 0 => bC bD.here (fun _ _ => rfl)
 | k + 1 => bF (l := bD.env G k (bD.f G k)) (ann := bD.ann) (n := k) (aW hG (bI (bM.sound hG k) (bI (bN.sound hG k) (bI (bV.sound hG k) (bI (bP.sound hG k) (bI (cE.sound hG k) (bI (aP.sound hG k) cJ))))))) orders Tryd.func29 (by kernel_rfl) (by kernel_rfl) rfl (by kernel_rfl) (dF fun x0 h => bD.eq G k _ x0 h)
theorem aT.here : HrP Tryd.prog 18 := ⟨_, Tryd.func18, by kernel_rfl, by kernel_rfl⟩
theorem aT.eq (G : aB) (k : Nat) (self : bH) (h : aA) : cR Tryd.prog G (cY (aT.env G k self)) aT.ann Tryd.f18.results.toList (bY Tryd.f18) Tryd.f18.ntmps k [] h = aT.c G k self h := by kernel_rfl
theorem aT.sound {G : aB} (hG : ∀ g x, G g = some x → aZ x = true) : ∀ k, Sound Tryd.prog G 18 (aT.f G k)
 | 0 => bC aT.here (fun _ _ => rfl)
 | k + 1 => bF (l := aT.env G k (aT.f G k)) (ann := aT.ann) (n := k) (aW hG (bI (aN.sound hG k) (bI (bN.sound hG k) (bI (bD.sound hG k) cJ)))) orders Tryd.func18 (by kernel_rfl) (by kernel_rfl) rfl (by kernel_rfl) (wS fun h => aT.eq G k _ h)
theorem aV.here : HrP Tryd.prog 68 := ⟨_, Tryd.func68, by kernel_rfl, by kernel_rfl⟩
theorem aV.eq (G : aB) (k : Nat) (self : bH) (x0 : AV) (h : aA) : lP Tryd.prog G (cY (aV.env G k self)) aV.ann Tryd.f68.results.toList (bY Tryd.f68) Tryd.f68.ntmps k [x0] h = aV.c G k self x0 h := by kernel_rfl
theorem aV.sound {G : aB} (hG : ∀ g x, G g = some x → aZ x = true) : ∀ k, Sound Tryd.prog G 68 (aV.f G k)
 | 0 => bC aV.here (fun _ _ => rfl)
 | k + 1 => lC (l := aV.env G k (aV.f G k)) (ann := aV.ann) (n := k) (aW hG cJ) orders Tryd.func68 (by kernel_rfl) (by kernel_rfl) rfl (by kernel_rfl) (dF fun x0 h => aV.eq G k _ x0 h)
theorem bB.here : HrP Tryd.prog 37 := ⟨_, Tryd.func37, by kernel_rfl, by kernel_rfl⟩
theorem bB.eq (G : aB) (k : Nat) (self : bH) (x0 x1 : AV) (h : aA) : cR Tryd.prog G (cY (bB.env G k self)) bB.ann Tryd.f37.results.toList (bY Tryd.f37) Tryd.f37.ntmps k [x0, x1] h = bB.c G k self x0 x1 h := by kernel_rfl
theorem bB.sound {G : aB} (hG : ∀ g x, G g = some x → aZ x = true) : ∀ k, Sound Tryd.prog G 37 (bB.f G k)
 | 0 => bC bB.here (fun _ _ => rfl)
 | k + 1 => bF (l := bB.env G k (bB.f G k)) (ann := bB.ann) (n := k) (aW hG (bI (aV.sound hG k) cJ)) orders Tryd.func37 (by kernel_rfl) (by kernel_rfl) rfl (by kernel_rfl) (dX fun x0 x1 h => bB.eq G k _ x0 x1 h)
theorem cD.here : HrP Tryd.prog 30 := ⟨_, Tryd.func30, by kernel_rfl, by kernel_rfl⟩
theorem cD.eq (G : aB) (k : Nat) (self : bH) (x0 : AV) (h : aA) : cR Tryd.prog G (cY (cD.env G k self)) cD.ann Tryd.f30.results.toList (bY Tryd.f30) Tryd.f30.ntmps k [x0] h = cD.c G k self x0 h := by kernel_rfl
theorem cD.sound {G : aB} (hG : ∀ g x, G g = some x → aZ x = true) : ∀ k, Sound Tryd.prog G 30 (cD.f G k)
 | 0 => bC cD.here (fun _ _ => rfl)
 | k + 1 => bF (l := cD.env G k (cD.f G k)) (ann := cD.ann) (n := k) (aW hG (bI (bD.sound hG k) cJ)) orders Tryd.func30 (by kernel_rfl) (by kernel_rfl) rfl (by kernel_rfl) (dF fun x0 h => cD.eq G k _ x0 h)
theorem aM.here : HrP Tryd.prog 90 := ⟨_, Tryd.func90, by kernel_rfl, by kernel_rfl⟩
theorem aM.eq (G : aB) (k : Nat) (self : bH) (x0 x1 : AV) (h : aA) : cR Tryd.prog G (cY (aM.env G k self)) aM.ann Tryd.f90.results.toList (bY Tryd.f90) Tryd.f90.ntmps k [x0, x1] h = aM.c G k self x0 x1 h := by kernel_rfl
theorem aM.sound {G : aB} (hG : ∀ g x, G g = some x → aZ x = true) : ∀ k, Sound Tryd.prog G 90 (aM.f G k)
 | 0 => bC aM.here (fun _ _ => rfl)
 | k + 1 => bF (l := aM.env G k (aM.f G k)) (ann := aM.ann) (n := k) (aW hG cJ) orders Tryd.func90 (by kernel_rfl) (by kernel_rfl) rfl (by kernel_rfl) (dX fun x0 x1 h => aM.eq G k _ x0 x1 h)
theorem aK.here : HrP Tryd.prog 63 := ⟨_, Tryd.func63, by kernel_rfl, by kernel_rfl⟩
theorem aK.eq (G : aB) (k : Nat) (self : bH) (x0 x1 : AV) (h : aA) : cR Tryd.prog G (cY (aK.env G k self)) aK.ann Tryd.f63.results.toList (bY Tryd.f63) Tryd.f63.ntmps k [x0, x1] h = aK.c G k self x0 x1 h := by kernel_rfl
theorem aK.sound {G : aB} (hG : ∀ g x, G g = some x → aZ x = true) : ∀ k, Sound Tryd.prog G 63 (aK.f G k)
 | 0 => bC aK.here (fun _ _ => rfl)
 | k + 1 => bF (l := aK.env G k (aK.f G k)) (ann := aK.ann) (n := k) (aW hG (bI (aM.sound hG k) cJ)) orders Tryd.func63 (by kernel_rfl) (by kernel_rfl) rfl (by kernel_rfl) (dX fun x0 x1 h => aK.eq G k _ x0 x1 h)
theorem bQ.here : HrP Tryd.prog 62 := ⟨_, Tryd.func62, by kernel_rfl, by kernel_rfl⟩
theorem bQ.eq (G : aB) (k : Nat) (self : bH) (x0 x1 x2 : AV) (h : aA) : cR Tryd.prog G (cY (bQ.env G k self)) bQ.ann Tryd.f62.results.toList (bY Tryd.f62) Tryd.f62.ntmps k [x0, x1, x2] h = bQ.c G k self x0 x1 x2 h := by kernel_rfl
theorem bQ.sound {G : aB} (hG : ∀ g x, G g = some x → aZ x = true) : ∀ k, Sound Tryd.prog G 62 (bQ.f G k)
 | 0 => bC bQ.here (fun _ _ => rfl)
 | k + 1 => bF (l := bQ.env G k (bQ.f G k)) (ann := bQ.ann) (n := k) (aW hG (bI (aK.sound hG k) cJ)) orders Tryd.func62 (by kernel_rfl) (by kernel_rfl) rfl (by kernel_rfl) (pN fun x0 x1 x2 h => bQ.eq G k _ x0 x1 x2 h)
theorem aG.here : HrP Tryd.prog 89 := ⟨_, Tryd.func89, by kernel_rfl, by kernel_rfl⟩
theorem aG.eq (G : aB) (k : Nat) (self : bH) (x0 x1 : AV) (h : aA) : cR Tryd.prog G (cY (aG.env G k self)) aG.ann Tryd.f89.results.toList (bY Tryd.f89) Tryd.f89.ntmps k [x0, x1] h = aG.c G k self x0 x1 h := by kernel_rfl
theorem aG.sound {G : aB} (hG : ∀ g x, G g = some x → aZ x = true) : ∀ k, Sound Tryd.prog G 89 (aG.f G k)
 | 0 => bC aG.here (fun _ _ => rfl)
 | k + 1 => bF (l := aG.env G k (aG.f G k)) (ann := aG.ann) (n := k) (aW hG (bI (bQ.sound hG k) cJ)) orders Tryd.func89 (by kernel_rfl) (by kernel_rfl) rfl (by kernel_rfl) (dX fun x0 x1 h => aG.eq G k _ x0 x1 h)
theorem aI.here : HrP Tryd.prog 61 := ⟨_, Tryd.func61, by kernel_rfl, by kernel_rfl⟩
theorem aI.eq (G : aB) (k : Nat) (self : bH) (x0 x1 : AV) (h : aA) : cR Tryd.prog G (cY (aI.env G k self)) aI.ann Tryd.f61.results.toList (bY Tryd.f61) Tryd.f61.ntmps k [x0, x1] h = aI.c G k self x0 x1 h := by kernel_rfl
theorem aI.sound {G : aB} (hG : ∀ g x, G g = some x → aZ x = true) : ∀ k, Sound Tryd.prog G 61 (aI.f G k)
 | 0 => bC aI.here (fun _ _ => rfl)
 | k + 1 => bF (l := aI.env G k (aI.f G k)) (ann := aI.ann) (n := k) (aW hG (bI (aG.sound hG k) cJ)) orders Tryd.func61 (by kernel_rfl) (by kernel_rfl) rfl (by kernel_rfl) (dX fun x0 x1 h => aI.eq G k _ x0 x1 h)
theorem cC.here : HrP Tryd.prog 31 := ⟨_, Tryd.func31, by kernel_rfl, by kernel_rfl⟩
theorem cC.eq (G : aB) (k : Nat) (self : bH) (x0 : AV) (h : aA) : cR Tryd.prog G (cY (cC.env G k self)) cC.ann Tryd.f31.results.toList (bY Tryd.f31) Tryd.f31.ntmps k [x0] h = cC.c G k self x0 h := by kernel_rfl
theorem cC.sound {G : aB} (hG : ∀ g x, G g = some x → aZ x = true) : ∀ k, Sound Tryd.prog G 31 (cC.f G k)
 | 0 => bC cC.here (fun _ _ => rfl)
 | k + 1 => bF (l := cC.env G k (cC.f G k)) (ann := cC.ann) (n := k) (aW hG (bI (bM.sound hG k) (bI (bV.sound hG k) (bI (bD.sound hG k) (bI (aI.sound hG k) (bI (bQ.sound hG k) cJ)))))) orders Tryd.func31 (by kernel_rfl) (by kernel_rfl) rfl (by kernel_rfl) (dF fun x0 h => cC.eq G k _ x0 h)
theorem alembiclaw20_LiveChain.here : HrP Tryd.prog 5 := ⟨_, Tryd.func5, by kernel_rfl, by kernel_rfl⟩
theorem alembiclaw20_LiveChain.eq (G : aB) (k : Nat) (self : bH) (x0 x1 : AV) (h : aA) : cR Tryd.prog G (cY (alembiclaw20_LiveChain.env G k self)) alembiclaw20_LiveChain.ann Tryd.f5.results.toList (bY Tryd.f5) Tryd.f5.ntmps k [x0, x1] h = alembiclaw20_LiveChain.c G k self x0 x1 h := by kernel_rfl
theorem alembiclaw20_LiveChain.sound {G : aB} (hG : ∀ g x, G g = some x → aZ x = true) : ∀ k, Sound Tryd.prog G 5 (alembiclaw20_LiveChain.f G k)
 | 0 => bC alembiclaw20_LiveChain.here (fun _ _ => rfl)
 | k + 1 => bF (l := alembiclaw20_LiveChain.env G k (alembiclaw20_LiveChain.f G k)) (ann := alembiclaw20_LiveChain.ann) (n := k) (aW hG (bI (aJ.sound hG k) (bI (aT.sound hG k) (bI (aN.sound hG k) (bI (bD.sound hG k) (bI (cD.sound hG k) (bI (cC.sound hG k) (bI (bB.sound hG k) cJ)))))))) orders Tryd.func5 (by kernel_rfl) (by kernel_rfl) rfl (by kernel_rfl) (dX fun x0 x1 h => alembiclaw20_LiveChain.eq G k _ x0 x1 h)
end Go.Proofs.YtlkgkfgkiidhdaaDoor.Mir
