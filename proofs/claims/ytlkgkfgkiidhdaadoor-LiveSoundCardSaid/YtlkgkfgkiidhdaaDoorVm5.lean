/- Part 5 of the proof: the functions that the statement reaches, and their contracts. -/
import Derived.Test.YtlkgkfgkiidhdaaDoorVm4
import Derived.Test.YtlkgkfgkiidhdaaDoorProg
namespace Go.Proofs.YtlkgkfgkiidhdaaDoor.Mir
open Go
set_option linter.unusedVariables false
noncomputable def dQ.ann : Ann := gB [] [] [] []
noncomputable def dQ.env (G : aE) (k : Nat) (self : cU) : List (Nat × Bool × cU) := []
noncomputable def dQ.c (G : aE) (k : Nat) (self : cU) (x0 : AV) (h : aA) : Option (AV × aA) := fH (
 aG (pu h (aS Tryd.prog .eql 3 true x0 (.int .i64 3))) fun v0 h0 =>
 aT v0
 (cQ [(.str ⟨#[97, 100, 100]⟩)] h.length h0)
 (aG (pu h0 (aS Tryd.prog .eql 3 true x0 (.int .i64 4))) fun v1 h1 =>
 aT v1
 (cQ [(.str ⟨#[115, 117, 98]⟩)] h.length h1)
 (aG (pu h1 (aS Tryd.prog .eql 3 true x0 (.int .i64 5))) fun v2 h2 =>
 aT v2
 (cQ [(.str ⟨#[109, 117, 108]⟩)] h.length h2)
 (aG (pu h2 (aS Tryd.prog .eql 3 true x0 (.int .i64 6))) fun v3 h3 =>
 aT v3
 (cQ [(.str ⟨#[104, 105, 103, 104]⟩)] h.length h3)
 (aG (pu h3 (aS Tryd.prog .eql 3 true x0 (.int .i64 7))) fun v4 h4 =>
 aT v4
 (cQ [(.str ⟨#[97, 110, 100]⟩)] h.length h4)
 (aG (pu h4 (aS Tryd.prog .eql 3 true x0 (.int .i64 8))) fun v5 h5 =>
 aT v5
 (cQ [(.str ⟨#[111, 114]⟩)] h.length h5)
 (aG (pu h5 (aS Tryd.prog .eql 3 true x0 (.int .i64 9))) fun v6 h6 =>
 aT v6
 (cQ [(.str ⟨#[120, 111, 114]⟩)] h.length h6)
 (aG (pu h6 (aS Tryd.prog .eql 3 true x0 (.int .i64 13))) fun v7 h7 =>
 aT v7
 (cQ [(.str ⟨#[108, 101, 115, 115]⟩)] h.length h7)
 (aG (pu h7 (aS Tryd.prog .eql 3 true x0 (.int .i64 10))) fun v8 h8 =>
 aT v8
 (cQ [(.str ⟨#[115, 104, 108]⟩)] h.length h8)
 (aG (pu h8 (aS Tryd.prog .eql 3 true x0 (.int .i64 11))) fun v9 h9 =>
 aT v9
 (cQ [(.str ⟨#[115, 104, 114]⟩)] h.length h9)
 (aG (pu h9 (aS Tryd.prog .eql 3 true x0 (.int .i64 12))) fun v10 h10 =>
 aT v10
 (cQ [(.str ⟨#[115, 97, 114]⟩)] h.length h10)
 (aG (pu h10 (aS Tryd.prog .eql 3 true x0 (.int .i64 15))) fun v11 h11 =>
 aT v11
 (cQ [(.str ⟨#[108, 100]⟩)] h.length h11)
 (aG (pu h11 (aS Tryd.prog .eql 3 true x0 (.int .i64 17))) fun v12 h12 =>
 aT v12
 (cQ [(.str ⟨#[98, 114]⟩)] h.length h12)
 (aG (pu h12 (aS Tryd.prog .eql 3 true x0 (.int .i64 20))) fun v13 h13 =>
 aT v13
 (cQ [(.str ⟨#[104, 97, 108, 116]⟩)] h.length h13)
 (aG (pu h13 (aS Tryd.prog .eql 3 true x0 (.int .i64 18))) fun v14 h14 =>
 aT v14
 (cQ [(.str ⟨#[98, 122]⟩)] h.length h14)
 (cQ [(.str ⟨#[98, 110, 122]⟩)] h.length h14))))))))))))))))
noncomputable def dQ.f (G : aE) : Nat → cU
 | 0 => fun _ _ => none
 | k + 1 => fun args h => oA args fun x0 => (dQ.c G k (dQ.f G k) x0 h)
noncomputable def dF.ann : Ann := gB [] [] [] [(30, [2, 3]), (29, [0, 2, 43]), (26, [0, 2, 4, 37]), (19, [0, 2, 4, 23]), (14, [0, 2, 4, 11])]
noncomputable def dF.env (G : aE) (k : Nat) (self : cU) : List (Nat × Bool × cU) := [(86, true, dQ.f G k)]
noncomputable def dF.c (G : aE) (k : Nat) (self : cU) (x0 : AV) (h : aA) : Option (AV × aA) := fH (
 aG (eM 100 (.agg [(.str ⟨#[]⟩), (.bool false), (.bool false), (.bool false), (.bool false), (.bool false)]) h) fun v0 h0 =>
 dO (
 aG (pu h0 (aS Tryd.prog .eql 3 true x0 (.int .i64 1))) fun v1 h1 =>
 aT v1
 (aG (pu h1 (cA [(0, 1), (1, 1), (2, 1), (3, 1), (4, 1), (5, 1)] [(.str ⟨#[]⟩), (.bool false), (.bool false), (.bool false), (.bool false), (.bool false)] [(0, (.str ⟨#[99, 111, 110, 115, 116]⟩)), (1, (.bool true)), (5, (.bool true))])) fun v2 h2 =>
 aG (fP (aO 6 v0 v2 h2)) fun v3 h3 =>
 some (.ret, [v0, (.bool true)], h3))
 (aG (pu h1 (aS Tryd.prog .eql 3 true x0 (.int .i64 2))) fun v4 h4 =>
 aT v4
 (aG (pu h4 (cA [(0, 1), (1, 1), (2, 1), (3, 1), (4, 1), (5, 1)] [(.str ⟨#[]⟩), (.bool false), (.bool false), (.bool false), (.bool false), (.bool false)] [(0, (.str ⟨#[109, 111, 118]⟩)), (1, (.bool true)), (2, (.bool true))])) fun v5 h5 =>
 aG (fP (aO 6 v0 v5 h5)) fun v6 h6 =>
 some (.ret, [v0, (.bool true)], h6))
 (dO (
 aG (pu h4 (aS Tryd.prog .eql 3 true x0 (.int .i64 3))) fun v7 h7 =>
 aT v7
 (some (.normal, [x0, v0, x0, v7], h7))
 (aG (pu h7 (aS Tryd.prog .eql 3 true x0 (.int .i64 4))) fun v8 h8 =>
 aT v8
 (some (.normal, [x0, v0, x0, v8], h8))
 (aG (pu h8 (aS Tryd.prog .eql 3 true x0 (.int .i64 5))) fun v9 h9 =>
 aT v9
 (some (.normal, [x0, v0, x0, v9], h9))
 (aG (pu h9 (aS Tryd.prog .eql 3 true x0 (.int .i64 6))) fun v10 h10 =>
 aT v10
 (some (.normal, [x0, v0, x0, v10], h10))
 (aG (pu h10 (aS Tryd.prog .eql 3 true x0 (.int .i64 7))) fun v11 h11 =>
 aT v11
 (some (.normal, [x0, v0, x0, v11], h11))
 (aG (pu h11 (aS Tryd.prog .eql 3 true x0 (.int .i64 8))) fun v12 h12 =>
 aT v12
 (some (.normal, [x0, v0, x0, v12], h12))
 (aG (pu h12 (aS Tryd.prog .eql 3 true x0 (.int .i64 9))) fun v13 h13 =>
 aT v13
 (some (.normal, [x0, v0, x0, v13], h13))
 (aG (pu h13 (aS Tryd.prog .eql 3 true x0 (.int .i64 13))) fun v14 h14 =>
 some (.normal, [x0, v0, x0, v14], h14))))))))) fun e15 x15 h15 => iL e15
 (aT (aF x15 3)
 (aG (aX (dQ.f G k) [(aF x15 0)] h15) fun v16 h16 =>
 aG (pu h16 (cA [(0, 1), (1, 1), (2, 1), (3, 1), (4, 1), (5, 1)] [(.str ⟨#[]⟩), (.bool false), (.bool false), (.bool false), (.bool false), (.bool false)] [(0, v16), (1, (.bool true)), (2, (.bool true)), (3, (.bool true))])) fun v17 h17 =>
 aG (fP (aO 6 (aF x15 1) v17 h17)) fun v18 h18 =>
 some (.ret, [(aF x15 1), (.bool true)], h18))
 (dO (
 aG (pu h15 (aS Tryd.prog .eql 3 true (aF x15 2) (.int .i64 10))) fun v19 h19 =>
 aT v19
 (some (.normal, [(aF x15 0), (aF x15 1), (aF x15 2), v19], h19))
 (aG (pu h19 (aS Tryd.prog .eql 3 true (aF x15 2) (.int .i64 11))) fun v20 h20 =>
 aT v20
 (some (.normal, [(aF x15 0), (aF x15 1), (aF x15 2), v20], h20))
 (aG (pu h20 (aS Tryd.prog .eql 3 true (aF x15 2) (.int .i64 12))) fun v21 h21 =>
 aT v21
 (some (.normal, [(aF x15 0), (aF x15 1), (aF x15 2), v21], h21))
 (aG (pu h21 (aS Tryd.prog .eql 3 true (aF x15 2) (.int .i64 15))) fun v22 h22 =>
 some (.normal, [(aF x15 0), (aF x15 1), (aF x15 2), v22], h22))))) fun e23 x23 h23 => iL e23
 (aT (aF x23 3)
 (aG (aX (dQ.f G k) [(aF x23 0)] h23) fun v24 h24 =>
 aG (pu h24 (cA [(0, 1), (1, 1), (2, 1), (3, 1), (4, 1), (5, 1)] [(.str ⟨#[]⟩), (.bool false), (.bool false), (.bool false), (.bool false), (.bool false)] [(0, v24), (1, (.bool true)), (2, (.bool true)), (5, (.bool true))])) fun v25 h25 =>
 aG (fP (aO 6 (aF x23 1) v25 h25)) fun v26 h26 =>
 some (.ret, [(aF x23 1), (.bool true)], h26))
 (aG (pu h23 (aS Tryd.prog .eql 3 true (aF x23 2) (.int .i64 14))) fun v27 h27 =>
 aT v27
 (aG (pu h27 (cA [(0, 1), (1, 1), (2, 1), (3, 1), (4, 1), (5, 1)] [(.str ⟨#[]⟩), (.bool false), (.bool false), (.bool false), (.bool false), (.bool false)] [(0, (.str ⟨#[115, 101, 108]⟩)), (1, (.bool true)), (2, (.bool true)), (3, (.bool true)), (4, (.bool true))])) fun v28 h28 =>
 aG (fP (aO 6 (aF x23 1) v28 h28)) fun v29 h29 =>
 some (.ret, [(aF x23 1), (.bool true)], h29))
 (aG (pu h27 (aS Tryd.prog .eql 3 true (aF x23 2) (.int .i64 16))) fun v30 h30 =>
 aT v30
 (aG (pu h30 (cA [(0, 1), (1, 1), (2, 1), (3, 1), (4, 1), (5, 1)] [(.str ⟨#[]⟩), (.bool false), (.bool false), (.bool false), (.bool false), (.bool false)] [(0, (.str ⟨#[115, 116]⟩)), (2, (.bool true)), (3, (.bool true)), (5, (.bool true))])) fun v31 h31 =>
 aG (fP (aO 6 (aF x23 1) v31 h31)) fun v32 h32 =>
 some (.ret, [(aF x23 1), (.bool true)], h32))
 (dO (
 aG (pu h30 (aS Tryd.prog .eql 3 true (aF x23 2) (.int .i64 17))) fun v33 h33 =>
 aT v33
 (some (.normal, [(aF x23 0), (aF x23 1), (aF x23 2), v33], h33))
 (aG (pu h33 (aS Tryd.prog .eql 3 true (aF x23 2) (.int .i64 20))) fun v34 h34 =>
 some (.normal, [(aF x23 0), (aF x23 1), (aF x23 2), v34], h34))) fun e35 x35 h35 => iL e35
 (aT (aF x35 3)
 (aG (aX (dQ.f G k) [(aF x35 0)] h35) fun v36 h36 =>
 aG (pu h36 (cA [(0, 1), (1, 1), (2, 1), (3, 1), (4, 1), (5, 1)] [(.str ⟨#[]⟩), (.bool false), (.bool false), (.bool false), (.bool false), (.bool false)] [(0, v36), (5, (.bool true))])) fun v37 h37 =>
 aG (fP (aO 6 (aF x35 1) v37 h37)) fun v38 h38 =>
 some (.ret, [(aF x35 1), (.bool true)], h38))
 (dO (
 aG (pu h35 (aS Tryd.prog .eql 3 true (aF x35 2) (.int .i64 18))) fun v39 h39 =>
 aT v39
 (some (.normal, [(aF x35 0), (aF x35 1), v39], h39))
 (aG (pu h39 (aS Tryd.prog .eql 3 true (aF x35 2) (.int .i64 19))) fun v40 h40 =>
 some (.normal, [(aF x35 0), (aF x35 1), v40], h40))) fun e41 x41 h41 => iL e41
 (aT (aF x41 2)
 (aG (aX (dQ.f G k) [(aF x41 0)] h41) fun v42 h42 =>
 aG (pu h42 (cA [(0, 1), (1, 1), (2, 1), (3, 1), (4, 1), (5, 1)] [(.str ⟨#[]⟩), (.bool false), (.bool false), (.bool false), (.bool false), (.bool false)] [(0, v42), (2, (.bool true)), (5, (.bool true))])) fun v43 h43 =>
 aG (fP (aO 6 (aF x41 1) v43 h43)) fun v44 h44 =>
 some (.ret, [(aF x41 1), (.bool true)], h44))
 (some (.normal, [(aF x41 1), .undef], h41)))
 (fun i41 => if i41 = 0 then (some (.normal, [(aF x41 1), .undef], h41)) else (some (.exit i41, [(aF x41 1), .undef], h41)))
 (some (.ret, [(aF x41 1), .undef], h41))))
 (fun i35 => if i35 = 0 then (some (.normal, [(aF x35 1), .undef], h35)) else (some (.exit i35, [(aF x35 1), .undef], h35)))
 (some (.ret, [(aF x35 1), .undef], h35))))))
 (fun i23 => if i23 = 0 then (some (.normal, [(aF x23 1), .undef], h23)) else (some (.exit i23, [(aF x23 1), .undef], h23)))
 (some (.ret, [(aF x23 1), .undef], h23))))
 (fun i15 => if i15 = 0 then (some (.normal, [(aF x15 1), .undef], h15)) else (some (.exit i15, [(aF x15 1), .undef], h15)))
 (some (.ret, [(aF x15 1), .undef], h15))))) fun e45 x45 h45 => iL e45
 (aG (pu h45 (cA [(0, 1), (1, 1), (2, 1), (3, 1), (4, 1), (5, 1)] [(.str ⟨#[]⟩), (.bool false), (.bool false), (.bool false), (.bool false), (.bool false)] [(0, (.str ⟨#[110, 111, 110, 101]⟩))])) fun v46 h46 =>
 aG (fP (aO 6 (aF x45 0) v46 h46)) fun v47 h47 =>
 wI [aI G true 6 (aF x45 0) h47, some (.bool false)] h.length h47)
 (fun i45 => none)
 (wI [aI G true 6 (aF x45 0) h45, some (aF x45 1)] h.length h45))
noncomputable def dF.f (G : aE) : Nat → cU
 | 0 => fun _ _ => none
 | k + 1 => fun args h => oA args fun x0 => (dF.c G k (dF.f G k) x0 h)
theorem dF.step (G : aE) (k : Nat) (x0 : AV) (h : aA) : dF.f G (k + 1) [x0] h = dF.c G k (dF.f G k) x0 h := rfl
noncomputable def eQ.ann : Ann := gB [] [] [] []
noncomputable def eQ.env (G : aE) (k : Nat) (self : cU) : List (Nat × Bool × cU) := []
noncomputable def eQ.c (G : aE) (k : Nat) (self : cU) (x0 x1 : AV) (h : aA) : Option (AV × aA) := fH (
 aG (cN x0 h) fun v0 h0 =>
 aG (cN x1 h0) fun v1 h1 =>
 aG (pu h1 (aB 1 v1)) fun v2 h2 =>
 aG (pu h2 (aI G false 1 v2 h2)) fun v3 h3 =>
 aG (pu h3 (aB 2 v1)) fun v4 h4 =>
 aG (pu h4 (aI G false 1 v4 h4)) fun v5 h5 =>
 aG (pu h5 (aB 3 v1)) fun v6 h6 =>
 aG (pu h6 (aI G false 1 v6 h6)) fun v7 h7 =>
 aG (pu h7 (aB 4 v1)) fun v8 h8 =>
 aG (pu h8 (aI G false 1 v8 h8)) fun v9 h9 =>
 aG (pu h9 (aB 5 v1)) fun v10 h10 =>
 aG (pu h10 (aI G false 1 v10 h10)) fun v11 h11 =>
 aG (bC 1 5 (.bool false) [(0, v3), (1, v5), (2, v7), (3, v9), (4, v11)] h11) fun v12 h12 =>
 aG (pu h12 (aB 1 v0)) fun v13 h13 =>
 aG (pu h13 (aI G false 1 v13 h13)) fun v14 h14 =>
 aG (pu h14 (aB 2 v0)) fun v15 h15 =>
 aG (pu h15 (aI G false 1 v15 h15)) fun v16 h16 =>
 aG (pu h16 (aB 3 v0)) fun v17 h17 =>
 aG (pu h17 (aI G false 1 v17 h17)) fun v18 h18 =>
 aG (pu h18 (aB 4 v0)) fun v19 h19 =>
 aG (pu h19 (aI G false 1 v19 h19)) fun v20 h20 =>
 aG (pu h20 (aB 5 v0)) fun v21 h21 =>
 aG (pu h21 (aI G false 1 v21 h21)) fun v22 h22 =>
 aG (bC 1 5 (.int .i64 0) [(0, v14), (1, v16), (2, v18), (3, v20), (4, v22)] h22) fun v23 h23 =>
 cQ [v12, v23] h.length h23)
noncomputable def eQ.f (G : aE) : Nat → cU
 | 0 => fun _ _ => none
 | k + 1 => fun args h => rM args fun x0 x1 => (eQ.c G k (eQ.f G k) x0 x1 h)
noncomputable def bZ.ann : Ann := gB [] [] [(12, [2, 3, 4, 8, 53, 54, 55]), (6, [2, 3, 4, 7, 8, 28])] [(33, [3, 4, 12]), (31, [2, 3, 12, 82]), (27, [2, 3, 12, 72, 79]), (22, [2, 3, 12, 72, 73])]
noncomputable def bZ.env (G : aE) (k : Nat) (self : cU) : List (Nat × Bool × cU) := [(51, true, dF.f G k), (95, true, eQ.f G k)]
noncomputable def bZ.l6 (G : aE) (k n0 : Nat) (self : cU) (lp : eH) : eH := fun xs h0 => jH n0 xs h0 fun h =>
 aG (pu h (aS Tryd.prog .lss 3 true (aF xs 5) (.int .i64 4))) fun v17 h17 =>
 aT v17
 (aG (pu h17 (aH 1 (aF xs 3) (aF xs 5))) fun v18 h18 =>
 aG (pu h18 (aI G false 1 v18 h18)) fun v19 h19 =>
 aG (gd v19 true h19 (some ((aF xs 4), h19))) fun v20 h20 =>
 aG (gd v19 true h20 (some ((aF xs 5), h20))) fun v21 h21 =>
 aG (gd v19 true h21 (pu h21 (aH 1 v20 v21))) fun v22 h22 =>
 aG (gd v19 true h22 (pu h22 (aI G false 1 v22 h22))) fun v23 h23 =>
 aG (gd v19 true h23 (pu h23 (aS Tryd.prog .lss 2 true v23 (.int .i64 0)))) fun v24 h24 =>
 aG (gd v19 true h24 (some (v24, h24))) fun v25 h25 =>
 aG (gd v25 false h25 (some ((aF xs 4), h25))) fun v26 h26 =>
 aG (gd v25 false h26 (some ((aF xs 5), h26))) fun v27 h27 =>
 aG (gd v25 false h27 (pu h27 (aH 1 v26 v27))) fun v28 h28 =>
 aG (gd v25 false h28 (pu h28 (aI G false 1 v28 h28))) fun v29 h29 =>
 aG (gd v25 false h29 (pu h29 (aB 1 (aF xs 0)))) fun v30 h30 =>
 aG (gd v25 false h30 (pu h30 (aI G false 1 v30 h30))) fun v31 h31 =>
 aG (gd v25 false h31 (pu h31 (aS Tryd.prog .geq 2 false v29 v31))) fun v32 h32 =>
 aG (gd v19 true h32 (pu h32 (fJ v25 (.bool true) v32))) fun v33 h33 =>
 aG (pu h33 (fJ v19 v33 (.bool false))) fun v34 h34 =>
 aT v34
 (aG (pu h34 (aI G false 1 (.gl 0) h34)) fun v35 h35 =>
 some (.ret, [(aF xs 0), (aF xs 1), v35, (aF xs 3), (aF xs 4), (aF xs 5)], h35))
 (aG (pu h34 (aS Tryd.prog .add 3 true (aF xs 5) (.int .i64 1))) fun v36 h36 =>
 lp [(aF xs 0), (aF xs 1), (aF xs 2), (aF xs 3), (aF xs 4), v36] h36))
 (some (.exit 0, [(aF xs 0), (aF xs 1), (aF xs 2), (aF xs 3), (aF xs 4), (aF xs 5)], h17))
noncomputable def bZ.l12 (G : aE) (k n0 : Nat) (self : cU) (lp : eH) : eH := fun xs h0 => jH n0 xs h0 fun h =>
 aG (pu h (aS Tryd.prog .lss 3 false (aF xs 6) (aF xs 5))) fun v39 h39 =>
 aT v39
 (aG (pu h39 (aH 1 (aF xs 4) (aF xs 6))) fun v40 h40 =>
 aG (pu h40 (aI G false 1 v40 h40)) fun v41 h41 =>
 aG (pu h41 (un .not v41)) fun v42 h42 =>
 aG (gd v42 true h42 (some ((aF xs 3), h42))) fun v43 h43 =>
 aG (gd v42 true h43 (some ((aF xs 6), h43))) fun v44 h44 =>
 aG (gd v42 true h44 (pu h44 (aH 1 v43 v44))) fun v45 h45 =>
 aG (gd v42 true h45 (pu h45 (aI G false 1 v45 h45))) fun v46 h46 =>
 aG (gd v42 true h46 (pu h46 (aS Tryd.prog .neq 2 true v46 (.int .i64 0)))) fun v47 h47 =>
 aG (pu h47 (fJ v42 v47 (.bool false))) fun v48 h48 =>
 aT v48
 (aG (pu h48 (aI G false 1 (.gl 4) h48)) fun v49 h49 =>
 some (.ret, [(aF xs 0), (aF xs 1), v49, (aF xs 3), (aF xs 4), (aF xs 5), (aF xs 6)], h49))
 (aG (pu h48 (aS Tryd.prog .add 3 true (aF xs 6) (.int .i64 1))) fun v50 h50 =>
 lp [(aF xs 0), (aF xs 1), (aF xs 2), (aF xs 3), (aF xs 4), (aF xs 5), v50] h50))
 (some (.exit 2, [(aF xs 0), (aF xs 1), (aF xs 2), (aF xs 3), (aF xs 4), (aF xs 5), (aF xs 6)], h39))
noncomputable def bZ.c (G : aE) (k : Nat) (self : cU) (x0 x1 : AV) (h : aA) : Option (AV × aA) := fH (
 aG (cN x0 h) fun v0 h0 =>
 aG (cN x1 h0) fun v1 h1 =>
 aG (pu h1 (aB 0 v1)) fun v2 h2 =>
 aG (pu h2 (aI G false 1 v2 h2)) fun v3 h3 =>
 aG (aX (dF.f G k) [v3] h3) fun v4 h4 =>
 aG (pu h4 (aW v4 0)) fun v5 h5 =>
 aG (pu h5 (aW v4 1)) fun v6 h6 =>
 aG (eM 100 (.agg [(.str ⟨#[]⟩), (.bool false), (.bool false), (.bool false), (.bool false), (.bool false)]) h6) fun v7 h7 =>
 aG (fP (aO 6 v7 v5 h7)) fun v8 h8 =>
 aG (pu h8 (un .not v6)) fun v9 h9 =>
 aT v9
 (aG (pu h9 (aI G false 1 (.gl 3) h9)) fun v10 h10 =>
 cQ [v10] h.length h10)
 (aG (pu h9 (aI G true 6 v1 h9)) fun v11 h11 =>
 aG (pu h11 (aI G true 6 v7 h11)) fun v12 h12 =>
 aG (aX (eQ.f G k) [v11, v12] h12) fun v13 h13 =>
 aG (pu h13 (aW v13 0)) fun v14 h14 =>
 aG (pu h14 (aW v13 1)) fun v15 h15 =>
 dO (cM (bZ.l6 G k h15.length self) k [v0, v1, .nili, v14, v15, (.int .i64 0)] h15) fun e16 x16 h16 => iL e16
 (none)
 (fun i16 => if i16 = 0 then (aG (pu h16 (aY (aF x16 3))) fun v37 h37 =>
 dO (cM (bZ.l12 G k h37.length self) k [(aF x16 0), (aF x16 1), (aF x16 2), (aF x16 4), (aF x16 3), v37, (.int .i64 0)] h37) fun e38 x38 h38 => iL e38
 (none)
 (fun i38 => if i38 = 2 then (dO (
 aG (pu h38 (aB 0 (aF x38 1))) fun v51 h51 =>
 aG (pu h51 (aI G false 1 v51 h51)) fun v52 h52 =>
 dO (
 aG (pu h52 (aS Tryd.prog .eql 3 true v52 (.int .i64 10))) fun v53 h53 =>
 aT v53
 (some (.normal, [(aF x38 0), (aF x38 1), (.int .i64 (-1)), v52, v53], h53))
 (aG (pu h53 (aS Tryd.prog .eql 3 true v52 (.int .i64 11))) fun v54 h54 =>
 aT v54
 (some (.normal, [(aF x38 0), (aF x38 1), (.int .i64 (-1)), v52, v54], h54))
 (aG (pu h54 (aS Tryd.prog .eql 3 true v52 (.int .i64 12))) fun v55 h55 =>
 some (.normal, [(aF x38 0), (aF x38 1), (.int .i64 (-1)), v52, v55], h55)))) fun e56 x56 h56 => iL e56
 (aT (aF x56 4)
 (some (.normal, [(aF x56 1), .undef, (.int .i64 63)], h56))
 (aG (pu h56 (aS Tryd.prog .eql 3 true (aF x56 3) (.int .i64 20))) fun v57 h57 =>
 aT v57
 (some (.normal, [(aF x56 1), .undef, (.int .i64 2)], h57))
 (dO (
 aG (pu h57 (aS Tryd.prog .eql 3 true (aF x56 3) (.int .i64 15))) fun v58 h58 =>
 aT v58
 (some (.normal, [(aF x56 0), (aF x56 1), (aF x56 2), (aF x56 3), v58], h58))
 (aG (pu h58 (aS Tryd.prog .eql 3 true (aF x56 3) (.int .i64 16))) fun v59 h59 =>
 some (.normal, [(aF x56 0), (aF x56 1), (aF x56 2), (aF x56 3), v59], h59))) fun e60 x60 h60 => iL e60
 (aT (aF x60 4)
 (some (.normal, [(aF x60 1), .undef, (.int .i64 65535)], h60))
 (dO (
 aG (pu h60 (aS Tryd.prog .eql 3 true (aF x60 3) (.int .i64 17))) fun v61 h61 =>
 aT v61
 (some (.normal, [(aF x60 0), (aF x60 1), (aF x60 2), v61], h61))
 (aG (pu h61 (aS Tryd.prog .eql 3 true (aF x60 3) (.int .i64 18))) fun v62 h62 =>
 aT v62
 (some (.normal, [(aF x60 0), (aF x60 1), (aF x60 2), v62], h62))
 (aG (pu h62 (aS Tryd.prog .eql 3 true (aF x60 3) (.int .i64 19))) fun v63 h63 =>
 some (.normal, [(aF x60 0), (aF x60 1), (aF x60 2), v63], h63)))) fun e64 x64 h64 => iL e64
 (aT (aF x64 3)
 (aG (pu h64 (aB 5 (aF x64 1))) fun v65 h65 =>
 aG (pu h65 (aI G false 1 v65 h65)) fun v66 h66 =>
 aG (pu h66 (aS Tryd.prog .lss 2 true v66 (.int .i64 0))) fun v67 h67 =>
 aG (gd v67 false h67 (pu h67 (aB 5 (aF x64 1)))) fun v68 h68 =>
 aG (gd v67 false h68 (pu h68 (aI G false 1 v68 h68))) fun v69 h69 =>
 aG (gd v67 false h69 (pu h69 (aB 0 (aF x64 0)))) fun v70 h70 =>
 aG (gd v67 false h70 (pu h70 (aI G false 1 v70 h70))) fun v71 h71 =>
 aG (gd v67 false h71 (pu h71 (aY v71))) fun v72 h72 =>
 aG (gd v67 false h72 (pu h72 (aS Tryd.prog .gtr 2 false v69 v72))) fun v73 h73 =>
 aG (pu h73 (fJ v67 (.bool true) v73)) fun v74 h74 =>
 aT v74
 (aG (pu h74 (aI G false 1 (.gl 5) h74)) fun v75 h75 =>
 some (.ret, [(aF x64 1), v75, (aF x64 2)], h75))
 (some (.normal, [(aF x64 1), .undef, (aF x64 2)], h74)))
 (some (.normal, [(aF x64 1), .undef, (aF x64 2)], h64)))
 (fun i64 => if i64 = 4 then (some (.normal, [(aF x64 1), .undef, (aF x64 2)], h64)) else (some (.exit i64, [(aF x64 1), .undef, (aF x64 2)], h64)))
 (some (.ret, [(aF x64 1), .undef, (aF x64 2)], h64))))
 (fun i60 => if i60 = 4 then (some (.normal, [(aF x60 1), .undef, (aF x60 2)], h60)) else (some (.exit i60, [(aF x60 1), .undef, (aF x60 2)], h60)))
 (some (.ret, [(aF x60 1), .undef, (aF x60 2)], h60)))))
 (fun i56 => if i56 = 4 then (some (.normal, [(aF x56 1), .undef, (aF x56 2)], h56)) else (some (.exit i56, [(aF x56 1), .undef, (aF x56 2)], h56)))
 (some (.ret, [(aF x56 1), .undef, (aF x56 2)], h56))) fun e76 x76 h76 => iL e76
 (aG (pu h76 (aS Tryd.prog .geq 2 true (aF x76 2) (.int .i64 0))) fun v77 h77 =>
 aG (gd v77 true h77 (pu h77 (aB 5 (aF x76 0)))) fun v78 h78 =>
 aG (gd v77 true h78 (pu h78 (aI G false 1 v78 h78))) fun v79 h79 =>
 aG (gd v77 true h79 (pu h79 (aS Tryd.prog .lss 2 true v79 (.int .i64 0)))) fun v80 h80 =>
 aG (gd v77 true h80 (some (v80, h80))) fun v81 h81 =>
 aG (gd v81 false h81 (pu h81 (aB 5 (aF x76 0)))) fun v82 h82 =>
 aG (gd v81 false h82 (pu h82 (aI G false 1 v82 h82))) fun v83 h83 =>
 aG (gd v81 false h83 (some ((aF x76 2), h83))) fun v84 h84 =>
 aG (gd v81 false h84 (pu h84 (aS Tryd.prog .gtr 2 false v83 v84))) fun v85 h85 =>
 aG (gd v77 true h85 (pu h85 (fJ v81 (.bool true) v85))) fun v86 h86 =>
 aG (pu h86 (fJ v77 v86 (.bool false))) fun v87 h87 =>
 aT v87
 (aG (pu h87 (aI G false 1 (.gl 0) h87)) fun v88 h88 =>
 cQ [v88] h.length h88)
 (cQ [.nili] h.length h87))
 (fun i76 => none)
 (cQ [(aF x76 1)] h.length h76)) else (none))
 (cQ [(aF x38 2)] h.length h38)) else (none))
 (cQ [(aF x16 2)] h.length h16)))
noncomputable def bZ.f (G : aE) : Nat → cU
 | 0 => fun _ _ => none
 | k + 1 => fun args h => rM args fun x0 x1 => (bZ.c G k (bZ.f G k) x0 x1 h)
theorem bZ.step (G : aE) (k : Nat) (x0 x1 : AV) (h : aA) : bZ.f G (k + 1) [x0, x1] h = bZ.c G k (bZ.f G k) x0 x1 h := rfl
noncomputable def bV.ann : Ann := gB [] [] [(6, [1, 2, 33, 34, 35])] []
noncomputable def bV.env (G : aE) (k : Nat) (self : cU) : List (Nat × Bool × cU) := [(72, true, bZ.f G k)]
noncomputable def bV.l6 (G : aE) (k n0 : Nat) (self : cU) (lp : eH) : eH := fun xs h0 => jH n0 xs h0 fun h =>
 aG (pu h (aS Tryd.prog .lss 3 false (aF xs 4) (aF xs 3))) fun v26 h26 =>
 aT v26
 (aG (pu h26 (aH 6 (aF xs 2) (aF xs 4))) fun v27 h27 =>
 aG (pu h27 (aI G true 6 v27 h27)) fun v28 h28 =>
 aG (eM 29 (.agg [(.int .i64 0), (.int .i64 0), (.int .i64 0), (.int .i64 0), (.int .i64 0), (.int .i64 0)]) h28) fun v29 h29 =>
 aG (fP (aO 6 v29 v28 h29)) fun v30 h30 =>
 aG (pu h30 (aI G true 3 (aF xs 0) h30)) fun v31 h31 =>
 aG (pu h31 (aI G true 6 v29 h31)) fun v32 h32 =>
 aG (aX (bZ.f G k) [v31, v32] h32) fun v33 h33 =>
 aG (pu h33 (aS Tryd.prog .neq 33 true v33 .nili)) fun v34 h34 =>
 aT v34
 (aG (pu h34 (cA [(0, 1), (1, 1)] [(.int .i64 0), .nili] [(0, (aF xs 4)), (1, v33)])) fun v35 h35 =>
 aG (cN v35 h35) fun v36 h36 =>
 some (.ret, [(aF xs 0), (.iface 126 v36), (aF xs 2), (aF xs 3), (aF xs 4)], h36))
 (aG (pu h34 (aS Tryd.prog .add 3 true (aF xs 4) (.int .i64 1))) fun v37 h37 =>
 lp [(aF xs 0), (aF xs 1), (aF xs 2), (aF xs 3), v37] h37))
 (some (.exit 1, [(aF xs 0), (aF xs 1), (aF xs 2), (aF xs 3), (aF xs 4)], h26))
noncomputable def bV.c (G : aE) (k : Nat) (self : cU) (x0 : AV) (h : aA) : Option (AV × aA) := fH (
 aG (cN x0 h) fun v0 h0 =>
 aG (pu h0 (aB 0 v0)) fun v1 h1 =>
 aG (pu h1 (aI G false 1 v1 h1)) fun v2 h2 =>
 aG (pu h2 (aY v2)) fun v3 h3 =>
 aG (pu h3 (aS Tryd.prog .gtr 3 true v3 (.int .i64 262144))) fun v4 h4 =>
 aT v4
 (aG (pu h4 (aI G false 1 (.gl 1) h4)) fun v5 h5 =>
 cQ [v5] h.length h5)
 (aG (pu h4 (aB 1 v0)) fun v6 h6 =>
 aG (pu h6 (aI G false 1 v6 h6)) fun v7 h7 =>
 aG (pu h7 (aS Tryd.prog .lss 3 true v7 (.int .i64 0))) fun v8 h8 =>
 aG (gd v8 false h8 (pu h8 (aB 1 v0))) fun v9 h9 =>
 aG (gd v8 false h9 (pu h9 (aI G false 1 v9 h9))) fun v10 h10 =>
 aG (gd v8 false h10 (pu h10 (aS Tryd.prog .gtr 3 true v10 (.int .i64 65536)))) fun v11 h11 =>
 aG (pu h11 (fJ v8 (.bool true) v11)) fun v12 h12 =>
 aG (gd v12 false h12 (pu h12 (aB 2 v0))) fun v13 h13 =>
 aG (gd v12 false h13 (pu h13 (aI G false 1 v13 h13))) fun v14 h14 =>
 aG (gd v12 false h14 (pu h14 (aS Tryd.prog .lss 3 true v14 (.int .i64 0)))) fun v15 h15 =>
 aG (pu h15 (fJ v12 (.bool true) v15)) fun v16 h16 =>
 aG (gd v16 false h16 (pu h16 (aB 2 v0))) fun v17 h17 =>
 aG (gd v16 false h17 (pu h17 (aI G false 1 v17 h17))) fun v18 h18 =>
 aG (gd v16 false h18 (pu h18 (aS Tryd.prog .gtr 3 true v18 (.int .i64 65536)))) fun v19 h19 =>
 aG (pu h19 (fJ v16 (.bool true) v19)) fun v20 h20 =>
 aT v20
 (aG (pu h20 (aI G false 1 (.gl 1) h20)) fun v21 h21 =>
 cQ [v21] h.length h21)
 (aG (pu h20 (aB 0 v0)) fun v22 h22 =>
 aG (pu h22 (aI G false 1 v22 h22)) fun v23 h23 =>
 aG (pu h23 (aY v23)) fun v24 h24 =>
 dO (cM (bV.l6 G k h24.length self) k [v0, .nili, v23, v24, (.int .i64 0)] h24) fun e25 x25 h25 => iL e25
 (none)
 (fun i25 => if i25 = 1 then (cQ [.nili] h.length h25) else (none))
 (cQ [(aF x25 1)] h.length h25))))
noncomputable def bV.f (G : aE) : Nat → cU
 | 0 => fun _ _ => none
 | k + 1 => fun args h => oA args fun x0 => (bV.c G k (bV.f G k) x0 h)
theorem bV.step (G : aE) (k : Nat) (x0 : AV) (h : aA) : bV.f G (k + 1) [x0] h = bV.c G k (bV.f G k) x0 h := rfl
noncomputable def cX.ann : Ann := gB [] [] [] []
noncomputable def cX.env (G : aE) (k : Nat) (self : cU) : List (Nat × Bool × cU) := [(51, true, dF.f G k)]
noncomputable def cX.c (G : aE) (k : Nat) (self : cU) (x0 : AV) (h : aA) : Option (AV × aA) := fH (
 aG (cN x0 h) fun v0 h0 =>
 aG (pu h0 (aB 0 v0)) fun v1 h1 =>
 aG (pu h1 (aI G false 1 v1 h1)) fun v2 h2 =>
 aG (aX (dF.f G k) [v2] h2) fun v3 h3 =>
 aG (pu h3 (aW v3 0)) fun v4 h4 =>
 aG (pu h4 (aW v3 1)) fun v5 h5 =>
 aG (eM 100 (.agg [(.str ⟨#[]⟩), (.bool false), (.bool false), (.bool false), (.bool false), (.bool false)]) h5) fun v6 h6 =>
 aG (fP (aO 6 v6 v4 h6)) fun v7 h7 =>
 aG (pu h7 (aB 1 v6)) fun v8 h8 =>
 aG (pu h8 (aI G false 1 v8 h8)) fun v9 h9 =>
 aG (pu h9 (un .not v9)) fun v10 h10 =>
 aT v10
 (cQ [(.int .i64 0), (.bool false)] h.length h10)
 (aG (pu h10 (aB 1 v0)) fun v11 h11 =>
 aG (pu h11 (aI G false 1 v11 h11)) fun v12 h12 =>
 cQ [v12, (.bool true)] h.length h12))
noncomputable def cX.f (G : aE) : Nat → cU
 | 0 => fun _ _ => none
 | k + 1 => fun args h => oA args fun x0 => (cX.c G k (cX.f G k) x0 h)
theorem cX.step (G : aE) (k : Nat) (x0 : AV) (h : aA) : cX.f G (k + 1) [x0] h = cX.c G k (cX.f G k) x0 h := rfl
noncomputable def bD.ann : Ann := gB [] [] [] []
noncomputable def bD.env (G : aE) (k : Nat) (self : cU) : List (Nat × Bool × cU) := []
noncomputable def bD.c (G : aE) (k : Nat) (self : cU) (x0 : AV) (h : aA) : Option (AV × aA) := fH (
 aG (pu h (aS Tryd.prog .neq 3 false x0 x0)) fun v0 h0 =>
 cQ [v0] h.length h0)
noncomputable def bD.f (G : aE) : Nat → cU
 | 0 => fun _ _ => none
 | k + 1 => fun args h => oA args fun x0 => (bD.c G k (bD.f G k) x0 h)
theorem bD.step (G : aE) (k : Nat) (x0 : AV) (h : aA) : bD.f G (k + 1) [x0] h = bD.c G k (bD.f G k) x0 h := rfl
noncomputable def bH.ann : Ann := gB [] [] [] []
noncomputable def bH.env (G : aE) (k : Nat) (self : cU) : List (Nat × Bool × cU) := [(120, true, bD.f G k)]
noncomputable def bH.c (G : aE) (k : Nat) (self : cU) (x0 x1 : AV) (h : aA) : Option (AV × aA) := fH (
 aG (aX (bD.f G k) [x0] h) fun v0 h0 =>
 aG (gd v0 true h0 (some (x1, h0))) fun v1 h1 =>
 aG (gd v0 true h1 (aX (bD.f G k) [v1] h1)) fun v2 h2 =>
 aG (gd v0 true h2 (pu h2 (un .not v2))) fun v3 h3 =>
 aG (pu h3 (fJ v0 v3 (.bool false))) fun v4 h4 =>
 aG (gd v4 false h4 (some (x0, h4))) fun v5 h5 =>
 aG (gd v4 false h5 (some (x1, h5))) fun v6 h6 =>
 aG (gd v4 false h6 (pu h6 (aS Tryd.prog .lss 3 false v5 v6))) fun v7 h7 =>
 aG (pu h7 (fJ v4 (.bool true) v7)) fun v8 h8 =>
 cQ [v8] h.length h8)
noncomputable def bH.f (G : aE) : Nat → cU
 | 0 => fun _ _ => none
 | k + 1 => fun args h => rM args fun x0 x1 => (bH.c G k (bH.f G k) x0 x1 h)
theorem bH.step (G : aE) (k : Nat) (x0 x1 : AV) (h : aA) : bH.f G (k + 1) [x0, x1] h = bH.c G k (bH.f G k) x0 x1 h := rfl
noncomputable def aD.ann : Ann := gB [] [] [(4, [0, 1, 2, 6, 7]), (1, [0, 1, 2, 6])] []
noncomputable def aD.env (G : aE) (k : Nat) (self : cU) : List (Nat × Bool × cU) := [(103, true, bH.f G k)]
noncomputable def aD.l4 (G : aE) (k n0 : Nat) (self : cU) (lp : eH) : eH := fun xs h0 => jH n0 xs h0 fun h =>
 aG (pu h (aS Tryd.prog .gtr 3 false (aF xs 4) (aF xs 1))) fun v4 h4 =>
 aG (gd v4 true h4 (some ((aF xs 0), h4))) fun v5 h5 =>
 aG (gd v4 true h5 (some ((aF xs 4), h5))) fun v6 h6 =>
 aG (gd v4 true h6 (pu h6 (aH 1 v5 v6))) fun v7 h7 =>
 aG (gd v4 true h7 (pu h7 (aI G false 1 v7 h7))) fun v8 h8 =>
 aG (gd v4 true h8 (some ((aF xs 0), h8))) fun v9 h9 =>
 aG (gd v4 true h9 (some ((aF xs 4), h9))) fun v10 h10 =>
 aG (gd v4 true h10 (pu h10 (aS Tryd.prog .sub 3 true v10 (.int .i64 1)))) fun v11 h11 =>
 aG (gd v4 true h11 (pu h11 (aH 1 v9 v11))) fun v12 h12 =>
 aG (gd v4 true h12 (pu h12 (aI G false 1 v12 h12))) fun v13 h13 =>
 aG (gd v4 true h13 (aX (bH.f G k) [v8, v13] h13)) fun v14 h14 =>
 aG (pu h14 (fJ v4 v14 (.bool false))) fun v15 h15 =>
 aT v15
 (aG (pu h15 (aS Tryd.prog .sub 3 true (aF xs 4) (.int .i64 1))) fun v16 h16 =>
 aG (pu h16 (aS Tryd.prog .sub 3 true (aF xs 4) (.int .i64 1))) fun v17 h17 =>
 aG (pu h17 (aH 1 (aF xs 0) v17)) fun v18 h18 =>
 aG (pu h18 (aI G false 1 v18 h18)) fun v19 h19 =>
 aG (pu h19 (aH 1 (aF xs 0) (aF xs 4))) fun v20 h20 =>
 aG (pu h20 (aI G false 1 v20 h20)) fun v21 h21 =>
 aG (pu h21 (aH 1 (aF xs 0) (aF xs 4))) fun v22 h22 =>
 aG (fP (aO 1 v22 v19 h22)) fun v23 h23 =>
 aG (pu h23 (aH 1 (aF xs 0) v16)) fun v24 h24 =>
 aG (fP (aO 1 v24 v21 h24)) fun v25 h25 =>
 aG (pu h25 (aS Tryd.prog .sub 3 true (aF xs 4) (.int .i64 1))) fun v26 h26 =>
 lp [(aF xs 0), (aF xs 1), (aF xs 2), (aF xs 3), v26] h26)
 (some (.exit 2, [(aF xs 0), (aF xs 1), (aF xs 2), (aF xs 3), (aF xs 4)], h15))
noncomputable def aD.l1 (G : aE) (k n0 : Nat) (self : cU) (lp : eH) : eH := fun xs h0 => jH n0 xs h0 fun h =>
 aG (pu h (aS Tryd.prog .lss 3 false (aF xs 3) (aF xs 2))) fun v2 h2 =>
 aT v2
 (dO (cM (aD.l4 G k h2.length self) k [(aF xs 0), (aF xs 1), (aF xs 2), (aF xs 3), (aF xs 3)] h2) fun e3 x3 h3 => iL e3
 (none)
 (fun i3 => if i3 = 2 then (aG (pu h3 (aS Tryd.prog .add 3 true (aF x3 3) (.int .i64 1))) fun v27 h27 =>
 lp [(aF x3 0), (aF x3 1), (aF x3 2), v27] h27) else (if i3 = 1 then (aG (pu h3 (aS Tryd.prog .add 3 true (aF x3 3) (.int .i64 1))) fun v28 h28 =>
 lp [(aF x3 0), (aF x3 1), (aF x3 2), v28] h28) else (some (.exit i3, [(aF x3 0), (aF x3 1), (aF x3 2), (aF x3 3)], h3))))
 (some (.ret, [(aF x3 0), (aF x3 1), (aF x3 2), (aF x3 3)], h3)))
 (some (.exit 0, [(aF xs 0), (aF xs 1), (aF xs 2), (aF xs 3)], h2))
noncomputable def aD.c (G : aE) (k : Nat) (self : cU) (x0 x1 x2 : AV) (h : aA) : Option (AV × aA) := fH (
 aG (pu h (aS Tryd.prog .add 3 true x1 (.int .i64 1))) fun v0 h0 =>
 dO (cM (aD.l1 G k h0.length self) k [x0, x1, x2, v0] h0) fun e1 x1 h1 => iL e1
 (none)
 (fun i1 => if i1 = 0 then (cQ [] h.length h1) else (none))
 (cQ [] h.length h1))
noncomputable def aD.f (G : aE) : Nat → cU
 | 0 => fun _ _ => none
 | k + 1 => fun args h => aBs args fun x0 x1 x2 => (aD.c G k (aD.f G k) x0 x1 x2 h)
theorem aD.step (G : aE) (k : Nat) (x0 x1 x2 : AV) (h : aA) : aD.f G (k + 1) [x0, x1, x2] h = aD.c G k (aD.f G k) x0 x1 x2 h := rfl
noncomputable def aJ.ann : Ann := gB [] [] [(2, [0, 1, 2, 3, 8, 9])] [(17, [0, 1, 2, 3, 8, 9, 10, 11]), (15, [0, 1, 2, 3, 8, 9, 10, 11, 12]), (10, [0, 1, 2, 3, 8, 9, 10])]
noncomputable def aJ.env (G : aE) (k : Nat) (self : cU) : List (Nat × Bool × cU) := [(87, false, self), (97, false, aD.f G k), (103, true, bH.f G k)]
noncomputable def aJ.l2 (G : aE) (k n0 : Nat) (self : cU) (lp : eH) : eH := fun xs h0 => jH n0 xs h0 fun h =>
 aG (pu h (aS Tryd.prog .sub 3 false (aF xs 2) (aF xs 1))) fun v1 h1 =>
 aG (pu h1 (aS Tryd.prog .leq 3 true v1 (.int .i64 12))) fun v2 h2 =>
 aT v2
 (aG (cW (aD.f G k) [(aF xs 0), (aF xs 1), (aF xs 2)] h2) fun v3 h3 =>
 some (.ret, [(aF xs 0), (aF xs 1), (aF xs 2), (aF xs 3), (aF xs 4), (aF xs 5)], h3))
 (aG (pu h2 (aS Tryd.prog .eql 3 true (aF xs 3) (.int .i64 0))) fun v4 h4 =>
 aT v4
 (none)
 (dO (
 aG (pu h4 (un .not (aF xs 4))) fun v5 h5 =>
 aT v5
 (none)
 (some (.normal, [(aF xs 0), (aF xs 1), (aF xs 2), (aF xs 3), (aF xs 4), (aF xs 5), v1], h5))) fun e6 x6 h6 => iL e6
 (none)
 (fun i6 => if i6 = 1 then (lp [(aF x6 0), (aF x6 1), (aF x6 2), (aF x6 3), (aF x6 4), (aF x6 5)] h6) else (some (.exit i6, [(aF x6 0), (aF x6 1), (aF x6 2), (aF x6 3), (aF x6 4), (aF x6 5)], h6)))
 (some (.ret, [(aF x6 0), (aF x6 1), (aF x6 2), (aF x6 3), (aF x6 4), (aF x6 5)], h6))))
noncomputable def aJ.c (G : aE) (k : Nat) (self : cU) (x0 x1 x2 x3 : AV) (h : aA) : Option (AV × aA) := fH (
 dO (cM (aJ.l2 G k h.length self) k [x0, x1, x2, x3, (.bool true), (.bool true)] h) fun e0 x0 h0 => iL e0
 (none)
 (fun i0 => if i0 = 0 then (cQ [] h.length h0) else (none))
 (cQ [] h.length h0))
noncomputable def aJ.f (G : aE) : Nat → cU
 | 0 => fun _ _ => none
 | k + 1 => fun args h => aFv args fun x0 x1 x2 x3 => (aJ.c G k (aJ.f G k) x0 x1 x2 x3 h)
theorem aJ.step (G : aE) (k : Nat) (x0 x1 x2 x3 : AV) (h : aA) : aJ.f G (k + 1) [x0, x1, x2, x3] h = aJ.c G k (aJ.f G k) x0 x1 x2 x3 h := rfl
def cO.s0 : ByteArray := ⟨#[0, 1, 2, 2, 3, 3, 3, 3, 4, 4, 4, 4, 4, 4, 4, 4, 5, 5, 5, 5, 5, 5, 5, 5, 5, 5, 5, 5, 5, 5, 5, 5, 6, 6, 6, 6, 6, 6, 6, 6, 6, 6, 6, 6, 6, 6, 6, 6, 6, 6, 6, 6, 6, 6, 6, 6, 6, 6, 6, 6, 6, 6, 6, 6, 7, 7, 7, 7, 7, 7, 7, 7, 7, 7, 7, 7, 7, 7, 7, 7, 7, 7, 7, 7, 7, 7, 7, 7, 7, 7, 7, 7, 7, 7, 7, 7, 7, 7, 7, 7, 7, 7, 7, 7, 7, 7, 7, 7, 7, 7, 7, 7, 7, 7, 7, 7, 7, 7, 7, 7, 7, 7, 7, 7, 7, 7, 7, 7, 8, 8, 8, 8, 8, 8, 8, 8, 8, 8, 8, 8, 8, 8, 8, 8, 8, 8, 8, 8, 8, 8, 8, 8, 8, 8, 8, 8, 8, 8, 8, 8, 8, 8, 8, 8, 8, 8, 8, 8, 8, 8, 8, 8, 8, 8, 8, 8, 8, 8, 8, 8, 8, 8, 8, 8, 8, 8, 8, 8, 8, 8, 8, 8, 8, 8, 8, 8, 8, 8, 8, 8, 8, 8, 8, 8, 8, 8, 8, 8, 8, 8, 8, 8, 8, 8, 8, 8, 8, 8, 8, 8, 8, 8, 8, 8, 8, 8, 8, 8, 8, 8, 8, 8, 8, 8, 8, 8, 8, 8, 8, 8, 8, 8, 8, 8, 8, 8, 8, 8, 8, 8, 8, 8, 8, 8, 8, 8]⟩
noncomputable def cO.ann : Ann := gB [] [] [] [(7, [0, 2]), (4, [0, 2])]
noncomputable def cO.env (G : aE) (k : Nat) (self : cU) : List (Nat × Bool × cU) := []
noncomputable def cO.c (G : aE) (k : Nat) (self : cU) (x0 : AV) (h : aA) : Option (AV × aA) := fH (
 dO (
 aG (pu h (aS Tryd.prog .geq 161 true x0 (.int .u32 65536))) fun v0 h0 =>
 aT v0
 (aG (pu h0 (aS Tryd.prog .shr 161 true x0 (.int .u64 16))) fun v1 h1 =>
 some (.normal, [v1, (.int .i64 16)], h1))
 (some (.normal, [x0, (.int .i64 0)], h0))) fun e2 x2 h2 => iL e2
 (dO (
 aG (pu h2 (aS Tryd.prog .geq 161 true (aF x2 0) (.int .u32 256))) fun v3 h3 =>
 aT v3
 (aG (pu h3 (aS Tryd.prog .shr 161 true (aF x2 0) (.int .u64 8))) fun v4 h4 =>
 aG (pu h4 (aS Tryd.prog .add 3 true (aF x2 1) (.int .i64 8))) fun v5 h5 =>
 some (.normal, [v4, v5], h5))
 (some (.normal, [(aF x2 0), (aF x2 1)], h3))) fun e6 x6 h6 => iL e6
 (aG (pu h6 (eE .u8 (aF x6 0))) fun v7 h7 =>
 aG (pu h7 (aAy (.str cO.s0) v7)) fun v8 h8 =>
 aG (pu h8 (eE .i64 v8)) fun v9 h9 =>
 aG (pu h9 (aS Tryd.prog .add 3 false (aF x6 1) v9)) fun v10 h10 =>
 cQ [v10] h.length h10)
 (fun i6 => none)
 (cQ [(aF x6 1)] h.length h6))
 (fun i2 => none)
 (cQ [(aF x2 1)] h.length h2))
noncomputable def cO.f (G : aE) : Nat → cU
 | 0 => fun _ _ => none
 | k + 1 => fun args h => oA args fun x0 => (cO.c G k (cO.f G k) x0 h)
def cP.s0 : ByteArray := ⟨#[0, 1, 2, 2, 3, 3, 3, 3, 4, 4, 4, 4, 4, 4, 4, 4, 5, 5, 5, 5, 5, 5, 5, 5, 5, 5, 5, 5, 5, 5, 5, 5, 6, 6, 6, 6, 6, 6, 6, 6, 6, 6, 6, 6, 6, 6, 6, 6, 6, 6, 6, 6, 6, 6, 6, 6, 6, 6, 6, 6, 6, 6, 6, 6, 7, 7, 7, 7, 7, 7, 7, 7, 7, 7, 7, 7, 7, 7, 7, 7, 7, 7, 7, 7, 7, 7, 7, 7, 7, 7, 7, 7, 7, 7, 7, 7, 7, 7, 7, 7, 7, 7, 7, 7, 7, 7, 7, 7, 7, 7, 7, 7, 7, 7, 7, 7, 7, 7, 7, 7, 7, 7, 7, 7, 7, 7, 7, 7, 8, 8, 8, 8, 8, 8, 8, 8, 8, 8, 8, 8, 8, 8, 8, 8, 8, 8, 8, 8, 8, 8, 8, 8, 8, 8, 8, 8, 8, 8, 8, 8, 8, 8, 8, 8, 8, 8, 8, 8, 8, 8, 8, 8, 8, 8, 8, 8, 8, 8, 8, 8, 8, 8, 8, 8, 8, 8, 8, 8, 8, 8, 8, 8, 8, 8, 8, 8, 8, 8, 8, 8, 8, 8, 8, 8, 8, 8, 8, 8, 8, 8, 8, 8, 8, 8, 8, 8, 8, 8, 8, 8, 8, 8, 8, 8, 8, 8, 8, 8, 8, 8, 8, 8, 8, 8, 8, 8, 8, 8, 8, 8, 8, 8, 8, 8, 8, 8, 8, 8, 8, 8, 8, 8, 8, 8, 8, 8]⟩
noncomputable def cP.ann : Ann := gB [] [] [] [(10, [0, 2]), (7, [0, 2]), (4, [0, 2])]
noncomputable def cP.env (G : aE) (k : Nat) (self : cU) : List (Nat × Bool × cU) := []
noncomputable def cP.c (G : aE) (k : Nat) (self : cU) (x0 : AV) (h : aA) : Option (AV × aA) := fH (
 dO (
 aG (pu h (aS Tryd.prog .geq 30 true x0 (.int .u64 4294967296))) fun v0 h0 =>
 aT v0
 (aG (pu h0 (aS Tryd.prog .shr 30 true x0 (.int .u64 32))) fun v1 h1 =>
 some (.normal, [v1, (.int .i64 32)], h1))
 (some (.normal, [x0, (.int .i64 0)], h0))) fun e2 x2 h2 => iL e2
 (dO (
 aG (pu h2 (aS Tryd.prog .geq 30 true (aF x2 0) (.int .u64 65536))) fun v3 h3 =>
 aT v3
 (aG (pu h3 (aS Tryd.prog .shr 30 true (aF x2 0) (.int .u64 16))) fun v4 h4 =>
 aG (pu h4 (aS Tryd.prog .add 3 true (aF x2 1) (.int .i64 16))) fun v5 h5 =>
 some (.normal, [v4, v5], h5))
 (some (.normal, [(aF x2 0), (aF x2 1)], h3))) fun e6 x6 h6 => iL e6
 (dO (
 aG (pu h6 (aS Tryd.prog .geq 30 true (aF x6 0) (.int .u64 256))) fun v7 h7 =>
 aT v7
 (aG (pu h7 (aS Tryd.prog .shr 30 true (aF x6 0) (.int .u64 8))) fun v8 h8 =>
 aG (pu h8 (aS Tryd.prog .add 3 true (aF x6 1) (.int .i64 8))) fun v9 h9 =>
 some (.normal, [v8, v9], h9))
 (some (.normal, [(aF x6 0), (aF x6 1)], h7))) fun e10 x10 h10 => iL e10
 (aG (pu h10 (eE .u8 (aF x10 0))) fun v11 h11 =>
 aG (pu h11 (aAy (.str cP.s0) v11)) fun v12 h12 =>
 aG (pu h12 (eE .i64 v12)) fun v13 h13 =>
 aG (pu h13 (aS Tryd.prog .add 3 false (aF x10 1) v13)) fun v14 h14 =>
 cQ [v14] h.length h14)
 (fun i10 => none)
 (cQ [(aF x10 1)] h.length h10))
 (fun i6 => none)
 (cQ [(aF x6 1)] h.length h6))
 (fun i2 => none)
 (cQ [(aF x2 1)] h.length h2))
noncomputable def cP.f (G : aE) : Nat → cU
 | 0 => fun _ _ => none
 | k + 1 => fun args h => oA args fun x0 => (cP.c G k (cP.f G k) x0 h)
noncomputable def cL.ann : Ann := gB [] [] [] []
noncomputable def cL.env (G : aE) (k : Nat) (self : cU) : List (Nat × Bool × cU) := [(106, true, cO.f G k), (107, true, cP.f G k)]
noncomputable def cL.c (G : aE) (k : Nat) (self : cU) (x0 : AV) (h : aA) : Option (AV × aA) := fH (
 aT (.bool false)
 (aG (pu h (eE .u32 x0)) fun v0 h0 =>
 aG (aX (cO.f G k) [v0] h0) fun v1 h1 =>
 cQ [v1] h.length h1)
 (aG (aX (cP.f G k) [x0] h) fun v2 h2 =>
 cQ [v2] h.length h2))
noncomputable def cL.f (G : aE) : Nat → cU
 | 0 => fun _ _ => none
 | k + 1 => fun args h => oA args fun x0 => (cL.c G k (cL.f G k) x0 h)
noncomputable def aM.ann : Ann := gB [] [] [] []
noncomputable def aM.env (G : aE) (k : Nat) (self : cU) : List (Nat × Bool × cU) := [(87, false, aJ.f G k), (88, true, cL.f G k)]
noncomputable def aM.c (G : aE) (k : Nat) (self : cU) (x0 : AV) (h : aA) : Option (AV × aA) := fH (
 aG (pu h (aY x0)) fun v0 h0 =>
 aG (pu h0 (eE .u64 v0)) fun v1 h1 =>
 aG (aX (cL.f G k) [v1] h1) fun v2 h2 =>
 aG (cW (aJ.f G k) [x0, (.int .i64 0), v0, v2] h2) fun v3 h3 =>
 cQ [] h.length h3)
noncomputable def aM.f (G : aE) : Nat → cU
 | 0 => fun _ _ => none
 | k + 1 => fun args h => oA args fun x0 => (aM.c G k (aM.f G k) x0 h)
theorem aM.step (G : aE) (k : Nat) (x0 : AV) (h : aA) : aM.f G (k + 1) [x0] h = aM.c G k (aM.f G k) x0 h := rfl
noncomputable def aC.ann : Ann := gB [] [] [(9, [0, 3, 4, 5]), (4, [0, 2, 3])] [(10, [0, 3, 4, 5])]
noncomputable def aC.env (G : aE) (k : Nat) (self : cU) : List (Nat × Bool × cU) := []
noncomputable def aC.l9 (G : aE) (k n0 : Nat) (self : cU) (lp : eH) : eH := fun xs h0 => jH n0 xs h0 fun h =>
 aG (pu h (aY (aF xs 2))) fun v13 h13 =>
 aG (pu h13 (aS Tryd.prog .lss 3 false (aF xs 3) v13)) fun v14 h14 =>
 aT v14
 (dO (
 aG (pu h14 (aH 1 (aF xs 2) (aF xs 3))) fun v15 h15 =>
 aG (pu h15 (aI G false 1 v15 h15)) fun v16 h16 =>
 aG (pu h16 (aS Tryd.prog .sub 3 true (aF xs 3) (.int .i64 1))) fun v17 h17 =>
 aG (pu h17 (aH 1 (aF xs 2) v17)) fun v18 h18 =>
 aG (pu h18 (aI G false 1 v18 h18)) fun v19 h19 =>
 aG (pu h19 (aS Tryd.prog .neq 3 false v16 v19)) fun v20 h20 =>
 aT v20
 (aG (pu h20 (aH 1 (aF xs 2) (aF xs 3))) fun v21 h21 =>
 aG (pu h21 (aI G false 1 v21 h21)) fun v22 h22 =>
 aG (pu h22 (aH 1 (aF xs 0) (aF xs 1))) fun v23 h23 =>
 aG (fP (aO 1 v23 v22 h23)) fun v24 h24 =>
 aG (pu h24 (aS Tryd.prog .add 3 true (aF xs 1) (.int .i64 1))) fun v25 h25 =>
 some (.normal, [(aF xs 0), v25, (aF xs 2), (aF xs 3)], h25))
 (some (.normal, [(aF xs 0), (aF xs 1), (aF xs 2), (aF xs 3)], h20))) fun e26 x26 h26 => iL e26
 (aG (pu h26 (aS Tryd.prog .add 3 true (aF x26 3) (.int .i64 1))) fun v27 h27 =>
 lp [(aF x26 0), (aF x26 1), (aF x26 2), v27] h27)
 (fun i26 => some (.exit i26, [(aF x26 0), (aF x26 1), (aF x26 2), (aF x26 3)], h26))
 (some (.ret, [(aF x26 0), (aF x26 1), (aF x26 2), (aF x26 3)], h26)))
 (some (.exit 2, [(aF xs 0), (aF xs 1), (aF xs 2), (aF xs 3)], h14))
noncomputable def aC.l4 (G : aE) (k n0 : Nat) (self : cU) (lp : eH) : eH := fun xs h0 => jH n0 xs h0 fun h =>
 aG (pu h (aY (aF xs 0))) fun v3 h3 =>
 aG (pu h3 (aS Tryd.prog .lss 3 false (aF xs 2) v3)) fun v4 h4 =>
 aT v4
 (aG (pu h4 (aH 1 (aF xs 0) (aF xs 2))) fun v5 h5 =>
 aG (pu h5 (aI G false 1 v5 h5)) fun v6 h6 =>
 aG (pu h6 (aS Tryd.prog .sub 3 true (aF xs 2) (.int .i64 1))) fun v7 h7 =>
 aG (pu h7 (aH 1 (aF xs 0) v7)) fun v8 h8 =>
 aG (pu h8 (aI G false 1 v8 h8)) fun v9 h9 =>
 aG (pu h9 (aS Tryd.prog .eql 3 false v6 v9)) fun v10 h10 =>
 aT v10
 (aG (pu h10 (gD 1 (aF xs 0) (some (aF xs 2)) none)) fun v11 h11 =>
 dO (cM (aC.l9 G k h11.length self) k [(aF xs 0), (aF xs 2), v11, (.int .i64 1)] h11) fun e12 x12 h12 => iL e12
 (none)
 (fun i12 => if i12 = 2 then (aG (pu h12 (gD 1 (aF x12 0) (some (aF x12 1)) none)) fun v28 h28 =>
 aG (oM (.int .i64 0) v28 h28) fun v29 h29 =>
 aG (pu h29 (gD 1 (aF x12 0) none (some (aF x12 1)))) fun v30 h30 =>
 some (.ret, [(aF x12 0), v30, (aF x12 1)], h30)) else (if i12 = 1 then (aG (pu h12 (aS Tryd.prog .add 3 true (aF x12 1) (.int .i64 1))) fun v31 h31 =>
 lp [(aF x12 0), .undef, v31] h31) else (some (.exit i12, [(aF x12 0), .undef, (aF x12 1)], h12))))
 (some (.ret, [(aF x12 0), .undef, (aF x12 1)], h12)))
 (aG (pu h10 (aS Tryd.prog .add 3 true (aF xs 2) (.int .i64 1))) fun v32 h32 =>
 lp [(aF xs 0), (aF xs 1), v32] h32))
 (some (.exit 0, [(aF xs 0), (aF xs 1), (aF xs 2)], h4))
noncomputable def aC.c (G : aE) (k : Nat) (self : cU) (x0 : AV) (h : aA) : Option (AV × aA) := fH (
 aG (pu h (aY x0)) fun v0 h0 =>
 aG (pu h0 (aS Tryd.prog .lss 3 true v0 (.int .i64 2))) fun v1 h1 =>
 aT v1
 (cQ [x0] h.length h1)
 (dO (cM (aC.l4 G k h1.length self) k [x0, .nils, (.int .i64 1)] h1) fun e2 x2 h2 => iL e2
 (none)
 (fun i2 => if i2 = 0 then (cQ [(aF x2 0)] h.length h2) else (none))
 (cQ [(aF x2 1)] h.length h2)))
noncomputable def aC.f (G : aE) : Nat → cU
 | 0 => fun _ _ => none
 | k + 1 => fun args h => oA args fun x0 => (aC.c G k (aC.f G k) x0 h)
theorem aC.step (G : aE) (k : Nat) (x0 : AV) (h : aA) : aC.f G (k + 1) [x0] h = aC.c G k (aC.f G k) x0 h := rfl
noncomputable def bI.ann : Ann := gB [] [5] [(4, [1, 5, 20, 21, 22])] []
noncomputable def bI.env (G : aE) (k : Nat) (self : cU) : List (Nat × Bool × cU) := [(51, true, dF.f G k), (53, false, aM.f G k), (54, false, aC.f G k)]
noncomputable def bI.l4 (G : aE) (k n0 : Nat) (self : cU) (lp : eH) : eH := fun xs h0 => jH n0 xs h0 fun h =>
 aG (pu h (aS Tryd.prog .lss 3 false (aF xs 4) (aF xs 3))) fun v18 h18 =>
 aT v18
 (aG (pu h18 (aH 1 (aF xs 2) (aF xs 4))) fun v19 h19 =>
 aG (pu h19 (aI G false 1 v19 h19)) fun v20 h20 =>
 aT v20
 (aG (pu h20 (aB 2 (aF xs 0))) fun v21 h21 =>
 aG (pu h21 (aI G false 1 v21 h21)) fun v22 h22 =>
 aG (pu h22 (aB 3 (aF xs 0))) fun v23 h23 =>
 aG (pu h23 (aI G false 1 v23 h23)) fun v24 h24 =>
 aG (pu h24 (aB 4 (aF xs 0))) fun v25 h25 =>
 aG (pu h25 (aI G false 1 v25 h25)) fun v26 h26 =>
 aG (bC 1 3 (.int .i64 0) [(0, v22), (1, v24), (2, v26)] h26) fun v27 h27 =>
 aG (pu h27 (aH 1 v27 (aF xs 4))) fun v28 h28 =>
 aG (pu h28 (aI G false 1 v28 h28)) fun v29 h29 =>
 aG (bC 1 1 (.int .i64 0) [(0, v29)] h29) fun v30 h30 =>
 aG (dX 3 1 (aF xs 1) v30 h30) fun v31 h31 =>
 aG (pu h31 (aS Tryd.prog .add 3 true (aF xs 4) (.int .i64 1))) fun v32 h32 =>
 lp [(aF xs 0), v31, (aF xs 2), (aF xs 3), v32] h32)
 (aG (pu h20 (aS Tryd.prog .add 3 true (aF xs 4) (.int .i64 1))) fun v33 h33 =>
 lp [(aF xs 0), (aF xs 1), (aF xs 2), (aF xs 3), v33] h33))
 (some (.exit 0, [(aF xs 0), (aF xs 1), (aF xs 2), (aF xs 3), (aF xs 4)], h18))
noncomputable def bI.c (G : aE) (k : Nat) (self : cU) (x0 : AV) (h : aA) : Option (AV × aA) := fH (
 aG (cN x0 h) fun v0 h0 =>
 aG (pu h0 (aB 0 v0)) fun v1 h1 =>
 aG (pu h1 (aI G false 1 v1 h1)) fun v2 h2 =>
 aG (aX (dF.f G k) [v2] h2) fun v3 h3 =>
 aG (pu h3 (aW v3 0)) fun v4 h4 =>
 aG (pu h4 (aW v3 1)) fun v5 h5 =>
 aG (eM 100 (.agg [(.str ⟨#[]⟩), (.bool false), (.bool false), (.bool false), (.bool false), (.bool false)]) h5) fun v6 h6 =>
 aG (fP (aO 6 v6 v4 h6)) fun v7 h7 =>
 aG (some (.sl h7.length 0 0 0 1, h7 ++ [⟨3, 1, []⟩])) fun v8 h8 =>
 aG (pu h8 (aB 2 v6)) fun v9 h9 =>
 aG (pu h9 (aI G false 1 v9 h9)) fun v10 h10 =>
 aG (pu h10 (aB 3 v6)) fun v11 h11 =>
 aG (pu h11 (aI G false 1 v11 h11)) fun v12 h12 =>
 aG (pu h12 (aB 4 v6)) fun v13 h13 =>
 aG (pu h13 (aI G false 1 v13 h13)) fun v14 h14 =>
 aG (bC 1 3 (.bool false) [(0, v10), (1, v12), (2, v14)] h14) fun v15 h15 =>
 aG (pu h15 (aY v15)) fun v16 h16 =>
 dO (cM (bI.l4 G k h16.length self) k [v0, v8, v15, v16, (.int .i64 0)] h16) fun e17 x17 h17 => iL e17
 (none)
 (fun i17 => if i17 = 0 then (aG (cW (aM.f G k) [(aF x17 1)] h17) fun v34 h34 =>
 aG (cW (aC.f G k) [(aF x17 1)] h34) fun v35 h35 =>
 cQ [v35] h.length h35) else (none))
 (cQ [.undef] h.length h17))
noncomputable def bI.f (G : aE) : Nat → cU
 | 0 => fun _ _ => none
 | k + 1 => fun args h => oA args fun x0 => (bI.c G k (bI.f G k) x0 h)
theorem bI.step (G : aE) (k : Nat) (x0 : AV) (h : aA) : bI.f G (k + 1) [x0] h = bI.c G k (bI.f G k) x0 h := rfl
noncomputable def cY.ann : Ann := gB [] [] [] []
noncomputable def cY.env (G : aE) (k : Nat) (self : cU) : List (Nat × Bool × cU) := []
noncomputable def cY.c (G : aE) (k : Nat) (self : cU) (x0 x1 x2 : AV) (h : aA) : Option (AV × aA) := fH (
 aG (cN x0 h) fun v0 h0 =>
 aG (pu h0 (aY x1)) fun v1 h1 =>
 aG (pu h1 (aB 2 v0)) fun v2 h2 =>
 aG (pu h2 (aI G false 1 v2 h2)) fun v3 h3 =>
 aG (pu h3 (aS Tryd.prog .neq 3 false v1 v3)) fun v4 h4 =>
 aT v4
 (aG (pu h4 (aI G false 1 (.gl 2) h4)) fun v5 h5 =>
 cQ [v5] h.length h5)
 (aG (pu h4 (aS Tryd.prog .lss 2 true x2 (.int .i64 0))) fun v6 h6 =>
 aG (gd v6 false h6 (some (x2, h6))) fun v7 h7 =>
 aG (gd v6 false h7 (pu h7 (aS Tryd.prog .gtr 2 true v7 (.int .i64 1073741824)))) fun v8 h8 =>
 aG (pu h8 (fJ v6 (.bool true) v8)) fun v9 h9 =>
 aT v9
 (aG (pu h9 (aI G false 1 (.gl 0) h9)) fun v10 h10 =>
 cQ [v10] h.length h10)
 (cQ [.nili] h.length h9)))
noncomputable def cY.f (G : aE) : Nat → cU
 | 0 => fun _ _ => none
 | k + 1 => fun args h => aBs args fun x0 x1 x2 => (cY.c G k (cY.f G k) x0 x1 x2 h)
theorem cY.step (G : aE) (k : Nat) (x0 x1 x2 : AV) (h : aA) : cY.f G (k + 1) [x0, x1, x2] h = cY.c G k (cY.f G k) x0 x1 x2 h := rfl
noncomputable def aK.ann : Ann := gB [5] [2] [] []
noncomputable def aK.env (G : aE) (k : Nat) (self : cU) : List (Nat × Bool × cU) := []
noncomputable def aK.c (G : aE) (k : Nat) (self : cU) (x0 : AV) (h : aA) : Option (AV × aA) := fH (
 aG (some (.sl h.length 0 0 0 1, h ++ [⟨30, 1, []⟩])) fun v0 h0 =>
 aG (pu h0 (aS Tryd.prog .eql 22 true x0 .nils)) fun v1 h1 =>
 aT v1
 (aG (some (.sl h1.length 0 0 0 1, h1 ++ [⟨30, 1, []⟩])) fun v2 h2 =>
 aBI [v2] h2)
 (aG (cB 30 1 0 (.int .u64 0) [] h1) fun v3 h3 =>
 aG (dX 30 1 v3 x0 h3) fun v4 h4 =>
 aBI [v4] h4))
noncomputable def aK.f (G : aE) : Nat → cU
 | 0 => fun _ _ => none
 | k + 1 => fun args h => oA args fun x0 => (aK.c G k (aK.f G k) x0 h)
theorem aK.step (G : aE) (k : Nat) (x0 : AV) (h : aA) : aK.f G (k + 1) [x0] h = aK.c G k (aK.f G k) x0 h := rfl
noncomputable def bE.ann : Ann := gB [] [] [] []
noncomputable def bE.env (G : aE) (k : Nat) (self : cU) : List (Nat × Bool × cU) := []
noncomputable def bE.c (G : aE) (k : Nat) (self : cU) (x0 x1 x2 : AV) (h : aA) : Option (AV × aA) := fH (
 aG (pu h (gO x0)) fun v0 h0 =>
 aG (pu h0 (aB 5 v0)) fun v1 h1 =>
 aG (pu h1 (aB 2 v1)) fun v2 h2 =>
 aG (pu h2 (aI G false 1 v2 h2)) fun v3 h3 =>
 aG (pu h3 (cA [(0, 1), (1, 1)] [(.int .i64 0), (.int .i64 0)] [(0, x1), (1, x2)])) fun v4 h4 =>
 aG (bC 2 1 (.agg [(.int .i64 0), (.int .i64 0)]) [(0, v4)] h4) fun v5 h5 =>
 aG (dX 91 2 v3 v5 h5) fun v6 h6 =>
 aG (pu h6 (gO x0)) fun v7 h7 =>
 aG (pu h7 (aB 5 v7)) fun v8 h8 =>
 aG (pu h8 (aB 2 v8)) fun v9 h9 =>
 aG (fP (aO 1 v9 v6 h9)) fun v10 h10 =>
 cQ [] h.length h10)
noncomputable def bE.f (G : aE) : Nat → cU
 | 0 => fun _ _ => none
 | k + 1 => fun args h => aBs args fun x0 x1 x2 => (bE.c G k (bE.f G k) x0 x1 x2 h)
theorem bE.step (G : aE) (k : Nat) (x0 x1 x2 : AV) (h : aA) : bE.f G (k + 1) [x0, x1, x2] h = bE.c G k (bE.f G k) x0 x1 x2 h := rfl
noncomputable def bT.ann : Ann := gB [] [] [] []
noncomputable def bT.env (G : aE) (k : Nat) (self : cU) : List (Nat × Bool × cU) := [(93, false, bE.f G k)]
noncomputable def bT.c (G : aE) (k : Nat) (self : cU) (x0 x1 : AV) (h : aA) : Option (AV × aA) := fH (
 aG (cN x1 h) fun v0 h0 =>
 aG (pu h0 (gO x0)) fun v1 h1 =>
 aG (pu h1 (aB 3 v1)) fun v2 h2 =>
 aG (pu h2 (aI G false 1 v2 h2)) fun v3 h3 =>
 aG (pu h3 (aB 2 v0)) fun v4 h4 =>
 aG (pu h4 (aI G false 1 v4 h4)) fun v5 h5 =>
 aG (pu h5 (aH 1 v3 v5)) fun v6 h6 =>
 aG (pu h6 (aI G false 1 v6 h6)) fun v7 h7 =>
 aG (pu h7 (aB 5 v0)) fun v8 h8 =>
 aG (pu h8 (aI G false 1 v8 h8)) fun v9 h9 =>
 aG (pu h9 (eE .u64 v9)) fun v10 h10 =>
 aG (pu h10 (aS Tryd.prog .add 30 false v7 v10)) fun v11 h11 =>
 aG (pu h11 (eE .i64 v11)) fun v12 h12 =>
 aG (cW (bE.f G k) [x0, (.int .i64 3), v12] h12) fun v13 h13 =>
 aG (pu h13 (gO x0)) fun v14 h14 =>
 aG (pu h14 (aB 5 v14)) fun v15 h15 =>
 aG (pu h15 (aB 1 v15)) fun v16 h16 =>
 aG (pu h16 (aI G false 1 v16 h16)) fun v17 h17 =>
 aG (pu h17 (aY v17)) fun v18 h18 =>
 aG (pu h18 (eE .u64 v18)) fun v19 h19 =>
 aG (pu h19 (aS Tryd.prog .geq 30 false v11 v19)) fun v20 h20 =>
 aT v20
 (aG (pu h20 (gO x0)) fun v21 h21 =>
 aG (pu h21 (aB 5 v21)) fun v22 h22 =>
 aG (pu h22 (aB 0 v22)) fun v23 h23 =>
 aG (fP (aO 1 v23 (.int .i64 3) h23)) fun v24 h24 =>
 cQ [(.bool false)] h.length h24)
 (aG (pu h20 (aB 0 v0)) fun v25 h25 =>
 aG (pu h25 (aI G false 1 v25 h25)) fun v26 h26 =>
 aG (pu h26 (aS Tryd.prog .eql 3 true v26 (.int .i64 15))) fun v27 h27 =>
 aT v27
 (aG (pu h27 (gO x0)) fun v28 h28 =>
 aG (pu h28 (aB 3 v28)) fun v29 h29 =>
 aG (pu h29 (aI G false 1 v29 h29)) fun v30 h30 =>
 aG (pu h30 (aB 1 v0)) fun v31 h31 =>
 aG (pu h31 (aI G false 1 v31 h31)) fun v32 h32 =>
 aG (pu h32 (gO x0)) fun v33 h33 =>
 aG (pu h33 (aB 5 v33)) fun v34 h34 =>
 aG (pu h34 (aB 1 v34)) fun v35 h35 =>
 aG (pu h35 (aI G false 1 v35 h35)) fun v36 h36 =>
 aG (pu h36 (aH 1 v36 v11)) fun v37 h37 =>
 aG (pu h37 (aI G false 1 v37 h37)) fun v38 h38 =>
 aG (pu h38 (aH 1 v30 v32)) fun v39 h39 =>
 aG (fP (aO 1 v39 v38 h39)) fun v40 h40 =>
 cQ [(.bool true)] h.length h40)
 (aG (pu h27 (gO x0)) fun v41 h41 =>
 aG (pu h41 (aB 5 v41)) fun v42 h42 =>
 aG (pu h42 (aB 1 v42)) fun v43 h43 =>
 aG (pu h43 (aI G false 1 v43 h43)) fun v44 h44 =>
 aG (pu h44 (gO x0)) fun v45 h45 =>
 aG (pu h45 (aB 3 v45)) fun v46 h46 =>
 aG (pu h46 (aI G false 1 v46 h46)) fun v47 h47 =>
 aG (pu h47 (aB 3 v0)) fun v48 h48 =>
 aG (pu h48 (aI G false 1 v48 h48)) fun v49 h49 =>
 aG (pu h49 (aH 1 v47 v49)) fun v50 h50 =>
 aG (pu h50 (aI G false 1 v50 h50)) fun v51 h51 =>
 aG (pu h51 (aH 1 v44 v11)) fun v52 h52 =>
 aG (fP (aO 1 v52 v51 h52)) fun v53 h53 =>
 cQ [(.bool true)] h.length h53)))
noncomputable def bT.f (G : aE) : Nat → cU
 | 0 => fun _ _ => none
 | k + 1 => fun args h => rM args fun x0 x1 => (bT.c G k (bT.f G k) x0 x1 h)
theorem bT.step (G : aE) (k : Nat) (x0 x1 : AV) (h : aA) : bT.f G (k + 1) [x0, x1] h = bT.c G k (bT.f G k) x0 x1 h := rfl
noncomputable def dU.ann : Ann := gB [] [] [] []
noncomputable def dU.env (G : aE) (k : Nat) (self : cU) : List (Nat × Bool × cU) := []
noncomputable def dU.c (G : aE) (k : Nat) (self : cU) (x0 : AV) (h : aA) : Option (AV × aA) := fH (
 aT x0
 (cQ [(.int .u64 1)] h.length h)
 (cQ [(.int .u64 0)] h.length h))
noncomputable def dU.f (G : aE) : Nat → cU
 | 0 => fun _ _ => none
 | k + 1 => fun args h => oA args fun x0 => (dU.c G k (dU.f G k) x0 h)
noncomputable def bF.ann : Ann := gB [] [] [] [(5, [0, 3])]
noncomputable def bF.env (G : aE) (k : Nat) (self : cU) : List (Nat × Bool × cU) := [(93, false, bE.f G k), (121, true, dU.f G k)]
noncomputable def bF.c (G : aE) (k : Nat) (self : cU) (x0 x1 : AV) (h : aA) : Option (AV × aA) := fH (
 aG (cN x1 h) fun v0 h0 =>
 dO (
 aG (pu h0 (aB 0 v0)) fun v1 h1 =>
 aG (pu h1 (aI G false 1 v1 h1)) fun v2 h2 =>
 aG (pu h2 (aS Tryd.prog .neq 3 true v2 (.int .i64 17))) fun v3 h3 =>
 aT v3
 (aG (pu h3 (gO x0)) fun v4 h4 =>
 aG (pu h4 (aB 3 v4)) fun v5 h5 =>
 aG (pu h5 (aI G false 1 v5 h5)) fun v6 h6 =>
 aG (pu h6 (aB 2 v0)) fun v7 h7 =>
 aG (pu h7 (aI G false 1 v7 h7)) fun v8 h8 =>
 aG (pu h8 (aH 1 v6 v8)) fun v9 h9 =>
 aG (pu h9 (aI G false 1 v9 h9)) fun v10 h10 =>
 aG (pu h10 (aS Tryd.prog .eql 30 true v10 (.int .u64 0))) fun v11 h11 =>
 aG (pu h11 (aB 0 v0)) fun v12 h12 =>
 aG (pu h12 (aI G false 1 v12 h12)) fun v13 h13 =>
 aG (pu h13 (aS Tryd.prog .eql 3 true v13 (.int .i64 18))) fun v14 h14 =>
 aG (pu h14 (aS Tryd.prog .eql 4 false v11 v14)) fun v15 h15 =>
 aG (aX (dU.f G k) [v15] h15) fun v16 h16 =>
 aG (pu h16 (eE .i64 v16)) fun v17 h17 =>
 aG (cW (bE.f G k) [x0, (.int .i64 2), v17] h17) fun v18 h18 =>
 aG (pu h18 (un .not v15)) fun v19 h19 =>
 aT v19
 (some (.ret, [x0, v0], h19))
 (some (.normal, [x0, v0], h19)))
 (some (.normal, [x0, v0], h3))) fun e20 x20 h20 => iL e20
 (aG (pu h20 (aB 5 (aF x20 1))) fun v21 h21 =>
 aG (pu h21 (aI G false 1 v21 h21)) fun v22 h22 =>
 aG (pu h22 (gO (aF x20 0))) fun v23 h23 =>
 aG (pu h23 (aB 4 v23)) fun v24 h24 =>
 aG (fP (aO 1 v24 v22 h24)) fun v25 h25 =>
 cQ [] h.length h25)
 (fun i20 => none)
 (cQ [] h.length h20))
noncomputable def bF.f (G : aE) : Nat → cU
 | 0 => fun _ _ => none
 | k + 1 => fun args h => rM args fun x0 x1 => (bF.c G k (bF.f G k) x0 x1 h)
theorem bF.step (G : aE) (k : Nat) (x0 x1 : AV) (h : aA) : bF.f G (k + 1) [x0, x1] h = bF.c G k (bF.f G k) x0 x1 h := rfl
noncomputable def bL.ann : Ann := gB [] [] [] []
noncomputable def bL.env (G : aE) (k : Nat) (self : cU) : List (Nat × Bool × cU) := []
noncomputable def bL.c (G : aE) (k : Nat) (self : cU) (x0 x1 : AV) (h : aA) : Option (AV × aA) := fH (
 aG (pu h (aS Tryd.prog .and 30 true x0 (.int .u64 4294967295))) fun v0 h0 =>
 aG (pu h0 (aS Tryd.prog .shr 30 true x0 (.int .u64 32))) fun v1 h1 =>
 aG (pu h1 (aS Tryd.prog .and 30 true x1 (.int .u64 4294967295))) fun v2 h2 =>
 aG (pu h2 (aS Tryd.prog .shr 30 true x1 (.int .u64 32))) fun v3 h3 =>
 aG (pu h3 (aS Tryd.prog .mul 30 false v0 v2)) fun v4 h4 =>
 aG (pu h4 (aS Tryd.prog .mul 30 false v1 v2)) fun v5 h5 =>
 aG (pu h5 (aS Tryd.prog .shr 30 true v4 (.int .u64 32))) fun v6 h6 =>
 aG (pu h6 (aS Tryd.prog .add 30 false v5 v6)) fun v7 h7 =>
 aG (pu h7 (aS Tryd.prog .and 30 true v7 (.int .u64 4294967295))) fun v8 h8 =>
 aG (pu h8 (aS Tryd.prog .shr 30 true v7 (.int .u64 32))) fun v9 h9 =>
 aG (pu h9 (aS Tryd.prog .mul 30 false v0 v3)) fun v10 h10 =>
 aG (pu h10 (aS Tryd.prog .add 30 false v8 v10)) fun v11 h11 =>
 aG (pu h11 (aS Tryd.prog .mul 30 false v1 v3)) fun v12 h12 =>
 aG (pu h12 (aS Tryd.prog .add 30 false v12 v9)) fun v13 h13 =>
 aG (pu h13 (aS Tryd.prog .shr 30 true v11 (.int .u64 32))) fun v14 h14 =>
 aG (pu h14 (aS Tryd.prog .add 30 false v13 v14)) fun v15 h15 =>
 aG (pu h15 (aS Tryd.prog .mul 30 false x0 x1)) fun v16 h16 =>
 cQ [v15, v16] h.length h16)
noncomputable def bL.f (G : aE) : Nat → cU
 | 0 => fun _ _ => none
 | k + 1 => fun args h => rM args fun x0 x1 => (bL.c G k (bL.f G k) x0 x1 h)
theorem bL.step (G : aE) (k : Nat) (x0 x1 : AV) (h : aA) : bL.f G (k + 1) [x0, x1] h = bL.c G k (bL.f G k) x0 x1 h := rfl
noncomputable def cG.ann : Ann := gB [] [] [] []
noncomputable def cG.env (G : aE) (k : Nat) (self : cU) : List (Nat × Bool × cU) := []
noncomputable def cG.c (G : aE) (k : Nat) (self : cU) (x0 x1 : AV) (h : aA) : Option (AV × aA) := fH (
 aG (cN x0 h) fun v0 h0 =>
 aG (pu h0 (aB 5 v0)) fun v1 h1 =>
 aG (pu h1 (aI G false 1 v1 h1)) fun v2 h2 =>
 aG (pu h2 (aS Tryd.prog .lss 2 true v2 (.int .i64 0))) fun v3 h3 =>
 aG (gd v3 false h3 (pu h3 (aB 5 v0))) fun v4 h4 =>
 aG (gd v3 false h4 (pu h4 (aI G false 1 v4 h4))) fun v5 h5 =>
 aG (gd v3 false h5 (pu h5 (aS Tryd.prog .gtr 2 true v5 (.int .i64 63)))) fun v6 h6 =>
 aG (pu h6 (fJ v3 (.bool true) v6)) fun v7 h7 =>
 aT v7
 (cQ [(.int .u64 0), (.bool false)] h.length h7)
 (aG (pu h7 (aB 0 v0)) fun v8 h8 =>
 aG (pu h8 (aI G false 1 v8 h8)) fun v9 h9 =>
 aG (pu h9 (aS Tryd.prog .eql 3 true v9 (.int .i64 10))) fun v10 h10 =>
 aT v10
 (aG (pu h10 (aB 5 v0)) fun v11 h11 =>
 aG (pu h11 (aI G false 1 v11 h11)) fun v12 h12 =>
 aG (pu h12 (aS Tryd.prog .shl 30 false x1 v12)) fun v13 h13 =>
 cQ [v13, (.bool true)] h.length h13)
 (aG (pu h10 (aB 0 v0)) fun v14 h14 =>
 aG (pu h14 (aI G false 1 v14 h14)) fun v15 h15 =>
 aG (pu h15 (aS Tryd.prog .eql 3 true v15 (.int .i64 11))) fun v16 h16 =>
 aT v16
 (aG (pu h16 (aB 5 v0)) fun v17 h17 =>
 aG (pu h17 (aI G false 1 v17 h17)) fun v18 h18 =>
 aG (pu h18 (aS Tryd.prog .shr 30 false x1 v18)) fun v19 h19 =>
 cQ [v19, (.bool true)] h.length h19)
 (aG (pu h16 (eE .i64 x1)) fun v20 h20 =>
 aG (pu h20 (aB 5 v0)) fun v21 h21 =>
 aG (pu h21 (aI G false 1 v21 h21)) fun v22 h22 =>
 aG (pu h22 (aS Tryd.prog .shr 2 false v20 v22)) fun v23 h23 =>
 aG (pu h23 (eE .u64 v23)) fun v24 h24 =>
 cQ [v24, (.bool true)] h.length h24))))
noncomputable def cG.f (G : aE) : Nat → cU
 | 0 => fun _ _ => none
 | k + 1 => fun args h => rM args fun x0 x1 => (cG.c G k (cG.f G k) x0 x1 h)
theorem cG.step (G : aE) (k : Nat) (x0 x1 : AV) (h : aA) : cG.f G (k + 1) [x0, x1] h = cG.c G k (cG.f G k) x0 x1 h := rfl
noncomputable def cZ.ann : Ann := gB [] [] [] [(24, [1, 2, 3, 4, 13, 61])]
noncomputable def cZ.env (G : aE) (k : Nat) (self : cU) : List (Nat × Bool × cU) := [(85, true, bL.f G k), (121, true, dU.f G k), (122, true, cG.f G k)]
noncomputable def cZ.c (G : aE) (k : Nat) (self : cU) (x0 x1 x2 x3 : AV) (h : aA) : Option (AV × aA) := fH (
 aG (cN x0 h) fun v0 h0 =>
 aG (pu h0 (aB 0 v0)) fun v1 h1 =>
 aG (pu h1 (aI G false 1 v1 h1)) fun v2 h2 =>
 aG (pu h2 (aS Tryd.prog .eql 3 true v2 (.int .i64 1))) fun v3 h3 =>
 aT v3
 (aG (pu h3 (aB 5 v0)) fun v4 h4 =>
 aG (pu h4 (aI G false 1 v4 h4)) fun v5 h5 =>
 aG (pu h5 (eE .u64 v5)) fun v6 h6 =>
 cQ [v6, (.bool true)] h.length h6)
 (aG (pu h3 (aS Tryd.prog .eql 3 true v2 (.int .i64 2))) fun v7 h7 =>
 aT v7
 (cQ [x1, (.bool true)] h.length h7)
 (aG (pu h7 (aS Tryd.prog .eql 3 true v2 (.int .i64 3))) fun v8 h8 =>
 aT v8
 (aG (pu h8 (aS Tryd.prog .add 30 false x1 x2)) fun v9 h9 =>
 cQ [v9, (.bool true)] h.length h9)
 (aG (pu h8 (aS Tryd.prog .eql 3 true v2 (.int .i64 4))) fun v10 h10 =>
 aT v10
 (aG (pu h10 (aS Tryd.prog .sub 30 false x1 x2)) fun v11 h11 =>
 cQ [v11, (.bool true)] h.length h11)
 (aG (pu h10 (aS Tryd.prog .eql 3 true v2 (.int .i64 5))) fun v12 h12 =>
 aT v12
 (aG (pu h12 (aS Tryd.prog .mul 30 false x1 x2)) fun v13 h13 =>
 cQ [v13, (.bool true)] h.length h13)
 (aG (pu h12 (aS Tryd.prog .eql 3 true v2 (.int .i64 6))) fun v14 h14 =>
 aT v14
 (aG (aX (bL.f G k) [x1, x2] h14) fun v15 h15 =>
 aG (pu h15 (aW v15 0)) fun v16 h16 =>
 aG (pu h16 (aW v15 1)) fun v17 h17 =>
 cQ [v16, (.bool true)] h.length h17)
 (aG (pu h14 (aS Tryd.prog .eql 3 true v2 (.int .i64 7))) fun v18 h18 =>
 aT v18
 (aG (pu h18 (aS Tryd.prog .and 30 false x1 x2)) fun v19 h19 =>
 cQ [v19, (.bool true)] h.length h19)
 (aG (pu h18 (aS Tryd.prog .eql 3 true v2 (.int .i64 8))) fun v20 h20 =>
 aT v20
 (aG (pu h20 (aS Tryd.prog .or 30 false x1 x2)) fun v21 h21 =>
 cQ [v21, (.bool true)] h.length h21)
 (aG (pu h20 (aS Tryd.prog .eql 3 true v2 (.int .i64 9))) fun v22 h22 =>
 aT v22
 (aG (pu h22 (aS Tryd.prog .xor 30 false x1 x2)) fun v23 h23 =>
 cQ [v23, (.bool true)] h.length h23)
 (dO (
 aG (pu h22 (aS Tryd.prog .eql 3 true v2 (.int .i64 10))) fun v24 h24 =>
 aT v24
 (some (.normal, [x1, x2, x3, v0, v2, v24], h24))
 (aG (pu h24 (aS Tryd.prog .eql 3 true v2 (.int .i64 11))) fun v25 h25 =>
 aT v25
 (some (.normal, [x1, x2, x3, v0, v2, v25], h25))
 (aG (pu h25 (aS Tryd.prog .eql 3 true v2 (.int .i64 12))) fun v26 h26 =>
 some (.normal, [x1, x2, x3, v0, v2, v26], h26)))) fun e27 x27 h27 => iL e27
 (aT (aF x27 5)
 (aG (pu h27 (aI G true 6 (aF x27 3) h27)) fun v28 h28 =>
 aG (aX (cG.f G k) [v28, (aF x27 0)] h28) fun v29 h29 =>
 aG (pu h29 (aW v29 0)) fun v30 h30 =>
 aG (pu h30 (aW v29 1)) fun v31 h31 =>
 cQ [v30, v31] h.length h31)
 (aG (pu h27 (aS Tryd.prog .eql 3 true (aF x27 4) (.int .i64 13))) fun v32 h32 =>
 aT v32
 (aG (pu h32 (aS Tryd.prog .lss 30 false (aF x27 0) (aF x27 1))) fun v33 h33 =>
 aG (aX (dU.f G k) [v33] h33) fun v34 h34 =>
 cQ [v34, (.bool true)] h.length h34)
 (aG (pu h32 (aS Tryd.prog .eql 3 true (aF x27 4) (.int .i64 14))) fun v35 h35 =>
 aT v35
 (aG (pu h35 (aS Tryd.prog .neq 30 true (aF x27 0) (.int .u64 0))) fun v36 h36 =>
 aT v36
 (cQ [(aF x27 1), (.bool true)] h.length h36)
 (cQ [(aF x27 2), (.bool true)] h.length h36))
 (cQ [(.int .u64 0), (.bool false)] h.length h35))))
 (fun i27 => if i27 = 0 then (cQ [(.int .u64 0), (.bool false)] h.length h27) else (none))
 (cQ [.undef, .undef] h.length h27)))))))))))
noncomputable def cZ.f (G : aE) : Nat → cU
 | 0 => fun _ _ => none
 | k + 1 => fun args h => aFv args fun x0 x1 x2 x3 => (cZ.c G k (cZ.f G k) x0 x1 x2 x3 h)
theorem cZ.step (G : aE) (k : Nat) (x0 x1 x2 x3 : AV) (h : aA) : cZ.f G (k + 1) [x0, x1, x2, x3] h = cZ.c G k (cZ.f G k) x0 x1 x2 x3 h := rfl
noncomputable def cD.ann : Ann := gB [] [] [] [(14, [0, 3, 4]), (9, [0, 3, 15, 22]), (5, [0, 3, 15, 16])]
noncomputable def cD.env (G : aE) (k : Nat) (self : cU) : List (Nat × Bool × cU) := [(110, false, bT.f G k), (111, false, bF.f G k), (112, true, cZ.f G k)]
noncomputable def cD.c (G : aE) (k : Nat) (self : cU) (x0 x1 : AV) (h : aA) : Option (AV × aA) := fH (
 aG (cN x1 h) fun v0 h0 =>
 aG (pu h0 (gO x0)) fun v1 h1 =>
 aG (pu h1 (aB 4 v1)) fun v2 h2 =>
 aG (pu h2 (aI G false 1 v2 h2)) fun v3 h3 =>
 aG (pu h3 (aS Tryd.prog .add 3 true v3 (.int .i64 1))) fun v4 h4 =>
 aG (pu h4 (gO x0)) fun v5 h5 =>
 aG (pu h5 (aB 4 v5)) fun v6 h6 =>
 aG (fP (aO 1 v6 v4 h6)) fun v7 h7 =>
 dO (
 aG (pu h7 (aB 0 v0)) fun v8 h8 =>
 aG (pu h8 (aI G false 1 v8 h8)) fun v9 h9 =>
 dO (
 aG (pu h9 (aS Tryd.prog .eql 3 true v9 (.int .i64 15))) fun v10 h10 =>
 aT v10
 (some (.normal, [x0, v0, v9, v10], h10))
 (aG (pu h10 (aS Tryd.prog .eql 3 true v9 (.int .i64 16))) fun v11 h11 =>
 some (.normal, [x0, v0, v9, v11], h11))) fun e12 x12 h12 => iL e12
 (aT (aF x12 3)
 (aG (pu h12 (aI G true 6 (aF x12 1) h12)) fun v13 h13 =>
 aG (cW (bT.f G k) [(aF x12 0), v13] h13) fun v14 h14 =>
 some (.ret, [(aF x12 0), (aF x12 1), v14], h14))
 (dO (
 aG (pu h12 (aS Tryd.prog .eql 3 true (aF x12 2) (.int .i64 17))) fun v15 h15 =>
 aT v15
 (some (.normal, [(aF x12 0), (aF x12 1), (aF x12 2), v15], h15))
 (aG (pu h15 (aS Tryd.prog .eql 3 true (aF x12 2) (.int .i64 18))) fun v16 h16 =>
 aT v16
 (some (.normal, [(aF x12 0), (aF x12 1), (aF x12 2), v16], h16))
 (aG (pu h16 (aS Tryd.prog .eql 3 true (aF x12 2) (.int .i64 19))) fun v17 h17 =>
 some (.normal, [(aF x12 0), (aF x12 1), (aF x12 2), v17], h17)))) fun e18 x18 h18 => iL e18
 (aT (aF x18 3)
 (aG (pu h18 (aI G true 6 (aF x18 1) h18)) fun v19 h19 =>
 aG (cW (bF.f G k) [(aF x18 0), v19] h19) fun v20 h20 =>
 some (.ret, [(aF x18 0), (aF x18 1), (.bool true)], h20))
 (aG (pu h18 (aS Tryd.prog .eql 3 true (aF x18 2) (.int .i64 20))) fun v21 h21 =>
 aT v21
 (aG (pu h21 (aB 5 (aF x18 1))) fun v22 h22 =>
 aG (pu h22 (aI G false 1 v22 h22)) fun v23 h23 =>
 aG (pu h23 (gO (aF x18 0))) fun v24 h24 =>
 aG (pu h24 (aB 5 v24)) fun v25 h25 =>
 aG (pu h25 (aB 0 v25)) fun v26 h26 =>
 aG (fP (aO 1 v26 v23 h26)) fun v27 h27 =>
 some (.ret, [(aF x18 0), (aF x18 1), (.bool false)], h27))
 (some (.normal, [(aF x18 0), (aF x18 1), .undef], h21))))
 (fun i18 => if i18 = 0 then (some (.normal, [(aF x18 0), (aF x18 1), .undef], h18)) else (some (.exit i18, [(aF x18 0), (aF x18 1), .undef], h18)))
 (some (.ret, [(aF x18 0), (aF x18 1), .undef], h18))))
 (fun i12 => if i12 = 0 then (some (.normal, [(aF x12 0), (aF x12 1), .undef], h12)) else (some (.exit i12, [(aF x12 0), (aF x12 1), .undef], h12)))
 (some (.ret, [(aF x12 0), (aF x12 1), .undef], h12))) fun e28 x28 h28 => iL e28
 (aG (pu h28 (aI G true 6 (aF x28 1) h28)) fun v29 h29 =>
 aG (pu h29 (gO (aF x28 0))) fun v30 h30 =>
 aG (pu h30 (aB 3 v30)) fun v31 h31 =>
 aG (pu h31 (aI G false 1 v31 h31)) fun v32 h32 =>
 aG (pu h32 (aB 2 (aF x28 1))) fun v33 h33 =>
 aG (pu h33 (aI G false 1 v33 h33)) fun v34 h34 =>
 aG (pu h34 (aH 1 v32 v34)) fun v35 h35 =>
 aG (pu h35 (aI G false 1 v35 h35)) fun v36 h36 =>
 aG (pu h36 (gO (aF x28 0))) fun v37 h37 =>
 aG (pu h37 (aB 3 v37)) fun v38 h38 =>
 aG (pu h38 (aI G false 1 v38 h38)) fun v39 h39 =>
 aG (pu h39 (aB 3 (aF x28 1))) fun v40 h40 =>
 aG (pu h40 (aI G false 1 v40 h40)) fun v41 h41 =>
 aG (pu h41 (aH 1 v39 v41)) fun v42 h42 =>
 aG (pu h42 (aI G false 1 v42 h42)) fun v43 h43 =>
 aG (pu h43 (gO (aF x28 0))) fun v44 h44 =>
 aG (pu h44 (aB 3 v44)) fun v45 h45 =>
 aG (pu h45 (aI G false 1 v45 h45)) fun v46 h46 =>
 aG (pu h46 (aB 4 (aF x28 1))) fun v47 h47 =>
 aG (pu h47 (aI G false 1 v47 h47)) fun v48 h48 =>
 aG (pu h48 (aH 1 v46 v48)) fun v49 h49 =>
 aG (pu h49 (aI G false 1 v49 h49)) fun v50 h50 =>
 aG (aX (cZ.f G k) [v29, v36, v43, v50] h50) fun v51 h51 =>
 aG (pu h51 (aW v51 0)) fun v52 h52 =>
 aG (pu h52 (aW v51 1)) fun v53 h53 =>
 aT v53
 (aG (pu h53 (gO (aF x28 0))) fun v54 h54 =>
 aG (pu h54 (aB 3 v54)) fun v55 h55 =>
 aG (pu h55 (aI G false 1 v55 h55)) fun v56 h56 =>
 aG (pu h56 (aB 1 (aF x28 1))) fun v57 h57 =>
 aG (pu h57 (aI G false 1 v57 h57)) fun v58 h58 =>
 aG (pu h58 (aH 1 v56 v58)) fun v59 h59 =>
 aG (fP (aO 1 v59 v52 h59)) fun v60 h60 =>
 cQ [(.bool true)] h.length h60)
 (cQ [(.bool true)] h.length h53))
 (fun i28 => none)
 (cQ [(aF x28 2)] h.length h28))
noncomputable def cD.f (G : aE) : Nat → cU
 | 0 => fun _ _ => none
 | k + 1 => fun args h => rM args fun x0 x1 => (cD.c G k (cD.f G k) x0 x1 h)
theorem cD.step (G : aE) (k : Nat) (x0 x1 : AV) (h : aA) : cD.f G (k + 1) [x0, x1] h = cD.c G k (cD.f G k) x0 x1 h := rfl
noncomputable def cH.ann : Ann := aFS [15] [] [(3, [2, 3, 4, 8, 9])] [] [(3, [(9, 7, 91, 2)])] []
noncomputable def cH.env (G : aE) (k : Nat) (self : cU) : List (Nat × Bool × cU) := [(92, false, aK.f G k), (93, false, bE.f G k), (94, false, cD.f G k)]
noncomputable def cH.l3 (G : aE) (k n0 : Nat) (self : cU) (lp : eH) : eH := fun xs h0 => jH n0 xs h0 fun h =>
 aG (pu h (gO (aF xs 4))) fun v14 h14 =>
 aG (pu h14 (aB 4 v14)) fun v15 h15 =>
 aG (pu h15 (aI G false 1 v15 h15)) fun v16 h16 =>
 aG (pu h16 (aB 0 (aF xs 2))) fun v17 h17 =>
 aG (pu h17 (aI G false 1 v17 h17)) fun v18 h18 =>
 aG (pu h18 (aY v18)) fun v19 h19 =>
 aG (pu h19 (aS Tryd.prog .geq 3 false v16 v19)) fun v20 h20 =>
 aT v20
 (aG (pu h20 (gO (aF xs 4))) fun v21 h21 =>
 aG (pu h21 (aB 5 v21)) fun v22 h22 =>
 aG (pu h22 (aB 0 v22)) fun v23 h23 =>
 aG (fP (aO 1 v23 (.int .i64 3) h23)) fun v24 h24 =>
 aG (pu h24 (gO (aF xs 4))) fun v25 h25 =>
 aG (pu h25 (aB 5 v25)) fun v26 h26 =>
 aG (pu h26 (aI G true 4 v26 h26)) fun v27 h27 =>
 aG (fP (aO 4 (aF xs 3) v27 h27)) fun v28 h28 =>
 some (.ret, [(aF xs 0), (aF xs 1), (aF xs 2), (aF xs 3), (aF xs 4)], h28))
 (aG (pu h20 (gO (aF xs 4))) fun v29 h29 =>
 aG (pu h29 (aB 5 v29)) fun v30 h30 =>
 aG (pu h30 (aB 3 v30)) fun v31 h31 =>
 aG (pu h31 (aI G false 1 v31 h31)) fun v32 h32 =>
 aG (pu h32 (aS Tryd.prog .eql 2 false v32 (aF xs 0))) fun v33 h33 =>
 aT v33
 (aG (pu h33 (gO (aF xs 4))) fun v34 h34 =>
 aG (pu h34 (aB 5 v34)) fun v35 h35 =>
 aG (pu h35 (aB 0 v35)) fun v36 h36 =>
 aG (fP (aO 1 v36 (.int .i64 4) h36)) fun v37 h37 =>
 aG (pu h37 (gO (aF xs 4))) fun v38 h38 =>
 aG (pu h38 (aB 5 v38)) fun v39 h39 =>
 aG (pu h39 (aI G true 4 v39 h39)) fun v40 h40 =>
 aG (fP (aO 4 (aF xs 3) v40 h40)) fun v41 h41 =>
 some (.ret, [(aF xs 0), (aF xs 1), (aF xs 2), (aF xs 3), (aF xs 4)], h41))
 (aG (pu h33 (aS Tryd.prog .neq 144 true (aF xs 1) .nilf)) fun v42 h42 =>
 aG (gd v42 true h42 (some ((aF xs 1), h42))) fun v43 h43 =>
 aG (gd v42 true h43 (some ((aF xs 4), h43))) fun v44 h44 =>
 aG (gd v42 true h44 (pu h44 (gO v44))) fun v45 h45 =>
 aG (gd v42 true h45 (pu h45 (aB 4 v45))) fun v46 h46 =>
 aG (gd v42 true h46 (pu h46 (aI G false 1 v46 h46))) fun v47 h47 =>
 aG (gd v42 true h47 (some ((aF xs 4), h47))) fun v48 h48 =>
 aG (gd v42 true h48 (pu h48 (gO v48))) fun v49 h49 =>
 aG (gd v42 true h49 (pu h49 (aB 3 v49))) fun v50 h50 =>
 aG (gd v42 true h50 (pu h50 (aI G false 1 v50 h50))) fun v51 h51 =>
 aG (gd v42 true h51 (nT (fZ (cH.env G k self)) v43 [v47, v51] h51)) fun v52 h52 =>
 aG (gd v42 true h52 (pu h52 (un .not v52))) fun v53 h53 =>
 aG (pu h53 (fJ v42 v53 (.bool false))) fun v54 h54 =>
 aT v54
 (aG (pu h54 (gO (aF xs 4))) fun v55 h55 =>
 aG (pu h55 (aB 5 v55)) fun v56 h56 =>
 aG (pu h56 (aI G true 4 v56 h56)) fun v57 h57 =>
 aG (fP (aO 4 (aF xs 3) v57 h57)) fun v58 h58 =>
 some (.ret, [(aF xs 0), (aF xs 1), (aF xs 2), (aF xs 3), (aF xs 4)], h58))
 (aG (pu h54 (gO (aF xs 4))) fun v59 h59 =>
 aG (pu h59 (aB 5 v59)) fun v60 h60 =>
 aG (pu h60 (aB 3 v60)) fun v61 h61 =>
 aG (pu h61 (aI G false 1 v61 h61)) fun v62 h62 =>
 aG (pu h62 (aS Tryd.prog .add 2 true v62 (.int .i64 1))) fun v63 h63 =>
 aG (pu h63 (gO (aF xs 4))) fun v64 h64 =>
 aG (pu h64 (aB 5 v64)) fun v65 h65 =>
 aG (pu h65 (aB 3 v65)) fun v66 h66 =>
 aG (fP (aO 1 v66 v63 h66)) fun v67 h67 =>
 aG (pu h67 (gO (aF xs 4))) fun v68 h68 =>
 aG (pu h68 (aB 4 v68)) fun v69 h69 =>
 aG (pu h69 (aI G false 1 v69 h69)) fun v70 h70 =>
 aG (cW (bE.f G k) [(aF xs 4), (.int .i64 1), v70] h70) fun v71 h71 =>
 aG (pu h71 (aB 0 (aF xs 2))) fun v72 h72 =>
 aG (pu h72 (aI G false 1 v72 h72)) fun v73 h73 =>
 aG (pu h73 (gO (aF xs 4))) fun v74 h74 =>
 aG (pu h74 (aB 4 v74)) fun v75 h75 =>
 aG (pu h75 (aI G false 1 v75 h75)) fun v76 h76 =>
 aG (pu h76 (aH 6 v73 v76)) fun v77 h77 =>
 aG (pu h77 (aI G true 6 v77 h77)) fun v78 h78 =>
 aG (cW (cD.f G k) [(aF xs 4), v78] h78) fun v79 h79 =>
 aG (pu h79 (un .not v79)) fun v80 h80 =>
 aT v80
 (aG (pu h80 (gO (aF xs 4))) fun v81 h81 =>
 aG (pu h81 (aB 5 v81)) fun v82 h82 =>
 aG (pu h82 (aI G true 4 v82 h82)) fun v83 h83 =>
 aG (fP (aO 4 (aF xs 3) v83 h83)) fun v84 h84 =>
 some (.ret, [(aF xs 0), (aF xs 1), (aF xs 2), (aF xs 3), (aF xs 4)], h84))
 (lp [(aF xs 0), (aF xs 1), (aF xs 2), (aF xs 3), (aF xs 4)] h80))))
noncomputable def cH.c (G : aE) (k : Nat) (self : cU) (x0 x1 x2 x3 : AV) (h : aA) : Option (AV × aA) := fH (
 aG (cN x0 h) fun v0 h0 =>
 aG (eM 73 (.agg [(.int .i64 0), .nils, .nils, (.int .i64 0)]) h0) fun v1 h1 =>
 aG (pu h1 (aI G true 3 v0 h1)) fun v2 h2 =>
 aG (pu h2 (aB 1 v0)) fun v3 h3 =>
 aG (pu h3 (aI G false 1 v3 h3)) fun v4 h4 =>
 aG (fS 30 1 (.int .u64 0) v4 v4 h4) fun v5 h5 =>
 aG (pu h5 (cA [(0, 3), (3, 1), (4, 1), (5, 4)] [.nils, (.int .i64 0), (.int .i64 0), .nils, (.int .i64 0), (.int .i64 0), .nils, .nils, (.int .i64 0)] [(0, v2), (1, v5)])) fun v6 h6 =>
 aG (eM 147 v6 h6) fun v7 h7 =>
 aG (cW (aK.f G k) [x1] h7) fun v8 h8 =>
 aG (pu h8 (gO v7)) fun v9 h9 =>
 aG (pu h9 (aB 5 v9)) fun v10 h10 =>
 aG (pu h10 (aB 1 v10)) fun v11 h11 =>
 aG (fP (aO 1 v11 v8 h11)) fun v12 h12 =>
 vK [(v7, 7, 91, 2)] h12 fun hv13 =>
 dO (cM (cH.l3 G k hv13.length self) k [x2, x3, v0, v1, v7] hv13) fun e13 x13 h13 => iL e13
 (none)
 (fun i13 => if i13 = 0 then (wI [aI G true 4 (aF x13 3) h13] h.length h13) else (none))
 (wI [aI G true 4 (aF x13 3) h13] h.length h13))
noncomputable def cH.f (G : aE) : Nat → cU
 | 0 => fun _ _ => none
 | k + 1 => fun args h => aFv args fun x0 x1 x2 x3 => (cH.c G k (cH.f G k) x0 x1 x2 x3 h)
theorem cH.step (G : aE) (k : Nat) (x0 x1 x2 x3 : AV) (h : aA) : cH.f G (k + 1) [x0, x1, x2, x3] h = cH.c G k (cH.f G k) x0 x1 x2 x3 h := rfl
noncomputable def dJ.ann : Ann := gB [] [] [] []
noncomputable def dJ.env (G : aE) (k : Nat) (self : cU) : List (Nat × Bool × cU) := [(43, true, bV.f G k), (69, true, cY.f G k), (70, false, cH.f G k)]
noncomputable def dJ.c (G : aE) (k : Nat) (self : cU) (x0 x1 x2 : AV) (h : aA) : Option (AV × aA) := fH (
 aG (cN x0 h) fun v0 h0 =>
 aG (eM 73 (.agg [(.int .i64 0), .nils, .nils, (.int .i64 0)]) h0) fun v1 h1 =>
 aG (pu h1 (aI G true 3 v0 h1)) fun v2 h2 =>
 aG (aX (bV.f G k) [v2] h2) fun v3 h3 =>
 aG (pu h3 (aS Tryd.prog .neq 33 true v3 .nili)) fun v4 h4 =>
 aT v4
 (aG (pu h4 (cA [(0, 1), (1, 1), (2, 1), (3, 1)] [(.int .i64 0), .nils, .nils, (.int .i64 0)] [])) fun v5 h5 =>
 aG (fP (aO 4 v1 v5 h5)) fun v6 h6 =>
 wI [aI G true 4 v1 h6, some v3] h.length h6)
 (aG (pu h4 (aI G true 3 v0 h4)) fun v7 h7 =>
 aG (aX (cY.f G k) [v7, x1, x2] h7) fun v8 h8 =>
 aG (pu h8 (aS Tryd.prog .neq 33 true v8 .nili)) fun v9 h9 =>
 aT v9
 (aG (pu h9 (cA [(0, 1), (1, 1), (2, 1), (3, 1)] [(.int .i64 0), .nils, .nils, (.int .i64 0)] [])) fun v10 h10 =>
 aG (fP (aO 4 v1 v10 h10)) fun v11 h11 =>
 wI [aI G true 4 v1 h11, some v8] h.length h11)
 (aG (pu h9 (aI G true 3 v0 h9)) fun v12 h12 =>
 aG (cW (cH.f G k) [v12, x1, x2, .nilf] h12) fun v13 h13 =>
 aG (fP (aO 4 v1 v13 h13)) fun v14 h14 =>
 wI [aI G true 4 v1 h14, some .nili] h.length h14)))
noncomputable def dJ.f (G : aE) : Nat → cU
 | 0 => fun _ _ => none
 | k + 1 => fun args h => aBs args fun x0 x1 x2 => (dJ.c G k (dJ.f G k) x0 x1 x2 h)
theorem dJ.step (G : aE) (k : Nat) (x0 x1 x2 : AV) (h : aA) : dJ.f G (k + 1) [x0, x1, x2] h = dJ.c G k (dJ.f G k) x0 x1 x2 h := rfl
noncomputable def aL.ann : Ann := gB [] [] [(4, [0, 1, 4, 5])] []
noncomputable def aL.env (G : aE) (k : Nat) (self : cU) : List (Nat × Bool × cU) := []
noncomputable def aL.l4 (G : aE) (k n0 : Nat) (self : cU) (lp : eH) : eH := fun xs h0 => jH n0 xs h0 fun h =>
 aG (pu h (aY (aF xs 0))) fun v4 h4 =>
 aG (pu h4 (aS Tryd.prog .lss 3 false (aF xs 3) v4)) fun v5 h5 =>
 aT v5
 (aG (pu h5 (aH 1 (aF xs 0) (aF xs 3))) fun v6 h6 =>
 aG (pu h6 (aI G false 1 v6 h6)) fun v7 h7 =>
 aG (pu h7 (aH 1 (aF xs 1) (aF xs 3))) fun v8 h8 =>
 aG (pu h8 (aI G false 1 v8 h8)) fun v9 h9 =>
 aG (pu h9 (aS Tryd.prog .eql 30 false v7 v9)) fun v10 h10 =>
 aG (pu h10 (un .not v10)) fun v11 h11 =>
 aT v11
 (some (.ret, [(aF xs 0), (aF xs 1), (.bool false), (aF xs 3)], h11))
 (aG (pu h11 (aS Tryd.prog .add 3 true (aF xs 3) (.int .i64 1))) fun v12 h12 =>
 lp [(aF xs 0), (aF xs 1), (aF xs 2), v12] h12))
 (some (.exit 0, [(aF xs 0), (aF xs 1), (aF xs 2), (aF xs 3)], h5))
noncomputable def aL.c (G : aE) (k : Nat) (self : cU) (x0 x1 : AV) (h : aA) : Option (AV × aA) := fH (
 aG (pu h (aY x0)) fun v0 h0 =>
 aG (pu h0 (aY x1)) fun v1 h1 =>
 aG (pu h1 (aS Tryd.prog .neq 3 false v0 v1)) fun v2 h2 =>
 aT v2
 (cQ [(.bool false)] h.length h2)
 (dO (cM (aL.l4 G k h2.length self) k [x0, x1, (.bool false), (.int .i64 0)] h2) fun e3 x3 h3 => iL e3
 (none)
 (fun i3 => if i3 = 0 then (cQ [(.bool true)] h.length h3) else (none))
 (cQ [(aF x3 2)] h.length h3)))
noncomputable def aL.f (G : aE) : Nat → cU
 | 0 => fun _ _ => none
 | k + 1 => fun args h => rM args fun x0 x1 => (aL.c G k (aL.f G k) x0 x1 h)
theorem aL.step (G : aE) (k : Nat) (x0 x1 : AV) (h : aA) : aL.f G (k + 1) [x0, x1] h = aL.c G k (aL.f G k) x0 x1 h := rfl
noncomputable def bG.ann : Ann := gB [] [] [(4, [0, 1, 4, 5])] []
noncomputable def bG.env (G : aE) (k : Nat) (self : cU) : List (Nat × Bool × cU) := []
noncomputable def bG.l4 (G : aE) (k n0 : Nat) (self : cU) (lp : eH) : eH := fun xs h0 => jH n0 xs h0 fun h =>
 aG (pu h (aY (aF xs 0))) fun v4 h4 =>
 aG (pu h4 (aS Tryd.prog .lss 3 false (aF xs 3) v4)) fun v5 h5 =>
 aT v5
 (aG (pu h5 (aH 1 (aF xs 0) (aF xs 3))) fun v6 h6 =>
 aG (pu h6 (aI G false 1 v6 h6)) fun v7 h7 =>
 aG (pu h7 (aH 1 (aF xs 1) (aF xs 3))) fun v8 h8 =>
 aG (pu h8 (aI G false 1 v8 h8)) fun v9 h9 =>
 aG (pu h9 (aS Tryd.prog .eql 3 false v7 v9)) fun v10 h10 =>
 aG (pu h10 (un .not v10)) fun v11 h11 =>
 aT v11
 (some (.ret, [(aF xs 0), (aF xs 1), (.bool false), (aF xs 3)], h11))
 (aG (pu h11 (aS Tryd.prog .add 3 true (aF xs 3) (.int .i64 1))) fun v12 h12 =>
 lp [(aF xs 0), (aF xs 1), (aF xs 2), v12] h12))
 (some (.exit 0, [(aF xs 0), (aF xs 1), (aF xs 2), (aF xs 3)], h5))
noncomputable def bG.c (G : aE) (k : Nat) (self : cU) (x0 x1 : AV) (h : aA) : Option (AV × aA) := fH (
 aG (pu h (aY x0)) fun v0 h0 =>
 aG (pu h0 (aY x1)) fun v1 h1 =>
 aG (pu h1 (aS Tryd.prog .neq 3 false v0 v1)) fun v2 h2 =>
 aT v2
 (cQ [(.bool false)] h.length h2)
 (dO (cM (bG.l4 G k h2.length self) k [x0, x1, (.bool false), (.int .i64 0)] h2) fun e3 x3 h3 => iL e3
 (none)
 (fun i3 => if i3 = 0 then (cQ [(.bool true)] h.length h3) else (none))
 (cQ [(aF x3 2)] h.length h3)))
noncomputable def bG.f (G : aE) : Nat → cU
 | 0 => fun _ _ => none
 | k + 1 => fun args h => rM args fun x0 x1 => (bG.c G k (bG.f G k) x0 x1 h)
noncomputable def bY.ann : Ann := gB [] [7] [(15, [2, 7, 44, 45, 46])] [(13, [2, 6]), (12, [1, 2, 5, 36])]
noncomputable def bY.env (G : aE) (k : Nat) (self : cU) : List (Nat × Bool × cU) := [(53, false, aM.f G k), (54, false, aC.f G k)]
noncomputable def bY.l15 (G : aE) (k n0 : Nat) (self : cU) (lp : eH) : eH := fun xs h0 => jH n0 xs h0 fun h =>
 aG (pu h (aS Tryd.prog .lss 3 false (aF xs 4) (aF xs 3))) fun v34 h34 =>
 aT v34
 (aG (pu h34 (aH 1 (aF xs 2) (aF xs 4))) fun v35 h35 =>
 aG (pu h35 (aI G false 1 v35 h35)) fun v36 h36 =>
 aG (pu h36 (aS Tryd.prog .geq 2 true v36 (.int .i64 0))) fun v37 h37 =>
 aG (gd v37 true h37 (some (v36, h37))) fun v38 h38 =>
 aG (gd v37 true h38 (pu h38 (aB 0 (aF xs 0)))) fun v39 h39 =>
 aG (gd v37 true h39 (pu h39 (aI G false 1 v39 h39))) fun v40 h40 =>
 aG (gd v37 true h40 (pu h40 (aY v40))) fun v41 h41 =>
 aG (gd v37 true h41 (pu h41 (aS Tryd.prog .lss 2 false v38 v41))) fun v42 h42 =>
 aG (pu h42 (fJ v37 v42 (.bool false))) fun v43 h43 =>
 aT v43
 (aG (bC 1 1 (.int .i64 0) [(0, v36)] h43) fun v44 h44 =>
 aG (dX 3 1 (aF xs 1) v44 h44) fun v45 h45 =>
 aG (pu h45 (aS Tryd.prog .add 3 true (aF xs 4) (.int .i64 1))) fun v46 h46 =>
 lp [(aF xs 0), v45, (aF xs 2), (aF xs 3), v46] h46)
 (aG (pu h43 (aS Tryd.prog .add 3 true (aF xs 4) (.int .i64 1))) fun v47 h47 =>
 lp [(aF xs 0), (aF xs 1), (aF xs 2), (aF xs 3), v47] h47))
 (some (.exit 1, [(aF xs 0), (aF xs 1), (aF xs 2), (aF xs 3), (aF xs 4)], h34))
noncomputable def bY.c (G : aE) (k : Nat) (self : cU) (x0 x1 : AV) (h : aA) : Option (AV × aA) := fH (
 aG (cN x0 h) fun v0 h0 =>
 aG (pu h0 (aS Tryd.prog .lss 3 true x1 (.int .i64 0))) fun v1 h1 =>
 aG (gd v1 false h1 (some (x1, h1))) fun v2 h2 =>
 aG (gd v1 false h2 (pu h2 (aB 0 v0))) fun v3 h3 =>
 aG (gd v1 false h3 (pu h3 (aI G false 1 v3 h3))) fun v4 h4 =>
 aG (gd v1 false h4 (pu h4 (aY v4))) fun v5 h5 =>
 aG (gd v1 false h5 (pu h5 (aS Tryd.prog .geq 3 false v2 v5))) fun v6 h6 =>
 aG (pu h6 (fJ v1 (.bool true) v6)) fun v7 h7 =>
 aT v7
 (cQ [.nils] h.length h7)
 (aG (pu h7 (aB 0 v0)) fun v8 h8 =>
 aG (pu h8 (aI G false 1 v8 h8)) fun v9 h9 =>
 aG (pu h9 (aH 6 v9 x1)) fun v10 h10 =>
 aG (pu h10 (aI G true 6 v10 h10)) fun v11 h11 =>
 aG (eM 29 (.agg [(.int .i64 0), (.int .i64 0), (.int .i64 0), (.int .i64 0), (.int .i64 0), (.int .i64 0)]) h11) fun v12 h12 =>
 aG (fP (aO 6 v12 v11 h12)) fun v13 h13 =>
 dO (
 aG (pu h13 (aB 0 v12)) fun v14 h14 =>
 aG (pu h14 (aI G false 1 v14 h14)) fun v15 h15 =>
 aG (pu h15 (aS Tryd.prog .eql 3 true v15 (.int .i64 20))) fun v16 h16 =>
 aT v16
 (some (.normal, [v0, .nils], h16))
 (aG (pu h16 (aS Tryd.prog .eql 3 true v15 (.int .i64 17))) fun v17 h17 =>
 aT v17
 (aG (pu h17 (aB 5 v12)) fun v18 h18 =>
 aG (pu h18 (aI G false 1 v18 h18)) fun v19 h19 =>
 aG (bC 1 1 (.int .i64 0) [(0, v19)] h19) fun v20 h20 =>
 some (.normal, [v0, v20], h20))
 (dO (
 aG (pu h17 (aS Tryd.prog .eql 3 true v15 (.int .i64 18))) fun v21 h21 =>
 aT v21
 (some (.normal, [x1, v0, v12, v21], h21))
 (aG (pu h21 (aS Tryd.prog .eql 3 true v15 (.int .i64 19))) fun v22 h22 =>
 some (.normal, [x1, v0, v12, v22], h22))) fun e23 x23 h23 => iL e23
 (aT (aF x23 3)
 (aG (pu h23 (aS Tryd.prog .add 2 true (aF x23 0) (.int .i64 1))) fun v24 h24 =>
 aG (pu h24 (aB 5 (aF x23 2))) fun v25 h25 =>
 aG (pu h25 (aI G false 1 v25 h25)) fun v26 h26 =>
 aG (bC 1 2 (.int .i64 0) [(0, v24), (1, v26)] h26) fun v27 h27 =>
 some (.normal, [(aF x23 1), v27], h27))
 (aG (pu h23 (aS Tryd.prog .add 2 true (aF x23 0) (.int .i64 1))) fun v28 h28 =>
 aG (bC 1 1 (.int .i64 0) [(0, v28)] h28) fun v29 h29 =>
 some (.normal, [(aF x23 1), v29], h29)))
 (fun i23 => if i23 = 0 then (some (.normal, [(aF x23 1), .undef], h23)) else (some (.exit i23, [(aF x23 1), .undef], h23)))
 (some (.ret, [(aF x23 1), .undef], h23))))) fun e30 x30 h30 => iL e30
 (aG (some (.sl h30.length 0 0 0 1, h30 ++ [⟨3, 1, []⟩])) fun v31 h31 =>
 aG (pu h31 (aY (aF x30 1))) fun v32 h32 =>
 dO (cM (bY.l15 G k h32.length self) k [(aF x30 0), v31, (aF x30 1), v32, (.int .i64 0)] h32) fun e33 x33 h33 => iL e33
 (none)
 (fun i33 => if i33 = 1 then (aG (cW (aM.f G k) [(aF x33 1)] h33) fun v48 h48 =>
 aG (cW (aC.f G k) [(aF x33 1)] h48) fun v49 h49 =>
 cQ [v49] h.length h49) else (none))
 (cQ [.undef] h.length h33))
 (fun i30 => none)
 (cQ [.undef] h.length h30)))
noncomputable def bY.f (G : aE) : Nat → cU
 | 0 => fun _ _ => none
 | k + 1 => fun args h => rM args fun x0 x1 => (bY.c G k (bY.f G k) x0 x1 h)
theorem bY.step (G : aE) (k : Nat) (x0 x1 : AV) (h : aA) : bY.f G (k + 1) [x0, x1] h = bY.c G k (bY.f G k) x0 x1 h := rfl
noncomputable def dE.ann : Ann := gB [] [] [] []
noncomputable def dE.env (G : aE) (k : Nat) (self : cU) : List (Nat × Bool × cU) := []
noncomputable def dE.c (G : aE) (k : Nat) (self : cU) (x0 x1 x2 : AV) (h : aA) : Option (AV × aA) := fH (
 aG (pu h (aI G false 1 x2 h)) fun v0 h0 =>
 aG (pu h0 (aH 1 v0 x0)) fun v1 h1 =>
 aG (pu h1 (aI G false 1 v1 h1)) fun v2 h2 =>
 aG (pu h2 (aY v2)) fun v3 h3 =>
 aG (pu h3 (aS Tryd.prog .gtr 3 true v3 (.int .i64 0))) fun v4 h4 =>
 aG (gd v4 true h4 (pu h4 (aI G false 1 x2 h4))) fun v5 h5 =>
 aG (gd v4 true h5 (some (x0, h5))) fun v6 h6 =>
 aG (gd v4 true h6 (pu h6 (aH 1 v5 v6))) fun v7 h7 =>
 aG (gd v4 true h7 (pu h7 (aI G false 1 v7 h7))) fun v8 h8 =>
 aG (gd v4 true h8 (some (v3, h8))) fun v9 h9 =>
 aG (gd v4 true h9 (pu h9 (aS Tryd.prog .sub 3 true v9 (.int .i64 1)))) fun v10 h10 =>
 aG (gd v4 true h10 (pu h10 (aH 1 v8 v10))) fun v11 h11 =>
 aG (gd v4 true h11 (pu h11 (aI G false 1 v11 h11))) fun v12 h12 =>
 aG (gd v4 true h12 (some (x1, h12))) fun v13 h13 =>
 aG (gd v4 true h13 (pu h13 (aS Tryd.prog .eql 3 false v12 v13))) fun v14 h14 =>
 aG (pu h14 (fJ v4 v14 (.bool false))) fun v15 h15 =>
 cQ [v15] h.length h15)
noncomputable def dE.f (G : aE) : Nat → cU
 | 0 => fun _ _ => none
 | k + 1 => fun args h => aBs args fun x0 x1 x2 => (dE.c G k (dE.f G k) x0 x1 x2 h)
theorem dE.step (G : aE) (k : Nat) (x0 x1 x2 : AV) (h : aA) : dE.f G (k + 1) [x0, x1, x2] h = dE.c G k (dE.f G k) x0 x1 x2 h := rfl
noncomputable def aN.ann : Ann := gB [5] [2] [] []
noncomputable def aN.env (G : aE) (k : Nat) (self : cU) : List (Nat × Bool × cU) := []
noncomputable def aN.c (G : aE) (k : Nat) (self : cU) (x0 : AV) (h : aA) : Option (AV × aA) := fH (
 aG (some (.sl h.length 0 0 0 1, h ++ [⟨3, 1, []⟩])) fun v0 h0 =>
 aG (pu h0 (aS Tryd.prog .eql 49 true x0 .nils)) fun v1 h1 =>
 aT v1
 (aG (some (.sl h1.length 0 0 0 1, h1 ++ [⟨3, 1, []⟩])) fun v2 h2 =>
 aBI [v2] h2)
 (aG (cB 3 1 0 (.int .i64 0) [] h1) fun v3 h3 =>
 aG (dX 3 1 v3 x0 h3) fun v4 h4 =>
 aBI [v4] h4))
noncomputable def aN.f (G : aE) : Nat → cU
 | 0 => fun _ _ => none
 | k + 1 => fun args h => oA args fun x0 => (aN.c G k (aN.f G k) x0 h)
theorem aN.step (G : aE) (k : Nat) (x0 : AV) (h : aA) : aN.f G (k + 1) [x0] h = aN.c G k (aN.f G k) x0 h := rfl
noncomputable def aQ.ann : Ann := aIM [] [] [(35, [1, 5, 6, 13, 14, 15, 16, 84, 85, 126, 127, 128]), (31, [1, 5, 6, 13, 14, 15, 16, 84, 85]), (27, [1, 5, 6, 13, 14, 15, 16, 84, 85, 92, 93, 94]), (23, [1, 5, 6, 13, 14, 84, 85]), (15, [1, 5, 6, 7, 35, 36, 37, 62, 63, 64]), (10, [1, 5, 6, 7, 8, 35, 36, 37, 44, 45, 46]), (7, [1, 5, 6, 35, 36, 37])] [] [(23, [(13, 0, 3, 1)]), (7, [(5, 0, 3, 1)])] [] [(7, [(6, 0, 1, 3, 1)])] [] []
noncomputable def aQ.env (G : aE) (k : Nat) (self : cU) : List (Nat × Bool × cU) := [(20, true, cX.f G k), (23, true, bI.f G k), (25, true, bY.f G k), (43, true, bV.f G k), (59, false, dE.f G k), (60, false, aN.f G k)]
noncomputable def aQ.l10 (G : aE) (k n0 : Nat) (self : cU) (lp : eH) : eH := fun xs h0 => jH n0 xs h0 fun h =>
 aG (pu h (aS Tryd.prog .lss 3 false (aF xs 10) (aF xs 9))) fun v22 h22 =>
 aT v22
 (aG (pu h22 (aH 1 (aF xs 8) (aF xs 10))) fun v23 h23 =>
 aG (pu h23 (aI G false 1 v23 h23)) fun v24 h24 =>
 aG (pu h24 (aH 1 (aF xs 1) v24)) fun v25 h25 =>
 aG (pu h25 (aI G false 1 v25 h25)) fun v26 h26 =>
 aG (bC 1 1 (.int .i64 0) [(0, (aF xs 3))] h26) fun v27 h27 =>
 aG (dX 3 1 v26 v27 h27) fun v28 h28 =>
 aG (pu h28 (aH 1 (aF xs 1) v24)) fun v29 h29 =>
 aG (fP (aO 1 v29 v28 h29)) fun v30 h30 =>
 aG (pu h30 (aS Tryd.prog .add 3 true (aF xs 10) (.int .i64 1))) fun v31 h31 =>
 lp [(aF xs 0), (aF xs 1), (aF xs 2), (aF xs 3), (aF xs 4), (aF xs 5), (aF xs 6), (aF xs 7), (aF xs 8), (aF xs 9), v31] h31)
 (some (.exit 2, [(aF xs 0), (aF xs 1), (aF xs 2), (aF xs 3), (aF xs 4), (aF xs 5), (aF xs 6), (aF xs 7), (aF xs 8), (aF xs 9), (aF xs 10)], h22))
noncomputable def aQ.l15 (G : aE) (k n0 : Nat) (self : cU) (lp : eH) : eH := fun xs h0 => jH n0 xs h0 fun h =>
 aG (pu h (aS Tryd.prog .lss 3 false (aF xs 9) (aF xs 8))) fun v36 h36 =>
 aT v36
 (aG (pu h36 (aH 1 (aF xs 7) (aF xs 9))) fun v37 h37 =>
 aG (pu h37 (aI G false 1 v37 h37)) fun v38 h38 =>
 aG (pu h38 (zL (aF xs 2) v38 h38)) fun v39 h39 =>
 aG (bC 1 1 (.int .i64 0) [(0, (aF xs 3))] h39) fun v40 h40 =>
 aG (dX 3 1 v39 v40 h40) fun v41 h41 =>
 aG (fP (aDq (aF xs 2) v38 v41 h41)) fun v42 h42 =>
 aG (pu h42 (aS Tryd.prog .add 3 true (aF xs 9) (.int .i64 1))) fun v43 h43 =>
 lp [(aF xs 0), (aF xs 1), (aF xs 2), (aF xs 3), (aF xs 4), (aF xs 5), (aF xs 6), (aF xs 7), (aF xs 8), v43] h43)
 (some (.exit 4, [(aF xs 0), (aF xs 1), (aF xs 2), (aF xs 3), (aF xs 4), (aF xs 5), (aF xs 6), (aF xs 7), (aF xs 8), (aF xs 9)], h36))
noncomputable def aQ.l7 (G : aE) (k n0 : Nat) (self : cU) (lp : eH) : eH := fun xs h0 => jH n0 xs h0 fun h =>
 aG (pu h (aS Tryd.prog .lss 3 false (aF xs 5) (aF xs 4))) fun v13 h13 =>
 aT v13
 (aG (pu h13 (aH 6 (aF xs 3) (aF xs 5))) fun v14 h14 =>
 aG (pu h14 (aI G true 6 v14 h14)) fun v15 h15 =>
 aG (eM 29 (.agg [(.int .i64 0), (.int .i64 0), (.int .i64 0), (.int .i64 0), (.int .i64 0), (.int .i64 0)]) h15) fun v16 h16 =>
 aG (fP (aO 6 v16 v15 h16)) fun v17 h17 =>
 aG (pu h17 (aI G true 3 (aF xs 0) h17)) fun v18 h18 =>
 aG (aX (bY.f G k) [v18, (aF xs 5)] h18) fun v19 h19 =>
 aG (pu h19 (aY v19)) fun v20 h20 =>
 dO (cM (aQ.l10 G k h20.length self) k [(aF xs 0), (aF xs 1), (aF xs 2), (aF xs 5), v16, (aF xs 3), (aF xs 4), (aF xs 5), v19, v20, (.int .i64 0)] h20) fun e21 x21 h21 => iL e21
 (none)
 (fun i21 => if i21 = 2 then (aG (pu h21 (aI G true 6 (aF x21 4) h21)) fun v32 h32 =>
 aG (aX (bI.f G k) [v32] h32) fun v33 h33 =>
 aG (pu h33 (aY v33)) fun v34 h34 =>
 dO (cM (aQ.l15 G k h34.length self) k [(aF x21 0), (aF x21 1), (aF x21 2), (aF x21 3), (aF x21 5), (aF x21 6), (aF x21 7), v33, v34, (.int .i64 0)] h34) fun e35 x35 h35 => iL e35
 (none)
 (fun i35 => if i35 = 4 then (aG (pu h35 (aS Tryd.prog .add 3 true (aF x35 6) (.int .i64 1))) fun v44 h44 =>
 lp [(aF x35 0), (aF x35 1), (aF x35 2), (aF x35 4), (aF x35 5), v44] h44) else (if i35 = 1 then (aG (pu h35 (aS Tryd.prog .add 3 true (aF x35 6) (.int .i64 1))) fun v45 h45 =>
 lp [(aF x35 0), (aF x35 1), (aF x35 2), (aF x35 4), (aF x35 5), v45] h45) else (some (.exit i35, [(aF x35 0), (aF x35 1), (aF x35 2), (aF x35 4), (aF x35 5), (aF x35 6)], h35))))
 (some (.ret, [(aF x35 0), (aF x35 1), (aF x35 2), (aF x35 4), (aF x35 5), (aF x35 6)], h35))) else (if i21 = 1 then (aG (pu h21 (aS Tryd.prog .add 3 true (aF x21 7) (.int .i64 1))) fun v46 h46 =>
 lp [(aF x21 0), (aF x21 1), (aF x21 2), (aF x21 5), (aF x21 6), v46] h46) else (some (.exit i21, [(aF x21 0), (aF x21 1), (aF x21 2), (aF x21 5), (aF x21 6), (aF x21 7)], h21))))
 (some (.ret, [(aF x21 0), (aF x21 1), (aF x21 2), (aF x21 5), (aF x21 6), (aF x21 7)], h21)))
 (some (.exit 0, [(aF xs 0), (aF xs 1), (aF xs 2), (aF xs 3), (aF xs 4), (aF xs 5)], h13))
noncomputable def aQ.l27 (G : aE) (k n0 : Nat) (self : cU) (lp : eH) : eH := fun xs h0 => jH n0 xs h0 fun h =>
 aG (pu h (aS Tryd.prog .lss 3 false (aF xs 11) (aF xs 10))) fun v61 h61 =>
 aT v61
 (aG (pu h61 (aH 1 (aF xs 9) (aF xs 11))) fun v62 h62 =>
 aG (pu h62 (aI G false 1 v62 h62)) fun v63 h63 =>
 aG (pu h63 (aI G false 1 (aF xs 3) h63)) fun v64 h64 =>
 aG (pu h64 (aI G false 1 (aF xs 3) h64)) fun v65 h65 =>
 aG (pu h65 (aH 1 v65 v63)) fun v66 h66 =>
 aG (pu h66 (aI G false 1 v66 h66)) fun v67 h67 =>
 aG (bC 1 1 (.int .i64 0) [(0, (aF xs 5))] h67) fun v68 h68 =>
 aG (dX 3 1 v67 v68 h68) fun v69 h69 =>
 aG (pu h69 (aH 1 v64 v63)) fun v70 h70 =>
 aG (fP (aO 1 v70 v69 h70)) fun v71 h71 =>
 grd [((aF xs 3), v67)] (
aG (pu h71 (aS Tryd.prog .add 3 true (aF xs 11) (.int .i64 1))) fun v72 h72 =>
 lp [(aF xs 0), (aF xs 1), (aF xs 2), (aF xs 3), (aF xs 4), (aF xs 5), (aF xs 6), (aF xs 7), (aF xs 8), (aF xs 9), (aF xs 10), v72] h72))
 (some (.exit 8, [(aF xs 0), (aF xs 1), (aF xs 2), (aF xs 3), (aF xs 4), (aF xs 5), (aF xs 6), (aF xs 7), (aF xs 8), (aF xs 9), (aF xs 10), (aF xs 11)], h61))
noncomputable def aQ.l35 (G : aE) (k n0 : Nat) (self : cU) (lp : eH) : eH := fun xs h0 => jH n0 xs h0 fun h =>
 aG (pu h (aS Tryd.prog .lss 3 false (aF xs 11) (aF xs 10))) fun v87 h87 =>
 aT v87
 (aG (pu h87 (aH 1 (aF xs 9) (aF xs 11))) fun v88 h88 =>
 aG (pu h88 (aI G false 1 v88 h88)) fun v89 h89 =>
 aG (pu h89 (aB 0 (aF xs 0))) fun v90 h90 =>
 aG (pu h90 (aI G false 1 v90 h90)) fun v91 h91 =>
 aG (pu h91 (aH 6 v91 v89)) fun v92 h92 =>
 aG (pu h92 (aI G true 6 v92 h92)) fun v93 h93 =>
 aG (aX (cX.f G k) [v93] h93) fun v94 h94 =>
 aG (pu h94 (aW v94 0)) fun v95 h95 =>
 aG (pu h95 (aW v94 1)) fun v96 h96 =>
 aG (nT (fZ (aQ.env G k self)) (aF xs 4) [v89, (aF xs 5)] h96) fun v97 h97 =>
 aG (gd v97 false h97 (some (v96, h97))) fun v98 h98 =>
 aG (gd v97 false h98 (some (v98, h98))) fun v99 h99 =>
 aG (gd v99 true h99 (some (v95, h99))) fun v100 h100 =>
 aG (gd v99 true h100 (some ((aF xs 5), h100))) fun v101 h101 =>
 aG (gd v99 true h101 (pu h101 (aS Tryd.prog .eql 3 false v100 v101))) fun v102 h102 =>
 aG (gd v97 false h102 (pu h102 (fJ v99 v102 (.bool false)))) fun v103 h103 =>
 aG (pu h103 (fJ v97 (.bool true) v103)) fun v104 h104 =>
 aT v104
 (aG (pu h104 (aS Tryd.prog .add 3 true (aF xs 11) (.int .i64 1))) fun v105 h105 =>
 lp [(aF xs 0), (aF xs 1), (aF xs 2), (aF xs 3), (aF xs 4), (aF xs 5), (aF xs 6), (aF xs 7), (aF xs 8), (aF xs 9), (aF xs 10), v105] h105)
 (aG (pu h104 (aI G false 1 (aF xs 3) h104)) fun v106 h106 =>
 aG (pu h106 (aI G false 1 (aF xs 3) h106)) fun v107 h107 =>
 aG (pu h107 (aH 1 v107 v89)) fun v108 h108 =>
 aG (pu h108 (aI G false 1 v108 h108)) fun v109 h109 =>
 aG (bC 1 1 (.int .i64 0) [(0, (aF xs 5))] h109) fun v110 h110 =>
 aG (dX 3 1 v109 v110 h110) fun v111 h111 =>
 aG (pu h111 (aH 1 v106 v89)) fun v112 h112 =>
 aG (fP (aO 1 v112 v111 h112)) fun v113 h113 =>
 grd [((aF xs 3), v109)] (
aG (bC 1 1 (.int .i64 0) [(0, v89)] h113) fun v114 h114 =>
 aG (dX 3 1 (aF xs 6) v114 h114) fun v115 h115 =>
 aG (pu h115 (aS Tryd.prog .add 3 true (aF xs 11) (.int .i64 1))) fun v116 h116 =>
 lp [(aF xs 0), (aF xs 1), (aF xs 2), (aF xs 3), (aF xs 4), (aF xs 5), v115, (aF xs 7), (aF xs 8), (aF xs 9), (aF xs 10), v116] h116)))
 (some (.exit 12, [(aF xs 0), (aF xs 1), (aF xs 2), (aF xs 3), (aF xs 4), (aF xs 5), (aF xs 6), (aF xs 7), (aF xs 8), (aF xs 9), (aF xs 10), (aF xs 11)], h87))
noncomputable def aQ.l31 (G : aE) (k n0 : Nat) (self : cU) (lp : eH) : eH := fun xs h0 => jH n0 xs h0 fun h =>
 aG (pu h (aY (aF xs 6))) fun v74 h74 =>
 aG (pu h74 (aS Tryd.prog .gtr 3 true v74 (.int .i64 0))) fun v75 h75 =>
 aT v75
 (aG (pu h75 (aY (aF xs 6))) fun v76 h76 =>
 aG (pu h76 (aS Tryd.prog .sub 3 true v76 (.int .i64 1))) fun v77 h77 =>
 aG (pu h77 (aH 1 (aF xs 6) v77)) fun v78 h78 =>
 aG (pu h78 (aI G false 1 v78 h78)) fun v79 h79 =>
 aG (pu h79 (aY (aF xs 6))) fun v80 h80 =>
 aG (pu h80 (aS Tryd.prog .sub 3 true v80 (.int .i64 1))) fun v81 h81 =>
 aG (pu h81 (gD 1 (aF xs 6) none (some v81))) fun v82 h82 =>
 aG (pu h82 (aH 1 (aF xs 1) v79)) fun v83 h83 =>
 aG (pu h83 (aI G false 1 v83 h83)) fun v84 h84 =>
 aG (pu h84 (aY v84)) fun v85 h85 =>
 dO (cM (aQ.l35 G k h85.length self) k [(aF xs 0), (aF xs 1), (aF xs 2), (aF xs 3), (aF xs 4), (aF xs 5), v82, (aF xs 7), (aF xs 8), v84, v85, (.int .i64 0)] h85) fun e86 x86 h86 => iL e86
 (none)
 (fun i86 => if i86 = 12 then (lp [(aF x86 0), (aF x86 1), (aF x86 2), (aF x86 3), (aF x86 4), (aF x86 5), (aF x86 6), (aF x86 7), (aF x86 8)] h86) else (if i86 = 11 then (lp [(aF x86 0), (aF x86 1), (aF x86 2), (aF x86 3), (aF x86 4), (aF x86 5), (aF x86 6), (aF x86 7), (aF x86 8)] h86) else (some (.exit i86, [(aF x86 0), (aF x86 1), (aF x86 2), (aF x86 3), (aF x86 4), (aF x86 5), (aF x86 6), (aF x86 7), (aF x86 8)], h86))))
 (some (.ret, [(aF x86 0), (aF x86 1), (aF x86 2), (aF x86 3), (aF x86 4), (aF x86 5), (aF x86 6), (aF x86 7), (aF x86 8)], h86)))
 (some (.exit 10, [(aF xs 0), (aF xs 1), (aF xs 2), (aF xs 3), (aF xs 4), (aF xs 5), (aF xs 6), (aF xs 7), (aF xs 8)], h75))
noncomputable def aQ.l23 (G : aE) (k n0 : Nat) (self : cU) (lp : eH) : eH := fun xs h0 => jH n0 xs h0 fun h =>
 aG (pu h (aS Tryd.prog .lss 3 false (aF xs 6) (aF xs 5))) fun v56 h56 =>
 aT v56
 (aG (pu h56 (zL (aF xs 2) (aF xs 6) h56)) fun v57 h57 =>
 aG (cW (aN.f G k) [v57] h57) fun v58 h58 =>
 aG (pu h58 (aY v58)) fun v59 h59 =>
 dO (cM (aQ.l27 G k h59.length self) k [(aF xs 0), (aF xs 1), (aF xs 2), (aF xs 3), (aF xs 4), (aF xs 6), v58, (aF xs 5), (aF xs 6), v58, v59, (.int .i64 0)] h59) fun e60 x60 h60 => iL e60
 (none)
 (fun i60 => if i60 = 8 then (dO (cM (aQ.l31 G k h60.length self) k [(aF x60 0), (aF x60 1), (aF x60 2), (aF x60 3), (aF x60 4), (aF x60 5), (aF x60 6), (aF x60 7), (aF x60 8)] h60) fun e73 x73 h73 => iL e73
 (none)
 (fun i73 => if i73 = 10 then (aG (pu h73 (aS Tryd.prog .add 3 true (aF x73 8) (.int .i64 1))) fun v117 h117 =>
 lp [(aF x73 0), (aF x73 1), (aF x73 2), (aF x73 3), (aF x73 4), (aF x73 7), v117] h117) else (if i73 = 7 then (aG (pu h73 (aS Tryd.prog .add 3 true (aF x73 8) (.int .i64 1))) fun v118 h118 =>
 lp [(aF x73 0), (aF x73 1), (aF x73 2), (aF x73 3), (aF x73 4), (aF x73 7), v118] h118) else (some (.exit i73, [(aF x73 0), (aF x73 1), (aF x73 2), (aF x73 3), (aF x73 4), (aF x73 7), (aF x73 8)], h73))))
 (some (.ret, [(aF x73 0), (aF x73 1), (aF x73 2), (aF x73 3), (aF x73 4), (aF x73 7), (aF x73 8)], h73))) else (if i60 = 7 then (aG (pu h60 (aS Tryd.prog .add 3 true (aF x60 8) (.int .i64 1))) fun v119 h119 =>
 lp [(aF x60 0), (aF x60 1), (aF x60 2), (aF x60 3), (aF x60 4), (aF x60 7), v119] h119) else (some (.exit i60, [(aF x60 0), (aF x60 1), (aF x60 2), (aF x60 3), (aF x60 4), (aF x60 7), (aF x60 8)], h60))))
 (some (.ret, [(aF x60 0), (aF x60 1), (aF x60 2), (aF x60 3), (aF x60 4), (aF x60 7), (aF x60 8)], h60)))
 (some (.exit 6, [(aF xs 0), (aF xs 1), (aF xs 2), (aF xs 3), (aF xs 4), (aF xs 5), (aF xs 6)], h56))
noncomputable def aQ.c (G : aE) (k : Nat) (self : cU) (x0 : AV) (h : aA) : Option (AV × aA) := fH (
 aG (cN x0 h) fun v0 h0 =>
 aG (pu h0 (aI G true 3 v0 h0)) fun v1 h1 =>
 aG (aX (bV.f G k) [v1] h1) fun v2 h2 =>
 aG (pu h2 (aS Tryd.prog .neq 33 true v2 .nili)) fun v3 h3 =>
 aT v3
 (cQ [.nils, v2] h.length h3)
 (aG (pu h3 (aB 0 v0)) fun v4 h4 =>
 aG (pu h4 (aI G false 1 v4 h4)) fun v5 h5 =>
 aG (pu h5 (aY v5)) fun v6 h6 =>
 aG (fS 49 1 .nils v6 v6 h6) fun v7 h7 =>
 aG (some (.mp h7.length, h7 ++ [⟨0, 0, []⟩])) fun v8 h8 =>
 aG (pu h8 (aB 0 v0)) fun v9 h9 =>
 aG (pu h9 (aI G false 1 v9 h9)) fun v10 h10 =>
 aG (pu h10 (aY v10)) fun v11 h11 =>
 vM [(v8, x0, 1, 3, 1)] h11 fun hm12 =>
 vK [(v7, 0, 3, 1)] hm12 fun hv12 =>
 dO (cM (aQ.l7 G k hv12.length self) k [v0, v7, v8, v10, v11, (.int .i64 0)] hv12) fun e12 x12 h12 => iL e12
 (none)
 (fun i12 => if i12 = 0 then (aG (pu h12 (aB 0 (aF x12 0))) fun v47 h47 =>
 aG (pu h47 (aI G false 1 v47 h47)) fun v48 h48 =>
 aG (pu h48 (aY v48)) fun v49 h49 =>
 aG (fS 49 1 .nils v49 v49 h49) fun v50 h50 =>
 aG (eM 56 .nils h50) fun v51 h51 =>
 aG (fP (aO 1 v51 v50 h51)) fun v52 h52 =>
 aG (pu h52 (aB 1 (aF x12 0))) fun v53 h53 =>
 aG (pu h53 (aI G false 1 v53 h53)) fun v54 h54 =>
 vK [(v51, 0, 3, 1)] h54 fun hv55 =>
 dO (cM (aQ.l23 G k hv55.length self) k [(aF x12 0), (aF x12 1), (aF x12 2), v51, (.fn 59 [v51]), v54, (.int .i64 0)] hv55) fun e55 x55 h55 => iL e55
 (none)
 (fun i55 => if i55 = 6 then (aG (pu h55 (aI G false 1 (aF x55 3) h55)) fun v120 h120 =>
 cQ [v120, .nili] h.length h120) else (none))
 (cQ [.undef, .undef] h.length h55)) else (none))
 (cQ [.undef, .undef] h.length h12)))
noncomputable def aQ.f (G : aE) : Nat → cU
 | 0 => fun _ _ => none
 | k + 1 => fun args h => oA args fun x0 => (aQ.c G k (aQ.f G k) x0 h)
theorem aQ.step (G : aE) (k : Nat) (x0 : AV) (h : aA) : aQ.f G (k + 1) [x0] h = aQ.c G k (aQ.f G k) x0 h := rfl
noncomputable def bP.ann : Ann := gB [] [] [] []
noncomputable def bP.env (G : aE) (k : Nat) (self : cU) : List (Nat × Bool × cU) := [(22, true, bG.f G k), (23, true, bI.f G k), (29, true, aQ.f G k)]
noncomputable def bP.c (G : aE) (k : Nat) (self : cU) (h : aA) : Option (AV × aA) := fH (
 aG (pu h (cA [(0, 1), (1, 1), (2, 1), (3, 1), (4, 1), (5, 1)] [(.int .i64 0), (.int .i64 0), (.int .i64 0), (.int .i64 0), (.int .i64 0), (.int .i64 0)] [(0, (.int .i64 20))])) fun v0 h0 =>
 aG (bC 6 1 (.agg [(.int .i64 0), (.int .i64 0), (.int .i64 0), (.int .i64 0), (.int .i64 0), (.int .i64 0)]) [(0, v0)] h0) fun v1 h1 =>
 aG (pu h1 (cA [(0, 1), (1, 1), (2, 1)] [.nils, (.int .i64 0), (.int .i64 0)] [(0, v1)])) fun v2 h2 =>
 aG (aX (aQ.f G k) [v2] h2) fun v3 h3 =>
 aG (pu h3 (aW v3 0)) fun v4 h4 =>
 aG (pu h4 (aW v3 1)) fun v5 h5 =>
 aG (pu h5 (aS Tryd.prog .eql 33 true v5 .nili)) fun v6 h6 =>
 aG (gd v6 true h6 (some (v4, h6))) fun v7 h7 =>
 aG (gd v6 true h7 (pu h7 (aY v7))) fun v8 h8 =>
 aG (gd v6 true h8 (pu h8 (aS Tryd.prog .eql 3 true v8 (.int .i64 1)))) fun v9 h9 =>
 aG (pu h9 (fJ v6 v9 (.bool false))) fun v10 h10 =>
 aG (gd v10 true h10 (some (v4, h10))) fun v11 h11 =>
 aG (gd v10 true h11 (pu h11 (aH 1 v11 (.int .i64 0)))) fun v12 h12 =>
 aG (gd v10 true h12 (pu h12 (aI G false 1 v12 h12))) fun v13 h13 =>
 aG (gd v10 true h13 (pu h13 (aY v13))) fun v14 h14 =>
 aG (gd v10 true h14 (pu h14 (aS Tryd.prog .eql 3 true v14 (.int .i64 0)))) fun v15 h15 =>
 aG (pu h15 (fJ v10 v15 (.bool false))) fun v16 h16 =>
 aG (gd v16 true h16 (pu h16 (cA [(0, 1), (1, 1), (2, 1), (3, 1), (4, 1), (5, 1)] [(.int .i64 0), (.int .i64 0), (.int .i64 0), (.int .i64 0), (.int .i64 0), (.int .i64 0)] [(0, (.int .i64 3)), (2, (.int .i64 2)), (3, (.int .i64 1))]))) fun v17 h17 =>
 aG (gd v16 true h17 (aX (bI.f G k) [v17] h17)) fun v18 h18 =>
 aG (gd v16 true h18 (bC 1 2 (.int .i64 0) [(0, (.int .i64 1)), (1, (.int .i64 2))] h18)) fun v19 h19 =>
 aG (gd v16 true h19 (aX (bG.f G k) [v18, v19] h19)) fun v20 h20 =>
 aG (pu h20 (fJ v16 v20 (.bool false))) fun v21 h21 =>
 cQ [v21] h.length h21)
noncomputable def bP.f (G : aE) : Nat → cU
 | 0 => fun _ _ => none
 | k + 1 => fun args h => aIx args (bP.c G k (bP.f G k) h)
noncomputable def aZ.ann : Ann := gB [] [] [] []
noncomputable def aZ.env (G : aE) (k : Nat) (self : cU) : List (Nat × Bool × cU) := []
noncomputable def aZ.c (G : aE) (k : Nat) (self : cU) (x0 : AV) (h : aA) : Option (AV × aA) := fH (
 aG (cN x0 h) fun v0 h0 =>
 aG (pu h0 (aB 0 v0)) fun v1 h1 =>
 aG (pu h1 (aI G false 1 v1 h1)) fun v2 h2 =>
 aG (pu h2 (aY v2)) fun v3 h3 =>
 aG (pu h3 (aS Tryd.prog .leq 3 true v3 (.int .i64 60))) fun v4 h4 =>
 aG (gd v4 true h4 (pu h4 (aB 1 v0))) fun v5 h5 =>
 aG (gd v4 true h5 (pu h5 (aI G false 1 v5 h5))) fun v6 h6 =>
 aG (gd v4 true h6 (pu h6 (aS Tryd.prog .leq 3 true v6 (.int .i64 40)))) fun v7 h7 =>
 aG (pu h7 (fJ v4 v7 (.bool false))) fun v8 h8 =>
 cQ [v8] h.length h8)
noncomputable def aZ.f (G : aE) : Nat → cU
 | 0 => fun _ _ => none
 | k + 1 => fun args h => oA args fun x0 => (aZ.c G k (aZ.f G k) x0 h)
theorem aZ.step (G : aE) (k : Nat) (x0 : AV) (h : aA) : aZ.f G (k + 1) [x0] h = aZ.c G k (aZ.f G k) x0 h := rfl
noncomputable def bA.ann : Ann := gB [] [] [(2, [0, 1, 4, 5])] []
noncomputable def bA.env (G : aE) (k : Nat) (self : cU) : List (Nat × Bool × cU) := []
noncomputable def bA.l2 (G : aE) (k n0 : Nat) (self : cU) (lp : eH) : eH := fun xs h0 => jH n0 xs h0 fun h =>
 aG (pu h (aY (aF xs 0))) fun v1 h1 =>
 aG (pu h1 (aS Tryd.prog .lss 3 false (aF xs 3) v1)) fun v2 h2 =>
 aT v2
 (aG (pu h2 (aH 1 (aF xs 0) (aF xs 3))) fun v3 h3 =>
 aG (pu h3 (aI G false 1 v3 h3)) fun v4 h4 =>
 aG (pu h4 (aS Tryd.prog .eql 3 false v4 (aF xs 1))) fun v5 h5 =>
 aT v5
 (some (.ret, [(aF xs 0), (aF xs 1), (.bool true), (aF xs 3)], h5))
 (aG (pu h5 (aS Tryd.prog .add 3 true (aF xs 3) (.int .i64 1))) fun v6 h6 =>
 lp [(aF xs 0), (aF xs 1), (aF xs 2), v6] h6))
 (some (.exit 0, [(aF xs 0), (aF xs 1), (aF xs 2), (aF xs 3)], h2))
noncomputable def bA.c (G : aE) (k : Nat) (self : cU) (x0 x1 : AV) (h : aA) : Option (AV × aA) := fH (
 dO (cM (bA.l2 G k h.length self) k [x0, x1, (.bool false), (.int .i64 0)] h) fun e0 x0 h0 => iL e0
 (none)
 (fun i0 => if i0 = 0 then (cQ [(.bool false)] h.length h0) else (none))
 (cQ [(aF x0 2)] h.length h0))
noncomputable def bA.f (G : aE) : Nat → cU
 | 0 => fun _ _ => none
 | k + 1 => fun args h => rM args fun x0 x1 => (bA.c G k (bA.f G k) x0 x1 h)
theorem bA.step (G : aE) (k : Nat) (x0 x1 : AV) (h : aA) : bA.f G (k + 1) [x0, x1] h = bA.c G k (bA.f G k) x0 x1 h := rfl
noncomputable def alembiclaw20_LiveSound.ann : Ann := aFS [] [] [(19, [1, 3, 7, 10, 12, 13]), (13, [1, 2, 3, 7, 8, 10, 11])] [(20, [1, 3, 7, 10, 12, 13]), (24, [1, 3, 7, 10, 12, 13, 14]), (14, [1, 2, 3, 7, 8, 10, 11])] [(13, [(10, 0, 29, 6)]), (19, [(10, 0, 29, 6)])] []
noncomputable def alembiclaw20_LiveSound.env (G : aE) (k : Nat) (self : cU) : List (Nat × Bool × cU) := [(17, true, aL.f G k), (18, true, bP.f G k), (19, true, aZ.f G k), (29, true, aQ.f G k), (38, true, bA.f G k), (39, true, dJ.f G k)]
noncomputable def alembiclaw20_LiveSound.l13 (G : aE) (k n0 : Nat) (self : cU) (lp : eH) : eH := fun xs h0 => jH n0 xs h0 fun h =>
 aG (pu h (aB 1 (aF xs 2))) fun v43 h43 =>
 aG (pu h43 (aI G false 1 v43 h43)) fun v44 h44 =>
 aG (pu h44 (aS Tryd.prog .lss 3 false (aF xs 6) v44)) fun v45 h45 =>
 aT v45
 (dO (
 aG (pu h45 (aH 1 (aF xs 4) (.int .i64 0))) fun v46 h46 =>
 aG (pu h46 (aI G false 1 v46 h46)) fun v47 h47 =>
 aG (aX (bA.f G k) [v47, (aF xs 6)] h47) fun v48 h48 =>
 aG (pu h48 (un .not v48)) fun v49 h49 =>
 aT v49
 (aG (pu h49 (aB 0 (aF xs 5))) fun v50 h50 =>
 aG (pu h50 (aI G false 1 v50 h50)) fun v51 h51 =>
 aG (pu h51 (eE .i64 (aF xs 1))) fun v52 h52 =>
 aG (pu h52 (cA [(0, 1), (1, 1), (2, 1), (3, 1), (4, 1), (5, 1)] [(.int .i64 0), (.int .i64 0), (.int .i64 0), (.int .i64 0), (.int .i64 0), (.int .i64 0)] [(0, (.int .i64 1)), (1, (aF xs 6)), (5, v52)])) fun v53 h53 =>
 aG (bC 6 1 (.agg [(.int .i64 0), (.int .i64 0), (.int .i64 0), (.int .i64 0), (.int .i64 0), (.int .i64 0)]) [(0, v53)] h53) fun v54 h54 =>
 aG (dX 29 6 v51 v54 h54) fun v55 h55 =>
 aG (pu h55 (aB 0 (aF xs 5))) fun v56 h56 =>
 aG (fP (aO 1 v56 v55 h56)) fun v57 h57 =>
 some (.normal, [(aF xs 0), (aF xs 1), (aF xs 2), (aF xs 3), (aF xs 4), (aF xs 5), (aF xs 6)], h57))
 (some (.normal, [(aF xs 0), (aF xs 1), (aF xs 2), (aF xs 3), (aF xs 4), (aF xs 5), (aF xs 6)], h49))) fun e58 x58 h58 => iL e58
 (aG (pu h58 (aS Tryd.prog .add 3 true (aF x58 6) (.int .i64 1))) fun v59 h59 =>
 lp [(aF x58 0), (aF x58 1), (aF x58 2), (aF x58 3), (aF x58 4), (aF x58 5), v59] h59)
 (fun i58 => some (.exit i58, [(aF x58 0), (aF x58 1), (aF x58 2), (aF x58 3), (aF x58 4), (aF x58 5), (aF x58 6)], h58))
 (some (.ret, [(aF x58 0), (aF x58 1), (aF x58 2), (aF x58 3), (aF x58 4), (aF x58 5), (aF x58 6)], h58)))
 (some (.exit 0, [(aF xs 0), (aF xs 1), (aF xs 2), (aF xs 3), (aF xs 4), (aF xs 5), (aF xs 6)], h45))
noncomputable def alembiclaw20_LiveSound.l19 (G : aE) (k n0 : Nat) (self : cU) (lp : eH) : eH := fun xs h0 => jH n0 xs h0 fun h =>
 aG (pu h (aB 0 (aF xs 1))) fun v64 h64 =>
 aG (pu h64 (aI G false 1 v64 h64)) fun v65 h65 =>
 aG (pu h65 (aY v65)) fun v66 h66 =>
 aG (pu h66 (aS Tryd.prog .lss 3 false (aF xs 5) v66)) fun v67 h67 =>
 aT v67
 (dO (
 aG (pu h67 (aB 0 (aF xs 1))) fun v68 h68 =>
 aG (pu h68 (aI G false 1 v68 h68)) fun v69 h69 =>
 aG (pu h69 (aH 6 v69 (aF xs 5))) fun v70 h70 =>
 aG (pu h70 (aI G true 6 v70 h70)) fun v71 h71 =>
 aG (eM 29 (.agg [(.int .i64 0), (.int .i64 0), (.int .i64 0), (.int .i64 0), (.int .i64 0), (.int .i64 0)]) h71) fun v72 h72 =>
 aG (fP (aO 6 v72 v71 h72)) fun v73 h73 =>
 dO (
 aG (pu h73 (aB 0 v72)) fun v74 h74 =>
 aG (pu h74 (aI G false 1 v74 h74)) fun v75 h75 =>
 aG (pu h75 (aS Tryd.prog .eql 3 true v75 (.int .i64 17))) fun v76 h76 =>
 aG (gd v76 false h76 (pu h76 (aB 0 v72))) fun v77 h77 =>
 aG (gd v76 false h77 (pu h77 (aI G false 1 v77 h77))) fun v78 h78 =>
 aG (gd v76 false h78 (pu h78 (aS Tryd.prog .eql 3 true v78 (.int .i64 18)))) fun v79 h79 =>
 aG (pu h79 (fJ v76 (.bool true) v79)) fun v80 h80 =>
 aG (gd v80 false h80 (pu h80 (aB 0 v72))) fun v81 h81 =>
 aG (gd v80 false h81 (pu h81 (aI G false 1 v81 h81))) fun v82 h82 =>
 aG (gd v80 false h82 (pu h82 (aS Tryd.prog .eql 3 true v82 (.int .i64 19)))) fun v83 h83 =>
 aG (pu h83 (fJ v80 (.bool true) v83)) fun v84 h84 =>
 aT v84
 (aG (pu h84 (aB 5 v72)) fun v85 h85 =>
 aG (pu h85 (aI G false 1 v85 h85)) fun v86 h86 =>
 aG (pu h86 (aS Tryd.prog .add 2 false v86 (aF xs 4))) fun v87 h87 =>
 aG (pu h87 (aB 5 v72)) fun v88 h88 =>
 aG (fP (aO 1 v88 v87 h88)) fun v89 h89 =>
 some (.normal, [(aF xs 0), (aF xs 1), (aF xs 2), (aF xs 3), (aF xs 4), (aF xs 5), v72], h89))
 (some (.normal, [(aF xs 0), (aF xs 1), (aF xs 2), (aF xs 3), (aF xs 4), (aF xs 5), v72], h84))) fun e90 x90 h90 => iL e90
 (aG (pu h90 (aB 0 (aF x90 3))) fun v91 h91 =>
 aG (pu h91 (aI G false 1 v91 h91)) fun v92 h92 =>
 aG (pu h92 (aI G true 6 (aF x90 6) h92)) fun v93 h93 =>
 aG (bC 6 1 (.agg [(.int .i64 0), (.int .i64 0), (.int .i64 0), (.int .i64 0), (.int .i64 0), (.int .i64 0)]) [(0, v93)] h93) fun v94 h94 =>
 aG (dX 29 6 v92 v94 h94) fun v95 h95 =>
 aG (pu h95 (aB 0 (aF x90 3))) fun v96 h96 =>
 aG (fP (aO 1 v96 v95 h96)) fun v97 h97 =>
 some (.normal, [(aF x90 0), (aF x90 1), (aF x90 2), (aF x90 3), (aF x90 4), (aF x90 5)], h97))
 (fun i90 => if i90 = 3 then (some (.normal, [(aF x90 0), (aF x90 1), (aF x90 2), (aF x90 3), (aF x90 4), (aF x90 5)], h90)) else (some (.exit i90, [(aF x90 0), (aF x90 1), (aF x90 2), (aF x90 3), (aF x90 4), (aF x90 5)], h90)))
 (some (.ret, [(aF x90 0), (aF x90 1), (aF x90 2), (aF x90 3), (aF x90 4), (aF x90 5)], h90))) fun e98 x98 h98 => iL e98
 (aG (pu h98 (aS Tryd.prog .add 3 true (aF x98 5) (.int .i64 1))) fun v99 h99 =>
 lp [(aF x98 0), (aF x98 1), (aF x98 2), (aF x98 3), (aF x98 4), v99] h99)
 (fun i98 => some (.exit i98, [(aF x98 0), (aF x98 1), (aF x98 2), (aF x98 3), (aF x98 4), (aF x98 5)], h98))
 (some (.ret, [(aF x98 0), (aF x98 1), (aF x98 2), (aF x98 3), (aF x98 4), (aF x98 5)], h98)))
 (some (.exit 2, [(aF xs 0), (aF xs 1), (aF xs 2), (aF xs 3), (aF xs 4), (aF xs 5)], h67))
noncomputable def alembiclaw20_LiveSound.c (G : aE) (k : Nat) (self : cU) (x0 x1 x2 : AV) (h : aA) : Option (AV × aA) := fH (
 aG (cN x0 h) fun v0 h0 =>
 aG (aX (bP.f G k) [] h0) fun v1 h1 =>
 aG (pu h1 (un .not v1)) fun v2 h2 =>
 aT v2
 (cQ [(.bool false)] h.length h2)
 (aG (pu h2 (aI G true 3 v0 h2)) fun v3 h3 =>
 aG (aX (aZ.f G k) [v3] h3) fun v4 h4 =>
 aG (pu h4 (un .not v4)) fun v5 h5 =>
 aG (gd v5 false h5 (pu h5 (aB 1 v0))) fun v6 h6 =>
 aG (gd v5 false h6 (pu h6 (aI G false 1 v6 h6))) fun v7 h7 =>
 aG (gd v5 false h7 (pu h7 (aS Tryd.prog .lss 3 true v7 (.int .i64 1)))) fun v8 h8 =>
 aG (pu h8 (fJ v5 (.bool true) v8)) fun v9 h9 =>
 aG (gd v9 false h9 (pu h9 (aB 2 v0))) fun v10 h10 =>
 aG (gd v9 false h10 (pu h10 (aI G false 1 v10 h10))) fun v11 h11 =>
 aG (gd v9 false h11 (pu h11 (aS Tryd.prog .lss 3 true v11 (.int .i64 1)))) fun v12 h12 =>
 aG (pu h12 (fJ v9 (.bool true) v12)) fun v13 h13 =>
 aG (gd v13 false h13 (pu h13 (aB 2 v0))) fun v14 h14 =>
 aG (gd v13 false h14 (pu h14 (aI G false 1 v14 h14))) fun v15 h15 =>
 aG (gd v13 false h15 (pu h15 (aS Tryd.prog .gtr 3 true v15 (.int .i64 60)))) fun v16 h16 =>
 aG (pu h16 (fJ v13 (.bool true) v16)) fun v17 h17 =>
 aG (gd v17 false h17 (some (x1, h17))) fun v18 h18 =>
 aG (gd v17 false h18 (pu h18 (aY v18))) fun v19 h19 =>
 aG (gd v17 false h19 (pu h19 (aB 2 v0))) fun v20 h20 =>
 aG (gd v17 false h20 (pu h20 (aI G false 1 v20 h20))) fun v21 h21 =>
 aG (gd v17 false h21 (pu h21 (aS Tryd.prog .neq 3 false v19 v21))) fun v22 h22 =>
 aG (pu h22 (fJ v17 (.bool true) v22)) fun v23 h23 =>
 aT v23
 (cQ [v1] h.length h23)
 (aG (pu h23 (aI G true 3 v0 h23)) fun v24 h24 =>
 aG (aX (aQ.f G k) [v24] h24) fun v25 h25 =>
 aG (pu h25 (aW v25 0)) fun v26 h26 =>
 aG (pu h26 (aW v25 1)) fun v27 h27 =>
 aG (pu h27 (aS Tryd.prog .neq 33 true v27 .nili)) fun v28 h28 =>
 aG (gd v28 false h28 (some (v26, h28))) fun v29 h29 =>
 aG (gd v28 false h29 (pu h29 (aY v29))) fun v30 h30 =>
 aG (gd v28 false h30 (pu h30 (aS Tryd.prog .eql 3 true v30 (.int .i64 0)))) fun v31 h31 =>
 aG (pu h31 (fJ v28 (.bool true) v31)) fun v32 h32 =>
 aT v32
 (cQ [v1] h.length h32)
 (aG (eM 27 (.agg [.nils, (.int .i64 0), (.int .i64 0)]) h32) fun v33 h33 =>
 aG (pu h33 (aB 1 v0)) fun v34 h34 =>
 aG (pu h34 (aI G false 1 v34 h34)) fun v35 h35 =>
 aG (pu h35 (aB 1 v33)) fun v36 h36 =>
 aG (fP (aO 1 v36 v35 h36)) fun v37 h37 =>
 aG (pu h37 (aB 2 v0)) fun v38 h38 =>
 aG (pu h38 (aI G false 1 v38 h38)) fun v39 h39 =>
 aG (pu h39 (aB 2 v33)) fun v40 h40 =>
 aG (fP (aO 1 v40 v39 h40)) fun v41 h41 =>
 vK [(v33, 0, 29, 6)] h41 fun hv42 =>
 dO (cM (alembiclaw20_LiveSound.l13 G k hv42.length self) k [x1, x2, v0, v1, v26, v33, (.int .i64 0)] hv42) fun e42 x42 h42 => iL e42
 (none)
 (fun i42 => if i42 = 0 then (aG (pu h42 (aB 0 (aF x42 5))) fun v60 h60 =>
 aG (pu h60 (aI G false 1 v60 h60)) fun v61 h61 =>
 aG (pu h61 (aY v61)) fun v62 h62 =>
 vK [((aF x42 5), 0, 29, 6)] h62 fun hv63 =>
 dO (cM (alembiclaw20_LiveSound.l19 G k hv63.length self) k [(aF x42 0), (aF x42 2), (aF x42 3), (aF x42 5), v62, (.int .i64 0)] hv63) fun e63 x63 h63 => iL e63
 (none)
 (fun i63 => if i63 = 2 then (aG (pu h63 (aI G true 3 (aF x63 1) h63)) fun v100 h100 =>
 aG (aX (dJ.f G k) [v100, (aF x63 0), (.int .i64 500)] h100) fun v101 h101 =>
 aG (pu h101 (aW v101 0)) fun v102 h102 =>
 aG (pu h102 (aW v101 1)) fun v103 h103 =>
 aG (eM 73 (.agg [(.int .i64 0), .nils, .nils, (.int .i64 0)]) h103) fun v104 h104 =>
 aG (fP (aO 4 v104 v102 h104)) fun v105 h105 =>
 aG (pu h105 (aI G true 3 (aF x63 3) h105)) fun v106 h106 =>
 aG (pu h106 (aS Tryd.prog .add 3 true (.int .i64 500) (aF x63 4))) fun v107 h107 =>
 aG (aX (dJ.f G k) [v106, (aF x63 0), v107] h107) fun v108 h108 =>
 aG (pu h108 (aW v108 0)) fun v109 h109 =>
 aG (pu h109 (aW v108 1)) fun v110 h110 =>
 aG (eM 73 (.agg [(.int .i64 0), .nils, .nils, (.int .i64 0)]) h110) fun v111 h111 =>
 aG (fP (aO 4 v111 v109 h111)) fun v112 h112 =>
 aG (gd (aF x63 2) true h112 (some (v103, h112))) fun v113 h113 =>
 aG (gd (aF x63 2) true h113 (pu h113 (aS Tryd.prog .eql 33 true v113 .nili))) fun v114 h114 =>
 aG (pu h114 (fJ (aF x63 2) v114 (.bool false))) fun v115 h115 =>
 aG (gd v115 true h115 (some (v110, h115))) fun v116 h116 =>
 aG (gd v115 true h116 (pu h116 (aS Tryd.prog .eql 33 true v116 .nili))) fun v117 h117 =>
 aG (pu h117 (fJ v115 v117 (.bool false))) fun v118 h118 =>
 aG (gd v118 true h118 (pu h118 (aB 0 v104))) fun v119 h119 =>
 aG (gd v118 true h119 (pu h119 (aI G false 1 v119 h119))) fun v120 h120 =>
 aG (gd v118 true h120 (pu h120 (aB 0 v111))) fun v121 h121 =>
 aG (gd v118 true h121 (pu h121 (aI G false 1 v121 h121))) fun v122 h122 =>
 aG (gd v118 true h122 (pu h122 (aS Tryd.prog .eql 3 false v120 v122))) fun v123 h123 =>
 aG (pu h123 (fJ v118 v123 (.bool false))) fun v124 h124 =>
 aG (gd v124 true h124 (pu h124 (aB 1 v104))) fun v125 h125 =>
 aG (gd v124 true h125 (pu h125 (aI G false 1 v125 h125))) fun v126 h126 =>
 aG (gd v124 true h126 (pu h126 (aB 1 v111))) fun v127 h127 =>
 aG (gd v124 true h127 (pu h127 (aI G false 1 v127 h127))) fun v128 h128 =>
 aG (gd v124 true h128 (aX (aL.f G k) [v126, v128] h128)) fun v129 h129 =>
 aG (pu h129 (fJ v124 v129 (.bool false))) fun v130 h130 =>
 aG (gd v130 true h130 (pu h130 (aB 3 v104))) fun v131 h131 =>
 aG (gd v130 true h131 (pu h131 (aI G false 1 v131 h131))) fun v132 h132 =>
 aG (gd v130 true h132 (some ((aF x63 4), h132))) fun v133 h133 =>
 aG (gd v130 true h133 (pu h133 (aS Tryd.prog .add 2 false v132 v133))) fun v134 h134 =>
 aG (gd v130 true h134 (pu h134 (aB 3 v111))) fun v135 h135 =>
 aG (gd v130 true h135 (pu h135 (aI G false 1 v135 h135))) fun v136 h136 =>
 aG (gd v130 true h136 (pu h136 (aS Tryd.prog .eql 2 false v134 v136))) fun v137 h137 =>
 aG (pu h137 (fJ v130 v137 (.bool false))) fun v138 h138 =>
 cQ [v138] h.length h138) else (none))
 (cQ [.undef] h.length h63)) else (none))
 (cQ [.undef] h.length h42)))))
noncomputable def alembiclaw20_LiveSound.f (G : aE) : Nat → cU
 | 0 => fun _ _ => none
 | k + 1 => fun args h => aBs args fun x0 x1 x2 => (alembiclaw20_LiveSound.c G k (alembiclaw20_LiveSound.f G k) x0 x1 x2 h)
theorem alembiclaw20_LiveSound.step (G : aE) (k : Nat) (x0 x1 x2 : AV) (h : aA) : alembiclaw20_LiveSound.f G (k + 1) [x0, x1, x2] h = alembiclaw20_LiveSound.c G k (alembiclaw20_LiveSound.f G k) x0 x1 x2 h := rfl
end Go.Proofs.YtlkgkfgkiidhdaaDoor.Mir
