/- Part 5 of the proof: the functions that the statement reaches, and their contracts. -/
import Derived.Test.YtcmblhedhgiofaaDoorZv4
import Derived.Test.YtcmblhedhgiofaaDoorProg
import Derived.Shelf.Strconv.Itoa3
import Derived.KernelRfl
namespace Go.Proofs.YtcmblhedhgiofaaDoor.Mir
open Go
set_option linter.unusedVariables false
set_option maxRecDepth 100000
def iA (x : Option AV) : Bool := match x with
 | some (.int .u64 n) => decide (n = 1)
 | _ => false
theorem xZ {x : Option AV} (h : iA x = true) : x = some (.int .u64 1) := by
 unfold iA at h
 split at h
 ·rename_i n; rw [of_decide_eq_true h]
 ·cases h
noncomputable def bI.f (G : aC) (k : Nat) : bV := fun args H => match args with
 | [.int .i64 n, .int .i64 b] => if iA (G 14) = true ∧ b = 10 ∧ -9223372036854775808 ≤ n ∧ n ≤ 9223372036854775807 then some (.str ⟨(Lib.itoa n).toArray⟩, H) else none
 | _ => none
noncomputable def cF.ann : Ann := dP [] [] [] []
noncomputable def cF.env (G : aC) (k : Nat) (self : bV) : List (Nat × Bool × bV) := []
noncomputable def cF.c (G : aC) (k : Nat) (self : bV) (x0 : AV) (h : aB) : Option (AV × aB) := dF (
 aD (pu h (aZ Tryd.prog .eql 3 true x0 (.int .i64 3))) fun v0 h0 =>
 aM v0
 (bS [(.str ⟨#[97, 100, 100]⟩)] h.length h0)
 (aD (pu h0 (aZ Tryd.prog .eql 3 true x0 (.int .i64 4))) fun v1 h1 =>
 aM v1
 (bS [(.str ⟨#[115, 117, 98]⟩)] h.length h1)
 (aD (pu h1 (aZ Tryd.prog .eql 3 true x0 (.int .i64 5))) fun v2 h2 =>
 aM v2
 (bS [(.str ⟨#[109, 117, 108]⟩)] h.length h2)
 (aD (pu h2 (aZ Tryd.prog .eql 3 true x0 (.int .i64 6))) fun v3 h3 =>
 aM v3
 (bS [(.str ⟨#[104, 105, 103, 104]⟩)] h.length h3)
 (aD (pu h3 (aZ Tryd.prog .eql 3 true x0 (.int .i64 7))) fun v4 h4 =>
 aM v4
 (bS [(.str ⟨#[97, 110, 100]⟩)] h.length h4)
 (aD (pu h4 (aZ Tryd.prog .eql 3 true x0 (.int .i64 8))) fun v5 h5 =>
 aM v5
 (bS [(.str ⟨#[111, 114]⟩)] h.length h5)
 (aD (pu h5 (aZ Tryd.prog .eql 3 true x0 (.int .i64 9))) fun v6 h6 =>
 aM v6
 (bS [(.str ⟨#[120, 111, 114]⟩)] h.length h6)
 (aD (pu h6 (aZ Tryd.prog .eql 3 true x0 (.int .i64 13))) fun v7 h7 =>
 aM v7
 (bS [(.str ⟨#[108, 101, 115, 115]⟩)] h.length h7)
 (aD (pu h7 (aZ Tryd.prog .eql 3 true x0 (.int .i64 10))) fun v8 h8 =>
 aM v8
 (bS [(.str ⟨#[115, 104, 108]⟩)] h.length h8)
 (aD (pu h8 (aZ Tryd.prog .eql 3 true x0 (.int .i64 11))) fun v9 h9 =>
 aM v9
 (bS [(.str ⟨#[115, 104, 114]⟩)] h.length h9)
 (aD (pu h9 (aZ Tryd.prog .eql 3 true x0 (.int .i64 12))) fun v10 h10 =>
 aM v10
 (bS [(.str ⟨#[115, 97, 114]⟩)] h.length h10)
 (aD (pu h10 (aZ Tryd.prog .eql 3 true x0 (.int .i64 15))) fun v11 h11 =>
 aM v11
 (bS [(.str ⟨#[108, 100]⟩)] h.length h11)
 (aD (pu h11 (aZ Tryd.prog .eql 3 true x0 (.int .i64 17))) fun v12 h12 =>
 aM v12
 (bS [(.str ⟨#[98, 114]⟩)] h.length h12)
 (aD (pu h12 (aZ Tryd.prog .eql 3 true x0 (.int .i64 20))) fun v13 h13 =>
 aM v13
 (bS [(.str ⟨#[104, 97, 108, 116]⟩)] h.length h13)
 (aD (pu h13 (aZ Tryd.prog .eql 3 true x0 (.int .i64 18))) fun v14 h14 =>
 aM v14
 (bS [(.str ⟨#[98, 122]⟩)] h.length h14)
 (bS [(.str ⟨#[98, 110, 122]⟩)] h.length h14))))))))))))))))
noncomputable def cF.f (G : aC) : Nat → bV
 | 0 => fun _ _ => none
 | k + 1 => fun args h => kM args fun x0 => (cF.c G k (cF.f G k) x0 h)
noncomputable def cE.ann : Ann := dP [] [] [] [(30, [2, 3]), (29, [0, 2, 43]), (26, [0, 2, 4, 37]), (19, [0, 2, 4, 23]), (14, [0, 2, 4, 11])]
noncomputable def cE.env (G : aC) (k : Nat) (self : bV) : List (Nat × Bool × bV) := [(83, true, cF.f G k)]
noncomputable def cE.c (G : aC) (k : Nat) (self : bV) (x0 : AV) (h : aB) : Option (AV × aB) := dF (
 aD (cY 113 (.agg [(.str ⟨#[]⟩), (.bool false), (.bool false), (.bool false), (.bool false), (.bool false)]) h) fun v0 h0 =>
 dG (
 aD (pu h0 (aZ Tryd.prog .eql 3 true x0 (.int .i64 1))) fun v1 h1 =>
 aM v1
 (aD (pu h1 (aU [(0, 1), (1, 1), (2, 1), (3, 1), (4, 1), (5, 1)] [(.str ⟨#[]⟩), (.bool false), (.bool false), (.bool false), (.bool false), (.bool false)] [(0, (.str ⟨#[99, 111, 110, 115, 116]⟩)), (1, (.bool true)), (5, (.bool true))])) fun v2 h2 =>
 aD (eD (aT 6 v0 v2 h2)) fun v3 h3 =>
 some (.ret, [v0, (.bool true)], h3))
 (aD (pu h1 (aZ Tryd.prog .eql 3 true x0 (.int .i64 2))) fun v4 h4 =>
 aM v4
 (aD (pu h4 (aU [(0, 1), (1, 1), (2, 1), (3, 1), (4, 1), (5, 1)] [(.str ⟨#[]⟩), (.bool false), (.bool false), (.bool false), (.bool false), (.bool false)] [(0, (.str ⟨#[109, 111, 118]⟩)), (1, (.bool true)), (2, (.bool true))])) fun v5 h5 =>
 aD (eD (aT 6 v0 v5 h5)) fun v6 h6 =>
 some (.ret, [v0, (.bool true)], h6))
 (dG (
 aD (pu h4 (aZ Tryd.prog .eql 3 true x0 (.int .i64 3))) fun v7 h7 =>
 aM v7
 (some (.normal, [x0, v0, x0, v7], h7))
 (aD (pu h7 (aZ Tryd.prog .eql 3 true x0 (.int .i64 4))) fun v8 h8 =>
 aM v8
 (some (.normal, [x0, v0, x0, v8], h8))
 (aD (pu h8 (aZ Tryd.prog .eql 3 true x0 (.int .i64 5))) fun v9 h9 =>
 aM v9
 (some (.normal, [x0, v0, x0, v9], h9))
 (aD (pu h9 (aZ Tryd.prog .eql 3 true x0 (.int .i64 6))) fun v10 h10 =>
 aM v10
 (some (.normal, [x0, v0, x0, v10], h10))
 (aD (pu h10 (aZ Tryd.prog .eql 3 true x0 (.int .i64 7))) fun v11 h11 =>
 aM v11
 (some (.normal, [x0, v0, x0, v11], h11))
 (aD (pu h11 (aZ Tryd.prog .eql 3 true x0 (.int .i64 8))) fun v12 h12 =>
 aM v12
 (some (.normal, [x0, v0, x0, v12], h12))
 (aD (pu h12 (aZ Tryd.prog .eql 3 true x0 (.int .i64 9))) fun v13 h13 =>
 aM v13
 (some (.normal, [x0, v0, x0, v13], h13))
 (aD (pu h13 (aZ Tryd.prog .eql 3 true x0 (.int .i64 13))) fun v14 h14 =>
 some (.normal, [x0, v0, x0, v14], h14))))))))) fun e15 x15 h15 => hC e15
 (aM (aJ x15 3)
 (aD (aN (cF.f G k) [(aJ x15 0)] h15) fun v16 h16 =>
 aD (pu h16 (aU [(0, 1), (1, 1), (2, 1), (3, 1), (4, 1), (5, 1)] [(.str ⟨#[]⟩), (.bool false), (.bool false), (.bool false), (.bool false), (.bool false)] [(0, v16), (1, (.bool true)), (2, (.bool true)), (3, (.bool true))])) fun v17 h17 =>
 aD (eD (aT 6 (aJ x15 1) v17 h17)) fun v18 h18 =>
 some (.ret, [(aJ x15 1), (.bool true)], h18))
 (dG (
 aD (pu h15 (aZ Tryd.prog .eql 3 true (aJ x15 2) (.int .i64 10))) fun v19 h19 =>
 aM v19
 (some (.normal, [(aJ x15 0), (aJ x15 1), (aJ x15 2), v19], h19))
 (aD (pu h19 (aZ Tryd.prog .eql 3 true (aJ x15 2) (.int .i64 11))) fun v20 h20 =>
 aM v20
 (some (.normal, [(aJ x15 0), (aJ x15 1), (aJ x15 2), v20], h20))
 (aD (pu h20 (aZ Tryd.prog .eql 3 true (aJ x15 2) (.int .i64 12))) fun v21 h21 =>
 aM v21
 (some (.normal, [(aJ x15 0), (aJ x15 1), (aJ x15 2), v21], h21))
 (aD (pu h21 (aZ Tryd.prog .eql 3 true (aJ x15 2) (.int .i64 15))) fun v22 h22 =>
 some (.normal, [(aJ x15 0), (aJ x15 1), (aJ x15 2), v22], h22))))) fun e23 x23 h23 => hC e23
 (aM (aJ x23 3)
 (aD (aN (cF.f G k) [(aJ x23 0)] h23) fun v24 h24 =>
 aD (pu h24 (aU [(0, 1), (1, 1), (2, 1), (3, 1), (4, 1), (5, 1)] [(.str ⟨#[]⟩), (.bool false), (.bool false), (.bool false), (.bool false), (.bool false)] [(0, v24), (1, (.bool true)), (2, (.bool true)), (5, (.bool true))])) fun v25 h25 =>
 aD (eD (aT 6 (aJ x23 1) v25 h25)) fun v26 h26 =>
 some (.ret, [(aJ x23 1), (.bool true)], h26))
 (aD (pu h23 (aZ Tryd.prog .eql 3 true (aJ x23 2) (.int .i64 14))) fun v27 h27 =>
 aM v27
 (aD (pu h27 (aU [(0, 1), (1, 1), (2, 1), (3, 1), (4, 1), (5, 1)] [(.str ⟨#[]⟩), (.bool false), (.bool false), (.bool false), (.bool false), (.bool false)] [(0, (.str ⟨#[115, 101, 108]⟩)), (1, (.bool true)), (2, (.bool true)), (3, (.bool true)), (4, (.bool true))])) fun v28 h28 =>
 aD (eD (aT 6 (aJ x23 1) v28 h28)) fun v29 h29 =>
 some (.ret, [(aJ x23 1), (.bool true)], h29))
 (aD (pu h27 (aZ Tryd.prog .eql 3 true (aJ x23 2) (.int .i64 16))) fun v30 h30 =>
 aM v30
 (aD (pu h30 (aU [(0, 1), (1, 1), (2, 1), (3, 1), (4, 1), (5, 1)] [(.str ⟨#[]⟩), (.bool false), (.bool false), (.bool false), (.bool false), (.bool false)] [(0, (.str ⟨#[115, 116]⟩)), (2, (.bool true)), (3, (.bool true)), (5, (.bool true))])) fun v31 h31 =>
 aD (eD (aT 6 (aJ x23 1) v31 h31)) fun v32 h32 =>
 some (.ret, [(aJ x23 1), (.bool true)], h32))
 (dG (
 aD (pu h30 (aZ Tryd.prog .eql 3 true (aJ x23 2) (.int .i64 17))) fun v33 h33 =>
 aM v33
 (some (.normal, [(aJ x23 0), (aJ x23 1), (aJ x23 2), v33], h33))
 (aD (pu h33 (aZ Tryd.prog .eql 3 true (aJ x23 2) (.int .i64 20))) fun v34 h34 =>
 some (.normal, [(aJ x23 0), (aJ x23 1), (aJ x23 2), v34], h34))) fun e35 x35 h35 => hC e35
 (aM (aJ x35 3)
 (aD (aN (cF.f G k) [(aJ x35 0)] h35) fun v36 h36 =>
 aD (pu h36 (aU [(0, 1), (1, 1), (2, 1), (3, 1), (4, 1), (5, 1)] [(.str ⟨#[]⟩), (.bool false), (.bool false), (.bool false), (.bool false), (.bool false)] [(0, v36), (5, (.bool true))])) fun v37 h37 =>
 aD (eD (aT 6 (aJ x35 1) v37 h37)) fun v38 h38 =>
 some (.ret, [(aJ x35 1), (.bool true)], h38))
 (dG (
 aD (pu h35 (aZ Tryd.prog .eql 3 true (aJ x35 2) (.int .i64 18))) fun v39 h39 =>
 aM v39
 (some (.normal, [(aJ x35 0), (aJ x35 1), v39], h39))
 (aD (pu h39 (aZ Tryd.prog .eql 3 true (aJ x35 2) (.int .i64 19))) fun v40 h40 =>
 some (.normal, [(aJ x35 0), (aJ x35 1), v40], h40))) fun e41 x41 h41 => hC e41
 (aM (aJ x41 2)
 (aD (aN (cF.f G k) [(aJ x41 0)] h41) fun v42 h42 =>
 aD (pu h42 (aU [(0, 1), (1, 1), (2, 1), (3, 1), (4, 1), (5, 1)] [(.str ⟨#[]⟩), (.bool false), (.bool false), (.bool false), (.bool false), (.bool false)] [(0, v42), (2, (.bool true)), (5, (.bool true))])) fun v43 h43 =>
 aD (eD (aT 6 (aJ x41 1) v43 h43)) fun v44 h44 =>
 some (.ret, [(aJ x41 1), (.bool true)], h44))
 (some (.normal, [(aJ x41 1), .undef], h41)))
 (fun i41 => if i41 = 0 then (some (.normal, [(aJ x41 1), .undef], h41)) else (some (.exit i41, [(aJ x41 1), .undef], h41)))
 (some (.ret, [(aJ x41 1), .undef], h41))))
 (fun i35 => if i35 = 0 then (some (.normal, [(aJ x35 1), .undef], h35)) else (some (.exit i35, [(aJ x35 1), .undef], h35)))
 (some (.ret, [(aJ x35 1), .undef], h35))))))
 (fun i23 => if i23 = 0 then (some (.normal, [(aJ x23 1), .undef], h23)) else (some (.exit i23, [(aJ x23 1), .undef], h23)))
 (some (.ret, [(aJ x23 1), .undef], h23))))
 (fun i15 => if i15 = 0 then (some (.normal, [(aJ x15 1), .undef], h15)) else (some (.exit i15, [(aJ x15 1), .undef], h15)))
 (some (.ret, [(aJ x15 1), .undef], h15))))) fun e45 x45 h45 => hC e45
 (aD (pu h45 (aU [(0, 1), (1, 1), (2, 1), (3, 1), (4, 1), (5, 1)] [(.str ⟨#[]⟩), (.bool false), (.bool false), (.bool false), (.bool false), (.bool false)] [(0, (.str ⟨#[110, 111, 110, 101]⟩))])) fun v46 h46 =>
 aD (eD (aT 6 (aJ x45 0) v46 h46)) fun v47 h47 =>
 iE [aE G true 6 (aJ x45 0) h47, some (.bool false)] h.length h47)
 (fun i45 => none)
 (iE [aE G true 6 (aJ x45 0) h45, some (aJ x45 1)] h.length h45))
noncomputable def cE.f (G : aC) : Nat → bV
 | 0 => fun _ _ => none
 | k + 1 => fun args h => kM args fun x0 => (cE.c G k (cE.f G k) x0 h)
theorem cE.step (G : aC) (k : Nat) (x0 : AV) (h : aB) : cE.f G (k + 1) [x0] h = cE.c G k (cE.f G k) x0 h := rfl
noncomputable def cP.ann : Ann := dP [] [] [] []
noncomputable def cP.env (G : aC) (k : Nat) (self : bV) : List (Nat × Bool × bV) := []
noncomputable def cP.c (G : aC) (k : Nat) (self : bV) (x0 x1 : AV) (h : aB) : Option (AV × aB) := dF (
 aD (bN x0 h) fun v0 h0 =>
 aD (bN x1 h0) fun v1 h1 =>
 aD (pu h1 (aA 1 v1)) fun v2 h2 =>
 aD (pu h2 (aE G false 1 v2 h2)) fun v3 h3 =>
 aD (pu h3 (aA 2 v1)) fun v4 h4 =>
 aD (pu h4 (aE G false 1 v4 h4)) fun v5 h5 =>
 aD (pu h5 (aA 3 v1)) fun v6 h6 =>
 aD (pu h6 (aE G false 1 v6 h6)) fun v7 h7 =>
 aD (pu h7 (aA 4 v1)) fun v8 h8 =>
 aD (pu h8 (aE G false 1 v8 h8)) fun v9 h9 =>
 aD (pu h9 (aA 5 v1)) fun v10 h10 =>
 aD (pu h10 (aE G false 1 v10 h10)) fun v11 h11 =>
 aD (bK 1 5 (.bool false) [(0, v3), (1, v5), (2, v7), (3, v9), (4, v11)] h11) fun v12 h12 =>
 aD (pu h12 (aA 1 v0)) fun v13 h13 =>
 aD (pu h13 (aE G false 1 v13 h13)) fun v14 h14 =>
 aD (pu h14 (aA 2 v0)) fun v15 h15 =>
 aD (pu h15 (aE G false 1 v15 h15)) fun v16 h16 =>
 aD (pu h16 (aA 3 v0)) fun v17 h17 =>
 aD (pu h17 (aE G false 1 v17 h17)) fun v18 h18 =>
 aD (pu h18 (aA 4 v0)) fun v19 h19 =>
 aD (pu h19 (aE G false 1 v19 h19)) fun v20 h20 =>
 aD (pu h20 (aA 5 v0)) fun v21 h21 =>
 aD (pu h21 (aE G false 1 v21 h21)) fun v22 h22 =>
 aD (bK 1 5 (.int .i64 0) [(0, v14), (1, v16), (2, v18), (3, v20), (4, v22)] h22) fun v23 h23 =>
 bS [v12, v23] h.length h23)
noncomputable def cP.f (G : aC) : Nat → bV
 | 0 => fun _ _ => none
 | k + 1 => fun args h => kG args fun x0 x1 => (cP.c G k (cP.f G k) x0 x1 h)
noncomputable def cT.ann : Ann := dP [] [] [(12, [2, 3, 4, 8, 53, 54, 55]), (6, [2, 3, 4, 7, 8, 28])] [(33, [3, 4, 12]), (31, [2, 3, 12, 82]), (27, [2, 3, 12, 72, 79]), (22, [2, 3, 12, 72, 73])]
noncomputable def cT.env (G : aC) (k : Nat) (self : bV) : List (Nat × Bool × bV) := [(66, true, cE.f G k), (68, true, cP.f G k)]
noncomputable def cT.l6 (G : aC) (k n0 : Nat) (self : bV) (lp : fF) : fF := fun xs h0 => oU n0 xs h0 fun h =>
 aD (pu h (aZ Tryd.prog .lss 3 true (aJ xs 5) (.int .i64 4))) fun v17 h17 =>
 aM v17
 (aD (pu h17 (aH 1 (aJ xs 3) (aJ xs 5))) fun v18 h18 =>
 aD (pu h18 (aE G false 1 v18 h18)) fun v19 h19 =>
 aD (gd v19 true h19 (some ((aJ xs 4), h19))) fun v20 h20 =>
 aD (gd v19 true h20 (some ((aJ xs 5), h20))) fun v21 h21 =>
 aD (gd v19 true h21 (pu h21 (aH 1 v20 v21))) fun v22 h22 =>
 aD (gd v19 true h22 (pu h22 (aE G false 1 v22 h22))) fun v23 h23 =>
 aD (gd v19 true h23 (pu h23 (aZ Tryd.prog .lss 2 true v23 (.int .i64 0)))) fun v24 h24 =>
 aD (gd v19 true h24 (some (v24, h24))) fun v25 h25 =>
 aD (gd v25 false h25 (some ((aJ xs 4), h25))) fun v26 h26 =>
 aD (gd v25 false h26 (some ((aJ xs 5), h26))) fun v27 h27 =>
 aD (gd v25 false h27 (pu h27 (aH 1 v26 v27))) fun v28 h28 =>
 aD (gd v25 false h28 (pu h28 (aE G false 1 v28 h28))) fun v29 h29 =>
 aD (gd v25 false h29 (pu h29 (aA 1 (aJ xs 0)))) fun v30 h30 =>
 aD (gd v25 false h30 (pu h30 (aE G false 1 v30 h30))) fun v31 h31 =>
 aD (gd v25 false h31 (pu h31 (aZ Tryd.prog .geq 2 false v29 v31))) fun v32 h32 =>
 aD (gd v19 true h32 (pu h32 (dE v25 (.bool true) v32))) fun v33 h33 =>
 aD (pu h33 (dE v19 v33 (.bool false))) fun v34 h34 =>
 aM v34
 (aD (pu h34 (aE G false 1 (.gl 2) h34)) fun v35 h35 =>
 some (.ret, [(aJ xs 0), (aJ xs 1), v35, (aJ xs 3), (aJ xs 4), (aJ xs 5)], h35))
 (aD (pu h34 (aZ Tryd.prog .add 3 true (aJ xs 5) (.int .i64 1))) fun v36 h36 =>
 lp [(aJ xs 0), (aJ xs 1), (aJ xs 2), (aJ xs 3), (aJ xs 4), v36] h36))
 (some (.exit 0, [(aJ xs 0), (aJ xs 1), (aJ xs 2), (aJ xs 3), (aJ xs 4), (aJ xs 5)], h17))
noncomputable def cT.l12 (G : aC) (k n0 : Nat) (self : bV) (lp : fF) : fF := fun xs h0 => oU n0 xs h0 fun h =>
 aD (pu h (aZ Tryd.prog .lss 3 false (aJ xs 6) (aJ xs 5))) fun v39 h39 =>
 aM v39
 (aD (pu h39 (aH 1 (aJ xs 4) (aJ xs 6))) fun v40 h40 =>
 aD (pu h40 (aE G false 1 v40 h40)) fun v41 h41 =>
 aD (pu h41 (un .not v41)) fun v42 h42 =>
 aD (gd v42 true h42 (some ((aJ xs 3), h42))) fun v43 h43 =>
 aD (gd v42 true h43 (some ((aJ xs 6), h43))) fun v44 h44 =>
 aD (gd v42 true h44 (pu h44 (aH 1 v43 v44))) fun v45 h45 =>
 aD (gd v42 true h45 (pu h45 (aE G false 1 v45 h45))) fun v46 h46 =>
 aD (gd v42 true h46 (pu h46 (aZ Tryd.prog .neq 2 true v46 (.int .i64 0)))) fun v47 h47 =>
 aD (pu h47 (dE v42 v47 (.bool false))) fun v48 h48 =>
 aM v48
 (aD (pu h48 (aE G false 1 (.gl 3) h48)) fun v49 h49 =>
 some (.ret, [(aJ xs 0), (aJ xs 1), v49, (aJ xs 3), (aJ xs 4), (aJ xs 5), (aJ xs 6)], h49))
 (aD (pu h48 (aZ Tryd.prog .add 3 true (aJ xs 6) (.int .i64 1))) fun v50 h50 =>
 lp [(aJ xs 0), (aJ xs 1), (aJ xs 2), (aJ xs 3), (aJ xs 4), (aJ xs 5), v50] h50))
 (some (.exit 2, [(aJ xs 0), (aJ xs 1), (aJ xs 2), (aJ xs 3), (aJ xs 4), (aJ xs 5), (aJ xs 6)], h39))
noncomputable def cT.c (G : aC) (k : Nat) (self : bV) (x0 x1 : AV) (h : aB) : Option (AV × aB) := dF (
 aD (bN x0 h) fun v0 h0 =>
 aD (bN x1 h0) fun v1 h1 =>
 aD (pu h1 (aA 0 v1)) fun v2 h2 =>
 aD (pu h2 (aE G false 1 v2 h2)) fun v3 h3 =>
 aD (aN (cE.f G k) [v3] h3) fun v4 h4 =>
 aD (pu h4 (aI v4 0)) fun v5 h5 =>
 aD (pu h5 (aI v4 1)) fun v6 h6 =>
 aD (cY 113 (.agg [(.str ⟨#[]⟩), (.bool false), (.bool false), (.bool false), (.bool false), (.bool false)]) h6) fun v7 h7 =>
 aD (eD (aT 6 v7 v5 h7)) fun v8 h8 =>
 aD (pu h8 (un .not v6)) fun v9 h9 =>
 aM v9
 (aD (pu h9 (aE G false 1 (.gl 4) h9)) fun v10 h10 =>
 bS [v10] h.length h10)
 (aD (pu h9 (aE G true 6 v1 h9)) fun v11 h11 =>
 aD (pu h11 (aE G true 6 v7 h11)) fun v12 h12 =>
 aD (aN (cP.f G k) [v11, v12] h12) fun v13 h13 =>
 aD (pu h13 (aI v13 0)) fun v14 h14 =>
 aD (pu h14 (aI v13 1)) fun v15 h15 =>
 dG (eY (cT.l6 G k h15.length self) k [v0, v1, .nili, v14, v15, (.int .i64 0)] h15) fun e16 x16 h16 => hC e16
 (none)
 (fun i16 => if i16 = 0 then (aD (pu h16 (bX (aJ x16 3))) fun v37 h37 =>
 dG (eY (cT.l12 G k h37.length self) k [(aJ x16 0), (aJ x16 1), (aJ x16 2), (aJ x16 4), (aJ x16 3), v37, (.int .i64 0)] h37) fun e38 x38 h38 => hC e38
 (none)
 (fun i38 => if i38 = 2 then (dG (
 aD (pu h38 (aA 0 (aJ x38 1))) fun v51 h51 =>
 aD (pu h51 (aE G false 1 v51 h51)) fun v52 h52 =>
 dG (
 aD (pu h52 (aZ Tryd.prog .eql 3 true v52 (.int .i64 10))) fun v53 h53 =>
 aM v53
 (some (.normal, [(aJ x38 0), (aJ x38 1), (.int .i64 (-1)), v52, v53], h53))
 (aD (pu h53 (aZ Tryd.prog .eql 3 true v52 (.int .i64 11))) fun v54 h54 =>
 aM v54
 (some (.normal, [(aJ x38 0), (aJ x38 1), (.int .i64 (-1)), v52, v54], h54))
 (aD (pu h54 (aZ Tryd.prog .eql 3 true v52 (.int .i64 12))) fun v55 h55 =>
 some (.normal, [(aJ x38 0), (aJ x38 1), (.int .i64 (-1)), v52, v55], h55)))) fun e56 x56 h56 => hC e56
 (aM (aJ x56 4)
 (some (.normal, [(aJ x56 1), .undef, (.int .i64 63)], h56))
 (aD (pu h56 (aZ Tryd.prog .eql 3 true (aJ x56 3) (.int .i64 20))) fun v57 h57 =>
 aM v57
 (some (.normal, [(aJ x56 1), .undef, (.int .i64 2)], h57))
 (dG (
 aD (pu h57 (aZ Tryd.prog .eql 3 true (aJ x56 3) (.int .i64 15))) fun v58 h58 =>
 aM v58
 (some (.normal, [(aJ x56 0), (aJ x56 1), (aJ x56 2), (aJ x56 3), v58], h58))
 (aD (pu h58 (aZ Tryd.prog .eql 3 true (aJ x56 3) (.int .i64 16))) fun v59 h59 =>
 some (.normal, [(aJ x56 0), (aJ x56 1), (aJ x56 2), (aJ x56 3), v59], h59))) fun e60 x60 h60 => hC e60
 (aM (aJ x60 4)
 (some (.normal, [(aJ x60 1), .undef, (.int .i64 65535)], h60))
 (dG (
 aD (pu h60 (aZ Tryd.prog .eql 3 true (aJ x60 3) (.int .i64 17))) fun v61 h61 =>
 aM v61
 (some (.normal, [(aJ x60 0), (aJ x60 1), (aJ x60 2), v61], h61))
 (aD (pu h61 (aZ Tryd.prog .eql 3 true (aJ x60 3) (.int .i64 18))) fun v62 h62 =>
 aM v62
 (some (.normal, [(aJ x60 0), (aJ x60 1), (aJ x60 2), v62], h62))
 (aD (pu h62 (aZ Tryd.prog .eql 3 true (aJ x60 3) (.int .i64 19))) fun v63 h63 =>
 some (.normal, [(aJ x60 0), (aJ x60 1), (aJ x60 2), v63], h63)))) fun e64 x64 h64 => hC e64
 (aM (aJ x64 3)
 (aD (pu h64 (aA 5 (aJ x64 1))) fun v65 h65 =>
 aD (pu h65 (aE G false 1 v65 h65)) fun v66 h66 =>
 aD (pu h66 (aZ Tryd.prog .lss 2 true v66 (.int .i64 0))) fun v67 h67 =>
 aD (gd v67 false h67 (pu h67 (aA 5 (aJ x64 1)))) fun v68 h68 =>
 aD (gd v67 false h68 (pu h68 (aE G false 1 v68 h68))) fun v69 h69 =>
 aD (gd v67 false h69 (pu h69 (aA 0 (aJ x64 0)))) fun v70 h70 =>
 aD (gd v67 false h70 (pu h70 (aE G false 1 v70 h70))) fun v71 h71 =>
 aD (gd v67 false h71 (pu h71 (bX v71))) fun v72 h72 =>
 aD (gd v67 false h72 (pu h72 (aZ Tryd.prog .gtr 2 false v69 v72))) fun v73 h73 =>
 aD (pu h73 (dE v67 (.bool true) v73)) fun v74 h74 =>
 aM v74
 (aD (pu h74 (aE G false 1 (.gl 5) h74)) fun v75 h75 =>
 some (.ret, [(aJ x64 1), v75, (aJ x64 2)], h75))
 (some (.normal, [(aJ x64 1), .undef, (aJ x64 2)], h74)))
 (some (.normal, [(aJ x64 1), .undef, (aJ x64 2)], h64)))
 (fun i64 => if i64 = 4 then (some (.normal, [(aJ x64 1), .undef, (aJ x64 2)], h64)) else (some (.exit i64, [(aJ x64 1), .undef, (aJ x64 2)], h64)))
 (some (.ret, [(aJ x64 1), .undef, (aJ x64 2)], h64))))
 (fun i60 => if i60 = 4 then (some (.normal, [(aJ x60 1), .undef, (aJ x60 2)], h60)) else (some (.exit i60, [(aJ x60 1), .undef, (aJ x60 2)], h60)))
 (some (.ret, [(aJ x60 1), .undef, (aJ x60 2)], h60)))))
 (fun i56 => if i56 = 4 then (some (.normal, [(aJ x56 1), .undef, (aJ x56 2)], h56)) else (some (.exit i56, [(aJ x56 1), .undef, (aJ x56 2)], h56)))
 (some (.ret, [(aJ x56 1), .undef, (aJ x56 2)], h56))) fun e76 x76 h76 => hC e76
 (aD (pu h76 (aZ Tryd.prog .geq 2 true (aJ x76 2) (.int .i64 0))) fun v77 h77 =>
 aD (gd v77 true h77 (pu h77 (aA 5 (aJ x76 0)))) fun v78 h78 =>
 aD (gd v77 true h78 (pu h78 (aE G false 1 v78 h78))) fun v79 h79 =>
 aD (gd v77 true h79 (pu h79 (aZ Tryd.prog .lss 2 true v79 (.int .i64 0)))) fun v80 h80 =>
 aD (gd v77 true h80 (some (v80, h80))) fun v81 h81 =>
 aD (gd v81 false h81 (pu h81 (aA 5 (aJ x76 0)))) fun v82 h82 =>
 aD (gd v81 false h82 (pu h82 (aE G false 1 v82 h82))) fun v83 h83 =>
 aD (gd v81 false h83 (some ((aJ x76 2), h83))) fun v84 h84 =>
 aD (gd v81 false h84 (pu h84 (aZ Tryd.prog .gtr 2 false v83 v84))) fun v85 h85 =>
 aD (gd v77 true h85 (pu h85 (dE v81 (.bool true) v85))) fun v86 h86 =>
 aD (pu h86 (dE v77 v86 (.bool false))) fun v87 h87 =>
 aM v87
 (aD (pu h87 (aE G false 1 (.gl 2) h87)) fun v88 h88 =>
 bS [v88] h.length h88)
 (bS [.nili] h.length h87))
 (fun i76 => none)
 (bS [(aJ x76 1)] h.length h76)) else (none))
 (bS [(aJ x38 2)] h.length h38)) else (none))
 (bS [(aJ x16 2)] h.length h16)))
noncomputable def cT.f (G : aC) : Nat → bV
 | 0 => fun _ _ => none
 | k + 1 => fun args h => kG args fun x0 x1 => (cT.c G k (cT.f G k) x0 x1 h)
noncomputable def cC.ann : Ann := dP [] [] [(6, [1, 2, 33, 34, 35])] []
noncomputable def cC.env (G : aC) (k : Nat) (self : bV) : List (Nat × Bool × bV) := [(43, true, cT.f G k)]
noncomputable def cC.l6 (G : aC) (k n0 : Nat) (self : bV) (lp : fF) : fF := fun xs h0 => oU n0 xs h0 fun h =>
 aD (pu h (aZ Tryd.prog .lss 3 false (aJ xs 4) (aJ xs 3))) fun v26 h26 =>
 aM v26
 (aD (pu h26 (aH 6 (aJ xs 2) (aJ xs 4))) fun v27 h27 =>
 aD (pu h27 (aE G true 6 v27 h27)) fun v28 h28 =>
 aD (cY 52 (.agg [(.int .i64 0), (.int .i64 0), (.int .i64 0), (.int .i64 0), (.int .i64 0), (.int .i64 0)]) h28) fun v29 h29 =>
 aD (eD (aT 6 v29 v28 h29)) fun v30 h30 =>
 aD (pu h30 (aE G true 3 (aJ xs 0) h30)) fun v31 h31 =>
 aD (pu h31 (aE G true 6 v29 h31)) fun v32 h32 =>
 aD (aN (cT.f G k) [v31, v32] h32) fun v33 h33 =>
 aD (pu h33 (aZ Tryd.prog .neq 35 true v33 .nili)) fun v34 h34 =>
 aM v34
 (aD (pu h34 (aU [(0, 1), (1, 1)] [(.int .i64 0), .nili] [(0, (aJ xs 4)), (1, v33)])) fun v35 h35 =>
 aD (bN v35 h35) fun v36 h36 =>
 some (.ret, [(aJ xs 0), (.iface 89 v36), (aJ xs 2), (aJ xs 3), (aJ xs 4)], h36))
 (aD (pu h34 (aZ Tryd.prog .add 3 true (aJ xs 4) (.int .i64 1))) fun v37 h37 =>
 lp [(aJ xs 0), (aJ xs 1), (aJ xs 2), (aJ xs 3), v37] h37))
 (some (.exit 1, [(aJ xs 0), (aJ xs 1), (aJ xs 2), (aJ xs 3), (aJ xs 4)], h26))
noncomputable def cC.c (G : aC) (k : Nat) (self : bV) (x0 : AV) (h : aB) : Option (AV × aB) := dF (
 aD (bN x0 h) fun v0 h0 =>
 aD (pu h0 (aA 0 v0)) fun v1 h1 =>
 aD (pu h1 (aE G false 1 v1 h1)) fun v2 h2 =>
 aD (pu h2 (bX v2)) fun v3 h3 =>
 aD (pu h3 (aZ Tryd.prog .gtr 3 true v3 (.int .i64 262144))) fun v4 h4 =>
 aM v4
 (aD (pu h4 (aE G false 1 (.gl 0) h4)) fun v5 h5 =>
 bS [v5] h.length h5)
 (aD (pu h4 (aA 1 v0)) fun v6 h6 =>
 aD (pu h6 (aE G false 1 v6 h6)) fun v7 h7 =>
 aD (pu h7 (aZ Tryd.prog .lss 3 true v7 (.int .i64 0))) fun v8 h8 =>
 aD (gd v8 false h8 (pu h8 (aA 1 v0))) fun v9 h9 =>
 aD (gd v8 false h9 (pu h9 (aE G false 1 v9 h9))) fun v10 h10 =>
 aD (gd v8 false h10 (pu h10 (aZ Tryd.prog .gtr 3 true v10 (.int .i64 65536)))) fun v11 h11 =>
 aD (pu h11 (dE v8 (.bool true) v11)) fun v12 h12 =>
 aD (gd v12 false h12 (pu h12 (aA 2 v0))) fun v13 h13 =>
 aD (gd v12 false h13 (pu h13 (aE G false 1 v13 h13))) fun v14 h14 =>
 aD (gd v12 false h14 (pu h14 (aZ Tryd.prog .lss 3 true v14 (.int .i64 0)))) fun v15 h15 =>
 aD (pu h15 (dE v12 (.bool true) v15)) fun v16 h16 =>
 aD (gd v16 false h16 (pu h16 (aA 2 v0))) fun v17 h17 =>
 aD (gd v16 false h17 (pu h17 (aE G false 1 v17 h17))) fun v18 h18 =>
 aD (gd v16 false h18 (pu h18 (aZ Tryd.prog .gtr 3 true v18 (.int .i64 65536)))) fun v19 h19 =>
 aD (pu h19 (dE v16 (.bool true) v19)) fun v20 h20 =>
 aM v20
 (aD (pu h20 (aE G false 1 (.gl 0) h20)) fun v21 h21 =>
 bS [v21] h.length h21)
 (aD (pu h20 (aA 0 v0)) fun v22 h22 =>
 aD (pu h22 (aE G false 1 v22 h22)) fun v23 h23 =>
 aD (pu h23 (bX v23)) fun v24 h24 =>
 dG (eY (cC.l6 G k h24.length self) k [v0, .nili, v23, v24, (.int .i64 0)] h24) fun e25 x25 h25 => hC e25
 (none)
 (fun i25 => if i25 = 1 then (bS [.nili] h.length h25) else (none))
 (bS [(aJ x25 1)] h.length h25))))
noncomputable def cC.f (G : aC) : Nat → bV
 | 0 => fun _ _ => none
 | k + 1 => fun args h => kM args fun x0 => (cC.c G k (cC.f G k) x0 h)
noncomputable def cJ.ann : Ann := dP [] [] [] []
noncomputable def cJ.env (G : aC) (k : Nat) (self : bV) : List (Nat × Bool × bV) := []
noncomputable def cJ.c (G : aC) (k : Nat) (self : bV) (x0 x1 x2 : AV) (h : aB) : Option (AV × aB) := dF (
 aD (bN x0 h) fun v0 h0 =>
 aD (pu h0 (bX x1)) fun v1 h1 =>
 aD (pu h1 (aA 2 v0)) fun v2 h2 =>
 aD (pu h2 (aE G false 1 v2 h2)) fun v3 h3 =>
 aD (pu h3 (aZ Tryd.prog .neq 3 false v1 v3)) fun v4 h4 =>
 aM v4
 (aD (pu h4 (aE G false 1 (.gl 1) h4)) fun v5 h5 =>
 bS [v5] h.length h5)
 (aD (pu h4 (aZ Tryd.prog .lss 2 true x2 (.int .i64 0))) fun v6 h6 =>
 aD (gd v6 false h6 (some (x2, h6))) fun v7 h7 =>
 aD (gd v6 false h7 (pu h7 (aZ Tryd.prog .gtr 2 true v7 (.int .i64 1073741824)))) fun v8 h8 =>
 aD (pu h8 (dE v6 (.bool true) v8)) fun v9 h9 =>
 aM v9
 (aD (pu h9 (aE G false 1 (.gl 2) h9)) fun v10 h10 =>
 bS [v10] h.length h10)
 (bS [.nili] h.length h9)))
noncomputable def cJ.f (G : aC) : Nat → bV
 | 0 => fun _ _ => none
 | k + 1 => fun args h => xR args fun x0 x1 x2 => (cJ.c G k (cJ.f G k) x0 x1 x2 h)
noncomputable def aK.ann : Ann := dP [5] [2] [] []
noncomputable def aK.env (G : aC) (k : Nat) (self : bV) : List (Nat × Bool × bV) := []
noncomputable def aK.c (G : aC) (k : Nat) (self : bV) (x0 : AV) (h : aB) : Option (AV × aB) := dF (
 aD (some (.sl h.length 0 0 0 1, h ++ [⟨48, 1, []⟩])) fun v0 h0 =>
 aD (pu h0 (aZ Tryd.prog .eql 25 true x0 .nils)) fun v1 h1 =>
 aM v1
 (aD (some (.sl h1.length 0 0 0 1, h1 ++ [⟨48, 1, []⟩])) fun v2 h2 =>
 aAJ [v2] h2)
 (aD (bJ 48 1 0 (.int .u64 0) [] h1) fun v3 h3 =>
 aD (fS 48 1 v3 x0 h3) fun v4 h4 =>
 aAJ [v4] h4))
noncomputable def aK.f (G : aC) : Nat → bV
 | 0 => fun _ _ => none
 | k + 1 => fun args h => kM args fun x0 => (aK.c G k (aK.f G k) x0 h)
noncomputable def bF.ann : Ann := dP [] [] [] []
noncomputable def bF.env (G : aC) (k : Nat) (self : bV) : List (Nat × Bool × bV) := []
noncomputable def bF.c (G : aC) (k : Nat) (self : bV) (x0 x1 x2 : AV) (h : aB) : Option (AV × aB) := dF (
 aD (pu h (eH x0)) fun v0 h0 =>
 aD (pu h0 (aA 5 v0)) fun v1 h1 =>
 aD (pu h1 (aA 2 v1)) fun v2 h2 =>
 aD (pu h2 (aE G false 1 v2 h2)) fun v3 h3 =>
 aD (pu h3 (aU [(0, 1), (1, 1)] [(.int .i64 0), (.int .i64 0)] [(0, x1), (1, x2)])) fun v4 h4 =>
 aD (bK 2 1 (.agg [(.int .i64 0), (.int .i64 0)]) [(0, v4)] h4) fun v5 h5 =>
 aD (fS 96 2 v3 v5 h5) fun v6 h6 =>
 aD (pu h6 (eH x0)) fun v7 h7 =>
 aD (pu h7 (aA 5 v7)) fun v8 h8 =>
 aD (pu h8 (aA 2 v8)) fun v9 h9 =>
 aD (eD (aT 1 v9 v6 h9)) fun v10 h10 =>
 bS [] h.length h10)
noncomputable def bF.f (G : aC) : Nat → bV
 | 0 => fun _ _ => none
 | k + 1 => fun args h => xR args fun x0 x1 x2 => (bF.c G k (bF.f G k) x0 x1 x2 h)
noncomputable def aS.ann : Ann := dP [] [] [] []
noncomputable def aS.env (G : aC) (k : Nat) (self : bV) : List (Nat × Bool × bV) := []
noncomputable def aS.c (G : aC) (k : Nat) (self : bV) (x0 x1 : AV) (h : aB) : Option (AV × aB) := dF (
 aD (pu h (aZ Tryd.prog .and 48 true x0 (.int .u64 4294967295))) fun v0 h0 =>
 aD (pu h0 (aZ Tryd.prog .shr 48 true x0 (.int .u64 32))) fun v1 h1 =>
 aD (pu h1 (aZ Tryd.prog .and 48 true x1 (.int .u64 4294967295))) fun v2 h2 =>
 aD (pu h2 (aZ Tryd.prog .shr 48 true x1 (.int .u64 32))) fun v3 h3 =>
 aD (pu h3 (aZ Tryd.prog .mul 48 false v0 v2)) fun v4 h4 =>
 aD (pu h4 (aZ Tryd.prog .mul 48 false v1 v2)) fun v5 h5 =>
 aD (pu h5 (aZ Tryd.prog .shr 48 true v4 (.int .u64 32))) fun v6 h6 =>
 aD (pu h6 (aZ Tryd.prog .add 48 false v5 v6)) fun v7 h7 =>
 aD (pu h7 (aZ Tryd.prog .and 48 true v7 (.int .u64 4294967295))) fun v8 h8 =>
 aD (pu h8 (aZ Tryd.prog .shr 48 true v7 (.int .u64 32))) fun v9 h9 =>
 aD (pu h9 (aZ Tryd.prog .mul 48 false v0 v3)) fun v10 h10 =>
 aD (pu h10 (aZ Tryd.prog .add 48 false v8 v10)) fun v11 h11 =>
 aD (pu h11 (aZ Tryd.prog .mul 48 false v1 v3)) fun v12 h12 =>
 aD (pu h12 (aZ Tryd.prog .add 48 false v12 v9)) fun v13 h13 =>
 aD (pu h13 (aZ Tryd.prog .shr 48 true v11 (.int .u64 32))) fun v14 h14 =>
 aD (pu h14 (aZ Tryd.prog .add 48 false v13 v14)) fun v15 h15 =>
 aD (pu h15 (aZ Tryd.prog .mul 48 false x0 x1)) fun v16 h16 =>
 bS [v15, v16] h.length h16)
noncomputable def aS.f (G : aC) : Nat → bV
 | 0 => fun _ _ => none
 | k + 1 => fun args h => kG args fun x0 x1 => (aS.c G k (aS.f G k) x0 x1 h)
theorem aS.step (G : aC) (k : Nat) (x0 x1 : AV) (h : aB) : aS.f G (k + 1) [x0, x1] h = aS.c G k (aS.f G k) x0 x1 h := rfl
noncomputable def bG.ann : Ann := dP [] [] [] []
noncomputable def bG.env (G : aC) (k : Nat) (self : bV) : List (Nat × Bool × bV) := []
noncomputable def bG.c (G : aC) (k : Nat) (self : bV) (x0 x1 : AV) (h : aB) : Option (AV × aB) := dF (
 aD (bN x0 h) fun v0 h0 =>
 aD (pu h0 (aA 5 v0)) fun v1 h1 =>
 aD (pu h1 (aE G false 1 v1 h1)) fun v2 h2 =>
 aD (pu h2 (aZ Tryd.prog .lss 2 true v2 (.int .i64 0))) fun v3 h3 =>
 aD (gd v3 false h3 (pu h3 (aA 5 v0))) fun v4 h4 =>
 aD (gd v3 false h4 (pu h4 (aE G false 1 v4 h4))) fun v5 h5 =>
 aD (gd v3 false h5 (pu h5 (aZ Tryd.prog .gtr 2 true v5 (.int .i64 63)))) fun v6 h6 =>
 aD (pu h6 (dE v3 (.bool true) v6)) fun v7 h7 =>
 aM v7
 (bS [(.int .u64 0), (.bool false)] h.length h7)
 (aD (pu h7 (aA 0 v0)) fun v8 h8 =>
 aD (pu h8 (aE G false 1 v8 h8)) fun v9 h9 =>
 aD (pu h9 (aZ Tryd.prog .eql 3 true v9 (.int .i64 10))) fun v10 h10 =>
 aM v10
 (aD (pu h10 (aA 5 v0)) fun v11 h11 =>
 aD (pu h11 (aE G false 1 v11 h11)) fun v12 h12 =>
 aD (pu h12 (aZ Tryd.prog .shl 48 false x1 v12)) fun v13 h13 =>
 bS [v13, (.bool true)] h.length h13)
 (aD (pu h10 (aA 0 v0)) fun v14 h14 =>
 aD (pu h14 (aE G false 1 v14 h14)) fun v15 h15 =>
 aD (pu h15 (aZ Tryd.prog .eql 3 true v15 (.int .i64 11))) fun v16 h16 =>
 aM v16
 (aD (pu h16 (aA 5 v0)) fun v17 h17 =>
 aD (pu h17 (aE G false 1 v17 h17)) fun v18 h18 =>
 aD (pu h18 (aZ Tryd.prog .shr 48 false x1 v18)) fun v19 h19 =>
 bS [v19, (.bool true)] h.length h19)
 (aD (pu h16 (dL .i64 x1)) fun v20 h20 =>
 aD (pu h20 (aA 5 v0)) fun v21 h21 =>
 aD (pu h21 (aE G false 1 v21 h21)) fun v22 h22 =>
 aD (pu h22 (aZ Tryd.prog .shr 2 false v20 v22)) fun v23 h23 =>
 aD (pu h23 (dL .u64 v23)) fun v24 h24 =>
 bS [v24, (.bool true)] h.length h24))))
noncomputable def bG.f (G : aC) : Nat → bV
 | 0 => fun _ _ => none
 | k + 1 => fun args h => kG args fun x0 x1 => (bG.c G k (bG.f G k) x0 x1 h)
theorem bG.step (G : aC) (k : Nat) (x0 x1 : AV) (h : aB) : bG.f G (k + 1) [x0, x1] h = bG.c G k (bG.f G k) x0 x1 h := rfl
noncomputable def cO.ann : Ann := dP [] [] [] []
noncomputable def cO.env (G : aC) (k : Nat) (self : bV) : List (Nat × Bool × bV) := []
noncomputable def cO.c (G : aC) (k : Nat) (self : bV) (x0 : AV) (h : aB) : Option (AV × aB) := dF (
 aM x0
 (bS [(.int .u64 1)] h.length h)
 (bS [(.int .u64 0)] h.length h))
noncomputable def cO.f (G : aC) : Nat → bV
 | 0 => fun _ _ => none
 | k + 1 => fun args h => kM args fun x0 => (cO.c G k (cO.f G k) x0 h)
noncomputable def bH.ann : Ann := dP [] [] [] [(24, [1, 2, 3, 4, 13, 61])]
noncomputable def bH.env (G : aC) (k : Nat) (self : bV) : List (Nat × Bool × bV) := [(49, true, aS.f G k), (50, true, bG.f G k), (51, true, cO.f G k)]
noncomputable def bH.c (G : aC) (k : Nat) (self : bV) (x0 x1 x2 x3 : AV) (h : aB) : Option (AV × aB) := dF (
 aD (bN x0 h) fun v0 h0 =>
 aD (pu h0 (aA 0 v0)) fun v1 h1 =>
 aD (pu h1 (aE G false 1 v1 h1)) fun v2 h2 =>
 aD (pu h2 (aZ Tryd.prog .eql 3 true v2 (.int .i64 1))) fun v3 h3 =>
 aM v3
 (aD (pu h3 (aA 5 v0)) fun v4 h4 =>
 aD (pu h4 (aE G false 1 v4 h4)) fun v5 h5 =>
 aD (pu h5 (dL .u64 v5)) fun v6 h6 =>
 bS [v6, (.bool true)] h.length h6)
 (aD (pu h3 (aZ Tryd.prog .eql 3 true v2 (.int .i64 2))) fun v7 h7 =>
 aM v7
 (bS [x1, (.bool true)] h.length h7)
 (aD (pu h7 (aZ Tryd.prog .eql 3 true v2 (.int .i64 3))) fun v8 h8 =>
 aM v8
 (aD (pu h8 (aZ Tryd.prog .add 48 false x1 x2)) fun v9 h9 =>
 bS [v9, (.bool true)] h.length h9)
 (aD (pu h8 (aZ Tryd.prog .eql 3 true v2 (.int .i64 4))) fun v10 h10 =>
 aM v10
 (aD (pu h10 (aZ Tryd.prog .sub 48 false x1 x2)) fun v11 h11 =>
 bS [v11, (.bool true)] h.length h11)
 (aD (pu h10 (aZ Tryd.prog .eql 3 true v2 (.int .i64 5))) fun v12 h12 =>
 aM v12
 (aD (pu h12 (aZ Tryd.prog .mul 48 false x1 x2)) fun v13 h13 =>
 bS [v13, (.bool true)] h.length h13)
 (aD (pu h12 (aZ Tryd.prog .eql 3 true v2 (.int .i64 6))) fun v14 h14 =>
 aM v14
 (aD (aN (aS.f G k) [x1, x2] h14) fun v15 h15 =>
 aD (pu h15 (aI v15 0)) fun v16 h16 =>
 aD (pu h16 (aI v15 1)) fun v17 h17 =>
 bS [v16, (.bool true)] h.length h17)
 (aD (pu h14 (aZ Tryd.prog .eql 3 true v2 (.int .i64 7))) fun v18 h18 =>
 aM v18
 (aD (pu h18 (aZ Tryd.prog .and 48 false x1 x2)) fun v19 h19 =>
 bS [v19, (.bool true)] h.length h19)
 (aD (pu h18 (aZ Tryd.prog .eql 3 true v2 (.int .i64 8))) fun v20 h20 =>
 aM v20
 (aD (pu h20 (aZ Tryd.prog .or 48 false x1 x2)) fun v21 h21 =>
 bS [v21, (.bool true)] h.length h21)
 (aD (pu h20 (aZ Tryd.prog .eql 3 true v2 (.int .i64 9))) fun v22 h22 =>
 aM v22
 (aD (pu h22 (aZ Tryd.prog .xor 48 false x1 x2)) fun v23 h23 =>
 bS [v23, (.bool true)] h.length h23)
 (dG (
 aD (pu h22 (aZ Tryd.prog .eql 3 true v2 (.int .i64 10))) fun v24 h24 =>
 aM v24
 (some (.normal, [x1, x2, x3, v0, v2, v24], h24))
 (aD (pu h24 (aZ Tryd.prog .eql 3 true v2 (.int .i64 11))) fun v25 h25 =>
 aM v25
 (some (.normal, [x1, x2, x3, v0, v2, v25], h25))
 (aD (pu h25 (aZ Tryd.prog .eql 3 true v2 (.int .i64 12))) fun v26 h26 =>
 some (.normal, [x1, x2, x3, v0, v2, v26], h26)))) fun e27 x27 h27 => hC e27
 (aM (aJ x27 5)
 (aD (pu h27 (aE G true 6 (aJ x27 3) h27)) fun v28 h28 =>
 aD (aN (bG.f G k) [v28, (aJ x27 0)] h28) fun v29 h29 =>
 aD (pu h29 (aI v29 0)) fun v30 h30 =>
 aD (pu h30 (aI v29 1)) fun v31 h31 =>
 bS [v30, v31] h.length h31)
 (aD (pu h27 (aZ Tryd.prog .eql 3 true (aJ x27 4) (.int .i64 13))) fun v32 h32 =>
 aM v32
 (aD (pu h32 (aZ Tryd.prog .lss 48 false (aJ x27 0) (aJ x27 1))) fun v33 h33 =>
 aD (aN (cO.f G k) [v33] h33) fun v34 h34 =>
 bS [v34, (.bool true)] h.length h34)
 (aD (pu h32 (aZ Tryd.prog .eql 3 true (aJ x27 4) (.int .i64 14))) fun v35 h35 =>
 aM v35
 (aD (pu h35 (aZ Tryd.prog .neq 48 true (aJ x27 0) (.int .u64 0))) fun v36 h36 =>
 aM v36
 (bS [(aJ x27 1), (.bool true)] h.length h36)
 (bS [(aJ x27 2), (.bool true)] h.length h36))
 (bS [(.int .u64 0), (.bool false)] h.length h35))))
 (fun i27 => if i27 = 0 then (bS [(.int .u64 0), (.bool false)] h.length h27) else (none))
 (bS [.undef, .undef] h.length h27)))))))))))
noncomputable def bH.f (G : aC) : Nat → bV
 | 0 => fun _ _ => none
 | k + 1 => fun args h => xS args fun x0 x1 x2 x3 => (bH.c G k (bH.f G k) x0 x1 x2 x3 h)
theorem bH.step (G : aC) (k : Nat) (x0 x1 x2 x3 : AV) (h : aB) : bH.f G (k + 1) [x0, x1, x2, x3] h = bH.c G k (bH.f G k) x0 x1 x2 x3 h := rfl
noncomputable def bQ.ann : Ann := dP [] [] [] []
noncomputable def bQ.env (G : aC) (k : Nat) (self : bV) : List (Nat × Bool × bV) := [(73, false, bF.f G k)]
noncomputable def bQ.c (G : aC) (k : Nat) (self : bV) (x0 x1 : AV) (h : aB) : Option (AV × aB) := dF (
 aD (bN x1 h) fun v0 h0 =>
 aD (pu h0 (eH x0)) fun v1 h1 =>
 aD (pu h1 (aA 3 v1)) fun v2 h2 =>
 aD (pu h2 (aE G false 1 v2 h2)) fun v3 h3 =>
 aD (pu h3 (aA 2 v0)) fun v4 h4 =>
 aD (pu h4 (aE G false 1 v4 h4)) fun v5 h5 =>
 aD (pu h5 (aH 1 v3 v5)) fun v6 h6 =>
 aD (pu h6 (aE G false 1 v6 h6)) fun v7 h7 =>
 aD (pu h7 (aA 5 v0)) fun v8 h8 =>
 aD (pu h8 (aE G false 1 v8 h8)) fun v9 h9 =>
 aD (pu h9 (dL .u64 v9)) fun v10 h10 =>
 aD (pu h10 (aZ Tryd.prog .add 48 false v7 v10)) fun v11 h11 =>
 aD (pu h11 (dL .i64 v11)) fun v12 h12 =>
 aD (eW (bF.f G k) [x0, (.int .i64 3), v12] h12) fun v13 h13 =>
 aD (pu h13 (eH x0)) fun v14 h14 =>
 aD (pu h14 (aA 5 v14)) fun v15 h15 =>
 aD (pu h15 (aA 1 v15)) fun v16 h16 =>
 aD (pu h16 (aE G false 1 v16 h16)) fun v17 h17 =>
 aD (pu h17 (bX v17)) fun v18 h18 =>
 aD (pu h18 (dL .u64 v18)) fun v19 h19 =>
 aD (pu h19 (aZ Tryd.prog .geq 48 false v11 v19)) fun v20 h20 =>
 aM v20
 (aD (pu h20 (eH x0)) fun v21 h21 =>
 aD (pu h21 (aA 5 v21)) fun v22 h22 =>
 aD (pu h22 (aA 0 v22)) fun v23 h23 =>
 aD (eD (aT 1 v23 (.int .i64 3) h23)) fun v24 h24 =>
 bS [(.bool false)] h.length h24)
 (aD (pu h20 (aA 0 v0)) fun v25 h25 =>
 aD (pu h25 (aE G false 1 v25 h25)) fun v26 h26 =>
 aD (pu h26 (aZ Tryd.prog .eql 3 true v26 (.int .i64 15))) fun v27 h27 =>
 aM v27
 (aD (pu h27 (eH x0)) fun v28 h28 =>
 aD (pu h28 (aA 3 v28)) fun v29 h29 =>
 aD (pu h29 (aE G false 1 v29 h29)) fun v30 h30 =>
 aD (pu h30 (aA 1 v0)) fun v31 h31 =>
 aD (pu h31 (aE G false 1 v31 h31)) fun v32 h32 =>
 aD (pu h32 (eH x0)) fun v33 h33 =>
 aD (pu h33 (aA 5 v33)) fun v34 h34 =>
 aD (pu h34 (aA 1 v34)) fun v35 h35 =>
 aD (pu h35 (aE G false 1 v35 h35)) fun v36 h36 =>
 aD (pu h36 (aH 1 v36 v11)) fun v37 h37 =>
 aD (pu h37 (aE G false 1 v37 h37)) fun v38 h38 =>
 aD (pu h38 (aH 1 v30 v32)) fun v39 h39 =>
 aD (eD (aT 1 v39 v38 h39)) fun v40 h40 =>
 bS [(.bool true)] h.length h40)
 (aD (pu h27 (eH x0)) fun v41 h41 =>
 aD (pu h41 (aA 5 v41)) fun v42 h42 =>
 aD (pu h42 (aA 1 v42)) fun v43 h43 =>
 aD (pu h43 (aE G false 1 v43 h43)) fun v44 h44 =>
 aD (pu h44 (eH x0)) fun v45 h45 =>
 aD (pu h45 (aA 3 v45)) fun v46 h46 =>
 aD (pu h46 (aE G false 1 v46 h46)) fun v47 h47 =>
 aD (pu h47 (aA 3 v0)) fun v48 h48 =>
 aD (pu h48 (aE G false 1 v48 h48)) fun v49 h49 =>
 aD (pu h49 (aH 1 v47 v49)) fun v50 h50 =>
 aD (pu h50 (aE G false 1 v50 h50)) fun v51 h51 =>
 aD (pu h51 (aH 1 v44 v11)) fun v52 h52 =>
 aD (eD (aT 1 v52 v51 h52)) fun v53 h53 =>
 bS [(.bool true)] h.length h53)))
noncomputable def bQ.f (G : aC) : Nat → bV
 | 0 => fun _ _ => none
 | k + 1 => fun args h => kG args fun x0 x1 => (bQ.c G k (bQ.f G k) x0 x1 h)
noncomputable def bP.ann : Ann := dP [] [] [] [(5, [0, 3])]
noncomputable def bP.env (G : aC) (k : Nat) (self : bV) : List (Nat × Bool × bV) := [(51, true, cO.f G k), (73, false, bF.f G k)]
noncomputable def bP.c (G : aC) (k : Nat) (self : bV) (x0 x1 : AV) (h : aB) : Option (AV × aB) := dF (
 aD (bN x1 h) fun v0 h0 =>
 dG (
 aD (pu h0 (aA 0 v0)) fun v1 h1 =>
 aD (pu h1 (aE G false 1 v1 h1)) fun v2 h2 =>
 aD (pu h2 (aZ Tryd.prog .neq 3 true v2 (.int .i64 17))) fun v3 h3 =>
 aM v3
 (aD (pu h3 (eH x0)) fun v4 h4 =>
 aD (pu h4 (aA 3 v4)) fun v5 h5 =>
 aD (pu h5 (aE G false 1 v5 h5)) fun v6 h6 =>
 aD (pu h6 (aA 2 v0)) fun v7 h7 =>
 aD (pu h7 (aE G false 1 v7 h7)) fun v8 h8 =>
 aD (pu h8 (aH 1 v6 v8)) fun v9 h9 =>
 aD (pu h9 (aE G false 1 v9 h9)) fun v10 h10 =>
 aD (pu h10 (aZ Tryd.prog .eql 48 true v10 (.int .u64 0))) fun v11 h11 =>
 aD (pu h11 (aA 0 v0)) fun v12 h12 =>
 aD (pu h12 (aE G false 1 v12 h12)) fun v13 h13 =>
 aD (pu h13 (aZ Tryd.prog .eql 3 true v13 (.int .i64 18))) fun v14 h14 =>
 aD (pu h14 (aZ Tryd.prog .eql 4 false v11 v14)) fun v15 h15 =>
 aD (aN (cO.f G k) [v15] h15) fun v16 h16 =>
 aD (pu h16 (dL .i64 v16)) fun v17 h17 =>
 aD (eW (bF.f G k) [x0, (.int .i64 2), v17] h17) fun v18 h18 =>
 aD (pu h18 (un .not v15)) fun v19 h19 =>
 aM v19
 (some (.ret, [x0, v0], h19))
 (some (.normal, [x0, v0], h19)))
 (some (.normal, [x0, v0], h3))) fun e20 x20 h20 => hC e20
 (aD (pu h20 (aA 5 (aJ x20 1))) fun v21 h21 =>
 aD (pu h21 (aE G false 1 v21 h21)) fun v22 h22 =>
 aD (pu h22 (eH (aJ x20 0))) fun v23 h23 =>
 aD (pu h23 (aA 4 v23)) fun v24 h24 =>
 aD (eD (aT 1 v24 v22 h24)) fun v25 h25 =>
 bS [] h.length h25)
 (fun i20 => none)
 (bS [] h.length h20))
noncomputable def bP.f (G : aC) : Nat → bV
 | 0 => fun _ _ => none
 | k + 1 => fun args h => kG args fun x0 x1 => (bP.c G k (bP.f G k) x0 x1 h)
noncomputable def bT.ann : Ann := dP [] [] [] [(14, [0, 3, 4]), (9, [0, 3, 15, 22]), (5, [0, 3, 15, 16])]
noncomputable def bT.env (G : aC) (k : Nat) (self : bV) : List (Nat × Bool × bV) := [(24, true, bH.f G k), (88, false, bQ.f G k), (89, false, bP.f G k)]
noncomputable def bT.c (G : aC) (k : Nat) (self : bV) (x0 x1 : AV) (h : aB) : Option (AV × aB) := dF (
 aD (bN x1 h) fun v0 h0 =>
 aD (pu h0 (eH x0)) fun v1 h1 =>
 aD (pu h1 (aA 4 v1)) fun v2 h2 =>
 aD (pu h2 (aE G false 1 v2 h2)) fun v3 h3 =>
 aD (pu h3 (aZ Tryd.prog .add 3 true v3 (.int .i64 1))) fun v4 h4 =>
 aD (pu h4 (eH x0)) fun v5 h5 =>
 aD (pu h5 (aA 4 v5)) fun v6 h6 =>
 aD (eD (aT 1 v6 v4 h6)) fun v7 h7 =>
 dG (
 aD (pu h7 (aA 0 v0)) fun v8 h8 =>
 aD (pu h8 (aE G false 1 v8 h8)) fun v9 h9 =>
 dG (
 aD (pu h9 (aZ Tryd.prog .eql 3 true v9 (.int .i64 15))) fun v10 h10 =>
 aM v10
 (some (.normal, [x0, v0, v9, v10], h10))
 (aD (pu h10 (aZ Tryd.prog .eql 3 true v9 (.int .i64 16))) fun v11 h11 =>
 some (.normal, [x0, v0, v9, v11], h11))) fun e12 x12 h12 => hC e12
 (aM (aJ x12 3)
 (aD (pu h12 (aE G true 6 (aJ x12 1) h12)) fun v13 h13 =>
 aD (eW (bQ.f G k) [(aJ x12 0), v13] h13) fun v14 h14 =>
 some (.ret, [(aJ x12 0), (aJ x12 1), v14], h14))
 (dG (
 aD (pu h12 (aZ Tryd.prog .eql 3 true (aJ x12 2) (.int .i64 17))) fun v15 h15 =>
 aM v15
 (some (.normal, [(aJ x12 0), (aJ x12 1), (aJ x12 2), v15], h15))
 (aD (pu h15 (aZ Tryd.prog .eql 3 true (aJ x12 2) (.int .i64 18))) fun v16 h16 =>
 aM v16
 (some (.normal, [(aJ x12 0), (aJ x12 1), (aJ x12 2), v16], h16))
 (aD (pu h16 (aZ Tryd.prog .eql 3 true (aJ x12 2) (.int .i64 19))) fun v17 h17 =>
 some (.normal, [(aJ x12 0), (aJ x12 1), (aJ x12 2), v17], h17)))) fun e18 x18 h18 => hC e18
 (aM (aJ x18 3)
 (aD (pu h18 (aE G true 6 (aJ x18 1) h18)) fun v19 h19 =>
 aD (eW (bP.f G k) [(aJ x18 0), v19] h19) fun v20 h20 =>
 some (.ret, [(aJ x18 0), (aJ x18 1), (.bool true)], h20))
 (aD (pu h18 (aZ Tryd.prog .eql 3 true (aJ x18 2) (.int .i64 20))) fun v21 h21 =>
 aM v21
 (aD (pu h21 (aA 5 (aJ x18 1))) fun v22 h22 =>
 aD (pu h22 (aE G false 1 v22 h22)) fun v23 h23 =>
 aD (pu h23 (eH (aJ x18 0))) fun v24 h24 =>
 aD (pu h24 (aA 5 v24)) fun v25 h25 =>
 aD (pu h25 (aA 0 v25)) fun v26 h26 =>
 aD (eD (aT 1 v26 v23 h26)) fun v27 h27 =>
 some (.ret, [(aJ x18 0), (aJ x18 1), (.bool false)], h27))
 (some (.normal, [(aJ x18 0), (aJ x18 1), .undef], h21))))
 (fun i18 => if i18 = 0 then (some (.normal, [(aJ x18 0), (aJ x18 1), .undef], h18)) else (some (.exit i18, [(aJ x18 0), (aJ x18 1), .undef], h18)))
 (some (.ret, [(aJ x18 0), (aJ x18 1), .undef], h18))))
 (fun i12 => if i12 = 0 then (some (.normal, [(aJ x12 0), (aJ x12 1), .undef], h12)) else (some (.exit i12, [(aJ x12 0), (aJ x12 1), .undef], h12)))
 (some (.ret, [(aJ x12 0), (aJ x12 1), .undef], h12))) fun e28 x28 h28 => hC e28
 (aD (pu h28 (aE G true 6 (aJ x28 1) h28)) fun v29 h29 =>
 aD (pu h29 (eH (aJ x28 0))) fun v30 h30 =>
 aD (pu h30 (aA 3 v30)) fun v31 h31 =>
 aD (pu h31 (aE G false 1 v31 h31)) fun v32 h32 =>
 aD (pu h32 (aA 2 (aJ x28 1))) fun v33 h33 =>
 aD (pu h33 (aE G false 1 v33 h33)) fun v34 h34 =>
 aD (pu h34 (aH 1 v32 v34)) fun v35 h35 =>
 aD (pu h35 (aE G false 1 v35 h35)) fun v36 h36 =>
 aD (pu h36 (eH (aJ x28 0))) fun v37 h37 =>
 aD (pu h37 (aA 3 v37)) fun v38 h38 =>
 aD (pu h38 (aE G false 1 v38 h38)) fun v39 h39 =>
 aD (pu h39 (aA 3 (aJ x28 1))) fun v40 h40 =>
 aD (pu h40 (aE G false 1 v40 h40)) fun v41 h41 =>
 aD (pu h41 (aH 1 v39 v41)) fun v42 h42 =>
 aD (pu h42 (aE G false 1 v42 h42)) fun v43 h43 =>
 aD (pu h43 (eH (aJ x28 0))) fun v44 h44 =>
 aD (pu h44 (aA 3 v44)) fun v45 h45 =>
 aD (pu h45 (aE G false 1 v45 h45)) fun v46 h46 =>
 aD (pu h46 (aA 4 (aJ x28 1))) fun v47 h47 =>
 aD (pu h47 (aE G false 1 v47 h47)) fun v48 h48 =>
 aD (pu h48 (aH 1 v46 v48)) fun v49 h49 =>
 aD (pu h49 (aE G false 1 v49 h49)) fun v50 h50 =>
 aD (aN (bH.f G k) [v29, v36, v43, v50] h50) fun v51 h51 =>
 aD (pu h51 (aI v51 0)) fun v52 h52 =>
 aD (pu h52 (aI v51 1)) fun v53 h53 =>
 aM v53
 (aD (pu h53 (eH (aJ x28 0))) fun v54 h54 =>
 aD (pu h54 (aA 3 v54)) fun v55 h55 =>
 aD (pu h55 (aE G false 1 v55 h55)) fun v56 h56 =>
 aD (pu h56 (aA 1 (aJ x28 1))) fun v57 h57 =>
 aD (pu h57 (aE G false 1 v57 h57)) fun v58 h58 =>
 aD (pu h58 (aH 1 v56 v58)) fun v59 h59 =>
 aD (eD (aT 1 v59 v52 h59)) fun v60 h60 =>
 bS [(.bool true)] h.length h60)
 (bS [(.bool true)] h.length h53))
 (fun i28 => none)
 (bS [(aJ x28 2)] h.length h28))
noncomputable def bT.f (G : aC) : Nat → bV
 | 0 => fun _ _ => none
 | k + 1 => fun args h => kG args fun x0 x1 => (bT.c G k (bT.f G k) x0 x1 h)
noncomputable def dK.ann : Ann := dP [] [] [] []
noncomputable def dK.env (G : aC) (k : Nat) (self : bV) : List (Nat × Bool × bV) := []
noncomputable def dK.c (G : aC) (k : Nat) (self : bV) (x0 x1 : AV) (h : aB) : Option (AV × aB) := dF (
 aD (pu h (aZ Tryd.prog .add 2 false x0 x1)) fun v0 h0 =>
 aD (pu h0 (aZ Tryd.prog .gtr 2 false v0 x0)) fun v1 h1 =>
 aD (pu h1 (aZ Tryd.prog .gtr 2 true x1 (.int .i64 0))) fun v2 h2 =>
 aD (pu h2 (aZ Tryd.prog .neq 4 false v1 v2)) fun v3 h3 =>
 aD (gd v3 true h3 (some (x1, h3))) fun v4 h4 =>
 aD (gd v3 true h4 (pu h4 (aZ Tryd.prog .neq 2 true v4 (.int .i64 0)))) fun v5 h5 =>
 aD (pu h5 (dE v3 v5 (.bool false))) fun v6 h6 =>
 aM v6
 (bS [(.int .i64 0), (.bool false)] h.length h6)
 (bS [v0, (.bool true)] h.length h6))
noncomputable def dK.f (G : aC) : Nat → bV
 | 0 => fun _ _ => none
 | k + 1 => fun args h => kG args fun x0 x1 => (dK.c G k (dK.f G k) x0 x1 h)
noncomputable def dC.ann : Ann := dP [] [] [] []
noncomputable def dC.env (G : aC) (k : Nat) (self : bV) : List (Nat × Bool × bV) := []
noncomputable def dC.c (G : aC) (k : Nat) (self : bV) (x0 x1 : AV) (h : aB) : Option (AV × aB) := dF (
 aD (pu h (aZ Tryd.prog .sub 2 false x0 x1)) fun v0 h0 =>
 aD (pu h0 (aZ Tryd.prog .lss 2 false v0 x0)) fun v1 h1 =>
 aD (pu h1 (aZ Tryd.prog .gtr 2 true x1 (.int .i64 0))) fun v2 h2 =>
 aD (pu h2 (aZ Tryd.prog .neq 4 false v1 v2)) fun v3 h3 =>
 aD (gd v3 true h3 (some (x1, h3))) fun v4 h4 =>
 aD (gd v3 true h4 (pu h4 (aZ Tryd.prog .neq 2 true v4 (.int .i64 0)))) fun v5 h5 =>
 aD (pu h5 (dE v3 v5 (.bool false))) fun v6 h6 =>
 aM v6
 (bS [(.int .i64 0), (.bool false)] h.length h6)
 (bS [v0, (.bool true)] h.length h6))
noncomputable def dC.f (G : aC) : Nat → bV
 | 0 => fun _ _ => none
 | k + 1 => fun args h => kG args fun x0 x1 => (dC.c G k (dC.f G k) x0 x1 h)
noncomputable def cB.ann : Ann := dP [] [] [] []
noncomputable def cB.env (G : aC) (k : Nat) (self : bV) : List (Nat × Bool × bV) := []
noncomputable def cB.c (G : aC) (k : Nat) (self : bV) (x0 x1 : AV) (h : aB) : Option (AV × aB) := dF (
 aD (pu h (aZ Tryd.prog .eql 2 true x0 (.int .i64 0))) fun v0 h0 =>
 aD (gd v0 false h0 (some (x1, h0))) fun v1 h1 =>
 aD (gd v0 false h1 (pu h1 (aZ Tryd.prog .eql 2 true v1 (.int .i64 0)))) fun v2 h2 =>
 aD (pu h2 (dE v0 (.bool true) v2)) fun v3 h3 =>
 aM v3
 (bS [(.int .i64 0), (.bool true)] h.length h3)
 (aD (pu h3 (aZ Tryd.prog .eql 2 true x0 (.int .i64 (-1)))) fun v4 h4 =>
 aD (gd v4 true h4 (some (x1, h4))) fun v5 h5 =>
 aD (gd v4 true h5 (pu h5 (aZ Tryd.prog .eql 2 true v5 (.int .i64 (-9223372036854775808))))) fun v6 h6 =>
 aD (pu h6 (dE v4 v6 (.bool false))) fun v7 h7 =>
 aD (gd v7 false h7 (some (x1, h7))) fun v8 h8 =>
 aD (gd v7 false h8 (pu h8 (aZ Tryd.prog .eql 2 true v8 (.int .i64 (-1))))) fun v9 h9 =>
 aD (gd v7 false h9 (some (v9, h9))) fun v10 h10 =>
 aD (gd v10 true h10 (some (x0, h10))) fun v11 h11 =>
 aD (gd v10 true h11 (pu h11 (aZ Tryd.prog .eql 2 true v11 (.int .i64 (-9223372036854775808))))) fun v12 h12 =>
 aD (gd v7 false h12 (pu h12 (dE v10 v12 (.bool false)))) fun v13 h13 =>
 aD (pu h13 (dE v7 (.bool true) v13)) fun v14 h14 =>
 aM v14
 (bS [(.int .i64 0), (.bool false)] h.length h14)
 (aD (pu h14 (aZ Tryd.prog .mul 2 false x0 x1)) fun v15 h15 =>
 aD (pu h15 (aZ Tryd.prog .quo 2 false v15 x1)) fun v16 h16 =>
 aD (pu h16 (aZ Tryd.prog .eql 2 false v16 x0)) fun v17 h17 =>
 aM v17
 (bS [v15, (.bool true)] h.length h17)
 (bS [(.int .i64 0), (.bool false)] h.length h17))))
noncomputable def cB.f (G : aC) : Nat → bV
 | 0 => fun _ _ => none
 | k + 1 => fun args h => kG args fun x0 x1 => (cB.c G k (cB.f G k) x0 x1 h)
noncomputable def dB.ann : Ann := dP [] [] [] []
noncomputable def dB.env (G : aC) (k : Nat) (self : bV) : List (Nat × Bool × bV) := []
noncomputable def dB.c (G : aC) (k : Nat) (self : bV) (x0 x1 : AV) (h : aB) : Option (AV × aB) := dF (
 aD (pu h (aZ Tryd.prog .lss 2 true x1 (.int .i64 0))) fun v0 h0 =>
 aD (gd v0 false h0 (some (x1, h0))) fun v1 h1 =>
 aD (gd v0 false h1 (pu h1 (aZ Tryd.prog .gtr 2 true v1 (.int .i64 63)))) fun v2 h2 =>
 aD (pu h2 (dE v0 (.bool true) v2)) fun v3 h3 =>
 aM v3
 (bS [(.int .i64 0), (.bool false)] h.length h3)
 (aD (pu h3 (aZ Tryd.prog .shl 2 false x0 x1)) fun v4 h4 =>
 aD (pu h4 (aZ Tryd.prog .shr 2 false v4 x1)) fun v5 h5 =>
 aD (pu h5 (aZ Tryd.prog .neq 2 false v5 x0)) fun v6 h6 =>
 aM v6
 (bS [(.int .i64 0), (.bool false)] h.length h6)
 (bS [v4, (.bool true)] h.length h6)))
noncomputable def dB.f (G : aC) : Nat → bV
 | 0 => fun _ _ => none
 | k + 1 => fun args h => kG args fun x0 x1 => (dB.c G k (dB.f G k) x0 x1 h)
noncomputable def cG.ann : Ann := dP [] [] [] []
noncomputable def cG.env (G : aC) (k : Nat) (self : bV) : List (Nat × Bool × bV) := [(52, true, dK.f G k), (53, true, dC.f G k), (54, true, cB.f G k), (55, true, dB.f G k)]
noncomputable def cG.c (G : aC) (k : Nat) (self : bV) (x0 x1 x2 : AV) (h : aB) : Option (AV × aB) := dF (
 aD (bN x0 h) fun v0 h0 =>
 aD (pu h0 (dL .i64 x1)) fun v1 h1 =>
 aD (pu h1 (dL .i64 x2)) fun v2 h2 =>
 aD (pu h2 (aA 0 v0)) fun v3 h3 =>
 aD (pu h3 (aE G false 1 v3 h3)) fun v4 h4 =>
 aD (pu h4 (aZ Tryd.prog .eql 3 true v4 (.int .i64 3))) fun v5 h5 =>
 aM v5
 (aD (aN (dK.f G k) [v1, v2] h5) fun v6 h6 =>
 aD (pu h6 (aI v6 0)) fun v7 h7 =>
 aD (pu h7 (aI v6 1)) fun v8 h8 =>
 bS [v7, v8] h.length h8)
 (aD (pu h5 (aZ Tryd.prog .eql 3 true v4 (.int .i64 4))) fun v9 h9 =>
 aM v9
 (aD (aN (dC.f G k) [v1, v2] h9) fun v10 h10 =>
 aD (pu h10 (aI v10 0)) fun v11 h11 =>
 aD (pu h11 (aI v10 1)) fun v12 h12 =>
 bS [v11, v12] h.length h12)
 (aD (pu h9 (aZ Tryd.prog .eql 3 true v4 (.int .i64 5))) fun v13 h13 =>
 aM v13
 (aD (aN (cB.f G k) [v1, v2] h13) fun v14 h14 =>
 aD (pu h14 (aI v14 0)) fun v15 h15 =>
 aD (pu h15 (aI v14 1)) fun v16 h16 =>
 bS [v15, v16] h.length h16)
 (aD (pu h13 (aZ Tryd.prog .eql 3 true v4 (.int .i64 10))) fun v17 h17 =>
 aM v17
 (aD (pu h17 (aA 5 v0)) fun v18 h18 =>
 aD (pu h18 (aE G false 1 v18 h18)) fun v19 h19 =>
 aD (aN (dB.f G k) [v1, v19] h19) fun v20 h20 =>
 aD (pu h20 (aI v20 0)) fun v21 h21 =>
 aD (pu h21 (aI v20 1)) fun v22 h22 =>
 bS [v21, v22] h.length h22)
 (bS [(.int .i64 0), (.bool false)] h.length h17)))))
noncomputable def cG.f (G : aC) : Nat → bV
 | 0 => fun _ _ => none
 | k + 1 => fun args h => xR args fun x0 x1 x2 => (cG.c G k (cG.f G k) x0 x1 x2 h)
noncomputable def cH.ann : Ann := dP [] [] [] []
noncomputable def cH.env (G : aC) (k : Nat) (self : bV) : List (Nat × Bool × bV) := []
noncomputable def cH.c (G : aC) (k : Nat) (self : bV) (x0 : AV) (h : aB) : Option (AV × aB) := dF (
 aD (pu h (aZ Tryd.prog .eql 3 true x0 (.int .i64 3))) fun v0 h0 =>
 aD (gd v0 false h0 (some (x0, h0))) fun v1 h1 =>
 aD (gd v0 false h1 (pu h1 (aZ Tryd.prog .eql 3 true v1 (.int .i64 4)))) fun v2 h2 =>
 aD (pu h2 (dE v0 (.bool true) v2)) fun v3 h3 =>
 aD (gd v3 false h3 (some (x0, h3))) fun v4 h4 =>
 aD (gd v3 false h4 (pu h4 (aZ Tryd.prog .eql 3 true v4 (.int .i64 5)))) fun v5 h5 =>
 aD (pu h5 (dE v3 (.bool true) v5)) fun v6 h6 =>
 aD (gd v6 false h6 (some (x0, h6))) fun v7 h7 =>
 aD (gd v6 false h7 (pu h7 (aZ Tryd.prog .eql 3 true v7 (.int .i64 10)))) fun v8 h8 =>
 aD (pu h8 (dE v6 (.bool true) v8)) fun v9 h9 =>
 bS [v9] h.length h9)
noncomputable def cH.f (G : aC) : Nat → bV
 | 0 => fun _ _ => none
 | k + 1 => fun args h => kM args fun x0 => (cH.c G k (cH.f G k) x0 h)
noncomputable def dJ.ann : Ann := dP [] [] [] []
noncomputable def dJ.env (G : aC) (k : Nat) (self : bV) : List (Nat × Bool × bV) := []
noncomputable def dJ.c (G : aC) (k : Nat) (self : bV) (x0 x1 : AV) (h : aB) : Option (AV × aB) := dF (
 aD (bN x0 h) fun v0 h0 =>
 aD (pu h0 (aA 0 v0)) fun v1 h1 =>
 aD (pu h1 (aE G false 1 v1 h1)) fun v2 h2 =>
 aD (pu h2 (aZ Tryd.prog .leq 2 false v2 x1)) fun v3 h3 =>
 aD (gd v3 true h3 (some (x1, h3))) fun v4 h4 =>
 aD (gd v3 true h4 (pu h4 (aA 1 v0))) fun v5 h5 =>
 aD (gd v3 true h5 (pu h5 (aE G false 1 v5 h5))) fun v6 h6 =>
 aD (gd v3 true h6 (pu h6 (aZ Tryd.prog .leq 2 false v4 v6))) fun v7 h7 =>
 aD (pu h7 (dE v3 v7 (.bool false))) fun v8 h8 =>
 bS [v8] h.length h8)
noncomputable def dJ.f (G : aC) : Nat → bV
 | 0 => fun _ _ => none
 | k + 1 => fun args h => kG args fun x0 x1 => (dJ.c G k (dJ.f G k) x0 x1 h)
noncomputable def bY.ann : Ann := dP [] [] [] [(7, [4])]
noncomputable def bY.env (G : aC) (k : Nat) (self : bV) : List (Nat × Bool × bV) := [(28, true, cG.f G k), (61, true, cH.f G k), (62, true, dJ.f G k)]
noncomputable def bY.c (G : aC) (k : Nat) (self : bV) (x0 x1 x2 x3 x4 : AV) (h : aB) : Option (AV × aB) := dF (
 aD (pu h (aA 0 x2)) fun v0 h0 =>
 aD (pu h0 (aE G false 1 v0 h0)) fun v1 h1 =>
 aD (pu h1 (aH 6 v1 x0)) fun v2 h2 =>
 aD (pu h2 (aE G true 6 v2 h2)) fun v3 h3 =>
 aD (cY 52 (.agg [(.int .i64 0), (.int .i64 0), (.int .i64 0), (.int .i64 0), (.int .i64 0), (.int .i64 0)]) h3) fun v4 h4 =>
 aD (eD (aT 6 v4 v3 h4)) fun v5 h5 =>
 aD (pu h5 (aA 0 v4)) fun v6 h6 =>
 aD (pu h6 (aE G false 1 v6 h6)) fun v7 h7 =>
 aD (aN (cH.f G k) [v7] h7) fun v8 h8 =>
 aD (pu h8 (un .not v8)) fun v9 h9 =>
 aM v9
 (bS [(.bool true)] h.length h9)
 (aD (pu h9 (aE G true 6 v4 h9)) fun v10 h10 =>
 aD (pu h10 (aA 2 v4)) fun v11 h11 =>
 aD (pu h11 (aE G false 1 v11 h11)) fun v12 h12 =>
 aD (pu h12 (aH 1 x1 v12)) fun v13 h13 =>
 aD (pu h13 (aE G false 1 v13 h13)) fun v14 h14 =>
 aD (pu h14 (aA 3 v4)) fun v15 h15 =>
 aD (pu h15 (aE G false 1 v15 h15)) fun v16 h16 =>
 aD (pu h16 (aH 1 x1 v16)) fun v17 h17 =>
 aD (pu h17 (aE G false 1 v17 h17)) fun v18 h18 =>
 aD (aN (cG.f G k) [v10, v14, v18] h18) fun v19 h19 =>
 aD (pu h19 (aI v19 0)) fun v20 h20 =>
 aD (pu h20 (aI v19 1)) fun v21 h21 =>
 dG (
 aD (pu h21 (un .not v21)) fun v22 h22 =>
 aD (gd v22 false h22 (pu h22 (aE G false 1 x3 h22))) fun v23 h23 =>
 aD (gd v22 false h23 (some (x0, h23))) fun v24 h24 =>
 aD (gd v22 false h24 (pu h24 (aH 2 v23 v24))) fun v25 h25 =>
 aD (gd v22 false h25 (pu h25 (aE G true 2 v25 h25))) fun v26 h26 =>
 aD (gd v22 false h26 (some (v20, h26))) fun v27 h27 =>
 aD (gd v22 false h27 (aN (dJ.f G k) [v26, v27] h27)) fun v28 h28 =>
 aD (gd v22 false h28 (pu h28 (un .not v28))) fun v29 h29 =>
 aD (pu h29 (dE v22 (.bool true) v29)) fun v30 h30 =>
 aM v30
 (aD (eD (aT 1 x4 x0 h30)) fun v31 h31 =>
 some (.normal, [x4], h31))
 (some (.normal, [x4], h30))) fun e32 x32 h32 => hC e32
 (aD (pu h32 (aE G false 1 (aJ x32 0) h32)) fun v33 h33 =>
 aD (pu h33 (aZ Tryd.prog .lss 3 true v33 (.int .i64 0))) fun v34 h34 =>
 bS [v34] h.length h34)
 (fun i32 => none)
 (bS [.undef] h.length h32)))
noncomputable def bY.f (G : aC) : Nat → bV
 | 0 => fun _ _ => none
 | k + 1 => fun args h => aBq args fun x0 x1 x2 x3 x4 => (bY.c G k (bY.f G k) x0 x1 x2 x3 x4 h)
noncomputable def bZ.ann : Ann := aBF [15] [] [(3, [2, 3, 4, 8, 9])] [] [(3, [(9, 7, 96, 2)])] []
noncomputable def bZ.env (G : aC) (k : Nat) (self : bV) : List (Nat × Bool × bV) := [(60, false, bY.f G k), (72, false, aK.f G k), (73, false, bF.f G k), (74, false, bT.f G k)]
noncomputable def bZ.l3 (G : aC) (k n0 : Nat) (self : bV) (lp : fF) : fF := fun xs h0 => oU n0 xs h0 fun h =>
 aD (pu h (eH (aJ xs 4))) fun v14 h14 =>
 aD (pu h14 (aA 4 v14)) fun v15 h15 =>
 aD (pu h15 (aE G false 1 v15 h15)) fun v16 h16 =>
 aD (pu h16 (aA 0 (aJ xs 2))) fun v17 h17 =>
 aD (pu h17 (aE G false 1 v17 h17)) fun v18 h18 =>
 aD (pu h18 (bX v18)) fun v19 h19 =>
 aD (pu h19 (aZ Tryd.prog .geq 3 false v16 v19)) fun v20 h20 =>
 aM v20
 (aD (pu h20 (eH (aJ xs 4))) fun v21 h21 =>
 aD (pu h21 (aA 5 v21)) fun v22 h22 =>
 aD (pu h22 (aA 0 v22)) fun v23 h23 =>
 aD (eD (aT 1 v23 (.int .i64 3) h23)) fun v24 h24 =>
 aD (pu h24 (eH (aJ xs 4))) fun v25 h25 =>
 aD (pu h25 (aA 5 v25)) fun v26 h26 =>
 aD (pu h26 (aE G true 4 v26 h26)) fun v27 h27 =>
 aD (eD (aT 4 (aJ xs 3) v27 h27)) fun v28 h28 =>
 some (.ret, [(aJ xs 0), (aJ xs 1), (aJ xs 2), (aJ xs 3), (aJ xs 4)], h28))
 (aD (pu h20 (eH (aJ xs 4))) fun v29 h29 =>
 aD (pu h29 (aA 5 v29)) fun v30 h30 =>
 aD (pu h30 (aA 3 v30)) fun v31 h31 =>
 aD (pu h31 (aE G false 1 v31 h31)) fun v32 h32 =>
 aD (pu h32 (aZ Tryd.prog .eql 2 false v32 (aJ xs 0))) fun v33 h33 =>
 aM v33
 (aD (pu h33 (eH (aJ xs 4))) fun v34 h34 =>
 aD (pu h34 (aA 5 v34)) fun v35 h35 =>
 aD (pu h35 (aA 0 v35)) fun v36 h36 =>
 aD (eD (aT 1 v36 (.int .i64 4) h36)) fun v37 h37 =>
 aD (pu h37 (eH (aJ xs 4))) fun v38 h38 =>
 aD (pu h38 (aA 5 v38)) fun v39 h39 =>
 aD (pu h39 (aE G true 4 v39 h39)) fun v40 h40 =>
 aD (eD (aT 4 (aJ xs 3) v40 h40)) fun v41 h41 =>
 some (.ret, [(aJ xs 0), (aJ xs 1), (aJ xs 2), (aJ xs 3), (aJ xs 4)], h41))
 (aD (pu h33 (aZ Tryd.prog .neq 107 true (aJ xs 1) .nilf)) fun v42 h42 =>
 aD (gd v42 true h42 (some ((aJ xs 1), h42))) fun v43 h43 =>
 aD (gd v42 true h43 (some ((aJ xs 4), h43))) fun v44 h44 =>
 aD (gd v42 true h44 (pu h44 (eH v44))) fun v45 h45 =>
 aD (gd v42 true h45 (pu h45 (aA 4 v45))) fun v46 h46 =>
 aD (gd v42 true h46 (pu h46 (aE G false 1 v46 h46))) fun v47 h47 =>
 aD (gd v42 true h47 (some ((aJ xs 4), h47))) fun v48 h48 =>
 aD (gd v42 true h48 (pu h48 (eH v48))) fun v49 h49 =>
 aD (gd v42 true h49 (pu h49 (aA 3 v49))) fun v50 h50 =>
 aD (gd v42 true h50 (pu h50 (aE G false 1 v50 h50))) fun v51 h51 =>
 aD (gd v42 true h51 (lC (eA (bZ.env G k self)) v43 [v47, v51] h51)) fun v52 h52 =>
 aD (gd v42 true h52 (pu h52 (un .not v52))) fun v53 h53 =>
 aD (pu h53 (dE v42 v53 (.bool false))) fun v54 h54 =>
 aM v54
 (aD (pu h54 (eH (aJ xs 4))) fun v55 h55 =>
 aD (pu h55 (aA 5 v55)) fun v56 h56 =>
 aD (pu h56 (aE G true 4 v56 h56)) fun v57 h57 =>
 aD (eD (aT 4 (aJ xs 3) v57 h57)) fun v58 h58 =>
 some (.ret, [(aJ xs 0), (aJ xs 1), (aJ xs 2), (aJ xs 3), (aJ xs 4)], h58))
 (aD (pu h54 (eH (aJ xs 4))) fun v59 h59 =>
 aD (pu h59 (aA 5 v59)) fun v60 h60 =>
 aD (pu h60 (aA 3 v60)) fun v61 h61 =>
 aD (pu h61 (aE G false 1 v61 h61)) fun v62 h62 =>
 aD (pu h62 (aZ Tryd.prog .add 2 true v62 (.int .i64 1))) fun v63 h63 =>
 aD (pu h63 (eH (aJ xs 4))) fun v64 h64 =>
 aD (pu h64 (aA 5 v64)) fun v65 h65 =>
 aD (pu h65 (aA 3 v65)) fun v66 h66 =>
 aD (eD (aT 1 v66 v63 h66)) fun v67 h67 =>
 aD (pu h67 (eH (aJ xs 4))) fun v68 h68 =>
 aD (pu h68 (aA 4 v68)) fun v69 h69 =>
 aD (pu h69 (aE G false 1 v69 h69)) fun v70 h70 =>
 aD (eW (bF.f G k) [(aJ xs 4), (.int .i64 1), v70] h70) fun v71 h71 =>
 aD (pu h71 (aA 0 (aJ xs 2))) fun v72 h72 =>
 aD (pu h72 (aE G false 1 v72 h72)) fun v73 h73 =>
 aD (pu h73 (eH (aJ xs 4))) fun v74 h74 =>
 aD (pu h74 (aA 4 v74)) fun v75 h75 =>
 aD (pu h75 (aE G false 1 v75 h75)) fun v76 h76 =>
 aD (pu h76 (aH 6 v73 v76)) fun v77 h77 =>
 aD (pu h77 (aE G true 6 v77 h77)) fun v78 h78 =>
 aD (eW (bT.f G k) [(aJ xs 4), v78] h78) fun v79 h79 =>
 aD (pu h79 (un .not v79)) fun v80 h80 =>
 aM v80
 (aD (pu h80 (eH (aJ xs 4))) fun v81 h81 =>
 aD (pu h81 (aA 5 v81)) fun v82 h82 =>
 aD (pu h82 (aE G true 4 v82 h82)) fun v83 h83 =>
 aD (eD (aT 4 (aJ xs 3) v83 h83)) fun v84 h84 =>
 some (.ret, [(aJ xs 0), (aJ xs 1), (aJ xs 2), (aJ xs 3), (aJ xs 4)], h84))
 (lp [(aJ xs 0), (aJ xs 1), (aJ xs 2), (aJ xs 3), (aJ xs 4)] h80))))
noncomputable def bZ.c (G : aC) (k : Nat) (self : bV) (x0 x1 x2 x3 : AV) (h : aB) : Option (AV × aB) := dF (
 aD (bN x0 h) fun v0 h0 =>
 aD (cY 40 (.agg [(.int .i64 0), .nils, .nils, (.int .i64 0)]) h0) fun v1 h1 =>
 aD (pu h1 (aE G true 3 v0 h1)) fun v2 h2 =>
 aD (pu h2 (aA 1 v0)) fun v3 h3 =>
 aD (pu h3 (aE G false 1 v3 h3)) fun v4 h4 =>
 aD (fV 48 1 (.int .u64 0) v4 v4 h4) fun v5 h5 =>
 aD (pu h5 (aU [(0, 3), (3, 1), (4, 1), (5, 4)] [.nils, (.int .i64 0), (.int .i64 0), .nils, (.int .i64 0), (.int .i64 0), .nils, .nils, (.int .i64 0)] [(0, v2), (1, v5)])) fun v6 h6 =>
 aD (cY 126 v6 h6) fun v7 h7 =>
 aD (eW (aK.f G k) [x1] h7) fun v8 h8 =>
 aD (pu h8 (eH v7)) fun v9 h9 =>
 aD (pu h9 (aA 5 v9)) fun v10 h10 =>
 aD (pu h10 (aA 1 v10)) fun v11 h11 =>
 aD (eD (aT 1 v11 v8 h11)) fun v12 h12 =>
 vK [(v7, 7, 96, 2)] h12 fun hv13 =>
 dG (eY (bZ.l3 G k hv13.length self) k [x2, x3, v0, v1, v7] hv13) fun e13 x13 h13 => hC e13
 (none)
 (fun i13 => if i13 = 0 then (iE [aE G true 4 (aJ x13 3) h13] h.length h13) else (none))
 (iE [aE G true 4 (aJ x13 3) h13] h.length h13))
noncomputable def bZ.f (G : aC) : Nat → bV
 | 0 => fun _ _ => none
 | k + 1 => fun args h => xS args fun x0 x1 x2 x3 => (bZ.c G k (bZ.f G k) x0 x1 x2 x3 h)
noncomputable def dD.ann : Ann := dP [] [] [] []
noncomputable def dD.env (G : aC) (k : Nat) (self : bV) : List (Nat × Bool × bV) := [(17, true, cC.f G k), (44, true, cJ.f G k), (45, false, bZ.f G k)]
noncomputable def dD.c (G : aC) (k : Nat) (self : bV) (x0 x1 x2 : AV) (h : aB) : Option (AV × aB) := dF (
 aD (bN x0 h) fun v0 h0 =>
 aD (cY 40 (.agg [(.int .i64 0), .nils, .nils, (.int .i64 0)]) h0) fun v1 h1 =>
 aD (pu h1 (aE G true 3 v0 h1)) fun v2 h2 =>
 aD (aN (cC.f G k) [v2] h2) fun v3 h3 =>
 aD (pu h3 (aZ Tryd.prog .neq 35 true v3 .nili)) fun v4 h4 =>
 aM v4
 (aD (pu h4 (aU [(0, 1), (1, 1), (2, 1), (3, 1)] [(.int .i64 0), .nils, .nils, (.int .i64 0)] [])) fun v5 h5 =>
 aD (eD (aT 4 v1 v5 h5)) fun v6 h6 =>
 iE [aE G true 4 v1 h6, some v3] h.length h6)
 (aD (pu h4 (aE G true 3 v0 h4)) fun v7 h7 =>
 aD (aN (cJ.f G k) [v7, x1, x2] h7) fun v8 h8 =>
 aD (pu h8 (aZ Tryd.prog .neq 35 true v8 .nili)) fun v9 h9 =>
 aM v9
 (aD (pu h9 (aU [(0, 1), (1, 1), (2, 1), (3, 1)] [(.int .i64 0), .nils, .nils, (.int .i64 0)] [])) fun v10 h10 =>
 aD (eD (aT 4 v1 v10 h10)) fun v11 h11 =>
 iE [aE G true 4 v1 h11, some v8] h.length h11)
 (aD (pu h9 (aE G true 3 v0 h9)) fun v12 h12 =>
 aD (eW (bZ.f G k) [v12, x1, x2, .nilf] h12) fun v13 h13 =>
 aD (eD (aT 4 v1 v13 h13)) fun v14 h14 =>
 iE [aE G true 4 v1 h14, some .nili] h.length h14)))
noncomputable def dD.f (G : aC) : Nat → bV
 | 0 => fun _ _ => none
 | k + 1 => fun args h => xR args fun x0 x1 x2 => (dD.c G k (dD.f G k) x0 x1 x2 h)
noncomputable def aY.ann : Ann := dP [] [] [] []
noncomputable def aY.env (G : aC) (k : Nat) (self : bV) : List (Nat × Bool × bV) := [(19, true, dD.f G k), (24, true, bH.f G k)]
noncomputable def aY.c (G : aC) (k : Nat) (self : bV) (h : aB) : Option (AV × aB) := dF (
 aD (pu h (aU [(0, 1), (1, 1), (2, 1)] [.nils, (.int .i64 0), (.int .i64 0)] [])) fun v0 h0 =>
 aD (aN (dD.f G k) [v0, .nils, (.int .i64 9)] h0) fun v1 h1 =>
 aD (pu h1 (aI v1 0)) fun v2 h2 =>
 aD (pu h2 (aI v1 1)) fun v3 h3 =>
 aD (cY 40 (.agg [(.int .i64 0), .nils, .nils, (.int .i64 0)]) h3) fun v4 h4 =>
 aD (eD (aT 4 v4 v2 h4)) fun v5 h5 =>
 aD (pu h5 (aU [(0, 1), (1, 1), (2, 1), (3, 1), (4, 1), (5, 1)] [(.int .i64 0), (.int .i64 0), (.int .i64 0), (.int .i64 0), (.int .i64 0), (.int .i64 0)] [(0, (.int .i64 3))])) fun v6 h6 =>
 aD (aN (bH.f G k) [v6, (.int .u64 3), (.int .u64 4), (.int .u64 0)] h6) fun v7 h7 =>
 aD (pu h7 (aI v7 0)) fun v8 h8 =>
 aD (pu h8 (aI v7 1)) fun v9 h9 =>
 aD (pu h9 (aZ Tryd.prog .eql 35 true v3 .nili)) fun v10 h10 =>
 aD (gd v10 true h10 (pu h10 (aA 0 v4))) fun v11 h11 =>
 aD (gd v10 true h11 (pu h11 (aE G false 1 v11 h11))) fun v12 h12 =>
 aD (gd v10 true h12 (pu h12 (aZ Tryd.prog .eql 3 true v12 (.int .i64 3)))) fun v13 h13 =>
 aD (pu h13 (dE v10 v13 (.bool false))) fun v14 h14 =>
 aD (gd v14 true h14 (pu h14 (aA 3 v4))) fun v15 h15 =>
 aD (gd v14 true h15 (pu h15 (aE G false 1 v15 h15))) fun v16 h16 =>
 aD (gd v14 true h16 (pu h16 (aZ Tryd.prog .eql 2 true v16 (.int .i64 0)))) fun v17 h17 =>
 aD (pu h17 (dE v14 v17 (.bool false))) fun v18 h18 =>
 aD (gd v18 true h18 (some (v9, h18))) fun v19 h19 =>
 aD (pu h19 (dE v18 v19 (.bool false))) fun v20 h20 =>
 aD (gd v20 true h20 (some (v8, h20))) fun v21 h21 =>
 aD (gd v20 true h21 (pu h21 (aZ Tryd.prog .eql 48 true v21 (.int .u64 7)))) fun v22 h22 =>
 aD (pu h22 (dE v20 v22 (.bool false))) fun v23 h23 =>
 bS [v23] h.length h23)
noncomputable def aY.f (G : aC) : Nat → bV
 | 0 => fun _ _ => none
 | k + 1 => fun args h => aBp args (aY.c G k (aY.f G k) h)
noncomputable def aX.ann : Ann := dP [] [] [] []
noncomputable def aX.env (G : aC) (k : Nat) (self : bV) : List (Nat × Bool × bV) := []
noncomputable def aX.c (G : aC) (k : Nat) (self : bV) (x0 : AV) (h : aB) : Option (AV × aB) := dF (
 aD (cY 79 (.agg [(.bool false), (.bool false), (.bool false), (.bool false), (.int .i64 0)]) h) fun v0 h0 =>
 aD (pu h0 (aZ Tryd.prog .eql 3 true x0 (.int .i64 1))) fun v1 h1 =>
 aM v1
 (aD (pu h1 (aU [(0, 1), (1, 1), (2, 1), (3, 1), (4, 1)] [(.bool false), (.bool false), (.bool false), (.bool false), (.int .i64 0)] [(0, (.bool true)), (4, (.int .i64 1))])) fun v2 h2 =>
 aD (eD (aT 5 v0 v2 h2)) fun v3 h3 =>
 iE [aE G true 5 v0 h3, some (.bool true)] h.length h3)
 (aD (pu h1 (aZ Tryd.prog .eql 3 true x0 (.int .i64 2))) fun v4 h4 =>
 aM v4
 (aD (pu h4 (aU [(0, 1), (1, 1), (2, 1), (3, 1), (4, 1)] [(.bool false), (.bool false), (.bool false), (.bool false), (.int .i64 0)] [(0, (.bool true)), (1, (.bool true))])) fun v5 h5 =>
 aD (eD (aT 5 v0 v5 h5)) fun v6 h6 =>
 iE [aE G true 5 v0 h6, some (.bool true)] h.length h6)
 (aD (pu h4 (aZ Tryd.prog .geq 3 true x0 (.int .i64 3))) fun v7 h7 =>
 aD (gd v7 true h7 (some (x0, h7))) fun v8 h8 =>
 aD (gd v7 true h8 (pu h8 (aZ Tryd.prog .leq 3 true v8 (.int .i64 9)))) fun v9 h9 =>
 aD (pu h9 (dE v7 v9 (.bool false))) fun v10 h10 =>
 aD (gd v10 false h10 (some (x0, h10))) fun v11 h11 =>
 aD (gd v10 false h11 (pu h11 (aZ Tryd.prog .eql 3 true v11 (.int .i64 13)))) fun v12 h12 =>
 aD (pu h12 (dE v10 (.bool true) v12)) fun v13 h13 =>
 aM v13
 (aD (pu h13 (aU [(0, 1), (1, 1), (2, 1), (3, 1), (4, 1)] [(.bool false), (.bool false), (.bool false), (.bool false), (.int .i64 0)] [(0, (.bool true)), (1, (.bool true)), (2, (.bool true))])) fun v14 h14 =>
 aD (eD (aT 5 v0 v14 h14)) fun v15 h15 =>
 iE [aE G true 5 v0 h15, some (.bool true)] h.length h15)
 (aD (pu h13 (aZ Tryd.prog .geq 3 true x0 (.int .i64 10))) fun v16 h16 =>
 aD (gd v16 true h16 (some (x0, h16))) fun v17 h17 =>
 aD (gd v16 true h17 (pu h17 (aZ Tryd.prog .leq 3 true v17 (.int .i64 12)))) fun v18 h18 =>
 aD (pu h18 (dE v16 v18 (.bool false))) fun v19 h19 =>
 aM v19
 (aD (pu h19 (aU [(0, 1), (1, 1), (2, 1), (3, 1), (4, 1)] [(.bool false), (.bool false), (.bool false), (.bool false), (.int .i64 0)] [(0, (.bool true)), (1, (.bool true)), (4, (.int .i64 2))])) fun v20 h20 =>
 aD (eD (aT 5 v0 v20 h20)) fun v21 h21 =>
 iE [aE G true 5 v0 h21, some (.bool true)] h.length h21)
 (aD (pu h19 (aZ Tryd.prog .eql 3 true x0 (.int .i64 14))) fun v22 h22 =>
 aM v22
 (aD (pu h22 (aU [(0, 1), (1, 1), (2, 1), (3, 1), (4, 1)] [(.bool false), (.bool false), (.bool false), (.bool false), (.int .i64 0)] [(0, (.bool true)), (1, (.bool true)), (2, (.bool true)), (3, (.bool true))])) fun v23 h23 =>
 aD (eD (aT 5 v0 v23 h23)) fun v24 h24 =>
 iE [aE G true 5 v0 h24, some (.bool true)] h.length h24)
 (aD (pu h22 (aZ Tryd.prog .eql 3 true x0 (.int .i64 15))) fun v25 h25 =>
 aM v25
 (aD (pu h25 (aU [(0, 1), (1, 1), (2, 1), (3, 1), (4, 1)] [(.bool false), (.bool false), (.bool false), (.bool false), (.int .i64 0)] [(0, (.bool true)), (1, (.bool true)), (4, (.int .i64 3))])) fun v26 h26 =>
 aD (eD (aT 5 v0 v26 h26)) fun v27 h27 =>
 iE [aE G true 5 v0 h27, some (.bool true)] h.length h27)
 (aD (pu h25 (aZ Tryd.prog .eql 3 true x0 (.int .i64 16))) fun v28 h28 =>
 aM v28
 (aD (pu h28 (aU [(0, 1), (1, 1), (2, 1), (3, 1), (4, 1)] [(.bool false), (.bool false), (.bool false), (.bool false), (.int .i64 0)] [(1, (.bool true)), (2, (.bool true)), (4, (.int .i64 3))])) fun v29 h29 =>
 aD (eD (aT 5 v0 v29 h29)) fun v30 h30 =>
 iE [aE G true 5 v0 h30, some (.bool true)] h.length h30)
 (aD (pu h28 (aZ Tryd.prog .eql 3 true x0 (.int .i64 17))) fun v31 h31 =>
 aM v31
 (aD (pu h31 (aU [(0, 1), (1, 1), (2, 1), (3, 1), (4, 1)] [(.bool false), (.bool false), (.bool false), (.bool false), (.int .i64 0)] [(4, (.int .i64 4))])) fun v32 h32 =>
 aD (eD (aT 5 v0 v32 h32)) fun v33 h33 =>
 iE [aE G true 5 v0 h33, some (.bool true)] h.length h33)
 (aD (pu h31 (aZ Tryd.prog .eql 3 true x0 (.int .i64 18))) fun v34 h34 =>
 aD (gd v34 false h34 (some (x0, h34))) fun v35 h35 =>
 aD (gd v34 false h35 (pu h35 (aZ Tryd.prog .eql 3 true v35 (.int .i64 19)))) fun v36 h36 =>
 aD (pu h36 (dE v34 (.bool true) v36)) fun v37 h37 =>
 aM v37
 (aD (pu h37 (aU [(0, 1), (1, 1), (2, 1), (3, 1), (4, 1)] [(.bool false), (.bool false), (.bool false), (.bool false), (.int .i64 0)] [(1, (.bool true)), (4, (.int .i64 4))])) fun v38 h38 =>
 aD (eD (aT 5 v0 v38 h38)) fun v39 h39 =>
 iE [aE G true 5 v0 h39, some (.bool true)] h.length h39)
 (aD (pu h37 (aZ Tryd.prog .eql 3 true x0 (.int .i64 20))) fun v40 h40 =>
 aM v40
 (aD (pu h40 (aU [(0, 1), (1, 1), (2, 1), (3, 1), (4, 1)] [(.bool false), (.bool false), (.bool false), (.bool false), (.int .i64 0)] [(4, (.int .i64 5))])) fun v41 h41 =>
 aD (eD (aT 5 v0 v41 h41)) fun v42 h42 =>
 iE [aE G true 5 v0 h42, some (.bool true)] h.length h42)
 (aD (pu h40 (aU [(0, 1), (1, 1), (2, 1), (3, 1), (4, 1)] [(.bool false), (.bool false), (.bool false), (.bool false), (.int .i64 0)] [])) fun v43 h43 =>
 aD (eD (aT 5 v0 v43 h43)) fun v44 h44 =>
 iE [aE G true 5 v0 h44, some (.bool false)] h.length h44)))))))))))
noncomputable def aX.f (G : aC) : Nat → bV
 | 0 => fun _ _ => none
 | k + 1 => fun args h => kM args fun x0 => (aX.c G k (aX.f G k) x0 h)
theorem aX.step (G : aC) (k : Nat) (x0 : AV) (h : aB) : aX.f G (k + 1) [x0] h = aX.c G k (aX.f G k) x0 h := rfl
noncomputable def aP.ann : Ann := dP [] [] [] []
noncomputable def aP.env (G : aC) (k : Nat) (self : bV) : List (Nat × Bool × bV) := []
noncomputable def aP.c (G : aC) (k : Nat) (self : bV) (x0 : AV) (h : aB) : Option (AV × aB) := dF (
 aD (bN x0 h) fun v0 h0 =>
 aD (cY 31 (.agg [.nils, (.int .i64 0), (.int .i64 0)]) h0) fun v1 h1 =>
 aD (pu h1 (aA 0 v0)) fun v2 h2 =>
 aD (pu h2 (aE G false 1 v2 h2)) fun v3 h3 =>
 aD (pu h3 (aA 1 v0)) fun v4 h4 =>
 aD (pu h4 (aE G false 1 v4 h4)) fun v5 h5 =>
 aD (pu h5 (aA 2 v0)) fun v6 h6 =>
 aD (pu h6 (aE G false 1 v6 h6)) fun v7 h7 =>
 aD (pu h7 (aU [(0, 1), (1, 1), (2, 1)] [.nils, (.int .i64 0), (.int .i64 0)] [(0, v3), (1, v5), (2, v7)])) fun v8 h8 =>
 aD (eD (aT 3 v1 v8 h8)) fun v9 h9 =>
 iE [aE G true 3 v1 h9] h.length h9)
noncomputable def aP.f (G : aC) : Nat → bV
 | 0 => fun _ _ => none
 | k + 1 => fun args h => kM args fun x0 => (aP.c G k (aP.f G k) x0 h)
theorem aP.step (G : aC) (k : Nat) (x0 : AV) (h : aB) : aP.f G (k + 1) [x0] h = aP.c G k (aP.f G k) x0 h := rfl
noncomputable def aQ.ann : Ann := dP [] [] [] []
noncomputable def aQ.env (G : aC) (k : Nat) (self : bV) : List (Nat × Bool × bV) := [(49, true, aS.f G k)]
noncomputable def aQ.c (G : aC) (k : Nat) (self : bV) (x0 x1 x2 x3 : AV) (h : aB) : Option (AV × aB) := dF (
 aD (bN x0 h) fun v0 h0 =>
 aD (pu h0 (aA 5 v0)) fun v1 h1 =>
 aD (pu h1 (aE G false 1 v1 h1)) fun v2 h2 =>
 aD (pu h2 (aZ Tryd.prog .and 2 true v2 (.int .i64 63))) fun v3 h3 =>
 aD (pu h3 (dL .u64 v3)) fun v4 h4 =>
 aD (pu h4 (aA 5 v0)) fun v5 h5 =>
 aD (pu h5 (aE G false 1 v5 h5)) fun v6 h6 =>
 aD (pu h6 (aZ Tryd.prog .geq 2 true v6 (.int .i64 0))) fun v7 h7 =>
 aD (gd v7 true h7 (pu h7 (aA 5 v0))) fun v8 h8 =>
 aD (gd v7 true h8 (pu h8 (aE G false 1 v8 h8))) fun v9 h9 =>
 aD (gd v7 true h9 (pu h9 (aZ Tryd.prog .leq 2 true v9 (.int .i64 63)))) fun v10 h10 =>
 aD (pu h10 (dE v7 v10 (.bool false))) fun v11 h11 =>
 aD (pu h11 (aA 0 v0)) fun v12 h12 =>
 aD (pu h12 (aE G false 1 v12 h12)) fun v13 h13 =>
 aD (pu h13 (aZ Tryd.prog .eql 3 true v13 (.int .i64 1))) fun v14 h14 =>
 aM v14
 (aD (pu h14 (aA 5 v0)) fun v15 h15 =>
 aD (pu h15 (aE G false 1 v15 h15)) fun v16 h16 =>
 aD (pu h16 (dL .u64 v16)) fun v17 h17 =>
 bS [v17, (.bool true)] h.length h17)
 (aD (pu h14 (aZ Tryd.prog .eql 3 true v13 (.int .i64 2))) fun v18 h18 =>
 aM v18
 (bS [x1, (.bool true)] h.length h18)
 (aD (pu h18 (aZ Tryd.prog .eql 3 true v13 (.int .i64 3))) fun v19 h19 =>
 aM v19
 (aD (pu h19 (aZ Tryd.prog .add 48 false x1 x2)) fun v20 h20 =>
 bS [v20, (.bool true)] h.length h20)
 (aD (pu h19 (aZ Tryd.prog .eql 3 true v13 (.int .i64 4))) fun v21 h21 =>
 aM v21
 (aD (pu h21 (aZ Tryd.prog .sub 48 false x1 x2)) fun v22 h22 =>
 bS [v22, (.bool true)] h.length h22)
 (aD (pu h21 (aZ Tryd.prog .eql 3 true v13 (.int .i64 5))) fun v23 h23 =>
 aM v23
 (aD (pu h23 (aZ Tryd.prog .mul 48 false x1 x2)) fun v24 h24 =>
 bS [v24, (.bool true)] h.length h24)
 (aD (pu h23 (aZ Tryd.prog .eql 3 true v13 (.int .i64 6))) fun v25 h25 =>
 aM v25
 (aD (aN (aS.f G k) [x1, x2] h25) fun v26 h26 =>
 aD (pu h26 (aI v26 0)) fun v27 h27 =>
 aD (pu h27 (aI v26 1)) fun v28 h28 =>
 bS [v27, (.bool true)] h.length h28)
 (aD (pu h25 (aZ Tryd.prog .eql 3 true v13 (.int .i64 7))) fun v29 h29 =>
 aM v29
 (aD (pu h29 (aZ Tryd.prog .and 48 false x1 x2)) fun v30 h30 =>
 bS [v30, (.bool true)] h.length h30)
 (aD (pu h29 (aZ Tryd.prog .eql 3 true v13 (.int .i64 8))) fun v31 h31 =>
 aM v31
 (aD (pu h31 (aZ Tryd.prog .or 48 false x1 x2)) fun v32 h32 =>
 bS [v32, (.bool true)] h.length h32)
 (aD (pu h31 (aZ Tryd.prog .eql 3 true v13 (.int .i64 9))) fun v33 h33 =>
 aM v33
 (aD (pu h33 (aZ Tryd.prog .xor 48 false x1 x2)) fun v34 h34 =>
 bS [v34, (.bool true)] h.length h34)
 (aD (pu h33 (aZ Tryd.prog .eql 3 true v13 (.int .i64 13))) fun v35 h35 =>
 aM v35
 (aD (pu h35 (aZ Tryd.prog .lss 48 false x1 x2)) fun v36 h36 =>
 aM v36
 (bS [(.int .u64 1), (.bool true)] h.length h36)
 (bS [(.int .u64 0), (.bool true)] h.length h36))
 (aD (pu h35 (aZ Tryd.prog .eql 3 true v13 (.int .i64 14))) fun v37 h37 =>
 aM v37
 (aD (pu h37 (aZ Tryd.prog .neq 48 true x1 (.int .u64 0))) fun v38 h38 =>
 aM v38
 (bS [x2, (.bool true)] h.length h38)
 (bS [x3, (.bool true)] h.length h38))
 (aD (pu h37 (un .not v11)) fun v39 h39 =>
 aM v39
 (bS [(.int .u64 0), (.bool false)] h.length h39)
 (aD (pu h39 (aA 0 v0)) fun v40 h40 =>
 aD (pu h40 (aE G false 1 v40 h40)) fun v41 h41 =>
 aD (pu h41 (aZ Tryd.prog .eql 3 true v41 (.int .i64 10))) fun v42 h42 =>
 aM v42
 (aD (pu h42 (aZ Tryd.prog .shl 48 false x1 v4)) fun v43 h43 =>
 bS [v43, (.bool true)] h.length h43)
 (aD (pu h42 (aZ Tryd.prog .eql 3 true v41 (.int .i64 11))) fun v44 h44 =>
 aM v44
 (aD (pu h44 (aZ Tryd.prog .shr 48 false x1 v4)) fun v45 h45 =>
 bS [v45, (.bool true)] h.length h45)
 (aD (pu h44 (aZ Tryd.prog .eql 3 true v41 (.int .i64 12))) fun v46 h46 =>
 aM v46
 (aD (pu h46 (dL .i64 x1)) fun v47 h47 =>
 aD (pu h47 (aZ Tryd.prog .shr 2 false v47 v4)) fun v48 h48 =>
 aD (pu h48 (dL .u64 v48)) fun v49 h49 =>
 bS [v49, (.bool true)] h.length h49)
 (bS [(.int .u64 0), (.bool false)] h.length h46))))))))))))))))
noncomputable def aQ.f (G : aC) : Nat → bV
 | 0 => fun _ _ => none
 | k + 1 => fun args h => xS args fun x0 x1 x2 x3 => (aQ.c G k (aQ.f G k) x0 x1 x2 x3 h)
theorem aQ.step (G : aC) (k : Nat) (x0 x1 x2 x3 : AV) (h : aB) : aQ.f G (k + 1) [x0, x1, x2, x3] h = aQ.c G k (aQ.f G k) x0 x1 x2 x3 h := rfl
noncomputable def aF.ann : Ann := dP [] [] [(4, [0, 1, 4, 5])] []
noncomputable def aF.env (G : aC) (k : Nat) (self : bV) : List (Nat × Bool × bV) := []
noncomputable def aF.l4 (G : aC) (k n0 : Nat) (self : bV) (lp : fF) : fF := fun xs h0 => oU n0 xs h0 fun h =>
 aD (pu h (bX (aJ xs 0))) fun v4 h4 =>
 aD (pu h4 (aZ Tryd.prog .lss 3 false (aJ xs 3) v4)) fun v5 h5 =>
 aM v5
 (aD (pu h5 (aH 1 (aJ xs 0) (aJ xs 3))) fun v6 h6 =>
 aD (pu h6 (aE G false 1 v6 h6)) fun v7 h7 =>
 aD (pu h7 (aH 1 (aJ xs 1) (aJ xs 3))) fun v8 h8 =>
 aD (pu h8 (aE G false 1 v8 h8)) fun v9 h9 =>
 aD (pu h9 (aZ Tryd.prog .eql 9 false v7 v9)) fun v10 h10 =>
 aD (pu h10 (un .not v10)) fun v11 h11 =>
 aM v11
 (some (.ret, [(aJ xs 0), (aJ xs 1), (.bool false), (aJ xs 3)], h11))
 (aD (pu h11 (aZ Tryd.prog .add 3 true (aJ xs 3) (.int .i64 1))) fun v12 h12 =>
 lp [(aJ xs 0), (aJ xs 1), (aJ xs 2), v12] h12))
 (some (.exit 0, [(aJ xs 0), (aJ xs 1), (aJ xs 2), (aJ xs 3)], h5))
noncomputable def aF.c (G : aC) (k : Nat) (self : bV) (x0 x1 : AV) (h : aB) : Option (AV × aB) := dF (
 aD (pu h (bX x0)) fun v0 h0 =>
 aD (pu h0 (bX x1)) fun v1 h1 =>
 aD (pu h1 (aZ Tryd.prog .neq 3 false v0 v1)) fun v2 h2 =>
 aM v2
 (bS [(.bool false)] h.length h2)
 (dG (eY (aF.l4 G k h2.length self) k [x0, x1, (.bool false), (.int .i64 0)] h2) fun e3 x3 h3 => hC e3
 (none)
 (fun i3 => if i3 = 0 then (bS [(.bool true)] h.length h3) else (none))
 (bS [(aJ x3 2)] h.length h3)))
noncomputable def aF.f (G : aC) : Nat → bV
 | 0 => fun _ _ => none
 | k + 1 => fun args h => kG args fun x0 x1 => (aF.c G k (aF.f G k) x0 x1 h)
theorem aF.step (G : aC) (k : Nat) (x0 x1 : AV) (h : aB) : aF.f G (k + 1) [x0, x1] h = aF.c G k (aF.f G k) x0 x1 h := rfl
noncomputable def aL.ann : Ann := dP [] [] [] []
noncomputable def aL.env (G : aC) (k : Nat) (self : bV) : List (Nat × Bool × bV) := [(85, true, bI.f G k)]
noncomputable def aL.c (G : aC) (k : Nat) (self : bV) (x0 : AV) (h : aB) : Option (AV × aB) := dF (
 aD (aN (bI.f G k) [x0, (.int .i64 10)] h) fun v0 h0 =>
 bS [v0] h.length h0)
noncomputable def aL.f (G : aC) : Nat → bV
 | 0 => fun _ _ => none
 | k + 1 => fun args h => kM args fun x0 => (aL.c G k (aL.f G k) x0 h)
theorem aL.step (G : aC) (k : Nat) (x0 : AV) (h : aB) : aL.f G (k + 1) [x0] h = aL.c G k (aL.f G k) x0 h := rfl
noncomputable def aW.ann : Ann := dP [] [] [] []
noncomputable def aW.env (G : aC) (k : Nat) (self : bV) : List (Nat × Bool × bV) := [(84, true, aL.f G k)]
noncomputable def aW.c (G : aC) (k : Nat) (self : bV) (x0 : AV) (h : aB) : Option (AV × aB) := dF (
 aD (aN (aL.f G k) [x0] h) fun v0 h0 =>
 bS [v0] h.length h0)
noncomputable def aW.f (G : aC) : Nat → bV
 | 0 => fun _ _ => none
 | k + 1 => fun args h => kM args fun x0 => (aW.c G k (aW.f G k) x0 h)
theorem aW.step (G : aC) (k : Nat) (x0 : AV) (h : aB) : aW.f G (k + 1) [x0] h = aW.c G k (aW.f G k) x0 h := rfl
noncomputable def aO.ann : Ann := dP [] [] [] []
noncomputable def aO.env (G : aC) (k : Nat) (self : bV) : List (Nat × Bool × bV) := [(85, true, bI.f G k)]
noncomputable def aO.c (G : aC) (k : Nat) (self : bV) (x0 x1 : AV) (h : aB) : Option (AV × aB) := dF (
 aD (aN (bI.f G k) [x0, x1] h) fun v0 h0 =>
 bS [v0] h.length h0)
noncomputable def aO.f (G : aC) : Nat → bV
 | 0 => fun _ _ => none
 | k + 1 => fun args h => kG args fun x0 x1 => (aO.c G k (aO.f G k) x0 x1 h)
theorem aO.step (G : aC) (k : Nat) (x0 x1 : AV) (h : aB) : aO.f G (k + 1) [x0, x1] h = aO.c G k (aO.f G k) x0 x1 h := rfl
noncomputable def aV.ann : Ann := dP [] [2, 3] [(9, [3, 8, 10, 14, 15, 16, 39, 40, 41]), (3, [3, 14, 15, 16])] []
noncomputable def aV.env (G : aC) (k : Nat) (self : bV) : List (Nat × Bool × bV) := [(66, true, cE.f G k), (67, true, aW.f G k), (68, true, cP.f G k), (69, true, aO.f G k)]
noncomputable def aV.l9 (G : aC) (k n0 : Nat) (self : bV) (lp : fF) : fF := fun xs h0 => oU n0 xs h0 fun h =>
 aD (pu h (aZ Tryd.prog .lss 3 false (aJ xs 8) (aJ xs 7))) fun v31 h31 =>
 aM v31
 (aD (pu h31 (aH 1 (aJ xs 6) (aJ xs 8))) fun v32 h32 =>
 aD (pu h32 (aE G false 1 v32 h32)) fun v33 h33 =>
 aM v33
 (aD (pu h33 (aH 1 (aJ xs 2) (aJ xs 8))) fun v34 h34 =>
 aD (pu h34 (aE G false 1 v34 h34)) fun v35 h35 =>
 aD (aN (aO.f G k) [v35, (.int .i64 10)] h35) fun v36 h36 =>
 aD (pu h36 (aZ Tryd.prog .add 9 true (.str ⟨#[32]⟩) v36)) fun v37 h37 =>
 aD (pu h37 (aZ Tryd.prog .add 9 false (aJ xs 1) v37)) fun v38 h38 =>
 aD (pu h38 (aZ Tryd.prog .add 3 true (aJ xs 8) (.int .i64 1))) fun v39 h39 =>
 lp [(aJ xs 0), v38, (aJ xs 2), (aJ xs 3), (aJ xs 4), (aJ xs 5), (aJ xs 6), (aJ xs 7), v39] h39)
 (aD (pu h33 (aZ Tryd.prog .add 3 true (aJ xs 8) (.int .i64 1))) fun v40 h40 =>
 lp [(aJ xs 0), (aJ xs 1), (aJ xs 2), (aJ xs 3), (aJ xs 4), (aJ xs 5), (aJ xs 6), (aJ xs 7), v40] h40))
 (some (.exit 2, [(aJ xs 0), (aJ xs 1), (aJ xs 2), (aJ xs 3), (aJ xs 4), (aJ xs 5), (aJ xs 6), (aJ xs 7), (aJ xs 8)], h31))
noncomputable def aV.l3 (G : aC) (k n0 : Nat) (self : bV) (lp : fF) : fF := fun xs h0 => oU n0 xs h0 fun h =>
 aD (pu h (aZ Tryd.prog .lss 3 false (aJ xs 3) (aJ xs 2))) fun v7 h7 =>
 aM v7
 (aD (pu h7 (aH 6 (aJ xs 1) (aJ xs 3))) fun v8 h8 =>
 aD (pu h8 (aE G true 6 v8 h8)) fun v9 h9 =>
 aD (cY 52 (.agg [(.int .i64 0), (.int .i64 0), (.int .i64 0), (.int .i64 0), (.int .i64 0), (.int .i64 0)]) h9) fun v10 h10 =>
 aD (eD (aT 6 v10 v9 h10)) fun v11 h11 =>
 aD (pu h11 (aA 0 v10)) fun v12 h12 =>
 aD (pu h12 (aE G false 1 v12 h12)) fun v13 h13 =>
 aD (aN (cE.f G k) [v13] h13) fun v14 h14 =>
 aD (pu h14 (aI v14 0)) fun v15 h15 =>
 aD (pu h15 (aI v14 1)) fun v16 h16 =>
 aD (cY 113 (.agg [(.str ⟨#[]⟩), (.bool false), (.bool false), (.bool false), (.bool false), (.bool false)]) h16) fun v17 h17 =>
 aD (eD (aT 6 v17 v15 h17)) fun v18 h18 =>
 aD (aN (aW.f G k) [(aJ xs 3)] h18) fun v19 h19 =>
 aD (pu h19 (aZ Tryd.prog .add 9 true v19 (.str ⟨#[32]⟩))) fun v20 h20 =>
 aD (pu h20 (aA 0 v17)) fun v21 h21 =>
 aD (pu h21 (aE G false 1 v21 h21)) fun v22 h22 =>
 aD (pu h22 (aZ Tryd.prog .add 9 false v20 v22)) fun v23 h23 =>
 aD (pu h23 (aE G true 6 v10 h23)) fun v24 h24 =>
 aD (pu h24 (aE G true 6 v17 h24)) fun v25 h25 =>
 aD (aN (cP.f G k) [v24, v25] h25) fun v26 h26 =>
 aD (pu h26 (aI v26 0)) fun v27 h27 =>
 aD (pu h27 (aI v26 1)) fun v28 h28 =>
 aD (pu h28 (bX v27)) fun v29 h29 =>
 dG (eY (aV.l9 G k h29.length self) k [(aJ xs 0), v23, v28, (aJ xs 1), (aJ xs 2), (aJ xs 3), v27, v29, (.int .i64 0)] h29) fun e30 x30 h30 => hC e30
 (none)
 (fun i30 => if i30 = 2 then (aD (bK 1 1 (.str ⟨#[]⟩) [(0, (aJ x30 1))] h30) fun v41 h41 =>
 aD (fS 9 1 (aJ x30 0) v41 h41) fun v42 h42 =>
 aD (pu h42 (aZ Tryd.prog .add 3 true (aJ x30 5) (.int .i64 1))) fun v43 h43 =>
 lp [v42, (aJ x30 3), (aJ x30 4), v43] h43) else (if i30 = 1 then (aD (pu h30 (aZ Tryd.prog .add 3 true (aJ x30 5) (.int .i64 1))) fun v44 h44 =>
 lp [(aJ x30 0), (aJ x30 3), (aJ x30 4), v44] h44) else (some (.exit i30, [(aJ x30 0), (aJ x30 3), (aJ x30 4), (aJ x30 5)], h30))))
 (some (.ret, [(aJ x30 0), (aJ x30 3), (aJ x30 4), (aJ x30 5)], h30)))
 (some (.exit 0, [(aJ xs 0), (aJ xs 1), (aJ xs 2), (aJ xs 3)], h7))
noncomputable def aV.c (G : aC) (k : Nat) (self : bV) (x0 : AV) (h : aB) : Option (AV × aB) := dF (
 aD (bN x0 h) fun v0 h0 =>
 aD (some (.sl h0.length 0 0 0 1, h0 ++ [⟨9, 1, []⟩])) fun v1 h1 =>
 aD (some (.sl h1.length 0 0 0 1, h1 ++ [⟨9, 1, []⟩])) fun v2 h2 =>
 aD (pu h2 (aA 0 v0)) fun v3 h3 =>
 aD (pu h3 (aE G false 1 v3 h3)) fun v4 h4 =>
 aD (pu h4 (bX v4)) fun v5 h5 =>
 dG (eY (aV.l3 G k h5.length self) k [v2, v4, v5, (.int .i64 0)] h5) fun e6 x6 h6 => hC e6
 (none)
 (fun i6 => if i6 = 0 then (bS [(aJ x6 0)] h.length h6) else (none))
 (bS [.undef] h.length h6))
noncomputable def aV.f (G : aC) : Nat → bV
 | 0 => fun _ _ => none
 | k + 1 => fun args h => kM args fun x0 => (aV.c G k (aV.f G k) x0 h)
theorem aV.step (G : aC) (k : Nat) (x0 : AV) (h : aB) : aV.f G (k + 1) [x0] h = aV.c G k (aV.f G k) x0 h := rfl
noncomputable def aR.ann : Ann := dP [] [] [] []
noncomputable def aR.env (G : aC) (k : Nat) (self : bV) : List (Nat × Bool × bV) := []
noncomputable def aR.c (G : aC) (k : Nat) (self : bV) (x0 : AV) (h : aB) : Option (AV × aB) := dF (
 aD (bK 1 21 (.str ⟨#[]⟩) [(0, (.str ⟨#[110, 111, 110, 101]⟩)), (1, (.str ⟨#[99, 111, 110, 115, 116]⟩)), (2, (.str ⟨#[109, 111, 118]⟩)), (3, (.str ⟨#[97, 100, 100]⟩)), (4, (.str ⟨#[115, 117, 98]⟩)), (5, (.str ⟨#[109, 117, 108]⟩)), (6, (.str ⟨#[104, 105, 103, 104]⟩)), (7, (.str ⟨#[97, 110, 100]⟩)), (8, (.str ⟨#[111, 114]⟩)), (9, (.str ⟨#[120, 111, 114]⟩)), (10, (.str ⟨#[115, 104, 108]⟩)), (11, (.str ⟨#[115, 104, 114]⟩)), (12, (.str ⟨#[115, 97, 114]⟩)), (13, (.str ⟨#[108, 101, 115, 115]⟩)), (14, (.str ⟨#[115, 101, 108]⟩)), (15, (.str ⟨#[108, 100]⟩)), (16, (.str ⟨#[115, 116]⟩)), (17, (.str ⟨#[98, 114]⟩)), (18, (.str ⟨#[98, 122]⟩)), (19, (.str ⟨#[98, 110, 122]⟩)), (20, (.str ⟨#[104, 97, 108, 116]⟩))] h) fun v0 h0 =>
 aD (pu h0 (aZ Tryd.prog .lss 3 true x0 (.int .i64 1))) fun v1 h1 =>
 aD (gd v1 false h1 (some (x0, h1))) fun v2 h2 =>
 aD (gd v1 false h2 (some (v0, h2))) fun v3 h3 =>
 aD (gd v1 false h3 (pu h3 (bX v3))) fun v4 h4 =>
 aD (gd v1 false h4 (pu h4 (aZ Tryd.prog .geq 3 false v2 v4))) fun v5 h5 =>
 aD (pu h5 (dE v1 (.bool true) v5)) fun v6 h6 =>
 aM v6
 (bS [(.str ⟨#[110, 111, 110, 101]⟩)] h.length h6)
 (aD (pu h6 (aH 1 v0 x0)) fun v7 h7 =>
 aD (pu h7 (aE G false 1 v7 h7)) fun v8 h8 =>
 bS [v8] h.length h8))
noncomputable def aR.f (G : aC) : Nat → bV
 | 0 => fun _ _ => none
 | k + 1 => fun args h => kM args fun x0 => (aR.c G k (aR.f G k) x0 h)
theorem aR.step (G : aC) (k : Nat) (x0 : AV) (h : aB) : aR.f G (k + 1) [x0] h = aR.c G k (aR.f G k) x0 h := rfl
noncomputable def aG.ann : Ann := dP [] [2, 3] [(3, [1, 3, 4])] [(4, [1, 3, 4]), (18, [1, 3, 4, 8]), (16, [1, 3, 4, 5, 6, 8]), (14, [1, 3, 4, 5, 6, 8]), (12, [1, 3, 4, 5, 6, 8]), (10, [1, 3, 4, 5, 6, 8])]
noncomputable def aG.env (G : aC) (k : Nat) (self : bV) : List (Nat × Bool × bV) := [(36, true, aX.f G k), (67, true, aW.f G k), (69, true, aO.f G k), (70, true, aR.f G k)]
noncomputable def aG.l3 (G : aC) (k n0 : Nat) (self : bV) (lp : fF) : fF := fun xs h0 => oU n0 xs h0 fun h =>
 aD (pu h (aA 0 (aJ xs 0))) fun v4 h4 =>
 aD (pu h4 (aE G false 1 v4 h4)) fun v5 h5 =>
 aD (pu h5 (bX v5)) fun v6 h6 =>
 aD (pu h6 (aZ Tryd.prog .lss 3 false (aJ xs 2) v6)) fun v7 h7 =>
 aM v7
 (dG (
 aD (pu h7 (aA 0 (aJ xs 0))) fun v8 h8 =>
 aD (pu h8 (aE G false 1 v8 h8)) fun v9 h9 =>
 aD (pu h9 (aH 6 v9 (aJ xs 2))) fun v10 h10 =>
 aD (pu h10 (aE G true 6 v10 h10)) fun v11 h11 =>
 aD (cY 52 (.agg [(.int .i64 0), (.int .i64 0), (.int .i64 0), (.int .i64 0), (.int .i64 0), (.int .i64 0)]) h11) fun v12 h12 =>
 aD (eD (aT 6 v12 v11 h12)) fun v13 h13 =>
 aD (pu h13 (aA 0 v12)) fun v14 h14 =>
 aD (pu h14 (aE G false 1 v14 h14)) fun v15 h15 =>
 aD (aN (aX.f G k) [v15] h15) fun v16 h16 =>
 aD (pu h16 (aI v16 0)) fun v17 h17 =>
 aD (pu h17 (aI v16 1)) fun v18 h18 =>
 aD (cY 79 (.agg [(.bool false), (.bool false), (.bool false), (.bool false), (.int .i64 0)]) h18) fun v19 h19 =>
 aD (eD (aT 5 v19 v17 h19)) fun v20 h20 =>
 aD (aN (aW.f G k) [(aJ xs 2)] h20) fun v21 h21 =>
 aD (pu h21 (aZ Tryd.prog .add 9 true v21 (.str ⟨#[32]⟩))) fun v22 h22 =>
 aD (pu h22 (aA 0 v12)) fun v23 h23 =>
 aD (pu h23 (aE G false 1 v23 h23)) fun v24 h24 =>
 aD (aN (aR.f G k) [v24] h24) fun v25 h25 =>
 aD (pu h25 (aZ Tryd.prog .add 9 false v22 v25)) fun v26 h26 =>
 dG (
 aD (pu h26 (aA 0 v19)) fun v27 h27 =>
 aD (pu h27 (aE G false 1 v27 h27)) fun v28 h28 =>
 aM v28
 (aD (pu h28 (aZ Tryd.prog .add 9 true v26 (.str ⟨#[32]⟩))) fun v29 h29 =>
 aD (pu h29 (aA 1 v12)) fun v30 h30 =>
 aD (pu h30 (aE G false 1 v30 h30)) fun v31 h31 =>
 aD (aN (aW.f G k) [v31] h31) fun v32 h32 =>
 aD (pu h32 (aZ Tryd.prog .add 9 false v29 v32)) fun v33 h33 =>
 some (.normal, [(aJ xs 0), (aJ xs 1), (aJ xs 2), v12, v19, v33], h33))
 (some (.normal, [(aJ xs 0), (aJ xs 1), (aJ xs 2), v12, v19, v26], h28))) fun e34 x34 h34 => hC e34
 (dG (
 aD (pu h34 (aA 1 (aJ x34 4))) fun v35 h35 =>
 aD (pu h35 (aE G false 1 v35 h35)) fun v36 h36 =>
 aM v36
 (aD (pu h36 (aZ Tryd.prog .add 9 true (aJ x34 5) (.str ⟨#[32]⟩))) fun v37 h37 =>
 aD (pu h37 (aA 2 (aJ x34 3))) fun v38 h38 =>
 aD (pu h38 (aE G false 1 v38 h38)) fun v39 h39 =>
 aD (aN (aW.f G k) [v39] h39) fun v40 h40 =>
 aD (pu h40 (aZ Tryd.prog .add 9 false v37 v40)) fun v41 h41 =>
 some (.normal, [(aJ x34 0), (aJ x34 1), (aJ x34 2), (aJ x34 3), (aJ x34 4), v41], h41))
 (some (.normal, [(aJ x34 0), (aJ x34 1), (aJ x34 2), (aJ x34 3), (aJ x34 4), (aJ x34 5)], h36))) fun e42 x42 h42 => hC e42
 (dG (
 aD (pu h42 (aA 2 (aJ x42 4))) fun v43 h43 =>
 aD (pu h43 (aE G false 1 v43 h43)) fun v44 h44 =>
 aM v44
 (aD (pu h44 (aZ Tryd.prog .add 9 true (aJ x42 5) (.str ⟨#[32]⟩))) fun v45 h45 =>
 aD (pu h45 (aA 3 (aJ x42 3))) fun v46 h46 =>
 aD (pu h46 (aE G false 1 v46 h46)) fun v47 h47 =>
 aD (aN (aW.f G k) [v47] h47) fun v48 h48 =>
 aD (pu h48 (aZ Tryd.prog .add 9 false v45 v48)) fun v49 h49 =>
 some (.normal, [(aJ x42 0), (aJ x42 1), (aJ x42 2), (aJ x42 3), (aJ x42 4), v49], h49))
 (some (.normal, [(aJ x42 0), (aJ x42 1), (aJ x42 2), (aJ x42 3), (aJ x42 4), (aJ x42 5)], h44))) fun e50 x50 h50 => hC e50
 (dG (
 aD (pu h50 (aA 3 (aJ x50 4))) fun v51 h51 =>
 aD (pu h51 (aE G false 1 v51 h51)) fun v52 h52 =>
 aM v52
 (aD (pu h52 (aZ Tryd.prog .add 9 true (aJ x50 5) (.str ⟨#[32]⟩))) fun v53 h53 =>
 aD (pu h53 (aA 4 (aJ x50 3))) fun v54 h54 =>
 aD (pu h54 (aE G false 1 v54 h54)) fun v55 h55 =>
 aD (aN (aW.f G k) [v55] h55) fun v56 h56 =>
 aD (pu h56 (aZ Tryd.prog .add 9 false v53 v56)) fun v57 h57 =>
 some (.normal, [(aJ x50 0), (aJ x50 1), (aJ x50 2), (aJ x50 3), (aJ x50 4), v57], h57))
 (some (.normal, [(aJ x50 0), (aJ x50 1), (aJ x50 2), (aJ x50 3), (aJ x50 4), (aJ x50 5)], h52))) fun e58 x58 h58 => hC e58
 (dG (
 aD (pu h58 (aA 4 (aJ x58 4))) fun v59 h59 =>
 aD (pu h59 (aE G false 1 v59 h59)) fun v60 h60 =>
 aD (pu h60 (aZ Tryd.prog .gtr 3 true v60 (.int .i64 0))) fun v61 h61 =>
 aM v61
 (aD (pu h61 (aZ Tryd.prog .add 9 true (aJ x58 5) (.str ⟨#[32]⟩))) fun v62 h62 =>
 aD (pu h62 (aA 5 (aJ x58 3))) fun v63 h63 =>
 aD (pu h63 (aE G false 1 v63 h63)) fun v64 h64 =>
 aD (aN (aO.f G k) [v64, (.int .i64 10)] h64) fun v65 h65 =>
 aD (pu h65 (aZ Tryd.prog .add 9 false v62 v65)) fun v66 h66 =>
 some (.normal, [(aJ x58 0), (aJ x58 1), (aJ x58 2), v66], h66))
 (some (.normal, [(aJ x58 0), (aJ x58 1), (aJ x58 2), (aJ x58 5)], h61))) fun e67 x67 h67 => hC e67
 (aD (bK 1 1 (.str ⟨#[]⟩) [(0, (aJ x67 3))] h67) fun v68 h68 =>
 aD (fS 9 1 (aJ x67 1) v68 h68) fun v69 h69 =>
 some (.normal, [(aJ x67 0), v69, (aJ x67 2)], h69))
 (fun i67 => if i67 = 1 then (some (.normal, [(aJ x67 0), (aJ x67 1), (aJ x67 2)], h67)) else (some (.exit i67, [(aJ x67 0), (aJ x67 1), (aJ x67 2)], h67)))
 (some (.ret, [(aJ x67 0), (aJ x67 1), (aJ x67 2)], h67)))
 (fun i58 => if i58 = 1 then (some (.normal, [(aJ x58 0), (aJ x58 1), (aJ x58 2)], h58)) else (some (.exit i58, [(aJ x58 0), (aJ x58 1), (aJ x58 2)], h58)))
 (some (.ret, [(aJ x58 0), (aJ x58 1), (aJ x58 2)], h58)))
 (fun i50 => if i50 = 1 then (some (.normal, [(aJ x50 0), (aJ x50 1), (aJ x50 2)], h50)) else (some (.exit i50, [(aJ x50 0), (aJ x50 1), (aJ x50 2)], h50)))
 (some (.ret, [(aJ x50 0), (aJ x50 1), (aJ x50 2)], h50)))
 (fun i42 => if i42 = 1 then (some (.normal, [(aJ x42 0), (aJ x42 1), (aJ x42 2)], h42)) else (some (.exit i42, [(aJ x42 0), (aJ x42 1), (aJ x42 2)], h42)))
 (some (.ret, [(aJ x42 0), (aJ x42 1), (aJ x42 2)], h42)))
 (fun i34 => if i34 = 1 then (some (.normal, [(aJ x34 0), (aJ x34 1), (aJ x34 2)], h34)) else (some (.exit i34, [(aJ x34 0), (aJ x34 1), (aJ x34 2)], h34)))
 (some (.ret, [(aJ x34 0), (aJ x34 1), (aJ x34 2)], h34))) fun e70 x70 h70 => hC e70
 (aD (pu h70 (aZ Tryd.prog .add 3 true (aJ x70 2) (.int .i64 1))) fun v71 h71 =>
 lp [(aJ x70 0), (aJ x70 1), v71] h71)
 (fun i70 => some (.exit i70, [(aJ x70 0), (aJ x70 1), (aJ x70 2)], h70))
 (some (.ret, [(aJ x70 0), (aJ x70 1), (aJ x70 2)], h70)))
 (some (.exit 0, [(aJ xs 0), (aJ xs 1), (aJ xs 2)], h7))
noncomputable def aG.c (G : aC) (k : Nat) (self : bV) (x0 : AV) (h : aB) : Option (AV × aB) := dF (
 aD (bN x0 h) fun v0 h0 =>
 aD (some (.sl h0.length 0 0 0 1, h0 ++ [⟨9, 1, []⟩])) fun v1 h1 =>
 aD (some (.sl h1.length 0 0 0 1, h1 ++ [⟨9, 1, []⟩])) fun v2 h2 =>
 dG (eY (aG.l3 G k h2.length self) k [v0, v2, (.int .i64 0)] h2) fun e3 x3 h3 => hC e3
 (none)
 (fun i3 => if i3 = 0 then (bS [(aJ x3 1)] h.length h3) else (none))
 (bS [.undef] h.length h3))
noncomputable def aG.f (G : aC) : Nat → bV
 | 0 => fun _ _ => none
 | k + 1 => fun args h => kM args fun x0 => (aG.c G k (aG.f G k) x0 h)
theorem aG.step (G : aC) (k : Nat) (x0 : AV) (h : aB) : aG.f G (k + 1) [x0] h = aG.c G k (aG.f G k) x0 h := rfl
noncomputable def alembiclaw17_WordsValues.ann : Ann := dP [] [] [] []
noncomputable def alembiclaw17_WordsValues.env (G : aC) (k : Nat) (self : bV) : List (Nat × Bool × bV) := [(12, true, aY.f G k), (15, true, aP.f G k), (24, true, bH.f G k), (32, true, aQ.f G k), (33, true, aF.f G k), (34, true, aV.f G k), (35, true, aG.f G k)]
noncomputable def alembiclaw17_WordsValues.c (G : aC) (k : Nat) (self : bV) (x0 x1 x2 x3 : AV) (h : aB) : Option (AV × aB) := dF (
 aD (bN x0 h) fun v0 h0 =>
 aD (aN (aY.f G k) [] h0) fun v1 h1 =>
 aD (pu h1 (un .not v1)) fun v2 h2 =>
 aM v2
 (bS [(.bool false)] h.length h2)
 (aD (pu h2 (aE G true 6 v0 h2)) fun v3 h3 =>
 aD (aN (bH.f G k) [v3, x1, x2, x3] h3) fun v4 h4 =>
 aD (pu h4 (aI v4 0)) fun v5 h5 =>
 aD (pu h5 (aI v4 1)) fun v6 h6 =>
 aD (pu h6 (aE G true 6 v0 h6)) fun v7 h7 =>
 aD (aN (aQ.f G k) [v7, x1, x2, x3] h7) fun v8 h8 =>
 aD (pu h8 (aI v8 0)) fun v9 h9 =>
 aD (pu h9 (aI v8 1)) fun v10 h10 =>
 aD (pu h10 (aE G true 6 v0 h10)) fun v11 h11 =>
 aD (pu h11 (aE G true 6 v0 h11)) fun v12 h12 =>
 aD (bK 6 2 (.agg [(.int .i64 0), (.int .i64 0), (.int .i64 0), (.int .i64 0), (.int .i64 0), (.int .i64 0)]) [(0, v11), (1, v12)] h12) fun v13 h13 =>
 aD (pu h13 (aU [(0, 1), (1, 1), (2, 1)] [.nils, (.int .i64 0), (.int .i64 0)] [(0, v13)])) fun v14 h14 =>
 aD (cY 24 (.agg [.nils, (.int .i64 0), (.int .i64 0)]) h14) fun v15 h15 =>
 aD (eD (aT 3 v15 v14 h15)) fun v16 h16 =>
 aD (gd v1 true h16 (some (v5, h16))) fun v17 h17 =>
 aD (gd v1 true h17 (some (v9, h17))) fun v18 h18 =>
 aD (gd v1 true h18 (pu h18 (aZ Tryd.prog .eql 48 false v17 v18))) fun v19 h19 =>
 aD (pu h19 (dE v1 v19 (.bool false))) fun v20 h20 =>
 aD (gd v20 true h20 (some (v6, h20))) fun v21 h21 =>
 aD (gd v20 true h21 (some (v10, h21))) fun v22 h22 =>
 aD (gd v20 true h22 (pu h22 (aZ Tryd.prog .eql 4 false v21 v22))) fun v23 h23 =>
 aD (pu h23 (dE v20 v23 (.bool false))) fun v24 h24 =>
 aD (gd v24 true h24 (pu h24 (aE G true 3 v15 h24))) fun v25 h25 =>
 aD (gd v24 true h25 (aN (aV.f G k) [v25] h25)) fun v26 h26 =>
 aD (gd v24 true h26 (pu h26 (aE G true 3 v15 h26))) fun v27 h27 =>
 aD (gd v24 true h27 (aN (aP.f G k) [v27] h27)) fun v28 h28 =>
 aD (gd v24 true h28 (aN (aG.f G k) [v28] h28)) fun v29 h29 =>
 aD (gd v24 true h29 (aN (aF.f G k) [v26, v29] h29)) fun v30 h30 =>
 aD (pu h30 (dE v24 v30 (.bool false))) fun v31 h31 =>
 bS [v31] h.length h31))
noncomputable def alembiclaw17_WordsValues.f (G : aC) : Nat → bV
 | 0 => fun _ _ => none
 | k + 1 => fun args h => xS args fun x0 x1 x2 x3 => (alembiclaw17_WordsValues.c G k (alembiclaw17_WordsValues.f G k) x0 x1 x2 x3 h)
theorem alembiclaw17_WordsValues.step (G : aC) (k : Nat) (x0 x1 x2 x3 : AV) (h : aB) : alembiclaw17_WordsValues.f G (k + 1) [x0, x1, x2, x3] h = alembiclaw17_WordsValues.c G k (alembiclaw17_WordsValues.f G k) x0 x1 x2 x3 h := rfl
open Go Go.Proofs
theorem orders : Tryd.prog.follows .mixedOrders = true := by kernel_rfl
def aAL : Go.Shelf.Ren := ⟨fun | 246 => 85 | 283 => 91 | 284 => 92 | 285 => 93 | 286 => 94 | 129 => 96 | 317 => 95 | 318 => 97 | 319 => 98 | 320 => 99 | 337 => 100 | 338 => 101 | n => n, fun | 2 => 2 | 3 => 3 | 9 => 9 | 4 => 4 | 171 => 139 | 0 => 0 | 53 => 48 | 37 => 142 | 5 => 5 | 173 => 143 | 212 => 147 | 51 => 148 | 20 => 20 | 213 => 149 | 46 => 55 | 232 => 152 | 233 => 153 | n => n, fun | 17 => 14 | 18 => 15 | 19 => 16 | n => n⟩
theorem zB : Go.Proofs.LaysM.n246 Tryd.prog aAL := {
 mixed := by kernel_rfl,
 f129 := Tryd.func96.trans (congrArg some (by kernel_rfl)),
 f246 := Tryd.func85.trans (congrArg some (by kernel_rfl)),
 f283 := Tryd.func91.trans (congrArg some (by kernel_rfl)),
 f284 := Tryd.func92.trans (congrArg some (by kernel_rfl)),
 f285 := Tryd.func93.trans (congrArg some (by kernel_rfl)),
 f286 := Tryd.func94.trans (congrArg some (by kernel_rfl)),
 f317 := Tryd.func95.trans (congrArg some (by kernel_rfl)),
 f318 := Tryd.func97.trans (congrArg some (by kernel_rfl)),
 f319 := Tryd.func98.trans (congrArg some (by kernel_rfl)),
 f320 := Tryd.func99.trans (congrArg some (by kernel_rfl)),
 f337 := Tryd.func100.trans (congrArg some (by kernel_rfl)),
 f338 := Tryd.func101.trans (congrArg some (by kernel_rfl)),
 t0 := Tryd.underlying0,
 a0 := Tryd.isAgg0,
 z0 := Tryd.sizeOf0,
 v0 := Tryd.zeroValue0,
 t2 := Tryd.underlying2,
 a2 := Tryd.isAgg2,
 z2 := Tryd.sizeOf2,
 v2 := Tryd.zeroValue2,
 t3 := Tryd.underlying3,
 a3 := Tryd.isAgg3,
 z3 := Tryd.sizeOf3,
 v3 := Tryd.zeroValue3,
 t4 := Tryd.underlying4,
 a4 := Tryd.isAgg4,
 z4 := Tryd.sizeOf4,
 v4 := Tryd.zeroValue4,
 t5 := Tryd.underlying5,
 a5 := Tryd.isAgg5,
 z5 := Tryd.sizeOf5,
 v5 := Tryd.zeroValue5,
 t9 := Tryd.underlying9,
 a9 := Tryd.isAgg9,
 z9 := Tryd.sizeOf9,
 v9 := Tryd.zeroValue9,
 t20 := Tryd.underlying20,
 a20 := Tryd.isAgg20,
 z20 := Tryd.sizeOf20,
 v20 := Tryd.zeroValue20,
 t37 := Tryd.underlying142,
 a37 := Tryd.isAgg142,
 z37 := Tryd.sizeOf142,
 v37 := Tryd.zeroValue142,
 t46 := Tryd.underlying55,
 a46 := Tryd.isAgg55,
 z46 := Tryd.sizeOf55,
 v46 := Tryd.zeroValue55,
 t51 := Tryd.underlying148,
 a51 := Tryd.isAgg148,
 z51 := Tryd.sizeOf148,
 v51 := Tryd.zeroValue148,
 t53 := Tryd.underlying48,
 a53 := Tryd.isAgg48,
 z53 := Tryd.sizeOf48,
 v53 := Tryd.zeroValue48,
 t171 := Tryd.underlying139,
 a171 := Tryd.isAgg139,
 z171 := Tryd.sizeOf139,
 v171 := Tryd.zeroValue139,
 t173 := Tryd.underlying143,
 a173 := Tryd.isAgg143,
 z173 := Tryd.sizeOf143,
 v173 := Tryd.zeroValue143,
 t212 := Tryd.underlying147,
 a212 := Tryd.isAgg147,
 z212 := Tryd.sizeOf147,
 v212 := Tryd.zeroValue147,
 t213 := Tryd.underlying149,
 a213 := Tryd.isAgg149,
 z213 := Tryd.sizeOf149,
 t232 := Tryd.underlying152,
 a232 := Tryd.isAgg152,
 z232 := Tryd.sizeOf152,
 v232 := Tryd.zeroValue152,
 t233 := Tryd.underlying153,
 a233 := Tryd.isAgg153,
 z233 := Tryd.sizeOf153,
 v233 := Tryd.zeroValue153,
 g17 := by kernel_rfl,
 g18 := by kernel_rfl,
 g19 := by kernel_rfl,
 i0 := by kernel_rfl,
 i2 := by kernel_rfl,
 i3 := by kernel_rfl,
 i4 := by kernel_rfl,
 i5 := by kernel_rfl,
 i9 := by kernel_rfl,
 i20 := by kernel_rfl,
 i37 := by kernel_rfl,
 i46 := by kernel_rfl,
 i51 := by kernel_rfl,
 i53 := by kernel_rfl,
 i171 := by kernel_rfl,
 i173 := by kernel_rfl,
 i212 := by kernel_rfl,
 i232 := by kernel_rfl,
 i233 := by kernel_rfl,
 m17 := by kernel_rfl,
 m18 := by kernel_rfl,
 m19 := by kernel_rfl }
theorem zC {c : Ctx} {w : World} {G : aC} (hg : Good G c w) (k : Nat) (os : Array Obj) : Step c w c (Sort.grow (w.drewN k) os) := by
 refine ⟨.refl c, rfl, rfl, rfl, ?_, fun i hi _ => ?_, fun b inf h hv _ => ⟨inf, h, hv, rfl⟩, fun _ _ h => .inl h, fun _ _ h => .inl h⟩
 ·show w.heap.size ≤ (w.heap ++ os).size
  rw [Array.size_append]; omega
 ·show (w.heap ++ os)[i]? = w.heap[i]?
  rw [Array.getElem?_append_left hi]
theorem bI.here : HrP Tryd.prog 85 := ⟨_, Tryd.func85, by kernel_rfl, by kernel_rfl⟩
theorem bI.sound {G : aC} (hG : ∀ g x, G g = some x → bE x = true) (k : Nat) : Sound Tryd.prog G 85 (bI.f G k) := by
 refine ⟨bI.here, fun args H r H' hr c w vs hg hH hd ha => ?_⟩
 unfold bI.f at hr
 split at hr
 case h_2 => cases hr
 rename_i n b
 split at hr
 case isFalse => cases hr
 rename_i hc
 obtain ⟨h1, rfl, h2, h3⟩ := hc
 simp only [Option.some.injEq, Prod.mk.injEq] at hr
 obtain ⟨rfl, rfl⟩ := hr
 obtain ⟨elem, fr, hcell⟩ := hg.tab 14 (xZ h1)
 have htab : Lib.TabIs Tryd.prog w "internal/strconv.uint64pow10" .u64 Lib.pow10Tab := by
  unfold Lib.TabIs World.var?
  have e : Tryd.prog.globalNamed "internal/strconv.uint64pow10" = some 14 := by kernel_rfl
  rw [e]
  simp only [Option.bind_some, hcell]
  unfold mN Lib.pow10Tab
  rw [List.map_map]; rfl
 obtain ⟨hl, hrel⟩ := ha
 obtain ⟨v1, v2, rfl⟩ : ∃ v1 v2, vs = [v1, v2] := by
  match vs, hl with
  | [v1, v2], _ => exact ⟨v1, v2, rfl⟩
 have r1 := hrel 0 _ _ rfl rfl
 have r2 := hrel 1 _ _ rfl rfl
 cases r1
 cases r2
 have ct := Any.internal_strconv_FormatInt_10 zB n h2 h3 w htab
 refine ct.mono fun e w' he => ?_
 obtain ⟨rfl, j, os, rfl⟩ := he
 have hs := zC hg j os
 refine ⟨_, c, rfl, hs, hg.world hs, ?_, hd, .str _⟩
 exact hH.keep hs.le (fun _ _ h => h) (fun i hi => by
  show (w.heap ++ os)[i]? = w.heap[i]?
  rw [Array.getElem?_append_left (hg.bound i hi)])
theorem cF.here : HrP Tryd.prog 83 := ⟨_, Tryd.func83, by kernel_rfl, by kernel_rfl⟩
theorem cF.eq (G : aC) (k : Nat) (self : bV) (x0 : AV) (h : aB) : dM Tryd.prog G (eA (cF.env G k self)) cF.ann Tryd.f83.results.toList (cN Tryd.f83) Tryd.f83.ntmps k [x0] h = cF.c G k self x0 h := by kernel_rfl
theorem cF.sound {G : aC} (hG : ∀ g x, G g = some x → bE x = true) : ∀ k, Sound Tryd.prog G 83 (cF.f G k)
 | 0 => bL cF.here (fun _ _ => rfl)
 | k + 1 => bO (l := cF.env G k (cF.f G k)) (ann := cF.ann) (n := k) (bC hG cZ) orders Tryd.func83 (by kernel_rfl) (by kernel_rfl) rfl (by kernel_rfl) (fK fun x0 h => cF.eq G k _ x0 h)
theorem cE.here : HrP Tryd.prog 66 := ⟨_, Tryd.func66, by kernel_rfl, by kernel_rfl⟩
theorem cE.eq (G : aC) (k : Nat) (self : bV) (x0 : AV) (h : aB) : dM Tryd.prog G (eA (cE.env G k self)) cE.ann Tryd.f66.results.toList (cN Tryd.f66) Tryd.f66.ntmps k [x0] h = cE.c G k self x0 h := by kernel_rfl
theorem cE.sound {G : aC} (hG : ∀ g x, G g = some x → bE x = true) : ∀ k, Sound Tryd.prog G 66 (cE.f G k)
 | 0 => bL cE.here (fun _ _ => rfl)
 | k + 1 => bO (l := cE.env G k (cE.f G k)) (ann := cE.ann) (n := k) (bC hG (bU (cF.sound hG k) cZ)) orders Tryd.func66 (by kernel_rfl) (by kernel_rfl) rfl (by kernel_rfl) (fK fun x0 h => cE.eq G k _ x0 h)
theorem cP.here : HrP Tryd.prog 68 := ⟨_, Tryd.func68, by kernel_rfl, by kernel_rfl⟩
theorem cP.eq (G : aC) (k : Nat) (self : bV) (x0 x1 : AV) (h : aB) : dM Tryd.prog G (eA (cP.env G k self)) cP.ann Tryd.f68.results.toList (cN Tryd.f68) Tryd.f68.ntmps k [x0, x1] h = cP.c G k self x0 x1 h := by kernel_rfl
theorem cP.sound {G : aC} (hG : ∀ g x, G g = some x → bE x = true) : ∀ k, Sound Tryd.prog G 68 (cP.f G k)
 | 0 => bL cP.here (fun _ _ => rfl)
 | k + 1 => bO (l := cP.env G k (cP.f G k)) (ann := cP.ann) (n := k) (bC hG cZ) orders Tryd.func68 (by kernel_rfl) (by kernel_rfl) rfl (by kernel_rfl) (fG fun x0 x1 h => cP.eq G k _ x0 x1 h)
theorem cT.here : HrP Tryd.prog 43 := ⟨_, Tryd.func43, by kernel_rfl, by kernel_rfl⟩
theorem cT.eq (G : aC) (k : Nat) (self : bV) (x0 x1 : AV) (h : aB) : dM Tryd.prog G (eA (cT.env G k self)) cT.ann Tryd.f43.results.toList (cN Tryd.f43) Tryd.f43.ntmps k [x0, x1] h = cT.c G k self x0 x1 h := by kernel_rfl
theorem cT.sound {G : aC} (hG : ∀ g x, G g = some x → bE x = true) : ∀ k, Sound Tryd.prog G 43 (cT.f G k)
 | 0 => bL cT.here (fun _ _ => rfl)
 | k + 1 => bO (l := cT.env G k (cT.f G k)) (ann := cT.ann) (n := k) (bC hG (bU (cE.sound hG k) (bU (cP.sound hG k) cZ))) orders Tryd.func43 (by kernel_rfl) (by kernel_rfl) rfl (by kernel_rfl) (fG fun x0 x1 h => cT.eq G k _ x0 x1 h)
theorem cC.here : HrP Tryd.prog 17 := ⟨_, Tryd.func17, by kernel_rfl, by kernel_rfl⟩
theorem cC.eq (G : aC) (k : Nat) (self : bV) (x0 : AV) (h : aB) : dM Tryd.prog G (eA (cC.env G k self)) cC.ann Tryd.f17.results.toList (cN Tryd.f17) Tryd.f17.ntmps k [x0] h = cC.c G k self x0 h := by kernel_rfl
theorem cC.sound {G : aC} (hG : ∀ g x, G g = some x → bE x = true) : ∀ k, Sound Tryd.prog G 17 (cC.f G k)
 | 0 => bL cC.here (fun _ _ => rfl)
 | k + 1 => bO (l := cC.env G k (cC.f G k)) (ann := cC.ann) (n := k) (bC hG (bU (cT.sound hG k) cZ)) orders Tryd.func17 (by kernel_rfl) (by kernel_rfl) rfl (by kernel_rfl) (fK fun x0 h => cC.eq G k _ x0 h)
theorem cJ.here : HrP Tryd.prog 44 := ⟨_, Tryd.func44, by kernel_rfl, by kernel_rfl⟩
theorem cJ.eq (G : aC) (k : Nat) (self : bV) (x0 x1 x2 : AV) (h : aB) : dM Tryd.prog G (eA (cJ.env G k self)) cJ.ann Tryd.f44.results.toList (cN Tryd.f44) Tryd.f44.ntmps k [x0, x1, x2] h = cJ.c G k self x0 x1 x2 h := by kernel_rfl
theorem cJ.sound {G : aC} (hG : ∀ g x, G g = some x → bE x = true) : ∀ k, Sound Tryd.prog G 44 (cJ.f G k)
 | 0 => bL cJ.here (fun _ _ => rfl)
 | k + 1 => bO (l := cJ.env G k (cJ.f G k)) (ann := cJ.ann) (n := k) (bC hG cZ) orders Tryd.func44 (by kernel_rfl) (by kernel_rfl) rfl (by kernel_rfl) (nS fun x0 x1 x2 h => cJ.eq G k _ x0 x1 x2 h)
theorem aK.here : HrP Tryd.prog 72 := ⟨_, Tryd.func72, by kernel_rfl, by kernel_rfl⟩
theorem aK.eq (G : aC) (k : Nat) (self : bV) (x0 : AV) (h : aB) : rS Tryd.prog G (eA (aK.env G k self)) aK.ann Tryd.f72.results.toList (cN Tryd.f72) Tryd.f72.ntmps k [x0] h = aK.c G k self x0 h := by kernel_rfl
theorem aK.sound {G : aC} (hG : ∀ g x, G g = some x → bE x = true) : ∀ k, Sound Tryd.prog G 72 (aK.f G k)
 | 0 => bL aK.here (fun _ _ => rfl)
 | k + 1 => uZ (l := aK.env G k (aK.f G k)) (ann := aK.ann) (n := k) (bC hG cZ) orders Tryd.func72 (by kernel_rfl) (by kernel_rfl) rfl (by kernel_rfl) (fK fun x0 h => aK.eq G k _ x0 h)
theorem bF.here : HrP Tryd.prog 73 := ⟨_, Tryd.func73, by kernel_rfl, by kernel_rfl⟩
theorem bF.eq (G : aC) (k : Nat) (self : bV) (x0 x1 x2 : AV) (h : aB) : dM Tryd.prog G (eA (bF.env G k self)) bF.ann Tryd.f73.results.toList (cN Tryd.f73) Tryd.f73.ntmps k [x0, x1, x2] h = bF.c G k self x0 x1 x2 h := by kernel_rfl
theorem bF.sound {G : aC} (hG : ∀ g x, G g = some x → bE x = true) : ∀ k, Sound Tryd.prog G 73 (bF.f G k)
 | 0 => bL bF.here (fun _ _ => rfl)
 | k + 1 => bO (l := bF.env G k (bF.f G k)) (ann := bF.ann) (n := k) (bC hG cZ) orders Tryd.func73 (by kernel_rfl) (by kernel_rfl) rfl (by kernel_rfl) (nS fun x0 x1 x2 h => bF.eq G k _ x0 x1 x2 h)
theorem aS.here : HrP Tryd.prog 49 := ⟨_, Tryd.func49, by kernel_rfl, by kernel_rfl⟩
theorem aS.eq (G : aC) (k : Nat) (self : bV) (x0 x1 : AV) (h : aB) : dM Tryd.prog G (eA (aS.env G k self)) aS.ann Tryd.f49.results.toList (cN Tryd.f49) Tryd.f49.ntmps k [x0, x1] h = aS.c G k self x0 x1 h := by kernel_rfl
theorem aS.sound {G : aC} (hG : ∀ g x, G g = some x → bE x = true) : ∀ k, Sound Tryd.prog G 49 (aS.f G k)
 | 0 => bL aS.here (fun _ _ => rfl)
 | k + 1 => bO (l := aS.env G k (aS.f G k)) (ann := aS.ann) (n := k) (bC hG cZ) orders Tryd.func49 (by kernel_rfl) (by kernel_rfl) rfl (by kernel_rfl) (fG fun x0 x1 h => aS.eq G k _ x0 x1 h)
theorem bG.here : HrP Tryd.prog 50 := ⟨_, Tryd.func50, by kernel_rfl, by kernel_rfl⟩
theorem bG.eq (G : aC) (k : Nat) (self : bV) (x0 x1 : AV) (h : aB) : dM Tryd.prog G (eA (bG.env G k self)) bG.ann Tryd.f50.results.toList (cN Tryd.f50) Tryd.f50.ntmps k [x0, x1] h = bG.c G k self x0 x1 h := by kernel_rfl
theorem bG.sound {G : aC} (hG : ∀ g x, G g = some x → bE x = true) : ∀ k, Sound Tryd.prog G 50 (bG.f G k)
 | 0 => bL bG.here (fun _ _ => rfl)
 | k + 1 => bO (l := bG.env G k (bG.f G k)) (ann := bG.ann) (n := k) (bC hG cZ) orders Tryd.func50 (by kernel_rfl) (by kernel_rfl) rfl (by kernel_rfl) (fG fun x0 x1 h => bG.eq G k _ x0 x1 h)
theorem cO.here : HrP Tryd.prog 51 := ⟨_, Tryd.func51, by kernel_rfl, by kernel_rfl⟩
theorem cO.eq (G : aC) (k : Nat) (self : bV) (x0 : AV) (h : aB) : dM Tryd.prog G (eA (cO.env G k self)) cO.ann Tryd.f51.results.toList (cN Tryd.f51) Tryd.f51.ntmps k [x0] h = cO.c G k self x0 h := by kernel_rfl
theorem cO.sound {G : aC} (hG : ∀ g x, G g = some x → bE x = true) : ∀ k, Sound Tryd.prog G 51 (cO.f G k)
 | 0 => bL cO.here (fun _ _ => rfl)
 | k + 1 => bO (l := cO.env G k (cO.f G k)) (ann := cO.ann) (n := k) (bC hG cZ) orders Tryd.func51 (by kernel_rfl) (by kernel_rfl) rfl (by kernel_rfl) (fK fun x0 h => cO.eq G k _ x0 h)
theorem bH.here : HrP Tryd.prog 24 := ⟨_, Tryd.func24, by kernel_rfl, by kernel_rfl⟩
theorem bH.eq (G : aC) (k : Nat) (self : bV) (x0 x1 x2 x3 : AV) (h : aB) : dM Tryd.prog G (eA (bH.env G k self)) bH.ann Tryd.f24.results.toList (cN Tryd.f24) Tryd.f24.ntmps k [x0, x1, x2, x3] h = bH.c G k self x0 x1 x2 x3 h := by kernel_rfl
theorem bH.sound {G : aC} (hG : ∀ g x, G g = some x → bE x = true) : ∀ k, Sound Tryd.prog G 24 (bH.f G k)
 | 0 => bL bH.here (fun _ _ => rfl)
 | k + 1 => bO (l := bH.env G k (bH.f G k)) (ann := bH.ann) (n := k) (bC hG (bU (aS.sound hG k) (bU (bG.sound hG k) (bU (cO.sound hG k) cZ)))) orders Tryd.func24 (by kernel_rfl) (by kernel_rfl) rfl (by kernel_rfl) (nT fun x0 x1 x2 x3 h => bH.eq G k _ x0 x1 x2 x3 h)
theorem bQ.here : HrP Tryd.prog 88 := ⟨_, Tryd.func88, by kernel_rfl, by kernel_rfl⟩
theorem bQ.eq (G : aC) (k : Nat) (self : bV) (x0 x1 : AV) (h : aB) : dM Tryd.prog G (eA (bQ.env G k self)) bQ.ann Tryd.f88.results.toList (cN Tryd.f88) Tryd.f88.ntmps k [x0, x1] h = bQ.c G k self x0 x1 h := by kernel_rfl
theorem bQ.sound {G : aC} (hG : ∀ g x, G g = some x → bE x = true) : ∀ k, Sound Tryd.prog G 88 (bQ.f G k)
 | 0 => bL bQ.here (fun _ _ => rfl)
 | k + 1 => bO (l := bQ.env G k (bQ.f G k)) (ann := bQ.ann) (n := k) (bC hG (bU (bF.sound hG k) cZ)) orders Tryd.func88 (by kernel_rfl) (by kernel_rfl) rfl (by kernel_rfl) (fG fun x0 x1 h => bQ.eq G k _ x0 x1 h)
theorem bP.here : HrP Tryd.prog 89 := ⟨_, Tryd.func89, by kernel_rfl, by kernel_rfl⟩
theorem bP.eq (G : aC) (k : Nat) (self : bV) (x0 x1 : AV) (h : aB) : dM Tryd.prog G (eA (bP.env G k self)) bP.ann Tryd.f89.results.toList (cN Tryd.f89) Tryd.f89.ntmps k [x0, x1] h = bP.c G k self x0 x1 h := by kernel_rfl
theorem bP.sound {G : aC} (hG : ∀ g x, G g = some x → bE x = true) : ∀ k, Sound Tryd.prog G 89 (bP.f G k)
 | 0 => bL bP.here (fun _ _ => rfl)
 | k + 1 => bO (l := bP.env G k (bP.f G k)) (ann := bP.ann) (n := k) (bC hG (bU (cO.sound hG k) (bU (bF.sound hG k) cZ))) orders Tryd.func89 (by kernel_rfl) (by kernel_rfl) rfl (by kernel_rfl) (fG fun x0 x1 h => bP.eq G k _ x0 x1 h)
theorem bT.here : HrP Tryd.prog 74 := ⟨_, Tryd.func74, by kernel_rfl, by kernel_rfl⟩
theorem bT.eq (G : aC) (k : Nat) (self : bV) (x0 x1 : AV) (h : aB) : dM Tryd.prog G (eA (bT.env G k self)) bT.ann Tryd.f74.results.toList (cN Tryd.f74) Tryd.f74.ntmps k [x0, x1] h = bT.c G k self x0 x1 h := by kernel_rfl
theorem bT.sound {G : aC} (hG : ∀ g x, G g = some x → bE x = true) : ∀ k, Sound Tryd.prog G 74 (bT.f G k)
 | 0 => bL bT.here (fun _ _ => rfl)
 | k + 1 => bO (l := bT.env G k (bT.f G k)) (ann := bT.ann) (n := k) (bC hG (bU (bH.sound hG k) (bU (bQ.sound hG k) (bU (bP.sound hG k) cZ)))) orders Tryd.func74 (by kernel_rfl) (by kernel_rfl) rfl (by kernel_rfl) (fG fun x0 x1 h => bT.eq G k _ x0 x1 h)
theorem dK.here : HrP Tryd.prog 52 := ⟨_, Tryd.func52, by kernel_rfl, by kernel_rfl⟩
theorem dK.eq (G : aC) (k : Nat) (self : bV) (x0 x1 : AV) (h : aB) : dM Tryd.prog G (eA (dK.env G k self)) dK.ann Tryd.f52.results.toList (cN Tryd.f52) Tryd.f52.ntmps k [x0, x1] h = dK.c G k self x0 x1 h := by kernel_rfl
theorem dK.sound {G : aC} (hG : ∀ g x, G g = some x → bE x = true) : ∀ k, Sound Tryd.prog G 52 (dK.f G k)
 | 0 => bL dK.here (fun _ _ => rfl)
 | k + 1 => bO (l := dK.env G k (dK.f G k)) (ann := dK.ann) (n := k) (bC hG cZ) orders Tryd.func52 (by kernel_rfl) (by kernel_rfl) rfl (by kernel_rfl) (fG fun x0 x1 h => dK.eq G k _ x0 x1 h)
theorem dC.here : HrP Tryd.prog 53 := ⟨_, Tryd.func53, by kernel_rfl, by kernel_rfl⟩
theorem dC.eq (G : aC) (k : Nat) (self : bV) (x0 x1 : AV) (h : aB) : dM Tryd.prog G (eA (dC.env G k self)) dC.ann Tryd.f53.results.toList (cN Tryd.f53) Tryd.f53.ntmps k [x0, x1] h = dC.c G k self x0 x1 h := by kernel_rfl
theorem dC.sound {G : aC} (hG : ∀ g x, G g = some x → bE x = true) : ∀ k, Sound Tryd.prog G 53 (dC.f G k)
 | 0 => bL dC.here (fun _ _ => rfl)
 | k + 1 => bO (l := dC.env G k (dC.f G k)) (ann := dC.ann) (n := k) (bC hG cZ) orders Tryd.func53 (by kernel_rfl) (by kernel_rfl) rfl (by kernel_rfl) (fG fun x0 x1 h => dC.eq G k _ x0 x1 h)
theorem cB.here : HrP Tryd.prog 54 := ⟨_, Tryd.func54, by kernel_rfl, by kernel_rfl⟩
theorem cB.eq (G : aC) (k : Nat) (self : bV) (x0 x1 : AV) (h : aB) : dM Tryd.prog G (eA (cB.env G k self)) cB.ann Tryd.f54.results.toList (cN Tryd.f54) Tryd.f54.ntmps k [x0, x1] h = cB.c G k self x0 x1 h := by kernel_rfl
theorem cB.sound {G : aC} (hG : ∀ g x, G g = some x → bE x = true) : ∀ k, Sound Tryd.prog G 54 (cB.f G k)
 | 0 => bL cB.here (fun _ _ => rfl)
 | k + 1 => bO (l := cB.env G k (cB.f G k)) (ann := cB.ann) (n := k) (bC hG cZ) orders Tryd.func54 (by kernel_rfl) (by kernel_rfl) rfl (by kernel_rfl) (fG fun x0 x1 h => cB.eq G k _ x0 x1 h)
theorem dB.here : HrP Tryd.prog 55 := ⟨_, Tryd.func55, by kernel_rfl, by kernel_rfl⟩
theorem dB.eq (G : aC) (k : Nat) (self : bV) (x0 x1 : AV) (h : aB) : dM Tryd.prog G (eA (dB.env G k self)) dB.ann Tryd.f55.results.toList (cN Tryd.f55) Tryd.f55.ntmps k [x0, x1] h = dB.c G k self x0 x1 h := by kernel_rfl
theorem dB.sound {G : aC} (hG : ∀ g x, G g = some x → bE x = true) : ∀ k, Sound Tryd.prog G 55 (dB.f G k)
 | 0 => bL dB.here (fun _ _ => rfl)
 | k + 1 => bO (l := dB.env G k (dB.f G k)) (ann := dB.ann) (n := k) (bC hG cZ) orders Tryd.func55 (by kernel_rfl) (by kernel_rfl) rfl (by kernel_rfl) (fG fun x0 x1 h => dB.eq G k _ x0 x1 h)
theorem cG.here : HrP Tryd.prog 28 := ⟨_, Tryd.func28, by kernel_rfl, by kernel_rfl⟩
theorem cG.eq (G : aC) (k : Nat) (self : bV) (x0 x1 x2 : AV) (h : aB) : dM Tryd.prog G (eA (cG.env G k self)) cG.ann Tryd.f28.results.toList (cN Tryd.f28) Tryd.f28.ntmps k [x0, x1, x2] h = cG.c G k self x0 x1 x2 h := by kernel_rfl
theorem cG.sound {G : aC} (hG : ∀ g x, G g = some x → bE x = true) : ∀ k, Sound Tryd.prog G 28 (cG.f G k)
 | 0 => bL cG.here (fun _ _ => rfl)
 | k + 1 => bO (l := cG.env G k (cG.f G k)) (ann := cG.ann) (n := k) (bC hG (bU (dK.sound hG k) (bU (dC.sound hG k) (bU (cB.sound hG k) (bU (dB.sound hG k) cZ))))) orders Tryd.func28 (by kernel_rfl) (by kernel_rfl) rfl (by kernel_rfl) (nS fun x0 x1 x2 h => cG.eq G k _ x0 x1 x2 h)
theorem cH.here : HrP Tryd.prog 61 := ⟨_, Tryd.func61, by kernel_rfl, by kernel_rfl⟩
theorem cH.eq (G : aC) (k : Nat) (self : bV) (x0 : AV) (h : aB) : dM Tryd.prog G (eA (cH.env G k self)) cH.ann Tryd.f61.results.toList (cN Tryd.f61) Tryd.f61.ntmps k [x0] h = cH.c G k self x0 h := by kernel_rfl
theorem cH.sound {G : aC} (hG : ∀ g x, G g = some x → bE x = true) : ∀ k, Sound Tryd.prog G 61 (cH.f G k)
 | 0 => bL cH.here (fun _ _ => rfl)
 | k + 1 => bO (l := cH.env G k (cH.f G k)) (ann := cH.ann) (n := k) (bC hG cZ) orders Tryd.func61 (by kernel_rfl) (by kernel_rfl) rfl (by kernel_rfl) (fK fun x0 h => cH.eq G k _ x0 h)
theorem dJ.here : HrP Tryd.prog 62 := ⟨_, Tryd.func62, by kernel_rfl, by kernel_rfl⟩
theorem dJ.eq (G : aC) (k : Nat) (self : bV) (x0 x1 : AV) (h : aB) : dM Tryd.prog G (eA (dJ.env G k self)) dJ.ann Tryd.f62.results.toList (cN Tryd.f62) Tryd.f62.ntmps k [x0, x1] h = dJ.c G k self x0 x1 h := by kernel_rfl
theorem dJ.sound {G : aC} (hG : ∀ g x, G g = some x → bE x = true) : ∀ k, Sound Tryd.prog G 62 (dJ.f G k)
 | 0 => bL dJ.here (fun _ _ => rfl)
 | k + 1 => bO (l := dJ.env G k (dJ.f G k)) (ann := dJ.ann) (n := k) (bC hG cZ) orders Tryd.func62 (by kernel_rfl) (by kernel_rfl) rfl (by kernel_rfl) (fG fun x0 x1 h => dJ.eq G k _ x0 x1 h)
theorem bY.here : HrP Tryd.prog 60 := ⟨_, Tryd.func60, by kernel_rfl, by kernel_rfl⟩
theorem bY.eq (G : aC) (k : Nat) (self : bV) (x0 x1 x2 x3 x4 : AV) (h : aB) : dM Tryd.prog G (eA (bY.env G k self)) bY.ann Tryd.f60.results.toList (cN Tryd.f60) Tryd.f60.ntmps k [x0, x1, x2, x3, x4] h = bY.c G k self x0 x1 x2 x3 x4 h := by kernel_rfl
theorem bY.sound {G : aC} (hG : ∀ g x, G g = some x → bE x = true) : ∀ k, Sound Tryd.prog G 60 (bY.f G k)
 | 0 => bL bY.here (fun _ _ => rfl)
 | k + 1 => bO (l := bY.env G k (bY.f G k)) (ann := bY.ann) (n := k) (bC hG (bU (cG.sound hG k) (bU (cH.sound hG k) (bU (dJ.sound hG k) cZ)))) orders Tryd.func60 (by kernel_rfl) (by kernel_rfl) rfl (by kernel_rfl) (aAw fun x0 x1 x2 x3 x4 h => bY.eq G k _ x0 x1 x2 x3 x4 h)
theorem bZ.here : HrP Tryd.prog 45 := ⟨_, Tryd.func45, by kernel_rfl, by kernel_rfl⟩
theorem bZ.eq (G : aC) (k : Nat) (self : bV) (x0 x1 x2 x3 : AV) (h : aB) : dM Tryd.prog G (eA (bZ.env G k self)) bZ.ann Tryd.f45.results.toList (cN Tryd.f45) Tryd.f45.ntmps k [x0, x1, x2, x3] h = bZ.c G k self x0 x1 x2 x3 h := by kernel_rfl
theorem bZ.sound {G : aC} (hG : ∀ g x, G g = some x → bE x = true) : ∀ k, Sound Tryd.prog G 45 (bZ.f G k)
 | 0 => bL bZ.here (fun _ _ => rfl)
 | k + 1 => bO (l := bZ.env G k (bZ.f G k)) (ann := bZ.ann) (n := k) (bC hG (bU (bY.sound hG k) (bU (aK.sound hG k) (bU (bF.sound hG k) (bU (bT.sound hG k) cZ))))) orders Tryd.func45 (by kernel_rfl) (by kernel_rfl) rfl (by kernel_rfl) (nT fun x0 x1 x2 x3 h => bZ.eq G k _ x0 x1 x2 x3 h)
theorem dD.here : HrP Tryd.prog 19 := ⟨_, Tryd.func19, by kernel_rfl, by kernel_rfl⟩
theorem dD.eq (G : aC) (k : Nat) (self : bV) (x0 x1 x2 : AV) (h : aB) : dM Tryd.prog G (eA (dD.env G k self)) dD.ann Tryd.f19.results.toList (cN Tryd.f19) Tryd.f19.ntmps k [x0, x1, x2] h = dD.c G k self x0 x1 x2 h := by kernel_rfl
theorem dD.sound {G : aC} (hG : ∀ g x, G g = some x → bE x = true) : ∀ k, Sound Tryd.prog G 19 (dD.f G k)
 | 0 => bL dD.here (fun _ _ => rfl)
 | k + 1 => bO (l := dD.env G k (dD.f G k)) (ann := dD.ann) (n := k) (bC hG (bU (cC.sound hG k) (bU (cJ.sound hG k) (bU (bZ.sound hG k) cZ)))) orders Tryd.func19 (by kernel_rfl) (by kernel_rfl) rfl (by kernel_rfl) (nS fun x0 x1 x2 h => dD.eq G k _ x0 x1 x2 h)
theorem aY.here : HrP Tryd.prog 12 := ⟨_, Tryd.func12, by kernel_rfl, by kernel_rfl⟩
theorem aY.eq (G : aC) (k : Nat) (self : bV) (h : aB) : dM Tryd.prog G (eA (aY.env G k self)) aY.ann Tryd.f12.results.toList (cN Tryd.f12) Tryd.f12.ntmps k [] h = aY.c G k self h := by kernel_rfl
theorem aY.sound {G : aC} (hG : ∀ g x, G g = some x → bE x = true) : ∀ k, Sound Tryd.prog G 12 (aY.f G k)
 | 0 => bL aY.here (fun _ _ => rfl)
 | k + 1 => bO (l := aY.env G k (aY.f G k)) (ann := aY.ann) (n := k) (bC hG (bU (dD.sound hG k) (bU (bH.sound hG k) cZ))) orders Tryd.func12 (by kernel_rfl) (by kernel_rfl) rfl (by kernel_rfl) (aAv fun h => aY.eq G k _ h)
theorem aX.here : HrP Tryd.prog 36 := ⟨_, Tryd.func36, by kernel_rfl, by kernel_rfl⟩
theorem aX.eq (G : aC) (k : Nat) (self : bV) (x0 : AV) (h : aB) : dM Tryd.prog G (eA (aX.env G k self)) aX.ann Tryd.f36.results.toList (cN Tryd.f36) Tryd.f36.ntmps k [x0] h = aX.c G k self x0 h := by kernel_rfl
theorem aX.sound {G : aC} (hG : ∀ g x, G g = some x → bE x = true) : ∀ k, Sound Tryd.prog G 36 (aX.f G k)
 | 0 => bL aX.here (fun _ _ => rfl)
 | k + 1 => bO (l := aX.env G k (aX.f G k)) (ann := aX.ann) (n := k) (bC hG cZ) orders Tryd.func36 (by kernel_rfl) (by kernel_rfl) rfl (by kernel_rfl) (fK fun x0 h => aX.eq G k _ x0 h)
theorem aP.here : HrP Tryd.prog 15 := ⟨_, Tryd.func15, by kernel_rfl, by kernel_rfl⟩
theorem aP.eq (G : aC) (k : Nat) (self : bV) (x0 : AV) (h : aB) : dM Tryd.prog G (eA (aP.env G k self)) aP.ann Tryd.f15.results.toList (cN Tryd.f15) Tryd.f15.ntmps k [x0] h = aP.c G k self x0 h := by kernel_rfl
theorem aP.sound {G : aC} (hG : ∀ g x, G g = some x → bE x = true) : ∀ k, Sound Tryd.prog G 15 (aP.f G k)
 | 0 => bL aP.here (fun _ _ => rfl)
 | k + 1 => bO (l := aP.env G k (aP.f G k)) (ann := aP.ann) (n := k) (bC hG cZ) orders Tryd.func15 (by kernel_rfl) (by kernel_rfl) rfl (by kernel_rfl) (fK fun x0 h => aP.eq G k _ x0 h)
theorem aQ.here : HrP Tryd.prog 32 := ⟨_, Tryd.func32, by kernel_rfl, by kernel_rfl⟩
theorem aQ.eq (G : aC) (k : Nat) (self : bV) (x0 x1 x2 x3 : AV) (h : aB) : dM Tryd.prog G (eA (aQ.env G k self)) aQ.ann Tryd.f32.results.toList (cN Tryd.f32) Tryd.f32.ntmps k [x0, x1, x2, x3] h = aQ.c G k self x0 x1 x2 x3 h := by kernel_rfl
theorem aQ.sound {G : aC} (hG : ∀ g x, G g = some x → bE x = true) : ∀ k, Sound Tryd.prog G 32 (aQ.f G k)
 | 0 => bL aQ.here (fun _ _ => rfl)
 | k + 1 => bO (l := aQ.env G k (aQ.f G k)) (ann := aQ.ann) (n := k) (bC hG (bU (aS.sound hG k) cZ)) orders Tryd.func32 (by kernel_rfl) (by kernel_rfl) rfl (by kernel_rfl) (nT fun x0 x1 x2 x3 h => aQ.eq G k _ x0 x1 x2 x3 h)
theorem aF.here : HrP Tryd.prog 33 := ⟨_, Tryd.func33, by kernel_rfl, by kernel_rfl⟩
theorem aF.eq (G : aC) (k : Nat) (self : bV) (x0 x1 : AV) (h : aB) : dM Tryd.prog G (eA (aF.env G k self)) aF.ann Tryd.f33.results.toList (cN Tryd.f33) Tryd.f33.ntmps k [x0, x1] h = aF.c G k self x0 x1 h := by kernel_rfl
theorem aF.sound {G : aC} (hG : ∀ g x, G g = some x → bE x = true) : ∀ k, Sound Tryd.prog G 33 (aF.f G k)
 | 0 => bL aF.here (fun _ _ => rfl)
 | k + 1 => bO (l := aF.env G k (aF.f G k)) (ann := aF.ann) (n := k) (bC hG cZ) orders Tryd.func33 (by kernel_rfl) (by kernel_rfl) rfl (by kernel_rfl) (fG fun x0 x1 h => aF.eq G k _ x0 x1 h)
theorem aL.here : HrP Tryd.prog 84 := ⟨_, Tryd.func84, by kernel_rfl, by kernel_rfl⟩
theorem aL.eq (G : aC) (k : Nat) (self : bV) (x0 : AV) (h : aB) : dM Tryd.prog G (eA (aL.env G k self)) aL.ann Tryd.f84.results.toList (cN Tryd.f84) Tryd.f84.ntmps k [x0] h = aL.c G k self x0 h := by kernel_rfl
theorem aL.sound {G : aC} (hG : ∀ g x, G g = some x → bE x = true) : ∀ k, Sound Tryd.prog G 84 (aL.f G k)
 | 0 => bL aL.here (fun _ _ => rfl)
 | k + 1 => bO (l := aL.env G k (aL.f G k)) (ann := aL.ann) (n := k) (bC hG (bU (bI.sound hG k) cZ)) orders Tryd.func84 (by kernel_rfl) (by kernel_rfl) rfl (by kernel_rfl) (fK fun x0 h => aL.eq G k _ x0 h)
theorem aW.here : HrP Tryd.prog 67 := ⟨_, Tryd.func67, by kernel_rfl, by kernel_rfl⟩
theorem aW.eq (G : aC) (k : Nat) (self : bV) (x0 : AV) (h : aB) : dM Tryd.prog G (eA (aW.env G k self)) aW.ann Tryd.f67.results.toList (cN Tryd.f67) Tryd.f67.ntmps k [x0] h = aW.c G k self x0 h := by kernel_rfl
theorem aW.sound {G : aC} (hG : ∀ g x, G g = some x → bE x = true) : ∀ k, Sound Tryd.prog G 67 (aW.f G k)
 | 0 => bL aW.here (fun _ _ => rfl)
 | k + 1 => bO (l := aW.env G k (aW.f G k)) (ann := aW.ann) (n := k) (bC hG (bU (aL.sound hG k) cZ)) orders Tryd.func67 (by kernel_rfl) (by kernel_rfl) rfl (by kernel_rfl) (fK fun x0 h => aW.eq G k _ x0 h)
theorem aO.here : HrP Tryd.prog 69 := ⟨_, Tryd.func69, by kernel_rfl, by kernel_rfl⟩
theorem aO.eq (G : aC) (k : Nat) (self : bV) (x0 x1 : AV) (h : aB) : dM Tryd.prog G (eA (aO.env G k self)) aO.ann Tryd.f69.results.toList (cN Tryd.f69) Tryd.f69.ntmps k [x0, x1] h = aO.c G k self x0 x1 h := by kernel_rfl
theorem aO.sound {G : aC} (hG : ∀ g x, G g = some x → bE x = true) : ∀ k, Sound Tryd.prog G 69 (aO.f G k)
 | 0 => bL aO.here (fun _ _ => rfl)
 | k + 1 => bO (l := aO.env G k (aO.f G k)) (ann := aO.ann) (n := k) (bC hG (bU (bI.sound hG k) cZ)) orders Tryd.func69 (by kernel_rfl) (by kernel_rfl) rfl (by kernel_rfl) (fG fun x0 x1 h => aO.eq G k _ x0 x1 h)
theorem aV.here : HrP Tryd.prog 34 := ⟨_, Tryd.func34, by kernel_rfl, by kernel_rfl⟩
theorem aV.eq (G : aC) (k : Nat) (self : bV) (x0 : AV) (h : aB) : dM Tryd.prog G (eA (aV.env G k self)) aV.ann Tryd.f34.results.toList (cN Tryd.f34) Tryd.f34.ntmps k [x0] h = aV.c G k self x0 h := by kernel_rfl
theorem aV.sound {G : aC} (hG : ∀ g x, G g = some x → bE x = true) : ∀ k, Sound Tryd.prog G 34 (aV.f G k)
 | 0 => bL aV.here (fun _ _ => rfl)
 | k + 1 => bO (l := aV.env G k (aV.f G k)) (ann := aV.ann) (n := k) (bC hG (bU (cE.sound hG k) (bU (aW.sound hG k) (bU (cP.sound hG k) (bU (aO.sound hG k) cZ))))) orders Tryd.func34 (by kernel_rfl) (by kernel_rfl) rfl (by kernel_rfl) (fK fun x0 h => aV.eq G k _ x0 h)
theorem aR.here : HrP Tryd.prog 70 := ⟨_, Tryd.func70, by kernel_rfl, by kernel_rfl⟩
theorem aR.eq (G : aC) (k : Nat) (self : bV) (x0 : AV) (h : aB) : dM Tryd.prog G (eA (aR.env G k self)) aR.ann Tryd.f70.results.toList (cN Tryd.f70) Tryd.f70.ntmps k [x0] h = aR.c G k self x0 h := by kernel_rfl
theorem aR.sound {G : aC} (hG : ∀ g x, G g = some x → bE x = true) : ∀ k, Sound Tryd.prog G 70 (aR.f G k)
 | 0 => bL aR.here (fun _ _ => rfl)
 | k + 1 => bO (l := aR.env G k (aR.f G k)) (ann := aR.ann) (n := k) (bC hG cZ) orders Tryd.func70 (by kernel_rfl) (by kernel_rfl) rfl (by kernel_rfl) (fK fun x0 h => aR.eq G k _ x0 h)
theorem aG.here : HrP Tryd.prog 35 := ⟨_, Tryd.func35, by kernel_rfl, by kernel_rfl⟩
theorem aG.eq (G : aC) (k : Nat) (self : bV) (x0 : AV) (h : aB) : dM Tryd.prog G (eA (aG.env G k self)) aG.ann Tryd.f35.results.toList (cN Tryd.f35) Tryd.f35.ntmps k [x0] h = aG.c G k self x0 h := by kernel_rfl
theorem aG.sound {G : aC} (hG : ∀ g x, G g = some x → bE x = true) : ∀ k, Sound Tryd.prog G 35 (aG.f G k)
 | 0 => bL aG.here (fun _ _ => rfl)
 | k + 1 => bO (l := aG.env G k (aG.f G k)) (ann := aG.ann) (n := k) (bC hG (bU (aX.sound hG k) (bU (aW.sound hG k) (bU (aO.sound hG k) (bU (aR.sound hG k) cZ))))) orders Tryd.func35 (by kernel_rfl) (by kernel_rfl) rfl (by kernel_rfl) (fK fun x0 h => aG.eq G k _ x0 h)
theorem alembiclaw17_WordsValues.here : HrP Tryd.prog 11 := ⟨_, Tryd.func11, by kernel_rfl, by kernel_rfl⟩
theorem alembiclaw17_WordsValues.eq (G : aC) (k : Nat) (self : bV) (x0 x1 x2 x3 : AV) (h : aB) : dM Tryd.prog G (eA (alembiclaw17_WordsValues.env G k self)) alembiclaw17_WordsValues.ann Tryd.f11.results.toList (cN Tryd.f11) Tryd.f11.ntmps k [x0, x1, x2, x3] h = alembiclaw17_WordsValues.c G k self x0 x1 x2 x3 h := by kernel_rfl
theorem alembiclaw17_WordsValues.sound {G : aC} (hG : ∀ g x, G g = some x → bE x = true) : ∀ k, Sound Tryd.prog G 11 (alembiclaw17_WordsValues.f G k)
 | 0 => bL alembiclaw17_WordsValues.here (fun _ _ => rfl)
 | k + 1 => bO (l := alembiclaw17_WordsValues.env G k (alembiclaw17_WordsValues.f G k)) (ann := alembiclaw17_WordsValues.ann) (n := k) (bC hG (bU (aY.sound hG k) (bU (aP.sound hG k) (bU (bH.sound hG k) (bU (aQ.sound hG k) (bU (aF.sound hG k) (bU (aV.sound hG k) (bU (aG.sound hG k) cZ)))))))) orders Tryd.func11 (by kernel_rfl) (by kernel_rfl) rfl (by kernel_rfl) (nT fun x0 x1 x2 x3 h => alembiclaw17_WordsValues.eq G k _ x0 x1 x2 x3 h)
end Go.Proofs.YtcmblhedhgiofaaDoor.Mir
