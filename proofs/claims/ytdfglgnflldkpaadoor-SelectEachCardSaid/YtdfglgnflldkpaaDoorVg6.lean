/- Part 6 of the proof: the functions that the statement reaches, and their contracts. -/
import Derived.Test.YtdfglgnflldkpaaDoorVg5
import Derived.Test.YtdfglgnflldkpaaDoorProg
namespace Go.Proofs.YtdfglgnflldkpaaDoor.Mir
open Go
set_option linter.unusedVariables false
noncomputable def fO.ann : Ann := gG [] [] [] []
noncomputable def fO.env (G : aI) (k : Nat) (self : dE) : List (Nat × Bool × dE) := []
noncomputable def fO.c (G : aI) (k : Nat) (self : dE) (x0 : AV) (h : aF) : Option (AV × aF) := fZ (
 aB (pu h (aQ Tryd.prog .eql 3 true x0 (.int .i64 3))) fun v0 h0 =>
 aK v0
 (bK [(.str ⟨#[97, 100, 100]⟩)] h.length h0)
 (aB (pu h0 (aQ Tryd.prog .eql 3 true x0 (.int .i64 4))) fun v1 h1 =>
 aK v1
 (bK [(.str ⟨#[115, 117, 98]⟩)] h.length h1)
 (aB (pu h1 (aQ Tryd.prog .eql 3 true x0 (.int .i64 5))) fun v2 h2 =>
 aK v2
 (bK [(.str ⟨#[109, 117, 108]⟩)] h.length h2)
 (aB (pu h2 (aQ Tryd.prog .eql 3 true x0 (.int .i64 6))) fun v3 h3 =>
 aK v3
 (bK [(.str ⟨#[104, 105, 103, 104]⟩)] h.length h3)
 (aB (pu h3 (aQ Tryd.prog .eql 3 true x0 (.int .i64 7))) fun v4 h4 =>
 aK v4
 (bK [(.str ⟨#[97, 110, 100]⟩)] h.length h4)
 (aB (pu h4 (aQ Tryd.prog .eql 3 true x0 (.int .i64 8))) fun v5 h5 =>
 aK v5
 (bK [(.str ⟨#[111, 114]⟩)] h.length h5)
 (aB (pu h5 (aQ Tryd.prog .eql 3 true x0 (.int .i64 9))) fun v6 h6 =>
 aK v6
 (bK [(.str ⟨#[120, 111, 114]⟩)] h.length h6)
 (aB (pu h6 (aQ Tryd.prog .eql 3 true x0 (.int .i64 13))) fun v7 h7 =>
 aK v7
 (bK [(.str ⟨#[108, 101, 115, 115]⟩)] h.length h7)
 (aB (pu h7 (aQ Tryd.prog .eql 3 true x0 (.int .i64 10))) fun v8 h8 =>
 aK v8
 (bK [(.str ⟨#[115, 104, 108]⟩)] h.length h8)
 (aB (pu h8 (aQ Tryd.prog .eql 3 true x0 (.int .i64 11))) fun v9 h9 =>
 aK v9
 (bK [(.str ⟨#[115, 104, 114]⟩)] h.length h9)
 (aB (pu h9 (aQ Tryd.prog .eql 3 true x0 (.int .i64 12))) fun v10 h10 =>
 aK v10
 (bK [(.str ⟨#[115, 97, 114]⟩)] h.length h10)
 (aB (pu h10 (aQ Tryd.prog .eql 3 true x0 (.int .i64 15))) fun v11 h11 =>
 aK v11
 (bK [(.str ⟨#[108, 100]⟩)] h.length h11)
 (aB (pu h11 (aQ Tryd.prog .eql 3 true x0 (.int .i64 17))) fun v12 h12 =>
 aK v12
 (bK [(.str ⟨#[98, 114]⟩)] h.length h12)
 (aB (pu h12 (aQ Tryd.prog .eql 3 true x0 (.int .i64 20))) fun v13 h13 =>
 aK v13
 (bK [(.str ⟨#[104, 97, 108, 116]⟩)] h.length h13)
 (aB (pu h13 (aQ Tryd.prog .eql 3 true x0 (.int .i64 18))) fun v14 h14 =>
 aK v14
 (bK [(.str ⟨#[98, 122]⟩)] h.length h14)
 (bK [(.str ⟨#[98, 110, 122]⟩)] h.length h14))))))))))))))))
noncomputable def fO.f (G : aI) : Nat → dE
 | 0 => fun _ _ => none
 | k + 1 => fun args h => nX args fun x0 => (fO.c G k (fO.f G k) x0 h)
noncomputable def gA.ann : Ann := gG [] [] [] [(30, [2, 3]), (29, [0, 2, 43]), (26, [0, 2, 4, 37]), (19, [0, 2, 4, 23]), (14, [0, 2, 4, 11])]
noncomputable def gA.env (G : aI) (k : Nat) (self : dE) : List (Nat × Bool × dE) := [(106, true, fO.f G k)]
noncomputable def gA.c (G : aI) (k : Nat) (self : dE) (x0 : AV) (h : aF) : Option (AV × aF) := fZ (
 aB (eY 163 (.agg [(.str ⟨#[]⟩), (.bool false), (.bool false), (.bool false), (.bool false), (.bool false)]) h) fun v0 h0 =>
 dO (
 aB (pu h0 (aQ Tryd.prog .eql 3 true x0 (.int .i64 1))) fun v1 h1 =>
 aK v1
 (aB (pu h1 (aZ [(0, 1), (1, 1), (2, 1), (3, 1), (4, 1), (5, 1)] [(.str ⟨#[]⟩), (.bool false), (.bool false), (.bool false), (.bool false), (.bool false)] [(0, (.str ⟨#[99, 111, 110, 115, 116]⟩)), (1, (.bool true)), (5, (.bool true))])) fun v2 h2 =>
 aB (eH (aO 6 v0 v2 h2)) fun v3 h3 =>
 some (.ret, [v0, (.bool true)], h3))
 (aB (pu h1 (aQ Tryd.prog .eql 3 true x0 (.int .i64 2))) fun v4 h4 =>
 aK v4
 (aB (pu h4 (aZ [(0, 1), (1, 1), (2, 1), (3, 1), (4, 1), (5, 1)] [(.str ⟨#[]⟩), (.bool false), (.bool false), (.bool false), (.bool false), (.bool false)] [(0, (.str ⟨#[109, 111, 118]⟩)), (1, (.bool true)), (2, (.bool true))])) fun v5 h5 =>
 aB (eH (aO 6 v0 v5 h5)) fun v6 h6 =>
 some (.ret, [v0, (.bool true)], h6))
 (dO (
 aB (pu h4 (aQ Tryd.prog .eql 3 true x0 (.int .i64 3))) fun v7 h7 =>
 aK v7
 (some (.normal, [x0, v0, x0, v7], h7))
 (aB (pu h7 (aQ Tryd.prog .eql 3 true x0 (.int .i64 4))) fun v8 h8 =>
 aK v8
 (some (.normal, [x0, v0, x0, v8], h8))
 (aB (pu h8 (aQ Tryd.prog .eql 3 true x0 (.int .i64 5))) fun v9 h9 =>
 aK v9
 (some (.normal, [x0, v0, x0, v9], h9))
 (aB (pu h9 (aQ Tryd.prog .eql 3 true x0 (.int .i64 6))) fun v10 h10 =>
 aK v10
 (some (.normal, [x0, v0, x0, v10], h10))
 (aB (pu h10 (aQ Tryd.prog .eql 3 true x0 (.int .i64 7))) fun v11 h11 =>
 aK v11
 (some (.normal, [x0, v0, x0, v11], h11))
 (aB (pu h11 (aQ Tryd.prog .eql 3 true x0 (.int .i64 8))) fun v12 h12 =>
 aK v12
 (some (.normal, [x0, v0, x0, v12], h12))
 (aB (pu h12 (aQ Tryd.prog .eql 3 true x0 (.int .i64 9))) fun v13 h13 =>
 aK v13
 (some (.normal, [x0, v0, x0, v13], h13))
 (aB (pu h13 (aQ Tryd.prog .eql 3 true x0 (.int .i64 13))) fun v14 h14 =>
 some (.normal, [x0, v0, x0, v14], h14))))))))) fun e15 x15 h15 => jB e15
 (aK (aH x15 3)
 (aB (aE (fO.f G k) [(aH x15 0)] h15) fun v16 h16 =>
 aB (pu h16 (aZ [(0, 1), (1, 1), (2, 1), (3, 1), (4, 1), (5, 1)] [(.str ⟨#[]⟩), (.bool false), (.bool false), (.bool false), (.bool false), (.bool false)] [(0, v16), (1, (.bool true)), (2, (.bool true)), (3, (.bool true))])) fun v17 h17 =>
 aB (eH (aO 6 (aH x15 1) v17 h17)) fun v18 h18 =>
 some (.ret, [(aH x15 1), (.bool true)], h18))
 (dO (
 aB (pu h15 (aQ Tryd.prog .eql 3 true (aH x15 2) (.int .i64 10))) fun v19 h19 =>
 aK v19
 (some (.normal, [(aH x15 0), (aH x15 1), (aH x15 2), v19], h19))
 (aB (pu h19 (aQ Tryd.prog .eql 3 true (aH x15 2) (.int .i64 11))) fun v20 h20 =>
 aK v20
 (some (.normal, [(aH x15 0), (aH x15 1), (aH x15 2), v20], h20))
 (aB (pu h20 (aQ Tryd.prog .eql 3 true (aH x15 2) (.int .i64 12))) fun v21 h21 =>
 aK v21
 (some (.normal, [(aH x15 0), (aH x15 1), (aH x15 2), v21], h21))
 (aB (pu h21 (aQ Tryd.prog .eql 3 true (aH x15 2) (.int .i64 15))) fun v22 h22 =>
 some (.normal, [(aH x15 0), (aH x15 1), (aH x15 2), v22], h22))))) fun e23 x23 h23 => jB e23
 (aK (aH x23 3)
 (aB (aE (fO.f G k) [(aH x23 0)] h23) fun v24 h24 =>
 aB (pu h24 (aZ [(0, 1), (1, 1), (2, 1), (3, 1), (4, 1), (5, 1)] [(.str ⟨#[]⟩), (.bool false), (.bool false), (.bool false), (.bool false), (.bool false)] [(0, v24), (1, (.bool true)), (2, (.bool true)), (5, (.bool true))])) fun v25 h25 =>
 aB (eH (aO 6 (aH x23 1) v25 h25)) fun v26 h26 =>
 some (.ret, [(aH x23 1), (.bool true)], h26))
 (aB (pu h23 (aQ Tryd.prog .eql 3 true (aH x23 2) (.int .i64 14))) fun v27 h27 =>
 aK v27
 (aB (pu h27 (aZ [(0, 1), (1, 1), (2, 1), (3, 1), (4, 1), (5, 1)] [(.str ⟨#[]⟩), (.bool false), (.bool false), (.bool false), (.bool false), (.bool false)] [(0, (.str ⟨#[115, 101, 108]⟩)), (1, (.bool true)), (2, (.bool true)), (3, (.bool true)), (4, (.bool true))])) fun v28 h28 =>
 aB (eH (aO 6 (aH x23 1) v28 h28)) fun v29 h29 =>
 some (.ret, [(aH x23 1), (.bool true)], h29))
 (aB (pu h27 (aQ Tryd.prog .eql 3 true (aH x23 2) (.int .i64 16))) fun v30 h30 =>
 aK v30
 (aB (pu h30 (aZ [(0, 1), (1, 1), (2, 1), (3, 1), (4, 1), (5, 1)] [(.str ⟨#[]⟩), (.bool false), (.bool false), (.bool false), (.bool false), (.bool false)] [(0, (.str ⟨#[115, 116]⟩)), (2, (.bool true)), (3, (.bool true)), (5, (.bool true))])) fun v31 h31 =>
 aB (eH (aO 6 (aH x23 1) v31 h31)) fun v32 h32 =>
 some (.ret, [(aH x23 1), (.bool true)], h32))
 (dO (
 aB (pu h30 (aQ Tryd.prog .eql 3 true (aH x23 2) (.int .i64 17))) fun v33 h33 =>
 aK v33
 (some (.normal, [(aH x23 0), (aH x23 1), (aH x23 2), v33], h33))
 (aB (pu h33 (aQ Tryd.prog .eql 3 true (aH x23 2) (.int .i64 20))) fun v34 h34 =>
 some (.normal, [(aH x23 0), (aH x23 1), (aH x23 2), v34], h34))) fun e35 x35 h35 => jB e35
 (aK (aH x35 3)
 (aB (aE (fO.f G k) [(aH x35 0)] h35) fun v36 h36 =>
 aB (pu h36 (aZ [(0, 1), (1, 1), (2, 1), (3, 1), (4, 1), (5, 1)] [(.str ⟨#[]⟩), (.bool false), (.bool false), (.bool false), (.bool false), (.bool false)] [(0, v36), (5, (.bool true))])) fun v37 h37 =>
 aB (eH (aO 6 (aH x35 1) v37 h37)) fun v38 h38 =>
 some (.ret, [(aH x35 1), (.bool true)], h38))
 (dO (
 aB (pu h35 (aQ Tryd.prog .eql 3 true (aH x35 2) (.int .i64 18))) fun v39 h39 =>
 aK v39
 (some (.normal, [(aH x35 0), (aH x35 1), v39], h39))
 (aB (pu h39 (aQ Tryd.prog .eql 3 true (aH x35 2) (.int .i64 19))) fun v40 h40 =>
 some (.normal, [(aH x35 0), (aH x35 1), v40], h40))) fun e41 x41 h41 => jB e41
 (aK (aH x41 2)
 (aB (aE (fO.f G k) [(aH x41 0)] h41) fun v42 h42 =>
 aB (pu h42 (aZ [(0, 1), (1, 1), (2, 1), (3, 1), (4, 1), (5, 1)] [(.str ⟨#[]⟩), (.bool false), (.bool false), (.bool false), (.bool false), (.bool false)] [(0, v42), (2, (.bool true)), (5, (.bool true))])) fun v43 h43 =>
 aB (eH (aO 6 (aH x41 1) v43 h43)) fun v44 h44 =>
 some (.ret, [(aH x41 1), (.bool true)], h44))
 (some (.normal, [(aH x41 1), .undef], h41)))
 (fun i41 => if i41 = 0 then (some (.normal, [(aH x41 1), .undef], h41)) else (some (.exit i41, [(aH x41 1), .undef], h41)))
 (some (.ret, [(aH x41 1), .undef], h41))))
 (fun i35 => if i35 = 0 then (some (.normal, [(aH x35 1), .undef], h35)) else (some (.exit i35, [(aH x35 1), .undef], h35)))
 (some (.ret, [(aH x35 1), .undef], h35))))))
 (fun i23 => if i23 = 0 then (some (.normal, [(aH x23 1), .undef], h23)) else (some (.exit i23, [(aH x23 1), .undef], h23)))
 (some (.ret, [(aH x23 1), .undef], h23))))
 (fun i15 => if i15 = 0 then (some (.normal, [(aH x15 1), .undef], h15)) else (some (.exit i15, [(aH x15 1), .undef], h15)))
 (some (.ret, [(aH x15 1), .undef], h15))))) fun e45 x45 h45 => jB e45
 (aB (pu h45 (aZ [(0, 1), (1, 1), (2, 1), (3, 1), (4, 1), (5, 1)] [(.str ⟨#[]⟩), (.bool false), (.bool false), (.bool false), (.bool false), (.bool false)] [(0, (.str ⟨#[110, 111, 110, 101]⟩))])) fun v46 h46 =>
 aB (eH (aO 6 (aH x45 0) v46 h46)) fun v47 h47 =>
 fX [aC G true 6 (aH x45 0) h47, some (.bool false)] h.length h47)
 (fun i45 => none)
 (fX [aC G true 6 (aH x45 0) h45, some (aH x45 1)] h.length h45))
noncomputable def gA.f (G : aI) : Nat → dE
 | 0 => fun _ _ => none
 | k + 1 => fun args h => nX args fun x0 => (gA.c G k (gA.f G k) x0 h)
theorem gA.step (G : aI) (k : Nat) (x0 : AV) (h : aF) : gA.f G (k + 1) [x0] h = gA.c G k (gA.f G k) x0 h := rfl
noncomputable def gD.ann : Ann := gG [] [] [] []
noncomputable def gD.env (G : aI) (k : Nat) (self : dE) : List (Nat × Bool × dE) := []
noncomputable def gD.c (G : aI) (k : Nat) (self : dE) (x0 x1 : AV) (h : aF) : Option (AV × aF) := fZ (
 aB (dH x0 h) fun v0 h0 =>
 aB (dH x1 h0) fun v1 h1 =>
 aB (pu h1 (aA 1 v1)) fun v2 h2 =>
 aB (pu h2 (aC G false 1 v2 h2)) fun v3 h3 =>
 aB (pu h3 (aA 2 v1)) fun v4 h4 =>
 aB (pu h4 (aC G false 1 v4 h4)) fun v5 h5 =>
 aB (pu h5 (aA 3 v1)) fun v6 h6 =>
 aB (pu h6 (aC G false 1 v6 h6)) fun v7 h7 =>
 aB (pu h7 (aA 4 v1)) fun v8 h8 =>
 aB (pu h8 (aC G false 1 v8 h8)) fun v9 h9 =>
 aB (pu h9 (aA 5 v1)) fun v10 h10 =>
 aB (pu h10 (aC G false 1 v10 h10)) fun v11 h11 =>
 aB (eP 1 5 (.bool false) [(0, v3), (1, v5), (2, v7), (3, v9), (4, v11)] h11) fun v12 h12 =>
 aB (pu h12 (aA 1 v0)) fun v13 h13 =>
 aB (pu h13 (aC G false 1 v13 h13)) fun v14 h14 =>
 aB (pu h14 (aA 2 v0)) fun v15 h15 =>
 aB (pu h15 (aC G false 1 v15 h15)) fun v16 h16 =>
 aB (pu h16 (aA 3 v0)) fun v17 h17 =>
 aB (pu h17 (aC G false 1 v17 h17)) fun v18 h18 =>
 aB (pu h18 (aA 4 v0)) fun v19 h19 =>
 aB (pu h19 (aC G false 1 v19 h19)) fun v20 h20 =>
 aB (pu h20 (aA 5 v0)) fun v21 h21 =>
 aB (pu h21 (aC G false 1 v21 h21)) fun v22 h22 =>
 aB (eP 1 5 (.int .i64 0) [(0, v14), (1, v16), (2, v18), (3, v20), (4, v22)] h22) fun v23 h23 =>
 bK [v12, v23] h.length h23)
noncomputable def gD.f (G : aI) : Nat → dE
 | 0 => fun _ _ => none
 | k + 1 => fun args h => nJ args fun x0 x1 => (gD.c G k (gD.f G k) x0 x1 h)
noncomputable def dC.ann : Ann := gG [] [] [(12, [2, 3, 4, 8, 53, 54, 55]), (6, [2, 3, 4, 7, 8, 28])] [(33, [3, 4, 12]), (31, [2, 3, 12, 82]), (27, [2, 3, 12, 72, 79]), (22, [2, 3, 12, 72, 73])]
noncomputable def dC.env (G : aI) (k : Nat) (self : dE) : List (Nat × Bool × dE) := [(90, true, gA.f G k), (91, true, gD.f G k)]
noncomputable def dC.l6 (G : aI) (k n0 : Nat) (self : dE) (lp : iP) : iP := fun xs h0 => qJ n0 xs h0 fun h =>
 aB (pu h (aQ Tryd.prog .lss 3 true (aH xs 5) (.int .i64 4))) fun v17 h17 =>
 aK v17
 (aB (pu h17 (cB 1 (aH xs 3) (aH xs 5))) fun v18 h18 =>
 aB (pu h18 (aC G false 1 v18 h18)) fun v19 h19 =>
 aB (gd v19 true h19 (some ((aH xs 4), h19))) fun v20 h20 =>
 aB (gd v19 true h20 (some ((aH xs 5), h20))) fun v21 h21 =>
 aB (gd v19 true h21 (pu h21 (cB 1 v20 v21))) fun v22 h22 =>
 aB (gd v19 true h22 (pu h22 (aC G false 1 v22 h22))) fun v23 h23 =>
 aB (gd v19 true h23 (pu h23 (aQ Tryd.prog .lss 2 true v23 (.int .i64 0)))) fun v24 h24 =>
 aB (gd v19 true h24 (some (v24, h24))) fun v25 h25 =>
 aB (gd v25 false h25 (some ((aH xs 4), h25))) fun v26 h26 =>
 aB (gd v25 false h26 (some ((aH xs 5), h26))) fun v27 h27 =>
 aB (gd v25 false h27 (pu h27 (cB 1 v26 v27))) fun v28 h28 =>
 aB (gd v25 false h28 (pu h28 (aC G false 1 v28 h28))) fun v29 h29 =>
 aB (gd v25 false h29 (pu h29 (aA 1 (aH xs 0)))) fun v30 h30 =>
 aB (gd v25 false h30 (pu h30 (aC G false 1 v30 h30))) fun v31 h31 =>
 aB (gd v25 false h31 (pu h31 (aQ Tryd.prog .geq 2 false v29 v31))) fun v32 h32 =>
 aB (gd v19 true h32 (pu h32 (dM v25 (.bool true) v32))) fun v33 h33 =>
 aB (pu h33 (dM v19 v33 (.bool false))) fun v34 h34 =>
 aK v34
 (aB (pu h34 (aC G false 1 (.gl 1) h34)) fun v35 h35 =>
 some (.ret, [(aH xs 0), (aH xs 1), v35, (aH xs 3), (aH xs 4), (aH xs 5)], h35))
 (aB (pu h34 (aQ Tryd.prog .add 3 true (aH xs 5) (.int .i64 1))) fun v36 h36 =>
 lp [(aH xs 0), (aH xs 1), (aH xs 2), (aH xs 3), (aH xs 4), v36] h36))
 (some (.exit 0, [(aH xs 0), (aH xs 1), (aH xs 2), (aH xs 3), (aH xs 4), (aH xs 5)], h17))
noncomputable def dC.l12 (G : aI) (k n0 : Nat) (self : dE) (lp : iP) : iP := fun xs h0 => qJ n0 xs h0 fun h =>
 aB (pu h (aQ Tryd.prog .lss 3 false (aH xs 6) (aH xs 5))) fun v39 h39 =>
 aK v39
 (aB (pu h39 (cB 1 (aH xs 4) (aH xs 6))) fun v40 h40 =>
 aB (pu h40 (aC G false 1 v40 h40)) fun v41 h41 =>
 aB (pu h41 (un .not v41)) fun v42 h42 =>
 aB (gd v42 true h42 (some ((aH xs 3), h42))) fun v43 h43 =>
 aB (gd v42 true h43 (some ((aH xs 6), h43))) fun v44 h44 =>
 aB (gd v42 true h44 (pu h44 (cB 1 v43 v44))) fun v45 h45 =>
 aB (gd v42 true h45 (pu h45 (aC G false 1 v45 h45))) fun v46 h46 =>
 aB (gd v42 true h46 (pu h46 (aQ Tryd.prog .neq 2 true v46 (.int .i64 0)))) fun v47 h47 =>
 aB (pu h47 (dM v42 v47 (.bool false))) fun v48 h48 =>
 aK v48
 (aB (pu h48 (aC G false 1 (.gl 3) h48)) fun v49 h49 =>
 some (.ret, [(aH xs 0), (aH xs 1), v49, (aH xs 3), (aH xs 4), (aH xs 5), (aH xs 6)], h49))
 (aB (pu h48 (aQ Tryd.prog .add 3 true (aH xs 6) (.int .i64 1))) fun v50 h50 =>
 lp [(aH xs 0), (aH xs 1), (aH xs 2), (aH xs 3), (aH xs 4), (aH xs 5), v50] h50))
 (some (.exit 2, [(aH xs 0), (aH xs 1), (aH xs 2), (aH xs 3), (aH xs 4), (aH xs 5), (aH xs 6)], h39))
noncomputable def dC.c (G : aI) (k : Nat) (self : dE) (x0 x1 : AV) (h : aF) : Option (AV × aF) := fZ (
 aB (dH x0 h) fun v0 h0 =>
 aB (dH x1 h0) fun v1 h1 =>
 aB (pu h1 (aA 0 v1)) fun v2 h2 =>
 aB (pu h2 (aC G false 1 v2 h2)) fun v3 h3 =>
 aB (aE (gA.f G k) [v3] h3) fun v4 h4 =>
 aB (pu h4 (cL v4 0)) fun v5 h5 =>
 aB (pu h5 (cL v4 1)) fun v6 h6 =>
 aB (eY 163 (.agg [(.str ⟨#[]⟩), (.bool false), (.bool false), (.bool false), (.bool false), (.bool false)]) h6) fun v7 h7 =>
 aB (eH (aO 6 v7 v5 h7)) fun v8 h8 =>
 aB (pu h8 (un .not v6)) fun v9 h9 =>
 aK v9
 (aB (pu h9 (aC G false 1 (.gl 2) h9)) fun v10 h10 =>
 bK [v10] h.length h10)
 (aB (pu h9 (aC G true 6 v1 h9)) fun v11 h11 =>
 aB (pu h11 (aC G true 6 v7 h11)) fun v12 h12 =>
 aB (aE (gD.f G k) [v11, v12] h12) fun v13 h13 =>
 aB (pu h13 (cL v13 0)) fun v14 h14 =>
 aB (pu h14 (cL v13 1)) fun v15 h15 =>
 dO (gH (dC.l6 G k h15.length self) k [v0, v1, .nili, v14, v15, (.int .i64 0)] h15) fun e16 x16 h16 => jB e16
 (aB (pu h16 (dV (aH x16 3))) fun v37 h37 =>
 dO (gH (dC.l12 G k h37.length self) k [(aH x16 0), (aH x16 1), (aH x16 2), (aH x16 4), (aH x16 3), v37, (.int .i64 0)] h37) fun e38 x38 h38 => jB e38
 (dO (
 aB (pu h38 (aA 0 (aH x38 1))) fun v51 h51 =>
 aB (pu h51 (aC G false 1 v51 h51)) fun v52 h52 =>
 dO (
 aB (pu h52 (aQ Tryd.prog .eql 3 true v52 (.int .i64 10))) fun v53 h53 =>
 aK v53
 (some (.normal, [(aH x38 0), (aH x38 1), (.int .i64 (-1)), v52, v53], h53))
 (aB (pu h53 (aQ Tryd.prog .eql 3 true v52 (.int .i64 11))) fun v54 h54 =>
 aK v54
 (some (.normal, [(aH x38 0), (aH x38 1), (.int .i64 (-1)), v52, v54], h54))
 (aB (pu h54 (aQ Tryd.prog .eql 3 true v52 (.int .i64 12))) fun v55 h55 =>
 some (.normal, [(aH x38 0), (aH x38 1), (.int .i64 (-1)), v52, v55], h55)))) fun e56 x56 h56 => jB e56
 (aK (aH x56 4)
 (some (.normal, [(aH x56 1), .undef, (.int .i64 63)], h56))
 (aB (pu h56 (aQ Tryd.prog .eql 3 true (aH x56 3) (.int .i64 20))) fun v57 h57 =>
 aK v57
 (some (.normal, [(aH x56 1), .undef, (.int .i64 2)], h57))
 (dO (
 aB (pu h57 (aQ Tryd.prog .eql 3 true (aH x56 3) (.int .i64 15))) fun v58 h58 =>
 aK v58
 (some (.normal, [(aH x56 0), (aH x56 1), (aH x56 2), (aH x56 3), v58], h58))
 (aB (pu h58 (aQ Tryd.prog .eql 3 true (aH x56 3) (.int .i64 16))) fun v59 h59 =>
 some (.normal, [(aH x56 0), (aH x56 1), (aH x56 2), (aH x56 3), v59], h59))) fun e60 x60 h60 => jB e60
 (aK (aH x60 4)
 (some (.normal, [(aH x60 1), .undef, (.int .i64 65535)], h60))
 (dO (
 aB (pu h60 (aQ Tryd.prog .eql 3 true (aH x60 3) (.int .i64 17))) fun v61 h61 =>
 aK v61
 (some (.normal, [(aH x60 0), (aH x60 1), (aH x60 2), v61], h61))
 (aB (pu h61 (aQ Tryd.prog .eql 3 true (aH x60 3) (.int .i64 18))) fun v62 h62 =>
 aK v62
 (some (.normal, [(aH x60 0), (aH x60 1), (aH x60 2), v62], h62))
 (aB (pu h62 (aQ Tryd.prog .eql 3 true (aH x60 3) (.int .i64 19))) fun v63 h63 =>
 some (.normal, [(aH x60 0), (aH x60 1), (aH x60 2), v63], h63)))) fun e64 x64 h64 => jB e64
 (aK (aH x64 3)
 (aB (pu h64 (aA 5 (aH x64 1))) fun v65 h65 =>
 aB (pu h65 (aC G false 1 v65 h65)) fun v66 h66 =>
 aB (pu h66 (aQ Tryd.prog .lss 2 true v66 (.int .i64 0))) fun v67 h67 =>
 aB (gd v67 false h67 (pu h67 (aA 5 (aH x64 1)))) fun v68 h68 =>
 aB (gd v67 false h68 (pu h68 (aC G false 1 v68 h68))) fun v69 h69 =>
 aB (gd v67 false h69 (pu h69 (aA 0 (aH x64 0)))) fun v70 h70 =>
 aB (gd v67 false h70 (pu h70 (aC G false 1 v70 h70))) fun v71 h71 =>
 aB (gd v67 false h71 (pu h71 (dV v71))) fun v72 h72 =>
 aB (gd v67 false h72 (pu h72 (aQ Tryd.prog .gtr 2 false v69 v72))) fun v73 h73 =>
 aB (pu h73 (dM v67 (.bool true) v73)) fun v74 h74 =>
 aK v74
 (aB (pu h74 (aC G false 1 (.gl 4) h74)) fun v75 h75 =>
 some (.ret, [(aH x64 1), v75, (aH x64 2)], h75))
 (some (.normal, [(aH x64 1), .undef, (aH x64 2)], h74)))
 (some (.normal, [(aH x64 1), .undef, (aH x64 2)], h64)))
 (fun i64 => if i64 = 4 then (some (.normal, [(aH x64 1), .undef, (aH x64 2)], h64)) else (some (.exit i64, [(aH x64 1), .undef, (aH x64 2)], h64)))
 (some (.ret, [(aH x64 1), .undef, (aH x64 2)], h64))))
 (fun i60 => if i60 = 4 then (some (.normal, [(aH x60 1), .undef, (aH x60 2)], h60)) else (some (.exit i60, [(aH x60 1), .undef, (aH x60 2)], h60)))
 (some (.ret, [(aH x60 1), .undef, (aH x60 2)], h60)))))
 (fun i56 => if i56 = 4 then (some (.normal, [(aH x56 1), .undef, (aH x56 2)], h56)) else (some (.exit i56, [(aH x56 1), .undef, (aH x56 2)], h56)))
 (some (.ret, [(aH x56 1), .undef, (aH x56 2)], h56))) fun e76 x76 h76 => jB e76
 (aB (pu h76 (aQ Tryd.prog .geq 2 true (aH x76 2) (.int .i64 0))) fun v77 h77 =>
 aB (gd v77 true h77 (pu h77 (aA 5 (aH x76 0)))) fun v78 h78 =>
 aB (gd v77 true h78 (pu h78 (aC G false 1 v78 h78))) fun v79 h79 =>
 aB (gd v77 true h79 (pu h79 (aQ Tryd.prog .lss 2 true v79 (.int .i64 0)))) fun v80 h80 =>
 aB (gd v77 true h80 (some (v80, h80))) fun v81 h81 =>
 aB (gd v81 false h81 (pu h81 (aA 5 (aH x76 0)))) fun v82 h82 =>
 aB (gd v81 false h82 (pu h82 (aC G false 1 v82 h82))) fun v83 h83 =>
 aB (gd v81 false h83 (some ((aH x76 2), h83))) fun v84 h84 =>
 aB (gd v81 false h84 (pu h84 (aQ Tryd.prog .gtr 2 false v83 v84))) fun v85 h85 =>
 aB (gd v77 true h85 (pu h85 (dM v81 (.bool true) v85))) fun v86 h86 =>
 aB (pu h86 (dM v77 v86 (.bool false))) fun v87 h87 =>
 aK v87
 (aB (pu h87 (aC G false 1 (.gl 1) h87)) fun v88 h88 =>
 bK [v88] h.length h88)
 (bK [.nili] h.length h87))
 (fun i76 => none)
 (bK [(aH x76 1)] h.length h76))
 (fun i38 => if i38 = 2 then (dO (
 aB (pu h38 (aA 0 (aH x38 1))) fun v89 h89 =>
 aB (pu h89 (aC G false 1 v89 h89)) fun v90 h90 =>
 dO (
 aB (pu h90 (aQ Tryd.prog .eql 3 true v90 (.int .i64 10))) fun v91 h91 =>
 aK v91
 (some (.normal, [(aH x38 0), (aH x38 1), (.int .i64 (-1)), v90, v91], h91))
 (aB (pu h91 (aQ Tryd.prog .eql 3 true v90 (.int .i64 11))) fun v92 h92 =>
 aK v92
 (some (.normal, [(aH x38 0), (aH x38 1), (.int .i64 (-1)), v90, v92], h92))
 (aB (pu h92 (aQ Tryd.prog .eql 3 true v90 (.int .i64 12))) fun v93 h93 =>
 some (.normal, [(aH x38 0), (aH x38 1), (.int .i64 (-1)), v90, v93], h93)))) fun e94 x94 h94 => jB e94
 (aK (aH x94 4)
 (some (.normal, [(aH x94 1), .undef, (.int .i64 63)], h94))
 (aB (pu h94 (aQ Tryd.prog .eql 3 true (aH x94 3) (.int .i64 20))) fun v95 h95 =>
 aK v95
 (some (.normal, [(aH x94 1), .undef, (.int .i64 2)], h95))
 (dO (
 aB (pu h95 (aQ Tryd.prog .eql 3 true (aH x94 3) (.int .i64 15))) fun v96 h96 =>
 aK v96
 (some (.normal, [(aH x94 0), (aH x94 1), (aH x94 2), (aH x94 3), v96], h96))
 (aB (pu h96 (aQ Tryd.prog .eql 3 true (aH x94 3) (.int .i64 16))) fun v97 h97 =>
 some (.normal, [(aH x94 0), (aH x94 1), (aH x94 2), (aH x94 3), v97], h97))) fun e98 x98 h98 => jB e98
 (aK (aH x98 4)
 (some (.normal, [(aH x98 1), .undef, (.int .i64 65535)], h98))
 (dO (
 aB (pu h98 (aQ Tryd.prog .eql 3 true (aH x98 3) (.int .i64 17))) fun v99 h99 =>
 aK v99
 (some (.normal, [(aH x98 0), (aH x98 1), (aH x98 2), v99], h99))
 (aB (pu h99 (aQ Tryd.prog .eql 3 true (aH x98 3) (.int .i64 18))) fun v100 h100 =>
 aK v100
 (some (.normal, [(aH x98 0), (aH x98 1), (aH x98 2), v100], h100))
 (aB (pu h100 (aQ Tryd.prog .eql 3 true (aH x98 3) (.int .i64 19))) fun v101 h101 =>
 some (.normal, [(aH x98 0), (aH x98 1), (aH x98 2), v101], h101)))) fun e102 x102 h102 => jB e102
 (aK (aH x102 3)
 (aB (pu h102 (aA 5 (aH x102 1))) fun v103 h103 =>
 aB (pu h103 (aC G false 1 v103 h103)) fun v104 h104 =>
 aB (pu h104 (aQ Tryd.prog .lss 2 true v104 (.int .i64 0))) fun v105 h105 =>
 aB (gd v105 false h105 (pu h105 (aA 5 (aH x102 1)))) fun v106 h106 =>
 aB (gd v105 false h106 (pu h106 (aC G false 1 v106 h106))) fun v107 h107 =>
 aB (gd v105 false h107 (pu h107 (aA 0 (aH x102 0)))) fun v108 h108 =>
 aB (gd v105 false h108 (pu h108 (aC G false 1 v108 h108))) fun v109 h109 =>
 aB (gd v105 false h109 (pu h109 (dV v109))) fun v110 h110 =>
 aB (gd v105 false h110 (pu h110 (aQ Tryd.prog .gtr 2 false v107 v110))) fun v111 h111 =>
 aB (pu h111 (dM v105 (.bool true) v111)) fun v112 h112 =>
 aK v112
 (aB (pu h112 (aC G false 1 (.gl 4) h112)) fun v113 h113 =>
 some (.ret, [(aH x102 1), v113, (aH x102 2)], h113))
 (some (.normal, [(aH x102 1), .undef, (aH x102 2)], h112)))
 (some (.normal, [(aH x102 1), .undef, (aH x102 2)], h102)))
 (fun i102 => if i102 = 4 then (some (.normal, [(aH x102 1), .undef, (aH x102 2)], h102)) else (some (.exit i102, [(aH x102 1), .undef, (aH x102 2)], h102)))
 (some (.ret, [(aH x102 1), .undef, (aH x102 2)], h102))))
 (fun i98 => if i98 = 4 then (some (.normal, [(aH x98 1), .undef, (aH x98 2)], h98)) else (some (.exit i98, [(aH x98 1), .undef, (aH x98 2)], h98)))
 (some (.ret, [(aH x98 1), .undef, (aH x98 2)], h98)))))
 (fun i94 => if i94 = 4 then (some (.normal, [(aH x94 1), .undef, (aH x94 2)], h94)) else (some (.exit i94, [(aH x94 1), .undef, (aH x94 2)], h94)))
 (some (.ret, [(aH x94 1), .undef, (aH x94 2)], h94))) fun e114 x114 h114 => jB e114
 (aB (pu h114 (aQ Tryd.prog .geq 2 true (aH x114 2) (.int .i64 0))) fun v115 h115 =>
 aB (gd v115 true h115 (pu h115 (aA 5 (aH x114 0)))) fun v116 h116 =>
 aB (gd v115 true h116 (pu h116 (aC G false 1 v116 h116))) fun v117 h117 =>
 aB (gd v115 true h117 (pu h117 (aQ Tryd.prog .lss 2 true v117 (.int .i64 0)))) fun v118 h118 =>
 aB (gd v115 true h118 (some (v118, h118))) fun v119 h119 =>
 aB (gd v119 false h119 (pu h119 (aA 5 (aH x114 0)))) fun v120 h120 =>
 aB (gd v119 false h120 (pu h120 (aC G false 1 v120 h120))) fun v121 h121 =>
 aB (gd v119 false h121 (some ((aH x114 2), h121))) fun v122 h122 =>
 aB (gd v119 false h122 (pu h122 (aQ Tryd.prog .gtr 2 false v121 v122))) fun v123 h123 =>
 aB (gd v115 true h123 (pu h123 (dM v119 (.bool true) v123))) fun v124 h124 =>
 aB (pu h124 (dM v115 v124 (.bool false))) fun v125 h125 =>
 aK v125
 (aB (pu h125 (aC G false 1 (.gl 1) h125)) fun v126 h126 =>
 bK [v126] h.length h126)
 (bK [.nili] h.length h125))
 (fun i114 => none)
 (bK [(aH x114 1)] h.length h114)) else (none))
 (bK [(aH x38 2)] h.length h38))
 (fun i16 => if i16 = 0 then (aB (pu h16 (dV (aH x16 3))) fun v127 h127 =>
 dO (gH (dC.l12 G k h127.length self) k [(aH x16 0), (aH x16 1), (aH x16 2), (aH x16 4), (aH x16 3), v127, (.int .i64 0)] h127) fun e128 x128 h128 => jB e128
 (dO (
 aB (pu h128 (aA 0 (aH x128 1))) fun v141 h141 =>
 aB (pu h141 (aC G false 1 v141 h141)) fun v142 h142 =>
 dO (
 aB (pu h142 (aQ Tryd.prog .eql 3 true v142 (.int .i64 10))) fun v143 h143 =>
 aK v143
 (some (.normal, [(aH x128 0), (aH x128 1), (.int .i64 (-1)), v142, v143], h143))
 (aB (pu h143 (aQ Tryd.prog .eql 3 true v142 (.int .i64 11))) fun v144 h144 =>
 aK v144
 (some (.normal, [(aH x128 0), (aH x128 1), (.int .i64 (-1)), v142, v144], h144))
 (aB (pu h144 (aQ Tryd.prog .eql 3 true v142 (.int .i64 12))) fun v145 h145 =>
 some (.normal, [(aH x128 0), (aH x128 1), (.int .i64 (-1)), v142, v145], h145)))) fun e146 x146 h146 => jB e146
 (aK (aH x146 4)
 (some (.normal, [(aH x146 1), .undef, (.int .i64 63)], h146))
 (aB (pu h146 (aQ Tryd.prog .eql 3 true (aH x146 3) (.int .i64 20))) fun v147 h147 =>
 aK v147
 (some (.normal, [(aH x146 1), .undef, (.int .i64 2)], h147))
 (dO (
 aB (pu h147 (aQ Tryd.prog .eql 3 true (aH x146 3) (.int .i64 15))) fun v148 h148 =>
 aK v148
 (some (.normal, [(aH x146 0), (aH x146 1), (aH x146 2), (aH x146 3), v148], h148))
 (aB (pu h148 (aQ Tryd.prog .eql 3 true (aH x146 3) (.int .i64 16))) fun v149 h149 =>
 some (.normal, [(aH x146 0), (aH x146 1), (aH x146 2), (aH x146 3), v149], h149))) fun e150 x150 h150 => jB e150
 (aK (aH x150 4)
 (some (.normal, [(aH x150 1), .undef, (.int .i64 65535)], h150))
 (dO (
 aB (pu h150 (aQ Tryd.prog .eql 3 true (aH x150 3) (.int .i64 17))) fun v151 h151 =>
 aK v151
 (some (.normal, [(aH x150 0), (aH x150 1), (aH x150 2), v151], h151))
 (aB (pu h151 (aQ Tryd.prog .eql 3 true (aH x150 3) (.int .i64 18))) fun v152 h152 =>
 aK v152
 (some (.normal, [(aH x150 0), (aH x150 1), (aH x150 2), v152], h152))
 (aB (pu h152 (aQ Tryd.prog .eql 3 true (aH x150 3) (.int .i64 19))) fun v153 h153 =>
 some (.normal, [(aH x150 0), (aH x150 1), (aH x150 2), v153], h153)))) fun e154 x154 h154 => jB e154
 (aK (aH x154 3)
 (aB (pu h154 (aA 5 (aH x154 1))) fun v155 h155 =>
 aB (pu h155 (aC G false 1 v155 h155)) fun v156 h156 =>
 aB (pu h156 (aQ Tryd.prog .lss 2 true v156 (.int .i64 0))) fun v157 h157 =>
 aB (gd v157 false h157 (pu h157 (aA 5 (aH x154 1)))) fun v158 h158 =>
 aB (gd v157 false h158 (pu h158 (aC G false 1 v158 h158))) fun v159 h159 =>
 aB (gd v157 false h159 (pu h159 (aA 0 (aH x154 0)))) fun v160 h160 =>
 aB (gd v157 false h160 (pu h160 (aC G false 1 v160 h160))) fun v161 h161 =>
 aB (gd v157 false h161 (pu h161 (dV v161))) fun v162 h162 =>
 aB (gd v157 false h162 (pu h162 (aQ Tryd.prog .gtr 2 false v159 v162))) fun v163 h163 =>
 aB (pu h163 (dM v157 (.bool true) v163)) fun v164 h164 =>
 aK v164
 (aB (pu h164 (aC G false 1 (.gl 4) h164)) fun v165 h165 =>
 some (.ret, [(aH x154 1), v165, (aH x154 2)], h165))
 (some (.normal, [(aH x154 1), .undef, (aH x154 2)], h164)))
 (some (.normal, [(aH x154 1), .undef, (aH x154 2)], h154)))
 (fun i154 => if i154 = 4 then (some (.normal, [(aH x154 1), .undef, (aH x154 2)], h154)) else (some (.exit i154, [(aH x154 1), .undef, (aH x154 2)], h154)))
 (some (.ret, [(aH x154 1), .undef, (aH x154 2)], h154))))
 (fun i150 => if i150 = 4 then (some (.normal, [(aH x150 1), .undef, (aH x150 2)], h150)) else (some (.exit i150, [(aH x150 1), .undef, (aH x150 2)], h150)))
 (some (.ret, [(aH x150 1), .undef, (aH x150 2)], h150)))))
 (fun i146 => if i146 = 4 then (some (.normal, [(aH x146 1), .undef, (aH x146 2)], h146)) else (some (.exit i146, [(aH x146 1), .undef, (aH x146 2)], h146)))
 (some (.ret, [(aH x146 1), .undef, (aH x146 2)], h146))) fun e166 x166 h166 => jB e166
 (aB (pu h166 (aQ Tryd.prog .geq 2 true (aH x166 2) (.int .i64 0))) fun v167 h167 =>
 aB (gd v167 true h167 (pu h167 (aA 5 (aH x166 0)))) fun v168 h168 =>
 aB (gd v167 true h168 (pu h168 (aC G false 1 v168 h168))) fun v169 h169 =>
 aB (gd v167 true h169 (pu h169 (aQ Tryd.prog .lss 2 true v169 (.int .i64 0)))) fun v170 h170 =>
 aB (gd v167 true h170 (some (v170, h170))) fun v171 h171 =>
 aB (gd v171 false h171 (pu h171 (aA 5 (aH x166 0)))) fun v172 h172 =>
 aB (gd v171 false h172 (pu h172 (aC G false 1 v172 h172))) fun v173 h173 =>
 aB (gd v171 false h173 (some ((aH x166 2), h173))) fun v174 h174 =>
 aB (gd v171 false h174 (pu h174 (aQ Tryd.prog .gtr 2 false v173 v174))) fun v175 h175 =>
 aB (gd v167 true h175 (pu h175 (dM v171 (.bool true) v175))) fun v176 h176 =>
 aB (pu h176 (dM v167 v176 (.bool false))) fun v177 h177 =>
 aK v177
 (aB (pu h177 (aC G false 1 (.gl 1) h177)) fun v178 h178 =>
 bK [v178] h.length h178)
 (bK [.nili] h.length h177))
 (fun i166 => none)
 (bK [(aH x166 1)] h.length h166))
 (fun i128 => if i128 = 2 then (dO (
 aB (pu h128 (aA 0 (aH x128 1))) fun v179 h179 =>
 aB (pu h179 (aC G false 1 v179 h179)) fun v180 h180 =>
 dO (
 aB (pu h180 (aQ Tryd.prog .eql 3 true v180 (.int .i64 10))) fun v181 h181 =>
 aK v181
 (some (.normal, [(aH x128 0), (aH x128 1), (.int .i64 (-1)), v180, v181], h181))
 (aB (pu h181 (aQ Tryd.prog .eql 3 true v180 (.int .i64 11))) fun v182 h182 =>
 aK v182
 (some (.normal, [(aH x128 0), (aH x128 1), (.int .i64 (-1)), v180, v182], h182))
 (aB (pu h182 (aQ Tryd.prog .eql 3 true v180 (.int .i64 12))) fun v183 h183 =>
 some (.normal, [(aH x128 0), (aH x128 1), (.int .i64 (-1)), v180, v183], h183)))) fun e184 x184 h184 => jB e184
 (aK (aH x184 4)
 (some (.normal, [(aH x184 1), .undef, (.int .i64 63)], h184))
 (aB (pu h184 (aQ Tryd.prog .eql 3 true (aH x184 3) (.int .i64 20))) fun v185 h185 =>
 aK v185
 (some (.normal, [(aH x184 1), .undef, (.int .i64 2)], h185))
 (dO (
 aB (pu h185 (aQ Tryd.prog .eql 3 true (aH x184 3) (.int .i64 15))) fun v186 h186 =>
 aK v186
 (some (.normal, [(aH x184 0), (aH x184 1), (aH x184 2), (aH x184 3), v186], h186))
 (aB (pu h186 (aQ Tryd.prog .eql 3 true (aH x184 3) (.int .i64 16))) fun v187 h187 =>
 some (.normal, [(aH x184 0), (aH x184 1), (aH x184 2), (aH x184 3), v187], h187))) fun e188 x188 h188 => jB e188
 (aK (aH x188 4)
 (some (.normal, [(aH x188 1), .undef, (.int .i64 65535)], h188))
 (dO (
 aB (pu h188 (aQ Tryd.prog .eql 3 true (aH x188 3) (.int .i64 17))) fun v189 h189 =>
 aK v189
 (some (.normal, [(aH x188 0), (aH x188 1), (aH x188 2), v189], h189))
 (aB (pu h189 (aQ Tryd.prog .eql 3 true (aH x188 3) (.int .i64 18))) fun v190 h190 =>
 aK v190
 (some (.normal, [(aH x188 0), (aH x188 1), (aH x188 2), v190], h190))
 (aB (pu h190 (aQ Tryd.prog .eql 3 true (aH x188 3) (.int .i64 19))) fun v191 h191 =>
 some (.normal, [(aH x188 0), (aH x188 1), (aH x188 2), v191], h191)))) fun e192 x192 h192 => jB e192
 (aK (aH x192 3)
 (aB (pu h192 (aA 5 (aH x192 1))) fun v193 h193 =>
 aB (pu h193 (aC G false 1 v193 h193)) fun v194 h194 =>
 aB (pu h194 (aQ Tryd.prog .lss 2 true v194 (.int .i64 0))) fun v195 h195 =>
 aB (gd v195 false h195 (pu h195 (aA 5 (aH x192 1)))) fun v196 h196 =>
 aB (gd v195 false h196 (pu h196 (aC G false 1 v196 h196))) fun v197 h197 =>
 aB (gd v195 false h197 (pu h197 (aA 0 (aH x192 0)))) fun v198 h198 =>
 aB (gd v195 false h198 (pu h198 (aC G false 1 v198 h198))) fun v199 h199 =>
 aB (gd v195 false h199 (pu h199 (dV v199))) fun v200 h200 =>
 aB (gd v195 false h200 (pu h200 (aQ Tryd.prog .gtr 2 false v197 v200))) fun v201 h201 =>
 aB (pu h201 (dM v195 (.bool true) v201)) fun v202 h202 =>
 aK v202
 (aB (pu h202 (aC G false 1 (.gl 4) h202)) fun v203 h203 =>
 some (.ret, [(aH x192 1), v203, (aH x192 2)], h203))
 (some (.normal, [(aH x192 1), .undef, (aH x192 2)], h202)))
 (some (.normal, [(aH x192 1), .undef, (aH x192 2)], h192)))
 (fun i192 => if i192 = 4 then (some (.normal, [(aH x192 1), .undef, (aH x192 2)], h192)) else (some (.exit i192, [(aH x192 1), .undef, (aH x192 2)], h192)))
 (some (.ret, [(aH x192 1), .undef, (aH x192 2)], h192))))
 (fun i188 => if i188 = 4 then (some (.normal, [(aH x188 1), .undef, (aH x188 2)], h188)) else (some (.exit i188, [(aH x188 1), .undef, (aH x188 2)], h188)))
 (some (.ret, [(aH x188 1), .undef, (aH x188 2)], h188)))))
 (fun i184 => if i184 = 4 then (some (.normal, [(aH x184 1), .undef, (aH x184 2)], h184)) else (some (.exit i184, [(aH x184 1), .undef, (aH x184 2)], h184)))
 (some (.ret, [(aH x184 1), .undef, (aH x184 2)], h184))) fun e204 x204 h204 => jB e204
 (aB (pu h204 (aQ Tryd.prog .geq 2 true (aH x204 2) (.int .i64 0))) fun v205 h205 =>
 aB (gd v205 true h205 (pu h205 (aA 5 (aH x204 0)))) fun v206 h206 =>
 aB (gd v205 true h206 (pu h206 (aC G false 1 v206 h206))) fun v207 h207 =>
 aB (gd v205 true h207 (pu h207 (aQ Tryd.prog .lss 2 true v207 (.int .i64 0)))) fun v208 h208 =>
 aB (gd v205 true h208 (some (v208, h208))) fun v209 h209 =>
 aB (gd v209 false h209 (pu h209 (aA 5 (aH x204 0)))) fun v210 h210 =>
 aB (gd v209 false h210 (pu h210 (aC G false 1 v210 h210))) fun v211 h211 =>
 aB (gd v209 false h211 (some ((aH x204 2), h211))) fun v212 h212 =>
 aB (gd v209 false h212 (pu h212 (aQ Tryd.prog .gtr 2 false v211 v212))) fun v213 h213 =>
 aB (gd v205 true h213 (pu h213 (dM v209 (.bool true) v213))) fun v214 h214 =>
 aB (pu h214 (dM v205 v214 (.bool false))) fun v215 h215 =>
 aK v215
 (aB (pu h215 (aC G false 1 (.gl 1) h215)) fun v216 h216 =>
 bK [v216] h.length h216)
 (bK [.nili] h.length h215))
 (fun i204 => none)
 (bK [(aH x204 1)] h.length h204)) else (none))
 (bK [(aH x128 2)] h.length h128)) else (none))
 (bK [(aH x16 2)] h.length h16)))
noncomputable def dC.f (G : aI) : Nat → dE
 | 0 => fun _ _ => none
 | k + 1 => fun args h => nJ args fun x0 x1 => (dC.c G k (dC.f G k) x0 x1 h)
theorem dC.step (G : aI) (k : Nat) (x0 x1 : AV) (h : aF) : dC.f G (k + 1) [x0, x1] h = dC.c G k (dC.f G k) x0 x1 h := rfl
noncomputable def dF.ann : Ann := gG [] [] [(6, [1, 2, 33, 34, 35])] []
noncomputable def dF.env (G : aI) (k : Nat) (self : dE) : List (Nat × Bool × dE) := [(64, true, dC.f G k)]
noncomputable def dF.l6 (G : aI) (k n0 : Nat) (self : dE) (lp : iP) : iP := fun xs h0 => qJ n0 xs h0 fun h =>
 aB (pu h (aQ Tryd.prog .lss 3 false (aH xs 4) (aH xs 3))) fun v26 h26 =>
 aK v26
 (aB (pu h26 (cB 6 (aH xs 2) (aH xs 4))) fun v27 h27 =>
 aB (pu h27 (aC G true 6 v27 h27)) fun v28 h28 =>
 aB (eY 60 (.agg [(.int .i64 0), (.int .i64 0), (.int .i64 0), (.int .i64 0), (.int .i64 0), (.int .i64 0)]) h28) fun v29 h29 =>
 aB (eH (aO 6 v29 v28 h29)) fun v30 h30 =>
 aB (pu h30 (aC G true 3 (aH xs 0) h30)) fun v31 h31 =>
 aB (pu h31 (aC G true 6 v29 h31)) fun v32 h32 =>
 aB (aE (dC.f G k) [v31, v32] h32) fun v33 h33 =>
 aB (pu h33 (aQ Tryd.prog .neq 30 true v33 .nili)) fun v34 h34 =>
 aK v34
 (aB (pu h34 (aZ [(0, 1), (1, 1)] [(.int .i64 0), .nili] [(0, (aH xs 4)), (1, v33)])) fun v35 h35 =>
 aB (dH v35 h35) fun v36 h36 =>
 some (.ret, [(aH xs 0), (.iface 133 v36), (aH xs 2), (aH xs 3), (aH xs 4)], h36))
 (aB (pu h34 (aQ Tryd.prog .add 3 true (aH xs 4) (.int .i64 1))) fun v37 h37 =>
 lp [(aH xs 0), (aH xs 1), (aH xs 2), (aH xs 3), v37] h37))
 (some (.exit 1, [(aH xs 0), (aH xs 1), (aH xs 2), (aH xs 3), (aH xs 4)], h26))
noncomputable def dF.c (G : aI) (k : Nat) (self : dE) (x0 : AV) (h : aF) : Option (AV × aF) := fZ (
 aB (dH x0 h) fun v0 h0 =>
 aB (pu h0 (aA 0 v0)) fun v1 h1 =>
 aB (pu h1 (aC G false 1 v1 h1)) fun v2 h2 =>
 aB (pu h2 (dV v2)) fun v3 h3 =>
 aB (pu h3 (aQ Tryd.prog .gtr 3 true v3 (.int .i64 262144))) fun v4 h4 =>
 aK v4
 (aB (pu h4 (aC G false 1 (.gl 0) h4)) fun v5 h5 =>
 bK [v5] h.length h5)
 (aB (pu h4 (aA 1 v0)) fun v6 h6 =>
 aB (pu h6 (aC G false 1 v6 h6)) fun v7 h7 =>
 aB (pu h7 (aQ Tryd.prog .lss 3 true v7 (.int .i64 0))) fun v8 h8 =>
 aB (gd v8 false h8 (pu h8 (aA 1 v0))) fun v9 h9 =>
 aB (gd v8 false h9 (pu h9 (aC G false 1 v9 h9))) fun v10 h10 =>
 aB (gd v8 false h10 (pu h10 (aQ Tryd.prog .gtr 3 true v10 (.int .i64 65536)))) fun v11 h11 =>
 aB (pu h11 (dM v8 (.bool true) v11)) fun v12 h12 =>
 aB (gd v12 false h12 (pu h12 (aA 2 v0))) fun v13 h13 =>
 aB (gd v12 false h13 (pu h13 (aC G false 1 v13 h13))) fun v14 h14 =>
 aB (gd v12 false h14 (pu h14 (aQ Tryd.prog .lss 3 true v14 (.int .i64 0)))) fun v15 h15 =>
 aB (pu h15 (dM v12 (.bool true) v15)) fun v16 h16 =>
 aB (gd v16 false h16 (pu h16 (aA 2 v0))) fun v17 h17 =>
 aB (gd v16 false h17 (pu h17 (aC G false 1 v17 h17))) fun v18 h18 =>
 aB (gd v16 false h18 (pu h18 (aQ Tryd.prog .gtr 3 true v18 (.int .i64 65536)))) fun v19 h19 =>
 aB (pu h19 (dM v16 (.bool true) v19)) fun v20 h20 =>
 aK v20
 (aB (pu h20 (aC G false 1 (.gl 0) h20)) fun v21 h21 =>
 bK [v21] h.length h21)
 (aB (pu h20 (aA 0 v0)) fun v22 h22 =>
 aB (pu h22 (aC G false 1 v22 h22)) fun v23 h23 =>
 aB (pu h23 (dV v23)) fun v24 h24 =>
 dO (gH (dF.l6 G k h24.length self) k [v0, .nili, v23, v24, (.int .i64 0)] h24) fun e25 x25 h25 => jB e25
 (bK [.nili] h.length h25)
 (fun i25 => if i25 = 1 then (bK [.nili] h.length h25) else (none))
 (bK [(aH x25 1)] h.length h25))))
noncomputable def dF.f (G : aI) : Nat → dE
 | 0 => fun _ _ => none
 | k + 1 => fun args h => nX args fun x0 => (dF.c G k (dF.f G k) x0 h)
theorem dF.step (G : aI) (k : Nat) (x0 : AV) (h : aF) : dF.f G (k + 1) [x0] h = dF.c G k (dF.f G k) x0 h := rfl
noncomputable def cE.ann : Ann := gG [] [4, 5] [(3, [0, 1, 5, 9])] [(10, [0, 1, 5, 6, 7, 8, 9])]
noncomputable def cE.env (G : aI) (k : Nat) (self : dE) : List (Nat × Bool × dE) := []
noncomputable def cE.l3 (G : aI) (k n0 : Nat) (self : dE) (lp : iP) : iP := fun xs h0 => qJ n0 xs h0 fun h =>
 aB (pu h (aQ Tryd.prog .lss 3 true (aH xs 3) (.int .i64 4))) fun v3 h3 =>
 aK v3
 (aB (pu h3 (aJ .u64 (aH xs 1))) fun v4 h4 =>
 aB (pu h4 (aQ Tryd.prog .mul 3 true (.int .i64 16) (aH xs 3))) fun v5 h5 =>
 aB (pu h5 (aQ Tryd.prog .shr 43 false v4 v5)) fun v6 h6 =>
 aB (pu h6 (aQ Tryd.prog .and 43 true v6 (.int .u64 65535))) fun v7 h7 =>
 aB (pu h7 (aJ .i64 v7)) fun v8 h8 =>
 aB (pu h8 (aQ Tryd.prog .eql 3 true v8 (.int .i64 0))) fun v9 h9 =>
 aK v9
 (aB (pu h9 (aQ Tryd.prog .add 3 true (aH xs 3) (.int .i64 1))) fun v10 h10 =>
 lp [(aH xs 0), (aH xs 1), (aH xs 2), v10] h10)
 (dO (
 aB (pu h9 (dV (aH xs 2))) fun v11 h11 =>
 aB (pu h11 (aQ Tryd.prog .eql 3 true v11 (.int .i64 0))) fun v12 h12 =>
 aK v12
 (some (.normal, [(aH xs 0), (aH xs 1), (aH xs 2), (aH xs 3), v8, (.int .i64 1), (aH xs 3)], h12))
 (some (.normal, [(aH xs 0), (aH xs 1), (aH xs 2), (aH xs 3), v8, (.int .i64 2), (aH xs 3)], h12))) fun e13 x13 h13 => jB e13
 (aB (pu h13 (aZ [(0, 1), (1, 1), (2, 1), (3, 1), (4, 1), (5, 1)] [(.int .i64 0), (.int .i64 0), (.int .i64 0), (.int .i64 0), (.int .i64 0), (.int .i64 0)] [(0, (aH x13 5)), (1, (aH x13 0)), (4, (aH x13 3)), (5, (aH x13 4))])) fun v14 h14 =>
 aB (eP 6 1 (.agg [(.int .i64 0), (.int .i64 0), (.int .i64 0), (.int .i64 0), (.int .i64 0), (.int .i64 0)]) [(0, v14)] h14) fun v15 h15 =>
 aB (eQ 57 6 (aH x13 2) v15 h15) fun v16 h16 =>
 aB (pu h16 (aQ Tryd.prog .add 3 true (aH x13 6) (.int .i64 1))) fun v17 h17 =>
 lp [(aH x13 0), (aH x13 1), v16, v17] h17)
 (fun i13 => if i13 = 1 then (aB (pu h13 (aQ Tryd.prog .add 3 true (aH x13 6) (.int .i64 1))) fun v18 h18 =>
 lp [(aH x13 0), (aH x13 1), (aH x13 2), v18] h18) else (some (.exit i13, [(aH x13 0), (aH x13 1), (aH x13 2), (aH x13 6)], h13)))
 (some (.ret, [(aH x13 0), (aH x13 1), (aH x13 2), (aH x13 6)], h13))))
 (some (.exit 0, [(aH xs 0), (aH xs 1), (aH xs 2), (aH xs 3)], h3))
noncomputable def cE.c (G : aI) (k : Nat) (self : dE) (x0 x1 : AV) (h : aF) : Option (AV × aF) := fZ (
 aB (some (.sl h.length 0 0 0 6, h ++ [⟨57, 6, []⟩])) fun v0 h0 =>
 aB (some (.sl h0.length 0 0 0 6, h0 ++ [⟨57, 6, []⟩])) fun v1 h1 =>
 dO (gH (cE.l3 G k h1.length self) k [x0, x1, v1, (.int .i64 0)] h1) fun e2 x2 h2 => jB e2
 (aB (pu h2 (dV (aH x2 2))) fun v19 h19 =>
 aB (pu h19 (aQ Tryd.prog .eql 3 true v19 (.int .i64 0))) fun v20 h20 =>
 aK v20
 (aB (pu h20 (aZ [(0, 1), (1, 1), (2, 1), (3, 1), (4, 1), (5, 1)] [(.int .i64 0), (.int .i64 0), (.int .i64 0), (.int .i64 0), (.int .i64 0), (.int .i64 0)] [(0, (.int .i64 1)), (1, (aH x2 0))])) fun v21 h21 =>
 aB (eP 6 1 (.agg [(.int .i64 0), (.int .i64 0), (.int .i64 0), (.int .i64 0), (.int .i64 0), (.int .i64 0)]) [(0, v21)] h21) fun v22 h22 =>
 aB (eQ 57 6 (aH x2 2) v22 h22) fun v23 h23 =>
 aAv [v23] h23)
 (aAv [(aH x2 2)] h20))
 (fun i2 => if i2 = 0 then (aB (pu h2 (dV (aH x2 2))) fun v24 h24 =>
 aB (pu h24 (aQ Tryd.prog .eql 3 true v24 (.int .i64 0))) fun v25 h25 =>
 aK v25
 (aB (pu h25 (aZ [(0, 1), (1, 1), (2, 1), (3, 1), (4, 1), (5, 1)] [(.int .i64 0), (.int .i64 0), (.int .i64 0), (.int .i64 0), (.int .i64 0), (.int .i64 0)] [(0, (.int .i64 1)), (1, (aH x2 0))])) fun v26 h26 =>
 aB (eP 6 1 (.agg [(.int .i64 0), (.int .i64 0), (.int .i64 0), (.int .i64 0), (.int .i64 0), (.int .i64 0)]) [(0, v26)] h26) fun v27 h27 =>
 aB (eQ 57 6 (aH x2 2) v27 h27) fun v28 h28 =>
 aAv [v28] h28)
 (aAv [(aH x2 2)] h25)) else (none))
 (aAv [.undef] h2))
noncomputable def cE.f (G : aI) : Nat → dE
 | 0 => fun _ _ => none
 | k + 1 => fun args h => nJ args fun x0 x1 => (cE.c G k (cE.f G k) x0 x1 h)
theorem cE.step (G : aI) (k : Nat) (x0 x1 : AV) (h : aF) : cE.f G (k + 1) [x0, x1] h = cE.c G k (cE.f G k) x0 x1 h := rfl
noncomputable def bD.ann : Ann := gG [] [] [] []
noncomputable def bD.env (G : aI) (k : Nat) (self : dE) : List (Nat × Bool × dE) := []
noncomputable def bD.c (G : aI) (k : Nat) (self : dE) (x0 x1 : AV) (h : aF) : Option (AV × aF) := fZ (
 aB (pu h (kL x0)) fun v0 h0 =>
 aB (pu h0 (aA 0 v0)) fun v1 h1 =>
 aB (pu h1 (aC G false 1 v1 h1)) fun v2 h2 =>
 aB (eQ 57 6 v2 x1 h2) fun v3 h3 =>
 aB (pu h3 (kL x0)) fun v4 h4 =>
 aB (pu h4 (aA 0 v4)) fun v5 h5 =>
 aB (eH (aO 1 v5 v3 h5)) fun v6 h6 =>
 bK [] h.length h6)
noncomputable def bD.f (G : aI) : Nat → dE
 | 0 => fun _ _ => none
 | k + 1 => fun args h => nJ args fun x0 x1 => (bD.c G k (bD.f G k) x0 x1 h)
theorem bD.step (G : aI) (k : Nat) (x0 x1 : AV) (h : aF) : bD.f G (k + 1) [x0, x1] h = bD.c G k (bD.f G k) x0 x1 h := rfl
noncomputable def bL.ann : Ann := gG [15] [] [] []
noncomputable def bL.env (G : aI) (k : Nat) (self : dE) : List (Nat × Bool × dE) := [(65, false, bD.f G k)]
noncomputable def bL.c (G : aI) (k : Nat) (self : dE) (x0 x1 x2 : AV) (h : aF) : Option (AV × aF) := fZ (
 aB (dH x2 h) fun v0 h0 =>
 aB (pu h0 (aA 1 v0)) fun v1 h1 =>
 aB (pu h1 (aC G false 1 v1 h1)) fun v2 h2 =>
 aB (pu h2 (aA 2 v0)) fun v3 h3 =>
 aB (pu h3 (aC G false 1 v3 h3)) fun v4 h4 =>
 aB (pu h4 (aA 3 v0)) fun v5 h5 =>
 aB (pu h5 (aC G false 1 v5 h5)) fun v6 h6 =>
 aB (pu h6 (aZ [(0, 1), (1, 1), (2, 1), (3, 1), (4, 1), (5, 1)] [(.int .i64 0), (.int .i64 0), (.int .i64 0), (.int .i64 0), (.int .i64 0), (.int .i64 0)] [(0, x1), (1, v2), (2, v4), (3, v6)])) fun v7 h7 =>
 aB (fN 57 6 1 (.agg [(.int .i64 0), (.int .i64 0), (.int .i64 0), (.int .i64 0), (.int .i64 0), (.int .i64 0)]) [(0, v7)] h7) fun v8 h8 =>
 aB (bF (bD.f G k) [x0, v8] h8) fun v9 h9 =>
 bK [] h.length h9)
noncomputable def bL.f (G : aI) : Nat → dE
 | 0 => fun _ _ => none
 | k + 1 => fun args h => yE args fun x0 x1 x2 => (bL.c G k (bL.f G k) x0 x1 x2 h)
theorem bL.step (G : aI) (k : Nat) (x0 x1 x2 : AV) (h : aF) : bL.f G (k + 1) [x0, x1, x2] h = bL.c G k (bL.f G k) x0 x1 x2 h := rfl
noncomputable def cF.ann : Ann := gG [15] [] [] []
noncomputable def cF.env (G : aI) (k : Nat) (self : dE) : List (Nat × Bool × dE) := [(65, false, bD.f G k)]
noncomputable def cF.c (G : aI) (k : Nat) (self : dE) (x0 x1 x2 : AV) (h : aF) : Option (AV × aF) := fZ (
 aB (dH x2 h) fun v0 h0 =>
 aB (pu h0 (aA 1 v0)) fun v1 h1 =>
 aB (pu h1 (aC G false 1 v1 h1)) fun v2 h2 =>
 aB (pu h2 (aA 2 v0)) fun v3 h3 =>
 aB (pu h3 (aC G false 1 v3 h3)) fun v4 h4 =>
 aB (pu h4 (aA 5 v0)) fun v5 h5 =>
 aB (pu h5 (aC G false 1 v5 h5)) fun v6 h6 =>
 aB (pu h6 (aZ [(0, 1), (1, 1), (2, 1), (3, 1), (4, 1), (5, 1)] [(.int .i64 0), (.int .i64 0), (.int .i64 0), (.int .i64 0), (.int .i64 0), (.int .i64 0)] [(0, x1), (1, v2), (2, v4), (5, v6)])) fun v7 h7 =>
 aB (fN 57 6 1 (.agg [(.int .i64 0), (.int .i64 0), (.int .i64 0), (.int .i64 0), (.int .i64 0), (.int .i64 0)]) [(0, v7)] h7) fun v8 h8 =>
 aB (bF (bD.f G k) [x0, v8] h8) fun v9 h9 =>
 bK [] h.length h9)
noncomputable def cF.f (G : aI) : Nat → dE
 | 0 => fun _ _ => none
 | k + 1 => fun args h => yE args fun x0 x1 x2 => (cF.c G k (cF.f G k) x0 x1 x2 h)
theorem cF.step (G : aI) (k : Nat) (x0 x1 x2 : AV) (h : aF) : cF.f G (k + 1) [x0, x1, x2] h = cF.c G k (cF.f G k) x0 x1 x2 h := rfl
noncomputable def bX.ann : Ann := gG [24] [] [] []
noncomputable def bX.env (G : aI) (k : Nat) (self : dE) : List (Nat × Bool × dE) := [(65, false, bD.f G k)]
noncomputable def bX.c (G : aI) (k : Nat) (self : dE) (x0 x1 x2 : AV) (h : aF) : Option (AV × aF) := fZ (
 aB (dH x1 h) fun v0 h0 =>
 aB (pu h0 (kL x0)) fun v1 h1 =>
 aB (pu h1 (aA 2 v1)) fun v2 h2 =>
 aB (pu h2 (aC G false 1 v2 h2)) fun v3 h3 =>
 aB (pu h3 (kL x0)) fun v4 h4 =>
 aB (pu h4 (aA 0 v4)) fun v5 h5 =>
 aB (pu h5 (aC G false 1 v5 h5)) fun v6 h6 =>
 aB (pu h6 (dV v6)) fun v7 h7 =>
 aB (pu h7 (aZ [(0, 1), (1, 1)] [(.int .i64 0), (.int .i64 0)] [(0, v7), (1, x2)])) fun v8 h8 =>
 aB (eP 2 1 (.agg [(.int .i64 0), (.int .i64 0)]) [(0, v8)] h8) fun v9 h9 =>
 aB (eQ 93 2 v3 v9 h9) fun v10 h10 =>
 aB (pu h10 (kL x0)) fun v11 h11 =>
 aB (pu h11 (aA 2 v11)) fun v12 h12 =>
 aB (eH (aO 1 v12 v10 h12)) fun v13 h13 =>
 aB (pu h13 (aC G true 6 v0 h13)) fun v14 h14 =>
 aB (fN 57 6 1 (.agg [(.int .i64 0), (.int .i64 0), (.int .i64 0), (.int .i64 0), (.int .i64 0), (.int .i64 0)]) [(0, v14)] h14) fun v15 h15 =>
 aB (bF (bD.f G k) [x0, v15] h15) fun v16 h16 =>
 bK [] h.length h16)
noncomputable def bX.f (G : aI) : Nat → dE
 | 0 => fun _ _ => none
 | k + 1 => fun args h => yE args fun x0 x1 x2 => (bX.c G k (bX.f G k) x0 x1 x2 h)
theorem bX.step (G : aI) (k : Nat) (x0 x1 x2 : AV) (h : aF) : bX.f G (k + 1) [x0, x1, x2] h = bX.c G k (bX.f G k) x0 x1 x2 h := rfl
noncomputable def cO.ann : Ann := gG [19, 30, 34, 45] [] [] [(5, [0, 1, 2, 4])]
noncomputable def cO.env (G : aI) (k : Nat) (self : dE) : List (Nat × Bool × dE) := [(54, false, cE.f G k), (65, false, bD.f G k), (69, false, bX.f G k)]
noncomputable def cO.c (G : aI) (k : Nat) (self : dE) (x0 x1 x2 x3 x4 : AV) (h : aF) : Option (AV × aF) := fZ (
 aB (dH x3 h) fun v0 h0 =>
 dO (
 aB (pu h0 (aA 5 v0)) fun v1 h1 =>
 aB (pu h1 (aC G false 1 v1 h1)) fun v2 h2 =>
 aB (pu h2 (aQ Tryd.prog .leq 2 true v2 (.int .i64 4095))) fun v3 h3 =>
 aK v3
 (aB (pu h3 (aA 2 v0)) fun v4 h4 =>
 aB (pu h4 (aC G false 1 v4 h4)) fun v5 h5 =>
 aB (pu h5 (aA 5 v0)) fun v6 h6 =>
 aB (pu h6 (aC G false 1 v6 h6)) fun v7 h7 =>
 aB (pu h7 (aZ [(0, 1), (1, 1), (2, 1), (3, 1), (4, 1), (5, 1)] [(.int .i64 0), (.int .i64 0), (.int .i64 0), (.int .i64 0), (.int .i64 0), (.int .i64 0)] [(0, (.int .i64 10)), (1, (.int .i64 28)), (2, v5), (5, v7)])) fun v8 h8 =>
 aB (fN 57 6 1 (.agg [(.int .i64 0), (.int .i64 0), (.int .i64 0), (.int .i64 0), (.int .i64 0), (.int .i64 0)]) [(0, v8)] h8) fun v9 h9 =>
 aB (bF (bD.f G k) [x0, v9] h9) fun v10 h10 =>
 some (.normal, [x0, x1, x2, x4], h10))
 (aB (pu h3 (aA 5 v0)) fun v11 h11 =>
 aB (pu h11 (aC G false 1 v11 h11)) fun v12 h12 =>
 aB (bF (cE.f G k) [(.int .i64 28), v12] h12) fun v13 h13 =>
 aB (bF (bD.f G k) [x0, v13] h13) fun v14 h14 =>
 aB (pu h14 (aA 2 v0)) fun v15 h15 =>
 aB (pu h15 (aC G false 1 v15 h15)) fun v16 h16 =>
 aB (pu h16 (aZ [(0, 1), (1, 1), (2, 1), (3, 1), (4, 1), (5, 1)] [(.int .i64 0), (.int .i64 0), (.int .i64 0), (.int .i64 0), (.int .i64 0), (.int .i64 0)] [(0, (.int .i64 3)), (1, (.int .i64 28)), (2, v16), (3, (.int .i64 28))])) fun v17 h17 =>
 aB (fN 57 6 1 (.agg [(.int .i64 0), (.int .i64 0), (.int .i64 0), (.int .i64 0), (.int .i64 0), (.int .i64 0)]) [(0, v17)] h17) fun v18 h18 =>
 aB (bF (bD.f G k) [x0, v18] h18) fun v19 h19 =>
 some (.normal, [x0, x1, x2, x4], h19))) fun e20 x20 h20 => jB e20
 (aB (pu h20 (aZ [(0, 1), (1, 1), (2, 1), (3, 1), (4, 1), (5, 1)] [(.int .i64 0), (.int .i64 0), (.int .i64 0), (.int .i64 0), (.int .i64 0), (.int .i64 0)] [(0, (.int .i64 13)), (1, (.int .i64 29)), (2, (.int .i64 28)), (5, (.int .i64 16))])) fun v21 h21 =>
 aB (fN 57 6 1 (.agg [(.int .i64 0), (.int .i64 0), (.int .i64 0), (.int .i64 0), (.int .i64 0), (.int .i64 0)]) [(0, v21)] h21) fun v22 h22 =>
 aB (bF (bD.f G k) [(aH x20 0), v22] h22) fun v23 h23 =>
 aB (pu h23 (aZ [(0, 1), (1, 1), (2, 1), (3, 1), (4, 1), (5, 1)] [(.int .i64 0), (.int .i64 0), (.int .i64 0), (.int .i64 0), (.int .i64 0), (.int .i64 0)] [(0, (.int .i64 23)), (1, (.int .i64 29))])) fun v24 h24 =>
 aB (bF (bX.f G k) [(aH x20 0), v24, (aH x20 3)] h24) fun v25 h25 =>
 aB (pu h25 (aZ [(0, 1), (1, 1), (2, 1), (3, 1), (4, 1), (5, 1)] [(.int .i64 0), (.int .i64 0), (.int .i64 0), (.int .i64 0), (.int .i64 0), (.int .i64 0)] [(0, (.int .i64 12)), (1, (.int .i64 28)), (2, (.int .i64 28)), (5, (.int .i64 3))])) fun v26 h26 =>
 aB (pu h26 (aZ [(0, 1), (1, 1), (2, 1), (3, 1), (4, 1), (5, 1)] [(.int .i64 0), (.int .i64 0), (.int .i64 0), (.int .i64 0), (.int .i64 0), (.int .i64 0)] [(0, (aH x20 1)), (1, (aH x20 2)), (2, (.int .i64 28))])) fun v27 h27 =>
 aB (fN 57 6 2 (.agg [(.int .i64 0), (.int .i64 0), (.int .i64 0), (.int .i64 0), (.int .i64 0), (.int .i64 0)]) [(0, v26), (1, v27)] h27) fun v28 h28 =>
 aB (bF (bD.f G k) [(aH x20 0), v28] h28) fun v29 h29 =>
 bK [] h.length h29)
 (fun i20 => none)
 (bK [] h.length h20))
noncomputable def cO.f (G : aI) : Nat → dE
 | 0 => fun _ _ => none
 | k + 1 => fun args h => aLi args fun x0 x1 x2 x3 x4 => (cO.c G k (cO.f G k) x0 x1 x2 x3 x4 h)
theorem cO.step (G : aI) (k : Nat) (x0 x1 x2 x3 x4 : AV) (h : aF) : cO.f G (k + 1) [x0, x1, x2, x3, x4] h = cO.c G k (cO.f G k) x0 x1 x2 x3 x4 h := rfl
noncomputable def aR.ann : Ann := gG [25, 47, 95, 110, 159] [] [] []
noncomputable def aR.env (G : aI) (k : Nat) (self : dE) : List (Nat × Bool × dE) := [(54, false, cE.f G k), (65, false, bD.f G k), (66, false, bL.f G k), (67, false, cF.f G k), (68, false, cO.f G k), (69, false, bX.f G k)]
noncomputable def aR.c (G : aI) (k : Nat) (self : dE) (x0 x1 x2 : AV) (h : aF) : Option (AV × aF) := fZ (
 aB (dH x1 h) fun v0 h0 =>
 aB (pu h0 (aA 0 v0)) fun v1 h1 =>
 aB (pu h1 (aC G false 1 v1 h1)) fun v2 h2 =>
 aB (pu h2 (aQ Tryd.prog .eql 3 true v2 (.int .i64 1))) fun v3 h3 =>
 aK v3
 (aB (pu h3 (aA 1 v0)) fun v4 h4 =>
 aB (pu h4 (aC G false 1 v4 h4)) fun v5 h5 =>
 aB (pu h5 (aA 5 v0)) fun v6 h6 =>
 aB (pu h6 (aC G false 1 v6 h6)) fun v7 h7 =>
 aB (bF (cE.f G k) [v5, v7] h7) fun v8 h8 =>
 aB (bF (bD.f G k) [x0, v8] h8) fun v9 h9 =>
 bK [] h.length h9)
 (aB (pu h3 (aQ Tryd.prog .eql 3 true v2 (.int .i64 2))) fun v10 h10 =>
 aK v10
 (aB (pu h10 (aA 1 v0)) fun v11 h11 =>
 aB (pu h11 (aC G false 1 v11 h11)) fun v12 h12 =>
 aB (pu h12 (aA 2 v0)) fun v13 h13 =>
 aB (pu h13 (aC G false 1 v13 h13)) fun v14 h14 =>
 aB (pu h14 (aZ [(0, 1), (1, 1), (2, 1), (3, 1), (4, 1), (5, 1)] [(.int .i64 0), (.int .i64 0), (.int .i64 0), (.int .i64 0), (.int .i64 0), (.int .i64 0)] [(0, (.int .i64 6)), (1, v12), (2, v14), (3, (.int .i64 31))])) fun v15 h15 =>
 aB (fN 57 6 1 (.agg [(.int .i64 0), (.int .i64 0), (.int .i64 0), (.int .i64 0), (.int .i64 0), (.int .i64 0)]) [(0, v15)] h15) fun v16 h16 =>
 aB (bF (bD.f G k) [x0, v16] h16) fun v17 h17 =>
 bK [] h.length h17)
 (aB (pu h10 (aQ Tryd.prog .eql 3 true v2 (.int .i64 3))) fun v18 h18 =>
 aK v18
 (aB (pu h18 (aC G true 6 v0 h18)) fun v19 h19 =>
 aB (bF (bL.f G k) [x0, (.int .i64 3), v19] h19) fun v20 h20 =>
 bK [] h.length h20)
 (aB (pu h18 (aQ Tryd.prog .eql 3 true v2 (.int .i64 4))) fun v21 h21 =>
 aK v21
 (aB (pu h21 (aC G true 6 v0 h21)) fun v22 h22 =>
 aB (bF (bL.f G k) [x0, (.int .i64 4), v22] h22) fun v23 h23 =>
 bK [] h.length h23)
 (aB (pu h21 (aQ Tryd.prog .eql 3 true v2 (.int .i64 5))) fun v24 h24 =>
 aK v24
 (aB (pu h24 (aA 1 v0)) fun v25 h25 =>
 aB (pu h25 (aC G false 1 v25 h25)) fun v26 h26 =>
 aB (pu h26 (aA 2 v0)) fun v27 h27 =>
 aB (pu h27 (aC G false 1 v27 h27)) fun v28 h28 =>
 aB (pu h28 (aA 3 v0)) fun v29 h29 =>
 aB (pu h29 (aC G false 1 v29 h29)) fun v30 h30 =>
 aB (pu h30 (aZ [(0, 1), (1, 1), (2, 1), (3, 1), (4, 1), (5, 1)] [(.int .i64 0), (.int .i64 0), (.int .i64 0), (.int .i64 0), (.int .i64 0), (.int .i64 0)] [(0, (.int .i64 8)), (1, v26), (2, v28), (3, v30), (4, (.int .i64 31))])) fun v31 h31 =>
 aB (fN 57 6 1 (.agg [(.int .i64 0), (.int .i64 0), (.int .i64 0), (.int .i64 0), (.int .i64 0), (.int .i64 0)]) [(0, v31)] h31) fun v32 h32 =>
 aB (bF (bD.f G k) [x0, v32] h32) fun v33 h33 =>
 bK [] h.length h33)
 (aB (pu h24 (aQ Tryd.prog .eql 3 true v2 (.int .i64 6))) fun v34 h34 =>
 aK v34
 (aB (pu h34 (aC G true 6 v0 h34)) fun v35 h35 =>
 aB (bF (bL.f G k) [x0, (.int .i64 9), v35] h35) fun v36 h36 =>
 bK [] h.length h36)
 (aB (pu h34 (aQ Tryd.prog .eql 3 true v2 (.int .i64 7))) fun v37 h37 =>
 aK v37
 (aB (pu h37 (aC G true 6 v0 h37)) fun v38 h38 =>
 aB (bF (bL.f G k) [x0, (.int .i64 5), v38] h38) fun v39 h39 =>
 bK [] h.length h39)
 (aB (pu h37 (aQ Tryd.prog .eql 3 true v2 (.int .i64 8))) fun v40 h40 =>
 aK v40
 (aB (pu h40 (aC G true 6 v0 h40)) fun v41 h41 =>
 aB (bF (bL.f G k) [x0, (.int .i64 6), v41] h41) fun v42 h42 =>
 bK [] h.length h42)
 (aB (pu h40 (aQ Tryd.prog .eql 3 true v2 (.int .i64 9))) fun v43 h43 =>
 aK v43
 (aB (pu h43 (aC G true 6 v0 h43)) fun v44 h44 =>
 aB (bF (bL.f G k) [x0, (.int .i64 7), v44] h44) fun v45 h45 =>
 bK [] h.length h45)
 (aB (pu h43 (aQ Tryd.prog .eql 3 true v2 (.int .i64 10))) fun v46 h46 =>
 aK v46
 (aB (pu h46 (aC G true 6 v0 h46)) fun v47 h47 =>
 aB (bF (cF.f G k) [x0, (.int .i64 12), v47] h47) fun v48 h48 =>
 bK [] h.length h48)
 (aB (pu h46 (aQ Tryd.prog .eql 3 true v2 (.int .i64 11))) fun v49 h49 =>
 aK v49
 (aB (pu h49 (aC G true 6 v0 h49)) fun v50 h50 =>
 aB (bF (cF.f G k) [x0, (.int .i64 13), v50] h50) fun v51 h51 =>
 bK [] h.length h51)
 (aB (pu h49 (aQ Tryd.prog .eql 3 true v2 (.int .i64 12))) fun v52 h52 =>
 aK v52
 (aB (pu h52 (aC G true 6 v0 h52)) fun v53 h53 =>
 aB (bF (cF.f G k) [x0, (.int .i64 14), v53] h53) fun v54 h54 =>
 bK [] h.length h54)
 (aB (pu h52 (aQ Tryd.prog .eql 3 true v2 (.int .i64 13))) fun v55 h55 =>
 aK v55
 (aB (pu h55 (aA 2 v0)) fun v56 h56 =>
 aB (pu h56 (aC G false 1 v56 h56)) fun v57 h57 =>
 aB (pu h57 (aA 3 v0)) fun v58 h58 =>
 aB (pu h58 (aC G false 1 v58 h58)) fun v59 h59 =>
 aB (pu h59 (aZ [(0, 1), (1, 1), (2, 1), (3, 1), (4, 1), (5, 1)] [(.int .i64 0), (.int .i64 0), (.int .i64 0), (.int .i64 0), (.int .i64 0), (.int .i64 0)] [(0, (.int .i64 15)), (2, v57), (3, v59)])) fun v60 h60 =>
 aB (pu h60 (aA 1 v0)) fun v61 h61 =>
 aB (pu h61 (aC G false 1 v61 h61)) fun v62 h62 =>
 aB (pu h62 (aZ [(0, 1), (1, 1), (2, 1), (3, 1), (4, 1), (5, 1)] [(.int .i64 0), (.int .i64 0), (.int .i64 0), (.int .i64 0), (.int .i64 0), (.int .i64 0)] [(0, (.int .i64 17)), (1, v62), (4, (.int .i64 3))])) fun v63 h63 =>
 aB (fN 57 6 2 (.agg [(.int .i64 0), (.int .i64 0), (.int .i64 0), (.int .i64 0), (.int .i64 0), (.int .i64 0)]) [(0, v60), (1, v63)] h63) fun v64 h64 =>
 aB (bF (bD.f G k) [x0, v64] h64) fun v65 h65 =>
 bK [] h.length h65)
 (aB (pu h55 (aQ Tryd.prog .eql 3 true v2 (.int .i64 14))) fun v66 h66 =>
 aK v66
 (aB (pu h66 (aA 2 v0)) fun v67 h67 =>
 aB (pu h67 (aC G false 1 v67 h67)) fun v68 h68 =>
 aB (pu h68 (aZ [(0, 1), (1, 1), (2, 1), (3, 1), (4, 1), (5, 1)] [(.int .i64 0), (.int .i64 0), (.int .i64 0), (.int .i64 0), (.int .i64 0), (.int .i64 0)] [(0, (.int .i64 15)), (2, v68), (3, (.int .i64 31))])) fun v69 h69 =>
 aB (pu h69 (aA 1 v0)) fun v70 h70 =>
 aB (pu h70 (aC G false 1 v70 h70)) fun v71 h71 =>
 aB (pu h71 (aA 3 v0)) fun v72 h72 =>
 aB (pu h72 (aC G false 1 v72 h72)) fun v73 h73 =>
 aB (pu h73 (aA 4 v0)) fun v74 h74 =>
 aB (pu h74 (aC G false 1 v74 h74)) fun v75 h75 =>
 aB (pu h75 (aZ [(0, 1), (1, 1), (2, 1), (3, 1), (4, 1), (5, 1)] [(.int .i64 0), (.int .i64 0), (.int .i64 0), (.int .i64 0), (.int .i64 0), (.int .i64 0)] [(0, (.int .i64 16)), (1, v71), (2, v73), (3, v75), (4, (.int .i64 1))])) fun v76 h76 =>
 aB (fN 57 6 2 (.agg [(.int .i64 0), (.int .i64 0), (.int .i64 0), (.int .i64 0), (.int .i64 0), (.int .i64 0)]) [(0, v69), (1, v76)] h76) fun v77 h77 =>
 aB (bF (bD.f G k) [x0, v77] h77) fun v78 h78 =>
 bK [] h.length h78)
 (aB (pu h66 (aQ Tryd.prog .eql 3 true v2 (.int .i64 15))) fun v79 h79 =>
 aK v79
 (aB (pu h79 (aA 1 v0)) fun v80 h80 =>
 aB (pu h80 (aC G false 1 v80 h80)) fun v81 h81 =>
 aB (pu h81 (aC G true 6 v0 h81)) fun v82 h82 =>
 aB (bF (cO.f G k) [x0, (.int .i64 18), v81, v82, x2] h82) fun v83 h83 =>
 bK [] h.length h83)
 (aB (pu h79 (aQ Tryd.prog .eql 3 true v2 (.int .i64 16))) fun v84 h84 =>
 aK v84
 (aB (pu h84 (aA 3 v0)) fun v85 h85 =>
 aB (pu h85 (aC G false 1 v85 h85)) fun v86 h86 =>
 aB (pu h86 (aC G true 6 v0 h86)) fun v87 h87 =>
 aB (bF (cO.f G k) [x0, (.int .i64 19), v86, v87, x2] h87) fun v88 h88 =>
 bK [] h.length h88)
 (aB (pu h84 (aQ Tryd.prog .eql 3 true v2 (.int .i64 17))) fun v89 h89 =>
 aK v89
 (aB (pu h89 (aZ [(0, 1), (1, 1), (2, 1), (3, 1), (4, 1), (5, 1)] [(.int .i64 0), (.int .i64 0), (.int .i64 0), (.int .i64 0), (.int .i64 0), (.int .i64 0)] [(0, (.int .i64 20))])) fun v90 h90 =>
 aB (pu h90 (aA 5 v0)) fun v91 h91 =>
 aB (pu h91 (aC G false 1 v91 h91)) fun v92 h92 =>
 aB (bF (bX.f G k) [x0, v90, v92] h92) fun v93 h93 =>
 bK [] h.length h93)
 (aB (pu h89 (aQ Tryd.prog .eql 3 true v2 (.int .i64 18))) fun v94 h94 =>
 aK v94
 (aB (pu h94 (aA 2 v0)) fun v95 h95 =>
 aB (pu h95 (aC G false 1 v95 h95)) fun v96 h96 =>
 aB (pu h96 (aZ [(0, 1), (1, 1), (2, 1), (3, 1), (4, 1), (5, 1)] [(.int .i64 0), (.int .i64 0), (.int .i64 0), (.int .i64 0), (.int .i64 0), (.int .i64 0)] [(0, (.int .i64 22)), (1, v96)])) fun v97 h97 =>
 aB (pu h97 (aA 5 v0)) fun v98 h98 =>
 aB (pu h98 (aC G false 1 v98 h98)) fun v99 h99 =>
 aB (bF (bX.f G k) [x0, v97, v99] h99) fun v100 h100 =>
 bK [] h.length h100)
 (aB (pu h94 (aQ Tryd.prog .eql 3 true v2 (.int .i64 19))) fun v101 h101 =>
 aK v101
 (aB (pu h101 (aA 2 v0)) fun v102 h102 =>
 aB (pu h102 (aC G false 1 v102 h102)) fun v103 h103 =>
 aB (pu h103 (aZ [(0, 1), (1, 1), (2, 1), (3, 1), (4, 1), (5, 1)] [(.int .i64 0), (.int .i64 0), (.int .i64 0), (.int .i64 0), (.int .i64 0), (.int .i64 0)] [(0, (.int .i64 23)), (1, v103)])) fun v104 h104 =>
 aB (pu h104 (aA 5 v0)) fun v105 h105 =>
 aB (pu h105 (aC G false 1 v105 h105)) fun v106 h106 =>
 aB (bF (bX.f G k) [x0, v104, v106] h106) fun v107 h107 =>
 bK [] h.length h107)
 (aB (pu h101 (aQ Tryd.prog .eql 3 true v2 (.int .i64 20))) fun v108 h108 =>
 aK v108
 (aB (pu h108 (aA 5 v0)) fun v109 h109 =>
 aB (pu h109 (aC G false 1 v109 h109)) fun v110 h110 =>
 aB (pu h110 (aZ [(0, 1), (1, 1), (2, 1), (3, 1), (4, 1), (5, 1)] [(.int .i64 0), (.int .i64 0), (.int .i64 0), (.int .i64 0), (.int .i64 0), (.int .i64 0)] [(0, (.int .i64 24)), (5, v110)])) fun v111 h111 =>
 aB (fN 57 6 1 (.agg [(.int .i64 0), (.int .i64 0), (.int .i64 0), (.int .i64 0), (.int .i64 0), (.int .i64 0)]) [(0, v111)] h111) fun v112 h112 =>
 aB (bF (bD.f G k) [x0, v112] h112) fun v113 h113 =>
 bK [] h.length h113)
 (bK [] h.length h108)))))))))))))))))))))
noncomputable def aR.f (G : aI) : Nat → dE
 | 0 => fun _ _ => none
 | k + 1 => fun args h => yE args fun x0 x1 x2 => (aR.c G k (aR.f G k) x0 x1 x2 h)
theorem aR.step (G : aI) (k : Nat) (x0 x1 x2 : AV) (h : aF) : aR.f G (k + 1) [x0, x1, x2] h = aR.c G k (aR.f G k) x0 x1 x2 h := rfl
noncomputable def bU.ann : Ann := aEr [25] [2, 10] [(23, [2, 3, 10, 107, 108, 109]), (15, [5, 71, 72, 73]), (8, [1, 5, 27, 28, 29])] [] [(8, [(5, 0, 57, 6), (5, 1, 3, 1), (5, 2, 93, 2)]), (15, [(5, 0, 57, 6), (5, 1, 3, 1), (5, 2, 93, 2)])] []
noncomputable def bU.env (G : aI) (k : Nat) (self : dE) : List (Nat × Bool × dE) := [(38, true, dF.f G k), (39, false, aR.f G k), (40, true, bA.f G k)]
noncomputable def bU.l8 (G : aI) (k n0 : Nat) (self : dE) (lp : iP) : iP := fun xs h0 => qJ n0 xs h0 fun h =>
 aB (pu h (aQ Tryd.prog .lss 3 false (aH xs 4) (aH xs 3))) fun v17 h17 =>
 aK v17
 (aB (pu h17 (cB 6 (aH xs 2) (aH xs 4))) fun v18 h18 =>
 aB (pu h18 (aC G true 6 v18 h18)) fun v19 h19 =>
 aB (eY 60 (.agg [(.int .i64 0), (.int .i64 0), (.int .i64 0), (.int .i64 0), (.int .i64 0), (.int .i64 0)]) h19) fun v20 h20 =>
 aB (eH (aO 6 v20 v19 h20)) fun v21 h21 =>
 aB (pu h21 (kL (aH xs 1))) fun v22 h22 =>
 aB (pu h22 (aA 1 v22)) fun v23 h23 =>
 aB (pu h23 (aC G false 1 v23 h23)) fun v24 h24 =>
 aB (pu h24 (kL (aH xs 1))) fun v25 h25 =>
 aB (pu h25 (aA 0 v25)) fun v26 h26 =>
 aB (pu h26 (aC G false 1 v26 h26)) fun v27 h27 =>
 aB (pu h27 (dV v27)) fun v28 h28 =>
 aB (eP 1 1 (.int .i64 0) [(0, v28)] h28) fun v29 h29 =>
 aB (eQ 3 1 v24 v29 h29) fun v30 h30 =>
 aB (pu h30 (kL (aH xs 1))) fun v31 h31 =>
 aB (pu h31 (aA 1 v31)) fun v32 h32 =>
 aB (eH (aO 1 v32 v30 h32)) fun v33 h33 =>
 aB (pu h33 (aC G true 6 v20 h33)) fun v34 h34 =>
 aB (pu h34 (aA 0 (aH xs 0))) fun v35 h35 =>
 aB (pu h35 (aC G false 1 v35 h35)) fun v36 h36 =>
 aB (pu h36 (dV v36)) fun v37 h37 =>
 aB (bF (aR.f G k) [(aH xs 1), v34, v37] h37) fun v38 h38 =>
 aB (pu h38 (aQ Tryd.prog .add 3 true (aH xs 4) (.int .i64 1))) fun v39 h39 =>
 lp [(aH xs 0), (aH xs 1), (aH xs 2), (aH xs 3), v39] h39)
 (some (.exit 0, [(aH xs 0), (aH xs 1), (aH xs 2), (aH xs 3), (aH xs 4)], h17))
noncomputable def bU.l15 (G : aI) (k n0 : Nat) (self : dE) (lp : iP) : iP := fun xs h0 => qJ n0 xs h0 fun h =>
 aB (pu h (aQ Tryd.prog .lss 3 false (aH xs 3) (aH xs 2))) fun v57 h57 =>
 aK v57
 (aB (pu h57 (cB 2 (aH xs 1) (aH xs 3))) fun v58 h58 =>
 aB (pu h58 (aC G true 2 v58 h58)) fun v59 h59 =>
 aB (eY 93 (.agg [(.int .i64 0), (.int .i64 0)]) h59) fun v60 h60 =>
 aB (eH (aO 2 v60 v59 h60)) fun v61 h61 =>
 aB (pu h61 (kL (aH xs 0))) fun v62 h62 =>
 aB (pu h62 (aA 0 v62)) fun v63 h63 =>
 aB (pu h63 (aC G false 1 v63 h63)) fun v64 h64 =>
 aB (pu h64 (aA 0 v60)) fun v65 h65 =>
 aB (pu h65 (aC G false 1 v65 h65)) fun v66 h66 =>
 aB (pu h66 (kL (aH xs 0))) fun v67 h67 =>
 aB (pu h67 (aA 1 v67)) fun v68 h68 =>
 aB (pu h68 (aC G false 1 v68 h68)) fun v69 h69 =>
 aB (pu h69 (aA 1 v60)) fun v70 h70 =>
 aB (pu h70 (aC G false 1 v70 h70)) fun v71 h71 =>
 aB (pu h71 (cB 1 v69 v71)) fun v72 h72 =>
 aB (pu h72 (aC G false 1 v72 h72)) fun v73 h73 =>
 aB (pu h73 (aA 0 v60)) fun v74 h74 =>
 aB (pu h74 (aC G false 1 v74 h74)) fun v75 h75 =>
 aB (pu h75 (aQ Tryd.prog .sub 3 false v73 v75)) fun v76 h76 =>
 aB (pu h76 (cB 6 v64 v66)) fun v77 h77 =>
 aB (pu h77 (aA 5 v77)) fun v78 h78 =>
 aB (eH (aO 1 v78 v76 h78)) fun v79 h79 =>
 aB (pu h79 (aQ Tryd.prog .add 3 true (aH xs 3) (.int .i64 1))) fun v80 h80 =>
 lp [(aH xs 0), (aH xs 1), (aH xs 2), v80] h80)
 (some (.exit 2, [(aH xs 0), (aH xs 1), (aH xs 2), (aH xs 3)], h57))
noncomputable def bU.l23 (G : aI) (k n0 : Nat) (self : dE) (lp : iP) : iP := fun xs h0 => qJ n0 xs h0 fun h =>
 aB (pu h (aQ Tryd.prog .lss 3 false (aH xs 5) (aH xs 4))) fun v94 h94 =>
 aK v94
 (aB (pu h94 (cB 6 (aH xs 3) (aH xs 5))) fun v95 h95 =>
 aB (pu h95 (aC G true 6 v95 h95)) fun v96 h96 =>
 aB (eY 57 (.agg [(.int .i64 0), (.int .i64 0), (.int .i64 0), (.int .i64 0), (.int .i64 0), (.int .i64 0)]) h96) fun v97 h97 =>
 aB (eH (aO 6 v97 v96 h97)) fun v98 h98 =>
 aB (pu h98 (aC G true 6 v97 h98)) fun v99 h99 =>
 aB (aE (bA.f G k) [v99] h99) fun v100 h100 =>
 aB (pu h100 (cL v100 0)) fun v101 h101 =>
 aB (pu h101 (cL v100 1)) fun v102 h102 =>
 aB (pu h102 (un .not v102)) fun v103 h103 =>
 aK v103
 (aB (pu h103 (aC G false 1 (.gl 0) h103)) fun v104 h104 =>
 aB (some (.sl h104.length 0 0 0 1, h104 ++ [⟨71, 1, []⟩])) fun v105 h105 =>
 some (.ret, [v105, v104, (aH xs 2), (aH xs 3), (aH xs 4), (aH xs 5)], h105))
 (aB (eP 1 1 (.int .u32 0) [(0, v101)] h103) fun v106 h106 =>
 aB (eQ 71 1 (aH xs 2) v106 h106) fun v107 h107 =>
 aB (pu h107 (aQ Tryd.prog .add 3 true (aH xs 5) (.int .i64 1))) fun v108 h108 =>
 lp [(aH xs 0), (aH xs 1), v107, (aH xs 3), (aH xs 4), v108] h108))
 (some (.exit 4, [(aH xs 0), (aH xs 1), (aH xs 2), (aH xs 3), (aH xs 4), (aH xs 5)], h94))
noncomputable def bU.c (G : aI) (k : Nat) (self : dE) (x0 : AV) (h : aF) : Option (AV × aF) := fZ (
 aB (dH x0 h) fun v0 h0 =>
 aB (some (.sl h0.length 0 0 0 1, h0 ++ [⟨71, 1, []⟩])) fun v1 h1 =>
 aB (pu h1 (aC G true 3 v0 h1)) fun v2 h2 =>
 aB (aE (dF.f G k) [v2] h2) fun v3 h3 =>
 aB (pu h3 (aQ Tryd.prog .neq 30 true v3 .nili)) fun v4 h4 =>
 aK v4
 (aB (some (.sl h4.length 0 0 0 1, h4 ++ [⟨71, 1, []⟩])) fun v5 h5 =>
 bK [v5, v3] h.length h5)
 (aB (pu h4 (aA 1 v0)) fun v6 h6 =>
 aB (pu h6 (aC G false 1 v6 h6)) fun v7 h7 =>
 aB (pu h7 (aQ Tryd.prog .gtr 3 true v7 (.int .i64 28))) fun v8 h8 =>
 aK v8
 (aB (pu h8 (aC G false 1 (.gl 0) h8)) fun v9 h9 =>
 aB (some (.sl h9.length 0 0 0 1, h9 ++ [⟨71, 1, []⟩])) fun v10 h10 =>
 bK [v10, v9] h.length h10)
 (aB (pu h8 (aZ [(0, 1), (1, 1), (2, 1)] [.nils, .nils, .nils] [])) fun v11 h11 =>
 aB (eY 90 v11 h11) fun v12 h12 =>
 aB (pu h12 (aA 0 v0)) fun v13 h13 =>
 aB (pu h13 (aC G false 1 v13 h13)) fun v14 h14 =>
 aB (pu h14 (dV v14)) fun v15 h15 =>
 vK [(v12, 0, 57, 6), (v12, 1, 3, 1), (v12, 2, 93, 2)] h15 fun hv16 =>
 dO (gH (bU.l8 G k hv16.length self) k [v0, v12, v14, v15, (.int .i64 0)] hv16) fun e16 x16 h16 => jB e16
 (aB (pu h16 (kL (aH x16 1))) fun v40 h40 =>
 aB (pu h40 (aA 1 v40)) fun v41 h41 =>
 aB (pu h41 (aC G false 1 v41 h41)) fun v42 h42 =>
 aB (pu h42 (kL (aH x16 1))) fun v43 h43 =>
 aB (pu h43 (aA 0 v43)) fun v44 h44 =>
 aB (pu h44 (aC G false 1 v44 h44)) fun v45 h45 =>
 aB (pu h45 (dV v45)) fun v46 h46 =>
 aB (eP 1 1 (.int .i64 0) [(0, v46)] h46) fun v47 h47 =>
 aB (eQ 3 1 v42 v47 h47) fun v48 h48 =>
 aB (pu h48 (kL (aH x16 1))) fun v49 h49 =>
 aB (pu h49 (aA 1 v49)) fun v50 h50 =>
 aB (eH (aO 1 v50 v48 h50)) fun v51 h51 =>
 aB (pu h51 (kL (aH x16 1))) fun v52 h52 =>
 aB (pu h52 (aA 2 v52)) fun v53 h53 =>
 aB (pu h53 (aC G false 1 v53 h53)) fun v54 h54 =>
 aB (pu h54 (dV v54)) fun v55 h55 =>
 vK [((aH x16 1), 0, 57, 6), ((aH x16 1), 1, 3, 1), ((aH x16 1), 2, 93, 2)] h55 fun hv56 =>
 dO (gH (bU.l15 G k hv56.length self) k [(aH x16 1), v54, v55, (.int .i64 0)] hv56) fun e56 x56 h56 => jB e56
 (aB (pu h56 (kL (aH x56 0))) fun v81 h81 =>
 aB (pu h81 (aA 0 v81)) fun v82 h82 =>
 aB (pu h82 (aC G false 1 v82 h82)) fun v83 h83 =>
 aB (pu h83 (dV v83)) fun v84 h84 =>
 aB (pu h84 (aQ Tryd.prog .gtr 3 true v84 (.int .i64 262144))) fun v85 h85 =>
 aK v85
 (aB (pu h85 (aC G false 1 (.gl 0) h85)) fun v86 h86 =>
 aB (some (.sl h86.length 0 0 0 1, h86 ++ [⟨71, 1, []⟩])) fun v87 h87 =>
 bK [v87, v86] h.length h87)
 (aB (some (.sl h85.length 0 0 0 1, h85 ++ [⟨71, 1, []⟩])) fun v88 h88 =>
 aB (pu h88 (kL (aH x56 0))) fun v89 h89 =>
 aB (pu h89 (aA 0 v89)) fun v90 h90 =>
 aB (pu h90 (aC G false 1 v90 h90)) fun v91 h91 =>
 aB (pu h91 (dV v91)) fun v92 h92 =>
 dO (gH (bU.l23 G k h92.length self) k [.undef, .undef, v88, v91, v92, (.int .i64 0)] h92) fun e93 x93 h93 => jB e93
 (bK [(aH x93 2), .nili] h.length h93)
 (fun i93 => if i93 = 4 then (bK [(aH x93 2), .nili] h.length h93) else (none))
 (bK [(aH x93 0), (aH x93 1)] h.length h93)))
 (fun i56 => if i56 = 2 then (aB (pu h56 (kL (aH x56 0))) fun v109 h109 =>
 aB (pu h109 (aA 0 v109)) fun v110 h110 =>
 aB (pu h110 (aC G false 1 v110 h110)) fun v111 h111 =>
 aB (pu h111 (dV v111)) fun v112 h112 =>
 aB (pu h112 (aQ Tryd.prog .gtr 3 true v112 (.int .i64 262144))) fun v113 h113 =>
 aK v113
 (aB (pu h113 (aC G false 1 (.gl 0) h113)) fun v114 h114 =>
 aB (some (.sl h114.length 0 0 0 1, h114 ++ [⟨71, 1, []⟩])) fun v115 h115 =>
 bK [v115, v114] h.length h115)
 (aB (some (.sl h113.length 0 0 0 1, h113 ++ [⟨71, 1, []⟩])) fun v116 h116 =>
 aB (pu h116 (kL (aH x56 0))) fun v117 h117 =>
 aB (pu h117 (aA 0 v117)) fun v118 h118 =>
 aB (pu h118 (aC G false 1 v118 h118)) fun v119 h119 =>
 aB (pu h119 (dV v119)) fun v120 h120 =>
 dO (gH (bU.l23 G k h120.length self) k [.undef, .undef, v116, v119, v120, (.int .i64 0)] h120) fun e121 x121 h121 => jB e121
 (bK [(aH x121 2), .nili] h.length h121)
 (fun i121 => if i121 = 4 then (bK [(aH x121 2), .nili] h.length h121) else (none))
 (bK [(aH x121 0), (aH x121 1)] h.length h121))) else (none))
 (bK [.undef, .undef] h.length h56))
 (fun i16 => if i16 = 0 then (aB (pu h16 (kL (aH x16 1))) fun v137 h137 =>
 aB (pu h137 (aA 1 v137)) fun v138 h138 =>
 aB (pu h138 (aC G false 1 v138 h138)) fun v139 h139 =>
 aB (pu h139 (kL (aH x16 1))) fun v140 h140 =>
 aB (pu h140 (aA 0 v140)) fun v141 h141 =>
 aB (pu h141 (aC G false 1 v141 h141)) fun v142 h142 =>
 aB (pu h142 (dV v142)) fun v143 h143 =>
 aB (eP 1 1 (.int .i64 0) [(0, v143)] h143) fun v144 h144 =>
 aB (eQ 3 1 v139 v144 h144) fun v145 h145 =>
 aB (pu h145 (kL (aH x16 1))) fun v146 h146 =>
 aB (pu h146 (aA 1 v146)) fun v147 h147 =>
 aB (eH (aO 1 v147 v145 h147)) fun v148 h148 =>
 aB (pu h148 (kL (aH x16 1))) fun v149 h149 =>
 aB (pu h149 (aA 2 v149)) fun v150 h150 =>
 aB (pu h150 (aC G false 1 v150 h150)) fun v151 h151 =>
 aB (pu h151 (dV v151)) fun v152 h152 =>
 vK [((aH x16 1), 0, 57, 6), ((aH x16 1), 1, 3, 1), ((aH x16 1), 2, 93, 2)] h152 fun hv153 =>
 dO (gH (bU.l15 G k hv153.length self) k [(aH x16 1), v151, v152, (.int .i64 0)] hv153) fun e153 x153 h153 => jB e153
 (aB (pu h153 (kL (aH x153 0))) fun v178 h178 =>
 aB (pu h178 (aA 0 v178)) fun v179 h179 =>
 aB (pu h179 (aC G false 1 v179 h179)) fun v180 h180 =>
 aB (pu h180 (dV v180)) fun v181 h181 =>
 aB (pu h181 (aQ Tryd.prog .gtr 3 true v181 (.int .i64 262144))) fun v182 h182 =>
 aK v182
 (aB (pu h182 (aC G false 1 (.gl 0) h182)) fun v183 h183 =>
 aB (some (.sl h183.length 0 0 0 1, h183 ++ [⟨71, 1, []⟩])) fun v184 h184 =>
 bK [v184, v183] h.length h184)
 (aB (some (.sl h182.length 0 0 0 1, h182 ++ [⟨71, 1, []⟩])) fun v185 h185 =>
 aB (pu h185 (kL (aH x153 0))) fun v186 h186 =>
 aB (pu h186 (aA 0 v186)) fun v187 h187 =>
 aB (pu h187 (aC G false 1 v187 h187)) fun v188 h188 =>
 aB (pu h188 (dV v188)) fun v189 h189 =>
 dO (gH (bU.l23 G k h189.length self) k [.undef, .undef, v185, v188, v189, (.int .i64 0)] h189) fun e190 x190 h190 => jB e190
 (bK [(aH x190 2), .nili] h.length h190)
 (fun i190 => if i190 = 4 then (bK [(aH x190 2), .nili] h.length h190) else (none))
 (bK [(aH x190 0), (aH x190 1)] h.length h190)))
 (fun i153 => if i153 = 2 then (aB (pu h153 (kL (aH x153 0))) fun v206 h206 =>
 aB (pu h206 (aA 0 v206)) fun v207 h207 =>
 aB (pu h207 (aC G false 1 v207 h207)) fun v208 h208 =>
 aB (pu h208 (dV v208)) fun v209 h209 =>
 aB (pu h209 (aQ Tryd.prog .gtr 3 true v209 (.int .i64 262144))) fun v210 h210 =>
 aK v210
 (aB (pu h210 (aC G false 1 (.gl 0) h210)) fun v211 h211 =>
 aB (some (.sl h211.length 0 0 0 1, h211 ++ [⟨71, 1, []⟩])) fun v212 h212 =>
 bK [v212, v211] h.length h212)
 (aB (some (.sl h210.length 0 0 0 1, h210 ++ [⟨71, 1, []⟩])) fun v213 h213 =>
 aB (pu h213 (kL (aH x153 0))) fun v214 h214 =>
 aB (pu h214 (aA 0 v214)) fun v215 h215 =>
 aB (pu h215 (aC G false 1 v215 h215)) fun v216 h216 =>
 aB (pu h216 (dV v216)) fun v217 h217 =>
 dO (gH (bU.l23 G k h217.length self) k [.undef, .undef, v213, v216, v217, (.int .i64 0)] h217) fun e218 x218 h218 => jB e218
 (bK [(aH x218 2), .nili] h.length h218)
 (fun i218 => if i218 = 4 then (bK [(aH x218 2), .nili] h.length h218) else (none))
 (bK [(aH x218 0), (aH x218 1)] h.length h218))) else (none))
 (bK [.undef, .undef] h.length h153)) else (none))
 (bK [.undef, .undef] h.length h16))))
noncomputable def bU.f (G : aI) : Nat → dE
 | 0 => fun _ _ => none
 | k + 1 => fun args h => nX args fun x0 => (bU.c G k (bU.f G k) x0 h)
theorem bU.step (G : aI) (k : Nat) (x0 : AV) (h : aF) : bU.f G (k + 1) [x0] h = bU.c G k (bU.f G k) x0 h := rfl
noncomputable def gM.ann : Ann := gG [] [] [] []
noncomputable def gM.env (G : aI) (k : Nat) (self : dE) : List (Nat × Bool × dE) := [(54, false, cE.f G k)]
noncomputable def gM.c (G : aI) (k : Nat) (self : dE) (x0 x1 : AV) (h : aF) : Option (AV × aF) := fZ (
 aB (pu h (aQ Tryd.prog .lss 3 true x0 (.int .i64 0))) fun v0 h0 =>
 aB (gd v0 false h0 (some (x0, h0))) fun v1 h1 =>
 aB (gd v0 false h1 (pu h1 (aQ Tryd.prog .gtr 3 true v1 (.int .i64 30)))) fun v2 h2 =>
 aB (pu h2 (dM v0 (.bool true) v2)) fun v3 h3 =>
 aK v3
 (aB (pu h3 (aC G false 1 (.gl 1) h3)) fun v4 h4 =>
 bK [.nils, v4] h.length h4)
 (aB (bF (cE.f G k) [x0, x1] h3) fun v5 h5 =>
 bK [v5, .nili] h.length h5))
noncomputable def gM.f (G : aI) : Nat → dE
 | 0 => fun _ _ => none
 | k + 1 => fun args h => nJ args fun x0 x1 => (gM.c G k (gM.f G k) x0 x1 h)
noncomputable def cZ.ann : Ann := gG [] [] [] []
noncomputable def cZ.env (G : aI) (k : Nat) (self : dE) : List (Nat × Bool × dE) := [(17, true, bU.f G k), (23, true, gM.f G k)]
noncomputable def cZ.c (G : aI) (k : Nat) (self : dE) (h : aF) : Option (AV × aF) := fZ (
 aB (pu h (aZ [(0, 1), (1, 1), (2, 1)] [.nils, (.int .i64 0), (.int .i64 0)] [])) fun v0 h0 =>
 aB (aE (bU.f G k) [v0] h0) fun v1 h1 =>
 aB (pu h1 (cL v1 0)) fun v2 h2 =>
 aB (pu h2 (cL v1 1)) fun v3 h3 =>
 aB (aE (gM.f G k) [(.int .i64 3), (.int .i64 7)] h3) fun v4 h4 =>
 aB (pu h4 (cL v4 0)) fun v5 h5 =>
 aB (pu h5 (cL v4 1)) fun v6 h6 =>
 aB (pu h6 (aQ Tryd.prog .eql 30 true v3 .nili)) fun v7 h7 =>
 aB (gd v7 true h7 (some (v6, h7))) fun v8 h8 =>
 aB (gd v7 true h8 (pu h8 (aQ Tryd.prog .eql 30 true v8 .nili))) fun v9 h9 =>
 aB (pu h9 (dM v7 v9 (.bool false))) fun v10 h10 =>
 aB (gd v10 true h10 (some (v2, h10))) fun v11 h11 =>
 aB (gd v10 true h11 (pu h11 (dV v11))) fun v12 h12 =>
 aB (gd v10 true h12 (pu h12 (aQ Tryd.prog .eql 3 true v12 (.int .i64 0)))) fun v13 h13 =>
 aB (pu h13 (dM v10 v13 (.bool false))) fun v14 h14 =>
 aB (gd v14 true h14 (some (v5, h14))) fun v15 h15 =>
 aB (gd v14 true h15 (pu h15 (dV v15))) fun v16 h16 =>
 aB (gd v14 true h16 (pu h16 (aQ Tryd.prog .gtr 3 true v16 (.int .i64 0)))) fun v17 h17 =>
 aB (pu h17 (dM v14 v17 (.bool false))) fun v18 h18 =>
 bK [v18] h.length h18)
noncomputable def cZ.f (G : aI) : Nat → dE
 | 0 => fun _ _ => none
 | k + 1 => fun args h => aLh args (cZ.c G k (cZ.f G k) h)
noncomputable def bP.ann : Ann := gG [] [] [] []
noncomputable def bP.env (G : aI) (k : Nat) (self : dE) : List (Nat × Bool × dE) := []
noncomputable def bP.c (G : aI) (k : Nat) (self : dE) (x0 : AV) (h : aF) : Option (AV × aF) := fZ (
 aB (dH x0 h) fun v0 h0 =>
 aB (eY 36 (.agg [.nils, (.int .i64 0), (.int .i64 0)]) h0) fun v1 h1 =>
 aB (pu h1 (aA 0 v0)) fun v2 h2 =>
 aB (pu h2 (aC G false 1 v2 h2)) fun v3 h3 =>
 aB (pu h3 (aA 1 v0)) fun v4 h4 =>
 aB (pu h4 (aC G false 1 v4 h4)) fun v5 h5 =>
 aB (pu h5 (aA 2 v0)) fun v6 h6 =>
 aB (pu h6 (aC G false 1 v6 h6)) fun v7 h7 =>
 aB (pu h7 (aZ [(0, 1), (1, 1), (2, 1)] [.nils, (.int .i64 0), (.int .i64 0)] [(0, v3), (1, v5), (2, v7)])) fun v8 h8 =>
 aB (eH (aO 3 v1 v8 h8)) fun v9 h9 =>
 fX [aC G true 3 v1 h9] h.length h9)
noncomputable def bP.f (G : aI) : Nat → dE
 | 0 => fun _ _ => none
 | k + 1 => fun args h => nX args fun x0 => (bP.c G k (bP.f G k) x0 h)
theorem bP.step (G : aI) (k : Nat) (x0 : AV) (h : aF) : bP.f G (k + 1) [x0] h = bP.c G k (bP.f G k) x0 h := rfl
noncomputable def dN.ann : Ann := gG [] [] [] []
noncomputable def dN.env (G : aI) (k : Nat) (self : dE) : List (Nat × Bool × dE) := []
noncomputable def dN.c (G : aI) (k : Nat) (self : dE) (x0 x1 : AV) (h : aF) : Option (AV × aF) := fZ (
 aB (pu h (aQ Tryd.prog .add 2 false x0 x1)) fun v0 h0 =>
 aB (pu h0 (aQ Tryd.prog .gtr 2 false v0 x0)) fun v1 h1 =>
 aB (pu h1 (aQ Tryd.prog .gtr 2 true x1 (.int .i64 0))) fun v2 h2 =>
 aB (pu h2 (aQ Tryd.prog .eql 4 false v1 v2)) fun v3 h3 =>
 aB (gd v3 false h3 (some (x1, h3))) fun v4 h4 =>
 aB (gd v3 false h4 (pu h4 (aQ Tryd.prog .eql 2 true v4 (.int .i64 0)))) fun v5 h5 =>
 aB (pu h5 (dM v3 (.bool true) v5)) fun v6 h6 =>
 bK [v0, v6] h.length h6)
noncomputable def dN.f (G : aI) : Nat → dE
 | 0 => fun _ _ => none
 | k + 1 => fun args h => nJ args fun x0 x1 => (dN.c G k (dN.f G k) x0 x1 h)
noncomputable def cU.ann : Ann := gG [] [] [] []
noncomputable def cU.env (G : aI) (k : Nat) (self : dE) : List (Nat × Bool × dE) := []
noncomputable def cU.c (G : aI) (k : Nat) (self : dE) (x0 x1 : AV) (h : aF) : Option (AV × aF) := fZ (
 aB (pu h (un .not x1)) fun v0 h0 =>
 aK v0
 (bK [(.int .i64 0), (.bool false)] h.length h0)
 (bK [x0, (.bool true)] h.length h0))
noncomputable def cU.f (G : aI) : Nat → dE
 | 0 => fun _ _ => none
 | k + 1 => fun args h => nJ args fun x0 x1 => (cU.c G k (cU.f G k) x0 x1 h)
noncomputable def dI.ann : Ann := gG [] [] [] []
noncomputable def dI.env (G : aI) (k : Nat) (self : dE) : List (Nat × Bool × dE) := []
noncomputable def dI.c (G : aI) (k : Nat) (self : dE) (x0 x1 : AV) (h : aF) : Option (AV × aF) := fZ (
 aB (pu h (aQ Tryd.prog .sub 2 false x0 x1)) fun v0 h0 =>
 aB (pu h0 (aQ Tryd.prog .lss 2 false v0 x0)) fun v1 h1 =>
 aB (pu h1 (aQ Tryd.prog .gtr 2 true x1 (.int .i64 0))) fun v2 h2 =>
 aB (pu h2 (aQ Tryd.prog .eql 4 false v1 v2)) fun v3 h3 =>
 aB (gd v3 false h3 (some (x1, h3))) fun v4 h4 =>
 aB (gd v3 false h4 (pu h4 (aQ Tryd.prog .eql 2 true v4 (.int .i64 0)))) fun v5 h5 =>
 aB (pu h5 (dM v3 (.bool true) v5)) fun v6 h6 =>
 bK [v0, v6] h.length h6)
noncomputable def dI.f (G : aI) : Nat → dE
 | 0 => fun _ _ => none
 | k + 1 => fun args h => nJ args fun x0 x1 => (dI.c G k (dI.f G k) x0 x1 h)
noncomputable def cT.ann : Ann := gG [] [] [] [(7, [0, 1, 6, 7]), (5, [0, 1, 6, 7])]
noncomputable def cT.env (G : aI) (k : Nat) (self : dE) : List (Nat × Bool × dE) := [(56, true, bQ.f G k), (74, true, cU.f G k)]
noncomputable def cT.c (G : aI) (k : Nat) (self : dE) (x0 x1 : AV) (h : aF) : Option (AV × aF) := fZ (
 aB (pu h (aJ .u64 x0)) fun v0 h0 =>
 aB (pu h0 (aJ .u64 x1)) fun v1 h1 =>
 dO (
 aB (pu h1 (aQ Tryd.prog .lss 2 true x0 (.int .i64 0))) fun v2 h2 =>
 aK v2
 (aB (pu h2 (un .neg v0)) fun v3 h3 =>
 some (.normal, [x0, x1, v3, v1], h3))
 (some (.normal, [x0, x1, v0, v1], h2))) fun e4 x4 h4 => jB e4
 (dO (
 aB (pu h4 (aQ Tryd.prog .lss 2 true (aH x4 1) (.int .i64 0))) fun v5 h5 =>
 aK v5
 (aB (pu h5 (un .neg (aH x4 3))) fun v6 h6 =>
 some (.normal, [(aH x4 0), (aH x4 1), (aH x4 2), v6], h6))
 (some (.normal, [(aH x4 0), (aH x4 1), (aH x4 2), (aH x4 3)], h5))) fun e7 x7 h7 => jB e7
 (aB (aE (bQ.f G k) [(aH x7 2), (aH x7 3)] h7) fun v8 h8 =>
 aB (pu h8 (cL v8 0)) fun v9 h9 =>
 aB (pu h9 (cL v8 1)) fun v10 h10 =>
 aB (pu h10 (aQ Tryd.prog .neq 43 true v9 (.int .u64 0))) fun v11 h11 =>
 aK v11
 (bK [(.int .i64 0), (.bool false)] h.length h11)
 (aB (pu h11 (aQ Tryd.prog .lss 2 true (aH x7 0) (.int .i64 0))) fun v12 h12 =>
 aB (pu h12 (aQ Tryd.prog .lss 2 true (aH x7 1) (.int .i64 0))) fun v13 h13 =>
 aB (pu h13 (aQ Tryd.prog .neq 4 false v12 v13)) fun v14 h14 =>
 aK v14
 (aB (pu h14 (aQ Tryd.prog .eql 43 true v10 (.int .u64 9223372036854775808))) fun v15 h15 =>
 aK v15
 (bK [(.int .i64 (-9223372036854775808)), (.bool true)] h.length h15)
 (aB (pu h15 (aQ Tryd.prog .and 43 true v10 (.int .u64 9223372036854775807))) fun v16 h16 =>
 aB (pu h16 (aJ .i64 v16)) fun v17 h17 =>
 aB (pu h17 (un .neg v17)) fun v18 h18 =>
 aB (pu h18 (aQ Tryd.prog .lss 43 true v10 (.int .u64 9223372036854775808))) fun v19 h19 =>
 aB (aE (cU.f G k) [v18, v19] h19) fun v20 h20 =>
 aB (pu h20 (cL v20 0)) fun v21 h21 =>
 aB (pu h21 (cL v20 1)) fun v22 h22 =>
 bK [v21, v22] h.length h22))
 (aB (pu h14 (aJ .i64 v10)) fun v23 h23 =>
 aB (pu h23 (aQ Tryd.prog .lss 43 true v10 (.int .u64 9223372036854775808))) fun v24 h24 =>
 bK [v23, v24] h.length h24)))
 (fun i7 => none)
 (bK [.undef, .undef] h.length h7))
 (fun i4 => none)
 (bK [.undef, .undef] h.length h4))
noncomputable def cT.f (G : aI) : Nat → dE
 | 0 => fun _ _ => none
 | k + 1 => fun args h => nJ args fun x0 x1 => (cT.c G k (cT.f G k) x0 x1 h)
noncomputable def dD.ann : Ann := gG [] [] [] []
noncomputable def dD.env (G : aI) (k : Nat) (self : dE) : List (Nat × Bool × dE) := [(73, true, dN.f G k), (74, true, cU.f G k), (75, true, dI.f G k), (76, true, cT.f G k)]
noncomputable def dD.c (G : aI) (k : Nat) (self : dE) (x0 x1 x2 : AV) (h : aF) : Option (AV × aF) := fZ (
 aB (dH x0 h) fun v0 h0 =>
 aB (pu h0 (aA 0 v0)) fun v1 h1 =>
 aB (pu h1 (aC G false 1 v1 h1)) fun v2 h2 =>
 aB (pu h2 (aQ Tryd.prog .eql 3 true v2 (.int .i64 3))) fun v3 h3 =>
 aK v3
 (aB (pu h3 (aJ .i64 x1)) fun v4 h4 =>
 aB (pu h4 (aJ .i64 x2)) fun v5 h5 =>
 aB (aE (dN.f G k) [v4, v5] h5) fun v6 h6 =>
 aB (pu h6 (cL v6 0)) fun v7 h7 =>
 aB (pu h7 (cL v6 1)) fun v8 h8 =>
 aB (aE (cU.f G k) [v7, v8] h8) fun v9 h9 =>
 aB (pu h9 (cL v9 0)) fun v10 h10 =>
 aB (pu h10 (cL v9 1)) fun v11 h11 =>
 bK [v10, v11] h.length h11)
 (aB (pu h3 (aQ Tryd.prog .eql 3 true v2 (.int .i64 4))) fun v12 h12 =>
 aK v12
 (aB (pu h12 (aJ .i64 x1)) fun v13 h13 =>
 aB (pu h13 (aJ .i64 x2)) fun v14 h14 =>
 aB (aE (dI.f G k) [v13, v14] h14) fun v15 h15 =>
 aB (pu h15 (cL v15 0)) fun v16 h16 =>
 aB (pu h16 (cL v15 1)) fun v17 h17 =>
 aB (aE (cU.f G k) [v16, v17] h17) fun v18 h18 =>
 aB (pu h18 (cL v18 0)) fun v19 h19 =>
 aB (pu h19 (cL v18 1)) fun v20 h20 =>
 bK [v19, v20] h.length h20)
 (aB (pu h12 (aQ Tryd.prog .eql 3 true v2 (.int .i64 5))) fun v21 h21 =>
 aK v21
 (aB (pu h21 (aJ .i64 x1)) fun v22 h22 =>
 aB (pu h22 (aJ .i64 x2)) fun v23 h23 =>
 aB (aE (cT.f G k) [v22, v23] h23) fun v24 h24 =>
 aB (pu h24 (cL v24 0)) fun v25 h25 =>
 aB (pu h25 (cL v24 1)) fun v26 h26 =>
 aB (aE (cU.f G k) [v25, v26] h26) fun v27 h27 =>
 aB (pu h27 (cL v27 0)) fun v28 h28 =>
 aB (pu h28 (cL v27 1)) fun v29 h29 =>
 bK [v28, v29] h.length h29)
 (aB (pu h21 (aQ Tryd.prog .eql 3 true v2 (.int .i64 10))) fun v30 h30 =>
 aK v30
 (aB (pu h30 (aA 5 v0)) fun v31 h31 =>
 aB (pu h31 (aC G false 1 v31 h31)) fun v32 h32 =>
 aB (pu h32 (aQ Tryd.prog .lss 2 true v32 (.int .i64 0))) fun v33 h33 =>
 aB (gd v33 false h33 (pu h33 (aA 5 v0))) fun v34 h34 =>
 aB (gd v33 false h34 (pu h34 (aC G false 1 v34 h34))) fun v35 h35 =>
 aB (gd v33 false h35 (pu h35 (aQ Tryd.prog .gtr 2 true v35 (.int .i64 63)))) fun v36 h36 =>
 aB (pu h36 (dM v33 (.bool true) v36)) fun v37 h37 =>
 aK v37
 (bK [(.int .i64 0), (.bool false)] h.length h37)
 (aB (pu h37 (aJ .i64 x1)) fun v38 h38 =>
 aB (pu h38 (aA 5 v0)) fun v39 h39 =>
 aB (pu h39 (aC G false 1 v39 h39)) fun v40 h40 =>
 aB (pu h40 (aJ .u64 v40)) fun v41 h41 =>
 aB (pu h41 (aQ Tryd.prog .shl 2 false v38 v41)) fun v42 h42 =>
 aB (pu h42 (aA 5 v0)) fun v43 h43 =>
 aB (pu h43 (aC G false 1 v43 h43)) fun v44 h44 =>
 aB (pu h44 (aJ .u64 v44)) fun v45 h45 =>
 aB (pu h45 (aQ Tryd.prog .shr 2 false v42 v45)) fun v46 h46 =>
 aB (pu h46 (aJ .i64 x1)) fun v47 h47 =>
 aB (pu h47 (aQ Tryd.prog .eql 2 false v46 v47)) fun v48 h48 =>
 aB (aE (cU.f G k) [v42, v48] h48) fun v49 h49 =>
 aB (pu h49 (cL v49 0)) fun v50 h50 =>
 aB (pu h50 (cL v49 1)) fun v51 h51 =>
 bK [v50, v51] h.length h51))
 (bK [(.int .i64 0), (.bool false)] h.length h30)))))
noncomputable def dD.f (G : aI) : Nat → dE
 | 0 => fun _ _ => none
 | k + 1 => fun args h => yE args fun x0 x1 x2 => (dD.c G k (dD.f G k) x0 x1 x2 h)
noncomputable def bS.ann : Ann := gG [] [] [] []
noncomputable def bS.env (G : aI) (k : Nat) (self : dE) : List (Nat × Bool × dE) := [(56, true, bQ.f G k)]
noncomputable def bS.c (G : aI) (k : Nat) (self : dE) (x0 x1 x2 x3 : AV) (h : aF) : Option (AV × aF) := fZ (
 aB (dH x0 h) fun v0 h0 =>
 aB (pu h0 (aA 5 v0)) fun v1 h1 =>
 aB (pu h1 (aC G false 1 v1 h1)) fun v2 h2 =>
 aB (pu h2 (aQ Tryd.prog .and 2 true v2 (.int .i64 63))) fun v3 h3 =>
 aB (pu h3 (aJ .u64 v3)) fun v4 h4 =>
 aB (pu h4 (aA 5 v0)) fun v5 h5 =>
 aB (pu h5 (aC G false 1 v5 h5)) fun v6 h6 =>
 aB (pu h6 (aQ Tryd.prog .geq 2 true v6 (.int .i64 0))) fun v7 h7 =>
 aB (gd v7 true h7 (pu h7 (aA 5 v0))) fun v8 h8 =>
 aB (gd v7 true h8 (pu h8 (aC G false 1 v8 h8))) fun v9 h9 =>
 aB (gd v7 true h9 (pu h9 (aQ Tryd.prog .leq 2 true v9 (.int .i64 63)))) fun v10 h10 =>
 aB (pu h10 (dM v7 v10 (.bool false))) fun v11 h11 =>
 aB (pu h11 (aA 0 v0)) fun v12 h12 =>
 aB (pu h12 (aC G false 1 v12 h12)) fun v13 h13 =>
 aB (pu h13 (aQ Tryd.prog .eql 3 true v13 (.int .i64 1))) fun v14 h14 =>
 aK v14
 (aB (pu h14 (aA 5 v0)) fun v15 h15 =>
 aB (pu h15 (aC G false 1 v15 h15)) fun v16 h16 =>
 aB (pu h16 (aJ .u64 v16)) fun v17 h17 =>
 bK [v17, (.bool true)] h.length h17)
 (aB (pu h14 (aQ Tryd.prog .eql 3 true v13 (.int .i64 2))) fun v18 h18 =>
 aK v18
 (bK [x1, (.bool true)] h.length h18)
 (aB (pu h18 (aQ Tryd.prog .eql 3 true v13 (.int .i64 3))) fun v19 h19 =>
 aK v19
 (aB (pu h19 (aQ Tryd.prog .add 43 false x1 x2)) fun v20 h20 =>
 bK [v20, (.bool true)] h.length h20)
 (aB (pu h19 (aQ Tryd.prog .eql 3 true v13 (.int .i64 4))) fun v21 h21 =>
 aK v21
 (aB (pu h21 (aQ Tryd.prog .sub 43 false x1 x2)) fun v22 h22 =>
 bK [v22, (.bool true)] h.length h22)
 (aB (pu h21 (aQ Tryd.prog .eql 3 true v13 (.int .i64 5))) fun v23 h23 =>
 aK v23
 (aB (pu h23 (aQ Tryd.prog .mul 43 false x1 x2)) fun v24 h24 =>
 bK [v24, (.bool true)] h.length h24)
 (aB (pu h23 (aQ Tryd.prog .eql 3 true v13 (.int .i64 6))) fun v25 h25 =>
 aK v25
 (aB (aE (bQ.f G k) [x1, x2] h25) fun v26 h26 =>
 aB (pu h26 (cL v26 0)) fun v27 h27 =>
 aB (pu h27 (cL v26 1)) fun v28 h28 =>
 bK [v27, (.bool true)] h.length h28)
 (aB (pu h25 (aQ Tryd.prog .eql 3 true v13 (.int .i64 7))) fun v29 h29 =>
 aK v29
 (aB (pu h29 (aQ Tryd.prog .and 43 false x1 x2)) fun v30 h30 =>
 bK [v30, (.bool true)] h.length h30)
 (aB (pu h29 (aQ Tryd.prog .eql 3 true v13 (.int .i64 8))) fun v31 h31 =>
 aK v31
 (aB (pu h31 (aQ Tryd.prog .or 43 false x1 x2)) fun v32 h32 =>
 bK [v32, (.bool true)] h.length h32)
 (aB (pu h31 (aQ Tryd.prog .eql 3 true v13 (.int .i64 9))) fun v33 h33 =>
 aK v33
 (aB (pu h33 (aQ Tryd.prog .xor 43 false x1 x2)) fun v34 h34 =>
 bK [v34, (.bool true)] h.length h34)
 (aB (pu h33 (aQ Tryd.prog .eql 3 true v13 (.int .i64 13))) fun v35 h35 =>
 aK v35
 (aB (pu h35 (aQ Tryd.prog .lss 43 false x1 x2)) fun v36 h36 =>
 aK v36
 (bK [(.int .u64 1), (.bool true)] h.length h36)
 (bK [(.int .u64 0), (.bool true)] h.length h36))
 (aB (pu h35 (aQ Tryd.prog .eql 3 true v13 (.int .i64 14))) fun v37 h37 =>
 aK v37
 (aB (pu h37 (aQ Tryd.prog .neq 43 true x1 (.int .u64 0))) fun v38 h38 =>
 aK v38
 (bK [x2, (.bool true)] h.length h38)
 (bK [x3, (.bool true)] h.length h38))
 (aB (pu h37 (un .not v11)) fun v39 h39 =>
 aK v39
 (bK [(.int .u64 0), (.bool false)] h.length h39)
 (aB (pu h39 (aA 0 v0)) fun v40 h40 =>
 aB (pu h40 (aC G false 1 v40 h40)) fun v41 h41 =>
 aB (pu h41 (aQ Tryd.prog .eql 3 true v41 (.int .i64 10))) fun v42 h42 =>
 aK v42
 (aB (pu h42 (aQ Tryd.prog .shl 43 false x1 v4)) fun v43 h43 =>
 bK [v43, (.bool true)] h.length h43)
 (aB (pu h42 (aQ Tryd.prog .eql 3 true v41 (.int .i64 11))) fun v44 h44 =>
 aK v44
 (aB (pu h44 (aQ Tryd.prog .shr 43 false x1 v4)) fun v45 h45 =>
 bK [v45, (.bool true)] h.length h45)
 (aB (pu h44 (aQ Tryd.prog .eql 3 true v41 (.int .i64 12))) fun v46 h46 =>
 aK v46
 (aB (pu h46 (aJ .i64 x1)) fun v47 h47 =>
 aB (pu h47 (aQ Tryd.prog .shr 2 false v47 v4)) fun v48 h48 =>
 aB (pu h48 (aJ .u64 v48)) fun v49 h49 =>
 bK [v49, (.bool true)] h.length h49)
 (bK [(.int .u64 0), (.bool false)] h.length h46))))))))))))))))
noncomputable def bS.f (G : aI) : Nat → dE
 | 0 => fun _ _ => none
 | k + 1 => fun args h => aIS args fun x0 x1 x2 x3 => (bS.c G k (bS.f G k) x0 x1 x2 x3 h)
theorem bS.step (G : aI) (k : Nat) (x0 x1 x2 x3 : AV) (h : aF) : bS.f G (k + 1) [x0, x1, x2, x3] h = bS.c G k (bS.f G k) x0 x1 x2 x3 h := rfl
noncomputable def bH.ann : Ann := aEr [] [] [(4, [1, 3, 4, 8, 9, 10, 11])] [(22, [1, 3, 4, 8, 9, 10, 12, 13, 14, 15]), (38, [1, 3, 4, 8, 9, 10, 11, 12, 13, 14, 15, 71, 186]), (26, [1, 3, 4, 8, 9, 10, 11, 12, 13, 14, 15, 71, 142])] [(4, [(8, 2, 107, 2), (9, 2, 107, 2)])] []
noncomputable def bH.env (G : aI) (k : Nat) (self : dE) : List (Nat × Bool × dE) := [(46, false, aX.f G k), (47, true, bM.f G k), (48, true, dD.f G k), (49, true, bS.f G k)]
noncomputable def bH.l4 (G : aI) (k n0 : Nat) (self : dE) (lp : iP) : iP := fun xs h0 => qJ n0 xs h0 fun h =>
 aB (pu h (aA 0 (aH xs 2))) fun v11 h11 =>
 aB (pu h11 (aC G false 1 v11 h11)) fun v12 h12 =>
 aB (pu h12 (dV v12)) fun v13 h13 =>
 aB (pu h13 (aQ Tryd.prog .geq 3 false (aH xs 6) v13)) fun v14 h14 =>
 aK v14
 (aB (pu h14 (aA 0 (aH xs 4))) fun v15 h15 =>
 aB (eH (aO 1 v15 (.int .i64 3) h15)) fun v16 h16 =>
 aB (pu h16 (aC G true 5 (aH xs 4) h16)) fun v17 h17 =>
 aB (eH (aO 5 (aH xs 3) v17 h17)) fun v18 h18 =>
 some (.ret, [(aH xs 0), (aH xs 1), (aH xs 2), (aH xs 3), (aH xs 4), (aH xs 5), (aH xs 6)], h18))
 (aB (pu h14 (aA 3 (aH xs 4))) fun v19 h19 =>
 aB (pu h19 (aC G false 1 v19 h19)) fun v20 h20 =>
 aB (pu h20 (aQ Tryd.prog .geq 2 false v20 (aH xs 1))) fun v21 h21 =>
 aK v21
 (aB (pu h21 (aA 0 (aH xs 4))) fun v22 h22 =>
 aB (eH (aO 1 v22 (.int .i64 4) h22)) fun v23 h23 =>
 aB (pu h23 (aC G true 5 (aH xs 4) h23)) fun v24 h24 =>
 aB (eH (aO 5 (aH xs 3) v24 h24)) fun v25 h25 =>
 some (.ret, [(aH xs 0), (aH xs 1), (aH xs 2), (aH xs 3), (aH xs 4), (aH xs 5), (aH xs 6)], h25))
 (aB (pu h21 (aA 0 (aH xs 2))) fun v26 h26 =>
 aB (pu h26 (aC G false 1 v26 h26)) fun v27 h27 =>
 aB (pu h27 (cB 6 v27 (aH xs 6))) fun v28 h28 =>
 aB (pu h28 (aC G true 6 v28 h28)) fun v29 h29 =>
 aB (eY 60 (.agg [(.int .i64 0), (.int .i64 0), (.int .i64 0), (.int .i64 0), (.int .i64 0), (.int .i64 0)]) h29) fun v30 h30 =>
 aB (eH (aO 6 v30 v29 h30)) fun v31 h31 =>
 aB (pu h31 (aA 3 (aH xs 4))) fun v32 h32 =>
 aB (pu h32 (aC G false 1 v32 h32)) fun v33 h33 =>
 aB (pu h33 (aQ Tryd.prog .add 2 true v33 (.int .i64 1))) fun v34 h34 =>
 aB (pu h34 (aA 3 (aH xs 4))) fun v35 h35 =>
 aB (eH (aO 1 v35 v34 h35)) fun v36 h36 =>
 aB (pu h36 (aA 2 (aH xs 4))) fun v37 h37 =>
 aB (pu h37 (aC G false 1 v37 h37)) fun v38 h38 =>
 aB (pu h38 (aZ [(0, 1), (1, 1)] [(.int .i64 0), (.int .i64 0)] [(0, (.int .i64 1)), (1, (aH xs 6))])) fun v39 h39 =>
 aB (eP 2 1 (.agg [(.int .i64 0), (.int .i64 0)]) [(0, v39)] h39) fun v40 h40 =>
 aB (eQ 107 2 v38 v40 h40) fun v41 h41 =>
 aB (pu h41 (aA 2 (aH xs 4))) fun v42 h42 =>
 aB (eH (aO 1 v42 v41 h42)) fun v43 h43 =>
 aB (pu h43 (aA 2 v30)) fun v44 h44 =>
 aB (pu h44 (aC G false 1 v44 h44)) fun v45 h45 =>
 aB (pu h45 (cB 1 (aH xs 5) v45)) fun v46 h46 =>
 aB (pu h46 (aC G false 1 v46 h46)) fun v47 h47 =>
 aB (pu h47 (aA 3 v30)) fun v48 h48 =>
 aB (pu h48 (aC G false 1 v48 h48)) fun v49 h49 =>
 aB (pu h49 (cB 1 (aH xs 5) v49)) fun v50 h50 =>
 aB (pu h50 (aC G false 1 v50 h50)) fun v51 h51 =>
 aB (pu h51 (aQ Tryd.prog .add 3 true (aH xs 6) (.int .i64 1))) fun v52 h52 =>
 aB (pu h52 (aA 0 v30)) fun v53 h53 =>
 aB (pu h53 (aC G false 1 v53 h53)) fun v54 h54 =>
 dO (
 aB (pu h54 (aQ Tryd.prog .eql 3 true v54 (.int .i64 15))) fun v55 h55 =>
 aK v55
 (some (.normal, [(aH xs 0), (aH xs 1), (aH xs 2), (aH xs 3), (aH xs 4), (aH xs 5), (aH xs 6), v30, v47, v51, v52, v54, v55], h55))
 (aB (pu h55 (aQ Tryd.prog .eql 3 true v54 (.int .i64 16))) fun v56 h56 =>
 some (.normal, [(aH xs 0), (aH xs 1), (aH xs 2), (aH xs 3), (aH xs 4), (aH xs 5), (aH xs 6), v30, v47, v51, v52, v54, v56], h56))) fun e57 x57 h57 => jB e57
 (aK (aH x57 12)
 (aB (pu h57 (aA 5 (aH x57 7))) fun v58 h58 =>
 aB (pu h58 (aC G false 1 v58 h58)) fun v59 h59 =>
 aB (pu h59 (aJ .u64 v59)) fun v60 h60 =>
 aB (pu h60 (aQ Tryd.prog .add 43 false (aH x57 8) v60)) fun v61 h61 =>
 aB (pu h61 (aA 2 (aH x57 4))) fun v62 h62 =>
 aB (pu h62 (aC G false 1 v62 h62)) fun v63 h63 =>
 aB (pu h63 (aJ .i64 v61)) fun v64 h64 =>
 aB (pu h64 (aZ [(0, 1), (1, 1)] [(.int .i64 0), (.int .i64 0)] [(0, (.int .i64 3)), (1, v64)])) fun v65 h65 =>
 aB (eP 2 1 (.agg [(.int .i64 0), (.int .i64 0)]) [(0, v65)] h65) fun v66 h66 =>
 aB (eQ 107 2 v63 v66 h66) fun v67 h67 =>
 aB (pu h67 (aA 2 (aH x57 4))) fun v68 h68 =>
 aB (eH (aO 1 v68 v67 h68)) fun v69 h69 =>
 aB (pu h69 (aA 2 (aH x57 2))) fun v70 h70 =>
 aB (pu h70 (aC G false 1 v70 h70)) fun v71 h71 =>
 aB (pu h71 (aJ .u64 v71)) fun v72 h72 =>
 aB (pu h72 (aQ Tryd.prog .geq 43 false v61 v72)) fun v73 h73 =>
 aK v73
 (aB (pu h73 (aA 0 (aH x57 4))) fun v74 h74 =>
 aB (eH (aO 1 v74 (.int .i64 3) h74)) fun v75 h75 =>
 aB (pu h75 (aC G true 5 (aH x57 4) h75)) fun v76 h76 =>
 aB (eH (aO 5 (aH x57 3) v76 h76)) fun v77 h77 =>
 some (.ret, [(aH x57 0), (aH x57 1), (aH x57 2), (aH x57 3), (aH x57 4), (aH x57 5), (aH x57 6)], h77))
 (aB (pu h73 (aA 0 (aH x57 7))) fun v78 h78 =>
 aB (pu h78 (aC G false 1 v78 h78)) fun v79 h79 =>
 aB (pu h79 (aQ Tryd.prog .eql 3 true v79 (.int .i64 15))) fun v80 h80 =>
 aK v80
 (aB (pu h80 (aA 1 (aH x57 7))) fun v81 h81 =>
 aB (pu h81 (aC G false 1 v81 h81)) fun v82 h82 =>
 aB (pu h82 (aA 1 (aH x57 4))) fun v83 h83 =>
 aB (pu h83 (aC G false 1 v83 h83)) fun v84 h84 =>
 aB (pu h84 (cB 1 v84 v61)) fun v85 h85 =>
 aB (pu h85 (aC G false 1 v85 h85)) fun v86 h86 =>
 aB (pu h86 (cB 1 (aH x57 5) v82)) fun v87 h87 =>
 aB (eH (aO 1 v87 v86 h87)) fun v88 h88 =>
 lp [(aH x57 0), (aH x57 1), (aH x57 2), (aH x57 3), (aH x57 4), (aH x57 5), (aH x57 10)] h88)
 (aB (pu h80 (aA 1 (aH x57 4))) fun v89 h89 =>
 aB (pu h89 (aC G false 1 v89 h89)) fun v90 h90 =>
 aB (pu h90 (cB 1 v90 v61)) fun v91 h91 =>
 aB (eH (aO 1 v91 (aH x57 9) h91)) fun v92 h92 =>
 lp [(aH x57 0), (aH x57 1), (aH x57 2), (aH x57 3), (aH x57 4), (aH x57 5), (aH x57 10)] h92)))
 (aB (pu h57 (aQ Tryd.prog .eql 3 true (aH x57 11) (.int .i64 17))) fun v93 h93 =>
 aK v93
 (aB (pu h93 (aA 5 (aH x57 7))) fun v94 h94 =>
 aB (pu h94 (aC G false 1 v94 h94)) fun v95 h95 =>
 lp [(aH x57 0), (aH x57 1), (aH x57 2), (aH x57 3), (aH x57 4), (aH x57 5), v95] h95)
 (dO (
 aB (pu h93 (aQ Tryd.prog .eql 3 true (aH x57 11) (.int .i64 18))) fun v96 h96 =>
 aK v96
 (some (.normal, [(aH x57 0), (aH x57 1), (aH x57 2), (aH x57 3), (aH x57 4), (aH x57 5), (aH x57 6), (aH x57 7), (aH x57 8), (aH x57 9), (aH x57 10), (aH x57 11), v96], h96))
 (aB (pu h96 (aQ Tryd.prog .eql 3 true (aH x57 11) (.int .i64 19))) fun v97 h97 =>
 some (.normal, [(aH x57 0), (aH x57 1), (aH x57 2), (aH x57 3), (aH x57 4), (aH x57 5), (aH x57 6), (aH x57 7), (aH x57 8), (aH x57 9), (aH x57 10), (aH x57 11), v97], h97))) fun e98 x98 h98 => jB e98
 (aK (aH x98 12)
 (aB (pu h98 (aQ Tryd.prog .eql 43 true (aH x98 8) (.int .u64 0))) fun v99 h99 =>
 aB (pu h99 (aA 0 (aH x98 7))) fun v100 h100 =>
 aB (pu h100 (aC G false 1 v100 h100)) fun v101 h101 =>
 aB (pu h101 (aQ Tryd.prog .eql 3 true v101 (.int .i64 18))) fun v102 h102 =>
 aB (pu h102 (aQ Tryd.prog .eql 4 false v99 v102)) fun v103 h103 =>
 aB (pu h103 (aA 2 (aH x98 4))) fun v104 h104 =>
 aB (pu h104 (aC G false 1 v104 h104)) fun v105 h105 =>
 aB (aE (bM.f G k) [v103] h105) fun v106 h106 =>
 aB (pu h106 (aZ [(0, 1), (1, 1)] [(.int .i64 0), (.int .i64 0)] [(0, (.int .i64 2)), (1, v106)])) fun v107 h107 =>
 aB (eP 2 1 (.agg [(.int .i64 0), (.int .i64 0)]) [(0, v107)] h107) fun v108 h108 =>
 aB (eQ 107 2 v105 v108 h108) fun v109 h109 =>
 aB (pu h109 (aA 2 (aH x98 4))) fun v110 h110 =>
 aB (eH (aO 1 v110 v109 h110)) fun v111 h111 =>
 aK v103
 (aB (pu h111 (aA 5 (aH x98 7))) fun v112 h112 =>
 aB (pu h112 (aC G false 1 v112 h112)) fun v113 h113 =>
 lp [(aH x98 0), (aH x98 1), (aH x98 2), (aH x98 3), (aH x98 4), (aH x98 5), v113] h113)
 (lp [(aH x98 0), (aH x98 1), (aH x98 2), (aH x98 3), (aH x98 4), (aH x98 5), (aH x98 10)] h111))
 (aB (pu h98 (aQ Tryd.prog .eql 3 true (aH x98 11) (.int .i64 20))) fun v114 h114 =>
 aK v114
 (aB (pu h114 (aA 5 (aH x98 7))) fun v115 h115 =>
 aB (pu h115 (aC G false 1 v115 h115)) fun v116 h116 =>
 aB (pu h116 (aA 0 (aH x98 4))) fun v117 h117 =>
 aB (eH (aO 1 v117 v116 h117)) fun v118 h118 =>
 aB (pu h118 (aC G true 5 (aH x98 4) h118)) fun v119 h119 =>
 aB (eH (aO 5 (aH x98 3) v119 h119)) fun v120 h120 =>
 some (.ret, [(aH x98 0), (aH x98 1), (aH x98 2), (aH x98 3), (aH x98 4), (aH x98 5), (aH x98 6)], h120))
 (dO (
 aB (pu h114 (dV (aH x98 0))) fun v121 h121 =>
 aB (pu h121 (aQ Tryd.prog .gtr 3 true v121 (.int .i64 0))) fun v122 h122 =>
 aB (gd v122 true h122 (pu h122 (aA 4 (aH x98 4)))) fun v123 h123 =>
 aB (gd v122 true h123 (pu h123 (aC G false 1 v123 h123))) fun v124 h124 =>
 aB (gd v122 true h124 (pu h124 (aQ Tryd.prog .lss 3 true v124 (.int .i64 0)))) fun v125 h125 =>
 aB (pu h125 (dM v122 v125 (.bool false))) fun v126 h126 =>
 aB (gd v126 true h126 (pu h126 (aA 0 (aH x98 7)))) fun v127 h127 =>
 aB (gd v126 true h127 (pu h127 (aC G false 1 v127 h127))) fun v128 h128 =>
 aB (gd v126 true h128 (pu h128 (aQ Tryd.prog .geq 3 true v128 (.int .i64 3)))) fun v129 h129 =>
 aB (gd v126 true h129 (some (v129, h129))) fun v130 h130 =>
 aB (gd v130 true h130 (pu h130 (aA 0 (aH x98 7)))) fun v131 h131 =>
 aB (gd v130 true h131 (pu h131 (aC G false 1 v131 h131))) fun v132 h132 =>
 aB (gd v130 true h132 (pu h132 (aQ Tryd.prog .leq 3 true v132 (.int .i64 5)))) fun v133 h133 =>
 aB (gd v126 true h133 (pu h133 (dM v130 v133 (.bool false)))) fun v134 h134 =>
 aB (gd v126 true h134 (some (v134, h134))) fun v135 h135 =>
 aB (gd v135 false h135 (pu h135 (aA 0 (aH x98 7)))) fun v136 h136 =>
 aB (gd v135 false h136 (pu h136 (aC G false 1 v136 h136))) fun v137 h137 =>
 aB (gd v135 false h137 (pu h137 (aQ Tryd.prog .eql 3 true v137 (.int .i64 10)))) fun v138 h138 =>
 aB (gd v126 true h138 (pu h138 (dM v135 (.bool true) v138))) fun v139 h139 =>
 aB (pu h139 (dM v126 v139 (.bool false))) fun v140 h140 =>
 aK v140
 (aB (pu h140 (aC G true 6 (aH x98 7) h140)) fun v141 h141 =>
 aB (aE (dD.f G k) [v141, (aH x98 8), (aH x98 9)] h141) fun v142 h142 =>
 aB (pu h142 (cL v142 0)) fun v143 h143 =>
 aB (pu h143 (cL v142 1)) fun v144 h144 =>
 aB (pu h144 (un .not v144)) fun v145 h145 =>
 aB (gd v145 false h145 (some (v143, h145))) fun v146 h146 =>
 aB (gd v145 false h146 (some ((aH x98 0), h146))) fun v147 h147 =>
 aB (gd v145 false h147 (some ((aH x98 6), h147))) fun v148 h148 =>
 aB (gd v145 false h148 (pu h148 (cB 2 v147 v148))) fun v149 h149 =>
 aB (gd v145 false h149 (pu h149 (aA 0 v149))) fun v150 h150 =>
 aB (gd v145 false h150 (pu h150 (aC G false 1 v150 h150))) fun v151 h151 =>
 aB (gd v145 false h151 (pu h151 (aQ Tryd.prog .lss 2 false v146 v151))) fun v152 h152 =>
 aB (pu h152 (dM v145 (.bool true) v152)) fun v153 h153 =>
 aB (gd v153 false h153 (some (v143, h153))) fun v154 h154 =>
 aB (gd v153 false h154 (some ((aH x98 0), h154))) fun v155 h155 =>
 aB (gd v153 false h155 (some ((aH x98 6), h155))) fun v156 h156 =>
 aB (gd v153 false h156 (pu h156 (cB 2 v155 v156))) fun v157 h157 =>
 aB (gd v153 false h157 (pu h157 (aA 1 v157))) fun v158 h158 =>
 aB (gd v153 false h158 (pu h158 (aC G false 1 v158 h158))) fun v159 h159 =>
 aB (gd v153 false h159 (pu h159 (aQ Tryd.prog .gtr 2 false v154 v159))) fun v160 h160 =>
 aB (pu h160 (dM v153 (.bool true) v160)) fun v161 h161 =>
 aK v161
 (aB (pu h161 (aA 4 (aH x98 4))) fun v162 h162 =>
 aB (eH (aO 1 v162 (aH x98 6) h162)) fun v163 h163 =>
 aB (pu h163 (aC G true 5 (aH x98 4) h163)) fun v164 h164 =>
 aB (eH (aO 5 (aH x98 3) v164 h164)) fun v165 h165 =>
 some (.ret, [(aH x98 0), (aH x98 1), (aH x98 2), (aH x98 3), (aH x98 4), (aH x98 5), (aH x98 7), (aH x98 8), (aH x98 9), (aH x98 10)], h165))
 (some (.normal, [(aH x98 0), (aH x98 1), (aH x98 2), (aH x98 3), (aH x98 4), (aH x98 5), (aH x98 7), (aH x98 8), (aH x98 9), (aH x98 10)], h161)))
 (some (.normal, [(aH x98 0), (aH x98 1), (aH x98 2), (aH x98 3), (aH x98 4), (aH x98 5), (aH x98 7), (aH x98 8), (aH x98 9), (aH x98 10)], h140))) fun e166 x166 h166 => jB e166
 (aB (pu h166 (aC G true 6 (aH x166 6) h166)) fun v167 h167 =>
 aB (pu h167 (aA 4 (aH x166 6))) fun v168 h168 =>
 aB (pu h168 (aC G false 1 v168 h168)) fun v169 h169 =>
 aB (pu h169 (cB 1 (aH x166 5) v169)) fun v170 h170 =>
 aB (pu h170 (aC G false 1 v170 h170)) fun v171 h171 =>
 aB (aE (bS.f G k) [v167, (aH x166 7), (aH x166 8), v171] h171) fun v172 h172 =>
 aB (pu h172 (cL v172 0)) fun v173 h173 =>
 aB (pu h173 (cL v172 1)) fun v174 h174 =>
 aB (pu h174 (aA 1 (aH x166 6))) fun v175 h175 =>
 aB (pu h175 (aC G false 1 v175 h175)) fun v176 h176 =>
 aB (pu h176 (cB 1 (aH x166 5) v176)) fun v177 h177 =>
 aB (eH (aO 1 v177 v173 h177)) fun v178 h178 =>
 lp [(aH x166 0), (aH x166 1), (aH x166 2), (aH x166 3), (aH x166 4), (aH x166 5), (aH x166 9)] h178)
 (fun i166 => if i166 = 2 then (lp [(aH x166 0), (aH x166 1), (aH x166 2), (aH x166 3), (aH x166 4), (aH x166 5), (aH x166 9)] h166) else (if i166 = 1 then (lp [(aH x166 0), (aH x166 1), (aH x166 2), (aH x166 3), (aH x166 4), (aH x166 5), .undef] h166) else (some (.exit i166, [(aH x166 0), (aH x166 1), (aH x166 2), (aH x166 3), (aH x166 4), (aH x166 5), .undef], h166))))
 (some (.ret, [(aH x166 0), (aH x166 1), (aH x166 2), (aH x166 3), (aH x166 4), (aH x166 5), .undef], h166)))))
 (fun i98 => if i98 = 2 then (lp [(aH x98 0), (aH x98 1), (aH x98 2), (aH x98 3), (aH x98 4), (aH x98 5), (aH x98 10)] h98) else (if i98 = 1 then (lp [(aH x98 0), (aH x98 1), (aH x98 2), (aH x98 3), (aH x98 4), (aH x98 5), (aH x98 6)] h98) else (some (.exit i98, [(aH x98 0), (aH x98 1), (aH x98 2), (aH x98 3), (aH x98 4), (aH x98 5), (aH x98 6)], h98))))
 (some (.ret, [(aH x98 0), (aH x98 1), (aH x98 2), (aH x98 3), (aH x98 4), (aH x98 5), (aH x98 6)], h98)))))
 (fun i57 => if i57 = 2 then (lp [(aH x57 0), (aH x57 1), (aH x57 2), (aH x57 3), (aH x57 4), (aH x57 5), (aH x57 10)] h57) else (if i57 = 1 then (lp [(aH x57 0), (aH x57 1), (aH x57 2), (aH x57 3), (aH x57 4), (aH x57 5), (aH x57 6)] h57) else (some (.exit i57, [(aH x57 0), (aH x57 1), (aH x57 2), (aH x57 3), (aH x57 4), (aH x57 5), (aH x57 6)], h57))))
 (some (.ret, [(aH x57 0), (aH x57 1), (aH x57 2), (aH x57 3), (aH x57 4), (aH x57 5), (aH x57 6)], h57))))
noncomputable def bH.c (G : aI) (k : Nat) (self : dE) (x0 x1 x2 x3 : AV) (h : aF) : Option (AV × aF) := fZ (
 aB (dH x0 h) fun v0 h0 =>
 aB (eY 40 (.agg [(.int .i64 0), .nils, .nils, (.int .i64 0), (.int .i64 0)]) h0) fun v1 h1 =>
 aB (bF (aX.f G k) [x2] h1) fun v2 h2 =>
 aB (pu h2 (aZ [(0, 1), (1, 1), (2, 1), (3, 1), (4, 1)] [(.int .i64 0), .nils, .nils, (.int .i64 0), (.int .i64 0)] [(1, v2), (4, (.int .i64 (-1)))])) fun v3 h3 =>
 aB (eY 40 (.agg [(.int .i64 0), .nils, .nils, (.int .i64 0), (.int .i64 0)]) h3) fun v4 h4 =>
 aB (eH (aO 5 v4 v3 h4)) fun v5 h5 =>
 aB (pu h5 (aA 1 v0)) fun v6 h6 =>
 aB (pu h6 (aC G false 1 v6 h6)) fun v7 h7 =>
 aB (pu h7 (aQ Tryd.prog .add 3 true v7 (.int .i64 1))) fun v8 h8 =>
 aB (jA 43 1 (.int .u64 0) v8 v8 h8) fun v9 h9 =>
 vK [(v1, 2, 107, 2), (v4, 2, 107, 2)] h9 fun hv10 =>
 dO (gH (bH.l4 G k hv10.length self) k [x1, x3, v0, v1, v4, v9, (.int .i64 0)] hv10) fun e10 x10 h10 => jB e10
 (fX [aC G true 5 (aH x10 3) h10] h.length h10)
 (fun i10 => if i10 = 0 then (fX [aC G true 5 (aH x10 3) h10] h.length h10) else (none))
 (fX [aC G true 5 (aH x10 3) h10] h.length h10))
noncomputable def bH.f (G : aI) : Nat → dE
 | 0 => fun _ _ => none
 | k + 1 => fun args h => aIS args fun x0 x1 x2 x3 => (bH.c G k (bH.f G k) x0 x1 x2 x3 h)
theorem bH.step (G : aI) (k : Nat) (x0 x1 x2 x3 : AV) (h : aF) : bH.f G (k + 1) [x0, x1, x2, x3] h = bH.c G k (bH.f G k) x0 x1 x2 x3 h := rfl
noncomputable def alembiclaw24_SelectEach.ann : Ann := gG [8] [] [(19, [1, 2, 3, 8, 17, 19])] [(18, [1, 2, 3, 8, 17]), (16, [1, 2, 3, 8, 17, 18]), (14, [1, 2, 3, 8, 17, 18])]
noncomputable def alembiclaw24_SelectEach.env (G : aI) (k : Nat) (self : dE) : List (Nat × Bool × dE) := [(15, true, cZ.f G k), (17, true, bU.f G k), (19, true, bP.f G k), (20, true, bH.f G k), (22, true, aW.f G k), (26, true, bC.f G k)]
noncomputable def alembiclaw24_SelectEach.l19 (G : aI) (k n0 : Nat) (self : dE) (lp : iP) : iP := fun xs h0 => qJ n0 xs h0 fun h =>
 aB (pu h (aA 2 (aH xs 3))) fun v57 h57 =>
 aB (pu h57 (aC G false 1 v57 h57)) fun v58 h58 =>
 aB (pu h58 (aQ Tryd.prog .eql 3 false (aH xs 5) v58)) fun v59 h59 =>
 aB (gd v59 false h59 (some ((aH xs 5), h59))) fun v60 h60 =>
 aB (gd v59 false h60 (pu h60 (aA 3 (aH xs 3)))) fun v61 h61 =>
 aB (gd v59 false h61 (pu h61 (aC G false 1 v61 h61))) fun v62 h62 =>
 aB (gd v59 false h62 (pu h62 (aQ Tryd.prog .eql 3 false v60 v62))) fun v63 h63 =>
 aB (pu h63 (dM v59 (.bool true) v63)) fun v64 h64 =>
 aB (gd v64 false h64 (some ((aH xs 5), h64))) fun v65 h65 =>
 aB (gd v64 false h65 (pu h65 (aA 4 (aH xs 3)))) fun v66 h66 =>
 aB (gd v64 false h66 (pu h66 (aC G false 1 v66 h66))) fun v67 h67 =>
 aB (gd v64 false h67 (pu h67 (aQ Tryd.prog .eql 3 false v65 v67))) fun v68 h68 =>
 aB (pu h68 (dM v64 (.bool true) v68)) fun v69 h69 =>
 aB (gd v69 false h69 (some ((aH xs 5), h69))) fun v70 h70 =>
 aB (gd v69 false h70 (pu h70 (aA 1 (aH xs 3)))) fun v71 h71 =>
 aB (gd v69 false h71 (pu h71 (aC G false 1 v71 h71))) fun v72 h72 =>
 aB (gd v69 false h72 (pu h72 (aQ Tryd.prog .eql 3 false v70 v72))) fun v73 h73 =>
 aB (pu h73 (dM v69 (.bool true) v73)) fun v74 h74 =>
 aK v74
 (aB (pu h74 (aQ Tryd.prog .sub 3 true (aH xs 5) (.int .i64 1))) fun v75 h75 =>
 lp [(aH xs 0), (aH xs 1), (aH xs 2), (aH xs 3), (aH xs 4), v75] h75)
 (some (.exit 0, [(aH xs 0), (aH xs 1), (aH xs 2), (aH xs 3), (aH xs 4), (aH xs 5)], h74))
noncomputable def alembiclaw24_SelectEach.c (G : aI) (k : Nat) (self : dE) (x0 x1 x2 x3 x4 x5 x6 x7 : AV) (h : aF) : Option (AV × aF) := fZ (
 aB (eY 60 x0 h) fun v0 h0 =>
 aB (aE (cZ.f G k) [] h0) fun v1 h1 =>
 aB (pu h1 (un .not v1)) fun v2 h2 =>
 aK v2
 (bK [(.bool false)] h.length h2)
 (aB (pu h2 (aA 0 v0)) fun v3 h3 =>
 aB (pu h3 (aC G false 1 v3 h3)) fun v4 h4 =>
 aB (pu h4 (aQ Tryd.prog .lss 3 true v4 (.int .i64 2))) fun v5 h5 =>
 aB (gd v5 false h5 (pu h5 (aA 0 v0))) fun v6 h6 =>
 aB (gd v5 false h6 (pu h6 (aC G false 1 v6 h6))) fun v7 h7 =>
 aB (gd v5 false h7 (pu h7 (aQ Tryd.prog .gtr 3 true v7 (.int .i64 14)))) fun v8 h8 =>
 aB (pu h8 (dM v5 (.bool true) v8)) fun v9 h9 =>
 aK v9
 (bK [v1] h.length h9)
 (aB (aE (bC.f G k) [x4, (.int .i64 28)] h9) fun v10 h10 =>
 aB (pu h10 (aA 2 v0)) fun v11 h11 =>
 aB (eH (aO 1 v11 v10 h11)) fun v12 h12 =>
 aB (aE (bC.f G k) [x5, (.int .i64 28)] h12) fun v13 h13 =>
 aB (pu h13 (aA 3 v0)) fun v14 h14 =>
 aB (eH (aO 1 v14 v13 h14)) fun v15 h15 =>
 aB (aE (bC.f G k) [x6, (.int .i64 28)] h15) fun v16 h16 =>
 aB (pu h16 (aA 4 v0)) fun v17 h17 =>
 aB (eH (aO 1 v17 v16 h17)) fun v18 h18 =>
 aB (aE (bC.f G k) [x7, (.int .i64 28)] h18) fun v19 h19 =>
 aB (pu h19 (aA 1 v0)) fun v20 h20 =>
 aB (eH (aO 1 v20 v19 h20)) fun v21 h21 =>
 aB (pu h21 (aA 0 v0)) fun v22 h22 =>
 aB (pu h22 (aC G false 1 v22 h22)) fun v23 h23 =>
 aB (pu h23 (aQ Tryd.prog .eql 3 true v23 (.int .i64 10))) fun v24 h24 =>
 aB (gd v24 false h24 (pu h24 (aA 0 v0))) fun v25 h25 =>
 aB (gd v24 false h25 (pu h25 (aC G false 1 v25 h25))) fun v26 h26 =>
 aB (gd v24 false h26 (pu h26 (aQ Tryd.prog .eql 3 true v26 (.int .i64 11)))) fun v27 h27 =>
 aB (pu h27 (dM v24 (.bool true) v27)) fun v28 h28 =>
 aB (gd v28 false h28 (pu h28 (aA 0 v0))) fun v29 h29 =>
 aB (gd v28 false h29 (pu h29 (aC G false 1 v29 h29))) fun v30 h30 =>
 aB (gd v28 false h30 (pu h30 (aQ Tryd.prog .eql 3 true v30 (.int .i64 12)))) fun v31 h31 =>
 aB (pu h31 (dM v28 (.bool true) v31)) fun v32 h32 =>
 aB (pu h32 (aA 5 v0)) fun v33 h33 =>
 aB (pu h33 (aC G false 1 v33 h33)) fun v34 h34 =>
 aB (pu h34 (aQ Tryd.prog .and 2 true v34 (.int .i64 63))) fun v35 h35 =>
 aB (pu h35 (aA 5 v0)) fun v36 h36 =>
 aB (eH (aO 1 v36 v35 h36)) fun v37 h37 =>
 dO (
 aB (pu h37 (un .not v32)) fun v38 h38 =>
 aK v38
 (aB (pu h38 (aA 5 v0)) fun v39 h39 =>
 aB (eH (aO 1 v39 (.int .i64 0) h39)) fun v40 h40 =>
 some (.normal, [x1, x2, x3, v0, v1, v32], h40))
 (some (.normal, [x1, x2, x3, v0, v1, v32], h38))) fun e41 x41 h41 => jB e41
 (dO (
 aB (pu h41 (aA 0 (aH x41 3))) fun v42 h42 =>
 aB (pu h42 (aC G false 1 v42 h42)) fun v43 h43 =>
 aB (pu h43 (aQ Tryd.prog .neq 3 true v43 (.int .i64 14))) fun v44 h44 =>
 aK v44
 (aB (pu h44 (aA 4 (aH x41 3))) fun v45 h45 =>
 aB (eH (aO 1 v45 (.int .i64 0) h45)) fun v46 h46 =>
 some (.normal, [(aH x41 0), (aH x41 1), (aH x41 2), (aH x41 3), (aH x41 4), (aH x41 5)], h46))
 (some (.normal, [(aH x41 0), (aH x41 1), (aH x41 2), (aH x41 3), (aH x41 4), (aH x41 5)], h44))) fun e47 x47 h47 => jB e47
 (dO (
 aB (pu h47 (aA 0 (aH x47 3))) fun v48 h48 =>
 aB (pu h48 (aC G false 1 v48 h48)) fun v49 h49 =>
 aB (pu h49 (aQ Tryd.prog .eql 3 true v49 (.int .i64 2))) fun v50 h50 =>
 aB (gd v50 false h50 (some ((aH x47 5), h50))) fun v51 h51 =>
 aB (pu h51 (dM v50 (.bool true) v51)) fun v52 h52 =>
 aK v52
 (aB (pu h52 (aA 3 (aH x47 3))) fun v53 h53 =>
 aB (eH (aO 1 v53 (.int .i64 0) h53)) fun v54 h54 =>
 some (.normal, [(aH x47 0), (aH x47 1), (aH x47 2), (aH x47 3), (aH x47 4)], h54))
 (some (.normal, [(aH x47 0), (aH x47 1), (aH x47 2), (aH x47 3), (aH x47 4)], h52))) fun e55 x55 h55 => jB e55
 (dO (gH (alembiclaw24_SelectEach.l19 G k h55.length self) k [(aH x55 0), (aH x55 1), (aH x55 2), (aH x55 3), (aH x55 4), (.int .i64 27)] h55) fun e56 x56 h56 => jB e56
 (aB (pu h56 (aZ [(0, 1), (1, 1), (2, 1)] [.nils, (.int .i64 0), (.int .i64 0)] [(1, (.int .i64 28)), (2, (.int .i64 4))])) fun v76 h76 =>
 aB (eY 24 (.agg [.nils, (.int .i64 0), (.int .i64 0)]) h76) fun v77 h77 =>
 aB (eH (aO 3 v77 v76 h77)) fun v78 h78 =>
 aB (pu h78 (aA 2 (aH x56 3))) fun v79 h79 =>
 aB (pu h79 (aC G false 1 v79 h79)) fun v80 h80 =>
 aB (pu h80 (aZ [(0, 1), (1, 1), (2, 1), (3, 1), (4, 1), (5, 1)] [(.int .i64 0), (.int .i64 0), (.int .i64 0), (.int .i64 0), (.int .i64 0), (.int .i64 0)] [(0, (.int .i64 15)), (1, v80), (2, (aH x56 5)), (5, (.int .i64 0))])) fun v81 h81 =>
 aB (pu h81 (aA 3 (aH x56 3))) fun v82 h82 =>
 aB (pu h82 (aC G false 1 v82 h82)) fun v83 h83 =>
 aB (pu h83 (aZ [(0, 1), (1, 1), (2, 1), (3, 1), (4, 1), (5, 1)] [(.int .i64 0), (.int .i64 0), (.int .i64 0), (.int .i64 0), (.int .i64 0), (.int .i64 0)] [(0, (.int .i64 15)), (1, v83), (2, (aH x56 5)), (5, (.int .i64 1))])) fun v84 h84 =>
 aB (pu h84 (aA 4 (aH x56 3))) fun v85 h85 =>
 aB (pu h85 (aC G false 1 v85 h85)) fun v86 h86 =>
 aB (pu h86 (aZ [(0, 1), (1, 1), (2, 1), (3, 1), (4, 1), (5, 1)] [(.int .i64 0), (.int .i64 0), (.int .i64 0), (.int .i64 0), (.int .i64 0), (.int .i64 0)] [(0, (.int .i64 15)), (1, v86), (2, (aH x56 5)), (5, (.int .i64 2))])) fun v87 h87 =>
 aB (pu h87 (aC G true 6 (aH x56 3) h87)) fun v88 h88 =>
 aB (pu h88 (aA 1 (aH x56 3))) fun v89 h89 =>
 aB (pu h89 (aC G false 1 v89 h89)) fun v90 h90 =>
 aB (pu h90 (aZ [(0, 1), (1, 1), (2, 1), (3, 1), (4, 1), (5, 1)] [(.int .i64 0), (.int .i64 0), (.int .i64 0), (.int .i64 0), (.int .i64 0), (.int .i64 0)] [(0, (.int .i64 16)), (2, (aH x56 5)), (3, v90), (5, (.int .i64 3))])) fun v91 h91 =>
 aB (pu h91 (aZ [(0, 1), (1, 1), (2, 1), (3, 1), (4, 1), (5, 1)] [(.int .i64 0), (.int .i64 0), (.int .i64 0), (.int .i64 0), (.int .i64 0), (.int .i64 0)] [(0, (.int .i64 20))])) fun v92 h92 =>
 aB (eP 6 6 (.agg [(.int .i64 0), (.int .i64 0), (.int .i64 0), (.int .i64 0), (.int .i64 0), (.int .i64 0)]) [(0, v81), (1, v84), (2, v87), (3, v88), (4, v91), (5, v92)] h92) fun v93 h93 =>
 aB (pu h93 (aA 0 v77)) fun v94 h94 =>
 aB (eH (aO 1 v94 v93 h94)) fun v95 h95 =>
 aB (eP 1 4 (.int .u64 0) [(0, (aH x56 0)), (1, (aH x56 1)), (2, (aH x56 2)), (3, (.int .u64 0))] h95) fun v96 h96 =>
 aB (pu h96 (aC G true 3 v77 h96)) fun v97 h97 =>
 aB (aE (bP.f G k) [v97] h97) fun v98 h98 =>
 aB (aE (bH.f G k) [v98, .nils, v96, (.int .i64 10)] h98) fun v99 h99 =>
 aB (eY 40 (.agg [(.int .i64 0), .nils, .nils, (.int .i64 0), (.int .i64 0)]) h99) fun v100 h100 =>
 aB (eH (aO 5 v100 v99 h100)) fun v101 h101 =>
 aB (pu h101 (aC G true 3 v77 h101)) fun v102 h102 =>
 aB (aE (bU.f G k) [v102] h102) fun v103 h103 =>
 aB (pu h103 (cL v103 0)) fun v104 h104 =>
 aB (pu h104 (cL v103 1)) fun v105 h105 =>
 aB (aE (aW.f G k) [v104, v96, (.int .i64 400)] h105) fun v106 h106 =>
 aB (eY 46 (.agg [(.int .i64 0), .nils, (.int .u64 0), (.int .u64 0), (.int .u64 0), (.int .u64 0), (.int .u64 0), (.int .u64 0), (.int .u64 0), (.int .u64 0), (.int .u64 0), (.int .u64 0), (.int .u64 0), (.int .u64 0), (.int .u64 0), (.int .u64 0), (.int .u64 0), (.int .u64 0), (.int .u64 0), (.int .u64 0), (.int .u64 0), (.int .u64 0), (.int .u64 0), (.int .u64 0), (.int .u64 0), (.int .u64 0), (.int .u64 0), (.int .u64 0), (.int .u64 0), (.int .u64 0), (.int .u64 0), (.int .u64 0), (.int .u64 0), .nils, (.int .i64 0)]) h106) fun v107 h107 =>
 aB (eH (aO 35 v107 v106 h107)) fun v108 h108 =>
 aB (gd (aH x56 4) true h108 (some (v105, h108))) fun v109 h109 =>
 aB (gd (aH x56 4) true h109 (pu h109 (aQ Tryd.prog .eql 30 true v109 .nili))) fun v110 h110 =>
 aB (pu h110 (dM (aH x56 4) v110 (.bool false))) fun v111 h111 =>
 aB (gd v111 true h111 (pu h111 (aA 0 v107))) fun v112 h112 =>
 aB (gd v111 true h112 (pu h112 (aC G false 1 v112 h112))) fun v113 h113 =>
 aB (gd v111 true h113 (pu h113 (aQ Tryd.prog .eql 3 true v113 (.int .i64 0)))) fun v114 h114 =>
 aB (pu h114 (dM v111 v114 (.bool false))) fun v115 h115 =>
 aB (gd v115 true h115 (pu h115 (aA 1 v107))) fun v116 h116 =>
 aB (gd v115 true h116 (pu h116 (aC G false 1 v116 h116))) fun v117 h117 =>
 aB (gd v115 true h117 (pu h117 (dV v117))) fun v118 h118 =>
 aB (gd v115 true h118 (pu h118 (aQ Tryd.prog .eql 3 true v118 (.int .i64 4)))) fun v119 h119 =>
 aB (pu h119 (dM v115 v119 (.bool false))) fun v120 h120 =>
 aB (gd v120 true h120 (pu h120 (aA 0 v100))) fun v121 h121 =>
 aB (gd v120 true h121 (pu h121 (aC G false 1 v121 h121))) fun v122 h122 =>
 aB (gd v120 true h122 (pu h122 (aQ Tryd.prog .eql 3 true v122 (.int .i64 0)))) fun v123 h123 =>
 aB (pu h123 (dM v120 v123 (.bool false))) fun v124 h124 =>
 aB (gd v124 true h124 (pu h124 (aA 1 v107))) fun v125 h125 =>
 aB (gd v124 true h125 (pu h125 (aC G false 1 v125 h125))) fun v126 h126 =>
 aB (gd v124 true h126 (pu h126 (cB 1 v126 (.int .i64 3)))) fun v127 h127 =>
 aB (gd v124 true h127 (pu h127 (aC G false 1 v127 h127))) fun v128 h128 =>
 aB (gd v124 true h128 (pu h128 (aA 1 v100))) fun v129 h129 =>
 aB (gd v124 true h129 (pu h129 (aC G false 1 v129 h129))) fun v130 h130 =>
 aB (gd v124 true h130 (pu h130 (cB 1 v130 (.int .i64 3)))) fun v131 h131 =>
 aB (gd v124 true h131 (pu h131 (aC G false 1 v131 h131))) fun v132 h132 =>
 aB (gd v124 true h132 (pu h132 (aQ Tryd.prog .eql 43 false v128 v132))) fun v133 h133 =>
 aB (pu h133 (dM v124 v133 (.bool false))) fun v134 h134 =>
 bK [v134] h.length h134)
 (fun i56 => if i56 = 0 then (aB (pu h56 (aZ [(0, 1), (1, 1), (2, 1)] [.nils, (.int .i64 0), (.int .i64 0)] [(1, (.int .i64 28)), (2, (.int .i64 4))])) fun v135 h135 =>
 aB (eY 24 (.agg [.nils, (.int .i64 0), (.int .i64 0)]) h135) fun v136 h136 =>
 aB (eH (aO 3 v136 v135 h136)) fun v137 h137 =>
 aB (pu h137 (aA 2 (aH x56 3))) fun v138 h138 =>
 aB (pu h138 (aC G false 1 v138 h138)) fun v139 h139 =>
 aB (pu h139 (aZ [(0, 1), (1, 1), (2, 1), (3, 1), (4, 1), (5, 1)] [(.int .i64 0), (.int .i64 0), (.int .i64 0), (.int .i64 0), (.int .i64 0), (.int .i64 0)] [(0, (.int .i64 15)), (1, v139), (2, (aH x56 5)), (5, (.int .i64 0))])) fun v140 h140 =>
 aB (pu h140 (aA 3 (aH x56 3))) fun v141 h141 =>
 aB (pu h141 (aC G false 1 v141 h141)) fun v142 h142 =>
 aB (pu h142 (aZ [(0, 1), (1, 1), (2, 1), (3, 1), (4, 1), (5, 1)] [(.int .i64 0), (.int .i64 0), (.int .i64 0), (.int .i64 0), (.int .i64 0), (.int .i64 0)] [(0, (.int .i64 15)), (1, v142), (2, (aH x56 5)), (5, (.int .i64 1))])) fun v143 h143 =>
 aB (pu h143 (aA 4 (aH x56 3))) fun v144 h144 =>
 aB (pu h144 (aC G false 1 v144 h144)) fun v145 h145 =>
 aB (pu h145 (aZ [(0, 1), (1, 1), (2, 1), (3, 1), (4, 1), (5, 1)] [(.int .i64 0), (.int .i64 0), (.int .i64 0), (.int .i64 0), (.int .i64 0), (.int .i64 0)] [(0, (.int .i64 15)), (1, v145), (2, (aH x56 5)), (5, (.int .i64 2))])) fun v146 h146 =>
 aB (pu h146 (aC G true 6 (aH x56 3) h146)) fun v147 h147 =>
 aB (pu h147 (aA 1 (aH x56 3))) fun v148 h148 =>
 aB (pu h148 (aC G false 1 v148 h148)) fun v149 h149 =>
 aB (pu h149 (aZ [(0, 1), (1, 1), (2, 1), (3, 1), (4, 1), (5, 1)] [(.int .i64 0), (.int .i64 0), (.int .i64 0), (.int .i64 0), (.int .i64 0), (.int .i64 0)] [(0, (.int .i64 16)), (2, (aH x56 5)), (3, v149), (5, (.int .i64 3))])) fun v150 h150 =>
 aB (pu h150 (aZ [(0, 1), (1, 1), (2, 1), (3, 1), (4, 1), (5, 1)] [(.int .i64 0), (.int .i64 0), (.int .i64 0), (.int .i64 0), (.int .i64 0), (.int .i64 0)] [(0, (.int .i64 20))])) fun v151 h151 =>
 aB (eP 6 6 (.agg [(.int .i64 0), (.int .i64 0), (.int .i64 0), (.int .i64 0), (.int .i64 0), (.int .i64 0)]) [(0, v140), (1, v143), (2, v146), (3, v147), (4, v150), (5, v151)] h151) fun v152 h152 =>
 aB (pu h152 (aA 0 v136)) fun v153 h153 =>
 aB (eH (aO 1 v153 v152 h153)) fun v154 h154 =>
 aB (eP 1 4 (.int .u64 0) [(0, (aH x56 0)), (1, (aH x56 1)), (2, (aH x56 2)), (3, (.int .u64 0))] h154) fun v155 h155 =>
 aB (pu h155 (aC G true 3 v136 h155)) fun v156 h156 =>
 aB (aE (bP.f G k) [v156] h156) fun v157 h157 =>
 aB (aE (bH.f G k) [v157, .nils, v155, (.int .i64 10)] h157) fun v158 h158 =>
 aB (eY 40 (.agg [(.int .i64 0), .nils, .nils, (.int .i64 0), (.int .i64 0)]) h158) fun v159 h159 =>
 aB (eH (aO 5 v159 v158 h159)) fun v160 h160 =>
 aB (pu h160 (aC G true 3 v136 h160)) fun v161 h161 =>
 aB (aE (bU.f G k) [v161] h161) fun v162 h162 =>
 aB (pu h162 (cL v162 0)) fun v163 h163 =>
 aB (pu h163 (cL v162 1)) fun v164 h164 =>
 aB (aE (aW.f G k) [v163, v155, (.int .i64 400)] h164) fun v165 h165 =>
 aB (eY 46 (.agg [(.int .i64 0), .nils, (.int .u64 0), (.int .u64 0), (.int .u64 0), (.int .u64 0), (.int .u64 0), (.int .u64 0), (.int .u64 0), (.int .u64 0), (.int .u64 0), (.int .u64 0), (.int .u64 0), (.int .u64 0), (.int .u64 0), (.int .u64 0), (.int .u64 0), (.int .u64 0), (.int .u64 0), (.int .u64 0), (.int .u64 0), (.int .u64 0), (.int .u64 0), (.int .u64 0), (.int .u64 0), (.int .u64 0), (.int .u64 0), (.int .u64 0), (.int .u64 0), (.int .u64 0), (.int .u64 0), (.int .u64 0), (.int .u64 0), .nils, (.int .i64 0)]) h165) fun v166 h166 =>
 aB (eH (aO 35 v166 v165 h166)) fun v167 h167 =>
 aB (gd (aH x56 4) true h167 (some (v164, h167))) fun v168 h168 =>
 aB (gd (aH x56 4) true h168 (pu h168 (aQ Tryd.prog .eql 30 true v168 .nili))) fun v169 h169 =>
 aB (pu h169 (dM (aH x56 4) v169 (.bool false))) fun v170 h170 =>
 aB (gd v170 true h170 (pu h170 (aA 0 v166))) fun v171 h171 =>
 aB (gd v170 true h171 (pu h171 (aC G false 1 v171 h171))) fun v172 h172 =>
 aB (gd v170 true h172 (pu h172 (aQ Tryd.prog .eql 3 true v172 (.int .i64 0)))) fun v173 h173 =>
 aB (pu h173 (dM v170 v173 (.bool false))) fun v174 h174 =>
 aB (gd v174 true h174 (pu h174 (aA 1 v166))) fun v175 h175 =>
 aB (gd v174 true h175 (pu h175 (aC G false 1 v175 h175))) fun v176 h176 =>
 aB (gd v174 true h176 (pu h176 (dV v176))) fun v177 h177 =>
 aB (gd v174 true h177 (pu h177 (aQ Tryd.prog .eql 3 true v177 (.int .i64 4)))) fun v178 h178 =>
 aB (pu h178 (dM v174 v178 (.bool false))) fun v179 h179 =>
 aB (gd v179 true h179 (pu h179 (aA 0 v159))) fun v180 h180 =>
 aB (gd v179 true h180 (pu h180 (aC G false 1 v180 h180))) fun v181 h181 =>
 aB (gd v179 true h181 (pu h181 (aQ Tryd.prog .eql 3 true v181 (.int .i64 0)))) fun v182 h182 =>
 aB (pu h182 (dM v179 v182 (.bool false))) fun v183 h183 =>
 aB (gd v183 true h183 (pu h183 (aA 1 v166))) fun v184 h184 =>
 aB (gd v183 true h184 (pu h184 (aC G false 1 v184 h184))) fun v185 h185 =>
 aB (gd v183 true h185 (pu h185 (cB 1 v185 (.int .i64 3)))) fun v186 h186 =>
 aB (gd v183 true h186 (pu h186 (aC G false 1 v186 h186))) fun v187 h187 =>
 aB (gd v183 true h187 (pu h187 (aA 1 v159))) fun v188 h188 =>
 aB (gd v183 true h188 (pu h188 (aC G false 1 v188 h188))) fun v189 h189 =>
 aB (gd v183 true h189 (pu h189 (cB 1 v189 (.int .i64 3)))) fun v190 h190 =>
 aB (gd v183 true h190 (pu h190 (aC G false 1 v190 h190))) fun v191 h191 =>
 aB (gd v183 true h191 (pu h191 (aQ Tryd.prog .eql 43 false v187 v191))) fun v192 h192 =>
 aB (pu h192 (dM v183 v192 (.bool false))) fun v193 h193 =>
 bK [v193] h.length h193) else (none))
 (bK [.undef] h.length h56))
 (fun i55 => none)
 (bK [.undef] h.length h55))
 (fun i47 => none)
 (bK [.undef] h.length h47))
 (fun i41 => none)
 (bK [.undef] h.length h41))))
noncomputable def alembiclaw24_SelectEach.f (G : aI) : Nat → dE
 | 0 => fun _ _ => none
 | k + 1 => fun args h => aLj args fun x0 x1 x2 x3 x4 x5 x6 x7 => (alembiclaw24_SelectEach.c G k (alembiclaw24_SelectEach.f G k) x0 x1 x2 x3 x4 x5 x6 x7 h)
theorem alembiclaw24_SelectEach.step (G : aI) (k : Nat) (x0 x1 x2 x3 x4 x5 x6 x7 : AV) (h : aF) : alembiclaw24_SelectEach.f G (k + 1) [x0, x1, x2, x3, x4, x5, x6, x7] h = alembiclaw24_SelectEach.c G k (alembiclaw24_SelectEach.f G k) x0 x1 x2 x3 x4 x5 x6 x7 h := rfl
end Go.Proofs.YtdfglgnflldkpaaDoor.Mir
