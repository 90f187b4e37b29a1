/- Part 6 of the proof: the functions that the statement reaches, and their contracts. -/
import Derived.Test.YtlkgkfgkiidhdaaDoorVo5
import Derived.Test.YtlkgkfgkiidhdaaDoorProg
import Derived.KernelRfl
namespace Go.Proofs.YtlkgkfgkiidhdaaDoor.Mir
open Go
set_option linter.unusedVariables false
noncomputable def aT.ann : Ann := fD [] [] [(4, [0, 1, 4, 5])] []
noncomputable def aT.env (G : aC) (k : Nat) (self : cK) : List (Nat × Bool × cK) := []
noncomputable def aT.l4 (G : aC) (k n0 : Nat) (self : cK) (lp : dO) : dO := fun xs h0 => gX n0 xs h0 fun h =>
 aE (pu h (cB (aG xs 0))) fun v4 h4 =>
 aE (pu h4 (bC Tryd.prog .lss 3 false (aG xs 3) v4)) fun v5 h5 =>
 bK v5
 (aE (pu h5 (aM 1 (aG xs 0) (aG xs 3))) fun v6 h6 =>
 aE (pu h6 (aH G false 1 v6 h6)) fun v7 h7 =>
 aE (pu h7 (aM 1 (aG xs 1) (aG xs 3))) fun v8 h8 =>
 aE (pu h8 (aH G false 1 v8 h8)) fun v9 h9 =>
 aE (pu h9 (bC Tryd.prog .eql 3 false v7 v9)) fun v10 h10 =>
 aE (pu h10 (un .not v10)) fun v11 h11 =>
 bK v11
 (some (.ret, [(aG xs 0), (aG xs 1), (.bool false), (aG xs 3)], h11))
 (aE (pu h11 (bC Tryd.prog .add 3 true (aG xs 3) (.int .i64 1))) fun v12 h12 =>
 lp [(aG xs 0), (aG xs 1), (aG xs 2), v12] h12))
 (some (.exit 0, [(aG xs 0), (aG xs 1), (aG xs 2), (aG xs 3)], h5))
noncomputable def aT.c (G : aC) (k : Nat) (self : cK) (x0 x1 : AV) (h : aA) : Option (AV × aA) := fQ (
 aE (pu h (cB x0)) fun v0 h0 =>
 aE (pu h0 (cB x1)) fun v1 h1 =>
 aE (pu h1 (bC Tryd.prog .neq 3 false v0 v1)) fun v2 h2 =>
 bK v2
 (cS [(.bool false)] h.length h2)
 (dW (cC (aT.l4 G k h2.length self) k [x0, x1, (.bool false), (.int .i64 0)] h2) fun e3 x3 h3 => iJ e3
 (none)
 (fun i3 => if i3 = 0 then (cS [(.bool true)] h.length h3) else (none))
 (cS [(aG x3 2)] h.length h3)))
noncomputable def aT.f (G : aC) : Nat → cK
 | 0 => fun _ _ => none
 | k + 1 => fun args h => lW args fun x0 x1 => (aT.c G k (aT.f G k) x0 x1 h)
theorem aT.step (G : aC) (k : Nat) (x0 x1 : AV) (h : aA) : aT.f G (k + 1) [x0, x1] h = aT.c G k (aT.f G k) x0 x1 h := rfl
noncomputable def cG.ann : Ann := fD [] [7] [(15, [2, 7, 44, 45, 46])] [(13, [2, 6]), (12, [1, 2, 5, 36])]
noncomputable def cG.env (G : aC) (k : Nat) (self : cK) : List (Nat × Bool × cK) := [(53, false, aX.f G k), (54, false, aB.f G k)]
noncomputable def cG.l15 (G : aC) (k n0 : Nat) (self : cK) (lp : dO) : dO := fun xs h0 => gX n0 xs h0 fun h =>
 aE (pu h (bC Tryd.prog .lss 3 false (aG xs 4) (aG xs 3))) fun v34 h34 =>
 bK v34
 (aE (pu h34 (aM 1 (aG xs 2) (aG xs 4))) fun v35 h35 =>
 aE (pu h35 (aH G false 1 v35 h35)) fun v36 h36 =>
 aE (pu h36 (bC Tryd.prog .geq 2 true v36 (.int .i64 0))) fun v37 h37 =>
 aE (gd v37 true h37 (some (v36, h37))) fun v38 h38 =>
 aE (gd v37 true h38 (pu h38 (aF 0 (aG xs 0)))) fun v39 h39 =>
 aE (gd v37 true h39 (pu h39 (aH G false 1 v39 h39))) fun v40 h40 =>
 aE (gd v37 true h40 (pu h40 (cB v40))) fun v41 h41 =>
 aE (gd v37 true h41 (pu h41 (bC Tryd.prog .lss 2 false v38 v41))) fun v42 h42 =>
 aE (pu h42 (dL v37 v42 (.bool false))) fun v43 h43 =>
 bK v43
 (aE (dN 1 1 (.int .i64 0) [(0, v36)] h43) fun v44 h44 =>
 aE (eQ 3 1 (aG xs 1) v44 h44) fun v45 h45 =>
 aE (pu h45 (bC Tryd.prog .add 3 true (aG xs 4) (.int .i64 1))) fun v46 h46 =>
 lp [(aG xs 0), v45, (aG xs 2), (aG xs 3), v46] h46)
 (aE (pu h43 (bC Tryd.prog .add 3 true (aG xs 4) (.int .i64 1))) fun v47 h47 =>
 lp [(aG xs 0), (aG xs 1), (aG xs 2), (aG xs 3), v47] h47))
 (some (.exit 1, [(aG xs 0), (aG xs 1), (aG xs 2), (aG xs 3), (aG xs 4)], h34))
noncomputable def cG.c (G : aC) (k : Nat) (self : cK) (x0 x1 : AV) (h : aA) : Option (AV × aA) := fQ (
 aE (eE x0 h) fun v0 h0 =>
 aE (pu h0 (bC Tryd.prog .lss 3 true x1 (.int .i64 0))) fun v1 h1 =>
 aE (gd v1 false h1 (some (x1, h1))) fun v2 h2 =>
 aE (gd v1 false h2 (pu h2 (aF 0 v0))) fun v3 h3 =>
 aE (gd v1 false h3 (pu h3 (aH G false 1 v3 h3))) fun v4 h4 =>
 aE (gd v1 false h4 (pu h4 (cB v4))) fun v5 h5 =>
 aE (gd v1 false h5 (pu h5 (bC Tryd.prog .geq 3 false v2 v5))) fun v6 h6 =>
 aE (pu h6 (dL v1 (.bool true) v6)) fun v7 h7 =>
 bK v7
 (cS [.nils] h.length h7)
 (aE (pu h7 (aF 0 v0)) fun v8 h8 =>
 aE (pu h8 (aH G false 1 v8 h8)) fun v9 h9 =>
 aE (pu h9 (aM 6 v9 x1)) fun v10 h10 =>
 aE (pu h10 (aH G true 6 v10 h10)) fun v11 h11 =>
 aE (gD 29 (.agg [(.int .i64 0), (.int .i64 0), (.int .i64 0), (.int .i64 0), (.int .i64 0), (.int .i64 0)]) h11) fun v12 h12 =>
 aE (hX (cH 6 v12 v11 h12)) fun v13 h13 =>
 dW (
 aE (pu h13 (aF 0 v12)) fun v14 h14 =>
 aE (pu h14 (aH G false 1 v14 h14)) fun v15 h15 =>
 aE (pu h15 (bC Tryd.prog .eql 3 true v15 (.int .i64 20))) fun v16 h16 =>
 bK v16
 (some (.normal, [v0, .nils], h16))
 (aE (pu h16 (bC Tryd.prog .eql 3 true v15 (.int .i64 17))) fun v17 h17 =>
 bK v17
 (aE (pu h17 (aF 5 v12)) fun v18 h18 =>
 aE (pu h18 (aH G false 1 v18 h18)) fun v19 h19 =>
 aE (dN 1 1 (.int .i64 0) [(0, v19)] h19) fun v20 h20 =>
 some (.normal, [v0, v20], h20))
 (dW (
 aE (pu h17 (bC Tryd.prog .eql 3 true v15 (.int .i64 18))) fun v21 h21 =>
 bK v21
 (some (.normal, [x1, v0, v12, v21], h21))
 (aE (pu h21 (bC Tryd.prog .eql 3 true v15 (.int .i64 19))) fun v22 h22 =>
 some (.normal, [x1, v0, v12, v22], h22))) fun e23 x23 h23 => iJ e23
 (bK (aG x23 3)
 (aE (pu h23 (bC Tryd.prog .add 2 true (aG x23 0) (.int .i64 1))) fun v24 h24 =>
 aE (pu h24 (aF 5 (aG x23 2))) fun v25 h25 =>
 aE (pu h25 (aH G false 1 v25 h25)) fun v26 h26 =>
 aE (dN 1 2 (.int .i64 0) [(0, v24), (1, v26)] h26) fun v27 h27 =>
 some (.normal, [(aG x23 1), v27], h27))
 (aE (pu h23 (bC Tryd.prog .add 2 true (aG x23 0) (.int .i64 1))) fun v28 h28 =>
 aE (dN 1 1 (.int .i64 0) [(0, v28)] h28) fun v29 h29 =>
 some (.normal, [(aG x23 1), v29], h29)))
 (fun i23 => if i23 = 0 then (some (.normal, [(aG x23 1), .undef], h23)) else (some (.exit i23, [(aG x23 1), .undef], h23)))
 (some (.ret, [(aG x23 1), .undef], h23))))) fun e30 x30 h30 => iJ e30
 (aE (some (.sl h30.length 0 0 0 1, h30 ++ [⟨3, 1, []⟩])) fun v31 h31 =>
 aE (pu h31 (cB (aG x30 1))) fun v32 h32 =>
 dW (cC (cG.l15 G k h32.length self) k [(aG x30 0), v31, (aG x30 1), v32, (.int .i64 0)] h32) fun e33 x33 h33 => iJ e33
 (none)
 (fun i33 => if i33 = 1 then (aE (dG (aX.f G k) [(aG x33 1)] h33) fun v48 h48 =>
 aE (dG (aB.f G k) [(aG x33 1)] h48) fun v49 h49 =>
 cS [v49] h.length h49) else (none))
 (cS [.undef] h.length h33))
 (fun i30 => none)
 (cS [.undef] h.length h30)))
noncomputable def cG.f (G : aC) : Nat → cK
 | 0 => fun _ _ => none
 | k + 1 => fun args h => lW args fun x0 x1 => (cG.c G k (cG.f G k) x0 x1 h)
theorem cG.step (G : aC) (k : Nat) (x0 x1 : AV) (h : aA) : cG.f G (k + 1) [x0, x1] h = cG.c G k (cG.f G k) x0 x1 h := rfl
noncomputable def dQ.ann : Ann := fD [] [] [] []
noncomputable def dQ.env (G : aC) (k : Nat) (self : cK) : List (Nat × Bool × cK) := []
noncomputable def dQ.c (G : aC) (k : Nat) (self : cK) (x0 x1 x2 : AV) (h : aA) : Option (AV × aA) := fQ (
 aE (pu h (aH G false 1 x2 h)) fun v0 h0 =>
 aE (pu h0 (aM 1 v0 x0)) fun v1 h1 =>
 aE (pu h1 (aH G false 1 v1 h1)) fun v2 h2 =>
 aE (pu h2 (cB v2)) fun v3 h3 =>
 aE (pu h3 (bC Tryd.prog .gtr 3 true v3 (.int .i64 0))) fun v4 h4 =>
 aE (gd v4 true h4 (pu h4 (aH G false 1 x2 h4))) fun v5 h5 =>
 aE (gd v4 true h5 (some (x0, h5))) fun v6 h6 =>
 aE (gd v4 true h6 (pu h6 (aM 1 v5 v6))) fun v7 h7 =>
 aE (gd v4 true h7 (pu h7 (aH G false 1 v7 h7))) fun v8 h8 =>
 aE (gd v4 true h8 (some (v3, h8))) fun v9 h9 =>
 aE (gd v4 true h9 (pu h9 (bC Tryd.prog .sub 3 true v9 (.int .i64 1)))) fun v10 h10 =>
 aE (gd v4 true h10 (pu h10 (aM 1 v8 v10))) fun v11 h11 =>
 aE (gd v4 true h11 (pu h11 (aH G false 1 v11 h11))) fun v12 h12 =>
 aE (gd v4 true h12 (some (x1, h12))) fun v13 h13 =>
 aE (gd v4 true h13 (pu h13 (bC Tryd.prog .eql 3 false v12 v13))) fun v14 h14 =>
 aE (pu h14 (dL v4 v14 (.bool false))) fun v15 h15 =>
 cS [v15] h.length h15)
noncomputable def dQ.f (G : aC) : Nat → cK
 | 0 => fun _ _ => none
 | k + 1 => fun args h => aBR args fun x0 x1 x2 => (dQ.c G k (dQ.f G k) x0 x1 x2 h)
theorem dQ.step (G : aC) (k : Nat) (x0 x1 x2 : AV) (h : aA) : dQ.f G (k + 1) [x0, x1, x2] h = dQ.c G k (dQ.f G k) x0 x1 x2 h := rfl
noncomputable def bD.ann : Ann := fD [5] [2] [] []
noncomputable def bD.env (G : aC) (k : Nat) (self : cK) : List (Nat × Bool × cK) := []
noncomputable def bD.c (G : aC) (k : Nat) (self : cK) (x0 : AV) (h : aA) : Option (AV × aA) := fQ (
 aE (some (.sl h.length 0 0 0 1, h ++ [⟨3, 1, []⟩])) fun v0 h0 =>
 aE (pu h0 (bC Tryd.prog .eql 49 true x0 .nils)) fun v1 h1 =>
 bK v1
 (aE (some (.sl h1.length 0 0 0 1, h1 ++ [⟨3, 1, []⟩])) fun v2 h2 =>
 aAU [v2] h2)
 (aE (gQ 3 1 0 (.int .i64 0) [] h1) fun v3 h3 =>
 aE (eQ 3 1 v3 x0 h3) fun v4 h4 =>
 aAU [v4] h4))
noncomputable def bD.f (G : aC) : Nat → cK
 | 0 => fun _ _ => none
 | k + 1 => fun args h => jD args fun x0 => (bD.c G k (bD.f G k) x0 h)
theorem bD.step (G : aC) (k : Nat) (x0 : AV) (h : aA) : bD.f G (k + 1) [x0] h = bD.c G k (bD.f G k) x0 h := rfl
noncomputable def bB.ann : Ann := aJl [] [] [(35, [1, 5, 6, 13, 14, 15, 16, 84, 85, 126, 127, 128]), (31, [1, 5, 6, 13, 14, 15, 16, 84, 85]), (27, [1, 5, 6, 13, 14, 15, 16, 84, 85, 92, 93, 94]), (23, [1, 5, 6, 13, 14, 84, 85]), (15, [1, 5, 6, 7, 35, 36, 37, 62, 63, 64]), (10, [1, 5, 6, 7, 8, 35, 36, 37, 44, 45, 46]), (7, [1, 5, 6, 35, 36, 37])] [] [(23, [(13, 0, 3, 1)]), (7, [(5, 0, 3, 1)])] [] [(7, [(6, 0, 1, 3, 1)])] [] []
noncomputable def bB.env (G : aC) (k : Nat) (self : cK) : List (Nat × Bool × cK) := [(20, true, cT.f G k), (23, true, cD.f G k), (25, true, cG.f G k), (43, true, cW.f G k), (59, false, dQ.f G k), (60, false, bD.f G k)]
noncomputable def bB.l10 (G : aC) (k n0 : Nat) (self : cK) (lp : dO) : dO := fun xs h0 => gX n0 xs h0 fun h =>
 aE (pu h (bC Tryd.prog .lss 3 false (aG xs 10) (aG xs 9))) fun v22 h22 =>
 bK v22
 (aE (pu h22 (aM 1 (aG xs 8) (aG xs 10))) fun v23 h23 =>
 aE (pu h23 (aH G false 1 v23 h23)) fun v24 h24 =>
 aE (pu h24 (aM 1 (aG xs 1) v24)) fun v25 h25 =>
 aE (pu h25 (aH G false 1 v25 h25)) fun v26 h26 =>
 aE (dN 1 1 (.int .i64 0) [(0, (aG xs 3))] h26) fun v27 h27 =>
 aE (eQ 3 1 v26 v27 h27) fun v28 h28 =>
 aE (pu h28 (aM 1 (aG xs 1) v24)) fun v29 h29 =>
 aE (hX (cH 1 v29 v28 h29)) fun v30 h30 =>
 aE (pu h30 (bC Tryd.prog .add 3 true (aG xs 10) (.int .i64 1))) fun v31 h31 =>
 lp [(aG xs 0), (aG xs 1), (aG xs 2), (aG xs 3), (aG xs 4), (aG xs 5), (aG xs 6), (aG xs 7), (aG xs 8), (aG xs 9), v31] h31)
 (some (.exit 2, [(aG xs 0), (aG xs 1), (aG xs 2), (aG xs 3), (aG xs 4), (aG xs 5), (aG xs 6), (aG xs 7), (aG xs 8), (aG xs 9), (aG xs 10)], h22))
noncomputable def bB.l15 (G : aC) (k n0 : Nat) (self : cK) (lp : dO) : dO := fun xs h0 => gX n0 xs h0 fun h =>
 aE (pu h (bC Tryd.prog .lss 3 false (aG xs 9) (aG xs 8))) fun v36 h36 =>
 bK v36
 (aE (pu h36 (aM 1 (aG xs 7) (aG xs 9))) fun v37 h37 =>
 aE (pu h37 (aH G false 1 v37 h37)) fun v38 h38 =>
 aE (pu h38 (aAd (aG xs 2) v38 h38)) fun v39 h39 =>
 aE (dN 1 1 (.int .i64 0) [(0, (aG xs 3))] h39) fun v40 h40 =>
 aE (eQ 3 1 v39 v40 h40) fun v41 h41 =>
 aE (hX (aEc (aG xs 2) v38 v41 h41)) fun v42 h42 =>
 aE (pu h42 (bC Tryd.prog .add 3 true (aG xs 9) (.int .i64 1))) fun v43 h43 =>
 lp [(aG xs 0), (aG xs 1), (aG xs 2), (aG xs 3), (aG xs 4), (aG xs 5), (aG xs 6), (aG xs 7), (aG xs 8), v43] h43)
 (some (.exit 4, [(aG xs 0), (aG xs 1), (aG xs 2), (aG xs 3), (aG xs 4), (aG xs 5), (aG xs 6), (aG xs 7), (aG xs 8), (aG xs 9)], h36))
noncomputable def bB.l7 (G : aC) (k n0 : Nat) (self : cK) (lp : dO) : dO := fun xs h0 => gX n0 xs h0 fun h =>
 aE (pu h (bC Tryd.prog .lss 3 false (aG xs 5) (aG xs 4))) fun v13 h13 =>
 bK v13
 (aE (pu h13 (aM 6 (aG xs 3) (aG xs 5))) fun v14 h14 =>
 aE (pu h14 (aH G true 6 v14 h14)) fun v15 h15 =>
 aE (gD 29 (.agg [(.int .i64 0), (.int .i64 0), (.int .i64 0), (.int .i64 0), (.int .i64 0), (.int .i64 0)]) h15) fun v16 h16 =>
 aE (hX (cH 6 v16 v15 h16)) fun v17 h17 =>
 aE (pu h17 (aH G true 3 (aG xs 0) h17)) fun v18 h18 =>
 aE (aJ (cG.f G k) [v18, (aG xs 5)] h18) fun v19 h19 =>
 aE (pu h19 (cB v19)) fun v20 h20 =>
 dW (cC (bB.l10 G k h20.length self) k [(aG xs 0), (aG xs 1), (aG xs 2), (aG xs 5), v16, (aG xs 3), (aG xs 4), (aG xs 5), v19, v20, (.int .i64 0)] h20) fun e21 x21 h21 => iJ e21
 (none)
 (fun i21 => if i21 = 2 then (aE (pu h21 (aH G true 6 (aG x21 4) h21)) fun v32 h32 =>
 aE (aJ (cD.f G k) [v32] h32) fun v33 h33 =>
 aE (pu h33 (cB v33)) fun v34 h34 =>
 dW (cC (bB.l15 G k h34.length self) k [(aG x21 0), (aG x21 1), (aG x21 2), (aG x21 3), (aG x21 5), (aG x21 6), (aG x21 7), v33, v34, (.int .i64 0)] h34) fun e35 x35 h35 => iJ e35
 (none)
 (fun i35 => if i35 = 4 then (aE (pu h35 (bC Tryd.prog .add 3 true (aG x35 6) (.int .i64 1))) fun v44 h44 =>
 lp [(aG x35 0), (aG x35 1), (aG x35 2), (aG x35 4), (aG x35 5), v44] h44) else (if i35 = 1 then (aE (pu h35 (bC Tryd.prog .add 3 true (aG x35 6) (.int .i64 1))) fun v45 h45 =>
 lp [(aG x35 0), (aG x35 1), (aG x35 2), (aG x35 4), (aG x35 5), v45] h45) else (some (.exit i35, [(aG x35 0), (aG x35 1), (aG x35 2), (aG x35 4), (aG x35 5), (aG x35 6)], h35))))
 (some (.ret, [(aG x35 0), (aG x35 1), (aG x35 2), (aG x35 4), (aG x35 5), (aG x35 6)], h35))) else (if i21 = 1 then (aE (pu h21 (bC Tryd.prog .add 3 true (aG x21 7) (.int .i64 1))) fun v46 h46 =>
 lp [(aG x21 0), (aG x21 1), (aG x21 2), (aG x21 5), (aG x21 6), v46] h46) else (some (.exit i21, [(aG x21 0), (aG x21 1), (aG x21 2), (aG x21 5), (aG x21 6), (aG x21 7)], h21))))
 (some (.ret, [(aG x21 0), (aG x21 1), (aG x21 2), (aG x21 5), (aG x21 6), (aG x21 7)], h21)))
 (some (.exit 0, [(aG xs 0), (aG xs 1), (aG xs 2), (aG xs 3), (aG xs 4), (aG xs 5)], h13))
noncomputable def bB.l27 (G : aC) (k n0 : Nat) (self : cK) (lp : dO) : dO := fun xs h0 => gX n0 xs h0 fun h =>
 aE (pu h (bC Tryd.prog .lss 3 false (aG xs 11) (aG xs 10))) fun v61 h61 =>
 bK v61
 (aE (pu h61 (aM 1 (aG xs 9) (aG xs 11))) fun v62 h62 =>
 aE (pu h62 (aH G false 1 v62 h62)) fun v63 h63 =>
 aE (pu h63 (aH G false 1 (aG xs 3) h63)) fun v64 h64 =>
 aE (pu h64 (aH G false 1 (aG xs 3) h64)) fun v65 h65 =>
 aE (pu h65 (aM 1 v65 v63)) fun v66 h66 =>
 aE (pu h66 (aH G false 1 v66 h66)) fun v67 h67 =>
 aE (dN 1 1 (.int .i64 0) [(0, (aG xs 5))] h67) fun v68 h68 =>
 aE (eQ 3 1 v67 v68 h68) fun v69 h69 =>
 aE (pu h69 (aM 1 v64 v63)) fun v70 h70 =>
 aE (hX (cH 1 v70 v69 h70)) fun v71 h71 =>
 grd [((aG xs 3), v67)] (
aE (pu h71 (bC Tryd.prog .add 3 true (aG xs 11) (.int .i64 1))) fun v72 h72 =>
 lp [(aG xs 0), (aG xs 1), (aG xs 2), (aG xs 3), (aG xs 4), (aG xs 5), (aG xs 6), (aG xs 7), (aG xs 8), (aG xs 9), (aG xs 10), v72] h72))
 (some (.exit 8, [(aG xs 0), (aG xs 1), (aG xs 2), (aG xs 3), (aG xs 4), (aG xs 5), (aG xs 6), (aG xs 7), (aG xs 8), (aG xs 9), (aG xs 10), (aG xs 11)], h61))
noncomputable def bB.l35 (G : aC) (k n0 : Nat) (self : cK) (lp : dO) : dO := fun xs h0 => gX n0 xs h0 fun h =>
 aE (pu h (bC Tryd.prog .lss 3 false (aG xs 11) (aG xs 10))) fun v87 h87 =>
 bK v87
 (aE (pu h87 (aM 1 (aG xs 9) (aG xs 11))) fun v88 h88 =>
 aE (pu h88 (aH G false 1 v88 h88)) fun v89 h89 =>
 aE (pu h89 (aF 0 (aG xs 0))) fun v90 h90 =>
 aE (pu h90 (aH G false 1 v90 h90)) fun v91 h91 =>
 aE (pu h91 (aM 6 v91 v89)) fun v92 h92 =>
 aE (pu h92 (aH G true 6 v92 h92)) fun v93 h93 =>
 aE (aJ (cT.f G k) [v93] h93) fun v94 h94 =>
 aE (pu h94 (cX v94 0)) fun v95 h95 =>
 aE (pu h95 (cX v94 1)) fun v96 h96 =>
 aE (kX (fI (bB.env G k self)) (aG xs 4) [v89, (aG xs 5)] h96) fun v97 h97 =>
 aE (gd v97 false h97 (some (v96, h97))) fun v98 h98 =>
 aE (gd v97 false h98 (some (v98, h98))) fun v99 h99 =>
 aE (gd v99 true h99 (some (v95, h99))) fun v100 h100 =>
 aE (gd v99 true h100 (some ((aG xs 5), h100))) fun v101 h101 =>
 aE (gd v99 true h101 (pu h101 (bC Tryd.prog .eql 3 false v100 v101))) fun v102 h102 =>
 aE (gd v97 false h102 (pu h102 (dL v99 v102 (.bool false)))) fun v103 h103 =>
 aE (pu h103 (dL v97 (.bool true) v103)) fun v104 h104 =>
 bK v104
 (aE (pu h104 (bC Tryd.prog .add 3 true (aG xs 11) (.int .i64 1))) fun v105 h105 =>
 lp [(aG xs 0), (aG xs 1), (aG xs 2), (aG xs 3), (aG xs 4), (aG xs 5), (aG xs 6), (aG xs 7), (aG xs 8), (aG xs 9), (aG xs 10), v105] h105)
 (aE (pu h104 (aH G false 1 (aG xs 3) h104)) fun v106 h106 =>
 aE (pu h106 (aH G false 1 (aG xs 3) h106)) fun v107 h107 =>
 aE (pu h107 (aM 1 v107 v89)) fun v108 h108 =>
 aE (pu h108 (aH G false 1 v108 h108)) fun v109 h109 =>
 aE (dN 1 1 (.int .i64 0) [(0, (aG xs 5))] h109) fun v110 h110 =>
 aE (eQ 3 1 v109 v110 h110) fun v111 h111 =>
 aE (pu h111 (aM 1 v106 v89)) fun v112 h112 =>
 aE (hX (cH 1 v112 v111 h112)) fun v113 h113 =>
 grd [((aG xs 3), v109)] (
aE (dN 1 1 (.int .i64 0) [(0, v89)] h113) fun v114 h114 =>
 aE (eQ 3 1 (aG xs 6) v114 h114) fun v115 h115 =>
 aE (pu h115 (bC Tryd.prog .add 3 true (aG xs 11) (.int .i64 1))) fun v116 h116 =>
 lp [(aG xs 0), (aG xs 1), (aG xs 2), (aG xs 3), (aG xs 4), (aG xs 5), v115, (aG xs 7), (aG xs 8), (aG xs 9), (aG xs 10), v116] h116)))
 (some (.exit 12, [(aG xs 0), (aG xs 1), (aG xs 2), (aG xs 3), (aG xs 4), (aG xs 5), (aG xs 6), (aG xs 7), (aG xs 8), (aG xs 9), (aG xs 10), (aG xs 11)], h87))
noncomputable def bB.l31 (G : aC) (k n0 : Nat) (self : cK) (lp : dO) : dO := fun xs h0 => gX n0 xs h0 fun h =>
 aE (pu h (cB (aG xs 6))) fun v74 h74 =>
 aE (pu h74 (bC Tryd.prog .gtr 3 true v74 (.int .i64 0))) fun v75 h75 =>
 bK v75
 (aE (pu h75 (cB (aG xs 6))) fun v76 h76 =>
 aE (pu h76 (bC Tryd.prog .sub 3 true v76 (.int .i64 1))) fun v77 h77 =>
 aE (pu h77 (aM 1 (aG xs 6) v77)) fun v78 h78 =>
 aE (pu h78 (aH G false 1 v78 h78)) fun v79 h79 =>
 aE (pu h79 (cB (aG xs 6))) fun v80 h80 =>
 aE (pu h80 (bC Tryd.prog .sub 3 true v80 (.int .i64 1))) fun v81 h81 =>
 aE (pu h81 (fO 1 (aG xs 6) none (some v81))) fun v82 h82 =>
 aE (pu h82 (aM 1 (aG xs 1) v79)) fun v83 h83 =>
 aE (pu h83 (aH G false 1 v83 h83)) fun v84 h84 =>
 aE (pu h84 (cB v84)) fun v85 h85 =>
 dW (cC (bB.l35 G k h85.length self) k [(aG xs 0), (aG xs 1), (aG xs 2), (aG xs 3), (aG xs 4), (aG xs 5), v82, (aG xs 7), (aG xs 8), v84, v85, (.int .i64 0)] h85) fun e86 x86 h86 => iJ e86
 (none)
 (fun i86 => if i86 = 12 then (lp [(aG x86 0), (aG x86 1), (aG x86 2), (aG x86 3), (aG x86 4), (aG x86 5), (aG x86 6), (aG x86 7), (aG x86 8)] h86) else (if i86 = 11 then (lp [(aG x86 0), (aG x86 1), (aG x86 2), (aG x86 3), (aG x86 4), (aG x86 5), (aG x86 6), (aG x86 7), (aG x86 8)] h86) else (some (.exit i86, [(aG x86 0), (aG x86 1), (aG x86 2), (aG x86 3), (aG x86 4), (aG x86 5), (aG x86 6), (aG x86 7), (aG x86 8)], h86))))
 (some (.ret, [(aG x86 0), (aG x86 1), (aG x86 2), (aG x86 3), (aG x86 4), (aG x86 5), (aG x86 6), (aG x86 7), (aG x86 8)], h86)))
 (some (.exit 10, [(aG xs 0), (aG xs 1), (aG xs 2), (aG xs 3), (aG xs 4), (aG xs 5), (aG xs 6), (aG xs 7), (aG xs 8)], h75))
noncomputable def bB.l23 (G : aC) (k n0 : Nat) (self : cK) (lp : dO) : dO := fun xs h0 => gX n0 xs h0 fun h =>
 aE (pu h (bC Tryd.prog .lss 3 false (aG xs 6) (aG xs 5))) fun v56 h56 =>
 bK v56
 (aE (pu h56 (aAd (aG xs 2) (aG xs 6) h56)) fun v57 h57 =>
 aE (dG (bD.f G k) [v57] h57) fun v58 h58 =>
 aE (pu h58 (cB v58)) fun v59 h59 =>
 dW (cC (bB.l27 G k h59.length self) k [(aG xs 0), (aG xs 1), (aG xs 2), (aG xs 3), (aG xs 4), (aG xs 6), v58, (aG xs 5), (aG xs 6), v58, v59, (.int .i64 0)] h59) fun e60 x60 h60 => iJ e60
 (none)
 (fun i60 => if i60 = 8 then (dW (cC (bB.l31 G k h60.length self) k [(aG x60 0), (aG x60 1), (aG x60 2), (aG x60 3), (aG x60 4), (aG x60 5), (aG x60 6), (aG x60 7), (aG x60 8)] h60) fun e73 x73 h73 => iJ e73
 (none)
 (fun i73 => if i73 = 10 then (aE (pu h73 (bC Tryd.prog .add 3 true (aG x73 8) (.int .i64 1))) fun v117 h117 =>
 lp [(aG x73 0), (aG x73 1), (aG x73 2), (aG x73 3), (aG x73 4), (aG x73 7), v117] h117) else (if i73 = 7 then (aE (pu h73 (bC Tryd.prog .add 3 true (aG x73 8) (.int .i64 1))) fun v118 h118 =>
 lp [(aG x73 0), (aG x73 1), (aG x73 2), (aG x73 3), (aG x73 4), (aG x73 7), v118] h118) else (some (.exit i73, [(aG x73 0), (aG x73 1), (aG x73 2), (aG x73 3), (aG x73 4), (aG x73 7), (aG x73 8)], h73))))
 (some (.ret, [(aG x73 0), (aG x73 1), (aG x73 2), (aG x73 3), (aG x73 4), (aG x73 7), (aG x73 8)], h73))) else (if i60 = 7 then (aE (pu h60 (bC Tryd.prog .add 3 true (aG x60 8) (.int .i64 1))) fun v119 h119 =>
 lp [(aG x60 0), (aG x60 1), (aG x60 2), (aG x60 3), (aG x60 4), (aG x60 7), v119] h119) else (some (.exit i60, [(aG x60 0), (aG x60 1), (aG x60 2), (aG x60 3), (aG x60 4), (aG x60 7), (aG x60 8)], h60))))
 (some (.ret, [(aG x60 0), (aG x60 1), (aG x60 2), (aG x60 3), (aG x60 4), (aG x60 7), (aG x60 8)], h60)))
 (some (.exit 6, [(aG xs 0), (aG xs 1), (aG xs 2), (aG xs 3), (aG xs 4), (aG xs 5), (aG xs 6)], h56))
noncomputable def bB.c (G : aC) (k : Nat) (self : cK) (x0 : AV) (h : aA) : Option (AV × aA) := fQ (
 aE (eE x0 h) fun v0 h0 =>
 aE (pu h0 (aH G true 3 v0 h0)) fun v1 h1 =>
 aE (aJ (cW.f G k) [v1] h1) fun v2 h2 =>
 aE (pu h2 (bC Tryd.prog .neq 33 true v2 .nili)) fun v3 h3 =>
 bK v3
 (cS [.nils, v2] h.length h3)
 (aE (pu h3 (aF 0 v0)) fun v4 h4 =>
 aE (pu h4 (aH G false 1 v4 h4)) fun v5 h5 =>
 aE (pu h5 (cB v5)) fun v6 h6 =>
 aE (fR 49 1 .nils v6 v6 h6) fun v7 h7 =>
 aE (some (.mp h7.length, h7 ++ [⟨0, 0, []⟩])) fun v8 h8 =>
 aE (pu h8 (aF 0 v0)) fun v9 h9 =>
 aE (pu h9 (aH G false 1 v9 h9)) fun v10 h10 =>
 aE (pu h10 (cB v10)) fun v11 h11 =>
 vM [(v8, x0, 1, 3, 1)] h11 fun hm12 =>
 vK [(v7, 0, 3, 1)] hm12 fun hv12 =>
 dW (cC (bB.l7 G k hv12.length self) k [v0, v7, v8, v10, v11, (.int .i64 0)] hv12) fun e12 x12 h12 => iJ e12
 (none)
 (fun i12 => if i12 = 0 then (aE (pu h12 (aF 0 (aG x12 0))) fun v47 h47 =>
 aE (pu h47 (aH G false 1 v47 h47)) fun v48 h48 =>
 aE (pu h48 (cB v48)) fun v49 h49 =>
 aE (fR 49 1 .nils v49 v49 h49) fun v50 h50 =>
 aE (gD 56 .nils h50) fun v51 h51 =>
 aE (hX (cH 1 v51 v50 h51)) fun v52 h52 =>
 aE (pu h52 (aF 1 (aG x12 0))) fun v53 h53 =>
 aE (pu h53 (aH G false 1 v53 h53)) fun v54 h54 =>
 vK [(v51, 0, 3, 1)] h54 fun hv55 =>
 dW (cC (bB.l23 G k hv55.length self) k [(aG x12 0), (aG x12 1), (aG x12 2), v51, (.fn 59 [v51]), v54, (.int .i64 0)] hv55) fun e55 x55 h55 => iJ e55
 (none)
 (fun i55 => if i55 = 6 then (aE (pu h55 (aH G false 1 (aG x55 3) h55)) fun v120 h120 =>
 cS [v120, .nili] h.length h120) else (none))
 (cS [.undef, .undef] h.length h55)) else (none))
 (cS [.undef, .undef] h.length h12)))
noncomputable def bB.f (G : aC) : Nat → cK
 | 0 => fun _ _ => none
 | k + 1 => fun args h => jD args fun x0 => (bB.c G k (bB.f G k) x0 h)
theorem bB.step (G : aC) (k : Nat) (x0 : AV) (h : aA) : bB.f G (k + 1) [x0] h = bB.c G k (bB.f G k) x0 h := rfl
noncomputable def cO.ann : Ann := fD [] [] [] []
noncomputable def cO.env (G : aC) (k : Nat) (self : cK) : List (Nat × Bool × cK) := [(22, true, aT.f G k), (23, true, cD.f G k), (29, true, bB.f G k)]
noncomputable def cO.c (G : aC) (k : Nat) (self : cK) (h : aA) : Option (AV × aA) := fQ (
 aE (pu h (eU [(0, 1), (1, 1), (2, 1), (3, 1), (4, 1), (5, 1)] [(.int .i64 0), (.int .i64 0), (.int .i64 0), (.int .i64 0), (.int .i64 0), (.int .i64 0)] [(0, (.int .i64 20))])) fun v0 h0 =>
 aE (dN 6 1 (.agg [(.int .i64 0), (.int .i64 0), (.int .i64 0), (.int .i64 0), (.int .i64 0), (.int .i64 0)]) [(0, v0)] h0) fun v1 h1 =>
 aE (pu h1 (eU [(0, 1), (1, 1), (2, 1)] [.nils, (.int .i64 0), (.int .i64 0)] [(0, v1)])) fun v2 h2 =>
 aE (aJ (bB.f G k) [v2] h2) fun v3 h3 =>
 aE (pu h3 (cX v3 0)) fun v4 h4 =>
 aE (pu h4 (cX v3 1)) fun v5 h5 =>
 aE (pu h5 (bC Tryd.prog .eql 33 true v5 .nili)) fun v6 h6 =>
 aE (gd v6 true h6 (some (v4, h6))) fun v7 h7 =>
 aE (gd v6 true h7 (pu h7 (cB v7))) fun v8 h8 =>
 aE (gd v6 true h8 (pu h8 (bC Tryd.prog .eql 3 true v8 (.int .i64 1)))) fun v9 h9 =>
 aE (pu h9 (dL v6 v9 (.bool false))) fun v10 h10 =>
 aE (gd v10 true h10 (some (v4, h10))) fun v11 h11 =>
 aE (gd v10 true h11 (pu h11 (aM 1 v11 (.int .i64 0)))) fun v12 h12 =>
 aE (gd v10 true h12 (pu h12 (aH G false 1 v12 h12))) fun v13 h13 =>
 aE (gd v10 true h13 (pu h13 (cB v13))) fun v14 h14 =>
 aE (gd v10 true h14 (pu h14 (bC Tryd.prog .eql 3 true v14 (.int .i64 0)))) fun v15 h15 =>
 aE (pu h15 (dL v10 v15 (.bool false))) fun v16 h16 =>
 aE (gd v16 true h16 (pu h16 (eU [(0, 1), (1, 1), (2, 1), (3, 1), (4, 1), (5, 1)] [(.int .i64 0), (.int .i64 0), (.int .i64 0), (.int .i64 0), (.int .i64 0), (.int .i64 0)] [(0, (.int .i64 3)), (2, (.int .i64 2)), (3, (.int .i64 1))]))) fun v17 h17 =>
 aE (gd v16 true h17 (aJ (cD.f G k) [v17] h17)) fun v18 h18 =>
 aE (gd v16 true h18 (dN 1 2 (.int .i64 0) [(0, (.int .i64 1)), (1, (.int .i64 2))] h18)) fun v19 h19 =>
 aE (gd v16 true h19 (aJ (aT.f G k) [v18, v19] h19)) fun v20 h20 =>
 aE (pu h20 (dL v16 v20 (.bool false))) fun v21 h21 =>
 cS [v21] h.length h21)
noncomputable def cO.f (G : aC) : Nat → cK
 | 0 => fun _ _ => none
 | k + 1 => fun args h => aFX args (cO.c G k (cO.f G k) h)
noncomputable def bW.ann : Ann := fD [] [] [] []
noncomputable def bW.env (G : aC) (k : Nat) (self : cK) : List (Nat × Bool × cK) := []
noncomputable def bW.c (G : aC) (k : Nat) (self : cK) (x0 : AV) (h : aA) : Option (AV × aA) := fQ (
 aE (eE x0 h) fun v0 h0 =>
 aE (pu h0 (aF 0 v0)) fun v1 h1 =>
 aE (pu h1 (aH G false 1 v1 h1)) fun v2 h2 =>
 aE (pu h2 (cB v2)) fun v3 h3 =>
 aE (pu h3 (bC Tryd.prog .leq 3 true v3 (.int .i64 60))) fun v4 h4 =>
 aE (gd v4 true h4 (pu h4 (aF 1 v0))) fun v5 h5 =>
 aE (gd v4 true h5 (pu h5 (aH G false 1 v5 h5))) fun v6 h6 =>
 aE (gd v4 true h6 (pu h6 (bC Tryd.prog .leq 3 true v6 (.int .i64 40)))) fun v7 h7 =>
 aE (pu h7 (dL v4 v7 (.bool false))) fun v8 h8 =>
 cS [v8] h.length h8)
noncomputable def bW.f (G : aC) : Nat → cK
 | 0 => fun _ _ => none
 | k + 1 => fun args h => jD args fun x0 => (bW.c G k (bW.f G k) x0 h)
theorem bW.step (G : aC) (k : Nat) (x0 : AV) (h : aA) : bW.f G (k + 1) [x0] h = bW.c G k (bW.f G k) x0 h := rfl
noncomputable def aY.ann : Ann := fD [] [] [] []
noncomputable def aY.env (G : aC) (k : Nat) (self : cK) : List (Nat × Bool × cK) := [(52, true, bT.f G k)]
noncomputable def aY.c (G : aC) (k : Nat) (self : cK) (x0 : AV) (h : aA) : Option (AV × aA) := fQ (
 aE (eE x0 h) fun v0 h0 =>
 aE (pu h0 (aF 0 v0)) fun v1 h1 =>
 aE (pu h1 (aH G false 1 v1 h1)) fun v2 h2 =>
 aE (aJ (bT.f G k) [v2] h2) fun v3 h3 =>
 aE (pu h3 (cX v3 0)) fun v4 h4 =>
 aE (pu h4 (cX v3 1)) fun v5 h5 =>
 aE (gD 104 (.agg [(.bool false), (.bool false), (.bool false), (.bool false), (.int .i64 0)]) h5) fun v6 h6 =>
 aE (hX (cH 5 v6 v4 h6)) fun v7 h7 =>
 aE (pu h7 (aF 0 v6)) fun v8 h8 =>
 aE (pu h8 (aH G false 1 v8 h8)) fun v9 h9 =>
 aE (pu h9 (un .not v9)) fun v10 h10 =>
 bK v10
 (cS [(.int .i64 0), (.bool false)] h.length h10)
 (aE (pu h10 (aF 1 v0)) fun v11 h11 =>
 aE (pu h11 (aH G false 1 v11 h11)) fun v12 h12 =>
 cS [v12, (.bool true)] h.length h12))
noncomputable def aY.f (G : aC) : Nat → cK
 | 0 => fun _ _ => none
 | k + 1 => fun args h => jD args fun x0 => (aY.c G k (aY.f G k) x0 h)
theorem aY.step (G : aC) (k : Nat) (x0 : AV) (h : aA) : aY.f G (k + 1) [x0] h = aY.c G k (aY.f G k) x0 h := rfl
noncomputable def bQ.ann : Ann := fD [] [2] [(3, [0, 3, 4])] []
noncomputable def bQ.env (G : aC) (k : Nat) (self : cK) : List (Nat × Bool × cK) := []
noncomputable def bQ.l3 (G : aC) (k n0 : Nat) (self : cK) (lp : dO) : dO := fun xs h0 => gX n0 xs h0 fun h =>
 aE (pu h (cB (aG xs 0))) fun v4 h4 =>
 aE (pu h4 (bC Tryd.prog .lss 3 false (aG xs 2) v4)) fun v5 h5 =>
 bK v5
 (aE (pu h5 (aM 1 (aG xs 0) (aG xs 2))) fun v6 h6 =>
 aE (pu h6 (aH G false 1 v6 h6)) fun v7 h7 =>
 aE (dN 1 1 (.int .i64 0) [(0, v7)] h7) fun v8 h8 =>
 aE (eQ 3 1 (aG xs 1) v8 h8) fun v9 h9 =>
 aE (pu h9 (bC Tryd.prog .add 3 true (aG xs 2) (.int .i64 1))) fun v10 h10 =>
 lp [(aG xs 0), v9, v10] h10)
 (some (.exit 0, [(aG xs 0), (aG xs 1), (aG xs 2)], h5))
noncomputable def bQ.c (G : aC) (k : Nat) (self : cK) (x0 : AV) (h : aA) : Option (AV × aA) := fQ (
 aE (some (.sl h.length 0 0 0 1, h ++ [⟨3, 1, []⟩])) fun v0 h0 =>
 aE (pu h0 (cB x0)) fun v1 h1 =>
 aE (fR 3 1 (.int .i64 0) (.int .i64 0) v1 h1) fun v2 h2 =>
 dW (cC (bQ.l3 G k h2.length self) k [x0, v2, (.int .i64 0)] h2) fun e3 x3 h3 => iJ e3
 (none)
 (fun i3 => if i3 = 0 then (aAU [(aG x3 1)] h3) else (none))
 (aAU [.undef] h3))
noncomputable def bQ.f (G : aC) : Nat → cK
 | 0 => fun _ _ => none
 | k + 1 => fun args h => jD args fun x0 => (bQ.c G k (bQ.f G k) x0 h)
theorem bQ.step (G : aC) (k : Nat) (x0 : AV) (h : aA) : bQ.f G (k + 1) [x0] h = bQ.c G k (bQ.f G k) x0 h := rfl
noncomputable def bA.ann : Ann := fD [] [4] [(2, [0, 1, 5])] []
noncomputable def bA.env (G : aC) (k : Nat) (self : cK) : List (Nat × Bool × cK) := [(68, false, bQ.f G k)]
noncomputable def bA.l2 (G : aC) (k n0 : Nat) (self : cK) (lp : dO) : dO := fun xs h0 => gX n0 xs h0 fun h =>
 aE (pu h (cB (aG xs 0))) fun v2 h2 =>
 aE (pu h2 (bC Tryd.prog .lss 3 false (aG xs 2) v2)) fun v3 h3 =>
 aE (gd v3 true h3 (some ((aG xs 0), h3))) fun v4 h4 =>
 aE (gd v3 true h4 (some ((aG xs 2), h4))) fun v5 h5 =>
 aE (gd v3 true h5 (pu h5 (aM 1 v4 v5))) fun v6 h6 =>
 aE (gd v3 true h6 (pu h6 (aH G false 1 v6 h6))) fun v7 h7 =>
 aE (gd v3 true h7 (some ((aG xs 1), h7))) fun v8 h8 =>
 aE (gd v3 true h8 (pu h8 (bC Tryd.prog .lss 3 false v7 v8))) fun v9 h9 =>
 aE (pu h9 (dL v3 v9 (.bool false))) fun v10 h10 =>
 bK v10
 (aE (pu h10 (bC Tryd.prog .add 3 true (aG xs 2) (.int .i64 1))) fun v11 h11 =>
 lp [(aG xs 0), (aG xs 1), v11] h11)
 (some (.exit 0, [(aG xs 0), (aG xs 1), (aG xs 2)], h10))
noncomputable def bA.c (G : aC) (k : Nat) (self : cK) (x0 x1 : AV) (h : aA) : Option (AV × aA) := fQ (
 aE (some (.sl h.length 0 0 0 1, h ++ [⟨3, 1, []⟩])) fun v0 h0 =>
 dW (cC (bA.l2 G k h0.length self) k [x0, x1, (.int .i64 0)] h0) fun e1 x1 h1 => iJ e1
 (none)
 (fun i1 => if i1 = 0 then (aE (pu h1 (cB (aG x1 0))) fun v12 h12 =>
 aE (pu h12 (bC Tryd.prog .lss 3 false (aG x1 2) v12)) fun v13 h13 =>
 aE (gd v13 true h13 (some ((aG x1 0), h13))) fun v14 h14 =>
 aE (gd v13 true h14 (some ((aG x1 2), h14))) fun v15 h15 =>
 aE (gd v13 true h15 (pu h15 (aM 1 v14 v15))) fun v16 h16 =>
 aE (gd v13 true h16 (pu h16 (aH G false 1 v16 h16))) fun v17 h17 =>
 aE (gd v13 true h17 (some ((aG x1 1), h17))) fun v18 h18 =>
 aE (gd v13 true h18 (pu h18 (bC Tryd.prog .eql 3 false v17 v18))) fun v19 h19 =>
 aE (pu h19 (dL v13 v19 (.bool false))) fun v20 h20 =>
 bK v20
 (aE (dG (bQ.f G k) [(aG x1 0)] h20) fun v21 h21 =>
 cS [v21] h.length h21)
 (aE (pu h20 (fO 1 (aG x1 0) none (some (aG x1 2)))) fun v22 h22 =>
 aE (dG (bQ.f G k) [v22] h22) fun v23 h23 =>
 aE (dN 1 1 (.int .i64 0) [(0, (aG x1 1))] h23) fun v24 h24 =>
 aE (eQ 3 1 v23 v24 h24) fun v25 h25 =>
 aE (pu h25 (fO 1 (aG x1 0) (some (aG x1 2)) none)) fun v26 h26 =>
 aE (eQ 3 1 v25 v26 h26) fun v27 h27 =>
 cS [v27] h.length h27)) else (none))
 (cS [.undef] h.length h1))
noncomputable def bA.f (G : aC) : Nat → cK
 | 0 => fun _ _ => none
 | k + 1 => fun args h => lW args fun x0 x1 => (bA.c G k (bA.f G k) x0 x1 h)
theorem bA.step (G : aC) (k : Nat) (x0 x1 : AV) (h : aA) : bA.f G (k + 1) [x0, x1] h = bA.c G k (bA.f G k) x0 x1 h := rfl
noncomputable def aS.ann : Ann := fD [] [] [] [(7, [1, 3, 5]), (5, [1, 3, 5])]
noncomputable def aS.env (G : aC) (k : Nat) (self : cK) : List (Nat × Bool × cK) := [(37, true, bA.f G k), (52, true, bT.f G k)]
noncomputable def aS.c (G : aC) (k : Nat) (self : cK) (x0 : AV) (h : aA) : Option (AV × aA) := fQ (
 aE (eE x0 h) fun v0 h0 =>
 aE (pu h0 (aF 0 v0)) fun v1 h1 =>
 aE (pu h1 (aH G false 1 v1 h1)) fun v2 h2 =>
 aE (aJ (bT.f G k) [v2] h2) fun v3 h3 =>
 aE (pu h3 (cX v3 0)) fun v4 h4 =>
 aE (pu h4 (cX v3 1)) fun v5 h5 =>
 aE (gD 104 (.agg [(.bool false), (.bool false), (.bool false), (.bool false), (.int .i64 0)]) h5) fun v6 h6 =>
 aE (hX (cH 5 v6 v4 h6)) fun v7 h7 =>
 dW (
 aE (pu h7 (aF 1 v6)) fun v8 h8 =>
 aE (pu h8 (aH G false 1 v8 h8)) fun v9 h9 =>
 bK v9
 (aE (pu h9 (aF 2 v0)) fun v10 h10 =>
 aE (pu h10 (aH G false 1 v10 h10)) fun v11 h11 =>
 aE (aJ (bA.f G k) [.nils, v11] h11) fun v12 h12 =>
 some (.normal, [v0, v6, v12], h12))
 (some (.normal, [v0, v6, .nils], h9))) fun e13 x13 h13 => iJ e13
 (dW (
 aE (pu h13 (aF 2 (aG x13 1))) fun v14 h14 =>
 aE (pu h14 (aH G false 1 v14 h14)) fun v15 h15 =>
 bK v15
 (aE (pu h15 (aF 3 (aG x13 0))) fun v16 h16 =>
 aE (pu h16 (aH G false 1 v16 h16)) fun v17 h17 =>
 aE (aJ (bA.f G k) [(aG x13 2), v17] h17) fun v18 h18 =>
 some (.normal, [(aG x13 0), (aG x13 1), v18], h18))
 (some (.normal, [(aG x13 0), (aG x13 1), (aG x13 2)], h15))) fun e19 x19 h19 => iJ e19
 (aE (pu h19 (aF 3 (aG x19 1))) fun v20 h20 =>
 aE (pu h20 (aH G false 1 v20 h20)) fun v21 h21 =>
 bK v21
 (aE (pu h21 (aF 4 (aG x19 0))) fun v22 h22 =>
 aE (pu h22 (aH G false 1 v22 h22)) fun v23 h23 =>
 aE (aJ (bA.f G k) [(aG x19 2), v23] h23) fun v24 h24 =>
 cS [v24] h.length h24)
 (cS [(aG x19 2)] h.length h21))
 (fun i19 => none)
 (cS [.undef] h.length h19))
 (fun i13 => none)
 (cS [.undef] h.length h13))
noncomputable def aS.f (G : aC) : Nat → cK
 | 0 => fun _ _ => none
 | k + 1 => fun args h => jD args fun x0 => (aS.c G k (aS.f G k) x0 h)
theorem aS.step (G : aC) (k : Nat) (x0 : AV) (h : aA) : aS.f G (k + 1) [x0] h = aS.c G k (aS.f G k) x0 h := rfl
noncomputable def aK.ann : Ann := fD [] [] [] [(7, [2, 5, 6])]
noncomputable def aK.env (G : aC) (k : Nat) (self : cK) : List (Nat × Bool × cK) := [(37, true, bA.f G k)]
noncomputable def aK.c (G : aC) (k : Nat) (self : cK) (x0 x1 : AV) (h : aA) : Option (AV × aA) := fQ (
 aE (eE x0 h) fun v0 h0 =>
 aE (pu h0 (bC Tryd.prog .lss 3 true x1 (.int .i64 0))) fun v1 h1 =>
 aE (gd v1 false h1 (some (x1, h1))) fun v2 h2 =>
 aE (gd v1 false h2 (pu h2 (aF 0 v0))) fun v3 h3 =>
 aE (gd v1 false h3 (pu h3 (aH G false 1 v3 h3))) fun v4 h4 =>
 aE (gd v1 false h4 (pu h4 (cB v4))) fun v5 h5 =>
 aE (gd v1 false h5 (pu h5 (bC Tryd.prog .geq 3 false v2 v5))) fun v6 h6 =>
 aE (pu h6 (dL v1 (.bool true) v6)) fun v7 h7 =>
 bK v7
 (cS [.nils] h.length h7)
 (aE (pu h7 (aF 0 v0)) fun v8 h8 =>
 aE (pu h8 (aH G false 1 v8 h8)) fun v9 h9 =>
 aE (pu h9 (aM 6 v9 x1)) fun v10 h10 =>
 aE (pu h10 (aH G true 6 v10 h10)) fun v11 h11 =>
 aE (gD 29 (.agg [(.int .i64 0), (.int .i64 0), (.int .i64 0), (.int .i64 0), (.int .i64 0), (.int .i64 0)]) h11) fun v12 h12 =>
 aE (hX (cH 6 v12 v11 h12)) fun v13 h13 =>
 dW (
 aE (pu h13 (aF 0 v12)) fun v14 h14 =>
 aE (pu h14 (aH G false 1 v14 h14)) fun v15 h15 =>
 aE (pu h15 (bC Tryd.prog .neq 3 true v15 (.int .i64 17))) fun v16 h16 =>
 aE (gd v16 true h16 (pu h16 (aF 0 v12))) fun v17 h17 =>
 aE (gd v16 true h17 (pu h17 (aH G false 1 v17 h17))) fun v18 h18 =>
 aE (gd v16 true h18 (pu h18 (bC Tryd.prog .neq 3 true v18 (.int .i64 20)))) fun v19 h19 =>
 aE (pu h19 (dL v16 v19 (.bool false))) fun v20 h20 =>
 aE (gd v20 true h20 (some (x1, h20))) fun v21 h21 =>
 aE (gd v20 true h21 (pu h21 (bC Tryd.prog .add 3 true v21 (.int .i64 1)))) fun v22 h22 =>
 aE (gd v20 true h22 (pu h22 (aF 0 v0))) fun v23 h23 =>
 aE (gd v20 true h23 (pu h23 (aH G false 1 v23 h23))) fun v24 h24 =>
 aE (gd v20 true h24 (pu h24 (cB v24))) fun v25 h25 =>
 aE (gd v20 true h25 (pu h25 (bC Tryd.prog .lss 3 false v22 v25))) fun v26 h26 =>
 aE (pu h26 (dL v20 v26 (.bool false))) fun v27 h27 =>
 bK v27
 (aE (pu h27 (bC Tryd.prog .add 3 true x1 (.int .i64 1))) fun v28 h28 =>
 aE (aJ (bA.f G k) [.nils, v28] h28) fun v29 h29 =>
 some (.normal, [v0, v12, v29], h29))
 (some (.normal, [v0, v12, .nils], h27))) fun e30 x30 h30 => iJ e30
 (aE (pu h30 (aF 0 (aG x30 1))) fun v31 h31 =>
 aE (pu h31 (aH G false 1 v31 h31)) fun v32 h32 =>
 aE (pu h32 (bC Tryd.prog .eql 3 true v32 (.int .i64 17))) fun v33 h33 =>
 aE (gd v33 false h33 (pu h33 (aF 0 (aG x30 1)))) fun v34 h34 =>
 aE (gd v33 false h34 (pu h34 (aH G false 1 v34 h34))) fun v35 h35 =>
 aE (gd v33 false h35 (pu h35 (bC Tryd.prog .eql 3 true v35 (.int .i64 18)))) fun v36 h36 =>
 aE (pu h36 (dL v33 (.bool true) v36)) fun v37 h37 =>
 aE (gd v37 false h37 (pu h37 (aF 0 (aG x30 1)))) fun v38 h38 =>
 aE (gd v37 false h38 (pu h38 (aH G false 1 v38 h38))) fun v39 h39 =>
 aE (gd v37 false h39 (pu h39 (bC Tryd.prog .eql 3 true v39 (.int .i64 19)))) fun v40 h40 =>
 aE (pu h40 (dL v37 (.bool true) v40)) fun v41 h41 =>
 aE (gd v41 true h41 (pu h41 (aF 5 (aG x30 1)))) fun v42 h42 =>
 aE (gd v41 true h42 (pu h42 (aH G false 1 v42 h42))) fun v43 h43 =>
 aE (gd v41 true h43 (pu h43 (bC Tryd.prog .geq 2 true v43 (.int .i64 0)))) fun v44 h44 =>
 aE (pu h44 (dL v41 v44 (.bool false))) fun v45 h45 =>
 aE (gd v45 true h45 (pu h45 (aF 5 (aG x30 1)))) fun v46 h46 =>
 aE (gd v45 true h46 (pu h46 (aH G false 1 v46 h46))) fun v47 h47 =>
 aE (gd v45 true h47 (pu h47 (aF 0 (aG x30 0)))) fun v48 h48 =>
 aE (gd v45 true h48 (pu h48 (aH G false 1 v48 h48))) fun v49 h49 =>
 aE (gd v45 true h49 (pu h49 (cB v49))) fun v50 h50 =>
 aE (gd v45 true h50 (pu h50 (bC Tryd.prog .lss 2 false v47 v50))) fun v51 h51 =>
 aE (pu h51 (dL v45 v51 (.bool false))) fun v52 h52 =>
 bK v52
 (aE (pu h52 (aF 5 (aG x30 1))) fun v53 h53 =>
 aE (pu h53 (aH G false 1 v53 h53)) fun v54 h54 =>
 aE (aJ (bA.f G k) [(aG x30 2), v54] h54) fun v55 h55 =>
 cS [v55] h.length h55)
 (cS [(aG x30 2)] h.length h52))
 (fun i30 => none)
 (cS [.undef] h.length h30)))
noncomputable def aK.f (G : aC) : Nat → cK
 | 0 => fun _ _ => none
 | k + 1 => fun args h => lW args fun x0 x1 => (aK.c G k (aK.f G k) x0 x1 h)
theorem aK.step (G : aC) (k : Nat) (x0 x1 : AV) (h : aA) : aK.f G (k + 1) [x0, x1] h = aK.c G k (aK.f G k) x0 x1 h := rfl
noncomputable def bL.ann : Ann := fD [] [] [] []
noncomputable def bL.env (G : aC) (k : Nat) (self : cK) : List (Nat × Bool × cK) := []
noncomputable def bL.c (G : aC) (k : Nat) (self : cK) (x0 : AV) (h : aA) : Option (AV × aA) := fQ (
 aE (eE x0 h) fun v0 h0 =>
 aE (gD 40 (.agg [.nils, (.int .i64 0), (.int .i64 0)]) h0) fun v1 h1 =>
 aE (pu h1 (aF 0 v0)) fun v2 h2 =>
 aE (pu h2 (aH G false 1 v2 h2)) fun v3 h3 =>
 aE (pu h3 (aF 1 v0)) fun v4 h4 =>
 aE (pu h4 (aH G false 1 v4 h4)) fun v5 h5 =>
 aE (pu h5 (aF 2 v0)) fun v6 h6 =>
 aE (pu h6 (aH G false 1 v6 h6)) fun v7 h7 =>
 aE (pu h7 (eU [(0, 1), (1, 1), (2, 1)] [.nils, (.int .i64 0), (.int .i64 0)] [(0, v3), (1, v5), (2, v7)])) fun v8 h8 =>
 aE (hX (cH 3 v1 v8 h8)) fun v9 h9 =>
 jM [aH G true 3 v1 h9] h.length h9)
noncomputable def bL.f (G : aC) : Nat → cK
 | 0 => fun _ _ => none
 | k + 1 => fun args h => jD args fun x0 => (bL.c G k (bL.f G k) x0 h)
theorem bL.step (G : aC) (k : Nat) (x0 : AV) (h : aA) : bL.f G (k + 1) [x0] h = bL.c G k (bL.f G k) x0 h := rfl
noncomputable def dF.ann : Ann := fD [] [] [(6, [6, 17, 18, 19])] []
noncomputable def dF.env (G : aC) (k : Nat) (self : cK) : List (Nat × Bool × cK) := [(29, true, bB.f G k)]
noncomputable def dF.l6 (G : aC) (k n0 : Nat) (self : cK) (lp : dO) : dO := fun xs h0 => gX n0 xs h0 fun h =>
 aE (pu h (bC Tryd.prog .lss 3 false (aG xs 3) (aG xs 2))) fun v8 h8 =>
 bK v8
 (aE (pu h8 (aM 1 (aG xs 1) (aG xs 3))) fun v9 h9 =>
 aE (pu h9 (aH G false 1 v9 h9)) fun v10 h10 =>
 aE (pu h10 (cB v10)) fun v11 h11 =>
 aE (pu h11 (nN rO (aG xs 0) [v11])) fun v12 h12 =>
 aE (pu h12 (bC Tryd.prog .add 3 true (aG xs 3) (.int .i64 1))) fun v13 h13 =>
 lp [v12, (aG xs 1), (aG xs 2), v13] h13)
 (some (.exit 0, [(aG xs 0), (aG xs 1), (aG xs 2), (aG xs 3)], h8))
noncomputable def dF.c (G : aC) (k : Nat) (self : cK) (x0 : AV) (h : aA) : Option (AV × aA) := fQ (
 aE (eE x0 h) fun v0 h0 =>
 aE (pu h0 (aH G true 3 v0 h0)) fun v1 h1 =>
 aE (aJ (bB.f G k) [v1] h1) fun v2 h2 =>
 aE (pu h2 (cX v2 0)) fun v3 h3 =>
 aE (pu h3 (cX v2 1)) fun v4 h4 =>
 aE (pu h4 (bC Tryd.prog .neq 33 true v4 .nili)) fun v5 h5 =>
 bK v5
 (cS [(.int .i64 0), v4] h.length h5)
 (aE (pu h5 (cB v3)) fun v6 h6 =>
 dW (cC (dF.l6 G k h6.length self) k [(.int .i64 0), v3, v6, (.int .i64 0)] h6) fun e7 x7 h7 => iJ e7
 (none)
 (fun i7 => if i7 = 0 then (cS [(aG x7 0), .nili] h.length h7) else (none))
 (cS [.undef, .undef] h.length h7)))
noncomputable def dF.f (G : aC) : Nat → cK
 | 0 => fun _ _ => none
 | k + 1 => fun args h => jD args fun x0 => (dF.c G k (dF.f G k) x0 h)
theorem dF.step (G : aC) (k : Nat) (x0 : AV) (h : aA) : dF.f G (k + 1) [x0] h = dF.c G k (dF.f G k) x0 h := rfl
noncomputable def aO.ann : Ann := fD [] [] [(2, [0, 1, 4, 7, 8])] []
noncomputable def aO.env (G : aC) (k : Nat) (self : cK) : List (Nat × Bool × cK) := []
noncomputable def aO.l2 (G : aC) (k n0 : Nat) (self : cK) (lp : dO) : dO := fun xs h0 => gX n0 xs h0 fun h =>
 aE (pu h (bC Tryd.prog .lss 3 false (aG xs 4) (aG xs 3))) fun v2 h2 =>
 bK v2
 (aE (pu h2 (aM 1 (aG xs 0) (aG xs 4))) fun v3 h3 =>
 aE (pu h3 (aH G false 1 v3 h3)) fun v4 h4 =>
 aE (pu h4 (bC Tryd.prog .eql 3 false (aG xs 1) v4)) fun v5 h5 =>
 bK v5
 (some (.ret, [(aG xs 0), (aG xs 1), (aG xs 4), (aG xs 3), (aG xs 4)], h5))
 (aE (pu h5 (bC Tryd.prog .add 3 true (aG xs 4) (.int .i64 1))) fun v6 h6 =>
 lp [(aG xs 0), (aG xs 1), (aG xs 2), (aG xs 3), v6] h6))
 (some (.exit 0, [(aG xs 0), (aG xs 1), (aG xs 2), (aG xs 3), (aG xs 4)], h2))
noncomputable def aO.c (G : aC) (k : Nat) (self : cK) (x0 x1 : AV) (h : aA) : Option (AV × aA) := fQ (
 aE (pu h (cB x0)) fun v0 h0 =>
 dW (cC (aO.l2 G k h0.length self) k [x0, x1, (.int .i64 0), v0, (.int .i64 0)] h0) fun e1 x1 h1 => iJ e1
 (none)
 (fun i1 => if i1 = 0 then (cS [(.int .i64 (-1))] h.length h1) else (none))
 (cS [(aG x1 2)] h.length h1))
noncomputable def aO.f (G : aC) : Nat → cK
 | 0 => fun _ _ => none
 | k + 1 => fun args h => lW args fun x0 x1 => (aO.c G k (aO.f G k) x0 x1 h)
theorem aO.step (G : aC) (k : Nat) (x0 x1 : AV) (h : aA) : aO.f G (k + 1) [x0, x1] h = aO.c G k (aO.f G k) x0 x1 h := rfl
noncomputable def aW.ann : Ann := fD [] [] [] []
noncomputable def aW.env (G : aC) (k : Nat) (self : cK) : List (Nat × Bool × cK) := [(90, true, aO.f G k)]
noncomputable def aW.c (G : aC) (k : Nat) (self : cK) (x0 x1 : AV) (h : aA) : Option (AV × aA) := fQ (
 aE (aJ (aO.f G k) [x0, x1] h) fun v0 h0 =>
 aE (pu h0 (bC Tryd.prog .geq 3 true v0 (.int .i64 0))) fun v1 h1 =>
 cS [v1] h.length h1)
noncomputable def aW.f (G : aC) : Nat → cK
 | 0 => fun _ _ => none
 | k + 1 => fun args h => lW args fun x0 x1 => (aW.c G k (aW.f G k) x0 x1 h)
theorem aW.step (G : aC) (k : Nat) (x0 x1 : AV) (h : aA) : aW.f G (k + 1) [x0, x1] h = aW.c G k (aW.f G k) x0 x1 h := rfl
noncomputable def dH.ann : Ann := fD [] [] [] []
noncomputable def dH.env (G : aC) (k : Nat) (self : cK) : List (Nat × Bool × cK) := [(63, true, aW.f G k)]
noncomputable def dH.c (G : aC) (k : Nat) (self : cK) (x0 x1 x2 : AV) (h : aA) : Option (AV × aA) := fQ (
 aE (pu h (aH G false 1 x1 h)) fun v0 h0 =>
 aE (pu h0 (aM 1 v0 x0)) fun v1 h1 =>
 aE (pu h1 (aH G false 1 v1 h1)) fun v2 h2 =>
 aE (pu h2 (aH G false 1 x2 h2)) fun v3 h3 =>
 aE (aJ (aW.f G k) [v2, v3] h3) fun v4 h4 =>
 cS [v4] h.length h4)
noncomputable def dH.f (G : aC) : Nat → cK
 | 0 => fun _ _ => none
 | k + 1 => fun args h => aBR args fun x0 x1 x2 => (dH.c G k (dH.f G k) x0 x1 x2 h)
theorem dH.step (G : aC) (k : Nat) (x0 x1 x2 : AV) (h : aA) : dH.f G (k + 1) [x0, x1, x2] h = dH.c G k (dH.f G k) x0 x1 x2 h := rfl
noncomputable def aI.ann : Ann := fD [] [] [(2, [0, 1, 4, 7, 8])] []
noncomputable def aI.env (G : aC) (k : Nat) (self : cK) : List (Nat × Bool × cK) := [(62, false, dH.f G k)]
noncomputable def aI.l2 (G : aC) (k n0 : Nat) (self : cK) (lp : dO) : dO := fun xs h0 => gX n0 xs h0 fun h =>
 aE (pu h (bC Tryd.prog .lss 3 false (aG xs 4) (aG xs 3))) fun v2 h2 =>
 bK v2
 (aE (pu h2 (aM 1 (aG xs 0) (aG xs 4))) fun v3 h3 =>
 aE (pu h3 (aH G false 1 v3 h3)) fun v4 h4 =>
 aE (kX (fI (aI.env G k self)) (aG xs 1) [v4] h4) fun v5 h5 =>
 bK v5
 (some (.ret, [(aG xs 0), (aG xs 1), (aG xs 4), (aG xs 3), (aG xs 4)], h5))
 (aE (pu h5 (bC Tryd.prog .add 3 true (aG xs 4) (.int .i64 1))) fun v6 h6 =>
 lp [(aG xs 0), (aG xs 1), (aG xs 2), (aG xs 3), v6] h6))
 (some (.exit 0, [(aG xs 0), (aG xs 1), (aG xs 2), (aG xs 3), (aG xs 4)], h2))
noncomputable def aI.c (G : aC) (k : Nat) (self : cK) (x0 x1 : AV) (h : aA) : Option (AV × aA) := fQ (
 aE (pu h (cB x0)) fun v0 h0 =>
 dW (cC (aI.l2 G k h0.length self) k [x0, x1, (.int .i64 0), v0, (.int .i64 0)] h0) fun e1 x1 h1 => iJ e1
 (none)
 (fun i1 => if i1 = 0 then (cS [(.int .i64 (-1))] h.length h1) else (none))
 (cS [(aG x1 2)] h.length h1))
noncomputable def aI.f (G : aC) : Nat → cK
 | 0 => fun _ _ => none
 | k + 1 => fun args h => lW args fun x0 x1 => (aI.c G k (aI.f G k) x0 x1 h)
theorem aI.step (G : aC) (k : Nat) (x0 x1 : AV) (h : aA) : aI.f G (k + 1) [x0, x1] h = aI.c G k (aI.f G k) x0 x1 h := rfl
noncomputable def aQ.ann : Ann := fD [] [] [] []
noncomputable def aQ.env (G : aC) (k : Nat) (self : cK) : List (Nat × Bool × cK) := [(89, false, aI.f G k)]
noncomputable def aQ.c (G : aC) (k : Nat) (self : cK) (x0 x1 : AV) (h : aA) : Option (AV × aA) := fQ (
 aE (dG (aI.f G k) [x0, x1] h) fun v0 h0 =>
 aE (pu h0 (bC Tryd.prog .geq 3 true v0 (.int .i64 0))) fun v1 h1 =>
 cS [v1] h.length h1)
noncomputable def aQ.f (G : aC) : Nat → cK
 | 0 => fun _ _ => none
 | k + 1 => fun args h => lW args fun x0 x1 => (aQ.c G k (aQ.f G k) x0 x1 h)
theorem aQ.step (G : aC) (k : Nat) (x0 x1 : AV) (h : aA) : aQ.f G (k + 1) [x0, x1] h = aQ.c G k (aQ.f G k) x0 x1 h := rfl
noncomputable def cY.ann : Ann := fD [] [2, 6] [(6, [1, 4, 6, 20, 21, 22])] []
noncomputable def cY.env (G : aC) (k : Nat) (self : cK) : List (Nat × Bool × cK) := [(20, true, cT.f G k), (25, true, cG.f G k), (29, true, bB.f G k), (61, false, aQ.f G k), (62, false, dH.f G k)]
noncomputable def cY.l6 (G : aC) (k n0 : Nat) (self : cK) (lp : dO) : dO := fun xs h0 => gX n0 xs h0 fun h =>
 aE (pu h (bC Tryd.prog .lss 3 false (aG xs 5) (aG xs 4))) fun v15 h15 =>
 bK v15
 (aE (pu h15 (aM 6 (aG xs 3) (aG xs 5))) fun v16 h16 =>
 aE (pu h16 (aH G true 6 v16 h16)) fun v17 h17 =>
 aE (gD 29 (.agg [(.int .i64 0), (.int .i64 0), (.int .i64 0), (.int .i64 0), (.int .i64 0), (.int .i64 0)]) h17) fun v18 h18 =>
 aE (hX (cH 6 v18 v17 h18)) fun v19 h19 =>
 aE (pu h19 (aH G true 6 v18 h19)) fun v20 h20 =>
 aE (aJ (cT.f G k) [v20] h20) fun v21 h21 =>
 aE (pu h21 (cX v21 0)) fun v22 h22 =>
 aE (pu h22 (cX v21 1)) fun v23 h23 =>
 aE (gD 3 (.int .i64 0) h23) fun v24 h24 =>
 aE (hX (cH 1 v24 v22 h24)) fun v25 h25 =>
 aE (pu h25 (un .not v23)) fun v26 h26 =>
 aE (gd v26 false h26 (pu h26 (aF 0 v18))) fun v27 h27 =>
 aE (gd v26 false h27 (pu h27 (aH G false 1 v27 h27))) fun v28 h28 =>
 aE (gd v26 false h28 (pu h28 (bC Tryd.prog .eql 3 true v28 (.int .i64 15)))) fun v29 h29 =>
 aE (pu h29 (dL v26 (.bool true) v29)) fun v30 h30 =>
 bK v30
 (aE (pu h30 (bC Tryd.prog .add 3 true (aG xs 5) (.int .i64 1))) fun v31 h31 =>
 lp [(aG xs 0), (aG xs 1), (aG xs 2), (aG xs 3), (aG xs 4), v31] h31)
 (aE (pu h30 (aH G true 3 (aG xs 0) h30)) fun v32 h32 =>
 aE (aJ (cG.f G k) [v32, (aG xs 5)] h32) fun v33 h33 =>
 aE (dG (aQ.f G k) [v33, (.fn 62 [(aG xs 1), v24])] h33) fun v34 h34 =>
 aE (pu h34 (un .not v34)) fun v35 h35 =>
 bK v35
 (aE (dN 1 1 (.int .i64 0) [(0, (aG xs 5))] h35) fun v36 h36 =>
 aE (eQ 3 1 (aG xs 2) v36 h36) fun v37 h37 =>
 aE (pu h37 (bC Tryd.prog .add 3 true (aG xs 5) (.int .i64 1))) fun v38 h38 =>
 lp [(aG xs 0), (aG xs 1), v37, (aG xs 3), (aG xs 4), v38] h38)
 (aE (pu h35 (bC Tryd.prog .add 3 true (aG xs 5) (.int .i64 1))) fun v39 h39 =>
 lp [(aG xs 0), (aG xs 1), (aG xs 2), (aG xs 3), (aG xs 4), v39] h39)))
 (some (.exit 0, [(aG xs 0), (aG xs 1), (aG xs 2), (aG xs 3), (aG xs 4), (aG xs 5)], h15))
noncomputable def cY.c (G : aC) (k : Nat) (self : cK) (x0 : AV) (h : aA) : Option (AV × aA) := fQ (
 aE (eE x0 h) fun v0 h0 =>
 aE (some (.sl h0.length 0 0 0 1, h0 ++ [⟨3, 1, []⟩])) fun v1 h1 =>
 aE (pu h1 (aH G true 3 v0 h1)) fun v2 h2 =>
 aE (aJ (bB.f G k) [v2] h2) fun v3 h3 =>
 aE (pu h3 (cX v3 0)) fun v4 h4 =>
 aE (pu h4 (cX v3 1)) fun v5 h5 =>
 aE (gD 56 .nils h5) fun v6 h6 =>
 aE (hX (cH 1 v6 v4 h6)) fun v7 h7 =>
 aE (pu h7 (bC Tryd.prog .neq 33 true v5 .nili)) fun v8 h8 =>
 bK v8
 (aE (some (.sl h8.length 0 0 0 1, h8 ++ [⟨3, 1, []⟩])) fun v9 h9 =>
 cS [v9, v5] h.length h9)
 (aE (some (.sl h8.length 0 0 0 1, h8 ++ [⟨3, 1, []⟩])) fun v10 h10 =>
 aE (pu h10 (aF 0 v0)) fun v11 h11 =>
 aE (pu h11 (aH G false 1 v11 h11)) fun v12 h12 =>
 aE (pu h12 (cB v12)) fun v13 h13 =>
 dW (cC (cY.l6 G k h13.length self) k [v0, v6, v10, v12, v13, (.int .i64 0)] h13) fun e14 x14 h14 => iJ e14
 (none)
 (fun i14 => if i14 = 0 then (cS [(aG x14 2), .nili] h.length h14) else (none))
 (cS [.undef, .undef] h.length h14)))
noncomputable def cY.f (G : aC) : Nat → cK
 | 0 => fun _ _ => none
 | k + 1 => fun args h => jD args fun x0 => (cY.c G k (cY.f G k) x0 h)
theorem cY.step (G : aC) (k : Nat) (x0 : AV) (h : aA) : cY.f G (k + 1) [x0] h = cY.c G k (cY.f G k) x0 h := rfl
noncomputable def aU.ann : Ann := fD [] [] [(4, [0, 1, 4, 5])] []
noncomputable def aU.env (G : aC) (k : Nat) (self : cK) : List (Nat × Bool × cK) := [(22, true, aT.f G k)]
noncomputable def aU.l4 (G : aC) (k n0 : Nat) (self : cK) (lp : dO) : dO := fun xs h0 => gX n0 xs h0 fun h =>
 aE (pu h (cB (aG xs 0))) fun v4 h4 =>
 aE (pu h4 (bC Tryd.prog .lss 3 false (aG xs 3) v4)) fun v5 h5 =>
 bK v5
 (aE (pu h5 (aM 1 (aG xs 0) (aG xs 3))) fun v6 h6 =>
 aE (pu h6 (aH G false 1 v6 h6)) fun v7 h7 =>
 aE (pu h7 (aM 1 (aG xs 1) (aG xs 3))) fun v8 h8 =>
 aE (pu h8 (aH G false 1 v8 h8)) fun v9 h9 =>
 aE (aJ (aT.f G k) [v7, v9] h9) fun v10 h10 =>
 aE (pu h10 (un .not v10)) fun v11 h11 =>
 bK v11
 (some (.ret, [(aG xs 0), (aG xs 1), (.bool false), (aG xs 3)], h11))
 (aE (pu h11 (bC Tryd.prog .add 3 true (aG xs 3) (.int .i64 1))) fun v12 h12 =>
 lp [(aG xs 0), (aG xs 1), (aG xs 2), v12] h12))
 (some (.exit 0, [(aG xs 0), (aG xs 1), (aG xs 2), (aG xs 3)], h5))
noncomputable def aU.c (G : aC) (k : Nat) (self : cK) (x0 x1 : AV) (h : aA) : Option (AV × aA) := fQ (
 aE (pu h (cB x0)) fun v0 h0 =>
 aE (pu h0 (cB x1)) fun v1 h1 =>
 aE (pu h1 (bC Tryd.prog .neq 3 false v0 v1)) fun v2 h2 =>
 bK v2
 (cS [(.bool false)] h.length h2)
 (dW (cC (aU.l4 G k h2.length self) k [x0, x1, (.bool false), (.int .i64 0)] h2) fun e3 x3 h3 => iJ e3
 (none)
 (fun i3 => if i3 = 0 then (cS [(.bool true)] h.length h3) else (none))
 (cS [(aG x3 2)] h.length h3)))
noncomputable def aU.f (G : aC) : Nat → cK
 | 0 => fun _ _ => none
 | k + 1 => fun args h => lW args fun x0 x1 => (aU.c G k (aU.f G k) x0 x1 h)
theorem aU.step (G : aC) (k : Nat) (x0 x1 : AV) (h : aA) : aU.f G (k + 1) [x0, x1] h = aU.c G k (aU.f G k) x0 x1 h := rfl
noncomputable def aP.ann : Ann := fD [] [] [(7, [1, 7, 8, 9, 10]), (4, [1, 7, 8, 9])] []
noncomputable def aP.env (G : aC) (k : Nat) (self : cK) : List (Nat × Bool × cK) := [(26, true, aK.f G k), (37, true, bA.f G k)]
noncomputable def aP.l7 (G : aC) (k n0 : Nat) (self : cK) (lp : dO) : dO := fun xs h0 => gX n0 xs h0 fun h =>
 aE (pu h (aM 1 (aG xs 2) (aG xs 3))) fun v7 h7 =>
 aE (pu h7 (aH G false 1 v7 h7)) fun v8 h8 =>
 aE (pu h8 (aM 1 (aG xs 0) v8)) fun v9 h9 =>
 aE (pu h9 (aH G false 1 v9 h9)) fun v10 h10 =>
 aE (pu h10 (cB v10)) fun v11 h11 =>
 aE (pu h11 (bC Tryd.prog .lss 3 false (aG xs 4) v11)) fun v12 h12 =>
 bK v12
 (aE (pu h12 (aM 1 (aG xs 2) (aG xs 3))) fun v13 h13 =>
 aE (pu h13 (aH G false 1 v13 h13)) fun v14 h14 =>
 aE (pu h14 (aM 1 (aG xs 0) v14)) fun v15 h15 =>
 aE (pu h15 (aH G false 1 v15 h15)) fun v16 h16 =>
 aE (pu h16 (aM 1 v16 (aG xs 4))) fun v17 h17 =>
 aE (pu h17 (aH G false 1 v17 h17)) fun v18 h18 =>
 aE (aJ (bA.f G k) [(aG xs 1), v18] h18) fun v19 h19 =>
 aE (pu h19 (bC Tryd.prog .add 3 true (aG xs 4) (.int .i64 1))) fun v20 h20 =>
 lp [(aG xs 0), v19, (aG xs 2), (aG xs 3), v20] h20)
 (some (.exit 2, [(aG xs 0), (aG xs 1), (aG xs 2), (aG xs 3), (aG xs 4)], h12))
noncomputable def aP.l4 (G : aC) (k n0 : Nat) (self : cK) (lp : dO) : dO := fun xs h0 => gX n0 xs h0 fun h =>
 aE (pu h (cB (aG xs 2))) fun v4 h4 =>
 aE (pu h4 (bC Tryd.prog .lss 3 false (aG xs 3) v4)) fun v5 h5 =>
 bK v5
 (dW (cC (aP.l7 G k h5.length self) k [(aG xs 0), (aG xs 1), (aG xs 2), (aG xs 3), (.int .i64 0)] h5) fun e6 x6 h6 => iJ e6
 (none)
 (fun i6 => if i6 = 2 then (aE (pu h6 (bC Tryd.prog .add 3 true (aG x6 3) (.int .i64 1))) fun v21 h21 =>
 lp [(aG x6 0), (aG x6 1), (aG x6 2), v21] h21) else (if i6 = 1 then (aE (pu h6 (bC Tryd.prog .add 3 true (aG x6 3) (.int .i64 1))) fun v22 h22 =>
 lp [(aG x6 0), (aG x6 1), (aG x6 2), v22] h22) else (some (.exit i6, [(aG x6 0), (aG x6 1), (aG x6 2), (aG x6 3)], h6))))
 (some (.ret, [(aG x6 0), (aG x6 1), (aG x6 2), (aG x6 3)], h6)))
 (some (.exit 0, [(aG xs 0), (aG xs 1), (aG xs 2), (aG xs 3)], h5))
noncomputable def aP.c (G : aC) (k : Nat) (self : cK) (x0 x1 x2 : AV) (h : aA) : Option (AV × aA) := fQ (
 aE (eE x0 h) fun v0 h0 =>
 aE (pu h0 (aH G true 3 v0 h0)) fun v1 h1 =>
 aE (aJ (aK.f G k) [v1, x2] h1) fun v2 h2 =>
 dW (cC (aP.l4 G k h2.length self) k [x1, .nils, v2, (.int .i64 0)] h2) fun e3 x3 h3 => iJ e3
 (none)
 (fun i3 => if i3 = 0 then (cS [(aG x3 1)] h.length h3) else (none))
 (cS [.undef] h.length h3))
noncomputable def aP.f (G : aC) : Nat → cK
 | 0 => fun _ _ => none
 | k + 1 => fun args h => aBR args fun x0 x1 x2 => (aP.c G k (aP.f G k) x0 x1 x2 h)
theorem aP.step (G : aC) (k : Nat) (x0 x1 x2 : AV) (h : aA) : aP.f G (k + 1) [x0, x1, x2] h = aP.c G k (aP.f G k) x0 x1 x2 h := rfl
noncomputable def cA.ann : Ann := fD [] [4, 5] [(3, [0, 1, 5, 6])] [(4, [0, 1, 5, 6])]
noncomputable def cA.env (G : aC) (k : Nat) (self : cK) : List (Nat × Bool × cK) := []
noncomputable def cA.l3 (G : aC) (k n0 : Nat) (self : cK) (lp : dO) : dO := fun xs h0 => gX n0 xs h0 fun h =>
 aE (pu h (cB (aG xs 0))) fun v3 h3 =>
 aE (pu h3 (bC Tryd.prog .lss 3 false (aG xs 3) v3)) fun v4 h4 =>
 bK v4
 (dW (
 aE (pu h4 (aM 1 (aG xs 0) (aG xs 3))) fun v5 h5 =>
 aE (pu h5 (aH G false 1 v5 h5)) fun v6 h6 =>
 aE (pu h6 (bC Tryd.prog .neq 3 false v6 (aG xs 1))) fun v7 h7 =>
 bK v7
 (aE (pu h7 (aM 1 (aG xs 0) (aG xs 3))) fun v8 h8 =>
 aE (pu h8 (aH G false 1 v8 h8)) fun v9 h9 =>
 aE (dN 1 1 (.int .i64 0) [(0, v9)] h9) fun v10 h10 =>
 aE (eQ 3 1 (aG xs 2) v10 h10) fun v11 h11 =>
 some (.normal, [(aG xs 0), (aG xs 1), v11, (aG xs 3)], h11))
 (some (.normal, [(aG xs 0), (aG xs 1), (aG xs 2), (aG xs 3)], h7))) fun e12 x12 h12 => iJ e12
 (aE (pu h12 (bC Tryd.prog .add 3 true (aG x12 3) (.int .i64 1))) fun v13 h13 =>
 lp [(aG x12 0), (aG x12 1), (aG x12 2), v13] h13)
 (fun i12 => some (.exit i12, [(aG x12 0), (aG x12 1), (aG x12 2), (aG x12 3)], h12))
 (some (.ret, [(aG x12 0), (aG x12 1), (aG x12 2), (aG x12 3)], h12)))
 (some (.exit 0, [(aG xs 0), (aG xs 1), (aG xs 2), (aG xs 3)], h4))
noncomputable def cA.c (G : aC) (k : Nat) (self : cK) (x0 x1 : AV) (h : aA) : Option (AV × aA) := fQ (
 aE (some (.sl h.length 0 0 0 1, h ++ [⟨3, 1, []⟩])) fun v0 h0 =>
 aE (some (.sl h0.length 0 0 0 1, h0 ++ [⟨3, 1, []⟩])) fun v1 h1 =>
 dW (cC (cA.l3 G k h1.length self) k [x0, x1, v1, (.int .i64 0)] h1) fun e2 x2 h2 => iJ e2
 (none)
 (fun i2 => if i2 = 0 then (cS [(aG x2 2)] h.length h2) else (none))
 (cS [.undef] h.length h2))
noncomputable def cA.f (G : aC) : Nat → cK
 | 0 => fun _ _ => none
 | k + 1 => fun args h => lW args fun x0 x1 => (cA.c G k (cA.f G k) x0 x1 h)
theorem cA.step (G : aC) (k : Nat) (x0 x1 : AV) (h : aA) : cA.f G (k + 1) [x0, x1] h = cA.c G k (cA.f G k) x0 x1 h := rfl
noncomputable def aN.ann : Ann := fD [] [] [(12, [1, 3, 4, 5, 6, 9, 10]), (4, [1, 3, 4, 5]), (2, [1, 2, 3])] [(5, [1, 3, 4, 5]), (10, [1, 3, 4, 5, 6])]
noncomputable def aN.env (G : aC) (k : Nat) (self : cK) : List (Nat × Bool × cK) := [(21, true, aY.f G k), (24, true, aS.f G k), (37, true, bA.f G k), (66, true, aP.f G k), (67, true, cA.f G k)]
noncomputable def aN.l12 (G : aC) (k n0 : Nat) (self : cK) (lp : dO) : dO := fun xs h0 => gX n0 xs h0 fun h =>
 aE (pu h (cB (aG xs 5))) fun v29 h29 =>
 aE (pu h29 (bC Tryd.prog .lss 3 false (aG xs 6) v29)) fun v30 h30 =>
 bK v30
 (aE (pu h30 (aM 1 (aG xs 5) (aG xs 6))) fun v31 h31 =>
 aE (pu h31 (aH G false 1 v31 h31)) fun v32 h32 =>
 aE (aJ (bA.f G k) [(aG xs 4), v32] h32) fun v33 h33 =>
 aE (pu h33 (bC Tryd.prog .add 3 true (aG xs 6) (.int .i64 1))) fun v34 h34 =>
 lp [(aG xs 0), (aG xs 1), (aG xs 2), (aG xs 3), v33, (aG xs 5), v34] h34)
 (some (.exit 4, [(aG xs 0), (aG xs 1), (aG xs 2), (aG xs 3), (aG xs 4), (aG xs 5), (aG xs 6)], h30))
noncomputable def aN.l4 (G : aC) (k n0 : Nat) (self : cK) (lp : dO) : dO := fun xs h0 => gX n0 xs h0 fun h =>
 aE (pu h (bC Tryd.prog .geq 3 true (aG xs 3) (.int .i64 0))) fun v11 h11 =>
 bK v11
 (dW (
 aE (pu h11 (aH G true 3 (aG xs 0) h11)) fun v12 h12 =>
 aE (aJ (aP.f G k) [v12, (aG xs 1), (aG xs 3)] h12) fun v13 h13 =>
 aE (pu h13 (aF 0 (aG xs 0))) fun v14 h14 =>
 aE (pu h14 (aH G false 1 v14 h14)) fun v15 h15 =>
 aE (pu h15 (aM 6 v15 (aG xs 3))) fun v16 h16 =>
 aE (pu h16 (aH G true 6 v16 h16)) fun v17 h17 =>
 aE (aJ (aY.f G k) [v17] h17) fun v18 h18 =>
 aE (pu h18 (cX v18 0)) fun v19 h19 =>
 aE (pu h19 (cX v18 1)) fun v20 h20 =>
 dW (
 bK v20
 (aE (aJ (cA.f G k) [v13, v19] h20) fun v21 h21 =>
 some (.normal, [(aG xs 0), (aG xs 1), (aG xs 2), (aG xs 3), v21], h21))
 (some (.normal, [(aG xs 0), (aG xs 1), (aG xs 2), (aG xs 3), v13], h20))) fun e22 x22 h22 => iJ e22
 (aE (pu h22 (aF 0 (aG x22 0))) fun v23 h23 =>
 aE (pu h23 (aH G false 1 v23 h23)) fun v24 h24 =>
 aE (pu h24 (aM 6 v24 (aG x22 3))) fun v25 h25 =>
 aE (pu h25 (aH G true 6 v25 h25)) fun v26 h26 =>
 aE (aJ (aS.f G k) [v26] h26) fun v27 h27 =>
 dW (cC (aN.l12 G k h27.length self) k [(aG x22 0), (aG x22 1), (aG x22 2), (aG x22 3), (aG x22 4), v27, (.int .i64 0)] h27) fun e28 x28 h28 => iJ e28
 (none)
 (fun i28 => if i28 = 4 then (aE (pu h28 (cB (aG x28 4))) fun v35 h35 =>
 aE (pu h35 (aM 1 (aG x28 1) (aG x28 3))) fun v36 h36 =>
 aE (pu h36 (aH G false 1 v36 h36)) fun v37 h37 =>
 aE (pu h37 (cB v37)) fun v38 h38 =>
 aE (pu h38 (bC Tryd.prog .neq 3 false v35 v38)) fun v39 h39 =>
 bK v39
 (aE (pu h39 (aM 1 (aG x28 1) (aG x28 3))) fun v40 h40 =>
 aE (hX (cH 1 v40 (aG x28 4) h40)) fun v41 h41 =>
 some (.normal, [(aG x28 0), (aG x28 1), (.bool true), (aG x28 3)], h41))
 (some (.normal, [(aG x28 0), (aG x28 1), (aG x28 2), (aG x28 3)], h39))) else (if i28 = 3 then (some (.normal, [(aG x28 0), (aG x28 1), (aG x28 2), (aG x28 3)], h28)) else (some (.exit i28, [(aG x28 0), (aG x28 1), (aG x28 2), (aG x28 3)], h28))))
 (some (.ret, [(aG x28 0), (aG x28 1), (aG x28 2), (aG x28 3)], h28)))
 (fun i22 => if i22 = 3 then (some (.normal, [(aG x22 0), (aG x22 1), (aG x22 2), (aG x22 3)], h22)) else (some (.exit i22, [(aG x22 0), (aG x22 1), (aG x22 2), (aG x22 3)], h22)))
 (some (.ret, [(aG x22 0), (aG x22 1), (aG x22 2), (aG x22 3)], h22))) fun e42 x42 h42 => iJ e42
 (aE (pu h42 (bC Tryd.prog .sub 3 true (aG x42 3) (.int .i64 1))) fun v43 h43 =>
 lp [(aG x42 0), (aG x42 1), (aG x42 2), v43] h43)
 (fun i42 => some (.exit i42, [(aG x42 0), (aG x42 1), (aG x42 2), (aG x42 3)], h42))
 (some (.ret, [(aG x42 0), (aG x42 1), (aG x42 2), (aG x42 3)], h42)))
 (some (.exit 2, [(aG xs 0), (aG xs 1), (aG xs 2), (aG xs 3)], h11))
noncomputable def aN.l2 (G : aC) (k n0 : Nat) (self : cK) (lp : dO) : dO := fun xs h0 => gX n0 xs h0 fun h =>
 aE (pu h (aF 0 (aG xs 0))) fun v6 h6 =>
 aE (pu h6 (aH G false 1 v6 h6)) fun v7 h7 =>
 aE (pu h7 (cB v7)) fun v8 h8 =>
 aE (pu h8 (bC Tryd.prog .sub 3 true v8 (.int .i64 1))) fun v9 h9 =>
 dW (cC (aN.l4 G k h9.length self) k [(aG xs 0), (aG xs 2), (.bool false), v9] h9) fun e10 x10 h10 => iJ e10
 (none)
 (fun i10 => if i10 = 2 then (aE (pu h10 (un .not (aG x10 2))) fun v44 h44 =>
 bK v44
 (some (.ret, [(aG x10 0), (aG x10 1), (aG x10 1)], h44))
 (lp [(aG x10 0), .undef, (aG x10 1)] h44)) else (if i10 = 1 then (lp [(aG x10 0), .undef, (aG x10 1)] h10) else (some (.exit i10, [(aG x10 0), .undef, (aG x10 1)], h10))))
 (some (.ret, [(aG x10 0), .undef, (aG x10 1)], h10))
noncomputable def aN.c (G : aC) (k : Nat) (self : cK) (x0 : AV) (h : aA) : Option (AV × aA) := fQ (
 aE (eE x0 h) fun v0 h0 =>
 aE (pu h0 (aF 0 v0)) fun v1 h1 =>
 aE (pu h1 (aH G false 1 v1 h1)) fun v2 h2 =>
 aE (pu h2 (cB v2)) fun v3 h3 =>
 aE (fR 49 1 .nils v3 v3 h3) fun v4 h4 =>
 dW (cC (aN.l2 G k h4.length self) k [v0, .nils, v4] h4) fun e5 x5 h5 => iJ e5
 (none)
 (fun i5 => if i5 = 0 then (cS [(aG x5 1)] h.length h5) else (none))
 (cS [(aG x5 1)] h.length h5))
noncomputable def aN.f (G : aC) : Nat → cK
 | 0 => fun _ _ => none
 | k + 1 => fun args h => jD args fun x0 => (aN.c G k (aN.f G k) x0 h)
theorem aN.step (G : aC) (k : Nat) (x0 : AV) (h : aA) : aN.f G (k + 1) [x0] h = aN.c G k (aN.f G k) x0 h := rfl
noncomputable def bI.ann : Ann := fD [] [] [(4, [3, 4, 5])] []
noncomputable def bI.env (G : aC) (k : Nat) (self : cK) : List (Nat × Bool × cK) := [(34, true, aN.f G k)]
noncomputable def bI.l4 (G : aC) (k n0 : Nat) (self : cK) (lp : dO) : dO := fun xs h0 => gX n0 xs h0 fun h =>
 aE (pu h (cB (aG xs 1))) fun v4 h4 =>
 aE (pu h4 (bC Tryd.prog .lss 3 false (aG xs 2) v4)) fun v5 h5 =>
 bK v5
 (aE (pu h5 (aM 1 (aG xs 1) (aG xs 2))) fun v6 h6 =>
 aE (pu h6 (aH G false 1 v6 h6)) fun v7 h7 =>
 aE (pu h7 (cB v7)) fun v8 h8 =>
 aE (pu h8 (nN rO (aG xs 0) [v8])) fun v9 h9 =>
 aE (pu h9 (bC Tryd.prog .add 3 true (aG xs 2) (.int .i64 1))) fun v10 h10 =>
 lp [v9, (aG xs 1), v10] h10)
 (some (.exit 0, [(aG xs 0), (aG xs 1), (aG xs 2)], h5))
noncomputable def bI.c (G : aC) (k : Nat) (self : cK) (x0 : AV) (h : aA) : Option (AV × aA) := fQ (
 aE (eE x0 h) fun v0 h0 =>
 aE (pu h0 (aH G true 3 v0 h0)) fun v1 h1 =>
 aE (aJ (aN.f G k) [v1] h1) fun v2 h2 =>
 dW (cC (bI.l4 G k h2.length self) k [(.int .i64 0), v2, (.int .i64 0)] h2) fun e3 x3 h3 => iJ e3
 (none)
 (fun i3 => if i3 = 0 then (cS [(aG x3 0)] h.length h3) else (none))
 (cS [.undef] h.length h3))
noncomputable def bI.f (G : aC) : Nat → cK
 | 0 => fun _ _ => none
 | k + 1 => fun args h => jD args fun x0 => (bI.c G k (bI.f G k) x0 h)
theorem bI.step (G : aC) (k : Nat) (x0 : AV) (h : aA) : bI.f G (k + 1) [x0] h = bI.c G k (bI.f G k) x0 h := rfl
noncomputable def bR.ann : Ann := fD [] [] [(2, [0, 1, 4, 5])] []
noncomputable def bR.env (G : aC) (k : Nat) (self : cK) : List (Nat × Bool × cK) := []
noncomputable def bR.l2 (G : aC) (k n0 : Nat) (self : cK) (lp : dO) : dO := fun xs h0 => gX n0 xs h0 fun h =>
 aE (pu h (cB (aG xs 0))) fun v1 h1 =>
 aE (pu h1 (bC Tryd.prog .lss 3 false (aG xs 3) v1)) fun v2 h2 =>
 bK v2
 (aE (pu h2 (aM 1 (aG xs 0) (aG xs 3))) fun v3 h3 =>
 aE (pu h3 (aH G false 1 v3 h3)) fun v4 h4 =>
 aE (pu h4 (bC Tryd.prog .eql 3 false v4 (aG xs 1))) fun v5 h5 =>
 bK v5
 (some (.ret, [(aG xs 0), (aG xs 1), (.bool true), (aG xs 3)], h5))
 (aE (pu h5 (bC Tryd.prog .add 3 true (aG xs 3) (.int .i64 1))) fun v6 h6 =>
 lp [(aG xs 0), (aG xs 1), (aG xs 2), v6] h6))
 (some (.exit 0, [(aG xs 0), (aG xs 1), (aG xs 2), (aG xs 3)], h2))
noncomputable def bR.c (G : aC) (k : Nat) (self : cK) (x0 x1 : AV) (h : aA) : Option (AV × aA) := fQ (
 dW (cC (bR.l2 G k h.length self) k [x0, x1, (.bool false), (.int .i64 0)] h) fun e0 x0 h0 => iJ e0
 (none)
 (fun i0 => if i0 = 0 then (cS [(.bool false)] h.length h0) else (none))
 (cS [(aG x0 2)] h.length h0))
noncomputable def bR.f (G : aC) : Nat → cK
 | 0 => fun _ _ => none
 | k + 1 => fun args h => lW args fun x0 x1 => (bR.c G k (bR.f G k) x0 x1 h)
theorem bR.step (G : aC) (k : Nat) (x0 x1 : AV) (h : aA) : bR.f G (k + 1) [x0, x1] h = bR.c G k (bR.f G k) x0 x1 h := rfl
noncomputable def bH.ann : Ann := fD [] [2, 4] [(4, [1, 3, 4, 5])] [(5, [1, 3, 4, 5])]
noncomputable def bH.env (G : aC) (k : Nat) (self : cK) : List (Nat × Bool × cK) := [(21, true, aY.f G k), (34, true, aN.f G k), (38, true, bR.f G k), (66, true, aP.f G k)]
noncomputable def bH.l4 (G : aC) (k n0 : Nat) (self : cK) (lp : dO) : dO := fun xs h0 => gX n0 xs h0 fun h =>
 aE (pu h (aF 0 (aG xs 0))) fun v6 h6 =>
 aE (pu h6 (aH G false 1 v6 h6)) fun v7 h7 =>
 aE (pu h7 (cB v7)) fun v8 h8 =>
 aE (pu h8 (bC Tryd.prog .lss 3 false (aG xs 3) v8)) fun v9 h9 =>
 bK v9
 (dW (
 aE (pu h9 (aF 0 (aG xs 0))) fun v10 h10 =>
 aE (pu h10 (aH G false 1 v10 h10)) fun v11 h11 =>
 aE (pu h11 (aM 6 v11 (aG xs 3))) fun v12 h12 =>
 aE (pu h12 (aH G true 6 v12 h12)) fun v13 h13 =>
 aE (aJ (aY.f G k) [v13] h13) fun v14 h14 =>
 aE (pu h14 (cX v14 0)) fun v15 h15 =>
 aE (pu h15 (cX v14 1)) fun v16 h16 =>
 aE (gd v16 true h16 (pu h16 (aF 0 (aG xs 0)))) fun v17 h17 =>
 aE (gd v16 true h17 (pu h17 (aH G false 1 v17 h17))) fun v18 h18 =>
 aE (gd v16 true h18 (some ((aG xs 3), h18))) fun v19 h19 =>
 aE (gd v16 true h19 (pu h19 (aM 6 v18 v19))) fun v20 h20 =>
 aE (gd v16 true h20 (pu h20 (aF 0 v20))) fun v21 h21 =>
 aE (gd v16 true h21 (pu h21 (aH G false 1 v21 h21))) fun v22 h22 =>
 aE (gd v16 true h22 (pu h22 (bC Tryd.prog .neq 3 true v22 (.int .i64 15)))) fun v23 h23 =>
 aE (pu h23 (dL v16 v23 (.bool false))) fun v24 h24 =>
 aE (gd v24 true h24 (pu h24 (aH G true 3 (aG xs 0) h24))) fun v25 h25 =>
 aE (gd v24 true h25 (some ((aG xs 1), h25))) fun v26 h26 =>
 aE (gd v24 true h26 (some ((aG xs 3), h26))) fun v27 h27 =>
 aE (gd v24 true h27 (aJ (aP.f G k) [v25, v26, v27] h27)) fun v28 h28 =>
 aE (gd v24 true h28 (some (v15, h28))) fun v29 h29 =>
 aE (gd v24 true h29 (aJ (bR.f G k) [v28, v29] h29)) fun v30 h30 =>
 aE (gd v24 true h30 (pu h30 (un .not v30))) fun v31 h31 =>
 aE (pu h31 (dL v24 v31 (.bool false))) fun v32 h32 =>
 bK v32
 (aE (dN 1 1 (.int .i64 0) [(0, (aG xs 3))] h32) fun v33 h33 =>
 aE (eQ 3 1 (aG xs 2) v33 h33) fun v34 h34 =>
 some (.normal, [(aG xs 0), (aG xs 1), v34, (aG xs 3)], h34))
 (some (.normal, [(aG xs 0), (aG xs 1), (aG xs 2), (aG xs 3)], h32))) fun e35 x35 h35 => iJ e35
 (aE (pu h35 (bC Tryd.prog .add 3 true (aG x35 3) (.int .i64 1))) fun v36 h36 =>
 lp [(aG x35 0), (aG x35 1), (aG x35 2), v36] h36)
 (fun i35 => some (.exit i35, [(aG x35 0), (aG x35 1), (aG x35 2), (aG x35 3)], h35))
 (some (.ret, [(aG x35 0), (aG x35 1), (aG x35 2), (aG x35 3)], h35)))
 (some (.exit 0, [(aG xs 0), (aG xs 1), (aG xs 2), (aG xs 3)], h9))
noncomputable def bH.c (G : aC) (k : Nat) (self : cK) (x0 : AV) (h : aA) : Option (AV × aA) := fQ (
 aE (eE x0 h) fun v0 h0 =>
 aE (some (.sl h0.length 0 0 0 1, h0 ++ [⟨3, 1, []⟩])) fun v1 h1 =>
 aE (pu h1 (aH G true 3 v0 h1)) fun v2 h2 =>
 aE (aJ (aN.f G k) [v2] h2) fun v3 h3 =>
 aE (some (.sl h3.length 0 0 0 1, h3 ++ [⟨3, 1, []⟩])) fun v4 h4 =>
 dW (cC (bH.l4 G k h4.length self) k [v0, v3, v4, (.int .i64 0)] h4) fun e5 x5 h5 => iJ e5
 (none)
 (fun i5 => if i5 = 0 then (cS [(aG x5 2)] h.length h5) else (none))
 (cS [.undef] h.length h5))
noncomputable def bH.f (G : aC) : Nat → cK
 | 0 => fun _ _ => none
 | k + 1 => fun args h => jD args fun x0 => (bH.c G k (bH.f G k) x0 h)
theorem bH.step (G : aC) (k : Nat) (x0 : AV) (h : aA) : bH.f G (k + 1) [x0] h = bH.c G k (bH.f G k) x0 h := rfl
noncomputable def alembiclaw20_LiveSays.ann : Ann := fD [] [] [] []
noncomputable def alembiclaw20_LiveSays.env (G : aC) (k : Nat) (self : cK) : List (Nat × Bool × cK) := [(18, true, cO.f G k), (19, true, bW.f G k), (20, true, cT.f G k), (21, true, aY.f G k), (22, true, aT.f G k), (23, true, cD.f G k), (24, true, aS.f G k), (25, true, cG.f G k), (26, true, aK.f G k), (27, true, bL.f G k), (28, true, bE.f G k), (29, true, bB.f G k), (30, true, dF.f G k), (31, true, cY.f G k), (32, true, cI.f G k), (33, true, aU.f G k), (34, true, aN.f G k), (35, true, bI.f G k), (36, true, bH.f G k)]
noncomputable def alembiclaw20_LiveSays.c (G : aC) (k : Nat) (self : cK) (x0 x1 x2 : AV) (h : aA) : Option (AV × aA) := fQ (
 aE (eE x0 h) fun v0 h0 =>
 aE (eE x1 h0) fun v1 h1 =>
 aE (aJ (cO.f G k) [] h1) fun v2 h2 =>
 aE (pu h2 (un .not v2)) fun v3 h3 =>
 bK v3
 (cS [(.bool false)] h.length h3)
 (aE (pu h3 (aH G true 3 v0 h3)) fun v4 h4 =>
 aE (aJ (bW.f G k) [v4] h4) fun v5 h5 =>
 aE (pu h5 (un .not v5)) fun v6 h6 =>
 bK v6
 (cS [v2] h.length h6)
 (aE (pu h6 (aH G true 6 v1 h6)) fun v7 h7 =>
 aE (aJ (cT.f G k) [v7] h7) fun v8 h8 =>
 aE (pu h8 (cX v8 0)) fun v9 h9 =>
 aE (pu h9 (cX v8 1)) fun v10 h10 =>
 aE (pu h10 (aH G true 6 v1 h10)) fun v11 h11 =>
 aE (aJ (aY.f G k) [v11] h11) fun v12 h12 =>
 aE (pu h12 (cX v12 0)) fun v13 h13 =>
 aE (pu h13 (cX v12 1)) fun v14 h14 =>
 aE (pu h14 (bC Tryd.prog .neq 3 false v9 v13)) fun v15 h15 =>
 aE (gd v15 false h15 (some (v10, h15))) fun v16 h16 =>
 aE (gd v15 false h16 (some (v14, h16))) fun v17 h17 =>
 aE (gd v15 false h17 (pu h17 (bC Tryd.prog .neq 4 false v16 v17))) fun v18 h18 =>
 aE (pu h18 (dL v15 (.bool true) v18)) fun v19 h19 =>
 aE (gd v19 false h19 (pu h19 (aH G true 6 v1 h19))) fun v20 h20 =>
 aE (gd v19 false h20 (aJ (cD.f G k) [v20] h20)) fun v21 h21 =>
 aE (gd v19 false h21 (pu h21 (aH G true 6 v1 h21))) fun v22 h22 =>
 aE (gd v19 false h22 (aJ (aS.f G k) [v22] h22)) fun v23 h23 =>
 aE (gd v19 false h23 (aJ (aT.f G k) [v21, v23] h23)) fun v24 h24 =>
 aE (gd v19 false h24 (pu h24 (un .not v24))) fun v25 h25 =>
 aE (pu h25 (dL v19 (.bool true) v25)) fun v26 h26 =>
 aE (gd v26 false h26 (pu h26 (aH G true 3 v0 h26))) fun v27 h27 =>
 aE (gd v26 false h27 (some (x2, h27))) fun v28 h28 =>
 aE (gd v26 false h28 (aJ (cG.f G k) [v27, v28] h28)) fun v29 h29 =>
 aE (gd v26 false h29 (pu h29 (aH G true 3 v0 h29))) fun v30 h30 =>
 aE (gd v26 false h30 (aJ (bL.f G k) [v30] h30)) fun v31 h31 =>
 aE (gd v26 false h31 (some (x2, h31))) fun v32 h32 =>
 aE (gd v26 false h32 (aJ (aK.f G k) [v31, v32] h32)) fun v33 h33 =>
 aE (gd v26 false h33 (aJ (aT.f G k) [v29, v33] h33)) fun v34 h34 =>
 aE (gd v26 false h34 (pu h34 (un .not v34))) fun v35 h35 =>
 aE (pu h35 (dL v26 (.bool true) v35)) fun v36 h36 =>
 bK v36
 (cS [(.bool false)] h.length h36)
 (aE (pu h36 (aH G true 3 v0 h36)) fun v37 h37 =>
 aE (aJ (bL.f G k) [v37] h37) fun v38 h38 =>
 aE (aJ (bE.f G k) [v38] h38) fun v39 h39 =>
 aE (gD 54 (.agg [(.int .i64 0), (.bool false), (.int .i64 0)]) h39) fun v40 h40 =>
 aE (hX (cH 3 v40 v39 h40)) fun v41 h41 =>
 aE (pu h41 (aH G true 3 v0 h41)) fun v42 h42 =>
 aE (aJ (bB.f G k) [v42] h42) fun v43 h43 =>
 aE (pu h43 (cX v43 0)) fun v44 h44 =>
 aE (pu h44 (cX v43 1)) fun v45 h45 =>
 aE (pu h45 (aH G true 3 v0 h45)) fun v46 h46 =>
 aE (aJ (dF.f G k) [v46] h46) fun v47 h47 =>
 aE (pu h47 (cX v47 0)) fun v48 h48 =>
 aE (pu h48 (cX v47 1)) fun v49 h49 =>
 aE (pu h49 (aH G true 3 v0 h49)) fun v50 h50 =>
 aE (aJ (cY.f G k) [v50] h50) fun v51 h51 =>
 aE (pu h51 (cX v51 0)) fun v52 h52 =>
 aE (pu h52 (cX v51 1)) fun v53 h53 =>
 aE (pu h53 (aH G true 3 v40 h53)) fun v54 h54 =>
 aE (aJ (cI.f G k) [v45, v54] h54) fun v55 h55 =>
 aE (pu h55 (un .not v55)) fun v56 h56 =>
 aE (gd v56 false h56 (some (v49, h56))) fun v57 h57 =>
 aE (gd v56 false h57 (pu h57 (aH G true 3 v40 h57))) fun v58 h58 =>
 aE (gd v56 false h58 (aJ (cI.f G k) [v57, v58] h58)) fun v59 h59 =>
 aE (gd v56 false h59 (pu h59 (un .not v59))) fun v60 h60 =>
 aE (pu h60 (dL v56 (.bool true) v60)) fun v61 h61 =>
 aE (gd v61 false h61 (some (v53, h61))) fun v62 h62 =>
 aE (gd v61 false h62 (pu h62 (aH G true 3 v40 h62))) fun v63 h63 =>
 aE (gd v61 false h63 (aJ (cI.f G k) [v62, v63] h63)) fun v64 h64 =>
 aE (gd v61 false h64 (pu h64 (un .not v64))) fun v65 h65 =>
 aE (pu h65 (dL v61 (.bool true) v65)) fun v66 h66 =>
 bK v66
 (cS [(.bool false)] h.length h66)
 (aE (pu h66 (aF 0 v40)) fun v67 h67 =>
 aE (pu h67 (aH G false 1 v67 h67)) fun v68 h68 =>
 aE (pu h68 (bC Tryd.prog .neq 3 true v68 (.int .i64 0))) fun v69 h69 =>
 bK v69
 (aE (gd v2 true h69 (some (v44, h69))) fun v70 h70 =>
 aE (gd v2 true h70 (pu h70 (cB v70))) fun v71 h71 =>
 aE (gd v2 true h71 (pu h71 (bC Tryd.prog .eql 3 true v71 (.int .i64 0)))) fun v72 h72 =>
 aE (pu h72 (dL v2 v72 (.bool false))) fun v73 h73 =>
 aE (gd v73 true h73 (some (v48, h73))) fun v74 h74 =>
 aE (gd v73 true h74 (pu h74 (bC Tryd.prog .eql 3 true v74 (.int .i64 0)))) fun v75 h75 =>
 aE (pu h75 (dL v73 v75 (.bool false))) fun v76 h76 =>
 aE (gd v76 true h76 (some (v52, h76))) fun v77 h77 =>
 aE (gd v76 true h77 (pu h77 (cB v77))) fun v78 h78 =>
 aE (gd v76 true h78 (pu h78 (bC Tryd.prog .eql 3 true v78 (.int .i64 0)))) fun v79 h79 =>
 aE (pu h79 (dL v76 v79 (.bool false))) fun v80 h80 =>
 cS [v80] h.length h80)
 (aE (gd v2 true h69 (some (v44, h69))) fun v81 h81 =>
 aE (gd v2 true h81 (pu h81 (aH G true 3 v0 h81))) fun v82 h82 =>
 aE (gd v2 true h82 (aJ (bL.f G k) [v82] h82)) fun v83 h83 =>
 aE (gd v2 true h83 (aJ (aN.f G k) [v83] h83)) fun v84 h84 =>
 aE (gd v2 true h84 (aJ (aU.f G k) [v81, v84] h84)) fun v85 h85 =>
 aE (pu h85 (dL v2 v85 (.bool false))) fun v86 h86 =>
 aE (gd v86 true h86 (some (v48, h86))) fun v87 h87 =>
 aE (gd v86 true h87 (pu h87 (aH G true 3 v0 h87))) fun v88 h88 =>
 aE (gd v86 true h88 (aJ (bL.f G k) [v88] h88)) fun v89 h89 =>
 aE (gd v86 true h89 (aJ (bI.f G k) [v89] h89)) fun v90 h90 =>
 aE (gd v86 true h90 (pu h90 (bC Tryd.prog .eql 3 false v87 v90))) fun v91 h91 =>
 aE (pu h91 (dL v86 v91 (.bool false))) fun v92 h92 =>
 aE (gd v92 true h92 (some (v52, h92))) fun v93 h93 =>
 aE (gd v92 true h93 (pu h93 (aH G true 3 v0 h93))) fun v94 h94 =>
 aE (gd v92 true h94 (aJ (bL.f G k) [v94] h94)) fun v95 h95 =>
 aE (gd v92 true h95 (aJ (bH.f G k) [v95] h95)) fun v96 h96 =>
 aE (gd v92 true h96 (aJ (aT.f G k) [v93, v96] h96)) fun v97 h97 =>
 aE (pu h97 (dL v92 v97 (.bool false))) fun v98 h98 =>
 cS [v98] h.length h98))))))
noncomputable def alembiclaw20_LiveSays.f (G : aC) : Nat → cK
 | 0 => fun _ _ => none
 | k + 1 => fun args h => aBR args fun x0 x1 x2 => (alembiclaw20_LiveSays.c G k (alembiclaw20_LiveSays.f G k) x0 x1 x2 h)
theorem alembiclaw20_LiveSays.step (G : aC) (k : Nat) (x0 x1 x2 : AV) (h : aA) : alembiclaw20_LiveSays.f G (k + 1) [x0, x1, x2] h = alembiclaw20_LiveSays.c G k (alembiclaw20_LiveSays.f G k) x0 x1 x2 h := rfl
theorem orders : Tryd.prog.follows .mixedOrders = true := by kernel_rfl
theorem eP.here : HrP Tryd.prog 86 := ⟨_, Tryd.func86, by kernel_rfl, by kernel_rfl⟩
theorem eP.eq (G : aC) (k : Nat) (self : cK) (x0 : AV) (h : aA) : fB Tryd.prog G (fI (eP.env G k self)) eP.ann Tryd.f86.results.toList (dJ Tryd.f86) Tryd.f86.ntmps k [x0] h = eP.c G k self x0 h := by kernel_rfl
theorem eP.sound {G : aC} (hG : ∀ g x, G g = some x → bP x = true) : ∀ k, Sound Tryd.prog G 86 (eP.f G k)
 | 0 => bX eP.here (fun _ _ => rfl)
 | k + 1 => bZ (l := eP.env G k (eP.f G k)) (ann := eP.ann) (n := k) (bN hG dP) orders Tryd.func86 (by kernel_rfl) (by kernel_rfl) rfl (by kernel_rfl) (fM fun x0 h => eP.eq G k _ x0 h)
theorem dX.here : HrP Tryd.prog 51 := ⟨_, Tryd.func51, by kernel_rfl, by kernel_rfl⟩
theorem dX.eq (G : aC) (k : Nat) (self : cK) (x0 : AV) (h : aA) : fB Tryd.prog G (fI (dX.env G k self)) dX.ann Tryd.f51.results.toList (dJ Tryd.f51) Tryd.f51.ntmps k [x0] h = dX.c G k self x0 h := by kernel_rfl
theorem dX.sound {G : aC} (hG : ∀ g x, G g = some x → bP x = true) : ∀ k, Sound Tryd.prog G 51 (dX.f G k)
 | 0 => bX dX.here (fun _ _ => rfl)
 | k + 1 => bZ (l := dX.env G k (dX.f G k)) (ann := dX.ann) (n := k) (bN hG (bY (eP.sound hG k) dP)) orders Tryd.func51 (by kernel_rfl) (by kernel_rfl) rfl (by kernel_rfl) (fM fun x0 h => dX.eq G k _ x0 h)
theorem fG.here : HrP Tryd.prog 95 := ⟨_, Tryd.func95, by kernel_rfl, by kernel_rfl⟩
theorem fG.eq (G : aC) (k : Nat) (self : cK) (x0 x1 : AV) (h : aA) : fB Tryd.prog G (fI (fG.env G k self)) fG.ann Tryd.f95.results.toList (dJ Tryd.f95) Tryd.f95.ntmps k [x0, x1] h = fG.c G k self x0 x1 h := by kernel_rfl
theorem fG.sound {G : aC} (hG : ∀ g x, G g = some x → bP x = true) : ∀ k, Sound Tryd.prog G 95 (fG.f G k)
 | 0 => bX fG.here (fun _ _ => rfl)
 | k + 1 => bZ (l := fG.env G k (fG.f G k)) (ann := fG.ann) (n := k) (bN hG dP) orders Tryd.func95 (by kernel_rfl) (by kernel_rfl) rfl (by kernel_rfl) (gG fun x0 x1 h => fG.eq G k _ x0 x1 h)
theorem cR.here : HrP Tryd.prog 72 := ⟨_, Tryd.func72, by kernel_rfl, by kernel_rfl⟩
theorem cR.eq (G : aC) (k : Nat) (self : cK) (x0 x1 : AV) (h : aA) : fB Tryd.prog G (fI (cR.env G k self)) cR.ann Tryd.f72.results.toList (dJ Tryd.f72) Tryd.f72.ntmps k [x0, x1] h = cR.c G k self x0 x1 h := by kernel_rfl
theorem cR.sound {G : aC} (hG : ∀ g x, G g = some x → bP x = true) : ∀ k, Sound Tryd.prog G 72 (cR.f G k)
 | 0 => bX cR.here (fun _ _ => rfl)
 | k + 1 => bZ (l := cR.env G k (cR.f G k)) (ann := cR.ann) (n := k) (bN hG (bY (dX.sound hG k) (bY (fG.sound hG k) dP))) orders Tryd.func72 (by kernel_rfl) (by kernel_rfl) rfl (by kernel_rfl) (gG fun x0 x1 h => cR.eq G k _ x0 x1 h)
theorem cW.here : HrP Tryd.prog 43 := ⟨_, Tryd.func43, by kernel_rfl, by kernel_rfl⟩
theorem cW.eq (G : aC) (k : Nat) (self : cK) (x0 : AV) (h : aA) : fB Tryd.prog G (fI (cW.env G k self)) cW.ann Tryd.f43.results.toList (dJ Tryd.f43) Tryd.f43.ntmps k [x0] h = cW.c G k self x0 h := by kernel_rfl
theorem cW.sound {G : aC} (hG : ∀ g x, G g = some x → bP x = true) : ∀ k, Sound Tryd.prog G 43 (cW.f G k)
 | 0 => bX cW.here (fun _ _ => rfl)
 | k + 1 => bZ (l := cW.env G k (cW.f G k)) (ann := cW.ann) (n := k) (bN hG (bY (cR.sound hG k) dP)) orders Tryd.func43 (by kernel_rfl) (by kernel_rfl) rfl (by kernel_rfl) (fM fun x0 h => cW.eq G k _ x0 h)
theorem cT.here : HrP Tryd.prog 20 := ⟨_, Tryd.func20, by kernel_rfl, by kernel_rfl⟩
theorem cT.eq (G : aC) (k : Nat) (self : cK) (x0 : AV) (h : aA) : fB Tryd.prog G (fI (cT.env G k self)) cT.ann Tryd.f20.results.toList (dJ Tryd.f20) Tryd.f20.ntmps k [x0] h = cT.c G k self x0 h := by kernel_rfl
theorem cT.sound {G : aC} (hG : ∀ g x, G g = some x → bP x = true) : ∀ k, Sound Tryd.prog G 20 (cT.f G k)
 | 0 => bX cT.here (fun _ _ => rfl)
 | k + 1 => bZ (l := cT.env G k (cT.f G k)) (ann := cT.ann) (n := k) (bN hG (bY (dX.sound hG k) dP)) orders Tryd.func20 (by kernel_rfl) (by kernel_rfl) rfl (by kernel_rfl) (fM fun x0 h => cT.eq G k _ x0 h)
theorem cF.here : HrP Tryd.prog 120 := ⟨_, Tryd.func120, by kernel_rfl, by kernel_rfl⟩
theorem cF.eq (G : aC) (k : Nat) (self : cK) (x0 : AV) (h : aA) : fB Tryd.prog G (fI (cF.env G k self)) cF.ann Tryd.f120.results.toList (dJ Tryd.f120) Tryd.f120.ntmps k [x0] h = cF.c G k self x0 h := by kernel_rfl
theorem cF.sound {G : aC} (hG : ∀ g x, G g = some x → bP x = true) : ∀ k, Sound Tryd.prog G 120 (cF.f G k)
 | 0 => bX cF.here (fun _ _ => rfl)
 | k + 1 => bZ (l := cF.env G k (cF.f G k)) (ann := cF.ann) (n := k) (bN hG dP) orders Tryd.func120 (by kernel_rfl) (by kernel_rfl) rfl (by kernel_rfl) (fM fun x0 h => cF.eq G k _ x0 h)
theorem cL.here : HrP Tryd.prog 103 := ⟨_, Tryd.func103, by kernel_rfl, by kernel_rfl⟩
theorem cL.eq (G : aC) (k : Nat) (self : cK) (x0 x1 : AV) (h : aA) : fB Tryd.prog G (fI (cL.env G k self)) cL.ann Tryd.f103.results.toList (dJ Tryd.f103) Tryd.f103.ntmps k [x0, x1] h = cL.c G k self x0 x1 h := by kernel_rfl
theorem cL.sound {G : aC} (hG : ∀ g x, G g = some x → bP x = true) : ∀ k, Sound Tryd.prog G 103 (cL.f G k)
 | 0 => bX cL.here (fun _ _ => rfl)
 | k + 1 => bZ (l := cL.env G k (cL.f G k)) (ann := cL.ann) (n := k) (bN hG (bY (cF.sound hG k) dP)) orders Tryd.func103 (by kernel_rfl) (by kernel_rfl) rfl (by kernel_rfl) (gG fun x0 x1 h => cL.eq G k _ x0 x1 h)
theorem aD.here : HrP Tryd.prog 97 := ⟨_, Tryd.func97, by kernel_rfl, by kernel_rfl⟩
theorem aD.eq (G : aC) (k : Nat) (self : cK) (x0 x1 x2 : AV) (h : aA) : fB Tryd.prog G (fI (aD.env G k self)) aD.ann Tryd.f97.results.toList (dJ Tryd.f97) Tryd.f97.ntmps k [x0, x1, x2] h = aD.c G k self x0 x1 x2 h := by kernel_rfl
theorem aD.sound {G : aC} (hG : ∀ g x, G g = some x → bP x = true) : ∀ k, Sound Tryd.prog G 97 (aD.f G k)
 | 0 => bX aD.here (fun _ _ => rfl)
 | k + 1 => bZ (l := aD.env G k (aD.f G k)) (ann := aD.ann) (n := k) (bN hG (bY (cL.sound hG k) dP)) orders Tryd.func97 (by kernel_rfl) (by kernel_rfl) rfl (by kernel_rfl) (pC fun x0 x1 x2 h => aD.eq G k _ x0 x1 x2 h)
theorem aL.here : HrP Tryd.prog 87 := ⟨_, Tryd.func87, by kernel_rfl, by kernel_rfl⟩
theorem aL.eq (G : aC) (k : Nat) (self : cK) (x0 x1 x2 x3 : AV) (h : aA) : fB Tryd.prog G (fI (aL.env G k self)) aL.ann Tryd.f87.results.toList (dJ Tryd.f87) Tryd.f87.ntmps k [x0, x1, x2, x3] h = aL.c G k self x0 x1 x2 x3 h := by kernel_rfl
theorem aL.sound {G : aC} (hG : ∀ g x, G g = some x → bP x = true) : ∀ k, Sound Tryd.prog G 87 (aL.f G k)
 | 0 => bX aL.here (fun _ _ => rfl)
 | k + 1 => bZ (l := aL.env G k (aL.f G k)) (ann := aL.ann) (n := k) (bN hG (bY (aL.sound hG k) (bY (aD.sound hG k) (bY (cL.sound hG k) dP)))) orders Tryd.func87 (by kernel_rfl) (by kernel_rfl) rfl (by kernel_rfl) (aHw fun x0 x1 x2 x3 h => aL.eq G k _ x0 x1 x2 x3 h)
theorem dA.here : HrP Tryd.prog 106 := ⟨_, Tryd.func106, by kernel_rfl, by kernel_rfl⟩
theorem dA.eq (G : aC) (k : Nat) (self : cK) (x0 : AV) (h : aA) : fB Tryd.prog G (fI (dA.env G k self)) dA.ann Tryd.f106.results.toList (dJ Tryd.f106) Tryd.f106.ntmps k [x0] h = dA.c G k self x0 h := by kernel_rfl
theorem dA.sound {G : aC} (hG : ∀ g x, G g = some x → bP x = true) : ∀ k, Sound Tryd.prog G 106 (dA.f G k)
 | 0 => bX dA.here (fun _ _ => rfl)
 | k + 1 => bZ (l := dA.env G k (dA.f G k)) (ann := dA.ann) (n := k) (bN hG dP) orders Tryd.func106 (by kernel_rfl) (by kernel_rfl) rfl (by kernel_rfl) (fM fun x0 h => dA.eq G k _ x0 h)
theorem dB.here : HrP Tryd.prog 107 := ⟨_, Tryd.func107, by kernel_rfl, by kernel_rfl⟩
theorem dB.eq (G : aC) (k : Nat) (self : cK) (x0 : AV) (h : aA) : fB Tryd.prog G (fI (dB.env G k self)) dB.ann Tryd.f107.results.toList (dJ Tryd.f107) Tryd.f107.ntmps k [x0] h = dB.c G k self x0 h := by kernel_rfl
theorem dB.sound {G : aC} (hG : ∀ g x, G g = some x → bP x = true) : ∀ k, Sound Tryd.prog G 107 (dB.f G k)
 | 0 => bX dB.here (fun _ _ => rfl)
 | k + 1 => bZ (l := dB.env G k (dB.f G k)) (ann := dB.ann) (n := k) (bN hG dP) orders Tryd.func107 (by kernel_rfl) (by kernel_rfl) rfl (by kernel_rfl) (fM fun x0 h => dB.eq G k _ x0 h)
theorem cZ.here : HrP Tryd.prog 88 := ⟨_, Tryd.func88, by kernel_rfl, by kernel_rfl⟩
theorem cZ.eq (G : aC) (k : Nat) (self : cK) (x0 : AV) (h : aA) : fB Tryd.prog G (fI (cZ.env G k self)) cZ.ann Tryd.f88.results.toList (dJ Tryd.f88) Tryd.f88.ntmps k [x0] h = cZ.c G k self x0 h := by kernel_rfl
theorem cZ.sound {G : aC} (hG : ∀ g x, G g = some x → bP x = true) : ∀ k, Sound Tryd.prog G 88 (cZ.f G k)
 | 0 => bX cZ.here (fun _ _ => rfl)
 | k + 1 => bZ (l := cZ.env G k (cZ.f G k)) (ann := cZ.ann) (n := k) (bN hG (bY (dA.sound hG k) (bY (dB.sound hG k) dP))) orders Tryd.func88 (by kernel_rfl) (by kernel_rfl) rfl (by kernel_rfl) (fM fun x0 h => cZ.eq G k _ x0 h)
theorem aX.here : HrP Tryd.prog 53 := ⟨_, Tryd.func53, by kernel_rfl, by kernel_rfl⟩
theorem aX.eq (G : aC) (k : Nat) (self : cK) (x0 : AV) (h : aA) : fB Tryd.prog G (fI (aX.env G k self)) aX.ann Tryd.f53.results.toList (dJ Tryd.f53) Tryd.f53.ntmps k [x0] h = aX.c G k self x0 h := by kernel_rfl
theorem aX.sound {G : aC} (hG : ∀ g x, G g = some x → bP x = true) : ∀ k, Sound Tryd.prog G 53 (aX.f G k)
 | 0 => bX aX.here (fun _ _ => rfl)
 | k + 1 => bZ (l := aX.env G k (aX.f G k)) (ann := aX.ann) (n := k) (bN hG (bY (aL.sound hG k) (bY (cZ.sound hG k) dP))) orders Tryd.func53 (by kernel_rfl) (by kernel_rfl) rfl (by kernel_rfl) (fM fun x0 h => aX.eq G k _ x0 h)
theorem aB.here : HrP Tryd.prog 54 := ⟨_, Tryd.func54, by kernel_rfl, by kernel_rfl⟩
theorem aB.eq (G : aC) (k : Nat) (self : cK) (x0 : AV) (h : aA) : fB Tryd.prog G (fI (aB.env G k self)) aB.ann Tryd.f54.results.toList (dJ Tryd.f54) Tryd.f54.ntmps k [x0] h = aB.c G k self x0 h := by kernel_rfl
theorem aB.sound {G : aC} (hG : ∀ g x, G g = some x → bP x = true) : ∀ k, Sound Tryd.prog G 54 (aB.f G k)
 | 0 => bX aB.here (fun _ _ => rfl)
 | k + 1 => bZ (l := aB.env G k (aB.f G k)) (ann := aB.ann) (n := k) (bN hG dP) orders Tryd.func54 (by kernel_rfl) (by kernel_rfl) rfl (by kernel_rfl) (fM fun x0 h => aB.eq G k _ x0 h)
theorem cD.here : HrP Tryd.prog 23 := ⟨_, Tryd.func23, by kernel_rfl, by kernel_rfl⟩
theorem cD.eq (G : aC) (k : Nat) (self : cK) (x0 : AV) (h : aA) : fB Tryd.prog G (fI (cD.env G k self)) cD.ann Tryd.f23.results.toList (dJ Tryd.f23) Tryd.f23.ntmps k [x0] h = cD.c G k self x0 h := by kernel_rfl
theorem cD.sound {G : aC} (hG : ∀ g x, G g = some x → bP x = true) : ∀ k, Sound Tryd.prog G 23 (cD.f G k)
 | 0 => bX cD.here (fun _ _ => rfl)
 | k + 1 => bZ (l := cD.env G k (cD.f G k)) (ann := cD.ann) (n := k) (bN hG (bY (dX.sound hG k) (bY (aX.sound hG k) (bY (aB.sound hG k) dP)))) orders Tryd.func23 (by kernel_rfl) (by kernel_rfl) rfl (by kernel_rfl) (fM fun x0 h => cD.eq G k _ x0 h)
theorem cQ.here : HrP Tryd.prog 42 := ⟨_, Tryd.func42, by kernel_rfl, by kernel_rfl⟩
theorem cQ.eq (G : aC) (k : Nat) (self : cK) (x0 : AV) (h : aA) : fB Tryd.prog G (fI (cQ.env G k self)) cQ.ann Tryd.f42.results.toList (dJ Tryd.f42) Tryd.f42.ntmps k [x0] h = cQ.c G k self x0 h := by kernel_rfl
theorem cQ.sound {G : aC} (hG : ∀ g x, G g = some x → bP x = true) : ∀ k, Sound Tryd.prog G 42 (cQ.f G k)
 | 0 => bX cQ.here (fun _ _ => rfl)
 | k + 1 => bZ (l := cQ.env G k (cQ.f G k)) (ann := cQ.ann) (n := k) (bN hG dP) orders Tryd.func42 (by kernel_rfl) (by kernel_rfl) rfl (by kernel_rfl) (fM fun x0 h => cQ.eq G k _ x0 h)
theorem bT.here : HrP Tryd.prog 52 := ⟨_, Tryd.func52, by kernel_rfl, by kernel_rfl⟩
theorem bT.eq (G : aC) (k : Nat) (self : cK) (x0 : AV) (h : aA) : fB Tryd.prog G (fI (bT.env G k self)) bT.ann Tryd.f52.results.toList (dJ Tryd.f52) Tryd.f52.ntmps k [x0] h = bT.c G k self x0 h := by kernel_rfl
theorem bT.sound {G : aC} (hG : ∀ g x, G g = some x → bP x = true) : ∀ k, Sound Tryd.prog G 52 (bT.f G k)
 | 0 => bX bT.here (fun _ _ => rfl)
 | k + 1 => bZ (l := bT.env G k (bT.f G k)) (ann := bT.ann) (n := k) (bN hG dP) orders Tryd.func52 (by kernel_rfl) (by kernel_rfl) rfl (by kernel_rfl) (fM fun x0 h => bT.eq G k _ x0 h)
theorem bF.here : HrP Tryd.prog 55 := ⟨_, Tryd.func55, by kernel_rfl, by kernel_rfl⟩
theorem bF.eq (G : aC) (k : Nat) (self : cK) (x0 x1 x2 : AV) (h : aA) : fB Tryd.prog G (fI (bF.env G k self)) bF.ann Tryd.f55.results.toList (dJ Tryd.f55) Tryd.f55.ntmps k [x0, x1, x2] h = bF.c G k self x0 x1 x2 h := by kernel_rfl
theorem bF.sound {G : aC} (hG : ∀ g x, G g = some x → bP x = true) : ∀ k, Sound Tryd.prog G 55 (bF.f G k)
 | 0 => bX bF.here (fun _ _ => rfl)
 | k + 1 => bZ (l := bF.env G k (bF.f G k)) (ann := bF.ann) (n := k) (bN hG dP) orders Tryd.func55 (by kernel_rfl) (by kernel_rfl) rfl (by kernel_rfl) (pC fun x0 x1 x2 h => bF.eq G k _ x0 x1 x2 h)
theorem bJ.here : HrP Tryd.prog 56 := ⟨_, Tryd.func56, by kernel_rfl, by kernel_rfl⟩
theorem bJ.eq (G : aC) (k : Nat) (self : cK) (x0 x1 : AV) (h : aA) : fB Tryd.prog G (fI (bJ.env G k self)) bJ.ann Tryd.f56.results.toList (dJ Tryd.f56) Tryd.f56.ntmps k [x0, x1] h = bJ.c G k self x0 x1 h := by kernel_rfl
theorem bJ.sound {G : aC} (hG : ∀ g x, G g = some x → bP x = true) : ∀ k, Sound Tryd.prog G 56 (bJ.f G k)
 | 0 => bX bJ.here (fun _ _ => rfl)
 | k + 1 => bZ (l := bJ.env G k (bJ.f G k)) (ann := bJ.ann) (n := k) (bN hG dP) orders Tryd.func56 (by kernel_rfl) (by kernel_rfl) rfl (by kernel_rfl) (gG fun x0 x1 h => bJ.eq G k _ x0 x1 h)
theorem cN.here : HrP Tryd.prog 58 := ⟨_, Tryd.func58, by kernel_rfl, by kernel_rfl⟩
theorem cN.eq (G : aC) (k : Nat) (self : cK) (h : aA) : fB Tryd.prog G (fI (cN.env G k self)) cN.ann Tryd.f58.results.toList (dJ Tryd.f58) Tryd.f58.ntmps k [] h = cN.c G k self h := by kernel_rfl
theorem cN.sound {G : aC} (hG : ∀ g x, G g = some x → bP x = true) : ∀ k, Sound Tryd.prog G 58 (cN.f G k)
 | 0 => bX cN.here (fun _ _ => rfl)
 | k + 1 => bZ (l := cN.env G k (cN.f G k)) (ann := cN.ann) (n := k) (bN hG dP) orders Tryd.func58 (by kernel_rfl) (by kernel_rfl) rfl (by kernel_rfl) (aAz fun h => cN.eq G k _ h)
theorem bU.here : HrP Tryd.prog 57 := ⟨_, Tryd.func57, by kernel_rfl, by kernel_rfl⟩
theorem bU.eq (G : aC) (k : Nat) (self : cK) (x0 x1 : AV) (h : aA) : fB Tryd.prog G (fI (bU.env G k self)) bU.ann Tryd.f57.results.toList (dJ Tryd.f57) Tryd.f57.ntmps k [x0, x1] h = bU.c G k self x0 x1 h := by kernel_rfl
theorem bU.sound {G : aC} (hG : ∀ g x, G g = some x → bP x = true) : ∀ k, Sound Tryd.prog G 57 (bU.f G k)
 | 0 => bX bU.here (fun _ _ => rfl)
 | k + 1 => bZ (l := bU.env G k (bU.f G k)) (ann := bU.ann) (n := k) (bN hG (bY (cN.sound hG k) dP)) orders Tryd.func57 (by kernel_rfl) (by kernel_rfl) rfl (by kernel_rfl) (gG fun x0 x1 h => bU.eq G k _ x0 x1 h)
theorem bE.here : HrP Tryd.prog 28 := ⟨_, Tryd.func28, by kernel_rfl, by kernel_rfl⟩
theorem bE.eq (G : aC) (k : Nat) (self : cK) (x0 : AV) (h : aA) : fB Tryd.prog G (fI (bE.env G k self)) bE.ann Tryd.f28.results.toList (dJ Tryd.f28) Tryd.f28.ntmps k [x0] h = bE.c G k self x0 h := by kernel_rfl
theorem bE.sound {G : aC} (hG : ∀ g x, G g = some x → bP x = true) : ∀ k, Sound Tryd.prog G 28 (bE.f G k)
 | 0 => bX bE.here (fun _ _ => rfl)
 | k + 1 => bZ (l := bE.env G k (bE.f G k)) (ann := bE.ann) (n := k) (bN hG (bY (cQ.sound hG k) (bY (bT.sound hG k) (bY (bF.sound hG k) (bY (bJ.sound hG k) (bY (bU.sound hG k) (bY (cN.sound hG k) dP))))))) orders Tryd.func28 (by kernel_rfl) (by kernel_rfl) rfl (by kernel_rfl) (fM fun x0 h => bE.eq G k _ x0 h)
theorem bM.here : HrP Tryd.prog 64 := ⟨_, Tryd.func64, by kernel_rfl, by kernel_rfl⟩
theorem bM.eq (G : aC) (k : Nat) (self : cK) (x0 x1 : AV) (h : aA) : fB Tryd.prog G (fI (bM.env G k self)) bM.ann Tryd.f64.results.toList (dJ Tryd.f64) Tryd.f64.ntmps k [x0, x1] h = bM.c G k self x0 x1 h := by kernel_rfl
theorem bM.sound {G : aC} (hG : ∀ g x, G g = some x → bP x = true) : ∀ k, Sound Tryd.prog G 64 (bM.f G k)
 | 0 => bX bM.here (fun _ _ => rfl)
 | k + 1 => bZ (l := bM.env G k (bM.f G k)) (ann := bM.ann) (n := k) (bN hG dP) orders Tryd.func64 (by kernel_rfl) (by kernel_rfl) rfl (by kernel_rfl) (gG fun x0 x1 h => bM.eq G k _ x0 x1 h)
theorem cM.here : HrP Tryd.prog 108 := ⟨_, Tryd.func108, by kernel_rfl, by kernel_rfl⟩
theorem cM.eq (G : aC) (k : Nat) (self : cK) (h : aA) : fB Tryd.prog G (fI (cM.env G k self)) cM.ann Tryd.f108.results.toList (dJ Tryd.f108) Tryd.f108.ntmps k [] h = cM.c G k self h := by kernel_rfl
theorem cM.sound {G : aC} (hG : ∀ g x, G g = some x → bP x = true) : ∀ k, Sound Tryd.prog G 108 (cM.f G k)
 | 0 => bX cM.here (fun _ _ => rfl)
 | k + 1 => bZ (l := cM.env G k (cM.f G k)) (ann := cM.ann) (n := k) (bN hG dP) orders Tryd.func108 (by kernel_rfl) (by kernel_rfl) rfl (by kernel_rfl) (aAz fun h => cM.eq G k _ h)
theorem dC.here : HrP Tryd.prog 109 := ⟨_, Tryd.func109, by kernel_rfl, by kernel_rfl⟩
theorem dC.eq (G : aC) (k : Nat) (self : cK) (x0 x1 : AV) (h : aA) : fB Tryd.prog G (fI (dC.env G k self)) dC.ann Tryd.f109.results.toList (dJ Tryd.f109) Tryd.f109.ntmps k [x0, x1] h = dC.c G k self x0 x1 h := by kernel_rfl
theorem dC.sound {G : aC} (hG : ∀ g x, G g = some x → bP x = true) : ∀ k, Sound Tryd.prog G 109 (dC.f G k)
 | 0 => bX dC.here (fun _ _ => rfl)
 | k + 1 => bZ (l := dC.env G k (dC.f G k)) (ann := dC.ann) (n := k) (bN hG dP) orders Tryd.func109 (by kernel_rfl) (by kernel_rfl) rfl (by kernel_rfl) (gG fun x0 x1 h => dC.eq G k _ x0 x1 h)
theorem cE.here : HrP Tryd.prog 91 := ⟨_, Tryd.func91, by kernel_rfl, by kernel_rfl⟩
theorem cE.eq (G : aC) (k : Nat) (self : cK) (x0 : AV) (h : aA) : fB Tryd.prog G (fI (cE.env G k self)) cE.ann Tryd.f91.results.toList (dJ Tryd.f91) Tryd.f91.ntmps k [x0] h = cE.c G k self x0 h := by kernel_rfl
theorem cE.sound {G : aC} (hG : ∀ g x, G g = some x → bP x = true) : ∀ k, Sound Tryd.prog G 91 (cE.f G k)
 | 0 => bX cE.here (fun _ _ => rfl)
 | k + 1 => bZ (l := cE.env G k (cE.f G k)) (ann := cE.ann) (n := k) (bN hG (bY (cM.sound hG k) (bY (dC.sound hG k) dP))) orders Tryd.func91 (by kernel_rfl) (by kernel_rfl) rfl (by kernel_rfl) (fM fun x0 h => cE.eq G k _ x0 h)
theorem cP.here : HrP Tryd.prog 65 := ⟨_, Tryd.func65, by kernel_rfl, by kernel_rfl⟩
theorem cP.eq (G : aC) (k : Nat) (self : cK) (x0 : AV) (h : aA) : fB Tryd.prog G (fI (cP.env G k self)) cP.ann Tryd.f65.results.toList (dJ Tryd.f65) Tryd.f65.ntmps k [x0] h = cP.c G k self x0 h := by kernel_rfl
theorem cP.sound {G : aC} (hG : ∀ g x, G g = some x → bP x = true) : ∀ k, Sound Tryd.prog G 65 (cP.f G k)
 | 0 => bX cP.here (fun _ _ => rfl)
 | k + 1 => bZ (l := cP.env G k (cP.f G k)) (ann := cP.ann) (n := k) (bN hG (bY (cQ.sound hG k) (bY (bU.sound hG k) (bY (cN.sound hG k) (bY (cE.sound hG k) dP))))) orders Tryd.func65 (by kernel_rfl) (by kernel_rfl) rfl (by kernel_rfl) (fM fun x0 h => cP.eq G k _ x0 h)
theorem cI.here : HrP Tryd.prog 32 := ⟨_, Tryd.func32, by kernel_rfl, by kernel_rfl⟩
theorem cI.eq (G : aC) (k : Nat) (self : cK) (x0 x1 : AV) (h : aA) : fB Tryd.prog G (fI (cI.env G k self)) cI.ann Tryd.f32.results.toList (dJ Tryd.f32) Tryd.f32.ntmps k [x0, x1] h = cI.c G k self x0 x1 h := by kernel_rfl
theorem cI.sound {G : aC} (hG : ∀ g x, G g = some x → bP x = true) : ∀ k, Sound Tryd.prog G 32 (cI.f G k)
 | 0 => bX cI.here (fun _ _ => rfl)
 | k + 1 => bZ (l := cI.env G k (cI.f G k)) (ann := cI.ann) (n := k) (bN hG (bY (bM.sound hG k) (bY (cP.sound hG k) dP))) orders Tryd.func32 (by kernel_rfl) (by kernel_rfl) rfl (by kernel_rfl) (gG fun x0 x1 h => cI.eq G k _ x0 x1 h)
theorem aT.here : HrP Tryd.prog 22 := ⟨_, Tryd.func22, by kernel_rfl, by kernel_rfl⟩
theorem aT.eq (G : aC) (k : Nat) (self : cK) (x0 x1 : AV) (h : aA) : fB Tryd.prog G (fI (aT.env G k self)) aT.ann Tryd.f22.results.toList (dJ Tryd.f22) Tryd.f22.ntmps k [x0, x1] h = aT.c G k self x0 x1 h := by kernel_rfl
theorem aT.sound {G : aC} (hG : ∀ g x, G g = some x → bP x = true) : ∀ k, Sound Tryd.prog G 22 (aT.f G k)
 | 0 => bX aT.here (fun _ _ => rfl)
 | k + 1 => bZ (l := aT.env G k (aT.f G k)) (ann := aT.ann) (n := k) (bN hG dP) orders Tryd.func22 (by kernel_rfl) (by kernel_rfl) rfl (by kernel_rfl) (gG fun x0 x1 h => aT.eq G k _ x0 x1 h)
theorem cG.here : HrP Tryd.prog 25 := ⟨_, Tryd.func25, by kernel_rfl, by kernel_rfl⟩
theorem cG.eq (G : aC) (k : Nat) (self : cK) (x0 x1 : AV) (h : aA) : fB Tryd.prog G (fI (cG.env G k self)) cG.ann Tryd.f25.results.toList (dJ Tryd.f25) Tryd.f25.ntmps k [x0, x1] h = cG.c G k self x0 x1 h := by kernel_rfl
theorem cG.sound {G : aC} (hG : ∀ g x, G g = some x → bP x = true) : ∀ k, Sound Tryd.prog G 25 (cG.f G k)
 | 0 => bX cG.here (fun _ _ => rfl)
 | k + 1 => bZ (l := cG.env G k (cG.f G k)) (ann := cG.ann) (n := k) (bN hG (bY (aX.sound hG k) (bY (aB.sound hG k) dP))) orders Tryd.func25 (by kernel_rfl) (by kernel_rfl) rfl (by kernel_rfl) (gG fun x0 x1 h => cG.eq G k _ x0 x1 h)
theorem dQ.here : HrP Tryd.prog 59 := ⟨_, Tryd.func59, by kernel_rfl, by kernel_rfl⟩
theorem dQ.eq (G : aC) (k : Nat) (self : cK) (x0 x1 x2 : AV) (h : aA) : fB Tryd.prog G (fI (dQ.env G k self)) dQ.ann Tryd.f59.results.toList (dJ Tryd.f59) Tryd.f59.ntmps k [x0, x1, x2] h = dQ.c G k self x0 x1 x2 h := by kernel_rfl
theorem dQ.sound {G : aC} (hG : ∀ g x, G g = some x → bP x = true) : ∀ k, Sound Tryd.prog G 59 (dQ.f G k)
 | 0 => bX dQ.here (fun _ _ => rfl)
 | k + 1 => bZ (l := dQ.env G k (dQ.f G k)) (ann := dQ.ann) (n := k) (bN hG dP) orders Tryd.func59 (by kernel_rfl) (by kernel_rfl) rfl (by kernel_rfl) (pC fun x0 x1 x2 h => dQ.eq G k _ x0 x1 x2 h)
theorem bD.here : HrP Tryd.prog 60 := ⟨_, Tryd.func60, by kernel_rfl, by kernel_rfl⟩
theorem bD.eq (G : aC) (k : Nat) (self : cK) (x0 : AV) (h : aA) : vQ Tryd.prog G (fI (bD.env G k self)) bD.ann Tryd.f60.results.toList (dJ Tryd.f60) Tryd.f60.ntmps k [x0] h = bD.c G k self x0 h := by kernel_rfl
theorem bD.sound {G : aC} (hG : ∀ g x, G g = some x → bP x = true) : ∀ k, Sound Tryd.prog G 60 (bD.f G k)
 | 0 => bX bD.here (fun _ _ => rfl)
 | k + 1 => uM (l := bD.env G k (bD.f G k)) (ann := bD.ann) (n := k) (bN hG dP) orders Tryd.func60 (by kernel_rfl) (by kernel_rfl) rfl (by kernel_rfl) (fM fun x0 h => bD.eq G k _ x0 h)
theorem bB.here : HrP Tryd.prog 29 := ⟨_, Tryd.func29, by kernel_rfl, by kernel_rfl⟩
theorem bB.eq (G : aC) (k : Nat) (self : cK) (x0 : AV) (h : aA) : fB Tryd.prog G (fI (bB.env G k self)) bB.ann Tryd.f29.results.toList (dJ Tryd.f29) Tryd.f29.ntmps k [x0] h = bB.c G k self x0 h := by kernel_rfl
theorem bB.sound {G : aC} (hG : ∀ g x, G g = some x → bP x = true) : ∀ k, Sound Tryd.prog G 29 (bB.f G k)
 | 0 => bX bB.here (fun _ _ => rfl)
 | k + 1 => bZ (l := bB.env G k (bB.f G k)) (ann := bB.ann) (n := k) (bN hG (bY (cT.sound hG k) (bY (cD.sound hG k) (bY (cG.sound hG k) (bY (cW.sound hG k) (bY (dQ.sound hG k) (bY (bD.sound hG k) dP))))))) orders Tryd.func29 (by kernel_rfl) (by kernel_rfl) rfl (by kernel_rfl) (fM fun x0 h => bB.eq G k _ x0 h)
theorem cO.here : HrP Tryd.prog 18 := ⟨_, Tryd.func18, by kernel_rfl, by kernel_rfl⟩
theorem cO.eq (G : aC) (k : Nat) (self : cK) (h : aA) : fB Tryd.prog G (fI (cO.env G k self)) cO.ann Tryd.f18.results.toList (dJ Tryd.f18) Tryd.f18.ntmps k [] h = cO.c G k self h := by kernel_rfl
theorem cO.sound {G : aC} (hG : ∀ g x, G g = some x → bP x = true) : ∀ k, Sound Tryd.prog G 18 (cO.f G k)
 | 0 => bX cO.here (fun _ _ => rfl)
 | k + 1 => bZ (l := cO.env G k (cO.f G k)) (ann := cO.ann) (n := k) (bN hG (bY (aT.sound hG k) (bY (cD.sound hG k) (bY (bB.sound hG k) dP)))) orders Tryd.func18 (by kernel_rfl) (by kernel_rfl) rfl (by kernel_rfl) (aAz fun h => cO.eq G k _ h)
theorem bW.here : HrP Tryd.prog 19 := ⟨_, Tryd.func19, by kernel_rfl, by kernel_rfl⟩
theorem bW.eq (G : aC) (k : Nat) (self : cK) (x0 : AV) (h : aA) : fB Tryd.prog G (fI (bW.env G k self)) bW.ann Tryd.f19.results.toList (dJ Tryd.f19) Tryd.f19.ntmps k [x0] h = bW.c G k self x0 h := by kernel_rfl
theorem bW.sound {G : aC} (hG : ∀ g x, G g = some x → bP x = true) : ∀ k, Sound Tryd.prog G 19 (bW.f G k)
 | 0 => bX bW.here (fun _ _ => rfl)
 | k + 1 => bZ (l := bW.env G k (bW.f G k)) (ann := bW.ann) (n := k) (bN hG dP) orders Tryd.func19 (by kernel_rfl) (by kernel_rfl) rfl (by kernel_rfl) (fM fun x0 h => bW.eq G k _ x0 h)
theorem aY.here : HrP Tryd.prog 21 := ⟨_, Tryd.func21, by kernel_rfl, by kernel_rfl⟩
theorem aY.eq (G : aC) (k : Nat) (self : cK) (x0 : AV) (h : aA) : fB Tryd.prog G (fI (aY.env G k self)) aY.ann Tryd.f21.results.toList (dJ Tryd.f21) Tryd.f21.ntmps k [x0] h = aY.c G k self x0 h := by kernel_rfl
theorem aY.sound {G : aC} (hG : ∀ g x, G g = some x → bP x = true) : ∀ k, Sound Tryd.prog G 21 (aY.f G k)
 | 0 => bX aY.here (fun _ _ => rfl)
 | k + 1 => bZ (l := aY.env G k (aY.f G k)) (ann := aY.ann) (n := k) (bN hG (bY (bT.sound hG k) dP)) orders Tryd.func21 (by kernel_rfl) (by kernel_rfl) rfl (by kernel_rfl) (fM fun x0 h => aY.eq G k _ x0 h)
theorem bQ.here : HrP Tryd.prog 68 := ⟨_, Tryd.func68, by kernel_rfl, by kernel_rfl⟩
theorem bQ.eq (G : aC) (k : Nat) (self : cK) (x0 : AV) (h : aA) : vQ Tryd.prog G (fI (bQ.env G k self)) bQ.ann Tryd.f68.results.toList (dJ Tryd.f68) Tryd.f68.ntmps k [x0] h = bQ.c G k self x0 h := by kernel_rfl
theorem bQ.sound {G : aC} (hG : ∀ g x, G g = some x → bP x = true) : ∀ k, Sound Tryd.prog G 68 (bQ.f G k)
 | 0 => bX bQ.here (fun _ _ => rfl)
 | k + 1 => uM (l := bQ.env G k (bQ.f G k)) (ann := bQ.ann) (n := k) (bN hG dP) orders Tryd.func68 (by kernel_rfl) (by kernel_rfl) rfl (by kernel_rfl) (fM fun x0 h => bQ.eq G k _ x0 h)
theorem bA.here : HrP Tryd.prog 37 := ⟨_, Tryd.func37, by kernel_rfl, by kernel_rfl⟩
theorem bA.eq (G : aC) (k : Nat) (self : cK) (x0 x1 : AV) (h : aA) : fB Tryd.prog G (fI (bA.env G k self)) bA.ann Tryd.f37.results.toList (dJ Tryd.f37) Tryd.f37.ntmps k [x0, x1] h = bA.c G k self x0 x1 h := by kernel_rfl
theorem bA.sound {G : aC} (hG : ∀ g x, G g = some x → bP x = true) : ∀ k, Sound Tryd.prog G 37 (bA.f G k)
 | 0 => bX bA.here (fun _ _ => rfl)
 | k + 1 => bZ (l := bA.env G k (bA.f G k)) (ann := bA.ann) (n := k) (bN hG (bY (bQ.sound hG k) dP)) orders Tryd.func37 (by kernel_rfl) (by kernel_rfl) rfl (by kernel_rfl) (gG fun x0 x1 h => bA.eq G k _ x0 x1 h)
theorem aS.here : HrP Tryd.prog 24 := ⟨_, Tryd.func24, by kernel_rfl, by kernel_rfl⟩
theorem aS.eq (G : aC) (k : Nat) (self : cK) (x0 : AV) (h : aA) : fB Tryd.prog G (fI (aS.env G k self)) aS.ann Tryd.f24.results.toList (dJ Tryd.f24) Tryd.f24.ntmps k [x0] h = aS.c G k self x0 h := by kernel_rfl
theorem aS.sound {G : aC} (hG : ∀ g x, G g = some x → bP x = true) : ∀ k, Sound Tryd.prog G 24 (aS.f G k)
 | 0 => bX aS.here (fun _ _ => rfl)
 | k + 1 => bZ (l := aS.env G k (aS.f G k)) (ann := aS.ann) (n := k) (bN hG (bY (bA.sound hG k) (bY (bT.sound hG k) dP))) orders Tryd.func24 (by kernel_rfl) (by kernel_rfl) rfl (by kernel_rfl) (fM fun x0 h => aS.eq G k _ x0 h)
theorem aK.here : HrP Tryd.prog 26 := ⟨_, Tryd.func26, by kernel_rfl, by kernel_rfl⟩
theorem aK.eq (G : aC) (k : Nat) (self : cK) (x0 x1 : AV) (h : aA) : fB Tryd.prog G (fI (aK.env G k self)) aK.ann Tryd.f26.results.toList (dJ Tryd.f26) Tryd.f26.ntmps k [x0, x1] h = aK.c G k self x0 x1 h := by kernel_rfl
theorem aK.sound {G : aC} (hG : ∀ g x, G g = some x → bP x = true) : ∀ k, Sound Tryd.prog G 26 (aK.f G k)
 | 0 => bX aK.here (fun _ _ => rfl)
 | k + 1 => bZ (l := aK.env G k (aK.f G k)) (ann := aK.ann) (n := k) (bN hG (bY (bA.sound hG k) dP)) orders Tryd.func26 (by kernel_rfl) (by kernel_rfl) rfl (by kernel_rfl) (gG fun x0 x1 h => aK.eq G k _ x0 x1 h)
theorem bL.here : HrP Tryd.prog 27 := ⟨_, Tryd.func27, by kernel_rfl, by kernel_rfl⟩
theorem bL.eq (G : aC) (k : Nat) (self : cK) (x0 : AV) (h : aA) : fB Tryd.prog G (fI (bL.env G k self)) bL.ann Tryd.f27.results.toList (dJ Tryd.f27) Tryd.f27.ntmps k [x0] h = bL.c G k self x0 h := by kernel_rfl
theorem bL.sound {G : aC} (hG : ∀ g x, G g = some x → bP x = true) : ∀ k, Sound Tryd.prog G 27 (bL.f G k)
 | 0 => bX bL.here (fun _ _ => rfl)
 | k + 1 => bZ (l := bL.env G k (bL.f G k)) (ann := bL.ann) (n := k) (bN hG dP) orders Tryd.func27 (by kernel_rfl) (by kernel_rfl) rfl (by kernel_rfl) (fM fun x0 h => bL.eq G k _ x0 h)
theorem dF.here : HrP Tryd.prog 30 := ⟨_, Tryd.func30, by kernel_rfl, by kernel_rfl⟩
theorem dF.eq (G : aC) (k : Nat) (self : cK) (x0 : AV) (h : aA) : fB Tryd.prog G (fI (dF.env G k self)) dF.ann Tryd.f30.results.toList (dJ Tryd.f30) Tryd.f30.ntmps k [x0] h = dF.c G k self x0 h := by kernel_rfl
theorem dF.sound {G : aC} (hG : ∀ g x, G g = some x → bP x = true) : ∀ k, Sound Tryd.prog G 30 (dF.f G k)
 | 0 => bX dF.here (fun _ _ => rfl)
 | k + 1 => bZ (l := dF.env G k (dF.f G k)) (ann := dF.ann) (n := k) (bN hG (bY (bB.sound hG k) dP)) orders Tryd.func30 (by kernel_rfl) (by kernel_rfl) rfl (by kernel_rfl) (fM fun x0 h => dF.eq G k _ x0 h)
theorem aO.here : HrP Tryd.prog 90 := ⟨_, Tryd.func90, by kernel_rfl, by kernel_rfl⟩
theorem aO.eq (G : aC) (k : Nat) (self : cK) (x0 x1 : AV) (h : aA) : fB Tryd.prog G (fI (aO.env G k self)) aO.ann Tryd.f90.results.toList (dJ Tryd.f90) Tryd.f90.ntmps k [x0, x1] h = aO.c G k self x0 x1 h := by kernel_rfl
theorem aO.sound {G : aC} (hG : ∀ g x, G g = some x → bP x = true) : ∀ k, Sound Tryd.prog G 90 (aO.f G k)
 | 0 => bX aO.here (fun _ _ => rfl)
 | k + 1 => bZ (l := aO.env G k (aO.f G k)) (ann := aO.ann) (n := k) (bN hG dP) orders Tryd.func90 (by kernel_rfl) (by kernel_rfl) rfl (by kernel_rfl) (gG fun x0 x1 h => aO.eq G k _ x0 x1 h)
theorem aW.here : HrP Tryd.prog 63 := ⟨_, Tryd.func63, by kernel_rfl, by kernel_rfl⟩
theorem aW.eq (G : aC) (k : Nat) (self : cK) (x0 x1 : AV) (h : aA) : fB Tryd.prog G (fI (aW.env G k self)) aW.ann Tryd.f63.results.toList (dJ Tryd.f63) Tryd.f63.ntmps k [x0, x1] h = aW.c G k self x0 x1 h := by kernel_rfl
theorem aW.sound {G : aC} (hG : ∀ g x, G g = some x → bP x = true) : ∀ k, Sound Tryd.prog G 63 (aW.f G k)
 | 0 => bX aW.here (fun _ _ => rfl)
 | k + 1 => bZ (l := aW.env G k (aW.f G k)) (ann := aW.ann) (n := k) (bN hG (bY (aO.sound hG k) dP)) orders Tryd.func63 (by kernel_rfl) (by kernel_rfl) rfl (by kernel_rfl) (gG fun x0 x1 h => aW.eq G k _ x0 x1 h)
theorem dH.here : HrP Tryd.prog 62 := ⟨_, Tryd.func62, by kernel_rfl, by kernel_rfl⟩
theorem dH.eq (G : aC) (k : Nat) (self : cK) (x0 x1 x2 : AV) (h : aA) : fB Tryd.prog G (fI (dH.env G k self)) dH.ann Tryd.f62.results.toList (dJ Tryd.f62) Tryd.f62.ntmps k [x0, x1, x2] h = dH.c G k self x0 x1 x2 h := by kernel_rfl
theorem dH.sound {G : aC} (hG : ∀ g x, G g = some x → bP x = true) : ∀ k, Sound Tryd.prog G 62 (dH.f G k)
 | 0 => bX dH.here (fun _ _ => rfl)
 | k + 1 => bZ (l := dH.env G k (dH.f G k)) (ann := dH.ann) (n := k) (bN hG (bY (aW.sound hG k) dP)) orders Tryd.func62 (by kernel_rfl) (by kernel_rfl) rfl (by kernel_rfl) (pC fun x0 x1 x2 h => dH.eq G k _ x0 x1 x2 h)
theorem aI.here : HrP Tryd.prog 89 := ⟨_, Tryd.func89, by kernel_rfl, by kernel_rfl⟩
theorem aI.eq (G : aC) (k : Nat) (self : cK) (x0 x1 : AV) (h : aA) : fB Tryd.prog G (fI (aI.env G k self)) aI.ann Tryd.f89.results.toList (dJ Tryd.f89) Tryd.f89.ntmps k [x0, x1] h = aI.c G k self x0 x1 h := by kernel_rfl
theorem aI.sound {G : aC} (hG : ∀ g x, G g = some x → bP x = true) : ∀ k, Sound Tryd.prog G 89 (aI.f G k)
 | 0 => bX aI.here (fun _ _ => rfl)
 | k + 1 => bZ (l := aI.env G k (aI.f G k)) (ann := aI.ann) (n := k) (bN hG (bY (dH.sound hG k) dP)) orders Tryd.func89 (by kernel_rfl) (by kernel_rfl) rfl (by kernel_rfl) (gG fun x0 x1 h => aI.eq G k _ x0 x1 h)
theorem aQ.here : HrP Tryd.prog 61 := ⟨_, Tryd.func61, by kernel_rfl, by kernel_rfl⟩
theorem aQ.eq (G : aC) (k : Nat) (self : cK) (x0 x1 : AV) (h : aA) : fB Tryd.prog G (fI (aQ.env G k self)) aQ.ann Tryd.f61.results.toList (dJ Tryd.f61) Tryd.f61.ntmps k [x0, x1] h = aQ.c G k self x0 x1 h := by kernel_rfl
theorem aQ.sound {G : aC} (hG : ∀ g x, G g = some x → bP x = true) : ∀ k, Sound Tryd.prog G 61 (aQ.f G k)
 | 0 => bX aQ.here (fun _ _ => rfl)
 | k + 1 => bZ (l := aQ.env G k (aQ.f G k)) (ann := aQ.ann) (n := k) (bN hG (bY (aI.sound hG k) dP)) orders Tryd.func61 (by kernel_rfl) (by kernel_rfl) rfl (by kernel_rfl) (gG fun x0 x1 h => aQ.eq G k _ x0 x1 h)
theorem cY.here : HrP Tryd.prog 31 := ⟨_, Tryd.func31, by kernel_rfl, by kernel_rfl⟩
theorem cY.eq (G : aC) (k : Nat) (self : cK) (x0 : AV) (h : aA) : fB Tryd.prog G (fI (cY.env G k self)) cY.ann Tryd.f31.results.toList (dJ Tryd.f31) Tryd.f31.ntmps k [x0] h = cY.c G k self x0 h := by kernel_rfl
theorem cY.sound {G : aC} (hG : ∀ g x, G g = some x → bP x = true) : ∀ k, Sound Tryd.prog G 31 (cY.f G k)
 | 0 => bX cY.here (fun _ _ => rfl)
 | k + 1 => bZ (l := cY.env G k (cY.f G k)) (ann := cY.ann) (n := k) (bN hG (bY (cT.sound hG k) (bY (cG.sound hG k) (bY (bB.sound hG k) (bY (aQ.sound hG k) (bY (dH.sound hG k) dP)))))) orders Tryd.func31 (by kernel_rfl) (by kernel_rfl) rfl (by kernel_rfl) (fM fun x0 h => cY.eq G k _ x0 h)
theorem aU.here : HrP Tryd.prog 33 := ⟨_, Tryd.func33, by kernel_rfl, by kernel_rfl⟩
theorem aU.eq (G : aC) (k : Nat) (self : cK) (x0 x1 : AV) (h : aA) : fB Tryd.prog G (fI (aU.env G k self)) aU.ann Tryd.f33.results.toList (dJ Tryd.f33) Tryd.f33.ntmps k [x0, x1] h = aU.c G k self x0 x1 h := by kernel_rfl
theorem aU.sound {G : aC} (hG : ∀ g x, G g = some x → bP x = true) : ∀ k, Sound Tryd.prog G 33 (aU.f G k)
 | 0 => bX aU.here (fun _ _ => rfl)
 | k + 1 => bZ (l := aU.env G k (aU.f G k)) (ann := aU.ann) (n := k) (bN hG (bY (aT.sound hG k) dP)) orders Tryd.func33 (by kernel_rfl) (by kernel_rfl) rfl (by kernel_rfl) (gG fun x0 x1 h => aU.eq G k _ x0 x1 h)
theorem aP.here : HrP Tryd.prog 66 := ⟨_, Tryd.func66, by kernel_rfl, by kernel_rfl⟩
theorem aP.eq (G : aC) (k : Nat) (self : cK) (x0 x1 x2 : AV) (h : aA) : fB Tryd.prog G (fI (aP.env G k self)) aP.ann Tryd.f66.results.toList (dJ Tryd.f66) Tryd.f66.ntmps k [x0, x1, x2] h = aP.c G k self x0 x1 x2 h := by kernel_rfl
theorem aP.sound {G : aC} (hG : ∀ g x, G g = some x → bP x = true) : ∀ k, Sound Tryd.prog G 66 (aP.f G k)
 | 0 => bX aP.here (fun _ _ => rfl)
 | k + 1 => bZ (l := aP.env G k (aP.f G k)) (ann := aP.ann) (n := k) (bN hG (bY (aK.sound hG k) (bY (bA.sound hG k) dP))) orders Tryd.func66 (by kernel_rfl) (by kernel_rfl) rfl (by kernel_rfl) (pC fun x0 x1 x2 h => aP.eq G k _ x0 x1 x2 h)
theorem cA.here : HrP Tryd.prog 67 := ⟨_, Tryd.func67, by kernel_rfl, by kernel_rfl⟩
theorem cA.eq (G : aC) (k : Nat) (self : cK) (x0 x1 : AV) (h : aA) : fB Tryd.prog G (fI (cA.env G k self)) cA.ann Tryd.f67.results.toList (dJ Tryd.f67) Tryd.f67.ntmps k [x0, x1] h = cA.c G k self x0 x1 h := by kernel_rfl
theorem cA.sound {G : aC} (hG : ∀ g x, G g = some x → bP x = true) : ∀ k, Sound Tryd.prog G 67 (cA.f G k)
 | 0 => bX cA.here (fun _ _ => rfl)
 | k + 1 => bZ (l := cA.env G k (cA.f G k)) (ann := cA.ann) (n := k) (bN hG dP) orders Tryd.func67 (by kernel_rfl) (by kernel_rfl) rfl (by kernel_rfl) (gG fun x0 x1 h => cA.eq G k _ x0 x1 h)
theorem aN.here : HrP Tryd.prog 34 := ⟨_, Tryd.func34, by kernel_rfl, by kernel_rfl⟩
theorem aN.eq (G : aC) (k : Nat) (self : cK) (x0 : AV) (h : aA) : fB Tryd.prog G (fI (aN.env G k self)) aN.ann Tryd.f34.results.toList (dJ Tryd.f34) Tryd.f34.ntmps k [x0] h = aN.c G k self x0 h := by kernel_rfl
theorem aN.sound {G : aC} (hG : ∀ g x, G g = some x → bP x = true) : ∀ k, Sound Tryd.prog G 34 (aN.f G k)
 | 0 => bX aN.here (fun _ _ => rfl)
 | k + 1 => bZ (l := aN.env G k (aN.f G k)) (ann := aN.ann) (n := k) (bN hG (bY (aY.sound hG k) (bY (aS.sound hG k) (bY (bA.sound hG k) (bY (aP.sound hG k) (bY (cA.sound hG k) dP)))))) orders Tryd.func34 (by kernel_rfl) (by kernel_rfl) rfl (by kernel_rfl) (fM fun x0 h => aN.eq G k _ x0 h)
theorem bI.here : HrP Tryd.prog 35 := ⟨_, Tryd.func35, by kernel_rfl, by kernel_rfl⟩
theorem bI.eq (G : aC) (k : Nat) (self : cK) (x0 : AV) (h : aA) : fB Tryd.prog G (fI (bI.env G k self)) bI.ann Tryd.f35.results.toList (dJ Tryd.f35) Tryd.f35.ntmps k [x0] h = bI.c G k self x0 h := by kernel_rfl
theorem bI.sound {G : aC} (hG : ∀ g x, G g = some x → bP x = true) : ∀ k, Sound Tryd.prog G 35 (bI.f G k)
 | 0 => bX bI.here (fun _ _ => rfl)
 | k + 1 => bZ (l := bI.env G k (bI.f G k)) (ann := bI.ann) (n := k) (bN hG (bY (aN.sound hG k) dP)) orders Tryd.func35 (by kernel_rfl) (by kernel_rfl) rfl (by kernel_rfl) (fM fun x0 h => bI.eq G k _ x0 h)
theorem bR.here : HrP Tryd.prog 38 := ⟨_, Tryd.func38, by kernel_rfl, by kernel_rfl⟩
theorem bR.eq (G : aC) (k : Nat) (self : cK) (x0 x1 : AV) (h : aA) : fB Tryd.prog G (fI (bR.env G k self)) bR.ann Tryd.f38.results.toList (dJ Tryd.f38) Tryd.f38.ntmps k [x0, x1] h = bR.c G k self x0 x1 h := by kernel_rfl
theorem bR.sound {G : aC} (hG : ∀ g x, G g = some x → bP x = true) : ∀ k, Sound Tryd.prog G 38 (bR.f G k)
 | 0 => bX bR.here (fun _ _ => rfl)
 | k + 1 => bZ (l := bR.env G k (bR.f G k)) (ann := bR.ann) (n := k) (bN hG dP) orders Tryd.func38 (by kernel_rfl) (by kernel_rfl) rfl (by kernel_rfl) (gG fun x0 x1 h => bR.eq G k _ x0 x1 h)
theorem bH.here : HrP Tryd.prog 36 := ⟨_, Tryd.func36, by kernel_rfl, by kernel_rfl⟩
theorem bH.eq (G : aC) (k : Nat) (self : cK) (x0 : AV) (h : aA) : fB Tryd.prog G (fI (bH.env G k self)) bH.ann Tryd.f36.results.toList (dJ Tryd.f36) Tryd.f36.ntmps k [x0] h = bH.c G k self x0 h := by kernel_rfl
theorem bH.sound {G : aC} (hG : ∀ g x, G g = some x → bP x = true) : ∀ k, Sound Tryd.prog G 36 (bH.f G k)
 | 0 => bX bH.here (fun _ _ => rfl)
 | k + 1 => bZ (l := bH.env G k (bH.f G k)) (ann := bH.ann) (n := k) (bN hG (bY (aY.sound hG k) (bY (aN.sound hG k) (bY (bR.sound hG k) (bY (aP.sound hG k) dP))))) orders Tryd.func36 (by kernel_rfl) (by kernel_rfl) rfl (by kernel_rfl) (fM fun x0 h => bH.eq G k _ x0 h)
theorem alembiclaw20_LiveSays.here : HrP Tryd.prog 4 := ⟨_, Tryd.func4, by kernel_rfl, by kernel_rfl⟩
theorem alembiclaw20_LiveSays.eq (G : aC) (k : Nat) (self : cK) (x0 x1 x2 : AV) (h : aA) : fB Tryd.prog G (fI (alembiclaw20_LiveSays.env G k self)) alembiclaw20_LiveSays.ann Tryd.f4.results.toList (dJ Tryd.f4) Tryd.f4.ntmps k [x0, x1, x2] h = alembiclaw20_LiveSays.c G k self x0 x1 x2 h := by kernel_rfl
theorem alembiclaw20_LiveSays.sound {G : aC} (hG : ∀ g x, G g = some x → bP x = true) : ∀ k, Sound Tryd.prog G 4 (alembiclaw20_LiveSays.f G k)
 | 0 => bX alembiclaw20_LiveSays.here (fun _ _ => rfl)
 | k + 1 => bZ (l := alembiclaw20_LiveSays.env G k (alembiclaw20_LiveSays.f G k)) (ann := alembiclaw20_LiveSays.ann) (n := k) (bN hG (bY (cO.sound hG k) (bY (bW.sound hG k) (bY (cT.sound hG k) (bY (aY.sound hG k) (bY (aT.sound hG k) (bY (cD.sound hG k) (bY (aS.sound hG k) (bY (cG.sound hG k) (bY (aK.sound hG k) (bY (bL.sound hG k) (bY (bE.sound hG k) (bY (bB.sound hG k) (bY (dF.sound hG k) (bY (cY.sound hG k) (bY (cI.sound hG k) (bY (aU.sound hG k) (bY (aN.sound hG k) (bY (bI.sound hG k) (bY (bH.sound hG k) dP)))))))))))))))))))) orders Tryd.func4 (by kernel_rfl) (by kernel_rfl) rfl (by kernel_rfl) (pC fun x0 x1 x2 h => alembiclaw20_LiveSays.eq G k _ x0 x1 x2 h)
end Go.Proofs.YtlkgkfgkiidhdaaDoor.Mir
