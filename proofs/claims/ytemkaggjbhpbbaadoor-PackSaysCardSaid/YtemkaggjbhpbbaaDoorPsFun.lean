/- Printed by Print.lean: the functions that the statements reach. -/
import Derived.Test.YtemkaggjbhpbbaaDoorMirW
import Derived.Test.YtemkaggjbhpbbaaDoorProg
namespace Go.Proofs.YtemkaggjbhpbbaaDoor.Mir
open Go
set_option linter.unusedVariables false
/-! math/bits.Len32: function 28 -/
def math_bits_Len32.s0 : ByteArray := ⟨#[0, 1, 2, 2, 3, 3, 3, 3, 4, 4, 4, 4, 4, 4, 4, 4, 5, 5, 5, 5, 5, 5, 5, 5, 5, 5, 5, 5, 5, 5, 5, 5, 6, 6, 6, 6, 6, 6, 6, 6, 6, 6, 6, 6, 6, 6, 6, 6, 6, 6, 6, 6, 6, 6, 6, 6, 6, 6, 6, 6, 6, 6, 6, 6, 7, 7, 7, 7, 7, 7, 7, 7, 7, 7, 7, 7, 7, 7, 7, 7, 7, 7, 7, 7, 7, 7, 7, 7, 7, 7, 7, 7, 7, 7, 7, 7, 7, 7, 7, 7, 7, 7, 7, 7, 7, 7, 7, 7, 7, 7, 7, 7, 7, 7, 7, 7, 7, 7, 7, 7, 7, 7, 7, 7, 7, 7, 7, 7, 8, 8, 8, 8, 8, 8, 8, 8, 8, 8, 8, 8, 8, 8, 8, 8, 8, 8, 8, 8, 8, 8, 8, 8, 8, 8, 8, 8, 8, 8, 8, 8, 8, 8, 8, 8, 8, 8, 8, 8, 8, 8, 8, 8, 8, 8, 8, 8, 8, 8, 8, 8, 8, 8, 8, 8, 8, 8, 8, 8, 8, 8, 8, 8, 8, 8, 8, 8, 8, 8, 8, 8, 8, 8, 8, 8, 8, 8, 8, 8, 8, 8, 8, 8, 8, 8, 8, 8, 8, 8, 8, 8, 8, 8, 8, 8, 8, 8, 8, 8, 8, 8, 8, 8, 8, 8, 8, 8, 8, 8, 8, 8, 8, 8, 8, 8, 8, 8, 8, 8, 8, 8, 8, 8, 8, 8, 8, 8]⟩
noncomputable def math_bits_Len32.ann : Ann := mkAnn [] [] [] [(7, [0, 2]), (4, [0, 2])]
noncomputable def math_bits_Len32.env (G : Globs) (k : Nat) (self : Den) : List (Nat × Bool × Den) := []
noncomputable def math_bits_Len32.c (G : Globs) (k : Nat) (self : Den) (x0 : AV) (h : AHeap) : Option (AV × AHeap) := outV (
  thenK (
  bnd (pu h (bin Tryd.prog .geq 58 true x0 (.int .u32 65536))) fun v0 h0 =>
  condA v0
  (bnd (pu h0 (bin Tryd.prog .shr 58 true x0 (.int .u64 16))) fun v1 h1 =>
  some (.normal, [v1, (.int .i64 16)], h1))
  (some (.normal, [x0, (.int .i64 0)], h0))) fun e2 x2 h2 => exK e2
  (thenK (
  bnd (pu h2 (bin Tryd.prog .geq 58 true (nth x2 0) (.int .u32 256))) fun v3 h3 =>
  condA v3
  (bnd (pu h3 (bin Tryd.prog .shr 58 true (nth x2 0) (.int .u64 8))) fun v4 h4 =>
  bnd (pu h4 (bin Tryd.prog .add 3 true (nth x2 1) (.int .i64 8))) fun v5 h5 =>
  some (.normal, [v4, v5], h5))
  (some (.normal, [(nth x2 0), (nth x2 1)], h3))) fun e6 x6 h6 => exK e6
  (bnd (pu h6 (convInt .u8 (nth x6 0))) fun v7 h7 =>
  bnd (pu h7 (idxStr (.str math_bits_Len32.s0) v7)) fun v8 h8 =>
  bnd (pu h8 (convInt .i64 v8)) fun v9 h9 =>
  bnd (pu h9 (bin Tryd.prog .add 3 false (nth x6 1) v9)) fun v10 h10 =>
  finV [v10] h.length h10)
  (fun i6 => none)
  (finV [(nth x6 1)] h.length h6))
  (fun i2 => none)
  (finV [(nth x2 1)] h.length h2))
noncomputable def math_bits_Len32.f (G : Globs) : Nat → Den
  | 0 => fun _ _ => none
  | k + 1 => fun args h => arg1 args fun x0 => (math_bits_Len32.c G k (math_bits_Len32.f G k) x0 h)
theorem math_bits_Len32.step (G : Globs) (k : Nat) (x0 : AV) (h : AHeap) : math_bits_Len32.f G (k + 1) [x0] h = math_bits_Len32.c G k (math_bits_Len32.f G k) x0 h := rfl
/-! math/bits.Len64: function 29 -/
def math_bits_Len64.s0 : ByteArray := ⟨#[0, 1, 2, 2, 3, 3, 3, 3, 4, 4, 4, 4, 4, 4, 4, 4, 5, 5, 5, 5, 5, 5, 5, 5, 5, 5, 5, 5, 5, 5, 5, 5, 6, 6, 6, 6, 6, 6, 6, 6, 6, 6, 6, 6, 6, 6, 6, 6, 6, 6, 6, 6, 6, 6, 6, 6, 6, 6, 6, 6, 6, 6, 6, 6, 7, 7, 7, 7, 7, 7, 7, 7, 7, 7, 7, 7, 7, 7, 7, 7, 7, 7, 7, 7, 7, 7, 7, 7, 7, 7, 7, 7, 7, 7, 7, 7, 7, 7, 7, 7, 7, 7, 7, 7, 7, 7, 7, 7, 7, 7, 7, 7, 7, 7, 7, 7, 7, 7, 7, 7, 7, 7, 7, 7, 7, 7, 7, 7, 8, 8, 8, 8, 8, 8, 8, 8, 8, 8, 8, 8, 8, 8, 8, 8, 8, 8, 8, 8, 8, 8, 8, 8, 8, 8, 8, 8, 8, 8, 8, 8, 8, 8, 8, 8, 8, 8, 8, 8, 8, 8, 8, 8, 8, 8, 8, 8, 8, 8, 8, 8, 8, 8, 8, 8, 8, 8, 8, 8, 8, 8, 8, 8, 8, 8, 8, 8, 8, 8, 8, 8, 8, 8, 8, 8, 8, 8, 8, 8, 8, 8, 8, 8, 8, 8, 8, 8, 8, 8, 8, 8, 8, 8, 8, 8, 8, 8, 8, 8, 8, 8, 8, 8, 8, 8, 8, 8, 8, 8, 8, 8, 8, 8, 8, 8, 8, 8, 8, 8, 8, 8, 8, 8, 8, 8, 8, 8]⟩
noncomputable def math_bits_Len64.ann : Ann := mkAnn [] [] [] [(10, [0, 2]), (7, [0, 2]), (4, [0, 2])]
noncomputable def math_bits_Len64.env (G : Globs) (k : Nat) (self : Den) : List (Nat × Bool × Den) := []
noncomputable def math_bits_Len64.c (G : Globs) (k : Nat) (self : Den) (x0 : AV) (h : AHeap) : Option (AV × AHeap) := outV (
  thenK (
  bnd (pu h (bin Tryd.prog .geq 51 true x0 (.int .u64 4294967296))) fun v0 h0 =>
  condA v0
  (bnd (pu h0 (bin Tryd.prog .shr 51 true x0 (.int .u64 32))) fun v1 h1 =>
  some (.normal, [v1, (.int .i64 32)], h1))
  (some (.normal, [x0, (.int .i64 0)], h0))) fun e2 x2 h2 => exK e2
  (thenK (
  bnd (pu h2 (bin Tryd.prog .geq 51 true (nth x2 0) (.int .u64 65536))) fun v3 h3 =>
  condA v3
  (bnd (pu h3 (bin Tryd.prog .shr 51 true (nth x2 0) (.int .u64 16))) fun v4 h4 =>
  bnd (pu h4 (bin Tryd.prog .add 3 true (nth x2 1) (.int .i64 16))) fun v5 h5 =>
  some (.normal, [v4, v5], h5))
  (some (.normal, [(nth x2 0), (nth x2 1)], h3))) fun e6 x6 h6 => exK e6
  (thenK (
  bnd (pu h6 (bin Tryd.prog .geq 51 true (nth x6 0) (.int .u64 256))) fun v7 h7 =>
  condA v7
  (bnd (pu h7 (bin Tryd.prog .shr 51 true (nth x6 0) (.int .u64 8))) fun v8 h8 =>
  bnd (pu h8 (bin Tryd.prog .add 3 true (nth x6 1) (.int .i64 8))) fun v9 h9 =>
  some (.normal, [v8, v9], h9))
  (some (.normal, [(nth x6 0), (nth x6 1)], h7))) fun e10 x10 h10 => exK e10
  (bnd (pu h10 (convInt .u8 (nth x10 0))) fun v11 h11 =>
  bnd (pu h11 (idxStr (.str math_bits_Len64.s0) v11)) fun v12 h12 =>
  bnd (pu h12 (convInt .i64 v12)) fun v13 h13 =>
  bnd (pu h13 (bin Tryd.prog .add 3 false (nth x10 1) v13)) fun v14 h14 =>
  finV [v14] h.length h14)
  (fun i10 => none)
  (finV [(nth x10 1)] h.length h10))
  (fun i6 => none)
  (finV [(nth x6 1)] h.length h6))
  (fun i2 => none)
  (finV [(nth x2 1)] h.length h2))
noncomputable def math_bits_Len64.f (G : Globs) : Nat → Den
  | 0 => fun _ _ => none
  | k + 1 => fun args h => arg1 args fun x0 => (math_bits_Len64.c G k (math_bits_Len64.f G k) x0 h)
theorem math_bits_Len64.step (G : Globs) (k : Nat) (x0 : AV) (h : AHeap) : math_bits_Len64.f G (k + 1) [x0] h = math_bits_Len64.c G k (math_bits_Len64.f G k) x0 h := rfl
/-! math/bits.Len: function 23 -/
noncomputable def math_bits_Len.ann : Ann := mkAnn [] [] [] []
noncomputable def math_bits_Len.env (G : Globs) (k : Nat) (self : Den) : List (Nat × Bool × Den) := [(28, true, math_bits_Len32.f G k), (29, true, math_bits_Len64.f G k)]
noncomputable def math_bits_Len.c (G : Globs) (k : Nat) (self : Den) (x0 : AV) (h : AHeap) : Option (AV × AHeap) := outV (
  condA (.bool false)
  (bnd (pu h (convInt .u32 x0)) fun v0 h0 =>
  bnd (pureCall (math_bits_Len32.f G k) [v0] h0) fun v1 h1 =>
  finV [v1] h.length h1)
  (bnd (pureCall (math_bits_Len64.f G k) [x0] h) fun v2 h2 =>
  finV [v2] h.length h2))
noncomputable def math_bits_Len.f (G : Globs) : Nat → Den
  | 0 => fun _ _ => none
  | k + 1 => fun args h => arg1 args fun x0 => (math_bits_Len.c G k (math_bits_Len.f G k) x0 h)
theorem math_bits_Len.step (G : Globs) (k : Nat) (x0 : AV) (h : AHeap) : math_bits_Len.f G (k + 1) [x0] h = math_bits_Len.c G k (math_bits_Len.f G k) x0 h := rfl
/-! alembic/pack.Width: function 10 -/
noncomputable def pack_Width.ann : Ann := mkAnn [] [] [] []
noncomputable def pack_Width.env (G : Globs) (k : Nat) (self : Den) : List (Nat × Bool × Den) := [(23, true, math_bits_Len.f G k)]
noncomputable def pack_Width.c (G : Globs) (k : Nat) (self : Den) (x0 : AV) (h : AHeap) : Option (AV × AHeap) := outV (
  bnd (pu h (foldA max2A x0 [(.int .i64 0)])) fun v0 h0 =>
  bnd (pu h0 (convInt .u64 v0)) fun v1 h1 =>
  bnd (pureCall (math_bits_Len.f G k) [v1] h1) fun v2 h2 =>
  finV [v2] h.length h2)
noncomputable def pack_Width.f (G : Globs) : Nat → Den
  | 0 => fun _ _ => none
  | k + 1 => fun args h => arg1 args fun x0 => (pack_Width.c G k (pack_Width.f G k) x0 h)
theorem pack_Width.step (G : Globs) (k : Nat) (x0 : AV) (h : AHeap) : pack_Width.f G (k + 1) [x0] h = pack_Width.c G k (pack_Width.f G k) x0 h := rfl
/-! alembic/pack.Bits: function 11 -/
noncomputable def pack_Bits.ann : Ann := mkAnn [] [4] [(14, [0, 6, 7, 8, 36, 37, 38]), (8, [0, 4, 5, 6, 7, 8, 36, 37, 38])] []
noncomputable def pack_Bits.env (G : Globs) (k : Nat) (self : Den) : List (Nat × Bool × Den) := []
noncomputable def pack_Bits.l14 (G : Globs) (k n0 : Nat) (self : Den) (lp : LoopF) : LoopF := fun xs h0 => cutK n0 xs h0 fun h =>
  bnd (pu h (bin Tryd.prog .geq 3 true (nth xs 3) (.int .i64 8))) fun v37 h37 =>
  condA v37
  (bnd (pu h37 (convInt .u8 (nth xs 2))) fun v38 h38 =>
  bnd (buildRo 1 1 (.int .u8 0) [(0, v38)] h38) fun v39 h39 =>
  bnd (appendV 5 1 (nth xs 1) v39 h39) fun v40 h40 =>
  bnd (pu h40 (bin Tryd.prog .shr 51 true (nth xs 2) (.int .u64 8))) fun v41 h41 =>
  bnd (pu h41 (bin Tryd.prog .sub 3 true (nth xs 3) (.int .i64 8))) fun v42 h42 =>
  lp [(nth xs 0), v40, v41, v42, (nth xs 4), (nth xs 5), (nth xs 6)] h42)
  (some (.exit 3, [(nth xs 0), (nth xs 1), (nth xs 2), (nth xs 3), (nth xs 4), (nth xs 5), (nth xs 6)], h37))
noncomputable def pack_Bits.l8 (G : Globs) (k n0 : Nat) (self : Den) (lp : LoopF) : LoopF := fun xs h0 => cutK n0 xs h0 fun h =>
  bnd (pu h (bin Tryd.prog .lss 3 false (nth xs 8) (nth xs 7))) fun v21 h21 =>
  condA v21
  (bnd (pu h21 (idxAddrSl 1 (nth xs 6) (nth xs 8))) fun v22 h22 =>
  bnd (pu h22 (loadV G false 1 v22 h22)) fun v23 h23 =>
  bnd (pu h23 (bin Tryd.prog .lss 3 true v23 (.int .i64 0))) fun v24 h24 =>
  bnd (gd v24 false h24 (some (v23, h24))) fun v25 h25 =>
  bnd (gd v24 false h25 (some ((nth xs 0), h25))) fun v26 h26 =>
  bnd (gd v24 false h26 (pu h26 (bin Tryd.prog .shl 3 true (.int .i64 1) v26))) fun v27 h27 =>
  bnd (gd v24 false h27 (pu h27 (bin Tryd.prog .geq 3 false v25 v27))) fun v28 h28 =>
  bnd (pu h28 (pickA v24 (.bool true) v28)) fun v29 h29 =>
  condA v29
  (bnd (pu h29 (loadV G false 1 (.gl 0) h29)) fun v30 h30 =>
  bnd (some (.sl h30.length 0 0 0 1, h30 ++ [⟨5, 1, []⟩])) fun v31 h31 =>
  some (.ret, [(nth xs 0), v31, v30, (nth xs 3), (nth xs 4), (nth xs 5), (nth xs 6), (nth xs 7), (nth xs 8)], h31))
  (bnd (pu h29 (convInt .u64 v23)) fun v32 h32 =>
  bnd (pu h32 (bin Tryd.prog .shl 51 false v32 (nth xs 5))) fun v33 h33 =>
  bnd (pu h33 (bin Tryd.prog .or 51 false (nth xs 4) v33)) fun v34 h34 =>
  bnd (pu h34 (bin Tryd.prog .add 3 false (nth xs 5) (nth xs 0))) fun v35 h35 =>
  thenK (loopN (pack_Bits.l14 G k h35.length self) k [(nth xs 0), (nth xs 3), v34, v35, (nth xs 6), (nth xs 7), (nth xs 8)] h35) fun e36 x36 h36 => exK e36
  (bnd (pu h36 (bin Tryd.prog .add 3 true (nth x36 6) (.int .i64 1))) fun v43 h43 =>
  lp [(nth x36 0), .undef, .undef, (nth x36 1), (nth x36 2), (nth x36 3), (nth x36 4), (nth x36 5), v43] h43)
  (fun i36 => if i36 = 3 then (bnd (pu h36 (bin Tryd.prog .add 3 true (nth x36 6) (.int .i64 1))) fun v44 h44 =>
  lp [(nth x36 0), .undef, .undef, (nth x36 1), (nth x36 2), (nth x36 3), (nth x36 4), (nth x36 5), v44] h44) else (if i36 = 2 then (bnd (pu h36 (bin Tryd.prog .add 3 true (nth x36 6) (.int .i64 1))) fun v45 h45 =>
  lp [(nth x36 0), .undef, .undef, (nth x36 1), (nth x36 2), (nth x36 3), (nth x36 4), (nth x36 5), v45] h45) else (some (.exit i36, [(nth x36 0), .undef, .undef, (nth x36 1), (nth x36 2), (nth x36 3), (nth x36 4), (nth x36 5), (nth x36 6)], h36))))
  (some (.ret, [(nth x36 0), .undef, .undef, (nth x36 1), (nth x36 2), (nth x36 3), (nth x36 4), (nth x36 5), (nth x36 6)], h36))))
  (some (.exit 1, [(nth xs 0), (nth xs 1), (nth xs 2), (nth xs 3), (nth xs 4), (nth xs 5), (nth xs 6), (nth xs 7), (nth xs 8)], h21))
noncomputable def pack_Bits.c (G : Globs) (k : Nat) (self : Den) (x0 x1 : AV) (h : AHeap) : Option (AV × AHeap) := outV (
  bnd (some (.sl h.length 0 0 0 1, h ++ [⟨5, 1, []⟩])) fun v0 h0 =>
  bnd (pu h0 (bin Tryd.prog .lss 3 true x0 (.int .i64 1))) fun v1 h1 =>
  bnd (gd v1 false h1 (some (x0, h1))) fun v2 h2 =>
  bnd (gd v1 false h2 (pu h2 (bin Tryd.prog .gtr 3 true v2 (.int .i64 24)))) fun v3 h3 =>
  bnd (pu h3 (pickA v1 (.bool true) v3)) fun v4 h4 =>
  condA v4
  (bnd (pu h4 (loadV G false 1 (.gl 0) h4)) fun v5 h5 =>
  bnd (some (.sl h5.length 0 0 0 1, h5 ++ [⟨5, 1, []⟩])) fun v6 h6 =>
  finV [v6, v5] h.length h6)
  (bnd (pu h4 (lenSl x1)) fun v7 h7 =>
  bnd (pu h7 (bin Tryd.prog .rem 3 true v7 (.int .i64 8))) fun v8 h8 =>
  bnd (pu h8 (bin Tryd.prog .mul 3 false x0 v8)) fun v9 h9 =>
  bnd (pu h9 (bin Tryd.prog .rem 3 true v9 (.int .i64 8))) fun v10 h10 =>
  bnd (pu h10 (bin Tryd.prog .neq 3 true v10 (.int .i64 0))) fun v11 h11 =>
  condA v11
  (bnd (pu h11 (loadV G false 1 (.gl 1) h11)) fun v12 h12 =>
  bnd (some (.sl h12.length 0 0 0 1, h12 ++ [⟨5, 1, []⟩])) fun v13 h13 =>
  finV [v13, v12] h.length h13)
  (bnd (pu h11 (lenSl x1)) fun v14 h14 =>
  bnd (pu h14 (bin Tryd.prog .quo 3 true v14 (.int .i64 8))) fun v15 h15 =>
  bnd (pu h15 (bin Tryd.prog .mul 3 false v15 x0)) fun v16 h16 =>
  bnd (pu h16 (bin Tryd.prog .add 3 false v16 x0)) fun v17 h17 =>
  bnd (makeSliceV 5 1 (.int .u8 0) (.int .i64 0) v17 h17) fun v18 h18 =>
  bnd (pu h18 (lenSl x1)) fun v19 h19 =>
  thenK (loopN (pack_Bits.l8 G k h19.length self) k [x0, v0, .nili, v18, (.int .u64 0), (.int .i64 0), x1, v19, (.int .i64 0)] h19) fun e20 x20 h20 => exK e20
  (finV [(nth x20 3), .nili] h.length h20)
  (fun i20 => if i20 = 1 then (finV [(nth x20 3), .nili] h.length h20) else (none))
  (finV [(nth x20 1), (nth x20 2)] h.length h20))))
noncomputable def pack_Bits.f (G : Globs) : Nat → Den
  | 0 => fun _ _ => none
  | k + 1 => fun args h => arg2 args fun x0 x1 => (pack_Bits.c G k (pack_Bits.f G k) x0 x1 h)
theorem pack_Bits.step (G : Globs) (k : Nat) (x0 x1 : AV) (h : AHeap) : pack_Bits.f G (k + 1) [x0, x1] h = pack_Bits.c G k (pack_Bits.f G k) x0 x1 h := rfl
/-! alembic/alembiclaw6.first: function 8 -/
noncomputable def alembiclaw6_first.ann : Ann := mkAnn [] [] [] []
noncomputable def alembiclaw6_first.env (G : Globs) (k : Nat) (self : Den) : List (Nat × Bool × Den) := [(10, true, pack_Width.f G k), (11, true, pack_Bits.f G k)]
noncomputable def alembiclaw6_first.c (G : Globs) (k : Nat) (self : Den) (h : AHeap) : Option (AV × AHeap) := outV (
  bnd (buildRo 1 2 (.int .i64 0) [(0, (.int .i64 1)), (1, (.int .i64 2))] h) fun v0 h0 =>
  bnd (pureCall (pack_Bits.f G k) [(.int .i64 4), v0] h0) fun v1 h1 =>
  bnd (pu h1 (extractA v1 0)) fun v2 h2 =>
  bnd (pu h2 (extractA v1 1)) fun v3 h3 =>
  bnd (pu h3 (bin Tryd.prog .eql 30 true v3 .nili)) fun v4 h4 =>
  bnd (gd v4 true h4 (some (v2, h4))) fun v5 h5 =>
  bnd (gd v4 true h5 (pu h5 (lenSl v5))) fun v6 h6 =>
  bnd (gd v4 true h6 (pu h6 (bin Tryd.prog .eql 3 true v6 (.int .i64 1)))) fun v7 h7 =>
  bnd (pu h7 (pickA v4 v7 (.bool false))) fun v8 h8 =>
  bnd (gd v8 true h8 (some (v2, h8))) fun v9 h9 =>
  bnd (gd v8 true h9 (pu h9 (idxAddrSl 1 v9 (.int .i64 0)))) fun v10 h10 =>
  bnd (gd v8 true h10 (pu h10 (loadV G false 1 v10 h10))) fun v11 h11 =>
  bnd (gd v8 true h11 (pu h11 (bin Tryd.prog .eql 5 true v11 (.int .u8 33)))) fun v12 h12 =>
  bnd (pu h12 (pickA v8 v12 (.bool false))) fun v13 h13 =>
  bnd (gd v13 true h13 (pureCall (pack_Width.f G k) [(.int .i64 8)] h13)) fun v14 h14 =>
  bnd (gd v13 true h14 (pu h14 (bin Tryd.prog .eql 3 true v14 (.int .i64 4)))) fun v15 h15 =>
  bnd (pu h15 (pickA v13 v15 (.bool false))) fun v16 h16 =>
  finV [v16] h.length h16)
noncomputable def alembiclaw6_first.f (G : Globs) : Nat → Den
  | 0 => fun _ _ => none
  | k + 1 => fun args h => arg0 args (alembiclaw6_first.c G k (alembiclaw6_first.f G k) h)
theorem alembiclaw6_first.step (G : Globs) (k : Nat) (h : AHeap) : alembiclaw6_first.f G (k + 1) [] h = alembiclaw6_first.c G k (alembiclaw6_first.f G k) h := rfl
/-! alembic/pack.Open: function 12 -/
noncomputable def pack_Open.ann : Ann := mkAnn [] [6] [(12, [0, 8, 9, 10, 47, 48, 49]), (8, [0, 8, 9, 10, 47, 48, 49])] []
noncomputable def pack_Open.env (G : Globs) (k : Nat) (self : Den) : List (Nat × Bool × Den) := []
noncomputable def pack_Open.l12 (G : Globs) (k n0 : Nat) (self : Den) (lp : LoopF) : LoopF := fun xs h0 => cutK n0 xs h0 fun h =>
  bnd (pu h (bin Tryd.prog .geq 3 false (nth xs 3) (nth xs 0))) fun v37 h37 =>
  condA v37
  (bnd (pu h37 (bin Tryd.prog .shl 51 true (.int .u64 1) (nth xs 0))) fun v38 h38 =>
  bnd (pu h38 (bin Tryd.prog .sub 51 true v38 (.int .u64 1))) fun v39 h39 =>
  bnd (pu h39 (bin Tryd.prog .and 51 false (nth xs 2) v39)) fun v40 h40 =>
  bnd (pu h40 (convInt .i64 v40)) fun v41 h41 =>
  bnd (buildRo 1 1 (.int .i64 0) [(0, v41)] h41) fun v42 h42 =>
  bnd (appendV 3 1 (nth xs 1) v42 h42) fun v43 h43 =>
  bnd (pu h43 (bin Tryd.prog .shr 51 false (nth xs 2) (nth xs 0))) fun v44 h44 =>
  bnd (pu h44 (bin Tryd.prog .sub 3 false (nth xs 3) (nth xs 0))) fun v45 h45 =>
  lp [(nth xs 0), v43, v44, v45, (nth xs 4), (nth xs 5), (nth xs 6)] h45)
  (some (.exit 3, [(nth xs 0), (nth xs 1), (nth xs 2), (nth xs 3), (nth xs 4), (nth xs 5), (nth xs 6)], h37))
noncomputable def pack_Open.l8 (G : Globs) (k n0 : Nat) (self : Den) (lp : LoopF) : LoopF := fun xs h0 => cutK n0 xs h0 fun h =>
  bnd (pu h (bin Tryd.prog .lss 3 false (nth xs 6) (nth xs 5))) fun v29 h29 =>
  condA v29
  (bnd (pu h29 (idxAddrSl 1 (nth xs 4) (nth xs 6))) fun v30 h30 =>
  bnd (pu h30 (loadV G false 1 v30 h30)) fun v31 h31 =>
  bnd (pu h31 (convInt .u64 v31)) fun v32 h32 =>
  bnd (pu h32 (bin Tryd.prog .shl 51 false v32 (nth xs 3))) fun v33 h33 =>
  bnd (pu h33 (bin Tryd.prog .or 51 false (nth xs 2) v33)) fun v34 h34 =>
  bnd (pu h34 (bin Tryd.prog .add 3 true (nth xs 3) (.int .i64 8))) fun v35 h35 =>
  thenK (loopN (pack_Open.l12 G k h35.length self) k [(nth xs 0), (nth xs 1), v34, v35, (nth xs 4), (nth xs 5), (nth xs 6)] h35) fun e36 x36 h36 => exK e36
  (bnd (pu h36 (bin Tryd.prog .add 3 true (nth x36 6) (.int .i64 1))) fun v46 h46 =>
  lp [(nth x36 0), (nth x36 1), (nth x36 2), (nth x36 3), (nth x36 4), (nth x36 5), v46] h46)
  (fun i36 => if i36 = 3 then (bnd (pu h36 (bin Tryd.prog .add 3 true (nth x36 6) (.int .i64 1))) fun v47 h47 =>
  lp [(nth x36 0), (nth x36 1), (nth x36 2), (nth x36 3), (nth x36 4), (nth x36 5), v47] h47) else (if i36 = 2 then (bnd (pu h36 (bin Tryd.prog .add 3 true (nth x36 6) (.int .i64 1))) fun v48 h48 =>
  lp [(nth x36 0), (nth x36 1), (nth x36 2), (nth x36 3), (nth x36 4), (nth x36 5), v48] h48) else (some (.exit i36, [(nth x36 0), (nth x36 1), (nth x36 2), (nth x36 3), (nth x36 4), (nth x36 5), (nth x36 6)], h36))))
  (some (.ret, [(nth x36 0), (nth x36 1), (nth x36 2), (nth x36 3), (nth x36 4), (nth x36 5), (nth x36 6)], h36)))
  (some (.exit 1, [(nth xs 0), (nth xs 1), (nth xs 2), (nth xs 3), (nth xs 4), (nth xs 5), (nth xs 6)], h29))
noncomputable def pack_Open.c (G : Globs) (k : Nat) (self : Den) (x0 x1 x2 : AV) (h : AHeap) : Option (AV × AHeap) := outV (
  bnd (some (.sl h.length 0 0 0 1, h ++ [⟨3, 1, []⟩])) fun v0 h0 =>
  bnd (pu h0 (bin Tryd.prog .lss 3 true x0 (.int .i64 1))) fun v1 h1 =>
  bnd (gd v1 false h1 (some (x0, h1))) fun v2 h2 =>
  bnd (gd v1 false h2 (pu h2 (bin Tryd.prog .gtr 3 true v2 (.int .i64 24)))) fun v3 h3 =>
  bnd (pu h3 (pickA v1 (.bool true) v3)) fun v4 h4 =>
  bnd (gd v4 false h4 (some (x1, h4))) fun v5 h5 =>
  bnd (gd v4 false h5 (pu h5 (bin Tryd.prog .lss 3 true v5 (.int .i64 0)))) fun v6 h6 =>
  bnd (pu h6 (pickA v4 (.bool true) v6)) fun v7 h7 =>
  bnd (gd v7 false h7 (some (x1, h7))) fun v8 h8 =>
  bnd (gd v7 false h8 (pu h8 (bin Tryd.prog .gtr 3 true v8 (.int .i64 4096)))) fun v9 h9 =>
  bnd (pu h9 (pickA v7 (.bool true) v9)) fun v10 h10 =>
  condA v10
  (bnd (pu h10 (loadV G false 1 (.gl 0) h10)) fun v11 h11 =>
  bnd (some (.sl h11.length 0 0 0 1, h11 ++ [⟨3, 1, []⟩])) fun v12 h12 =>
  finO [v12, v11] h12)
  (bnd (pu h10 (bin Tryd.prog .mul 3 false x0 x1)) fun v13 h13 =>
  bnd (pu h13 (bin Tryd.prog .rem 3 true v13 (.int .i64 8))) fun v14 h14 =>
  bnd (pu h14 (bin Tryd.prog .neq 3 true v14 (.int .i64 0))) fun v15 h15 =>
  bnd (gd v15 false h15 (some (x2, h15))) fun v16 h16 =>
  bnd (gd v15 false h16 (pu h16 (lenSl v16))) fun v17 h17 =>
  bnd (gd v15 false h17 (some (x0, h17))) fun v18 h18 =>
  bnd (gd v15 false h18 (some (x1, h18))) fun v19 h19 =>
  bnd (gd v15 false h19 (pu h19 (bin Tryd.prog .mul 3 false v18 v19))) fun v20 h20 =>
  bnd (gd v15 false h20 (pu h20 (bin Tryd.prog .quo 3 true v20 (.int .i64 8)))) fun v21 h21 =>
  bnd (gd v15 false h21 (pu h21 (bin Tryd.prog .neq 3 false v17 v21))) fun v22 h22 =>
  bnd (pu h22 (pickA v15 (.bool true) v22)) fun v23 h23 =>
  condA v23
  (bnd (pu h23 (loadV G false 1 (.gl 1) h23)) fun v24 h24 =>
  bnd (some (.sl h24.length 0 0 0 1, h24 ++ [⟨3, 1, []⟩])) fun v25 h25 =>
  finO [v25, v24] h25)
  (bnd (makeSliceV 3 1 (.int .i64 0) (.int .i64 0) x1 h23) fun v26 h26 =>
  bnd (pu h26 (lenSl x2)) fun v27 h27 =>
  thenK (loopN (pack_Open.l8 G k h27.length self) k [x0, v26, (.int .u64 0), (.int .i64 0), x2, v27, (.int .i64 0)] h27) fun e28 x28 h28 => exK e28
  (finO [(nth x28 1), .nili] h28)
  (fun i28 => if i28 = 1 then (finO [(nth x28 1), .nili] h28) else (none))
  (finO [.undef, .undef] h28))))
noncomputable def pack_Open.f (G : Globs) : Nat → Den
  | 0 => fun _ _ => none
  | k + 1 => fun args h => arg3 args fun x0 x1 x2 => (pack_Open.c G k (pack_Open.f G k) x0 x1 x2 h)
theorem pack_Open.step (G : Globs) (k : Nat) (x0 x1 x2 : AV) (h : AHeap) : pack_Open.f G (k + 1) [x0, x1, x2] h = pack_Open.c G k (pack_Open.f G k) x0 x1 x2 h := rfl
/-! alembic/alembicref.SameInts: function 13 -/
noncomputable def alembicref_SameInts.ann : Ann := mkAnn [] [] [(4, [0, 1, 4, 5])] []
noncomputable def alembicref_SameInts.env (G : Globs) (k : Nat) (self : Den) : List (Nat × Bool × Den) := []
noncomputable def alembicref_SameInts.l4 (G : Globs) (k n0 : Nat) (self : Den) (lp : LoopF) : LoopF := fun xs h0 => cutK n0 xs h0 fun h =>
  bnd (pu h (lenSl (nth xs 0))) fun v4 h4 =>
  bnd (pu h4 (bin Tryd.prog .lss 3 false (nth xs 3) v4)) fun v5 h5 =>
  condA v5
  (bnd (pu h5 (idxAddrSl 1 (nth xs 0) (nth xs 3))) fun v6 h6 =>
  bnd (pu h6 (loadV G false 1 v6 h6)) fun v7 h7 =>
  bnd (pu h7 (idxAddrSl 1 (nth xs 1) (nth xs 3))) fun v8 h8 =>
  bnd (pu h8 (loadV G false 1 v8 h8)) fun v9 h9 =>
  bnd (pu h9 (bin Tryd.prog .eql 3 false v7 v9)) fun v10 h10 =>
  bnd (pu h10 (un .not v10)) fun v11 h11 =>
  condA v11
  (some (.ret, [(nth xs 0), (nth xs 1), (.bool false), (nth xs 3)], h11))
  (bnd (pu h11 (bin Tryd.prog .add 3 true (nth xs 3) (.int .i64 1))) fun v12 h12 =>
  lp [(nth xs 0), (nth xs 1), (nth xs 2), v12] h12))
  (some (.exit 0, [(nth xs 0), (nth xs 1), (nth xs 2), (nth xs 3)], h5))
noncomputable def alembicref_SameInts.c (G : Globs) (k : Nat) (self : Den) (x0 x1 : AV) (h : AHeap) : Option (AV × AHeap) := outV (
  bnd (pu h (lenSl x0)) fun v0 h0 =>
  bnd (pu h0 (lenSl x1)) fun v1 h1 =>
  bnd (pu h1 (bin Tryd.prog .neq 3 false v0 v1)) fun v2 h2 =>
  condA v2
  (finV [(.bool false)] h.length h2)
  (thenK (loopN (alembicref_SameInts.l4 G k h2.length self) k [x0, x1, (.bool false), (.int .i64 0)] h2) fun e3 x3 h3 => exK e3
  (finV [(.bool true)] h.length h3)
  (fun i3 => if i3 = 0 then (finV [(.bool true)] h.length h3) else (none))
  (finV [(nth x3 2)] h.length h3)))
noncomputable def alembicref_SameInts.f (G : Globs) : Nat → Den
  | 0 => fun _ _ => none
  | k + 1 => fun args h => arg2 args fun x0 x1 => (alembicref_SameInts.c G k (alembicref_SameInts.f G k) x0 x1 h)
theorem alembicref_SameInts.step (G : Globs) (k : Nat) (x0 x1 : AV) (h : AHeap) : alembicref_SameInts.f G (k + 1) [x0, x1] h = alembicref_SameInts.c G k (alembicref_SameInts.f G k) x0 x1 h := rfl
/-! alembic/alembicref.SameBytes: function 14 -/
noncomputable def alembicref_SameBytes.ann : Ann := mkAnn [] [] [(4, [0, 1, 4, 5])] []
noncomputable def alembicref_SameBytes.env (G : Globs) (k : Nat) (self : Den) : List (Nat × Bool × Den) := []
noncomputable def alembicref_SameBytes.l4 (G : Globs) (k n0 : Nat) (self : Den) (lp : LoopF) : LoopF := fun xs h0 => cutK n0 xs h0 fun h =>
  bnd (pu h (lenSl (nth xs 0))) fun v4 h4 =>
  bnd (pu h4 (bin Tryd.prog .lss 3 false (nth xs 3) v4)) fun v5 h5 =>
  condA v5
  (bnd (pu h5 (idxAddrSl 1 (nth xs 0) (nth xs 3))) fun v6 h6 =>
  bnd (pu h6 (loadV G false 1 v6 h6)) fun v7 h7 =>
  bnd (pu h7 (idxAddrSl 1 (nth xs 1) (nth xs 3))) fun v8 h8 =>
  bnd (pu h8 (loadV G false 1 v8 h8)) fun v9 h9 =>
  bnd (pu h9 (bin Tryd.prog .eql 5 false v7 v9)) fun v10 h10 =>
  bnd (pu h10 (un .not v10)) fun v11 h11 =>
  condA v11
  (some (.ret, [(nth xs 0), (nth xs 1), (.bool false), (nth xs 3)], h11))
  (bnd (pu h11 (bin Tryd.prog .add 3 true (nth xs 3) (.int .i64 1))) fun v12 h12 =>
  lp [(nth xs 0), (nth xs 1), (nth xs 2), v12] h12))
  (some (.exit 0, [(nth xs 0), (nth xs 1), (nth xs 2), (nth xs 3)], h5))
noncomputable def alembicref_SameBytes.c (G : Globs) (k : Nat) (self : Den) (x0 x1 : AV) (h : AHeap) : Option (AV × AHeap) := outV (
  bnd (pu h (lenSl x0)) fun v0 h0 =>
  bnd (pu h0 (lenSl x1)) fun v1 h1 =>
  bnd (pu h1 (bin Tryd.prog .neq 3 false v0 v1)) fun v2 h2 =>
  condA v2
  (finV [(.bool false)] h.length h2)
  (thenK (loopN (alembicref_SameBytes.l4 G k h2.length self) k [x0, x1, (.bool false), (.int .i64 0)] h2) fun e3 x3 h3 => exK e3
  (finV [(.bool true)] h.length h3)
  (fun i3 => if i3 = 0 then (finV [(.bool true)] h.length h3) else (none))
  (finV [(nth x3 2)] h.length h3)))
noncomputable def alembicref_SameBytes.f (G : Globs) : Nat → Den
  | 0 => fun _ _ => none
  | k + 1 => fun args h => arg2 args fun x0 x1 => (alembicref_SameBytes.c G k (alembicref_SameBytes.f G k) x0 x1 h)
theorem alembicref_SameBytes.step (G : Globs) (k : Nat) (x0 x1 : AV) (h : AHeap) : alembicref_SameBytes.f G (k + 1) [x0, x1] h = alembicref_SameBytes.c G k (alembicref_SameBytes.f G k) x0 x1 h := rfl
/-! alembic/alembicref.SameFault: function 30 -/
noncomputable def alembicref_SameFault.ann : Ann := mkAnn [] [] [] []
noncomputable def alembicref_SameFault.env (G : Globs) (k : Nat) (self : Den) : List (Nat × Bool × Den) := []
noncomputable def alembicref_SameFault.c (G : Globs) (k : Nat) (self : Den) (x0 x1 : AV) (h : AHeap) : Option (AV × AHeap) := outV (
  bnd (boxRoA x0 h) fun v0 h0 =>
  bnd (boxRoA x1 h0) fun v1 h1 =>
  bnd (pu h1 (fieldAddrV 0 v0)) fun v2 h2 =>
  bnd (pu h2 (loadV G false 1 v2 h2)) fun v3 h3 =>
  bnd (pu h3 (fieldAddrV 0 v1)) fun v4 h4 =>
  bnd (pu h4 (loadV G false 1 v4 h4)) fun v5 h5 =>
  bnd (pu h5 (bin Tryd.prog .eql 3 false v3 v5)) fun v6 h6 =>
  bnd (gd v6 true h6 (pu h6 (fieldAddrV 1 v0))) fun v7 h7 =>
  bnd (gd v6 true h7 (pu h7 (loadV G false 1 v7 h7))) fun v8 h8 =>
  bnd (gd v6 true h8 (pu h8 (fieldAddrV 1 v1))) fun v9 h9 =>
  bnd (gd v6 true h9 (pu h9 (loadV G false 1 v9 h9))) fun v10 h10 =>
  bnd (gd v6 true h10 (pu h10 (bin Tryd.prog .eql 4 false v8 v10))) fun v11 h11 =>
  bnd (pu h11 (pickA v6 v11 (.bool false))) fun v12 h12 =>
  bnd (gd v12 true h12 (pu h12 (fieldAddrV 2 v0))) fun v13 h13 =>
  bnd (gd v12 true h13 (pu h13 (loadV G false 1 v13 h13))) fun v14 h14 =>
  bnd (gd v12 true h14 (pu h14 (fieldAddrV 2 v1))) fun v15 h15 =>
  bnd (gd v12 true h15 (pu h15 (loadV G false 1 v15 h15))) fun v16 h16 =>
  bnd (gd v12 true h16 (pu h16 (bin Tryd.prog .eql 3 false v14 v16))) fun v17 h17 =>
  bnd (pu h17 (pickA v12 v17 (.bool false))) fun v18 h18 =>
  finV [v18] h.length h18)
noncomputable def alembicref_SameFault.f (G : Globs) : Nat → Den
  | 0 => fun _ _ => none
  | k + 1 => fun args h => arg2 args fun x0 x1 => (alembicref_SameFault.c G k (alembicref_SameFault.f G k) x0 x1 h)
theorem alembicref_SameFault.step (G : Globs) (k : Nat) (x0 x1 : AV) (h : AHeap) : alembicref_SameFault.f G (k + 1) [x0, x1] h = alembicref_SameFault.c G k (alembicref_SameFault.f G k) x0 x1 h := rfl
/-! alembic/alembicref.Bare: function 25 -/
noncomputable def alembicref_Bare.ann : Ann := mkAnn [] [] [] []
noncomputable def alembicref_Bare.env (G : Globs) (k : Nat) (self : Den) : List (Nat × Bool × Den) := []
noncomputable def alembicref_Bare.c (G : Globs) (k : Nat) (self : Den) (x0 : AV) (h : AHeap) : Option (AV × AHeap) := outV (
  bnd (boxA 54 (.agg [(.int .i64 0), (.bool false), (.int .i64 0)]) h) fun v0 h0 =>
  bnd (pu h0 (buildSt [(0, 1), (1, 1), (2, 1)] [(.int .i64 0), (.bool false), (.int .i64 0)] [(0, x0)])) fun v1 h1 =>
  bnd (stS (storeV 3 v0 v1 h1)) fun v2 h2 =>
  finL [loadV G true 3 v0 h2] h.length h2)
noncomputable def alembicref_Bare.f (G : Globs) : Nat → Den
  | 0 => fun _ _ => none
  | k + 1 => fun args h => arg1 args fun x0 => (alembicref_Bare.c G k (alembicref_Bare.f G k) x0 h)
theorem alembicref_Bare.step (G : Globs) (k : Nat) (x0 : AV) (h : AHeap) : alembicref_Bare.f G (k + 1) [x0] h = alembicref_Bare.c G k (alembicref_Bare.f G k) x0 h := rfl
/-! alembic/alembicref.None: function 32 -/
noncomputable def alembicref_None.ann : Ann := mkAnn [] [] [] []
noncomputable def alembicref_None.env (G : Globs) (k : Nat) (self : Den) : List (Nat × Bool × Den) := []
noncomputable def alembicref_None.c (G : Globs) (k : Nat) (self : Den) (h : AHeap) : Option (AV × AHeap) := outV (
  bnd (boxA 54 (.agg [(.int .i64 0), (.bool false), (.int .i64 0)]) h) fun v0 h0 =>
  bnd (pu h0 (buildSt [(0, 1), (1, 1), (2, 1)] [(.int .i64 0), (.bool false), (.int .i64 0)] [])) fun v1 h1 =>
  bnd (stS (storeV 3 v0 v1 h1)) fun v2 h2 =>
  finL [loadV G true 3 v0 h2] h.length h2)
noncomputable def alembicref_None.f (G : Globs) : Nat → Den
  | 0 => fun _ _ => none
  | k + 1 => fun args h => arg0 args (alembicref_None.c G k (alembicref_None.f G k) h)
theorem alembicref_None.step (G : Globs) (k : Nat) (h : AHeap) : alembicref_None.f G (k + 1) [] h = alembicref_None.c G k (alembicref_None.f G k) h := rfl
/-! alembic/alembicsee.sentinels: function 35 -/
noncomputable def alembicsee_sentinels.ann : Ann := mkAnn [] [] [] []
noncomputable def alembicsee_sentinels.env (G : Globs) (k : Nat) (self : Den) : List (Nat × Bool × Den) := []
noncomputable def alembicsee_sentinels.c (G : Globs) (k : Nat) (self : Den) (h : AHeap) : Option (AV × AHeap) := outV (
  bnd (pu h (loadV G false 1 (.gl 0) h)) fun v0 h0 =>
  bnd (pu h0 (loadV G false 1 (.gl 1) h0)) fun v1 h1 =>
  bnd (pu h1 (loadV G false 1 (.gl 2) h1)) fun v2 h2 =>
  bnd (pu h2 (loadV G false 1 (.gl 3) h2)) fun v3 h3 =>
  bnd (pu h3 (loadV G false 1 (.gl 4) h3)) fun v4 h4 =>
  bnd (pu h4 (loadV G false 1 (.gl 5) h4)) fun v5 h5 =>
  bnd (pu h5 (loadV G false 1 (.gl 6) h5)) fun v6 h6 =>
  bnd (pu h6 (loadV G false 1 (.gl 7) h6)) fun v7 h7 =>
  bnd (pu h7 (loadV G false 1 (.gl 8) h7)) fun v8 h8 =>
  bnd (pu h8 (loadV G false 1 (.gl 9) h8)) fun v9 h9 =>
  bnd (pu h9 (loadV G false 1 (.gl 10) h9)) fun v10 h10 =>
  bnd (pu h10 (loadV G false 1 (.gl 11) h10)) fun v11 h11 =>
  bnd (pu h11 (loadV G false 1 (.gl 12) h11)) fun v12 h12 =>
  bnd (pu h12 (loadV G false 1 (.gl 13) h12)) fun v13 h13 =>
  bnd (buildRo 1 14 .nili [(0, v0), (1, v1), (2, v2), (3, v3), (4, v4), (5, v5), (6, v6), (7, v7), (8, v8), (9, v9), (10, v10), (11, v11), (12, v12), (13, v13)] h13) fun v14 h14 =>
  finV [v14] h.length h14)
noncomputable def alembicsee_sentinels.f (G : Globs) : Nat → Den
  | 0 => fun _ _ => none
  | k + 1 => fun args h => arg0 args (alembicsee_sentinels.c G k (alembicsee_sentinels.f G k) h)
theorem alembicsee_sentinels.step (G : Globs) (k : Nat) (h : AHeap) : alembicsee_sentinels.f G (k + 1) [] h = alembicsee_sentinels.c G k (alembicsee_sentinels.f G k) h := rfl
/-! alembic/alembicsee.Alike: function 36 -/
noncomputable def alembicsee_Alike.ann : Ann := mkAnn [] [] [] []
noncomputable def alembicsee_Alike.env (G : Globs) (k : Nat) (self : Den) : List (Nat × Bool × Den) := []
noncomputable def alembicsee_Alike.c (G : Globs) (k : Nat) (self : Den) (x0 x1 : AV) (h : AHeap) : Option (AV × AHeap) := outV (
  bnd (pu h (bin Tryd.prog .eql 30 true x0 .nili)) fun v0 h0 =>
  bnd (gd v0 false h0 (some (x1, h0))) fun v1 h1 =>
  bnd (gd v0 false h1 (pu h1 (bin Tryd.prog .eql 30 true v1 .nili))) fun v2 h2 =>
  bnd (pu h2 (pickA v0 (.bool true) v2)) fun v3 h3 =>
  condA v3
  (bnd (pu h3 (bin Tryd.prog .eql 30 true x0 .nili)) fun v4 h4 =>
  bnd (gd v4 true h4 (some (x1, h4))) fun v5 h5 =>
  bnd (gd v4 true h5 (pu h5 (bin Tryd.prog .eql 30 true v5 .nili))) fun v6 h6 =>
  bnd (pu h6 (pickA v4 v6 (.bool false))) fun v7 h7 =>
  finV [v7] h.length h7)
  (bnd (pu h3 (bin Tryd.prog .eql 30 false x0 x1)) fun v8 h8 =>
  finV [v8] h.length h8))
noncomputable def alembicsee_Alike.f (G : Globs) : Nat → Den
  | 0 => fun _ _ => none
  | k + 1 => fun args h => arg2 args fun x0 x1 => (alembicsee_Alike.c G k (alembicsee_Alike.f G k) x0 x1 h)
theorem alembicsee_Alike.step (G : Globs) (k : Nat) (x0 x1 : AV) (h : AHeap) : alembicsee_Alike.f G (k + 1) [x0, x1] h = alembicsee_Alike.c G k (alembicsee_Alike.f G k) x0 x1 h := rfl
/-! alembic/alembicsee.sentinel: function 33 -/
noncomputable def alembicsee_sentinel.ann : Ann := mkAnn [] [] [(3, [0, 2, 3, 4])] []
noncomputable def alembicsee_sentinel.env (G : Globs) (k : Nat) (self : Den) : List (Nat × Bool × Den) := [(35, true, alembicsee_sentinels.f G k), (36, true, alembicsee_Alike.f G k)]
noncomputable def alembicsee_sentinel.l3 (G : Globs) (k n0 : Nat) (self : Den) (lp : LoopF) : LoopF := fun xs h0 => cutK n0 xs h0 fun h =>
  bnd (pu h (lenSl (nth xs 2))) fun v2 h2 =>
  bnd (pu h2 (bin Tryd.prog .lss 3 false (nth xs 3) v2)) fun v3 h3 =>
  condA v3
  (bnd (pu h3 (idxAddrSl 1 (nth xs 2) (nth xs 3))) fun v4 h4 =>
  bnd (pu h4 (loadV G false 1 v4 h4)) fun v5 h5 =>
  bnd (pureCall (alembicsee_Alike.f G k) [(nth xs 0), v5] h5) fun v6 h6 =>
  condA v6
  (bnd (pu h6 (bin Tryd.prog .add 3 true (.int .i64 101) (nth xs 3))) fun v7 h7 =>
  some (.ret, [(nth xs 0), v7, (nth xs 2), (nth xs 3)], h7))
  (bnd (pu h6 (bin Tryd.prog .add 3 true (nth xs 3) (.int .i64 1))) fun v8 h8 =>
  lp [(nth xs 0), (nth xs 1), (nth xs 2), v8] h8))
  (some (.exit 0, [(nth xs 0), (nth xs 1), (nth xs 2), (nth xs 3)], h3))
noncomputable def alembicsee_sentinel.c (G : Globs) (k : Nat) (self : Den) (x0 : AV) (h : AHeap) : Option (AV × AHeap) := outV (
  bnd (pureCall (alembicsee_sentinels.f G k) [] h) fun v0 h0 =>
  thenK (loopN (alembicsee_sentinel.l3 G k h0.length self) k [x0, (.int .i64 0), v0, (.int .i64 0)] h0) fun e1 x1 h1 => exK e1
  (finV [(.int .i64 (-1))] h.length h1)
  (fun i1 => if i1 = 0 then (finV [(.int .i64 (-1))] h.length h1) else (none))
  (finV [(nth x1 1)] h.length h1))
noncomputable def alembicsee_sentinel.f (G : Globs) : Nat → Den
  | 0 => fun _ _ => none
  | k + 1 => fun args h => arg1 args fun x0 => (alembicsee_sentinel.c G k (alembicsee_sentinel.f G k) x0 h)
theorem alembicsee_sentinel.step (G : Globs) (k : Nat) (x0 : AV) (h : AHeap) : alembicsee_sentinel.f G (k + 1) [x0] h = alembicsee_sentinel.c G k (alembicsee_sentinel.f G k) x0 h := rfl
/-! alembic/alembicref.Placed: function 34 -/
noncomputable def alembicref_Placed.ann : Ann := mkAnn [] [] [] []
noncomputable def alembicref_Placed.env (G : Globs) (k : Nat) (self : Den) : List (Nat × Bool × Den) := [(32, true, alembicref_None.f G k)]
noncomputable def alembicref_Placed.c (G : Globs) (k : Nat) (self : Den) (x0 x1 : AV) (h : AHeap) : Option (AV × AHeap) := outV (
  bnd (boxA 54 (.agg [(.int .i64 0), (.bool false), (.int .i64 0)]) h) fun v0 h0 =>
  bnd (pu h0 (bin Tryd.prog .eql 3 true x0 (.int .i64 0))) fun v1 h1 =>
  condA v1
  (bnd (pureCall (alembicref_None.f G k) [] h1) fun v2 h2 =>
  bnd (stS (storeV 3 v0 v2 h2)) fun v3 h3 =>
  finL [loadV G true 3 v0 h3] h.length h3)
  (bnd (pu h1 (buildSt [(0, 1), (1, 1), (2, 1)] [(.int .i64 0), (.bool false), (.int .i64 0)] [(0, x0), (1, (.bool true)), (2, x1)])) fun v4 h4 =>
  bnd (stS (storeV 3 v0 v4 h4)) fun v5 h5 =>
  finL [loadV G true 3 v0 h5] h.length h5))
noncomputable def alembicref_Placed.f (G : Globs) : Nat → Den
  | 0 => fun _ _ => none
  | k + 1 => fun args h => arg2 args fun x0 x1 => (alembicref_Placed.c G k (alembicref_Placed.f G k) x0 x1 h)
theorem alembicref_Placed.step (G : Globs) (k : Nat) (x0 x1 : AV) (h : AHeap) : alembicref_Placed.f G (k + 1) [x0, x1] h = alembicref_Placed.c G k (alembicref_Placed.f G k) x0 x1 h := rfl
/-! alembic/alembicsee.Fault: function 31 -/
noncomputable def alembicsee_Fault.ann : Ann := mkAnn [] [] [] []
noncomputable def alembicsee_Fault.env (G : Globs) (k : Nat) (self : Den) : List (Nat × Bool × Den) := [(25, true, alembicref_Bare.f G k), (32, true, alembicref_None.f G k), (33, true, alembicsee_sentinel.f G k), (34, true, alembicref_Placed.f G k)]
noncomputable def alembicsee_Fault.c (G : Globs) (k : Nat) (self : Den) (x0 : AV) (h : AHeap) : Option (AV × AHeap) := outV (
  bnd (boxA 54 (.agg [(.int .i64 0), (.bool false), (.int .i64 0)]) h) fun v0 h0 =>
  bnd (pu h0 (bin Tryd.prog .eql 30 true x0 .nili)) fun v1 h1 =>
  condA v1
  (bnd (pureCall (alembicref_None.f G k) [] h1) fun v2 h2 =>
  bnd (stS (storeV 3 v0 v2 h2)) fun v3 h3 =>
  finL [loadV G true 3 v0 h3] h.length h3)
  (bnd (pu h1 (assertV 63 .nilp true x0)) fun v4 h4 =>
  bnd (pu h4 (extractA v4 0)) fun v5 h5 =>
  bnd (pu h5 (extractA v4 1)) fun v6 h6 =>
  bnd (pu h6 (un .not v6)) fun v7 h7 =>
  condA v7
  (bnd (pureCall (alembicsee_sentinel.f G k) [x0] h7) fun v8 h8 =>
  bnd (pureCall (alembicref_Bare.f G k) [v8] h8) fun v9 h9 =>
  bnd (stS (storeV 3 v0 v9 h9)) fun v10 h10 =>
  finL [loadV G true 3 v0 h10] h.length h10)
  (bnd (pu h7 (bin Tryd.prog .eql 63 true v5 .nilp)) fun v11 h11 =>
  bnd (gd v11 false h11 (some (v5, h11))) fun v12 h12 =>
  bnd (gd v11 false h12 (pu h12 (nilA v12))) fun v13 h13 =>
  bnd (gd v11 false h13 (pu h13 (fieldAddrV 1 v13))) fun v14 h14 =>
  bnd (gd v11 false h14 (pu h14 (loadV G false 1 v14 h14))) fun v15 h15 =>
  bnd (gd v11 false h15 (pu h15 (bin Tryd.prog .eql 30 true v15 .nili))) fun v16 h16 =>
  bnd (pu h16 (pickA v11 (.bool true) v16)) fun v17 h17 =>
  condA v17
  (bnd (pureCall (alembicref_Bare.f G k) [(.int .i64 (-1))] h17) fun v18 h18 =>
  bnd (stS (storeV 3 v0 v18 h18)) fun v19 h19 =>
  finL [loadV G true 3 v0 h19] h.length h19)
  (bnd (pu h17 (nilA v5)) fun v20 h20 =>
  bnd (pu h20 (fieldAddrV 1 v20)) fun v21 h21 =>
  bnd (pu h21 (loadV G false 1 v21 h21)) fun v22 h22 =>
  bnd (pureCall (alembicsee_sentinel.f G k) [v22] h22) fun v23 h23 =>
  bnd (pu h23 (nilA v5)) fun v24 h24 =>
  bnd (pu h24 (fieldAddrV 0 v24)) fun v25 h25 =>
  bnd (pu h25 (loadV G false 1 v25 h25)) fun v26 h26 =>
  bnd (pureCall (alembicref_Placed.f G k) [v23, v26] h26) fun v27 h27 =>
  bnd (stS (storeV 3 v0 v27 h27)) fun v28 h28 =>
  finL [loadV G true 3 v0 h28] h.length h28))))
noncomputable def alembicsee_Fault.f (G : Globs) : Nat → Den
  | 0 => fun _ _ => none
  | k + 1 => fun args h => arg1 args fun x0 => (alembicsee_Fault.c G k (alembicsee_Fault.f G k) x0 h)
theorem alembicsee_Fault.step (G : Globs) (k : Nat) (x0 : AV) (h : AHeap) : alembicsee_Fault.f G (k + 1) [x0] h = alembicsee_Fault.c G k (alembicsee_Fault.f G k) x0 h := rfl
/-! alembic/alembicsee.Same: function 24 -/
noncomputable def alembicsee_Same.ann : Ann := mkAnn [] [] [] []
noncomputable def alembicsee_Same.env (G : Globs) (k : Nat) (self : Den) : List (Nat × Bool × Den) := [(30, true, alembicref_SameFault.f G k), (31, true, alembicsee_Fault.f G k)]
noncomputable def alembicsee_Same.c (G : Globs) (k : Nat) (self : Den) (x0 x1 : AV) (h : AHeap) : Option (AV × AHeap) := outV (
  bnd (boxRoA x1 h) fun v0 h0 =>
  bnd (pureCall (alembicsee_Fault.f G k) [x0] h0) fun v1 h1 =>
  bnd (pu h1 (loadV G true 3 v0 h1)) fun v2 h2 =>
  bnd (pureCall (alembicref_SameFault.f G k) [v1, v2] h2) fun v3 h3 =>
  finV [v3] h.length h3)
noncomputable def alembicsee_Same.f (G : Globs) : Nat → Den
  | 0 => fun _ _ => none
  | k + 1 => fun args h => arg2 args fun x0 x1 => (alembicsee_Same.c G k (alembicsee_Same.f G k) x0 x1 h)
theorem alembicsee_Same.step (G : Globs) (k : Nat) (x0 x1 : AV) (h : AHeap) : alembicsee_Same.f G (k + 1) [x0, x1] h = alembicsee_Same.c G k (alembicsee_Same.f G k) x0 x1 h := rfl
/-! alembic/alembicsee.Is: function 15 -/
noncomputable def alembicsee_Is.ann : Ann := mkAnn [] [] [] []
noncomputable def alembicsee_Is.env (G : Globs) (k : Nat) (self : Den) : List (Nat × Bool × Den) := [(24, true, alembicsee_Same.f G k), (25, true, alembicref_Bare.f G k)]
noncomputable def alembicsee_Is.c (G : Globs) (k : Nat) (self : Den) (x0 x1 : AV) (h : AHeap) : Option (AV × AHeap) := outV (
  bnd (pureCall (alembicref_Bare.f G k) [x1] h) fun v0 h0 =>
  bnd (pureCall (alembicsee_Same.f G k) [x0, v0] h0) fun v1 h1 =>
  finV [v1] h.length h1)
noncomputable def alembicsee_Is.f (G : Globs) : Nat → Den
  | 0 => fun _ _ => none
  | k + 1 => fun args h => arg2 args fun x0 x1 => (alembicsee_Is.c G k (alembicsee_Is.f G k) x0 x1 h)
theorem alembicsee_Is.step (G : Globs) (k : Nat) (x0 x1 : AV) (h : AHeap) : alembicsee_Is.f G (k + 1) [x0, x1] h = alembicsee_Is.c G k (alembicsee_Is.f G k) x0 x1 h := rfl
/-! alembic/alembicref4.Bits: function 16 -/
noncomputable def alembicref4_Bits.ann : Ann := mkAnn [] [] [(12, [0, 1, 6, 7, 8]), (7, [0, 1, 4, 5, 6, 7])] []
noncomputable def alembicref4_Bits.env (G : Globs) (k : Nat) (self : Den) : List (Nat × Bool × Den) := []
noncomputable def alembicref4_Bits.l12 (G : Globs) (k n0 : Nat) (self : Den) (lp : LoopF) : LoopF := fun xs h0 => cutK n0 xs h0 fun h =>
  bnd (pu h (bin Tryd.prog .lss 3 false (nth xs 4) (nth xs 0))) fun v28 h28 =>
  condA v28
  (bnd (pu h28 (bin Tryd.prog .mul 3 false (nth xs 3) (nth xs 0))) fun v29 h29 =>
  bnd (pu h29 (bin Tryd.prog .add 3 false v29 (nth xs 4))) fun v30 h30 =>
  bnd (pu h30 (bin Tryd.prog .quo 3 true v30 (.int .i64 8))) fun v31 h31 =>
  bnd (pu h31 (bin Tryd.prog .quo 3 true v30 (.int .i64 8))) fun v32 h32 =>
  bnd (pu h32 (idxAddrSl 1 (nth xs 2) v32)) fun v33 h33 =>
  bnd (pu h33 (loadV G false 1 v33 h33)) fun v34 h34 =>
  bnd (pu h34 (idxAddrSl 1 (nth xs 1) (nth xs 3))) fun v35 h35 =>
  bnd (pu h35 (loadV G false 1 v35 h35)) fun v36 h36 =>
  bnd (pu h36 (convInt .u64 (nth xs 4))) fun v37 h37 =>
  bnd (pu h37 (bin Tryd.prog .shr 3 false v36 v37)) fun v38 h38 =>
  bnd (pu h38 (bin Tryd.prog .and 3 true v38 (.int .i64 1))) fun v39 h39 =>
  bnd (pu h39 (convInt .u8 v39)) fun v40 h40 =>
  bnd (pu h40 (bin Tryd.prog .rem 3 true v30 (.int .i64 8))) fun v41 h41 =>
  bnd (pu h41 (convInt .u64 v41)) fun v42 h42 =>
  bnd (pu h42 (bin Tryd.prog .shl 5 false v40 v42)) fun v43 h43 =>
  bnd (pu h43 (bin Tryd.prog .or 5 false v34 v43)) fun v44 h44 =>
  bnd (pu h44 (idxAddrSl 1 (nth xs 2) v31)) fun v45 h45 =>
  bnd (stS (storeV 1 v45 v44 h45)) fun v46 h46 =>
  bnd (pu h46 (bin Tryd.prog .add 3 true (nth xs 4) (.int .i64 1))) fun v47 h47 =>
  lp [(nth xs 0), (nth xs 1), (nth xs 2), (nth xs 3), v47] h47)
  (some (.exit 2, [(nth xs 0), (nth xs 1), (nth xs 2), (nth xs 3), (nth xs 4)], h28))
noncomputable def alembicref4_Bits.l7 (G : Globs) (k n0 : Nat) (self : Den) (lp : LoopF) : LoopF := fun xs h0 => cutK n0 xs h0 fun h =>
  bnd (pu h (lenSl (nth xs 1))) fun v13 h13 =>
  bnd (pu h13 (bin Tryd.prog .lss 3 false (nth xs 5) v13)) fun v14 h14 =>
  condA v14
  (bnd (pu h14 (idxAddrSl 1 (nth xs 1) (nth xs 5))) fun v15 h15 =>
  bnd (pu h15 (loadV G false 1 v15 h15)) fun v16 h16 =>
  bnd (pu h16 (bin Tryd.prog .lss 3 true v16 (.int .i64 0))) fun v17 h17 =>
  bnd (gd v17 false h17 (some ((nth xs 1), h17))) fun v18 h18 =>
  bnd (gd v17 false h18 (some ((nth xs 5), h18))) fun v19 h19 =>
  bnd (gd v17 false h19 (pu h19 (idxAddrSl 1 v18 v19))) fun v20 h20 =>
  bnd (gd v17 false h20 (pu h20 (loadV G false 1 v20 h20))) fun v21 h21 =>
  bnd (gd v17 false h21 (some ((nth xs 0), h21))) fun v22 h22 =>
  bnd (gd v17 false h22 (pu h22 (convInt .u64 v22))) fun v23 h23 =>
  bnd (gd v17 false h23 (pu h23 (bin Tryd.prog .shl 3 true (.int .i64 1) v23))) fun v24 h24 =>
  bnd (gd v17 false h24 (pu h24 (bin Tryd.prog .geq 3 false v21 v24))) fun v25 h25 =>
  bnd (pu h25 (pickA v17 (.bool true) v25)) fun v26 h26 =>
  condA v26
  (some (.ret, [(nth xs 0), (nth xs 1), (.ro false []), (.int .i64 101), (nth xs 4), (nth xs 5)], h26))
  (thenK (loopN (alembicref4_Bits.l12 G k h26.length self) k [(nth xs 0), (nth xs 1), (nth xs 4), (nth xs 5), (.int .i64 0)] h26) fun e27 x27 h27 => exK e27
  (bnd (pu h27 (bin Tryd.prog .add 3 true (nth x27 3) (.int .i64 1))) fun v48 h48 =>
  lp [(nth x27 0), (nth x27 1), .undef, .undef, (nth x27 2), v48] h48)
  (fun i27 => if i27 = 2 then (bnd (pu h27 (bin Tryd.prog .add 3 true (nth x27 3) (.int .i64 1))) fun v49 h49 =>
  lp [(nth x27 0), (nth x27 1), .undef, .undef, (nth x27 2), v49] h49) else (if i27 = 1 then (bnd (pu h27 (bin Tryd.prog .add 3 true (nth x27 3) (.int .i64 1))) fun v50 h50 =>
  lp [(nth x27 0), (nth x27 1), .undef, .undef, (nth x27 2), v50] h50) else (some (.exit i27, [(nth x27 0), (nth x27 1), .undef, .undef, (nth x27 2), (nth x27 3)], h27))))
  (some (.ret, [(nth x27 0), (nth x27 1), .undef, .undef, (nth x27 2), (nth x27 3)], h27))))
  (some (.exit 0, [(nth xs 0), (nth xs 1), (nth xs 2), (nth xs 3), (nth xs 4), (nth xs 5)], h14))
noncomputable def alembicref4_Bits.c (G : Globs) (k : Nat) (self : Den) (x0 x1 : AV) (h : AHeap) : Option (AV × AHeap) := outV (
  bnd (pu h (bin Tryd.prog .lss 3 true x0 (.int .i64 1))) fun v0 h0 =>
  bnd (gd v0 false h0 (some (x0, h0))) fun v1 h1 =>
  bnd (gd v0 false h1 (pu h1 (bin Tryd.prog .gtr 3 true v1 (.int .i64 24)))) fun v2 h2 =>
  bnd (pu h2 (pickA v0 (.bool true) v2)) fun v3 h3 =>
  condA v3
  (finV [(.ro false []), (.int .i64 101)] h.length h3)
  (bnd (pu h3 (lenSl x1)) fun v4 h4 =>
  bnd (pu h4 (bin Tryd.prog .mul 3 false v4 x0)) fun v5 h5 =>
  bnd (pu h5 (bin Tryd.prog .rem 3 true v5 (.int .i64 8))) fun v6 h6 =>
  bnd (pu h6 (bin Tryd.prog .neq 3 true v6 (.int .i64 0))) fun v7 h7 =>
  condA v7
  (finV [(.ro false []), (.int .i64 102)] h.length h7)
  (bnd (pu h7 (lenSl x1)) fun v8 h8 =>
  bnd (pu h8 (bin Tryd.prog .mul 3 false v8 x0)) fun v9 h9 =>
  bnd (pu h9 (bin Tryd.prog .quo 3 true v9 (.int .i64 8))) fun v10 h10 =>
  bnd (makeSliceV 5 1 (.int .u8 0) v10 v10 h10) fun v11 h11 =>
  thenK (loopN (alembicref4_Bits.l7 G k h11.length self) k [x0, x1, (.ro false []), (.int .i64 0), v11, (.int .i64 0)] h11) fun e12 x12 h12 => exK e12
  (finV [(nth x12 4), (.int .i64 0)] h.length h12)
  (fun i12 => if i12 = 0 then (finV [(nth x12 4), (.int .i64 0)] h.length h12) else (none))
  (finV [(nth x12 2), (nth x12 3)] h.length h12))))
noncomputable def alembicref4_Bits.f (G : Globs) : Nat → Den
  | 0 => fun _ _ => none
  | k + 1 => fun args h => arg2 args fun x0 x1 => (alembicref4_Bits.c G k (alembicref4_Bits.f G k) x0 x1 h)
theorem alembicref4_Bits.step (G : Globs) (k : Nat) (x0 x1 : AV) (h : AHeap) : alembicref4_Bits.f G (k + 1) [x0, x1] h = alembicref4_Bits.c G k (alembicref4_Bits.f G k) x0 x1 h := rfl
/-! alembic/alembicref4.Open: function 17 -/
noncomputable def alembicref4_Open.ann : Ann := mkAnn [] [6, 8] [(11, [0, 1, 2, 8, 9, 10, 11]), (7, [0, 1, 2, 8, 9])] []
noncomputable def alembicref4_Open.env (G : Globs) (k : Nat) (self : Den) : List (Nat × Bool × Den) := []
noncomputable def alembicref4_Open.l11 (G : Globs) (k n0 : Nat) (self : Den) (lp : LoopF) : LoopF := fun xs h0 => cutK n0 xs h0 fun h =>
  bnd (pu h (bin Tryd.prog .lss 3 false (nth xs 6) (nth xs 0))) fun v28 h28 =>
  condA v28
  (bnd (pu h28 (bin Tryd.prog .mul 3 false (nth xs 4) (nth xs 0))) fun v29 h29 =>
  bnd (pu h29 (bin Tryd.prog .add 3 false v29 (nth xs 6))) fun v30 h30 =>
  bnd (pu h30 (bin Tryd.prog .quo 3 true v30 (.int .i64 8))) fun v31 h31 =>
  bnd (pu h31 (idxAddrSl 1 (nth xs 2) v31)) fun v32 h32 =>
  bnd (pu h32 (loadV G false 1 v32 h32)) fun v33 h33 =>
  bnd (pu h33 (bin Tryd.prog .rem 3 true v30 (.int .i64 8))) fun v34 h34 =>
  bnd (pu h34 (convInt .u64 v34)) fun v35 h35 =>
  bnd (pu h35 (bin Tryd.prog .shr 5 false v33 v35)) fun v36 h36 =>
  bnd (pu h36 (bin Tryd.prog .and 5 true v36 (.int .u8 1))) fun v37 h37 =>
  bnd (pu h37 (convInt .i64 v37)) fun v38 h38 =>
  bnd (pu h38 (convInt .u64 (nth xs 6))) fun v39 h39 =>
  bnd (pu h39 (bin Tryd.prog .shl 3 false v38 v39)) fun v40 h40 =>
  bnd (pu h40 (bin Tryd.prog .or 3 false (nth xs 5) v40)) fun v41 h41 =>
  bnd (pu h41 (bin Tryd.prog .add 3 true (nth xs 6) (.int .i64 1))) fun v42 h42 =>
  lp [(nth xs 0), (nth xs 1), (nth xs 2), (nth xs 3), (nth xs 4), v41, v42] h42)
  (some (.exit 2, [(nth xs 0), (nth xs 1), (nth xs 2), (nth xs 3), (nth xs 4), (nth xs 5), (nth xs 6)], h28))
noncomputable def alembicref4_Open.l7 (G : Globs) (k n0 : Nat) (self : Den) (lp : LoopF) : LoopF := fun xs h0 => cutK n0 xs h0 fun h =>
  bnd (pu h (bin Tryd.prog .lss 3 false (nth xs 4) (nth xs 1))) fun v26 h26 =>
  condA v26
  (thenK (loopN (alembicref4_Open.l11 G k h26.length self) k [(nth xs 0), (nth xs 1), (nth xs 2), (nth xs 3), (nth xs 4), (.int .i64 0), (.int .i64 0)] h26) fun e27 x27 h27 => exK e27
  (bnd (buildRo 1 1 (.int .i64 0) [(0, (nth x27 5))] h27) fun v43 h43 =>
  bnd (appendV 3 1 (nth x27 3) v43 h43) fun v44 h44 =>
  bnd (pu h44 (bin Tryd.prog .add 3 true (nth x27 4) (.int .i64 1))) fun v45 h45 =>
  lp [(nth x27 0), (nth x27 1), (nth x27 2), v44, v45] h45)
  (fun i27 => if i27 = 2 then (bnd (buildRo 1 1 (.int .i64 0) [(0, (nth x27 5))] h27) fun v46 h46 =>
  bnd (appendV 3 1 (nth x27 3) v46 h46) fun v47 h47 =>
  bnd (pu h47 (bin Tryd.prog .add 3 true (nth x27 4) (.int .i64 1))) fun v48 h48 =>
  lp [(nth x27 0), (nth x27 1), (nth x27 2), v47, v48] h48) else (if i27 = 1 then (bnd (pu h27 (bin Tryd.prog .add 3 true (nth x27 4) (.int .i64 1))) fun v49 h49 =>
  lp [(nth x27 0), (nth x27 1), (nth x27 2), (nth x27 3), v49] h49) else (some (.exit i27, [(nth x27 0), (nth x27 1), (nth x27 2), (nth x27 3), (nth x27 4)], h27))))
  (some (.ret, [(nth x27 0), (nth x27 1), (nth x27 2), (nth x27 3), (nth x27 4)], h27)))
  (some (.exit 0, [(nth xs 0), (nth xs 1), (nth xs 2), (nth xs 3), (nth xs 4)], h26))
noncomputable def alembicref4_Open.c (G : Globs) (k : Nat) (self : Den) (x0 x1 x2 : AV) (h : AHeap) : Option (AV × AHeap) := outV (
  bnd (some (.sl h.length 0 0 0 1, h ++ [⟨3, 1, []⟩])) fun v0 h0 =>
  bnd (pu h0 (bin Tryd.prog .lss 3 true x0 (.int .i64 1))) fun v1 h1 =>
  bnd (gd v1 false h1 (some (x0, h1))) fun v2 h2 =>
  bnd (gd v1 false h2 (pu h2 (bin Tryd.prog .gtr 3 true v2 (.int .i64 24)))) fun v3 h3 =>
  bnd (pu h3 (pickA v1 (.bool true) v3)) fun v4 h4 =>
  bnd (gd v4 false h4 (some (x1, h4))) fun v5 h5 =>
  bnd (gd v4 false h5 (pu h5 (bin Tryd.prog .lss 3 true v5 (.int .i64 0)))) fun v6 h6 =>
  bnd (pu h6 (pickA v4 (.bool true) v6)) fun v7 h7 =>
  bnd (gd v7 false h7 (some (x1, h7))) fun v8 h8 =>
  bnd (gd v7 false h8 (pu h8 (bin Tryd.prog .gtr 3 true v8 (.int .i64 4096)))) fun v9 h9 =>
  bnd (pu h9 (pickA v7 (.bool true) v9)) fun v10 h10 =>
  condA v10
  (bnd (some (.sl h10.length 0 0 0 1, h10 ++ [⟨3, 1, []⟩])) fun v11 h11 =>
  finV [v11, (.int .i64 101)] h.length h11)
  (bnd (pu h10 (bin Tryd.prog .mul 3 false x0 x1)) fun v12 h12 =>
  bnd (pu h12 (bin Tryd.prog .rem 3 true v12 (.int .i64 8))) fun v13 h13 =>
  bnd (pu h13 (bin Tryd.prog .neq 3 true v13 (.int .i64 0))) fun v14 h14 =>
  bnd (gd v14 false h14 (some (x2, h14))) fun v15 h15 =>
  bnd (gd v14 false h15 (pu h15 (lenSl v15))) fun v16 h16 =>
  bnd (gd v14 false h16 (some (x0, h16))) fun v17 h17 =>
  bnd (gd v14 false h17 (some (x1, h17))) fun v18 h18 =>
  bnd (gd v14 false h18 (pu h18 (bin Tryd.prog .mul 3 false v17 v18))) fun v19 h19 =>
  bnd (gd v14 false h19 (pu h19 (bin Tryd.prog .quo 3 true v19 (.int .i64 8)))) fun v20 h20 =>
  bnd (gd v14 false h20 (pu h20 (bin Tryd.prog .neq 3 false v16 v20))) fun v21 h21 =>
  bnd (pu h21 (pickA v14 (.bool true) v21)) fun v22 h22 =>
  condA v22
  (bnd (some (.sl h22.length 0 0 0 1, h22 ++ [⟨3, 1, []⟩])) fun v23 h23 =>
  finV [v23, (.int .i64 102)] h.length h23)
  (bnd (some (.sl h22.length 0 0 0 1, h22 ++ [⟨3, 1, []⟩])) fun v24 h24 =>
  thenK (loopN (alembicref4_Open.l7 G k h24.length self) k [x0, x1, x2, v24, (.int .i64 0)] h24) fun e25 x25 h25 => exK e25
  (finV [(nth x25 3), (.int .i64 0)] h.length h25)
  (fun i25 => if i25 = 0 then (finV [(nth x25 3), (.int .i64 0)] h.length h25) else (none))
  (finV [.undef, .undef] h.length h25))))
noncomputable def alembicref4_Open.f (G : Globs) : Nat → Den
  | 0 => fun _ _ => none
  | k + 1 => fun args h => arg3 args fun x0 x1 x2 => (alembicref4_Open.c G k (alembicref4_Open.f G k) x0 x1 x2 h)
theorem alembicref4_Open.step (G : Globs) (k : Nat) (x0 x1 x2 : AV) (h : AHeap) : alembicref4_Open.f G (k + 1) [x0, x1, x2] h = alembicref4_Open.c G k (alembicref4_Open.f G k) x0 x1 x2 h := rfl
/-! alembic/alembicref4.Width: function 18 -/
noncomputable def alembicref4_Width.ann : Ann := mkAnn [] [] [(2, [0, 3])] []
noncomputable def alembicref4_Width.env (G : Globs) (k : Nat) (self : Den) : List (Nat × Bool × Den) := []
noncomputable def alembicref4_Width.l2 (G : Globs) (k n0 : Nat) (self : Den) (lp : LoopF) : LoopF := fun xs h0 => cutK n0 xs h0 fun h =>
  bnd (pu h (bin Tryd.prog .gtr 3 true (nth xs 0) (.int .i64 0))) fun v1 h1 =>
  condA v1
  (bnd (pu h1 (bin Tryd.prog .add 3 true (nth xs 1) (.int .i64 1))) fun v2 h2 =>
  bnd (pu h2 (bin Tryd.prog .quo 3 true (nth xs 0) (.int .i64 2))) fun v3 h3 =>
  lp [v3, v2] h3)
  (some (.exit 0, [(nth xs 0), (nth xs 1)], h1))
noncomputable def alembicref4_Width.c (G : Globs) (k : Nat) (self : Den) (x0 : AV) (h : AHeap) : Option (AV × AHeap) := outV (
  thenK (loopN (alembicref4_Width.l2 G k h.length self) k [x0, (.int .i64 0)] h) fun e0 x0 h0 => exK e0
  (finV [(nth x0 1)] h.length h0)
  (fun i0 => if i0 = 0 then (finV [(nth x0 1)] h.length h0) else (none))
  (finV [.undef] h.length h0))
noncomputable def alembicref4_Width.f (G : Globs) : Nat → Den
  | 0 => fun _ _ => none
  | k + 1 => fun args h => arg1 args fun x0 => (alembicref4_Width.c G k (alembicref4_Width.f G k) x0 h)
theorem alembicref4_Width.step (G : Globs) (k : Nat) (x0 : AV) (h : AHeap) : alembicref4_Width.f G (k + 1) [x0] h = alembicref4_Width.c G k (alembicref4_Width.f G k) x0 h := rfl
/-! alembic/pack.fair: function 26 -/
noncomputable def pack_fair.ann : Ann := mkAnn [] [] [] []
noncomputable def pack_fair.env (G : Globs) (k : Nat) (self : Den) : List (Nat × Bool × Den) := []
noncomputable def pack_fair.c (G : Globs) (k : Nat) (self : Den) (x0 x1 : AV) (h : AHeap) : Option (AV × AHeap) := outV (
  bnd (pu h (bin Tryd.prog .geq 3 true x0 (.int .i64 0))) fun v0 h0 =>
  bnd (gd v0 true h0 (some (x0, h0))) fun v1 h1 =>
  bnd (gd v0 true h1 (pu h1 (bin Tryd.prog .leq 3 true v1 (.int .i64 8388608)))) fun v2 h2 =>
  bnd (pu h2 (pickA v0 v2 (.bool false))) fun v3 h3 =>
  bnd (gd v3 true h3 (some (x1, h3))) fun v4 h4 =>
  bnd (gd v3 true h4 (pu h4 (bin Tryd.prog .geq 3 true v4 (.int .i64 0)))) fun v5 h5 =>
  bnd (pu h5 (pickA v3 v5 (.bool false))) fun v6 h6 =>
  bnd (gd v6 true h6 (some (x1, h6))) fun v7 h7 =>
  bnd (gd v6 true h7 (pu h7 (bin Tryd.prog .leq 3 true v7 (.int .i64 8388608)))) fun v8 h8 =>
  bnd (pu h8 (pickA v6 v8 (.bool false))) fun v9 h9 =>
  bnd (gd v9 true h9 (some (x0, h9))) fun v10 h10 =>
  bnd (gd v9 true h10 (some (x1, h10))) fun v11 h11 =>
  bnd (gd v9 true h11 (pu h11 (bin Tryd.prog .add 3 false v10 v11))) fun v12 h12 =>
  bnd (gd v9 true h12 (pu h12 (bin Tryd.prog .gtr 3 true v12 (.int .i64 0)))) fun v13 h13 =>
  bnd (pu h13 (pickA v9 v13 (.bool false))) fun v14 h14 =>
  finV [v14] h.length h14)
noncomputable def pack_fair.f (G : Globs) : Nat → Den
  | 0 => fun _ _ => none
  | k + 1 => fun args h => arg2 args fun x0 x1 => (pack_fair.c G k (pack_fair.f G k) x0 x1 h)
theorem pack_fair.step (G : Globs) (k : Nat) (x0 x1 : AV) (h : AHeap) : pack_fair.f G (k + 1) [x0, x1] h = pack_fair.c G k (pack_fair.f G k) x0 x1 h := rfl
/-! alembic/pack.Signed: function 19 -/
noncomputable def pack_Signed.ann : Ann := mkAnn [] [] [(5, [0, 1, 6, 7, 8, 19, 20, 21])] []
noncomputable def pack_Signed.env (G : Globs) (k : Nat) (self : Den) : List (Nat × Bool × Den) := [(10, true, pack_Width.f G k), (11, true, pack_Bits.f G k), (26, true, pack_fair.f G k)]
noncomputable def pack_Signed.l5 (G : Globs) (k n0 : Nat) (self : Den) (lp : LoopF) : LoopF := fun xs h0 => cutK n0 xs h0 fun h =>
  bnd (pu h (bin Tryd.prog .lss 3 false (nth xs 7) (nth xs 6))) fun v7 h7 =>
  condA v7
  (bnd (pu h7 (idxAddrSl 1 (nth xs 5) (nth xs 7))) fun v8 h8 =>
  bnd (pu h8 (loadV G false 1 v8 h8)) fun v9 h9 =>
  bnd (pu h9 (un .neg (nth xs 0))) fun v10 h10 =>
  bnd (pu h10 (bin Tryd.prog .lss 3 false v9 v10)) fun v11 h11 =>
  bnd (gd v11 false h11 (some (v9, h11))) fun v12 h12 =>
  bnd (gd v11 false h12 (some ((nth xs 1), h12))) fun v13 h13 =>
  bnd (gd v11 false h13 (pu h13 (bin Tryd.prog .gtr 3 false v12 v13))) fun v14 h14 =>
  bnd (pu h14 (pickA v11 (.bool true) v14)) fun v15 h15 =>
  condA v15
  (bnd (pu h15 (loadV G false 1 (.gl 0) h15)) fun v16 h16 =>
  some (.ret, [(nth xs 0), (nth xs 1), (.ro false []), v16, (nth xs 4), (nth xs 5), (nth xs 6), (nth xs 7)], h16))
  (bnd (pu h15 (bin Tryd.prog .sub 3 false (nth xs 1) v9)) fun v17 h17 =>
  bnd (pu h17 (idxAddrSl 1 (nth xs 4) (nth xs 7))) fun v18 h18 =>
  bnd (stS (storeV 1 v18 v17 h18)) fun v19 h19 =>
  bnd (pu h19 (bin Tryd.prog .add 3 true (nth xs 7) (.int .i64 1))) fun v20 h20 =>
  lp [(nth xs 0), (nth xs 1), (nth xs 2), (nth xs 3), (nth xs 4), (nth xs 5), (nth xs 6), v20] h20))
  (some (.exit 0, [(nth xs 0), (nth xs 1), (nth xs 2), (nth xs 3), (nth xs 4), (nth xs 5), (nth xs 6), (nth xs 7)], h7))
noncomputable def pack_Signed.c (G : Globs) (k : Nat) (self : Den) (x0 x1 x2 : AV) (h : AHeap) : Option (AV × AHeap) := outV (
  bnd (pureCall (pack_fair.f G k) [x0, x1] h) fun v0 h0 =>
  bnd (pu h0 (un .not v0)) fun v1 h1 =>
  condA v1
  (bnd (pu h1 (loadV G false 1 (.gl 0) h1)) fun v2 h2 =>
  finV [(.ro false []), v2] h.length h2)
  (bnd (pu h1 (lenSl x2)) fun v3 h3 =>
  bnd (makeSliceV 3 1 (.int .i64 0) v3 v3 h3) fun v4 h4 =>
  bnd (pu h4 (lenSl x2)) fun v5 h5 =>
  thenK (loopN (pack_Signed.l5 G k h5.length self) k [x0, x1, (.ro false []), .nili, v4, x2, v5, (.int .i64 0)] h5) fun e6 x6 h6 => exK e6
  (bnd (pu h6 (bin Tryd.prog .add 3 false (nth x6 0) (nth x6 1))) fun v21 h21 =>
  bnd (pureCall (pack_Width.f G k) [v21] h21) fun v22 h22 =>
  bnd (pureCall (pack_Bits.f G k) [v22, (nth x6 4)] h22) fun v23 h23 =>
  bnd (pu h23 (extractA v23 0)) fun v24 h24 =>
  bnd (pu h24 (extractA v23 1)) fun v25 h25 =>
  finV [v24, v25] h.length h25)
  (fun i6 => if i6 = 0 then (bnd (pu h6 (bin Tryd.prog .add 3 false (nth x6 0) (nth x6 1))) fun v26 h26 =>
  bnd (pureCall (pack_Width.f G k) [v26] h26) fun v27 h27 =>
  bnd (pureCall (pack_Bits.f G k) [v27, (nth x6 4)] h27) fun v28 h28 =>
  bnd (pu h28 (extractA v28 0)) fun v29 h29 =>
  bnd (pu h29 (extractA v28 1)) fun v30 h30 =>
  finV [v29, v30] h.length h30) else (none))
  (finV [(nth x6 2), (nth x6 3)] h.length h6)))
noncomputable def pack_Signed.f (G : Globs) : Nat → Den
  | 0 => fun _ _ => none
  | k + 1 => fun args h => arg3 args fun x0 x1 x2 => (pack_Signed.c G k (pack_Signed.f G k) x0 x1 x2 h)
theorem pack_Signed.step (G : Globs) (k : Nat) (x0 x1 x2 : AV) (h : AHeap) : pack_Signed.f G (k + 1) [x0, x1, x2] h = pack_Signed.c G k (pack_Signed.f G k) x0 x1 x2 h := rfl
/-! alembic/alembicref4.ends: function 27 -/
noncomputable def alembicref4_ends.ann : Ann := mkAnn [] [] [] []
noncomputable def alembicref4_ends.env (G : Globs) (k : Nat) (self : Den) : List (Nat × Bool × Den) := []
noncomputable def alembicref4_ends.c (G : Globs) (k : Nat) (self : Den) (x0 x1 : AV) (h : AHeap) : Option (AV × AHeap) := outV (
  bnd (pu h (bin Tryd.prog .geq 3 true x0 (.int .i64 0))) fun v0 h0 =>
  bnd (gd v0 true h0 (some (x0, h0))) fun v1 h1 =>
  bnd (gd v0 true h1 (pu h1 (bin Tryd.prog .leq 3 true v1 (.int .i64 8388608)))) fun v2 h2 =>
  bnd (pu h2 (pickA v0 v2 (.bool false))) fun v3 h3 =>
  bnd (gd v3 true h3 (some (x1, h3))) fun v4 h4 =>
  bnd (gd v3 true h4 (pu h4 (bin Tryd.prog .geq 3 true v4 (.int .i64 0)))) fun v5 h5 =>
  bnd (pu h5 (pickA v3 v5 (.bool false))) fun v6 h6 =>
  bnd (gd v6 true h6 (some (x1, h6))) fun v7 h7 =>
  bnd (gd v6 true h7 (pu h7 (bin Tryd.prog .leq 3 true v7 (.int .i64 8388608)))) fun v8 h8 =>
  bnd (pu h8 (pickA v6 v8 (.bool false))) fun v9 h9 =>
  bnd (gd v9 true h9 (some (x0, h9))) fun v10 h10 =>
  bnd (gd v9 true h10 (pu h10 (bin Tryd.prog .gtr 3 true v10 (.int .i64 0)))) fun v11 h11 =>
  bnd (gd v9 true h11 (some (v11, h11))) fun v12 h12 =>
  bnd (gd v12 false h12 (some (x1, h12))) fun v13 h13 =>
  bnd (gd v12 false h13 (pu h13 (bin Tryd.prog .gtr 3 true v13 (.int .i64 0)))) fun v14 h14 =>
  bnd (gd v9 true h14 (pu h14 (pickA v12 (.bool true) v14))) fun v15 h15 =>
  bnd (pu h15 (pickA v9 v15 (.bool false))) fun v16 h16 =>
  finV [v16] h.length h16)
noncomputable def alembicref4_ends.f (G : Globs) : Nat → Den
  | 0 => fun _ _ => none
  | k + 1 => fun args h => arg2 args fun x0 x1 => (alembicref4_ends.c G k (alembicref4_ends.f G k) x0 x1 h)
theorem alembicref4_ends.step (G : Globs) (k : Nat) (x0 x1 : AV) (h : AHeap) : alembicref4_ends.f G (k + 1) [x0, x1] h = alembicref4_ends.c G k (alembicref4_ends.f G k) x0 x1 h := rfl
/-! alembic/alembicref4.Signed: function 20 -/
noncomputable def alembicref4_Signed.ann : Ann := mkAnn [] [8] [(5, [0, 1, 2, 6, 7, 8, 9])] []
noncomputable def alembicref4_Signed.env (G : Globs) (k : Nat) (self : Den) : List (Nat × Bool × Den) := [(16, true, alembicref4_Bits.f G k), (18, true, alembicref4_Width.f G k), (27, true, alembicref4_ends.f G k)]
noncomputable def alembicref4_Signed.l5 (G : Globs) (k n0 : Nat) (self : Den) (lp : LoopF) : LoopF := fun xs h0 => cutK n0 xs h0 fun h =>
  bnd (pu h (lenSl (nth xs 2))) fun v4 h4 =>
  bnd (pu h4 (bin Tryd.prog .lss 3 false (nth xs 6) v4)) fun v5 h5 =>
  condA v5
  (bnd (pu h5 (idxAddrSl 1 (nth xs 2) (nth xs 6))) fun v6 h6 =>
  bnd (pu h6 (loadV G false 1 v6 h6)) fun v7 h7 =>
  bnd (pu h7 (un .neg (nth xs 0))) fun v8 h8 =>
  bnd (pu h8 (bin Tryd.prog .lss 3 false v7 v8)) fun v9 h9 =>
  bnd (gd v9 false h9 (some ((nth xs 2), h9))) fun v10 h10 =>
  bnd (gd v9 false h10 (some ((nth xs 6), h10))) fun v11 h11 =>
  bnd (gd v9 false h11 (pu h11 (idxAddrSl 1 v10 v11))) fun v12 h12 =>
  bnd (gd v9 false h12 (pu h12 (loadV G false 1 v12 h12))) fun v13 h13 =>
  bnd (gd v9 false h13 (some ((nth xs 1), h13))) fun v14 h14 =>
  bnd (gd v9 false h14 (pu h14 (bin Tryd.prog .gtr 3 false v13 v14))) fun v15 h15 =>
  bnd (pu h15 (pickA v9 (.bool true) v15)) fun v16 h16 =>
  condA v16
  (some (.ret, [(nth xs 0), (nth xs 1), (nth xs 2), (.ro false []), (.int .i64 101), (nth xs 5), (nth xs 6)], h16))
  (bnd (pu h16 (idxAddrSl 1 (nth xs 2) (nth xs 6))) fun v17 h17 =>
  bnd (pu h17 (loadV G false 1 v17 h17)) fun v18 h18 =>
  bnd (pu h18 (bin Tryd.prog .sub 3 false (nth xs 1) v18)) fun v19 h19 =>
  bnd (buildRo 1 1 (.int .i64 0) [(0, v19)] h19) fun v20 h20 =>
  bnd (appendV 3 1 (nth xs 5) v20 h20) fun v21 h21 =>
  bnd (pu h21 (bin Tryd.prog .add 3 true (nth xs 6) (.int .i64 1))) fun v22 h22 =>
  lp [(nth xs 0), (nth xs 1), (nth xs 2), (nth xs 3), (nth xs 4), v21, v22] h22))
  (some (.exit 0, [(nth xs 0), (nth xs 1), (nth xs 2), (nth xs 3), (nth xs 4), (nth xs 5), (nth xs 6)], h5))
noncomputable def alembicref4_Signed.c (G : Globs) (k : Nat) (self : Den) (x0 x1 x2 : AV) (h : AHeap) : Option (AV × AHeap) := outV (
  bnd (pureCall (alembicref4_ends.f G k) [x0, x1] h) fun v0 h0 =>
  bnd (pu h0 (un .not v0)) fun v1 h1 =>
  condA v1
  (finV [(.ro false []), (.int .i64 101)] h.length h1)
  (bnd (some (.sl h1.length 0 0 0 1, h1 ++ [⟨3, 1, []⟩])) fun v2 h2 =>
  thenK (loopN (alembicref4_Signed.l5 G k h2.length self) k [x0, x1, x2, (.ro false []), (.int .i64 0), v2, (.int .i64 0)] h2) fun e3 x3 h3 => exK e3
  (bnd (pu h3 (bin Tryd.prog .add 3 false (nth x3 0) (nth x3 1))) fun v23 h23 =>
  bnd (pureCall (alembicref4_Width.f G k) [v23] h23) fun v24 h24 =>
  bnd (pureCall (alembicref4_Bits.f G k) [v24, (nth x3 5)] h24) fun v25 h25 =>
  bnd (pu h25 (extractA v25 0)) fun v26 h26 =>
  bnd (pu h26 (extractA v25 1)) fun v27 h27 =>
  finV [v26, v27] h.length h27)
  (fun i3 => if i3 = 0 then (bnd (pu h3 (bin Tryd.prog .add 3 false (nth x3 0) (nth x3 1))) fun v28 h28 =>
  bnd (pureCall (alembicref4_Width.f G k) [v28] h28) fun v29 h29 =>
  bnd (pureCall (alembicref4_Bits.f G k) [v29, (nth x3 5)] h29) fun v30 h30 =>
  bnd (pu h30 (extractA v30 0)) fun v31 h31 =>
  bnd (pu h31 (extractA v30 1)) fun v32 h32 =>
  finV [v31, v32] h.length h32) else (none))
  (finV [(nth x3 3), (nth x3 4)] h.length h3)))
noncomputable def alembicref4_Signed.f (G : Globs) : Nat → Den
  | 0 => fun _ _ => none
  | k + 1 => fun args h => arg3 args fun x0 x1 x2 => (alembicref4_Signed.c G k (alembicref4_Signed.f G k) x0 x1 x2 h)
theorem alembicref4_Signed.step (G : Globs) (k : Nat) (x0 x1 x2 : AV) (h : AHeap) : alembicref4_Signed.f G (k + 1) [x0, x1, x2] h = alembicref4_Signed.c G k (alembicref4_Signed.f G k) x0 x1 x2 h := rfl
/-! alembic/pack.OpenSigned: function 21 -/
noncomputable def pack_OpenSigned.ann : Ann := mkAnn [] [] [(7, [0, 1, 8, 9, 10, 32, 33, 34])] []
noncomputable def pack_OpenSigned.env (G : Globs) (k : Nat) (self : Den) : List (Nat × Bool × Den) := [(10, true, pack_Width.f G k), (12, false, pack_Open.f G k), (26, true, pack_fair.f G k)]
noncomputable def pack_OpenSigned.l7 (G : Globs) (k n0 : Nat) (self : Den) (lp : LoopF) : LoopF := fun xs h0 => cutK n0 xs h0 fun h =>
  bnd (pu h (bin Tryd.prog .lss 3 false (nth xs 7) (nth xs 6))) fun v11 h11 =>
  condA v11
  (bnd (pu h11 (idxAddrSl 1 (nth xs 5) (nth xs 7))) fun v12 h12 =>
  bnd (pu h12 (loadV G false 1 v12 h12)) fun v13 h13 =>
  bnd (pu h13 (bin Tryd.prog .sub 3 false (nth xs 1) v13)) fun v14 h14 =>
  bnd (pu h14 (idxAddrSl 1 (nth xs 4) (nth xs 7))) fun v15 h15 =>
  bnd (stS (storeV 1 v15 v14 h15)) fun v16 h16 =>
  bnd (pu h16 (idxAddrSl 1 (nth xs 4) (nth xs 7))) fun v17 h17 =>
  bnd (pu h17 (loadV G false 1 v17 h17)) fun v18 h18 =>
  bnd (pu h18 (un .neg (nth xs 0))) fun v19 h19 =>
  bnd (pu h19 (bin Tryd.prog .lss 3 false v18 v19)) fun v20 h20 =>
  condA v20
  (bnd (pu h20 (loadV G false 1 (.gl 0) h20)) fun v21 h21 =>
  some (.ret, [(nth xs 0), (nth xs 1), (.ro false []), v21, (nth xs 4), (nth xs 5), (nth xs 6), (nth xs 7)], h21))
  (bnd (pu h20 (bin Tryd.prog .add 3 true (nth xs 7) (.int .i64 1))) fun v22 h22 =>
  lp [(nth xs 0), (nth xs 1), (nth xs 2), (nth xs 3), (nth xs 4), (nth xs 5), (nth xs 6), v22] h22))
  (some (.exit 0, [(nth xs 0), (nth xs 1), (nth xs 2), (nth xs 3), (nth xs 4), (nth xs 5), (nth xs 6), (nth xs 7)], h11))
noncomputable def pack_OpenSigned.c (G : Globs) (k : Nat) (self : Den) (x0 x1 x2 x3 : AV) (h : AHeap) : Option (AV × AHeap) := outV (
  bnd (pureCall (pack_fair.f G k) [x0, x1] h) fun v0 h0 =>
  bnd (pu h0 (un .not v0)) fun v1 h1 =>
  condA v1
  (bnd (pu h1 (loadV G false 1 (.gl 0) h1)) fun v2 h2 =>
  finV [(.ro false []), v2] h.length h2)
  (bnd (pu h1 (bin Tryd.prog .add 3 false x0 x1)) fun v3 h3 =>
  bnd (pureCall (pack_Width.f G k) [v3] h3) fun v4 h4 =>
  bnd (heapCall (pack_Open.f G k) [v4, x2, x3] h4) fun v5 h5 =>
  bnd (pu h5 (extractA v5 0)) fun v6 h6 =>
  bnd (pu h6 (extractA v5 1)) fun v7 h7 =>
  bnd (pu h7 (bin Tryd.prog .neq 30 true v7 .nili)) fun v8 h8 =>
  condA v8
  (finV [(.ro false []), v7] h.length h8)
  (bnd (pu h8 (lenSl v6)) fun v9 h9 =>
  thenK (loopN (pack_OpenSigned.l7 G k h9.length self) k [x0, x1, (.ro false []), .nili, v6, v6, v9, (.int .i64 0)] h9) fun e10 x10 h10 => exK e10
  (finV [(nth x10 4), .nili] h.length h10)
  (fun i10 => if i10 = 0 then (finV [(nth x10 4), .nili] h.length h10) else (none))
  (finV [(nth x10 2), (nth x10 3)] h.length h10))))
noncomputable def pack_OpenSigned.f (G : Globs) : Nat → Den
  | 0 => fun _ _ => none
  | k + 1 => fun args h => arg4 args fun x0 x1 x2 x3 => (pack_OpenSigned.c G k (pack_OpenSigned.f G k) x0 x1 x2 x3 h)
theorem pack_OpenSigned.step (G : Globs) (k : Nat) (x0 x1 x2 x3 : AV) (h : AHeap) : pack_OpenSigned.f G (k + 1) [x0, x1, x2, x3] h = pack_OpenSigned.c G k (pack_OpenSigned.f G k) x0 x1 x2 x3 h := rfl
/-! alembic/alembicref4.OpenSigned: function 22 -/
noncomputable def alembicref4_OpenSigned.ann : Ann := mkAnn [] [8, 12] [(8, [0, 1, 8, 9, 10, 12, 13])] []
noncomputable def alembicref4_OpenSigned.env (G : Globs) (k : Nat) (self : Den) : List (Nat × Bool × Den) := [(17, true, alembicref4_Open.f G k), (18, true, alembicref4_Width.f G k), (27, true, alembicref4_ends.f G k)]
noncomputable def alembicref4_OpenSigned.l8 (G : Globs) (k n0 : Nat) (self : Den) (lp : LoopF) : LoopF := fun xs h0 => cutK n0 xs h0 fun h =>
  bnd (pu h (lenSl (nth xs 4))) fun v13 h13 =>
  bnd (pu h13 (bin Tryd.prog .lss 3 false (nth xs 6) v13)) fun v14 h14 =>
  condA v14
  (bnd (pu h14 (idxAddrSl 1 (nth xs 4) (nth xs 6))) fun v15 h15 =>
  bnd (pu h15 (loadV G false 1 v15 h15)) fun v16 h16 =>
  bnd (pu h16 (bin Tryd.prog .sub 3 false (nth xs 1) v16)) fun v17 h17 =>
  bnd (pu h17 (un .neg (nth xs 0))) fun v18 h18 =>
  bnd (pu h18 (bin Tryd.prog .lss 3 false v17 v18)) fun v19 h19 =>
  condA v19
  (bnd (some (.sl h19.length 0 0 0 1, h19 ++ [⟨3, 1, []⟩])) fun v20 h20 =>
  some (.ret, [(nth xs 0), (nth xs 1), v20, (.int .i64 101), (nth xs 4), (nth xs 5), (nth xs 6)], h20))
  (bnd (pu h19 (idxAddrSl 1 (nth xs 4) (nth xs 6))) fun v21 h21 =>
  bnd (pu h21 (loadV G false 1 v21 h21)) fun v22 h22 =>
  bnd (pu h22 (bin Tryd.prog .sub 3 false (nth xs 1) v22)) fun v23 h23 =>
  bnd (buildRo 1 1 (.int .i64 0) [(0, v23)] h23) fun v24 h24 =>
  bnd (appendV 3 1 (nth xs 5) v24 h24) fun v25 h25 =>
  bnd (pu h25 (bin Tryd.prog .add 3 true (nth xs 6) (.int .i64 1))) fun v26 h26 =>
  lp [(nth xs 0), (nth xs 1), (nth xs 2), (nth xs 3), (nth xs 4), v25, v26] h26))
  (some (.exit 0, [(nth xs 0), (nth xs 1), (nth xs 2), (nth xs 3), (nth xs 4), (nth xs 5), (nth xs 6)], h14))
noncomputable def alembicref4_OpenSigned.c (G : Globs) (k : Nat) (self : Den) (x0 x1 x2 x3 : AV) (h : AHeap) : Option (AV × AHeap) := outV (
  bnd (some (.sl h.length 0 0 0 1, h ++ [⟨3, 1, []⟩])) fun v0 h0 =>
  bnd (pureCall (alembicref4_ends.f G k) [x0, x1] h0) fun v1 h1 =>
  bnd (pu h1 (un .not v1)) fun v2 h2 =>
  condA v2
  (bnd (some (.sl h2.length 0 0 0 1, h2 ++ [⟨3, 1, []⟩])) fun v3 h3 =>
  finV [v3, (.int .i64 101)] h.length h3)
  (bnd (pu h2 (bin Tryd.prog .add 3 false x0 x1)) fun v4 h4 =>
  bnd (pureCall (alembicref4_Width.f G k) [v4] h4) fun v5 h5 =>
  bnd (pureCall (alembicref4_Open.f G k) [v5, x2, x3] h5) fun v6 h6 =>
  bnd (pu h6 (extractA v6 0)) fun v7 h7 =>
  bnd (pu h7 (extractA v6 1)) fun v8 h8 =>
  bnd (pu h8 (bin Tryd.prog .neq 3 true v8 (.int .i64 0))) fun v9 h9 =>
  condA v9
  (bnd (some (.sl h9.length 0 0 0 1, h9 ++ [⟨3, 1, []⟩])) fun v10 h10 =>
  finV [v10, v8] h.length h10)
  (bnd (some (.sl h9.length 0 0 0 1, h9 ++ [⟨3, 1, []⟩])) fun v11 h11 =>
  thenK (loopN (alembicref4_OpenSigned.l8 G k h11.length self) k [x0, x1, v0, (.int .i64 0), v7, v11, (.int .i64 0)] h11) fun e12 x12 h12 => exK e12
  (finV [(nth x12 5), (.int .i64 0)] h.length h12)
  (fun i12 => if i12 = 0 then (finV [(nth x12 5), (.int .i64 0)] h.length h12) else (none))
  (finV [(nth x12 2), (nth x12 3)] h.length h12))))
noncomputable def alembicref4_OpenSigned.f (G : Globs) : Nat → Den
  | 0 => fun _ _ => none
  | k + 1 => fun args h => arg4 args fun x0 x1 x2 x3 => (alembicref4_OpenSigned.c G k (alembicref4_OpenSigned.f G k) x0 x1 x2 x3 h)
theorem alembicref4_OpenSigned.step (G : Globs) (k : Nat) (x0 x1 x2 x3 : AV) (h : AHeap) : alembicref4_OpenSigned.f G (k + 1) [x0, x1, x2, x3] h = alembicref4_OpenSigned.c G k (alembicref4_OpenSigned.f G k) x0 x1 x2 x3 h := rfl
/-! alembic/alembiclaw6.PackSays: function 6 -/
noncomputable def alembiclaw6_PackSays.ann : Ann := mkAnn [] [] [] []
noncomputable def alembiclaw6_PackSays.env (G : Globs) (k : Nat) (self : Den) : List (Nat × Bool × Den) := [(8, true, alembiclaw6_first.f G k), (10, true, pack_Width.f G k), (11, true, pack_Bits.f G k), (12, false, pack_Open.f G k), (13, true, alembicref_SameInts.f G k), (14, true, alembicref_SameBytes.f G k), (15, true, alembicsee_Is.f G k), (16, true, alembicref4_Bits.f G k), (17, true, alembicref4_Open.f G k), (18, true, alembicref4_Width.f G k), (19, true, pack_Signed.f G k), (20, true, alembicref4_Signed.f G k), (21, true, pack_OpenSigned.f G k), (22, true, alembicref4_OpenSigned.f G k)]
noncomputable def alembiclaw6_PackSays.c (G : Globs) (k : Nat) (self : Den) (x0 x1 x2 x3 x4 x5 : AV) (h : AHeap) : Option (AV × AHeap) := outV (
  bnd (pureCall (alembiclaw6_first.f G k) [] h) fun v0 h0 =>
  bnd (pu h0 (un .not v0)) fun v1 h1 =>
  condA v1
  (finV [(.bool false)] h.length h1)
  (bnd (pu h1 (lenSl x4)) fun v2 h2 =>
  bnd (pu h2 (bin Tryd.prog .gtr 3 true v2 (.int .i64 300))) fun v3 h3 =>
  bnd (gd v3 false h3 (some (x5, h3))) fun v4 h4 =>
  bnd (gd v3 false h4 (pu h4 (lenSl v4))) fun v5 h5 =>
  bnd (gd v3 false h5 (pu h5 (bin Tryd.prog .gtr 3 true v5 (.int .i64 600)))) fun v6 h6 =>
  bnd (pu h6 (pickA v3 (.bool true) v6)) fun v7 h7 =>
  condA v7
  (finV [v0] h.length h7)
  (bnd (pureCall (pack_Bits.f G k) [x0, x4] h7) fun v8 h8 =>
  bnd (pu h8 (extractA v8 0)) fun v9 h9 =>
  bnd (pu h9 (extractA v8 1)) fun v10 h10 =>
  bnd (pureCall (alembicref4_Bits.f G k) [x0, x4] h10) fun v11 h11 =>
  bnd (pu h11 (extractA v11 0)) fun v12 h12 =>
  bnd (pu h12 (extractA v11 1)) fun v13 h13 =>
  bnd (heapCall (pack_Open.f G k) [x0, x1, x5] h13) fun v14 h14 =>
  bnd (pu h14 (extractA v14 0)) fun v15 h15 =>
  bnd (pu h15 (extractA v14 1)) fun v16 h16 =>
  bnd (pureCall (alembicref4_Open.f G k) [x0, x1, x5] h16) fun v17 h17 =>
  bnd (pu h17 (extractA v17 0)) fun v18 h18 =>
  bnd (pu h18 (extractA v17 1)) fun v19 h19 =>
  bnd (pureCall (alembicref_SameBytes.f G k) [v9, v12] h19) fun v20 h20 =>
  bnd (pu h20 (un .not v20)) fun v21 h21 =>
  bnd (gd v21 false h21 (some (v10, h21))) fun v22 h22 =>
  bnd (gd v21 false h22 (some (v13, h22))) fun v23 h23 =>
  bnd (gd v21 false h23 (pureCall (alembicsee_Is.f G k) [v22, v23] h23)) fun v24 h24 =>
  bnd (gd v21 false h24 (pu h24 (un .not v24))) fun v25 h25 =>
  bnd (pu h25 (pickA v21 (.bool true) v25)) fun v26 h26 =>
  bnd (gd v26 false h26 (some (v15, h26))) fun v27 h27 =>
  bnd (gd v26 false h27 (some (v18, h27))) fun v28 h28 =>
  bnd (gd v26 false h28 (pureCall (alembicref_SameInts.f G k) [v27, v28] h28)) fun v29 h29 =>
  bnd (gd v26 false h29 (pu h29 (un .not v29))) fun v30 h30 =>
  bnd (pu h30 (pickA v26 (.bool true) v30)) fun v31 h31 =>
  bnd (gd v31 false h31 (some (v16, h31))) fun v32 h32 =>
  bnd (gd v31 false h32 (some (v19, h32))) fun v33 h33 =>
  bnd (gd v31 false h33 (pureCall (alembicsee_Is.f G k) [v32, v33] h33)) fun v34 h34 =>
  bnd (gd v31 false h34 (pu h34 (un .not v34))) fun v35 h35 =>
  bnd (pu h35 (pickA v31 (.bool true) v35)) fun v36 h36 =>
  bnd (gd v36 false h36 (some (x1, h36))) fun v37 h37 =>
  bnd (gd v36 false h37 (pureCall (pack_Width.f G k) [v37] h37)) fun v38 h38 =>
  bnd (gd v36 false h38 (some (x1, h38))) fun v39 h39 =>
  bnd (gd v36 false h39 (pureCall (alembicref4_Width.f G k) [v39] h39)) fun v40 h40 =>
  bnd (gd v36 false h40 (pu h40 (bin Tryd.prog .neq 3 false v38 v40))) fun v41 h41 =>
  bnd (pu h41 (pickA v36 (.bool true) v41)) fun v42 h42 =>
  condA v42
  (finV [(.bool false)] h.length h42)
  (bnd (pureCall (pack_Signed.f G k) [x2, x3, x4] h42) fun v43 h43 =>
  bnd (pu h43 (extractA v43 0)) fun v44 h44 =>
  bnd (pu h44 (extractA v43 1)) fun v45 h45 =>
  bnd (pureCall (alembicref4_Signed.f G k) [x2, x3, x4] h45) fun v46 h46 =>
  bnd (pu h46 (extractA v46 0)) fun v47 h47 =>
  bnd (pu h47 (extractA v46 1)) fun v48 h48 =>
  bnd (pureCall (pack_OpenSigned.f G k) [x2, x3, x1, x5] h48) fun v49 h49 =>
  bnd (pu h49 (extractA v49 0)) fun v50 h50 =>
  bnd (pu h50 (extractA v49 1)) fun v51 h51 =>
  bnd (pureCall (alembicref4_OpenSigned.f G k) [x2, x3, x1, x5] h51) fun v52 h52 =>
  bnd (pu h52 (extractA v52 0)) fun v53 h53 =>
  bnd (pu h53 (extractA v52 1)) fun v54 h54 =>
  bnd (gd v0 true h54 (some (v44, h54))) fun v55 h55 =>
  bnd (gd v0 true h55 (some (v47, h55))) fun v56 h56 =>
  bnd (gd v0 true h56 (pureCall (alembicref_SameBytes.f G k) [v55, v56] h56)) fun v57 h57 =>
  bnd (pu h57 (pickA v0 v57 (.bool false))) fun v58 h58 =>
  bnd (gd v58 true h58 (some (v45, h58))) fun v59 h59 =>
  bnd (gd v58 true h59 (some (v48, h59))) fun v60 h60 =>
  bnd (gd v58 true h60 (pureCall (alembicsee_Is.f G k) [v59, v60] h60)) fun v61 h61 =>
  bnd (pu h61 (pickA v58 v61 (.bool false))) fun v62 h62 =>
  bnd (gd v62 true h62 (some (v50, h62))) fun v63 h63 =>
  bnd (gd v62 true h63 (some (v53, h63))) fun v64 h64 =>
  bnd (gd v62 true h64 (pureCall (alembicref_SameInts.f G k) [v63, v64] h64)) fun v65 h65 =>
  bnd (pu h65 (pickA v62 v65 (.bool false))) fun v66 h66 =>
  bnd (gd v66 true h66 (some (v51, h66))) fun v67 h67 =>
  bnd (gd v66 true h67 (some (v54, h67))) fun v68 h68 =>
  bnd (gd v66 true h68 (pureCall (alembicsee_Is.f G k) [v67, v68] h68)) fun v69 h69 =>
  bnd (pu h69 (pickA v66 v69 (.bool false))) fun v70 h70 =>
  finV [v70] h.length h70))))
noncomputable def alembiclaw6_PackSays.f (G : Globs) : Nat → Den
  | 0 => fun _ _ => none
  | k + 1 => fun args h => arg6 args fun x0 x1 x2 x3 x4 x5 => (alembiclaw6_PackSays.c G k (alembiclaw6_PackSays.f G k) x0 x1 x2 x3 x4 x5 h)
theorem alembiclaw6_PackSays.step (G : Globs) (k : Nat) (x0 x1 x2 x3 x4 x5 : AV) (h : AHeap) : alembiclaw6_PackSays.f G (k + 1) [x0, x1, x2, x3, x4, x5] h = alembiclaw6_PackSays.c G k (alembiclaw6_PackSays.f G k) x0 x1 x2 x3 x4 x5 h := rfl
/-! alembic/alembicworld.Number: function 9 -/
noncomputable def alembicworld_Number.ann : Ann := mkAnn [] [] [] []
noncomputable def alembicworld_Number.env (G : Globs) (k : Nat) (self : Den) : List (Nat × Bool × Den) := []
noncomputable def alembicworld_Number.c (G : Globs) (k : Nat) (self : Den) (x0 x1 : AV) (h : AHeap) : Option (AV × AHeap) := outV (
  bnd (pu h (bin Tryd.prog .rem 3 false x0 x1)) fun v0 h0 =>
  bnd (pu h0 (bin Tryd.prog .lss 3 true v0 (.int .i64 0))) fun v1 h1 =>
  condA v1
  (bnd (pu h1 (bin Tryd.prog .add 3 false v0 x1)) fun v2 h2 =>
  finV [v2] h.length h2)
  (finV [v0] h.length h1))
noncomputable def alembicworld_Number.f (G : Globs) : Nat → Den
  | 0 => fun _ _ => none
  | k + 1 => fun args h => arg2 args fun x0 x1 => (alembicworld_Number.c G k (alembicworld_Number.f G k) x0 x1 h)
theorem alembicworld_Number.step (G : Globs) (k : Nat) (x0 x1 : AV) (h : AHeap) : alembicworld_Number.f G (k + 1) [x0, x1] h = alembicworld_Number.c G k (alembicworld_Number.f G k) x0 x1 h := rfl
/-! alembic/alembiclaw6.PackSigned: function 7 -/
noncomputable def alembiclaw6_PackSigned.ann : Ann := mkAnn [83] [8] [(10, [0, 1, 2, 7, 8, 9])] []
noncomputable def alembiclaw6_PackSigned.env (G : Globs) (k : Nat) (self : Den) : List (Nat × Bool × Den) := [(8, true, alembiclaw6_first.f G k), (9, true, alembicworld_Number.f G k), (10, true, pack_Width.f G k), (13, true, alembicref_SameInts.f G k), (15, true, alembicsee_Is.f G k), (19, true, pack_Signed.f G k), (21, true, pack_OpenSigned.f G k)]
noncomputable def alembiclaw6_PackSigned.l10 (G : Globs) (k n0 : Nat) (self : Den) (lp : LoopF) : LoopF := fun xs h0 => cutK n0 xs h0 fun h =>
  bnd (pu h (lenSl (nth xs 2))) fun v9 h9 =>
  bnd (pu h9 (bin Tryd.prog .quo 3 true v9 (.int .i64 8))) fun v10 h10 =>
  bnd (pu h10 (bin Tryd.prog .mul 3 true v10 (.int .i64 8))) fun v11 h11 =>
  bnd (pu h11 (bin Tryd.prog .lss 3 false (nth xs 5) v11)) fun v12 h12 =>
  condA v12
  (bnd (pu h12 (idxAddrSl 1 (nth xs 2) (nth xs 5))) fun v13 h13 =>
  bnd (pu h13 (loadV G false 1 v13 h13)) fun v14 h14 =>
  bnd (pu h14 (bin Tryd.prog .add 3 false (nth xs 0) (nth xs 1))) fun v15 h15 =>
  bnd (pu h15 (bin Tryd.prog .add 3 true v15 (.int .i64 1))) fun v16 h16 =>
  bnd (pureCall (alembicworld_Number.f G k) [v14, v16] h16) fun v17 h17 =>
  bnd (pu h17 (bin Tryd.prog .sub 3 false v17 (nth xs 0))) fun v18 h18 =>
  bnd (buildRo 1 1 (.int .i64 0) [(0, v18)] h18) fun v19 h19 =>
  bnd (appendV 3 1 (nth xs 4) v19 h19) fun v20 h20 =>
  bnd (pu h20 (bin Tryd.prog .add 3 true (nth xs 5) (.int .i64 1))) fun v21 h21 =>
  lp [(nth xs 0), (nth xs 1), (nth xs 2), (nth xs 3), v20, v21] h21)
  (some (.exit 0, [(nth xs 0), (nth xs 1), (nth xs 2), (nth xs 3), (nth xs 4), (nth xs 5)], h12))
noncomputable def alembiclaw6_PackSigned.c (G : Globs) (k : Nat) (self : Den) (x0 x1 x2 : AV) (h : AHeap) : Option (AV × AHeap) := outV (
  bnd (pureCall (alembiclaw6_first.f G k) [] h) fun v0 h0 =>
  bnd (pu h0 (un .not v0)) fun v1 h1 =>
  condA v1
  (finV [(.bool false)] h.length h1)
  (bnd (pu h1 (lenSl x2)) fun v2 h2 =>
  bnd (pu h2 (bin Tryd.prog .gtr 3 true v2 (.int .i64 200))) fun v3 h3 =>
  condA v3
  (finV [v0] h.length h3)
  (bnd (pureCall (alembicworld_Number.f G k) [x0, (.int .i64 5000)] h3) fun v4 h4 =>
  bnd (pureCall (alembicworld_Number.f G k) [x1, (.int .i64 5000)] h4) fun v5 h5 =>
  bnd (pu h5 (bin Tryd.prog .add 3 true v5 (.int .i64 1))) fun v6 h6 =>
  bnd (some (.sl h6.length 0 0 0 1, h6 ++ [⟨3, 1, []⟩])) fun v7 h7 =>
  thenK (loopN (alembiclaw6_PackSigned.l10 G k h7.length self) k [v4, v6, x2, v0, v7, (.int .i64 0)] h7) fun e8 x8 h8 => exK e8
  (bnd (pureCall (pack_Signed.f G k) [(nth x8 0), (nth x8 1), (nth x8 4)] h8) fun v22 h22 =>
  bnd (pu h22 (extractA v22 0)) fun v23 h23 =>
  bnd (pu h23 (extractA v22 1)) fun v24 h24 =>
  bnd (pu h24 (lenSl (nth x8 4))) fun v25 h25 =>
  bnd (pureCall (pack_OpenSigned.f G k) [(nth x8 0), (nth x8 1), v25, v23] h25) fun v26 h26 =>
  bnd (pu h26 (extractA v26 0)) fun v27 h27 =>
  bnd (pu h27 (extractA v26 1)) fun v28 h28 =>
  bnd (pu h28 (un .neg (nth x8 0))) fun v29 h29 =>
  bnd (pu h29 (un .neg (nth x8 0))) fun v30 h30 =>
  bnd (pu h30 (un .neg (nth x8 0))) fun v31 h31 =>
  bnd (pu h31 (un .neg (nth x8 0))) fun v32 h32 =>
  bnd (buildOwn 3 1 8 (.int .i64 0) [(0, v29), (1, (nth x8 1)), (2, v30), (3, (nth x8 1)), (4, v31), (5, (nth x8 1)), (6, v32), (7, (nth x8 1))] h32) fun v33 h33 =>
  bnd (pureCall (pack_Signed.f G k) [(nth x8 0), (nth x8 1), v33] h33) fun v34 h34 =>
  bnd (pu h34 (extractA v34 0)) fun v35 h35 =>
  bnd (pu h35 (extractA v34 1)) fun v36 h36 =>
  bnd (pu h36 (bin Tryd.prog .add 3 true (nth x8 1) (.int .i64 1))) fun v37 h37 =>
  bnd (pu h37 (idxAddrSl 1 v33 (.int .i64 3))) fun v38 h38 =>
  bnd (stS (storeV 1 v38 v37 h38)) fun v39 h39 =>
  bnd (pureCall (pack_Signed.f G k) [(nth x8 0), (nth x8 1), v33] h39) fun v40 h40 =>
  bnd (pu h40 (extractA v40 0)) fun v41 h41 =>
  bnd (pu h41 (extractA v40 1)) fun v42 h42 =>
  bnd (pu h42 (un .neg (nth x8 0))) fun v43 h43 =>
  bnd (pu h43 (bin Tryd.prog .sub 3 true v43 (.int .i64 1))) fun v44 h44 =>
  bnd (pu h44 (idxAddrSl 1 v33 (.int .i64 3))) fun v45 h45 =>
  bnd (stS (storeV 1 v45 v44 h45)) fun v46 h46 =>
  bnd (pureCall (pack_Signed.f G k) [(nth x8 0), (nth x8 1), v33] h46) fun v47 h47 =>
  bnd (pu h47 (extractA v47 0)) fun v48 h48 =>
  bnd (pu h48 (extractA v47 1)) fun v49 h49 =>
  bnd (gd (nth x8 3) true h49 (some (v24, h49))) fun v50 h50 =>
  bnd (gd (nth x8 3) true h50 (pu h50 (bin Tryd.prog .eql 30 true v50 .nili))) fun v51 h51 =>
  bnd (pu h51 (pickA (nth x8 3) v51 (.bool false))) fun v52 h52 =>
  bnd (gd v52 true h52 (some (v28, h52))) fun v53 h53 =>
  bnd (gd v52 true h53 (pu h53 (bin Tryd.prog .eql 30 true v53 .nili))) fun v54 h54 =>
  bnd (pu h54 (pickA v52 v54 (.bool false))) fun v55 h55 =>
  bnd (gd v55 true h55 (some (v27, h55))) fun v56 h56 =>
  bnd (gd v55 true h56 (some ((nth x8 4), h56))) fun v57 h57 =>
  bnd (gd v55 true h57 (pureCall (alembicref_SameInts.f G k) [v56, v57] h57)) fun v58 h58 =>
  bnd (pu h58 (pickA v55 v58 (.bool false))) fun v59 h59 =>
  bnd (gd v59 true h59 (some (v23, h59))) fun v60 h60 =>
  bnd (gd v59 true h60 (pu h60 (lenSl v60))) fun v61 h61 =>
  bnd (gd v59 true h61 (some ((nth x8 0), h61))) fun v62 h62 =>
  bnd (gd v59 true h62 (some ((nth x8 1), h62))) fun v63 h63 =>
  bnd (gd v59 true h63 (pu h63 (bin Tryd.prog .add 3 false v62 v63))) fun v64 h64 =>
  bnd (gd v59 true h64 (pureCall (pack_Width.f G k) [v64] h64)) fun v65 h65 =>
  bnd (gd v59 true h65 (some ((nth x8 4), h65))) fun v66 h66 =>
  bnd (gd v59 true h66 (pu h66 (lenSl v66))) fun v67 h67 =>
  bnd (gd v59 true h67 (pu h67 (bin Tryd.prog .mul 3 false v65 v67))) fun v68 h68 =>
  bnd (gd v59 true h68 (pu h68 (bin Tryd.prog .quo 3 true v68 (.int .i64 8)))) fun v69 h69 =>
  bnd (gd v59 true h69 (pu h69 (bin Tryd.prog .eql 3 false v61 v69))) fun v70 h70 =>
  bnd (pu h70 (pickA v59 v70 (.bool false))) fun v71 h71 =>
  bnd (gd v71 true h71 (some (v36, h71))) fun v72 h72 =>
  bnd (gd v71 true h72 (pu h72 (bin Tryd.prog .eql 30 true v72 .nili))) fun v73 h73 =>
  bnd (pu h73 (pickA v71 v73 (.bool false))) fun v74 h74 =>
  bnd (gd v74 true h74 (some (v42, h74))) fun v75 h75 =>
  bnd (gd v74 true h75 (pureCall (alembicsee_Is.f G k) [v75, (.int .i64 101)] h75)) fun v76 h76 =>
  bnd (pu h76 (pickA v74 v76 (.bool false))) fun v77 h77 =>
  bnd (gd v77 true h77 (some (v49, h77))) fun v78 h78 =>
  bnd (gd v77 true h78 (pureCall (alembicsee_Is.f G k) [v78, (.int .i64 101)] h78)) fun v79 h79 =>
  bnd (pu h79 (pickA v77 v79 (.bool false))) fun v80 h80 =>
  finV [v80] h.length h80)
  (fun i8 => if i8 = 0 then (bnd (pureCall (pack_Signed.f G k) [(nth x8 0), (nth x8 1), (nth x8 4)] h8) fun v81 h81 =>
  bnd (pu h81 (extractA v81 0)) fun v82 h82 =>
  bnd (pu h82 (extractA v81 1)) fun v83 h83 =>
  bnd (pu h83 (lenSl (nth x8 4))) fun v84 h84 =>
  bnd (pureCall (pack_OpenSigned.f G k) [(nth x8 0), (nth x8 1), v84, v82] h84) fun v85 h85 =>
  bnd (pu h85 (extractA v85 0)) fun v86 h86 =>
  bnd (pu h86 (extractA v85 1)) fun v87 h87 =>
  bnd (pu h87 (un .neg (nth x8 0))) fun v88 h88 =>
  bnd (pu h88 (un .neg (nth x8 0))) fun v89 h89 =>
  bnd (pu h89 (un .neg (nth x8 0))) fun v90 h90 =>
  bnd (pu h90 (un .neg (nth x8 0))) fun v91 h91 =>
  bnd (buildOwn 3 1 8 (.int .i64 0) [(0, v88), (1, (nth x8 1)), (2, v89), (3, (nth x8 1)), (4, v90), (5, (nth x8 1)), (6, v91), (7, (nth x8 1))] h91) fun v92 h92 =>
  bnd (pureCall (pack_Signed.f G k) [(nth x8 0), (nth x8 1), v92] h92) fun v93 h93 =>
  bnd (pu h93 (extractA v93 0)) fun v94 h94 =>
  bnd (pu h94 (extractA v93 1)) fun v95 h95 =>
  bnd (pu h95 (bin Tryd.prog .add 3 true (nth x8 1) (.int .i64 1))) fun v96 h96 =>
  bnd (pu h96 (idxAddrSl 1 v92 (.int .i64 3))) fun v97 h97 =>
  bnd (stS (storeV 1 v97 v96 h97)) fun v98 h98 =>
  bnd (pureCall (pack_Signed.f G k) [(nth x8 0), (nth x8 1), v92] h98) fun v99 h99 =>
  bnd (pu h99 (extractA v99 0)) fun v100 h100 =>
  bnd (pu h100 (extractA v99 1)) fun v101 h101 =>
  bnd (pu h101 (un .neg (nth x8 0))) fun v102 h102 =>
  bnd (pu h102 (bin Tryd.prog .sub 3 true v102 (.int .i64 1))) fun v103 h103 =>
  bnd (pu h103 (idxAddrSl 1 v92 (.int .i64 3))) fun v104 h104 =>
  bnd (stS (storeV 1 v104 v103 h104)) fun v105 h105 =>
  bnd (pureCall (pack_Signed.f G k) [(nth x8 0), (nth x8 1), v92] h105) fun v106 h106 =>
  bnd (pu h106 (extractA v106 0)) fun v107 h107 =>
  bnd (pu h107 (extractA v106 1)) fun v108 h108 =>
  bnd (gd (nth x8 3) true h108 (some (v83, h108))) fun v109 h109 =>
  bnd (gd (nth x8 3) true h109 (pu h109 (bin Tryd.prog .eql 30 true v109 .nili))) fun v110 h110 =>
  bnd (pu h110 (pickA (nth x8 3) v110 (.bool false))) fun v111 h111 =>
  bnd (gd v111 true h111 (some (v87, h111))) fun v112 h112 =>
  bnd (gd v111 true h112 (pu h112 (bin Tryd.prog .eql 30 true v112 .nili))) fun v113 h113 =>
  bnd (pu h113 (pickA v111 v113 (.bool false))) fun v114 h114 =>
  bnd (gd v114 true h114 (some (v86, h114))) fun v115 h115 =>
  bnd (gd v114 true h115 (some ((nth x8 4), h115))) fun v116 h116 =>
  bnd (gd v114 true h116 (pureCall (alembicref_SameInts.f G k) [v115, v116] h116)) fun v117 h117 =>
  bnd (pu h117 (pickA v114 v117 (.bool false))) fun v118 h118 =>
  bnd (gd v118 true h118 (some (v82, h118))) fun v119 h119 =>
  bnd (gd v118 true h119 (pu h119 (lenSl v119))) fun v120 h120 =>
  bnd (gd v118 true h120 (some ((nth x8 0), h120))) fun v121 h121 =>
  bnd (gd v118 true h121 (some ((nth x8 1), h121))) fun v122 h122 =>
  bnd (gd v118 true h122 (pu h122 (bin Tryd.prog .add 3 false v121 v122))) fun v123 h123 =>
  bnd (gd v118 true h123 (pureCall (pack_Width.f G k) [v123] h123)) fun v124 h124 =>
  bnd (gd v118 true h124 (some ((nth x8 4), h124))) fun v125 h125 =>
  bnd (gd v118 true h125 (pu h125 (lenSl v125))) fun v126 h126 =>
  bnd (gd v118 true h126 (pu h126 (bin Tryd.prog .mul 3 false v124 v126))) fun v127 h127 =>
  bnd (gd v118 true h127 (pu h127 (bin Tryd.prog .quo 3 true v127 (.int .i64 8)))) fun v128 h128 =>
  bnd (gd v118 true h128 (pu h128 (bin Tryd.prog .eql 3 false v120 v128))) fun v129 h129 =>
  bnd (pu h129 (pickA v118 v129 (.bool false))) fun v130 h130 =>
  bnd (gd v130 true h130 (some (v95, h130))) fun v131 h131 =>
  bnd (gd v130 true h131 (pu h131 (bin Tryd.prog .eql 30 true v131 .nili))) fun v132 h132 =>
  bnd (pu h132 (pickA v130 v132 (.bool false))) fun v133 h133 =>
  bnd (gd v133 true h133 (some (v101, h133))) fun v134 h134 =>
  bnd (gd v133 true h134 (pureCall (alembicsee_Is.f G k) [v134, (.int .i64 101)] h134)) fun v135 h135 =>
  bnd (pu h135 (pickA v133 v135 (.bool false))) fun v136 h136 =>
  bnd (gd v136 true h136 (some (v108, h136))) fun v137 h137 =>
  bnd (gd v136 true h137 (pureCall (alembicsee_Is.f G k) [v137, (.int .i64 101)] h137)) fun v138 h138 =>
  bnd (pu h138 (pickA v136 v138 (.bool false))) fun v139 h139 =>
  finV [v139] h.length h139) else (none))
  (finV [.undef] h.length h8))))
noncomputable def alembiclaw6_PackSigned.f (G : Globs) : Nat → Den
  | 0 => fun _ _ => none
  | k + 1 => fun args h => arg3 args fun x0 x1 x2 => (alembiclaw6_PackSigned.c G k (alembiclaw6_PackSigned.f G k) x0 x1 x2 h)
theorem alembiclaw6_PackSigned.step (G : Globs) (k : Nat) (x0 x1 x2 : AV) (h : AHeap) : alembiclaw6_PackSigned.f G (k + 1) [x0, x1, x2] h = alembiclaw6_PackSigned.c G k (alembiclaw6_PackSigned.f G k) x0 x1 x2 h := rfl
end Go.Proofs.YtemkaggjbhpbbaaDoor.Mir
