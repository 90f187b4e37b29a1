/- Part 4 of the proof: the evaluator and its soundness. -/
import Derived.Test.YtdfglgnflldkpaaDoorVf3
namespace Go.Proofs.YtdfglgnflldkpaaDoor.Mir
open Go
set_option linter.unusedSimpArgs false
set_option linter.unusedVariables false
abbrev KK := Ex → List AV → aF → Option fZ
def E {γ : Type} (f : Option fZ → Option γ) (ks : List KK) (m : Option fZ) (r : Option γ) : Prop := f (ks.foldl eM m) = r
section
variable {γ : Type} {f : Option fZ → Option γ} {ks : List KK} {r : Option γ}
theorem eO {m : Option fZ} (h : E f [] m r) : f m = r := h
theorem jQ {m r : Option fZ} (h : E (fun x => x) [] m r) : m = r := h
theorem gY {m : Option fZ} (h : f m = r) : E f [] m r := h
theorem eB {m : Option (AV × aF)} {k : AV → aF → Option fZ} {v : AV} {H : aF} (h : m = some (v, H)) (h2 : E f ks (k v H) r) : E f ks (aB m k) r := by rw [h]; exact h2
theorem eR {m m' : Option (AV × aF)} {k : AV → aF → Option fZ} (h : m = m') (h2 : E f ks (aB m' k) r) : E f ks (aB m k) r := by rw [h]; exact h2
theorem eT {a b : Option fZ} (h : E f ks a r) : E f ks (aK (.bool true) a b) r := h
theorem eN {a b : Option fZ} (h : E f ks b r) : E f ks (aK (.bool false) a b) r := h
theorem sO {H : aF} {m : Option (AV × aF)} {k : AV → aF → Option fZ} (h : E f ks (aB m k) r) : E f ks (aB (gd (.bool true) true H m) k) r := by rw [aDq]; exact h
theorem sI {H : aF} {m : Option (AV × aF)} {k : AV → aF → Option fZ} (h : E f ks (aB m k) r) : E f ks (aB (gd (.bool false) false H m) k) r := by rw [aDm]; exact h
theorem sN {H : aF} {m : Option (AV × aF)} {k : AV → aF → Option fZ} (h : E f ks (k (.tup []) H) r) : E f ks (aB (gd (.bool true) false H m) k) r := by rw [aDp]; exact h
theorem sJ {H : aF} {m : Option (AV × aF)} {k : AV → aF → Option fZ} (h : E f ks (k (.tup []) H) r) : E f ks (aB (gd (.bool false) true H m) k) r := by rw [aDn]; exact h
theorem sK {H : aF} {w : Bool} {m : Option (AV × aF)} {k : AV → aF → Option fZ} (h : E f ks (k (.tup []) H) r) : E f ks (aB (gd (.tup []) w H m) k) r := by rw [aDo]; exact h
theorem eCn {xs : List AV} {i : Nat} {c : AV} {a b : Option fZ} (hc : aI xs i = c) (h : E f ks (aK c a b) r) : E f ks (aK (aI xs i) a b) r := by rw [hc]; exact h
theorem nY {b : Bool} {x y : Option fZ} (h1 : b = true → E f ks x r) (h2 : b = false → E f ks y r) : E f ks (aK (.bool b) x y) r := by
 cases b
 ·exact h2 rfl
 ·exact h1 rfl
theorem eK {m : Option fZ} {k : KK} (h : E f (k :: ks) m r) : E f ks (eM m k) r := h
theorem eS {k : KK} {e : Ex} {xs : List AV} {H : aF} (h : E f ks (k e xs H) r) : E f (k :: ks) (some (e, xs, H)) r := h
theorem eL {m : Option fZ} {o : fZ} (h : m = some o) (h2 : E f ks (some o) r) : E f ks m r := by rw [h]; exact h2
theorem eX {a : Option fZ} {b : Nat → Option fZ} {r0 : Option fZ} {i : Nat} (h : E f ks (b i) r) : E f ks (jJ (.exit i) a b r0) r := h
theorem eXn {a : Option fZ} {b : Nat → Option fZ} {r0 : Option fZ} (h : E f ks a r) : E f ks (jJ .normal a b r0) r := h
theorem eXr {a : Option fZ} {b : Nat → Option fZ} {r0 : Option fZ} (h : E f ks r0 r) : E f ks (jJ .ret a b r0) r := h
theorem eI {i : Nat} {a b : Option fZ} (h : E f ks a r) : E f ks (if i = i then a else b) r := by rw [if_pos rfl]; exact h
theorem eJ {i j : Nat} {a b : Option fZ} (hij : (i == j) = false) (h : E f ks b r) : E f ks (if i = j then a else b) r := by rw [if_neg (by simpa using hij)]; exact h
theorem eC {n : Nat} {xs : List AV} {H H' : aF} {k : aF → Option fZ} (h : iL n xs H = some H') (h2 : E f ks (k H') r) : E f ks (qS n xs H k) r := by unfold qS; rw [h]; exact h2
theorem sL {m : Option fZ} (h : E f ks m r) : E f ks (grd [] m) r := h
theorem sM {a b : AV} {l : List (AV × AV)} {m : Option fZ} (h : nP a b = true) (h2 : E f ks (grd l m) r) : E f ks (grd ((a, b) :: l) m) r := by unfold grd; rw [h]; exact h2
theorem eV0 {H : aF} {k : aF → Option fZ} (h2 : E f ks (k H) r) : E f ks (vK [] H k) r := by rw [aNc]; exact h2
theorem eV1 {q : AV × Nat × Nat × Nat} {l : List (AV × Nat × Nat × Nat)} {H H1 : aF} {k : aF → Option fZ} (h : oL q H = H1) (h2 : E f ks (vK l H1 k) r) : E f ks (vK (q :: l) H k) r := by rw [aKN, h]; exact h2
variable {P : Program} {t : Nat} {c : Bool} {k : IntKind} {a b : Int} {H : aF} {K : AV → aF → Option fZ}
theorem tG (h1 : a = b → E f ks (K (.bool true) H) r) (h2 : a ≠ b → E f ks (K (.bool false) H) r) : E f ks (aB (pu H (aQ P .eql t c (.int k a) (.int k b))) K) r := by
 rw [jV]; by_cases h : a = b
 ·rw [decide_eq_true h]; exact h1 h
 ·rw [decide_eq_false h]; exact h2 h
theorem tL (h1 : a ≠ b → E f ks (K (.bool true) H) r) (h2 : a = b → E f ks (K (.bool false) H) r) : E f ks (aB (pu H (aQ P .neq t c (.int k a) (.int k b))) K) r := by
 rw [tY]; by_cases h : a ≠ b
 ·rw [decide_eq_true h]; exact h1 h
 ·rw [decide_eq_false h]; exact h2 (Classical.not_not.1 h)
theorem tK (h1 : a < b → E f ks (K (.bool true) H) r) (h2 : b ≤ a → E f ks (K (.bool false) H) r) : E f ks (aB (pu H (aQ P .lss t c (.int k a) (.int k b))) K) r := by
 rw [kU]; by_cases h : a < b
 ·rw [decide_eq_true h]; exact h1 h
 ·rw [decide_eq_false h]; exact h2 (by omega)
theorem tJ (h1 : a ≤ b → E f ks (K (.bool true) H) r) (h2 : b < a → E f ks (K (.bool false) H) r) : E f ks (aB (pu H (aQ P .leq t c (.int k a) (.int k b))) K) r := by
 rw [aBT]; by_cases h : a ≤ b
 ·rw [decide_eq_true h]; exact h1 h
 ·rw [decide_eq_false h]; exact h2 (by omega)
theorem tI (h1 : b < a → E f ks (K (.bool true) H) r) (h2 : a ≤ b → E f ks (K (.bool false) H) r) : E f ks (aB (pu H (aQ P .gtr t c (.int k a) (.int k b))) K) r := by
 rw [aBS]; by_cases h : b < a
 ·rw [decide_eq_true h]; exact h1 h
 ·rw [decide_eq_false h]; exact h2 (by omega)
theorem tH (h1 : b ≤ a → E f ks (K (.bool true) H) r) (h2 : a < b → E f ks (K (.bool false) H) r) : E f ks (aB (pu H (aQ P .geq t c (.int k a) (.int k b))) K) r := by
 rw [lV]; by_cases h : b ≤ a
 ·rw [decide_eq_true h]; exact h1 h
 ·rw [decide_eq_false h]; exact h2 (by omega)
theorem tM {g : Bool} (h1 : g = true → E f ks (K (.bool false) H) r) (h2 : g = false → E f ks (K (.bool true) H) r) : E f ks (aB (pu H (un .not (.bool g))) K) r := by
 rw [aAC]
 cases g
 ·exact h2 rfl
 ·exact h1 rfl
theorem oG {g : Bool} {x y : AV} (h1 : g = true → E f ks (K x H) r) (h2 : g = false → E f ks (K y H) r) : E f ks (aB (pu H (dJ (.bool g) x y)) K) r := by
 cases g
 ·exact h2 rfl
 ·exact h1 rfl
theorem sGd {g : Bool} {w : Bool} {m : Option (AV × aF)} (h1 : g = true → E f ks (aB (gd (.bool true) w H m) K) r) (h2 : g = false → E f ks (aB (gd (.bool false) w H m) K) r) : E f ks (aB (gd (.bool g) w H m) K) r := by
 cases g
 ·exact h2 rfl
 ·exact h1 rfl
end
section
variable {P : Program} {t : Nat} {c : Bool} {k : IntKind} {a b : Int}
theorem qE (h : a = b) : aQ P .eql t c (.int k a) (.int k b) = some (.bool true) := by rw [jV, decide_eq_true h]
theorem pB (h : a ≠ b) : aQ P .eql t c (.int k a) (.int k b) = some (.bool false) := by rw [jV, decide_eq_false h]
theorem sD (h : a ≠ b) : aQ P .neq t c (.int k a) (.int k b) = some (.bool true) := by rw [tY, decide_eq_true h]
theorem vG (h : a = b) : aQ P .neq t c (.int k a) (.int k b) = some (.bool false) := by rw [tY, decide_eq_false (fun h' => h' h)]
theorem rZ (h : a < b) : aQ P .lss t c (.int k a) (.int k b) = some (.bool true) := by rw [kU, decide_eq_true h]
theorem yR (h : b ≤ a) : aQ P .lss t c (.int k a) (.int k b) = some (.bool false) := by rw [kU, decide_eq_false (by omega)]
theorem vF (h : a ≤ b) : aQ P .leq t c (.int k a) (.int k b) = some (.bool true) := by rw [aBT, decide_eq_true h]
theorem yQ (h : b < a) : aQ P .leq t c (.int k a) (.int k b) = some (.bool false) := by rw [aBT, decide_eq_false (by omega)]
theorem aCw (h : b < a) : aQ P .gtr t c (.int k a) (.int k b) = some (.bool true) := by rw [aBS, decide_eq_true h]
theorem vE (h : a ≤ b) : aQ P .gtr t c (.int k a) (.int k b) = some (.bool false) := by rw [aBS, decide_eq_false (by omega)]
theorem aCv (h : b ≤ a) : aQ P .geq t c (.int k a) (.int k b) = some (.bool true) := by rw [lV, decide_eq_true h]
theorem vD (h : a < b) : aQ P .geq t c (.int k a) (.int k b) = some (.bool false) := by rw [lV, decide_eq_false (by omega)]
theorem aDP (h0 : -9223372036854775808 ≤ a + b) (h1 : a + b < 9223372036854775808) : aQ P .add t c (.int .i64 a) (.int .i64 b) = some (.int .i64 (a + b)) := by rw [kA, fP h0 h1]
theorem aIB (h0 : -9223372036854775808 ≤ a - b) (h1 : a - b < 9223372036854775808) : aQ P .sub t c (.int .i64 a) (.int .i64 b) = some (.int .i64 (a - b)) := by rw [yJ, fP h0 h1]
theorem aIi (h0 : 0 ≤ a + b) (h1 : a + b < 18446744073709551616) : aQ P .add t c (.int .u64 a) (.int .u64 b) = some (.int .u64 (a + b)) := by rw [kA, fA h0 h1]
theorem aIm (h0 : -9223372036854775808 ≤ a) (h1 : a < 9223372036854775808) : aJ .i64 (.int k a) = some (.int .i64 a) := by rw [eW, fP h0 h1]
theorem aLw (h0 : 0 ≤ a) (h1 : a < 18446744073709551616) : aJ .u64 (.int k a) = some (.int .u64 a) := by rw [eW, fA h0 h1]
theorem aLv (h0 : 0 ≤ a) (h1 : a < 256) : aJ .u8 (.int k a) = some (.int .u8 a) := by rw [eW, aFs h0 h1]
theorem bD (h0 : 0 ≤ a) (h1 : a < 4294967296) : aJ .u32 (.int k a) = some (.int .u32 a) := by rw [eW, nF h0 h1]
theorem rY {s bl L o m : Nat} (h0 : 0 ≤ a) (h1 : a < (m : Int)) : cF s (.sl bl L o m s) (.int k a) = some (.ptr bl L (o + a.toNat) 0) := by simp [cF, h0, h1]
theorem aGf {bor : Bool} {xs : List AV} : dH (.ro bor xs) = some (.int .i64 (xs.length : Int)) := by unfold dH; rfl
theorem aGg {bl L o m s : Nat} : dH (.sl bl L o m s) = some (.int .i64 (m : Int)) := by unfold dH; rfl
theorem aDR : dH .nils = some (.int .i64 0) := by unfold dH; rfl
theorem aIw {bl L i o : Nat} : kZ (.ptr bl L i o) = some (.ptr bl L i o) := by unfold kZ; rfl
theorem aGj {bor : Bool} {x : AV} {o : Nat} : kZ (.rp bor x o) = some (.rp bor x o) := by unfold kZ; rfl
theorem aGh {g : Nat} {caps : List AV} : kZ (.fn g caps) = some (.fn g caps) := by unfold kZ; rfl
theorem aGi {g : Nat} : kZ (.gl g) = some (.gl g) := by unfold kZ; rfl
theorem aLx {off bl L i o : Nat} : aA off (.ptr bl L i o) = some (.ptr bl L i (o + off)) := by unfold aA; rfl
theorem aIq {off : Nat} {bor : Bool} {x : AV} {o : Nat} : aA off (.rp bor x o) = some (.rp bor x (o + off)) := by unfold aA; rfl
theorem aET {G : aG} {s : Nat} {bor : Bool} {cs : List AV} {o : Nat} {H : aF} : aC G false s (.rp bor (.agg cs) o) H = cs[o]? := by unfold aC mA; rfl
theorem aDQ {cs : List AV} {H : aF} : dP (.agg cs) H = some (.rp false (.agg cs) 0, H) := by unfold dP; rfl
theorem aIn {u : AV} {l : List AV} : cU (.tup (u :: l)) 0 = some u := by unfold cU; rfl
theorem aIo {u v : AV} {l : List AV} : cU (.tup (u :: v :: l)) 1 = some v := by unfold cU; rfl
theorem aIp {u v w : AV} {l : List AV} : cU (.tup (u :: v :: w :: l)) 2 = some w := by unfold cU; rfl
theorem aIy : un .not (.bool true) = some (.bool false) := by rw [aAC]; rfl
theorem aIx : un .not (.bool false) = some (.bool true) := by rw [aAC]; rfl
theorem aLA {H : aF} : fB (some H) = some (.tup [], H) := by unfold fB; rfl
end
section
variable {G : aG} {g : Bool} {s b L i o t z : Nat} {cs : List AV} {blk : ABlk} {H : aF} {v x : AV}
def ldB (g : Bool) (s L i o : Nat) (blk : ABlk) : Option AV := if blk.elems.length = L then (match blk.elems[i]? with | some x => mA g s x.cells o | none => none) else none
def stB (s L i o : Nat) (v : AV) (blk : ABlk) : Option ABlk := if blk.elems.length = L ∧ fH v = true ∧ v.cells.length = s then
    (match blk.elems[i]? with
     | some x => if o + s ≤ x.cells.length then some { blk with elems := blk.elems.set i (rI x (jP x.cells o v.cells)) } else none
     | none => none) else none
theorem aIu : aC G g s (.ptr 0 L i o) (blk :: H) = ldB g s L i o blk := by unfold aC ldB; rfl
theorem aIv : aC G g s (.ptr (b + 1) L i o) (blk :: H) = aC G g s (.ptr b L i o) H := by unfold aC; rfl
theorem aLy : ldB false s 1 0 o ⟨t, z, [.agg cs]⟩ = cs[o]? := by unfold ldB mA; rfl
theorem aIr : ldB true s 1 0 o ⟨t, z, [.agg cs]⟩ = if o + s ≤ cs.length then some (.agg ((cs.drop o).take s)) else none := by unfold ldB mA; rfl
theorem jK {bor : Bool} : aC G true s (.rp bor (.agg cs) o) H = if o + s ≤ cs.length then some (.agg ((cs.drop o).take s)) else none := by unfold aC mA; rfl
theorem aIt {k : IntKind} {n : Int} : ldB false s 1 0 0 ⟨t, z, [.int k n]⟩ = some (.int k n) := by unfold ldB mA; rfl
theorem aIs {c : Bool} : ldB false s 1 0 0 ⟨t, z, [.bool c]⟩ = some (.bool c) := by unfold ldB mA; rfl
theorem aIz : aN s (.ptr 0 L i o) v (blk :: H) = (stB s L i o v blk).map (· :: H) := by
 unfold aN stB
 simp only [List.getElem?_cons_zero]
 split
 ·cases blk.elems[i]? with
  | none => rfl
  | some x => simp only; split <;> rfl
 ·rfl
theorem aIA : aN s (.ptr (b + 1) L i o) v (blk :: H) = (aN s (.ptr b L i o) v H).map (blk :: ·) := by
 unfold aN
 simp only [List.getElem?_cons_succ]
 cases H[b]? with
 | none => rfl
 | some y =>
  simp only
  split
  ·cases y.elems[i]? with
   | none => rfl
   | some x => simp only; split <;> rfl
  ·rfl
theorem aLz : stB s 1 0 o v ⟨t, z, [.agg cs]⟩ = if fH v = true ∧ v.cells.length = s ∧ o + s ≤ cs.length then some ⟨t, z, [.agg (jP cs o v.cells)]⟩ else none := by
 have e : (AV.agg cs).cells = cs := rfl
 unfold stB
 by_cases h1 : fH v = true ∧ v.cells.length = s
 ·by_cases h2 : o + s ≤ cs.length <;> simp [e, h1, h2, rI]
 ·have h3 : ¬ (fH v = true ∧ v.cells.length = s ∧ o + s ≤ cs.length) := fun h => h1 ⟨h.1, h.2.1⟩
  rw [if_neg h3, if_neg (fun h => h1 h.2)]
theorem aIj : fF t (.agg (x :: cs)) H = some (.ptr H.length 1 0 0, H ++ [⟨t, cs.length + 1, [.agg (x :: cs)]⟩]) := by
 unfold fF; simp [fH, AV.cells]
theorem aIl {k : IntKind} {n : Int} : fF t (.int k n) H = some (.ptr H.length 1 0 0, H ++ [⟨t, 1, [.int k n]⟩]) := by unfold fF; rfl
theorem aIk {c : Bool} : fF t (.bool c) H = some (.ptr H.length 1 0 0, H ++ [⟨t, 1, [.bool c]⟩]) := by unfold fF; rfl
end
theorem w1 {x x' : AV} {H : aF} (h : cG 0 x = true) (e : x = x') : E gA [] (bQ [x] 0 H) (some (x', [])) := by subst e; exact oF (mL h H)
theorem w2 {x y r : AV} {H : aF} (hx : cG 0 x = true) (hy : cG 0 y = true) (e : AV.tup [x, y] = r) : E gA [] (bQ [x, y] 0 H) (some (r, [])) := by subst e; exact oF (zP hx hy H)
theorem tP {k : IntKind} {n n' : Int} {H : aF} (e : n = n') : E gA [] (bQ [.int k n] 0 H) (some (.int k n', [])) := w1 rfl (by rw [e])
theorem qT {b b' : Bool} {H : aF} (e : b = b') : E gA [] (bQ [.bool b] 0 H) (some (.bool b', [])) := w1 rfl (by rw [e])
theorem nN {k : IntKind} {n n' : Int} {b b' : Bool} {H : aF} (e : n = n') (e2 : b = b') : E gA [] (bQ [.int k n, .bool b] 0 H) (some (.tup [.int k n', .bool b'], [])) := w2 rfl rfl (by rw [e, e2])
theorem qf : type_of% (aPt @aCt <| aPt @dX <| aPt @dW <| aPt @aDq <| aPt @aDm <| aPt @aDp <| aPt @aDn <| @aDo) := aPt @aCt <| aPt @dX <| aPt @dW <| aPt @aDq <| aPt @aDm <| aPt @aDp <| aPt @aDn <| @aDo
theorem qa : type_of% (aPt qf <| aPt @qC <| aPt @oY <| aPt @aIy <| aPt @aIx <| aPt @qE <| aPt @pB <| aPt @sD <| aPt @vG <| aPt @rZ <| aPt @yR <| aPt @vF <| aPt @yQ <| aPt @aCw <| aPt @vE <| aPt @aCv <| aPt @vD <| aPt @aDP <| aPt @aIB <| aPt @aIi <| aPt @aIm <| aPt @aLw <| aPt @aLv <| aPt @bD <| aPt @rY <| aPt @aGf <| aPt @aGg <| aPt @aDR <| aPt @aIw <| aPt @aGj <| aPt @aGh <| aPt @aGi <| aPt @aLx <| aPt @aIq <| aPt @aET <| aPt @aDQ <| aPt @aIn <| aPt @aIo <| aPt @aIp <| aPt @List.getElem?_cons_zero.{0} <| aPt @List.getElem?_cons_succ.{0} <| aPt @List.getElem?_nil.{0} <| aPt @aLA <| aPt @aIu <| aPt @aIv <| aPt @aLy <| aPt @aIr <| aPt @jK <| aPt @aIt <| aPt @aIs <| aPt @aIj <| aPt @aIl <| aPt @aIk <| aPt @List.length_cons.{0} <| aPt @List.length_nil.{0} <| aPt @List.cons_append.{0} <| aPt @List.nil_append.{0} <| aPt @List.drop_zero.{0} <| aPt @List.drop_succ_cons.{0} <| aPt @List.take_succ_cons.{0} <| aPt @List.take_zero.{0} <| aPt @aIz <| aPt @aIA <| aPt @aLz <| aPt @Option.map_some.{0, 0} <| aPt @List.replicate_succ.{0} <| aPt @List.replicate_zero.{0} <| aPt @List.set_cons_zero.{0} <| aPt @List.set_cons_succ.{0} <| aPt @Nat.le_refl <| aPt @and_self <| aPt @true_and <| aPt @and_true <| aPt @if_true.{1} <| aPt @Bool.not_true <| aPt @Bool.not_false <| aPt @Int.toNat_natCast <| @Nat.zero_add) := aPt qf <| aPt @qC <| aPt @oY <| aPt @aIy <| aPt @aIx <| aPt @qE <| aPt @pB <| aPt @sD <| aPt @vG <| aPt @rZ <| aPt @yR <| aPt @vF <| aPt @yQ <| aPt @aCw <| aPt @vE <| aPt @aCv <| aPt @vD <| aPt @aDP <| aPt @aIB <| aPt @aIi <| aPt @aIm <| aPt @aLw <| aPt @aLv <| aPt @bD <| aPt @rY <| aPt @aGf <| aPt @aGg <| aPt @aDR <| aPt @aIw <| aPt @aGj <| aPt @aGh <| aPt @aGi <| aPt @aLx <| aPt @aIq <| aPt @aET <| aPt @aDQ <| aPt @aIn <| aPt @aIo <| aPt @aIp <| aPt @List.getElem?_cons_zero.{0} <| aPt @List.getElem?_cons_succ.{0} <| aPt @List.getElem?_nil.{0} <| aPt @aLA <| aPt @aIu <| aPt @aIv <| aPt @aLy <| aPt @aIr <| aPt @jK <| aPt @aIt <| aPt @aIs <| aPt @aIj <| aPt @aIl <| aPt @aIk <| aPt @List.length_cons.{0} <| aPt @List.length_nil.{0} <| aPt @List.cons_append.{0} <| aPt @List.nil_append.{0} <| aPt @List.drop_zero.{0} <| aPt @List.drop_succ_cons.{0} <| aPt @List.take_succ_cons.{0} <| aPt @List.take_zero.{0} <| aPt @aIz <| aPt @aIA <| aPt @aLz <| aPt @Option.map_some.{0, 0} <| aPt @List.replicate_succ.{0} <| aPt @List.replicate_zero.{0} <| aPt @List.set_cons_zero.{0} <| aPt @List.set_cons_succ.{0} <| aPt @Nat.le_refl <| aPt @and_self <| aPt @true_and <| aPt @and_true <| aPt @if_true.{1} <| aPt @Bool.not_true <| aPt @Bool.not_false <| aPt @Int.toNat_natCast <| @Nat.zero_add
theorem gI {p q : Prop} (h : q) (t : q → p := by
 intro hgo
 repeat' first
  | (with_reducible first | refine eT ?_ | refine eN ?_ | refine eS ?_ | refine eXn ?_ | refine eXr ?_ | refine eX ?_ | refine eI ?_ | refine eK ?_ | refine eV0 ?_ | refine sL ?_ | refine sO ?_ | refine sI ?_ | refine sN ?_ | refine sJ ?_ | refine sK ?_)
  | ((with_reducible apply eCn); (simp only [dX, dW]; first | done | (with_reducible exact rfl)))
  | ((with_reducible apply eJ); (rfl))
  | ((with_reducible apply sM); (first | rfl | (simp only [dX, dW]; rfl)))
  | ((with_reducible apply eL); (first | exact lx1 | exact lx2 | exact lx3))
  | ((with_reducible apply eB); (first | (with_reducible exact rfl) | (simp (disch := omega) only [qf, fx]; first | done | (with_reducible exact rfl) | (with_reducible exact ⟨rfl, rfl⟩)) | (simp (disch := omega) only [qa, jP, AV.cells, fH, bA, kX, fK, fM, kL, Nat.reduceLeDiff, Nat.reduceLT, Nat.reduceAdd, ↓reduceIte, fx]; first | done | (with_reducible exact rfl) | (with_reducible exact ⟨rfl, rfl⟩))))
  | ((with_reducible apply eR); (simp only [dX, dW]; (with_reducible exact rfl)))
  | ((with_reducible first | refine tG ?_ ?_ | refine tL ?_ ?_ | refine tK ?_ ?_ | refine tJ ?_ ?_ | refine tI ?_ ?_ | refine tH ?_ ?_ | refine tM ?_ ?_ | refine oG ?_ ?_ | refine sGd ?_ ?_ | refine nY ?_ ?_) <;> intro hq <;> try subst hq)
 all_goals first | omega | exact hgo) : p := t h
theorem wkC {p : Prop} (t : p := by
 repeat' first
  | (with_reducible first | refine eT ?_ | refine eN ?_ | refine eS ?_ | refine eXn ?_ | refine eXr ?_ | refine eX ?_ | refine eI ?_ | refine eK ?_ | refine eV0 ?_ | refine sL ?_ | refine sO ?_ | refine sI ?_ | refine sN ?_ | refine sJ ?_ | refine sK ?_)
  | ((with_reducible apply eCn); (simp only [dX, dW]; first | done | (with_reducible exact rfl)))
  | ((with_reducible apply eJ); (rfl))
  | ((with_reducible apply sM); (first | rfl | (simp only [dX, dW]; rfl)))
  | ((with_reducible apply eL); (first | exact lx1 | exact lx2 | exact lx3))
  | ((with_reducible apply eB); (first | (with_reducible exact rfl) | (simp (disch := omega) only [qf, fx]; first | done | (with_reducible exact rfl) | (with_reducible exact ⟨rfl, rfl⟩)) | (simp (disch := omega) only [qa, jP, AV.cells, fH, bA, kX, fK, fM, kL, Nat.reduceLeDiff, Nat.reduceLT, Nat.reduceAdd, ↓reduceIte, fx]; first | done | (with_reducible exact rfl) | (with_reducible exact ⟨rfl, rfl⟩))))
  | ((with_reducible apply eR); (simp only [dX, dW]; (with_reducible exact rfl)))
  | ((with_reducible first | refine tG ?_ ?_ | refine tL ?_ ?_ | refine tK ?_ ?_ | refine tJ ?_ ?_ | refine tI ?_ ?_ | refine tH ?_ ?_ | refine tM ?_ ?_ | refine oG ?_ ?_ | refine sGd ?_ ?_ | refine nY ?_ ?_) <;> intro hq <;> try subst hq)
 all_goals first | omega | (refine qT ?_; first | exact (decide_eq_true (by omega)).symm | exact (decide_eq_false (by omega)).symm)) : p := t
theorem kN {p q : Prop} (h : q) (t : q → p := by
 intro hgo
 repeat first
  | (with_reducible first | refine eT ?_ | refine eN ?_ | refine eS ?_ | refine eXn ?_ | refine eXr ?_ | refine eX ?_ | refine eI ?_ | refine eK ?_ | refine eV0 ?_ | refine sL ?_ | refine sO ?_ | refine sI ?_ | refine sN ?_ | refine sJ ?_ | refine sK ?_)
  | ((with_reducible apply eCn); (simp only [dX, dW]; first | done | (with_reducible exact rfl)))
  | ((with_reducible apply eJ); (rfl))
  | ((with_reducible apply sM); (first | rfl | (simp only [dX, dW]; rfl)))
  | ((with_reducible apply eL); (first | exact lx1 | exact lx2 | exact lx3))
  | ((with_reducible apply eB); (first | (with_reducible exact rfl) | (simp (disch := omega) only [qf, fx]; first | done | (with_reducible exact rfl) | (with_reducible exact ⟨rfl, rfl⟩)) | (simp (disch := omega) only [qa, jP, AV.cells, fH, bA, kX, fK, fM, kL, Nat.reduceLeDiff, Nat.reduceLT, Nat.reduceAdd, ↓reduceIte, fx]; first | done | (with_reducible exact rfl) | (with_reducible exact ⟨rfl, rfl⟩))))
  | ((with_reducible apply eR); (simp only [dX, dW]; (with_reducible exact rfl)))
 exact hgo) : p := t h
theorem uR {f : AV → Option AV} : ∀ {xs : List AV}, (∀ x ∈ xs, f x = some x) → nE f xs = some xs
 | [], _ => rfl
 | x :: xs, h => by
  have h2 := uR (f := f) (xs := xs) (fun y hy => h y (List.mem_cons_of_mem _ hy))
  simp only [nE, h x (by simp), h2]
theorem pT {n : Nat} : ∀ {xs : List AV} (_ : dE n xs = true) (x : AV) (_ : x ∈ xs), cG n x = true
 | [], _, _, hx => by cases hx
 | y :: xs, h, x, hx => by
  simp only [dE, Bool.and_eq_true] at h
  rcases List.mem_cons.1 hx with rfl | hx
  ·exact h.1
  ·exact pT h.2 x hx
mutual
theorem kO {n m : Nat} (h : n ≤ m) : ∀ {x : AV}, cG n x = true → cG m x = true
 | .ptr .., hx => by simp [cG] at hx ⊢; omega
 | .sl .., hx => by simp [cG] at hx ⊢; omega
 | .fn _ caps, hx => by simp only [cG] at hx ⊢; exact mZ h hx
 | .iface _ v, hx => by simp only [cG] at hx ⊢; exact kO h hx
 | .agg cs, hx => by simp only [cG] at hx ⊢; exact mZ h hx
 | .tup vs, hx => by simp only [cG] at hx ⊢; exact mZ h hx
 | .ro _ xs, hx => by simp only [cG] at hx ⊢; exact mZ h hx
 | .rp _ x _, hx => by simp only [cG] at hx ⊢; exact kO h hx
 | .undef, _ => rfl
 | .bool _, _ => rfl
 | .int .., _ => rfl
 | .str _, _ => rfl
 | .nilp, _ => rfl
 | .nilf, _ => rfl
 | .nili, _ => rfl
 | .gl _, _ => rfl
 | .gp _, _ => rfl
 | .nils, _ => rfl
 | .anyb, _ => rfl
theorem mZ {n m : Nat} (h : n ≤ m) : ∀ {xs : List AV}, dE n xs = true → dE m xs = true
 | [], _ => rfl
 | x :: xs, hx => by
  simp only [dE, Bool.and_eq_true] at hx ⊢
  exact ⟨kO h hx.1, mZ h hx.2⟩
end
theorem aGH {H : aF} {n d : Nat} {x : AV} (h : cG n x = true) : zM (wD H n d) x = some x := by
 cases x with
 | agg cs =>
  simp only [cG] at h
  have : nE (wD H n d) cs = some cs := uR fun y hy => lW (pT h y hy) d
  simp only [zM, this]
 | _ => exact lW h d
theorem wF {H : aF} {b n0 d n sz ty : Nat} {xs : List AV} (hb : H[b]? = some ⟨ty, sz, xs⟩) (hn : n0 ≤ b) (hl : xs.length = n) (hs : pH sz xs = true) (hx : dE n0 xs = true) :
  wD H n0 (d + 1) (.sl b n 0 n sz) = some (.ro false xs) := by
 have h1 : cG n0 (.sl b n 0 n sz) = false := by simp [cG]; omega
 have h2 : nE (zM (wD H n0 d)) xs = some xs := uR fun x h => aGH (pT hx x h)
 have h3 : iX (.sl b n 0 n sz) H = some xs := by
  simp only [iX, hb, hl, if_true, List.drop_zero]
  rw [List.take_of_length_le (by omega)]
 unfold wD
 simp only [h1, h3, hs, h2]
theorem rO {α : Type} (s : Nat) (e : α → AV) (h : ∀ a, (e a).cells.length = s) (xs : List α) : pH s (xs.map e) = true := by
 unfold pH
 simp [List.all_eq_true, h]
theorem rA {g : dA} {args : List AV} {r : AV} {H H' : aF} (h : g args H = some (r, H')) (hl : H.length ≤ H'.length) : bK g args H = some (r, H') := by
 simp only [bK, h, hl, if_true]
theorem aJK {x y : AV} {n : Nat} {H : aF} (h : wD H n 6 x = some y) (hb : dS n (H.take n) = true) : bQ [x] n H = some (.ret, [y], H.take n) := by
 have hc : iL n [] H = some (H.take n) := by unfold iL; simp only [dE, hb, Bool.true_and]
 unfold bQ qN
 simp only [h, hc]
theorem aFO {H : aF} {n d : Nat} {cs zs : List AV} (hb : dE n cs = false) (h : nE (wD H n d) cs = some zs) : wD H n (d + 1) (.agg cs) = some (.agg zs) := by
 unfold wD
 simp only [cG, hb, h]
theorem aFP {H : aF} {n d : Nat} {cs zs : List AV} (hb : dE n cs = false) (h : nE (wD H n d) cs = some zs) : wD H n (d + 1) (.tup cs) = some (.tup zs) := by
 unfold wD
 simp only [cG, hb, h]
theorem jO {f : AV → Option AV} {x y : AV} {xs ys : List AV} (h : f x = some y) (hs : nE f xs = some ys) : nE f (x :: xs) = some (y :: ys) := by
 simp only [nE, h, hs]
theorem uS {f : AV → Option AV} : nE f [] = some [] := rfl
end Go.Proofs.YtdfglgnflldkpaaDoor.Mir
