/- Part 4 of the proof: the evaluator and its soundness. -/
import Derived.Test.YtdfglgnflldkpaaDoorVe3
namespace Go.Proofs.YtdfglgnflldkpaaDoor.Mir
open Go
set_option linter.unusedSimpArgs false
set_option linter.unusedVariables false
abbrev KK := Ex → List AV → aF → Option gH
def E {γ : Type} (f : Option gH → Option γ) (ks : List KK) (m : Option gH) (r : Option γ) : Prop := f (ks.foldl eE m) = r
section
variable {γ : Type} {f : Option gH → Option γ} {ks : List KK} {r : Option γ}
theorem eZ {m : Option gH} (h : E f [] m r) : f m = r := h
theorem jT {m r : Option gH} (h : E (fun x => x) [] m r) : m = r := h
theorem iA {m : Option gH} (h : f m = r) : E f [] m r := h
theorem eB {m : Option (AV × aF)} {k : AV → aF → Option gH} {v : AV} {H : aF} (h : m = some (v, H)) (h2 : E f ks (k v H) r) : E f ks (aB m k) r := by rw [h]; exact h2
theorem eR {m m' : Option (AV × aF)} {k : AV → aF → Option gH} (h : m = m') (h2 : E f ks (aB m' k) r) : E f ks (aB m k) r := by rw [h]; exact h2
theorem eT {a b : Option gH} (h : E f ks a r) : E f ks (aK (.bool true) a b) r := h
theorem eN {a b : Option gH} (h : E f ks b r) : E f ks (aK (.bool false) a b) r := h
theorem sX {H : aF} {m : Option (AV × aF)} {k : AV → aF → Option gH} (h : E f ks (aB m k) r) : E f ks (aB (gd (.bool true) true H m) k) r := by rw [aDV]; exact h
theorem sV {H : aF} {m : Option (AV × aF)} {k : AV → aF → Option gH} (h : E f ks (aB m k) r) : E f ks (aB (gd (.bool false) false H m) k) r := by rw [aEv]; exact h
theorem tD {H : aF} {m : Option (AV × aF)} {k : AV → aF → Option gH} (h : E f ks (k (.tup []) H) r) : E f ks (aB (gd (.bool true) false H m) k) r := by rw [aDx]; exact h
theorem tB {H : aF} {m : Option (AV × aF)} {k : AV → aF → Option gH} (h : E f ks (k (.tup []) H) r) : E f ks (aB (gd (.bool false) true H m) k) r := by rw [aDm]; exact h
theorem sY {H : aF} {w : Bool} {m : Option (AV × aF)} {k : AV → aF → Option gH} (h : E f ks (k (.tup []) H) r) : E f ks (aB (gd (.tup []) w H m) k) r := by rw [aDq]; exact h
theorem eCn {xs : List AV} {i : Nat} {c : AV} {a b : Option gH} (hc : aH xs i = c) (h : E f ks (aK c a b) r) : E f ks (aK (aH xs i) a b) r := by rw [hc]; exact h
theorem oZ {b : Bool} {x y : Option gH} (h1 : b = true → E f ks x r) (h2 : b = false → E f ks y r) : E f ks (aK (.bool b) x y) r := by
 cases b
 ·exact h2 rfl
 ·exact h1 rfl
theorem eK {m : Option gH} {k : KK} (h : E f (k :: ks) m r) : E f ks (eE m k) r := h
theorem eS {k : KK} {e : Ex} {xs : List AV} {H : aF} (h : E f ks (k e xs H) r) : E f (k :: ks) (some (e, xs, H)) r := h
theorem eL {m : Option gH} {o : gH} (h : m = some o) (h2 : E f ks (some o) r) : E f ks m r := by rw [h]; exact h2
theorem eX {a : Option gH} {b : Nat → Option gH} {r0 : Option gH} {i : Nat} (h : E f ks (b i) r) : E f ks (jK (.exit i) a b r0) r := h
theorem eXn {a : Option gH} {b : Nat → Option gH} {r0 : Option gH} (h : E f ks a r) : E f ks (jK .normal a b r0) r := h
theorem eXr {a : Option gH} {b : Nat → Option gH} {r0 : Option gH} (h : E f ks r0 r) : E f ks (jK .ret a b r0) r := h
theorem eI {i : Nat} {a b : Option gH} (h : E f ks a r) : E f ks (if i = i then a else b) r := by rw [if_pos rfl]; exact h
theorem eJ {i j : Nat} {a b : Option gH} (hij : (i == j) = false) (h : E f ks b r) : E f ks (if i = j then a else b) r := by rw [if_neg (by simpa using hij)]; exact h
theorem eC {n : Nat} {xs : List AV} {H H' : aF} {k : aF → Option gH} (h : iR n xs H = some H') (h2 : E f ks (k H') r) : E f ks (pU n xs H k) r := by unfold pU; rw [h]; exact h2
theorem sW {m : Option gH} (h : E f ks m r) : E f ks (grd [] m) r := h
theorem sZ {a b : AV} {l : List (AV × AV)} {m : Option gH} (h : oG a b = true) (h2 : E f ks (grd l m) r) : E f ks (grd ((a, b) :: l) m) r := by unfold grd; rw [h]; exact h2
theorem eV0 {H : aF} {k : aF → Option gH} (h2 : E f ks (k H) r) : E f ks (vK [] H k) r := by rw [aNI]; exact h2
theorem eV1 {q : AV × Nat × Nat × Nat} {l : List (AV × Nat × Nat × Nat)} {H H1 : aF} {k : aF → Option gH} (h : oP q H = H1) (h2 : E f ks (vK l H1 k) r) : E f ks (vK (q :: l) H k) r := by rw [aKR, h]; exact h2
variable {P : Program} {t : Nat} {c : Bool} {k : IntKind} {a b : Int} {H : aF} {K : AV → aF → Option gH}
theorem tY (h1 : a = b → E f ks (K (.bool true) H) r) (h2 : a ≠ b → E f ks (K (.bool false) H) r) : E f ks (aB (pu H (aQ P .eql t c (.int k a) (.int k b))) K) r := by
 rw [kV]; by_cases h : a = b
 ·rw [decide_eq_true h]; exact h1 h
 ·rw [decide_eq_false h]; exact h2 h
theorem tU (h1 : a ≠ b → E f ks (K (.bool true) H) r) (h2 : a = b → E f ks (K (.bool false) H) r) : E f ks (aB (pu H (aQ P .neq t c (.int k a) (.int k b))) K) r := by
 rw [vB]; by_cases h : a ≠ b
 ·rw [decide_eq_true h]; exact h1 h
 ·rw [decide_eq_false h]; exact h2 (Classical.not_not.1 h)
theorem tQ (h1 : a < b → E f ks (K (.bool true) H) r) (h2 : b ≤ a → E f ks (K (.bool false) H) r) : E f ks (aB (pu H (aQ P .lss t c (.int k a) (.int k b))) K) r := by
 rw [mA]; by_cases h : a < b
 ·rw [decide_eq_true h]; exact h1 h
 ·rw [decide_eq_false h]; exact h2 (by omega)
theorem tW (h1 : a ≤ b → E f ks (K (.bool true) H) r) (h2 : b < a → E f ks (K (.bool false) H) r) : E f ks (aB (pu H (aQ P .leq t c (.int k a) (.int k b))) K) r := by
 rw [aDc]; by_cases h : a ≤ b
 ·rw [decide_eq_true h]; exact h1 h
 ·rw [decide_eq_false h]; exact h2 (by omega)
theorem uE (h1 : b < a → E f ks (K (.bool true) H) r) (h2 : a ≤ b → E f ks (K (.bool false) H) r) : E f ks (aB (pu H (aQ P .gtr t c (.int k a) (.int k b))) K) r := by
 rw [aCD]; by_cases h : b < a
 ·rw [decide_eq_true h]; exact h1 h
 ·rw [decide_eq_false h]; exact h2 (by omega)
theorem tP (h1 : b ≤ a → E f ks (K (.bool true) H) r) (h2 : a < b → E f ks (K (.bool false) H) r) : E f ks (aB (pu H (aQ P .geq t c (.int k a) (.int k b))) K) r := by
 rw [mH]; by_cases h : b ≤ a
 ·rw [decide_eq_true h]; exact h1 h
 ·rw [decide_eq_false h]; exact h2 (by omega)
theorem tX {g : Bool} (h1 : g = true → E f ks (K (.bool false) H) r) (h2 : g = false → E f ks (K (.bool true) H) r) : E f ks (aB (pu H (un .not (.bool g))) K) r := by
 rw [aAJ]
 cases g
 ·exact h2 rfl
 ·exact h1 rfl
theorem pB {g : Bool} {x y : AV} (h1 : g = true → E f ks (K x H) r) (h2 : g = false → E f ks (K y H) r) : E f ks (aB (pu H (dG (.bool g) x y)) K) r := by
 cases g
 ·exact h2 rfl
 ·exact h1 rfl
theorem sGd {g : Bool} {w : Bool} {m : Option (AV × aF)} (h1 : g = true → E f ks (aB (gd (.bool true) w H m) K) r) (h2 : g = false → E f ks (aB (gd (.bool false) w H m) K) r) : E f ks (aB (gd (.bool g) w H m) K) r := by
 cases g
 ·exact h2 rfl
 ·exact h1 rfl
end
section
variable {P : Program} {t : Nat} {c : Bool} {k : IntKind} {a b : Int}
theorem oE (h : a = b) : aQ P .eql t c (.int k a) (.int k b) = some (.bool true) := by rw [kV, decide_eq_true h]
theorem pP (h : a ≠ b) : aQ P .eql t c (.int k a) (.int k b) = some (.bool false) := by rw [kV, decide_eq_false h]
theorem vT (h : a ≠ b) : aQ P .neq t c (.int k a) (.int k b) = some (.bool true) := by rw [vB, decide_eq_true h]
theorem zM (h : a = b) : aQ P .neq t c (.int k a) (.int k b) = some (.bool false) := by rw [vB, decide_eq_false (fun h' => h' h)]
theorem qM (h : a < b) : aQ P .lss t c (.int k a) (.int k b) = some (.bool true) := by rw [mA, decide_eq_true h]
theorem zG (h : b ≤ a) : aQ P .lss t c (.int k a) (.int k b) = some (.bool false) := by rw [mA, decide_eq_false (by omega)]
theorem sO (h : a ≤ b) : aQ P .leq t c (.int k a) (.int k b) = some (.bool true) := by rw [aDc, decide_eq_true h]
theorem zK (h : b < a) : aQ P .leq t c (.int k a) (.int k b) = some (.bool false) := by rw [aDc, decide_eq_false (by omega)]
theorem yZ (h : b < a) : aQ P .gtr t c (.int k a) (.int k b) = some (.bool true) := by rw [aCD, decide_eq_true h]
theorem vD (h : a ≤ b) : aQ P .gtr t c (.int k a) (.int k b) = some (.bool false) := by rw [aCD, decide_eq_false (by omega)]
theorem aCX (h : b ≤ a) : aQ P .geq t c (.int k a) (.int k b) = some (.bool true) := by rw [mH, decide_eq_true h]
theorem vP (h : a < b) : aQ P .geq t c (.int k a) (.int k b) = some (.bool false) := by rw [mH, decide_eq_false (by omega)]
theorem aBz (h0 : -9223372036854775808 ≤ a + b) (h1 : a + b < 9223372036854775808) : aQ P .add t c (.int .i64 a) (.int .i64 b) = some (.int .i64 (a + b)) := by rw [kL, fW h0 h1]
theorem aGQ (h0 : -9223372036854775808 ≤ a - b) (h1 : a - b < 9223372036854775808) : aQ P .sub t c (.int .i64 a) (.int .i64 b) = some (.int .i64 (a - b)) := by rw [zJ, fW h0 h1]
theorem aIo (h0 : 0 ≤ a + b) (h1 : a + b < 18446744073709551616) : aQ P .add t c (.int .u64 a) (.int .u64 b) = some (.int .u64 (a + b)) := by rw [kL, fF h0 h1]
theorem aGi (h0 : -9223372036854775808 ≤ a) (h1 : a < 9223372036854775808) : aJ .i64 (.int k a) = some (.int .i64 a) := by rw [fE, fW h0 h1]
theorem aMj (h0 : 0 ≤ a) (h1 : a < 18446744073709551616) : aJ .u64 (.int k a) = some (.int .u64 a) := by rw [fE, fF h0 h1]
theorem aMd (h0 : 0 ≤ a) (h1 : a < 256) : aJ .u8 (.int k a) = some (.int .u8 a) := by rw [fE, aFa h0 h1]
theorem bF (h0 : 0 ≤ a) (h1 : a < 4294967296) : aJ .u32 (.int k a) = some (.int .u32 a) := by rw [fE, mK h0 h1]
theorem sG {s bl L o m : Nat} (h0 : 0 ≤ a) (h1 : a < (m : Int)) : cJ s (.sl bl L o m s) (.int k a) = some (.ptr bl L (o + a.toNat) 0) := by simp [cJ, h0, h1]
theorem aFY {bor : Bool} {xs : List AV} : dQ (.ro bor xs) = some (.int .i64 (xs.length : Int)) := by unfold dQ; rfl
theorem aFU {bl L o m s : Nat} : dQ (.sl bl L o m s) = some (.int .i64 (m : Int)) := by unfold dQ; rfl
theorem aDR : dQ .nils = some (.int .i64 0) := by unfold dQ; rfl
theorem aIt {bl L i o : Nat} : kY (.ptr bl L i o) = some (.ptr bl L i o) := by unfold kY; rfl
theorem aGa {bor : Bool} {x : AV} {o : Nat} : kY (.rp bor x o) = some (.rp bor x o) := by unfold kY; rfl
theorem aGh {g : Nat} {caps : List AV} : kY (.fn g caps) = some (.fn g caps) := by unfold kY; rfl
theorem aGJ {g : Nat} : kY (.gl g) = some (.gl g) := by unfold kY; rfl
theorem aMb {off bl L i o : Nat} : aA off (.ptr bl L i o) = some (.ptr bl L i (o + off)) := by unfold aA; rfl
theorem aIa {off : Nat} {bor : Bool} {x : AV} {o : Nat} : aA off (.rp bor x o) = some (.rp bor x (o + off)) := by unfold aA; rfl
theorem aEU {G : aG} {s : Nat} {bor : Bool} {cs : List AV} {o : Nat} {H : aF} : aC G false s (.rp bor (.agg cs) o) H = cs[o]? := by unfold aC mW; rfl
theorem aDI {cs : List AV} {H : aF} : dV (.agg cs) H = some (.rp false (.agg cs) 0, H) := by unfold dV; rfl
theorem aIs {u : AV} {l : List AV} : cB (.tup (u :: l)) 0 = some u := by unfold cB; rfl
theorem aJy {u v : AV} {l : List AV} : cB (.tup (u :: v :: l)) 1 = some v := by unfold cB; rfl
theorem aIL {u v w : AV} {l : List AV} : cB (.tup (u :: v :: w :: l)) 2 = some w := by unfold cB; rfl
theorem aHM : un .not (.bool true) = some (.bool false) := by rw [aAJ]; rfl
theorem aHX : un .not (.bool false) = some (.bool true) := by rw [aAJ]; rfl
theorem aLH {H : aF} : fB (some H) = some (.tup [], H) := by unfold fB; rfl
end
section
variable {G : aG} {g : Bool} {s b L i o t z : Nat} {cs : List AV} {blk : ABlk} {H : aF} {v x : AV}
def ldB (g : Bool) (s L i o : Nat) (blk : ABlk) : Option AV := if blk.elems.length = L then (match blk.elems[i]? with | some x => mW g s x.cells o | none => none) else none
def stB (s L i o : Nat) (v : AV) (blk : ABlk) : Option ABlk := if blk.elems.length = L ∧ fQ v = true ∧ v.cells.length = s then
    (match blk.elems[i]? with
     | some x => if o + s ≤ x.cells.length then some { blk with elems := blk.elems.set i (rL x (jY x.cells o v.cells)) } else none
     | none => none) else none
theorem aHW : aC G g s (.ptr 0 L i o) (blk :: H) = ldB g s L i o blk := by unfold aC ldB; rfl
theorem aHI : aC G g s (.ptr (b + 1) L i o) (blk :: H) = aC G g s (.ptr b L i o) H := by unfold aC; rfl
theorem aLR : ldB false s 1 0 o ⟨t, z, [.agg cs]⟩ = cs[o]? := by unfold ldB mW; rfl
theorem aIh : ldB true s 1 0 o ⟨t, z, [.agg cs]⟩ = if o + s ≤ cs.length then some (.agg ((cs.drop o).take s)) else none := by unfold ldB mW; rfl
theorem jU {bor : Bool} : aC G true s (.rp bor (.agg cs) o) H = if o + s ≤ cs.length then some (.agg ((cs.drop o).take s)) else none := by unfold aC mW; rfl
theorem aJM {k : IntKind} {n : Int} : ldB false s 1 0 0 ⟨t, z, [.int k n]⟩ = some (.int k n) := by unfold ldB mW; rfl
theorem aIr {c : Bool} : ldB false s 1 0 0 ⟨t, z, [.bool c]⟩ = some (.bool c) := by unfold ldB mW; rfl
theorem aJa : aL s (.ptr 0 L i o) v (blk :: H) = (stB s L i o v blk).map (· :: H) := by
 unfold aL stB
 simp only [List.getElem?_cons_zero]
 split
 ·cases blk.elems[i]? with
  | none => rfl
  | some x => simp only; split <;> rfl
 ·rfl
theorem aIp : aL s (.ptr (b + 1) L i o) v (blk :: H) = (aL s (.ptr b L i o) v H).map (blk :: ·) := by
 unfold aL
 simp only [List.getElem?_cons_succ]
 cases H[b]? with
 | none => rfl
 | some y =>
  simp only
  split
  ·cases y.elems[i]? with
   | none => rfl
   | some x => simp only; split <;> rfl
  ·rfl
theorem aMh : stB s 1 0 o v ⟨t, z, [.agg cs]⟩ = if fQ v = true ∧ v.cells.length = s ∧ o + s ≤ cs.length then some ⟨t, z, [.agg (jY cs o v.cells)]⟩ else none := by
 have e : (AV.agg cs).cells = cs := rfl
 unfold stB
 by_cases h1 : fQ v = true ∧ v.cells.length = s
 ·by_cases h2 : o + s ≤ cs.length <;> simp [e, h1, h2, rL]
 ·have h3 : ¬ (fQ v = true ∧ v.cells.length = s ∧ o + s ≤ cs.length) := fun h => h1 ⟨h.1, h.2.1⟩
  rw [if_neg h3, if_neg (fun h => h1 h.2)]
theorem aJb : fI t (.agg (x :: cs)) H = some (.ptr H.length 1 0 0, H ++ [⟨t, cs.length + 1, [.agg (x :: cs)]⟩]) := by
 unfold fI; simp [fQ, AV.cells]
theorem aHP {k : IntKind} {n : Int} : fI t (.int k n) H = some (.ptr H.length 1 0 0, H ++ [⟨t, 1, [.int k n]⟩]) := by unfold fI; rfl
theorem aHY {c : Bool} : fI t (.bool c) H = some (.ptr H.length 1 0 0, H ++ [⟨t, 1, [.bool c]⟩]) := by unfold fI; rfl
end
theorem w1 {x x' : AV} {H : aF} (h : cG 0 x = true) (e : x = x') : E gA [] (bH [x] 0 H) (some (x', [])) := by subst e; exact oF (nF h H)
theorem w2 {x y r : AV} {H : aF} (hx : cG 0 x = true) (hy : cG 0 y = true) (e : AV.tup [x, y] = r) : E gA [] (bH [x, y] 0 H) (some (r, [])) := by subst e; exact oF (aAo hx hy H)
theorem tA {k : IntKind} {n n' : Int} {H : aF} (e : n = n') : E gA [] (bH [.int k n] 0 H) (some (.int k n', [])) := w1 rfl (by rw [e])
theorem uH {b b' : Bool} {H : aF} (e : b = b') : E gA [] (bH [.bool b] 0 H) (some (.bool b', [])) := w1 rfl (by rw [e])
theorem nY {k : IntKind} {n n' : Int} {b b' : Bool} {H : aF} (e : n = n') (e2 : b = b') : E gA [] (bH [.int k n, .bool b] 0 H) (some (.tup [.int k n', .bool b'], [])) := w2 rfl rfl (by rw [e, e2])
theorem qf : type_of% (aPQ @aCk <| aPQ @eG <| aPQ @eF <| aPQ @aDV <| aPQ @aEv <| aPQ @aDx <| aPQ @aDm <| @aDq) := aPQ @aCk <| aPQ @eG <| aPQ @eF <| aPQ @aDV <| aPQ @aEv <| aPQ @aDx <| aPQ @aDm <| @aDq
theorem qa : type_of% (aPQ qf <| aPQ @qK <| aPQ @pM <| aPQ @aHM <| aPQ @aHX <| aPQ @oE <| aPQ @pP <| aPQ @vT <| aPQ @zM <| aPQ @qM <| aPQ @zG <| aPQ @sO <| aPQ @zK <| aPQ @yZ <| aPQ @vD <| aPQ @aCX <| aPQ @vP <| aPQ @aBz <| aPQ @aGQ <| aPQ @aIo <| aPQ @aGi <| aPQ @aMj <| aPQ @aMd <| aPQ @bF <| aPQ @sG <| aPQ @aFY <| aPQ @aFU <| aPQ @aDR <| aPQ @aIt <| aPQ @aGa <| aPQ @aGh <| aPQ @aGJ <| aPQ @aMb <| aPQ @aIa <| aPQ @aEU <| aPQ @aDI <| aPQ @aIs <| aPQ @aJy <| aPQ @aIL <| aPQ @List.getElem?_cons_zero.{0} <| aPQ @List.getElem?_cons_succ.{0} <| aPQ @List.getElem?_nil.{0} <| aPQ @aLH <| aPQ @aHW <| aPQ @aHI <| aPQ @aLR <| aPQ @aIh <| aPQ @jU <| aPQ @aJM <| aPQ @aIr <| aPQ @aJb <| aPQ @aHP <| aPQ @aHY <| aPQ @List.length_cons.{0} <| aPQ @List.length_nil.{0} <| aPQ @List.cons_append.{0} <| aPQ @List.nil_append.{0} <| aPQ @List.drop_zero.{0} <| aPQ @List.drop_succ_cons.{0} <| aPQ @List.take_succ_cons.{0} <| aPQ @List.take_zero.{0} <| aPQ @aJa <| aPQ @aIp <| aPQ @aMh <| aPQ @Option.map_some.{0, 0} <| aPQ @List.replicate_succ.{0} <| aPQ @List.replicate_zero.{0} <| aPQ @List.set_cons_zero.{0} <| aPQ @List.set_cons_succ.{0} <| aPQ @Nat.le_refl <| aPQ @and_self <| aPQ @true_and <| aPQ @and_true <| aPQ @if_true.{1} <| aPQ @Bool.not_true <| aPQ @Bool.not_false <| aPQ @Int.toNat_natCast <| @Nat.zero_add) := aPQ qf <| aPQ @qK <| aPQ @pM <| aPQ @aHM <| aPQ @aHX <| aPQ @oE <| aPQ @pP <| aPQ @vT <| aPQ @zM <| aPQ @qM <| aPQ @zG <| aPQ @sO <| aPQ @zK <| aPQ @yZ <| aPQ @vD <| aPQ @aCX <| aPQ @vP <| aPQ @aBz <| aPQ @aGQ <| aPQ @aIo <| aPQ @aGi <| aPQ @aMj <| aPQ @aMd <| aPQ @bF <| aPQ @sG <| aPQ @aFY <| aPQ @aFU <| aPQ @aDR <| aPQ @aIt <| aPQ @aGa <| aPQ @aGh <| aPQ @aGJ <| aPQ @aMb <| aPQ @aIa <| aPQ @aEU <| aPQ @aDI <| aPQ @aIs <| aPQ @aJy <| aPQ @aIL <| aPQ @List.getElem?_cons_zero.{0} <| aPQ @List.getElem?_cons_succ.{0} <| aPQ @List.getElem?_nil.{0} <| aPQ @aLH <| aPQ @aHW <| aPQ @aHI <| aPQ @aLR <| aPQ @aIh <| aPQ @jU <| aPQ @aJM <| aPQ @aIr <| aPQ @aJb <| aPQ @aHP <| aPQ @aHY <| aPQ @List.length_cons.{0} <| aPQ @List.length_nil.{0} <| aPQ @List.cons_append.{0} <| aPQ @List.nil_append.{0} <| aPQ @List.drop_zero.{0} <| aPQ @List.drop_succ_cons.{0} <| aPQ @List.take_succ_cons.{0} <| aPQ @List.take_zero.{0} <| aPQ @aJa <| aPQ @aIp <| aPQ @aMh <| aPQ @Option.map_some.{0, 0} <| aPQ @List.replicate_succ.{0} <| aPQ @List.replicate_zero.{0} <| aPQ @List.set_cons_zero.{0} <| aPQ @List.set_cons_succ.{0} <| aPQ @Nat.le_refl <| aPQ @and_self <| aPQ @true_and <| aPQ @and_true <| aPQ @if_true.{1} <| aPQ @Bool.not_true <| aPQ @Bool.not_false <| aPQ @Int.toNat_natCast <| @Nat.zero_add
theorem gM {p q : Prop} (h : q) (t : q → p := by
 intro hgo
 repeat' first
  | (with_reducible first | refine eT ?_ | refine eN ?_ | refine eS ?_ | refine eXn ?_ | refine eXr ?_ | refine eX ?_ | refine eI ?_ | refine eK ?_ | refine eV0 ?_ | refine sW ?_ | refine sX ?_ | refine sV ?_ | refine tD ?_ | refine tB ?_ | refine sY ?_)
  | ((with_reducible apply eCn); (simp only [eG, eF]; first | done | (with_reducible exact rfl)))
  | ((with_reducible apply eJ); (rfl))
  | ((with_reducible apply sZ); (first | rfl | (simp only [eG, eF]; rfl)))
  | ((with_reducible apply eL); (first | exact lx1 | exact lx2 | exact lx3))
  | ((with_reducible apply eB); (first | (with_reducible exact rfl) | (simp (disch := omega) only [qf, fx]; first | done | (with_reducible exact rfl) | (with_reducible exact ⟨rfl, rfl⟩)) | (simp (disch := omega) only [qa, jY, AV.cells, fQ, aY, lO, fR, fX, kX, Nat.reduceLeDiff, Nat.reduceLT, Nat.reduceAdd, ↓reduceIte, fx]; first | done | (with_reducible exact rfl) | (with_reducible exact ⟨rfl, rfl⟩))))
  | ((with_reducible apply eR); (simp only [eG, eF]; (with_reducible exact rfl)))
  | ((with_reducible first | refine tY ?_ ?_ | refine tU ?_ ?_ | refine tQ ?_ ?_ | refine tW ?_ ?_ | refine uE ?_ ?_ | refine tP ?_ ?_ | refine tX ?_ ?_ | refine pB ?_ ?_ | refine sGd ?_ ?_ | refine oZ ?_ ?_) <;> intro hq <;> try subst hq)
 all_goals first | omega | exact hgo) : p := t h
theorem wkC {p : Prop} (t : p := by
 repeat' first
  | (with_reducible first | refine eT ?_ | refine eN ?_ | refine eS ?_ | refine eXn ?_ | refine eXr ?_ | refine eX ?_ | refine eI ?_ | refine eK ?_ | refine eV0 ?_ | refine sW ?_ | refine sX ?_ | refine sV ?_ | refine tD ?_ | refine tB ?_ | refine sY ?_)
  | ((with_reducible apply eCn); (simp only [eG, eF]; first | done | (with_reducible exact rfl)))
  | ((with_reducible apply eJ); (rfl))
  | ((with_reducible apply sZ); (first | rfl | (simp only [eG, eF]; rfl)))
  | ((with_reducible apply eL); (first | exact lx1 | exact lx2 | exact lx3))
  | ((with_reducible apply eB); (first | (with_reducible exact rfl) | (simp (disch := omega) only [qf, fx]; first | done | (with_reducible exact rfl) | (with_reducible exact ⟨rfl, rfl⟩)) | (simp (disch := omega) only [qa, jY, AV.cells, fQ, aY, lO, fR, fX, kX, Nat.reduceLeDiff, Nat.reduceLT, Nat.reduceAdd, ↓reduceIte, fx]; first | done | (with_reducible exact rfl) | (with_reducible exact ⟨rfl, rfl⟩))))
  | ((with_reducible apply eR); (simp only [eG, eF]; (with_reducible exact rfl)))
  | ((with_reducible first | refine tY ?_ ?_ | refine tU ?_ ?_ | refine tQ ?_ ?_ | refine tW ?_ ?_ | refine uE ?_ ?_ | refine tP ?_ ?_ | refine tX ?_ ?_ | refine pB ?_ ?_ | refine sGd ?_ ?_ | refine oZ ?_ ?_) <;> intro hq <;> try subst hq)
 all_goals first | omega | (refine uH ?_; first | exact (decide_eq_true (by omega)).symm | exact (decide_eq_false (by omega)).symm)) : p := t
theorem kM {p q : Prop} (h : q) (t : q → p := by
 intro hgo
 repeat first
  | (with_reducible first | refine eT ?_ | refine eN ?_ | refine eS ?_ | refine eXn ?_ | refine eXr ?_ | refine eX ?_ | refine eI ?_ | refine eK ?_ | refine eV0 ?_ | refine sW ?_ | refine sX ?_ | refine sV ?_ | refine tD ?_ | refine tB ?_ | refine sY ?_)
  | ((with_reducible apply eCn); (simp only [eG, eF]; first | done | (with_reducible exact rfl)))
  | ((with_reducible apply eJ); (rfl))
  | ((with_reducible apply sZ); (first | rfl | (simp only [eG, eF]; rfl)))
  | ((with_reducible apply eL); (first | exact lx1 | exact lx2 | exact lx3))
  | ((with_reducible apply eB); (first | (with_reducible exact rfl) | (simp (disch := omega) only [qf, fx]; first | done | (with_reducible exact rfl) | (with_reducible exact ⟨rfl, rfl⟩)) | (simp (disch := omega) only [qa, jY, AV.cells, fQ, aY, lO, fR, fX, kX, Nat.reduceLeDiff, Nat.reduceLT, Nat.reduceAdd, ↓reduceIte, fx]; first | done | (with_reducible exact rfl) | (with_reducible exact ⟨rfl, rfl⟩))))
  | ((with_reducible apply eR); (simp only [eG, eF]; (with_reducible exact rfl)))
 exact hgo) : p := t h
theorem vI {f : AV → Option AV} : ∀ {xs : List AV}, (∀ x ∈ xs, f x = some x) → nP f xs = some xs
 | [], _ => rfl
 | x :: xs, h => by
  have h2 := vI (f := f) (xs := xs) (fun y hy => h y (List.mem_cons_of_mem _ hy))
  simp only [nP, h x (by simp), h2]
theorem qP {n : Nat} : ∀ {xs : List AV} (_ : dH n xs = true) (x : AV) (_ : x ∈ xs), cG n x = true
 | [], _, _, hx => by cases hx
 | y :: xs, h, x, hx => by
  simp only [dH, Bool.and_eq_true] at h
  rcases List.mem_cons.1 hx with rfl | hx
  ·exact h.1
  ·exact qP h.2 x hx
mutual
theorem lE {n m : Nat} (h : n ≤ m) : ∀ {x : AV}, cG n x = true → cG m x = true
 | .ptr .., hx => by simp [cG] at hx ⊢; omega
 | .sl .., hx => by simp [cG] at hx ⊢; omega
 | .fn _ caps, hx => by simp only [cG] at hx ⊢; exact nM h hx
 | .iface _ v, hx => by simp only [cG] at hx ⊢; exact lE h hx
 | .agg cs, hx => by simp only [cG] at hx ⊢; exact nM h hx
 | .tup vs, hx => by simp only [cG] at hx ⊢; exact nM h hx
 | .ro _ xs, hx => by simp only [cG] at hx ⊢; exact nM h hx
 | .rp _ x _, hx => by simp only [cG] at hx ⊢; exact lE h hx
 | .undef, _ => rfl
 | .bool _, _ => rfl
 | .int .., _ => rfl
 | .str _, _ => rfl
 | .nilp, _ => rfl
 | .nilf, _ => rfl
 | .nili, _ => rfl
 | .gl _, _ => rfl
 | .gp _, _ => rfl
 | .nils, _ => rfl
 | .anyb, _ => rfl
theorem nM {n m : Nat} (h : n ≤ m) : ∀ {xs : List AV}, dH n xs = true → dH m xs = true
 | [], _ => rfl
 | x :: xs, hx => by
  simp only [dH, Bool.and_eq_true] at hx ⊢
  exact ⟨lE h hx.1, nM h hx.2⟩
end
theorem aHF {H : aF} {n d : Nat} {x : AV} (h : cG n x = true) : aAq (xD H n d) x = some x := by
 cases x with
 | agg cs =>
  simp only [cG] at h
  have : nP (xD H n d) cs = some cs := vI fun y hy => mI (qP h y hy) d
  simp only [aAq, this]
 | _ => exact mI h d
theorem wZ {H : aF} {b n0 d n sz ty : Nat} {xs : List AV} (hb : H[b]? = some ⟨ty, sz, xs⟩) (hn : n0 ≤ b) (hl : xs.length = n) (hs : pV sz xs = true) (hx : dH n0 xs = true) :
  xD H n0 (d + 1) (.sl b n 0 n sz) = some (.ro false xs) := by
 have h1 : cG n0 (.sl b n 0 n sz) = false := by simp [cG]; omega
 have h2 : nP (aAq (xD H n0 d)) xs = some xs := vI fun x h => aHF (qP hx x h)
 have h3 : jF (.sl b n 0 n sz) H = some xs := by
  simp only [jF, hb, hl, if_true, List.drop_zero]
  rw [List.take_of_length_le (by omega)]
 unfold xD
 simp only [h1, h3, hs, h2]
theorem sK {α : Type} (s : Nat) (e : α → AV) (h : ∀ a, (e a).cells.length = s) (xs : List α) : pV s (xs.map e) = true := by
 unfold pV
 simp [List.all_eq_true, h]
theorem rW {g : cN} {args : List AV} {r : AV} {H H' : aF} (h : g args H = some (r, H')) (hl : H.length ≤ H'.length) : bM g args H = some (r, H') := by
 simp only [bM, h, hl, if_true]
theorem aLs {x y : AV} {n : Nat} {H : aF} (h : xD H n 6 x = some y) (hb : dY n (H.take n) = true) : bH [x] n H = some (.ret, [y], H.take n) := by
 have hc : iR n [] H = some (H.take n) := by unfold iR; simp only [dH, hb, Bool.true_and]
 unfold bH rC
 simp only [h, hc]
theorem aGm {H : aF} {n d : Nat} {cs zs : List AV} (hb : dH n cs = false) (h : nP (xD H n d) cs = some zs) : xD H n (d + 1) (.agg cs) = some (.agg zs) := by
 unfold xD
 simp only [cG, hb, h]
theorem aGv {H : aF} {n d : Nat} {cs zs : List AV} (hb : dH n cs = false) (h : nP (xD H n d) cs = some zs) : xD H n (d + 1) (.tup cs) = some (.tup zs) := by
 unfold xD
 simp only [cG, hb, h]
theorem jZ {f : AV → Option AV} {x y : AV} {xs ys : List AV} (h : f x = some y) (hs : nP f xs = some ys) : nP f (x :: xs) = some (y :: ys) := by
 simp only [nP, h, hs]
theorem vU {f : AV → Option AV} : nP f [] = some [] := rfl
end Go.Proofs.YtdfglgnflldkpaaDoor.Mir
