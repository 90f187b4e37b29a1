/- Part 4 of the proof: the evaluator and its soundness. -/
import Derived.Test.YtdfglgnflldkpaaDoorVg3
namespace Go.Proofs.YtdfglgnflldkpaaDoor.Mir
open Go
set_option linter.unusedSimpArgs false
set_option linter.unusedVariables false
abbrev KK := Ex → List AV → aF → Option fL
def E {γ : Type} (f : Option fL → Option γ) (ks : List KK) (m : Option fL) (r : Option γ) : Prop := f (ks.foldl dO m) = r
section
variable {γ : Type} {f : Option fL → Option γ} {ks : List KK} {r : Option γ}
theorem dX {m : Option fL} (h : E f [] m r) : f m = r := h
theorem jU {m r : Option fL} (h : E (fun x => x) [] m r) : m = r := h
theorem iA {m : Option fL} (h : f m = r) : E f [] m r := h
theorem eB {m : Option (AV × aF)} {k : AV → aF → Option fL} {v : AV} {H : aF} (h : m = some (v, H)) (h2 : E f ks (k v H) r) : E f ks (aB m k) r := by rw [h]; exact h2
theorem eR {m m' : Option (AV × aF)} {k : AV → aF → Option fL} (h : m = m') (h2 : E f ks (aB m' k) r) : E f ks (aB m k) r := by rw [h]; exact h2
theorem eT {a b : Option fL} (h : E f ks a r) : E f ks (aK (.bool true) a b) r := h
theorem eN {a b : Option fL} (h : E f ks b r) : E f ks (aK (.bool false) a b) r := h
theorem xA {H : aF} {m : Option (AV × aF)} {k : AV → aF → Option fL} (h : E f ks (aB m k) r) : E f ks (aB (gd (.bool true) true H m) k) r := by rw [aCX]; exact h
theorem wU {H : aF} {m : Option (AV × aF)} {k : AV → aF → Option fL} (h : E f ks (aB m k) r) : E f ks (aB (gd (.bool false) false H m) k) r := by rw [aCT]; exact h
theorem wZ {H : aF} {m : Option (AV × aF)} {k : AV → aF → Option fL} (h : E f ks (k (.tup []) H) r) : E f ks (aB (gd (.bool true) false H m) k) r := by rw [aCW]; exact h
theorem wV {H : aF} {m : Option (AV × aF)} {k : AV → aF → Option fL} (h : E f ks (k (.tup []) H) r) : E f ks (aB (gd (.bool false) true H m) k) r := by rw [aCU]; exact h
theorem wW {H : aF} {w : Bool} {m : Option (AV × aF)} {k : AV → aF → Option fL} (h : E f ks (k (.tup []) H) r) : E f ks (aB (gd (.tup []) w H m) k) r := by rw [aCV]; exact h
theorem eCn {xs : List AV} {i : Nat} {c : AV} {a b : Option fL} (hc : aH xs i = c) (h : E f ks (aK c a b) r) : E f ks (aK (aH xs i) a b) r := by rw [hc]; exact h
theorem qK {b : Bool} {x y : Option fL} (h1 : b = true → E f ks x r) (h2 : b = false → E f ks y r) : E f ks (aK (.bool b) x y) r := by
 cases b
 ·exact h2 rfl
 ·exact h1 rfl
theorem eK {m : Option fL} {k : KK} (h : E f (k :: ks) m r) : E f ks (dO m k) r := h
theorem eS {k : KK} {e : Ex} {xs : List AV} {H : aF} (h : E f ks (k e xs H) r) : E f (k :: ks) (some (e, xs, H)) r := h
theorem eL {m : Option fL} {o : fL} (h : m = some o) (h2 : E f ks (some o) r) : E f ks m r := by rw [h]; exact h2
theorem eX {a : Option fL} {b : Nat → Option fL} {r0 : Option fL} {i : Nat} (h : E f ks (b i) r) : E f ks (jB (.exit i) a b r0) r := h
theorem eXn {a : Option fL} {b : Nat → Option fL} {r0 : Option fL} (h : E f ks a r) : E f ks (jB .normal a b r0) r := h
theorem eXr {a : Option fL} {b : Nat → Option fL} {r0 : Option fL} (h : E f ks r0 r) : E f ks (jB .ret a b r0) r := h
theorem eI {i : Nat} {a b : Option fL} (h : E f ks a r) : E f ks (if i = i then a else b) r := by rw [if_pos rfl]; exact h
theorem eJ {i j : Nat} {a b : Option fL} (hij : (i == j) = false) (h : E f ks b r) : E f ks (if i = j then a else b) r := by rw [if_neg (by simpa using hij)]; exact h
theorem eC {n : Nat} {xs : List AV} {H H' : aF} {k : aF → Option fL} (h : iL n xs H = some H') (h2 : E f ks (k H') r) : E f ks (qJ n xs H k) r := by unfold qJ; rw [h]; exact h2
theorem wX {m : Option fL} (h : E f ks m r) : E f ks (grd [] m) r := h
theorem wY {a b : AV} {l : List (AV × AV)} {m : Option fL} (h : nA a b = true) (h2 : E f ks (grd l m) r) : E f ks (grd ((a, b) :: l) m) r := by unfold grd; rw [h]; exact h2
theorem eV0 {H : aF} {k : aF → Option fL} (h2 : E f ks (k H) r) : E f ks (vK [] H k) r := by rw [aMx]; exact h2
theorem eV1 {q : AV × Nat × Nat × Nat} {l : List (AV × Nat × Nat × Nat)} {H H1 : aF} {k : aF → Option fL} (h : nT q H = H1) (h2 : E f ks (vK l H1 k) r) : E f ks (vK (q :: l) H k) r := by rw [aKh, h]; exact h2
variable {P : Program} {t : Nat} {c : Bool} {k : IntKind} {a b : Int} {H : aF} {K : AV → aF → Option fL}
theorem zS (h1 : a = b → E f ks (K (.bool true) H) r) (h2 : a ≠ b → E f ks (K (.bool false) H) r) : E f ks (aB (pu H (aQ P .eql t c (.int k a) (.int k b))) K) r := by
 rw [jW]; by_cases h : a = b
 ·rw [decide_eq_true h]; exact h1 h
 ·rw [decide_eq_false h]; exact h2 h
theorem zX (h1 : a ≠ b → E f ks (K (.bool true) H) r) (h2 : a = b → E f ks (K (.bool false) H) r) : E f ks (aB (pu H (aQ P .neq t c (.int k a) (.int k b))) K) r := by
 rw [sV]; by_cases h : a ≠ b
 ·rw [decide_eq_true h]; exact h1 h
 ·rw [decide_eq_false h]; exact h2 (Classical.not_not.1 h)
theorem zW (h1 : a < b → E f ks (K (.bool true) H) r) (h2 : b ≤ a → E f ks (K (.bool false) H) r) : E f ks (aB (pu H (aQ P .lss t c (.int k a) (.int k b))) K) r := by
 rw [lP]; by_cases h : a < b
 ·rw [decide_eq_true h]; exact h1 h
 ·rw [decide_eq_false h]; exact h2 (by omega)
theorem zV (h1 : a ≤ b → E f ks (K (.bool true) H) r) (h2 : b < a → E f ks (K (.bool false) H) r) : E f ks (aB (pu H (aQ P .leq t c (.int k a) (.int k b))) K) r := by
 rw [aBx]; by_cases h : a ≤ b
 ·rw [decide_eq_true h]; exact h1 h
 ·rw [decide_eq_false h]; exact h2 (by omega)
theorem zU (h1 : b < a → E f ks (K (.bool true) H) r) (h2 : a ≤ b → E f ks (K (.bool false) H) r) : E f ks (aB (pu H (aQ P .gtr t c (.int k a) (.int k b))) K) r := by
 rw [aBw]; by_cases h : b < a
 ·rw [decide_eq_true h]; exact h1 h
 ·rw [decide_eq_false h]; exact h2 (by omega)
theorem zT (h1 : b ≤ a → E f ks (K (.bool true) H) r) (h2 : a < b → E f ks (K (.bool false) H) r) : E f ks (aB (pu H (aQ P .geq t c (.int k a) (.int k b))) K) r := by
 rw [lE]; by_cases h : b ≤ a
 ·rw [decide_eq_true h]; exact h1 h
 ·rw [decide_eq_false h]; exact h2 (by omega)
theorem zY {g : Bool} (h1 : g = true → E f ks (K (.bool false) H) r) (h2 : g = false → E f ks (K (.bool true) H) r) : E f ks (aB (pu H (un .not (.bool g))) K) r := by
 rw [aAj]
 cases g
 ·exact h2 rfl
 ·exact h1 rfl
theorem qZ {g : Bool} {x y : AV} (h1 : g = true → E f ks (K x H) r) (h2 : g = false → E f ks (K y H) r) : E f ks (aB (pu H (dM (.bool g) x y)) K) r := by
 cases g
 ·exact h2 rfl
 ·exact h1 rfl
theorem sGd {g : Bool} {w : Bool} {m : Option (AV × aF)} (h1 : g = true → E f ks (aB (gd (.bool true) w H m) K) r) (h2 : g = false → E f ks (aB (gd (.bool false) w H m) K) r) : E f ks (aB (gd (.bool g) w H m) K) r := by
 cases g
 ·exact h2 rfl
 ·exact h1 rfl
end
section
variable {P : Program} {t : Nat} {c : Bool} {k : IntKind} {a b : Int}
theorem jX (h : a = b) : aQ P .eql t c (.int k a) (.int k b) = some (.bool true) := by rw [jW, decide_eq_true h]
theorem gU (h : a ≠ b) : aQ P .eql t c (.int k a) (.int k b) = some (.bool false) := by rw [jW, decide_eq_false h]
theorem aCa (h : a ≠ b) : aQ P .neq t c (.int k a) (.int k b) = some (.bool true) := by rw [sV, decide_eq_true h]
theorem aBZ (h : a = b) : aQ P .neq t c (.int k a) (.int k b) = some (.bool false) := by rw [sV, decide_eq_false (fun h' => h' h)]
theorem pR (h : a < b) : aQ P .lss t c (.int k a) (.int k b) = some (.bool true) := by rw [lP, decide_eq_true h]
theorem rO (h : b ≤ a) : aQ P .lss t c (.int k a) (.int k b) = some (.bool false) := by rw [lP, decide_eq_false (by omega)]
theorem uA (h : a ≤ b) : aQ P .leq t c (.int k a) (.int k b) = some (.bool true) := by rw [aBx, decide_eq_true h]
theorem xT (h : b < a) : aQ P .leq t c (.int k a) (.int k b) = some (.bool false) := by rw [aBx, decide_eq_false (by omega)]
theorem aBY (h : b < a) : aQ P .gtr t c (.int k a) (.int k b) = some (.bool true) := by rw [aBw, decide_eq_true h]
theorem tZ (h : a ≤ b) : aQ P .gtr t c (.int k a) (.int k b) = some (.bool false) := by rw [aBw, decide_eq_false (by omega)]
theorem aBX (h : b ≤ a) : aQ P .geq t c (.int k a) (.int k b) = some (.bool true) := by rw [lE, decide_eq_true h]
theorem tY (h : a < b) : aQ P .geq t c (.int k a) (.int k b) = some (.bool false) := by rw [lE, decide_eq_false (by omega)]
theorem aDw (h0 : -9223372036854775808 ≤ a + b) (h1 : a + b < 9223372036854775808) : aQ P .add t c (.int .i64 a) (.int .i64 b) = some (.int .i64 (a + b)) := by rw [kH, fD h0 h1]
theorem aFI (h0 : -9223372036854775808 ≤ a - b) (h1 : a - b < 9223372036854775808) : aQ P .sub t c (.int .i64 a) (.int .i64 b) = some (.int .i64 (a - b)) := by rw [xM, fD h0 h1]
theorem aHH (h0 : 0 ≤ a + b) (h1 : a + b < 18446744073709551616) : aQ P .add t c (.int .u64 a) (.int .u64 b) = some (.int .u64 (a + b)) := by rw [kH, eD h0 h1]
theorem aHL (h0 : -9223372036854775808 ≤ a) (h1 : a < 9223372036854775808) : aJ .i64 (.int k a) = some (.int .i64 a) := by rw [dW, fD h0 h1]
theorem aKP (h0 : 0 ≤ a) (h1 : a < 18446744073709551616) : aJ .u64 (.int k a) = some (.int .u64 a) := by rw [dW, eD h0 h1]
theorem aKO (h0 : 0 ≤ a) (h1 : a < 256) : aJ .u8 (.int k a) = some (.int .u8 a) := by rw [dW, aEX h0 h1]
theorem bB (h0 : 0 ≤ a) (h1 : a < 4294967296) : aJ .u32 (.int k a) = some (.int .u32 a) := by rw [dW, mR h0 h1]
theorem rN {s bl L o m : Nat} (h0 : 0 ≤ a) (h1 : a < (m : Int)) : cB s (.sl bl L o m s) (.int k a) = some (.ptr bl L (o + a.toNat) 0) := by simp [cB, h0, h1]
theorem aFD {bor : Bool} {xs : List AV} : dV (.ro bor xs) = some (.int .i64 (xs.length : Int)) := by unfold dV; rfl
theorem aFE {bl L o m s : Nat} : dV (.sl bl L o m s) = some (.int .i64 (m : Int)) := by unfold dV; rfl
theorem aDy : dV .nils = some (.int .i64 0) := by unfold dV; rfl
theorem aHV {bl L i o : Nat} : kL (.ptr bl L i o) = some (.ptr bl L i o) := by unfold kL; rfl
theorem aFH {bor : Bool} {x : AV} {o : Nat} : kL (.rp bor x o) = some (.rp bor x o) := by unfold kL; rfl
theorem aFF {g : Nat} {caps : List AV} : kL (.fn g caps) = some (.fn g caps) := by unfold kL; rfl
theorem aFG {g : Nat} : kL (.gl g) = some (.gl g) := by unfold kL; rfl
theorem aKQ {off bl L i o : Nat} : aA off (.ptr bl L i o) = some (.ptr bl L i (o + off)) := by unfold aA; rfl
theorem aHP {off : Nat} {bor : Bool} {x : AV} {o : Nat} : aA off (.rp bor x o) = some (.rp bor x (o + off)) := by unfold aA; rfl
theorem aEz {G : aI} {s : Nat} {bor : Bool} {cs : List AV} {o : Nat} {H : aF} : aC G false s (.rp bor (.agg cs) o) H = cs[o]? := by unfold aC lY; rfl
theorem aDx {cs : List AV} {H : aF} : dH (.agg cs) H = some (.rp false (.agg cs) 0, H) := by unfold dH; rfl
theorem aHM {u : AV} {l : List AV} : cL (.tup (u :: l)) 0 = some u := by unfold cL; rfl
theorem aHN {u v : AV} {l : List AV} : cL (.tup (u :: v :: l)) 1 = some v := by unfold cL; rfl
theorem aHO {u v w : AV} {l : List AV} : cL (.tup (u :: v :: w :: l)) 2 = some w := by unfold cL; rfl
theorem aHX : un .not (.bool true) = some (.bool false) := by rw [aAj]; rfl
theorem aHW : un .not (.bool false) = some (.bool true) := by rw [aAj]; rfl
theorem aKT {H : aF} : eH (some H) = some (.tup [], H) := by unfold eH; rfl
end
section
variable {G : aI} {g : Bool} {s b L i o t z : Nat} {cs : List AV} {blk : ABlk} {H : aF} {v x : AV}
def ldB (g : Bool) (s L i o : Nat) (blk : ABlk) : Option AV := if blk.elems.length = L then (match blk.elems[i]? with | some x => lY g s x.cells o | none => none) else none
def stB (s L i o : Nat) (v : AV) (blk : ABlk) : Option ABlk := if blk.elems.length = L ∧ fF v = true ∧ v.cells.length = s then
    (match blk.elems[i]? with
     | some x => if o + s ≤ x.cells.length then some { blk with elems := blk.elems.set i (qW x (jM x.cells o v.cells)) } else none
     | none => none) else none
theorem aHT : aC G g s (.ptr 0 L i o) (blk :: H) = ldB g s L i o blk := by unfold aC ldB; rfl
theorem aHU : aC G g s (.ptr (b + 1) L i o) (blk :: H) = aC G g s (.ptr b L i o) H := by unfold aC; rfl
theorem aKR : ldB false s 1 0 o ⟨t, z, [.agg cs]⟩ = cs[o]? := by unfold ldB lY; rfl
theorem aHQ : ldB true s 1 0 o ⟨t, z, [.agg cs]⟩ = if o + s ≤ cs.length then some (.agg ((cs.drop o).take s)) else none := by unfold ldB lY; rfl
theorem jC {bor : Bool} : aC G true s (.rp bor (.agg cs) o) H = if o + s ≤ cs.length then some (.agg ((cs.drop o).take s)) else none := by unfold aC lY; rfl
theorem aHS {k : IntKind} {n : Int} : ldB false s 1 0 0 ⟨t, z, [.int k n]⟩ = some (.int k n) := by unfold ldB lY; rfl
theorem aHR {c : Bool} : ldB false s 1 0 0 ⟨t, z, [.bool c]⟩ = some (.bool c) := by unfold ldB lY; rfl
theorem aHY : aO s (.ptr 0 L i o) v (blk :: H) = (stB s L i o v blk).map (· :: H) := by
 unfold aO stB
 simp only [List.getElem?_cons_zero]
 split
 ·cases blk.elems[i]? with
  | none => rfl
  | some x => simp only; split <;> rfl
 ·rfl
theorem aHZ : aO s (.ptr (b + 1) L i o) v (blk :: H) = (aO s (.ptr b L i o) v H).map (blk :: ·) := by
 unfold aO
 simp only [List.getElem?_cons_succ]
 cases H[b]? with
 | none => rfl
 | some y =>
  simp only
  split
  ·cases y.elems[i]? with
   | none => rfl
   | some x => simp only; split <;> rfl
  ·rfl
theorem aKS : stB s 1 0 o v ⟨t, z, [.agg cs]⟩ = if fF v = true ∧ v.cells.length = s ∧ o + s ≤ cs.length then some ⟨t, z, [.agg (jM cs o v.cells)]⟩ else none := by
 have e : (AV.agg cs).cells = cs := rfl
 unfold stB
 by_cases h1 : fF v = true ∧ v.cells.length = s
 ·by_cases h2 : o + s ≤ cs.length <;> simp [e, h1, h2, qW]
 ·have h3 : ¬ (fF v = true ∧ v.cells.length = s ∧ o + s ≤ cs.length) := fun h => h1 ⟨h.1, h.2.1⟩
  rw [if_neg h3, if_neg (fun h => h1 h.2)]
theorem aHI : eY t (.agg (x :: cs)) H = some (.ptr H.length 1 0 0, H ++ [⟨t, cs.length + 1, [.agg (x :: cs)]⟩]) := by
 unfold eY; simp [fF, AV.cells]
theorem aHK {k : IntKind} {n : Int} : eY t (.int k n) H = some (.ptr H.length 1 0 0, H ++ [⟨t, 1, [.int k n]⟩]) := by unfold eY; rfl
theorem aHJ {c : Bool} : eY t (.bool c) H = some (.ptr H.length 1 0 0, H ++ [⟨t, 1, [.bool c]⟩]) := by unfold eY; rfl
end
theorem w1 {x x' : AV} {H : aF} (h : cK 0 x = true) (e : x = x') : E fZ [] (bK [x] 0 H) (some (x', [])) := by subst e; exact oF (nI h H)
theorem w2 {x y r : AV} {H : aF} (hx : cK 0 x = true) (hy : cK 0 y = true) (e : AV.tup [x, y] = r) : E fZ [] (bK [x, y] 0 H) (some (r, [])) := by subst e; exact oF (yO hx hy H)
theorem sN {k : IntKind} {n n' : Int} {H : aF} (e : n = n') : E fZ [] (bK [.int k n] 0 H) (some (.int k n', [])) := w1 rfl (by rw [e])
theorem xG {b b' : Bool} {H : aF} (e : b = b') : E fZ [] (bK [.bool b] 0 H) (some (.bool b', [])) := w1 rfl (by rw [e])
theorem mY {k : IntKind} {n n' : Int} {b b' : Bool} {H : aF} (e : n = n') (e2 : b = b') : E fZ [] (bK [.int k n, .bool b] 0 H) (some (.tup [.int k n', .bool b'], [])) := w2 rfl rfl (by rw [e, e2])
theorem qf : type_of% (aOO @vH <| aOO @eG <| aOO @eF <| aOO @aCX <| aOO @aCT <| aOO @aCW <| aOO @aCU <| @aCV) := aOO @vH <| aOO @eG <| aOO @eF <| aOO @aCX <| aOO @aCT <| aOO @aCW <| aOO @aCU <| @aCV
theorem qa : type_of% (aOO qf <| aOO @pP <| aOO @oG <| aOO @aHX <| aOO @aHW <| aOO @jX <| aOO @gU <| aOO @aCa <| aOO @aBZ <| aOO @pR <| aOO @rO <| aOO @uA <| aOO @xT <| aOO @aBY <| aOO @tZ <| aOO @aBX <| aOO @tY <| aOO @aDw <| aOO @aFI <| aOO @aHH <| aOO @aHL <| aOO @aKP <| aOO @aKO <| aOO @bB <| aOO @rN <| aOO @aFD <| aOO @aFE <| aOO @aDy <| aOO @aHV <| aOO @aFH <| aOO @aFF <| aOO @aFG <| aOO @aKQ <| aOO @aHP <| aOO @aEz <| aOO @aDx <| aOO @aHM <| aOO @aHN <| aOO @aHO <| aOO @List.getElem?_cons_zero.{0} <| aOO @List.getElem?_cons_succ.{0} <| aOO @List.getElem?_nil.{0} <| aOO @aKT <| aOO @aHT <| aOO @aHU <| aOO @aKR <| aOO @aHQ <| aOO @jC <| aOO @aHS <| aOO @aHR <| aOO @aHI <| aOO @aHK <| aOO @aHJ <| aOO @List.length_cons.{0} <| aOO @List.length_nil.{0} <| aOO @List.cons_append.{0} <| aOO @List.nil_append.{0} <| aOO @List.drop_zero.{0} <| aOO @List.drop_succ_cons.{0} <| aOO @List.take_succ_cons.{0} <| aOO @List.take_zero.{0} <| aOO @aHY <| aOO @aHZ <| aOO @aKS <| aOO @Option.map_some.{0, 0} <| aOO @List.replicate_succ.{0} <| aOO @List.replicate_zero.{0} <| aOO @List.set_cons_zero.{0} <| aOO @List.set_cons_succ.{0} <| aOO @Nat.le_refl <| aOO @and_self <| aOO @true_and <| aOO @and_true <| aOO @if_true.{1} <| aOO @Bool.not_true <| aOO @Bool.not_false <| aOO @Int.toNat_natCast <| @Nat.zero_add) := aOO qf <| aOO @pP <| aOO @oG <| aOO @aHX <| aOO @aHW <| aOO @jX <| aOO @gU <| aOO @aCa <| aOO @aBZ <| aOO @pR <| aOO @rO <| aOO @uA <| aOO @xT <| aOO @aBY <| aOO @tZ <| aOO @aBX <| aOO @tY <| aOO @aDw <| aOO @aFI <| aOO @aHH <| aOO @aHL <| aOO @aKP <| aOO @aKO <| aOO @bB <| aOO @rN <| aOO @aFD <| aOO @aFE <| aOO @aDy <| aOO @aHV <| aOO @aFH <| aOO @aFF <| aOO @aFG <| aOO @aKQ <| aOO @aHP <| aOO @aEz <| aOO @aDx <| aOO @aHM <| aOO @aHN <| aOO @aHO <| aOO @List.getElem?_cons_zero.{0} <| aOO @List.getElem?_cons_succ.{0} <| aOO @List.getElem?_nil.{0} <| aOO @aKT <| aOO @aHT <| aOO @aHU <| aOO @aKR <| aOO @aHQ <| aOO @jC <| aOO @aHS <| aOO @aHR <| aOO @aHI <| aOO @aHK <| aOO @aHJ <| aOO @List.length_cons.{0} <| aOO @List.length_nil.{0} <| aOO @List.cons_append.{0} <| aOO @List.nil_append.{0} <| aOO @List.drop_zero.{0} <| aOO @List.drop_succ_cons.{0} <| aOO @List.take_succ_cons.{0} <| aOO @List.take_zero.{0} <| aOO @aHY <| aOO @aHZ <| aOO @aKS <| aOO @Option.map_some.{0, 0} <| aOO @List.replicate_succ.{0} <| aOO @List.replicate_zero.{0} <| aOO @List.set_cons_zero.{0} <| aOO @List.set_cons_succ.{0} <| aOO @Nat.le_refl <| aOO @and_self <| aOO @true_and <| aOO @and_true <| aOO @if_true.{1} <| aOO @Bool.not_true <| aOO @Bool.not_false <| aOO @Int.toNat_natCast <| @Nat.zero_add
theorem gC {p q : Prop} (h : q) (t : q → p := by
 intro hgo
 repeat' first
  | (with_reducible first | refine eT ?_ | refine eN ?_ | refine eS ?_ | refine eXn ?_ | refine eXr ?_ | refine eX ?_ | refine eI ?_ | refine eK ?_ | refine eV0 ?_ | refine wX ?_ | refine xA ?_ | refine wU ?_ | refine wZ ?_ | refine wV ?_ | refine wW ?_)
  | ((with_reducible apply eCn); (simp only [eG, eF]; first | done | (with_reducible exact rfl)))
  | ((with_reducible apply eJ); (rfl))
  | ((with_reducible apply wY); (first | rfl | (simp only [eG, eF]; rfl)))
  | ((with_reducible apply eL); (first | exact lx1 | exact lx2 | exact lx3))
  | ((with_reducible apply eB); (first | (with_reducible exact rfl) | (simp (disch := omega) only [qf, fx]; first | done | (with_reducible exact rfl) | (with_reducible exact ⟨rfl, rfl⟩)) | (simp (disch := omega) only [qa, jM, AV.cells, fF, aZ, kZ, eP, fN, kS, Nat.reduceLeDiff, Nat.reduceLT, Nat.reduceAdd, ↓reduceIte, fx]; first | done | (with_reducible exact rfl) | (with_reducible exact ⟨rfl, rfl⟩))))
  | ((with_reducible apply eR); (simp only [eG, eF]; (with_reducible exact rfl)))
  | ((with_reducible first | refine zS ?_ ?_ | refine zX ?_ ?_ | refine zW ?_ ?_ | refine zV ?_ ?_ | refine zU ?_ ?_ | refine zT ?_ ?_ | refine zY ?_ ?_ | refine qZ ?_ ?_ | refine sGd ?_ ?_ | refine qK ?_ ?_) <;> intro hq <;> try subst hq)
 all_goals first | omega | exact hgo) : p := t h
theorem wkC {p : Prop} (t : p := by
 repeat' first
  | (with_reducible first | refine eT ?_ | refine eN ?_ | refine eS ?_ | refine eXn ?_ | refine eXr ?_ | refine eX ?_ | refine eI ?_ | refine eK ?_ | refine eV0 ?_ | refine wX ?_ | refine xA ?_ | refine wU ?_ | refine wZ ?_ | refine wV ?_ | refine wW ?_)
  | ((with_reducible apply eCn); (simp only [eG, eF]; first | done | (with_reducible exact rfl)))
  | ((with_reducible apply eJ); (rfl))
  | ((with_reducible apply wY); (first | rfl | (simp only [eG, eF]; rfl)))
  | ((with_reducible apply eL); (first | exact lx1 | exact lx2 | exact lx3))
  | ((with_reducible apply eB); (first | (with_reducible exact rfl) | (simp (disch := omega) only [qf, fx]; first | done | (with_reducible exact rfl) | (with_reducible exact ⟨rfl, rfl⟩)) | (simp (disch := omega) only [qa, jM, AV.cells, fF, aZ, kZ, eP, fN, kS, Nat.reduceLeDiff, Nat.reduceLT, Nat.reduceAdd, ↓reduceIte, fx]; first | done | (with_reducible exact rfl) | (with_reducible exact ⟨rfl, rfl⟩))))
  | ((with_reducible apply eR); (simp only [eG, eF]; (with_reducible exact rfl)))
  | ((with_reducible first | refine zS ?_ ?_ | refine zX ?_ ?_ | refine zW ?_ ?_ | refine zV ?_ ?_ | refine zU ?_ ?_ | refine zT ?_ ?_ | refine zY ?_ ?_ | refine qZ ?_ ?_ | refine sGd ?_ ?_ | refine qK ?_ ?_) <;> intro hq <;> try subst hq)
 all_goals first | omega | (refine xG ?_; first | exact (decide_eq_true (by omega)).symm | exact (decide_eq_false (by omega)).symm)) : p := t
theorem jL {p q : Prop} (h : q) (t : q → p := by
 intro hgo
 repeat first
  | (with_reducible first | refine eT ?_ | refine eN ?_ | refine eS ?_ | refine eXn ?_ | refine eXr ?_ | refine eX ?_ | refine eI ?_ | refine eK ?_ | refine eV0 ?_ | refine wX ?_ | refine xA ?_ | refine wU ?_ | refine wZ ?_ | refine wV ?_ | refine wW ?_)
  | ((with_reducible apply eCn); (simp only [eG, eF]; first | done | (with_reducible exact rfl)))
  | ((with_reducible apply eJ); (rfl))
  | ((with_reducible apply wY); (first | rfl | (simp only [eG, eF]; rfl)))
  | ((with_reducible apply eL); (first | exact lx1 | exact lx2 | exact lx3))
  | ((with_reducible apply eB); (first | (with_reducible exact rfl) | (simp (disch := omega) only [qf, fx]; first | done | (with_reducible exact rfl) | (with_reducible exact ⟨rfl, rfl⟩)) | (simp (disch := omega) only [qa, jM, AV.cells, fF, aZ, kZ, eP, fN, kS, Nat.reduceLeDiff, Nat.reduceLT, Nat.reduceAdd, ↓reduceIte, fx]; first | done | (with_reducible exact rfl) | (with_reducible exact ⟨rfl, rfl⟩))))
  | ((with_reducible apply eR); (simp only [eG, eF]; (with_reducible exact rfl)))
 exact hgo) : p := t h
theorem tO {f : AV → Option AV} : ∀ {xs : List AV}, (∀ x ∈ xs, f x = some x) → mQ f xs = some xs
 | [], _ => rfl
 | x :: xs, h => by
  have h2 := tO (f := f) (xs := xs) (fun y hy => h y (List.mem_cons_of_mem _ hy))
  simp only [mQ, h x (by simp), h2]
theorem pF {n : Nat} : ∀ {xs : List AV} (_ : cS n xs = true) (x : AV) (_ : x ∈ xs), cK n x = true
 | [], _, _, hx => by cases hx
 | y :: xs, h, x, hx => by
  simp only [cS, Bool.and_eq_true] at h
  rcases List.mem_cons.1 hx with rfl | hx
  ·exact h.1
  ·exact pF h.2 x hx
mutual
theorem kC {n m : Nat} (h : n ≤ m) : ∀ {x : AV}, cK n x = true → cK m x = true
 | .ptr .., hx => by simp [cK] at hx ⊢; omega
 | .sl .., hx => by simp [cK] at hx ⊢; omega
 | .fn _ caps, hx => by simp only [cK] at hx ⊢; exact mL h hx
 | .iface _ v, hx => by simp only [cK] at hx ⊢; exact kC h hx
 | .agg cs, hx => by simp only [cK] at hx ⊢; exact mL h hx
 | .tup vs, hx => by simp only [cK] at hx ⊢; exact mL h hx
 | .ro _ xs, hx => by simp only [cK] at hx ⊢; exact mL h hx
 | .rp _ x _, hx => by simp only [cK] at hx ⊢; exact kC h hx
 | .undef, _ => rfl
 | .bool _, _ => rfl
 | .int .., _ => rfl
 | .str _, _ => rfl
 | .nilp, _ => rfl
 | .nilf, _ => rfl
 | .nili, _ => rfl
 | .gl _, _ => rfl
 | .gp _, _ => rfl
 | .nils, _ => rfl
 | .anyb, _ => rfl
theorem mL {n m : Nat} (h : n ≤ m) : ∀ {xs : List AV}, cS n xs = true → cS m xs = true
 | [], _ => rfl
 | x :: xs, hx => by
  simp only [cS, Bool.and_eq_true] at hx ⊢
  exact ⟨kC h hx.1, mL h hx.2⟩
end
theorem aGe {H : aF} {n d : Nat} {x : AV} (h : cK n x = true) : yL (uV H n d) x = some x := by
 cases x with
 | agg cs =>
  simp only [cK] at h
  have : mQ (uV H n d) cs = some cs := tO fun y hy => lR (pF h y hy) d
  simp only [yL, this]
 | _ => exact lR h d
theorem yQ {H : aF} {b n0 d n sz ty : Nat} {xs : List AV} (hb : H[b]? = some ⟨ty, sz, xs⟩) (hn : n0 ≤ b) (hl : xs.length = n) (hs : oU sz xs = true) (hx : cS n0 xs = true) :
  uV H n0 (d + 1) (.sl b n 0 n sz) = some (.ro false xs) := by
 have h1 : cK n0 (.sl b n 0 n sz) = false := by simp [cK]; omega
 have h2 : mQ (yL (uV H n0 d)) xs = some xs := tO fun x h => aGe (pF hx x h)
 have h3 : iK (.sl b n 0 n sz) H = some xs := by
  simp only [iK, hb, hl, if_true, List.drop_zero]
  rw [List.take_of_length_le (by omega)]
 unfold uV
 simp only [h1, h3, hs, h2]
theorem rD {α : Type} (s : Nat) (e : α → AV) (h : ∀ a, (e a).cells.length = s) (xs : List α) : oU s (xs.map e) = true := by
 unfold oU
 simp [List.all_eq_true, h]
theorem qO {g : dE} {args : List AV} {r : AV} {H H' : aF} (h : g args H = some (r, H')) (hl : H.length ≤ H'.length) : bF g args H = some (r, H') := by
 simp only [bF, h, hl, if_true]
theorem aJe {x y : AV} {n : Nat} {H : aF} (h : uV H n 6 x = some y) (hb : dL n (H.take n) = true) : bK [x] n H = some (.ret, [y], H.take n) := by
 have hc : iL n [] H = some (H.take n) := by unfold iL; simp only [cS, hb, Bool.true_and]
 unfold bK pZ
 simp only [h, hc]
theorem aFq {H : aF} {n d : Nat} {cs zs : List AV} (hb : cS n cs = false) (h : mQ (uV H n d) cs = some zs) : uV H n (d + 1) (.agg cs) = some (.agg zs) := by
 unfold uV
 simp only [cK, hb, h]
theorem aJh {H : aF} {n d : Nat} {cs zs : List AV} (hb : cS n cs = false) (h : mQ (uV H n d) cs = some zs) : uV H n (d + 1) (.tup cs) = some (.tup zs) := by
 unfold uV
 simp only [cK, hb, h]
theorem kA {f : AV → Option AV} {x y : AV} {xs ys : List AV} (h : f x = some y) (hs : mQ f xs = some ys) : mQ f (x :: xs) = some (y :: ys) := by
 simp only [mQ, h, hs]
theorem yX {f : AV → Option AV} : mQ f [] = some [] := rfl
end Go.Proofs.YtdfglgnflldkpaaDoor.Mir
