/- Part 4 of the proof: the evaluator and its soundness. -/
import Derived.Test.YtcmblhedhgiofaaDoorZz3
namespace Go.Proofs.YtcmblhedhgiofaaDoor.Mir
open Go
set_option linter.unusedSimpArgs false
set_option linter.unusedVariables false
@[simp] theorem kH {γ : Type} (v : AV) (H : aB) (k : AV → aB → Option γ) : aD (some (v, H)) k = k v H := by unfold aD; rfl
@[simp] theorem aQ (H : aB) (v : AV) : pu H (some v) = some (v, H) := by unfold pu; rfl
@[simp] theorem uI (x y : Option dN) : bA (.bool true) x y = x := by unfold bA; rfl
@[simp] theorem kX (x y : Option dN) : bA (.bool false) x y = y := by unfold bA; rfl
@[simp] theorem cO (H : aB) (m : Option (AV × aB)) : gd (.bool true) true H m = m := by unfold gd; rfl
@[simp] theorem cK (H : aB) (m : Option (AV × aB)) : gd (.bool false) false H m = m := by unfold gd; rfl
@[simp] theorem cN (H : aB) (m : Option (AV × aB)) : gd (.bool true) false H m = some (.tup [], H) := by unfold gd; rfl
@[simp] theorem cL (H : aB) (m : Option (AV × aB)) : gd (.bool false) true H m = some (.tup [], H) := by unfold gd; rfl
@[simp] theorem cM (w : Bool) (H : aB) (m : Option (AV × aB)) : gd (.tup []) w H m = some (.tup [], H) := by unfold gd; rfl
@[simp] theorem aO (x y : AV) : eW (.bool true) x y = some x := by unfold eW; rfl
@[simp] theorem aK (x y : AV) : eW (.bool false) x y = some y := by unfold eW; rfl
@[simp] theorem aFR (e : Ex) (xs : List AV) (H : aB) (k : Ex → List AV → aB → Option dN) : fK (some (e, xs, H)) k = k e xs H := by unfold fK; rfl
@[simp] theorem aFx {γ : Type} (a : γ) (b : Nat → γ) (r : γ) : kY .normal a b r = a := by unfold kY; rfl
@[simp] theorem aGn {γ : Type} (i : Nat) (a : γ) (b : Nat → γ) (r : γ) : kY (.exit i) a b r = b i := by unfold kY; rfl
@[simp] theorem aGD {γ : Type} (a : γ) (b : Nat → γ) (r : γ) : kY .ret a b r = r := by unfold kY; rfl
@[simp] theorem aI (x : AV) (xs : List AV) : aS (x :: xs) 0 = x := by unfold aS; rfl
@[simp] theorem aH (x : AV) (xs : List AV) (i : Nat) : aS (x :: xs) (i + 1) = aS xs i := by rw [aS]
@[simp] theorem vE (r : AV) (H : aB) : fD (some (.ret, [r], H)) = some (r, H) := by unfold fD; rfl
@[congr] theorem aFW {γ : Type} {m m' : Option (AV × aB)} {k : AV → aB → Option γ} (h : m = m') : aD m k = aD m' k := by rw [h]
@[congr] theorem aFt {m m' : Option dN} {k : Ex → List AV → aB → Option dN} (h : m = m') : fK m k = fK m' k := by rw [h]
@[congr] theorem aFb {c c' : AV} {x y : Option dN} (h : c = c') : bA c x y = bA c' x y := by rw [h]
@[congr] theorem aFY {γ : Type} {e e' : Ex} {a : γ} {b : Nat → γ} {r : γ} (h : e = e') : kY e a b r = kY e' a b r := by rw [h]
@[congr] theorem aGo {g g' : AV} {w : Bool} {H : aB} {m : Option (AV × aB)} (h : g = g') : gd g w H m = gd g' w H m := by rw [h]
theorem wR (H : aB) : gT 0 [] H = some [] := rfl
theorem kD {H : aB} {n : Nat} {x : AV} (h : bX n x = true) (d : Nat) : rO H n d x = some x := by
 cases d <;> simp [rO, h]
theorem lV {x : AV} (h : bX 0 x = true) (H : aB) : cT [x] 0 H = some (.ret, [x], []) := by
 simp [cT, nP, kD h, wR]
theorem gU {x y : AV} (hx : bX 0 x = true) (hy : bX 0 y = true) (H : aB) : cT [x, y] 0 H = some (.ret, [.tup [x, y]], []) := by
 have : bX 0 (.tup [x, y]) = true := by simp [bX, bS, hx, hy]
 simp [cT, nP, kD this, wR]
@[simp] theorem aAd (k : IntKind) (n : Int) (H : aB) : cT [.int k n] 0 H = some (.ret, [.int k n], []) := lV rfl H
@[simp] theorem aY (b : Bool) (H : aB) : cT [.bool b] 0 H = some (.ret, [.bool b], []) := lV rfl H
theorem aBw {H : aB} {x : AV} (h : bT x = true) : vP H x = some x := by
 cases x with
 | agg cs =>
  simp only [bT] at h
  have : ∀ cs : List AV, fQ cs = true → gI H cs = some cs := by
   intro cs
   induction cs with
   | nil => intro _; rfl
   | cons y ys ih =>
    intro hp
    simp only [fQ, Bool.and_eq_true] at hp
    have h1 : rD H y = some y := by cases y <;> simp_all [rD, bT]
    simp [gI, h1, ih hp.2]
  simp [vP, this cs h]
 | _ => simp_all [vP, rD, bT]
theorem sW {H : aB} : ∀ {xs : List AV}, fQ xs = true → lH H xs = some xs
 | [], _ => rfl
 | x :: xs, h => by
  simp only [fQ, Bool.and_eq_true] at h
  simp [lH, aBw h.1, sW h.2]
theorem aX {g : cY} {args : List AV} {r : AV} {H : aB} (hg : g args [] = some (r, [])) (ha : fQ args = true) (hr : fL r = true) : aL g args H = some (r, H) := by
 simp [aL, sW ha, hg, hr]
section
variable (P : Program) (t : Nat) (c : Bool) (k k' : IntKind) (a b : Int)
@[simp] theorem gN : bE P .add t c (.int k a) (.int k b) = some (.int k (k.wrap (a + b))) := by simp [bE, gX]
@[simp] theorem tJ : bE P .sub t c (.int k a) (.int k b) = some (.int k (k.wrap (a - b))) := by simp [bE, gX]
@[simp] theorem aBL : bE P .mul t c (.int k a) (.int k b) = some (.int k (k.wrap (a * b))) := by simp [bE, gX]
theorem aEs (h : b ≠ 0) : bE P .quo t c (.int k a) (.int k b) = some (.int k (k.wrap (a.tdiv b))) := by simp [bE, gX, h]
theorem aBM (h : b ≠ 0) : bE P .rem t c (.int k a) (.int k b) = some (.int k (a.tmod b)) := by simp [bE, gX, h]
@[simp] theorem aBK : bE P .and t c (.int k a) (.int k b) = some (.int k (bits .and k a b)) := by simp [bE, gX]
@[simp] theorem aFw : bE P .or t c (.int k a) (.int k b) = some (.int k (bits .or k a b)) := by simp [bE, gX]
@[simp] theorem aEt : bE P .xor t c (.int k a) (.int k b) = some (.int k (bits .xor k a b)) := by simp [bE, gX]
@[simp] theorem aFv : bE P .andNot t c (.int k a) (.int k b) = some (.int k (bits .andNot k a b)) := by simp [bE, gX]
@[simp] theorem fE : bE P .eql t c (.int k a) (.int k b) = some (.bool (decide (a = b))) := by simp [bE, gX]; rfl
@[simp] theorem jH : bE P .neq t c (.int k a) (.int k b) = some (.bool (decide (a ≠ b))) := by simp [bE, gX, bne]; rfl
@[simp] theorem iF : bE P .lss t c (.int k a) (.int k b) = some (.bool (decide (a < b))) := by simp [bE, gX]
@[simp] theorem xY : bE P .leq t c (.int k a) (.int k b) = some (.bool (decide (a ≤ b))) := by simp [bE, gX]
@[simp] theorem kB : bE P .gtr t c (.int k a) (.int k b) = some (.bool (decide (b < a))) := by simp [bE, gX]
@[simp] theorem iT : bE P .geq t c (.int k a) (.int k b) = some (.bool (decide (b ≤ a))) := by simp [bE, gX]
theorem xZ (h : 0 ≤ b) : bE P .shl t c (.int k a) (.int k' b) = some (.int k (k.wrap (a * 2 ^ min b.toNat k.bits))) := by
 have : ¬ b < 0 := by omega
 simp [bE, mF, this]
theorem pZ (h : 0 ≤ b) : bE P .shr t c (.int k a) (.int k' b) = some (.int k (a.fdiv (2 ^ min b.toNat k.bits))) := by
 have : ¬ b < 0 := by omega
 simp [bE, mF, this]
end
theorem mI {P : Program} {t : Nat} (h : P.underlying t = some .bool) (c a b : Bool) : bE P .eql t c (.bool a) (.bool b) = some (.bool (a == b)) := by simp [bE, iW, h, jJ]
theorem pY {P : Program} {t : Nat} (h : P.underlying t = some .bool) (c a b : Bool) : bE P .neq t c (.bool a) (.bool b) = some (.bool (a != b)) := by simp [bE, iW, h, jJ, bne]
theorem yJ (x n : Nat) : (x : Int).fdiv (2 ^ n) = ((x / 2 ^ n : Nat) : Int) := by
 rw [Int.fdiv_eq_ediv_of_nonneg _ (by exact_mod_cast Nat.zero_le (2 ^ n))]
 push_cast; rfl
theorem jV {n : Int} (h0 : 0 ≤ n) (h1 : n < 18446744073709551616) : IntKind.u64.wrap n = n := by
 simp only [IntKind.wrap, IntKind.bits, IntKind.signed, Bool.false_and, Bool.false_eq_true, if_false]
 exact Int.emod_eq_of_lt h0 (by simpa using h1)
theorem aAM {n : Int} (h0 : 0 ≤ n) (h1 : n < 4294967296) : IntKind.u32.wrap n = n := by
 simp only [IntKind.wrap, IntKind.bits, IntKind.signed, Bool.false_and, Bool.false_eq_true, if_false]
 exact Int.emod_eq_of_lt h0 (by simpa using h1)
theorem aBB {n : Int} (h0 : 0 ≤ n) (h1 : n < 256) : IntKind.u8.wrap n = n := by
 simp only [IntKind.wrap, IntKind.bits, IntKind.signed, Bool.false_and, Bool.false_eq_true, if_false]
 exact Int.emod_eq_of_lt h0 (by simpa using h1)
theorem iE (n : Int) : IntKind.i64.wrap n = if n % 18446744073709551616 ≥ 9223372036854775808 then n % 18446744073709551616 - 18446744073709551616 else n % 18446744073709551616 := by
 simp [IntKind.wrap, IntKind.bits, IntKind.signed]
theorem lL (n : Int) : IntKind.u64.wrap n = n % 18446744073709551616 := by
 simp [IntKind.wrap, IntKind.bits, IntKind.signed]
theorem dJ {n : Int} (h0 : -9223372036854775808 ≤ n) (h1 : n < 9223372036854775808) : IntKind.i64.wrap n = n := by
 rw [iE]; split <;> omega
theorem wA {n : Int} (h : (Lit.int .i64 n).wf = true) : -9223372036854775808 ≤ n ∧ n < 9223372036854775808 := by
 simp [Lit.wf, IntKind.min, IntKind.max, IntKind.signed, IntKind.bits] at h; omega
@[simp] theorem iC (k k' : IntKind) (n : Int) : eZ k (.int k' n) = some (.int k (k.wrap n)) := by unfold eZ; rfl
@[simp] theorem aGI (k : IntKind) (a b : Int) : iY qT (.int k a) [.int k b] = some (.int k (max a b)) := by
 simp only [iY, qT, Option.bind_some]
 congr 2
 split <;> omega
@[simp] theorem bN (b : Bool) : un .not (.bool b) = some (.bool (!b)) := by unfold un; rfl
theorem oB {m : Option (AV × aB)} {k : AV → aB → Option dN} {v : AV} {H : aB} {r : Option (AV × aB)} (h : m = some (v, H)) (h2 : fD (k v H) = r) : fD (aD m k) = r := by rw [h]; exact h2
theorem oT {a b : Option dN} {r : Option (AV × aB)} (h : fD a = r) : fD (bA (.bool true) a b) = r := h
theorem oN {a b : Option dN} {r : Option (AV × aB)} (h : fD b = r) : fD (bA (.bool false) a b) = r := h
theorem oK {m : Option dN} {k : Ex → List AV → aB → Option dN} {e : Ex} {xs : List AV} {H : aB} {r : Option (AV × aB)} (h : m = some (e, xs, H)) (h2 : fD (k e xs H) = r) : fD (fK m k) = r := by rw [h]; exact h2
theorem oX {a : Option dN} {b : Nat → Option dN} {r0 : Option dN} {i : Nat} {r : Option (AV × aB)} (h : fD (b i) = r) : fD (kY (.exit i) a b r0) = r := h
theorem hZ {a : Option dN} {b : Nat → Option dN} {r0 : Option dN} {r : Option (AV × aB)} (h : fD a = r) : fD (kY .normal a b r0) = r := h
theorem iA {a : Option dN} {b : Nat → Option dN} {r0 : Option dN} {r : Option (AV × aB)} (h : fD r0 = r) : fD (kY .ret a b r0) = r := h
theorem oF {m : Option dN} {x : AV} {H : aB} (h : m = some (.ret, [x], H)) : fD m = some (x, H) := by rw [h]; rfl
theorem lB {γ : Type} {m : Option (AV × aB)} {k : AV → aB → Option γ} {v : AV} {H : aB} {r : Option γ} (h : m = some (v, H)) (h2 : k v H = r) : aD m k = r := by rw [h]; exact h2
theorem lT {a b r : Option dN} (h : a = r) : bA (.bool true) a b = r := h
theorem lN {a b r : Option dN} (h : b = r) : bA (.bool false) a b = r := h
theorem lK {m : Option dN} {k : Ex → List AV → aB → Option dN} {e : Ex} {xs : List AV} {H : aB} {r : Option dN} (h : m = some (e, xs, H)) (h2 : k e xs H = r) : fK m k = r := by rw [h]; exact h2
theorem lX {γ : Type} {a : γ} {b : Nat → γ} {r0 : γ} {i : Nat} {r : γ} (h : b i = r) : kY (.exit i) a b r0 = r := h
theorem hU {γ : Type} {a : γ} {b : Nat → γ} {r0 : γ} {r : γ} (h : a = r) : kY .normal a b r0 = r := h
theorem hY {γ : Type} {a : γ} {b : Nat → γ} {r0 : γ} {r : γ} (h : r0 = r) : kY .ret a b r0 = r := h
theorem lC {n : Nat} {xs : List AV} {H H' : aB} {k : aB → Option dN} {r : Option dN} (h : gT n xs H = some H') (h2 : k H' = r) : rM n xs H k = r := by unfold rM; rw [h]; exact h2
theorem dF (step : hO → hO) (n : Nat) : eU step (n + 1) = step (eU step n) := by rw [eU]
theorem oI {i : Nat} {a b : Option dN} {r : Option (AV × aB)} (h : fD a = r) : fD (if i = i then a else b) = r := by rw [if_pos rfl]; exact h
theorem oJ {i j : Nat} {a b : Option dN} {r : Option (AV × aB)} (hij : (i == j) = false) (h : fD b = r) : fD (if i = j then a else b) = r := by rw [if_neg (by simpa using hij)]; exact h
theorem lI {γ : Type} {i : Nat} {a b r : Option γ} (h : a = r) : (if i = i then a else b) = r := by rw [if_pos rfl]; exact h
theorem lJ {γ : Type} {i j : Nat} {a b r : Option γ} (hij : (i == j) = false) (h : b = r) : (if i = j then a else b) = r := by rw [if_neg (by simpa using hij)]; exact h
@[simp] theorem aFT {γ : Type} (H : aB) (k : aB → Option γ) : vK [] H k = k H := by unfold vK; rfl
@[simp] theorem aEV {γ : Type} (q : AV × Nat × Nat × Nat) (l : List (AV × Nat × Nat × Nat)) (H : aB) (k : aB → Option γ) : vK (q :: l) H k = vK l (vY q H) k := by rw [vK]
abbrev KK := Ex → List AV → aB → Option dN
def E {γ : Type} (f : Option dN → Option γ) (ks : List KK) (m : Option dN) (r : Option γ) : Prop := f (ks.foldl fK m) = r
section
variable {γ : Type} {f : Option dN → Option γ} {ks : List KK} {r : Option γ}
theorem gZ {m : Option dN} (h : E f [] m r) : f m = r := h
theorem iV {m r : Option dN} (h : E (fun x => x) [] m r) : m = r := h
theorem hP {m : Option dN} (h : f m = r) : E f [] m r := h
theorem eB {m : Option (AV × aB)} {k : AV → aB → Option dN} {v : AV} {H : aB} (h : m = some (v, H)) (h2 : E f ks (k v H) r) : E f ks (aD m k) r := by rw [h]; exact h2
theorem eR {m m' : Option (AV × aB)} {k : AV → aB → Option dN} (h : m = m') (h2 : E f ks (aD m' k) r) : E f ks (aD m k) r := by rw [h]; exact h2
theorem eT {a b : Option dN} (h : E f ks a r) : E f ks (bA (.bool true) a b) r := h
theorem eN {a b : Option dN} (h : E f ks b r) : E f ks (bA (.bool false) a b) r := h
theorem oR {H : aB} {m : Option (AV × aB)} {k : AV → aB → Option dN} (h : E f ks (aD m k) r) : E f ks (aD (gd (.bool true) true H m) k) r := by rw [cO]; exact h
theorem oH {H : aB} {m : Option (AV × aB)} {k : AV → aB → Option dN} (h : E f ks (aD m k) r) : E f ks (aD (gd (.bool false) false H m) k) r := by rw [cK]; exact h
theorem oQ {H : aB} {m : Option (AV × aB)} {k : AV → aB → Option dN} (h : E f ks (k (.tup []) H) r) : E f ks (aD (gd (.bool true) false H m) k) r := by rw [cN]; exact h
theorem oL {H : aB} {m : Option (AV × aB)} {k : AV → aB → Option dN} (h : E f ks (k (.tup []) H) r) : E f ks (aD (gd (.bool false) true H m) k) r := by rw [cL]; exact h
theorem oM {H : aB} {w : Bool} {m : Option (AV × aB)} {k : AV → aB → Option dN} (h : E f ks (k (.tup []) H) r) : E f ks (aD (gd (.tup []) w H m) k) r := by rw [cM]; exact h
theorem eCn {xs : List AV} {i : Nat} {c : AV} {a b : Option dN} (hc : aS xs i = c) (h : E f ks (bA c a b) r) : E f ks (bA (aS xs i) a b) r := by rw [hc]; exact h
theorem kI {b : Bool} {x y : Option dN} (h1 : b = true → E f ks x r) (h2 : b = false → E f ks y r) : E f ks (bA (.bool b) x y) r := by
 cases b
 ·exact h2 rfl
 ·exact h1 rfl
theorem eK {m : Option dN} {k : KK} (h : E f (k :: ks) m r) : E f ks (fK m k) r := h
theorem eS {k : KK} {e : Ex} {xs : List AV} {H : aB} (h : E f ks (k e xs H) r) : E f (k :: ks) (some (e, xs, H)) r := h
theorem eL {m : Option dN} {o : dN} (h : m = some o) (h2 : E f ks (some o) r) : E f ks m r := by rw [h]; exact h2
theorem eX {a : Option dN} {b : Nat → Option dN} {r0 : Option dN} {i : Nat} (h : E f ks (b i) r) : E f ks (kY (.exit i) a b r0) r := h
theorem eXn {a : Option dN} {b : Nat → Option dN} {r0 : Option dN} (h : E f ks a r) : E f ks (kY .normal a b r0) r := h
theorem eXr {a : Option dN} {b : Nat → Option dN} {r0 : Option dN} (h : E f ks r0 r) : E f ks (kY .ret a b r0) r := h
theorem eI {i : Nat} {a b : Option dN} (h : E f ks a r) : E f ks (if i = i then a else b) r := by rw [if_pos rfl]; exact h
theorem eJ {i j : Nat} {a b : Option dN} (hij : (i == j) = false) (h : E f ks b r) : E f ks (if i = j then a else b) r := by rw [if_neg (by simpa using hij)]; exact h
theorem eC {n : Nat} {xs : List AV} {H H' : aB} {k : aB → Option dN} (h : gT n xs H = some H') (h2 : E f ks (k H') r) : E f ks (rM n xs H k) r := by unfold rM; rw [h]; exact h2
theorem oO {m : Option dN} (h : E f ks m r) : E f ks (grd [] m) r := h
theorem oP {a b : AV} {l : List (AV × AV)} {m : Option dN} (h : iN a b = true) (h2 : E f ks (grd l m) r) : E f ks (grd ((a, b) :: l) m) r := by unfold grd; rw [h]; exact h2
theorem yG {H : aB} {k : aB → Option dN} (h2 : E f ks (k H) r) : E f ks (vK [] H k) r := by rw [aFT]; exact h2
theorem eV1 {q : AV × Nat × Nat × Nat} {l : List (AV × Nat × Nat × Nat)} {H H1 : aB} {k : aB → Option dN} (h : vY q H = H1) (h2 : E f ks (vK l H1 k) r) : E f ks (vK (q :: l) H k) r := by rw [aEV, h]; exact h2
variable {P : Program} {t : Nat} {c : Bool} {k : IntKind} {a b : Int} {H : aB} {K : AV → aB → Option dN}
theorem pM (h1 : a = b → E f ks (K (.bool true) H) r) (h2 : a ≠ b → E f ks (K (.bool false) H) r) : E f ks (aD (pu H (bE P .eql t c (.int k a) (.int k b))) K) r := by
 rw [fE]; by_cases h : a = b
 ·rw [decide_eq_true h]; exact h1 h
 ·rw [decide_eq_false h]; exact h2 h
theorem pR (h1 : a ≠ b → E f ks (K (.bool true) H) r) (h2 : a = b → E f ks (K (.bool false) H) r) : E f ks (aD (pu H (bE P .neq t c (.int k a) (.int k b))) K) r := by
 rw [jH]; by_cases h : a ≠ b
 ·rw [decide_eq_true h]; exact h1 h
 ·rw [decide_eq_false h]; exact h2 (Classical.not_not.1 h)
theorem pQ (h1 : a < b → E f ks (K (.bool true) H) r) (h2 : b ≤ a → E f ks (K (.bool false) H) r) : E f ks (aD (pu H (bE P .lss t c (.int k a) (.int k b))) K) r := by
 rw [iF]; by_cases h : a < b
 ·rw [decide_eq_true h]; exact h1 h
 ·rw [decide_eq_false h]; exact h2 (by omega)
theorem pP (h1 : a ≤ b → E f ks (K (.bool true) H) r) (h2 : b < a → E f ks (K (.bool false) H) r) : E f ks (aD (pu H (bE P .leq t c (.int k a) (.int k b))) K) r := by
 rw [xY]; by_cases h : a ≤ b
 ·rw [decide_eq_true h]; exact h1 h
 ·rw [decide_eq_false h]; exact h2 (by omega)
theorem pO (h1 : b < a → E f ks (K (.bool true) H) r) (h2 : a ≤ b → E f ks (K (.bool false) H) r) : E f ks (aD (pu H (bE P .gtr t c (.int k a) (.int k b))) K) r := by
 rw [kB]; by_cases h : b < a
 ·rw [decide_eq_true h]; exact h1 h
 ·rw [decide_eq_false h]; exact h2 (by omega)
theorem pN (h1 : b ≤ a → E f ks (K (.bool true) H) r) (h2 : a < b → E f ks (K (.bool false) H) r) : E f ks (aD (pu H (bE P .geq t c (.int k a) (.int k b))) K) r := by
 rw [iT]; by_cases h : b ≤ a
 ·rw [decide_eq_true h]; exact h1 h
 ·rw [decide_eq_false h]; exact h2 (by omega)
theorem pS {g : Bool} (h1 : g = true → E f ks (K (.bool false) H) r) (h2 : g = false → E f ks (K (.bool true) H) r) : E f ks (aD (pu H (un .not (.bool g))) K) r := by
 rw [bN]
 cases g
 ·exact h2 rfl
 ·exact h1 rfl
theorem kN {g : Bool} {x y : AV} (h1 : g = true → E f ks (K x H) r) (h2 : g = false → E f ks (K y H) r) : E f ks (aD (pu H (eW (.bool g) x y)) K) r := by
 cases g
 ·exact h2 rfl
 ·exact h1 rfl
theorem sGd {g : Bool} {w : Bool} {m : Option (AV × aB)} (h1 : g = true → E f ks (aD (gd (.bool true) w H m) K) r) (h2 : g = false → E f ks (aD (gd (.bool false) w H m) K) r) : E f ks (aD (gd (.bool g) w H m) K) r := by
 cases g
 ·exact h2 rfl
 ·exact h1 rfl
end
section
variable {P : Program} {t : Nat} {c : Bool} {k : IntKind} {a b : Int}
theorem tO (h : a = b) : bE P .eql t c (.int k a) (.int k b) = some (.bool true) := by rw [fE, decide_eq_true h]
theorem lE (h : a ≠ b) : bE P .eql t c (.int k a) (.int k b) = some (.bool false) := by rw [fE, decide_eq_false h]
theorem tQ (h : a ≠ b) : bE P .neq t c (.int k a) (.int k b) = some (.bool true) := by rw [jH, decide_eq_true h]
theorem qZ (h : a = b) : bE P .neq t c (.int k a) (.int k b) = some (.bool false) := by rw [jH, decide_eq_false (fun h' => h' h)]
theorem mO (h : a < b) : bE P .lss t c (.int k a) (.int k b) = some (.bool true) := by rw [iF, decide_eq_true h]
theorem lF (h : b ≤ a) : bE P .lss t c (.int k a) (.int k b) = some (.bool false) := by rw [iF, decide_eq_false (by omega)]
theorem aCo (h : a ≤ b) : bE P .leq t c (.int k a) (.int k b) = some (.bool true) := by rw [xY, decide_eq_true h]
theorem aCn (h : b < a) : bE P .leq t c (.int k a) (.int k b) = some (.bool false) := by rw [xY, decide_eq_false (by omega)]
theorem aCj (h : b < a) : bE P .gtr t c (.int k a) (.int k b) = some (.bool true) := by rw [kB, decide_eq_true h]
theorem nY (h : a ≤ b) : bE P .gtr t c (.int k a) (.int k b) = some (.bool false) := by rw [kB, decide_eq_false (by omega)]
theorem aCi (h : b ≤ a) : bE P .geq t c (.int k a) (.int k b) = some (.bool true) := by rw [iT, decide_eq_true h]
theorem aCh (h : a < b) : bE P .geq t c (.int k a) (.int k b) = some (.bool false) := by rw [iT, decide_eq_false (by omega)]
theorem aFi (h0 : -9223372036854775808 ≤ a + b) (h1 : a + b < 9223372036854775808) : bE P .add t c (.int .i64 a) (.int .i64 b) = some (.int .i64 (a + b)) := by rw [gN, dJ h0 h1]
theorem aFq (h0 : -9223372036854775808 ≤ a - b) (h1 : a - b < 9223372036854775808) : bE P .sub t c (.int .i64 a) (.int .i64 b) = some (.int .i64 (a - b)) := by rw [tJ, dJ h0 h1]
theorem aDM (h0 : 0 ≤ a + b) (h1 : a + b < 18446744073709551616) : bE P .add t c (.int .u64 a) (.int .u64 b) = some (.int .u64 (a + b)) := by rw [gN, jV h0 h1]
theorem aFk (h0 : -9223372036854775808 ≤ a) (h1 : a < 9223372036854775808) : eZ .i64 (.int k a) = some (.int .i64 a) := by rw [iC, dJ h0 h1]
theorem aFl (h0 : 0 ≤ a) (h1 : a < 18446744073709551616) : eZ .u64 (.int k a) = some (.int .u64 a) := by rw [iC, jV h0 h1]
theorem aFj (h0 : 0 ≤ a) (h1 : a < 256) : eZ .u8 (.int k a) = some (.int .u8 a) := by rw [iC, aBB h0 h1]
theorem aDQ (h0 : 0 ≤ a) (h1 : a < 4294967296) : eZ .u32 (.int k a) = some (.int .u32 a) := by rw [iC, aAM h0 h1]
theorem tP {s bl L o m : Nat} (h0 : 0 ≤ a) (h1 : a < (m : Int)) : aF s (.sl bl L o m s) (.int k a) = some (.ptr bl L (o + a.toNat) 0) := by simp [aF, h0, h1]
theorem aCl {bor : Bool} {xs : List AV} : bO (.ro bor xs) = some (.int .i64 (xs.length : Int)) := by unfold bO; rfl
theorem aCm {bl L o m s : Nat} : bO (.sl bl L o m s) = some (.int .i64 (m : Int)) := by unfold bO; rfl
theorem aAz : bO .nils = some (.int .i64 0) := by unfold bO; rfl
theorem aEb {bl L i o : Nat} : gH (.ptr bl L i o) = some (.ptr bl L i o) := by unfold gH; rfl
theorem aCr {bor : Bool} {x : AV} {o : Nat} : gH (.rp bor x o) = some (.rp bor x o) := by unfold gH; rfl
theorem aCp {g : Nat} {caps : List AV} : gH (.fn g caps) = some (.fn g caps) := by unfold gH; rfl
theorem aCq {g : Nat} : gH (.gl g) = some (.gl g) := by unfold gH; rfl
theorem aFm {off bl L i o : Nat} : aA off (.ptr bl L i o) = some (.ptr bl L i (o + off)) := by unfold aA; rfl
theorem aDU {off : Nat} {bor : Bool} {x : AV} {o : Nat} : aA off (.rp bor x o) = some (.rp bor x (o + off)) := by unfold aA; rfl
theorem aEa {G : aE} {s : Nat} {bor : Bool} {cs : List AV} {o : Nat} {H : aB} : aC G false s (.rp bor (.agg cs) o) H = cs[o]? := by unfold aC cU; rfl
theorem aAy {cs : List AV} {H : aB} : bC (.agg cs) H = some (.rp false (.agg cs) 0, H) := by unfold bC; rfl
theorem aDR {u : AV} {l : List AV} : aG (.tup (u :: l)) 0 = some u := by unfold aG; rfl
theorem aDS {u v : AV} {l : List AV} : aG (.tup (u :: v :: l)) 1 = some v := by unfold aG; rfl
theorem aDT {u v w : AV} {l : List AV} : aG (.tup (u :: v :: w :: l)) 2 = some w := by unfold aG; rfl
theorem aEd : un .not (.bool true) = some (.bool false) := by rw [bN]; rfl
theorem aEc : un .not (.bool false) = some (.bool true) := by rw [bN]; rfl
theorem aFp {H : aB} : dY (some H) = some (.tup [], H) := by unfold dY; rfl
end
section
variable {G : aE} {g : Bool} {s b L i o t z : Nat} {cs : List AV} {blk : ABlk} {H : aB} {v x : AV}
def ldB (g : Bool) (s L i o : Nat) (blk : ABlk) : Option AV := if blk.elems.length = L then (match blk.elems[i]? with | some x => cU g s x.cells o | none => none) else none
def stB (s L i o : Nat) (v : AV) (blk : ABlk) : Option ABlk := if blk.elems.length = L ∧ aT v = true ∧ v.cells.length = s then
    (match blk.elems[i]? with
     | some x => if o + s ≤ x.cells.length then some { blk with elems := blk.elems.set i (bZ x (dH x.cells o v.cells)) } else none
     | none => none) else none
theorem aDY : aC G g s (.ptr 0 L i o) (blk :: H) = ldB g s L i o blk := by unfold aC ldB; rfl
theorem aDZ : aC G g s (.ptr (b + 1) L i o) (blk :: H) = aC G g s (.ptr b L i o) H := by unfold aC; rfl
theorem aFn : ldB false s 1 0 o ⟨t, z, [.agg cs]⟩ = cs[o]? := by unfold ldB cU; rfl
theorem aDV : ldB true s 1 0 o ⟨t, z, [.agg cs]⟩ = if o + s ≤ cs.length then some (.agg ((cs.drop o).take s)) else none := by unfold ldB cU; rfl
theorem aCk {bor : Bool} : aC G true s (.rp bor (.agg cs) o) H = if o + s ≤ cs.length then some (.agg ((cs.drop o).take s)) else none := by unfold aC cU; rfl
theorem aDX {k : IntKind} {n : Int} : ldB false s 1 0 0 ⟨t, z, [.int k n]⟩ = some (.int k n) := by unfold ldB cU; rfl
theorem aDW {c : Bool} : ldB false s 1 0 0 ⟨t, z, [.bool c]⟩ = some (.bool c) := by unfold ldB cU; rfl
theorem aEe : aN s (.ptr 0 L i o) v (blk :: H) = (stB s L i o v blk).map (· :: H) := by
 unfold aN stB
 simp only [List.getElem?_cons_zero]
 split
 ·cases blk.elems[i]? with
  | none => rfl
  | some x => simp only; split <;> rfl
 ·rfl
theorem aEf : aN s (.ptr (b + 1) L i o) v (blk :: H) = (aN s (.ptr b L i o) v H).map (blk :: ·) := by
 unfold aN
 simp only [List.getElem?_cons_succ]
 cases H[b]? with
 | none => rfl
 | some y =>
  simp only
  split
  ·cases y.elems[i]? with
   | none => rfl
   | some x => simp only; split <;> rfl
  ·rfl
theorem aFo : stB s 1 0 o v ⟨t, z, [.agg cs]⟩ = if aT v = true ∧ v.cells.length = s ∧ o + s ≤ cs.length then some ⟨t, z, [.agg (dH cs o v.cells)]⟩ else none := by
 have e : (AV.agg cs).cells = cs := rfl
 unfold stB
 by_cases h1 : aT v = true ∧ v.cells.length = s
 ·by_cases h2 : o + s ≤ cs.length <;> simp [e, h1, h2, bZ]
 ·have h3 : ¬ (aT v = true ∧ v.cells.length = s ∧ o + s ≤ cs.length) := fun h => h1 ⟨h.1, h.2.1⟩
  rw [if_neg h3, if_neg (fun h => h1 h.2)]
theorem aDN : dC t (.agg (x :: cs)) H = some (.ptr H.length 1 0 0, H ++ [⟨t, cs.length + 1, [.agg (x :: cs)]⟩]) := by
 unfold dC; simp [aT, AV.cells]
theorem aDP {k : IntKind} {n : Int} : dC t (.int k n) H = some (.ptr H.length 1 0 0, H ++ [⟨t, 1, [.int k n]⟩]) := by unfold dC; rfl
theorem aDO {c : Bool} : dC t (.bool c) H = some (.ptr H.length 1 0 0, H ++ [⟨t, 1, [.bool c]⟩]) := by unfold dC; rfl
end
theorem w1 {x x' : AV} {H : aB} (h : bX 0 x = true) (e : x = x') : E fD [] (cT [x] 0 H) (some (x', [])) := by subst e; exact oF (lV h H)
theorem w2 {x y r : AV} {H : aB} (hx : bX 0 x = true) (hy : bX 0 y = true) (e : AV.tup [x, y] = r) : E fD [] (cT [x, y] 0 H) (some (r, [])) := by subst e; exact oF (gU hx hy H)
theorem w1b {b b' : Bool} {H : aB} (e : b = b') : E fD [] (cT [.bool b] 0 H) (some (.bool b', [])) := w1 rfl (by rw [e])
theorem qf : type_of% (aHv @aQ <| aHv @aI <| aHv @aH <| aHv @cO <| aHv @cK <| aHv @cN <| aHv @cL <| @cM) := aHv @aQ <| aHv @aI <| aHv @aH <| aHv @cO <| aHv @cK <| aHv @cN <| aHv @cL <| @cM
theorem qa : type_of% (aHv qf <| aHv @aO <| aHv @aK <| aHv @aEd <| aHv @aEc <| aHv @tO <| aHv @lE <| aHv @tQ <| aHv @qZ <| aHv @mO <| aHv @lF <| aHv @aCo <| aHv @aCn <| aHv @aCj <| aHv @nY <| aHv @aCi <| aHv @aCh <| aHv @aFi <| aHv @aFq <| aHv @aDM <| aHv @aFk <| aHv @aFl <| aHv @aFj <| aHv @aDQ <| aHv @tP <| aHv @aCl <| aHv @aCm <| aHv @aAz <| aHv @aEb <| aHv @aCr <| aHv @aCp <| aHv @aCq <| aHv @aFm <| aHv @aDU <| aHv @aEa <| aHv @aAy <| aHv @aDR <| aHv @aDS <| aHv @aDT <| aHv @List.getElem?_cons_zero.{0} <| aHv @List.getElem?_cons_succ.{0} <| aHv @List.getElem?_nil.{0} <| aHv @aFp <| aHv @aDY <| aHv @aDZ <| aHv @aFn <| aHv @aDV <| aHv @aCk <| aHv @aDX <| aHv @aDW <| aHv @aDN <| aHv @aDP <| aHv @aDO <| aHv @List.length_cons.{0} <| aHv @List.length_nil.{0} <| aHv @List.cons_append.{0} <| aHv @List.nil_append.{0} <| aHv @List.drop_zero.{0} <| aHv @List.drop_succ_cons.{0} <| aHv @List.take_succ_cons.{0} <| aHv @List.take_zero.{0} <| aHv @aEe <| aHv @aEf <| aHv @aFo <| aHv @Option.map_some.{0, 0} <| aHv @List.replicate_succ.{0} <| aHv @List.replicate_zero.{0} <| aHv @List.set_cons_zero.{0} <| aHv @List.set_cons_succ.{0} <| aHv @Nat.le_refl <| aHv @and_self <| aHv @true_and <| aHv @and_true <| aHv @if_true.{1} <| aHv @Bool.not_true <| aHv @Bool.not_false <| aHv @Int.toNat_natCast <| @Nat.zero_add) := aHv qf <| aHv @aO <| aHv @aK <| aHv @aEd <| aHv @aEc <| aHv @tO <| aHv @lE <| aHv @tQ <| aHv @qZ <| aHv @mO <| aHv @lF <| aHv @aCo <| aHv @aCn <| aHv @aCj <| aHv @nY <| aHv @aCi <| aHv @aCh <| aHv @aFi <| aHv @aFq <| aHv @aDM <| aHv @aFk <| aHv @aFl <| aHv @aFj <| aHv @aDQ <| aHv @tP <| aHv @aCl <| aHv @aCm <| aHv @aAz <| aHv @aEb <| aHv @aCr <| aHv @aCp <| aHv @aCq <| aHv @aFm <| aHv @aDU <| aHv @aEa <| aHv @aAy <| aHv @aDR <| aHv @aDS <| aHv @aDT <| aHv @List.getElem?_cons_zero.{0} <| aHv @List.getElem?_cons_succ.{0} <| aHv @List.getElem?_nil.{0} <| aHv @aFp <| aHv @aDY <| aHv @aDZ <| aHv @aFn <| aHv @aDV <| aHv @aCk <| aHv @aDX <| aHv @aDW <| aHv @aDN <| aHv @aDP <| aHv @aDO <| aHv @List.length_cons.{0} <| aHv @List.length_nil.{0} <| aHv @List.cons_append.{0} <| aHv @List.nil_append.{0} <| aHv @List.drop_zero.{0} <| aHv @List.drop_succ_cons.{0} <| aHv @List.take_succ_cons.{0} <| aHv @List.take_zero.{0} <| aHv @aEe <| aHv @aEf <| aHv @aFo <| aHv @Option.map_some.{0, 0} <| aHv @List.replicate_succ.{0} <| aHv @List.replicate_zero.{0} <| aHv @List.set_cons_zero.{0} <| aHv @List.set_cons_succ.{0} <| aHv @Nat.le_refl <| aHv @and_self <| aHv @true_and <| aHv @and_true <| aHv @if_true.{1} <| aHv @Bool.not_true <| aHv @Bool.not_false <| aHv @Int.toNat_natCast <| @Nat.zero_add
theorem tU {p q : Prop} (h : q) (t : q → p := by
 intro hgo
 repeat' first
  | (with_reducible first | refine eT ?_ | refine eN ?_ | refine eS ?_ | refine eXn ?_ | refine eXr ?_ | refine eX ?_ | refine eI ?_ | refine eK ?_ | refine yG ?_ | refine oO ?_ | refine oR ?_ | refine oH ?_ | refine oQ ?_ | refine oL ?_ | refine oM ?_)
  | ((with_reducible apply eCn); (simp only [aI, aH]; first | done | (with_reducible exact rfl)))
  | ((with_reducible apply eJ); (rfl))
  | ((with_reducible apply oP); (first | rfl | (simp only [aI, aH]; rfl)))
  | ((with_reducible apply eL); (first | exact lx1 | exact lx2 | exact lx3))
  | ((with_reducible apply eB); (first | (with_reducible exact rfl) | (simp (disch := omega) only [qf, fx]; first | done | (with_reducible exact rfl) | (with_reducible exact ⟨rfl, rfl⟩)) | (simp (disch := omega) only [qa, dH, AV.cells, aT, aU, cQ, aZ, aW, cH, Nat.reduceLeDiff, Nat.reduceLT, Nat.reduceAdd, ↓reduceIte, fx]; first | done | (with_reducible exact rfl) | (with_reducible exact ⟨rfl, rfl⟩))))
  | ((with_reducible apply eR); (simp only [aI, aH]; (with_reducible exact rfl)))
  | ((with_reducible first | refine pM ?_ ?_ | refine pR ?_ ?_ | refine pQ ?_ ?_ | refine pP ?_ ?_ | refine pO ?_ ?_ | refine pN ?_ ?_ | refine pS ?_ ?_ | refine kN ?_ ?_ | refine sGd ?_ ?_ | refine kI ?_ ?_) <;> intro hq <;> try subst hq)
 all_goals first | omega | exact hgo) : p := t h
theorem jC {p q : Prop} (h : q) (t : q → p := by
 intro hgo
 repeat first
  | (with_reducible first | refine eT ?_ | refine eN ?_ | refine eS ?_ | refine eXn ?_ | refine eXr ?_ | refine eX ?_ | refine eI ?_ | refine eK ?_ | refine yG ?_ | refine oO ?_ | refine oR ?_ | refine oH ?_ | refine oQ ?_ | refine oL ?_ | refine oM ?_)
  | ((with_reducible apply eCn); (simp only [aI, aH]; first | done | (with_reducible exact rfl)))
  | ((with_reducible apply eJ); (rfl))
  | ((with_reducible apply oP); (first | rfl | (simp only [aI, aH]; rfl)))
  | ((with_reducible apply eL); (first | exact lx1 | exact lx2 | exact lx3))
  | ((with_reducible apply eB); (first | (with_reducible exact rfl) | (simp (disch := omega) only [qf, fx]; first | done | (with_reducible exact rfl) | (with_reducible exact ⟨rfl, rfl⟩)) | (simp (disch := omega) only [qa, dH, AV.cells, aT, aU, cQ, aZ, aW, cH, Nat.reduceLeDiff, Nat.reduceLT, Nat.reduceAdd, ↓reduceIte, fx]; first | done | (with_reducible exact rfl) | (with_reducible exact ⟨rfl, rfl⟩))))
  | ((with_reducible apply eR); (simp only [aI, aH]; (with_reducible exact rfl)))
 exact hgo) : p := t h
theorem uV {f : AV → Option AV} : ∀ {xs : List AV}, (∀ x ∈ xs, f x = some x) → mW f xs = some xs
 | [], _ => rfl
 | x :: xs, h => by
  have h2 := uV (f := f) (xs := xs) (fun y hy => h y (List.mem_cons_of_mem _ hy))
  simp only [mW, h x (by simp), h2]
theorem pF {n : Nat} : ∀ {xs : List AV} (_ : bS n xs = true) (x : AV) (_ : x ∈ xs), bX n x = true
 | [], _, _, hx => by cases hx
 | y :: xs, h, x, hx => by
  simp only [bS, Bool.and_eq_true] at h
  rcases List.mem_cons.1 hx with rfl | hx
  ·exact h.1
  ·exact pF h.2 x hx
mutual
theorem iB {n m : Nat} (h : n ≤ m) : ∀ {x : AV}, bX n x = true → bX m x = true
 | .ptr .., hx => by simp [bX] at hx ⊢; omega
 | .sl .., hx => by simp [bX] at hx ⊢; omega
 | .fn _ caps, hx => by simp only [bX] at hx ⊢; exact iQ h hx
 | .iface _ v, hx => by simp only [bX] at hx ⊢; exact iB h hx
 | .agg cs, hx => by simp only [bX] at hx ⊢; exact iQ h hx
 | .tup vs, hx => by simp only [bX] at hx ⊢; exact iQ h hx
 | .ro _ xs, hx => by simp only [bX] at hx ⊢; exact iQ h hx
 | .rp _ x _, hx => by simp only [bX] at hx ⊢; exact iB h hx
 | .undef, _ => rfl
 | .bool _, _ => rfl
 | .int .., _ => rfl
 | .str _, _ => rfl
 | .nilp, _ => rfl
 | .nilf, _ => rfl
 | .nili, _ => rfl
 | .gl _, _ => rfl
 | .gp _, _ => rfl
 | .nils, _ => rfl
 | .anyb, _ => rfl
theorem iQ {n m : Nat} (h : n ≤ m) : ∀ {xs : List AV}, bS n xs = true → bS m xs = true
 | [], _ => rfl
 | x :: xs, hx => by
  simp only [bS, Bool.and_eq_true] at hx ⊢
  exact ⟨iB h hx.1, iQ h hx.2⟩
end
theorem aCF {H : aB} {n d : Nat} {x : AV} (h : bX n x = true) : uJ (rO H n d) x = some x := by
 cases x with
 | agg cs =>
  simp only [bX] at h
  have : mW (rO H n d) cs = some cs := uV fun y hy => kD (pF h y hy) d
  simp only [uJ, this]
 | _ => exact kD h d
theorem uO {H : aB} {b n0 d n sz ty : Nat} {xs : List AV} (hb : H[b]? = some ⟨ty, sz, xs⟩) (hn : n0 ≤ b) (hl : xs.length = n) (hs : jN sz xs = true) (hx : bS n0 xs = true) :
  rO H n0 (d + 1) (.sl b n 0 n sz) = some (.ro false xs) := by
 have h1 : bX n0 (.sl b n 0 n sz) = false := by simp [bX]; omega
 have h2 : mW (uJ (rO H n0 d)) xs = some xs := uV fun x h => aCF (pF hx x h)
 have h3 : gE (.sl b n 0 n sz) H = some xs := by
  simp only [gE, hb, hl, if_true, List.drop_zero]
  rw [List.take_of_length_le (by omega)]
 unfold rO
 simp only [h1, h3, hs, h2]
theorem lQ {α : Type} (s : Nat) (e : α → AV) (h : ∀ a, (e a).cells.length = s) (xs : List α) : jN s (xs.map e) = true := by
 unfold jN
 simp [List.all_eq_true, h]
theorem rE {H : aB} {b n sz ty : Nat} {xs : List AV} (hb : H[b]? = some ⟨ty, sz, xs⟩) (hl : xs.length = n) (hs : jN sz xs = true) (hx : fQ xs = true) :
  vP H (.sl b n 0 n sz) = some (.ro true xs) := by
 have h3 : gE (.sl b n 0 n sz) H = some xs := by
  simp only [gE, hb, hl, if_true, List.drop_zero]
  rw [List.take_of_length_le (by omega)]
 unfold vP rD
 simp only [h3, hs, hx, Bool.and_self, if_true]
theorem oC {H : aB} {x y : AV} {xs ys : List AV} (h : vP H x = some y) (hs : lH H xs = some ys) : lH H (x :: xs) = some (y :: ys) := by
 simp only [lH, h, hs]
theorem aCv {H : aB} : lH H [] = some [] := rfl
theorem sP {g : cY} {args bs : List AV} {r : AV} {H : aB} (ha : lH H args = some bs) (hg : g bs [] = some (r, [])) (hr : fL r = true) : aL g args H = some (r, H) := by
 simp only [aL, ha, hg, hr, if_true]
theorem jR {g : cY} {args : List AV} {r : AV} {H H' : aB} (h : g args H = some (r, H')) (hl : H.length ≤ H'.length) : fJ g args H = some (r, H') := by
 simp only [fJ, h, hl, if_true]
theorem yL {x y : AV} {n : Nat} {H : aB} (h : rO H n 6 x = some y) (hb : dX n (H.take n) = true) : cT [x] n H = some (.ret, [y], H.take n) := by
 have hc : gT n [] H = some (H.take n) := by unfold gT; simp only [bS, hb, Bool.true_and]
 unfold cT nP
 simp only [h, hc]
theorem aBT {H : aB} {n d : Nat} {cs zs : List AV} (hb : bS n cs = false) (h : mW (rO H n d) cs = some zs) : rO H n (d + 1) (.agg cs) = some (.agg zs) := by
 unfold rO
 simp only [bX, hb, h]
theorem aEy {H : aB} {n d : Nat} {cs zs : List AV} (hb : bS n cs = false) (h : mW (rO H n d) cs = some zs) : rO H n (d + 1) (.tup cs) = some (.tup zs) := by
 unfold rO
 simp only [bX, hb, h]
theorem gV {f : AV → Option AV} {x y : AV} {xs ys : List AV} (h : f x = some y) (hs : mW f xs = some ys) : mW f (x :: xs) = some (y :: ys) := by
 simp only [mW, h, hs]
theorem uW {f : AV → Option AV} : mW f [] = some [] := rfl
theorem aCG (e : Ex) : aDn e e = true := by cases e <;> simp [aDn]
theorem aAV {x y : Option dN} {e : Ex} {xs : List AV} {H : aB} (hx : x = some (e, xs, H)) (hy : y = some (e, xs, H)) (h1 : jE xs xs = true) (h2 : kR H H = true) : zQ x y = some (e, xs, H) := by
 subst hx hy
 unfold zQ
 simp only [aCG, h1, h2, Bool.and_self]
theorem aGl {γ : Type} {f : Option dN → Option γ} {ks : List KK} {r : Option γ} {x y : Option dN} {e : Ex} {xs : List AV} {H : aB} (hx : x = some (e, xs, H)) (hy : y = some (e, xs, H)) (h1 : jE xs xs = true) (h2 : kR H H = true)
  (h : E f ks (some (e, xs, H)) r) : E f ks (bA .anyb x y) r := by
 have : bA .anyb x y = some (e, xs, H) := aAV hx hy h1 h2
 rw [this]; exact h
theorem qF {α : Type} (e : α → AV) (h : ∀ a, iS (e a) (e a) = true) : ∀ xs : List α, jE (xs.map e) (xs.map e) = true
 | [] => by simp [jE]
 | x :: xs => by simp [jE, h x, qF e h xs]
theorem uK {A : aB} : ∀ {H : aB}, kR H H = true → kR A A = true → kR (H ++ A) (H ++ A) = true
 | [], _, h => h
 | x :: H, h1, h2 => by
  simp only [kR, Bool.and_eq_true] at h1
  simp only [List.cons_append, kR, Bool.and_eq_true]
  exact ⟨h1.1, uK h1.2 h2⟩
end Go.Proofs.YtcmblhedhgiofaaDoor.Mir
