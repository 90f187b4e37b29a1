/- Part 4 of the proof: the evaluator and its soundness. -/
import Derived.Test.YtlkgkfgkiidhdaaDoorVj3
namespace Go.Proofs.YtlkgkfgkiidhdaaDoor.Mir
open Go
set_option linter.unusedSimpArgs false
set_option linter.unusedVariables false
@[simp] theorem aBE {γ : Type} (v : AV) (H : aB) (k : AV → aB → Option γ) : aD (some (v, H)) k = k v H := by unfold aD; rfl
@[simp] theorem tL (H : aB) (v : AV) : pu H (some v) = some (v, H) := by unfold pu; rfl
@[simp] theorem aDj (x y : Option eP) : aW (.bool true) x y = x := by unfold aW; rfl
@[simp] theorem aBK (x y : Option eP) : aW (.bool false) x y = y := by unfold aW; rfl
@[simp] theorem aCh (H : aB) (m : Option (AV × aB)) : gd (.bool true) true H m = m := by unfold gd; rfl
@[simp] theorem aCd (H : aB) (m : Option (AV × aB)) : gd (.bool false) false H m = m := by unfold gd; rfl
@[simp] theorem aCg (H : aB) (m : Option (AV × aB)) : gd (.bool true) false H m = some (.tup [], H) := by unfold gd; rfl
@[simp] theorem aCe (H : aB) (m : Option (AV × aB)) : gd (.bool false) true H m = some (.tup [], H) := by unfold gd; rfl
@[simp] theorem aCf (w : Bool) (H : aB) (m : Option (AV × aB)) : gd (.tup []) w H m = some (.tup [], H) := by unfold gd; rfl
@[simp] theorem nV (x y : AV) : fT (.bool true) x y = some x := by unfold fT; rfl
@[simp] theorem mO (x y : AV) : fT (.bool false) x y = some y := by unfold fT; rfl
@[simp] theorem aKm (e : Ex) (xs : List AV) (H : aB) (k : Ex → List AV → aB → Option eP) : dV (some (e, xs, H)) k = k e xs H := by unfold dV; rfl
@[simp] theorem aJK {γ : Type} (a : γ) (b : Nat → γ) (r : γ) : hO .normal a b r = a := by unfold hO; rfl
@[simp] theorem aKP {γ : Type} (i : Nat) (a : γ) (b : Nat → γ) (r : γ) : hO (.exit i) a b r = b i := by unfold hO; rfl
@[simp] theorem aLH {γ : Type} (a : γ) (b : Nat → γ) (r : γ) : hO .ret a b r = r := by unfold hO; rfl
@[simp] theorem fY (x : AV) (xs : List AV) : aE (x :: xs) 0 = x := by unfold aE; rfl
@[simp] theorem fX (x : AV) (xs : List AV) (i : Nat) : aE (x :: xs) (i + 1) = aE xs i := by rw [aE]
@[simp] theorem aCy (r : AV) (H : aB) : fB (some (.ret, [r], H)) = some (r, H) := by unfold fB; rfl
@[congr] theorem aKw {γ : Type} {m m' : Option (AV × aB)} {k : AV → aB → Option γ} (h : m = m') : aD m k = aD m' k := by rw [h]
@[congr] theorem aJA {m m' : Option eP} {k : Ex → List AV → aB → Option eP} (h : m = m') : dV m k = dV m' k := by rw [h]
@[congr] theorem aIW {c c' : AV} {x y : Option eP} (h : c = c') : aW c x y = aW c' x y := by rw [h]
@[congr] theorem aKB {γ : Type} {e e' : Ex} {a : γ} {b : Nat → γ} {r : γ} (h : e = e') : hO e a b r = hO e' a b r := by rw [h]
@[congr] theorem aKS {g g' : AV} {w : Bool} {H : aB} {m : Option (AV × aB)} (h : g = g') : gd g w H m = gd g' w H m := by rw [h]
theorem yH (H : aB) : fE 0 [] H = some [] := rfl
theorem nQ {H : aB} {n : Nat} {x : AV} (h : bW n x = true) (d : Nat) : qY H n d x = some x := by
 cases d <;> simp [qY, h]
theorem nB {x : AV} (h : bW 0 x = true) (H : aB) : cA [x] 0 H = some (.ret, [x], []) := by
 simp [cA, nY, nQ h, yH]
theorem aCa {x y : AV} (hx : bW 0 x = true) (hy : bW 0 y = true) (H : aB) : cA [x, y] 0 H = some (.ret, [.tup [x, y]], []) := by
 have : bW 0 (.tup [x, y]) = true := by simp [bW, bX, hx, hy]
 simp [cA, nY, nQ this, yH]
@[simp] theorem aBZ (k : IntKind) (n : Int) (H : aB) : cA [.int k n] 0 H = some (.ret, [.int k n], []) := nB rfl H
@[simp] theorem aFc (b : Bool) (H : aB) : cA [.bool b] 0 H = some (.ret, [.bool b], []) := nB rfl H
theorem aDJ {H : aB} {x : AV} (h : bZ x = true) : aBc H x = some x := by
 cases x with
 | agg cs =>
  simp only [bZ] at h
  have : ∀ cs : List AV, gK cs = true → iY H cs = some cs := by
   intro cs
   induction cs with
   | nil => intro _; rfl
   | cons y ys ih =>
    intro hp
    simp only [gK, Bool.and_eq_true] at hp
    have h1 : pL H y = some y := by cases y <;> simp_all [pL, bZ]
    simp [iY, h1, ih hp.2]
  simp [aBc, this cs h]
 | _ => simp_all [aBc, pL, bZ]
theorem uK {H : aB} : ∀ {xs : List AV}, gK xs = true → mA H xs = some xs
 | [], _ => rfl
 | x :: xs, h => by
  simp only [gK, Bool.and_eq_true] at h
  simp [mA, aDJ h.1, uK h.2]
theorem dO {g : cD} {args : List AV} {r : AV} {H : aB} (hg : g args [] = some (r, [])) (ha : gK args = true) (hr : gI r = true) : bF g args H = some (r, H) := by
 simp [bF, uK ha, hg, hr]
section
variable (P : Program) (t : Nat) (c : Bool) (k k' : IntKind) (a b : Int)
@[simp] theorem gG : aU P .add t c (.int k a) (.int k b) = some (.int k (k.wrap (a + b))) := by simp [aU, iS]
@[simp] theorem mK : aU P .sub t c (.int k a) (.int k b) = some (.int k (k.wrap (a - b))) := by simp [aU, iS]
@[simp] theorem uZ : aU P .mul t c (.int k a) (.int k b) = some (.int k (k.wrap (a * b))) := by simp [aU, iS]
theorem aHY (h : b ≠ 0) : aU P .rem t c (.int k a) (.int k b) = some (.int k (a.tmod b)) := by simp [aU, iS, h]
@[simp] theorem aAi : aU P .and t c (.int k a) (.int k b) = some (.int k (bits .and k a b)) := by simp [aU, iS]
@[simp] theorem aJI : aU P .or t c (.int k a) (.int k b) = some (.int k (bits .or k a b)) := by simp [aU, iS]
@[simp] theorem aIa : aU P .xor t c (.int k a) (.int k b) = some (.int k (bits .xor k a b)) := by simp [aU, iS]
@[simp] theorem aJH : aU P .andNot t c (.int k a) (.int k b) = some (.int k (bits .andNot k a b)) := by simp [aU, iS]
@[simp] theorem jT : aU P .eql t c (.int k a) (.int k b) = some (.bool (decide (a = b))) := by simp [aU, iS]; rfl
@[simp] theorem aAn : aU P .neq t c (.int k a) (.int k b) = some (.bool (decide (a ≠ b))) := by simp [aU, iS, bne]; rfl
@[simp] theorem iA : aU P .lss t c (.int k a) (.int k b) = some (.bool (decide (a < b))) := by simp [aU, iS]
@[simp] theorem aAm : aU P .leq t c (.int k a) (.int k b) = some (.bool (decide (a ≤ b))) := by simp [aU, iS]
@[simp] theorem aAl : aU P .gtr t c (.int k a) (.int k b) = some (.bool (decide (b < a))) := by simp [aU, iS]
@[simp] theorem kK : aU P .geq t c (.int k a) (.int k b) = some (.bool (decide (b ≤ a))) := by simp [aU, iS]
theorem aHZ (h : 0 ≤ b) : aU P .shl t c (.int k a) (.int k' b) = some (.int k (k.wrap (a * 2 ^ min b.toNat k.bits))) := by
 have : ¬ b < 0 := by omega
 simp [aU, nJ, this]
theorem aDY (h : 0 ≤ b) : aU P .shr t c (.int k a) (.int k' b) = some (.int k (a.fdiv (2 ^ min b.toNat k.bits))) := by
 have : ¬ b < 0 := by omega
 simp [aU, nJ, this]
end
theorem aAk {P : Program} {t : Nat} (h : P.underlying t = some .bool) (c a b : Bool) : aU P .eql t c (.bool a) (.bool b) = some (.bool (a == b)) := by simp [aU, kE, h, lE]
theorem aAy (x n : Nat) : (x : Int).fdiv (2 ^ n) = ((x / 2 ^ n : Nat) : Int) := by
 rw [Int.fdiv_eq_ediv_of_nonneg _ (by exact_mod_cast Nat.zero_le (2 ^ n))]
 push_cast; rfl
theorem iJ {n : Int} (h0 : 0 ≤ n) (h1 : n < 18446744073709551616) : IntKind.u64.wrap n = n := by
 simp only [IntKind.wrap, IntKind.bits, IntKind.signed, Bool.false_and, Bool.false_eq_true, if_false]
 exact Int.emod_eq_of_lt h0 (by simpa using h1)
theorem aCW {n : Int} (h0 : 0 ≤ n) (h1 : n < 4294967296) : IntKind.u32.wrap n = n := by
 simp only [IntKind.wrap, IntKind.bits, IntKind.signed, Bool.false_and, Bool.false_eq_true, if_false]
 exact Int.emod_eq_of_lt h0 (by simpa using h1)
theorem aDR {n : Int} (h0 : 0 ≤ n) (h1 : n < 256) : IntKind.u8.wrap n = n := by
 simp only [IntKind.wrap, IntKind.bits, IntKind.signed, Bool.false_and, Bool.false_eq_true, if_false]
 exact Int.emod_eq_of_lt h0 (by simpa using h1)
theorem uN (n : Int) : IntKind.i64.wrap n = if n % 18446744073709551616 ≥ 9223372036854775808 then n % 18446744073709551616 - 18446744073709551616 else n % 18446744073709551616 := by
 simp [IntKind.wrap, IntKind.bits, IntKind.signed]
theorem pM (n : Int) : IntKind.u64.wrap n = n % 18446744073709551616 := by
 simp [IntKind.wrap, IntKind.bits, IntKind.signed]
theorem dH {n : Int} (h0 : -9223372036854775808 ≤ n) (h1 : n < 9223372036854775808) : IntKind.i64.wrap n = n := by
 rw [uN]; split <;> omega
theorem aHP {n : Int} (h : (Lit.int .i64 n).wf = true) : -9223372036854775808 ≤ n ∧ n < 9223372036854775808 := by
 simp [Lit.wf, IntKind.min, IntKind.max, IntKind.signed, IntKind.bits] at h; omega
theorem aHQ {n : Int} (h : (Lit.int .u64 n).wf = true) : 0 ≤ n ∧ n < 18446744073709551616 := by
 simp [Lit.wf, IntKind.min, IntKind.max, IntKind.signed, IntKind.bits] at h; omega
@[simp] theorem iT (k k' : IntKind) (n : Int) : dA k (.int k' n) = some (.int k (k.wrap n)) := by unfold dA; rfl
@[simp] theorem aLI (k : IntKind) (a b : Int) : rQ yW (.int k a) [.int k b] = some (.int k (max a b)) := by
 simp only [rQ, yW, Option.bind_some]
 congr 2
 split <;> omega
@[simp] theorem xI (b : Bool) : un .not (.bool b) = some (.bool (!b)) := by unfold un; rfl
theorem oB {m : Option (AV × aB)} {k : AV → aB → Option eP} {v : AV} {H : aB} {r : Option (AV × aB)} (h : m = some (v, H)) (h2 : fB (k v H) = r) : fB (aD m k) = r := by rw [h]; exact h2
theorem oT {a b : Option eP} {r : Option (AV × aB)} (h : fB a = r) : fB (aW (.bool true) a b) = r := h
theorem oN {a b : Option eP} {r : Option (AV × aB)} (h : fB b = r) : fB (aW (.bool false) a b) = r := h
theorem oK {m : Option eP} {k : Ex → List AV → aB → Option eP} {e : Ex} {xs : List AV} {H : aB} {r : Option (AV × aB)} (h : m = some (e, xs, H)) (h2 : fB (k e xs H) = r) : fB (dV m k) = r := by rw [h]; exact h2
theorem oX {a : Option eP} {b : Nat → Option eP} {r0 : Option eP} {i : Nat} {r : Option (AV × aB)} (h : fB (b i) = r) : fB (hO (.exit i) a b r0) = r := h
theorem oXn {a : Option eP} {b : Nat → Option eP} {r0 : Option eP} {r : Option (AV × aB)} (h : fB a = r) : fB (hO .normal a b r0) = r := h
theorem oXr {a : Option eP} {b : Nat → Option eP} {r0 : Option eP} {r : Option (AV × aB)} (h : fB r0 = r) : fB (hO .ret a b r0) = r := h
theorem oF {m : Option eP} {x : AV} {H : aB} (h : m = some (.ret, [x], H)) : fB m = some (x, H) := by rw [h]; rfl
theorem lB {γ : Type} {m : Option (AV × aB)} {k : AV → aB → Option γ} {v : AV} {H : aB} {r : Option γ} (h : m = some (v, H)) (h2 : k v H = r) : aD m k = r := by rw [h]; exact h2
theorem lT {a b r : Option eP} (h : a = r) : aW (.bool true) a b = r := h
theorem lN {a b r : Option eP} (h : b = r) : aW (.bool false) a b = r := h
theorem lK {m : Option eP} {k : Ex → List AV → aB → Option eP} {e : Ex} {xs : List AV} {H : aB} {r : Option eP} (h : m = some (e, xs, H)) (h2 : k e xs H = r) : dV m k = r := by rw [h]; exact h2
theorem lX {γ : Type} {a : γ} {b : Nat → γ} {r0 : γ} {i : Nat} {r : γ} (h : b i = r) : hO (.exit i) a b r0 = r := h
theorem lXn {γ : Type} {a : γ} {b : Nat → γ} {r0 : γ} {r : γ} (h : a = r) : hO .normal a b r0 = r := h
theorem lXr {γ : Type} {a : γ} {b : Nat → γ} {r0 : γ} {r : γ} (h : r0 = r) : hO .ret a b r0 = r := h
theorem lC {n : Nat} {xs : List AV} {H H' : aB} {k : aB → Option eP} {r : Option eP} (h : fE n xs H = some H') (h2 : k H' = r) : iF n xs H k = r := by unfold iF; rw [h]; exact h2
theorem aY (step : dY → dY) (n : Nat) : cQ step (n + 1) = step (cQ step n) := by rw [cQ]
theorem oI {i : Nat} {a b : Option eP} {r : Option (AV × aB)} (h : fB a = r) : fB (if i = i then a else b) = r := by rw [if_pos rfl]; exact h
theorem oJ {i j : Nat} {a b : Option eP} {r : Option (AV × aB)} (hij : (i == j) = false) (h : fB b = r) : fB (if i = j then a else b) = r := by rw [if_neg (by simpa using hij)]; exact h
theorem lI {γ : Type} {i : Nat} {a b r : Option γ} (h : a = r) : (if i = i then a else b) = r := by rw [if_pos rfl]; exact h
theorem lJ {γ : Type} {i j : Nat} {a b r : Option γ} (hij : (i == j) = false) (h : b = r) : (if i = j then a else b) = r := by rw [if_neg (by simpa using hij)]; exact h
@[simp] theorem aKo {γ : Type} (H : aB) (k : aB → Option γ) : vK [] H k = k H := by unfold vK; rfl
@[simp] theorem aIG {γ : Type} (q : AV × Nat × Nat × Nat) (l : List (AV × Nat × Nat × Nat)) (H : aB) (k : aB → Option γ) : vK (q :: l) H k = vK l (mD q H) k := by rw [vK]
abbrev KK := Ex → List AV → aB → Option eP
def E {γ : Type} (f : Option eP → Option γ) (ks : List KK) (m : Option eP) (r : Option γ) : Prop := f (ks.foldl dV m) = r
section
variable {γ : Type} {f : Option eP → Option γ} {ks : List KK} {r : Option γ}
theorem gL {m : Option eP} (h : E f [] m r) : f m = r := h
theorem fG {m r : Option eP} (h : E (fun x => x) [] m r) : m = r := h
theorem fP {m : Option eP} (h : f m = r) : E f [] m r := h
theorem eB {m : Option (AV × aB)} {k : AV → aB → Option eP} {v : AV} {H : aB} (h : m = some (v, H)) (h2 : E f ks (k v H) r) : E f ks (aD m k) r := by rw [h]; exact h2
theorem eR {m m' : Option (AV × aB)} {k : AV → aB → Option eP} (h : m = m') (h2 : E f ks (aD m' k) r) : E f ks (aD m k) r := by rw [h]; exact h2
theorem eT {a b : Option eP} (h : E f ks a r) : E f ks (aW (.bool true) a b) r := h
theorem eN {a b : Option eP} (h : E f ks b r) : E f ks (aW (.bool false) a b) r := h
theorem aEY {H : aB} {m : Option (AV × aB)} {k : AV → aB → Option eP} (h : E f ks (aD m k) r) : E f ks (aD (gd (.bool true) true H m) k) r := by rw [aCh]; exact h
theorem aES {H : aB} {m : Option (AV × aB)} {k : AV → aB → Option eP} (h : E f ks (aD m k) r) : E f ks (aD (gd (.bool false) false H m) k) r := by rw [aCd]; exact h
theorem aEX {H : aB} {m : Option (AV × aB)} {k : AV → aB → Option eP} (h : E f ks (k (.tup []) H) r) : E f ks (aD (gd (.bool true) false H m) k) r := by rw [aCg]; exact h
theorem aET {H : aB} {m : Option (AV × aB)} {k : AV → aB → Option eP} (h : E f ks (k (.tup []) H) r) : E f ks (aD (gd (.bool false) true H m) k) r := by rw [aCe]; exact h
theorem aEU {H : aB} {w : Bool} {m : Option (AV × aB)} {k : AV → aB → Option eP} (h : E f ks (k (.tup []) H) r) : E f ks (aD (gd (.tup []) w H m) k) r := by rw [aCf]; exact h
theorem eCn {xs : List AV} {i : Nat} {c : AV} {a b : Option eP} (hc : aE xs i = c) (h : E f ks (aW c a b) r) : E f ks (aW (aE xs i) a b) r := by rw [hc]; exact h
theorem aBO {b : Bool} {x y : Option eP} (h1 : b = true → E f ks x r) (h2 : b = false → E f ks y r) : E f ks (aW (.bool b) x y) r := by
 cases b
 ·exact h2 rfl
 ·exact h1 rfl
theorem eK {m : Option eP} {k : KK} (h : E f (k :: ks) m r) : E f ks (dV m k) r := h
theorem eS {k : KK} {e : Ex} {xs : List AV} {H : aB} (h : E f ks (k e xs H) r) : E f (k :: ks) (some (e, xs, H)) r := h
theorem eL {m : Option eP} {o : eP} (h : m = some o) (h2 : E f ks (some o) r) : E f ks m r := by rw [h]; exact h2
theorem eX {a : Option eP} {b : Nat → Option eP} {r0 : Option eP} {i : Nat} (h : E f ks (b i) r) : E f ks (hO (.exit i) a b r0) r := h
theorem eXn {a : Option eP} {b : Nat → Option eP} {r0 : Option eP} (h : E f ks a r) : E f ks (hO .normal a b r0) r := h
theorem eXr {a : Option eP} {b : Nat → Option eP} {r0 : Option eP} (h : E f ks r0 r) : E f ks (hO .ret a b r0) r := h
theorem eI {i : Nat} {a b : Option eP} (h : E f ks a r) : E f ks (if i = i then a else b) r := by rw [if_pos rfl]; exact h
theorem eJ {i j : Nat} {a b : Option eP} (hij : (i == j) = false) (h : E f ks b r) : E f ks (if i = j then a else b) r := by rw [if_neg (by simpa using hij)]; exact h
theorem eC {n : Nat} {xs : List AV} {H H' : aB} {k : aB → Option eP} (h : fE n xs H = some H') (h2 : E f ks (k H') r) : E f ks (iF n xs H k) r := by unfold iF; rw [h]; exact h2
theorem aEV {m : Option eP} (h : E f ks m r) : E f ks (grd [] m) r := h
theorem aEW {a b : AV} {l : List (AV × AV)} {m : Option eP} (h : jH a b = true) (h2 : E f ks (grd l m) r) : E f ks (grd ((a, b) :: l) m) r := by unfold grd; rw [h]; exact h2
theorem eV0 {H : aB} {k : aB → Option eP} (h2 : E f ks (k H) r) : E f ks (vK [] H k) r := by rw [aKo]; exact h2
theorem eV1 {q : AV × Nat × Nat × Nat} {l : List (AV × Nat × Nat × Nat)} {H H1 : aB} {k : aB → Option eP} (h : mD q H = H1) (h2 : E f ks (vK l H1 k) r) : E f ks (vK (q :: l) H k) r := by rw [aIG, h]; exact h2
variable {P : Program} {t : Nat} {c : Bool} {k : IntKind} {a b : Int} {H : aB} {K : AV → aB → Option eP}
theorem aHu (h1 : a = b → E f ks (K (.bool true) H) r) (h2 : a ≠ b → E f ks (K (.bool false) H) r) : E f ks (aD (pu H (aU P .eql t c (.int k a) (.int k b))) K) r := by
 rw [jT]; by_cases h : a = b
 ·rw [decide_eq_true h]; exact h1 h
 ·rw [decide_eq_false h]; exact h2 h
theorem aHz (h1 : a ≠ b → E f ks (K (.bool true) H) r) (h2 : a = b → E f ks (K (.bool false) H) r) : E f ks (aD (pu H (aU P .neq t c (.int k a) (.int k b))) K) r := by
 rw [aAn]; by_cases h : a ≠ b
 ·rw [decide_eq_true h]; exact h1 h
 ·rw [decide_eq_false h]; exact h2 (Classical.not_not.1 h)
theorem aHy (h1 : a < b → E f ks (K (.bool true) H) r) (h2 : b ≤ a → E f ks (K (.bool false) H) r) : E f ks (aD (pu H (aU P .lss t c (.int k a) (.int k b))) K) r := by
 rw [iA]; by_cases h : a < b
 ·rw [decide_eq_true h]; exact h1 h
 ·rw [decide_eq_false h]; exact h2 (by omega)
theorem aHx (h1 : a ≤ b → E f ks (K (.bool true) H) r) (h2 : b < a → E f ks (K (.bool false) H) r) : E f ks (aD (pu H (aU P .leq t c (.int k a) (.int k b))) K) r := by
 rw [aAm]; by_cases h : a ≤ b
 ·rw [decide_eq_true h]; exact h1 h
 ·rw [decide_eq_false h]; exact h2 (by omega)
theorem aHw (h1 : b < a → E f ks (K (.bool true) H) r) (h2 : a ≤ b → E f ks (K (.bool false) H) r) : E f ks (aD (pu H (aU P .gtr t c (.int k a) (.int k b))) K) r := by
 rw [aAl]; by_cases h : b < a
 ·rw [decide_eq_true h]; exact h1 h
 ·rw [decide_eq_false h]; exact h2 (by omega)
theorem aHv (h1 : b ≤ a → E f ks (K (.bool true) H) r) (h2 : a < b → E f ks (K (.bool false) H) r) : E f ks (aD (pu H (aU P .geq t c (.int k a) (.int k b))) K) r := by
 rw [kK]; by_cases h : b ≤ a
 ·rw [decide_eq_true h]; exact h1 h
 ·rw [decide_eq_false h]; exact h2 (by omega)
theorem aHA {g : Bool} (h1 : g = true → E f ks (K (.bool false) H) r) (h2 : g = false → E f ks (K (.bool true) H) r) : E f ks (aD (pu H (un .not (.bool g))) K) r := by
 rw [xI]
 cases g
 ·exact h2 rfl
 ·exact h1 rfl
theorem aCJ {g : Bool} {x y : AV} (h1 : g = true → E f ks (K x H) r) (h2 : g = false → E f ks (K y H) r) : E f ks (aD (pu H (fT (.bool g) x y)) K) r := by
 cases g
 ·exact h2 rfl
 ·exact h1 rfl
theorem sGd {g : Bool} {w : Bool} {m : Option (AV × aB)} (h1 : g = true → E f ks (aD (gd (.bool true) w H m) K) r) (h2 : g = false → E f ks (aD (gd (.bool false) w H m) K) r) : E f ks (aD (gd (.bool g) w H m) K) r := by
 cases g
 ·exact h2 rfl
 ·exact h1 rfl
end
section
variable {P : Program} {t : Nat} {c : Bool} {k : IntKind} {a b : Int}
theorem mQ (h : a = b) : aU P .eql t c (.int k a) (.int k b) = some (.bool true) := by rw [jT, decide_eq_true h]
theorem gN (h : a ≠ b) : aU P .eql t c (.int k a) (.int k b) = some (.bool false) := by rw [jT, decide_eq_false h]
theorem aAU (h : a ≠ b) : aU P .neq t c (.int k a) (.int k b) = some (.bool true) := by rw [aAn, decide_eq_true h]
theorem vM (h : a = b) : aU P .neq t c (.int k a) (.int k b) = some (.bool false) := by rw [aAn, decide_eq_false (fun h' => h' h)]
theorem fV (h : a < b) : aU P .lss t c (.int k a) (.int k b) = some (.bool true) := by rw [iA, decide_eq_true h]
theorem fO (h : b ≤ a) : aU P .lss t c (.int k a) (.int k b) = some (.bool false) := by rw [iA, decide_eq_false (by omega)]
theorem vL (h : a ≤ b) : aU P .leq t c (.int k a) (.int k b) = some (.bool true) := by rw [aAm, decide_eq_true h]
theorem aAT (h : b < a) : aU P .leq t c (.int k a) (.int k b) = some (.bool false) := by rw [aAm, decide_eq_false (by omega)]
theorem mR (h : b < a) : aU P .gtr t c (.int k a) (.int k b) = some (.bool true) := by rw [aAl, decide_eq_true h]
theorem iP (h : a ≤ b) : aU P .gtr t c (.int k a) (.int k b) = some (.bool false) := by rw [aAl, decide_eq_false (by omega)]
theorem vJ (h : b ≤ a) : aU P .geq t c (.int k a) (.int k b) = some (.bool true) := by rw [kK, decide_eq_true h]
theorem vI (h : a < b) : aU P .geq t c (.int k a) (.int k b) = some (.bool false) := by rw [kK, decide_eq_false (by omega)]
theorem aJl (h0 : -9223372036854775808 ≤ a + b) (h1 : a + b < 9223372036854775808) : aU P .add t c (.int .i64 a) (.int .i64 b) = some (.int .i64 (a + b)) := by rw [gG, dH h0 h1]
theorem aJt (h0 : -9223372036854775808 ≤ a - b) (h1 : a - b < 9223372036854775808) : aU P .sub t c (.int .i64 a) (.int .i64 b) = some (.int .i64 (a - b)) := by rw [mK, dH h0 h1]
theorem aGP (h0 : 0 ≤ a + b) (h1 : a + b < 18446744073709551616) : aU P .add t c (.int .u64 a) (.int .u64 b) = some (.int .u64 (a + b)) := by rw [gG, iJ h0 h1]
theorem aJn (h0 : -9223372036854775808 ≤ a) (h1 : a < 9223372036854775808) : dA .i64 (.int k a) = some (.int .i64 a) := by rw [iT, dH h0 h1]
theorem aJo (h0 : 0 ≤ a) (h1 : a < 18446744073709551616) : dA .u64 (.int k a) = some (.int .u64 a) := by rw [iT, iJ h0 h1]
theorem aJm (h0 : 0 ≤ a) (h1 : a < 256) : dA .u8 (.int k a) = some (.int .u8 a) := by rw [iT, aDR h0 h1]
theorem aGT (h0 : 0 ≤ a) (h1 : a < 4294967296) : dA .u32 (.int k a) = some (.int .u32 a) := by rw [iT, aCW h0 h1]
theorem sK {s bl L o m : Nat} (h0 : 0 ≤ a) (h1 : a < (m : Int)) : aM s (.sl bl L o m s) (.int k a) = some (.ptr bl L (o + a.toNat) 0) := by simp [aM, h0, h1]
theorem aEu {bor : Bool} {xs : List AV} : dN (.ro bor xs) = some (.int .i64 (xs.length : Int)) := by unfold dN; rfl
theorem aEv {bl L o m s : Nat} : dN (.sl bl L o m s) = some (.int .i64 (m : Int)) := by unfold dN; rfl
theorem aCF : dN .nils = some (.int .i64 0) := by unfold dN; rfl
theorem aHe {bl L i o : Nat} : fH (.ptr bl L i o) = some (.ptr bl L i o) := by unfold fH; rfl
theorem aEy {bor : Bool} {x : AV} {o : Nat} : fH (.rp bor x o) = some (.rp bor x o) := by unfold fH; rfl
theorem aEw {g : Nat} {caps : List AV} : fH (.fn g caps) = some (.fn g caps) := by unfold fH; rfl
theorem aEx {g : Nat} : fH (.gl g) = some (.gl g) := by unfold fH; rfl
theorem aJp {off bl L i o : Nat} : aA off (.ptr bl L i o) = some (.ptr bl L i (o + off)) := by unfold aA; rfl
theorem aGX {off : Nat} {bor : Bool} {x : AV} {o : Nat} : aA off (.rp bor x o) = some (.rp bor x (o + off)) := by unfold aA; rfl
theorem aHd {G : aG} {s : Nat} {bor : Bool} {cs : List AV} {o : Nat} {H : aB} : aF G false s (.rp bor (.agg cs) o) H = cs[o]? := by unfold aF kV; rfl
theorem aCE {cs : List AV} {H : aB} : gC (.agg cs) H = some (.rp false (.agg cs) 0, H) := by unfold gC; rfl
theorem aGU {u : AV} {l : List AV} : cN (.tup (u :: l)) 0 = some u := by unfold cN; rfl
theorem aGV {u v : AV} {l : List AV} : cN (.tup (u :: v :: l)) 1 = some v := by unfold cN; rfl
theorem aGW {u v w : AV} {l : List AV} : cN (.tup (u :: v :: w :: l)) 2 = some w := by unfold cN; rfl
theorem aHg : un .not (.bool true) = some (.bool false) := by rw [xI]; rfl
theorem aHf : un .not (.bool false) = some (.bool true) := by rw [xI]; rfl
theorem aJs {H : aB} : fM (some H) = some (.tup [], H) := by unfold fM; rfl
end
section
variable {G : aG} {g : Bool} {s b L i o t z : Nat} {cs : List AV} {blk : ABlk} {H : aB} {v x : AV}
def ldB (g : Bool) (s L i o : Nat) (blk : ABlk) : Option AV := if blk.elems.length = L then (match blk.elems[i]? with | some x => kV g s x.cells o | none => none) else none
def stB (s L i o : Nat) (v : AV) (blk : ABlk) : Option ABlk := if blk.elems.length = L ∧ gF v = true ∧ v.cells.length = s then
    (match blk.elems[i]? with
     | some x => if o + s ≤ x.cells.length then some { blk with elems := blk.elems.set i (kJ x (kI x.cells o v.cells)) } else none
     | none => none) else none
theorem aHb : aF G g s (.ptr 0 L i o) (blk :: H) = ldB g s L i o blk := by unfold aF ldB; rfl
theorem aHc : aF G g s (.ptr (b + 1) L i o) (blk :: H) = aF G g s (.ptr b L i o) H := by unfold aF; rfl
theorem aJq : ldB false s 1 0 o ⟨t, z, [.agg cs]⟩ = cs[o]? := by unfold ldB kV; rfl
theorem aGY : ldB true s 1 0 o ⟨t, z, [.agg cs]⟩ = if o + s ≤ cs.length then some (.agg ((cs.drop o).take s)) else none := by unfold ldB kV; rfl
theorem aEt {bor : Bool} : aF G true s (.rp bor (.agg cs) o) H = if o + s ≤ cs.length then some (.agg ((cs.drop o).take s)) else none := by unfold aF kV; rfl
theorem aHa {k : IntKind} {n : Int} : ldB false s 1 0 0 ⟨t, z, [.int k n]⟩ = some (.int k n) := by unfold ldB kV; rfl
theorem aGZ {c : Bool} : ldB false s 1 0 0 ⟨t, z, [.bool c]⟩ = some (.bool c) := by unfold ldB kV; rfl
theorem aHh : aV s (.ptr 0 L i o) v (blk :: H) = (stB s L i o v blk).map (· :: H) := by
 unfold aV stB
 simp only [List.getElem?_cons_zero]
 split
 ·cases blk.elems[i]? with
  | none => rfl
  | some x => simp only; split <;> rfl
 ·rfl
theorem aHi : aV s (.ptr (b + 1) L i o) v (blk :: H) = (aV s (.ptr b L i o) v H).map (blk :: ·) := by
 unfold aV
 simp only [List.getElem?_cons_succ]
 cases H[b]? with
 | none => rfl
 | some y =>
  simp only
  split
  ·cases y.elems[i]? with
   | none => rfl
   | some x => simp only; split <;> rfl
  ·rfl
theorem aJr : stB s 1 0 o v ⟨t, z, [.agg cs]⟩ = if gF v = true ∧ v.cells.length = s ∧ o + s ≤ cs.length then some ⟨t, z, [.agg (kI cs o v.cells)]⟩ else none := by
 have e : (AV.agg cs).cells = cs := rfl
 unfold stB
 by_cases h1 : gF v = true ∧ v.cells.length = s
 ·by_cases h2 : o + s ≤ cs.length <;> simp [e, h1, h2, kJ]
 ·have h3 : ¬ (gF v = true ∧ v.cells.length = s ∧ o + s ≤ cs.length) := fun h => h1 ⟨h.1, h.2.1⟩
  rw [if_neg h3, if_neg (fun h => h1 h.2)]
theorem aGQ : fW t (.agg (x :: cs)) H = some (.ptr H.length 1 0 0, H ++ [⟨t, cs.length + 1, [.agg (x :: cs)]⟩]) := by
 unfold fW; simp [gF, AV.cells]
theorem aGS {k : IntKind} {n : Int} : fW t (.int k n) H = some (.ptr H.length 1 0 0, H ++ [⟨t, 1, [.int k n]⟩]) := by unfold fW; rfl
theorem aGR {c : Bool} : fW t (.bool c) H = some (.ptr H.length 1 0 0, H ++ [⟨t, 1, [.bool c]⟩]) := by unfold fW; rfl
end
theorem w1 {x x' : AV} {H : aB} (h : bW 0 x = true) (e : x = x') : E fB [] (cA [x] 0 H) (some (x', [])) := by subst e; exact oF (nB h H)
theorem w2 {x y r : AV} {H : aB} (hx : bW 0 x = true) (hy : bW 0 y = true) (e : AV.tup [x, y] = r) : E fB [] (cA [x, y] 0 H) (some (r, [])) := by subst e; exact oF (aCa hx hy H)
theorem w1b {b b' : Bool} {H : aB} (e : b = b') : E fB [] (cA [.bool b] 0 H) (some (.bool b', [])) := w1 rfl (by rw [e])
theorem w2b {k : IntKind} {n n' : Int} {b b' : Bool} {H : aB} (e : n = n') (e2 : b = b') : E fB [] (cA [.int k n, .bool b] 0 H) (some (.tup [.int k n', .bool b'], [])) := w2 rfl rfl (by rw [e, e2])
theorem qf : type_of% (aMP @tL <| aMP @fY <| aMP @fX <| aMP @aCh <| aMP @aCd <| aMP @aCg <| aMP @aCe <| @aCf) := aMP @tL <| aMP @fY <| aMP @fX <| aMP @aCh <| aMP @aCd <| aMP @aCg <| aMP @aCe <| @aCf
theorem qa : type_of% (aMP qf <| aMP @nV <| aMP @mO <| aMP @aHg <| aMP @aHf <| aMP @mQ <| aMP @gN <| aMP @aAU <| aMP @vM <| aMP @fV <| aMP @fO <| aMP @vL <| aMP @aAT <| aMP @mR <| aMP @iP <| aMP @vJ <| aMP @vI <| aMP @aJl <| aMP @aJt <| aMP @aGP <| aMP @aJn <| aMP @aJo <| aMP @aJm <| aMP @aGT <| aMP @sK <| aMP @aEu <| aMP @aEv <| aMP @aCF <| aMP @aHe <| aMP @aEy <| aMP @aEw <| aMP @aEx <| aMP @aJp <| aMP @aGX <| aMP @aHd <| aMP @aCE <| aMP @aGU <| aMP @aGV <| aMP @aGW <| aMP @List.getElem?_cons_zero.{0} <| aMP @List.getElem?_cons_succ.{0} <| aMP @List.getElem?_nil.{0} <| aMP @aJs <| aMP @aHb <| aMP @aHc <| aMP @aJq <| aMP @aGY <| aMP @aEt <| aMP @aHa <| aMP @aGZ <| aMP @aGQ <| aMP @aGS <| aMP @aGR <| aMP @List.length_cons.{0} <| aMP @List.length_nil.{0} <| aMP @List.cons_append.{0} <| aMP @List.nil_append.{0} <| aMP @List.drop_zero.{0} <| aMP @List.drop_succ_cons.{0} <| aMP @List.take_succ_cons.{0} <| aMP @List.take_zero.{0} <| aMP @aHh <| aMP @aHi <| aMP @aJr <| aMP @Option.map_some.{0, 0} <| aMP @List.replicate_succ.{0} <| aMP @List.replicate_zero.{0} <| aMP @List.set_cons_zero.{0} <| aMP @List.set_cons_succ.{0} <| aMP @Nat.le_refl <| aMP @and_self <| aMP @true_and <| aMP @and_true <| aMP @if_true.{1} <| aMP @Bool.not_true <| aMP @Bool.not_false <| aMP @Int.toNat_natCast <| @Nat.zero_add) := aMP qf <| aMP @nV <| aMP @mO <| aMP @aHg <| aMP @aHf <| aMP @mQ <| aMP @gN <| aMP @aAU <| aMP @vM <| aMP @fV <| aMP @fO <| aMP @vL <| aMP @aAT <| aMP @mR <| aMP @iP <| aMP @vJ <| aMP @vI <| aMP @aJl <| aMP @aJt <| aMP @aGP <| aMP @aJn <| aMP @aJo <| aMP @aJm <| aMP @aGT <| aMP @sK <| aMP @aEu <| aMP @aEv <| aMP @aCF <| aMP @aHe <| aMP @aEy <| aMP @aEw <| aMP @aEx <| aMP @aJp <| aMP @aGX <| aMP @aHd <| aMP @aCE <| aMP @aGU <| aMP @aGV <| aMP @aGW <| aMP @List.getElem?_cons_zero.{0} <| aMP @List.getElem?_cons_succ.{0} <| aMP @List.getElem?_nil.{0} <| aMP @aJs <| aMP @aHb <| aMP @aHc <| aMP @aJq <| aMP @aGY <| aMP @aEt <| aMP @aHa <| aMP @aGZ <| aMP @aGQ <| aMP @aGS <| aMP @aGR <| aMP @List.length_cons.{0} <| aMP @List.length_nil.{0} <| aMP @List.cons_append.{0} <| aMP @List.nil_append.{0} <| aMP @List.drop_zero.{0} <| aMP @List.drop_succ_cons.{0} <| aMP @List.take_succ_cons.{0} <| aMP @List.take_zero.{0} <| aMP @aHh <| aMP @aHi <| aMP @aJr <| aMP @Option.map_some.{0, 0} <| aMP @List.replicate_succ.{0} <| aMP @List.replicate_zero.{0} <| aMP @List.set_cons_zero.{0} <| aMP @List.set_cons_succ.{0} <| aMP @Nat.le_refl <| aMP @and_self <| aMP @true_and <| aMP @and_true <| aMP @if_true.{1} <| aMP @Bool.not_true <| aMP @Bool.not_false <| aMP @Int.toNat_natCast <| @Nat.zero_add
theorem oL {p q : Prop} (h : q) (t : q → p := by
 intro hgo
 repeat' first
  | (with_reducible first | refine eT ?_ | refine eN ?_ | refine eS ?_ | refine eXn ?_ | refine eXr ?_ | refine eX ?_ | refine eI ?_ | refine eK ?_ | refine eV0 ?_ | refine aEV ?_ | refine aEY ?_ | refine aES ?_ | refine aEX ?_ | refine aET ?_ | refine aEU ?_)
  | ((with_reducible apply eCn); (simp only [fY, fX]; first | done | (with_reducible exact rfl)))
  | ((with_reducible apply eJ); (rfl))
  | ((with_reducible apply aEW); (first | rfl | (simp only [fY, fX]; rfl)))
  | ((with_reducible apply eL); (first | exact lx1 | exact lx2 | exact lx3))
  | ((with_reducible apply eB); (first | (with_reducible exact rfl) | (simp (disch := omega) only [qf, fx]; first | done | (with_reducible exact rfl) | (with_reducible exact ⟨rfl, rfl⟩)) | (simp (disch := omega) only [qa, kI, AV.cells, gF, cU, lP, eQ, iC, kD, Nat.reduceLeDiff, Nat.reduceLT, Nat.reduceAdd, ↓reduceIte, fx]; first | done | (with_reducible exact rfl) | (with_reducible exact ⟨rfl, rfl⟩))))
  | ((with_reducible apply eR); (simp only [fY, fX]; (with_reducible exact rfl)))
  | ((with_reducible first | refine aHu ?_ ?_ | refine aHz ?_ ?_ | refine aHy ?_ ?_ | refine aHx ?_ ?_ | refine aHw ?_ ?_ | refine aHv ?_ ?_ | refine aHA ?_ ?_ | refine aCJ ?_ ?_ | refine sGd ?_ ?_ | refine aBO ?_ ?_) <;> intro hq <;> try subst hq)
 all_goals first | omega | exact hgo) : p := t h
theorem gE {p q : Prop} (h : q) (t : q → p := by
 intro hgo
 repeat first
  | (with_reducible first | refine eT ?_ | refine eN ?_ | refine eS ?_ | refine eXn ?_ | refine eXr ?_ | refine eX ?_ | refine eI ?_ | refine eK ?_ | refine eV0 ?_ | refine aEV ?_ | refine aEY ?_ | refine aES ?_ | refine aEX ?_ | refine aET ?_ | refine aEU ?_)
  | ((with_reducible apply eCn); (simp only [fY, fX]; first | done | (with_reducible exact rfl)))
  | ((with_reducible apply eJ); (rfl))
  | ((with_reducible apply aEW); (first | rfl | (simp only [fY, fX]; rfl)))
  | ((with_reducible apply eL); (first | exact lx1 | exact lx2 | exact lx3))
  | ((with_reducible apply eB); (first | (with_reducible exact rfl) | (simp (disch := omega) only [qf, fx]; first | done | (with_reducible exact rfl) | (with_reducible exact ⟨rfl, rfl⟩)) | (simp (disch := omega) only [qa, kI, AV.cells, gF, cU, lP, eQ, iC, kD, Nat.reduceLeDiff, Nat.reduceLT, Nat.reduceAdd, ↓reduceIte, fx]; first | done | (with_reducible exact rfl) | (with_reducible exact ⟨rfl, rfl⟩))))
  | ((with_reducible apply eR); (simp only [fY, fX]; (with_reducible exact rfl)))
 exact hgo) : p := t h
theorem sD {f : AV → Option AV} : ∀ {xs : List AV}, (∀ x ∈ xs, f x = some x) → nT f xs = some xs
 | [], _ => rfl
 | x :: xs, h => by
  have h2 := sD (f := f) (xs := xs) (fun y hy => h y (List.mem_cons_of_mem _ hy))
  simp only [nT, h x (by simp), h2]
theorem nO {n : Nat} : ∀ {xs : List AV} (_ : bX n xs = true) (x : AV) (_ : x ∈ xs), bW n x = true
 | [], _, _, hx => by cases hx
 | y :: xs, h, x, hx => by
  simp only [bX, Bool.and_eq_true] at h
  rcases List.mem_cons.1 hx with rfl | hx
  ·exact h.1
  ·exact nO h.2 x hx
mutual
theorem iH {n m : Nat} (h : n ≤ m) : ∀ {x : AV}, bW n x = true → bW m x = true
 | .ptr .., hx => by simp [bW] at hx ⊢; omega
 | .sl .., hx => by simp [bW] at hx ⊢; omega
 | .fn _ caps, hx => by simp only [bW] at hx ⊢; exact kQ h hx
 | .iface _ v, hx => by simp only [bW] at hx ⊢; exact iH h hx
 | .agg cs, hx => by simp only [bW] at hx ⊢; exact kQ h hx
 | .tup vs, hx => by simp only [bW] at hx ⊢; exact kQ h hx
 | .ro _ xs, hx => by simp only [bW] at hx ⊢; exact kQ h hx
 | .rp _ x _, hx => by simp only [bW] at hx ⊢; exact iH h hx
 | .undef, _ => rfl
 | .bool _, _ => rfl
 | .int .., _ => rfl
 | .str _, _ => rfl
 | .nilp, _ => rfl
 | .nilf, _ => rfl
 | .nili, _ => rfl
 | .gl _, _ => rfl
 | .gp _, _ => rfl
 | .nils, _ => rfl
 | .anyb, _ => rfl
theorem kQ {n m : Nat} (h : n ≤ m) : ∀ {xs : List AV}, bX n xs = true → bX m xs = true
 | [], _ => rfl
 | x :: xs, hx => by
  simp only [bX, Bool.and_eq_true] at hx ⊢
  exact ⟨iH h hx.1, kQ h hx.2⟩
end
theorem yI {H : aB} {n d : Nat} {x : AV} (h : bW n x = true) : tX (qY H n d) x = some x := by
 cases x with
 | agg cs =>
  simp only [bW] at h
  have : nT (qY H n d) cs = some cs := sD fun y hy => nQ (nO h y hy) d
  simp only [tX, this]
 | _ => exact nQ h d
theorem sY {H : aB} {b n0 d n sz ty : Nat} {xs : List AV} (hb : H[b]? = some ⟨ty, sz, xs⟩) (hn : n0 ≤ b) (hl : xs.length = n) (hs : kY sz xs = true) (hx : bX n0 xs = true) :
  qY H n0 (d + 1) (.sl b n 0 n sz) = some (.ro false xs) := by
 have h1 : bW n0 (.sl b n 0 n sz) = false := by simp [bW]; omega
 have h2 : nT (tX (qY H n0 d)) xs = some xs := sD fun x h => yI (nO hx x h)
 have h3 : gB (.sl b n 0 n sz) H = some xs := by
  simp only [gB, hb, hl, if_true, List.drop_zero]
  rw [List.take_of_length_le (by omega)]
 unfold qY
 simp only [h1, h3, hs, h2]
theorem pN {α : Type} (s : Nat) (e : α → AV) (h : ∀ a, (e a).cells.length = s) (xs : List α) : kY s (xs.map e) = true := by
 unfold kY
 simp [List.all_eq_true, h]
theorem aCN {H : aB} {b n sz ty : Nat} {xs : List AV} (hb : H[b]? = some ⟨ty, sz, xs⟩) (hl : xs.length = n) (hs : kY sz xs = true) (hx : gK xs = true) :
  aBc H (.sl b n 0 n sz) = some (.ro true xs) := by
 have h3 : gB (.sl b n 0 n sz) H = some xs := by
  simp only [gB, hb, hl, if_true, List.drop_zero]
  rw [List.take_of_length_le (by omega)]
 unfold aBc pL
 simp only [h3, hs, hx, Bool.and_self, if_true]
theorem aFy {H : aB} {b n sz ty : Nat} {xs : List AV} (hb : H[b]? = some ⟨ty, sz, xs⟩) (hl : xs.length = n) (hs : kY sz xs = true) (hx : gK xs = true) :
  pL H (.sl b n 0 n sz) = some (.ro true xs) := by
 have h3 : gB (.sl b n 0 n sz) H = some xs := by
  simp only [gB, hb, hl, if_true, List.drop_zero]
  rw [List.take_of_length_le (by omega)]
 unfold pL
 simp only [h3, hs, hx, Bool.and_self, if_true]
theorem pZ {H : aB} {x y : AV} {xs ys : List AV} (h : aBc H x = some y) (hs : mA H xs = some ys) : mA H (x :: xs) = some (y :: ys) := by
 simp only [mA, h, hs]
theorem aBd {H : aB} : mA H [] = some [] := rfl
theorem pG {g : cD} {args bs : List AV} {r : AV} {H : aB} (ha : mA H args = some bs) (hg : g bs [] = some (r, [])) (hr : gI r = true) : bF g args H = some (r, H) := by
 simp only [bF, ha, hg, hr, if_true]
theorem mN {g : cD} {args : List AV} {r : AV} {H H' : aB} (h : g args H = some (r, H')) (hl : H.length ≤ H'.length) : bB g args H = some (r, H') := by
 simp only [bB, h, hl, if_true]
theorem aAA {x y : AV} {n : Nat} {H : aB} (h : qY H n 6 x = some y) (hb : dB n (H.take n) = true) : cA [x] n H = some (.ret, [y], H.take n) := by
 have hc : fE n [] H = some (H.take n) := by unfold fE; simp only [bX, hb, Bool.true_and]
 unfold cA nY
 simp only [h, hc]
theorem aAB {H : aB} {n d : Nat} {cs zs : List AV} (hb : bX n cs = false) (h : nT (qY H n d) cs = some zs) : qY H n (d + 1) (.agg cs) = some (.agg zs) := by
 unfold qY
 simp only [bW, hb, h]
theorem aEe {H : aB} {n d : Nat} {cs zs : List AV} (hb : bX n cs = false) (h : nT (qY H n d) cs = some zs) : qY H n (d + 1) (.tup cs) = some (.tup zs) := by
 unfold qY
 simp only [bW, hb, h]
theorem gJ {f : AV → Option AV} {x y : AV} {xs ys : List AV} (h : f x = some y) (hs : nT f xs = some ys) : nT f (x :: xs) = some (y :: ys) := by
 simp only [nT, h, hs]
theorem pD {f : AV → Option AV} : nT f [] = some [] := rfl
theorem aEZ (e : Ex) : aGc e e = true := by cases e <;> simp [aGc]
theorem aDe {x y : Option eP} {e : Ex} {xs : List AV} {H : aB} (hx : x = some (e, xs, H)) (hy : y = some (e, xs, H)) (h1 : nP xs xs = true) (h2 : qD H H = true) : aBF x y = some (e, xs, H) := by
 subst hx hy
 unfold aBF
 simp only [aEZ, h1, h2, Bool.and_self]
theorem aLT {γ : Type} {f : Option eP → Option γ} {ks : List KK} {r : Option γ} {x y : Option eP} {e : Ex} {xs : List AV} {H : aB} (hx : x = some (e, xs, H)) (hy : y = some (e, xs, H)) (h1 : nP xs xs = true) (h2 : qD H H = true)
  (h : E f ks (some (e, xs, H)) r) : E f ks (aW .anyb x y) r := by
 have : aW .anyb x y = some (e, xs, H) := aDe hx hy h1 h2
 rw [this]; exact h
theorem aBQ {α : Type} (e : α → AV) (h : ∀ a, kS (e a) (e a) = true) : ∀ xs : List α, nP (xs.map e) (xs.map e) = true
 | [] => by simp [nP]
 | x :: xs => by simp [nP, h x, aBQ e h xs]
theorem aBS {A : aB} : ∀ {H : aB}, qD H H = true → qD A A = true → qD (H ++ A) (H ++ A) = true
 | [], _, h => h
 | x :: H, h1, h2 => by
  simp only [qD, Bool.and_eq_true] at h1
  simp only [List.cons_append, qD, Bool.and_eq_true]
  exact ⟨h1.1, aBS h1.2 h2⟩
end Go.Proofs.YtlkgkfgkiidhdaaDoor.Mir
