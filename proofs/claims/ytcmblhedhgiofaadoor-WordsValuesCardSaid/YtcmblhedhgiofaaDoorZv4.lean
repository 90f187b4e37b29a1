/- Part 4 of the proof: the evaluator and its soundness. -/
import Derived.Test.YtcmblhedhgiofaaDoorZv3
namespace Go.Proofs.YtcmblhedhgiofaaDoor.Mir
open Go
set_option linter.unusedSimpArgs false
set_option linter.unusedVariables false
@[simp] theorem aCe {γ : Type} (v : AV) (H : aB) (k : AV → aB → Option γ) : aD (some (v, H)) k = k v H := by unfold aD; rfl
@[simp] theorem cK (H : aB) (v : AV) : pu H (some v) = some (v, H) := by unfold pu; rfl
@[simp] theorem aBt (x y : Option cM) : aM (.bool true) x y = x := by unfold aM; rfl
@[simp] theorem aAY (x y : Option cM) : aM (.bool false) x y = y := by unfold aM; rfl
@[simp] theorem uC (H : aB) (m : Option (AV × aB)) : gd (.bool true) true H m = m := by unfold gd; rfl
@[simp] theorem tY (H : aB) (m : Option (AV × aB)) : gd (.bool false) false H m = m := by unfold gd; rfl
@[simp] theorem uB (H : aB) (m : Option (AV × aB)) : gd (.bool true) false H m = some (.tup [], H) := by unfold gd; rfl
@[simp] theorem tZ (H : aB) (m : Option (AV × aB)) : gd (.bool false) true H m = some (.tup [], H) := by unfold gd; rfl
@[simp] theorem uA (w : Bool) (H : aB) (m : Option (AV × aB)) : gd (.tup []) w H m = some (.tup [], H) := by unfold gd; rfl
@[simp] theorem iU (x y : AV) : dE (.bool true) x y = some x := by unfold dE; rfl
@[simp] theorem hR (x y : AV) : dE (.bool false) x y = some y := by unfold dE; rfl
@[simp] theorem aBV (e : Ex) (xs : List AV) (H : aB) (k : Ex → List AV → aB → Option cM) : dG (some (e, xs, H)) k = k e xs H := by unfold dG; rfl
@[simp] theorem aBv {γ : Type} (a : γ) (b : Nat → γ) (r : γ) : hC .normal a b r = a := by unfold hC; rfl
@[simp] theorem aCg {γ : Type} (i : Nat) (a : γ) (b : Nat → γ) (r : γ) : hC (.exit i) a b r = b i := by unfold hC; rfl
@[simp] theorem aCw {γ : Type} (a : γ) (b : Nat → γ) (r : γ) : hC .ret a b r = r := by unfold hC; rfl
@[simp] theorem dY (x : AV) (xs : List AV) : aJ (x :: xs) 0 = x := by unfold aJ; rfl
@[simp] theorem dX (x : AV) (xs : List AV) (i : Nat) : aJ (x :: xs) (i + 1) = aJ xs i := by rw [aJ]
@[simp] theorem aCo (r : AV) (H : aB) : dF (some (.ret, [r], H)) = some (r, H) := by unfold dF; rfl
@[congr] theorem aBZ {γ : Type} {m m' : Option (AV × aB)} {k : AV → aB → Option γ} (h : m = m') : aD m k = aD m' k := by rw [h]
@[congr] theorem aBn {m m' : Option cM} {k : Ex → List AV → aB → Option cM} (h : m = m') : dG m k = dG m' k := by rw [h]
@[congr] theorem aAX {c c' : AV} {x y : Option cM} (h : c = c') : aM c x y = aM c' x y := by rw [h]
@[congr] theorem aCb {γ : Type} {e e' : Ex} {a : γ} {b : Nat → γ} {r : γ} (h : e = e') : hC e a b r = hC e' a b r := by rw [h]
@[congr] theorem aCl {g g' : AV} {w : Bool} {H : aB} {m : Option (AV × aB)} (h : g = g') : gd g w H m = gd g' w H m := by rw [h]
theorem qW (H : aB) : iR 0 [] H = some [] := rfl
theorem nY {H : aB} {n : Nat} {x : AV} (h : bR n x = true) (d : Nat) : tX H n d x = some x := by
 cases d <;> simp [tX, h]
theorem kC {x : AV} (h : bR 0 x = true) (H : aB) : bS [x] 0 H = some (.ret, [x], []) := by
 simp [bS, mB, nY h, qW]
theorem gM {x y : AV} (hx : bR 0 x = true) (hy : bR 0 y = true) (H : aB) : bS [x, y] 0 H = some (.ret, [.tup [x, y]], []) := by
 have : bR 0 (.tup [x, y]) = true := by simp [bR, cV, hx, hy]
 simp [bS, mB, nY this, qW]
@[simp] theorem aCi (k : IntKind) (n : Int) (H : aB) : bS [.int k n] 0 H = some (.ret, [.int k n], []) := kC rfl H
@[simp] theorem cX (b : Bool) (H : aB) : bS [.bool b] 0 H = some (.ret, [.bool b], []) := kC rfl H
theorem vY {H : aB} {x : AV} (h : bE x = true) : yM H x = some x := by
 cases x with
 | agg cs =>
  simp only [bE] at h
  have : ∀ cs : List AV, dW cs = true → gE H cs = some cs := by
   intro cs
   induction cs with
   | nil => intro _; rfl
   | cons y ys ih =>
    intro hp
    simp only [dW, Bool.and_eq_true] at hp
    have h1 : pX H y = some y := by cases y <;> simp_all [pX, bE]
    simp [gE, h1, ih hp.2]
  simp [yM, this cs h]
 | _ => simp_all [yM, pX, bE]
theorem nI {H : aB} : ∀ {xs : List AV}, dW xs = true → pY H xs = some xs
 | [], _ => rfl
 | x :: xs, h => by
  simp only [dW, Bool.and_eq_true] at h
  simp [pY, vY h.1, nI h.2]
theorem cS {g : bV} {args : List AV} {r : AV} {H : aB} (hg : g args [] = some (r, [])) (ha : dW args = true) (hr : dR r = true) : aN g args H = some (r, H) := by
 simp [aN, nI ha, hg, hr]
section
variable (P : Program) (t : Nat) (c : Bool) (k k' : IntKind) (a b : Int)
@[simp] theorem iP : aZ P .add t c (.int k a) (.int k b) = some (.int k (k.wrap (a + b))) := by simp [aZ, fM]
@[simp] theorem wG : aZ P .sub t c (.int k a) (.int k b) = some (.int k (k.wrap (a - b))) := by simp [aZ, fM]
@[simp] theorem aAx : aZ P .mul t c (.int k a) (.int k b) = some (.int k (k.wrap (a * b))) := by simp [aZ, fM]
@[simp] theorem nU : aZ P .and t c (.int k a) (.int k b) = some (.int k (bits .and k a b)) := by simp [aZ, fM]
@[simp] theorem yS : aZ P .or t c (.int k a) (.int k b) = some (.int k (bits .or k a b)) := by simp [aZ, fM]
@[simp] theorem wH : aZ P .xor t c (.int k a) (.int k b) = some (.int k (bits .xor k a b)) := by simp [aZ, fM]
@[simp] theorem aBr : aZ P .andNot t c (.int k a) (.int k b) = some (.int k (bits .andNot k a b)) := by simp [aZ, fM]
@[simp] theorem kW : aZ P .eql t c (.int k a) (.int k b) = some (.bool (decide (a = b))) := by simp [aZ, fM]; rfl
@[simp] theorem nW : aZ P .neq t c (.int k a) (.int k b) = some (.bool (decide (a ≠ b))) := by simp [aZ, fM, bne]; rfl
@[simp] theorem jZ : aZ P .lss t c (.int k a) (.int k b) = some (.bool (decide (a < b))) := by simp [aZ, fM]
@[simp] theorem rZ : aZ P .leq t c (.int k a) (.int k b) = some (.bool (decide (a ≤ b))) := by simp [aZ, fM]
@[simp] theorem jY : aZ P .gtr t c (.int k a) (.int k b) = some (.bool (decide (b < a))) := by simp [aZ, fM]
@[simp] theorem nV : aZ P .geq t c (.int k a) (.int k b) = some (.bool (decide (b ≤ a))) := by simp [aZ, fM]
theorem aAy (h : 0 ≤ b) : aZ P .shl t c (.int k a) (.int k' b) = some (.int k (k.wrap (a * 2 ^ min b.toNat k.bits))) := by
 have : ¬ b < 0 := by omega
 simp [aZ, iN, this]
theorem sA (h : 0 ≤ b) : aZ P .shr t c (.int k a) (.int k' b) = some (.int k (a.fdiv (2 ^ min b.toNat k.bits))) := by
 have : ¬ b < 0 := by omega
 simp [aZ, iN, this]
end
theorem rY {P : Program} {t : Nat} (h : P.underlying t = some .bool) (c a b : Bool) : aZ P .eql t c (.bool a) (.bool b) = some (.bool (a == b)) := by simp [aZ, gA, h, gI]
theorem sJ (x n : Nat) : (x : Int).fdiv (2 ^ n) = ((x / 2 ^ n : Nat) : Int) := by
 rw [Int.fdiv_eq_ediv_of_nonneg _ (by exact_mod_cast Nat.zero_le (2 ^ n))]
 push_cast; rfl
theorem fX {n : Int} (h0 : 0 ≤ n) (h1 : n < 18446744073709551616) : IntKind.u64.wrap n = n := by
 simp only [IntKind.wrap, IntKind.bits, IntKind.signed, Bool.false_and, Bool.false_eq_true, if_false]
 exact Int.emod_eq_of_lt h0 (by simpa using h1)
theorem vF {n : Int} (h0 : 0 ≤ n) (h1 : n < 4294967296) : IntKind.u32.wrap n = n := by
 simp only [IntKind.wrap, IntKind.bits, IntKind.signed, Bool.false_and, Bool.false_eq_true, if_false]
 exact Int.emod_eq_of_lt h0 (by simpa using h1)
theorem wC {n : Int} (h0 : 0 ≤ n) (h1 : n < 256) : IntKind.u8.wrap n = n := by
 simp only [IntKind.wrap, IntKind.bits, IntKind.signed, Bool.false_and, Bool.false_eq_true, if_false]
 exact Int.emod_eq_of_lt h0 (by simpa using h1)
theorem nK (n : Int) : IntKind.i64.wrap n = if n % 18446744073709551616 ≥ 9223372036854775808 then n % 18446744073709551616 - 18446744073709551616 else n % 18446744073709551616 := by
 simp [IntKind.wrap, IntKind.bits, IntKind.signed]
theorem jX (n : Int) : IntKind.u64.wrap n = n % 18446744073709551616 := by
 simp [IntKind.wrap, IntKind.bits, IntKind.signed]
theorem fB {n : Int} (h0 : -9223372036854775808 ≤ n) (h1 : n < 9223372036854775808) : IntKind.i64.wrap n = n := by
 rw [nK]; split <;> omega
theorem qG {n : Int} (h : (Lit.int .i64 n).wf = true) : -9223372036854775808 ≤ n ∧ n < 9223372036854775808 := by
 simp [Lit.wf, IntKind.min, IntKind.max, IntKind.signed, IntKind.bits] at h; omega
theorem aBX {n : Int} (h : (Lit.int .u64 n).wf = true) : 0 ≤ n ∧ n < 18446744073709551616 := by
 simp [Lit.wf, IntKind.min, IntKind.max, IntKind.signed, IntKind.bits] at h; omega
@[simp] theorem fH (k k' : IntKind) (n : Int) : dL k (.int k' n) = some (.int k (k.wrap n)) := by unfold dL; rfl
@[simp] theorem aCy (k : IntKind) (a b : Int) : mV uI (.int k a) [.int k b] = some (.int k (max a b)) := by
 simp only [mV, uI, Option.bind_some]
 congr 2
 split <;> omega
@[simp] theorem qF (b : Bool) : un .not (.bool b) = some (.bool (!b)) := by unfold un; rfl
theorem oB {m : Option (AV × aB)} {k : AV → aB → Option cM} {v : AV} {H : aB} {r : Option (AV × aB)} (h : m = some (v, H)) (h2 : dF (k v H) = r) : dF (aD m k) = r := by rw [h]; exact h2
theorem oT {a b : Option cM} {r : Option (AV × aB)} (h : dF a = r) : dF (aM (.bool true) a b) = r := h
theorem oN {a b : Option cM} {r : Option (AV × aB)} (h : dF b = r) : dF (aM (.bool false) a b) = r := h
theorem oK {m : Option cM} {k : Ex → List AV → aB → Option cM} {e : Ex} {xs : List AV} {H : aB} {r : Option (AV × aB)} (h : m = some (e, xs, H)) (h2 : dF (k e xs H) = r) : dF (dG m k) = r := by rw [h]; exact h2
theorem oX {a : Option cM} {b : Nat → Option cM} {r0 : Option cM} {i : Nat} {r : Option (AV × aB)} (h : dF (b i) = r) : dF (hC (.exit i) a b r0) = r := h
theorem qL {a : Option cM} {b : Nat → Option cM} {r0 : Option cM} {r : Option (AV × aB)} (h : dF a = r) : dF (hC .normal a b r0) = r := h
theorem qM {a : Option cM} {b : Nat → Option cM} {r0 : Option cM} {r : Option (AV × aB)} (h : dF r0 = r) : dF (hC .ret a b r0) = r := h
theorem oF {m : Option cM} {x : AV} {H : aB} (h : m = some (.ret, [x], H)) : dF m = some (x, H) := by rw [h]; rfl
theorem lB {γ : Type} {m : Option (AV × aB)} {k : AV → aB → Option γ} {v : AV} {H : aB} {r : Option γ} (h : m = some (v, H)) (h2 : k v H = r) : aD m k = r := by rw [h]; exact h2
theorem lT {a b r : Option cM} (h : a = r) : aM (.bool true) a b = r := h
theorem lN {a b r : Option cM} (h : b = r) : aM (.bool false) a b = r := h
theorem lK {m : Option cM} {k : Ex → List AV → aB → Option cM} {e : Ex} {xs : List AV} {H : aB} {r : Option cM} (h : m = some (e, xs, H)) (h2 : k e xs H = r) : dG m k = r := by rw [h]; exact h2
theorem lX {γ : Type} {a : γ} {b : Nat → γ} {r0 : γ} {i : Nat} {r : γ} (h : b i = r) : hC (.exit i) a b r0 = r := h
theorem qJ {γ : Type} {a : γ} {b : Nat → γ} {r0 : γ} {r : γ} (h : a = r) : hC .normal a b r0 = r := h
theorem qK {γ : Type} {a : γ} {b : Nat → γ} {r0 : γ} {r : γ} (h : r0 = r) : hC .ret a b r0 = r := h
theorem fI (step : fF → fF) (n : Nat) : eY step (n + 1) = step (eY step n) := by rw [eY]
theorem oI {i : Nat} {a b : Option cM} {r : Option (AV × aB)} (h : dF a = r) : dF (if i = i then a else b) = r := by rw [if_pos rfl]; exact h
theorem oJ {i j : Nat} {a b : Option cM} {r : Option (AV × aB)} (hij : (i == j) = false) (h : dF b = r) : dF (if i = j then a else b) = r := by rw [if_neg (by simpa using hij)]; exact h
theorem lI {γ : Type} {i : Nat} {a b r : Option γ} (h : a = r) : (if i = i then a else b) = r := by rw [if_pos rfl]; exact h
theorem lJ {γ : Type} {i j : Nat} {a b r : Option γ} (hij : (i == j) = false) (h : b = r) : (if i = j then a else b) = r := by rw [if_neg (by simpa using hij)]; exact h
@[simp] theorem aBW {γ : Type} (H : aB) (k : aB → Option γ) : vK [] H k = k H := by unfold vK; rfl
@[simp] theorem aCB {γ : Type} (q : AV × Nat × Nat × Nat) (l : List (AV × Nat × Nat × Nat)) (H : aB) (k : aB → Option γ) : vK (q :: l) H k = vK l (rO q H) k := by rw [vK]
abbrev KK := Ex → List AV → aB → Option cM
def E {γ : Type} (f : Option cM → Option γ) (ks : List KK) (m : Option cM) (r : Option γ) : Prop := f (ks.foldl dG m) = r
section
variable {γ : Type} {f : Option cM → Option γ} {ks : List KK} {r : Option γ}
theorem nM {m : Option cM} (h : E f [] m r) : f m = r := h
theorem tP {m r : Option cM} (h : E (fun x => x) [] m r) : m = r := h
theorem jI {m : Option cM} (h : f m = r) : E f [] m r := h
theorem eB {m : Option (AV × aB)} {k : AV → aB → Option cM} {v : AV} {H : aB} (h : m = some (v, H)) (h2 : E f ks (k v H) r) : E f ks (aD m k) r := by rw [h]; exact h2
theorem eR {m m' : Option (AV × aB)} {k : AV → aB → Option cM} (h : m = m') (h2 : E f ks (aD m' k) r) : E f ks (aD m k) r := by rw [h]; exact h2
theorem eT {a b : Option cM} (h : E f ks a r) : E f ks (aM (.bool true) a b) r := h
theorem eN {a b : Option cM} (h : E f ks b r) : E f ks (aM (.bool false) a b) r := h
theorem aAG {H : aB} {m : Option (AV × aB)} {k : AV → aB → Option cM} (h : E f ks (aD m k) r) : E f ks (aD (gd (.bool true) true H m) k) r := by rw [uC]; exact h
theorem aAA {H : aB} {m : Option (AV × aB)} {k : AV → aB → Option cM} (h : E f ks (aD m k) r) : E f ks (aD (gd (.bool false) false H m) k) r := by rw [tY]; exact h
theorem aAF {H : aB} {m : Option (AV × aB)} {k : AV → aB → Option cM} (h : E f ks (k (.tup []) H) r) : E f ks (aD (gd (.bool true) false H m) k) r := by rw [uB]; exact h
theorem aAB {H : aB} {m : Option (AV × aB)} {k : AV → aB → Option cM} (h : E f ks (k (.tup []) H) r) : E f ks (aD (gd (.bool false) true H m) k) r := by rw [tZ]; exact h
theorem aAC {H : aB} {w : Bool} {m : Option (AV × aB)} {k : AV → aB → Option cM} (h : E f ks (k (.tup []) H) r) : E f ks (aD (gd (.tup []) w H m) k) r := by rw [uA]; exact h
theorem eCn {xs : List AV} {i : Nat} {c : AV} {a b : Option cM} (hc : aJ xs i = c) (h : E f ks (aM c a b) r) : E f ks (aM (aJ xs i) a b) r := by rw [hc]; exact h
theorem yY {b : Bool} {x y : Option cM} (h1 : b = true → E f ks x r) (h2 : b = false → E f ks y r) : E f ks (aM (.bool b) x y) r := by
 cases b
 ·exact h2 rfl
 ·exact h1 rfl
theorem eK {m : Option cM} {k : KK} (h : E f (k :: ks) m r) : E f ks (dG m k) r := h
theorem eS {k : KK} {e : Ex} {xs : List AV} {H : aB} (h : E f ks (k e xs H) r) : E f (k :: ks) (some (e, xs, H)) r := h
theorem eL {m : Option cM} {o : cM} (h : m = some o) (h2 : E f ks (some o) r) : E f ks m r := by rw [h]; exact h2
theorem eX {a : Option cM} {b : Nat → Option cM} {r0 : Option cM} {i : Nat} (h : E f ks (b i) r) : E f ks (hC (.exit i) a b r0) r := h
theorem eXn {a : Option cM} {b : Nat → Option cM} {r0 : Option cM} (h : E f ks a r) : E f ks (hC .normal a b r0) r := h
theorem eXr {a : Option cM} {b : Nat → Option cM} {r0 : Option cM} (h : E f ks r0 r) : E f ks (hC .ret a b r0) r := h
theorem eI {i : Nat} {a b : Option cM} (h : E f ks a r) : E f ks (if i = i then a else b) r := by rw [if_pos rfl]; exact h
theorem eJ {i j : Nat} {a b : Option cM} (hij : (i == j) = false) (h : E f ks b r) : E f ks (if i = j then a else b) r := by rw [if_neg (by simpa using hij)]; exact h
theorem eC {n : Nat} {xs : List AV} {H H' : aB} {k : aB → Option cM} (h : iR n xs H = some H') (h2 : E f ks (k H') r) : E f ks (oU n xs H k) r := by unfold oU; rw [h]; exact h2
theorem aAD {m : Option cM} (h : E f ks m r) : E f ks (grd [] m) r := h
theorem aAE {a b : AV} {l : List (AV × AV)} {m : Option cM} (h : fR a b = true) (h2 : E f ks (grd l m) r) : E f ks (grd ((a, b) :: l) m) r := by unfold grd; rw [h]; exact h2
theorem eV0 {H : aB} {k : aB → Option cM} (h2 : E f ks (k H) r) : E f ks (vK [] H k) r := by rw [aBW]; exact h2
variable {P : Program} {t : Nat} {c : Bool} {k : IntKind} {a b : Int} {H : aB} {K : AV → aB → Option cM}
theorem aBN (h1 : a = b → E f ks (K (.bool true) H) r) (h2 : a ≠ b → E f ks (K (.bool false) H) r) : E f ks (aD (pu H (aZ P .eql t c (.int k a) (.int k b))) K) r := by
 rw [kW]; by_cases h : a = b
 ·rw [decide_eq_true h]; exact h1 h
 ·rw [decide_eq_false h]; exact h2 h
theorem aBS (h1 : a ≠ b → E f ks (K (.bool true) H) r) (h2 : a = b → E f ks (K (.bool false) H) r) : E f ks (aD (pu H (aZ P .neq t c (.int k a) (.int k b))) K) r := by
 rw [nW]; by_cases h : a ≠ b
 ·rw [decide_eq_true h]; exact h1 h
 ·rw [decide_eq_false h]; exact h2 (Classical.not_not.1 h)
theorem aBR (h1 : a < b → E f ks (K (.bool true) H) r) (h2 : b ≤ a → E f ks (K (.bool false) H) r) : E f ks (aD (pu H (aZ P .lss t c (.int k a) (.int k b))) K) r := by
 rw [jZ]; by_cases h : a < b
 ·rw [decide_eq_true h]; exact h1 h
 ·rw [decide_eq_false h]; exact h2 (by omega)
theorem aBQ (h1 : a ≤ b → E f ks (K (.bool true) H) r) (h2 : b < a → E f ks (K (.bool false) H) r) : E f ks (aD (pu H (aZ P .leq t c (.int k a) (.int k b))) K) r := by
 rw [rZ]; by_cases h : a ≤ b
 ·rw [decide_eq_true h]; exact h1 h
 ·rw [decide_eq_false h]; exact h2 (by omega)
theorem aBP (h1 : b < a → E f ks (K (.bool true) H) r) (h2 : a ≤ b → E f ks (K (.bool false) H) r) : E f ks (aD (pu H (aZ P .gtr t c (.int k a) (.int k b))) K) r := by
 rw [jY]; by_cases h : b < a
 ·rw [decide_eq_true h]; exact h1 h
 ·rw [decide_eq_false h]; exact h2 (by omega)
theorem aBO (h1 : b ≤ a → E f ks (K (.bool true) H) r) (h2 : a < b → E f ks (K (.bool false) H) r) : E f ks (aD (pu H (aZ P .geq t c (.int k a) (.int k b))) K) r := by
 rw [nV]; by_cases h : b ≤ a
 ·rw [decide_eq_true h]; exact h1 h
 ·rw [decide_eq_false h]; exact h2 (by omega)
theorem aBT {g : Bool} (h1 : g = true → E f ks (K (.bool false) H) r) (h2 : g = false → E f ks (K (.bool true) H) r) : E f ks (aD (pu H (un .not (.bool g))) K) r := by
 rw [qF]
 cases g
 ·exact h2 rfl
 ·exact h1 rfl
theorem aAo {g : Bool} {x y : AV} (h1 : g = true → E f ks (K x H) r) (h2 : g = false → E f ks (K y H) r) : E f ks (aD (pu H (dE (.bool g) x y)) K) r := by
 cases g
 ·exact h2 rfl
 ·exact h1 rfl
theorem sGd {g : Bool} {w : Bool} {m : Option (AV × aB)} (h1 : g = true → E f ks (aD (gd (.bool true) w H m) K) r) (h2 : g = false → E f ks (aD (gd (.bool false) w H m) K) r) : E f ks (aD (gd (.bool g) w H m) K) r := by
 cases g
 ·exact h2 rfl
 ·exact h1 rfl
end
section
variable {P : Program} {t : Nat} {c : Bool} {k : IntKind} {a b : Int}
theorem sP (h : a = b) : aZ P .eql t c (.int k a) (.int k b) = some (.bool true) := by rw [kW, decide_eq_true h]
theorem wU (h : a ≠ b) : aZ P .eql t c (.int k a) (.int k b) = some (.bool false) := by rw [kW, decide_eq_false h]
theorem xF (h : a ≠ b) : aZ P .neq t c (.int k a) (.int k b) = some (.bool true) := by rw [nW, decide_eq_true h]
theorem sQ (h : a = b) : aZ P .neq t c (.int k a) (.int k b) = some (.bool false) := by rw [nW, decide_eq_false (fun h' => h' h)]
theorem iW (h : a < b) : aZ P .lss t c (.int k a) (.int k b) = some (.bool true) := by rw [jZ, decide_eq_true h]
theorem iV (h : b ≤ a) : aZ P .lss t c (.int k a) (.int k b) = some (.bool false) := by rw [jZ, decide_eq_false (by omega)]
theorem xE (h : a ≤ b) : aZ P .leq t c (.int k a) (.int k b) = some (.bool true) := by rw [rZ, decide_eq_true h]
theorem xD (h : b < a) : aZ P .leq t c (.int k a) (.int k b) = some (.bool false) := by rw [rZ, decide_eq_false (by omega)]
theorem wY (h : b < a) : aZ P .gtr t c (.int k a) (.int k b) = some (.bool true) := by rw [jY, decide_eq_true h]
theorem wX (h : a ≤ b) : aZ P .gtr t c (.int k a) (.int k b) = some (.bool false) := by rw [jY, decide_eq_false (by omega)]
theorem wW (h : b ≤ a) : aZ P .geq t c (.int k a) (.int k b) = some (.bool true) := by rw [nV, decide_eq_true h]
theorem wV (h : a < b) : aZ P .geq t c (.int k a) (.int k b) = some (.bool false) := by rw [nV, decide_eq_false (by omega)]
theorem aBd (h0 : -9223372036854775808 ≤ a + b) (h1 : a + b < 9223372036854775808) : aZ P .add t c (.int .i64 a) (.int .i64 b) = some (.int .i64 (a + b)) := by rw [iP, fB h0 h1]
theorem aBl (h0 : -9223372036854775808 ≤ a - b) (h1 : a - b < 9223372036854775808) : aZ P .sub t c (.int .i64 a) (.int .i64 b) = some (.int .i64 (a - b)) := by rw [wG, fB h0 h1]
theorem zQ (h0 : 0 ≤ a + b) (h1 : a + b < 18446744073709551616) : aZ P .add t c (.int .u64 a) (.int .u64 b) = some (.int .u64 (a + b)) := by rw [iP, fX h0 h1]
theorem aBf (h0 : -9223372036854775808 ≤ a) (h1 : a < 9223372036854775808) : dL .i64 (.int k a) = some (.int .i64 a) := by rw [fH, fB h0 h1]
theorem aBg (h0 : 0 ≤ a) (h1 : a < 18446744073709551616) : dL .u64 (.int k a) = some (.int .u64 a) := by rw [fH, fX h0 h1]
theorem aBe (h0 : 0 ≤ a) (h1 : a < 256) : dL .u8 (.int k a) = some (.int .u8 a) := by rw [fH, wC h0 h1]
theorem zU (h0 : 0 ≤ a) (h1 : a < 4294967296) : dL .u32 (.int k a) = some (.int .u32 a) := by rw [fH, vF h0 h1]
theorem wZ {s bl L o m : Nat} (h0 : 0 ≤ a) (h1 : a < (m : Int)) : aH s (.sl bl L o m s) (.int k a) = some (.ptr bl L (o + a.toNat) 0) := by simp [aH, h0, h1]
theorem xB {bor : Bool} {xs : List AV} : bX (.ro bor xs) = some (.int .i64 (xs.length : Int)) := by unfold bX; rfl
theorem xC {bl L o m s : Nat} : bX (.sl bl L o m s) = some (.int .i64 (m : Int)) := by unfold bX; rfl
theorem uR : bX .nils = some (.int .i64 0) := by unfold bX; rfl
theorem aAf {bl L i o : Nat} : eH (.ptr bl L i o) = some (.ptr bl L i o) := by unfold eH; rfl
theorem xI {bor : Bool} {x : AV} {o : Nat} : eH (.rp bor x o) = some (.rp bor x o) := by unfold eH; rfl
theorem xG {g : Nat} {caps : List AV} : eH (.fn g caps) = some (.fn g caps) := by unfold eH; rfl
theorem xH {g : Nat} : eH (.gl g) = some (.gl g) := by unfold eH; rfl
theorem aBh {off bl L i o : Nat} : aA off (.ptr bl L i o) = some (.ptr bl L i (o + off)) := by unfold aA; rfl
theorem zY {off : Nat} {bor : Bool} {x : AV} {o : Nat} : aA off (.rp bor x o) = some (.rp bor x (o + off)) := by unfold aA; rfl
theorem aAe {G : aC} {s : Nat} {bor : Bool} {cs : List AV} {o : Nat} {H : aB} : aE G false s (.rp bor (.agg cs) o) H = cs[o]? := by unfold aE cR; rfl
theorem uQ {cs : List AV} {H : aB} : bN (.agg cs) H = some (.rp false (.agg cs) 0, H) := by unfold bN; rfl
theorem zV {u : AV} {l : List AV} : aI (.tup (u :: l)) 0 = some u := by unfold aI; rfl
theorem zW {u v : AV} {l : List AV} : aI (.tup (u :: v :: l)) 1 = some v := by unfold aI; rfl
theorem zX {u v w : AV} {l : List AV} : aI (.tup (u :: v :: w :: l)) 2 = some w := by unfold aI; rfl
theorem aAh : un .not (.bool true) = some (.bool false) := by rw [qF]; rfl
theorem aAg : un .not (.bool false) = some (.bool true) := by rw [qF]; rfl
theorem aBk {H : aB} : eD (some H) = some (.tup [], H) := by unfold eD; rfl
end
section
variable {G : aC} {g : Bool} {s b L i o t z : Nat} {cs : List AV} {blk : ABlk} {H : aB} {v x : AV}
def ldB (g : Bool) (s L i o : Nat) (blk : ABlk) : Option AV := if blk.elems.length = L then (match blk.elems[i]? with | some x => cR g s x.cells o | none => none) else none
def stB (s L i o : Nat) (v : AV) (blk : ABlk) : Option ABlk := if blk.elems.length = L ∧ bA v = true ∧ v.cells.length = s then
    (match blk.elems[i]? with
     | some x => if o + s ≤ x.cells.length then some { blk with elems := blk.elems.set i (cD x (dI x.cells o v.cells)) } else none
     | none => none) else none
theorem aAc : aE G g s (.ptr 0 L i o) (blk :: H) = ldB g s L i o blk := by unfold aE ldB; rfl
theorem aAd : aE G g s (.ptr (b + 1) L i o) (blk :: H) = aE G g s (.ptr b L i o) H := by unfold aE; rfl
theorem aBi : ldB false s 1 0 o ⟨t, z, [.agg cs]⟩ = cs[o]? := by unfold ldB cR; rfl
theorem zZ : ldB true s 1 0 o ⟨t, z, [.agg cs]⟩ = if o + s ≤ cs.length then some (.agg ((cs.drop o).take s)) else none := by unfold ldB cR; rfl
theorem xA {bor : Bool} : aE G true s (.rp bor (.agg cs) o) H = if o + s ≤ cs.length then some (.agg ((cs.drop o).take s)) else none := by unfold aE cR; rfl
theorem aAb {k : IntKind} {n : Int} : ldB false s 1 0 0 ⟨t, z, [.int k n]⟩ = some (.int k n) := by unfold ldB cR; rfl
theorem aAa {c : Bool} : ldB false s 1 0 0 ⟨t, z, [.bool c]⟩ = some (.bool c) := by unfold ldB cR; rfl
theorem aAi : aT s (.ptr 0 L i o) v (blk :: H) = (stB s L i o v blk).map (· :: H) := by
 unfold aT stB
 simp only [List.getElem?_cons_zero]
 split
 ·cases blk.elems[i]? with
  | none => rfl
  | some x => simp only; split <;> rfl
 ·rfl
theorem aAj : aT s (.ptr (b + 1) L i o) v (blk :: H) = (aT s (.ptr b L i o) v H).map (blk :: ·) := by
 unfold aT
 simp only [List.getElem?_cons_succ]
 cases H[b]? with
 | none => rfl
 | some y =>
  simp only
  split
  ·cases y.elems[i]? with
   | none => rfl
   | some x => simp only; split <;> rfl
  ·rfl
theorem aBj : stB s 1 0 o v ⟨t, z, [.agg cs]⟩ = if bA v = true ∧ v.cells.length = s ∧ o + s ≤ cs.length then some ⟨t, z, [.agg (dI cs o v.cells)]⟩ else none := by
 have e : (AV.agg cs).cells = cs := rfl
 unfold stB
 by_cases h1 : bA v = true ∧ v.cells.length = s
 ·by_cases h2 : o + s ≤ cs.length <;> simp [e, h1, h2, cD]
 ·have h3 : ¬ (bA v = true ∧ v.cells.length = s ∧ o + s ≤ cs.length) := fun h => h1 ⟨h.1, h.2.1⟩
  rw [if_neg h3, if_neg (fun h => h1 h.2)]
theorem zR : cY t (.agg (x :: cs)) H = some (.ptr H.length 1 0 0, H ++ [⟨t, cs.length + 1, [.agg (x :: cs)]⟩]) := by
 unfold cY; simp [bA, AV.cells]
theorem zT {k : IntKind} {n : Int} : cY t (.int k n) H = some (.ptr H.length 1 0 0, H ++ [⟨t, 1, [.int k n]⟩]) := by unfold cY; rfl
theorem zS {c : Bool} : cY t (.bool c) H = some (.ptr H.length 1 0 0, H ++ [⟨t, 1, [.bool c]⟩]) := by unfold cY; rfl
end
theorem w1 {x x' : AV} {H : aB} (h : bR 0 x = true) (e : x = x') : E dF [] (bS [x] 0 H) (some (x', [])) := by subst e; exact oF (kC h H)
theorem w2 {x y r : AV} {H : aB} (hx : bR 0 x = true) (hy : bR 0 y = true) (e : AV.tup [x, y] = r) : E dF [] (bS [x, y] 0 H) (some (r, [])) := by subst e; exact oF (gM hx hy H)
theorem w1b {b b' : Bool} {H : aB} (e : b = b') : E dF [] (bS [.bool b] 0 H) (some (.bool b', [])) := w1 rfl (by rw [e])
theorem w2b {k : IntKind} {n n' : Int} {b b' : Bool} {H : aB} (e : n = n') (e2 : b = b') : E dF [] (bS [.int k n, .bool b] 0 H) (some (.tup [.int k n', .bool b'], [])) := w2 rfl rfl (by rw [e, e2])
theorem qf : type_of% (aCJ @cK <| aCJ @dY <| aCJ @dX <| aCJ @uC <| aCJ @tY <| aCJ @uB <| aCJ @tZ <| @uA) := aCJ @cK <| aCJ @dY <| aCJ @dX <| aCJ @uC <| aCJ @tY <| aCJ @uB <| aCJ @tZ <| @uA
theorem qa : type_of% (aCJ qf <| aCJ @iU <| aCJ @hR <| aCJ @aAh <| aCJ @aAg <| aCJ @sP <| aCJ @wU <| aCJ @xF <| aCJ @sQ <| aCJ @iW <| aCJ @iV <| aCJ @xE <| aCJ @xD <| aCJ @wY <| aCJ @wX <| aCJ @wW <| aCJ @wV <| aCJ @aBd <| aCJ @aBl <| aCJ @zQ <| aCJ @aBf <| aCJ @aBg <| aCJ @aBe <| aCJ @zU <| aCJ @wZ <| aCJ @xB <| aCJ @xC <| aCJ @uR <| aCJ @aAf <| aCJ @xI <| aCJ @xG <| aCJ @xH <| aCJ @aBh <| aCJ @zY <| aCJ @aAe <| aCJ @uQ <| aCJ @zV <| aCJ @zW <| aCJ @zX <| aCJ @List.getElem?_cons_zero.{0} <| aCJ @List.getElem?_cons_succ.{0} <| aCJ @List.getElem?_nil.{0} <| aCJ @aBk <| aCJ @aAc <| aCJ @aAd <| aCJ @aBi <| aCJ @zZ <| aCJ @xA <| aCJ @aAb <| aCJ @aAa <| aCJ @zR <| aCJ @zT <| aCJ @zS <| aCJ @List.length_cons.{0} <| aCJ @List.length_nil.{0} <| aCJ @List.cons_append.{0} <| aCJ @List.nil_append.{0} <| aCJ @List.drop_zero.{0} <| aCJ @List.drop_succ_cons.{0} <| aCJ @List.take_succ_cons.{0} <| aCJ @List.take_zero.{0} <| aCJ @aAi <| aCJ @aAj <| aCJ @aBj <| aCJ @Option.map_some.{0, 0} <| aCJ @List.replicate_succ.{0} <| aCJ @List.replicate_zero.{0} <| aCJ @List.set_cons_zero.{0} <| aCJ @List.set_cons_succ.{0} <| aCJ @Nat.le_refl <| aCJ @and_self <| aCJ @true_and <| aCJ @and_true <| aCJ @if_true.{1} <| aCJ @Bool.not_true <| aCJ @Bool.not_false <| aCJ @Int.toNat_natCast <| @Nat.zero_add) := aCJ qf <| aCJ @iU <| aCJ @hR <| aCJ @aAh <| aCJ @aAg <| aCJ @sP <| aCJ @wU <| aCJ @xF <| aCJ @sQ <| aCJ @iW <| aCJ @iV <| aCJ @xE <| aCJ @xD <| aCJ @wY <| aCJ @wX <| aCJ @wW <| aCJ @wV <| aCJ @aBd <| aCJ @aBl <| aCJ @zQ <| aCJ @aBf <| aCJ @aBg <| aCJ @aBe <| aCJ @zU <| aCJ @wZ <| aCJ @xB <| aCJ @xC <| aCJ @uR <| aCJ @aAf <| aCJ @xI <| aCJ @xG <| aCJ @xH <| aCJ @aBh <| aCJ @zY <| aCJ @aAe <| aCJ @uQ <| aCJ @zV <| aCJ @zW <| aCJ @zX <| aCJ @List.getElem?_cons_zero.{0} <| aCJ @List.getElem?_cons_succ.{0} <| aCJ @List.getElem?_nil.{0} <| aCJ @aBk <| aCJ @aAc <| aCJ @aAd <| aCJ @aBi <| aCJ @zZ <| aCJ @xA <| aCJ @aAb <| aCJ @aAa <| aCJ @zR <| aCJ @zT <| aCJ @zS <| aCJ @List.length_cons.{0} <| aCJ @List.length_nil.{0} <| aCJ @List.cons_append.{0} <| aCJ @List.nil_append.{0} <| aCJ @List.drop_zero.{0} <| aCJ @List.drop_succ_cons.{0} <| aCJ @List.take_succ_cons.{0} <| aCJ @List.take_zero.{0} <| aCJ @aAi <| aCJ @aAj <| aCJ @aBj <| aCJ @Option.map_some.{0, 0} <| aCJ @List.replicate_succ.{0} <| aCJ @List.replicate_zero.{0} <| aCJ @List.set_cons_zero.{0} <| aCJ @List.set_cons_succ.{0} <| aCJ @Nat.le_refl <| aCJ @and_self <| aCJ @true_and <| aCJ @and_true <| aCJ @if_true.{1} <| aCJ @Bool.not_true <| aCJ @Bool.not_false <| aCJ @Int.toNat_natCast <| @Nat.zero_add
theorem wkA {p q : Prop} (h : q) (t : q → p := by
 intro hgo
 repeat' first
  | (with_reducible first | refine eT ?_ | refine eN ?_ | refine eS ?_ | refine eXn ?_ | refine eXr ?_ | refine eX ?_ | refine eI ?_ | refine eK ?_ | refine eV0 ?_ | refine aAD ?_ | refine aAG ?_ | refine aAA ?_ | refine aAF ?_ | refine aAB ?_ | refine aAC ?_)
  | ((with_reducible apply eCn); (simp only [dY, dX]; first | done | (with_reducible exact rfl)))
  | ((with_reducible apply eJ); (rfl))
  | ((with_reducible apply aAE); (first | rfl | (simp only [dY, dX]; rfl)))
  | ((with_reducible apply eL); (first | exact lx1 | exact lx2 | exact lx3))
  | ((with_reducible apply eB); (first | (with_reducible exact rfl) | (simp (disch := omega) only [qf, fx]; first | done | (with_reducible exact rfl) | (with_reducible exact ⟨rfl, rfl⟩)) | (simp (disch := omega) only [qa, dI, AV.cells, bA, aU, cW, bK, bJ, cU, Nat.reduceLeDiff, Nat.reduceLT, Nat.reduceAdd, ↓reduceIte, fx]; first | done | (with_reducible exact rfl) | (with_reducible exact ⟨rfl, rfl⟩))))
  | ((with_reducible apply eR); (simp only [dY, dX]; (with_reducible exact rfl)))
  | ((with_reducible first | refine aBN ?_ ?_ | refine aBS ?_ ?_ | refine aBR ?_ ?_ | refine aBQ ?_ ?_ | refine aBP ?_ ?_ | refine aBO ?_ ?_ | refine aBT ?_ ?_ | refine aAo ?_ ?_ | refine sGd ?_ ?_ | refine yY ?_ ?_) <;> intro hq <;> try subst hq)
 all_goals first | omega | exact hgo) : p := t h
theorem tE {p q : Prop} (h : q) (t : q → p := by
 intro hgo
 repeat first
  | (with_reducible first | refine eT ?_ | refine eN ?_ | refine eS ?_ | refine eXn ?_ | refine eXr ?_ | refine eX ?_ | refine eI ?_ | refine eK ?_ | refine eV0 ?_ | refine aAD ?_ | refine aAG ?_ | refine aAA ?_ | refine aAF ?_ | refine aAB ?_ | refine aAC ?_)
  | ((with_reducible apply eCn); (simp only [dY, dX]; first | done | (with_reducible exact rfl)))
  | ((with_reducible apply eJ); (rfl))
  | ((with_reducible apply aAE); (first | rfl | (simp only [dY, dX]; rfl)))
  | ((with_reducible apply eL); (first | exact lx1 | exact lx2 | exact lx3))
  | ((with_reducible apply eB); (first | (with_reducible exact rfl) | (simp (disch := omega) only [qf, fx]; first | done | (with_reducible exact rfl) | (with_reducible exact ⟨rfl, rfl⟩)) | (simp (disch := omega) only [qa, dI, AV.cells, bA, aU, cW, bK, bJ, cU, Nat.reduceLeDiff, Nat.reduceLT, Nat.reduceAdd, ↓reduceIte, fx]; first | done | (with_reducible exact rfl) | (with_reducible exact ⟨rfl, rfl⟩))))
  | ((with_reducible apply eR); (simp only [dY, dX]; (with_reducible exact rfl)))
 exact hgo) : p := t h
theorem pF {f : AV → Option AV} : ∀ {xs : List AV}, (∀ x ∈ xs, f x = some x) → nO f xs = some xs
 | [], _ => rfl
 | x :: xs, h => by
  have h2 := pF (f := f) (xs := xs) (fun y hy => h y (List.mem_cons_of_mem _ hy))
  simp only [nO, h x (by simp), h2]
theorem kN {n : Nat} : ∀ {xs : List AV} (_ : cV n xs = true) (x : AV) (_ : x ∈ xs), bR n x = true
 | [], _, _, hx => by cases hx
 | y :: xs, h, x, hx => by
  simp only [cV, Bool.and_eq_true] at h
  rcases List.mem_cons.1 hx with rfl | hx
  ·exact h.1
  ·exact kN h.2 x hx
mutual
theorem jG {n m : Nat} (h : n ≤ m) : ∀ {x : AV}, bR n x = true → bR m x = true
 | .ptr .., hx => by simp [bR] at hx ⊢; omega
 | .sl .., hx => by simp [bR] at hx ⊢; omega
 | .fn _ caps, hx => by simp only [bR] at hx ⊢; exact gL h hx
 | .iface _ v, hx => by simp only [bR] at hx ⊢; exact jG h hx
 | .agg cs, hx => by simp only [bR] at hx ⊢; exact gL h hx
 | .tup vs, hx => by simp only [bR] at hx ⊢; exact gL h hx
 | .ro _ xs, hx => by simp only [bR] at hx ⊢; exact gL h hx
 | .rp _ x _, hx => by simp only [bR] at hx ⊢; exact jG h hx
 | .undef, _ => rfl
 | .bool _, _ => rfl
 | .int .., _ => rfl
 | .str _, _ => rfl
 | .nilp, _ => rfl
 | .nilf, _ => rfl
 | .nili, _ => rfl
 | .gl _, _ => rfl
 | .gp _, _ => rfl
 | .nils, _ => rfl
 | .anyb, _ => rfl
theorem gL {n m : Nat} (h : n ≤ m) : ∀ {xs : List AV}, cV n xs = true → cV m xs = true
 | [], _ => rfl
 | x :: xs, hx => by
  simp only [cV, Bool.and_eq_true] at hx ⊢
  exact ⟨jG h hx.1, gL h hx.2⟩
end
theorem xW {H : aB} {n d : Nat} {x : AV} (h : bR n x = true) : oV (tX H n d) x = some x := by
 cases x with
 | agg cs =>
  simp only [bR] at h
  have : nO (tX H n d) cs = some cs := pF fun y hy => nY (kN h y hy) d
  simp only [oV, this]
 | _ => exact nY h d
theorem aBw {H : aB} {b n0 d n sz ty : Nat} {xs : List AV} (hb : H[b]? = some ⟨ty, sz, xs⟩) (hn : n0 ≤ b) (hl : xs.length = n) (hs : iY sz xs = true) (hx : cV n0 xs = true) :
  tX H n0 (d + 1) (.sl b n 0 n sz) = some (.ro false xs) := by
 have h1 : bR n0 (.sl b n 0 n sz) = false := by simp [bR]; omega
 have h2 : nO (oV (tX H n0 d)) xs = some xs := pF fun x h => xW (kN hx x h)
 have h3 : gH (.sl b n 0 n sz) H = some xs := by
  simp only [gH, hb, hl, if_true, List.drop_zero]
  rw [List.take_of_length_le (by omega)]
 unfold tX
 simp only [h1, h3, hs, h2]
theorem xP {α : Type} (s : Nat) (e : α → AV) (h : ∀ a, (e a).cells.length = s) (xs : List α) : iY s (xs.map e) = true := by
 unfold iY
 simp [List.all_eq_true, h]
end Go.Proofs.YtcmblhedhgiofaaDoor.Mir
