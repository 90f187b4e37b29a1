/- Part 4 of the proof: the evaluator and its soundness. -/
import Derived.Test.YtlkgkfgkiidhdaaDoorVh3
namespace Go.Proofs.YtlkgkfgkiidhdaaDoor.Mir
open Go
set_option linter.unusedSimpArgs false
set_option linter.unusedVariables false
@[simp] theorem aKR {γ : Type} (v : AV) (H : aB) (k : AV → aB → Option γ) : aC (some (v, H)) k = k v H := by unfold aC; rfl
@[simp] theorem aBh (H : aB) (v : AV) : pu H (some v) = some (v, H) := by unfold pu; rfl
@[simp] theorem aJT (x y : Option fI) : aX (.bool true) x y = x := by unfold aX; rfl
@[simp] theorem aJh (x y : Option fI) : aX (.bool false) x y = y := by unfold aX; rfl
@[simp] theorem aCw (H : aB) (m : Option (AV × aB)) : gd (.bool true) true H m = m := by unfold gd; rfl
@[simp] theorem aCs (H : aB) (m : Option (AV × aB)) : gd (.bool false) false H m = m := by unfold gd; rfl
@[simp] theorem aCv (H : aB) (m : Option (AV × aB)) : gd (.bool true) false H m = some (.tup [], H) := by unfold gd; rfl
@[simp] theorem aCt (H : aB) (m : Option (AV × aB)) : gd (.bool false) true H m = some (.tup [], H) := by unfold gd; rfl
@[simp] theorem aCu (w : Bool) (H : aB) (m : Option (AV × aB)) : gd (.tup []) w H m = some (.tup [], H) := by unfold gd; rfl
@[simp] theorem oM (x y : AV) : eG (.bool true) x y = some x := by unfold eG; rfl
@[simp] theorem nD (x y : AV) : eG (.bool false) x y = some y := by unfold eG; rfl
@[simp] theorem aKy (e : Ex) (xs : List AV) (H : aB) (k : Ex → List AV → aB → Option fI) : eQ (some (e, xs, H)) k = k e xs H := by unfold eQ; rfl
@[simp] theorem aJU {γ : Type} (a : γ) (b : Nat → γ) (r : γ) : iL .normal a b r = a := by unfold iL; rfl
@[simp] theorem aKT {γ : Type} (i : Nat) (a : γ) (b : Nat → γ) (r : γ) : iL (.exit i) a b r = b i := by unfold iL; rfl
@[simp] theorem aLE {γ : Type} (a : γ) (b : Nat → γ) (r : γ) : iL .ret a b r = r := by unfold iL; rfl
@[simp] theorem fF (x : AV) (xs : List AV) : aG (x :: xs) 0 = x := by unfold aG; rfl
@[simp] theorem fE (x : AV) (xs : List AV) (i : Nat) : aG (x :: xs) (i + 1) = aG xs i := by rw [aG]
@[simp] theorem aLk (r : AV) (H : aB) : fG (some (.ret, [r], H)) = some (r, H) := by unfold fG; rfl
@[congr] theorem aKG {γ : Type} {m m' : Option (AV × aB)} {k : AV → aB → Option γ} (h : m = m') : aC m k = aC m' k := by rw [h]
@[congr] theorem aJJ {m m' : Option fI} {k : Ex → List AV → aB → Option fI} (h : m = m') : eQ m k = eQ m' k := by rw [h]
@[congr] theorem aJg {c c' : AV} {x y : Option fI} (h : c = c') : aX c x y = aX c' x y := by rw [h]
@[congr] theorem aKI {γ : Type} {e e' : Ex} {a : γ} {b : Nat → γ} {r : γ} (h : e = e') : iL e a b r = iL e' a b r := by rw [h]
@[congr] theorem aKX {g g' : AV} {w : Bool} {H : aB} {m : Option (AV × aB)} (h : g = g') : gd g w H m = gd g' w H m := by rw [h]
theorem yV (H : aB) : fU 0 [] H = some [] := rfl
theorem mA {H : aB} {n : Nat} {x : AV} (h : cE n x = true) (d : Nat) : rG H n d x = some x := by
 cases d <;> simp [rG, h]
theorem mG {x : AV} (h : cE 0 x = true) (H : aB) : cF [x] 0 H = some (.ret, [x], []) := by
 simp [cF, oQ, mA h, yV]
theorem aCp {x y : AV} (hx : cE 0 x = true) (hy : cE 0 y = true) (H : aB) : cF [x, y] 0 H = some (.ret, [.tup [x, y]], []) := by
 have : cE 0 (.tup [x, y]) = true := by simp [cE, cJ, hx, hy]
 simp [cF, oQ, mA this, yV]
@[simp] theorem aKU (k : IntKind) (n : Int) (H : aB) : cF [.int k n] 0 H = some (.ret, [.int k n], []) := mG rfl H
@[simp] theorem aFp (b : Bool) (H : aB) : cF [.bool b] 0 H = some (.ret, [.bool b], []) := mG rfl H
theorem aDZ {H : aB} {x : AV} (h : bR x = true) : aFK H x = some x := by
 cases x with
 | agg cs =>
  simp only [bR] at h
  have : ∀ cs : List AV, gC cs = true → kW H cs = some cs := by
   intro cs
   induction cs with
   | nil => intro _; rfl
   | cons y ys ih =>
    intro hp
    simp only [gC, Bool.and_eq_true] at hp
    have h1 : xD H y = some y := by cases y <;> simp_all [xD, bR]
    simp [kW, h1, ih hp.2]
  simp [aFK, this cs h]
 | _ => simp_all [aFK, xD, bR]
theorem uS {H : aB} : ∀ {xs : List AV}, gC xs = true → xE H xs = some xs
 | [], _ => rfl
 | x :: xs, h => by
  simp only [gC, Bool.and_eq_true] at h
  simp [xE, aDZ h.1, uS h.2]
theorem cD {g : cC} {args : List AV} {r : AV} {H : aB} (hg : g args [] = some (r, [])) (ha : gC args = true) (hr : gU r = true) : aU g args H = some (r, H) := by
 simp [aU, uS ha, hg, hr]
section
variable (P : Program) (t : Nat) (c : Bool) (k k' : IntKind) (a b : Int)
@[simp] theorem gZ : aW P .add t c (.int k a) (.int k b) = some (.int k (k.wrap (a + b))) := by simp [aW, jK]
@[simp] theorem nZ : aW P .sub t c (.int k a) (.int k b) = some (.int k (k.wrap (a - b))) := by simp [aW, jK]
@[simp] theorem aAD : aW P .mul t c (.int k a) (.int k b) = some (.int k (k.wrap (a * b))) := by simp [aW, jK]
@[simp] theorem aAz : aW P .and t c (.int k a) (.int k b) = some (.int k (bits .and k a b)) := by simp [aW, jK]
@[simp] theorem aJQ : aW P .or t c (.int k a) (.int k b) = some (.int k (bits .or k a b)) := by simp [aW, jK]
@[simp] theorem aIf : aW P .xor t c (.int k a) (.int k b) = some (.int k (bits .xor k a b)) := by simp [aW, jK]
@[simp] theorem aJP : aW P .andNot t c (.int k a) (.int k b) = some (.int k (bits .andNot k a b)) := by simp [aW, jK]
@[simp] theorem kF : aW P .eql t c (.int k a) (.int k b) = some (.bool (decide (a = b))) := by simp [aW, jK]; rfl
@[simp] theorem aAE : aW P .neq t c (.int k a) (.int k b) = some (.bool (decide (a ≠ b))) := by simp [aW, jK, bne]; rfl
@[simp] theorem iO : aW P .lss t c (.int k a) (.int k b) = some (.bool (decide (a < b))) := by simp [aW, jK]
@[simp] theorem aAC : aW P .leq t c (.int k a) (.int k b) = some (.bool (decide (a ≤ b))) := by simp [aW, jK]
@[simp] theorem aAB : aW P .gtr t c (.int k a) (.int k b) = some (.bool (decide (b < a))) := by simp [aW, jK]
@[simp] theorem kY : aW P .geq t c (.int k a) (.int k b) = some (.bool (decide (b ≤ a))) := by simp [aW, jK]
theorem aIe (h : 0 ≤ b) : aW P .shl t c (.int k a) (.int k' b) = some (.int k (k.wrap (a * 2 ^ min b.toNat k.bits))) := by
 have : ¬ b < 0 := by omega
 simp [aW, nU, this]
theorem aEp (h : 0 ≤ b) : aW P .shr t c (.int k a) (.int k' b) = some (.int k (a.fdiv (2 ^ min b.toNat k.bits))) := by
 have : ¬ b < 0 := by omega
 simp [aW, nU, this]
end
theorem rN {P : Program} {t : Nat} (h : P.underlying t = some .bool) (c a b : Bool) : aW P .eql t c (.bool a) (.bool b) = some (.bool (a == b)) := by simp [aW, kT, h, lY]
theorem aAN (x n : Nat) : (x : Int).fdiv (2 ^ n) = ((x / 2 ^ n : Nat) : Int) := by
 rw [Int.fdiv_eq_ediv_of_nonneg _ (by exact_mod_cast Nat.zero_le (2 ^ n))]
 push_cast; rfl
theorem iW {n : Int} (h0 : 0 ≤ n) (h1 : n < 18446744073709551616) : IntKind.u64.wrap n = n := by
 simp only [IntKind.wrap, IntKind.bits, IntKind.signed, Bool.false_and, Bool.false_eq_true, if_false]
 exact Int.emod_eq_of_lt h0 (by simpa using h1)
theorem aDk {n : Int} (h0 : 0 ≤ n) (h1 : n < 4294967296) : IntKind.u32.wrap n = n := by
 simp only [IntKind.wrap, IntKind.bits, IntKind.signed, Bool.false_and, Bool.false_eq_true, if_false]
 exact Int.emod_eq_of_lt h0 (by simpa using h1)
theorem aEj {n : Int} (h0 : 0 ≤ n) (h1 : n < 256) : IntKind.u8.wrap n = n := by
 simp only [IntKind.wrap, IntKind.bits, IntKind.signed, Bool.false_and, Bool.false_eq_true, if_false]
 exact Int.emod_eq_of_lt h0 (by simpa using h1)
theorem uW (n : Int) : IntKind.i64.wrap n = if n % 18446744073709551616 ≥ 9223372036854775808 then n % 18446744073709551616 - 18446744073709551616 else n % 18446744073709551616 := by
 simp [IntKind.wrap, IntKind.bits, IntKind.signed]
theorem pU (n : Int) : IntKind.u64.wrap n = n % 18446744073709551616 := by
 simp [IntKind.wrap, IntKind.bits, IntKind.signed]
theorem eW {n : Int} (h0 : -9223372036854775808 ≤ n) (h1 : n < 9223372036854775808) : IntKind.i64.wrap n = n := by
 rw [uW]; split <;> omega
theorem aEh {n : Int} (h : (Lit.int .i64 n).wf = true) : -9223372036854775808 ≤ n ∧ n < 9223372036854775808 := by
 simp [Lit.wf, IntKind.min, IntKind.max, IntKind.signed, IntKind.bits] at h; omega
theorem aHU {n : Int} (h : (Lit.int .u64 n).wf = true) : 0 ≤ n ∧ n < 18446744073709551616 := by
 simp [Lit.wf, IntKind.min, IntKind.max, IntKind.signed, IntKind.bits] at h; omega
@[simp] theorem jF (k k' : IntKind) (n : Int) : dM k (.int k' n) = some (.int k (k.wrap n)) := by unfold dM; rfl
@[simp] theorem aLF (k : IntKind) (a b : Int) : rY zN (.int k a) [.int k b] = some (.int k (max a b)) := by
 simp only [rY, zN, Option.bind_some]
 congr 2
 split <;> omega
@[simp] theorem xM (b : Bool) : un .not (.bool b) = some (.bool (!b)) := by unfold un; rfl
theorem oB {m : Option (AV × aB)} {k : AV → aB → Option fI} {v : AV} {H : aB} {r : Option (AV × aB)} (h : m = some (v, H)) (h2 : fG (k v H) = r) : fG (aC m k) = r := by rw [h]; exact h2
theorem oT {a b : Option fI} {r : Option (AV × aB)} (h : fG a = r) : fG (aX (.bool true) a b) = r := h
theorem oN {a b : Option fI} {r : Option (AV × aB)} (h : fG b = r) : fG (aX (.bool false) a b) = r := h
theorem oK {m : Option fI} {k : Ex → List AV → aB → Option fI} {e : Ex} {xs : List AV} {H : aB} {r : Option (AV × aB)} (h : m = some (e, xs, H)) (h2 : fG (k e xs H) = r) : fG (eQ m k) = r := by rw [h]; exact h2
theorem oX {a : Option fI} {b : Nat → Option fI} {r0 : Option fI} {i : Nat} {r : Option (AV × aB)} (h : fG (b i) = r) : fG (iL (.exit i) a b r0) = r := h
theorem oXn {a : Option fI} {b : Nat → Option fI} {r0 : Option fI} {r : Option (AV × aB)} (h : fG a = r) : fG (iL .normal a b r0) = r := h
theorem oXr {a : Option fI} {b : Nat → Option fI} {r0 : Option fI} {r : Option (AV × aB)} (h : fG r0 = r) : fG (iL .ret a b r0) = r := h
theorem oF {m : Option fI} {x : AV} {H : aB} (h : m = some (.ret, [x], H)) : fG m = some (x, H) := by rw [h]; rfl
theorem lB {γ : Type} {m : Option (AV × aB)} {k : AV → aB → Option γ} {v : AV} {H : aB} {r : Option γ} (h : m = some (v, H)) (h2 : k v H = r) : aC m k = r := by rw [h]; exact h2
theorem lT {a b r : Option fI} (h : a = r) : aX (.bool true) a b = r := h
theorem lN {a b r : Option fI} (h : b = r) : aX (.bool false) a b = r := h
theorem lK {m : Option fI} {k : Ex → List AV → aB → Option fI} {e : Ex} {xs : List AV} {H : aB} {r : Option fI} (h : m = some (e, xs, H)) (h2 : k e xs H = r) : eQ m k = r := by rw [h]; exact h2
theorem lX {γ : Type} {a : γ} {b : Nat → γ} {r0 : γ} {i : Nat} {r : γ} (h : b i = r) : iL (.exit i) a b r0 = r := h
theorem lXn {γ : Type} {a : γ} {b : Nat → γ} {r0 : γ} {r : γ} (h : a = r) : iL .normal a b r0 = r := h
theorem lXr {γ : Type} {a : γ} {b : Nat → γ} {r0 : γ} {r : γ} (h : r0 = r) : iL .ret a b r0 = r := h
theorem lC {n : Nat} {xs : List AV} {H H' : aB} {k : aB → Option fI} {r : Option fI} (h : fU n xs H = some H') (h2 : k H' = r) : iZ n xs H k = r := by unfold iZ; rw [h]; exact h2
theorem bE (step : eY → eY) (n : Nat) : dP step (n + 1) = step (dP step n) := by rw [dP]
theorem oI {i : Nat} {a b : Option fI} {r : Option (AV × aB)} (h : fG a = r) : fG (if i = i then a else b) = r := by rw [if_pos rfl]; exact h
theorem oJ {i j : Nat} {a b : Option fI} {r : Option (AV × aB)} (hij : (i == j) = false) (h : fG b = r) : fG (if i = j then a else b) = r := by rw [if_neg (by simpa using hij)]; exact h
theorem lI {γ : Type} {i : Nat} {a b r : Option γ} (h : a = r) : (if i = i then a else b) = r := by rw [if_pos rfl]; exact h
theorem lJ {γ : Type} {i j : Nat} {a b r : Option γ} (hij : (i == j) = false) (h : b = r) : (if i = j then a else b) = r := by rw [if_neg (by simpa using hij)]; exact h
@[simp] theorem aKA {γ : Type} (H : aB) (k : aB → Option γ) : vK [] H k = k H := by unfold vK; rfl
@[simp] theorem aIQ {γ : Type} (q : AV × Nat × Nat × Nat) (l : List (AV × Nat × Nat × Nat)) (H : aB) (k : aB → Option γ) : vK (q :: l) H k = vK l (sZ q H) k := by rw [vK]
abbrev KK := Ex → List AV → aB → Option fI
def E {γ : Type} (f : Option fI → Option γ) (ks : List KK) (m : Option fI) (r : Option γ) : Prop := f (ks.foldl eQ m) = r
section
variable {γ : Type} {f : Option fI → Option γ} {ks : List KK} {r : Option γ}
theorem gS {m : Option fI} (h : E f [] m r) : f m = r := h
theorem gE {m r : Option fI} (h : E (fun x => x) [] m r) : m = r := h
theorem gJ {m : Option fI} (h : f m = r) : E f [] m r := h
theorem eB {m : Option (AV × aB)} {k : AV → aB → Option fI} {v : AV} {H : aB} (h : m = some (v, H)) (h2 : E f ks (k v H) r) : E f ks (aC m k) r := by rw [h]; exact h2
theorem eR {m m' : Option (AV × aB)} {k : AV → aB → Option fI} (h : m = m') (h2 : E f ks (aC m' k) r) : E f ks (aC m k) r := by rw [h]; exact h2
theorem eT {a b : Option fI} (h : E f ks a r) : E f ks (aX (.bool true) a b) r := h
theorem eN {a b : Option fI} (h : E f ks b r) : E f ks (aX (.bool false) a b) r := h
theorem yF {H : aB} {m : Option (AV × aB)} {k : AV → aB → Option fI} (h : E f ks (aC m k) r) : E f ks (aC (gd (.bool true) true H m) k) r := by rw [aCw]; exact h
theorem xZ {H : aB} {m : Option (AV × aB)} {k : AV → aB → Option fI} (h : E f ks (aC m k) r) : E f ks (aC (gd (.bool false) false H m) k) r := by rw [aCs]; exact h
theorem yE {H : aB} {m : Option (AV × aB)} {k : AV → aB → Option fI} (h : E f ks (k (.tup []) H) r) : E f ks (aC (gd (.bool true) false H m) k) r := by rw [aCv]; exact h
theorem yA {H : aB} {m : Option (AV × aB)} {k : AV → aB → Option fI} (h : E f ks (k (.tup []) H) r) : E f ks (aC (gd (.bool false) true H m) k) r := by rw [aCt]; exact h
theorem yB {H : aB} {w : Bool} {m : Option (AV × aB)} {k : AV → aB → Option fI} (h : E f ks (k (.tup []) H) r) : E f ks (aC (gd (.tup []) w H m) k) r := by rw [aCu]; exact h
theorem eCn {xs : List AV} {i : Nat} {c : AV} {a b : Option fI} (hc : aG xs i = c) (h : E f ks (aX c a b) r) : E f ks (aX (aG xs i) a b) r := by rw [hc]; exact h
theorem rW {b : Bool} {x y : Option fI} (h1 : b = true → E f ks x r) (h2 : b = false → E f ks y r) : E f ks (aX (.bool b) x y) r := by
 cases b
 ·exact h2 rfl
 ·exact h1 rfl
theorem eK {m : Option fI} {k : KK} (h : E f (k :: ks) m r) : E f ks (eQ m k) r := h
theorem eS {k : KK} {e : Ex} {xs : List AV} {H : aB} (h : E f ks (k e xs H) r) : E f (k :: ks) (some (e, xs, H)) r := h
theorem eL {m : Option fI} {o : fI} (h : m = some o) (h2 : E f ks (some o) r) : E f ks m r := by rw [h]; exact h2
theorem eX {a : Option fI} {b : Nat → Option fI} {r0 : Option fI} {i : Nat} (h : E f ks (b i) r) : E f ks (iL (.exit i) a b r0) r := h
theorem eXn {a : Option fI} {b : Nat → Option fI} {r0 : Option fI} (h : E f ks a r) : E f ks (iL .normal a b r0) r := h
theorem eXr {a : Option fI} {b : Nat → Option fI} {r0 : Option fI} (h : E f ks r0 r) : E f ks (iL .ret a b r0) r := h
theorem eI {i : Nat} {a b : Option fI} (h : E f ks a r) : E f ks (if i = i then a else b) r := by rw [if_pos rfl]; exact h
theorem eJ {i j : Nat} {a b : Option fI} (hij : (i == j) = false) (h : E f ks b r) : E f ks (if i = j then a else b) r := by rw [if_neg (by simpa using hij)]; exact h
theorem eC {n : Nat} {xs : List AV} {H H' : aB} {k : aB → Option fI} (h : fU n xs H = some H') (h2 : E f ks (k H') r) : E f ks (iZ n xs H k) r := by unfold iZ; rw [h]; exact h2
theorem yC {m : Option fI} (h : E f ks m r) : E f ks (grd [] m) r := h
theorem yD {a b : AV} {l : List (AV × AV)} {m : Option fI} (h : jQ a b = true) (h2 : E f ks (grd l m) r) : E f ks (grd ((a, b) :: l) m) r := by unfold grd; rw [h]; exact h2
theorem eV0 {H : aB} {k : aB → Option fI} (h2 : E f ks (k H) r) : E f ks (vK [] H k) r := by rw [aKA]; exact h2
theorem eV1 {q : AV × Nat × Nat × Nat} {l : List (AV × Nat × Nat × Nat)} {H H1 : aB} {k : aB → Option fI} (h : sZ q H = H1) (h2 : E f ks (vK l H1 k) r) : E f ks (vK (q :: l) H k) r := by rw [aIQ, h]; exact h2
variable {P : Program} {t : Nat} {c : Bool} {k : IntKind} {a b : Int} {H : aB} {K : AV → aB → Option fI}
theorem aBn (h1 : a = b → E f ks (K (.bool true) H) r) (h2 : a ≠ b → E f ks (K (.bool false) H) r) : E f ks (aC (pu H (aW P .eql t c (.int k a) (.int k b))) K) r := by
 rw [kF]; by_cases h : a = b
 ·rw [decide_eq_true h]; exact h1 h
 ·rw [decide_eq_false h]; exact h2 h
theorem aBs (h1 : a ≠ b → E f ks (K (.bool true) H) r) (h2 : a = b → E f ks (K (.bool false) H) r) : E f ks (aC (pu H (aW P .neq t c (.int k a) (.int k b))) K) r := by
 rw [aAE]; by_cases h : a ≠ b
 ·rw [decide_eq_true h]; exact h1 h
 ·rw [decide_eq_false h]; exact h2 (Classical.not_not.1 h)
theorem aBr (h1 : a < b → E f ks (K (.bool true) H) r) (h2 : b ≤ a → E f ks (K (.bool false) H) r) : E f ks (aC (pu H (aW P .lss t c (.int k a) (.int k b))) K) r := by
 rw [iO]; by_cases h : a < b
 ·rw [decide_eq_true h]; exact h1 h
 ·rw [decide_eq_false h]; exact h2 (by omega)
theorem aBq (h1 : a ≤ b → E f ks (K (.bool true) H) r) (h2 : b < a → E f ks (K (.bool false) H) r) : E f ks (aC (pu H (aW P .leq t c (.int k a) (.int k b))) K) r := by
 rw [aAC]; by_cases h : a ≤ b
 ·rw [decide_eq_true h]; exact h1 h
 ·rw [decide_eq_false h]; exact h2 (by omega)
theorem aBp (h1 : b < a → E f ks (K (.bool true) H) r) (h2 : a ≤ b → E f ks (K (.bool false) H) r) : E f ks (aC (pu H (aW P .gtr t c (.int k a) (.int k b))) K) r := by
 rw [aAB]; by_cases h : b < a
 ·rw [decide_eq_true h]; exact h1 h
 ·rw [decide_eq_false h]; exact h2 (by omega)
theorem aBo (h1 : b ≤ a → E f ks (K (.bool true) H) r) (h2 : a < b → E f ks (K (.bool false) H) r) : E f ks (aC (pu H (aW P .geq t c (.int k a) (.int k b))) K) r := by
 rw [kY]; by_cases h : b ≤ a
 ·rw [decide_eq_true h]; exact h1 h
 ·rw [decide_eq_false h]; exact h2 (by omega)
theorem aBt {g : Bool} (h1 : g = true → E f ks (K (.bool false) H) r) (h2 : g = false → E f ks (K (.bool true) H) r) : E f ks (aC (pu H (un .not (.bool g))) K) r := by
 rw [xM]
 cases g
 ·exact h2 rfl
 ·exact h1 rfl
theorem sV {g : Bool} {x y : AV} (h1 : g = true → E f ks (K x H) r) (h2 : g = false → E f ks (K y H) r) : E f ks (aC (pu H (eG (.bool g) x y)) K) r := by
 cases g
 ·exact h2 rfl
 ·exact h1 rfl
theorem sGd {g : Bool} {w : Bool} {m : Option (AV × aB)} (h1 : g = true → E f ks (aC (gd (.bool true) w H m) K) r) (h2 : g = false → E f ks (aC (gd (.bool false) w H m) K) r) : E f ks (aC (gd (.bool g) w H m) K) r := by
 cases g
 ·exact h2 rfl
 ·exact h1 rfl
end
section
variable {P : Program} {t : Nat} {c : Bool} {k : IntKind} {a b : Int}
theorem kM (h : a = b) : aW P .eql t c (.int k a) (.int k b) = some (.bool true) := by rw [kF, decide_eq_true h]
theorem gW (h : a ≠ b) : aW P .eql t c (.int k a) (.int k b) = some (.bool false) := by rw [kF, decide_eq_false h]
theorem qF (h : a ≠ b) : aW P .neq t c (.int k a) (.int k b) = some (.bool true) := by rw [aAE, decide_eq_true h]
theorem qE (h : a = b) : aW P .neq t c (.int k a) (.int k b) = some (.bool false) := by rw [aAE, decide_eq_false (fun h' => h' h)]
theorem gN (h : a < b) : aW P .lss t c (.int k a) (.int k b) = some (.bool true) := by rw [iO, decide_eq_true h]
theorem gF (h : b ≤ a) : aW P .lss t c (.int k a) (.int k b) = some (.bool false) := by rw [iO, decide_eq_false (by omega)]
theorem vS (h : a ≤ b) : aW P .leq t c (.int k a) (.int k b) = some (.bool true) := by rw [aAC, decide_eq_true h]
theorem aBi (h : b < a) : aW P .leq t c (.int k a) (.int k b) = some (.bool false) := by rw [aAC, decide_eq_false (by omega)]
theorem mC (h : b < a) : aW P .gtr t c (.int k a) (.int k b) = some (.bool true) := by rw [aAB, decide_eq_true h]
theorem jC (h : a ≤ b) : aW P .gtr t c (.int k a) (.int k b) = some (.bool false) := by rw [aAB, decide_eq_false (by omega)]
theorem aEN (h : b ≤ a) : aW P .geq t c (.int k a) (.int k b) = some (.bool true) := by rw [kY, decide_eq_true h]
theorem aEM (h : a < b) : aW P .geq t c (.int k a) (.int k b) = some (.bool false) := by rw [kY, decide_eq_false (by omega)]
theorem aJu (h0 : -9223372036854775808 ≤ a + b) (h1 : a + b < 9223372036854775808) : aW P .add t c (.int .i64 a) (.int .i64 b) = some (.int .i64 (a + b)) := by rw [gZ, eW h0 h1]
theorem aJC (h0 : -9223372036854775808 ≤ a - b) (h1 : a - b < 9223372036854775808) : aW P .sub t c (.int .i64 a) (.int .i64 b) = some (.int .i64 (a - b)) := by rw [nZ, eW h0 h1]
theorem aHa (h0 : 0 ≤ a + b) (h1 : a + b < 18446744073709551616) : aW P .add t c (.int .u64 a) (.int .u64 b) = some (.int .u64 (a + b)) := by rw [gZ, iW h0 h1]
theorem aJw (h0 : -9223372036854775808 ≤ a) (h1 : a < 9223372036854775808) : dM .i64 (.int k a) = some (.int .i64 a) := by rw [jF, eW h0 h1]
theorem aJx (h0 : 0 ≤ a) (h1 : a < 18446744073709551616) : dM .u64 (.int k a) = some (.int .u64 a) := by rw [jF, iW h0 h1]
theorem aJv (h0 : 0 ≤ a) (h1 : a < 256) : dM .u8 (.int k a) = some (.int .u8 a) := by rw [jF, aEj h0 h1]
theorem aHe (h0 : 0 ≤ a) (h1 : a < 4294967296) : dM .u32 (.int k a) = some (.int .u32 a) := by rw [jF, aDk h0 h1]
theorem sR {s bl L o m : Nat} (h0 : 0 ≤ a) (h1 : a < (m : Int)) : aM s (.sl bl L o m s) (.int k a) = some (.ptr bl L (o + a.toNat) 0) := by simp [aM, h0, h1]
theorem aEP {bor : Bool} {xs : List AV} : dN (.ro bor xs) = some (.int .i64 (xs.length : Int)) := by unfold dN; rfl
theorem aEQ {bl L o m s : Nat} : dN (.sl bl L o m s) = some (.int .i64 (m : Int)) := by unfold dN; rfl
theorem aCU : dN .nils = some (.int .i64 0) := by unfold dN; rfl
theorem aHp {bl L i o : Nat} : fT (.ptr bl L i o) = some (.ptr bl L i o) := by unfold fT; rfl
theorem aET {bor : Bool} {x : AV} {o : Nat} : fT (.rp bor x o) = some (.rp bor x o) := by unfold fT; rfl
theorem aER {g : Nat} {caps : List AV} : fT (.fn g caps) = some (.fn g caps) := by unfold fT; rfl
theorem aES {g : Nat} : fT (.gl g) = some (.gl g) := by unfold fT; rfl
theorem aJy {off bl L i o : Nat} : aA off (.ptr bl L i o) = some (.ptr bl L i (o + off)) := by unfold aA; rfl
theorem aHi {off : Nat} {bor : Bool} {x : AV} {o : Nat} : aA off (.rp bor x o) = some (.rp bor x (o + off)) := by unfold aA; rfl
theorem aHo {G : aF} {s : Nat} {bor : Bool} {cs : List AV} {o : Nat} {H : aB} : aD G false s (.rp bor (.agg cs) o) H = cs[o]? := by unfold aD lQ; rfl
theorem aCT {cs : List AV} {H : aB} : gB (.agg cs) H = some (.rp false (.agg cs) 0, H) := by unfold gB; rfl
theorem aHf {u : AV} {l : List AV} : cY (.tup (u :: l)) 0 = some u := by unfold cY; rfl
theorem aHg {u v : AV} {l : List AV} : cY (.tup (u :: v :: l)) 1 = some v := by unfold cY; rfl
theorem aHh {u v w : AV} {l : List AV} : cY (.tup (u :: v :: w :: l)) 2 = some w := by unfold cY; rfl
theorem aHr : un .not (.bool true) = some (.bool false) := by rw [xM]; rfl
theorem aHq : un .not (.bool false) = some (.bool true) := by rw [xM]; rfl
theorem aJB {H : aB} : fP (some H) = some (.tup [], H) := by unfold fP; rfl
end
section
variable {G : aF} {g : Bool} {s b L i o t z : Nat} {cs : List AV} {blk : ABlk} {H : aB} {v x : AV}
def ldB (g : Bool) (s L i o : Nat) (blk : ABlk) : Option AV := if blk.elems.length = L then (match blk.elems[i]? with | some x => lQ g s x.cells o | none => none) else none
def stB (s L i o : Nat) (v : AV) (blk : ABlk) : Option ABlk := if blk.elems.length = L ∧ gH v = true ∧ v.cells.length = s then
    (match blk.elems[i]? with
     | some x => if o + s ≤ x.cells.length then some { blk with elems := blk.elems.set i (lR x (kD x.cells o v.cells)) } else none
     | none => none) else none
theorem aHm : aD G g s (.ptr 0 L i o) (blk :: H) = ldB g s L i o blk := by unfold aD ldB; rfl
theorem aHn : aD G g s (.ptr (b + 1) L i o) (blk :: H) = aD G g s (.ptr b L i o) H := by unfold aD; rfl
theorem aJz : ldB false s 1 0 o ⟨t, z, [.agg cs]⟩ = cs[o]? := by unfold ldB lQ; rfl
theorem aHj : ldB true s 1 0 o ⟨t, z, [.agg cs]⟩ = if o + s ≤ cs.length then some (.agg ((cs.drop o).take s)) else none := by unfold ldB lQ; rfl
theorem aEO {bor : Bool} : aD G true s (.rp bor (.agg cs) o) H = if o + s ≤ cs.length then some (.agg ((cs.drop o).take s)) else none := by unfold aD lQ; rfl
theorem aHl {k : IntKind} {n : Int} : ldB false s 1 0 0 ⟨t, z, [.int k n]⟩ = some (.int k n) := by unfold ldB lQ; rfl
theorem aHk {c : Bool} : ldB false s 1 0 0 ⟨t, z, [.bool c]⟩ = some (.bool c) := by unfold ldB lQ; rfl
theorem aHs : aT s (.ptr 0 L i o) v (blk :: H) = (stB s L i o v blk).map (· :: H) := by
 unfold aT stB
 simp only [List.getElem?_cons_zero]
 split
 ·cases blk.elems[i]? with
  | none => rfl
  | some x => simp only; split <;> rfl
 ·rfl
theorem aHt : aT s (.ptr (b + 1) L i o) v (blk :: H) = (aT s (.ptr b L i o) v H).map (blk :: ·) := by
 unfold aT
 simp only [List.getElem?_cons_succ]
 cases H[b]? with
 | none => rfl
 | some y =>
  simp only
  split
  ·cases y.elems[i]? with
   | none => rfl
   | some x => simp only; split <;> rfl
  ·rfl
theorem aJA : stB s 1 0 o v ⟨t, z, [.agg cs]⟩ = if gH v = true ∧ v.cells.length = s ∧ o + s ≤ cs.length then some ⟨t, z, [.agg (kD cs o v.cells)]⟩ else none := by
 have e : (AV.agg cs).cells = cs := rfl
 unfold stB
 by_cases h1 : gH v = true ∧ v.cells.length = s
 ·by_cases h2 : o + s ≤ cs.length <;> simp [e, h1, h2, lR]
 ·have h3 : ¬ (gH v = true ∧ v.cells.length = s ∧ o + s ≤ cs.length) := fun h => h1 ⟨h.1, h.2.1⟩
  rw [if_neg h3, if_neg (fun h => h1 h.2)]
theorem aHb : fV t (.agg (x :: cs)) H = some (.ptr H.length 1 0 0, H ++ [⟨t, cs.length + 1, [.agg (x :: cs)]⟩]) := by
 unfold fV; simp [gH, AV.cells]
theorem aHd {k : IntKind} {n : Int} : fV t (.int k n) H = some (.ptr H.length 1 0 0, H ++ [⟨t, 1, [.int k n]⟩]) := by unfold fV; rfl
theorem aHc {c : Bool} : fV t (.bool c) H = some (.ptr H.length 1 0 0, H ++ [⟨t, 1, [.bool c]⟩]) := by unfold fV; rfl
end
theorem w1 {x x' : AV} {H : aB} (h : cE 0 x = true) (e : x = x') : E fG [] (cF [x] 0 H) (some (x', [])) := by subst e; exact oF (mG h H)
theorem w2 {x y r : AV} {H : aB} (hx : cE 0 x = true) (hy : cE 0 y = true) (e : AV.tup [x, y] = r) : E fG [] (cF [x, y] 0 H) (some (r, [])) := by subst e; exact oF (aCp hx hy H)
theorem w1b {b b' : Bool} {H : aB} (e : b = b') : E fG [] (cF [.bool b] 0 H) (some (.bool b', [])) := w1 rfl (by rw [e])
theorem w2b {k : IntKind} {n n' : Int} {b b' : Bool} {H : aB} (e : n = n') (e2 : b = b') : E fG [] (cF [.int k n, .bool b] 0 H) (some (.tup [.int k n', .bool b'], [])) := w2 rfl rfl (by rw [e, e2])
theorem qf : type_of% (aMC @aBh <| aMC @fF <| aMC @fE <| aMC @aCw <| aMC @aCs <| aMC @aCv <| aMC @aCt <| @aCu) := aMC @aBh <| aMC @fF <| aMC @fE <| aMC @aCw <| aMC @aCs <| aMC @aCv <| aMC @aCt <| @aCu
theorem qa : type_of% (aMC qf <| aMC @oM <| aMC @nD <| aMC @aHr <| aMC @aHq <| aMC @kM <| aMC @gW <| aMC @qF <| aMC @qE <| aMC @gN <| aMC @gF <| aMC @vS <| aMC @aBi <| aMC @mC <| aMC @jC <| aMC @aEN <| aMC @aEM <| aMC @aJu <| aMC @aJC <| aMC @aHa <| aMC @aJw <| aMC @aJx <| aMC @aJv <| aMC @aHe <| aMC @sR <| aMC @aEP <| aMC @aEQ <| aMC @aCU <| aMC @aHp <| aMC @aET <| aMC @aER <| aMC @aES <| aMC @aJy <| aMC @aHi <| aMC @aHo <| aMC @aCT <| aMC @aHf <| aMC @aHg <| aMC @aHh <| aMC @List.getElem?_cons_zero.{0} <| aMC @List.getElem?_cons_succ.{0} <| aMC @List.getElem?_nil.{0} <| aMC @aJB <| aMC @aHm <| aMC @aHn <| aMC @aJz <| aMC @aHj <| aMC @aEO <| aMC @aHl <| aMC @aHk <| aMC @aHb <| aMC @aHd <| aMC @aHc <| aMC @List.length_cons.{0} <| aMC @List.length_nil.{0} <| aMC @List.cons_append.{0} <| aMC @List.nil_append.{0} <| aMC @List.drop_zero.{0} <| aMC @List.drop_succ_cons.{0} <| aMC @List.take_succ_cons.{0} <| aMC @List.take_zero.{0} <| aMC @aHs <| aMC @aHt <| aMC @aJA <| aMC @Option.map_some.{0, 0} <| aMC @List.replicate_succ.{0} <| aMC @List.replicate_zero.{0} <| aMC @List.set_cons_zero.{0} <| aMC @List.set_cons_succ.{0} <| aMC @Nat.le_refl <| aMC @and_self <| aMC @true_and <| aMC @and_true <| aMC @if_true.{1} <| aMC @Bool.not_true <| aMC @Bool.not_false <| aMC @Int.toNat_natCast <| @Nat.zero_add) := aMC qf <| aMC @oM <| aMC @nD <| aMC @aHr <| aMC @aHq <| aMC @kM <| aMC @gW <| aMC @qF <| aMC @qE <| aMC @gN <| aMC @gF <| aMC @vS <| aMC @aBi <| aMC @mC <| aMC @jC <| aMC @aEN <| aMC @aEM <| aMC @aJu <| aMC @aJC <| aMC @aHa <| aMC @aJw <| aMC @aJx <| aMC @aJv <| aMC @aHe <| aMC @sR <| aMC @aEP <| aMC @aEQ <| aMC @aCU <| aMC @aHp <| aMC @aET <| aMC @aER <| aMC @aES <| aMC @aJy <| aMC @aHi <| aMC @aHo <| aMC @aCT <| aMC @aHf <| aMC @aHg <| aMC @aHh <| aMC @List.getElem?_cons_zero.{0} <| aMC @List.getElem?_cons_succ.{0} <| aMC @List.getElem?_nil.{0} <| aMC @aJB <| aMC @aHm <| aMC @aHn <| aMC @aJz <| aMC @aHj <| aMC @aEO <| aMC @aHl <| aMC @aHk <| aMC @aHb <| aMC @aHd <| aMC @aHc <| aMC @List.length_cons.{0} <| aMC @List.length_nil.{0} <| aMC @List.cons_append.{0} <| aMC @List.nil_append.{0} <| aMC @List.drop_zero.{0} <| aMC @List.drop_succ_cons.{0} <| aMC @List.take_succ_cons.{0} <| aMC @List.take_zero.{0} <| aMC @aHs <| aMC @aHt <| aMC @aJA <| aMC @Option.map_some.{0, 0} <| aMC @List.replicate_succ.{0} <| aMC @List.replicate_zero.{0} <| aMC @List.set_cons_zero.{0} <| aMC @List.set_cons_succ.{0} <| aMC @Nat.le_refl <| aMC @and_self <| aMC @true_and <| aMC @and_true <| aMC @if_true.{1} <| aMC @Bool.not_true <| aMC @Bool.not_false <| aMC @Int.toNat_natCast <| @Nat.zero_add
theorem mE {p q : Prop} (h : q) (t : q → p := by
 intro hgo
 repeat' first
  | (with_reducible first | refine eT ?_ | refine eN ?_ | refine eS ?_ | refine eXn ?_ | refine eXr ?_ | refine eX ?_ | refine eI ?_ | refine eK ?_ | refine eV0 ?_ | refine yC ?_ | refine yF ?_ | refine xZ ?_ | refine yE ?_ | refine yA ?_ | refine yB ?_)
  | ((with_reducible apply eCn); (simp only [fF, fE]; first | done | (with_reducible exact rfl)))
  | ((with_reducible apply eJ); (rfl))
  | ((with_reducible apply yD); (first | rfl | (simp only [fF, fE]; rfl)))
  | ((with_reducible apply eL); (first | exact lx1 | exact lx2 | exact lx3))
  | ((with_reducible apply eB); (first | (with_reducible exact rfl) | (simp (disch := omega) only [qf, fx]; first | done | (with_reducible exact rfl) | (with_reducible exact ⟨rfl, rfl⟩)) | (simp (disch := omega) only [qa, kD, AV.cells, gH, cX, kG, fS, hO, jJ, Nat.reduceLeDiff, Nat.reduceLT, Nat.reduceAdd, ↓reduceIte, fx]; first | done | (with_reducible exact rfl) | (with_reducible exact ⟨rfl, rfl⟩))))
  | ((with_reducible apply eR); (simp only [fF, fE]; (with_reducible exact rfl)))
  | ((with_reducible first | refine aBn ?_ ?_ | refine aBs ?_ ?_ | refine aBr ?_ ?_ | refine aBq ?_ ?_ | refine aBp ?_ ?_ | refine aBo ?_ ?_ | refine aBt ?_ ?_ | refine sV ?_ ?_ | refine sGd ?_ ?_ | refine rW ?_ ?_) <;> intro hq <;> try subst hq)
 all_goals first | omega | exact hgo) : p := t h
theorem gV {p q : Prop} (h : q) (t : q → p := by
 intro hgo
 repeat first
  | (with_reducible first | refine eT ?_ | refine eN ?_ | refine eS ?_ | refine eXn ?_ | refine eXr ?_ | refine eX ?_ | refine eI ?_ | refine eK ?_ | refine eV0 ?_ | refine yC ?_ | refine yF ?_ | refine xZ ?_ | refine yE ?_ | refine yA ?_ | refine yB ?_)
  | ((with_reducible apply eCn); (simp only [fF, fE]; first | done | (with_reducible exact rfl)))
  | ((with_reducible apply eJ); (rfl))
  | ((with_reducible apply yD); (first | rfl | (simp only [fF, fE]; rfl)))
  | ((with_reducible apply eL); (first | exact lx1 | exact lx2 | exact lx3))
  | ((with_reducible apply eB); (first | (with_reducible exact rfl) | (simp (disch := omega) only [qf, fx]; first | done | (with_reducible exact rfl) | (with_reducible exact ⟨rfl, rfl⟩)) | (simp (disch := omega) only [qa, kD, AV.cells, gH, cX, kG, fS, hO, jJ, Nat.reduceLeDiff, Nat.reduceLT, Nat.reduceAdd, ↓reduceIte, fx]; first | done | (with_reducible exact rfl) | (with_reducible exact ⟨rfl, rfl⟩))))
  | ((with_reducible apply eR); (simp only [fF, fE]; (with_reducible exact rfl)))
 exact hgo) : p := t h
theorem sL {f : AV → Option AV} : ∀ {xs : List AV}, (∀ x ∈ xs, f x = some x) → oH f xs = some xs
 | [], _ => rfl
 | x :: xs, h => by
  have h2 := sL (f := f) (xs := xs) (fun y hy => h y (List.mem_cons_of_mem _ hy))
  simp only [oH, h x (by simp), h2]
theorem nY {n : Nat} : ∀ {xs : List AV} (_ : cJ n xs = true) (x : AV) (_ : x ∈ xs), cE n x = true
 | [], _, _, hx => by cases hx
 | y :: xs, h, x, hx => by
  simp only [cJ, Bool.and_eq_true] at h
  rcases List.mem_cons.1 hx with rfl | hx
  ·exact h.1
  ·exact nY h.2 x hx
mutual
theorem iT {n m : Nat} (h : n ≤ m) : ∀ {x : AV}, cE n x = true → cE m x = true
 | .ptr .., hx => by simp [cE] at hx ⊢; omega
 | .sl .., hx => by simp [cE] at hx ⊢; omega
 | .fn _ caps, hx => by simp only [cE] at hx ⊢; exact lG h hx
 | .iface _ v, hx => by simp only [cE] at hx ⊢; exact iT h hx
 | .agg cs, hx => by simp only [cE] at hx ⊢; exact lG h hx
 | .tup vs, hx => by simp only [cE] at hx ⊢; exact lG h hx
 | .ro _ xs, hx => by simp only [cE] at hx ⊢; exact lG h hx
 | .rp _ x _, hx => by simp only [cE] at hx ⊢; exact iT h hx
 | .undef, _ => rfl
 | .bool _, _ => rfl
 | .int .., _ => rfl
 | .str _, _ => rfl
 | .nilp, _ => rfl
 | .nilf, _ => rfl
 | .nili, _ => rfl
 | .gl _, _ => rfl
 | .gp _, _ => rfl
 | .nils, _ => rfl
 | .anyb, _ => rfl
theorem lG {n m : Nat} (h : n ≤ m) : ∀ {xs : List AV}, cJ n xs = true → cJ m xs = true
 | [], _ => rfl
 | x :: xs, hx => by
  simp only [cJ, Bool.and_eq_true] at hx ⊢
  exact ⟨iT h hx.1, lG h hx.2⟩
end
theorem yW {H : aB} {n d : Nat} {x : AV} (h : cE n x = true) : uF (rG H n d) x = some x := by
 cases x with
 | agg cs =>
  simp only [cE] at h
  have : oH (rG H n d) cs = some cs := sL fun y hy => mA (nY h y hy) d
  simp only [uF, this]
 | _ => exact mA h d
theorem tI {H : aB} {b n0 d n sz ty : Nat} {xs : List AV} (hb : H[b]? = some ⟨ty, sz, xs⟩) (hn : n0 ≤ b) (hl : xs.length = n) (hs : mZ sz xs = true) (hx : cJ n0 xs = true) :
  rG H n0 (d + 1) (.sl b n 0 n sz) = some (.ro false xs) := by
 have h1 : cE n0 (.sl b n 0 n sz) = false := by simp [cE]; omega
 have h2 : oH (uF (rG H n0 d)) xs = some xs := sL fun x h => yW (nY hx x h)
 have h3 : iF (.sl b n 0 n sz) H = some xs := by
  simp only [iF, hb, hl, if_true, List.drop_zero]
  rw [List.take_of_length_le (by omega)]
 unfold rG
 simp only [h1, h3, hs, h2]
theorem pW {α : Type} (s : Nat) (e : α → AV) (h : ∀ a, (e a).cells.length = s) (xs : List α) : mZ s (xs.map e) = true := by
 unfold mZ
 simp [List.all_eq_true, h]
theorem pG {g : cC} {args : List AV} {r : AV} {H H' : aB} (h : g args H = some (r, H')) (hl : H.length ≤ H'.length) : bC g args H = some (r, H') := by
 simp only [bC, h, hl, if_true]
theorem aAP {x y : AV} {n : Nat} {H : aB} (h : rG H n 6 x = some y) (hb : dQ n (H.take n) = true) : cF [x] n H = some (.ret, [y], H.take n) := by
 have hc : fU n [] H = some (H.take n) := by unfold fU; simp only [cJ, hb, Bool.true_and]
 unfold cF oQ
 simp only [h, hc]
theorem aAQ {H : aB} {n d : Nat} {cs zs : List AV} (hb : cJ n cs = false) (h : oH (rG H n d) cs = some zs) : rG H n (d + 1) (.agg cs) = some (.agg zs) := by
 unfold rG
 simp only [cE, hb, h]
theorem aEx {H : aB} {n d : Nat} {cs zs : List AV} (hb : cJ n cs = false) (h : oH (rG H n d) cs = some zs) : rG H n (d + 1) (.tup cs) = some (.tup zs) := by
 unfold rG
 simp only [cE, hb, h]
theorem gY {f : AV → Option AV} {x y : AV} {xs ys : List AV} (h : f x = some y) (hs : oH f xs = some ys) : oH f (x :: xs) = some (y :: ys) := by
 simp only [oH, h, hs]
theorem pN {f : AV → Option AV} : oH f [] = some [] := rfl
theorem aFm (e : Ex) : aGn e e = true := by cases e <;> simp [aGn]
theorem aDs {x y : Option fI} {e : Ex} {xs : List AV} {H : aB} (hx : x = some (e, xs, H)) (hy : y = some (e, xs, H)) (h1 : oA xs xs = true) (h2 : qL H H = true) : aBX x y = some (e, xs, H) := by
 subst hx hy
 unfold aBX
 simp only [aFm, h1, h2, Bool.and_self]
theorem aLM {γ : Type} {f : Option fI → Option γ} {ks : List KK} {r : Option γ} {x y : Option fI} {e : Ex} {xs : List AV} {H : aB} (hx : x = some (e, xs, H)) (hy : y = some (e, xs, H)) (h1 : oA xs xs = true) (h2 : qL H H = true)
  (h : E f ks (some (e, xs, H)) r) : E f ks (aX .anyb x y) r := by
 have : aX .anyb x y = some (e, xs, H) := aDs hx hy h1 h2
 rw [this]; exact h
theorem aCg {α : Type} (e : α → AV) (h : ∀ a, lO (e a) (e a) = true) : ∀ xs : List α, oA (xs.map e) (xs.map e) = true
 | [] => by simp [oA]
 | x :: xs => by simp [oA, h x, aCg e h xs]
theorem aCi {A : aB} : ∀ {H : aB}, qL H H = true → qL A A = true → qL (H ++ A) (H ++ A) = true
 | [], _, h => h
 | x :: H, h1, h2 => by
  simp only [qL, Bool.and_eq_true] at h1
  simp only [List.cons_append, qL, Bool.and_eq_true]
  exact ⟨h1.1, aCi h1.2 h2⟩
end Go.Proofs.YtlkgkfgkiidhdaaDoor.Mir
