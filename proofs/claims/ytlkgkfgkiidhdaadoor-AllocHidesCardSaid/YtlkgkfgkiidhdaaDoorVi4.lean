/- Part 4 of the proof: the evaluator and its soundness. -/
import Derived.Test.YtlkgkfgkiidhdaaDoorVi3
namespace Go.Proofs.YtlkgkfgkiidhdaaDoor.Mir
open Go
set_option linter.unusedSimpArgs false
set_option linter.unusedVariables false
@[simp] theorem aBS {γ : Type} (v : AV) (H : aB) (k : AV → aB → Option γ) : aC (some (v, H)) k = k v H := by unfold aC; rfl
@[simp] theorem tP (H : aB) (v : AV) : pu H (some v) = some (v, H) := by unfold pu; rfl
@[simp] theorem aDy (x y : Option fF) : aY (.bool true) x y = x := by unfold aY; rfl
@[simp] theorem aBY (x y : Option fF) : aY (.bool false) x y = y := by unfold aY; rfl
@[simp] theorem aCu (H : aB) (m : Option (AV × aB)) : gd (.bool true) true H m = m := by unfold gd; rfl
@[simp] theorem aCq (H : aB) (m : Option (AV × aB)) : gd (.bool false) false H m = m := by unfold gd; rfl
@[simp] theorem aCt (H : aB) (m : Option (AV × aB)) : gd (.bool true) false H m = some (.tup [], H) := by unfold gd; rfl
@[simp] theorem aCr (H : aB) (m : Option (AV × aB)) : gd (.bool false) true H m = some (.tup [], H) := by unfold gd; rfl
@[simp] theorem aCs (w : Bool) (H : aB) (m : Option (AV × aB)) : gd (.tup []) w H m = some (.tup [], H) := by unfold gd; rfl
@[simp] theorem oD (x y : AV) : eH (.bool true) x y = some x := by unfold eH; rfl
@[simp] theorem mV (x y : AV) : eH (.bool false) x y = some y := by unfold eH; rfl
@[simp] theorem aKu (e : Ex) (xs : List AV) (H : aB) (k : Ex → List AV → aB → Option fF) : eP (some (e, xs, H)) k = k e xs H := by unfold eP; rfl
@[simp] theorem aJP {γ : Type} (a : γ) (b : Nat → γ) (r : γ) : iM .normal a b r = a := by unfold iM; rfl
@[simp] theorem aKO {γ : Type} (i : Nat) (a : γ) (b : Nat → γ) (r : γ) : iM (.exit i) a b r = b i := by unfold iM; rfl
@[simp] theorem aLx {γ : Type} (a : γ) (b : Nat → γ) (r : γ) : iM .ret a b r = r := by unfold iM; rfl
@[simp] theorem fB (x : AV) (xs : List AV) : aG (x :: xs) 0 = x := by unfold aG; rfl
@[simp] theorem fA (x : AV) (xs : List AV) (i : Nat) : aG (x :: xs) (i + 1) = aG xs i := by rw [aG]
@[simp] theorem aCN (r : AV) (H : aB) : fE (some (.ret, [r], H)) = some (r, H) := by unfold fE; rfl
@[congr] theorem aKC {γ : Type} {m m' : Option (AV × aB)} {k : AV → aB → Option γ} (h : m = m') : aC m k = aC m' k := by rw [h]
@[congr] theorem aJF {m m' : Option fF} {k : Ex → List AV → aB → Option fF} (h : m = m') : eP m k = eP m' k := by rw [h]
@[congr] theorem aJd {c c' : AV} {x y : Option fF} (h : c = c') : aY c x y = aY c' x y := by rw [h]
@[congr] theorem aKE {γ : Type} {e e' : Ex} {a : γ} {b : Nat → γ} {r : γ} (h : e = e') : iM e a b r = iM e' a b r := by rw [h]
@[congr] theorem aKR {g g' : AV} {w : Bool} {H : aB} {m : Option (AV × aB)} (h : g = g') : gd g w H m = gd g' w H m := by rw [h]
theorem yS (H : aB) : fN 0 [] H = some [] := rfl
theorem mU {H : aB} {n : Nat} {x : AV} (h : cB n x = true) (d : Nat) : rE H n d x = some x := by
 cases d <;> simp [rE, h]
theorem mB {x : AV} (h : cB 0 x = true) (H : aB) : cH [x] 0 H = some (.ret, [x], []) := by
 simp [cH, oQ, mU h, yS]
theorem aCn {x y : AV} (hx : cB 0 x = true) (hy : cB 0 y = true) (H : aB) : cH [x, y] 0 H = some (.ret, [.tup [x, y]], []) := by
 have : cB 0 (.tup [x, y]) = true := by simp [cB, cI, hx, hy]
 simp [cH, oQ, mU this, yS]
@[simp] theorem aCm (k : IntKind) (n : Int) (H : aB) : cH [.int k n] 0 H = some (.ret, [.int k n], []) := mB rfl H
@[simp] theorem aFq (b : Bool) (H : aB) : cH [.bool b] 0 H = some (.ret, [.bool b], []) := mB rfl H
theorem aDY {H : aB} {x : AV} (h : bV x = true) : aFM H x = some x := by
 cases x with
 | agg cs =>
  simp only [bV] at h
  have : ∀ cs : List AV, gC cs = true → kT H cs = some cs := by
   intro cs
   induction cs with
   | nil => intro _; rfl
   | cons y ys ih =>
    intro hp
    simp only [gC, Bool.and_eq_true] at hp
    have h1 : xB H y = some y := by cases y <;> simp_all [xB, bV]
    simp [kT, h1, ih hp.2]
  simp [aFM, this cs h]
 | _ => simp_all [aFM, xB, bV]
theorem uO {H : aB} : ∀ {xs : List AV}, gC xs = true → xC H xs = some xs
 | [], _ => rfl
 | x :: xs, h => by
  simp only [gC, Bool.and_eq_true] at h
  simp [xC, aDY h.1, uO h.2]
theorem cG {g : cE} {args : List AV} {r : AV} {H : aB} (hg : g args [] = some (r, [])) (ha : gC args = true) (hr : gO r = true) : aW g args H = some (r, H) := by
 simp [aW, uO ha, hg, hr]
section
variable (P : Program) (t : Nat) (c : Bool) (k k' : IntKind) (a b : Int)
@[simp] theorem gR : aX P .add t c (.int k a) (.int k b) = some (.int k (k.wrap (a + b))) := by simp [aX, iZ]
@[simp] theorem nW : aX P .sub t c (.int k a) (.int k b) = some (.int k (k.wrap (a - b))) := by simp [aX, iZ]
@[simp] theorem aAy : aX P .mul t c (.int k a) (.int k b) = some (.int k (k.wrap (a * b))) := by simp [aX, iZ]
theorem aIb (h : b ≠ 0) : aX P .rem t c (.int k a) (.int k b) = some (.int k (a.tmod b)) := by simp [aX, iZ, h]
@[simp] theorem aAt : aX P .and t c (.int k a) (.int k b) = some (.int k (bits .and k a b)) := by simp [aX, iZ]
@[simp] theorem aJM : aX P .or t c (.int k a) (.int k b) = some (.int k (bits .or k a b)) := by simp [aX, iZ]
@[simp] theorem aId : aX P .xor t c (.int k a) (.int k b) = some (.int k (bits .xor k a b)) := by simp [aX, iZ]
@[simp] theorem aJL : aX P .andNot t c (.int k a) (.int k b) = some (.int k (bits .andNot k a b)) := by simp [aX, iZ]
@[simp] theorem jC : aX P .eql t c (.int k a) (.int k b) = some (.bool (decide (a = b))) := by simp [aX, iZ]; rfl
@[simp] theorem aAz : aX P .neq t c (.int k a) (.int k b) = some (.bool (decide (a ≠ b))) := by simp [aX, iZ, bne]; rfl
@[simp] theorem hJ : aX P .lss t c (.int k a) (.int k b) = some (.bool (decide (a < b))) := by simp [aX, iZ]
@[simp] theorem aAx : aX P .leq t c (.int k a) (.int k b) = some (.bool (decide (a ≤ b))) := by simp [aX, iZ]
@[simp] theorem aAw : aX P .gtr t c (.int k a) (.int k b) = some (.bool (decide (b < a))) := by simp [aX, iZ]
@[simp] theorem kV : aX P .geq t c (.int k a) (.int k b) = some (.bool (decide (b ≤ a))) := by simp [aX, iZ]
theorem aIc (h : 0 ≤ b) : aX P .shl t c (.int k a) (.int k' b) = some (.int k (k.wrap (a * 2 ^ min b.toNat k.bits))) := by
 have : ¬ b < 0 := by omega
 simp [aX, nQ, this]
theorem aEo (h : 0 ≤ b) : aX P .shr t c (.int k a) (.int k' b) = some (.int k (a.fdiv (2 ^ min b.toNat k.bits))) := by
 have : ¬ b < 0 := by omega
 simp [aX, nQ, this]
end
theorem aAv {P : Program} {t : Nat} (h : P.underlying t = some .bool) (c a b : Bool) : aX P .eql t c (.bool a) (.bool b) = some (.bool (a == b)) := by simp [aX, kQ, h, lV]
theorem aAK (x n : Nat) : (x : Int).fdiv (2 ^ n) = ((x / 2 ^ n : Nat) : Int) := by
 rw [Int.fdiv_eq_ediv_of_nonneg _ (by exact_mod_cast Nat.zero_le (2 ^ n))]
 push_cast; rfl
theorem iT {n : Int} (h0 : 0 ≤ n) (h1 : n < 18446744073709551616) : IntKind.u64.wrap n = n := by
 simp only [IntKind.wrap, IntKind.bits, IntKind.signed, Bool.false_and, Bool.false_eq_true, if_false]
 exact Int.emod_eq_of_lt h0 (by simpa using h1)
theorem aDl {n : Int} (h0 : 0 ≤ n) (h1 : n < 4294967296) : IntKind.u32.wrap n = n := by
 simp only [IntKind.wrap, IntKind.bits, IntKind.signed, Bool.false_and, Bool.false_eq_true, if_false]
 exact Int.emod_eq_of_lt h0 (by simpa using h1)
theorem aEg {n : Int} (h0 : 0 ≤ n) (h1 : n < 256) : IntKind.u8.wrap n = n := by
 simp only [IntKind.wrap, IntKind.bits, IntKind.signed, Bool.false_and, Bool.false_eq_true, if_false]
 exact Int.emod_eq_of_lt h0 (by simpa using h1)
theorem uS (n : Int) : IntKind.i64.wrap n = if n % 18446744073709551616 ≥ 9223372036854775808 then n % 18446744073709551616 - 18446744073709551616 else n % 18446744073709551616 := by
 simp [IntKind.wrap, IntKind.bits, IntKind.signed]
theorem pU (n : Int) : IntKind.u64.wrap n = n % 18446744073709551616 := by
 simp [IntKind.wrap, IntKind.bits, IntKind.signed]
theorem eD {n : Int} (h0 : -9223372036854775808 ≤ n) (h1 : n < 9223372036854775808) : IntKind.i64.wrap n = n := by
 rw [uS]; split <;> omega
theorem aBD {n : Int} (h : (Lit.int .i64 n).wf = true) : -9223372036854775808 ≤ n ∧ n < 9223372036854775808 := by
 simp [Lit.wf, IntKind.min, IntKind.max, IntKind.signed, IntKind.bits] at h; omega
theorem aHP {n : Int} (h : (Lit.int .u64 n).wf = true) : 0 ≤ n ∧ n < 18446744073709551616 := by
 simp [Lit.wf, IntKind.min, IntKind.max, IntKind.signed, IntKind.bits] at h; omega
@[simp] theorem jA (k k' : IntKind) (n : Int) : dJ k (.int k' n) = some (.int k (k.wrap n)) := by unfold dJ; rfl
@[simp] theorem aLy (k : IntKind) (a b : Int) : rU zJ (.int k a) [.int k b] = some (.int k (max a b)) := by
 simp only [rU, zJ, Option.bind_some]
 congr 2
 split <;> omega
@[simp] theorem xK (b : Bool) : un .not (.bool b) = some (.bool (!b)) := by unfold un; rfl
theorem oB {m : Option (AV × aB)} {k : AV → aB → Option fF} {v : AV} {H : aB} {r : Option (AV × aB)} (h : m = some (v, H)) (h2 : fE (k v H) = r) : fE (aC m k) = r := by rw [h]; exact h2
theorem oT {a b : Option fF} {r : Option (AV × aB)} (h : fE a = r) : fE (aY (.bool true) a b) = r := h
theorem oN {a b : Option fF} {r : Option (AV × aB)} (h : fE b = r) : fE (aY (.bool false) a b) = r := h
theorem oK {m : Option fF} {k : Ex → List AV → aB → Option fF} {e : Ex} {xs : List AV} {H : aB} {r : Option (AV × aB)} (h : m = some (e, xs, H)) (h2 : fE (k e xs H) = r) : fE (eP m k) = r := by rw [h]; exact h2
theorem oX {a : Option fF} {b : Nat → Option fF} {r0 : Option fF} {i : Nat} {r : Option (AV × aB)} (h : fE (b i) = r) : fE (iM (.exit i) a b r0) = r := h
theorem oXn {a : Option fF} {b : Nat → Option fF} {r0 : Option fF} {r : Option (AV × aB)} (h : fE a = r) : fE (iM .normal a b r0) = r := h
theorem oXr {a : Option fF} {b : Nat → Option fF} {r0 : Option fF} {r : Option (AV × aB)} (h : fE r0 = r) : fE (iM .ret a b r0) = r := h
theorem oF {m : Option fF} {x : AV} {H : aB} (h : m = some (.ret, [x], H)) : fE m = some (x, H) := by rw [h]; rfl
theorem lB {γ : Type} {m : Option (AV × aB)} {k : AV → aB → Option γ} {v : AV} {H : aB} {r : Option γ} (h : m = some (v, H)) (h2 : k v H = r) : aC m k = r := by rw [h]; exact h2
theorem lT {a b r : Option fF} (h : a = r) : aY (.bool true) a b = r := h
theorem lN {a b r : Option fF} (h : b = r) : aY (.bool false) a b = r := h
theorem lK {m : Option fF} {k : Ex → List AV → aB → Option fF} {e : Ex} {xs : List AV} {H : aB} {r : Option fF} (h : m = some (e, xs, H)) (h2 : k e xs H = r) : eP m k = r := by rw [h]; exact h2
theorem lX {γ : Type} {a : γ} {b : Nat → γ} {r0 : γ} {i : Nat} {r : γ} (h : b i = r) : iM (.exit i) a b r0 = r := h
theorem lXn {γ : Type} {a : γ} {b : Nat → γ} {r0 : γ} {r : γ} (h : a = r) : iM .normal a b r0 = r := h
theorem lXr {γ : Type} {a : γ} {b : Nat → γ} {r0 : γ} {r : γ} (h : r0 = r) : iM .ret a b r0 = r := h
theorem lC {n : Nat} {xs : List AV} {H H' : aB} {k : aB → Option fF} {r : Option fF} (h : fN n xs H = some H') (h2 : k H' = r) : iX n xs H k = r := by unfold iX; rw [h]; exact h2
theorem bB (step : eU → eU) (n : Nat) : dK step (n + 1) = step (dK step n) := by rw [dK]
theorem oI {i : Nat} {a b : Option fF} {r : Option (AV × aB)} (h : fE a = r) : fE (if i = i then a else b) = r := by rw [if_pos rfl]; exact h
theorem oJ {i j : Nat} {a b : Option fF} {r : Option (AV × aB)} (hij : (i == j) = false) (h : fE b = r) : fE (if i = j then a else b) = r := by rw [if_neg (by simpa using hij)]; exact h
theorem lI {γ : Type} {i : Nat} {a b r : Option γ} (h : a = r) : (if i = i then a else b) = r := by rw [if_pos rfl]; exact h
theorem lJ {γ : Type} {i j : Nat} {a b r : Option γ} (hij : (i == j) = false) (h : b = r) : (if i = j then a else b) = r := by rw [if_neg (by simpa using hij)]; exact h
@[simp] theorem aKw {γ : Type} (H : aB) (k : aB → Option γ) : vK [] H k = k H := by unfold vK; rfl
@[simp] theorem aIN {γ : Type} (q : AV × Nat × Nat × Nat) (l : List (AV × Nat × Nat × Nat)) (H : aB) (k : aB → Option γ) : vK (q :: l) H k = vK l (sS q H) k := by rw [vK]
abbrev KK := Ex → List AV → aB → Option fF
def E {γ : Type} (f : Option fF → Option γ) (ks : List KK) (m : Option fF) (r : Option γ) : Prop := f (ks.foldl eP m) = r
section
variable {γ : Type} {f : Option fF → Option γ} {ks : List KK} {r : Option γ}
theorem gQ {m : Option fF} (h : E f [] m r) : f m = r := h
theorem fV {m r : Option fF} (h : E (fun x => x) [] m r) : m = r := h
theorem gA {m : Option fF} (h : f m = r) : E f [] m r := h
theorem eB {m : Option (AV × aB)} {k : AV → aB → Option fF} {v : AV} {H : aB} (h : m = some (v, H)) (h2 : E f ks (k v H) r) : E f ks (aC m k) r := by rw [h]; exact h2
theorem eR {m m' : Option (AV × aB)} {k : AV → aB → Option fF} (h : m = m') (h2 : E f ks (aC m' k) r) : E f ks (aC m k) r := by rw [h]; exact h2
theorem eT {a b : Option fF} (h : E f ks a r) : E f ks (aY (.bool true) a b) r := h
theorem eN {a b : Option fF} (h : E f ks b r) : E f ks (aY (.bool false) a b) r := h
theorem yC {H : aB} {m : Option (AV × aB)} {k : AV → aB → Option fF} (h : E f ks (aC m k) r) : E f ks (aC (gd (.bool true) true H m) k) r := by rw [aCu]; exact h
theorem xW {H : aB} {m : Option (AV × aB)} {k : AV → aB → Option fF} (h : E f ks (aC m k) r) : E f ks (aC (gd (.bool false) false H m) k) r := by rw [aCq]; exact h
theorem yB {H : aB} {m : Option (AV × aB)} {k : AV → aB → Option fF} (h : E f ks (k (.tup []) H) r) : E f ks (aC (gd (.bool true) false H m) k) r := by rw [aCt]; exact h
theorem xX {H : aB} {m : Option (AV × aB)} {k : AV → aB → Option fF} (h : E f ks (k (.tup []) H) r) : E f ks (aC (gd (.bool false) true H m) k) r := by rw [aCr]; exact h
theorem xY {H : aB} {w : Bool} {m : Option (AV × aB)} {k : AV → aB → Option fF} (h : E f ks (k (.tup []) H) r) : E f ks (aC (gd (.tup []) w H m) k) r := by rw [aCs]; exact h
theorem eCn {xs : List AV} {i : Nat} {c : AV} {a b : Option fF} (hc : aG xs i = c) (h : E f ks (aY c a b) r) : E f ks (aY (aG xs i) a b) r := by rw [hc]; exact h
theorem rS {b : Bool} {x y : Option fF} (h1 : b = true → E f ks x r) (h2 : b = false → E f ks y r) : E f ks (aY (.bool b) x y) r := by
 cases b
 ·exact h2 rfl
 ·exact h1 rfl
theorem eK {m : Option fF} {k : KK} (h : E f (k :: ks) m r) : E f ks (eP m k) r := h
theorem eS {k : KK} {e : Ex} {xs : List AV} {H : aB} (h : E f ks (k e xs H) r) : E f (k :: ks) (some (e, xs, H)) r := h
theorem eL {m : Option fF} {o : fF} (h : m = some o) (h2 : E f ks (some o) r) : E f ks m r := by rw [h]; exact h2
theorem eX {a : Option fF} {b : Nat → Option fF} {r0 : Option fF} {i : Nat} (h : E f ks (b i) r) : E f ks (iM (.exit i) a b r0) r := h
theorem eXn {a : Option fF} {b : Nat → Option fF} {r0 : Option fF} (h : E f ks a r) : E f ks (iM .normal a b r0) r := h
theorem eXr {a : Option fF} {b : Nat → Option fF} {r0 : Option fF} (h : E f ks r0 r) : E f ks (iM .ret a b r0) r := h
theorem eI {i : Nat} {a b : Option fF} (h : E f ks a r) : E f ks (if i = i then a else b) r := by rw [if_pos rfl]; exact h
theorem eJ {i j : Nat} {a b : Option fF} (hij : (i == j) = false) (h : E f ks b r) : E f ks (if i = j then a else b) r := by rw [if_neg (by simpa using hij)]; exact h
theorem eC {n : Nat} {xs : List AV} {H H' : aB} {k : aB → Option fF} (h : fN n xs H = some H') (h2 : E f ks (k H') r) : E f ks (iX n xs H k) r := by unfold iX; rw [h]; exact h2
theorem xZ {m : Option fF} (h : E f ks m r) : E f ks (grd [] m) r := h
theorem yA {a b : AV} {l : List (AV × AV)} {m : Option fF} (h : jO a b = true) (h2 : E f ks (grd l m) r) : E f ks (grd ((a, b) :: l) m) r := by unfold grd; rw [h]; exact h2
theorem eV0 {H : aB} {k : aB → Option fF} (h2 : E f ks (k H) r) : E f ks (vK [] H k) r := by rw [aKw]; exact h2
theorem eV1 {q : AV × Nat × Nat × Nat} {l : List (AV × Nat × Nat × Nat)} {H H1 : aB} {k : aB → Option fF} (h : sS q H = H1) (h2 : E f ks (vK l H1 k) r) : E f ks (vK (q :: l) H k) r := by rw [aIN, h]; exact h2
variable {P : Program} {t : Nat} {c : Bool} {k : IntKind} {a b : Int} {H : aB} {K : AV → aB → Option fF}
theorem aBl (h1 : a = b → E f ks (K (.bool true) H) r) (h2 : a ≠ b → E f ks (K (.bool false) H) r) : E f ks (aC (pu H (aX P .eql t c (.int k a) (.int k b))) K) r := by
 rw [jC]; by_cases h : a = b
 ·rw [decide_eq_true h]; exact h1 h
 ·rw [decide_eq_false h]; exact h2 h
theorem aBq (h1 : a ≠ b → E f ks (K (.bool true) H) r) (h2 : a = b → E f ks (K (.bool false) H) r) : E f ks (aC (pu H (aX P .neq t c (.int k a) (.int k b))) K) r := by
 rw [aAz]; by_cases h : a ≠ b
 ·rw [decide_eq_true h]; exact h1 h
 ·rw [decide_eq_false h]; exact h2 (Classical.not_not.1 h)
theorem aBp (h1 : a < b → E f ks (K (.bool true) H) r) (h2 : b ≤ a → E f ks (K (.bool false) H) r) : E f ks (aC (pu H (aX P .lss t c (.int k a) (.int k b))) K) r := by
 rw [hJ]; by_cases h : a < b
 ·rw [decide_eq_true h]; exact h1 h
 ·rw [decide_eq_false h]; exact h2 (by omega)
theorem aBo (h1 : a ≤ b → E f ks (K (.bool true) H) r) (h2 : b < a → E f ks (K (.bool false) H) r) : E f ks (aC (pu H (aX P .leq t c (.int k a) (.int k b))) K) r := by
 rw [aAx]; by_cases h : a ≤ b
 ·rw [decide_eq_true h]; exact h1 h
 ·rw [decide_eq_false h]; exact h2 (by omega)
theorem aBn (h1 : b < a → E f ks (K (.bool true) H) r) (h2 : a ≤ b → E f ks (K (.bool false) H) r) : E f ks (aC (pu H (aX P .gtr t c (.int k a) (.int k b))) K) r := by
 rw [aAw]; by_cases h : b < a
 ·rw [decide_eq_true h]; exact h1 h
 ·rw [decide_eq_false h]; exact h2 (by omega)
theorem aBm (h1 : b ≤ a → E f ks (K (.bool true) H) r) (h2 : a < b → E f ks (K (.bool false) H) r) : E f ks (aC (pu H (aX P .geq t c (.int k a) (.int k b))) K) r := by
 rw [kV]; by_cases h : b ≤ a
 ·rw [decide_eq_true h]; exact h1 h
 ·rw [decide_eq_false h]; exact h2 (by omega)
theorem aBr {g : Bool} (h1 : g = true → E f ks (K (.bool false) H) r) (h2 : g = false → E f ks (K (.bool true) H) r) : E f ks (aC (pu H (un .not (.bool g))) K) r := by
 rw [xK]
 cases g
 ·exact h2 rfl
 ·exact h1 rfl
theorem sO {g : Bool} {x y : AV} (h1 : g = true → E f ks (K x H) r) (h2 : g = false → E f ks (K y H) r) : E f ks (aC (pu H (eH (.bool g) x y)) K) r := by
 cases g
 ·exact h2 rfl
 ·exact h1 rfl
theorem sGd {g : Bool} {w : Bool} {m : Option (AV × aB)} (h1 : g = true → E f ks (aC (gd (.bool true) w H m) K) r) (h2 : g = false → E f ks (aC (gd (.bool false) w H m) K) r) : E f ks (aC (gd (.bool g) w H m) K) r := by
 cases g
 ·exact h2 rfl
 ·exact h1 rfl
end
section
variable {P : Program} {t : Nat} {c : Bool} {k : IntKind} {a b : Int}
theorem mX (h : a = b) : aX P .eql t c (.int k a) (.int k b) = some (.bool true) := by rw [jC, decide_eq_true h]
theorem gV (h : a ≠ b) : aX P .eql t c (.int k a) (.int k b) = some (.bool false) := by rw [jC, decide_eq_false h]
theorem oL (h : a ≠ b) : aX P .neq t c (.int k a) (.int k b) = some (.bool true) := by rw [aAz, decide_eq_true h]
theorem oH (h : a = b) : aX P .neq t c (.int k a) (.int k b) = some (.bool false) := by rw [aAz, decide_eq_false (fun h' => h' h)]
theorem gN (h : a < b) : aX P .lss t c (.int k a) (.int k b) = some (.bool true) := by rw [hJ, decide_eq_true h]
theorem gI (h : b ≤ a) : aX P .lss t c (.int k a) (.int k b) = some (.bool false) := by rw [hJ, decide_eq_false (by omega)]
theorem vM (h : a ≤ b) : aX P .leq t c (.int k a) (.int k b) = some (.bool true) := by rw [aAx, decide_eq_true h]
theorem aBg (h : b < a) : aX P .leq t c (.int k a) (.int k b) = some (.bool false) := by rw [aAx, decide_eq_false (by omega)]
theorem oG (h : b < a) : aX P .gtr t c (.int k a) (.int k b) = some (.bool true) := by rw [aAw, decide_eq_true h]
theorem kJ (h : a ≤ b) : aX P .gtr t c (.int k a) (.int k b) = some (.bool false) := by rw [aAw, decide_eq_false (by omega)]
theorem aEM (h : b ≤ a) : aX P .geq t c (.int k a) (.int k b) = some (.bool true) := by rw [kV, decide_eq_true h]
theorem aEL (h : a < b) : aX P .geq t c (.int k a) (.int k b) = some (.bool false) := by rw [kV, decide_eq_false (by omega)]
theorem aJq (h0 : -9223372036854775808 ≤ a + b) (h1 : a + b < 9223372036854775808) : aX P .add t c (.int .i64 a) (.int .i64 b) = some (.int .i64 (a + b)) := by rw [gR, eD h0 h1]
theorem aJy (h0 : -9223372036854775808 ≤ a - b) (h1 : a - b < 9223372036854775808) : aX P .sub t c (.int .i64 a) (.int .i64 b) = some (.int .i64 (a - b)) := by rw [nW, eD h0 h1]
theorem aGX (h0 : 0 ≤ a + b) (h1 : a + b < 18446744073709551616) : aX P .add t c (.int .u64 a) (.int .u64 b) = some (.int .u64 (a + b)) := by rw [gR, iT h0 h1]
theorem aJs (h0 : -9223372036854775808 ≤ a) (h1 : a < 9223372036854775808) : dJ .i64 (.int k a) = some (.int .i64 a) := by rw [jA, eD h0 h1]
theorem aJt (h0 : 0 ≤ a) (h1 : a < 18446744073709551616) : dJ .u64 (.int k a) = some (.int .u64 a) := by rw [jA, iT h0 h1]
theorem aJr (h0 : 0 ≤ a) (h1 : a < 256) : dJ .u8 (.int k a) = some (.int .u8 a) := by rw [jA, aEg h0 h1]
theorem aHb (h0 : 0 ≤ a) (h1 : a < 4294967296) : dJ .u32 (.int k a) = some (.int .u32 a) := by rw [jA, aDl h0 h1]
theorem sL {s bl L o m : Nat} (h0 : 0 ≤ a) (h1 : a < (m : Int)) : aM s (.sl bl L o m s) (.int k a) = some (.ptr bl L (o + a.toNat) 0) := by simp [aM, h0, h1]
theorem aEO {bor : Bool} {xs : List AV} : dD (.ro bor xs) = some (.int .i64 (xs.length : Int)) := by unfold dD; rfl
theorem aEP {bl L o m s : Nat} : dD (.sl bl L o m s) = some (.int .i64 (m : Int)) := by unfold dD; rfl
theorem aCU : dD .nils = some (.int .i64 0) := by unfold dD; rfl
theorem aHm {bl L i o : Nat} : fS (.ptr bl L i o) = some (.ptr bl L i o) := by unfold fS; rfl
theorem aES {bor : Bool} {x : AV} {o : Nat} : fS (.rp bor x o) = some (.rp bor x o) := by unfold fS; rfl
theorem aEQ {g : Nat} {caps : List AV} : fS (.fn g caps) = some (.fn g caps) := by unfold fS; rfl
theorem aER {g : Nat} : fS (.gl g) = some (.gl g) := by unfold fS; rfl
theorem aJu {off bl L i o : Nat} : aA off (.ptr bl L i o) = some (.ptr bl L i (o + off)) := by unfold aA; rfl
theorem aHf {off : Nat} {bor : Bool} {x : AV} {o : Nat} : aA off (.rp bor x o) = some (.rp bor x (o + off)) := by unfold aA; rfl
theorem aHl {G : aF} {s : Nat} {bor : Bool} {cs : List AV} {o : Nat} {H : aB} : aE G false s (.rp bor (.agg cs) o) H = cs[o]? := by unfold aE lH; rfl
theorem aCT {cs : List AV} {H : aB} : gB (.agg cs) H = some (.rp false (.agg cs) 0, H) := by unfold gB; rfl
theorem aHc {u : AV} {l : List AV} : cU (.tup (u :: l)) 0 = some u := by unfold cU; rfl
theorem aHd {u v : AV} {l : List AV} : cU (.tup (u :: v :: l)) 1 = some v := by unfold cU; rfl
theorem aHe {u v w : AV} {l : List AV} : cU (.tup (u :: v :: w :: l)) 2 = some w := by unfold cU; rfl
theorem aHo : un .not (.bool true) = some (.bool false) := by rw [xK]; rfl
theorem aHn : un .not (.bool false) = some (.bool true) := by rw [xK]; rfl
theorem aJx {H : aB} : fM (some H) = some (.tup [], H) := by unfold fM; rfl
end
section
variable {G : aF} {g : Bool} {s b L i o t z : Nat} {cs : List AV} {blk : ABlk} {H : aB} {v x : AV}
def ldB (g : Bool) (s L i o : Nat) (blk : ABlk) : Option AV := if blk.elems.length = L then (match blk.elems[i]? with | some x => lH g s x.cells o | none => none) else none
def stB (s L i o : Nat) (v : AV) (blk : ABlk) : Option ABlk := if blk.elems.length = L ∧ gD v = true ∧ v.cells.length = s then
    (match blk.elems[i]? with
     | some x => if o + s ≤ x.cells.length then some { blk with elems := blk.elems.set i (lL x (kA x.cells o v.cells)) } else none
     | none => none) else none
theorem aHj : aE G g s (.ptr 0 L i o) (blk :: H) = ldB g s L i o blk := by unfold aE ldB; rfl
theorem aHk : aE G g s (.ptr (b + 1) L i o) (blk :: H) = aE G g s (.ptr b L i o) H := by unfold aE; rfl
theorem aJv : ldB false s 1 0 o ⟨t, z, [.agg cs]⟩ = cs[o]? := by unfold ldB lH; rfl
theorem aHg : ldB true s 1 0 o ⟨t, z, [.agg cs]⟩ = if o + s ≤ cs.length then some (.agg ((cs.drop o).take s)) else none := by unfold ldB lH; rfl
theorem aEN {bor : Bool} : aE G true s (.rp bor (.agg cs) o) H = if o + s ≤ cs.length then some (.agg ((cs.drop o).take s)) else none := by unfold aE lH; rfl
theorem aHi {k : IntKind} {n : Int} : ldB false s 1 0 0 ⟨t, z, [.int k n]⟩ = some (.int k n) := by unfold ldB lH; rfl
theorem aHh {c : Bool} : ldB false s 1 0 0 ⟨t, z, [.bool c]⟩ = some (.bool c) := by unfold ldB lH; rfl
theorem aHp : aV s (.ptr 0 L i o) v (blk :: H) = (stB s L i o v blk).map (· :: H) := by
 unfold aV stB
 simp only [List.getElem?_cons_zero]
 split
 ·cases blk.elems[i]? with
  | none => rfl
  | some x => simp only; split <;> rfl
 ·rfl
theorem aHq : aV s (.ptr (b + 1) L i o) v (blk :: H) = (aV s (.ptr b L i o) v H).map (blk :: ·) := by
 unfold aV
 simp only [List.getElem?_cons_succ]
 cases H[b]? with
 | none => rfl
 | some y =>
  simp only
  split
  ·cases y.elems[i]? with
   | none => rfl
   | some x => simp only; split <;> rfl
  ·rfl
theorem aJw : stB s 1 0 o v ⟨t, z, [.agg cs]⟩ = if gD v = true ∧ v.cells.length = s ∧ o + s ≤ cs.length then some ⟨t, z, [.agg (kA cs o v.cells)]⟩ else none := by
 have e : (AV.agg cs).cells = cs := rfl
 unfold stB
 by_cases h1 : gD v = true ∧ v.cells.length = s
 ·by_cases h2 : o + s ≤ cs.length <;> simp [e, h1, h2, lL]
 ·have h3 : ¬ (gD v = true ∧ v.cells.length = s ∧ o + s ≤ cs.length) := fun h => h1 ⟨h.1, h.2.1⟩
  rw [if_neg h3, if_neg (fun h => h1 h.2)]
theorem aGY : fR t (.agg (x :: cs)) H = some (.ptr H.length 1 0 0, H ++ [⟨t, cs.length + 1, [.agg (x :: cs)]⟩]) := by
 unfold fR; simp [gD, AV.cells]
theorem aHa {k : IntKind} {n : Int} : fR t (.int k n) H = some (.ptr H.length 1 0 0, H ++ [⟨t, 1, [.int k n]⟩]) := by unfold fR; rfl
theorem aGZ {c : Bool} : fR t (.bool c) H = some (.ptr H.length 1 0 0, H ++ [⟨t, 1, [.bool c]⟩]) := by unfold fR; rfl
end
theorem w1 {x x' : AV} {H : aB} (h : cB 0 x = true) (e : x = x') : E fE [] (cH [x] 0 H) (some (x', [])) := by subst e; exact oF (mB h H)
theorem w2 {x y r : AV} {H : aB} (hx : cB 0 x = true) (hy : cB 0 y = true) (e : AV.tup [x, y] = r) : E fE [] (cH [x, y] 0 H) (some (r, [])) := by subst e; exact oF (aCn hx hy H)
theorem yJ {b b' : Bool} {H : aB} (e : b = b') : E fE [] (cH [.bool b] 0 H) (some (.bool b', [])) := w1 rfl (by rw [e])
theorem w2b {k : IntKind} {n n' : Int} {b b' : Bool} {H : aB} (e : n = n') (e2 : b = b') : E fE [] (cH [.int k n, .bool b] 0 H) (some (.tup [.int k n', .bool b'], [])) := w2 rfl rfl (by rw [e, e2])
theorem qf : type_of% (aMv @tP <| aMv @fB <| aMv @fA <| aMv @aCu <| aMv @aCq <| aMv @aCt <| aMv @aCr <| @aCs) := aMv @tP <| aMv @fB <| aMv @fA <| aMv @aCu <| aMv @aCq <| aMv @aCt <| aMv @aCr <| @aCs
theorem qa : type_of% (aMv qf <| aMv @oD <| aMv @mV <| aMv @aHo <| aMv @aHn <| aMv @mX <| aMv @gV <| aMv @oL <| aMv @oH <| aMv @gN <| aMv @gI <| aMv @vM <| aMv @aBg <| aMv @oG <| aMv @kJ <| aMv @aEM <| aMv @aEL <| aMv @aJq <| aMv @aJy <| aMv @aGX <| aMv @aJs <| aMv @aJt <| aMv @aJr <| aMv @aHb <| aMv @sL <| aMv @aEO <| aMv @aEP <| aMv @aCU <| aMv @aHm <| aMv @aES <| aMv @aEQ <| aMv @aER <| aMv @aJu <| aMv @aHf <| aMv @aHl <| aMv @aCT <| aMv @aHc <| aMv @aHd <| aMv @aHe <| aMv @List.getElem?_cons_zero.{0} <| aMv @List.getElem?_cons_succ.{0} <| aMv @List.getElem?_nil.{0} <| aMv @aJx <| aMv @aHj <| aMv @aHk <| aMv @aJv <| aMv @aHg <| aMv @aEN <| aMv @aHi <| aMv @aHh <| aMv @aGY <| aMv @aHa <| aMv @aGZ <| aMv @List.length_cons.{0} <| aMv @List.length_nil.{0} <| aMv @List.cons_append.{0} <| aMv @List.nil_append.{0} <| aMv @List.drop_zero.{0} <| aMv @List.drop_succ_cons.{0} <| aMv @List.take_succ_cons.{0} <| aMv @List.take_zero.{0} <| aMv @aHp <| aMv @aHq <| aMv @aJw <| aMv @Option.map_some.{0, 0} <| aMv @List.replicate_succ.{0} <| aMv @List.replicate_zero.{0} <| aMv @List.set_cons_zero.{0} <| aMv @List.set_cons_succ.{0} <| aMv @Nat.le_refl <| aMv @and_self <| aMv @true_and <| aMv @and_true <| aMv @if_true.{1} <| aMv @Bool.not_true <| aMv @Bool.not_false <| aMv @Int.toNat_natCast <| @Nat.zero_add) := aMv qf <| aMv @oD <| aMv @mV <| aMv @aHo <| aMv @aHn <| aMv @mX <| aMv @gV <| aMv @oL <| aMv @oH <| aMv @gN <| aMv @gI <| aMv @vM <| aMv @aBg <| aMv @oG <| aMv @kJ <| aMv @aEM <| aMv @aEL <| aMv @aJq <| aMv @aJy <| aMv @aGX <| aMv @aJs <| aMv @aJt <| aMv @aJr <| aMv @aHb <| aMv @sL <| aMv @aEO <| aMv @aEP <| aMv @aCU <| aMv @aHm <| aMv @aES <| aMv @aEQ <| aMv @aER <| aMv @aJu <| aMv @aHf <| aMv @aHl <| aMv @aCT <| aMv @aHc <| aMv @aHd <| aMv @aHe <| aMv @List.getElem?_cons_zero.{0} <| aMv @List.getElem?_cons_succ.{0} <| aMv @List.getElem?_nil.{0} <| aMv @aJx <| aMv @aHj <| aMv @aHk <| aMv @aJv <| aMv @aHg <| aMv @aEN <| aMv @aHi <| aMv @aHh <| aMv @aGY <| aMv @aHa <| aMv @aGZ <| aMv @List.length_cons.{0} <| aMv @List.length_nil.{0} <| aMv @List.cons_append.{0} <| aMv @List.nil_append.{0} <| aMv @List.drop_zero.{0} <| aMv @List.drop_succ_cons.{0} <| aMv @List.take_succ_cons.{0} <| aMv @List.take_zero.{0} <| aMv @aHp <| aMv @aHq <| aMv @aJw <| aMv @Option.map_some.{0, 0} <| aMv @List.replicate_succ.{0} <| aMv @List.replicate_zero.{0} <| aMv @List.set_cons_zero.{0} <| aMv @List.set_cons_succ.{0} <| aMv @Nat.le_refl <| aMv @and_self <| aMv @true_and <| aMv @and_true <| aMv @if_true.{1} <| aMv @Bool.not_true <| aMv @Bool.not_false <| aMv @Int.toNat_natCast <| @Nat.zero_add
theorem kU {p q : Prop} (h : q) (t : q → p := by
 intro hgo
 repeat' first
  | (with_reducible first | refine eT ?_ | refine eN ?_ | refine eS ?_ | refine eXn ?_ | refine eXr ?_ | refine eX ?_ | refine eI ?_ | refine eK ?_ | refine eV0 ?_ | refine xZ ?_ | refine yC ?_ | refine xW ?_ | refine yB ?_ | refine xX ?_ | refine xY ?_)
  | ((with_reducible apply eCn); (simp only [fB, fA]; first | done | (with_reducible exact rfl)))
  | ((with_reducible apply eJ); (rfl))
  | ((with_reducible apply yA); (first | rfl | (simp only [fB, fA]; rfl)))
  | ((with_reducible apply eL); (first | exact lx1 | exact lx2 | exact lx3))
  | ((with_reducible apply eB); (first | (with_reducible exact rfl) | (simp (disch := omega) only [qf, fx]; first | done | (with_reducible exact rfl) | (with_reducible exact ⟨rfl, rfl⟩)) | (simp (disch := omega) only [qa, kA, AV.cells, gD, cP, kD, fQ, gX, jH, Nat.reduceLeDiff, Nat.reduceLT, Nat.reduceAdd, ↓reduceIte, fx]; first | done | (with_reducible exact rfl) | (with_reducible exact ⟨rfl, rfl⟩))))
  | ((with_reducible apply eR); (simp only [fB, fA]; (with_reducible exact rfl)))
  | ((with_reducible first | refine aBl ?_ ?_ | refine aBq ?_ ?_ | refine aBp ?_ ?_ | refine aBo ?_ ?_ | refine aBn ?_ ?_ | refine aBm ?_ ?_ | refine aBr ?_ ?_ | refine sO ?_ ?_ | refine sGd ?_ ?_ | refine rS ?_ ?_) <;> intro hq <;> try subst hq)
 all_goals first | omega | exact hgo) : p := t h
theorem gT {p q : Prop} (h : q) (t : q → p := by
 intro hgo
 repeat first
  | (with_reducible first | refine eT ?_ | refine eN ?_ | refine eS ?_ | refine eXn ?_ | refine eXr ?_ | refine eX ?_ | refine eI ?_ | refine eK ?_ | refine eV0 ?_ | refine xZ ?_ | refine yC ?_ | refine xW ?_ | refine yB ?_ | refine xX ?_ | refine xY ?_)
  | ((with_reducible apply eCn); (simp only [fB, fA]; first | done | (with_reducible exact rfl)))
  | ((with_reducible apply eJ); (rfl))
  | ((with_reducible apply yA); (first | rfl | (simp only [fB, fA]; rfl)))
  | ((with_reducible apply eL); (first | exact lx1 | exact lx2 | exact lx3))
  | ((with_reducible apply eB); (first | (with_reducible exact rfl) | (simp (disch := omega) only [qf, fx]; first | done | (with_reducible exact rfl) | (with_reducible exact ⟨rfl, rfl⟩)) | (simp (disch := omega) only [qa, kA, AV.cells, gD, cP, kD, fQ, gX, jH, Nat.reduceLeDiff, Nat.reduceLT, Nat.reduceAdd, ↓reduceIte, fx]; first | done | (with_reducible exact rfl) | (with_reducible exact ⟨rfl, rfl⟩))))
  | ((with_reducible apply eR); (simp only [fB, fA]; (with_reducible exact rfl)))
 exact hgo) : p := t h
theorem sF {f : AV → Option AV} : ∀ {xs : List AV}, (∀ x ∈ xs, f x = some x) → oA f xs = some xs
 | [], _ => rfl
 | x :: xs, h => by
  have h2 := sF (f := f) (xs := xs) (fun y hy => h y (List.mem_cons_of_mem _ hy))
  simp only [oA, h x (by simp), h2]
theorem nV {n : Nat} : ∀ {xs : List AV} (_ : cI n xs = true) (x : AV) (_ : x ∈ xs), cB n x = true
 | [], _, _, hx => by cases hx
 | y :: xs, h, x, hx => by
  simp only [cI, Bool.and_eq_true] at h
  rcases List.mem_cons.1 hx with rfl | hx
  ·exact h.1
  ·exact nV h.2 x hx
mutual
theorem iR {n m : Nat} (h : n ≤ m) : ∀ {x : AV}, cB n x = true → cB m x = true
 | .ptr .., hx => by simp [cB] at hx ⊢; omega
 | .sl .., hx => by simp [cB] at hx ⊢; omega
 | .fn _ caps, hx => by simp only [cB] at hx ⊢; exact lD h hx
 | .iface _ v, hx => by simp only [cB] at hx ⊢; exact iR h hx
 | .agg cs, hx => by simp only [cB] at hx ⊢; exact lD h hx
 | .tup vs, hx => by simp only [cB] at hx ⊢; exact lD h hx
 | .ro _ xs, hx => by simp only [cB] at hx ⊢; exact lD h hx
 | .rp _ x _, hx => by simp only [cB] at hx ⊢; exact iR h hx
 | .undef, _ => rfl
 | .bool _, _ => rfl
 | .int .., _ => rfl
 | .str _, _ => rfl
 | .nilp, _ => rfl
 | .nilf, _ => rfl
 | .nili, _ => rfl
 | .gl _, _ => rfl
 | .gp _, _ => rfl
 | .nils, _ => rfl
 | .anyb, _ => rfl
theorem lD {n m : Nat} (h : n ≤ m) : ∀ {xs : List AV}, cI n xs = true → cI m xs = true
 | [], _ => rfl
 | x :: xs, hx => by
  simp only [cI, Bool.and_eq_true] at hx ⊢
  exact ⟨iR h hx.1, lD h hx.2⟩
end
theorem yT {H : aB} {n d : Nat} {x : AV} (h : cB n x = true) : uB (rE H n d) x = some x := by
 cases x with
 | agg cs =>
  simp only [cB] at h
  have : oA (rE H n d) cs = some cs := sF fun y hy => mU (nV h y hy) d
  simp only [uB, this]
 | _ => exact mU h d
theorem tB {H : aB} {b n0 d n sz ty : Nat} {xs : List AV} (hb : H[b]? = some ⟨ty, sz, xs⟩) (hn : n0 ≤ b) (hl : xs.length = n) (hs : mR sz xs = true) (hx : cI n0 xs = true) :
  rE H n0 (d + 1) (.sl b n 0 n sz) = some (.ro false xs) := by
 have h1 : cB n0 (.sl b n 0 n sz) = false := by simp [cB]; omega
 have h2 : oA (uB (rE H n0 d)) xs = some xs := sF fun x h => yT (nV hx x h)
 have h3 : iE (.sl b n 0 n sz) H = some xs := by
  simp only [iE, hb, hl, if_true, List.drop_zero]
  rw [List.take_of_length_le (by omega)]
 unfold rE
 simp only [h1, h3, hs, h2]
theorem pW {α : Type} (s : Nat) (e : α → AV) (h : ∀ a, (e a).cells.length = s) (xs : List α) : mR s (xs.map e) = true := by
 unfold mR
 simp [List.all_eq_true, h]
theorem pG {g : cE} {args : List AV} {r : AV} {H H' : aB} (h : g args H = some (r, H')) (hl : H.length ≤ H'.length) : bD g args H = some (r, H') := by
 simp only [bD, h, hl, if_true]
theorem aAN {x y : AV} {n : Nat} {H : aB} (h : rE H n 6 x = some y) (hb : dI n (H.take n) = true) : cH [x] n H = some (.ret, [y], H.take n) := by
 have hc : fN n [] H = some (H.take n) := by unfold fN; simp only [cI, hb, Bool.true_and]
 unfold cH oQ
 simp only [h, hc]
theorem aAO {H : aB} {n d : Nat} {cs zs : List AV} (hb : cI n cs = false) (h : oA (rE H n d) cs = some zs) : rE H n (d + 1) (.agg cs) = some (.agg zs) := by
 unfold rE
 simp only [cB, hb, h]
theorem aEv {H : aB} {n d : Nat} {cs zs : List AV} (hb : cI n cs = false) (h : oA (rE H n d) cs = some zs) : rE H n (d + 1) (.tup cs) = some (.tup zs) := by
 unfold rE
 simp only [cB, hb, h]
theorem gW {f : AV → Option AV} {x y : AV} {xs ys : List AV} (h : f x = some y) (hs : oA f xs = some ys) : oA f (x :: xs) = some (y :: ys) := by
 simp only [oA, h, hs]
theorem pN {f : AV → Option AV} : oA f [] = some [] := rfl
theorem aFn (e : Ex) : aGo e e = true := by cases e <;> simp [aGo]
theorem aDt {x y : Option fF} {e : Ex} {xs : List AV} {H : aB} (hx : x = some (e, xs, H)) (hy : y = some (e, xs, H)) (h1 : nX xs xs = true) (h2 : qJ H H = true) : aBT x y = some (e, xs, H) := by
 subst hx hy
 unfold aBT
 simp only [aFn, h1, h2, Bool.and_self]
theorem aLF {γ : Type} {f : Option fF → Option γ} {ks : List KK} {r : Option γ} {x y : Option fF} {e : Ex} {xs : List AV} {H : aB} (hx : x = some (e, xs, H)) (hy : y = some (e, xs, H)) (h1 : nX xs xs = true) (h2 : qJ H H = true)
  (h : E f ks (some (e, xs, H)) r) : E f ks (aY .anyb x y) r := by
 have : aY .anyb x y = some (e, xs, H) := aDt hx hy h1 h2
 rw [this]; exact h
theorem aCd {α : Type} (e : α → AV) (h : ∀ a, lF (e a) (e a) = true) : ∀ xs : List α, nX (xs.map e) (xs.map e) = true
 | [] => by simp [nX]
 | x :: xs => by simp [nX, h x, aCd e h xs]
theorem aCf {A : aB} : ∀ {H : aB}, qJ H H = true → qJ A A = true → qJ (H ++ A) (H ++ A) = true
 | [], _, h => h
 | x :: H, h1, h2 => by
  simp only [qJ, Bool.and_eq_true] at h1
  simp only [List.cons_append, qJ, Bool.and_eq_true]
  exact ⟨h1.1, aCf h1.2 h2⟩
end Go.Proofs.YtlkgkfgkiidhdaaDoor.Mir
