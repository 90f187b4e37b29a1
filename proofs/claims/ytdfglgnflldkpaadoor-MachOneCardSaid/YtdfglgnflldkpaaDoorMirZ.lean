/- Mirror, part Z: how printed functions are reckoned with. -/
import Derived.Test.YtdfglgnflldkpaaDoorMirW
namespace Go.Proofs.YtdfglgnflldkpaaDoor.Mir
open Go
set_option linter.unusedVariables false
set_option linter.unusedSimpArgs false

@[simp] theorem bnd_some {γ : Type} (v : AV) (H : AHeap) (k : AV → AHeap → Option γ) : bnd (some (v, H)) k = k v H := by unfold bnd; rfl
@[simp] theorem pu_val (H : AHeap) (v : AV) : pu H (some v) = some (v, H) := by unfold pu; rfl
@[simp] theorem condA_true (x y : Option Outc) : condA (.bool true) x y = x := by unfold condA; rfl
@[simp] theorem condA_false (x y : Option Outc) : condA (.bool false) x y = y := by unfold condA; rfl
theorem condA_bool (b : Bool) (x y : Option Outc) : condA (.bool b) x y = if b = true then x else y := by cases b <;> rfl
@[simp] theorem gd_tt (H : AHeap) (m : Option (AV × AHeap)) : gd (.bool true) true H m = m := by unfold gd; rfl
@[simp] theorem gd_ff (H : AHeap) (m : Option (AV × AHeap)) : gd (.bool false) false H m = m := by unfold gd; rfl
@[simp] theorem gd_tf (H : AHeap) (m : Option (AV × AHeap)) : gd (.bool true) false H m = some (.tup [], H) := by unfold gd; rfl
@[simp] theorem gd_ft (H : AHeap) (m : Option (AV × AHeap)) : gd (.bool false) true H m = some (.tup [], H) := by unfold gd; rfl
@[simp] theorem gd_no (w : Bool) (H : AHeap) (m : Option (AV × AHeap)) : gd (.tup []) w H m = some (.tup [], H) := by unfold gd; rfl
@[simp] theorem pickA_true (x y : AV) : pickA (.bool true) x y = some x := by unfold pickA; rfl
@[simp] theorem pickA_false (x y : AV) : pickA (.bool false) x y = some y := by unfold pickA; rfl
@[simp] theorem thenK_some (e : Ex) (xs : List AV) (H : AHeap) (k : Ex → List AV → AHeap → Option Outc) : thenK (some (e, xs, H)) k = k e xs H := by unfold thenK; rfl
@[simp] theorem exK_normal {γ : Type} (a : γ) (b : Nat → γ) (r : γ) : exK .normal a b r = a := by unfold exK; rfl
@[simp] theorem exK_exit {γ : Type} (i : Nat) (a : γ) (b : Nat → γ) (r : γ) : exK (.exit i) a b r = b i := by unfold exK; rfl
@[simp] theorem exK_ret {γ : Type} (a : γ) (b : Nat → γ) (r : γ) : exK .ret a b r = r := by unfold exK; rfl
@[simp] theorem nth_zero (x : AV) (xs : List AV) : nth (x :: xs) 0 = x := by unfold nth; rfl
@[simp] theorem nth_succ (x : AV) (xs : List AV) (i : Nat) : nth (x :: xs) (i + 1) = nth xs i := by rw [nth]
@[simp] theorem outV_ret (r : AV) (H : AHeap) : outV (some (.ret, [r], H)) = some (r, H) := by unfold outV; rfl

/-! Reckon from the left: what lies behind waits. -/
@[congr] theorem bnd_congr {γ : Type} {m m' : Option (AV × AHeap)} {k : AV → AHeap → Option γ} (h : m = m') : bnd m k = bnd m' k := by rw [h]
@[congr] theorem thenK_congr {m m' : Option Outc} {k : Ex → List AV → AHeap → Option Outc} (h : m = m') : thenK m k = thenK m' k := by rw [h]
@[congr] theorem condA_congr {c c' : AV} {x y : Option Outc} (h : c = c') : condA c x y = condA c' x y := by rw [h]
@[congr] theorem exK_congr {γ : Type} {e e' : Ex} {a : γ} {b : Nat → γ} {r : γ} (h : e = e') : exK e a b r = exK e' a b r := by rw [h]
@[congr] theorem gd_congr {g g' : AV} {w : Bool} {H : AHeap} {m : Option (AV × AHeap)} (h : g = g') : gd g w H m = gd g' w H m := by rw [h]

theorem cutH_zero (H : AHeap) : cutH 0 [] H = some [] := rfl

theorem frz_low {H : AHeap} {n : Nat} {x : AV} (h : belowB n x = true) (d : Nat) : frz H n d x = some x := by
  cases d <;> simp [frz, h]

/-- The end of a function that was handed nothing of the heap. -/
theorem finV_zero {x : AV} (h : belowB 0 x = true) (H : AHeap) : finV [x] 0 H = some (.ret, [x], []) := by
  simp [finV, packR, frz_low h, cutH_zero]

theorem finV_two {x y : AV} (hx : belowB 0 x = true) (hy : belowB 0 y = true) (H : AHeap) : finV [x, y] 0 H = some (.ret, [.tup [x, y]], []) := by
  have : belowB 0 (.tup [x, y]) = true := by simp [belowB, belowL, hx, hy]
  simp [finV, packR, frz_low this, cutH_zero]

@[simp] theorem finV_int (k : IntKind) (n : Int) (H : AHeap) : finV [.int k n] 0 H = some (.ret, [.int k n], []) := finV_zero rfl H
@[simp] theorem finV_bool (b : Bool) (H : AHeap) : finV [.bool b] 0 H = some (.ret, [.bool b], []) := finV_zero rfl H

theorem snap_plain {H : AHeap} {x : AV} (h : plainB x = true) : snap H x = some x := by
  cases x with
  | agg cs =>
    simp only [plainB] at h
    have : ∀ cs : List AV, plainL cs = true → snapCells H cs = some cs := by
      intro cs
      induction cs with
      | nil => intro _; rfl
      | cons y ys ih =>
        intro hp
        simp only [plainL, Bool.and_eq_true] at hp
        have h1 : snap1 H y = some y := by cases y <;> simp_all [snap1, plainB]
        simp [snapCells, h1, ih hp.2]
    simp [snap, this cs h]
  | _ => simp_all [snap, snap1, plainB]

theorem snapL_plain {H : AHeap} : ∀ {xs : List AV}, plainL xs = true → snapL H xs = some xs
  | [], _ => rfl
  | x :: xs, h => by
    simp only [plainL, Bool.and_eq_true] at h
    simp [snapL, snap_plain h.1, snapL_plain h.2]

theorem pureCall_of {g : Den} {args : List AV} {r : AV} {H : AHeap} (hg : g args [] = some (r, [])) (ha : plainL args = true) (hr : cleanB r = true) : pureCall g args H = some (r, H) := by
  simp [pureCall, snapL_plain ha, hg, hr]

theorem thenK_ite (c : Prop) [Decidable c] (a b : Option Outc) (k : Ex → List AV → AHeap → Option Outc) : thenK (if c then a else b) k = if c then thenK a k else thenK b k := by split <;> rfl
theorem bnd_ite {γ : Type} (c : Prop) [Decidable c] (a b : Option (AV × AHeap)) (k : AV → AHeap → Option γ) : bnd (if c then a else b) k = if c then bnd a k else bnd b k := by split <;> rfl
theorem outV_ite (c : Prop) [Decidable c] (a b : Option Outc) : outV (if c then a else b) = if c then outV a else outV b := by split <;> rfl

section
variable (P : Program) (t : Nat) (c : Bool) (k k' : IntKind) (a b : Int)
@[simp] theorem bin_add : bin P .add t c (.int k a) (.int k b) = some (.int k (k.wrap (a + b))) := by simp [bin, binInt]
@[simp] theorem bin_sub : bin P .sub t c (.int k a) (.int k b) = some (.int k (k.wrap (a - b))) := by simp [bin, binInt]
@[simp] theorem bin_mul : bin P .mul t c (.int k a) (.int k b) = some (.int k (k.wrap (a * b))) := by simp [bin, binInt]
theorem bin_quo (h : b ≠ 0) : bin P .quo t c (.int k a) (.int k b) = some (.int k (k.wrap (a.tdiv b))) := by simp [bin, binInt, h]
theorem bin_rem (h : b ≠ 0) : bin P .rem t c (.int k a) (.int k b) = some (.int k (a.tmod b)) := by simp [bin, binInt, h]
@[simp] theorem bin_and : bin P .and t c (.int k a) (.int k b) = some (.int k (bits .and k a b)) := by simp [bin, binInt]
@[simp] theorem bin_or : bin P .or t c (.int k a) (.int k b) = some (.int k (bits .or k a b)) := by simp [bin, binInt]
@[simp] theorem bin_xor : bin P .xor t c (.int k a) (.int k b) = some (.int k (bits .xor k a b)) := by simp [bin, binInt]
@[simp] theorem bin_andNot : bin P .andNot t c (.int k a) (.int k b) = some (.int k (bits .andNot k a b)) := by simp [bin, binInt]
@[simp] theorem bin_eql : bin P .eql t c (.int k a) (.int k b) = some (.bool (decide (a = b))) := by simp [bin, binInt]; rfl
@[simp] theorem bin_neq : bin P .neq t c (.int k a) (.int k b) = some (.bool (decide (a ≠ b))) := by simp [bin, binInt, bne]; rfl
@[simp] theorem bin_lss : bin P .lss t c (.int k a) (.int k b) = some (.bool (decide (a < b))) := by simp [bin, binInt]
@[simp] theorem bin_leq : bin P .leq t c (.int k a) (.int k b) = some (.bool (decide (a ≤ b))) := by simp [bin, binInt]
@[simp] theorem bin_gtr : bin P .gtr t c (.int k a) (.int k b) = some (.bool (decide (b < a))) := by simp [bin, binInt]
@[simp] theorem bin_geq : bin P .geq t c (.int k a) (.int k b) = some (.bool (decide (b ≤ a))) := by simp [bin, binInt]
theorem bin_shl (h : 0 ≤ b) : bin P .shl t c (.int k a) (.int k' b) = some (.int k (k.wrap (a * 2 ^ min b.toNat k.bits))) := by
  have : ¬ b < 0 := by omega
  simp [bin, shiftInt, this]
theorem bin_shr (h : 0 ≤ b) : bin P .shr t c (.int k a) (.int k' b) = some (.int k (a.fdiv (2 ^ min b.toNat k.bits))) := by
  have : ¬ b < 0 := by omega
  simp [bin, shiftInt, this]
end

theorem bin_eql_bool {P : Program} {t : Nat} (h : P.underlying t = some .bool) (c a b : Bool) : bin P .eql t c (.bool a) (.bool b) = some (.bool (a == b)) := by simp [bin, eqType, h, eqPlain]
theorem bin_neq_bool {P : Program} {t : Nat} (h : P.underlying t = some .bool) (c a b : Bool) : bin P .neq t c (.bool a) (.bool b) = some (.bool (a != b)) := by simp [bin, eqType, h, eqPlain, bne]

theorem fdiv_pow_nat (x n : Nat) : (x : Int).fdiv (2 ^ n) = ((x / 2 ^ n : Nat) : Int) := by
  rw [Int.fdiv_eq_ediv_of_nonneg _ (by exact_mod_cast Nat.zero_le (2 ^ n))]
  push_cast; rfl

theorem bin_shr_lit (P : Program) (t : Nat) (c : Bool) (k k' : IntKind) (x n : Nat) (h : n ≤ k.bits) : bin P .shr t c (.int k (x : Int)) (.int k' (@OfNat.ofNat Int n _)) = some (.int k ((x / 2 ^ n : Nat) : Int)) := by
  rw [bin_shr _ _ _ _ _ _ _ (by exact Int.natCast_nonneg n)]
  have : (@OfNat.ofNat Int n _).toNat = n := rfl
  rw [this, Nat.min_eq_left h, fdiv_pow_nat]

/-- What a kind of whole numbers holds is left as it is. -/
theorem wrap_of_u64 {n : Int} (h0 : 0 ≤ n) (h1 : n < 18446744073709551616) : IntKind.u64.wrap n = n := by
  simp only [IntKind.wrap, IntKind.bits, IntKind.signed, Bool.false_and, Bool.false_eq_true, if_false]
  exact Int.emod_eq_of_lt h0 (by simpa using h1)
theorem wrap_of_u32 {n : Int} (h0 : 0 ≤ n) (h1 : n < 4294967296) : IntKind.u32.wrap n = n := by
  simp only [IntKind.wrap, IntKind.bits, IntKind.signed, Bool.false_and, Bool.false_eq_true, if_false]
  exact Int.emod_eq_of_lt h0 (by simpa using h1)
theorem wrap_of_u8 {n : Int} (h0 : 0 ≤ n) (h1 : n < 256) : IntKind.u8.wrap n = n := by
  simp only [IntKind.wrap, IntKind.bits, IntKind.signed, Bool.false_and, Bool.false_eq_true, if_false]
  exact Int.emod_eq_of_lt h0 (by simpa using h1)
theorem wrap_i64_eq (n : Int) : IntKind.i64.wrap n = if n % 18446744073709551616 ≥ 9223372036854775808 then n % 18446744073709551616 - 18446744073709551616 else n % 18446744073709551616 := by
  simp [IntKind.wrap, IntKind.bits, IntKind.signed]
theorem wrap_u64_eq (n : Int) : IntKind.u64.wrap n = n % 18446744073709551616 := by
  simp [IntKind.wrap, IntKind.bits, IntKind.signed]
theorem wrap_u32_eq (n : Int) : IntKind.u32.wrap n = n % 4294967296 := by
  simp [IntKind.wrap, IntKind.bits, IntKind.signed]
theorem wrap_u8_eq (n : Int) : IntKind.u8.wrap n = n % 256 := by
  simp [IntKind.wrap, IntKind.bits, IntKind.signed]
theorem wrap_of_i64 {n : Int} (h0 : -9223372036854775808 ≤ n) (h1 : n < 9223372036854775808) : IntKind.i64.wrap n = n := by
  rw [wrap_i64_eq]; split <;> omega

theorem wf_i64 {n : Int} (h : (Lit.int .i64 n).wf = true) : -9223372036854775808 ≤ n ∧ n < 9223372036854775808 := by
  simp [Lit.wf, IntKind.min, IntKind.max, IntKind.signed, IntKind.bits] at h; omega
theorem wf_u64 {n : Int} (h : (Lit.int .u64 n).wf = true) : 0 ≤ n ∧ n < 18446744073709551616 := by
  simp [Lit.wf, IntKind.min, IntKind.max, IntKind.signed, IntKind.bits] at h; omega
theorem wf_u32 {n : Int} (h : (Lit.int .u32 n).wf = true) : 0 ≤ n ∧ n < 4294967296 := by
  simp [Lit.wf, IntKind.min, IntKind.max, IntKind.signed, IntKind.bits] at h; omega
theorem wf_u8 {n : Int} (h : (Lit.int .u8 n).wf = true) : 0 ≤ n ∧ n < 256 := by
  simp [Lit.wf, IntKind.min, IntKind.max, IntKind.signed, IntKind.bits] at h; omega

@[simp] theorem convInt_int (k k' : IntKind) (n : Int) : convInt k (.int k' n) = some (.int k (k.wrap n)) := by unfold convInt; rfl
@[simp] theorem max_two (k : IntKind) (a b : Int) : foldA max2A (.int k a) [.int k b] = some (.int k (max a b)) := by
  simp only [foldA, max2A, Option.bind_some]
  congr 2
  split <;> omega
@[simp] theorem un_not (b : Bool) : un .not (.bool b) = some (.bool (!b)) := by unfold un; rfl

/-! One step at a time: the rest is not looked at. -/
theorem oB {m : Option (AV × AHeap)} {k : AV → AHeap → Option Outc} {v : AV} {H : AHeap} {r : Option (AV × AHeap)} (h : m = some (v, H)) (h2 : outV (k v H) = r) : outV (bnd m k) = r := by rw [h]; exact h2
theorem oT {a b : Option Outc} {r : Option (AV × AHeap)} (h : outV a = r) : outV (condA (.bool true) a b) = r := h
theorem oN {a b : Option Outc} {r : Option (AV × AHeap)} (h : outV b = r) : outV (condA (.bool false) a b) = r := h
theorem oK {m : Option Outc} {k : Ex → List AV → AHeap → Option Outc} {e : Ex} {xs : List AV} {H : AHeap} {r : Option (AV × AHeap)} (h : m = some (e, xs, H)) (h2 : outV (k e xs H) = r) : outV (thenK m k) = r := by rw [h]; exact h2
theorem oX {a : Option Outc} {b : Nat → Option Outc} {r0 : Option Outc} {i : Nat} {r : Option (AV × AHeap)} (h : outV (b i) = r) : outV (exK (.exit i) a b r0) = r := h
theorem oXn {a : Option Outc} {b : Nat → Option Outc} {r0 : Option Outc} {r : Option (AV × AHeap)} (h : outV a = r) : outV (exK .normal a b r0) = r := h
theorem oXr {a : Option Outc} {b : Nat → Option Outc} {r0 : Option Outc} {r : Option (AV × AHeap)} (h : outV r0 = r) : outV (exK .ret a b r0) = r := h
theorem oF {m : Option Outc} {x : AV} {H : AHeap} (h : m = some (.ret, [x], H)) : outV m = some (x, H) := by rw [h]; rfl
/-! The same inside of a loop. -/
theorem lB {γ : Type} {m : Option (AV × AHeap)} {k : AV → AHeap → Option γ} {v : AV} {H : AHeap} {r : Option γ} (h : m = some (v, H)) (h2 : k v H = r) : bnd m k = r := by rw [h]; exact h2
theorem lT {a b r : Option Outc} (h : a = r) : condA (.bool true) a b = r := h
theorem lN {a b r : Option Outc} (h : b = r) : condA (.bool false) a b = r := h
theorem lK {m : Option Outc} {k : Ex → List AV → AHeap → Option Outc} {e : Ex} {xs : List AV} {H : AHeap} {r : Option Outc} (h : m = some (e, xs, H)) (h2 : k e xs H = r) : thenK m k = r := by rw [h]; exact h2
theorem lX {γ : Type} {a : γ} {b : Nat → γ} {r0 : γ} {i : Nat} {r : γ} (h : b i = r) : exK (.exit i) a b r0 = r := h
theorem lXn {γ : Type} {a : γ} {b : Nat → γ} {r0 : γ} {r : γ} (h : a = r) : exK .normal a b r0 = r := h
theorem lXr {γ : Type} {a : γ} {b : Nat → γ} {r0 : γ} {r : γ} (h : r0 = r) : exK .ret a b r0 = r := h
theorem lC {n : Nat} {xs : List AV} {H H' : AHeap} {k : AHeap → Option Outc} {r : Option Outc} (h : cutH n xs H = some H') (h2 : k H' = r) : cutK n xs H k = r := by unfold cutK; rw [h]; exact h2
theorem loopN_succ (step : LoopF → LoopF) (n : Nat) : loopN step (n + 1) = step (loopN step n) := by rw [loopN]

theorem oI {i : Nat} {a b : Option Outc} {r : Option (AV × AHeap)} (h : outV a = r) : outV (if i = i then a else b) = r := by rw [if_pos rfl]; exact h
theorem oJ {i j : Nat} {a b : Option Outc} {r : Option (AV × AHeap)} (hij : (i == j) = false) (h : outV b = r) : outV (if i = j then a else b) = r := by rw [if_neg (by simpa using hij)]; exact h
theorem lI {γ : Type} {i : Nat} {a b r : Option γ} (h : a = r) : (if i = i then a else b) = r := by rw [if_pos rfl]; exact h
theorem lJ {γ : Type} {i j : Nat} {a b r : Option γ} (hij : (i == j) = false) (h : b = r) : (if i = j then a else b) = r := by rw [if_neg (by simpa using hij)]; exact h

theorem callPV_fn {E : Env} {f : Nat} {caps args : List AV} {H : AHeap} {g : Den} (h : E f = some (true, g)) : callPV E (.fn f caps) args H = pureCall g (args ++ caps) H := by unfold callPV; simp [h]
@[simp] theorem vK_nil {γ : Type} (H : AHeap) (k : AHeap → Option γ) : vK [] H k = k H := by unfold vK; rfl
@[simp] theorem vK_cons {γ : Type} (q : AV × Nat × Nat × Nat) (l : List (AV × Nat × Nat × Nat)) (H : AHeap) (k : AHeap → Option γ) : vK (q :: l) H k = vK l (virt1 q H) k := by rw [vK]
theorem oV1 {q : AV × Nat × Nat × Nat} {l : List (AV × Nat × Nat × Nat)} {H H1 : AHeap} {k : AHeap → Option Outc} {r : Option (AV × AHeap)} (h : virt1 q H = H1) (h2 : outV (vK l H1 k) = r) : outV (vK (q :: l) H k) = r := by rw [vK_cons, h]; exact h2
theorem oV0 {H : AHeap} {k : AHeap → Option Outc} {r : Option (AV × AHeap)} (h2 : outV (k H) = r) : outV (vK [] H k) = r := by rw [vK_nil]; exact h2

end Go.Proofs.YtdfglgnflldkpaaDoor.Mir
