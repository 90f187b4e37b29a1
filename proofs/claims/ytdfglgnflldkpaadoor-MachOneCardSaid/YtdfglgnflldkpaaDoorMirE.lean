/- Mirror, part E: pieces, lengths, the least and the greatest, assertions, function values. -/
import Derived.Test.YtdfglgnflldkpaaDoorMirD
namespace Go.Proofs.YtdfglgnflldkpaaDoor.Mir
open Go
set_option linter.unusedVariables false
set_option linter.unusedSimpArgs false

/-- A bound of a piece: what is written, or what holds without it. -/
def boundA (d : Nat) : Option AV → Option Nat
  | none => some d
  | some (.int _ n) => if 0 ≤ n then some n.toNat else none
  | _ => none

def sliceSl (s : Nat) (x : AV) (lo hi : Option AV) : Option AV :=
  match x with
  | .ro bor xs => match boundA 0 lo, boundA xs.length hi with
    | some l, some h => if l ≤ h ∧ h ≤ xs.length ∧ allSz s xs = true then some (.ro bor ((xs.drop l).take (h - l))) else none
    | _, _ => none
  | .sl b L o n sz => match boundA 0 lo, boundA n hi with
    | some l, some h => if l ≤ h ∧ h ≤ n ∧ sz = s then some (.sl b L (o + l) (h - l) sz) else none
    | _, _ => none
  | .nils => match boundA 0 lo, boundA 0 hi with
    | some l, some h => if l ≤ h ∧ h ≤ 0 then some .nils else none
    | _, _ => none
  | _ => none

def sliceStr (x : AV) (lo hi : Option AV) : Option AV :=
  match x with
  | .str s => match boundA 0 lo, boundA s.size hi with
    | some l, some h => if l ≤ h ∧ h ≤ s.size then some (.str (s.extract l h)) else none
    | _, _ => none
  | _ => none

def sliceA (P : Program) (t : Nat) (x : AV) (lo hi : Option AV) : Option AV :=
  match P.underlying t with
  | some (.slice e) => match tsz P e with
    | some s => sliceSl s x lo hi
    | none => none
  | some .string => sliceStr x lo hi
  | _ => none

theorem boundA_lo {P : Program} {c : Ctx} {w : World} {lo : Option AV} {vlo : Option Value} {d l y : Nat} (h : boundA d lo = some l)
    (hr : ∀ x, lo = some x → ∃ v, vlo = some v ∧ Rel c x v) (hn : lo = none → vlo = none) (hl : l ≤ y) (code : BoundsCode) :
    (vlo = none ∧ l = d) ∨ (∃ v, vlo = some v ∧ (Instr.sliceBound v y code).run P w = .ok l w) := by
  unfold boundA at h
  split at h
  · exact .inl ⟨hn rfl, by simpa using h.symm⟩
  · rename_i k n
    split at h
    · rename_i h0
      obtain ⟨v, e, hv⟩ := hr _ rfl
      obtain rfl := hv.of_int
      have h1 : n.toNat = l := by simpa using h
      have h2 : n ≤ (y : Int) := by omega
      refine .inr ⟨_, e, ?_⟩
      simp [Instr.sliceBound, asIntOf, h0, h2, h1]
    · cases h
  · cases h

theorem slice_run {P : Program} {c : Ctx} {w : World} {t e s : Nat} (hd : P.underlying t = some (.slice e)) (hs : tsz P e = some s) {lo hi : Option AV} {vlo vhi : Option Value} {len cap l h : Nat}
    (hlo : boundA 0 lo = some l) (hhi : boundA len hi = some h) (hlh : l ≤ h) (hhl : h ≤ cap)
    (rlo : ∀ x, lo = some x → ∃ v, vlo = some v ∧ Rel c x v) (nlo : lo = none → vlo = none) (rhi : ∀ x, hi = some x → ∃ v, vhi = some v ∧ Rel c x v) (nhi : hi = none → vhi = none) (a : Option Addr) :
    (Instr.sliceAt t (.slice a len cap) vlo vhi none).run P w = .ok (.slice (if cap = l then a else a.map (·.add (l * s))) (h - l) (cap - l)) w := by
  have h1 : (Instr.sliceBounds true len cap vlo vhi none).run P w = .ok (l, h, cap) w := by
    rcases boundA_lo (P := P) (w := w) hhi rhi nhi hhl .sliceAcap with ⟨e1, e2⟩ | ⟨v, e1, e2⟩ <;>
    rcases boundA_lo (P := P) (w := w) hlo rlo nlo hlh .sliceB with ⟨f1, f2⟩ | ⟨u, f1, f2⟩
    · subst e1 f1 e2 f2; simp [Instr.sliceBounds]
    · subst e1 f1 e2; simp [Instr.sliceBounds, f2]
    · subst e1 f1 f2; simp [Instr.sliceBounds, e2]
    · subst e1 f1; simp [Instr.sliceBounds, e2, f2]
  simp [Instr.sliceAt, Instr.slice, run_underlying hd, h1, tsz_run hs]

theorem sliceA_sound {P : Program} {t : Nat} {x r : AV} {lo hi : Option AV} (h : sliceA P t x lo hi = some r) {c : Ctx} {w : World} {vx : Value} {vlo vhi : Option Value} (hx : Rel c x vx)
    (rlo : ∀ x, lo = some x → ∃ v, vlo = some v ∧ Rel c x v) (nlo : lo = none → vlo = none) (rhi : ∀ x, hi = some x → ∃ v, vhi = some v ∧ Rel c x v) (nhi : hi = none → vhi = none) :
    ∃ v, (Instr.sliceAt t vx vlo vhi none).run P w = .ok v w ∧ Rel c r v := by
  unfold sliceA at h
  split at h
  rename_i e hd
  split at h
  case h_2 => cases h
  rename_i s hs
  unfold sliceSl at h
  split at h
  · rename_i bor xs
    split at h
    case h_2 => cases h
    rename_i l hh hl hhi
    split at h
    case isFalse => cases h
    rename_i hc
    obtain ⟨hlh, hhx, hall⟩ := hc
    simp at h; subst h
    cases hx with
    | ro hn hcap ha hA hsz hrel hm =>
      rename_i a len cap sz A V
      subst hn
      refine ⟨_, slice_run hd hs hl hhi hlh (by omega) rlo nlo rhi nhi a, ?_⟩
      by_cases hxs : xs = []
      · subst hxs
        simp at hhx
        subst hhx
        simp at hlh
        subst hlh
        simpa using Rel.roNil c bor _ _
      · have hszs : sz = s := by
          obtain ⟨y, ys, rfl⟩ := List.exists_cons_of_ne_nil hxs
          have h1 := hsz 0 y rfl
          simp [allSz] at hall
          omega
        subst hszs
        have ha' : a = some A := ha.resolve_left hxs
        subst ha'
        by_cases hem : (xs.drop l).take (hh - l) = []
        · rw [hem]
          have : hh - l = 0 := by
            have := congrArg List.length hem
            simp at this
            omega
          rw [this]
          exact Rel.roNil ..
        · have hne : cap ≠ l := fun e => hem (by
            apply List.eq_nil_of_length_eq_zero
            simp; omega)
          rw [if_neg hne]
          refine .ro (A := A.add (l * sz)) (V := fun i => V (l + i)) (sz := sz) (by simp; omega) (by omega) (.inr rfl) ?_ ?_ ?_ ?_
          · unfold Addr.add; split <;> simp_all
          · intro i x hx
            rw [List.getElem?_take] at hx
            split at hx
            · rw [List.getElem?_drop] at hx; exact hsz _ _ hx
            · cases hx
          · intro i x j y hx hy
            rw [List.getElem?_take] at hx
            split at hx
            · rw [List.getElem?_drop] at hx; exact hrel _ _ _ _ hx hy
            · cases hx
          · intro i x j y hx hy
            rw [List.getElem?_take] at hx
            split at hx
            · rw [List.getElem?_drop] at hx
              have := hm _ _ _ _ hx hy
              obtain ⟨blk, off, spot⟩ := A
              simp only at hA; subst hA
              rw [Addr.add_lit]
              rw [show off + l * sz + i * sz + j = off + (l + i) * sz + j by rw [Nat.add_mul]; omega]
              exact this
            · cases hx
  · rename_i b L o n sz
    split at h
    case h_2 => cases h
    rename_i l hh hl hhi
    split at h
    case isFalse => cases h
    rename_i hc
    obtain ⟨hlh, hhn, rfl⟩ := hc
    simp at h; subst h
    cases hx with
    | sl hm hL hv hsz ho hcap hnc ha =>
      rename_i inf a cap'
      refine ⟨_, slice_run hd hs hl hhi hlh (by omega) rlo nlo rhi nhi (some a), ?_⟩
      by_cases hcl : cap' = l
      · rw [if_pos hcl]
        refine .sl hm hL hv hsz (by omega) (by omega) (by omega) ?_
        by_cases h0 : o + l = 0
        · rcases ha with rfl | h1
          · exact .inl (by rw [show l = 0 by omega, show o = 0 by omega])
          · omega
        · exact .inr ⟨by omega, h0⟩
      · rw [if_neg hcl]
        rcases ha with rfl | h0
        · simp only [Option.map_some, Addr.add_lit]
          exact .sl hm hL hv hsz (by omega) (by omega) (by omega) (.inl (by rw [Nat.add_mul]))
        · omega
    | slVirt hm hL hv hsz =>
      refine ⟨_, slice_run hd hs hl hhi hlh (by omega) rlo nlo rhi nhi none, ?_⟩
      obtain rfl : hh = 0 := by omega
      obtain rfl : l = 0 := by omega
      exact .slVirt hm hL hv hsz
    | slStale a cap' hm hL hnc ha =>
      refine ⟨_, slice_run hd hs hl hhi hlh (by omega) rlo nlo rhi nhi a, ?_⟩
      refine .slStale _ _ hm hL (by omega) (fun hn => ?_)
      cases a with
      | none => have := ha rfl; omega
      | some a => split at hn <;> simp at hn
  · split at h
    case h_2 => cases h
    rename_i l hh hl hhi
    split at h
    case isFalse => cases h
    rename_i hc
    simp at h; subst h
    obtain rfl := hx.of_nils
    obtain ⟨hlh, hhx⟩ := hc
    obtain rfl : hh = 0 := by omega
    obtain rfl : l = 0 := by omega
    refine ⟨_, slice_run hd hs hl hhi hlh (by omega) rlo nlo rhi nhi none, ?_⟩
    simpa using Rel.nils
  · cases h
  · rename_i hd
    unfold sliceStr at h
    split at h
    case h_2 => cases h
    rename_i s
    obtain rfl := hx.of_str
    split at h
    case h_2 => cases h
    rename_i l hh hl hhi
    split at h
    case isFalse => cases h
    rename_i hc
    simp at h; subst h
    have h1 : (Instr.sliceBounds false s.size s.size vlo vhi none).run P w = .ok (l, hh, s.size) w := by
      rcases boundA_lo (P := P) (w := w) hhi rhi nhi hc.2 .sliceAlen with ⟨e1, e2⟩ | ⟨v, e1, e2⟩ <;>
      rcases boundA_lo (P := P) (w := w) hl rlo nlo hc.1 .sliceB with ⟨f1, f2⟩ | ⟨u, f1, f2⟩
      · subst e1 f1 e2 f2; simp [Instr.sliceBounds]
      · subst e1 f1 e2; simp [Instr.sliceBounds, f2]
      · subst e1 f1 f2; simp [Instr.sliceBounds, e2]
      · subst e1 f1; simp [Instr.sliceBounds, e2, f2]
    exact ⟨.string (s.extract l hh), by simp [Instr.sliceAt, Instr.slice, run_underlying hd, h1], .str _⟩
  · cases h

/-! ### Lengths, the least, the greatest -/

def lenSl (x : AV) : Option AV :=
  match x with
  | .ro _ xs => some (.int .i64 xs.length)
  | .sl _ _ _ n _ => some (.int .i64 n)
  | .nils => some (.int .i64 0)
  | _ => none

def lenStr (x : AV) : Option AV :=
  match x with
  | .str s => some (.int .i64 s.size)
  | _ => none

def lenA (P : Program) (t : Nat) (x : AV) : Option AV :=
  match P.underlying t with
  | some (.slice _) => lenSl x
  | some .string => lenStr x
  | some (.array n _) => some (.int .i64 n)
  | _ => none

theorem lenA_sound {P : Program} {t ty : Nat} {x r : AV} (h : lenA P t x = some r) {c : Ctx} {w : World} {vx : Value} (hx : Rel c x vx) :
    ∃ v, (Builtin.len_ #[t] ty #[vx]).run P w = .ok v w ∧ Rel c r v := by
  unfold lenA at h
  split at h
  · rename_i e hd
    unfold lenSl at h
    split at h
    · simp at h; subst h
      cases hx with
      | ro hn => subst hn; exact ⟨_, by simp [Builtin.len_, run_underlying hd, goInt], .int _ _⟩
    · simp at h; subst h
      cases hx <;> exact ⟨_, by simp [Builtin.len_, run_underlying hd, goInt], .int _ _⟩
    · simp at h; subst h
      obtain rfl := hx.of_nils
      exact ⟨_, by simp [Builtin.len_, run_underlying hd, goInt], .int _ _⟩
    · cases h
  · rename_i hd
    unfold lenStr at h
    split at h
    · obtain rfl := hx.of_str
      simp at h; subst h
      exact ⟨_, by simp [Builtin.len_, run_underlying hd, goInt], .int _ _⟩
    · cases h
  · rename_i n e hd
    simp at h; subst h
    exact ⟨_, by cases vx <;> simp [Builtin.len_, run_underlying hd, goInt], .int _ _⟩
  · cases h

def min2A : AV → AV → Option AV
  | .int k x, .int _ y => some (.int k (if y < x then y else x))
  | _, _ => none
def max2A : AV → AV → Option AV
  | .int k x, .int _ y => some (.int k (if y > x then y else x))
  | _, _ => none

def foldA (f : AV → AV → Option AV) : AV → List AV → Option AV
  | a, [] => some a
  | a, b :: l => (f a b).bind fun x => foldA f x l

theorem foldA_sound {P : Program} {f : AV → AV → Option AV} {g : Value → Value → Sem Value} {c : Ctx} {w : World}
    (hf : ∀ x y r vx vy, f x y = some r → Rel c x vx → Rel c y vy → ∃ v, (g vx vy).run P w = .ok v w ∧ Rel c r v) :
    ∀ (l : List AV) (vl : List Value) (a : AV) (va : Value) (r : AV), foldA f a l = some r → Rel c a va → RelL c l vl → ∃ v, (vl.foldlM g va).run P w = .ok v w ∧ Rel c r v
  | [], vl, a, va, r, h, ha, hl => by
    have : vl = [] := List.eq_nil_of_length_eq_zero (by rw [← hl.1]; rfl)
    subst this
    simp [foldA] at h; subst h
    exact ⟨va, by simp, ha⟩
  | b :: l, vl, a, va, r, h, ha, hl => by
    cases vl with
    | nil => have := hl.1; simp at this
    | cons vb vl =>
      simp only [foldA] at h
      obtain ⟨x, hx, hr⟩ := Option.bind_eq_some_iff.1 h
      obtain ⟨v, e1, e2⟩ := hf _ _ _ _ _ hx ha hl.head
      obtain ⟨u, g1, g2⟩ := foldA_sound hf l vl x v r hr e2 hl.tail
      exact ⟨u, by simp [List.foldlM_cons, e1, g1], g2⟩

theorem min2A_sound {P : Program} {x y r : AV} (h : min2A x y = some r) {c : Ctx} {w : World} {vx vy : Value} (hx : Rel c x vx) (hy : Rel c y vy) :
    ∃ v, (Builtin.min2 vx vy).run P w = .ok v w ∧ Rel c r v := by
  unfold min2A at h
  split at h
  · obtain rfl := hx.of_int; obtain rfl := hy.of_int
    simp at h; subst h
    exact ⟨_, by simp [Builtin.min2], .int _ _⟩
  · cases h
theorem max2A_sound {P : Program} {x y r : AV} (h : max2A x y = some r) {c : Ctx} {w : World} {vx vy : Value} (hx : Rel c x vx) (hy : Rel c y vy) :
    ∃ v, (Builtin.max2 vx vy).run P w = .ok v w ∧ Rel c r v := by
  unfold max2A at h
  split at h
  · obtain rfl := hx.of_int; obtain rfl := hy.of_int
    simp at h; subst h
    exact ⟨_, by simp [Builtin.max2], .int _ _⟩
  · cases h

/-! ### Conversions of whole numbers, function values, interfaces -/

def convInt (k : IntKind) (x : AV) : Option AV :=
  match x with
  | .int _ n => some (.int k (k.wrap n))
  | _ => none

def convStr (x : AV) : Option AV :=
  match x with
  | .str s => some (.str s)
  | _ => none

def convA (P : Program) (src dst : Nat) (x : AV) : Option AV :=
  match P.underlying src, P.underlying dst with
  | some _, some (.int k) => convInt k x
  | some _, some .string => convStr x
  | _, _ => none

theorem convA_sound {P : Program} {src dst : Nat} {x r : AV} (h : convA P src dst x = some r) {c : Ctx} {w : World} {vx : Value} (hx : Rel c x vx) :
    ∃ v, (convert src dst vx).run P w = .ok v w ∧ Rel c r v := by
  unfold convA at h
  split at h
  · rename_i d k hd hk
    unfold convInt at h
    split at h
    · obtain rfl := hx.of_int
      simp at h; subst h
      exact ⟨_, by simp [convert, run_underlying hd, run_underlying hk, Conv.intToInt], .int _ _⟩
    · cases h
  · rename_i d hd hk
    unfold convStr at h
    split at h
    · obtain rfl := hx.of_str
      simp at h; subst h
      exact ⟨_, by simp [convert, run_underlying hd, run_underlying hk], .str _⟩
    · cases h
  · cases h

def ifaceA (P : Program) (t : Nat) (x : AV) : Option AV :=
  match P.underlying t with
  | some (.interface _) => none
  | some _ => some (.iface t x)
  | none => none

theorem ifaceA_sound {P : Program} {t : Nat} {x r : AV} (h : ifaceA P t x = some r) {c : Ctx} {w : World} {vx : Value} (hx : Rel c x vx) :
    ∃ v, (Instr.makeInterface t vx).run P w = .ok v w ∧ Rel c r v := by
  unfold ifaceA at h
  split at h
  · cases h
  · rename_i d hd hn
    simp at h; subst h
    refine ⟨.iface t vx, ?_, .iface hx⟩
    cases d <;> first | (simp [Instr.makeInterface, run_underlying hn]; done) | exact absurd rfl (hd _)
  · cases h

def zeroA (P : Program) (t : Nat) : Option AV := (P.info? t).bind fun i => i.zero.map ofVal

theorem zeroA_run {P : Program} {t : Nat} {z : AV} (h : zeroA P t = some z) (w : World) : ∃ v, (zeroValue t).run P w = .ok v w ∧ ∀ c, Rel c z v := by
  unfold zeroA at h
  obtain ⟨i, hi, hz⟩ := Option.bind_eq_some_iff.1 h
  obtain ⟨v, hv, rfl⟩ := Option.map_eq_some_iff.1 hz
  exact ⟨v, by simp [zeroValue, typeInfo, hi, hv], fun c => rel_ofVal c v⟩

def assertV (asserted : Nat) (z : AV) (commaOk : Bool) (x : AV) : Option AV :=
  match x with
  | .nili => if commaOk then some (.tup [z, .bool false]) else none
  | .iface t v => if t = asserted then some (if commaOk then .tup [v, .bool true] else v) else
      if commaOk then some (.tup [z, .bool false]) else none
  | _ => none

/-- An assertion to a type that is no interface. -/
def assertA (P : Program) (x : AV) (asserted : Nat) (commaOk : Bool) : Option AV :=
  match P.underlying asserted with
  | some (.interface _) => none
  | none => none
  | some _ => match zeroA P asserted with
    | some z => assertV asserted z commaOk x
    | none => none

theorem rel_pair {c : Ctx} {x y : AV} {u v : Value} (hx : Rel c x u) (hy : Rel c y v) : Rel c (.tup [x, y]) (.tuple #[u, v]) := by
  have := RelL.cons hx (RelL.cons hy RelL.nil)
  exact .tup (vs := [u, v]) this.1 this.2

theorem assertA_sound {P : Program} {x r : AV} {xt asserted : Nat} {commaOk : Bool} (h : assertA P x asserted commaOk = some r) {c : Ctx} {w : World} {vx : Value} (hx : Rel c x vx) :
    ∃ v, (Instr.typeAssert vx xt asserted commaOk).run P w = .ok v w ∧ Rel c r v := by
  unfold assertA at h
  split at h
  · cases h
  · cases h
  rename_i d hni hd
  split at h
  case h_2 => cases h
  rename_i z hz
  obtain ⟨v, e1, e2⟩ := zeroA_run hz w
  unfold assertV at h
  split at h
  · obtain rfl := hx.of_nili
    split at h
    · rename_i hc
      simp at h; subst h
      refine ⟨_, ?_, rel_pair (e2 c) (.bool _)⟩
      subst hc
      cases d <;> first | (simp [Instr.typeAssert, run_underlying hd, e1]; done) | exact (hni _ rfl).elim
    · cases h
  · obtain ⟨u, rfl, hu⟩ := hx.of_iface
    rename_i t' v'
    split at h
    · rename_i ht; subst ht
      simp at h; subst h
      refine ⟨if commaOk then .tuple #[u, .bool true] else u, ?_, ?_⟩
      · cases d <;> first | (simp [Instr.typeAssert, run_underlying hd]; done) | exact (hni _ rfl).elim
      · cases commaOk
        · exact hu
        · exact rel_pair hu (.bool _)
    · rename_i ht
      split at h
      · rename_i hc
        simp at h; subst h
        refine ⟨_, ?_, rel_pair (e2 c) (.bool _)⟩
        subst hc
        cases d <;> first | (simp [Instr.typeAssert, run_underlying hd, ht, e1]; done) | exact (hni _ rfl).elim
      · cases h
  · cases h

end Go.Proofs.YtdfglgnflldkpaaDoor.Mir
