/- Mirror, part C: operations on abstract values that look at no memory. -/
import Derived.Test.YtdfglgnflldkpaaDoorMirB
import Derived.Laws.Slices
import Derived.Laws.Build
import Derived.Laws.Cover3
namespace Go.Proofs.YtdfglgnflldkpaaDoor.Mir
open Go
set_option linter.unusedVariables false
set_option linter.unusedSimpArgs false

/-! ### Constants -/

def ofVal1 : Value → AV
  | .bool b => .bool b
  | .int k n => .int k n
  | .string s => .str s
  | .pointer none => .nilp
  | .slice none 0 0 => .nils
  | .nilFunc => .nilf
  | .nilIface => .nili
  | .func (.func f) a b => if a.size = 0 then if b.size = 0 then .fn f [] else .undef else .undef
  | _ => .undef

def ofVal : Value → AV
  | .agg cells => if cells.toList.all Value.oneCell' then .agg (cells.toList.map ofVal1) else .undef
  | .tuple vs => if vs.size = 0 then .tup [] else .undef
  | v => ofVal1 v

theorem Rel.roNil (c : Ctx) (bor : Bool) (a : Option Addr) (cap : Nat) : Rel c (.ro bor []) (.slice a 0 cap) :=
  .ro (A := default) (V := fun _ _ => .nilIface) (sz := 0) rfl (Nat.zero_le _) (.inl rfl) rfl (by simp) (by simp) (by simp)

theorem rel_ofVal1 (c : Ctx) (v : Value) : Rel c (ofVal1 v) v := by
  unfold ofVal1
  split
  · exact .bool _
  · exact .int _ _
  · exact .str _
  · exact .nilp
  · exact .nils
  · exact .nilf
  · exact .nili
  · rename_i f a b
    split
    · rename_i h
      split
      · rename_i h'
        obtain rfl := Array.size_eq_zero_iff.1 h
        obtain rfl := Array.size_eq_zero_iff.1 h'
        exact .fn (vs := []) rfl (by simp)
      · exact .undef _
    · exact .undef _
  · exact .undef _

theorem rel_ofVal (c : Ctx) (v : Value) : Rel c (ofVal v) v := by
  unfold ofVal
  split
  · rename_i cells
    split
    · rename_i h
      have := Rel.agg (c := c) (cs := cells.toList.map ofVal1) (vs := cells.toList) (by simp) (fun i x v h1 h2 => by
        simp only [List.getElem?_map, h2, Option.map_some, Option.some.injEq] at h1
        subst h1; exact rel_ofVal1 c v) (fun v hv => List.all_eq_true.1 h v hv)
      simpa using this
    · exact .undef _
  · rename_i vs
    split
    · rename_i h
      obtain rfl := Array.size_eq_zero_iff.1 h
      exact .tup (vs := []) rfl (by simp)
    · exact .undef _
  · exact rel_ofVal1 c v

/-! ### What a relation tells -/

theorem Rel.of_int {c : Ctx} {k : IntKind} {n : Int} {v : Value} (h : Rel c (.int k n) v) : v = .int k n := by cases h; rfl
theorem Rel.of_bool {c : Ctx} {b : Bool} {v : Value} (h : Rel c (.bool b) v) : v = .bool b := by cases h; rfl
theorem Rel.of_str {c : Ctx} {s : ByteArray} {v : Value} (h : Rel c (.str s) v) : v = .string s := by cases h; rfl
theorem Rel.of_nilp {c : Ctx} {v : Value} (h : Rel c .nilp v) : v = .pointer none := by cases h; rfl
theorem Rel.of_nils {c : Ctx} {v : Value} (h : Rel c .nils v) : v = .slice none 0 0 := by cases h; rfl
theorem Rel.of_anyb {c : Ctx} {v : Value} (h : Rel c .anyb v) : ∃ b, v = .bool b := by cases h; exact ⟨_, rfl⟩
theorem Rel.of_nilf {c : Ctx} {v : Value} (h : Rel c .nilf v) : v = .nilFunc := by cases h; rfl
theorem Rel.of_nili {c : Ctx} {v : Value} (h : Rel c .nili v) : v = .nilIface := by cases h; rfl
theorem Rel.of_iface {c : Ctx} {t : Nat} {x : AV} {v : Value} (h : Rel c (.iface t x) v) : ∃ u, v = .iface t u ∧ Rel c x u := by cases h; exact ⟨_, rfl, ‹_›⟩
theorem Rel.of_gl {c : Ctx} {g : Nat} {v : Value} (h : Rel c (.gl g) v) : v = .pointer (some ⟨g, 0, none⟩) := by cases h; rfl
theorem Rel.of_gp {c : Ctx} {g : Nat} {v : Value} (h : Rel c (.gp g) v) : ∃ a, c.S g = some a ∧ v = .pointer (some a) := by cases h; exact ⟨_, ‹_›, rfl⟩
theorem Rel.of_agg {c : Ctx} {cs : List AV} {v : Value} (h : Rel c (.agg cs) v) : ∃ vs : List Value, v = .agg vs.toArray ∧ RelL c cs vs ∧ ∀ u ∈ vs, u.oneCell' = true := by
  cases h; exact ⟨_, rfl, ⟨‹_›, ‹_›⟩, ‹_›⟩
theorem Rel.of_tup {c : Ctx} {cs : List AV} {v : Value} (h : Rel c (.tup cs) v) : ∃ vs : List Value, v = .tuple vs.toArray ∧ RelL c cs vs := by
  cases h; exact ⟨_, rfl, ⟨‹_›, ‹_›⟩⟩
theorem Rel.of_fn {c : Ctx} {f : Nat} {cs : List AV} {v : Value} (h : Rel c (.fn f cs) v) : ∃ vs : List Value, v = .func (.func f) #[] vs.toArray ∧ RelL c cs vs := by
  cases h; exact ⟨_, rfl, ⟨‹_›, ‹_›⟩⟩

/-! ### Integers, strings, truth -/

def binInt (op : BinOp) (k : IntKind) (a b : Int) : Option AV :=
  match op with
  | .add => some (.int k (k.wrap (a + b)))
  | .sub => some (.int k (k.wrap (a - b)))
  | .mul => some (.int k (k.wrap (a * b)))
  | .quo => if b = 0 then none else some (.int k (k.wrap (a.tdiv b)))
  | .rem => if b = 0 then none else some (.int k (a.tmod b))
  | .and => some (.int k (bits .and k a b))
  | .or => some (.int k (bits .or k a b))
  | .xor => some (.int k (bits .xor k a b))
  | .andNot => some (.int k (bits .andNot k a b))
  | .eql => some (.bool (a == b))
  | .neq => some (.bool (a != b))
  | .lss => some (.bool (decide (a < b)))
  | .leq => some (.bool (decide (a ≤ b)))
  | .gtr => some (.bool (decide (a > b)))
  | .geq => some (.bool (decide (a ≥ b)))
  | _ => none

def shiftInt (op : BinOp) (k : IntKind) (a b : Int) : Option AV :=
  if b < 0 then none else
  match op with
  | .shl => some (.int k (k.wrap (a * 2 ^ min b.toNat k.bits)))
  | .shr => some (.int k (a.fdiv (2 ^ min b.toNat k.bits)))
  | _ => none

def binStr (op : BinOp) (a b : ByteArray) : Option AV :=
  match op with
  | .add => if a.size + b.size ≤ 9223372036854775807 then some (.str (a ++ b)) else none
  | .eql => some (.bool (a.toList == b.toList))
  | .neq => some (.bool !(a.toList == b.toList))
  | _ => none

/-- Are two values of an interface, a function, a truth the same? -/
def eqPlain : AV → AV → Option Bool
  | .bool a, .bool b => some (a == b)
  | .nili, .nili => some true
  | .nili, .iface _ _ => some false
  | .iface _ _, .nili => some false
  | .nilf, .nilf => some true
  | .nilf, .fn _ _ => some false
  | .fn _ _, .nilf => some false
  | .iface t (.gp g), .iface t' (.gp g') => if t = t' then some (g == g') else none
  | _, _ => none

/-- The type of what is compared, as it must be. -/
def eqType (P : Program) (t : TypeId) : AV → AV → Bool
  | .bool _, .bool _ => match P.underlying t with | some .bool => true | _ => false
  | .nilf, _ => match P.underlying t with | some (.func ..) => true | _ => false
  | .fn .., _ => match P.underlying t with | some (.func ..) => true | _ => false
  | .iface tx (.gp _), .iface .. => (match P.underlying t with | some (.interface _) => true | _ => false) &&
      (match P.info? tx with | some i => i.comparable | none => false) && (match P.underlying tx with | some (.pointer e) => (match P.info? e with | some i => i.size != 0 | none => false) | _ => false)
  | _, _ => match P.underlying t with | some (.interface _) => true | _ => false

/-- Is a slice nil? -/
def isNilA : AV → Option AV
  | .nils => some (.bool true)
  | .ro _ xs => match xs with
    | [] => some .anyb
    | _ :: _ => some (.bool false)
  | .sl _ _ _ n _ => match n with
    | 0 => some .anyb
    | _ + 1 => some (.bool false)
  | _ => none

/-- Is a pointer nil? -/
def isNilP : AV → Option AV
  | .nilp => some (.bool true)
  | .ptr .. => some (.bool false)
  | .rp .. => some (.bool false)
  | .gl _ => some (.bool false)
  | .gp _ => some (.bool false)
  | _ => none

def isPtrT (P : Program) (t : TypeId) : Bool := match P.underlying t with | some (.pointer _) => true | _ => false

theorem isNilP_sound {c : Ctx} {x r : AV} (h : isNilP x = some r) {v : Value} (hx : Rel c x v) : ∃ a : Option Addr, v = .pointer a ∧ Rel c r (.bool a.isNone) := by
  unfold isNilP at h
  split at h
  · simp at h; subst h; cases hx; exact ⟨none, rfl, .bool true⟩
  · simp at h; subst h; cases hx <;> exact ⟨_, rfl, .bool false⟩
  · simp at h; subst h; cases hx; exact ⟨_, rfl, .bool false⟩
  · simp at h; subst h; cases hx; exact ⟨_, rfl, .bool false⟩
  · simp at h; subst h; cases hx; exact ⟨_, rfl, .bool false⟩
  · cases h

theorem run_equal_ptr_nil {P : Program} (w : World) (t e : TypeId) (a : Option Addr) (h : P.underlying t = some (.pointer e)) : (Op.equal t (.pointer a) (.pointer none)).run P w = .ok a.isNone w := by
  have : ∀ d : Nat, (Op.equalIn (d + 1) t (.pointer a) (.pointer none)).run P w = .ok a.isNone w := fun d => by
    cases a <;> simp [Op.equalIn, run_underlying h]
  exact this 9999

def notA : AV → AV
  | .bool b => .bool !b
  | x => x

def isSliceT (P : Program) (t : TypeId) : Bool := match P.underlying t with | some (.slice _) => true | _ => false

theorem isNilA_sound {c : Ctx} {x r : AV} (h : isNilA x = some r) {v : Value} (hx : Rel c x v) : ∃ a n m, v = .slice a n m ∧ Rel c r (.bool a.isNone) := by
  unfold isNilA at h
  split at h
  · simp at h; subst h
    obtain rfl := hx.of_nils
    exact ⟨none, 0, 0, rfl, .bool true⟩
  · split at h
    · simp at h; subst h
      cases hx with
      | ro => exact ⟨_, _, _, rfl, .anyb _⟩
    · simp at h; subst h
      cases hx with
      | ro hn hcap ha hA hsz hrel hm =>
        rcases ha with h0 | rfl
        · cases h0
        · exact ⟨_, _, _, rfl, .bool false⟩
  · split at h
    · simp at h; subst h
      cases hx with
      | sl => exact ⟨_, _, _, rfl, .anyb _⟩
      | slVirt => exact ⟨_, _, _, rfl, .anyb _⟩
      | slStale => exact ⟨_, _, _, rfl, .anyb _⟩
    · simp at h; subst h
      cases hx with
      | sl => exact ⟨_, _, _, rfl, .bool false⟩
      | slStale a cap' hm hL hn ha =>
        cases a with
        | none => have := ha rfl; omega
        | some a => exact ⟨_, _, _, rfl, .bool false⟩
  · cases h

theorem notA_sound {c : Ctx} {x : AV} {b : Bool} (h : Rel c x (.bool b)) : Rel c (notA x) (.bool !b) := by
  cases h with
  | undef => exact .undef _
  | bool b => exact .bool _
  | anyb b => exact .anyb _

def bin (P : Program) (op : BinOp) (t : TypeId) (cst : Bool) (x y : AV) : Option AV :=
  match x, y with
  | .int k a, .int k' b =>
    match op with
    | .shl => shiftInt .shl k a b
    | .shr => shiftInt .shr k a b
    | op => if k = k' then binInt op k a b else none
  | .str a, .str b => binStr op a b
  | .nili, .nili => if cst && eqType P t .nili .nili then (match op with | .eql => some (.bool true) | .neq => some (.bool false) | _ => none) else none
  | x, .nils => if isSliceT P t then (match op with | .eql => isNilA x | .neq => (isNilA x).map notA | _ => none) else none
  | x, .nilp => if isPtrT P t then (match op with | .eql => isNilP x | .neq => (isNilP x).map notA | _ => none) else none
  | x, y => if eqType P t x y then (match op with | .eql => (eqPlain x y).map .bool | .neq => (eqPlain x y).map fun b => .bool !b | _ => none) else none

def isCst : Operand → Bool
  | .const _ => true
  | _ => false

theorem binInt_sound {P : Program} {op : BinOp} {k : IntKind} {a b : Int} {r : AV} (h : binInt op k a b = some r) (hs : op ≠ .shl ∧ op ≠ .shr) (c : Ctx) (t : TypeId) (w : World) :
    ∃ v, (binOp op t (.int k a) (.int k b)).run P w = .ok v w ∧ Rel c r v := by
  cases op <;> simp only [binInt, Option.some.injEq, reduceCtorEq] at h <;> (first | (exfalso; exact hs.1 rfl) | (exfalso; exact hs.2 rfl) | skip)
  case add => subst h; exact ⟨_, by simp [binOp_add, Op.intArith], .int _ _⟩
  case sub => subst h; exact ⟨_, by simp [binOp_sub, Op.intArith], .int _ _⟩
  case mul => subst h; exact ⟨_, by simp [binOp_mul, Op.intArith], .int _ _⟩
  case quo => split at h; cases h; rename_i h0; simp at h; subst h; exact ⟨_, by simp [binOp_quo, Op.intDiv, h0], .int _ _⟩
  case rem => split at h; cases h; rename_i h0; simp at h; subst h; exact ⟨_, by simp [binOp_rem, Op.intDiv, h0], .int _ _⟩
  case and => subst h; exact ⟨_, by simp [binOp_and, intBits_and], .int _ _⟩
  case or => subst h; exact ⟨_, by simp [binOp_or, intBits_or], .int _ _⟩
  case xor => subst h; exact ⟨_, by simp [binOp_xor, intBits_xor], .int _ _⟩
  case andNot => subst h; exact ⟨_, by simp [binOp_andNot, intBits_andNot], .int _ _⟩
  case eql => subst h; exact ⟨_, by simp [binOp_eql], .bool _⟩
  case neq => subst h; exact ⟨_, by simp [binOp_neq], .bool _⟩
  case lss => subst h; exact ⟨_, by simp [binOp_lss], .bool _⟩
  case leq => subst h; exact ⟨_, by simp [binOp_leq], .bool _⟩
  case gtr => subst h; exact ⟨_, by simp [binOp_gtr], .bool _⟩
  case geq => subst h; exact ⟨_, by simp [binOp_geq], .bool _⟩

theorem shiftInt_sound {P : Program} {op : BinOp} {k yk : IntKind} {a b : Int} {r : AV} (h : shiftInt op k a b = some r) (hs : op = .shl ∨ op = .shr) (c : Ctx) (t : TypeId) (w : World) :
    ∃ v, (binOp op t (.int k a) (.int yk b)).run P w = .ok v w ∧ Rel c r v := by
  unfold shiftInt at h
  split at h
  · cases h
  · rename_i h0
    rcases hs with rfl | rfl
    · simp at h; subst h
      exact ⟨_, by simp [binOp_shl, Op.shift, h0], .int _ _⟩
    · simp at h; subst h
      exact ⟨_, by simp [binOp_shr, Op.shift, h0], .int _ _⟩

theorem binStr_sound {P : Program} {op : BinOp} {a b : ByteArray} {r : AV} (h : binStr op a b = some r) (c : Ctx) (t : TypeId) (w : World) :
    ∃ v, (binOp op t (.string a) (.string b)).run P w = .ok v w ∧ Rel c r v := by
  cases op <;> simp only [binStr, Option.some.injEq, reduceCtorEq] at h
  case add =>
    split at h
    · rename_i hl
      simp at h; subst h
      refine ⟨.string (a ++ b), ?_, .str _⟩
      have : ¬ ((9223372036854775807 : Int) < (a.size : Int) + (b.size : Int)) := by omega
      simp [binOp, Op.stringOp, this]
    · cases h
  case eql => subst h; exact ⟨_, by simp [binOp, Op.stringOp], .bool _⟩
  case neq => subst h; exact ⟨_, by simp [binOp, Op.stringOp], .bool _⟩

theorem eqType_iface {P : Program} {t : TypeId} (h : (match P.underlying t with | some (.interface _) => true | _ => false) = true) : ∃ ms, P.underlying t = some (.interface ms) := by
  split at h
  · exact ⟨_, ‹_›⟩
  · cases h
theorem eqType_func {P : Program} {t : TypeId} (h : (match P.underlying t with | some (.func ..) => true | _ => false) = true) : ∃ a b c, P.underlying t = some (.func a b c) := by
  split at h
  · exact ⟨_, _, _, ‹_›⟩
  · cases h
theorem eqType_bool {P : Program} {t : TypeId} (h : (match P.underlying t with | some .bool => true | _ => false) = true) : P.underlying t = some .bool := by
  split at h
  · assumption
  · cases h

theorem equal_of {P : Program} {t : TypeId} {u v : Value} {b : Bool} {w : World} (h : ∀ d : Nat, (Op.equalIn (d + 1) t u v).run P w = .ok b w) : (Op.equal t u v).run P w = .ok b w := h 9999

theorem eqPlain_sound {P : Program} {t : TypeId} {x y : AV} {b : Bool} (h : eqPlain x y = some b) (ht : eqType P t x y = true) {G : Globs} {c : Ctx} {w : World} (hg : Good G c w)
    {vx vy : Value} (hx : Rel c x vx) (hy : Rel c y vy) : (Op.equal t vx vy).run P w = .ok b w := by
  unfold eqPlain at h
  split at h
  · obtain rfl := hx.of_bool; obtain rfl := hy.of_bool
    simp only [eqType] at ht
    simp at h; subst h
    exact run_equal_bool w t _ _ (eqType_bool ht)
  · obtain rfl := hx.of_nili; obtain rfl := hy.of_nili
    simp only [eqType] at ht
    obtain ⟨ms, hm⟩ := eqType_iface ht
    simp at h; subst h
    exact equal_of fun d => by simp [Op.equalIn, run_underlying hm]
  · obtain rfl := hx.of_nili; obtain ⟨u, rfl, _⟩ := hy.of_iface
    simp only [eqType] at ht
    obtain ⟨ms, hm⟩ := eqType_iface ht
    simp at h; subst h
    exact equal_of fun d => by simp [Op.equalIn, run_underlying hm]
  · obtain ⟨u, rfl, _⟩ := hx.of_iface; obtain rfl := hy.of_nili
    have ht' : (match P.underlying t with | some (.interface _) => true | _ => false) = true := by
      unfold eqType at ht; split at ht <;> first | (simp_all; done) | exact ht
    obtain ⟨ms, hm⟩ := eqType_iface ht'
    simp at h; subst h
    exact equal_of fun d => by simp [Op.equalIn, run_underlying hm]
  · obtain rfl := hx.of_nilf; obtain rfl := hy.of_nilf
    simp only [eqType] at ht
    obtain ⟨_, _, _, hm⟩ := eqType_func ht
    simp at h; subst h
    exact equal_of fun d => by simp [Op.equalIn, run_underlying hm]
  · obtain rfl := hx.of_nilf; obtain ⟨u, rfl, _⟩ := hy.of_fn
    simp only [eqType] at ht
    obtain ⟨_, _, _, hm⟩ := eqType_func ht
    simp at h; subst h
    exact equal_of fun d => by simp [Op.equalIn, run_underlying hm]
  · obtain ⟨u, rfl, _⟩ := hx.of_fn; obtain rfl := hy.of_nilf
    simp only [eqType] at ht
    obtain ⟨_, _, _, hm⟩ := eqType_func ht
    simp at h; subst h
    exact equal_of fun d => by simp [Op.equalIn, run_underlying hm]
  · rename_i tx g ty g'
    split at h
    · rename_i he; subst he
      simp at h; subst h
      obtain ⟨u, rfl, hu⟩ := hx.of_iface; obtain ⟨u', rfl, hu'⟩ := hy.of_iface
      obtain ⟨a, ha, rfl⟩ := hu.of_gp; obtain ⟨a', ha', rfl⟩ := hu'.of_gp
      simp only [eqType, Bool.and_eq_true] at ht
      obtain ⟨⟨h1, h2⟩, h3⟩ := ht
      obtain ⟨ms, hm⟩ := eqType_iface h1
      split at h2
      case h_2 => cases h2
      rename_i i hi
      split at h3
      case h_2 => cases h3
      rename_i e hp
      split at h3
      case h_2 => cases h3
      rename_i j hj
      have hsz : j.size ≠ 0 := by simpa using h3
      by_cases hgg : g = g'
      · subst hgg
        obtain rfl := Option.some.inj (ha.symm.trans ha')
        have := run_equalIn_iface_ptr_same w 9998 a hm hp hi h2 hj
        have e : (g == g) = true := by simp
        rw [e]; exact this
      · obtain ⟨ca, ta, hca⟩ := hg.sent g a ha
        obtain ⟨cb, tb, hcb⟩ := hg.sent g' a' ha'
        have hne := hg.sentApart g g' a a' ha ha' hgg
        have := run_equalIn_iface_ptr_other w 9998 hm hp hi h2 hj hsz hne hca hcb
        have e : (g == g') = false := by simpa using hgg
        rw [e]; exact this
    · cases h
  · cases h

theorem eqGuard_pure {op : BinOp} {t : TypeId} {ox oy : Operand} {u v : Value} (h : op ≠ .eql ∧ op ≠ .neq) : eqGuard op t ox oy u v = pure () := by
  cases op <;> first | rfl | exact absurd rfl h.1 | exact absurd rfl h.2

theorem eqGuard_nil {op : BinOp} {t : TypeId} {ox oy : Operand} (h : (isCst ox || isCst oy) = true) : eqGuard op t ox oy .nilIface .nilIface = pure () := by
  cases ox <;> cases oy <;> simp [isCst] at h <;> first | exact eqGuard_nil_constL .. | exact eqGuard_nil_constR ..

theorem bin_eq_sound {P : Program} {op : BinOp} {t : TypeId} {x y : AV} {r : AV} {G : Globs} {c : Ctx} {w : World} (hg : Good G c w) {vx vy : Value} (hx : Rel c x vx) (hy : Rel c y vy)
    (ht : eqType P t x y = true) (hr : (match op with | .eql => (eqPlain x y).map .bool | .neq => (eqPlain x y).map fun b => .bool !b | _ => none) = some r)
    (he : binOp .eql t vx vy = (do pure (.bool (← Op.equal t vx vy)))) (hn : binOp .neq t vx vy = (do pure (.bool (!(← Op.equal t vx vy))))) :
    ∃ v, (binOp op t vx vy).run P w = .ok v w ∧ Rel c r v := by
  cases op <;> simp only [reduceCtorEq] at hr
  case eql =>
    obtain ⟨b, hb, rfl⟩ := Option.map_eq_some_iff.1 hr
    have := eqPlain_sound hb ht hg hx hy
    exact ⟨_, by rw [he]; simp [this], .bool _⟩
  case neq =>
    obtain ⟨b, hb, rfl⟩ := Option.map_eq_some_iff.1 hr
    have := eqPlain_sound hb ht hg hx hy
    exact ⟨_, by rw [hn]; simp [this], .bool _⟩

theorem bin_sound {P : Program} {op : BinOp} {t : TypeId} {cst : Bool} {x y : AV} {r : AV} (h : bin P op t cst x y = some r) {G : Globs} {c : Ctx} {w : World} (hg : Good G c w)
    {vx vy : Value} (hx : Rel c x vx) (hy : Rel c y vy) (ox oy : Operand) (hc : cst = true → (isCst ox || isCst oy) = true) :
    ∃ v, (do eqGuard op t ox oy vx vy; binOp op t vx vy : Sem Value).run P w = .ok v w ∧ Rel c r v := by
  unfold bin at h
  split at h
  · obtain rfl := hx.of_int; obtain rfl := hy.of_int
    rename_i k a k' b
    simp only [eqGuard_at_int]
    split at h
    · obtain ⟨v, h1, h2⟩ := shiftInt_sound (P := P) (yk := k') h (.inl rfl) c t w
      exact ⟨v, by simpa using h1, h2⟩
    · obtain ⟨v, h1, h2⟩ := shiftInt_sound (P := P) (yk := k') h (.inr rfl) c t w
      exact ⟨v, by simpa using h1, h2⟩
    · rename_i h1 h2
      split at h
      · rename_i e; subst e
        obtain ⟨v, h3, h4⟩ := binInt_sound (P := P) h ⟨h1, h2⟩ c t w
        exact ⟨v, by simpa using h3, h4⟩
      · cases h
  · obtain rfl := hx.of_str; obtain rfl := hy.of_str
    obtain ⟨v, h1, h2⟩ := binStr_sound (P := P) h c t w
    exact ⟨v, by simpa [eqGuard_at_string] using h1, h2⟩
  · obtain rfl := hx.of_nili; obtain rfl := hy.of_nili
    split at h
    · rename_i hcc
      simp only [Bool.and_eq_true] at hcc
      rw [eqGuard_nil (hc hcc.1)]
      have he : (Op.equal t .nilIface .nilIface).run P w = .ok true w := eqPlain_sound (x := .nili) (y := .nili) rfl hcc.2 hg .nili .nili
      cases op <;> simp only [Option.some.injEq, reduceCtorEq] at h
      case eql => subst h; exact ⟨.bool true, by simp [binOp, he], .bool _⟩
      case neq => subst h; exact ⟨.bool false, by simp [binOp, he], .bool _⟩
    · cases h
  · obtain rfl := hy.of_nils
    split at h
    case isFalse => cases h
    rename_i ht
    obtain ⟨e, hd⟩ : ∃ e, P.underlying t = some (.slice e) := by
      unfold isSliceT at ht
      split at ht
      · exact ⟨_, ‹_›⟩
      · cases ht
    cases op <;> simp only [reduceCtorEq] at h
    case eql =>
      obtain ⟨a, n, m, rfl, h2⟩ := isNilA_sound h hx
      exact ⟨.bool a.isNone, by simp [eqGuard_at_slice, binOp, run_equal_slice_nil w t e a n m hd], h2⟩
    case neq =>
      obtain ⟨b, hb, rfl⟩ := Option.map_eq_some_iff.1 h
      obtain ⟨a, n, m, rfl, h2⟩ := isNilA_sound hb hx
      exact ⟨.bool !a.isNone, by simp [eqGuard_at_slice, binOp, run_equal_slice_nil w t e a n m hd], notA_sound h2⟩
  · obtain rfl := hy.of_nilp
    split at h
    case isFalse => cases h
    rename_i ht
    obtain ⟨e, hd⟩ : ∃ e, P.underlying t = some (.pointer e) := by
      unfold isPtrT at ht
      split at ht
      · exact ⟨_, ‹_›⟩
      · cases ht
    cases op <;> simp only [reduceCtorEq] at h
    case eql =>
      obtain ⟨a, rfl, h2⟩ := isNilP_sound h hx
      exact ⟨.bool a.isNone, by simp [eqGuard_at_pointer, binOp, run_equal_ptr_nil w t e a hd], h2⟩
    case neq =>
      obtain ⟨b, hb, rfl⟩ := Option.map_eq_some_iff.1 h
      obtain ⟨a, rfl, h2⟩ := isNilP_sound hb hx
      exact ⟨.bool !a.isNone, by simp [eqGuard_at_pointer, binOp, run_equal_ptr_nil w t e a hd], notA_sound h2⟩
  · rename_i n1 n2 n3 n4 n5
    split at h
    case isFalse => cases h
    rename_i ht
    have go : ∀ (hgd : eqGuard op t ox oy vx vy = pure ()), binOp .eql t vx vy = (do pure (.bool (← Op.equal t vx vy))) → binOp .neq t vx vy = (do pure (.bool (!(← Op.equal t vx vy)))) →
        ∃ v, (do eqGuard op t ox oy vx vy; binOp op t vx vy : Sem Value).run P w = .ok v w ∧ Rel c r v := by
      intro hgd he hn
      rw [hgd]
      obtain ⟨v, h1, h2⟩ := bin_eq_sound hg hx hy ht h he hn
      exact ⟨v, by simpa using h1, h2⟩
    have hsome : (eqPlain x y).isSome = true := by
      cases op <;> simp only [reduceCtorEq] at h <;> (obtain ⟨b, hb, _⟩ := Option.map_eq_some_iff.1 h; rw [hb]; rfl)
    unfold eqPlain at hsome
    split at hsome
    · obtain rfl := hx.of_bool; obtain rfl := hy.of_bool
      exact go (eqGuard_at_bool ..) (by simp [binOp]) (by simp [binOp])
    · first | exact (n4 rfl rfl).elim | exact (n5 rfl rfl).elim | exact (n3 rfl rfl).elim | exact (n2 rfl rfl).elim
    · obtain rfl := hx.of_nili; obtain ⟨u, rfl, _⟩ := hy.of_iface
      exact go (eqGuard_nil_iface ..) (by simp [binOp]) (by simp [binOp])
    · obtain ⟨u, rfl, _⟩ := hx.of_iface; obtain rfl := hy.of_nili
      exact go (eqGuard_at_iface ..) (by simp [binOp]) (by simp [binOp])
    · obtain rfl := hx.of_nilf; obtain rfl := hy.of_nilf
      exact go (eqGuard_at_nilFunc ..) (by simp [binOp]) (by simp [binOp])
    · obtain rfl := hx.of_nilf; obtain ⟨u, rfl, _⟩ := hy.of_fn
      exact go (eqGuard_at_nilFunc ..) (by simp [binOp]) (by simp [binOp])
    · obtain ⟨u, rfl, _⟩ := hx.of_fn; obtain rfl := hy.of_nilf
      exact go (eqGuard_at_func ..) (by simp [binOp]) (by simp [binOp])
    · obtain ⟨u, rfl, _⟩ := hx.of_iface; obtain ⟨u', rfl, _⟩ := hy.of_iface
      exact go (eqGuard_at_iface ..) (by simp [binOp]) (by simp [binOp])
    · cases hsome

/-! ### Conversions, signs, lengths -/

def un (op : UnOp) (x : AV) : Option AV :=
  match op, x with
  | .neg, .int k n => some (.int k (k.wrap (0 - n)))
  | .xor, .int k n => some (.int k (bits .xor k (if k.signed then -1 else k.max) n))
  | .not, .bool b => some (.bool !b)
  | .not, .anyb => some .anyb
  | _, _ => none

theorem un_sound {P : Program} {op : UnOp} {x r : AV} (h : un op x = some r) {c : Ctx} {w : World} {vx : Value} (hx : Rel c x vx) :
    ∃ v, (Op.unary op vx).run P w = .ok v w ∧ Rel c r v := by
  unfold un at h
  split at h
  · obtain rfl := hx.of_int; simp at h; subst h
    exact ⟨_, by simp [Op.unary, Op.intArith], .int _ _⟩
  · obtain rfl := hx.of_int; simp at h; subst h
    exact ⟨_, by simp [Op.unary, intBits_xor], .int _ _⟩
  · obtain rfl := hx.of_bool; simp at h; subst h
    exact ⟨_, by simp [Op.unary], .bool _⟩
  · obtain ⟨b, rfl⟩ := hx.of_anyb; simp at h; subst h
    exact ⟨.bool !b, by simp [Op.unary], .anyb _⟩
  · cases h

def pickA (c a b : AV) : Option AV :=
  match c with
  | .bool t => some (bif t then a else b)
  | _ => none

def extractA (t : AV) (i : Nat) : Option AV :=
  match t with
  | .tup vs => vs[i]?
  | _ => none

theorem extractA_sound {P : Program} {x r : AV} {i : Nat} (h : extractA x i = some r) {c : Ctx} {w : World} {vx : Value} (hx : Rel c x vx) :
    ∃ v, (Instr.extract vx i).run P w = .ok v w ∧ Rel c r v := by
  unfold extractA at h
  split at h
  · obtain ⟨vs, rfl, hr⟩ := hx.of_tup
    obtain ⟨v, h1, h2⟩ := hr.get h
    exact ⟨v, by simp [Instr.extract, h1], h2⟩
  · cases h

end Go.Proofs.YtdfglgnflldkpaaDoor.Mir
