/- Mirror, part A: abstract values, their relation to the model's values, and its monotonicity. -/
import Derived.Calls
import Derived.Orders
import Derived.KernelRfl
import Derived.LaidEqlPtr
import Derived.Laws.MakeOwn
namespace Go.Proofs.YtdfglgnflldkpaaDoor.Mir
open Go
set_option linter.unusedVariables false
set_option linter.unusedSimpArgs false

/-- Abstract values. -/
inductive AV where
  | undef
  | bool (b : Bool)
  | int (k : IntKind) (n : Int)
  | str (s : ByteArray)
  | nilp
  | nilf
  | nili
  | fn (f : Nat) (caps : List AV)
  | iface (t : Nat) (v : AV)
  | agg (cs : List AV)
  | tup (vs : List AV)
  | ptr (b L i o : Nat)
  | sl (b L o n sz : Nat)
  | ro (bor : Bool) (xs : List AV)
  | rp (bor : Bool) (x : AV) (o : Nat)
  | gl (g : Nat)
  | gp (g : Nat)
  | nils
  | anyb

instance : Inhabited AV := ⟨.undef⟩


/-- The cells of a value that lies in memory. -/
def AV.cells : AV → List AV
  | .agg cs => cs
  | .undef => [.undef]
  | .bool b => [.bool b]
  | .int k n => [.int k n]
  | .str s => [.str s]
  | .nilp => [.nilp]
  | .nilf => [.nilf]
  | .nili => [.nili]
  | .fn f caps => [.fn f caps]
  | .iface t v => [.iface t v]
  | .tup vs => [.tup vs]
  | .ptr b L i o => [.ptr b L i o]
  | .sl b L o n sz => [.sl b L o n sz]
  | .ro bor xs => [.ro bor xs]
  | .rp bor x o => [.rp bor x o]
  | .gl g => [.gl g]
  | .gp g => [.gp g]
  | .nils => [.nils]
  | .anyb => [.anyb]

/-- A block of the abstract heap: elements of sz cells each. -/
structure ABlk where
  ty : Nat
  sz : Nat
  elems : List AV

abbrev AHeap := List ABlk

/-- Where an own block lies. virt: nowhere yet (a nil slice that may grow). -/
structure Info where
  idx : Nat
  cap : Nat
  ty : Nat
  sz : Nat
  len : Nat
  virt : Bool

structure Ctx where
  m : Nat → Option Info
  M : Addr → Option Value
  B : Addr → Option Value
  S : Nat → Option Addr

def Ctx.mem (c : Ctx) : Bool → Addr → Option Value
  | false => c.M
  | true => c.B

/-- What an abstract value says of a value. -/
inductive Rel (c : Ctx) : AV → Value → Prop
  | undef (v : Value) : Rel c .undef v
  | bool (b : Bool) : Rel c (.bool b) (.bool b)
  | int (k : IntKind) (n : Int) : Rel c (.int k n) (.int k n)
  | str (s : ByteArray) : Rel c (.str s) (.string s)
  | nilp : Rel c .nilp (.pointer none)
  | nilf : Rel c .nilf .nilFunc
  | nili : Rel c .nili .nilIface
  | fn {f : Nat} {caps : List AV} {vs : List Value} (hl : caps.length = vs.length)
      (h : ∀ (i : Nat) (x : AV) (v : Value), caps[i]? = some x → vs[i]? = some v → Rel c x v) :
      Rel c (.fn f caps) (.func (.func f) #[] vs.toArray)
  | iface {t : Nat} {x : AV} {v : Value} (h : Rel c x v) : Rel c (.iface t x) (.iface t v)
  | agg {cs : List AV} {vs : List Value} (hl : cs.length = vs.length)
      (h : ∀ (i : Nat) (x : AV) (v : Value), cs[i]? = some x → vs[i]? = some v → Rel c x v)
      (h1 : ∀ v ∈ vs, v.oneCell' = true) : Rel c (.agg cs) (.agg vs.toArray)
  | tup {xs : List AV} {vs : List Value} (hl : xs.length = vs.length)
      (h : ∀ (i : Nat) (x : AV) (v : Value), xs[i]? = some x → vs[i]? = some v → Rel c x v) :
      Rel c (.tup xs) (.tuple vs.toArray)
  | ptr {b L i o : Nat} {inf : Info} (hm : c.m b = some inf) (hL : inf.len = L) (hv : inf.virt = false) :
      Rel c (.ptr b L i o) (.pointer (some ⟨inf.idx, i * inf.sz + o, none⟩))
  | ptrStale {b L i o : Nat} {inf : Info} (a : Addr) (hm : c.m b = some inf) (hL : L < inf.len) : Rel c (.ptr b L i o) (.pointer (some a))
  | sl {b L o n sz : Nat} {inf : Info} {a : Addr} {cap' : Nat} (hm : c.m b = some inf) (hL : inf.len = L) (hv : inf.virt = false)
      (hsz : inf.sz = sz) (ho : o + n ≤ L) (hcap : cap' + o = inf.cap) (hn : n ≤ cap') (ha : a = ⟨inf.idx, o * sz, none⟩ ∨ (cap' = 0 ∧ o ≠ 0)) :
      Rel c (.sl b L o n sz) (.slice (some a) n cap')
  | slVirt {b sz : Nat} {inf : Info} (hm : c.m b = some inf) (hL : inf.len = 0) (hv : inf.virt = true) (hsz : inf.sz = sz) :
      Rel c (.sl b 0 0 0 sz) (.slice none 0 0)
  | slStale {b L o n sz : Nat} {inf : Info} (a : Option Addr) (cap' : Nat) (hm : c.m b = some inf) (hL : L < inf.len) (hn : n ≤ cap') (ha : a = none → n = 0) : Rel c (.sl b L o n sz) (.slice a n cap')
  | ro {bor : Bool} {xs : List AV} {a : Option Addr} {n cap sz : Nat} {A : Addr} {V : Nat → Nat → Value} (hn : xs.length = n) (hcap : n ≤ cap)
      (ha : xs = [] ∨ a = some A) (hA : A.spot = none)
      (hsz : ∀ (i : Nat) (x : AV), xs[i]? = some x → x.cells.length = sz)
      (h : ∀ (i : Nat) (x : AV) (j : Nat) (y : AV), xs[i]? = some x → x.cells[j]? = some y → Rel c y (V i j))
      (hm : ∀ (i : Nat) (x : AV) (j : Nat) (y : AV), xs[i]? = some x → x.cells[j]? = some y →
        c.mem bor ⟨A.block, A.off + i * sz + j, none⟩ = some (V i j) ∧ (V i j).oneCell' = true) :
      Rel c (.ro bor xs) (.slice a n cap)
  | rp {bor : Bool} {x : AV} {o : Nat} {A : Addr} {V : Nat → Value}
      (h : ∀ (j : Nat) (y : AV), x.cells[j]? = some y → Rel c y (V j))
      (hm : ∀ (j : Nat) (y : AV), x.cells[j]? = some y → c.mem bor ⟨A.block, A.off + j, none⟩ = some (V j) ∧ (V j).oneCell' = true) :
      Rel c (.rp bor x o) (.pointer (some ⟨A.block, A.off + o, none⟩))
  | gl (g : Nat) : Rel c (.gl g) (.pointer (some ⟨g, 0, none⟩))
  | gp {g : Nat} {a : Addr} (h : c.S g = some a) : Rel c (.gp g) (.pointer (some a))
  | nils : Rel c .nils (.slice none 0 0)
  | anyb (b : Bool) : Rel c .anyb (.bool b)

structure Ctx.le (c c' : Ctx) : Prop where
  m : ∀ b inf, c.m b = some inf → ∃ inf', c'.m b = some inf' ∧ inf'.sz = inf.sz ∧ inf.len ≤ inf'.len ∧ (inf'.len = inf.len → inf' = inf)
  M : ∀ a v, c.M a = some v → c'.M a = some v
  B : ∀ a v, c.B a = some v → c'.B a = some v
  S : c'.S = c.S

theorem Ctx.le.refl (c : Ctx) : c.le c := ⟨fun _ inf h => ⟨inf, h, rfl, Nat.le_refl _, fun _ => rfl⟩, fun _ _ h => h, fun _ _ h => h, rfl⟩

theorem Ctx.le.trans {a b c : Ctx} (h : a.le b) (k : b.le c) : a.le c := by
  refine ⟨fun i inf hi => ?_, fun x v hx => k.M _ _ (h.M _ _ hx), fun x v hx => k.B _ _ (h.B _ _ hx), k.S.trans h.S⟩
  obtain ⟨i1, e1, s1, l1, u1⟩ := h.m i inf hi
  obtain ⟨i2, e2, s2, l2, u2⟩ := k.m i i1 e1
  refine ⟨i2, e2, s2.trans s1, Nat.le_trans l1 l2, fun he => ?_⟩
  have : i1.len = inf.len := by omega
  have h3 := u1 this
  have h4 := u2 (by omega)
  rw [h4, h3]

theorem Ctx.le.mem {c c' : Ctx} (h : c.le c') (bor : Bool) (a : Addr) (v : Value) (hv : c.mem bor a = some v) : c'.mem bor a = some v := by
  cases bor
  · exact h.M _ _ hv
  · exact h.B _ _ hv

theorem Rel.mono {c c' : Ctx} (hle : c.le c') {x : AV} {v : Value} (h : Rel c x v) : Rel c' x v := by
  induction h with
  | undef v => exact .undef v
  | bool b => exact .bool b
  | int k n => exact .int k n
  | str s => exact .str s
  | nilp => exact .nilp
  | nilf => exact .nilf
  | nili => exact .nili
  | fn hl _ ih => exact .fn hl ih
  | iface _ ih => exact .iface ih
  | agg hl _ h1 ih => exact .agg hl ih h1
  | tup hl _ ih => exact .tup hl ih
  | ptr hm hL hv =>
    rename_i b L i o inf
    obtain ⟨i', e, s, l, u⟩ := hle.m _ _ hm
    by_cases he : i'.len = inf.len
    · obtain rfl := u he; exact .ptr e hL hv
    · exact .ptrStale _ e (by omega)
  | ptrStale a hm hL =>
    obtain ⟨i', e, s, l, u⟩ := hle.m _ _ hm
    exact .ptrStale _ e (by omega)
  | sl hm hL hv hsz ho hcap hn ha =>
    rename_i b L o n sz inf a cap'
    obtain ⟨i', e, s, l, u⟩ := hle.m _ _ hm
    by_cases he : i'.len = inf.len
    · obtain rfl := u he; exact .sl e hL hv hsz ho hcap hn ha
    · exact .slStale _ _ e (by omega) hn (by simp)
  | slVirt hm hL hv hsz =>
    rename_i b sz inf
    obtain ⟨i', e, s, l, u⟩ := hle.m _ _ hm
    by_cases he : i'.len = inf.len
    · obtain rfl := u he; exact .slVirt e hL hv hsz
    · exact .slStale _ _ e (by omega) (Nat.le_refl _) (by simp)
  | slStale a cap' hm hL hn ha =>
    obtain ⟨i', e, s, l, u⟩ := hle.m _ _ hm
    exact .slStale _ _ e (by omega) hn ha
  | ro hn hcap ha hA hsz _ hm ih => exact .ro hn hcap ha hA hsz ih (fun i x j y h1 h2 => ⟨hle.mem _ _ _ (hm i x j y h1 h2).1, (hm i x j y h1 h2).2⟩)
  | rp _ hm ih => exact .rp ih (fun j y h1 => ⟨hle.mem _ _ _ (hm j y h1).1, (hm j y h1).2⟩)
  | gl g => exact .gl g
  | gp h => exact .gp (by rw [hle.S]; exact h)
  | nils => exact .nils
  | anyb b => exact .anyb b

/-- Pointwise. -/
def RelL (c : Ctx) (xs : List AV) (vs : List Value) : Prop :=
  xs.length = vs.length ∧ ∀ (i : Nat) (x : AV) (v : Value), xs[i]? = some x → vs[i]? = some v → Rel c x v

theorem RelL.mono {c c' : Ctx} (hle : c.le c') {xs : List AV} {vs : List Value} (h : RelL c xs vs) : RelL c' xs vs :=
  ⟨h.1, fun i x v h1 h2 => (h.2 i x v h1 h2).mono hle⟩

theorem RelL.nil {c : Ctx} : RelL c [] [] := ⟨rfl, fun i x v h => by simp at h⟩

theorem RelL.cons {c : Ctx} {x : AV} {v : Value} {xs : List AV} {vs : List Value} (h : Rel c x v) (hs : RelL c xs vs) : RelL c (x :: xs) (v :: vs) := by
  refine ⟨by simp [hs.1], fun i y u h1 h2 => ?_⟩
  cases i with
  | zero => simp at h1 h2; subst h1; subst h2; exact h
  | succ i => simp at h1 h2; exact hs.2 i y u h1 h2

theorem RelL.head {c : Ctx} {x : AV} {v : Value} {xs : List AV} {vs : List Value} (h : RelL c (x :: xs) (v :: vs)) : Rel c x v := h.2 0 x v rfl rfl

theorem RelL.tail {c : Ctx} {x : AV} {v : Value} {xs : List AV} {vs : List Value} (h : RelL c (x :: xs) (v :: vs)) : RelL c xs vs :=
  ⟨by simpa using h.1, fun i y u h1 h2 => h.2 (i + 1) y u (by simpa using h1) (by simpa using h2)⟩

/-! ### Worlds -/

/-- The own blocks' places. -/
def Ctx.own (c : Ctx) (k : Nat) : Prop := ∃ b inf, c.m b = some inf ∧ inf.virt = false ∧ inf.idx = k

/-- What package variables hold, all along. -/
abbrev Globs := Nat → Option AV

structure Good (G : Globs) (c : Ctx) (w : World) : Prop where
  holds : ∀ a v, c.B a = some v → w.cell? a = some v
  MB : ∀ a v, c.M a = some v → c.B a = some v
  away : ∀ k, c.own k → ∀ a, a.block = k → c.B a = none
  sent : ∀ g a, c.S g = some a → ∃ cells elem, w.heap[a.block]? = some (.cells cells elem (0, 0))
  sentAway : ∀ g a, c.S g = some a → ¬ c.own a.block
  sentApart : ∀ g g' a a', c.S g = some a → c.S g' = some a' → g ≠ g' → a ≠ a'
  glob : ∀ g x, G g = some x → ∃ v, c.M ⟨g, 0, none⟩ = some v ∧ Rel c x v
  bound : ∀ k, c.own k → k < w.heap.size

/-- One block. -/
structure BlkAt (c : Ctx) (inf : Info) (blk : ABlk) (w : World) : Prop where
  ty : inf.ty = blk.ty
  sz : inf.sz = blk.sz
  pos : 0 < blk.sz
  len : inf.len = blk.elems.length
  fits : blk.elems.length ≤ inf.cap
  virt : inf.virt = true → inf.cap = 0
  big : inf.cap ≤ maxLen
  real : inf.virt = false → ∃ cells, w.heap[inf.idx]? = some (.cells cells inf.ty (0, 0)) ∧ cells.size = inf.cap * inf.sz
  cells : inf.virt = false → ∀ (i : Nat) (x : AV), blk.elems[i]? = some x → x.cells.length = blk.sz ∧
    ∀ (j : Nat) (y : AV), x.cells[j]? = some y → ∃ v, w.cell? ⟨inf.idx, i * blk.sz + j, none⟩ = some v ∧ Rel c y v ∧ v.oneCell' = true

structure HeapAt (c : Ctx) (H : AHeap) (w : World) : Prop where
  blk : ∀ b blk inf, H[b]? = some blk → c.m b = some inf → BlkAt c inf blk w
  inj : ∀ b b' inf inf', c.m b = some inf → c.m b' = some inf' → inf.virt = false → inf'.virt = false → inf.idx = inf'.idx → b = b'

/-- No place is known of what is no block of the heap. -/
def Dom (c : Ctx) (H : AHeap) : Prop := ∀ b, c.m b ≠ none → b < H.length

/-- From a state to a later one. -/
structure Step (c : Ctx) (w : World) (c' : Ctx) (w' : World) : Prop where
  le : c.le c'
  os : w'.os = w.os
  tape : w'.tape = w.tape
  output : w'.output = w.output
  size : w.heap.size ≤ w'.heap.size
  kept : ∀ k, k < w.heap.size → ¬ c.own k → w'.heap[k]? = w.heap[k]?
  fresh : ∀ b inf, c'.m b = some inf → inf.virt = false → inf.idx < w.heap.size → ∃ i0, c.m b = some i0 ∧ i0.virt = false ∧ i0.idx = inf.idx
  newM : ∀ a v, c'.M a = some v → c.M a = some v ∨ w.heap.size ≤ a.block
  newB : ∀ a v, c'.B a = some v → c.B a = some v ∨ w.heap.size ≤ a.block

theorem Step.own {c : Ctx} {w : World} {c' : Ctx} {w' : World} (h : Step c w c' w') (k : Nat) (ho : c'.own k) (hk : k < w.heap.size) : c.own k := by
  obtain ⟨b, inf, h1, h2, h3⟩ := ho
  obtain ⟨i0, g1, g2, g3⟩ := h.fresh b inf h1 h2 (by omega)
  exact ⟨b, i0, g1, g2, by omega⟩

theorem Step.refl (c : Ctx) (w : World) : Step c w c w :=
  ⟨.refl c, rfl, rfl, rfl, Nat.le_refl _, fun _ _ _ => rfl, fun _ inf h hv _ => ⟨inf, h, hv, rfl⟩, fun _ _ h => .inl h, fun _ _ h => .inl h⟩

theorem Step.trans {c c' c'' : Ctx} {w w' w'' : World} (h : Step c w c' w') (k : Step c' w' c'' w'') : Step c w c'' w'' := by
  refine ⟨h.le.trans k.le, k.os.trans h.os, k.tape.trans h.tape, k.output.trans h.output, Nat.le_trans h.size k.size, fun i hi hn => ?_, fun b inf h1 h2 h3 => ?_, fun a v hv => ?_, fun a v hv => ?_⟩
  · have h1 := h.kept i hi hn
    have h2 := k.kept i (Nat.lt_of_lt_of_le hi h.size) (fun ho => hn (h.own i ho hi))
    rw [h2, h1]
  · obtain ⟨i1, g1, g2, g3⟩ := k.fresh b inf h1 h2 (Nat.lt_of_lt_of_le h3 h.size)
    obtain ⟨i0, e1, e2, e3⟩ := h.fresh b i1 g1 g2 (by omega)
    exact ⟨i0, e1, e2, by omega⟩
  · rcases k.newM a v hv with h1 | h1
    · exact h.newM a v h1
    · exact .inr (Nat.le_trans h.size h1)
  · rcases k.newB a v hv with h1 | h1
    · exact h.newB a v h1
    · exact .inr (Nat.le_trans h.size h1)

end Go.Proofs.YtdfglgnflldkpaaDoor.Mir
