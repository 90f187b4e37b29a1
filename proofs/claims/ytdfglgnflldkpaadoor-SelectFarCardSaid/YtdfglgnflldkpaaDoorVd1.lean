/- Part 1 of the proof: the evaluator and its soundness. -/
import Derived.Calls
import Derived.Orders
import Derived.KernelRfl
import Derived.LaidEqlPtr
import Derived.Laws.MakeOwn
import Derived.Laws.Slices
import Derived.Laws.Build
import Derived.Laws.Cover3
import Derived.Laws.CopyRow
import Derived.Laws.IdiomCopy
namespace Go.Proofs.YtdfglgnflldkpaaDoor.Mir
open Go
set_option linter.unusedVariables false
set_option linter.unusedSimpArgs false
/-- Abstract values. -/
inductive AV where
  | undef
  | bool (b : Bool)
  | int (k : IntKind) (n : Int)
  | str (s : ByteArray)
  | nilp
  | nilf
  | nili
  | fn (f : Nat) (caps : List AV)
  | iface (t : Nat) (v : AV)
  | agg (cs : List AV)
  | tup (vs : List AV)
  | ptr (b L i o : Nat)
  | sl (b L o n sz : Nat)
  | ro (bor : Bool) (xs : List AV)
  | rp (bor : Bool) (x : AV) (o : Nat)
  | gl (g : Nat)
  | gp (g : Nat)
  | nils
  | anyb
instance : Inhabited AV := ⟨.undef⟩
/-- The cells of a value that lies in memory. -/
def AV.cells : AV → List AV
  | .agg cs => cs
  | .undef => [.undef]
  | .bool b => [.bool b]
  | .int k n => [.int k n]
  | .str s => [.str s]
  | .nilp => [.nilp]
  | .nilf => [.nilf]
  | .nili => [.nili]
  | .fn f caps => [.fn f caps]
  | .iface t v => [.iface t v]
  | .tup vs => [.tup vs]
  | .ptr b L i o => [.ptr b L i o]
  | .sl b L o n sz => [.sl b L o n sz]
  | .ro bor xs => [.ro bor xs]
  | .rp bor x o => [.rp bor x o]
  | .gl g => [.gl g]
  | .gp g => [.gp g]
  | .nils => [.nils]
  | .anyb => [.anyb]
/-- A block of the abstract heap: elements of sz cells each. -/
structure ABlk where
  ty : Nat
  sz : Nat
  elems : List AV
abbrev AHeap := List ABlk
/-- Where an own block lies. virt: nowhere yet (a nil slice that may grow). -/
structure Info where
  idx : Nat
  cap : Nat
  ty : Nat
  sz : Nat
  len : Nat
  virt : Bool
structure Ctx where
  m : Nat → Option Info
  M : Addr → Option Value
  B : Addr → Option Value
  S : Nat → Option Addr
def Ctx.mem (c : Ctx) : Bool → Addr → Option Value
  | false => c.M
  | true => c.B
/-- What an abstract value says of a value. -/
inductive Rel (c : Ctx) : AV → Value → Prop
  | undef (v : Value) : Rel c .undef v
  | bool (b : Bool) : Rel c (.bool b) (.bool b)
  | int (k : IntKind) (n : Int) : Rel c (.int k n) (.int k n)
  | str (s : ByteArray) : Rel c (.str s) (.string s)
  | nilp : Rel c .nilp (.pointer none)
  | nilf : Rel c .nilf .nilFunc
  | nili : Rel c .nili .nilIface
  | fn {f : Nat} {caps : List AV} {vs : List Value} (hl : caps.length = vs.length)
      (h : ∀ (i : Nat) (x : AV) (v : Value), caps[i]? = some x → vs[i]? = some v → Rel c x v) :
      Rel c (.fn f caps) (.func (.func f) #[] vs.toArray)
  | iface {t : Nat} {x : AV} {v : Value} (h : Rel c x v) : Rel c (.iface t x) (.iface t v)
  | agg {cs : List AV} {vs : List Value} (hl : cs.length = vs.length)
      (h : ∀ (i : Nat) (x : AV) (v : Value), cs[i]? = some x → vs[i]? = some v → Rel c x v)
      (h1 : ∀ v ∈ vs, v.oneCell' = true) : Rel c (.agg cs) (.agg vs.toArray)
  | tup {xs : List AV} {vs : List Value} (hl : xs.length = vs.length)
      (h : ∀ (i : Nat) (x : AV) (v : Value), xs[i]? = some x → vs[i]? = some v → Rel c x v) :
      Rel c (.tup xs) (.tuple vs.toArray)
  | ptr {b L i o : Nat} {inf : Info} (hm : c.m b = some inf) (hL : inf.len = L) (hv : inf.virt = false) :
      Rel c (.ptr b L i o) (.pointer (some ⟨inf.idx, i * inf.sz + o, none⟩))
  | ptrStale {b L i o : Nat} {inf : Info} (a : Addr) (hm : c.m b = some inf) (hL : L < inf.len) : Rel c (.ptr b L i o) (.pointer (some a))
  | sl {b L o n sz : Nat} {inf : Info} {a : Addr} {cap' : Nat} (hm : c.m b = some inf) (hL : inf.len = L) (hv : inf.virt = false)
      (hsz : inf.sz = sz) (ho : o + n ≤ L) (hcap : cap' + o = inf.cap) (hn : n ≤ cap') (ha : a = ⟨inf.idx, o * sz, none⟩ ∨ (cap' = 0 ∧ o ≠ 0)) :
      Rel c (.sl b L o n sz) (.slice (some a) n cap')
  | slVirt {b sz : Nat} {inf : Info} (hm : c.m b = some inf) (hL : inf.len = 0) (hv : inf.virt = true) (hsz : inf.sz = sz) :
      Rel c (.sl b 0 0 0 sz) (.slice none 0 0)
  | slStale {b L o n sz : Nat} {inf : Info} (a : Option Addr) (cap' : Nat) (hm : c.m b = some inf) (hL : L < inf.len) (hn : n ≤ cap') (ha : a = none → n = 0) : Rel c (.sl b L o n sz) (.slice a n cap')
  | ro {bor : Bool} {xs : List AV} {a : Option Addr} {n cap sz : Nat} {A : Addr} {V : Nat → Nat → Value} (hn : xs.length = n) (hcap : n ≤ cap)
      (ha : xs = [] ∨ a = some A) (hA : A.spot = none)
      (hsz : ∀ (i : Nat) (x : AV), xs[i]? = some x → x.cells.length = sz)
      (h : ∀ (i : Nat) (x : AV) (j : Nat) (y : AV), xs[i]? = some x → x.cells[j]? = some y → Rel c y (V i j))
      (hm : ∀ (i : Nat) (x : AV) (j : Nat) (y : AV), xs[i]? = some x → x.cells[j]? = some y →
        c.mem bor ⟨A.block, A.off + i * sz + j, none⟩ = some (V i j) ∧ (V i j).oneCell' = true) :
      Rel c (.ro bor xs) (.slice a n cap)
  | rp {bor : Bool} {x : AV} {o : Nat} {A : Addr} {V : Nat → Value}
      (h : ∀ (j : Nat) (y : AV), x.cells[j]? = some y → Rel c y (V j))
      (hm : ∀ (j : Nat) (y : AV), x.cells[j]? = some y → c.mem bor ⟨A.block, A.off + j, none⟩ = some (V j) ∧ (V j).oneCell' = true) :
      Rel c (.rp bor x o) (.pointer (some ⟨A.block, A.off + o, none⟩))
  | gl (g : Nat) : Rel c (.gl g) (.pointer (some ⟨g, 0, none⟩))
  | gp {g : Nat} {a : Addr} (h : c.S g = some a) : Rel c (.gp g) (.pointer (some a))
  | nils : Rel c .nils (.slice none 0 0)
  | anyb (b : Bool) : Rel c .anyb (.bool b)
structure Ctx.le (c c' : Ctx) : Prop where
  m : ∀ b inf, c.m b = some inf → ∃ inf', c'.m b = some inf' ∧ inf'.sz = inf.sz ∧ inf.len ≤ inf'.len ∧ (inf'.len = inf.len → inf' = inf)
  M : ∀ a v, c.M a = some v → c'.M a = some v
  B : ∀ a v, c.B a = some v → c'.B a = some v
  S : c'.S = c.S
theorem Ctx.le.refl (c : Ctx) : c.le c := ⟨fun _ inf h => ⟨inf, h, rfl, Nat.le_refl _, fun _ => rfl⟩, fun _ _ h => h, fun _ _ h => h, rfl⟩
theorem Ctx.le.trans {a b c : Ctx} (h : a.le b) (k : b.le c) : a.le c := by
  refine ⟨fun i inf hi => ?_, fun x v hx => k.M _ _ (h.M _ _ hx), fun x v hx => k.B _ _ (h.B _ _ hx), k.S.trans h.S⟩
  obtain ⟨i1, e1, s1, l1, u1⟩ := h.m i inf hi
  obtain ⟨i2, e2, s2, l2, u2⟩ := k.m i i1 e1
  refine ⟨i2, e2, s2.trans s1, Nat.le_trans l1 l2, fun he => ?_⟩
  have : i1.len = inf.len := by omega
  have h3 := u1 this
  have h4 := u2 (by omega)
  rw [h4, h3]
theorem Ctx.le.mem {c c' : Ctx} (h : c.le c') (bor : Bool) (a : Addr) (v : Value) (hv : c.mem bor a = some v) : c'.mem bor a = some v := by
  cases bor
  · exact h.M _ _ hv
  · exact h.B _ _ hv
theorem Rel.mono {c c' : Ctx} (hle : c.le c') {x : AV} {v : Value} (h : Rel c x v) : Rel c' x v := by
  induction h with
  | undef v => exact .undef v
  | bool b => exact .bool b
  | int k n => exact .int k n
  | str s => exact .str s
  | nilp => exact .nilp
  | nilf => exact .nilf
  | nili => exact .nili
  | fn hl _ ih => exact .fn hl ih
  | iface _ ih => exact .iface ih
  | agg hl _ h1 ih => exact .agg hl ih h1
  | tup hl _ ih => exact .tup hl ih
  | ptr hm hL hv =>
    rename_i b L i o inf
    obtain ⟨i', e, s, l, u⟩ := hle.m _ _ hm
    by_cases he : i'.len = inf.len
    · obtain rfl := u he; exact .ptr e hL hv
    · exact .ptrStale _ e (by omega)
  | ptrStale a hm hL =>
    obtain ⟨i', e, s, l, u⟩ := hle.m _ _ hm
    exact .ptrStale _ e (by omega)
  | sl hm hL hv hsz ho hcap hn ha =>
    rename_i b L o n sz inf a cap'
    obtain ⟨i', e, s, l, u⟩ := hle.m _ _ hm
    by_cases he : i'.len = inf.len
    · obtain rfl := u he; exact .sl e hL hv hsz ho hcap hn ha
    · exact .slStale _ _ e (by omega) hn (by simp)
  | slVirt hm hL hv hsz =>
    rename_i b sz inf
    obtain ⟨i', e, s, l, u⟩ := hle.m _ _ hm
    by_cases he : i'.len = inf.len
    · obtain rfl := u he; exact .slVirt e hL hv hsz
    · exact .slStale _ _ e (by omega) (Nat.le_refl _) (by simp)
  | slStale a cap' hm hL hn ha =>
    obtain ⟨i', e, s, l, u⟩ := hle.m _ _ hm
    exact .slStale _ _ e (by omega) hn ha
  | ro hn hcap ha hA hsz _ hm ih => exact .ro hn hcap ha hA hsz ih (fun i x j y h1 h2 => ⟨hle.mem _ _ _ (hm i x j y h1 h2).1, (hm i x j y h1 h2).2⟩)
  | rp _ hm ih => exact .rp ih (fun j y h1 => ⟨hle.mem _ _ _ (hm j y h1).1, (hm j y h1).2⟩)
  | gl g => exact .gl g
  | gp h => exact .gp (by rw [hle.S]; exact h)
  | nils => exact .nils
  | anyb b => exact .anyb b
/-- Pointwise. -/
def RelL (c : Ctx) (xs : List AV) (vs : List Value) : Prop :=
  xs.length = vs.length ∧ ∀ (i : Nat) (x : AV) (v : Value), xs[i]? = some x → vs[i]? = some v → Rel c x v
theorem RelL.mono {c c' : Ctx} (hle : c.le c') {xs : List AV} {vs : List Value} (h : RelL c xs vs) : RelL c' xs vs :=
  ⟨h.1, fun i x v h1 h2 => (h.2 i x v h1 h2).mono hle⟩
theorem RelL.nil {c : Ctx} : RelL c [] [] := ⟨rfl, fun i x v h => by simp at h⟩
theorem RelL.cons {c : Ctx} {x : AV} {v : Value} {xs : List AV} {vs : List Value} (h : Rel c x v) (hs : RelL c xs vs) : RelL c (x :: xs) (v :: vs) := by
  refine ⟨by simp [hs.1], fun i y u h1 h2 => ?_⟩
  cases i with
  | zero => simp at h1 h2; subst h1; subst h2; exact h
  | succ i => simp at h1 h2; exact hs.2 i y u h1 h2
theorem RelL.head {c : Ctx} {x : AV} {v : Value} {xs : List AV} {vs : List Value} (h : RelL c (x :: xs) (v :: vs)) : Rel c x v := h.2 0 x v rfl rfl
theorem RelL.tail {c : Ctx} {x : AV} {v : Value} {xs : List AV} {vs : List Value} (h : RelL c (x :: xs) (v :: vs)) : RelL c xs vs :=
  ⟨by simpa using h.1, fun i y u h1 h2 => h.2 (i + 1) y u (by simpa using h1) (by simpa using h2)⟩
/-! ### Worlds -/
/-- The own blocks' places. -/
def Ctx.own (c : Ctx) (k : Nat) : Prop := ∃ b inf, c.m b = some inf ∧ inf.virt = false ∧ inf.idx = k
/-- What package variables hold, all along. -/
abbrev Globs := Nat → Option AV
structure Good (G : Globs) (c : Ctx) (w : World) : Prop where
  holds : ∀ a v, c.B a = some v → w.cell? a = some v
  MB : ∀ a v, c.M a = some v → c.B a = some v
  away : ∀ k, c.own k → ∀ a, a.block = k → c.B a = none
  sent : ∀ g a, c.S g = some a → ∃ cells elem, w.heap[a.block]? = some (.cells cells elem (0, 0))
  sentAway : ∀ g a, c.S g = some a → ¬ c.own a.block
  sentApart : ∀ g g' a a', c.S g = some a → c.S g' = some a' → g ≠ g' → a ≠ a'
  glob : ∀ g x, G g = some x → ∃ v, c.M ⟨g, 0, none⟩ = some v ∧ Rel c x v
  bound : ∀ k, c.own k → k < w.heap.size
/-- One block. -/
structure BlkAt (c : Ctx) (inf : Info) (blk : ABlk) (w : World) : Prop where
  ty : inf.ty = blk.ty
  sz : inf.sz = blk.sz
  pos : 0 < blk.sz
  len : inf.len = blk.elems.length
  fits : blk.elems.length ≤ inf.cap
  virt : inf.virt = true → inf.cap = 0
  big : inf.cap ≤ maxLen
  real : inf.virt = false → ∃ cells, w.heap[inf.idx]? = some (.cells cells inf.ty (0, 0)) ∧ cells.size = inf.cap * inf.sz
  cells : inf.virt = false → ∀ (i : Nat) (x : AV), blk.elems[i]? = some x → x.cells.length = blk.sz ∧
    ∀ (j : Nat) (y : AV), x.cells[j]? = some y → ∃ v, w.cell? ⟨inf.idx, i * blk.sz + j, none⟩ = some v ∧ Rel c y v ∧ v.oneCell' = true
structure HeapAt (c : Ctx) (H : AHeap) (w : World) : Prop where
  blk : ∀ b blk inf, H[b]? = some blk → c.m b = some inf → BlkAt c inf blk w
  inj : ∀ b b' inf inf', c.m b = some inf → c.m b' = some inf' → inf.virt = false → inf'.virt = false → inf.idx = inf'.idx → b = b'
/-- No place is known of what is no block of the heap. -/
def Dom (c : Ctx) (H : AHeap) : Prop := ∀ b, c.m b ≠ none → b < H.length
/-- From a state to a later one. -/
structure Step (c : Ctx) (w : World) (c' : Ctx) (w' : World) : Prop where
  le : c.le c'
  os : w'.os = w.os
  tape : w'.tape = w.tape
  output : w'.output = w.output
  size : w.heap.size ≤ w'.heap.size
  kept : ∀ k, k < w.heap.size → ¬ c.own k → w'.heap[k]? = w.heap[k]?
  fresh : ∀ b inf, c'.m b = some inf → inf.virt = false → inf.idx < w.heap.size → ∃ i0, c.m b = some i0 ∧ i0.virt = false ∧ i0.idx = inf.idx
  newM : ∀ a v, c'.M a = some v → c.M a = some v ∨ w.heap.size ≤ a.block
  newB : ∀ a v, c'.B a = some v → c.B a = some v ∨ w.heap.size ≤ a.block
theorem Step.own {c : Ctx} {w : World} {c' : Ctx} {w' : World} (h : Step c w c' w') (k : Nat) (ho : c'.own k) (hk : k < w.heap.size) : c.own k := by
  obtain ⟨b, inf, h1, h2, h3⟩ := ho
  obtain ⟨i0, g1, g2, g3⟩ := h.fresh b inf h1 h2 (by omega)
  exact ⟨b, i0, g1, g2, by omega⟩
theorem Step.refl (c : Ctx) (w : World) : Step c w c w :=
  ⟨.refl c, rfl, rfl, rfl, Nat.le_refl _, fun _ _ _ => rfl, fun _ inf h hv _ => ⟨inf, h, hv, rfl⟩, fun _ _ h => .inl h, fun _ _ h => .inl h⟩
theorem Step.trans {c c' c'' : Ctx} {w w' w'' : World} (h : Step c w c' w') (k : Step c' w' c'' w'') : Step c w c'' w'' := by
  refine ⟨h.le.trans k.le, k.os.trans h.os, k.tape.trans h.tape, k.output.trans h.output, Nat.le_trans h.size k.size, fun i hi hn => ?_, fun b inf h1 h2 h3 => ?_, fun a v hv => ?_, fun a v hv => ?_⟩
  · have h1 := h.kept i hi hn
    have h2 := k.kept i (Nat.lt_of_lt_of_le hi h.size) (fun ho => hn (h.own i ho hi))
    rw [h2, h1]
  · obtain ⟨i1, g1, g2, g3⟩ := k.fresh b inf h1 h2 (Nat.lt_of_lt_of_le h3 h.size)
    obtain ⟨i0, e1, e2, e3⟩ := h.fresh b i1 g1 g2 (by omega)
    exact ⟨i0, e1, e2, by omega⟩
  · rcases k.newM a v hv with h1 | h1
    · exact h.newM a v h1
    · exact .inr (Nat.le_trans h.size h1)
  · rcases k.newB a v hv with h1 | h1
    · exact h.newB a v h1
    · exact .inr (Nat.le_trans h.size h1)
end Go.Proofs.YtdfglgnflldkpaaDoor.Mir
namespace Go.Proofs.YtdfglgnflldkpaaDoor.Mir
open Go
set_option linter.unusedVariables false
set_option linter.unusedSimpArgs false
/-- Cells from a place on. -/
def CellsAt (c : Ctx) (w : World) (blk off : Nat) (cs : List AV) : Prop :=
  ∀ (j : Nat) (y : AV), cs[j]? = some y → ∃ v, w.cell? ⟨blk, off + j, none⟩ = some v ∧ Rel c y v ∧ v.oneCell' = true
theorem CellsAt.drop {c : Ctx} {w : World} {blk off : Nat} {cs : List AV} (h : CellsAt c w blk off cs) (n : Nat) : CellsAt c w blk (off + n) (cs.drop n) := by
  intro j y hy
  rw [List.getElem?_drop] at hy
  have := h (n + j) y hy
  rwa [← Nat.add_assoc] at this
theorem CellsAt.take {c : Ctx} {w : World} {blk off : Nat} {cs : List AV} (h : CellsAt c w blk off cs) (n : Nat) : CellsAt c w blk off (cs.take n) := by
  intro j y hy
  rw [List.getElem?_take] at hy
  split at hy
  · exact h j y hy
  · simp at hy
/-- The values of these cells, as a list. -/
theorem CellsAt.vals {c : Ctx} {w : World} {blk off : Nat} {cs : List AV} (h : CellsAt c w blk off cs) :
    ∃ vs : List Value, RelL c cs vs ∧ (∀ j v, vs[j]? = some v → w.cell? ⟨blk, off + j, none⟩ = some v) ∧ ∀ v ∈ vs, v.oneCell' = true := by
  induction cs generalizing off with
  | nil => exact ⟨[], .nil, by simp, by simp⟩
  | cons y cs ih =>
    obtain ⟨v, h1, h2, h3⟩ := h 0 y rfl
    have h' : CellsAt c w blk (off + 1) cs := by
      intro j z hz
      have := h (j + 1) z (by simpa using hz)
      rwa [show off + (j + 1) = off + 1 + j by omega] at this
    obtain ⟨vs, a, b, d⟩ := ih h'
    refine ⟨v :: vs, .cons h2 a, fun j u hu => ?_, fun u hu => ?_⟩
    · cases j with
      | zero => simp at hu; subst hu; simpa using h1
      | succ j => simp at hu; have := b j u hu; rwa [show off + 1 + j = off + (j + 1) by omega] at this
    · rcases List.mem_cons.1 hu with rfl | hu
      · exact h3
      · exact d u hu
theorem RelL.get {c : Ctx} {xs : List AV} {vs : List Value} (h : RelL c xs vs) {i : Nat} {x : AV} (hx : xs[i]? = some x) : ∃ v, vs[i]? = some v ∧ Rel c x v := by
  have hi : i < xs.length := (List.getElem?_eq_some_iff.1 hx).1
  have : i < vs.length := h.1 ▸ hi
  exact ⟨vs[i], List.getElem?_eq_getElem this, h.2 i x _ hx (List.getElem?_eq_getElem this)⟩
theorem BlkAt.at {c : Ctx} {inf : Info} {blk : ABlk} {w : World} (h : BlkAt c inf blk w) (hv : inf.virt = false) {i : Nat} {x : AV} (hx : blk.elems[i]? = some x) :
    CellsAt c w inf.idx (i * inf.sz) x.cells := by
  intro j y hy
  rw [h.sz]
  exact (h.cells hv i x hx).2 j y hy
theorem BlkAt.kept {c c' : Ctx} {inf : Info} {blk : ABlk} {w w' : World} (hle : c.le c') (h : BlkAt c inf blk w) (hw : inf.virt = false → w'.heap[inf.idx]? = w.heap[inf.idx]?) :
    BlkAt c' inf blk w' := by
  refine ⟨h.ty, h.sz, h.pos, h.len, h.fits, h.virt, h.big, fun hv => ?_, fun hv i x hx => ?_⟩
  · rw [hw hv]; exact h.real hv
  · refine ⟨(h.cells hv i x hx).1, fun j y hy => ?_⟩
    obtain ⟨v, h1, h2, h3⟩ := (h.cells hv i x hx).2 j y hy
    refine ⟨v, ?_, h2.mono hle, h3⟩
    rw [World.cell?_of_block (w := w) (a := ⟨inf.idx, i * blk.sz + j, none⟩) (hw hv)]
    exact h1
/-- What a step must keep for everything else to stay. -/
theorem Good.step {G : Globs} {c c' : Ctx} {w w' : World} (h : Good G c w) (hs : Step c w c' w')
    (hB : ∀ a v, c'.B a = some v → w'.cell? a = some v) (hMB : ∀ a v, c'.M a = some v → c'.B a = some v) (haway : ∀ k, c'.own k → ∀ a, a.block = k → c'.B a = none)
    (hbound : ∀ k, c'.own k → k < w'.heap.size) : Good G c' w' := by
  refine ⟨hB, hMB, haway, fun g a hg => ?_, fun g a hg => ?_, fun g g' a a' h1 h2 => ?_, fun g x hg => ?_, hbound⟩
  · rw [hs.le.S] at hg
    obtain ⟨cells, elem, hc⟩ := h.sent g a hg
    have hlt : a.block < w.heap.size := (Array.getElem?_eq_some_iff.1 hc).1
    exact ⟨cells, elem, by rw [hs.kept _ hlt (h.sentAway g a hg)]; exact hc⟩
  · rw [hs.le.S] at hg
    obtain ⟨cells, elem, hc⟩ := h.sent g a hg
    have hlt : a.block < w.heap.size := (Array.getElem?_eq_some_iff.1 hc).1
    exact fun ho => h.sentAway g a hg (hs.own _ ho hlt)
  · rw [hs.le.S] at h1 h2
    exact h.sentApart g g' a a' h1 h2
  · obtain ⟨v, h1, h2⟩ := h.glob g x hg
    exact ⟨v, hs.le.M _ _ h1, h2.mono hs.le⟩
/-- The world alone has turned, and the own blocks are as they were; the cells of c are still there. -/
theorem Good.world {G : Globs} {c : Ctx} {w w' : World} (h : Good G c w) (hs : Step c w c w') : Good G c w' := by
  refine h.step hs (fun a v hv => ?_) h.MB h.away (fun k hk => Nat.lt_of_lt_of_le (h.bound k hk) hs.size)
  have h1 := h.holds a v hv
  have hlt : a.block < w.heap.size := block_lt_of_cell h1
  by_cases ho : c.own a.block
  · rw [h.away _ ho a rfl] at hv; cases hv
  · rw [World.cell?_of_block (w := w) (hs.kept _ hlt ho)]; exact h1
/-- An own block's cells are laid anew. -/
theorem Step.setRow {c : Ctx} {w : World} {k : Nat} (ho : c.own k) (cs : Array Value) : Step c w c (w.setRow k cs) :=
  ⟨.refl c, rfl, rfl, rfl, by simp, fun i _ hn => setRow_other w k i cs (fun e => hn (e ▸ ho)), fun _ inf h hv _ => ⟨inf, h, hv, rfl⟩, fun _ _ h => .inl h, fun _ _ h => .inl h⟩
theorem HeapAt.set {c : Ctx} {H : AHeap} {w : World} {b : Nat} {inf : Info} {blk' : ABlk} {cs : Array Value}
    (h : HeapAt c H w) (hm : c.m b = some inf) (hv : inf.virt = false) (hb : BlkAt c inf blk' (w.setRow inf.idx cs)) : HeapAt c (H.set b blk') (w.setRow inf.idx cs) := by
  refine ⟨fun b' blk'' inf' hH hm' => ?_, h.inj⟩
  by_cases hbb : b = b'
  · subst hbb
    obtain rfl := Option.some.inj (hm.symm.trans hm')
    have hlt : b < H.length := by have := (List.getElem?_eq_some_iff.1 hH).1; simpa using this
    rw [List.getElem?_set_self hlt] at hH
    obtain rfl := Option.some.inj hH
    exact hb
  · rw [List.getElem?_set_ne hbb] at hH
    refine (h.blk b' blk'' inf' hH hm').kept (.refl c) (fun hv' => setRow_other w _ _ _ (fun e => hbb ?_))
    exact h.inj b b' inf inf' hm hm' hv hv' e.symm
/-- A new block of the call's own. -/
def Ctx.push (c : Ctx) (n : Nat) (inf : Info) : Ctx := { c with m := fun b => if b = n then some inf else c.m b }
theorem Ctx.push_le {c : Ctx} {n : Nat} {inf : Info} (hn : c.m n = none) : c.le (c.push n inf) := by
  refine ⟨fun b i hb => ⟨i, ?_, rfl, Nat.le_refl _, fun _ => rfl⟩, fun _ _ h => h, fun _ _ h => h, rfl⟩
  have : b ≠ n := fun e => by subst e; rw [hn] at hb; cases hb
  simp [Ctx.push, this, hb]
theorem Ctx.push_own {c : Ctx} {n : Nat} {inf : Info} {k : Nat} (h : (c.push n inf).own k) : c.own k ∨ (inf.virt = false ∧ inf.idx = k) := by
  obtain ⟨b, i, hb, hv, hk⟩ := h
  by_cases hbn : b = n
  · simp [Ctx.push, hbn] at hb; subst hb; exact .inr ⟨hv, hk⟩
  · simp [Ctx.push, hbn] at hb; exact .inl ⟨b, i, hb, hv, hk⟩
theorem Step.push {c : Ctx} {w : World} {n : Nat} {inf : Info} (o : Obj) (hn : c.m n = none) (hi : inf.virt = false → inf.idx = w.heap.size) : Step c w (c.push n inf) (w.alloc o) := by
  refine ⟨Ctx.push_le hn, rfl, rfl, rfl, by simp, fun k hk _ => heap_alloc_old w o k hk, fun b i hb hv hlt => ?_, fun _ _ h => .inl h, fun _ _ h => .inl h⟩
  by_cases e : b = n
  · simp [Ctx.push, e] at hb; subst hb
    have := hi hv; omega
  · simp [Ctx.push, e] at hb
    exact ⟨i, hb, hv, rfl⟩
theorem Good.push {G : Globs} {c : Ctx} {w : World} {n : Nat} {inf : Info} (o : Obj) (h : Good G c w) (hn : c.m n = none) (hi : inf.virt = false → inf.idx = w.heap.size) :
    Good G (c.push n inf) (w.alloc o) := by
  refine h.step (Step.push o hn hi) (fun a v hv => ?_) h.MB (fun k hk a ha => ?_) (fun k hk => ?_)
  · have h1 := h.holds a v hv
    rw [World.cell?_alloc_lt w _ _ (block_lt_of_cell h1)]; exact h1
  · rcases Ctx.push_own hk with h1 | ⟨h1, h2⟩
    · exact h.away k h1 a ha
    · have e := hi h1
      cases hB : (c.push n inf).B a with
      | none => rfl
      | some v => exact absurd (block_lt_of_cell (h.holds a v hB)) (by omega)
  · rcases Ctx.push_own hk with h1 | ⟨h1, h2⟩
    · have := h.bound k h1; simp; omega
    · have := hi h1; simp; omega
/-- A block whose cells are these. -/
theorem BlkAt.new {c : Ctx} {w : World} {blk : ABlk} {cap : Nat} {vals : List Value} (hpos : 0 < blk.sz) (hlen : blk.elems.length ≤ cap) (hcap : cap ≤ maxLen)
    (hsz : vals.length = cap * blk.sz)
    (hrel : ∀ (i : Nat) (x : AV), blk.elems[i]? = some x → x.cells.length = blk.sz ∧ ∀ (j : Nat) (y : AV), x.cells[j]? = some y → ∃ v, vals[i * blk.sz + j]? = some v ∧ Rel c y v ∧ v.oneCell' = true)
    {idx : Nat} (hw : w.heap[idx]? = some (.cells vals.toArray blk.ty (0, 0))) :
    BlkAt c ⟨idx, cap, blk.ty, blk.sz, blk.elems.length, false⟩ blk w := by
  refine ⟨rfl, rfl, hpos, rfl, hlen, by simp, hcap, fun _ => ⟨_, hw, by simpa using hsz⟩, fun _ i x hx => ?_⟩
  obtain ⟨h1, h2⟩ := hrel i x hx
  refine ⟨h1, fun j y hy => ?_⟩
  obtain ⟨v, e1, e2, e3⟩ := h2 j y hy
  refine ⟨v, ?_, e2, e3⟩
  rw [cell_of_row w idx _ _ blk.ty (0, 0) hw]
  simpa using e1
theorem HeapAt.push {c : Ctx} {H : AHeap} {w : World} {inf : Info} {blk : ABlk} {o : Obj} (h : HeapAt c H w) {G : Globs} (hg : Good G c w)
    (hn : c.m H.length = none) (hi : inf.virt = false → inf.idx = w.heap.size) (hb : BlkAt (c.push H.length inf) inf blk (w.alloc o)) :
    HeapAt (c.push H.length inf) (H ++ [blk]) (w.alloc o) := by
  refine ⟨fun b blk' inf' hH hm => ?_, fun b b' i i' hm hm' hv hv' he => ?_⟩
  · by_cases hbn : b = H.length
    · subst hbn
      simp [Ctx.push] at hm; subst hm
      simp at hH; subst hH
      exact hb
    · simp [Ctx.push, hbn] at hm
      have hlt : b < H.length := by have := (List.getElem?_eq_some_iff.1 hH).1; simp at this; omega
      rw [List.getElem?_append_left hlt] at hH
      refine (h.blk b blk' inf' hH hm).kept (Ctx.push_le hn) (fun hv => heap_alloc_old w o _ (hg.bound _ ⟨b, inf', hm, hv, rfl⟩))
  · by_cases hbn : b = H.length <;> by_cases hbn' : b' = H.length
    · rw [hbn, hbn']
    · simp [Ctx.push, hbn] at hm; subst hm
      simp [Ctx.push, hbn'] at hm'
      have := hg.bound _ ⟨b', i', hm', hv', rfl⟩
      have := hi hv
      omega
    · simp [Ctx.push, hbn'] at hm'; subst hm'
      simp [Ctx.push, hbn] at hm
      have := hg.bound _ ⟨b, i, hm, hv, rfl⟩
      have := hi hv'
      omega
    · simp [Ctx.push, hbn] at hm
      simp [Ctx.push, hbn'] at hm'
      exact h.inj b b' i i' hm hm' hv hv' he
end Go.Proofs.YtdfglgnflldkpaaDoor.Mir
namespace Go.Proofs.YtdfglgnflldkpaaDoor.Mir
open Go
set_option linter.unusedVariables false
set_option linter.unusedSimpArgs false
/-! ### Constants -/
def ofVal1 : Value → AV
  | .bool b => .bool b
  | .int k n => .int k n
  | .string s => .str s
  | .pointer none => .nilp
  | .slice none 0 0 => .nils
  | .nilFunc => .nilf
  | .nilIface => .nili
  | .func (.func f) a b => if a.size = 0 then if b.size = 0 then .fn f [] else .undef else .undef
  | _ => .undef
def ofVal : Value → AV
  | .agg cells => if cells.toList.all Value.oneCell' then .agg (cells.toList.map ofVal1) else .undef
  | .tuple vs => if vs.size = 0 then .tup [] else .undef
  | v => ofVal1 v
theorem Rel.roNil (c : Ctx) (bor : Bool) (a : Option Addr) (cap : Nat) : Rel c (.ro bor []) (.slice a 0 cap) :=
  .ro (A := default) (V := fun _ _ => .nilIface) (sz := 0) rfl (Nat.zero_le _) (.inl rfl) rfl (by simp) (by simp) (by simp)
theorem rel_ofVal1 (c : Ctx) (v : Value) : Rel c (ofVal1 v) v := by
  unfold ofVal1
  split
  · exact .bool _
  · exact .int _ _
  · exact .str _
  · exact .nilp
  · exact .nils
  · exact .nilf
  · exact .nili
  · rename_i f a b
    split
    · rename_i h
      split
      · rename_i h'
        obtain rfl := Array.size_eq_zero_iff.1 h
        obtain rfl := Array.size_eq_zero_iff.1 h'
        exact .fn (vs := []) rfl (by simp)
      · exact .undef _
    · exact .undef _
  · exact .undef _
theorem rel_ofVal (c : Ctx) (v : Value) : Rel c (ofVal v) v := by
  unfold ofVal
  split
  · rename_i cells
    split
    · rename_i h
      have := Rel.agg (c := c) (cs := cells.toList.map ofVal1) (vs := cells.toList) (by simp) (fun i x v h1 h2 => by
        simp only [List.getElem?_map, h2, Option.map_some, Option.some.injEq] at h1
        subst h1; exact rel_ofVal1 c v) (fun v hv => List.all_eq_true.1 h v hv)
      simpa using this
    · exact .undef _
  · rename_i vs
    split
    · rename_i h
      obtain rfl := Array.size_eq_zero_iff.1 h
      exact .tup (vs := []) rfl (by simp)
    · exact .undef _
  · exact rel_ofVal1 c v
/-! ### What a relation tells -/
theorem Rel.of_int {c : Ctx} {k : IntKind} {n : Int} {v : Value} (h : Rel c (.int k n) v) : v = .int k n := by cases h; rfl
theorem Rel.of_bool {c : Ctx} {b : Bool} {v : Value} (h : Rel c (.bool b) v) : v = .bool b := by cases h; rfl
theorem Rel.of_str {c : Ctx} {s : ByteArray} {v : Value} (h : Rel c (.str s) v) : v = .string s := by cases h; rfl
theorem Rel.of_nilp {c : Ctx} {v : Value} (h : Rel c .nilp v) : v = .pointer none := by cases h; rfl
theorem Rel.of_nils {c : Ctx} {v : Value} (h : Rel c .nils v) : v = .slice none 0 0 := by cases h; rfl
theorem Rel.of_anyb {c : Ctx} {v : Value} (h : Rel c .anyb v) : ∃ b, v = .bool b := by cases h; exact ⟨_, rfl⟩
theorem Rel.of_nilf {c : Ctx} {v : Value} (h : Rel c .nilf v) : v = .nilFunc := by cases h; rfl
theorem Rel.of_nili {c : Ctx} {v : Value} (h : Rel c .nili v) : v = .nilIface := by cases h; rfl
theorem Rel.of_iface {c : Ctx} {t : Nat} {x : AV} {v : Value} (h : Rel c (.iface t x) v) : ∃ u, v = .iface t u ∧ Rel c x u := by cases h; exact ⟨_, rfl, ‹_›⟩
theorem Rel.of_gl {c : Ctx} {g : Nat} {v : Value} (h : Rel c (.gl g) v) : v = .pointer (some ⟨g, 0, none⟩) := by cases h; rfl
theorem Rel.of_gp {c : Ctx} {g : Nat} {v : Value} (h : Rel c (.gp g) v) : ∃ a, c.S g = some a ∧ v = .pointer (some a) := by cases h; exact ⟨_, ‹_›, rfl⟩
theorem Rel.of_agg {c : Ctx} {cs : List AV} {v : Value} (h : Rel c (.agg cs) v) : ∃ vs : List Value, v = .agg vs.toArray ∧ RelL c cs vs ∧ ∀ u ∈ vs, u.oneCell' = true := by
  cases h; exact ⟨_, rfl, ⟨‹_›, ‹_›⟩, ‹_›⟩
theorem Rel.of_tup {c : Ctx} {cs : List AV} {v : Value} (h : Rel c (.tup cs) v) : ∃ vs : List Value, v = .tuple vs.toArray ∧ RelL c cs vs := by
  cases h; exact ⟨_, rfl, ⟨‹_›, ‹_›⟩⟩
theorem Rel.of_fn {c : Ctx} {f : Nat} {cs : List AV} {v : Value} (h : Rel c (.fn f cs) v) : ∃ vs : List Value, v = .func (.func f) #[] vs.toArray ∧ RelL c cs vs := by
  cases h; exact ⟨_, rfl, ⟨‹_›, ‹_›⟩⟩
/-! ### Integers, strings, truth -/
def binInt (op : BinOp) (k : IntKind) (a b : Int) : Option AV :=
  match op with
  | .add => some (.int k (k.wrap (a + b)))
  | .sub => some (.int k (k.wrap (a - b)))
  | .mul => some (.int k (k.wrap (a * b)))
  | .quo => if b = 0 then none else some (.int k (k.wrap (a.tdiv b)))
  | .rem => if b = 0 then none else some (.int k (a.tmod b))
  | .and => some (.int k (bits .and k a b))
  | .or => some (.int k (bits .or k a b))
  | .xor => some (.int k (bits .xor k a b))
  | .andNot => some (.int k (bits .andNot k a b))
  | .eql => some (.bool (a == b))
  | .neq => some (.bool (a != b))
  | .lss => some (.bool (decide (a < b)))
  | .leq => some (.bool (decide (a ≤ b)))
  | .gtr => some (.bool (decide (a > b)))
  | .geq => some (.bool (decide (a ≥ b)))
  | _ => none
def shiftInt (op : BinOp) (k : IntKind) (a b : Int) : Option AV :=
  if b < 0 then none else
  match op with
  | .shl => some (.int k (k.wrap (a * 2 ^ min b.toNat k.bits)))
  | .shr => some (.int k (a.fdiv (2 ^ min b.toNat k.bits)))
  | _ => none
def binStr (op : BinOp) (a b : ByteArray) : Option AV :=
  match op with
  | .add => if a.size + b.size ≤ 9223372036854775807 then some (.str (a ++ b)) else none
  | .eql => some (.bool (a.toList == b.toList))
  | .neq => some (.bool !(a.toList == b.toList))
  | _ => none
/-- Are two values of an interface, a function, a truth the same? -/
def eqPlain : AV → AV → Option Bool
  | .bool a, .bool b => some (a == b)
  | .nili, .nili => some true
  | .nili, .iface _ _ => some false
  | .iface _ _, .nili => some false
  | .nilf, .nilf => some true
  | .nilf, .fn _ _ => some false
  | .fn _ _, .nilf => some false
  | .iface t (.gp g), .iface t' (.gp g') => if t = t' then some (g == g') else none
  | _, _ => none
/-- The type of what is compared, as it must be. -/
def eqType (P : Program) (t : TypeId) : AV → AV → Bool
  | .bool _, .bool _ => match P.underlying t with | some .bool => true | _ => false
  | .nilf, _ => match P.underlying t with | some (.func ..) => true | _ => false
  | .fn .., _ => match P.underlying t with | some (.func ..) => true | _ => false
  | .iface tx (.gp _), .iface .. => (match P.underlying t with | some (.interface _) => true | _ => false) &&
      (match P.info? tx with | some i => i.comparable | none => false) && (match P.underlying tx with | some (.pointer e) => (match P.info? e with | some i => i.size != 0 | none => false) | _ => false)
  | _, _ => match P.underlying t with | some (.interface _) => true | _ => false
/-- Is a slice nil? -/
def isNilA : AV → Option AV
  | .nils => some (.bool true)
  | .ro _ xs => match xs with
    | [] => some .anyb
    | _ :: _ => some (.bool false)
  | .sl _ _ _ n _ => match n with
    | 0 => some .anyb
    | _ + 1 => some (.bool false)
  | _ => none
/-- Is a pointer nil? -/
def isNilP : AV → Option AV
  | .nilp => some (.bool true)
  | .ptr .. => some (.bool false)
  | .rp .. => some (.bool false)
  | .gl _ => some (.bool false)
  | .gp _ => some (.bool false)
  | _ => none
def isPtrT (P : Program) (t : TypeId) : Bool := match P.underlying t with | some (.pointer _) => true | _ => false
theorem isNilP_sound {c : Ctx} {x r : AV} (h : isNilP x = some r) {v : Value} (hx : Rel c x v) : ∃ a : Option Addr, v = .pointer a ∧ Rel c r (.bool a.isNone) := by
  unfold isNilP at h
  split at h
  · simp at h; subst h; cases hx; exact ⟨none, rfl, .bool true⟩
  · simp at h; subst h; cases hx <;> exact ⟨_, rfl, .bool false⟩
  · simp at h; subst h; cases hx; exact ⟨_, rfl, .bool false⟩
  · simp at h; subst h; cases hx; exact ⟨_, rfl, .bool false⟩
  · simp at h; subst h; cases hx; exact ⟨_, rfl, .bool false⟩
  · cases h
theorem run_equal_ptr_nil {P : Program} (w : World) (t e : TypeId) (a : Option Addr) (h : P.underlying t = some (.pointer e)) : (Op.equal t (.pointer a) (.pointer none)).run P w = .ok a.isNone w := by
  have : ∀ d : Nat, (Op.equalIn (d + 1) t (.pointer a) (.pointer none)).run P w = .ok a.isNone w := fun d => by
    cases a <;> simp [Op.equalIn, run_underlying h]
  exact this 9999
def notA : AV → AV
  | .bool b => .bool !b
  | x => x
def isSliceT (P : Program) (t : TypeId) : Bool := match P.underlying t with | some (.slice _) => true | _ => false
theorem isNilA_sound {c : Ctx} {x r : AV} (h : isNilA x = some r) {v : Value} (hx : Rel c x v) : ∃ a n m, v = .slice a n m ∧ Rel c r (.bool a.isNone) := by
  unfold isNilA at h
  split at h
  · simp at h; subst h
    obtain rfl := hx.of_nils
    exact ⟨none, 0, 0, rfl, .bool true⟩
  · split at h
    · simp at h; subst h
      cases hx with
      | ro => exact ⟨_, _, _, rfl, .anyb _⟩
    · simp at h; subst h
      cases hx with
      | ro hn hcap ha hA hsz hrel hm =>
        rcases ha with h0 | rfl
        · cases h0
        · exact ⟨_, _, _, rfl, .bool false⟩
  · split at h
    · simp at h; subst h
      cases hx with
      | sl => exact ⟨_, _, _, rfl, .anyb _⟩
      | slVirt => exact ⟨_, _, _, rfl, .anyb _⟩
      | slStale => exact ⟨_, _, _, rfl, .anyb _⟩
    · simp at h; subst h
      cases hx with
      | sl => exact ⟨_, _, _, rfl, .bool false⟩
      | slStale a cap' hm hL hn ha =>
        cases a with
        | none => have := ha rfl; omega
        | some a => exact ⟨_, _, _, rfl, .bool false⟩
  · cases h
theorem notA_sound {c : Ctx} {x : AV} {b : Bool} (h : Rel c x (.bool b)) : Rel c (notA x) (.bool !b) := by
  cases h with
  | undef => exact .undef _
  | bool b => exact .bool _
  | anyb b => exact .anyb _
def bin (P : Program) (op : BinOp) (t : TypeId) (cst : Bool) (x y : AV) : Option AV :=
  match x, y with
  | .int k a, .int k' b =>
    match op with
    | .shl => shiftInt .shl k a b
    | .shr => shiftInt .shr k a b
    | op => if k = k' then binInt op k a b else none
  | .str a, .str b => binStr op a b
  | .nili, .nili => if cst && eqType P t .nili .nili then (match op with | .eql => some (.bool true) | .neq => some (.bool false) | _ => none) else none
  | x, .nils => if isSliceT P t then (match op with | .eql => isNilA x | .neq => (isNilA x).map notA | _ => none) else none
  | x, .nilp => if isPtrT P t then (match op with | .eql => isNilP x | .neq => (isNilP x).map notA | _ => none) else none
  | x, y => if eqType P t x y then (match op with | .eql => (eqPlain x y).map .bool | .neq => (eqPlain x y).map fun b => .bool !b | _ => none) else none
def isCst : Operand → Bool
  | .const _ => true
  | _ => false
theorem binInt_sound {P : Program} {op : BinOp} {k : IntKind} {a b : Int} {r : AV} (h : binInt op k a b = some r) (hs : op ≠ .shl ∧ op ≠ .shr) (c : Ctx) (t : TypeId) (w : World) :
    ∃ v, (binOp op t (.int k a) (.int k b)).run P w = .ok v w ∧ Rel c r v := by
  cases op <;> simp only [binInt, Option.some.injEq, reduceCtorEq] at h <;> (first | (exfalso; exact hs.1 rfl) | (exfalso; exact hs.2 rfl) | skip)
  case add => subst h; exact ⟨_, by simp [binOp_add, Op.intArith], .int _ _⟩
  case sub => subst h; exact ⟨_, by simp [binOp_sub, Op.intArith], .int _ _⟩
  case mul => subst h; exact ⟨_, by simp [binOp_mul, Op.intArith], .int _ _⟩
  case quo => split at h; cases h; rename_i h0; simp at h; subst h; exact ⟨_, by simp [binOp_quo, Op.intDiv, h0], .int _ _⟩
  case rem => split at h; cases h; rename_i h0; simp at h; subst h; exact ⟨_, by simp [binOp_rem, Op.intDiv, h0], .int _ _⟩
  case and => subst h; exact ⟨_, by simp [binOp_and, intBits_and], .int _ _⟩
  case or => subst h; exact ⟨_, by simp [binOp_or, intBits_or], .int _ _⟩
  case xor => subst h; exact ⟨_, by simp [binOp_xor, intBits_xor], .int _ _⟩
  case andNot => subst h; exact ⟨_, by simp [binOp_andNot, intBits_andNot], .int _ _⟩
  case eql => subst h; exact ⟨_, by simp [binOp_eql], .bool _⟩
  case neq => subst h; exact ⟨_, by simp [binOp_neq], .bool _⟩
  case lss => subst h; exact ⟨_, by simp [binOp_lss], .bool _⟩
  case leq => subst h; exact ⟨_, by simp [binOp_leq], .bool _⟩
  case gtr => subst h; exact ⟨_, by simp [binOp_gtr], .bool _⟩
  case geq => subst h; exact ⟨_, by simp [binOp_geq], .bool _⟩
theorem shiftInt_sound {P : Program} {op : BinOp} {k yk : IntKind} {a b : Int} {r : AV} (h : shiftInt op k a b = some r) (hs : op = .shl ∨ op = .shr) (c : Ctx) (t : TypeId) (w : World) :
    ∃ v, (binOp op t (.int k a) (.int yk b)).run P w = .ok v w ∧ Rel c r v := by
  unfold shiftInt at h
  split at h
  · cases h
  · rename_i h0
    rcases hs with rfl | rfl
    · simp at h; subst h
      exact ⟨_, by simp [binOp_shl, Op.shift, h0], .int _ _⟩
    · simp at h; subst h
      exact ⟨_, by simp [binOp_shr, Op.shift, h0], .int _ _⟩
theorem binStr_sound {P : Program} {op : BinOp} {a b : ByteArray} {r : AV} (h : binStr op a b = some r) (c : Ctx) (t : TypeId) (w : World) :
    ∃ v, (binOp op t (.string a) (.string b)).run P w = .ok v w ∧ Rel c r v := by
  cases op <;> simp only [binStr, Option.some.injEq, reduceCtorEq] at h
  case add =>
    split at h
    · rename_i hl
      simp at h; subst h
      refine ⟨.string (a ++ b), ?_, .str _⟩
      have : ¬ ((9223372036854775807 : Int) < (a.size : Int) + (b.size : Int)) := by omega
      simp [binOp, Op.stringOp, this]
    · cases h
  case eql => subst h; exact ⟨_, by simp [binOp, Op.stringOp], .bool _⟩
  case neq => subst h; exact ⟨_, by simp [binOp, Op.stringOp], .bool _⟩
theorem eqType_iface {P : Program} {t : TypeId} (h : (match P.underlying t with | some (.interface _) => true | _ => false) = true) : ∃ ms, P.underlying t = some (.interface ms) := by
  split at h
  · exact ⟨_, ‹_›⟩
  · cases h
theorem eqType_func {P : Program} {t : TypeId} (h : (match P.underlying t with | some (.func ..) => true | _ => false) = true) : ∃ a b c, P.underlying t = some (.func a b c) := by
  split at h
  · exact ⟨_, _, _, ‹_›⟩
  · cases h
theorem eqType_bool {P : Program} {t : TypeId} (h : (match P.underlying t with | some .bool => true | _ => false) = true) : P.underlying t = some .bool := by
  split at h
  · assumption
  · cases h
theorem equal_of {P : Program} {t : TypeId} {u v : Value} {b : Bool} {w : World} (h : ∀ d : Nat, (Op.equalIn (d + 1) t u v).run P w = .ok b w) : (Op.equal t u v).run P w = .ok b w := h 9999
theorem eqPlain_sound {P : Program} {t : TypeId} {x y : AV} {b : Bool} (h : eqPlain x y = some b) (ht : eqType P t x y = true) {G : Globs} {c : Ctx} {w : World} (hg : Good G c w)
    {vx vy : Value} (hx : Rel c x vx) (hy : Rel c y vy) : (Op.equal t vx vy).run P w = .ok b w := by
  unfold eqPlain at h
  split at h
  · obtain rfl := hx.of_bool; obtain rfl := hy.of_bool
    simp only [eqType] at ht
    simp at h; subst h
    exact run_equal_bool w t _ _ (eqType_bool ht)
  · obtain rfl := hx.of_nili; obtain rfl := hy.of_nili
    simp only [eqType] at ht
    obtain ⟨ms, hm⟩ := eqType_iface ht
    simp at h; subst h
    exact equal_of fun d => by simp [Op.equalIn, run_underlying hm]
  · obtain rfl := hx.of_nili; obtain ⟨u, rfl, _⟩ := hy.of_iface
    simp only [eqType] at ht
    obtain ⟨ms, hm⟩ := eqType_iface ht
    simp at h; subst h
    exact equal_of fun d => by simp [Op.equalIn, run_underlying hm]
  · obtain ⟨u, rfl, _⟩ := hx.of_iface; obtain rfl := hy.of_nili
    have ht' : (match P.underlying t with | some (.interface _) => true | _ => false) = true := by
      unfold eqType at ht; split at ht <;> first | (simp_all; done) | exact ht
    obtain ⟨ms, hm⟩ := eqType_iface ht'
    simp at h; subst h
    exact equal_of fun d => by simp [Op.equalIn, run_underlying hm]
  · obtain rfl := hx.of_nilf; obtain rfl := hy.of_nilf
    simp only [eqType] at ht
    obtain ⟨_, _, _, hm⟩ := eqType_func ht
    simp at h; subst h
    exact equal_of fun d => by simp [Op.equalIn, run_underlying hm]
  · obtain rfl := hx.of_nilf; obtain ⟨u, rfl, _⟩ := hy.of_fn
    simp only [eqType] at ht
    obtain ⟨_, _, _, hm⟩ := eqType_func ht
    simp at h; subst h
    exact equal_of fun d => by simp [Op.equalIn, run_underlying hm]
  · obtain ⟨u, rfl, _⟩ := hx.of_fn; obtain rfl := hy.of_nilf
    simp only [eqType] at ht
    obtain ⟨_, _, _, hm⟩ := eqType_func ht
    simp at h; subst h
    exact equal_of fun d => by simp [Op.equalIn, run_underlying hm]
  · rename_i tx g ty g'
    split at h
    · rename_i he; subst he
      simp at h; subst h
      obtain ⟨u, rfl, hu⟩ := hx.of_iface; obtain ⟨u', rfl, hu'⟩ := hy.of_iface
      obtain ⟨a, ha, rfl⟩ := hu.of_gp; obtain ⟨a', ha', rfl⟩ := hu'.of_gp
      simp only [eqType, Bool.and_eq_true] at ht
      obtain ⟨⟨h1, h2⟩, h3⟩ := ht
      obtain ⟨ms, hm⟩ := eqType_iface h1
      split at h2
      case h_2 => cases h2
      rename_i i hi
      split at h3
      case h_2 => cases h3
      rename_i e hp
      split at h3
      case h_2 => cases h3
      rename_i j hj
      have hsz : j.size ≠ 0 := by simpa using h3
      by_cases hgg : g = g'
      · subst hgg
        obtain rfl := Option.some.inj (ha.symm.trans ha')
        have := run_equalIn_iface_ptr_same w 9998 a hm hp hi h2 hj
        have e : (g == g) = true := by simp
        rw [e]; exact this
      · obtain ⟨ca, ta, hca⟩ := hg.sent g a ha
        obtain ⟨cb, tb, hcb⟩ := hg.sent g' a' ha'
        have hne := hg.sentApart g g' a a' ha ha' hgg
        have := run_equalIn_iface_ptr_other w 9998 hm hp hi h2 hj hsz hne hca hcb
        have e : (g == g') = false := by simpa using hgg
        rw [e]; exact this
    · cases h
  · cases h
theorem eqGuard_nil {op : BinOp} {t : TypeId} {ox oy : Operand} (h : (isCst ox || isCst oy) = true) : eqGuard op t ox oy .nilIface .nilIface = pure () := by
  cases ox <;> cases oy <;> simp [isCst] at h <;> first | exact eqGuard_nil_constL .. | exact eqGuard_nil_constR ..
theorem bin_eq_sound {P : Program} {op : BinOp} {t : TypeId} {x y : AV} {r : AV} {G : Globs} {c : Ctx} {w : World} (hg : Good G c w) {vx vy : Value} (hx : Rel c x vx) (hy : Rel c y vy)
    (ht : eqType P t x y = true) (hr : (match op with | .eql => (eqPlain x y).map .bool | .neq => (eqPlain x y).map fun b => .bool !b | _ => none) = some r)
    (he : binOp .eql t vx vy = (do pure (.bool (← Op.equal t vx vy)))) (hn : binOp .neq t vx vy = (do pure (.bool (!(← Op.equal t vx vy))))) :
    ∃ v, (binOp op t vx vy).run P w = .ok v w ∧ Rel c r v := by
  cases op <;> simp only [reduceCtorEq] at hr
  case eql =>
    obtain ⟨b, hb, rfl⟩ := Option.map_eq_some_iff.1 hr
    have := eqPlain_sound hb ht hg hx hy
    exact ⟨_, by rw [he]; simp [this], .bool _⟩
  case neq =>
    obtain ⟨b, hb, rfl⟩ := Option.map_eq_some_iff.1 hr
    have := eqPlain_sound hb ht hg hx hy
    exact ⟨_, by rw [hn]; simp [this], .bool _⟩
theorem bin_sound {P : Program} {op : BinOp} {t : TypeId} {cst : Bool} {x y : AV} {r : AV} (h : bin P op t cst x y = some r) {G : Globs} {c : Ctx} {w : World} (hg : Good G c w)
    {vx vy : Value} (hx : Rel c x vx) (hy : Rel c y vy) (ox oy : Operand) (hc : cst = true → (isCst ox || isCst oy) = true) :
    ∃ v, (do eqGuard op t ox oy vx vy; binOp op t vx vy : Sem Value).run P w = .ok v w ∧ Rel c r v := by
  unfold bin at h
  split at h
  · obtain rfl := hx.of_int; obtain rfl := hy.of_int
    rename_i k a k' b
    simp only [eqGuard_at_int]
    split at h
    · obtain ⟨v, h1, h2⟩ := shiftInt_sound (P := P) (yk := k') h (.inl rfl) c t w
      exact ⟨v, by simpa using h1, h2⟩
    · obtain ⟨v, h1, h2⟩ := shiftInt_sound (P := P) (yk := k') h (.inr rfl) c t w
      exact ⟨v, by simpa using h1, h2⟩
    · rename_i h1 h2
      split at h
      · rename_i e; subst e
        obtain ⟨v, h3, h4⟩ := binInt_sound (P := P) h ⟨h1, h2⟩ c t w
        exact ⟨v, by simpa using h3, h4⟩
      · cases h
  · obtain rfl := hx.of_str; obtain rfl := hy.of_str
    obtain ⟨v, h1, h2⟩ := binStr_sound (P := P) h c t w
    exact ⟨v, by simpa [eqGuard_at_string] using h1, h2⟩
  · obtain rfl := hx.of_nili; obtain rfl := hy.of_nili
    split at h
    · rename_i hcc
      simp only [Bool.and_eq_true] at hcc
      rw [eqGuard_nil (hc hcc.1)]
      have he : (Op.equal t .nilIface .nilIface).run P w = .ok true w := eqPlain_sound (x := .nili) (y := .nili) rfl hcc.2 hg .nili .nili
      cases op <;> simp only [Option.some.injEq, reduceCtorEq] at h
      case eql => subst h; exact ⟨.bool true, by simp [binOp, he], .bool _⟩
      case neq => subst h; exact ⟨.bool false, by simp [binOp, he], .bool _⟩
    · cases h
  · obtain rfl := hy.of_nils
    split at h
    case isFalse => cases h
    rename_i ht
    obtain ⟨e, hd⟩ : ∃ e, P.underlying t = some (.slice e) := by
      unfold isSliceT at ht
      split at ht
      · exact ⟨_, ‹_›⟩
      · cases ht
    cases op <;> simp only [reduceCtorEq] at h
    case eql =>
      obtain ⟨a, n, m, rfl, h2⟩ := isNilA_sound h hx
      exact ⟨.bool a.isNone, by simp [eqGuard_at_slice, binOp, run_equal_slice_nil w t e a n m hd], h2⟩
    case neq =>
      obtain ⟨b, hb, rfl⟩ := Option.map_eq_some_iff.1 h
      obtain ⟨a, n, m, rfl, h2⟩ := isNilA_sound hb hx
      exact ⟨.bool !a.isNone, by simp [eqGuard_at_slice, binOp, run_equal_slice_nil w t e a n m hd], notA_sound h2⟩
  · obtain rfl := hy.of_nilp
    split at h
    case isFalse => cases h
    rename_i ht
    obtain ⟨e, hd⟩ : ∃ e, P.underlying t = some (.pointer e) := by
      unfold isPtrT at ht
      split at ht
      · exact ⟨_, ‹_›⟩
      · cases ht
    cases op <;> simp only [reduceCtorEq] at h
    case eql =>
      obtain ⟨a, rfl, h2⟩ := isNilP_sound h hx
      exact ⟨.bool a.isNone, by simp [eqGuard_at_pointer, binOp, run_equal_ptr_nil w t e a hd], h2⟩
    case neq =>
      obtain ⟨b, hb, rfl⟩ := Option.map_eq_some_iff.1 h
      obtain ⟨a, rfl, h2⟩ := isNilP_sound hb hx
      exact ⟨.bool !a.isNone, by simp [eqGuard_at_pointer, binOp, run_equal_ptr_nil w t e a hd], notA_sound h2⟩
  · rename_i n1 n2 n3 n4 n5
    split at h
    case isFalse => cases h
    rename_i ht
    have go : ∀ (hgd : eqGuard op t ox oy vx vy = pure ()), binOp .eql t vx vy = (do pure (.bool (← Op.equal t vx vy))) → binOp .neq t vx vy = (do pure (.bool (!(← Op.equal t vx vy)))) →
        ∃ v, (do eqGuard op t ox oy vx vy; binOp op t vx vy : Sem Value).run P w = .ok v w ∧ Rel c r v := by
      intro hgd he hn
      rw [hgd]
      obtain ⟨v, h1, h2⟩ := bin_eq_sound hg hx hy ht h he hn
      exact ⟨v, by simpa using h1, h2⟩
    have hsome : (eqPlain x y).isSome = true := by
      cases op <;> simp only [reduceCtorEq] at h <;> (obtain ⟨b, hb, _⟩ := Option.map_eq_some_iff.1 h; rw [hb]; rfl)
    unfold eqPlain at hsome
    split at hsome
    · obtain rfl := hx.of_bool; obtain rfl := hy.of_bool
      exact go (eqGuard_at_bool ..) (by simp [binOp]) (by simp [binOp])
    · first | exact (n4 rfl rfl).elim | exact (n5 rfl rfl).elim | exact (n3 rfl rfl).elim | exact (n2 rfl rfl).elim
    · obtain rfl := hx.of_nili; obtain ⟨u, rfl, _⟩ := hy.of_iface
      exact go (eqGuard_nil_iface ..) (by simp [binOp]) (by simp [binOp])
    · obtain ⟨u, rfl, _⟩ := hx.of_iface; obtain rfl := hy.of_nili
      exact go (eqGuard_at_iface ..) (by simp [binOp]) (by simp [binOp])
    · obtain rfl := hx.of_nilf; obtain rfl := hy.of_nilf
      exact go (eqGuard_at_nilFunc ..) (by simp [binOp]) (by simp [binOp])
    · obtain rfl := hx.of_nilf; obtain ⟨u, rfl, _⟩ := hy.of_fn
      exact go (eqGuard_at_nilFunc ..) (by simp [binOp]) (by simp [binOp])
    · obtain ⟨u, rfl, _⟩ := hx.of_fn; obtain rfl := hy.of_nilf
      exact go (eqGuard_at_func ..) (by simp [binOp]) (by simp [binOp])
    · obtain ⟨u, rfl, _⟩ := hx.of_iface; obtain ⟨u', rfl, _⟩ := hy.of_iface
      exact go (eqGuard_at_iface ..) (by simp [binOp]) (by simp [binOp])
    · cases hsome
/-! ### Conversions, signs, lengths -/
def un (op : UnOp) (x : AV) : Option AV :=
  match op, x with
  | .neg, .int k n => some (.int k (k.wrap (0 - n)))
  | .xor, .int k n => some (.int k (bits .xor k (if k.signed then -1 else k.max) n))
  | .not, .bool b => some (.bool !b)
  | .not, .anyb => some .anyb
  | _, _ => none
theorem un_sound {P : Program} {op : UnOp} {x r : AV} (h : un op x = some r) {c : Ctx} {w : World} {vx : Value} (hx : Rel c x vx) :
    ∃ v, (Op.unary op vx).run P w = .ok v w ∧ Rel c r v := by
  unfold un at h
  split at h
  · obtain rfl := hx.of_int; simp at h; subst h
    exact ⟨_, by simp [Op.unary, Op.intArith], .int _ _⟩
  · obtain rfl := hx.of_int; simp at h; subst h
    exact ⟨_, by simp [Op.unary, intBits_xor], .int _ _⟩
  · obtain rfl := hx.of_bool; simp at h; subst h
    exact ⟨_, by simp [Op.unary], .bool _⟩
  · obtain ⟨b, rfl⟩ := hx.of_anyb; simp at h; subst h
    exact ⟨.bool !b, by simp [Op.unary], .anyb _⟩
  · cases h
def pickA (c a b : AV) : Option AV :=
  match c with
  | .bool t => some (bif t then a else b)
  | _ => none
def extractA (t : AV) (i : Nat) : Option AV :=
  match t with
  | .tup vs => vs[i]?
  | _ => none
theorem extractA_sound {P : Program} {x r : AV} {i : Nat} (h : extractA x i = some r) {c : Ctx} {w : World} {vx : Value} (hx : Rel c x vx) :
    ∃ v, (Instr.extract vx i).run P w = .ok v w ∧ Rel c r v := by
  unfold extractA at h
  split at h
  · obtain ⟨vs, rfl, hr⟩ := hx.of_tup
    obtain ⟨v, h1, h2⟩ := hr.get h
    exact ⟨v, by simp [Instr.extract, h1], h2⟩
  · cases h
end Go.Proofs.YtdfglgnflldkpaaDoor.Mir
namespace Go.Proofs.YtdfglgnflldkpaaDoor.Mir
open Go
set_option linter.unusedVariables false
set_option linter.unusedSimpArgs false
def tsz (P : Program) (t : Nat) : Option Nat := (P.info? t).map (·.size)
def aggOf (P : Program) (t : Nat) : Option Bool := (P.underlying t).map fun | .struct _ => true | .array _ _ => true | _ => false
theorem tsz_run {P : Program} {t s : Nat} (h : tsz P t = some s) (w : World) : (sizeOf t).run P w = .ok s w := by
  unfold tsz at h
  obtain ⟨i, hi, rfl⟩ := Option.map_eq_some_iff.1 h
  simp [sizeOf, typeInfo, hi]
theorem aggOf_run {P : Program} {t : Nat} {b : Bool} (h : aggOf P t = some b) (w : World) : (isAgg t).run P w = .ok b w := by
  unfold aggOf at h
  obtain ⟨d, hd, rfl⟩ := Option.map_eq_some_iff.1 h
  cases d <;> simp [isAgg, run_underlying hd]
/-- A variable of so many cells out of these. -/
def loadC (agg : Bool) (size : Nat) (cs : List AV) (o : Nat) : Option AV :=
  match agg with
  | true => if o + size ≤ cs.length then some (.agg ((cs.drop o).take size)) else none
  | false => cs[o]?
def partA (P : Program) (t : Nat) (cs : List AV) (o : Nat) : Option AV :=
  match aggOf P t, tsz P t with
  | some a, some s => loadC a s cs o
  | _, _ => none
theorem partA_sound {P : Program} {t o : Nat} {cs : List AV} {r : AV} (h : partA P t cs o = some r) {c : Ctx} {w : World} {vs : List Value} (hr : RelL c cs vs) (h1 : ∀ u ∈ vs, u.oneCell' = true) :
    ∃ v, (part t vs.toArray o).run P w = .ok v w ∧ Rel c r v := by
  unfold partA at h
  split at h
  case h_2 => cases h
  rename_i a s ha hs
  cases a with
  | true =>
    simp only [loadC] at h
    split at h
    · rename_i hl
      simp at h; subst h
      refine ⟨.agg ((vs.drop o).take s).toArray, ?_, .agg ?_ ?_ ?_⟩
      · simp only [part, Sem.run_bind, aggOf_run ha, Result.andThen_ok, if_true, tsz_run hs, Sem.run_pure]
        have : (vs.toArray).extract o (o + s) = ((vs.drop o).take s).toArray := by
          simp [List.extract_toArray, List.extract]
        rw [this]
      · have := hr.1
        simp only [List.length_take, List.length_drop]
        omega
      · intro i x v hx hv
        rw [List.getElem?_take] at hx hv
        split at hx
        · rw [List.getElem?_drop] at hx hv
          simp only [*, if_true] at hv
          exact hr.2 _ _ _ hx hv
        · cases hx
      · intro v hv
        exact h1 v (List.mem_of_mem_drop (List.mem_of_mem_take hv))
    · cases h
  | false =>
    simp only [loadC] at h
    obtain ⟨v, h2, h3⟩ := hr.get h
    exact ⟨v, by simp [part, aggOf_run ha, h2], h3⟩
def fieldV (g : Bool) (s off : Nat) (x : AV) : Option AV :=
  match x with
  | .agg cs => loadC g s cs off
  | _ => none
def fieldA (P : Program) (t : Nat) (x : AV) (f : Nat) : Option AV :=
  match P.underlying t with
  | some (.struct fs) => match fs[f]? with
    | some f => match aggOf P f.type, tsz P f.type with
      | some g, some s => fieldV g s f.offset x
      | _, _ => none
    | none => none
  | _ => none
theorem fieldA_sound {P : Program} {t f : Nat} {x r : AV} (h : fieldA P t x f = some r) {c : Ctx} {w : World} {vx : Value} (hx : Rel c x vx) :
    ∃ v, (Instr.field t vx f).run P w = .ok v w ∧ Rel c r v := by
  unfold fieldA at h
  split at h
  case h_2 => cases h
  rename_i fs hfs
  split at h
  case h_2 => cases h
  rename_i fd hfd
  split at h
  case h_2 => cases h
  rename_i g s hg hs
  unfold fieldV at h
  split at h
  case h_2 => cases h
  obtain ⟨vs, rfl, hr, h1⟩ := hx.of_agg
  obtain ⟨v, e1, e2⟩ := partA_sound (P := P) (t := fd.type) (by unfold partA; rw [hg, hs]; exact h) (w := w) hr h1
  exact ⟨v, by simp [Instr.field, run_underlying hfs, hfd, asAgg, e1], e2⟩
def idxArr (g : Bool) (s len : Nat) (x i : AV) : Option AV :=
  match x, i with
  | .agg cs, .int _ n => if 0 ≤ n ∧ n < len then loadC g s cs (n.toNat * s) else none
  | _, _ => none
def idxStr (x i : AV) : Option AV :=
  match x, i with
  | .str s, .int _ n => (if 0 ≤ n then s[n.toNat]? else none).map fun b => .int .u8 b.toNat
  | _, _ => none
def indexA (P : Program) (t : Nat) (x i : AV) : Option AV :=
  match P.underlying t with
  | some (.array len e) => match aggOf P e, tsz P e with
    | some g, some s => idxArr g s len x i
    | _, _ => none
  | some .string => idxStr x i
  | _ => none
theorem indexA_sound {P : Program} {t : Nat} {x i r : AV} (h : indexA P t x i = some r) {c : Ctx} {w : World} {vx vi : Value} (hx : Rel c x vx) (hi : Rel c i vi) :
    ∃ v, (Instr.index t vx vi).run P w = .ok v w ∧ Rel c r v := by
  unfold indexA at h
  split at h
  · rename_i len e hd
    split at h
    case h_2 => cases h
    rename_i g s hg hs
    unfold idxArr at h
    split at h
    case h_2 => cases h
    obtain rfl := hi.of_int
    obtain ⟨vs, rfl, hr, h1⟩ := hx.of_agg
    split at h
    case isFalse => cases h
    rename_i hn
    obtain ⟨v, e1, e2⟩ := partA_sound (P := P) (t := e) (by unfold partA; rw [hg, hs]; exact h) (w := w) hr h1
    exact ⟨v, by simp [Instr.index, asIntOf, run_underlying hd, hn, tsz_run hs, e1], e2⟩
  · rename_i hd
    unfold idxStr at h
    split at h
    case h_2 => cases h
    obtain rfl := hi.of_int
    obtain rfl := hx.of_str
    obtain ⟨b, hb, rfl⟩ := Option.map_eq_some_iff.1 h
    exact ⟨_, by simp [Instr.index, asIntOf, run_underlying hd, hb], .int _ _⟩
  · cases h
/-! ### Places -/
def fieldAddrV (off : Nat) (x : AV) : Option AV :=
  match x with
  | .ptr b L i o => some (.ptr b L i (o + off))
  | .rp bor x o => some (.rp bor x (o + off))
  | _ => none
def fieldAddrA (P : Program) (t : Nat) (x : AV) (f : Nat) : Option AV :=
  match P.underlying t with
  | some (.struct fs) => match fs[f]? with
    | some f => match tsz P f.type with
      | some s => if s = 0 then none else fieldAddrV f.offset x
      | none => none
    | none => none
  | _ => none
theorem fieldAddrA_sound {P : Program} {t f : Nat} {x r : AV} (h : fieldAddrA P t x f = some r) {c : Ctx} {w : World} {vx : Value} (hx : Rel c x vx) :
    ∃ v, (Instr.fieldAt t vx f).run P w = .ok v w ∧ Rel c r v := by
  unfold fieldAddrA at h
  split at h
  case h_2 => cases h
  rename_i fs hfs
  split at h
  case h_2 => cases h
  rename_i fd hfd
  split at h
  case h_2 => cases h
  rename_i s hs
  split at h
  case isTrue => cases h
  rename_i hs0
  have run : ∀ a : Addr, (Instr.fieldAt t (.pointer (some a)) f).run P w = .ok (.pointer (some (a.add fd.offset))) w := fun a => by
    simp [Instr.fieldAt, run_underlying hfs, hfd, Instr.sureAddr, fieldPlace, tsz_run hs, hs0]
  unfold fieldAddrV at h
  split at h
  · simp at h; subst h
    cases hx with
    | ptr hm hL hv => exact ⟨_, run _, by rw [Addr.add_lit, Nat.add_assoc]; exact .ptr hm hL hv⟩
    | ptrStale a hm hL => exact ⟨_, run _, .ptrStale _ hm hL⟩
  · simp at h; subst h
    cases hx with
    | rp h1 h2 => exact ⟨_, run _, by rw [Addr.add_lit, Nat.add_assoc]; exact .rp h1 h2⟩
  · cases h
/-- Elements of so many cells each. -/
def allSz (s : Nat) (xs : List AV) : Bool := xs.all fun x => x.cells.length == s
def idxAddrSl (s : Nat) (x i : AV) : Option AV :=
  match x, i with
  | .ro bor xs, .int _ n => if 0 ≤ n then (match xs[n.toNat]? with | some y => if y.cells.length = s then some (.rp bor y 0) else none | none => none) else none
  | .sl b L o m sz, .int _ n => if 0 ≤ n ∧ n < m then if sz = s then some (.ptr b L (o + n.toNat) 0) else none else none
  | _, _ => none
def idxAddrArr (len s : Nat) (x i : AV) : Option AV :=
  match x, i with
  | .ptr b L k o, .int _ n => if 0 ≤ n ∧ n < len then some (.ptr b L k (o + n.toNat * s)) else none
  | .rp bor y o, .int _ n => if 0 ≤ n ∧ n < len then some (.rp bor y (o + n.toNat * s)) else none
  | _, _ => none
def indexAddrA (P : Program) (t : Nat) (x i : AV) : Option AV :=
  match P.underlying t with
  | some (.slice e) => match tsz P e with
    | some s => idxAddrSl s x i
    | none => none
  | some (.array len e) => match tsz P e with
    | some s => idxAddrArr len s x i
    | none => none
  | _ => none
theorem indexAddrA_sound {P : Program} {t : Nat} {x i r : AV} (h : indexAddrA P t x i = some r) {c : Ctx} {w : World} {vx vi : Value} (hx : Rel c x vx) (hi : Rel c i vi) :
    ∃ v, (Instr.indexAt t vx vi).run P w = .ok v w ∧ Rel c r v := by
  unfold indexAddrA at h
  split at h
  · rename_i e hd
    split at h
    case h_2 => cases h
    rename_i s hs
    have hd' : P.underlying t = some (.slice (P.elem t)) := by simp [Program.elem, hd]
    have he : P.elem t = e := by simp [Program.elem, hd]
    have run : ∀ (k : IntKind) (n : Int) (a : Addr) (len cap : Nat), 0 ≤ n ∧ n < len → (Instr.indexAt t (.slice (some a) len cap) (.int k n)).run P w = .ok (.pointer (some (a.add (n.toNat * s)))) w := fun k n a len cap hn => by
      rw [run_indexAt_slice w t a len cap k n hd', if_pos hn, he, tsz_run hs]; rfl
    unfold idxAddrSl at h
    split at h
    · rename_i bor xs k n
      obtain rfl := hi.of_int
      split at h
      case isFalse => cases h
      rename_i hn0
      split at h
      case h_2 => cases h
      rename_i y hy
      split at h
      case isFalse => cases h
      rename_i hys
      simp at h; subst h
      have hlt : n.toNat < xs.length := (List.getElem?_eq_some_iff.1 hy).1
      cases hx with
      | ro hn hcap ha hA hsz hh hm =>
        rename_i a len cap sz A V
        have ha' : a = some A := by
          rcases ha with rfl | ha
          · simp at hlt
          · exact ha
        subst ha'
        have hszs : sz = s := by rw [← hsz _ _ hy, hys]
        subst hszs
        refine ⟨_, run k n A len cap ⟨hn0, by omega⟩, ?_⟩
        have := Rel.rp (c := c) (bor := bor) (x := y) (o := 0) (A := ⟨A.block, A.off + n.toNat * sz, none⟩) (V := V n.toNat) (fun j z hz => hh _ _ _ _ hy hz) (fun j z hz => hm _ _ _ _ hy hz)
        obtain ⟨blk, off, spot⟩ := A
        simp only at hA
        subst hA
        rw [Addr.add_lit]
        simpa using this
    · rename_i b L o m sz k n
      obtain rfl := hi.of_int
      split at h
      case isFalse => cases h
      rename_i hn
      split at h
      case isFalse => cases h
      rename_i hsz'
      simp at h; subst h
      subst hsz'
      cases hx with
      | sl hm hL hv hsz ho hcap hnc ha =>
        rename_i inf a cap'
        refine ⟨_, run _ _ _ _ _ hn, ?_⟩
        rcases ha with rfl | ⟨rfl, _⟩
        · rw [Addr.add_lit]
          have := Rel.ptr (c := c) (b := b) (L := L) (i := o + n.toNat) (o := 0) hm hL hv
          rw [hsz] at this
          rw [← Nat.add_mul]
          simpa using this
        · omega
      | slVirt hm hL hv hsz => omega
      | slStale a cap' hm hL hnc ha =>
        cases a with
        | none => have := ha rfl; omega
        | some a => exact ⟨_, run _ _ _ _ _ hn, .ptrStale _ hm hL⟩
    · cases h
  · rename_i len e hd
    split at h
    case h_2 => cases h
    rename_i s hs
    have hd' : P.underlying t = some (.array (P.arrayLen t) (P.elem t)) := by simp [Program.elem, Program.arrayLen, hd]
    have he : P.elem t = e := by simp [Program.elem, hd]
    have hl : P.arrayLen t = len := by simp [Program.arrayLen, hd]
    have run : ∀ (k : IntKind) (n : Int) (a : Addr), 0 ≤ n ∧ n < len → (Instr.indexAt t (.pointer (some a)) (.int k n)).run P w = .ok (.pointer (some (a.add (n.toNat * s)))) w := fun k n a hn => by
      rw [run_indexAt_array w t a k n hd', hl, if_pos hn, he, tsz_run hs]; rfl
    unfold idxAddrArr at h
    split at h
    · obtain rfl := hi.of_int
      split at h
      case isFalse => cases h
      rename_i hn
      simp at h; subst h
      cases hx with
      | ptr hm hL hv => exact ⟨_, run _ _ _ hn, by rw [Addr.add_lit, Nat.add_assoc]; exact .ptr hm hL hv⟩
      | ptrStale a hm hL => exact ⟨_, run _ _ _ hn, .ptrStale _ hm hL⟩
    · obtain rfl := hi.of_int
      split at h
      case isFalse => cases h
      rename_i hn
      simp at h; subst h
      cases hx with
      | rp h1 h2 => exact ⟨_, run _ _ _ hn, by rw [Addr.add_lit, Nat.add_assoc]; exact .rp h1 h2⟩
    · cases h
  · cases h
end Go.Proofs.YtdfglgnflldkpaaDoor.Mir
namespace Go.Proofs.YtdfglgnflldkpaaDoor.Mir
open Go
set_option linter.unusedVariables false
set_option linter.unusedSimpArgs false
/-- A bound of a piece: what is written, or what holds without it. -/
def boundA (d : Nat) : Option AV → Option Nat
  | none => some d
  | some (.int _ n) => if 0 ≤ n then some n.toNat else none
  | _ => none
def sliceSl (s : Nat) (x : AV) (lo hi : Option AV) : Option AV :=
  match x with
  | .ro bor xs => match boundA 0 lo, boundA xs.length hi with
    | some l, some h => if l ≤ h ∧ h ≤ xs.length ∧ allSz s xs = true then some (.ro bor ((xs.drop l).take (h - l))) else none
    | _, _ => none
  | .sl b L o n sz => match boundA 0 lo, boundA n hi with
    | some l, some h => if l ≤ h ∧ h ≤ n ∧ sz = s then some (.sl b L (o + l) (h - l) sz) else none
    | _, _ => none
  | .nils => match boundA 0 lo, boundA 0 hi with
    | some l, some h => if l ≤ h ∧ h ≤ 0 then some .nils else none
    | _, _ => none
  | _ => none
def sliceStr (x : AV) (lo hi : Option AV) : Option AV :=
  match x with
  | .str s => match boundA 0 lo, boundA s.size hi with
    | some l, some h => if l ≤ h ∧ h ≤ s.size then some (.str (s.extract l h)) else none
    | _, _ => none
  | _ => none
def sliceA (P : Program) (t : Nat) (x : AV) (lo hi : Option AV) : Option AV :=
  match P.underlying t with
  | some (.slice e) => match tsz P e with
    | some s => sliceSl s x lo hi
    | none => none
  | some .string => sliceStr x lo hi
  | _ => none
theorem boundA_lo {P : Program} {c : Ctx} {w : World} {lo : Option AV} {vlo : Option Value} {d l y : Nat} (h : boundA d lo = some l)
    (hr : ∀ x, lo = some x → ∃ v, vlo = some v ∧ Rel c x v) (hn : lo = none → vlo = none) (hl : l ≤ y) (code : BoundsCode) :
    (vlo = none ∧ l = d) ∨ (∃ v, vlo = some v ∧ (Instr.sliceBound v y code).run P w = .ok l w) := by
  unfold boundA at h
  split at h
  · exact .inl ⟨hn rfl, by simpa using h.symm⟩
  · rename_i k n
    split at h
    · rename_i h0
      obtain ⟨v, e, hv⟩ := hr _ rfl
      obtain rfl := hv.of_int
      have h1 : n.toNat = l := by simpa using h
      have h2 : n ≤ (y : Int) := by omega
      refine .inr ⟨_, e, ?_⟩
      simp [Instr.sliceBound, asIntOf, h0, h2, h1]
    · cases h
  · cases h
theorem slice_run {P : Program} {c : Ctx} {w : World} {t e s : Nat} (hd : P.underlying t = some (.slice e)) (hs : tsz P e = some s) {lo hi : Option AV} {vlo vhi : Option Value} {len cap l h : Nat}
    (hlo : boundA 0 lo = some l) (hhi : boundA len hi = some h) (hlh : l ≤ h) (hhl : h ≤ cap)
    (rlo : ∀ x, lo = some x → ∃ v, vlo = some v ∧ Rel c x v) (nlo : lo = none → vlo = none) (rhi : ∀ x, hi = some x → ∃ v, vhi = some v ∧ Rel c x v) (nhi : hi = none → vhi = none) (a : Option Addr) :
    (Instr.sliceAt t (.slice a len cap) vlo vhi none).run P w = .ok (.slice (if cap = l then a else a.map (·.add (l * s))) (h - l) (cap - l)) w := by
  have h1 : (Instr.sliceBounds true len cap vlo vhi none).run P w = .ok (l, h, cap) w := by
    rcases boundA_lo (P := P) (w := w) hhi rhi nhi hhl .sliceAcap with ⟨e1, e2⟩ | ⟨v, e1, e2⟩ <;>
    rcases boundA_lo (P := P) (w := w) hlo rlo nlo hlh .sliceB with ⟨f1, f2⟩ | ⟨u, f1, f2⟩
    · subst e1 f1 e2 f2; simp [Instr.sliceBounds]
    · subst e1 f1 e2; simp [Instr.sliceBounds, f2]
    · subst e1 f1 f2; simp [Instr.sliceBounds, e2]
    · subst e1 f1; simp [Instr.sliceBounds, e2, f2]
  simp [Instr.sliceAt, Instr.slice, run_underlying hd, h1, tsz_run hs]
theorem sliceA_sound {P : Program} {t : Nat} {x r : AV} {lo hi : Option AV} (h : sliceA P t x lo hi = some r) {c : Ctx} {w : World} {vx : Value} {vlo vhi : Option Value} (hx : Rel c x vx)
    (rlo : ∀ x, lo = some x → ∃ v, vlo = some v ∧ Rel c x v) (nlo : lo = none → vlo = none) (rhi : ∀ x, hi = some x → ∃ v, vhi = some v ∧ Rel c x v) (nhi : hi = none → vhi = none) :
    ∃ v, (Instr.sliceAt t vx vlo vhi none).run P w = .ok v w ∧ Rel c r v := by
  unfold sliceA at h
  split at h
  rename_i e hd
  split at h
  case h_2 => cases h
  rename_i s hs
  unfold sliceSl at h
  split at h
  · rename_i bor xs
    split at h
    case h_2 => cases h
    rename_i l hh hl hhi
    split at h
    case isFalse => cases h
    rename_i hc
    obtain ⟨hlh, hhx, hall⟩ := hc
    simp at h; subst h
    cases hx with
    | ro hn hcap ha hA hsz hrel hm =>
      rename_i a len cap sz A V
      subst hn
      refine ⟨_, slice_run hd hs hl hhi hlh (by omega) rlo nlo rhi nhi a, ?_⟩
      by_cases hxs : xs = []
      · subst hxs
        simp at hhx
        subst hhx
        simp at hlh
        subst hlh
        simpa using Rel.roNil c bor _ _
      · have hszs : sz = s := by
          obtain ⟨y, ys, rfl⟩ := List.exists_cons_of_ne_nil hxs
          have h1 := hsz 0 y rfl
          simp [allSz] at hall
          omega
        subst hszs
        have ha' : a = some A := ha.resolve_left hxs
        subst ha'
        by_cases hem : (xs.drop l).take (hh - l) = []
        · rw [hem]
          have : hh - l = 0 := by
            have := congrArg List.length hem
            simp at this
            omega
          rw [this]
          exact Rel.roNil ..
        · have hne : cap ≠ l := fun e => hem (by
            apply List.eq_nil_of_length_eq_zero
            simp; omega)
          rw [if_neg hne]
          refine .ro (A := A.add (l * sz)) (V := fun i => V (l + i)) (sz := sz) (by simp; omega) (by omega) (.inr rfl) ?_ ?_ ?_ ?_
          · unfold Addr.add; split <;> simp_all
          · intro i x hx
            rw [List.getElem?_take] at hx
            split at hx
            · rw [List.getElem?_drop] at hx; exact hsz _ _ hx
            · cases hx
          · intro i x j y hx hy
            rw [List.getElem?_take] at hx
            split at hx
            · rw [List.getElem?_drop] at hx; exact hrel _ _ _ _ hx hy
            · cases hx
          · intro i x j y hx hy
            rw [List.getElem?_take] at hx
            split at hx
            · rw [List.getElem?_drop] at hx
              have := hm _ _ _ _ hx hy
              obtain ⟨blk, off, spot⟩ := A
              simp only at hA; subst hA
              rw [Addr.add_lit]
              rw [show off + l * sz + i * sz + j = off + (l + i) * sz + j by rw [Nat.add_mul]; omega]
              exact this
            · cases hx
  · rename_i b L o n sz
    split at h
    case h_2 => cases h
    rename_i l hh hl hhi
    split at h
    case isFalse => cases h
    rename_i hc
    obtain ⟨hlh, hhn, rfl⟩ := hc
    simp at h; subst h
    cases hx with
    | sl hm hL hv hsz ho hcap hnc ha =>
      rename_i inf a cap'
      refine ⟨_, slice_run hd hs hl hhi hlh (by omega) rlo nlo rhi nhi (some a), ?_⟩
      by_cases hcl : cap' = l
      · rw [if_pos hcl]
        refine .sl hm hL hv hsz (by omega) (by omega) (by omega) ?_
        by_cases h0 : o + l = 0
        · rcases ha with rfl | h1
          · exact .inl (by rw [show l = 0 by omega, show o = 0 by omega])
          · omega
        · exact .inr ⟨by omega, h0⟩
      · rw [if_neg hcl]
        rcases ha with rfl | h0
        · simp only [Option.map_some, Addr.add_lit]
          exact .sl hm hL hv hsz (by omega) (by omega) (by omega) (.inl (by rw [Nat.add_mul]))
        · omega
    | slVirt hm hL hv hsz =>
      refine ⟨_, slice_run hd hs hl hhi hlh (by omega) rlo nlo rhi nhi none, ?_⟩
      obtain rfl : hh = 0 := by omega
      obtain rfl : l = 0 := by omega
      exact .slVirt hm hL hv hsz
    | slStale a cap' hm hL hnc ha =>
      refine ⟨_, slice_run hd hs hl hhi hlh (by omega) rlo nlo rhi nhi a, ?_⟩
      refine .slStale _ _ hm hL (by omega) (fun hn => ?_)
      cases a with
      | none => have := ha rfl; omega
      | some a => split at hn <;> simp at hn
  · split at h
    case h_2 => cases h
    rename_i l hh hl hhi
    split at h
    case isFalse => cases h
    rename_i hc
    simp at h; subst h
    obtain rfl := hx.of_nils
    obtain ⟨hlh, hhx⟩ := hc
    obtain rfl : hh = 0 := by omega
    obtain rfl : l = 0 := by omega
    refine ⟨_, slice_run hd hs hl hhi hlh (by omega) rlo nlo rhi nhi none, ?_⟩
    simpa using Rel.nils
  · cases h
  · rename_i hd
    unfold sliceStr at h
    split at h
    case h_2 => cases h
    rename_i s
    obtain rfl := hx.of_str
    split at h
    case h_2 => cases h
    rename_i l hh hl hhi
    split at h
    case isFalse => cases h
    rename_i hc
    simp at h; subst h
    have h1 : (Instr.sliceBounds false s.size s.size vlo vhi none).run P w = .ok (l, hh, s.size) w := by
      rcases boundA_lo (P := P) (w := w) hhi rhi nhi hc.2 .sliceAlen with ⟨e1, e2⟩ | ⟨v, e1, e2⟩ <;>
      rcases boundA_lo (P := P) (w := w) hl rlo nlo hc.1 .sliceB with ⟨f1, f2⟩ | ⟨u, f1, f2⟩
      · subst e1 f1 e2 f2; simp [Instr.sliceBounds]
      · subst e1 f1 e2; simp [Instr.sliceBounds, f2]
      · subst e1 f1 f2; simp [Instr.sliceBounds, e2]
      · subst e1 f1; simp [Instr.sliceBounds, e2, f2]
    exact ⟨.string (s.extract l hh), by simp [Instr.sliceAt, Instr.slice, run_underlying hd, h1], .str _⟩
  · cases h
/-! ### Lengths, the least, the greatest -/
def lenSl (x : AV) : Option AV :=
  match x with
  | .ro _ xs => some (.int .i64 xs.length)
  | .sl _ _ _ n _ => some (.int .i64 n)
  | .nils => some (.int .i64 0)
  | _ => none
def lenStr (x : AV) : Option AV :=
  match x with
  | .str s => some (.int .i64 s.size)
  | _ => none
def lenA (P : Program) (t : Nat) (x : AV) : Option AV :=
  match P.underlying t with
  | some (.slice _) => lenSl x
  | some .string => lenStr x
  | some (.array n _) => some (.int .i64 n)
  | _ => none
theorem lenA_sound {P : Program} {t ty : Nat} {x r : AV} (h : lenA P t x = some r) {c : Ctx} {w : World} {vx : Value} (hx : Rel c x vx) :
    ∃ v, (Builtin.len_ #[t] ty #[vx]).run P w = .ok v w ∧ Rel c r v := by
  unfold lenA at h
  split at h
  · rename_i e hd
    unfold lenSl at h
    split at h
    · simp at h; subst h
      cases hx with
      | ro hn => subst hn; exact ⟨_, by simp [Builtin.len_, run_underlying hd, goInt], .int _ _⟩
    · simp at h; subst h
      cases hx <;> exact ⟨_, by simp [Builtin.len_, run_underlying hd, goInt], .int _ _⟩
    · simp at h; subst h
      obtain rfl := hx.of_nils
      exact ⟨_, by simp [Builtin.len_, run_underlying hd, goInt], .int _ _⟩
    · cases h
  · rename_i hd
    unfold lenStr at h
    split at h
    · obtain rfl := hx.of_str
      simp at h; subst h
      exact ⟨_, by simp [Builtin.len_, run_underlying hd, goInt], .int _ _⟩
    · cases h
  · rename_i n e hd
    simp at h; subst h
    exact ⟨_, by cases vx <;> simp [Builtin.len_, run_underlying hd, goInt], .int _ _⟩
  · cases h
def min2A : AV → AV → Option AV
  | .int k x, .int _ y => some (.int k (if y < x then y else x))
  | _, _ => none
def max2A : AV → AV → Option AV
  | .int k x, .int _ y => some (.int k (if y > x then y else x))
  | _, _ => none
def foldA (f : AV → AV → Option AV) : AV → List AV → Option AV
  | a, [] => some a
  | a, b :: l => (f a b).bind fun x => foldA f x l
theorem foldA_sound {P : Program} {f : AV → AV → Option AV} {g : Value → Value → Sem Value} {c : Ctx} {w : World}
    (hf : ∀ x y r vx vy, f x y = some r → Rel c x vx → Rel c y vy → ∃ v, (g vx vy).run P w = .ok v w ∧ Rel c r v) :
    ∀ (l : List AV) (vl : List Value) (a : AV) (va : Value) (r : AV), foldA f a l = some r → Rel c a va → RelL c l vl → ∃ v, (vl.foldlM g va).run P w = .ok v w ∧ Rel c r v
  | [], vl, a, va, r, h, ha, hl => by
    have : vl = [] := List.eq_nil_of_length_eq_zero (by rw [← hl.1]; rfl)
    subst this
    simp [foldA] at h; subst h
    exact ⟨va, by simp, ha⟩
  | b :: l, vl, a, va, r, h, ha, hl => by
    cases vl with
    | nil => have := hl.1; simp at this
    | cons vb vl =>
      simp only [foldA] at h
      obtain ⟨x, hx, hr⟩ := Option.bind_eq_some_iff.1 h
      obtain ⟨v, e1, e2⟩ := hf _ _ _ _ _ hx ha hl.head
      obtain ⟨u, g1, g2⟩ := foldA_sound hf l vl x v r hr e2 hl.tail
      exact ⟨u, by simp [List.foldlM_cons, e1, g1], g2⟩
theorem min2A_sound {P : Program} {x y r : AV} (h : min2A x y = some r) {c : Ctx} {w : World} {vx vy : Value} (hx : Rel c x vx) (hy : Rel c y vy) :
    ∃ v, (Builtin.min2 vx vy).run P w = .ok v w ∧ Rel c r v := by
  unfold min2A at h
  split at h
  · obtain rfl := hx.of_int; obtain rfl := hy.of_int
    simp at h; subst h
    exact ⟨_, by simp [Builtin.min2], .int _ _⟩
  · cases h
theorem max2A_sound {P : Program} {x y r : AV} (h : max2A x y = some r) {c : Ctx} {w : World} {vx vy : Value} (hx : Rel c x vx) (hy : Rel c y vy) :
    ∃ v, (Builtin.max2 vx vy).run P w = .ok v w ∧ Rel c r v := by
  unfold max2A at h
  split at h
  · obtain rfl := hx.of_int; obtain rfl := hy.of_int
    simp at h; subst h
    exact ⟨_, by simp [Builtin.max2], .int _ _⟩
  · cases h
/-! ### Conversions of whole numbers, function values, interfaces -/
def convInt (k : IntKind) (x : AV) : Option AV :=
  match x with
  | .int _ n => some (.int k (k.wrap n))
  | _ => none
def convStr (x : AV) : Option AV :=
  match x with
  | .str s => some (.str s)
  | _ => none
def convA (P : Program) (src dst : Nat) (x : AV) : Option AV :=
  match P.underlying src, P.underlying dst with
  | some _, some (.int k) => convInt k x
  | some _, some .string => convStr x
  | _, _ => none
theorem convA_sound {P : Program} {src dst : Nat} {x r : AV} (h : convA P src dst x = some r) {c : Ctx} {w : World} {vx : Value} (hx : Rel c x vx) :
    ∃ v, (convert src dst vx).run P w = .ok v w ∧ Rel c r v := by
  unfold convA at h
  split at h
  · rename_i d k hd hk
    unfold convInt at h
    split at h
    · obtain rfl := hx.of_int
      simp at h; subst h
      exact ⟨_, by simp [convert, run_underlying hd, run_underlying hk, Conv.intToInt], .int _ _⟩
    · cases h
  · rename_i d hd hk
    unfold convStr at h
    split at h
    · obtain rfl := hx.of_str
      simp at h; subst h
      exact ⟨_, by simp [convert, run_underlying hd, run_underlying hk], .str _⟩
    · cases h
  · cases h
def ifaceA (P : Program) (t : Nat) (x : AV) : Option AV :=
  match P.underlying t with
  | some (.interface _) => none
  | some _ => some (.iface t x)
  | none => none
theorem ifaceA_sound {P : Program} {t : Nat} {x r : AV} (h : ifaceA P t x = some r) {c : Ctx} {w : World} {vx : Value} (hx : Rel c x vx) :
    ∃ v, (Instr.makeInterface t vx).run P w = .ok v w ∧ Rel c r v := by
  unfold ifaceA at h
  split at h
  · cases h
  · rename_i d hd hn
    simp at h; subst h
    refine ⟨.iface t vx, ?_, .iface hx⟩
    cases d <;> first | (simp [Instr.makeInterface, run_underlying hn]; done) | exact absurd rfl (hd _)
  · cases h
def zeroA (P : Program) (t : Nat) : Option AV := (P.info? t).bind fun i => i.zero.map ofVal
theorem zeroA_run {P : Program} {t : Nat} {z : AV} (h : zeroA P t = some z) (w : World) : ∃ v, (zeroValue t).run P w = .ok v w ∧ ∀ c, Rel c z v := by
  unfold zeroA at h
  obtain ⟨i, hi, hz⟩ := Option.bind_eq_some_iff.1 h
  obtain ⟨v, hv, rfl⟩ := Option.map_eq_some_iff.1 hz
  exact ⟨v, by simp [zeroValue, typeInfo, hi, hv], fun c => rel_ofVal c v⟩
def assertV (asserted : Nat) (z : AV) (commaOk : Bool) (x : AV) : Option AV :=
  match x with
  | .nili => if commaOk then some (.tup [z, .bool false]) else none
  | .iface t v => if t = asserted then some (if commaOk then .tup [v, .bool true] else v) else
      if commaOk then some (.tup [z, .bool false]) else none
  | _ => none
/-- An assertion to a type that is no interface. -/
def assertA (P : Program) (x : AV) (asserted : Nat) (commaOk : Bool) : Option AV :=
  match P.underlying asserted with
  | some (.interface _) => none
  | none => none
  | some _ => match zeroA P asserted with
    | some z => assertV asserted z commaOk x
    | none => none
theorem rel_pair {c : Ctx} {x y : AV} {u v : Value} (hx : Rel c x u) (hy : Rel c y v) : Rel c (.tup [x, y]) (.tuple #[u, v]) := by
  have := RelL.cons hx (RelL.cons hy RelL.nil)
  exact .tup (vs := [u, v]) this.1 this.2
theorem assertA_sound {P : Program} {x r : AV} {xt asserted : Nat} {commaOk : Bool} (h : assertA P x asserted commaOk = some r) {c : Ctx} {w : World} {vx : Value} (hx : Rel c x vx) :
    ∃ v, (Instr.typeAssert vx xt asserted commaOk).run P w = .ok v w ∧ Rel c r v := by
  unfold assertA at h
  split at h
  · cases h
  · cases h
  rename_i d hni hd
  split at h
  case h_2 => cases h
  rename_i z hz
  obtain ⟨v, e1, e2⟩ := zeroA_run hz w
  unfold assertV at h
  split at h
  · obtain rfl := hx.of_nili
    split at h
    · rename_i hc
      simp at h; subst h
      refine ⟨_, ?_, rel_pair (e2 c) (.bool _)⟩
      subst hc
      cases d <;> first | (simp [Instr.typeAssert, run_underlying hd, e1]; done) | exact (hni _ rfl).elim
    · cases h
  · obtain ⟨u, rfl, hu⟩ := hx.of_iface
    rename_i t' v'
    split at h
    · rename_i ht; subst ht
      simp at h; subst h
      refine ⟨if commaOk then .tuple #[u, .bool true] else u, ?_, ?_⟩
      · cases d <;> first | (simp [Instr.typeAssert, run_underlying hd]; done) | exact (hni _ rfl).elim
      · cases commaOk
        · exact hu
        · exact rel_pair hu (.bool _)
    · rename_i ht
      split at h
      · rename_i hc
        simp at h; subst h
        refine ⟨_, ?_, rel_pair (e2 c) (.bool _)⟩
        subst hc
        cases d <;> first | (simp [Instr.typeAssert, run_underlying hd, ht, e1]; done) | exact (hni _ rfl).elim
      · cases h
  · cases h
end Go.Proofs.YtdfglgnflldkpaaDoor.Mir
namespace Go.Proofs.YtdfglgnflldkpaaDoor.Mir
open Go
set_option linter.unusedVariables false
set_option linter.unusedSimpArgs false
theorem loadC_sound {P : Program} {t o size : Nat} {agg : Bool} {cs : List AV} {r : AV} (h : loadC agg size cs o = some r) (ha : aggOf P t = some agg) (hs : tsz P t = some size)
    {c : Ctx} {w : World} {blk off : Nat} (hc : CellsAt c w blk off cs) :
    ∃ v, (loadVar t ⟨blk, off + o, none⟩).run P w = .ok v w ∧ Rel c r v := by
  cases agg with
  | true =>
    simp only [loadC] at h
    split at h
    case isFalse => cases h
    rename_i hl
    simp at h; subst h
    obtain ⟨vs, hr, hv, h1⟩ := ((hc.drop o).take size).vals
    refine ⟨.agg vs.toArray, ?_, .agg hr.1 hr.2 h1⟩
    have hlen : vs.length = size := by rw [← hr.1]; simp; omega
    have := run_loadCells_list (P := P) w ⟨blk, off + o, none⟩ vs (fun j v hj => by rw [Addr.add_lit]; exact hv j v hj)
    rw [hlen] at this
    simp [loadVar, aggOf_run ha, tsz_run hs, this]
  | false =>
    simp only [loadC] at h
    obtain ⟨v, h1, h2, h3⟩ := hc o r h
    exact ⟨v, by simp [loadVar, aggOf_run ha, h1], h2⟩
/-- What lies at a place. -/
def loadV (G : Globs) (g : Bool) (s : Nat) (a : AV) (H : AHeap) : Option AV :=
  match a with
  | .ptr b L i o => match H[b]? with
    | some blk => if blk.elems.length = L then (match blk.elems[i]? with | some x => loadC g s x.cells o | none => none) else none
    | none => none
  | .rp _ x o => loadC g s x.cells o
  | .gl k => match g with | true => none | false => G k
  | _ => none
def loadA (P : Program) (G : Globs) (t : Nat) (a : AV) (H : AHeap) : Option AV :=
  match aggOf P t, tsz P t with
  | some g, some s => loadV G g s a H
  | _, _ => none
theorem HeapAt.valid {c : Ctx} {H : AHeap} {w : World} (h : HeapAt c H w) {b : Nat} {blk : ABlk} (hb : H[b]? = some blk) {inf : Info} (hm : c.m b = some inf) : inf.len = blk.elems.length :=
  (h.blk b blk inf hb hm).len
theorem loadA_sound {P : Program} {G : Globs} {t : Nat} {a r : AV} {H : AHeap} (h : loadA P G t a H = some r) {c : Ctx} {w : World} (hg : Good G c w) (hH : HeapAt c H w) {va : Value} (ha : Rel c a va) :
    ∃ v, (Instr.loadAt t va).run P w = .ok v w ∧ Rel c r v := by
  unfold loadA at h
  split at h
  case h_2 => cases h
  rename_i g s hag hsz
  unfold loadV at h
  split at h
  · rename_i b L i o
    split at h
    case h_2 => cases h
    rename_i blk hb
    split at h
    case isFalse => cases h
    rename_i hL
    split at h
    case h_2 => cases h
    rename_i x hx
    cases ha with
    | ptr hm hl hv =>
      have hB := hH.blk _ _ _ hb hm
      obtain ⟨v, e1, e2⟩ := loadC_sound (P := P) h hag hsz (hB.at hv hx)
      exact ⟨v, by simpa [Instr.loadAt, Instr.sureAddr] using e1, e2⟩
    | ptrStale a hm hl =>
      have := hH.valid hb hm
      omega
  · rename_i bor x o
    cases ha with
    | rp h1 h2 =>
      rename_i A V
      have hc : CellsAt c w A.block A.off x.cells := fun j y hy => by
        obtain ⟨e1, e2⟩ := h2 j y hy
        have : c.B ⟨A.block, A.off + j, none⟩ = some (V j) := by
          cases bor
          · exact hg.MB _ _ e1
          · exact e1
        exact ⟨V j, hg.holds _ _ this, h1 j y hy, e2⟩
      obtain ⟨v, e1, e2⟩ := loadC_sound (P := P) h hag hsz hc
      exact ⟨v, by simpa [Instr.loadAt, Instr.sureAddr] using e1, e2⟩
  · split at h
    · cases h
    · rename_i k
      obtain rfl := ha.of_gl
      obtain ⟨v, e1, e2⟩ := hg.glob _ _ h
      have := hg.holds _ _ (hg.MB _ _ e1)
      exact ⟨v, by simp [Instr.loadAt, Instr.sureAddr, loadVar, aggOf_run hag, this], e2⟩
  · cases h
/-! ### Stores -/
/-- May this lie in memory? -/
def storable : AV → Bool
  | .undef => false
  | .tup _ => false
  | _ => true
theorem storable_cells {c : Ctx} {x : AV} {v : Value} (hs : storable x = true) (h : Rel c x v) :
    ∃ vs : List Value, v.cells = vs.toArray ∧ RelL c x.cells vs ∧ ∀ u ∈ vs, u.oneCell' = true := by
  have single : ∀ (y : AV) (u : Value), Rel c y u → y.cells = [y] → u.cells = #[u] → u.oneCell' = true → ∃ vs : List Value, u.cells = vs.toArray ∧ RelL c y.cells vs ∧ ∀ z ∈ vs, z.oneCell' = true :=
    fun y u hr e1 e2 e3 => ⟨[u], by rw [e2], by rw [e1]; exact .cons hr .nil, by simpa using e3⟩
  cases h with
  | undef v => cases hs
  | tup => cases hs
  | agg hl hh h1 => exact ⟨_, rfl, ⟨hl, hh⟩, h1⟩
  | bool b => exact single _ _ (.bool b) rfl rfl rfl
  | int k n => exact single _ _ (.int k n) rfl rfl rfl
  | str s => exact single _ _ (.str s) rfl rfl rfl
  | nilp => exact single _ _ .nilp rfl rfl rfl
  | nilf => exact single _ _ .nilf rfl rfl rfl
  | nili => exact single _ _ .nili rfl rfl rfl
  | fn hl hh => exact single _ _ (.fn hl hh) rfl rfl rfl
  | iface hh => exact single _ _ (.iface hh) rfl rfl rfl
  | ptr a b d => exact single _ _ (.ptr a b d) rfl rfl rfl
  | ptrStale a b d => exact single _ _ (.ptrStale a b d) rfl rfl rfl
  | sl a b d e f g i j => exact single _ _ (.sl a b d e f g i j) rfl rfl rfl
  | slVirt a b d e => exact single _ _ (.slVirt a b d e) rfl rfl rfl
  | slStale a b d e f g => exact single _ _ (.slStale a b d e f g) rfl rfl rfl
  | ro a b d e f g i => exact single _ _ (.ro a b d e f g i) rfl rfl rfl
  | rp a b => exact single _ _ (.rp a b) rfl rfl rfl
  | gl g => exact single _ _ (.gl g) rfl rfl rfl
  | gp hh => exact single _ _ (.gp hh) rfl rfl rfl
  | nils => exact single _ _ .nils rfl rfl rfl
  | anyb b => exact single _ _ (.anyb b) rfl rfl rfl
/-- An element of other cells. -/
def recell (x : AV) (cs : List AV) : AV :=
  match x with
  | .agg _ => .agg cs
  | _ => match cs with | y :: _ => y | [] => .undef
def putC (cs : List AV) (o : Nat) (new : List AV) : List AV := cs.take o ++ (new ++ cs.drop (o + new.length))
def storeV (s : Nat) (a v : AV) (H : AHeap) : Option AHeap :=
  match a with
  | .ptr b L i o => match H[b]? with
    | some blk => if blk.elems.length = L ∧ storable v = true ∧ v.cells.length = s then
        (match blk.elems[i]? with
          | some x => if o + s ≤ x.cells.length then some (H.set b { blk with elems := blk.elems.set i (recell x (putC x.cells o v.cells)) }) else none
          | none => none) else none
    | none => none
  | _ => none
def storeA (P : Program) (t : Nat) (a v : AV) (H : AHeap) : Option AHeap :=
  match tsz P t with
  | some s => storeV s a v H
  | none => none
theorem putC_length {cs new : List AV} {o : Nat} (h : o + new.length ≤ cs.length) : (putC cs o new).length = cs.length := by
  simp [putC]; omega
theorem recell_cells {x : AV} {cs : List AV} (h : cs.length = x.cells.length) (hone : ∀ y ∈ cs, y.cells = [y] ∨ ∃ l, x = .agg l) : (recell x cs).cells = cs := by
  cases x
  case agg l => rfl
  all_goals
    simp only [AV.cells, List.length_singleton] at h
    obtain ⟨y, rfl⟩ := List.length_eq_one_iff.1 h
    rcases hone y (by simp) with h1 | ⟨l, h1⟩
    · simpa [recell] using h1
    · cases h1
theorem putC_get {cs new : List AV} {o j : Nat} (h : o + new.length ≤ cs.length) :
    (putC cs o new)[j]? = if o ≤ j ∧ j < o + new.length then new[j - o]? else cs[j]? := by
  unfold putC
  by_cases h1 : j < o
  · rw [List.getElem?_append_left (by simp; omega), List.getElem?_take, if_pos h1, if_neg (by omega)]
  · rw [List.getElem?_append_right (by simp; omega)]
    have e : (cs.take o).length = o := by simp; omega
    rw [e]
    by_cases h2 : j < o + new.length
    · rw [List.getElem?_append_left (by omega), if_pos (by omega)]
    · rw [List.getElem?_append_right (by omega), List.getElem?_drop, if_neg (by omega)]
      congr 1; omega
/-- Cells that lie in memory are one cell each. -/
theorem oneCell_cells {c : Ctx} {y : AV} {v : Value} (h : Rel c y v) (h1 : v.oneCell' = true) : y.cells = [y] := by
  cases h <;> first | rfl | (cases h1)
theorem row_apart {i k sz j o n : Nat} (hk : k ≠ i) (hj : j < sz) (ho : o + n ≤ sz) : ¬ (i * sz + o ≤ k * sz + j ∧ k * sz + j < i * sz + o + n) := by
  intro ⟨h1, h2⟩
  rcases Nat.lt_or_gt_of_ne hk with h | h
  · have := Nat.mul_le_mul_right sz (show k + 1 ≤ i by omega)
    rw [Nat.add_mul] at this
    omega
  · have := Nat.mul_le_mul_right sz (show i + 1 ≤ k by omega)
    rw [Nat.add_mul] at this
    omega
theorem row_fits {i n cap sz o s : Nat} (hi : i < n) (hn : n ≤ cap) (ho : o + s ≤ sz) : i * sz + o + s ≤ cap * sz := by
  have := Nat.mul_le_mul_right sz (show i + 1 ≤ cap by omega)
  rw [Nat.add_mul] at this
  omega
theorem splice_get {α : Type} (cur vs : List α) (k j : Nat) (h : k + vs.length ≤ cur.length) :
    (cur.take k ++ vs ++ cur.drop (k + vs.length))[j]? = if k ≤ j ∧ j < k + vs.length then vs[j - k]? else cur[j]? := by
  rw [List.append_assoc]
  by_cases h1 : j < k
  · rw [List.getElem?_append_left (by simp; omega), List.getElem?_take, if_pos h1, if_neg (by omega)]
  · rw [List.getElem?_append_right (by simp; omega)]
    have e : (cur.take k).length = k := by simp; omega
    rw [e]
    by_cases h2 : j < k + vs.length
    · rw [List.getElem?_append_left (by omega), if_pos (by omega)]
    · rw [List.getElem?_append_right (by omega), List.getElem?_drop, if_neg (by omega)]
      congr 1; omega
theorem storeA_sound {P : Program} {G : Globs} {t : Nat} {a v : AV} {H H' : AHeap} (h : storeA P t a v H = some H') {c : Ctx} {w : World} (hg : Good G c w) (hH : HeapAt c H w)
    {va vv : Value} (ha : Rel c a va) (hv : Rel c v vv) :
    ∃ w', (Instr.storeAt t va vv).run P w = .ok () w' ∧ Step c w c w' ∧ Good G c w' ∧ HeapAt c H' w' := by
  unfold storeA at h
  split at h
  case h_2 => cases h
  rename_i s hs
  unfold storeV at h
  split at h
  case h_2 => cases h
  rename_i b L i o
  split at h
  case h_2 => cases h
  rename_i blk hb
  split at h
  case isFalse => cases h
  rename_i hc
  obtain ⟨hL, hst, hlen⟩ := hc
  split at h
  case h_2 => cases h
  rename_i x hx
  split at h
  case isFalse => cases h
  rename_i hfit
  simp at h; subst h
  obtain ⟨vs, hvs, hrel, h1⟩ := storable_cells hst hv
  have hvl : vs.length = s := by rw [← hrel.1, hlen]
  cases ha with
  | ptrStale a hm hl => have := hH.valid hb hm; omega
  | ptr hm hl hvirt =>
    rename_i inf
    have hB := hH.blk _ _ _ hb hm
    obtain ⟨cur, hcur, hsize⟩ := hB.real hvirt
    have hi : i < blk.elems.length := (List.getElem?_eq_some_iff.1 hx).1
    have hxs : x.cells.length = blk.sz := (hB.cells hvirt i x hx).1
    have hfits : i * inf.sz + o + s ≤ inf.cap * inf.sz := row_fits hi hB.fits (by rw [hB.sz, ← hxs]; exact hfit)
    have hrun := run_storeCells_at P inf.idx (i * inf.sz + o) inf.ty vs 0 cur w hcur (by rw [hsize, hvl]; simpa using hfits) h1
    simp only [Nat.add_zero] at hrun
    have ho : c.own inf.idx := ⟨b, inf, hm, hvirt, rfl⟩
    have hstep := Step.setRow (c := c) (w := w) ho (cur.toList.take (i * inf.sz + o) ++ vs ++ cur.toList.drop (i * inf.sz + o + vs.length)).toArray
    refine ⟨_, ?_, hstep, hg.world hstep, ?_⟩
    · have : vv.cells.size = s := by rw [hvs]; simpa using hvl
      simp [Instr.storeAt, Instr.sureAddr, storeVar, tsz_run hs, this]
      rw [hvs]
      simpa using hrun
    · refine hH.set hm hvirt ?_
      have hcells : (recell x (putC x.cells o v.cells)).cells = putC x.cells o v.cells := by
        refine recell_cells (putC_length (by omega)) (fun y hy => ?_)
        simp only [putC, List.mem_append] at hy
        rcases hy with hy | hy | hy
        · obtain ⟨j, hj⟩ := List.mem_iff_getElem?.1 (List.mem_of_mem_take hy)
          obtain ⟨u, _, g2, g3⟩ := (hB.cells hvirt i x hx).2 j y hj
          exact .inl (oneCell_cells g2 g3)
        · obtain ⟨j, hj⟩ := List.mem_iff_getElem?.1 hy
          obtain ⟨u, g1, g2⟩ := hrel.get hj
          exact .inl (oneCell_cells g2 (h1 u (List.mem_of_getElem? g1)))
        · obtain ⟨j, hj⟩ := List.mem_iff_getElem?.1 (List.mem_of_mem_drop hy)
          obtain ⟨u, _, g2, g3⟩ := (hB.cells hvirt i x hx).2 j y hj
          exact .inl (oneCell_cells g2 g3)
      have hlen' : (cur.toList.take (i * inf.sz + o) ++ vs ++ cur.toList.drop (i * inf.sz + o + vs.length)).length = cur.size := by
        simp; omega
      refine ⟨hB.ty, hB.sz, hB.pos, by simpa using hB.len, by simpa using hB.fits, hB.virt, hB.big, fun _ => ⟨_, setRow_heap w _ cur _ _ _ hcur, ?_⟩, fun _ k y hy => ?_⟩
      · rw [List.size_toArray, hlen', hsize]
      · have cell : ∀ j, (w.setRow inf.idx (cur.toList.take (i * inf.sz + o) ++ vs ++ cur.toList.drop (i * inf.sz + o + vs.length)).toArray).cell? ⟨inf.idx, j, none⟩ =
            if i * inf.sz + o ≤ j ∧ j < i * inf.sz + o + vs.length then vs[j - (i * inf.sz + o)]? else w.cell? ⟨inf.idx, j, none⟩ := by
          intro j
          rw [cell_setRow_same w _ _ cur _ _ _ hcur, cell_of_row w _ _ _ _ _ hcur, List.getElem?_toArray, splice_get _ _ _ _ (by simp; omega)]
          simp
        by_cases hki : k = i
        · subst hki
          rw [List.getElem?_set_self hi] at hy
          obtain rfl := Option.some.inj hy
          rw [hcells]
          refine ⟨by rw [putC_length (by omega)]; exact hxs, fun j z hz => ?_⟩
          rw [putC_get (by omega)] at hz
          rw [cell, ← hB.sz]
          split at hz
          · rename_i hj
            rw [if_pos (by omega)]
            obtain ⟨u, g1, g2⟩ := hrel.get hz
            refine ⟨u, ?_, g2, h1 u (List.mem_of_getElem? g1)⟩
            rw [← g1]; congr 1; omega
          · rename_i hj
            rw [if_neg (by omega)]
            have := (hB.cells hvirt k x hx).2 j z hz
            rwa [← hB.sz] at this
        · rw [List.getElem?_set_ne (Ne.symm hki)] at hy
          obtain ⟨q1, q2⟩ := hB.cells hvirt k y hy
          refine ⟨q1, fun j z hz => ?_⟩
          have hj : j < blk.sz := by rw [← q1]; exact (List.getElem?_eq_some_iff.1 hz).1
          rw [cell, if_neg (by rw [hB.sz]; exact row_apart hki hj (by omega))]
          exact q2 j z hz
/-! ### New blocks -/
def boxA (t : Nat) (v : AV) (H : AHeap) : Option (AV × AHeap) :=
  if storable v = true ∧ 0 < v.cells.length then some (.ptr H.length 1 0 0, H ++ [{ ty := t, sz := v.cells.length, elems := [v] }]) else none
/-- What an operation that makes a block leaves. -/
structure Made (G : Globs) (c : Ctx) (H : AHeap) (w : World) (r : AV) (H' : AHeap) (v : Value) (w' : World) (c' : Ctx) : Prop where
  step : Step c w c' w'
  good : Good G c' w'
  heap : HeapAt c' H' w'
  rel : Rel c' r v
  same : ∀ b, b ≠ H.length → c'.m b = c.m b
  quiet : ∀ k, k < w.heap.size → w'.heap[k]? = w.heap[k]?
  ext : H' = H ∨ ∃ blk, H' = H ++ [blk]
  keepm : H' = H → c'.m H.length = c.m H.length
theorem made_push {G : Globs} {c : Ctx} {H : AHeap} {w : World} (hg : Good G c w) (hH : HeapAt c H w) (hn : c.m H.length = none) {blk : ABlk} {cap : Nat} {vals : List Value}
    (hpos : 0 < blk.sz) (hlen : blk.elems.length ≤ cap) (hcap : cap ≤ maxLen) (hsz : vals.length = cap * blk.sz)
    (hrel : ∀ (i : Nat) (x : AV), blk.elems[i]? = some x → x.cells.length = blk.sz ∧ ∀ (j : Nat) (y : AV), x.cells[j]? = some y → ∃ v, vals[i * blk.sz + j]? = some v ∧ Rel c y v ∧ v.oneCell' = true)
    {r : AV} {v : Value} (hr : Rel (c.push H.length ⟨w.heap.size, cap, blk.ty, blk.sz, blk.elems.length, false⟩) r v) :
    Made G c H w r (H ++ [blk]) v (w.alloc (.cells vals.toArray blk.ty)) (c.push H.length ⟨w.heap.size, cap, blk.ty, blk.sz, blk.elems.length, false⟩) := by
  refine ⟨Step.push _ hn (fun _ => rfl), hg.push _ hn (fun _ => rfl), hH.push hg hn (fun _ => rfl) ?_, hr, fun b hb => by simp [Ctx.push, hb], fun k hk => heap_alloc_old w _ k hk, .inr ⟨blk, rfl⟩, fun e => by simp at e⟩
  refine BlkAt.new hpos hlen hcap hsz (fun i x hx => ?_) (heap_alloc_new w _)
  obtain ⟨h1, h2⟩ := hrel i x hx
  exact ⟨h1, fun j y hy => let ⟨u, a, b, d⟩ := h2 j y hy; ⟨u, a, b.mono (Ctx.push_le hn), d⟩⟩
theorem newVar_sound {P : Program} {G : Globs} {t : Nat} {v r : AV} {H H' : AHeap} (h : boxA t v H = some (r, H')) {c : Ctx} {w : World} (hg : Good G c w) (hH : HeapAt c H w) (hn : c.m H.length = none)
    {vv : Value} (hv : Rel c v vv) :
    ∃ a w' c', (newVar t vv).run P w = .ok a w' ∧ Made G c H w r H' (.pointer (some a)) w' c' := by
  unfold boxA at h
  split at h
  case isFalse => cases h
  rename_i hc
  simp only [Option.some.injEq, Prod.mk.injEq] at h
  obtain ⟨rfl, rfl⟩ := h
  obtain ⟨vs, hvs, hrel, h1⟩ := storable_cells hc.1 hv
  refine ⟨⟨w.heap.size, 0, none⟩, _, _, ?_, made_push (cap := 1) (vals := vs) hg hH hn (blk := { ty := t, sz := v.cells.length, elems := [v] }) hc.2 (by simp) (by simp [maxLen]) (by simp [hrel.1]) ?_ ?_⟩
  · simp [newVar, newRow, hvs]
  · intro i x hx
    cases i with
    | succ i => simp at hx
    | zero =>
      simp at hx; subst hx
      refine ⟨rfl, fun j y hy => ?_⟩
      obtain ⟨u, g1, g2⟩ := hrel.get hy
      exact ⟨u, by simpa using g1, g2, h1 u (List.mem_of_getElem? g1)⟩
  · have := Rel.ptr (c := c.push H.length ⟨w.heap.size, 1, t, v.cells.length, 1, false⟩) (b := H.length) (L := 1) (i := 0) (o := 0) (inf := ⟨w.heap.size, 1, t, v.cells.length, 1, false⟩) (by simp [Ctx.push]) rfl rfl
    simpa using this
theorem box_sound {P : Program} {G : Globs} {t : Nat} {v r : AV} {H H' : AHeap} (h : boxA t v H = some (r, H')) {c : Ctx} {w : World} (hg : Good G c w) (hH : HeapAt c H w) (hn : c.m H.length = none)
    {vv : Value} (hv : Rel c v vv) : ∃ u w' c', (Instr.box t vv).run P w = .ok u w' ∧ Made G c H w r H' u w' c' := by
  obtain ⟨a, w', c', h1, h2⟩ := newVar_sound (P := P) h hg hH hn hv
  exact ⟨_, w', c', by simp [Instr.box, h1], h2⟩
def allocA (P : Program) (t : Nat) (H : AHeap) : Option (AV × AHeap) :=
  match zeroA P t with
  | some z => boxA t z H
  | none => none
theorem alloc_sound {P : Program} {G : Globs} {t : Nat} {r : AV} {H H' : AHeap} (h : allocA P t H = some (r, H')) {c : Ctx} {w : World} (hg : Good G c w) (hH : HeapAt c H w) (hn : c.m H.length = none) :
    ∃ u w' c', (Instr.alloc t true (.tuple #[])).run P w = .ok u w' ∧ Made G c H w r H' u w' c' := by
  unfold allocA at h
  split at h
  case h_2 => cases h
  rename_i z hz
  obtain ⟨v, h1, h2⟩ := zeroA_run hz w
  obtain ⟨a, w', c', h3, h4⟩ := newVar_sound (P := P) h hg hH hn (h2 c)
  exact ⟨_, w', c', by simp [Instr.alloc, h1, h3], h4⟩
end Go.Proofs.YtdfglgnflldkpaaDoor.Mir
namespace Go.Proofs.YtdfglgnflldkpaaDoor.Mir
open Go
set_option linter.unusedVariables false
set_option linter.unusedSimpArgs false
/-! ### What is built -/
def fillA (place : Nat → Option (Nat × Nat)) : List (Nat × AV) → List AV → Option (List AV)
  | [], cs => some cs
  | (i, v) :: rest, cs => match place i with
    | some (off, size) => if storable v = true ∧ v.cells.length = size ∧ off + size ≤ cs.length then fillA place rest (putC cs off v.cells) else none
    | none => none
/-- Cells of one cell each that stand for these. -/
structure Cells1 (c : Ctx) (cs : List AV) (vs : List Value) : Prop where
  rel : RelL c cs vs
  one : ∀ u ∈ vs, u.oneCell' = true
theorem foldl_set (news : List Value) : ∀ (k : Nat) (cells : Array Value) (off : Nat), off + k + news.length ≤ cells.size →
    ((news.zipIdx k).foldl (fun cs (p : Value × Nat) => cs.setIfInBounds (off + p.2) p.1) cells).toList = cells.toList.take (off + k) ++ (news ++ cells.toList.drop (off + k + news.length)) := by
  induction news with
  | nil => intro k cells off h; simp
  | cons v news ih =>
    intro k cells off h
    simp only [List.zipIdx_cons, List.foldl_cons]
    simp only [List.length_cons] at h
    rw [ih (k + 1) _ off (by simp; omega)]
    rw [Array.toList_setIfInBounds]
    have e1 : (cells.toList.set (off + k) v).take (off + (k + 1)) = cells.toList.take (off + k) ++ [v] := by
      rw [← Nat.add_assoc, List.take_succ_eq_append_getElem (by simp; omega)]
      simp
      apply List.take_set_of_le; omega
    have e2 : (cells.toList.set (off + k) v).drop (off + (k + 1) + news.length) = cells.toList.drop (off + k + (news.length + 1)) := by
      rw [List.drop_set_of_lt (by omega)]; congr 1; omega
    rw [e1, e2]
    simp
theorem putC_rel {c : Ctx} {cs new : List AV} {vs nv : List Value} {o : Nat} (h : Cells1 c cs vs) (hn : Cells1 c new nv) (hl : o + new.length ≤ cs.length) :
    Cells1 c (putC cs o new) (vs.take o ++ (nv ++ vs.drop (o + nv.length))) := by
  have e1 := h.rel.1
  have e2 := hn.rel.1
  refine ⟨⟨by simp [putC]; omega, fun i x v hx hv => ?_⟩, fun u hu => ?_⟩
  · rw [putC_get hl] at hx
    rw [← List.append_assoc, splice_get _ _ _ _ (by omega)] at hv
    rw [e2] at hx
    split at hx
    · rename_i hi; rw [if_pos hi] at hv; exact hn.rel.2 _ _ _ hx hv
    · rename_i hi; rw [if_neg hi] at hv; exact h.rel.2 _ _ _ hx hv
  · simp only [List.mem_append] at hu
    rcases hu with hu | hu | hu
    · exact h.one u (List.mem_of_mem_take hu)
    · exact hn.one u hu
    · exact h.one u (List.mem_of_mem_drop hu)
theorem fillA_sound {c : Ctx} {place : Nat → Option (Nat × Nat)} : ∀ (parts : List (Nat × AV)) (vparts : List (Nat × Value)) (cs r : List AV) (vs : List Value), fillA place parts cs = some r →
    Cells1 c cs vs → parts.length = vparts.length → (∀ (k i : Nat) (x : AV) (j : Nat) (v : Value), parts[k]? = some (i, x) → vparts[k]? = some (j, v) → i = j ∧ Rel c x v) →
    ∃ rs : List Value, Instr.fill place vs.toArray vparts = some rs.toArray ∧ Cells1 c r rs
  | [], vparts, cs, r, vs, h, hc, hl, _ => by
    have : vparts = [] := List.eq_nil_of_length_eq_zero hl.symm
    subst this
    simp [fillA] at h; subst h
    exact ⟨vs, rfl, hc⟩
  | (i, x) :: parts, vparts, cs, r, vs, h, hc, hl, hp => by
    cases vparts with
    | nil => simp at hl
    | cons q vparts =>
      obtain ⟨j, v⟩ := q
      obtain ⟨rfl, hv⟩ := hp 0 i x j v rfl rfl
      simp only [fillA] at h
      split at h
      case h_2 => cases h
      rename_i off size hpl
      split at h
      case isFalse => cases h
      rename_i hcc
      obtain ⟨hst, hsz, hfit⟩ := hcc
      obtain ⟨nv, hnv, hnr, hn1⟩ := storable_cells hst hv
      have hnl : nv.length = size := by rw [← hnr.1, hsz]
      have hvl : vs.length = cs.length := hc.rel.1.symm
      have hput := putC_rel (o := off) hc ⟨hnr, hn1⟩ (by omega)
      obtain ⟨rs, g1, g2⟩ := fillA_sound parts vparts _ r _ h hput (by simpa using hl) (fun k => hp (k + 1))
      refine ⟨rs, ?_, g2⟩
      simp only [Instr.fill, hpl, hnv]
      have c1 : ¬ (nv.toArray.size ≠ size) := by simpa using hnl
      have c2 : ¬ (off + nv.toArray.size > vs.toArray.size) := by simp; omega
      simp only [c1, c2, decide_false, Bool.or_self, Bool.false_eq_true, if_false, or_self, ne_eq, not_false_eq_true, decide_not, Bool.not_true]
      rw [← g1]
      congr 1
      apply Array.ext'
      have := foldl_set nv 0 vs.toArray off (by simp; omega)
      simp only [Nat.add_zero] at this
      rw [← this]
      congr 2
      simp
def placesA (P : Program) (fs : List Field) : Option (List (Nat × Nat)) := fs.mapM (fun f => (P.info? f.type).map fun i => (f.offset, i.size))
def buildArr (s : Nat) (zc : List AV) (parts : List (Nat × AV)) : Option AV := (fillA (fun i => some (i * s, s)) parts zc).map .agg
def buildSt (places : List (Nat × Nat)) (zc : List AV) (parts : List (Nat × AV)) : Option AV := (fillA (fun i => places[i]?) parts zc).map .agg
def buildA (P : Program) (t : Nat) (parts : List (Nat × AV)) : Option AV :=
  match zeroA P t with
  | some (.agg zc) => match P.underlying t with
    | some (.array _ e) => match tsz P e with
      | some s => buildArr s zc parts
      | none => none
    | some (.struct fs) => match placesA P fs.toList with
      | some places => buildSt places zc parts
      | none => none
    | _ => none
  | _ => none
/-- The parts, as the model hands them over. -/
def PartsRel (c : Ctx) (parts : List (Nat × AV)) (vparts : List (Nat × Value)) : Prop :=
  parts.length = vparts.length ∧ ∀ (k i : Nat) (x : AV) (j : Nat) (v : Value), parts[k]? = some (i, x) → vparts[k]? = some (j, v) → i = j ∧ Rel c x v
theorem buildA_sound {P : Program} {t : Nat} {parts : List (Nat × AV)} {r : AV} (h : buildA P t parts = some r) {c : Ctx} {w : World} {vparts : Array (Nat × Value)} (hp : PartsRel c parts vparts.toList) :
    ∃ v, (Instr.build t vparts).run P w = .ok v w ∧ Rel c r v := by
  unfold buildA at h
  split at h
  case h_2 => cases h
  rename_i zc hz
  unfold zeroA at hz
  obtain ⟨i, hi, hz⟩ := Option.bind_eq_some_iff.1 hz
  obtain ⟨z, hzz, hzv⟩ := Option.map_eq_some_iff.1 hz
  have hrel := rel_ofVal c z
  rw [hzv] at hrel
  obtain ⟨vs, rfl, hr, h1⟩ := hrel.of_agg
  have fin : ∀ place, (fillA place parts zc).map .agg = some r → ∃ rs : List Value, Instr.fill place vs.toArray vparts.toList = some rs.toArray ∧ Rel c r (.agg rs.toArray) := by
    intro place hf
    obtain ⟨cs, hcs, rfl⟩ := Option.map_eq_some_iff.1 hf
    obtain ⟨rs, g1, g2⟩ := fillA_sound parts vparts.toList zc cs vs hcs ⟨hr, h1⟩ hp.1 hp.2
    exact ⟨rs, g1, .agg g2.rel.1 g2.rel.2 g2.one⟩
  split at h
  · rename_i n e hd
    split at h
    case h_2 => cases h
    rename_i s hs
    obtain ⟨rs, g1, g2⟩ := fin _ h
    unfold tsz at hs
    obtain ⟨ie, hie, rfl⟩ := Option.map_eq_some_iff.1 hs
    refine ⟨_, run_build w t vparts _ ?_, g2⟩
    simpa [Program.built, hi, hd, hzz, hie, Value.cells] using g1
  · rename_i fs hd
    split at h
    case h_2 => cases h
    rename_i places hpl
    obtain ⟨rs, g1, g2⟩ := fin _ h
    refine ⟨_, run_build w t vparts _ ?_, g2⟩
    unfold placesA at hpl
    simpa [Program.built, hi, hd, hzz, hpl, Value.cells] using g1
  · cases h
/-! ### Slices that are built -/
def flat (xs : List AV) : List AV := xs.flatMap AV.cells
theorem flat_length {s : Nat} : ∀ {xs : List AV}, (∀ x ∈ xs, x.cells.length = s) → (flat xs).length = xs.length * s
  | [], _ => by simp [flat]
  | x :: xs, h => by
    have ih := flat_length (xs := xs) (fun y hy => h y (by simp [hy]))
    have e := h x (by simp)
    simp only [flat] at ih
    simp only [flat, List.flatMap_cons, List.length_append, List.length_cons, ih, e, Nat.add_mul]
    omega
theorem flat_get {s : Nat} : ∀ {xs : List AV} (_ : ∀ x ∈ xs, x.cells.length = s) {i j : Nat} {x : AV} (_ : xs[i]? = some x) (_ : j < s), (flat xs)[i * s + j]? = x.cells[j]?
  | [], _, _, _, _, hx, _ => by simp at hx
  | y :: xs, h, i, j, x, hx, hj => by
    have e := h y (by simp)
    cases i with
    | zero =>
      simp at hx; subst hx
      simp only [flat, List.flatMap_cons, Nat.zero_mul, Nat.zero_add]
      rw [List.getElem?_append_left (by omega)]
    | succ i =>
      simp at hx
      have ih := flat_get (xs := xs) (fun z hz => h z (by simp [hz])) hx hj
      simp only [flat] at ih
      simp only [flat, List.flatMap_cons]
      rw [Nat.add_mul, List.getElem?_append_right (by omega), ← ih]
      congr 1; omega
theorem flat_set {s : Nat} {v : AV} (hv : v.cells.length = s) : ∀ {xs : List AV} (_ : ∀ x ∈ xs, x.cells.length = s) {i : Nat} (_ : i < xs.length), flat (xs.set i v) = putC (flat xs) (i * s) v.cells
  | [], _, _, hi => by simp at hi
  | y :: xs, h, i, hi => by
    have e := h y (by simp)
    cases i with
    | zero => simp [flat, putC, hv, ← e]
    | succ i =>
      have ih := flat_set hv (xs := xs) (fun z hz => h z (by simp [hz])) (i := i) (by simpa using hi)
      simp only [flat] at ih
      simp only [flat, List.set_cons_succ, List.flatMap_cons, ih, putC]
      have e2 : (i + 1) * s = y.cells.length + i * s := by rw [Nat.add_mul]; omega
      rw [e2, List.take_length_add_append, Nat.add_assoc, List.drop_length_add_append]
      simp
def fillE (s : Nat) : List (Nat × AV) → List AV → Option (List AV)
  | [], xs => some xs
  | (i, v) :: rest, xs => if storable v = true ∧ v.cells.length = s ∧ i < xs.length then fillE s rest (xs.set i v) else none
theorem fillE_sz {s : Nat} : ∀ {parts : List (Nat × AV)} {xs r : List AV}, fillE s parts xs = some r → (∀ x ∈ xs, x.cells.length = s) → (∀ x ∈ r, x.cells.length = s) ∧ r.length = xs.length
  | [], xs, r, h, hx => by simp [fillE] at h; subst h; exact ⟨hx, rfl⟩
  | (i, v) :: parts, xs, r, h, hx => by
    simp only [fillE] at h
    split at h
    · rename_i hc
      obtain ⟨h1, h2⟩ := fillE_sz h (fun x hm => by
        rcases List.mem_or_eq_of_mem_set hm with hm | rfl
        · exact hx x hm
        · exact hc.2.1)
      exact ⟨h1, by simpa using h2⟩
    · cases h
theorem fillE_flat {s : Nat} : ∀ {parts : List (Nat × AV)} {xs r : List AV}, fillE s parts xs = some r → (∀ x ∈ xs, x.cells.length = s) → fillA (fun i => some (i * s, s)) parts (flat xs) = some (flat r)
  | [], xs, r, h, hx => by simp [fillE] at h; subst h; rfl
  | (i, v) :: parts, xs, r, h, hx => by
    simp only [fillE] at h
    split at h
    · rename_i hc
      simp only [fillA]
      have hfit : i * s + s ≤ (flat xs).length := by
        rw [flat_length hx, ← Nat.succ_mul]
        exact Nat.mul_le_mul_right s hc.2.2
      rw [if_pos ⟨hc.1, hc.2.1, hfit⟩, ← flat_set hc.2.1 hx hc.2.2]
      exact fillE_flat h (fun x hm => by
        rcases List.mem_or_eq_of_mem_set hm with hm | rfl
        · exact hx x hm
        · exact hc.2.1)
    · cases h
end Go.Proofs.YtdfglgnflldkpaaDoor.Mir
namespace Go.Proofs.YtdfglgnflldkpaaDoor.Mir
open Go
set_option linter.unusedVariables false
set_option linter.unusedSimpArgs false
/-- The cells of a block are laid for good. -/
def Ctx.lay (c : Ctx) (w : World) (k : Nat) : Ctx :=
  { c with M := fun a => if a.block = k then w.cell? a else c.M a, B := fun a => if a.block = k then w.cell? a else c.B a }
/-- A new block that nobody writes to. -/
theorem lay_new {G : Globs} {c : Ctx} {w : World} (hg : Good G c w) (o : Obj) :
    Step c w (c.lay (w.alloc o) w.heap.size) (w.alloc o) ∧ Good G (c.lay (w.alloc o) w.heap.size) (w.alloc o) := by
  have no : ∀ a v, c.B a = some v → a.block ≠ w.heap.size := fun a v h e => by
    have := block_lt_of_cell (hg.holds a v h); omega
  have hs : Step c w (c.lay (w.alloc o) w.heap.size) (w.alloc o) := by
    refine ⟨⟨fun b i hb => ⟨i, hb, rfl, Nat.le_refl _, fun _ => rfl⟩, fun a v h => ?_, fun a v h => ?_, rfl⟩, rfl, rfl, rfl, by simp, fun k hk _ => heap_alloc_old w o k hk, fun _ inf h hv _ => ⟨inf, h, hv, rfl⟩, fun a v h => ?_, fun a v h => ?_⟩
    · simp [Ctx.lay, no a v (hg.MB _ _ h), h]
    · simp [Ctx.lay, no a v h, h]
    · by_cases e : a.block = w.heap.size
      · exact .inr (by omega)
      · simp [Ctx.lay, e] at h; exact .inl h
    · by_cases e : a.block = w.heap.size
      · exact .inr (by omega)
      · simp [Ctx.lay, e] at h; exact .inl h
  refine ⟨hs, hg.step hs (fun a v h => ?_) (fun a v h => ?_) (fun k hk a ha => ?_) (fun k hk => ?_)⟩
  · by_cases e : a.block = w.heap.size
    · simpa [Ctx.lay, e] using h
    · simp [Ctx.lay, e] at h
      rw [World.cell?_alloc_lt w _ _ (block_lt_of_cell (hg.holds a v h))]
      exact hg.holds a v h
  · by_cases e : a.block = w.heap.size
    · simp [Ctx.lay, e] at h ⊢; exact h
    · simp [Ctx.lay, e] at h ⊢; exact hg.MB _ _ h
  · have h1 : c.own k := hk
    have := hg.bound k h1
    have e : a.block ≠ w.heap.size := by omega
    simp [Ctx.lay, e]
    exact hg.away k h1 a ha
  · have := hg.bound k hk
    simp; omega
theorem HeapAt.keep {c c' : Ctx} {H : AHeap} {w w' : World} (h : HeapAt c H w) (hle : c.le c') (hm : ∀ b inf, c'.m b = some inf → c.m b = some inf)
    (hw : ∀ k, c.own k → w'.heap[k]? = w.heap[k]?) : HeapAt c' H w' :=
  ⟨fun b blk inf hb hi => (h.blk b blk inf hb (hm b inf hi)).kept hle (fun hv => hw _ ⟨b, inf, hm b inf hi, hv, rfl⟩),
   fun b b' i i' h1 h2 => h.inj b b' i i' (hm _ _ h1) (hm _ _ h2)⟩
/-- Made, with nothing of the abstract heap turned. -/
theorem made_lay {G : Globs} {c : Ctx} {H : AHeap} {w : World} (hg : Good G c w) (hH : HeapAt c H w) (o : Obj) {r : AV} {v : Value} (hr : Rel (c.lay (w.alloc o) w.heap.size) r v) :
    Made G c H w r H v (w.alloc o) (c.lay (w.alloc o) w.heap.size) := by
  obtain ⟨hs, hg'⟩ := lay_new hg o
  exact ⟨hs, hg', hH.keep hs.le (fun _ _ h => h) (fun k hk => heap_alloc_old w o k (hg.bound k hk)), hr, fun _ _ => rfl, fun k hk => heap_alloc_old w o k hk, .inl rfl, fun _ => rfl⟩
/-- The elements of a slice that is built. -/
def buildZ (P : Program) (t len : Nat) : Option (Nat × Nat × AV) :=
  match P.underlying t with
  | some (.slice e) => match tsz P e with
    | some s => match zeroA P e with
      | some z => if 0 < s ∧ len * s ≤ 16777216 ∧ z.cells.length = s ∧ storable z = true then some (e, s, z) else none
      | none => none
    | none => none
  | _ => none
theorem buildE_sound {P : Program} {t len e' s' : Nat} {z : AV} {parts : List (Nat × AV)} {ys : List AV} (hb : buildZ P t len = some (e', s', z)) (hys : fillE s' parts (List.replicate len z) = some ys) {c : Ctx} {w : World}
    {vparts : Array (Nat × Value)} (hp : PartsRel c parts vparts.toList) :
    ∃ vals : List Value, (Instr.buildSlice t len vparts).run P w = .ok (.slice (some ⟨w.heap.size, 0, none⟩) len len) (w.alloc (.cells vals.toArray e')) ∧ Cells1 c (flat ys) vals ∧
      (∀ x ∈ ys, x.cells.length = s') ∧ ys.length = len ∧ 0 < s' ∧ len * s' ≤ 16777216 := by
  unfold buildZ at hb
  split at hb
  case h_2 => cases hb
  rename_i e hd
  split at hb
  case h_2 => cases hb
  rename_i s hs
  split at hb
  case h_2 => cases hb
  rename_i z' hz
  split at hb
  case isFalse => cases hb
  rename_i hc
  obtain ⟨hs0, hcap, hzl, hst⟩ := hc
  simp only [Option.some.injEq, Prod.mk.injEq] at hb
  obtain ⟨q1, q2, q3⟩ := hb
  obtain rfl := q1.symm
  obtain rfl := q2.symm
  obtain rfl := q3.symm
  obtain ⟨zv, hzr, hzrel⟩ := zeroA_run hz w
  obtain ⟨zs, hzs, hzr1, hz1⟩ := storable_cells hst (hzrel c)
  have hrep : ∀ x ∈ List.replicate len z, x.cells.length = s' := fun x hx => by rw [(List.mem_replicate.1 hx).2]; exact hzl
  obtain ⟨hsz, hlen⟩ := fillE_sz hys hrep
  have hzsl : zs.length = s' := by rw [← hzr1.1, hzl]
  subst hzsl
  let base : List Value := ((List.range (len * zs.length)).map fun i => zs.toArray[i % zs.length]!)
  have hbase : Cells1 c (flat (List.replicate len z)) base := by
    refine ⟨⟨by rw [flat_length hrep]; simp [base], fun i x v hx hv => ?_⟩, fun u hu => ?_⟩
    · have hi : i < len * zs.length := by have := (List.getElem?_eq_some_iff.1 hx).1; rwa [flat_length hrep, List.length_replicate] at this
      have hdm : i = i / zs.length * zs.length + i % zs.length := by rw [Nat.mul_comm]; exact (Nat.div_add_mod i zs.length).symm
      have hmod : i % zs.length < zs.length := Nat.mod_lt _ hs0
      have hdiv : i / zs.length < len := Nat.div_lt_of_lt_mul (by rwa [Nat.mul_comm])
      rw [hdm, flat_get hrep (i := i / zs.length) (x := z) (by simp [hdiv]) hmod] at hx
      simp only [base, List.getElem?_map, List.getElem?_range hi, Option.map_some, Option.some.injEq] at hv
      have hz' : zs[i % zs.length]? = some v := by
        rw [← hv]
        simp [getElem!_pos, hmod]
      exact hzr1.2 _ _ _ hx hz'
    · simp only [base, List.mem_map, List.mem_range] at hu
      obtain ⟨i, hi, rfl⟩ := hu
      have hmod : i % zs.length < zs.length := Nat.mod_lt _ (by omega)
      have : zs.toArray[i % zs.length]! = zs[i % zs.length] := by simp [getElem!_pos, hmod]
      rw [this]
      exact hz1 _ (List.getElem_mem _)
  obtain ⟨rs, g1, g2⟩ := fillA_sound parts vparts.toList _ _ base (fillE_flat hys hrep) hbase hp.1 hp.2
  refine ⟨rs, ?_, g2, hsz, by simpa using hlen, hs0, hcap⟩
  have hn : ¬ (16777216 < len * zs.length) := by omega
  by_cases h0 : len * zs.length = 0
  · have hb : base = [] := by simp only [base, h0]; rfl
    rw [hb] at g1
    have g1' : Instr.fill (fun i => some (i * zs.length, zs.length)) #[] vparts.toList = some rs.toArray := by simpa using g1
    simp only [Instr.buildSlice, Sem.run_bind, run_underlying hd, Result.andThen_ok, tsz_run hs]
    simp [h0, Array.range_zero', g1', newRow]
  · have g1' : Instr.fill (fun i => some (i * zs.length, zs.length)) (Array.map (fun x => zs[x % zs.length]?.getD default) (Array.range (len * zs.length))) vparts.toList = some rs.toArray := by
      rw [← g1]
      congr 1
      apply Array.ext'
      simp [base]
    simp only [Instr.buildSlice, Sem.run_bind, run_underlying hd, Result.andThen_ok, tsz_run hs]
    simp [h0, hn, hzr, hzs, g1', newRow]
theorem cells_of_flat {c : Ctx} {s : Nat} {xs : List AV} {vals : List Value} (hs : ∀ x ∈ xs, x.cells.length = s) (h : Cells1 c (flat xs) vals) {i : Nat} {x : AV} (hx : xs[i]? = some x) {j : Nat} {y : AV} (hy : x.cells[j]? = some y) :
    ∃ v, vals[i * s + j]? = some v ∧ Rel c y v ∧ v.oneCell' = true := by
  have hj : j < s := by rw [← hs x (List.mem_of_getElem? hx)]; exact (List.getElem?_eq_some_iff.1 hy).1
  rw [← flat_get hs hx hj] at hy
  obtain ⟨v, h1, h2⟩ := h.rel.get hy
  exact ⟨v, h1, h2, h.one v (List.mem_of_getElem? h1)⟩
/-- A slice literal: a block of the call's own, or (nobody writes to it) what it holds. -/
def buildOwn (e s len : Nat) (z : AV) (parts : List (Nat × AV)) (H : AHeap) : Option (AV × AHeap) :=
  match fillE s parts (List.replicate len z) with
  | some xs => some (.sl H.length xs.length 0 xs.length s, H ++ [{ ty := e, sz := s, elems := xs }])
  | none => none
def buildRo (s len : Nat) (z : AV) (parts : List (Nat × AV)) (H : AHeap) : Option (AV × AHeap) :=
  match fillE s parts (List.replicate len z) with
  | some xs => some (.ro false xs, H)
  | none => none
def buildSliceA (P : Program) (own : Bool) (t len : Nat) (parts : List (Nat × AV)) (H : AHeap) : Option (AV × AHeap) :=
  match buildZ P t len with
  | some (e, s, z) => match own with
    | true => buildOwn e s len z parts H
    | false => buildRo s len z parts H
  | none => none
theorem buildSliceA_sound {P : Program} {G : Globs} {own : Bool} {t len : Nat} {parts : List (Nat × AV)} {r : AV} {H H' : AHeap} (h : buildSliceA P own t len parts H = some (r, H')) {c : Ctx} {w : World}
    (hg : Good G c w) (hH : HeapAt c H w) (hn : H'.length ≠ H.length → c.m H.length = none) {vparts : Array (Nat × Value)} (hp : PartsRel c parts vparts.toList) :
    ∃ v w' c', (Instr.buildSlice t len vparts).run P w = .ok v w' ∧ Made G c H w r H' v w' c' := by
  unfold buildSliceA at h
  split at h
  case h_2 => cases h
  rename_i e s z hb
  have key : ∀ xs, fillE s parts (List.replicate len z) = some xs → _ := fun xs hf => buildE_sound hb hf (w := w) hp
  cases own with
  | true =>
    simp only [buildOwn] at h
    split at h
    case h_2 => cases h
    rename_i xs hf
    obtain ⟨vals, hrun, hcells, hsz, hlen, hs0, hcap⟩ := key xs hf
    have hle : len ≤ 16777216 := Nat.le_trans (Nat.le_mul_of_pos_right len hs0) hcap
    simp only [Option.some.injEq, Prod.mk.injEq] at h
    obtain ⟨rfl, rfl⟩ := h
    refine ⟨_, _, _, hrun, made_push (cap := len) hg hH (hn (by simp)) (blk := { ty := e, sz := s, elems := xs }) hs0 (by simp [hlen]) (by simp [maxLen]; omega) (by rw [← hcells.rel.1, flat_length hsz, hlen]) (fun i x hx => ⟨hsz x (List.mem_of_getElem? hx), fun j y hy => cells_of_flat hsz hcells hx hy⟩) ?_⟩
    have := Rel.sl (c := c.push H.length ⟨w.heap.size, len, e, s, xs.length, false⟩) (b := H.length) (L := xs.length) (o := 0) (n := xs.length) (sz := s) (a := ⟨w.heap.size, 0, none⟩) (cap' := len)
      (inf := ⟨w.heap.size, len, e, s, xs.length, false⟩) (by simp [Ctx.push]) rfl rfl rfl (by omega) (by simp) (by omega) (.inl (by simp))
    rw [hlen] at this ⊢
    exact this
  | false =>
    simp only [buildRo] at h
    split at h
    case h_2 => cases h
    rename_i xs hf
    obtain ⟨vals, hrun, hcells, hsz, hlen, hs0, hcap⟩ := key xs hf
    simp only [Option.some.injEq, Prod.mk.injEq] at h
    obtain ⟨rfl, rfl⟩ := h
    refine ⟨_, _, _, hrun, made_lay hg hH _ ?_⟩
    have hle := (lay_new hg (.cells vals.toArray e)).1.le
    refine .ro (A := ⟨w.heap.size, 0, none⟩) (V := fun i j => (vals[i * s + j]?).getD default) (sz := s) hlen (Nat.le_refl _) (.inr rfl) rfl (fun i x hx => hsz x (List.mem_of_getElem? hx)) (fun i x j y hx hy => ?_) (fun i x j y hx hy => ?_)
    · obtain ⟨v, h1, h2, h3⟩ := cells_of_flat hsz hcells hx hy
      rw [h1]; exact h2.mono hle
    · obtain ⟨v, h1, h2, h3⟩ := cells_of_flat hsz hcells hx hy
      rw [h1]
      refine ⟨?_, h3⟩
      simp [Ctx.mem, Ctx.lay, h1]
/-- A box that nobody writes to. -/
def boxRoA (v : AV) (H : AHeap) : Option (AV × AHeap) :=
  if storable v = true then some (.rp false v 0, H) else none
theorem boxRoA_sound {P : Program} {G : Globs} {t : Nat} {v r : AV} {H H' : AHeap} (h : boxRoA v H = some (r, H')) {c : Ctx} {w : World} (hg : Good G c w) (hH : HeapAt c H w)
    {vv : Value} (hv : Rel c v vv) : ∃ u w' c', (Instr.box t vv).run P w = .ok u w' ∧ Made G c H w r H' u w' c' := by
  unfold boxRoA at h
  split at h
  case isFalse => cases h
  rename_i hst
  simp only [Option.some.injEq, Prod.mk.injEq] at h
  obtain ⟨rfl, rfl⟩ := h
  obtain ⟨vs, hvs, hrel, h1⟩ := storable_cells hst hv
  have hle := (lay_new hg (.cells vs.toArray t)).1.le
  refine ⟨.pointer (some ⟨w.heap.size, 0, none⟩), _, _, by simp [Instr.box, newVar, newRow, hvs], made_lay hg hH (.cells vs.toArray t) ?_⟩
  refine .rp (A := ⟨w.heap.size, 0, none⟩) (o := 0) (V := fun j => (vs[j]?).getD default) (fun j y hy => ?_) (fun j y hy => ?_)
  · obtain ⟨u, g1, g2⟩ := hrel.get hy
    rw [g1]; exact g2.mono hle
  · obtain ⟨u, g1, g2⟩ := hrel.get hy
    rw [g1]
    exact ⟨by simp [Ctx.mem, Ctx.lay, g1], h1 u (List.mem_of_getElem? g1)⟩
end Go.Proofs.YtdfglgnflldkpaaDoor.Mir
namespace Go.Proofs.YtdfglgnflldkpaaDoor.Mir
open Go
set_option linter.unusedVariables false
set_option linter.unusedSimpArgs false
theorem Good.memB {G : Globs} {c : Ctx} {w : World} (hg : Good G c w) {bor : Bool} {a : Addr} {v : Value} (h : c.mem bor a = some v) : c.B a = some v := by
  cases bor
  · exact hg.MB _ _ h
  · exact h
def tby (P : Program) (t : Nat) : Option Nat := (P.info? t).map (·.bytes)
def makeSliceV (e s : Nat) (z : AV) (l c : AV) (H : AHeap) : Option (AV × AHeap) :=
  match l, c with
  | .int _ l, .int _ c => if 0 ≤ l ∧ l ≤ c ∧ c ≤ 1099511627776 then
      some (.sl H.length l.toNat 0 l.toNat s, H ++ [{ ty := e, sz := s, elems := List.replicate l.toNat z }]) else none
  | _, _ => none
def makeSliceA (P : Program) (t : Nat) (l c : AV) (H : AHeap) : Option (AV × AHeap) :=
  match P.underlying t with
  | some (.slice e) => match tsz P e, tby P e, zeroA P e with
    | some s, some by_, some z => if by_ ≤ 128 ∧ 0 < s ∧ z.cells.length = s ∧ storable z = true then makeSliceV e s z l c H else none
    | _, _, _ => none
  | _ => none
theorem zeroA_parts {P : Program} {t s : Nat} {z : AV} (hz : zeroA P t = some z) (hs : tsz P t = some s) :
    ∃ i v, P.info? t = some i ∧ i.zero = some v ∧ i.size = s ∧ ∀ c, Rel c z v := by
  unfold zeroA at hz
  unfold tsz at hs
  obtain ⟨i, hi, hz⟩ := Option.bind_eq_some_iff.1 hz
  obtain ⟨v, hv, rfl⟩ := Option.map_eq_some_iff.1 hz
  simp [hi] at hs
  exact ⟨i, v, hi, hv, hs, fun c => rel_ofVal c v⟩
theorem made_cells {c : Ctx} {z : AV} {zs : List Value} {s n k : Nat} (hz : Cells1 c z.cells zs) (hl : z.cells.length = s) (hs : 0 < s) (hkn : k ≤ n) {i : Nat} {x : AV} (hx : (List.replicate k z)[i]? = some x) :
    x.cells.length = s ∧ ∀ (j : Nat) (y : AV), x.cells[j]? = some y → ∃ v, (madeCells zs.toArray (n * s)).toList[i * s + j]? = some v ∧ Rel c y v ∧ v.oneCell' = true := by
  have hi : i < k := by have := (List.getElem?_eq_some_iff.1 hx).1; simpa using this
  have hxz : x = z := by
    have := List.getElem?_replicate (n := k) (a := z) (i := i)
    rw [this, if_pos hi] at hx
    exact (Option.some.inj hx).symm
  subst hxz
  refine ⟨hl, fun j y hy => ?_⟩
  have hj : j < s := by rw [← hl]; exact (List.getElem?_eq_some_iff.1 hy).1
  obtain ⟨v, h1, h2⟩ := hz.rel.get hy
  refine ⟨v, ?_, h2, hz.one v (List.mem_of_getElem? h1)⟩
  have hzl : zs.length = s := by rw [← hz.rel.1, hl]
  have hlt : i * s + j < n * s := by
    have := Nat.mul_le_mul_right s (show i + 1 ≤ n by omega)
    rw [Nat.add_mul] at this
    omega
  have hmod : (i * s + j) % zs.length = j := by
    rw [hzl, Nat.mul_comm, Nat.mul_add_mod, Nat.mod_eq_of_lt hj]
  simp only [madeCells, Array.toList_map, Array.toList_range, List.getElem?_map, List.getElem?_range hlt, Option.map_some, List.size_toArray, hmod]
  rw [← h1]
  simp [getElem!_pos, hzl, hj]
theorem makeSliceA_sound {P : Program} {G : Globs} {t : Nat} {l c r : AV} {H H' : AHeap} (h : makeSliceA P t l c H = some (r, H')) {cx : Ctx} {w : World} (hg : Good G cx w) (hH : HeapAt cx H w)
    (hn : cx.m H.length = none) {vl vc : Value} (hl : Rel cx l vl) (hc : Rel cx c vc) :
    ∃ v w' c', (Instr.makeSlice t vl vc).run P w = .ok v w' ∧ Made G cx H w r H' v w' c' := by
  unfold makeSliceA at h
  split at h
  case h_2 => cases h
  rename_i e hd
  split at h
  case h_2 => cases h
  rename_i s by_ z hs hb hz
  split at h
  case isFalse => cases h
  rename_i hcond
  obtain ⟨hby, hs0, hzl, hst⟩ := hcond
  unfold makeSliceV at h
  split at h
  case h_2 => cases h
  rename_i kl l' kc c'
  obtain rfl := hl.of_int
  obtain rfl := hc.of_int
  split at h
  case isFalse => cases h
  rename_i hcond
  obtain ⟨h0, hlc, hcm⟩ := hcond
  simp only [Option.some.injEq, Prod.mk.injEq] at h
  obtain ⟨rfl, rfl⟩ := h
  obtain ⟨i, zv, hi, hzv, hsz, hrel⟩ := zeroA_parts hz hs
  obtain ⟨zs, hzs, hzr, hz1⟩ := storable_cells hst (hrel cx)
  have hbyi : i.bytes ≤ 128 := by simp [tby, hi] at hb; omega
  have hbytes : (i.bytes : Int) * c' ≤ 281474976710656 := by
    have : (i.bytes : Int) * c' ≤ 128 * 1099511627776 := Int.mul_le_mul (by omega) hcm (by omega) (by omega)
    omega
  have hrun := run_make (P := P) w t e i zv hd hi hzv kl kc l' c' h0 hlc hbytes (by omega)
  rw [hsz, hzs] at hrun
  have hcap : c'.toNat ≤ maxLen := by simp [maxLen]; omega
  refine ⟨_, _, cx.push H.length ⟨w.heap.size, c'.toNat, e, s, (List.replicate l'.toNat z).length, false⟩, hrun, ?_⟩
  have hvals : madeCells zs.toArray (c'.toNat * s) = (madeCells zs.toArray (c'.toNat * s)).toList.toArray := by simp
  rw [hvals]
  refine made_push (cap := c'.toNat) hg hH hn (blk := { ty := e, sz := s, elems := List.replicate l'.toNat z }) hs0 (by simp; omega) hcap (by simp [size_madeCells])
    (fun i x hx => made_cells ⟨hzr, hz1⟩ hzl hs0 (by omega) hx) ?_
  have := Rel.sl (c := cx.push H.length ⟨w.heap.size, c'.toNat, e, s, l'.toNat, false⟩) (b := H.length) (L := l'.toNat) (o := 0) (n := l'.toNat) (sz := s) (a := ⟨w.heap.size, 0, none⟩) (cap' := c'.toNat)
    (inf := ⟨w.heap.size, c'.toNat, e, s, l'.toNat, false⟩) (by simp [Ctx.push]) rfl rfl rfl (by omega) (by simp) (by omega) (.inl (by simp))
  simpa using this
/-! ### append -/
/-- The elements of a slice. -/
def elemsOf (x : AV) (H : AHeap) : Option (List AV) :=
  match x with
  | .ro _ ys => some ys
  | .sl b L o n _ => match H[b]? with
    | some blk => if blk.elems.length = L then some ((blk.elems.drop o).take n) else none
    | none => none
  | .nils => some []
  | _ => none
theorem elemsOf_sound {G : Globs} {x : AV} {H : AHeap} {ys : List AV} (h : elemsOf x H = some ys) {c : Ctx} {w : World} (hg : Good G c w) (hH : HeapAt c H w) {v : Value} (hx : Rel c x v) {s : Nat} (hs : allSz s ys = true) :
    ∃ a n cap, v = .slice a n cap ∧ ys.length = n ∧ n ≤ cap ∧ (ys = [] ∨ ∃ A, a = some A ∧ A.spot = none ∧ CellsAt c w A.block A.off (flat ys)) := by
  have hsz : ∀ y ∈ ys, y.cells.length = s := fun y hy => by have := List.all_eq_true.1 hs y hy; simpa using this
  have split_ : ∀ {blk off : Nat}, (∀ (i : Nat) (y : AV), ys[i]? = some y → CellsAt c w blk (off + i * s) y.cells) → CellsAt c w blk off (flat ys) := by
    intro blk off hh k z hz
    by_cases hs0 : s = 0
    · have := flat_length hsz
      have := (List.getElem?_eq_some_iff.1 hz).1
      rw [hs0] at *
      omega
    have hk : k < ys.length * s := by have := (List.getElem?_eq_some_iff.1 hz).1; rwa [flat_length hsz] at this
    have hdiv : k / s < ys.length := Nat.div_lt_of_lt_mul (by rwa [Nat.mul_comm])
    have hmod : k % s < s := Nat.mod_lt _ (by omega)
    have hdm : k = k / s * s + k % s := by rw [Nat.mul_comm]; exact (Nat.div_add_mod k s).symm
    have hy : ys[k / s]? = some ys[k / s] := List.getElem?_eq_getElem hdiv
    rw [hdm, flat_get hsz hy hmod] at hz
    have := hh _ _ hy _ _ hz
    rwa [Nat.add_assoc, ← hdm] at this
  unfold elemsOf at h
  split at h
  · simp at h; subst h
    cases hx with
    | ro hn hcap ha hA hsz' hrel hm =>
      rename_i bor a n cap sz A V
      refine ⟨a, n, cap, rfl, hn, hcap, ?_⟩
      rcases ha with h0 | ha
      · exact .inl h0
      · refine .inr ⟨A, ha, hA, split_ (fun i y hy j z hz => ?_)⟩
        have e : sz = s := by rw [← hsz' i y hy, hsz y (List.mem_of_getElem? hy)]
        subst e
        obtain ⟨g1, g2⟩ := hm i y j z hy hz
        exact ⟨V i j, hg.holds _ _ (hg.memB g1), hrel i y j z hy hz, g2⟩
  · rename_i b L o n sz
    split at h
    case h_2 => cases h
    rename_i blk hb
    split at h
    case isFalse => cases h
    rename_i hL
    simp at h; subst h
    cases hx with
    | sl hm hl hv hsz' ho hcap hnc ha =>
      rename_i inf a cap'
      have hB := hH.blk _ _ _ hb hm
      refine ⟨_, _, _, rfl, by simp; omega, hnc, ?_⟩
      rcases ha with rfl | ⟨h0, _⟩
      · by_cases hn0 : (blk.elems.drop o).take n = []
        · exact .inl hn0
        · refine .inr ⟨_, rfl, rfl, split_ (fun i y hy => ?_)⟩
          have hys := hsz y (List.mem_of_getElem? hy)
          rw [List.getElem?_take] at hy
          split at hy
          case isFalse => cases hy
          rw [List.getElem?_drop] at hy
          have hc := hB.at hv hy
          have : inf.sz = s := by rw [hB.sz, ← (hB.cells hv _ _ hy).1, hys]
          rw [← hsz', this, ← Nat.add_mul]
          rwa [this] at hc
      · exact .inl (by apply List.eq_nil_of_length_eq_zero; simp; omega)
    | slVirt hm hl hv hsz' => exact ⟨_, _, _, rfl, by simp, by omega, .inl (by simp)⟩
    | slStale a cap' hm hl hnc ha => have := hH.valid hb hm; omega
  · simp at h; subst h
    obtain rfl := hx.of_nils
    exact ⟨none, 0, 0, rfl, rfl, Nat.le_refl _, .inl rfl⟩
  · cases h
/-- The place of a block turns: it has grown. -/
def Ctx.upd (c : Ctx) (b : Nat) (inf : Info) : Ctx := { c with m := fun b' => if b' = b then some inf else c.m b' }
theorem Ctx.upd_le {c : Ctx} {b : Nat} {inf inf' : Info} (hm : c.m b = some inf) (hs : inf'.sz = inf.sz) (hl : inf.len ≤ inf'.len) (hu : inf'.len = inf.len → inf' = inf) : c.le (c.upd b inf') := by
  refine ⟨fun k i hk => ?_, fun _ _ h => h, fun _ _ h => h, rfl⟩
  by_cases e : k = b
  · subst e
    obtain rfl := Option.some.inj (hm.symm.trans hk)
    exact ⟨inf', by simp [Ctx.upd], hs, hl, hu⟩
  · exact ⟨i, by simp [Ctx.upd, e, hk], rfl, Nat.le_refl _, fun _ => rfl⟩
theorem Ctx.upd_own {c : Ctx} {b : Nat} {inf : Info} {k : Nat} (h : (c.upd b inf).own k) : (∃ b' i, b' ≠ b ∧ c.m b' = some i ∧ i.virt = false ∧ i.idx = k) ∨ (inf.virt = false ∧ inf.idx = k) := by
  obtain ⟨b', i, hb, hv, hk⟩ := h
  by_cases e : b' = b
  · simp [Ctx.upd, e] at hb; subst hb; exact .inr ⟨hv, hk⟩
  · simp [Ctx.upd, e] at hb; exact .inl ⟨b', i, e, hb, hv, hk⟩
/-- A block has moved into a new row of the heap. -/
theorem grown_new {G : Globs} {c : Ctx} {H : AHeap} {w : World} (hg : Good G c w) (hH : HeapAt c H w) {b : Nat} {inf inf' : Info} (hm : c.m b = some inf) {blk' : ABlk} {o : Obj}
    (hs : inf'.sz = inf.sz) (hl : inf.len < inf'.len) (hi : inf'.idx = w.heap.size) (hv : inf'.virt = false) (hb : BlkAt (c.upd b inf') inf' blk' (w.drew.alloc o)) (hlt : b < H.length) :
    Step c w (c.upd b inf') (w.drew.alloc o) ∧ Good G (c.upd b inf') (w.drew.alloc o) ∧ HeapAt (c.upd b inf') (H.set b blk') (w.drew.alloc o) := by
  have hle : c.le (c.upd b inf') := Ctx.upd_le hm hs (by omega) (by omega)
  have hstep : Step c w (c.upd b inf') (w.drew.alloc o) := by
    refine ⟨hle, rfl, rfl, rfl, by simp, fun k hk _ => heap_alloc_old w.drew o k hk, fun b' i hb' hv' hlt => ?_, fun _ _ h => .inl h, fun _ _ h => .inl h⟩
    by_cases e : b' = b
    · simp [Ctx.upd, e] at hb'; subst hb'; omega
    · simp [Ctx.upd, e] at hb'; exact ⟨i, hb', hv', rfl⟩
  refine ⟨hstep, hg.step hstep (fun a v hv => ?_) hg.MB (fun k hk a ha => ?_) (fun k hk => ?_), ?_, ?_⟩
  · have h1 := hg.holds a v hv
    rw [World.cell?_alloc_lt w.drew _ _ (block_lt_of_cell h1)]; exact h1
  · rcases Ctx.upd_own hk with ⟨b', i, _, h1, h2, h3⟩ | ⟨h1, h2⟩
    · exact hg.away k ⟨b', i, h1, h2, h3⟩ a ha
    · cases hB : (c.upd b inf').B a with
      | none => rfl
      | some v => exact absurd (block_lt_of_cell (hg.holds a v hB)) (by omega)
  · rcases Ctx.upd_own hk with ⟨b', i, _, h1, h2, h3⟩ | ⟨h1, h2⟩
    · have := hg.bound k ⟨b', i, h1, h2, h3⟩; simp; omega
    · simp; omega
  · intro b' blk i hb' hm'
    by_cases e : b' = b
    · subst e
      simp [Ctx.upd] at hm'; subst hm'
      rw [List.getElem?_set_self hlt] at hb'
      obtain rfl := Option.some.inj hb'
      exact hb
    · simp [Ctx.upd, e] at hm'
      rw [List.getElem?_set_ne (Ne.symm e)] at hb'
      exact (hH.blk b' blk i hb' hm').kept hle (fun hv' => heap_alloc_old w.drew o _ (hg.bound _ ⟨b', i, hm', hv', rfl⟩))
  · intro b1 b2 i1 i2 h1 h2 v1 v2 he
    by_cases e1 : b1 = b <;> by_cases e2 : b2 = b
    · rw [e1, e2]
    · simp [Ctx.upd, e1] at h1; subst h1
      simp [Ctx.upd, e2] at h2
      have := hg.bound _ ⟨b2, i2, h2, v2, rfl⟩
      omega
    · simp [Ctx.upd, e2] at h2; subst h2
      simp [Ctx.upd, e1] at h1
      have := hg.bound _ ⟨b1, i1, h1, v1, rfl⟩
      omega
    · simp [Ctx.upd, e1] at h1
      simp [Ctx.upd, e2] at h2
      exact hH.inj b1 b2 i1 i2 h1 h2 v1 v2 he
/-- A block has grown where it lies. -/
theorem grown_here {G : Globs} {c : Ctx} {H : AHeap} {w : World} (hg : Good G c w) (hH : HeapAt c H w) {b : Nat} {inf inf' : Info} (hm : c.m b = some inf) {blk' : ABlk} {cs : Array Value}
    (hs : inf'.sz = inf.sz) (hl : inf.len ≤ inf'.len) (hu : inf'.len = inf.len → inf' = inf) (hi : inf'.idx = inf.idx) (hv : inf.virt = false) (hv' : inf'.virt = false)
    (hb : BlkAt (c.upd b inf') inf' blk' (w.setRow inf.idx cs)) (hlt : b < H.length) :
    Step c w (c.upd b inf') (w.setRow inf.idx cs) ∧ Good G (c.upd b inf') (w.setRow inf.idx cs) ∧ HeapAt (c.upd b inf') (H.set b blk') (w.setRow inf.idx cs) := by
  have hle : c.le (c.upd b inf') := Ctx.upd_le hm hs hl hu
  have hown : ∀ k, (c.upd b inf').own k → c.own k := fun k hk => by
    rcases Ctx.upd_own hk with ⟨b', i, _, h1, h2, h3⟩ | ⟨h1, h2⟩
    · exact ⟨b', i, h1, h2, h3⟩
    · exact ⟨b, inf, hm, hv, by omega⟩
  have ho : c.own inf.idx := ⟨b, inf, hm, hv, rfl⟩
  have hstep0 := Step.setRow (c := c) (w := w) ho cs
  have hstep : Step c w (c.upd b inf') (w.setRow inf.idx cs) :=
    ⟨hle, rfl, rfl, rfl, by simp, hstep0.kept, fun b' i hb' hv' hlt => by
      by_cases e : b' = b
      · simp [Ctx.upd, e] at hb'; subst hb'; exact ⟨inf, by rw [e]; exact hm, hv, hi.symm⟩
      · simp [Ctx.upd, e] at hb'; exact ⟨i, hb', hv', rfl⟩, fun _ _ h => .inl h, fun _ _ h => .inl h⟩
  have hg0 := hg.world hstep0
  refine ⟨hstep, hg.step hstep hg0.holds hg.MB (fun k hk a ha => hg.away k (hown k hk) a ha) (fun k hk => by have := hg.bound k (hown k hk); simpa using this), ?_, ?_⟩
  · intro b' blk i hb' hm'
    by_cases e : b' = b
    · subst e
      simp [Ctx.upd] at hm'; subst hm'
      rw [List.getElem?_set_self hlt] at hb'
      obtain rfl := Option.some.inj hb'
      exact hb
    · simp [Ctx.upd, e] at hm'
      rw [List.getElem?_set_ne (Ne.symm e)] at hb'
      exact (hH.blk b' blk i hb' hm').kept hle (fun hv'' => setRow_other w _ _ _ (fun q => e (hH.inj b' b i inf hm' hm hv'' hv q)))
  · intro b1 b2 i1 i2 h1 h2 v1 v2 he
    by_cases e1 : b1 = b <;> by_cases e2 : b2 = b
    · rw [e1, e2]
    · simp [Ctx.upd, e1] at h1; subst h1
      simp [Ctx.upd, e2] at h2
      exact absurd (hH.inj b2 b i2 inf h2 hm v2 hv (by omega)) e2
    · simp [Ctx.upd, e2] at h2; subst h2
      simp [Ctx.upd, e1] at h1
      exact absurd (hH.inj b1 b i1 inf h1 hm v1 hv (by omega)) e1
    · simp [Ctx.upd, e1] at h1
      simp [Ctx.upd, e2] at h2
      exact hH.inj b1 b2 i1 i2 h1 h2 v1 v2 he
def appendV (e sz : Nat) (s x : AV) (H : AHeap) : Option (AV × AHeap) :=
  match s with
  | .sl b L 0 n sz' => match H[b]?, elemsOf x H with
    | some blk, some ys => if blk.elems.length = L ∧ sz' = sz ∧ blk.ty = e ∧ allSz sz ys = true ∧ n + ys.length ≤ 1099511627776 then
        some (.sl b (blk.elems.take n ++ (ys ++ blk.elems.drop (n + ys.length))).length 0 (n + ys.length) sz, H.set b { blk with elems := blk.elems.take n ++ (ys ++ blk.elems.drop (n + ys.length)) })
      else none
    | _, _ => none
  | _ => none
def appendA (P : Program) (ts : Array Nat) (s x : AV) (H : AHeap) : Option (AV × AHeap) :=
  match ts.toList with
  | [t, t'] => if t = t' then
      match P.underlying t with
      | some (.slice e) => match tsz P e, tby P e, zeroA P e with
        | some sz, some by_, some z => if by_ ≤ 128 ∧ z.cells.length = sz ∧ storable z = true then appendV e sz s x H else none
        | _, _, _ => none
      | _ => none
    else none
  | _ => none
end Go.Proofs.YtdfglgnflldkpaaDoor.Mir
namespace Go.Proofs.YtdfglgnflldkpaaDoor.Mir
open Go
set_option linter.unusedVariables false
set_option linter.unusedSimpArgs false
theorem run_append_zero {P : Program} {w : World} {t e : TypeId} {i : TypeInfo} (ty : TypeId) (ht : P.underlying t = some (.slice e)) (hi : P.info? e = some i) (base a : Option Addr) {n cap : Nat} (c : Nat) (hn : n ≤ cap) :
    (Builtin.append_ #[t, t] ty #[.slice base n cap, .slice a 0 c]).run P w = .ok (.slice base n cap) w := by
  cases a <;> cases base <;> simp [Builtin.append_, run_underlying ht, sizeOf, typeInfo, hi, Builtin.lenOf, hn, Builtin.firstCells, loadCells, loadCellsFrom, storeCells]
theorem BlkAt.flatCells {c : Ctx} {inf : Info} {blk : ABlk} {w : World} (h : BlkAt c inf blk w) (hv : inf.virt = false) {cur : Array Value} {ty : Nat} (hc : w.heap[inf.idx]? = some (.cells cur ty (0, 0))) :
    (∀ x ∈ blk.elems, x.cells.length = blk.sz) ∧ Cells1 c (flat blk.elems) (cur.toList.take (blk.elems.length * blk.sz)) ∧ blk.elems.length * blk.sz ≤ cur.size := by
  have hsz : ∀ x ∈ blk.elems, x.cells.length = blk.sz := fun x hx => by
    obtain ⟨i, hi⟩ := List.mem_iff_getElem?.1 hx
    exact (h.cells hv i x hi).1
  obtain ⟨cur', hcur', hsize⟩ := h.real hv
  rw [hc] at hcur'
  obtain ⟨rfl, _⟩ : cur' = cur ∧ True := by simp at hcur'; exact ⟨hcur'.1.symm, trivial⟩
  have hfit : blk.elems.length * blk.sz ≤ cur'.size := by rw [hsize, h.sz]; exact Nat.mul_le_mul_right _ h.fits
  refine ⟨hsz, ?_, hfit⟩
  have get : ∀ (k : Nat) (y : AV), (flat blk.elems)[k]? = some y → ∃ v, cur'.toList[k]? = some v ∧ Rel c y v ∧ v.oneCell' = true := by
    intro k y hy
    have hk : k < blk.elems.length * blk.sz := by have := (List.getElem?_eq_some_iff.1 hy).1; rwa [flat_length hsz] at this
    have hdiv : k / blk.sz < blk.elems.length := Nat.div_lt_of_lt_mul (by rwa [Nat.mul_comm])
    have hmod : k % blk.sz < blk.sz := Nat.mod_lt _ h.pos
    have hdm : k = k / blk.sz * blk.sz + k % blk.sz := by rw [Nat.mul_comm]; exact (Nat.div_add_mod k blk.sz).symm
    have hx : blk.elems[k / blk.sz]? = some blk.elems[k / blk.sz] := List.getElem?_eq_getElem hdiv
    rw [hdm, flat_get hsz hx hmod] at hy
    obtain ⟨v, g1, g2, g3⟩ := (h.cells hv _ _ hx).2 _ _ hy
    rw [← hdm, cell_of_row w _ _ _ _ _ hc] at g1
    exact ⟨v, by simpa using g1, g2, g3⟩
  refine ⟨⟨by simp [flat_length hsz]; omega, fun i x v hx hv' => ?_⟩, fun u hu => ?_⟩
  · obtain ⟨v', g1, g2, _⟩ := get i x hx
    rw [List.getElem?_take] at hv'
    split at hv'
    · rw [g1] at hv'; obtain rfl := Option.some.inj hv'; exact g2
    · cases hv'
  · obtain ⟨i, hi⟩ := List.mem_iff_getElem?.1 hu
    rw [List.getElem?_take] at hi
    split at hi
    · rename_i hlt
      have : (flat blk.elems)[i]? = some ((flat blk.elems)[i]'(by rw [flat_length hsz]; exact hlt)) := List.getElem?_eq_getElem _
      obtain ⟨v', g1, _, g3⟩ := get i _ this
      rw [g1] at hi; obtain rfl := Option.some.inj hi; exact g3
    · cases hi
theorem flat_append (xs ys : List AV) : flat (xs ++ ys) = flat xs ++ flat ys := by simp [flat]
theorem flat_take {s : Nat} {xs : List AV} (h : ∀ x ∈ xs, x.cells.length = s) (n : Nat) : flat (xs.take n) = (flat xs).take (n * s) := by
  have e := List.take_append_drop n xs
  have h1 : (flat (xs.take n)).length = min n xs.length * s := by rw [flat_length (fun x hx => h x (List.mem_of_mem_take hx)), List.length_take]
  by_cases hn : n ≤ xs.length
  · rw [Nat.min_eq_left hn] at h1
    conv => rhs; rw [← e, flat_append]
    rw [← h1, List.take_left]
  · rw [List.take_of_length_le (by omega), List.take_of_length_le]
    rw [flat_length h]; exact Nat.mul_le_mul_right s (by omega)
theorem flat_drop {s : Nat} {xs : List AV} (h : ∀ x ∈ xs, x.cells.length = s) (n : Nat) : flat (xs.drop n) = (flat xs).drop (n * s) := by
  have e := List.take_append_drop n xs
  have h1 : (flat (xs.take n)).length = min n xs.length * s := by rw [flat_length (fun x hx => h x (List.mem_of_mem_take hx)), List.length_take]
  by_cases hn : n ≤ xs.length
  · rw [Nat.min_eq_left hn] at h1
    conv => rhs; rw [← e, flat_append]
    rw [← h1, List.drop_left]
  · rw [List.drop_of_length_le (by omega), List.drop_of_length_le]
    · rfl
    · rw [flat_length h]; exact Nat.mul_le_mul_right s (by omega)
/-- The cells of a slice that has grown, out of those that were there and those that came. -/
theorem grown_cells {c : Ctx} {s n : Nat} {xs ys : List AV} {ov nv : List Value} (hx : ∀ x ∈ xs, x.cells.length = s) (hy : ∀ y ∈ ys, y.cells.length = s) (hn : n ≤ xs.length)
    (ho : Cells1 c (flat xs) ov) (hnv : Cells1 c (flat ys) nv) :
    (∀ x ∈ xs.take n ++ (ys ++ xs.drop (n + ys.length)), x.cells.length = s) ∧
    Cells1 c (flat (xs.take n ++ (ys ++ xs.drop (n + ys.length)))) (ov.take (n * s) ++ (nv ++ ov.drop (n * s + nv.length))) := by
  have hl : ∀ x ∈ xs.take n ++ (ys ++ xs.drop (n + ys.length)), x.cells.length = s := by
    intro x hm
    simp only [List.mem_append] at hm
    rcases hm with hm | hm | hm
    · exact hx x (List.mem_of_mem_take hm)
    · exact hy x hm
    · exact hx x (List.mem_of_mem_drop hm)
  refine ⟨hl, ?_⟩
  have e1 : nv.length = ys.length * s := by rw [← hnv.rel.1, flat_length hy]
  have e2 : ov.length = xs.length * s := by rw [← ho.rel.1, flat_length hx]
  have hns : n * s ≤ xs.length * s := Nat.mul_le_mul_right s hn
  have e3 : flat (xs.take n ++ (ys ++ xs.drop (n + ys.length))) = (flat xs).take (n * s) ++ (flat ys ++ (flat xs).drop (n * s + nv.length)) := by
    rw [flat_append, flat_append, flat_take hx, flat_drop hx, e1, Nat.add_mul]
  rw [e3]
  have hfl := flat_length hx
  have hfy := flat_length hy
  refine ⟨⟨?_, fun i x v h1 h2 => ?_⟩, fun u hu => ?_⟩
  · have := ho.rel.1
    have := hnv.rel.1
    simp only [List.length_append, List.length_take, List.length_drop]
    omega
  · have a1 := ho.rel.1
    have a2 := hnv.rel.1
    by_cases q1 : i < n * s
    · rw [List.getElem?_append_left (by simp; omega), List.getElem?_take, if_pos q1] at h1
      rw [List.getElem?_append_left (by simp; omega), List.getElem?_take, if_pos q1] at h2
      exact ho.rel.2 _ _ _ h1 h2
    · rw [List.getElem?_append_right (by simp; omega)] at h1 h2
      have l1 : ((flat xs).take (n * s)).length = n * s := by simp; omega
      have l2 : (ov.take (n * s)).length = n * s := by simp; omega
      rw [l1] at h1; rw [l2] at h2
      by_cases q2 : i - n * s < nv.length
      · rw [List.getElem?_append_left (by omega)] at h1 h2
        exact hnv.rel.2 _ _ _ h1 h2
      · rw [List.getElem?_append_right (by omega), List.getElem?_drop] at h1 h2
        rw [a2] at h1
        exact ho.rel.2 _ _ _ h1 h2
  · simp only [List.mem_append] at hu
    rcases hu with hu | hu | hu
    · exact ho.one u (List.mem_of_mem_take hu)
    · exact hnv.one u hu
    · exact ho.one u (List.mem_of_mem_drop hu)
theorem Cells1.mono {c c' : Ctx} (hle : c.le c') {cs : List AV} {vs : List Value} (h : Cells1 c cs vs) : Cells1 c' cs vs := ⟨h.rel.mono hle, h.one⟩
/-- A block, out of its row of cells. -/
theorem BlkAt.ofFlat {c : Ctx} {inf : Info} {blk : ABlk} {w : World} {cur : Array Value} {vals : List Value} (hty : inf.ty = blk.ty) (hsz : inf.sz = blk.sz) (hpos : 0 < blk.sz) (hlen : inf.len = blk.elems.length)
    (hfits : blk.elems.length ≤ inf.cap) (hv : inf.virt = false) (hbig : inf.cap ≤ maxLen) (hw : w.heap[inf.idx]? = some (.cells cur inf.ty (0, 0))) (hcs : cur.size = inf.cap * inf.sz)
    (hx : ∀ x ∈ blk.elems, x.cells.length = blk.sz) (hcells : Cells1 c (flat blk.elems) vals) (hpre : ∀ (k : Nat) (v : Value), vals[k]? = some v → cur.toList[k]? = some v) : BlkAt c inf blk w := by
  refine ⟨hty, hsz, hpos, hlen, hfits, by simp [hv], hbig, fun _ => ⟨cur, hw, hcs⟩, fun _ i x hi => ⟨hx x (List.mem_of_getElem? hi), fun j y hy => ?_⟩⟩
  obtain ⟨v, g1, g2, g3⟩ := cells_of_flat hx hcells hi hy
  refine ⟨v, ?_, g2, g3⟩
  rw [cell_of_row w _ _ _ _ _ hw]
  simpa using hpre _ _ g1
/-- What an operation that writes leaves. -/
structure Wrote (G : Globs) (c : Ctx) (w : World) (r : AV) (H' : AHeap) (v : Value) (w' : World) (c' : Ctx) : Prop where
  step : Step c w c' w'
  good : Good G c' w'
  heap : HeapAt c' H' w'
  rel : Rel c' r v
  dom : ∀ b, c'.m b ≠ none → c.m b ≠ none
theorem appendA_sound {P : Program} {G : Globs} {ts : Array Nat} {ty : Nat} {s x r : AV} {H H' : AHeap} (h : appendA P ts s x H = some (r, H')) {c : Ctx} {w : World} (hg : Good G c w) (hH : HeapAt c H w)
    {vs vx : Value} (hs : Rel c s vs) (hx : Rel c x vx) :
    ∃ v w' c', (Builtin.append_ ts ty #[vs, vx]).run P w = .ok v w' ∧ Wrote G c w r H' v w' c' := by
  unfold appendA at h
  split at h
  case h_2 => cases h
  rename_i t t' hts
  split at h
  case isFalse => cases h
  rename_i htt
  subst htt
  have hts' : ts = #[t, t] := by apply Array.ext'; simpa using hts
  subst hts'
  split at h
  case h_2 => cases h
  rename_i e hd
  split at h
  case h_2 => cases h
  rename_i sz by_ z hsz hby hz
  split at h
  case isFalse => cases h
  rename_i hc0
  obtain ⟨hb128, hzl, hzst⟩ := hc0
  unfold appendV at h
  split at h
  case h_2 => cases h
  rename_i b L n sz'
  split at h
  case h_2 => cases h
  rename_i blk ys hb hys
  split at h
  case isFalse => cases h
  rename_i hc
  obtain ⟨hL, hsz', hty, hall, hbig⟩ := hc
  simp only [Option.some.injEq, Prod.mk.injEq] at h
  obtain ⟨rfl, rfl⟩ := h
  subst hsz'
  obtain ⟨i, zv, hi, hzv, hisz, hzrel⟩ := zeroA_parts hz hsz
  have hbyi : i.bytes ≤ 128 := by simp [tby, hi] at hby; omega
  obtain ⟨zs, hzs, hzr, hz1⟩ := storable_cells hzst (hzrel c)
  have hzsl : zs.length = sz' := by rw [← hzr.1, hzl]
  obtain ⟨a, m, cap2, rfl, hym, _, hya⟩ := elemsOf_sound hys hg hH hx hall
  have hyy : ∀ y ∈ ys, y.cells.length = sz' := fun y hy => by have := List.all_eq_true.1 hall y hy; simpa using this
  have hblt : b < H.length := (List.getElem?_eq_some_iff.1 hb).1
  subst hym
  -- the elements behind
  have hlen : ∀ (n : Nat), n ≤ blk.elems.length → (blk.elems.take n ++ (ys ++ blk.elems.drop (n + ys.length))).length = max blk.elems.length (n + ys.length) := by
    intro n hn; simp; omega
  by_cases hm0 : ys.length = 0
  · -- nothing comes
    have hy0 : ys = [] := List.eq_nil_of_length_eq_zero hm0
    subst hy0
    have same : blk.elems.take n ++ ([] ++ blk.elems.drop (n + 0)) = blk.elems := by simp
    have hset : H.set b { blk with elems := blk.elems } = H := by
      apply List.ext_getElem?
      intro k
      by_cases e : b = k
      · subst e; rw [List.getElem?_set_self hblt, hb]
      · rw [List.getElem?_set_ne e]
    simp only [List.length_nil, Nat.add_zero] at same ⊢
    rw [same, hset, hL]
    have fin : ∀ base cap, vs = .slice base n cap → n ≤ cap → Rel c (.sl b L 0 n sz') (.slice base n cap) →
        ∃ v w' c', (Builtin.append_ #[t, t] ty #[vs, .slice a 0 cap2]).run P w = .ok v w' ∧ Wrote G c w (.sl b L 0 n sz') H v w' c' := by
      intro base cap hv hn hr
      subst hv
      exact ⟨_, w, c, run_append_zero ty hd hi base a cap2 hn, .refl c w, hg, hH, hr, fun _ h => h⟩
    cases hs with
    | sl hm hl hv hs1 ho hcap hnc ha => exact fin _ _ rfl hnc (.sl hm hl hv hs1 ho hcap hnc ha)
    | slVirt hm hl hv hs1 => exact fin _ _ rfl (Nat.le_refl _) (.slVirt hm hl hv hs1)
    | slStale a cap' hm hl hnc ha => exact fin _ _ rfl hnc (.slStale a cap' hm hl hnc ha)
  · have hyne : ys ≠ [] := fun e => hm0 (by rw [e]; rfl)
    obtain ⟨A, rfl, hAs, hAc⟩ := hya.resolve_left hyne
    obtain ⟨nv, hnr, hncell, hn1⟩ := hAc.vals
    have hnl : nv.length = ys.length * i.size := by rw [← hnr.1, flat_length hyy, hisz]
    have hnews : ∀ j v, nv[j]? = some v → w.cell? (A.add j) = some v := by
      intro j v hj
      have := hncell j v hj
      obtain ⟨blk', off, spot⟩ := A
      simp only at hAs; subst hAs
      rw [Addr.add_lit]; exact this
    cases hs with
    | slStale a cap' hm hl hnc ha => have := hH.valid hb hm; omega
    | slVirt hm hl hv hs1 =>
      rename_i inf
      have hB := hH.blk _ _ _ hb hm
      have he0 : blk.elems = [] := List.eq_nil_of_length_eq_zero (by rw [← hB.len]; exact hl)
      simp only [Nat.zero_add] at hbig ⊢
      have hrun := run_append_nil (P := P) w t ty e i zv hd hi hzv A ys.length cap2 nv hnl hnews (by omega) (by omega) (by
        have := Nat.mul_le_mul hbig hbyi; omega)
      have hge := grownCap_ge w ys.length 0 e
      have hle := grownCap_le_maxLen w ys.length 0 e (by simp [maxLen]; omega)
      have hvals : (nv.toArray ++ Builtin.zeroCells zv.cells (grownCap w ys.length 0 e - ys.length)) = (nv ++ (Builtin.zeroCells zv.cells (grownCap w ys.length 0 e - ys.length)).toList).toArray := by
        apply Array.ext'; simp
      rw [hvals] at hrun
      have hfl : (flat (blk.elems.take 0 ++ (ys ++ blk.elems.drop ys.length))) = flat ys := by rw [he0]; simp
      have hel : (blk.elems.take 0 ++ (ys ++ blk.elems.drop ys.length)) = ys := by rw [he0]; simp
      rw [hel]
      let inf' : Info := ⟨w.heap.size, grownCap w ys.length 0 e, e, sz', ys.length, false⟩
      have hupd := Ctx.upd_le (c := c) (inf' := inf') hm (by simp [inf', hs1]) (by simp [inf']; omega) (by simp [inf']; omega)
      have hbs : sz' = blk.sz := by rw [← hs1, hB.sz]
      have hBA : BlkAt (c.upd b inf') inf' { blk with elems := ys } (w.drew.alloc (.cells (nv ++ (Builtin.zeroCells zv.cells (grownCap w ys.length 0 e - ys.length)).toList).toArray e)) := by
        refine BlkAt.ofFlat (vals := nv) (by simp [inf', hty]) (by simp [inf', hbs]) hB.pos rfl hge rfl hle (heap_alloc_new w.drew _) ?_ (fun x hx => by rw [← hbs]; exact hyy x hx) (Cells1.mono hupd ⟨hnr, hn1⟩) (fun k v hk => ?_)
        · have : zv.cells.size = sz' := by rw [hzs]; simpa using hzsl
          simp only [inf', List.size_toArray, List.length_append, Array.length_toList, size_zeroCells, this, hnl, hisz, ← Nat.add_mul]
          congr 1; omega
        · simp only
          rw [List.getElem?_append_left (List.getElem?_eq_some_iff.1 hk).1]; exact hk
      obtain ⟨g1, g2, g3⟩ := grown_new hg hH hm (by simp [inf', hs1]) (by simp [inf']; omega) rfl rfl hBA hblt
      refine ⟨_, _, _, hrun, g1, g2, g3, ?_, fun b' hb' => ?_⟩
      · exact .sl (inf := inf') (by simp [Ctx.upd]) rfl rfl rfl (by omega) (by simp [inf']) hge (.inl (by simp [inf']))
      · by_cases eb : b' = b
        · subst eb; rw [hm]; simp
        · simpa [Ctx.upd, eb] using hb'
    | sl hm hl hv hs1 ho hcap hnc ha =>
      rename_i inf a cap'
      have ha' : a = ⟨inf.idx, 0, none⟩ := by
        rcases ha with h1 | h1
        · simpa using h1
        · omega
      subst ha'
      simp only [Nat.zero_add, Nat.add_zero] at ho hcap
      subst hcap
      have hB := hH.blk _ _ _ hb hm
      obtain ⟨cur, hcur, hcs⟩ := hB.real hv
      obtain ⟨hxx, hxc, hxfit⟩ := hB.flatCells hv hcur
      have hbs : sz' = blk.sz := by rw [← hs1, hB.sz]
      have hity : inf.ty = e := by rw [hB.ty, hty]
      rw [hity] at hcur
      have hnL : n ≤ blk.elems.length := by omega
      obtain ⟨hzz, hgc⟩ := grown_cells hxx (by rw [← hbs]; exact hyy) hnL hxc ⟨hnr, hn1⟩
      have hlen' := hlen n hnL
      have hfits := hB.fits
      have htake : ((cur.toList.take (blk.elems.length * blk.sz)).take (n * blk.sz)) = cur.toList.take (n * blk.sz) := by
        rw [List.take_take, Nat.min_eq_left (Nat.mul_le_mul_right _ hnL)]
      have hnvl : nv.length = ys.length * blk.sz := by rw [hnl, hisz, hbs]
      have hnsc : n * blk.sz ≤ cur.size := Nat.le_trans (Nat.mul_le_mul_right _ hnL) hxfit
      by_cases hroom : n + ys.length ≤ inf.cap
      · -- there is room
        have hnfit : n * i.size + nv.length ≤ cur.size := by
          rw [hnl, hcs, ← Nat.add_mul, hisz, hs1]; exact Nat.mul_le_mul_right _ hroom
        have hrun := run_append_room (P := P) w t ty e i hd hi inf.idx n inf.cap cur hcur A ys.length cap2 nv hnl hnews hn1 hroom hnfit
        rw [hisz, hbs] at hrun
        rw [hisz, hbs] at hnfit
        let inf' : Info := { inf with len := max blk.elems.length (n + ys.length) }
        have hu : inf'.len = inf.len → inf' = inf := fun q => by simp only [inf'] at q ⊢; rw [q]
        have hbl := hB.len
        have hupd := Ctx.upd_le (c := c) (inf' := inf') hm rfl (by simp only [inf']; omega) hu
        have hpre : ∀ (k : Nat) (v : Value), ((cur.toList.take (blk.elems.length * blk.sz)).take (n * blk.sz) ++ (nv ++ (cur.toList.take (blk.elems.length * blk.sz)).drop (n * blk.sz + nv.length)))[k]? = some v →
            (cur.toList.take (n * blk.sz) ++ nv ++ cur.toList.drop (n * blk.sz + nv.length))[k]? = some v := by
          intro k v hk
          rw [htake] at hk
          rw [List.append_assoc]
          by_cases q : k < n * blk.sz
          · rw [List.getElem?_append_left (by simp; omega)] at hk ⊢; exact hk
          · have ll : (cur.toList.take (n * blk.sz)).length = n * blk.sz := by simp; omega
            rw [List.getElem?_append_right (by omega)] at hk ⊢
            rw [ll] at hk ⊢
            by_cases q2 : k - n * blk.sz < nv.length
            · rw [List.getElem?_append_left q2] at hk ⊢; exact hk
            · rw [List.getElem?_append_right (by omega)] at hk ⊢
              rw [List.getElem?_drop, List.getElem?_take] at hk
              rw [List.getElem?_drop]
              split at hk
              · exact hk
              · cases hk
        have hBA : BlkAt (c.upd b inf') inf' { blk with elems := blk.elems.take n ++ (ys ++ blk.elems.drop (n + ys.length)) }
            (w.setRow inf.idx (cur.toList.take (n * blk.sz) ++ nv ++ cur.toList.drop (n * blk.sz + nv.length)).toArray) := by
          refine BlkAt.ofFlat (cur := (cur.toList.take (n * blk.sz) ++ nv ++ cur.toList.drop (n * blk.sz + nv.length)).toArray) (vals := _) (by simp [inf', hB.ty]) (by simp [inf', hB.sz]) hB.pos (by simp only [inf']; exact hlen'.symm) ?_ hv hB.big (setRow_heap w inf.idx cur _ e _ hcur |> fun q => by simpa [inf', hity] using q) ?_ hzz (Cells1.mono hupd hgc) (by simpa using hpre)
          · show (blk.elems.take n ++ (ys ++ blk.elems.drop (n + ys.length))).length ≤ inf.cap
            rw [hlen']; omega
          · simp only [inf', List.size_toArray, List.length_append, List.length_take, List.length_drop, Array.length_toList]
            omega
        obtain ⟨g1, g2, g3⟩ := grown_here hg hH hm (inf' := inf') rfl (by simp only [inf']; omega) hu rfl hv hv hBA hblt
        refine ⟨_, _, _, hrun, g1, g2, g3, ?_, fun b' hb' => ?_⟩
        · rw [hlen']
          exact .sl (inf := inf') (by simp [Ctx.upd]) rfl hv hs1 (by omega) (by simp [inf']) hroom (.inl (by simp [inf']))
        · by_cases eb : b' = b
          · subst eb; rw [hm]; simp
          · simpa [Ctx.upd, eb] using hb'
      · -- a new row
        have holds : ∀ j v, (cur.toList.take (n * i.size))[j]? = some v → w.cell? ((⟨inf.idx, 0, none⟩ : Addr).add j) = some v := by
          intro j v hj
          rw [Addr.add_lit, cell_of_row w _ _ _ _ _ hcur]
          rw [List.getElem?_take] at hj
          split at hj
          · simpa using hj
          · cases hj
        have hrun := run_append_grow (P := P) w t ty e i zv hd hi hzv ⟨inf.idx, 0, none⟩ n inf.cap (cur.toList.take (n * i.size)) (by rw [hisz, hbs]; simp; omega) holds A ys.length cap2 nv hnl hnews
          (by omega) (by omega) (growslice_fits (by omega) (by have := Nat.mul_le_mul hbig hbyi; omega))
        rw [hisz, hbs] at hrun
        have hge := grownCap_ge w (n + ys.length) inf.cap e
        have hle := grownCap_le_maxLen w (n + ys.length) inf.cap e (by simp [maxLen]; omega)
        have hvals : ((cur.toList.take (n * blk.sz)).toArray ++ nv.toArray ++ Builtin.zeroCells zv.cells (grownCap w (n + ys.length) inf.cap e - (n + ys.length))) =
            ((cur.toList.take (n * blk.sz)) ++ nv ++ (Builtin.zeroCells zv.cells (grownCap w (n + ys.length) inf.cap e - (n + ys.length))).toList).toArray := by
          apply Array.ext'; simp
        rw [hvals] at hrun
        let inf' : Info := ⟨w.heap.size, grownCap w (n + ys.length) inf.cap e, e, sz', n + ys.length, false⟩
        have hbl := hB.len
        have hupd := Ctx.upd_le (c := c) (inf' := inf') hm (by simp [inf', hs1]) (by simp [inf']; omega) (by simp [inf']; omega)
        have hdrop : blk.elems.drop (n + ys.length) = [] := List.drop_of_length_le (by omega)
        have hmax : max blk.elems.length (n + ys.length) = n + ys.length := by omega
        rw [hmax] at hlen'
        have hpre : ∀ (k : Nat) (v : Value), ((cur.toList.take (blk.elems.length * blk.sz)).take (n * blk.sz) ++ (nv ++ (cur.toList.take (blk.elems.length * blk.sz)).drop (n * blk.sz + nv.length)))[k]? = some v →
            ((cur.toList.take (n * blk.sz)) ++ nv ++ (Builtin.zeroCells zv.cells (grownCap w (n + ys.length) inf.cap e - (n + ys.length))).toList)[k]? = some v := by
          intro k v hk
          have d0 : (cur.toList.take (blk.elems.length * blk.sz)).drop (n * blk.sz + nv.length) = [] := by
            apply List.drop_of_length_le
            rw [hnvl, ← Nat.add_mul]
            simp only [List.length_take]
            have := Nat.mul_le_mul_right blk.sz (show blk.elems.length ≤ n + ys.length by omega)
            omega
          rw [htake, d0, List.append_nil] at hk
          rw [List.getElem?_append_left (List.getElem?_eq_some_iff.1 hk).1]; exact hk
        have hBA : BlkAt (c.upd b inf') inf' { blk with elems := blk.elems.take n ++ (ys ++ blk.elems.drop (n + ys.length)) }
            (w.drew.alloc (.cells ((cur.toList.take (n * blk.sz)) ++ nv ++ (Builtin.zeroCells zv.cells (grownCap w (n + ys.length) inf.cap e - (n + ys.length))).toList).toArray e)) := by
          refine BlkAt.ofFlat (vals := _) (by simp [inf', hty]) (by simp [inf', hbs]) hB.pos (by simp only [inf']; exact hlen'.symm) (by show _ ≤ inf'.cap; rw [hlen']; exact hge) rfl hle (heap_alloc_new w.drew _) ?_ hzz (Cells1.mono hupd hgc) (by simpa using hpre)
          have q : zv.cells.size = sz' := by rw [hzs]; simpa using hzsl
          simp only [inf', List.size_toArray, List.length_append, Array.length_toList, size_zeroCells, q, List.length_take, hnvl, ← hbs]
          rw [Nat.min_eq_left (by rw [hbs]; exact hnsc), ← Nat.add_mul, ← Nat.add_mul]
          congr 1; omega
        obtain ⟨g1, g2, g3⟩ := grown_new hg hH hm (inf' := inf') (by simp [inf', hs1]) (by simp [inf']; omega) rfl rfl hBA hblt
        refine ⟨_, _, _, hrun, g1, g2, g3, ?_, fun b' hb' => ?_⟩
        · rw [hlen']
          exact .sl (inf := inf') (by simp [Ctx.upd]) rfl rfl rfl (by omega) (by simp [inf']) hge (.inl (by simp [inf']))
        · by_cases eb : b' = b
          · subst eb; rw [hm]; simp
          · simpa [Ctx.upd, eb] using hb'
/-! ### copy -/
def copyV (d x : AV) (H : AHeap) : Option (AV × AHeap) :=
  match d with
  | .sl b L o n sz => match H[b]?, elemsOf x H with
    | some blk, some ys => if blk.elems.length = L ∧ sz = 1 ∧ o + n ≤ L ∧ allSz 1 ys = true then
        some (.int .i64 ((min ys.length n : Nat) : Int), H.set b { blk with elems := blk.elems.take o ++ (ys.take n ++ blk.elems.drop (o + (ys.take n).length)) }) else none
    | _, _ => none
  | _ => none
def copyA (P : Program) (ts : Array Nat) (d x : AV) (H : AHeap) : Option (AV × AHeap) :=
  match ts.toList with
  | [t, _] => match P.underlying t with
    | some (.slice e) => match tsz P e with
      | some s => if s = 1 then copyV d x H else none
      | none => none
    | _ => none
  | _ => none
theorem set_same {H : AHeap} {b : Nat} {blk : ABlk} (hb : H[b]? = some blk) : H.set b blk = H := by
  have hlt : b < H.length := (List.getElem?_eq_some_iff.1 hb).1
  apply List.ext_getElem?
  intro k
  by_cases e : b = k
  · subst e; rw [List.getElem?_set_self hlt, hb]
  · rw [List.getElem?_set_ne e]
theorem copyA_sound {P : Program} {G : Globs} {ts : Array Nat} {ty : Nat} {d x r : AV} {H H' : AHeap} (h : copyA P ts d x H = some (r, H')) {c : Ctx} {w : World} (hg : Good G c w) (hH : HeapAt c H w)
    {vd vx : Value} (hd : Rel c d vd) (hx : Rel c x vx) :
    ∃ v w', (Builtin.copy_ ts ty #[vd, vx]).run P w = .ok v w' ∧ Wrote G c w r H' v w' c := by
  unfold copyA at h
  split at h
  case h_2 => cases h
  rename_i t t' hts
  have hts' : ts = #[t, t'] := by apply Array.ext'; simpa using hts
  subst hts'
  split at h
  case h_2 => cases h
  rename_i e hu
  split at h
  case h_2 => cases h
  rename_i s hs
  split at h
  case isFalse => cases h
  rename_i hs1
  subst hs1
  unfold copyV at h
  split at h
  case h_2 => cases h
  rename_i b L o n sz
  split at h
  case h_2 => cases h
  rename_i blk ys hb hys
  split at h
  case isFalse => cases h
  rename_i hc
  obtain ⟨hL, hsz, hon, hall⟩ := hc
  simp only [Option.some.injEq, Prod.mk.injEq] at h
  obtain ⟨rfl, rfl⟩ := h
  subst hsz
  obtain ⟨a, m, cap2, rfl, hym, _, hya⟩ := elemsOf_sound hys hg hH hx hall
  subst hym
  have hyy : ∀ y ∈ ys, y.cells.length = 1 := fun y hy => by have := List.all_eq_true.1 hall y hy; simpa using this
  have hsz : (P.info? e).map (·.size) = some 1 := hs
  have int : ∀ k : Nat, goInt k = .int .i64 (k : Int) := fun k => rfl
  have none_ : ∀ (D : Option Addr) (dc : Nat), vd = .slice D n dc → min ys.length n = 0 → Rel c (.sl b L o n 1) vd →
      ∃ v w', (Builtin.copy_ #[t, t'] ty #[vd, .slice a ys.length cap2]).run P w = .ok v w' ∧ Wrote G c w (.int .i64 ((min ys.length n : Nat) : Int)) (H.set b { blk with elems := blk.elems.take o ++ (ys.take n ++ blk.elems.drop (o + (ys.take n).length)) }) v w' c := by
    intro D dc hv h0 hr
    subst hv
    have hyn : ys.take n = [] := List.eq_nil_of_length_eq_zero (by rw [List.length_take]; omega)
    have same : blk.elems.take o ++ (ys.take n ++ blk.elems.drop (o + (ys.take n).length)) = blk.elems := by rw [hyn]; simp
    rw [same, set_same hb, h0]
    exact ⟨_, w, run_copy_none w t t' ty e D a n dc ys.length cap2 hu hsz h0, .refl c w, hg, hH, .int _ _, fun _ h => h⟩
  cases hd with
  | slStale a' cap' hm hl hnc ha => have := hH.valid hb hm; omega
  | slVirt hm hl hv hs1 => exact none_ _ _ rfl (by omega) (.slVirt hm hl hv hs1)
  | sl hm hl hv hs1 ho hcap hnc ha =>
    rename_i inf a' cap'
    by_cases h0 : min ys.length n = 0
    · exact none_ _ _ rfl h0 (.sl hm hl hv hs1 ho hcap hnc ha)
    have ha' : a' = ⟨inf.idx, o * 1, none⟩ := by
      rcases ha with h1 | h1
      · exact h1
      · omega
    subst ha'
    obtain ⟨A, rfl, hAs, hAc⟩ := hya.resolve_left (fun q => h0 (by rw [q]; simp))
    have hB := hH.blk _ _ _ hb hm
    obtain ⟨cur, hcur, hcs⟩ := hB.real hv
    obtain ⟨hxx, hxc, hxfit⟩ := hB.flatCells hv hcur
    have hbs : blk.sz = 1 := by rw [← hB.sz, hs1]
    have hAc' : CellsAt c w A.block A.off (flat (ys.take n)) := by rw [flat_take hyy, Nat.mul_one]; exact hAc.take n
    obtain ⟨nv, hnr, hncell, hn1⟩ := hAc'.vals
    have hyt : ∀ y ∈ ys.take n, y.cells.length = 1 := fun y hy => hyy y (List.mem_of_mem_take hy)
    have hnl : nv.length = (ys.take n).length := by rw [← hnr.1, flat_length hyt]; simp
    have hnl' : nv.length = min ys.length n := by rw [hnl, List.length_take, Nat.min_comm]
    have hnews : ∀ j v, nv[j]? = some v → w.cell? (A.add j) = some v := by
      intro j v hj
      have := hncell j v hj
      obtain ⟨blk', off, spot⟩ := A
      simp only at hAs; subst hAs
      rw [Addr.add_lit]; exact this
    have hfit : o * 1 + nv.length ≤ cur.size := by
      rw [hnl', hcs, hs1]
      have := hB.fits
      omega
    have hrun := run_copy_row (P := P) w t t' ty e inf.idx (o * 1) n cap' A ys.length cap2 cur inf.ty nv hu hsz hcur hnl' hnews hfit hn1
    have ho' : c.own inf.idx := ⟨b, inf, hm, hv, rfl⟩
    have hstep := Step.setRow (c := c) (w := w) ho' (cur.toList.take (o * 1) ++ nv ++ cur.toList.drop (o * 1 + nv.length)).toArray
    have hon' : o ≤ blk.elems.length := by omega
    obtain ⟨hzz, hgc⟩ := grown_cells hxx (by rw [hbs]; exact hyt) hon' hxc ⟨hnr, hn1⟩
    have hytl : (ys.take n).length = min ys.length n := by rw [List.length_take, Nat.min_comm]
    have hlen' : (blk.elems.take o ++ (ys.take n ++ blk.elems.drop (o + (ys.take n).length))).length = blk.elems.length := by
      simp only [List.length_append, List.length_take, List.length_drop]; omega
    refine ⟨_, _, hrun, hstep, hg.world hstep, hH.set hm hv ?_, ?_, fun _ h => h⟩
    · refine BlkAt.ofFlat (cur := (cur.toList.take (o * 1) ++ nv ++ cur.toList.drop (o * 1 + nv.length)).toArray) (vals := (cur.toList.take (blk.elems.length * blk.sz)).take (o * blk.sz) ++ (nv ++ (cur.toList.take (blk.elems.length * blk.sz)).drop (o * blk.sz + nv.length)))
        hB.ty hB.sz hB.pos (by rw [hlen']; exact hB.len) (by rw [hlen']; exact hB.fits) hv hB.big (setRow_heap w _ cur _ _ _ hcur) ?_ hzz hgc ?_
      · rw [← hcs]
        simp only [List.size_toArray, List.length_append, List.length_take, List.length_drop, Array.length_toList]
        omega
      · intro k v hk
        rw [hbs, Nat.mul_one, Nat.mul_one] at hk
        rw [hbs, Nat.mul_one] at hxfit
        simp only [Nat.mul_one] at hfit ⊢
        rw [List.append_assoc]
        have l0 : ((cur.toList.take blk.elems.length).take o) = cur.toList.take o := by rw [List.take_take, Nat.min_eq_left hon']
        rw [l0] at hk
        have ll : (cur.toList.take o).length = o := by simp; omega
        by_cases q : k < o
        · rw [List.getElem?_append_left (by omega)] at hk ⊢; exact hk
        · rw [List.getElem?_append_right (by omega)] at hk ⊢
          rw [ll] at hk ⊢
          by_cases q2 : k - o < nv.length
          · rw [List.getElem?_append_left q2] at hk ⊢; exact hk
          · rw [List.getElem?_append_right (by omega)] at hk ⊢
            rw [List.getElem?_drop, List.getElem?_take] at hk
            rw [List.getElem?_drop]
            split at hk
            · exact hk
            · cases hk
    · rw [int, hnl']; exact .int _ _
theorem copyV_length {d x r : AV} {H H' : AHeap} (h : copyV d x H = some (r, H')) : H'.length = H.length := by
  unfold copyV at h
  (repeat' split at h) <;> first | (cases h; done) | (simp only [Option.some.injEq, Prod.mk.injEq] at h; obtain ⟨_, rfl⟩ := h; simp)
theorem copyA_length {P : Program} {ts : Array Nat} {d x r : AV} {H H' : AHeap} (h : copyA P ts d x H = some (r, H')) : H'.length = H.length := by
  unfold copyA at h
  (repeat' split at h) <;> first | (cases h; done) | exact copyV_length h
end Go.Proofs.YtdfglgnflldkpaaDoor.Mir
namespace Go.Proofs.YtdfglgnflldkpaaDoor.Mir
open Go
set_option linter.unusedVariables false
set_option linter.unusedSimpArgs false
mutual
/-- No reference to an own block. -/
def plainB : AV → Bool
  | .ptr .. => false
  | .sl .. => false
  | .fn _ caps => plainL caps
  | .iface _ v => plainB v
  | .agg cs => plainL cs
  | .tup vs => plainL vs
  | .ro _ xs => plainL xs
  | .rp _ x _ => plainB x
  | .undef => true
  | .bool _ => true
  | .int .. => true
  | .str _ => true
  | .nilp => true
  | .nilf => true
  | .nili => true
  | .gl _ => true
  | .gp _ => true
  | .nils => true
  | .anyb => true
def plainL : List AV → Bool
  | [] => true
  | x :: xs => plainB x && plainL xs
end
mutual
/-- No reference to an own block, and nothing borrowed. -/
def cleanB : AV → Bool
  | .ptr .. => false
  | .sl .. => false
  | .fn _ caps => cleanL caps
  | .iface _ v => cleanB v
  | .agg cs => cleanL cs
  | .tup vs => cleanL vs
  | .ro bor xs => !bor && cleanL xs
  | .rp bor x _ => !bor && cleanB x
  | .undef => true
  | .bool _ => true
  | .int .. => true
  | .str _ => true
  | .nilp => true
  | .nilf => true
  | .nili => true
  | .gl _ => true
  | .gp _ => true
  | .nils => true
  | .anyb => true
def cleanL : List AV → Bool
  | [] => true
  | x :: xs => cleanB x && cleanL xs
end
theorem plainL_get : ∀ {xs : List AV} (_ : plainL xs = true) {i : Nat} {x : AV} (_ : xs[i]? = some x), plainB x = true
  | [], _, _, _, hx => by simp at hx
  | y :: xs, h, i, x, hx => by
    simp only [plainL, Bool.and_eq_true] at h
    cases i with
    | zero => simp at hx; subst hx; exact h.1
    | succ i => simp at hx; exact plainL_get h.2 hx
theorem cleanL_get : ∀ {xs : List AV} (_ : cleanL xs = true) {i : Nat} {x : AV} (_ : xs[i]? = some x), cleanB x = true
  | [], _, _, _, hx => by simp at hx
  | y :: xs, h, i, x, hx => by
    simp only [cleanL, Bool.and_eq_true] at h
    cases i with
    | zero => simp at hx; subst hx; exact h.1
    | succ i => simp at hx; exact cleanL_get h.2 hx
theorem plainL_map {α : Type} (e : α → AV) (h : ∀ a, plainB (e a) = true) : ∀ xs : List α, plainL (xs.map e) = true
  | [] => rfl
  | x :: xs => by simp [plainL, h x, plainL_map e h xs]
theorem cleanL_map {α : Type} (e : α → AV) (h : ∀ a, cleanB (e a) = true) : ∀ xs : List α, cleanL (xs.map e) = true
  | [] => rfl
  | x :: xs => by simp [cleanL, h x, cleanL_map e h xs]
theorem plain_cells {x : AV} (h : plainB x = true) : plainL x.cells = true := by
  cases x <;> simp_all [AV.cells, plainL, plainB]
theorem clean_cells {x : AV} (h : cleanB x = true) : cleanL x.cells = true := by
  cases x <;> simp_all [AV.cells, cleanL, cleanB]
/-- What has no reference is the same wherever the own blocks lie. -/
theorem Rel.plain {c c' : Ctx} (hM : ∀ a v, c.M a = some v → c'.M a = some v) (hB : ∀ a v, c.B a = some v → c'.B a = some v) (hS : c'.S = c.S) {x : AV} {v : Value} (h : Rel c x v) :
    plainB x = true → Rel c' x v := by
  have hmem : ∀ bor a v, c.mem bor a = some v → c'.mem bor a = some v := fun bor a v => by cases bor <;> simp only [Ctx.mem]; exact hM a v; exact hB a v
  induction h with
  | undef v => exact fun _ => .undef v
  | bool b => exact fun _ => .bool b
  | int k n => exact fun _ => .int k n
  | str s => exact fun _ => .str s
  | nilp => exact fun _ => .nilp
  | nilf => exact fun _ => .nilf
  | nili => exact fun _ => .nili
  | fn hl _ ih => exact fun hp => .fn hl (fun i x v h1 h2 => ih i x v h1 h2 (plainL_get (by simpa [plainB] using hp) h1))
  | iface _ ih => exact fun hp => .iface (ih (by simpa [plainB] using hp))
  | agg hl _ h1 ih => exact fun hp => .agg hl (fun i x v h1 h2 => ih i x v h1 h2 (plainL_get (by simpa [plainB] using hp) h1)) h1
  | tup hl _ ih => exact fun hp => .tup hl (fun i x v h1 h2 => ih i x v h1 h2 (plainL_get (by simpa [plainB] using hp) h1))
  | ptr => exact fun hp => by simp [plainB] at hp
  | ptrStale => exact fun hp => by simp [plainB] at hp
  | sl => exact fun hp => by simp [plainB] at hp
  | slVirt => exact fun hp => by simp [plainB] at hp
  | slStale => exact fun hp => by simp [plainB] at hp
  | ro hn hcap ha hA hsz _ hm ih =>
    intro hp
    refine .ro hn hcap ha hA hsz (fun i x j y h1 h2 => ih i x j y h1 h2 ?_) (fun i x j y h1 h2 => ⟨hmem _ _ _ (hm i x j y h1 h2).1, (hm i x j y h1 h2).2⟩)
    exact plainL_get (plain_cells (plainL_get (by simpa [plainB] using hp) h1)) h2
  | rp _ hm ih =>
    intro hp
    refine .rp (fun j y h1 => ih j y h1 ?_) (fun j y h1 => ⟨hmem _ _ _ (hm j y h1).1, (hm j y h1).2⟩)
    exact plainL_get (plain_cells (by simpa [plainB] using hp)) h1
  | gl g => exact fun _ => .gl g
  | gp h => exact fun _ => .gp (by rw [hS]; exact h)
  | nils => exact fun _ => .nils
  | anyb b => exact fun _ => .anyb b
/-- What is clean hangs on the cells that are laid for good alone. -/
theorem Rel.clean {c c' : Ctx} (hM : ∀ a v, c.M a = some v → c'.M a = some v) (hS : c'.S = c.S) {x : AV} {v : Value} (h : Rel c x v) :
    cleanB x = true → Rel c' x v := by
  induction h with
  | undef v => exact fun _ => .undef v
  | bool b => exact fun _ => .bool b
  | int k n => exact fun _ => .int k n
  | str s => exact fun _ => .str s
  | nilp => exact fun _ => .nilp
  | nilf => exact fun _ => .nilf
  | nili => exact fun _ => .nili
  | fn hl _ ih => exact fun hp => .fn hl (fun i x v h1 h2 => ih i x v h1 h2 (cleanL_get (by simpa [cleanB] using hp) h1))
  | iface _ ih => exact fun hp => .iface (ih (by simpa [cleanB] using hp))
  | agg hl _ h1 ih => exact fun hp => .agg hl (fun i x v h1 h2 => ih i x v h1 h2 (cleanL_get (by simpa [cleanB] using hp) h1)) h1
  | tup hl _ ih => exact fun hp => .tup hl (fun i x v h1 h2 => ih i x v h1 h2 (cleanL_get (by simpa [cleanB] using hp) h1))
  | ptr => exact fun hp => by simp [cleanB] at hp
  | ptrStale => exact fun hp => by simp [cleanB] at hp
  | sl => exact fun hp => by simp [cleanB] at hp
  | slVirt => exact fun hp => by simp [cleanB] at hp
  | slStale => exact fun hp => by simp [cleanB] at hp
  | ro hn hcap ha hA hsz _ hm ih =>
    intro hp
    simp only [cleanB, Bool.and_eq_true, Bool.not_eq_true'] at hp
    obtain ⟨hb, hp⟩ := hp
    subst hb
    refine .ro hn hcap ha hA hsz (fun i x j y h1 h2 => ih i x j y h1 h2 ?_) (fun i x j y h1 h2 => ⟨hM _ _ (hm i x j y h1 h2).1, (hm i x j y h1 h2).2⟩)
    exact cleanL_get (clean_cells (cleanL_get hp h1)) h2
  | rp _ hm ih =>
    intro hp
    simp only [cleanB, Bool.and_eq_true, Bool.not_eq_true'] at hp
    obtain ⟨hb, hp⟩ := hp
    subst hb
    refine .rp (fun j y h1 => ih j y h1 ?_) (fun j y h1 => ⟨hM _ _ (hm j y h1).1, (hm j y h1).2⟩)
    exact cleanL_get (clean_cells hp) h1
  | gl g => exact fun _ => .gl g
  | gp h => exact fun _ => .gp (by rw [hS]; exact h)
  | nils => exact fun _ => .nils
  | anyb b => exact fun _ => .anyb b
/-! ### Contracts -/
/-- What a function leaves behind. -/
structure Ret (G : Globs) (c : Ctx) (w : World) (r : AV) (H' : AHeap) (v : Value) (w' : World) (c' : Ctx) : Prop where
  step : Step c w c' w'
  good : Good G c' w'
  heap : HeapAt c' H' w'
  dom : Dom c' H'
  rel : Rel c' r v
abbrev Den := List AV → AHeap → Option (AV × AHeap)
structure Sound (P : Program) (G : Globs) (f : Nat) (g : Den) : Prop where
  here : ∃ fn, P.funcs[f]? = some fn ∧ fn.body.isSome = true ∧ (fn.name == "runtime.NumGoroutine") = false
  calls : ∀ args H r H', g args H = some (r, H') → ∀ c w vs, Good G c w → HeapAt c H w → Dom c H → RelL c args vs →
    Calls P f vs.toArray w (fun e w' => ∃ v c', e = .returned v ∧ Ret G c w r H' v w' c')
theorem Sound.mono {P : Program} {G : Globs} {f : Nat} {g g' : Den} (h : Sound P G f g) (hg : ∀ args H x, g' args H = some x → g args H = some x) : Sound P G f g' :=
  ⟨h.here, fun args H r H' hr => h.calls args H r H' (hg _ _ _ hr)⟩
/-- Cells, those that bear references to own blocks as if nothing were known of them. -/
def maskL : List AV → List AV
  | [] => []
  | x :: xs => (if plainB x then x else .undef) :: maskL xs
theorem maskL_get : ∀ (xs : List AV) (j : Nat) (z : AV), (maskL xs)[j]? = some z → ∃ y, xs[j]? = some y ∧ plainB z = true ∧ (z = y ∨ z = .undef)
  | [], j, z, h => by simp [maskL] at h
  | x :: xs, 0, z, h => by
    simp [maskL] at h
    refine ⟨x, rfl, ?_⟩
    by_cases hp : plainB x = true
    · rw [if_pos hp] at h; subst h; exact ⟨hp, .inl rfl⟩
    · rw [if_neg hp] at h; subst h; exact ⟨rfl, .inr rfl⟩
  | x :: xs, j + 1, z, h => by
    simp [maskL] at h
    exact maskL_get xs j z h
/-- One argument of a call that keeps nothing: own slices and what own pointers point to, as they are now. -/
def snap1 (H : AHeap) (x : AV) : Option AV :=
  match x with
  | .sl b L o n sz => match elemsOf (.sl b L o n sz) H with
    | some ys => if plainL ys && allSz sz ys then some (.ro true ys) else none
    | none => none
  | .ptr b L i o => match H[b]? with
    | some blk => if blk.elems.length = L then (match blk.elems[i]? with | some y => if plainB y then some (.rp true y o) else (match y with | .agg cs => some (.rp true (.agg (maskL cs)) o) | _ => none) | none => none) else none
    | none => none
  | x => if plainB x then some x else none
def snapCells (H : AHeap) : List AV → Option (List AV)
  | [] => some []
  | x :: xs => match snap1 H x, snapCells H xs with
    | some y, some ys => some (y :: ys)
    | _, _ => none
def snap (H : AHeap) (x : AV) : Option AV :=
  match x with
  | .agg cs => (snapCells H cs).map .agg
  | x => snap1 H x
def snapL (H : AHeap) : List AV → Option (List AV)
  | [] => some []
  | x :: xs => match snap H x, snapL H xs with
    | some y, some ys => some (y :: ys)
    | _, _ => none
def pureCall (g : Den) (args : List AV) (H : AHeap) : Option (AV × AHeap) :=
  match snapL H args with
  | some as => match g as [] with
    | some (r, []) => if cleanB r then some (r, H) else none
    | _ => none
  | none => none
/-- The world as a function that keeps nothing sees it. -/
def Ctx.bare (c : Ctx) (w : World) : Ctx := { m := fun _ => none, M := c.M, B := fun a => w.cell? a, S := c.S }
theorem snap1_sound {G : Globs} {c : Ctx} {w : World} {H : AHeap} (hg : Good G c w) (hH : HeapAt c H w) {x y : AV} (h : snap1 H x = some y) {v : Value} (hx : Rel c x v) : Rel (c.bare w) y v := by
  have pl : ∀ (z : AV) (u : Value), Rel c z u → plainB z = true → Rel (c.bare w) z u := fun z u hz hp => Rel.plain (c := c) (c' := c.bare w) (fun _ _ h => h) (fun a v h => hg.holds a v h) rfl hz hp
  unfold snap1 at h
  split at h
  · rename_i b L o n sz
    split at h
    case h_2 => cases h
    rename_i ys hys
    split at h
    case isFalse => cases h
    rename_i hp
    simp only [Bool.and_eq_true] at hp
    simp at h; subst h
    obtain ⟨a, m, cap, rfl, hl, hcap, hcells⟩ := elemsOf_sound hys hg hH hx hp.2
    rcases hcells with rfl | ⟨A, rfl, hA, hcells⟩
    · simp at hl; subst hl; exact .roNil ..
    · have hsz : ∀ y ∈ ys, y.cells.length = sz := fun y hy => by have := List.all_eq_true.1 hp.2 y hy; simpa using this
      have get : ∀ (i : Nat) (z : AV) (j : Nat) (y : AV), ys[i]? = some z → z.cells[j]? = some y → ∃ u, w.cell? ⟨A.block, A.off + i * sz + j, none⟩ = some u ∧ Rel c y u ∧ u.oneCell' = true := by
        intro i z j y hz hy
        have hj : j < sz := by rw [← hsz z (List.mem_of_getElem? hz)]; exact (List.getElem?_eq_some_iff.1 hy).1
        have := hcells (i * sz + j) y (by rw [flat_get hsz hz hj]; exact hy)
        rwa [← Nat.add_assoc] at this
      refine .ro (A := A) (V := fun i j => (w.cell? ⟨A.block, A.off + i * sz + j, none⟩).getD default) (sz := sz) hl hcap (.inr rfl) hA (fun i z hz => hsz z (List.mem_of_getElem? hz)) (fun i z j y hz hy => ?_) (fun i z j y hz hy => ?_)
      · obtain ⟨u, g1, g2, g3⟩ := get i z j y hz hy
        simp only [g1, Option.getD_some]
        exact pl _ _ g2 (plainL_get (plain_cells (plainL_get hp.1 hz)) hy)
      · obtain ⟨u, g1, g2, g3⟩ := get i z j y hz hy
        simp only [g1, Option.getD_some]
        exact ⟨g1, g3⟩
  · rename_i b L i o
    split at h
    case h_2 => cases h
    rename_i blk hb
    split at h
    case isFalse => cases h
    rename_i hL
    split at h
    case h_2 => cases h
    rename_i y hy
    split at h
    case isFalse =>
      cases y with
      | agg cs =>
        simp at h; subst h
        cases hx with
        | ptrStale a hm hl => have := hH.valid hb hm; omega
        | ptr hm hl hv =>
          rename_i inf
          have hB := (hH.blk _ _ _ hb hm).at hv hy
          refine .rp (A := ⟨inf.idx, i * inf.sz, none⟩) (V := fun j => (w.cell? ⟨inf.idx, i * inf.sz + j, none⟩).getD default) (fun j z hz => ?_) (fun j z hz => ?_)
          · obtain ⟨z', hz', hp, e⟩ := maskL_get _ _ _ hz
            obtain ⟨u, g1, g2, g3⟩ := hB j z' hz'
            simp only [g1, Option.getD_some]
            rcases e with rfl | rfl
            · exact pl _ _ g2 hp
            · exact .undef _
          · obtain ⟨z', hz', hp, e⟩ := maskL_get _ _ _ hz
            obtain ⟨u, g1, g2, g3⟩ := hB j z' hz'
            simp only [g1, Option.getD_some]
            exact ⟨g1, g3⟩
      | _ => cases h
    rename_i hp
    simp at h; subst h
    cases hx with
    | ptrStale a hm hl => have := hH.valid hb hm; omega
    | ptr hm hl hv =>
      rename_i inf
      have hB := (hH.blk _ _ _ hb hm).at hv hy
      refine .rp (A := ⟨inf.idx, i * inf.sz, none⟩) (V := fun j => (w.cell? ⟨inf.idx, i * inf.sz + j, none⟩).getD default) (fun j z hz => ?_) (fun j z hz => ?_)
      · obtain ⟨u, g1, g2, g3⟩ := hB j z hz
        simp only [g1, Option.getD_some]
        exact pl _ _ g2 (plainL_get (plain_cells hp) hz)
      · obtain ⟨u, g1, g2, g3⟩ := hB j z hz
        simp only [g1, Option.getD_some]
        exact ⟨g1, g3⟩
  · split at h
    · rename_i hp
      simp at h; subst h
      exact pl _ _ hx hp
    · cases h
theorem snapCells_sound {G : Globs} {c : Ctx} {w : World} {H : AHeap} (hg : Good G c w) (hH : HeapAt c H w) : ∀ {xs ys : List AV} (_ : snapCells H xs = some ys) {vs : List Value} (_ : RelL c xs vs), RelL (c.bare w) ys vs
  | [], ys, h, vs, hx => by
    simp [snapCells] at h; subst h
    have : vs = [] := List.eq_nil_of_length_eq_zero hx.1.symm
    subst this; exact .nil
  | x :: xs, ys, h, vs, hx => by
    simp only [snapCells] at h
    split at h
    · rename_i y ys' h1 h2
      simp at h; subst h
      cases vs with
      | nil => have := hx.1; simp at this
      | cons v vs => exact .cons (snap1_sound hg hH h1 hx.head) (snapCells_sound hg hH h2 hx.tail)
    · cases h
theorem snap_sound {G : Globs} {c : Ctx} {w : World} {H : AHeap} (hg : Good G c w) (hH : HeapAt c H w) {x y : AV} (h : snap H x = some y) {v : Value} (hx : Rel c x v) : Rel (c.bare w) y v := by
  unfold snap at h
  split at h
  · obtain ⟨ys, h1, rfl⟩ := Option.map_eq_some_iff.1 h
    obtain ⟨vs, rfl, hr, h1'⟩ := hx.of_agg
    have := snapCells_sound hg hH h1 hr
    exact .agg this.1 this.2 h1'
  · exact snap1_sound hg hH h hx
theorem snapL_sound {G : Globs} {c : Ctx} {w : World} {H : AHeap} (hg : Good G c w) (hH : HeapAt c H w) : ∀ {xs ys : List AV} (_ : snapL H xs = some ys) {vs : List Value} (_ : RelL c xs vs), RelL (c.bare w) ys vs
  | [], ys, h, vs, hx => by
    simp [snapL] at h; subst h
    have : vs = [] := List.eq_nil_of_length_eq_zero hx.1.symm
    subst this; exact .nil
  | x :: xs, ys, h, vs, hx => by
    simp only [snapL] at h
    split at h
    · rename_i y ys' h1 h2
      simp at h; subst h
      cases vs with
      | nil => have := hx.1; simp at this
      | cons v vs => exact .cons (snap_sound hg hH h1 hx.head) (snapL_sound hg hH h2 hx.tail)
    · cases h
end Go.Proofs.YtdfglgnflldkpaaDoor.Mir
namespace Go.Proofs.YtdfglgnflldkpaaDoor.Mir
open Go
set_option linter.unusedVariables false
set_option linter.unusedSimpArgs false
/-! ### A call that keeps nothing -/
theorem Good.bare {G : Globs} {c : Ctx} {w : World} (hg : Good G c w) (hG : ∀ g x, G g = some x → plainB x = true) : Good G (c.bare w) w := by
  refine ⟨fun a v h => h, fun a v h => hg.holds _ _ (hg.MB _ _ h), fun k ⟨b, i, h, _⟩ => by simp [Ctx.bare] at h, hg.sent, fun g a h ⟨b, i, h', _⟩ => by simp [Ctx.bare] at h', hg.sentApart, fun g x h => ?_, fun k ⟨b, i, h, _⟩ => by simp [Ctx.bare] at h⟩
  obtain ⟨v, h1, h2⟩ := hg.glob g x h
  exact ⟨v, h1, Rel.plain (c := c) (c' := c.bare w) (fun _ _ h => h) (fun a v h => hg.holds a v h) rfl h2 (hG g x h)⟩
/-- The caller's places behind a call that keeps nothing. -/
def Ctx.after (c c1 : Ctx) : Ctx := { m := c.m, M := c1.M, B := fun a => match c1.M a with | some v => some v | none => c.B a, S := c.S }
theorem after_step {G : Globs} {c c1 : Ctx} {w w1 : World} (hg : Good G c w) (hs : Step (c.bare w) w c1 w1) (hg1 : Good G c1 w1) : Step c w (c.after c1) w1 ∧ Good G (c.after c1) w1 := by
  have old : ∀ k, k < w.heap.size → w1.heap[k]? = w.heap[k]? := fun k hk => hs.kept k hk (fun ⟨b, i, h, _⟩ => by simp [Ctx.bare] at h)
  have cell : ∀ a v, w.cell? a = some v → w1.cell? a = some v := fun a v h => by
    rw [World.cell?_of_block (w := w) (old _ (block_lt_of_cell h))]; exact h
  have hB : ∀ a v, c.B a = some v → (c.after c1).B a = some v := by
    intro a v h
    simp only [Ctx.after]
    split
    · rename_i u hu
      have h1 := hg1.holds _ _ (hg1.MB _ _ hu)
      have h2 := cell a v (hg.holds _ _ h)
      rw [h1] at h2; exact h2
    · exact h
  have newM : ∀ a v, c1.M a = some v → c.M a = some v ∨ w.heap.size ≤ a.block := fun a v h => hs.newM a v h
  have hstep : Step c w (c.after c1) w1 := by
    refine ⟨⟨fun b i hb => ⟨i, hb, rfl, Nat.le_refl _, fun _ => rfl⟩, fun a v h => hs.le.M a v h, hB, rfl⟩, hs.os, hs.tape, hs.output, hs.size, fun k hk _ => old k hk, fun _ inf h hv _ => ⟨inf, h, hv, rfl⟩, newM, fun a v h => ?_⟩
    simp only [Ctx.after] at h
    split at h
    · rename_i u hu
      rcases newM a u hu with h1 | h1
      · obtain rfl := Option.some.inj h
        exact .inl (hg.MB _ _ h1)
      · exact .inr h1
    · exact .inl h
  refine ⟨hstep, hg.step hstep (fun a v h => ?_) (fun a v h => ?_) (fun k hk a ha => ?_) (fun k hk => ?_)⟩
  · simp only [Ctx.after] at h
    split at h
    · rename_i u hu
      obtain rfl := Option.some.inj h
      exact hg1.holds _ _ (hg1.MB _ _ hu)
    · exact cell a v (hg.holds a v h)
  · simp only [Ctx.after] at h ⊢
    rw [h]
  · have hk' : c.own k := hk
    have hlt := hg.bound k hk'
    have h1 := hg.away k hk' a ha
    simp only [Ctx.after]
    split
    · rename_i u hu
      rcases newM a u hu with h2 | h2
      · rw [hg.MB _ _ h2] at h1; cases h1
      · omega
    · exact h1
  · exact Nat.lt_of_lt_of_le (hg.bound k hk) hs.size
theorem Dom.nil {c : Ctx} (h : ∀ b, c.m b = none) : Dom c [] := fun b hb => absurd (h b) hb
/-- What an operation leaves. quiet: nothing that was there has turned. -/
structure Out (G : Globs) (c : Ctx) (H : AHeap) (w : World) (r : AV) (H' : AHeap) (v : Value) (w' : World) (c' : Ctx) : Prop where
  step : Step c w c' w'
  good : Good G c' w'
  heap : HeapAt c' H' w'
  rel : Rel c' r v
  dom : Dom c H → Dom c' H'
structure Quiet (c : Ctx) (H : AHeap) (w : World) (H' : AHeap) (w' : World) (c' : Ctx) : Prop where
  kept : ∀ k, k < w.heap.size → w'.heap[k]? = w.heap[k]?
  same : ∀ b, b ≠ H.length → c'.m b = c.m b
  ext : H' = H ∨ ∃ blk, H' = H ++ [blk]
  keepm : H' = H → c'.m H.length = c.m H.length
theorem Made.out {G : Globs} {c : Ctx} {H : AHeap} {w : World} {r : AV} {H' : AHeap} {v : Value} {w' : World} {c' : Ctx} (h : Made G c H w r H' v w' c') : Out G c H w r H' v w' c' ∧ Quiet c H w H' w' c' := by
  refine ⟨⟨h.step, h.good, h.heap, h.rel, fun hd b hb => ?_⟩, ⟨h.quiet, h.same, h.ext, h.keepm⟩⟩
  by_cases e : b = H.length
  · subst e
    rcases h.ext with rfl | ⟨blk, rfl⟩
    · rw [h.keepm rfl] at hb; exact hd _ hb
    · simp
  · rw [h.same b e] at hb
    have := hd b hb
    rcases h.ext with rfl | ⟨blk, rfl⟩
    · exact this
    · simp; omega
/-- A pure operation. -/
theorem out_pure {G : Globs} {c : Ctx} {H : AHeap} {w : World} (hg : Good G c w) (hH : HeapAt c H w) {r : AV} {v : Value} (hr : Rel c r v) : Out G c H w r H v w c ∧ Quiet c H w H w c :=
  ⟨⟨.refl c w, hg, hH, hr, fun hd => hd⟩, ⟨fun _ _ => rfl, fun _ _ => rfl, .inl rfl, fun _ => rfl⟩⟩
theorem pureCall_sound {P : Program} {G : Globs} {f : Nat} {g : Den} (hs : Sound P G f g) (hG : ∀ g x, G g = some x → plainB x = true) {args : List AV} {H H' : AHeap} {r : AV} (h : pureCall g args H = some (r, H'))
    {c : Ctx} {w : World} (hg : Good G c w) (hH : HeapAt c H w) {vs : List Value} (ha : RelL c args vs) :
    Calls P f vs.toArray w (fun e w' => ∃ v c', e = .returned v ∧ Out G c H w r H' v w' c' ∧ Quiet c H w H' w' c') := by
  unfold pureCall at h
  split at h
  case h_2 => cases h
  rename_i as has
  split at h
  case h_2 => cases h
  rename_i r' hcall
  split at h
  case isFalse => cases h
  rename_i hclean
  simp only [Option.some.injEq, Prod.mk.injEq] at h
  obtain ⟨rfl, rfl⟩ := h
  refine (hs.calls as [] r' [] hcall (c.bare w) w vs (hg.bare hG) ⟨by simp, by simp [Ctx.bare]⟩ (Dom.nil (fun _ => rfl)) (snapL_sound hg hH has ha)).mono fun e w' he => ?_
  obtain ⟨v, c1, rfl, hret⟩ := he
  obtain ⟨h1, h2⟩ := after_step hg hret.step hret.good
  have old : ∀ k, k < w.heap.size → w'.heap[k]? = w.heap[k]? := fun k hk => hret.step.kept k hk (fun ⟨b, i, h, _⟩ => by simp [Ctx.bare] at h)
  have hrel : Rel (c.after c1) r' v := Rel.clean (c := c1) (c' := c.after c1) (fun _ _ h => h) (hret.step.le.S.symm) hret.rel hclean
  exact ⟨v, c.after c1, rfl, ⟨h1, h2, hH.keep h1.le (fun _ _ h => h) (fun k hk => old k (hg.bound k hk)), hrel, fun hd => hd⟩, ⟨old, fun _ _ => rfl, .inl rfl, fun _ => rfl⟩⟩
/-! ### The operations -/
/-- What the printer tells of a function: slots whose literals, boxes are own blocks; slots of nil slices that may grow; kept slots of loops and joins. -/
structure Ann where
  own : Nat → Bool
  nil : Nat → Bool
  keep : Nat → List Nat
  join : Nat → Option (List Nat)
  virt : Nat → List (Nat × Nat × Nat × Nat)
  pt : Nat → Bool
def opd (T : Nat → AV) : Operand → AV
  | .tmp t => T t
  | .const v => ofVal v
  | .global g => .gl g
  | .func f => .fn f []
def pu (H : AHeap) (m : Option AV) : Option (AV × AHeap) :=
  match m with
  | some v => some (v, H)
  | none => none
def nilA (x : AV) : Option AV :=
  match x with
  | .ptr b L i o => some (.ptr b L i o)
  | .rp bor x o => some (.rp bor x o)
  | .gl g => some (.gl g)
  | .gp g => some (.gp g)
  | .fn f caps => some (.fn f caps)
  | _ => none
def isNilSl : Operand → Bool
  | .const (.slice none 0 0) => true
  | _ => false
/-- A nil slice that may grow. -/
def nilSl (P : Program) (t : Nat) (H : AHeap) : Option (AV × AHeap) :=
  match P.underlying t with
  | some (.slice e) => match tsz P e with
    | some s => if 0 < s then some (.sl H.length 0 0 0 s, H ++ [{ ty := e, sz := s, elems := [] }]) else none
    | none => none
  | _ => none
def nilDst (ann : Ann) : Option Tmp → Bool
  | some d => ann.nil d
  | none => false
def moveA (P : Program) (ann : Ann) (o : Oper) (x : Operand) (T : Nat → AV) (H : AHeap) : Option (AV × AHeap) :=
  match isNilSl x && nilDst ann o.dst with
  | true => nilSl P o.type H
  | false => some (opd T x, H)
def ownAt (ann : Ann) (o : Oper) : Bool := match o.dst with | some d => ann.own d | none => false
/-- The functions that are known: does it keep nothing of the heap?; what it gives. -/
abbrev Env := Nat → Option (Bool × Den)
/-- A call that may turn the heap: it only grows. -/
def heapCall (g : Den) (args : List AV) (H : AHeap) : Option (AV × AHeap) :=
  match g args H with
  | some (r, H') => if H.length ≤ H'.length then some (r, H') else none
  | none => none
def callE (E : Env) (f : Nat) (args : List AV) (H : AHeap) : Option (AV × AHeap) :=
  match E f with
  | some (true, g) => pureCall g args H
  | some (false, g) => heapCall g args H
  | none => none
def callV (E : Env) (f : AV) (args : List AV) (H : AHeap) : Option (AV × AHeap) :=
  match f with
  | .fn f caps => callE E f (args ++ caps) H
  | _ => none
/-- A call of a function that keeps nothing. -/
def callPV (E : Env) (f : AV) (args : List AV) (H : AHeap) : Option (AV × AHeap) :=
  match f with
  | .fn f caps => match E f with
    | some (p, g) => match p with
      | true => pureCall g (args ++ caps) H
      | false => none
    | none => none
  | _ => none
/-- Is a slot one that only holds functions that keep nothing? -/
def pureAt (ann : Ann) : Operand → Bool
  | .tmp t => ann.pt t
  | _ => false
def opR (P : Program) (G : Globs) (E : Env) (ann : Ann) (o : Oper) (T : Nat → AV) (H : AHeap) : Option (AV × AHeap) :=
  match o.op with
  | .move x => moveA P ann o x T H
  | .assign x => moveA P ann o x T H
  | .pick c a b => pu H (pickA (opd T c) (opd T a) (opd T b))
  | .alloc t => allocA P t H
  | .box t x => match ownAt ann o with
    | true => boxA t (opd T x) H
    | false => boxRoA (opd T x) H
  | .build t parts => pu H (buildA P t (parts.toList.map fun p => (p.1, opd T p.2)))
  | .buildSlice t len parts => buildSliceA P (ownAt ann o) t len (parts.toList.map fun p => (p.1, opd T p.2)) H
  | .load t a => pu H (loadA P G t (opd T a) H)
  | .store t a x => match storeA P t (opd T a) (opd T x) H with
    | some H' => some (.tup [], H')
    | none => none
  | .nilCheck x => pu H (nilA (opd T x))
  | .binOp op t x y _ => pu H (bin P op t (isCst x || isCst y) (opd T x) (opd T y))
  | .unOp op _ x => pu H (un op (opd T x))
  | .convert s d x => pu H (convA P s d (opd T x))
  | .makeInterface t x => pu H (ifaceA P t (opd T x))
  | .makeFunc fn first captured => match fn with
    | .func f => match first.toList with
      | [] => some (.fn f (captured.toList.map (opd T)), H)
      | _ => none
    | _ => none
  | .makeSlice t l c => makeSliceA P t (opd T l) (opd T c) H
  | .slice t x lo hi mx => match mx with
    | none => pu H (sliceA P t (opd T x) (lo.map (opd T)) (hi.map (opd T)))
    | some _ => none
  | .fieldAddr t x f => pu H (fieldAddrA P t (opd T x) f)
  | .field t x f => pu H (fieldA P t (opd T x) f)
  | .indexAddr t x i => pu H (indexAddrA P t (opd T x) (opd T i))
  | .index t x i => pu H (indexA P t (opd T x) (opd T i))
  | .typeAssert x _ t ok => pu H (assertA P (opd T x) t ok)
  | .extract x i => pu H (extractA (opd T x) i)
  | .call c => match c.callee with
    | .builtin .len => match c.argTypes.toList, c.args.toList with
      | [t], [x] => pu H (lenA P t (opd T x))
      | _, _ => none
    | .builtin .append => match c.args.toList with
      | [s, x] => appendA P c.argTypes (opd T s) (opd T x) H
      | _ => none
    | .builtin .copy => match c.args.toList with
      | [d, x] => copyA P c.argTypes (opd T d) (opd T x) H
      | _ => none
    | .builtin .min => match c.args.toList with
      | x :: l => pu H (foldA min2A (opd T x) (l.map (opd T)))
      | [] => none
    | .builtin .max => match c.args.toList with
      | x :: l => pu H (foldA max2A (opd T x) (l.map (opd T)))
      | [] => none
    | .value f => match pureAt ann f with
      | true => callPV E (opd T f) (c.args.toList.map (opd T)) H
      | false => callV E (opd T f) (c.args.toList.map (opd T)) H
    | _ => none
  | _ => none
/-- Does it touch memory? -/
def touches (ann : Ann) (o : Oper) : Bool :=
  match o.op with
  | .move x => isNilSl x && nilDst ann o.dst
  | .assign x => isNilSl x && nilDst ann o.dst
  | .load _ (.global _) => false
  | .load _ _ => true
  | .alloc _ => true
  | .box _ _ => true
  | .buildSlice .. => true
  | .makeSlice .. => true
  | .store .. => true
  | .call c => match c.callee with
    | .builtin .len => false
    | .builtin .min => false
    | .builtin .max => false
    | _ => true
  | _ => false
/-- May it turn what was there? -/
def writes (ann : Ann) (pf : Nat → Bool) (o : Oper) : Bool :=
  match o.op with
  | .store .. => true
  | .call c => match c.callee with
    | .builtin .append => true
    | .builtin .copy => true
    | .builtin _ => false
    | .value f => match f with
      | .func f => !pf f
      | f => !pureAt ann f
    | _ => true
  | _ => false
def pureIn (E : Env) (f : Nat) : Bool := match E f with | some (true, _) => true | _ => false
theorem callPV_callV {E : Env} {f : AV} {args : List AV} {H : AHeap} {r : AV × AHeap} (h : callPV E f args H = some r) : callV E f args H = some r ∧ ∃ fid caps, f = .fn fid caps ∧ pureIn E fid = true := by
  unfold callPV at h
  split at h
  case h_2 => cases h
  rename_i fid caps
  split at h
  case h_2 => cases h
  rename_i p g hf
  split at h
  · exact ⟨by simp only [callV, callE, hf]; exact h, fid, caps, rfl, by simp [pureIn, hf]⟩
  · cases h
structure EnvSound (P : Program) (G : Globs) (E : Env) : Prop where
  sound : ∀ f p g, E f = some (p, g) → Sound P G f g
  glob : ∀ g x, G g = some x → plainB x = true
theorem nilSl_sound {P : Program} {G : Globs} {t : Nat} {r : AV} {H H' : AHeap} (h : nilSl P t H = some (r, H')) {c : Ctx} {w : World} (hg : Good G c w) (hH : HeapAt c H w) (hn : c.m H.length = none) :
    ∃ c', Out G c H w r H' (.slice none 0 0) w c' ∧ Quiet c H w H' w c' := by
  unfold nilSl at h
  split at h
  case h_2 => cases h
  rename_i e hd
  split at h
  case h_2 => cases h
  rename_i s hs
  split at h
  case isFalse => cases h
  rename_i hs0
  simp only [Option.some.injEq, Prod.mk.injEq] at h
  obtain ⟨rfl, rfl⟩ := h
  let inf : Info := ⟨0, 0, e, s, 0, true⟩
  have hle := Ctx.push_le (inf := inf) hn
  have hown : ∀ k, (c.push H.length inf).own k → c.own k := fun k hk => by
    rcases Ctx.push_own hk with h | ⟨h, _⟩
    · exact h
    · simp [inf] at h
  have hstep : Step c w (c.push H.length inf) w := ⟨hle, rfl, rfl, rfl, Nat.le_refl _, fun _ _ _ => rfl, fun b i hb hv hlt => by
      by_cases e1 : b = H.length
      · simp [Ctx.push, e1] at hb; subst hb; simp [inf] at hv
      · simp [Ctx.push, e1] at hb; exact ⟨i, hb, hv, rfl⟩, fun _ _ h => .inl h, fun _ _ h => .inl h⟩
  refine ⟨c.push H.length inf, ⟨hstep, hg.step hstep hg.holds hg.MB (fun k hk a ha => hg.away k (hown k hk) a ha) (fun k hk => hg.bound k (hown k hk)), ⟨fun b blk i hb hm => ?_, fun b b' i i' h1 h2 v1 v2 he => ?_⟩,
    .slVirt (inf := inf) (by simp [Ctx.push]) rfl rfl rfl, fun hd b hb => ?_⟩, ⟨fun _ _ => rfl, fun b hb => by simp [Ctx.push, hb], .inr ⟨_, rfl⟩, fun e => by simp at e⟩⟩
  · by_cases e1 : b = H.length
    · subst e1
      simp [Ctx.push] at hm; subst hm
      simp at hb; subst hb
      exact ⟨rfl, rfl, hs0, rfl, by simp, fun _ => rfl, by simp [inf], by simp [inf], by simp [inf]⟩
    · simp [Ctx.push, e1] at hm
      have hlt : b < H.length := by have := (List.getElem?_eq_some_iff.1 hb).1; simp at this; omega
      rw [List.getElem?_append_left hlt] at hb
      exact (hH.blk b blk i hb hm).kept hle (fun _ => rfl)
  · by_cases e1 : b = H.length
    · simp [Ctx.push, e1] at h1; subst h1; simp [inf] at v1
    · by_cases e2 : b' = H.length
      · simp [Ctx.push, e2] at h2; subst h2; simp [inf] at v2
      · simp [Ctx.push, e1] at h1; simp [Ctx.push, e2] at h2
        exact hH.inj b b' i i' h1 h2 v1 v2 he
  · by_cases e1 : b = H.length
    · simp [e1]
    · simp [Ctx.push, e1] at hb
      have := hd b (by simpa using hb)
      simp; omega
end Go.Proofs.YtdfglgnflldkpaaDoor.Mir
namespace Go.Proofs.YtdfglgnflldkpaaDoor.Mir
open Go
set_option linter.unusedVariables false
set_option linter.unusedSimpArgs false
theorem wp_of_value {P : Program} {o : Oper} {a : Act} {w w' : World} {v : Value} {next : Act → World → Prop} {Q : Exit → Act → World → Prop}
    (h : (execOp a.eval o).run P w = .ok (.value v) w') (k : next (a.put o.dst v) w') : o.wp P a w next Q := by
  unfold Oper.wp; rw [h]; exact k
theorem wp_of_skip {P : Program} {o : Oper} {a : Act} {w w' : World} {next : Act → World → Prop} {Q : Exit → Act → World → Prop}
    (h : (execOp a.eval o).run P w = .ok .skip w') (k : next (a.put o.dst undef) w') : o.wp P a w next Q := by
  unfold Oper.wp; rw [h]; exact k
theorem wp_of_enter {P : Program} {o : Oper} {a : Act} {w : World} {f : Nat} {args : Array Value} {next : Act → World → Prop} {Q : Exit → Act → World → Prop}
    (h : (execOp a.eval o).run P w = .ok (.enter f args) w) {R : Value → World → Prop} (hc : Calls P f args w (fun e w' => ∃ v, e = .returned v ∧ R v w')) (k : ∀ v w', R v w' → next (a.put o.dst v) w') : o.wp P a w next Q := by
  unfold Oper.wp; rw [h, Oper.upon_enter]
  refine hc.mono fun e w' ⟨v, he, hr⟩ => ?_
  subst he
  exact k v w' hr
theorem pu_some {H H' : AHeap} {m : Option AV} {r : AV} (h : pu H m = some (r, H')) : m = some r ∧ H' = H := by
  unfold pu at h
  split at h
  · simp only [Option.some.injEq, Prod.mk.injEq] at h; obtain ⟨rfl, rfl⟩ := h; exact ⟨rfl, rfl⟩
  · cases h
theorem run_v {P : Program} {s : Sem Value} {u : Value} {w w' : World} (h : s.run P w = .ok u w') : ((do pure (Next.value (← s))) : Sem Next).run P w = .ok (.value u) w' := by
  simp [h]
/-- Parts as they are, parts as the model has them. -/
theorem parts_rel {c : Ctx} {T : Nat → AV} {ρ : Operand → Value} (parts : Array (Nat × Operand)) (h : ∀ p ∈ parts, Rel c (opd T p.2) (ρ p.2)) :
    PartsRel c (parts.toList.map fun p => (p.1, opd T p.2)) (parts.map fun (i, x) => (i, ρ x)).toList := by
  refine ⟨by simp, fun k i x j v h1 h2 => ?_⟩
  simp only [List.getElem?_map, Array.toList_map, Option.map_eq_some_iff] at h1 h2
  obtain ⟨p, hp, e1⟩ := h1
  obtain ⟨q, hq, e2⟩ := h2
  rw [hp] at hq
  obtain rfl := Option.some.inj hq
  simp only [Prod.mk.injEq] at e1 e2
  obtain ⟨rfl, rfl⟩ := e1
  obtain ⟨rfl, rfl⟩ := e2
  exact ⟨rfl, h p (by simpa using List.mem_of_getElem? hp)⟩
theorem relL_map {c : Ctx} {T : Nat → AV} {ρ : Operand → Value} (l : List Operand) (h : ∀ x ∈ l, Rel c (opd T x) (ρ x)) : RelL c (l.map (opd T)) (l.map ρ) := by
  induction l with
  | nil => exact .nil
  | cons x l ih => exact .cons (h x (by simp)) (ih (fun y hy => h y (by simp [hy])))
theorem run_callFunc {P : Program} {f : Nat} {w : World} (h : ∃ fn, P.funcs[f]? = some fn ∧ fn.body.isSome = true ∧ (fn.name == "runtime.NumGoroutine") = false) (args : Array Value) :
    (callFunc f args).run P w = .ok (.enter f args) w := by
  obtain ⟨fn, h1, h2, h3⟩ := h
  have h4 : fn.body.isNone = false := by cases hb : fn.body <;> simp_all
  simp only [callFunc, Sem.run_bind, run_program, Result.andThen_ok, h1, h3, h4, Bool.false_eq_true, if_false, Sem.run_pure]
theorem callE_sound {P : Program} {G : Globs} {E : Env} (hE : EnvSound P G E) {f : Nat} {args : List AV} {H H' : AHeap} {r : AV} (h : callE E f args H = some (r, H')) {c : Ctx} {w : World} (hg : Good G c w) (hH : HeapAt c H w)
    (hd : pureIn E f = false → Dom c H) {vs : List Value} (ha : RelL c args vs) :
    (∃ fn, P.funcs[f]? = some fn ∧ fn.body.isSome = true ∧ (fn.name == "runtime.NumGoroutine") = false) ∧
    Calls P f vs.toArray w (fun e w' => ∃ v, e = .returned v ∧ ∃ c', Out G c H w r H' v w' c' ∧ (pureIn E f = true → Quiet c H w H' w' c')) := by
  unfold callE at h
  split at h
  · rename_i g hf
    have hs := hE.sound f true g hf
    refine ⟨hs.here, (pureCall_sound hs hE.glob h hg hH ha).mono fun e w' ⟨v, c', h1, h2, h3⟩ => ⟨v, h1, c', h2, fun _ => h3⟩⟩
  · rename_i g hf
    have hs := hE.sound f false g hf
    have hp : pureIn E f = false := by simp [pureIn, hf]
    unfold heapCall at h
    split at h
    case h_2 => cases h
    rename_i r1 H1 h1
    split at h
    case isFalse => cases h
    simp only [Option.some.injEq, Prod.mk.injEq] at h
    obtain ⟨rfl, rfl⟩ := h
    refine ⟨hs.here, (hs.calls args H _ _ h1 c w vs hg hH (hd hp) ha).mono fun e w' ⟨v, c', h1, h2⟩ => ⟨v, h1, c', ⟨h2.step, h2.good, h2.heap, h2.rel, fun _ => h2.dom⟩, fun hq => by rw [hp] at hq; cases hq⟩⟩
  · cases h
theorem storeA_length {P : Program} {t : Nat} {x y : AV} {H H' : AHeap} (h : storeA P t x y H = some H') : H'.length = H.length := by
  unfold storeA storeV at h
  (repeat' split at h) <;> first | (cases h; done) | (simp only [Option.some.injEq] at h; subst h; simp)
theorem appendV_length {e sz : Nat} {s x r : AV} {H H' : AHeap} (h : appendV e sz s x H = some (r, H')) : H'.length = H.length := by
  unfold appendV at h
  (repeat' split at h) <;> first | (cases h; done) | (simp only [Option.some.injEq, Prod.mk.injEq] at h; obtain ⟨_, rfl⟩ := h; simp)
theorem appendA_length {P : Program} {ts : Array Nat} {s x r : AV} {H H' : AHeap} (h : appendA P ts s x H = some (r, H')) : H'.length = H.length := by
  unfold appendA at h
  (repeat' split at h) <;> first | (cases h; done) | exact appendV_length h
theorem boxA_length {t : Nat} {v r : AV} {H H' : AHeap} (h : boxA t v H = some (r, H')) : H'.length ≠ H.length := by
  unfold boxA at h
  split at h
  · simp only [Option.some.injEq, Prod.mk.injEq] at h; obtain ⟨_, rfl⟩ := h; simp
  · cases h
theorem makeSliceA_length {P : Program} {t : Nat} {l c r : AV} {H H' : AHeap} (h : makeSliceA P t l c H = some (r, H')) : H'.length ≠ H.length := by
  unfold makeSliceA makeSliceV at h
  (repeat' split at h) <;> first | (cases h; done) | (simp only [Option.some.injEq, Prod.mk.injEq] at h; obtain ⟨_, rfl⟩ := h; simp)
theorem nilA_sound {x r : AV} (h : nilA x = some r) {c : Ctx} {v : Value} (hx : Rel c x v) : r = x ∧ ((∃ a, v = .pointer (some a)) ∨ ∃ f cs, v = .func (.func f) #[] cs) := by
  unfold nilA at h
  split at h <;> (try cases h) <;> refine ⟨rfl, ?_⟩ <;> cases hx <;> first | exact .inl ⟨_, rfl⟩ | exact .inr ⟨_, _, rfl⟩
theorem opR_sound {P : Program} {G : Globs} {E : Env} {ann : Ann} {o : Oper} {T : Nat → AV} {H H' : AHeap} {r : AV} (hE : EnvSound P G E) (h : opR P G E ann o T H = some (r, H'))
    {c : Ctx} {w : World} {a : Act} (hg : Good G c w) (hH : HeapAt c H w) (hn : H'.length ≠ H.length → c.m H.length = none) (hT : ∀ x ∈ o.op.operands, Rel c (opd T x) (a.eval x)) (hd : writes ann (pureIn E) o = true → Dom c H)
    {next : Act → World → Prop} {Q : Exit → Act → World → Prop}
    (K : ∀ v w' c', Out G c H w r H' v w' c' → (writes ann (pureIn E) o = false → Quiet c H w H' w' c') → next (a.put o.dst v) w') : o.wp P a w next Q := by
  obtain ⟨dst, op, type, pos, after, guard⟩ := o
  have pureK : ∀ v, H' = H → Rel c r v → next (a.put dst v) w := fun v e hr => by
    subst e
    exact K v w c (out_pure hg hH hr).1 (fun _ => (out_pure hg hH hr).2)
  have madeK : ∀ v w' c', Made G c H w r H' v w' c' → next (a.put dst v) w' := fun v w' c' hm =>
    K v w' c' hm.out.1 (fun _ => hm.out.2)
  have moveK : ∀ x, (op = .move x ∨ op = .assign x) → moveA P ann ⟨dst, op, type, pos, after, guard⟩ x T H = some (r, H') → (Oper.mk dst op type pos after guard).wp P a w next Q := by
    intro x hx hm
    have hxT : Rel c (opd T x) (a.eval x) := hT x (by rcases hx with rfl | rfl <;> simp [Op.operands])
    have run : ∀ v, a.eval x = v → (execOp a.eval (Oper.mk dst op type pos after guard)).run P w = .ok (.value v) w := fun v e => by
      subst e; rcases hx with rfl | rfl <;> rfl
    unfold moveA at hm
    split at hm
    · rename_i hc
      simp only [Bool.and_eq_true] at hc
      have hx0 : a.eval x = .slice none 0 0 := by
        unfold isNilSl at hc
        split at hc
        · rfl
        · simp at hc
      obtain ⟨c', h1, h2⟩ := nilSl_sound hm hg hH (hn (by unfold nilSl at hm; (repeat' split at hm) <;> first | (cases hm; done) | (simp only [Option.some.injEq, Prod.mk.injEq] at hm; obtain ⟨_, rfl⟩ := hm; simp)))
      exact wp_of_value (run _ hx0) (K _ w c' h1 (fun _ => h2))
    · simp only [Option.some.injEq, Prod.mk.injEq] at hm
      obtain ⟨rfl, rfl⟩ := hm
      exact wp_of_value (run _ rfl) (pureK _ rfl hxT)
  cases op <;> simp only [opR] at h <;> try (cases h; done)
  case move x => exact moveK x (.inl rfl) h
  case assign x => exact moveK x (.inr rfl) h
  case pick cc x y =>
    obtain ⟨h1, rfl⟩ := pu_some h
    have r1 := hT cc (by simp [Op.operands]); have r2 := hT x (by simp [Op.operands]); have r3 := hT y (by simp [Op.operands])
    unfold pickA at h1
    split at h1
    case h_2 => cases h1
    rename_i b hb
    rw [hb] at r1
    have e1 := r1.of_bool
    simp at h1; subst h1
    refine wp_of_value (v := if b then a.eval x else a.eval y) ?_ (pureK _ rfl ?_)
    · simp [execOp, e1, asBool]
    · cases b <;> simpa
  case alloc t =>
    obtain ⟨u, w', c', h1, h2⟩ := alloc_sound (P := P) h hg hH (hn (by unfold allocA at h; split at h; exact boxA_length h; cases h))
    exact wp_of_value (run_v h1) (madeK _ _ _ h2)
  case box t x =>
    have r1 := hT x (by simp [Op.operands])
    split at h
    · obtain ⟨u, w', c', h1, h2⟩ := box_sound (P := P) h hg hH (hn (boxA_length h)) r1
      exact wp_of_value (run_v h1) (madeK _ _ _ h2)
    · obtain ⟨u, w', c', h1, h2⟩ := boxRoA_sound (P := P) (t := t) h hg hH r1
      exact wp_of_value (run_v h1) (madeK _ _ _ h2)
  case build t parts =>
    obtain ⟨h1, rfl⟩ := pu_some h
    have hp := parts_rel (c := c) (T := T) (ρ := a.eval) parts (fun p hp => hT p.2 (by simpa [Op.operands] using ⟨p.1, by simpa using hp⟩))
    obtain ⟨v, e1, e2⟩ := buildA_sound h1 (w := w) hp
    exact wp_of_value (run_v e1) (pureK _ rfl e2)
  case buildSlice t len parts =>
    have hp := parts_rel (c := c) (T := T) (ρ := a.eval) parts (fun p hp => hT p.2 (by simpa [Op.operands] using ⟨p.1, by simpa using hp⟩))
    obtain ⟨v, w', c', e1, e2⟩ := buildSliceA_sound h hg hH hn hp
    exact wp_of_value (run_v e1) (madeK _ _ _ e2)
  case load t x =>
    obtain ⟨h1, rfl⟩ := pu_some h
    obtain ⟨v, e1, e2⟩ := loadA_sound h1 hg hH (hT x (by simp [Op.operands]))
    exact wp_of_value (run_v e1) (pureK _ rfl e2)
  case store t x y =>
    split at h
    case h_2 => cases h
    rename_i H1 h1
    simp only [Option.some.injEq, Prod.mk.injEq] at h
    obtain ⟨rfl, rfl⟩ := h
    obtain ⟨w', e1, e2, e3, e4⟩ := storeA_sound h1 hg hH (hT x (by simp [Op.operands])) (hT y (by simp [Op.operands]))
    refine wp_of_skip (w' := w') (by simp [execOp, e1]) (K _ w' c ⟨e2, e3, e4, .tup (vs := []) rfl (by simp), fun hdm b hb => ?_⟩ (fun hw => by simp [writes] at hw))
    have := hdm b hb
    rw [storeA_length h1]
    exact this
  case nilCheck x =>
    obtain ⟨h1, rfl⟩ := pu_some h
    have r1 := hT x (by simp [Op.operands])
    obtain ⟨rfl, hv⟩ := nilA_sound h1 r1
    refine wp_of_value (v := a.eval x) ?_ (pureK _ rfl r1)
    rcases hv with ⟨ad, hv⟩ | ⟨f, cs, hv⟩ <;> simp [execOp, hv]
  case binOp bop t x y yt =>
    obtain ⟨h1, rfl⟩ := pu_some h
    obtain ⟨v, e1, e2⟩ := bin_sound h1 hg (hT x (by simp [Op.operands])) (hT y (by simp [Op.operands])) x y (fun h => h)
    exact wp_of_value (run_v e1) (pureK _ rfl e2)
  case unOp uop t x =>
    obtain ⟨h1, rfl⟩ := pu_some h
    obtain ⟨v, e1, e2⟩ := un_sound (P := P) (w := w) h1 (hT x (by simp [Op.operands]))
    exact wp_of_value (run_v e1) (pureK _ rfl e2)
  case convert sT dT x =>
    obtain ⟨h1, rfl⟩ := pu_some h
    obtain ⟨v, e1, e2⟩ := convA_sound (w := w) h1 (hT x (by simp [Op.operands]))
    exact wp_of_value (run_v e1) (pureK _ rfl e2)
  case makeInterface t x =>
    obtain ⟨h1, rfl⟩ := pu_some h
    obtain ⟨v, e1, e2⟩ := ifaceA_sound (w := w) h1 (hT x (by simp [Op.operands]))
    exact wp_of_value (run_v e1) (pureK _ rfl e2)
  case makeFunc fn first captured =>
    split at h
    case h_2 => cases h
    rename_i f
    split at h
    case h_2 => cases h
    rename_i hfi
    simp only [Option.some.injEq, Prod.mk.injEq] at h
    obtain ⟨rfl, rfl⟩ := h
    have hf0 : first = #[] := by apply Array.ext'; simpa using hfi
    subst hf0
    have hr := relL_map (c := c) (T := T) (ρ := a.eval) captured.toList (fun x hx => hT x (by simp [Op.operands]; simpa using hx))
    refine wp_of_value (v := .func (.func f) #[] (captured.toList.map a.eval).toArray) ?_ (pureK _ rfl (.fn hr.1 hr.2))
    simp only [execOp, Instr.makeFunc]
    have : captured.map a.eval = (captured.toList.map a.eval).toArray := by apply Array.ext'; simp
    rw [this]
    simp
  case makeSlice t x y =>
    obtain ⟨v, w', c', e1, e2⟩ := makeSliceA_sound h hg hH (hn (makeSliceA_length h)) (hT x (by simp [Op.operands])) (hT y (by simp [Op.operands]))
    exact wp_of_value (run_v e1) (madeK _ _ _ e2)
  case slice t x lo hi mx =>
    cases mx with
    | some m => cases h
    | none =>
      obtain ⟨h1, rfl⟩ := pu_some h
      obtain ⟨v, e1, e2⟩ := sliceA_sound (w := w) (vlo := lo.map a.eval) (vhi := hi.map a.eval) h1 (hT x (by simp [Op.operands]))
        (fun y hy => by
          obtain ⟨l, rfl, rfl⟩ := Option.map_eq_some_iff.1 hy
          exact ⟨_, rfl, hT l (by simp [Op.operands])⟩) (fun hy => by simpa using hy)
        (fun y hy => by
          obtain ⟨l, rfl, rfl⟩ := Option.map_eq_some_iff.1 hy
          exact ⟨_, rfl, hT l (by simp [Op.operands])⟩) (fun hy => by simpa using hy)
      exact wp_of_value (run_v e1) (pureK _ rfl e2)
  case fieldAddr t x f =>
    obtain ⟨h1, rfl⟩ := pu_some h
    obtain ⟨v, e1, e2⟩ := fieldAddrA_sound (w := w) h1 (hT x (by simp [Op.operands]))
    exact wp_of_value (run_v e1) (pureK _ rfl e2)
  case field t x f =>
    obtain ⟨h1, rfl⟩ := pu_some h
    obtain ⟨v, e1, e2⟩ := fieldA_sound (w := w) h1 (hT x (by simp [Op.operands]))
    exact wp_of_value (run_v e1) (pureK _ rfl e2)
  case indexAddr t x i =>
    obtain ⟨h1, rfl⟩ := pu_some h
    obtain ⟨v, e1, e2⟩ := indexAddrA_sound (w := w) h1 (hT x (by simp [Op.operands])) (hT i (by simp [Op.operands]))
    exact wp_of_value (run_v e1) (pureK _ rfl e2)
  case index t x i =>
    obtain ⟨h1, rfl⟩ := pu_some h
    obtain ⟨v, e1, e2⟩ := indexA_sound (w := w) h1 (hT x (by simp [Op.operands])) (hT i (by simp [Op.operands]))
    exact wp_of_value (run_v e1) (pureK _ rfl e2)
  case typeAssert x xt t ok =>
    obtain ⟨h1, rfl⟩ := pu_some h
    obtain ⟨v, e1, e2⟩ := assertA_sound (w := w) (xt := xt) h1 (hT x (by simp [Op.operands]))
    exact wp_of_value (run_v e1) (pureK _ rfl e2)
  case extract x i =>
    obtain ⟨h1, rfl⟩ := pu_some h
    obtain ⟨v, e1, e2⟩ := extractA_sound (P := P) (w := w) h1 (hT x (by simp [Op.operands]))
    exact wp_of_value (run_v e1) (pureK _ rfl e2)
  case call cl =>
    obtain ⟨callee, args, ats⟩ := cl
    have harg : ∀ x ∈ args.toList, Rel c (opd T x) (a.eval x) := fun x hx => hT x (by simp [Op.operands, Call.operands]; right; simpa using hx)
    have hbi : ∀ (b : Builtin) (s : Sem Value) (v : Value) (w' : World), callee = .builtin b → (∀ cs, builtin b ats type cs (args.map a.eval) = (do pure (.value (← s)))) → s.run P w = .ok v w' →
        (execOp a.eval (Oper.mk dst (.call ⟨callee, args, ats⟩) type pos after guard)).run P w = .ok (.value v) w' := by
      intro b s v w' hb hs hr
      subst hb
      simp [execOp, resolve, invoke, hs, hr]
    simp only at h
    split at h
    · -- len
      split at h
      case h_2 => cases h
      rename_i t x ht hx
      obtain ⟨h1, rfl⟩ := pu_some h
      have ht' : ats = #[t] := by apply Array.ext'; simpa using ht
      have hx' : args = #[x] := by apply Array.ext'; simpa using hx
      subst ht' hx'
      obtain ⟨v, e1, e2⟩ := lenA_sound (w := w) (ty := type) h1 (harg x (by simp))
      exact wp_of_value (hbi .len _ v w rfl (fun _ => rfl) (by simpa using e1)) (pureK _ rfl e2)
    · -- append
      split at h
      case h_2 => cases h
      rename_i s x hx
      have hx' : args = #[s, x] := by apply Array.ext'; simpa using hx
      subst hx'
      obtain ⟨v, w', c', e1, e2⟩ := appendA_sound (ty := type) h hg hH (harg s (by simp)) (harg x (by simp))
      refine wp_of_value (hbi .append _ v w' rfl (fun _ => rfl) (by simpa using e1)) (K v w' c' ⟨e2.step, e2.good, e2.heap, e2.rel, fun hdm b hb => ?_⟩ (fun hw => by simp [writes] at hw))
      rw [appendA_length h]
      exact hdm b (e2.dom b hb)
    · -- copy
      split at h
      case h_2 => cases h
      rename_i s x hx
      have hx' : args = #[s, x] := by apply Array.ext'; simpa using hx
      subst hx'
      obtain ⟨v, w', e1, e2⟩ := copyA_sound (ty := type) h hg hH (harg s (by simp)) (harg x (by simp))
      refine wp_of_value (hbi .copy _ v w' rfl (fun _ => rfl) (by simpa using e1)) (K v w' c ⟨e2.step, e2.good, e2.heap, e2.rel, fun hdm b hb => ?_⟩ (fun hw => by simp [writes] at hw))
      rw [copyA_length h]
      exact hdm b hb
    · -- min
      split at h
      case h_2 => cases h
      rename_i x l hx
      obtain ⟨h1, rfl⟩ := pu_some h
      have hrel := relL_map (c := c) (T := T) (ρ := a.eval) l (fun y hy => harg y (by rw [hx]; simp [hy]))
      obtain ⟨v, e1, e2⟩ := foldA_sound (P := P) (g := Builtin.min2) (w := w) (fun x y r vx vy hf h1 h2 => min2A_sound hf h1 h2) _ _ _ _ _ h1 (harg x (by rw [hx]; simp)) hrel
      refine wp_of_value (hbi .min _ v w rfl (fun _ => rfl) ?_) (pureK _ rfl e2)
      simpa [Builtin.min_, hx] using e1
    · -- max
      split at h
      case h_2 => cases h
      rename_i x l hx
      obtain ⟨h1, rfl⟩ := pu_some h
      have hrel := relL_map (c := c) (T := T) (ρ := a.eval) l (fun y hy => harg y (by rw [hx]; simp [hy]))
      obtain ⟨v, e1, e2⟩ := foldA_sound (P := P) (g := Builtin.max2) (w := w) (fun x y r vx vy hf h1 h2 => max2A_sound hf h1 h2) _ _ _ _ _ h1 (harg x (by rw [hx]; simp)) hrel
      refine wp_of_value (hbi .max _ v w rfl (fun _ => rfl) ?_) (pureK _ rfl e2)
      simpa [Builtin.max_, hx] using e1
    · -- a function
      rename_i f
      have hf := hT f (by simp [Op.operands, Call.operands])
      obtain ⟨h, hpf⟩ : callV E (opd T f) (args.toList.map (opd T)) H = some (r, H') ∧ (pureAt ann f = true → ∃ fid caps, opd T f = .fn fid caps ∧ pureIn E fid = true) := by
        split at h
        · obtain ⟨a, b⟩ := callPV_callV h
          exact ⟨a, fun _ => b⟩
        · rename_i hp
          exact ⟨h, fun q => by rw [q] at hp; cases hp⟩
      unfold callV at h
      split at h
      case h_2 => cases h
      rename_i fid caps hfc
      rw [hfc] at hf
      obtain ⟨vs, hv, hr⟩ := hf.of_fn
      have hrel := relL_map (c := c) (T := T) (ρ := a.eval) args.toList harg
      have hall : RelL c (args.toList.map (opd T) ++ caps) (args.toList.map a.eval ++ vs) := by
        refine ⟨by simp [hr.1], fun i x v h1 h2 => ?_⟩
        by_cases hi : i < args.toList.length
        · rw [List.getElem?_append_left (by simpa using hi)] at h1 h2
          exact hrel.2 _ _ _ h1 h2
        · rw [List.getElem?_append_right (by simp at hi ⊢; omega)] at h1 h2
          simp only [List.length_map] at h1 h2
          exact hr.2 _ _ _ h1 h2
      have hdm : pureIn E fid = false → Dom c H := by
        intro hp
        refine hd ?_
        simp only [writes]
        cases f with
        | func g =>
          simp [opd] at hfc
          obtain ⟨rfl, rfl⟩ := hfc
          simp [hp]
        | tmp t =>
          cases hq : pureAt ann (.tmp t) with
          | false => simp [hq]
          | true =>
            obtain ⟨_, _, e, e2⟩ := hpf hq
            rw [hfc] at e
            cases e
            rw [hp] at e2; cases e2
        | const _ => rfl
        | global _ => rfl
      obtain ⟨hhere, hcall⟩ := callE_sound hE h hg hH hdm hall
      refine wp_of_enter (f := fid) (args := (args.toList.map a.eval ++ vs).toArray) ?_ hcall ?_
      · simp [execOp, resolve, hv, Deferred.ofValue, invoke]
        have := run_callFunc (w := w) hhere (args.map a.eval ++ vs.toArray)
        rw [this]
        congr 2
        apply Array.ext'
        simp
      · intro v w' ⟨c', h1, h2⟩
        refine K v w' c' h1 (fun hw => h2 ?_)
        simp only [writes] at hw
        cases f with
        | func g =>
          simp [opd] at hfc
          obtain ⟨rfl, rfl⟩ := hfc
          simpa using hw
        | tmp t =>
          obtain ⟨_, _, e, e2⟩ := hpf (by simpa using hw)
          rw [hfc] at e
          cases e
          exact e2
        | const _ => simp [pureAt] at hw
        | global _ => simp [pureAt] at hw
    · cases h
end Go.Proofs.YtdfglgnflldkpaaDoor.Mir
namespace Go.Proofs.YtdfglgnflldkpaaDoor.Mir
open Go
set_option linter.unusedVariables false
set_option linter.unusedSimpArgs false
/-- An operation that touches no memory gives the same over every heap. -/
theorem opR_pure {P : Program} {G : Globs} {E : Env} {ann : Ann} {o : Oper} {T : Nat → AV} {H H' : AHeap} {r : AV} (ht : touches ann o = false) (h : opR P G E ann o T H = some (r, H')) :
    H' = H ∧ ∀ (c : Ctx) (w : World) (a : Act), Good G c w → (∀ x ∈ o.op.operands, Rel c (opd T x) (a.eval x)) → ∃ v, (execOp a.eval o).run P w = .ok (.value v) w ∧ Rel c r v := by
  obtain ⟨dst, op, type, pos, after, guard⟩ := o
  have moveK : ∀ x, (op = .move x ∨ op = .assign x) → touches ann ⟨dst, op, type, pos, after, guard⟩ = (isNilSl x && nilDst ann dst) → moveA P ann ⟨dst, op, type, pos, after, guard⟩ x T H = some (r, H') →
      H' = H ∧ ∀ (c : Ctx) (w : World) (a : Act), Good G c w → (∀ x ∈ op.operands, Rel c (opd T x) (a.eval x)) → ∃ v, (execOp a.eval (Oper.mk dst op type pos after guard)).run P w = .ok (.value v) w ∧ Rel c r v := by
    intro x hx he hm
    rw [ht] at he
    unfold moveA at hm
    simp only [← he] at hm
    simp only [Option.some.injEq, Prod.mk.injEq] at hm
    obtain ⟨rfl, rfl⟩ := hm
    refine ⟨rfl, fun c w a hg hT => ⟨a.eval x, ?_, hT x (by rcases hx with rfl | rfl <;> simp [Op.operands])⟩⟩
    rcases hx with rfl | rfl <;> rfl
  cases op <;> simp only [opR] at h <;> try (cases h; done)
  case move x => exact moveK x (.inl rfl) rfl h
  case assign x => exact moveK x (.inr rfl) rfl h
  case pick cc x y =>
    obtain ⟨h1, rfl⟩ := pu_some h
    refine ⟨rfl, fun c w a hg hT => ?_⟩
    have r1 := hT cc (by simp [Op.operands]); have r2 := hT x (by simp [Op.operands]); have r3 := hT y (by simp [Op.operands])
    unfold pickA at h1
    split at h1
    case h_2 => cases h1
    rename_i b hb
    rw [hb] at r1
    have e1 := r1.of_bool
    simp at h1; subst h1
    refine ⟨if b then a.eval x else a.eval y, ?_, ?_⟩
    · simp [execOp, e1, asBool]
    · cases b <;> simpa
  case alloc t => cases ht
  case box t x => cases ht
  case build t parts =>
    obtain ⟨h1, rfl⟩ := pu_some h
    refine ⟨rfl, fun c w a hg hT => ?_⟩
    have hp := parts_rel (c := c) (T := T) (ρ := a.eval) parts (fun p hp => hT p.2 (by simpa [Op.operands] using ⟨p.1, by simpa using hp⟩))
    obtain ⟨v, e1, e2⟩ := buildA_sound h1 (w := w) hp
    exact ⟨v, run_v e1, e2⟩
  case buildSlice t len parts => cases ht
  case load t x =>
    cases x with
    | tmp _ => cases ht
    | const _ => cases ht
    | func _ => cases ht
    | global g =>
      obtain ⟨h1, rfl⟩ := pu_some h
      refine ⟨rfl, fun c w a hg hT => ?_⟩
      unfold loadA at h1
      split at h1
      case h_2 => cases h1
      rename_i gg s hag hsz
      simp only [opd, loadV] at h1
      split at h1
      · cases h1
      obtain ⟨v, e1, e2⟩ := hg.glob _ _ h1
      have := hg.holds _ _ (hg.MB _ _ e1)
      refine ⟨v, run_v ?_, e2⟩
      simp [Instr.loadAt, Act.eval, Instr.sureAddr, loadVar, aggOf_run hag, this]
  case store t x y => cases ht
  case nilCheck x =>
    obtain ⟨h1, rfl⟩ := pu_some h
    refine ⟨rfl, fun c w a hg hT => ?_⟩
    obtain ⟨rfl, hv⟩ := nilA_sound h1 (hT x (by simp [Op.operands]))
    refine ⟨a.eval x, ?_, hT x (by simp [Op.operands])⟩
    rcases hv with ⟨ad, hv⟩ | ⟨f, cs, hv⟩ <;> simp [execOp, hv]
  case binOp bop t x y yt =>
    obtain ⟨h1, rfl⟩ := pu_some h
    refine ⟨rfl, fun c w a hg hT => ?_⟩
    obtain ⟨v, e1, e2⟩ := bin_sound h1 hg (hT x (by simp [Op.operands])) (hT y (by simp [Op.operands])) x y (fun h => h)
    exact ⟨v, run_v e1, e2⟩
  case unOp uop t x =>
    obtain ⟨h1, rfl⟩ := pu_some h
    refine ⟨rfl, fun c w a hg hT => ?_⟩
    obtain ⟨v, e1, e2⟩ := un_sound (P := P) (w := w) h1 (hT x (by simp [Op.operands]))
    exact ⟨v, run_v e1, e2⟩
  case convert sT dT x =>
    obtain ⟨h1, rfl⟩ := pu_some h
    refine ⟨rfl, fun c w a hg hT => ?_⟩
    obtain ⟨v, e1, e2⟩ := convA_sound (w := w) h1 (hT x (by simp [Op.operands]))
    exact ⟨v, run_v e1, e2⟩
  case makeInterface t x =>
    obtain ⟨h1, rfl⟩ := pu_some h
    refine ⟨rfl, fun c w a hg hT => ?_⟩
    obtain ⟨v, e1, e2⟩ := ifaceA_sound (w := w) h1 (hT x (by simp [Op.operands]))
    exact ⟨v, run_v e1, e2⟩
  case makeFunc fn first captured =>
    cases fn <;> simp only at h <;> try (cases h; done)
    rename_i f
    split at h
    case h_2 => cases h
    rename_i hfi
    simp only [Option.some.injEq, Prod.mk.injEq] at h
    obtain ⟨rfl, rfl⟩ := h
    refine ⟨rfl, fun c w a hg hT => ?_⟩
    have hf0 : first = #[] := by apply Array.ext'; simpa using hfi
    subst hf0
    have hr := relL_map (c := c) (T := T) (ρ := a.eval) captured.toList (fun x hx => hT x (by simp [Op.operands]; simpa using hx))
    refine ⟨.func (.func f) #[] (captured.toList.map a.eval).toArray, ?_, .fn hr.1 hr.2⟩
    simp only [execOp, Instr.makeFunc]
    have : captured.map a.eval = (captured.toList.map a.eval).toArray := by apply Array.ext'; simp
    rw [this]
    simp
  case makeSlice t x y => cases ht
  case slice t x lo hi mx =>
    cases mx with
    | some m => cases h
    | none =>
      obtain ⟨h1, rfl⟩ := pu_some h
      refine ⟨rfl, fun c w a hg hT => ?_⟩
      obtain ⟨v, e1, e2⟩ := sliceA_sound (w := w) (vlo := lo.map a.eval) (vhi := hi.map a.eval) h1 (hT x (by simp [Op.operands]))
        (fun y hy => by
          obtain ⟨l, rfl, rfl⟩ := Option.map_eq_some_iff.1 hy
          exact ⟨_, rfl, hT l (by simp [Op.operands])⟩) (fun hy => by simpa using hy)
        (fun y hy => by
          obtain ⟨l, rfl, rfl⟩ := Option.map_eq_some_iff.1 hy
          exact ⟨_, rfl, hT l (by simp [Op.operands])⟩) (fun hy => by simpa using hy)
      exact ⟨v, run_v e1, e2⟩
  case fieldAddr t x f =>
    obtain ⟨h1, rfl⟩ := pu_some h
    refine ⟨rfl, fun c w a hg hT => ?_⟩
    obtain ⟨v, e1, e2⟩ := fieldAddrA_sound (w := w) h1 (hT x (by simp [Op.operands]))
    exact ⟨v, run_v e1, e2⟩
  case field t x f =>
    obtain ⟨h1, rfl⟩ := pu_some h
    refine ⟨rfl, fun c w a hg hT => ?_⟩
    obtain ⟨v, e1, e2⟩ := fieldA_sound (w := w) h1 (hT x (by simp [Op.operands]))
    exact ⟨v, run_v e1, e2⟩
  case indexAddr t x i =>
    obtain ⟨h1, rfl⟩ := pu_some h
    refine ⟨rfl, fun c w a hg hT => ?_⟩
    obtain ⟨v, e1, e2⟩ := indexAddrA_sound (w := w) h1 (hT x (by simp [Op.operands])) (hT i (by simp [Op.operands]))
    exact ⟨v, run_v e1, e2⟩
  case index t x i =>
    obtain ⟨h1, rfl⟩ := pu_some h
    refine ⟨rfl, fun c w a hg hT => ?_⟩
    obtain ⟨v, e1, e2⟩ := indexA_sound (w := w) h1 (hT x (by simp [Op.operands])) (hT i (by simp [Op.operands]))
    exact ⟨v, run_v e1, e2⟩
  case typeAssert x xt t ok =>
    obtain ⟨h1, rfl⟩ := pu_some h
    refine ⟨rfl, fun c w a hg hT => ?_⟩
    obtain ⟨v, e1, e2⟩ := assertA_sound (w := w) (xt := xt) h1 (hT x (by simp [Op.operands]))
    exact ⟨v, run_v e1, e2⟩
  case extract x i =>
    obtain ⟨h1, rfl⟩ := pu_some h
    refine ⟨rfl, fun c w a hg hT => ?_⟩
    obtain ⟨v, e1, e2⟩ := extractA_sound (P := P) (w := w) h1 (hT x (by simp [Op.operands]))
    exact ⟨v, run_v e1, e2⟩
  case call cl =>
    obtain ⟨callee, args, ats⟩ := cl
    have hbi : ∀ (a : Act) (w : World) (b : Builtin) (s : Sem Value) (v : Value) (w' : World), callee = .builtin b → (∀ cs, builtin b ats type cs (args.map a.eval) = (do pure (.value (← s)))) → s.run P w = .ok v w' →
        (execOp a.eval (Oper.mk dst (.call ⟨callee, args, ats⟩) type pos after guard)).run P w = .ok (.value v) w' := by
      intro a w b s v w' hb hs hr
      subst hb
      simp [execOp, resolve, invoke, hs, hr]
    cases callee with
    | value f => cases ht
    | invoke rv m => cases h
    | builtin b =>
    cases b <;> simp only at h <;> (first | (cases h; done) | (cases ht; done) | skip)
    case len =>
      split at h
      case h_2 => cases h
      rename_i t x ht' hx
      obtain ⟨h1, rfl⟩ := pu_some h
      refine ⟨rfl, fun c w a hg hT => ?_⟩
      have harg : ∀ x ∈ args.toList, Rel c (opd T x) (a.eval x) := fun x hx => hT x (by simp [Op.operands, Call.operands]; simpa using hx)
      have ht' : ats = #[t] := by apply Array.ext'; simpa using ht'
      have hx' : args = #[x] := by apply Array.ext'; simpa using hx
      subst ht' hx'
      obtain ⟨v, e1, e2⟩ := lenA_sound (w := w) (ty := type) h1 (harg x (by simp))
      exact ⟨v, hbi a w .len _ v w rfl (fun _ => rfl) (by simpa using e1), e2⟩
    case min =>
      split at h
      case h_2 => cases h
      rename_i x l hx
      obtain ⟨h1, rfl⟩ := pu_some h
      refine ⟨rfl, fun c w a hg hT => ?_⟩
      have harg : ∀ x ∈ args.toList, Rel c (opd T x) (a.eval x) := fun x hx => hT x (by simp [Op.operands, Call.operands]; simpa using hx)
      have hrel := relL_map (c := c) (T := T) (ρ := a.eval) l (fun y hy => harg y (by rw [hx]; simp [hy]))
      obtain ⟨v, e1, e2⟩ := foldA_sound (P := P) (g := Builtin.min2) (w := w) (fun x y r vx vy hf h1 h2 => min2A_sound hf h1 h2) _ _ _ _ _ h1 (harg x (by rw [hx]; simp)) hrel
      refine ⟨v, hbi a w .min _ v w rfl (fun _ => rfl) ?_, e2⟩
      simpa [Builtin.min_, hx] using e1
    case max =>
      split at h
      case h_2 => cases h
      rename_i x l hx
      obtain ⟨h1, rfl⟩ := pu_some h
      refine ⟨rfl, fun c w a hg hT => ?_⟩
      have harg : ∀ x ∈ args.toList, Rel c (opd T x) (a.eval x) := fun x hx => hT x (by simp [Op.operands, Call.operands]; simpa using hx)
      have hrel := relL_map (c := c) (T := T) (ρ := a.eval) l (fun y hy => harg y (by rw [hx]; simp [hy]))
      obtain ⟨v, e1, e2⟩ := foldA_sound (P := P) (g := Builtin.max2) (w := w) (fun x y r vx vy hf h1 h2 => max2A_sound hf h1 h2) _ _ _ _ _ h1 (harg x (by rw [hx]; simp)) hrel
      refine ⟨v, hbi a w .max _ v w rfl (fun _ => rfl) ?_, e2⟩
      simpa [Builtin.max_, hx] using e1
/-- Whatever an operation that writes nothing leaves: the heap is as it was, or has one block more. -/
theorem opR_ext {P : Program} {G : Globs} {E : Env} {ann : Ann} {o : Oper} {T : Nat → AV} {H H' : AHeap} {r : AV} (hw : writes ann (pureIn E) o = false) (h : opR P G E ann o T H = some (r, H')) :
    H' = H ∨ ∃ blk, H' = H ++ [blk] := by
  by_cases ht : touches ann o = false
  · exact .inl (opR_pure ht h).1
  obtain ⟨dst, op, type, pos, after, guard⟩ := o
  have moveK : ∀ (o : Oper) x, moveA P ann o x T H = some (r, H') → H' = H ∨ ∃ blk, H' = H ++ [blk] := by
    intro o x hm
    unfold moveA nilSl at hm
    (repeat' split at hm) <;> first | (cases hm; done) | (simp only [Option.some.injEq, Prod.mk.injEq] at hm; obtain ⟨_, rfl⟩ := hm; first | exact .inl rfl | exact .inr ⟨_, rfl⟩)
  cases op <;> simp only [opR] at h <;> try (cases h; done)
  case move x => exact moveK _ x h
  case assign x => exact moveK _ x h
  case alloc t =>
    unfold allocA boxA at h
    (repeat' split at h) <;> first | (cases h; done) | (simp only [Option.some.injEq, Prod.mk.injEq] at h; obtain ⟨_, rfl⟩ := h; exact .inr ⟨_, rfl⟩)
  case box t x =>
    unfold boxA boxRoA at h
    (repeat' split at h) <;> first | (cases h; done) | (simp only [Option.some.injEq, Prod.mk.injEq] at h; obtain ⟨_, rfl⟩ := h; first | exact .inl rfl | exact .inr ⟨_, rfl⟩)
  case buildSlice t len parts =>
    unfold buildSliceA buildOwn buildRo at h
    (repeat' split at h) <;> first | (cases h; done) | (simp only [Option.some.injEq, Prod.mk.injEq] at h; obtain ⟨_, rfl⟩ := h; first | exact .inl rfl | exact .inr ⟨_, rfl⟩)
  case makeSlice t x y =>
    unfold makeSliceA makeSliceV at h
    (repeat' split at h) <;> first | (cases h; done) | (simp only [Option.some.injEq, Prod.mk.injEq] at h; obtain ⟨_, rfl⟩ := h; exact .inr ⟨_, rfl⟩)
  case store t x y => cases hw
  case makeFunc fn first captured =>
    cases fn <;> simp only at h <;> try (cases h; done)
    split at h
    · simp only [Option.some.injEq, Prod.mk.injEq] at h; exact .inl h.2.symm
    · cases h
  case slice t x lo hi mx =>
    cases mx with
    | some m => cases h
    | none => exact .inl (pu_some h).2
  case call cl =>
    obtain ⟨callee, args, ats⟩ := cl
    cases callee with
    | invoke rv m => cases h
    | builtin b =>
      cases b <;> simp only at h <;> (first | (cases h; done) | (cases hw; done) | skip)
      all_goals
        split at h
        · exact .inl (pu_some h).2
        · cases h
    | value f =>
      simp only at h
      split at h
      · unfold callPV at h
        split at h
        case h_2 => cases h
        split at h
        case h_2 => cases h
        split at h
        · unfold pureCall at h
          (repeat' split at h) <;> first | (cases h; done) | (simp only [Option.some.injEq, Prod.mk.injEq] at h; exact .inl h.2.symm)
        · cases h
      rename_i hpa
      unfold callV at h
      split at h
      case h_2 => cases h
      rename_i fid caps hfc
      cases f with
      | tmp _ => simp [writes, hpa] at hw
      | const _ => cases hw
      | global _ => cases hw
      | func g =>
        simp [opd] at hfc
        obtain ⟨rfl, rfl⟩ := hfc
        simp only [writes] at hw
        unfold callE at h
        split at h
        · unfold pureCall at h
          (repeat' split at h) <;> first | (cases h; done) | (simp only [Option.some.injEq, Prod.mk.injEq] at h; exact .inl h.2.symm)
        · rename_i hf; simp [pureIn, hf] at hw
        · cases h
  all_goals exact .inl (pu_some h).2
end Go.Proofs.YtdfglgnflldkpaaDoor.Mir
namespace Go.Proofs.YtdfglgnflldkpaaDoor.Mir
open Go
set_option linter.unusedVariables false
set_option linter.unusedSimpArgs false
abbrev TS := Nat → AV
/-- An operation that a truth guards. -/
def gd (g : AV) (want : Bool) (H : AHeap) (m : Option (AV × AHeap)) : Option (AV × AHeap) :=
  match g with
  | .bool b => match b == want with
    | true => m
    | false => some (.tup [], H)
  | .tup [] => some (.tup [], H)
  | _ => none
def dstOf (ops : Array Oper) (j : Nat) : Option Tmp := (ops[j]?).bind (·.dst)
def stepOp (P : Program) (G : Globs) (E : Env) (ann : Ann) (ops : Array Oper) (o : Oper) (T : TS) (H : AHeap) : Option (AV × AHeap) :=
  match o.guard with
  | none => opR P G E ann o T H
  | some (j, want) => match dstOf ops j with
    | some d => gd (T d) want H (opR P G E ann o T H)
    | none => none
def bnd {γ : Type} (m : Option (AV × AHeap)) (k : AV → AHeap → Option γ) : Option γ :=
  match m with
  | some (v, H) => k v H
  | none => none
def putT (T : TS) (d : Option Tmp) (v : AV) : TS :=
  match d with
  | some d => fun t => if t = d then v else T t
  | none => T
def runOps {γ : Type} (P : Program) (G : Globs) (E : Env) (ann : Ann) (ops : Array Oper) : List Oper → (TS → AHeap → Option γ) → TS → AHeap → Option γ
  | [], K, T, H => K T H
  | o :: l, K, T, H => bnd (stepOp P G E ann ops o T H) fun v H' => runOps P G E ann ops l K (putT T o.dst v) H'
/-- Abstract and real: temporaries, heap, world. -/
structure St (G : Globs) (c0 : Ctx) (w0 : World) (N B : Nat) (T : TS) (H : AHeap) (c : Ctx) (a : Act) (w : World) : Prop where
  good : Good G c w
  heap : HeapAt c H w
  dom : Dom c H
  step : Step c0 w0 c w
  tmps : ∀ t, Rel c (T t) (a.tmps.getD t undef)
  size : a.tmps.size = N
  defers : a.defers = []
  low : B ≤ H.length
theorem rel_opd {c : Ctx} {T : TS} {a : Act} {x : Operand} (h : ∀ t, x = .tmp t → Rel c (T t) (a.tmps.getD t undef)) : Rel c (opd T x) (a.eval x) := by
  cases x with
  | tmp t => exact h t rfl
  | const v => exact rel_ofVal c v
  | global g => exact .gl g
  | func f => exact .fn (vs := []) rfl (by simp)
theorem rel_undef_tup (c : Ctx) : Rel c (.tup []) undef := .tup (vs := []) rfl (by simp)
theorem gd_some {g : AV} {want : Bool} {H H' : AHeap} {m : Option (AV × AHeap)} {v : AV} (h : gd g want H m = some (v, H')) :
    (g = .bool want ∧ m = some (v, H')) ∨ ((g = .bool (!want) ∨ g = .tup []) ∧ v = .tup [] ∧ H' = H) := by
  unfold gd at h
  split at h
  · rename_i b
    split at h
    · rename_i hb; simp at hb; subst hb; exact .inl ⟨rfl, h⟩
    · rename_i hb
      simp only [Option.some.injEq, Prod.mk.injEq] at h
      refine .inr ⟨.inl ?_, h.1.symm, h.2.symm⟩
      cases b <;> cases want <;> simp_all
  · simp only [Option.some.injEq, Prod.mk.injEq] at h
    exact .inr ⟨.inr rfl, h.1.symm, h.2.symm⟩
  · cases h
theorem getD_bool {a : Array Value} {t : Nat} {b : Bool} (h : a.getD t undef = .bool b) : a[t]? = some (.bool b) := by
  by_cases ht : t < a.size
  · rw [Array.getElem?_eq_getElem ht]
    simp [Array.getD, ht] at h
    rw [h]
  · simp [Array.getD, ht, undef] at h
/-- Whether an operation is wanted. -/
theorem stepOp_wanted {P : Program} {G : Globs} {E : Env} {ann : Ann} {ops : Array Oper} {o : Oper} {T : TS} {H H' : AHeap} {v : AV} (h : stepOp P G E ann ops o T H = some (v, H'))
    {c : Ctx} {a : Act} (hT : ∀ j want d, o.guard = some (j, want) → dstOf ops j = some d → Rel c (T d) (a.tmps.getD d undef)) :
    (Region.wanted o (yielded ops a.tmps) = true ∧ opR P G E ann o T H = some (v, H')) ∨ (Region.wanted o (yielded ops a.tmps) = false ∧ v = .tup [] ∧ H' = H) := by
  unfold stepOp at h
  split at h
  · rename_i hg
    exact .inl ⟨by simp [Region.wanted, hg], h⟩
  · rename_i j want hg
    split at h
    case h_2 => cases h
    rename_i d hd
    have hr := hT j want d hg hd
    have hd' : (ops[j]?).bind (·.dst) = some d := hd
    rcases gd_some h with ⟨e1, e2⟩ | ⟨e1 | e1, e2, e3⟩
    · rw [e1] at hr
      have := getD_bool hr.of_bool
      exact .inl ⟨by simp [Region.wanted, hg, yielded, hd', this], e2⟩
    · rw [e1] at hr
      have := getD_bool hr.of_bool
      exact .inr ⟨by simp [Region.wanted, hg, yielded, hd', this], e2, e3⟩
    · rw [e1] at hr
      obtain ⟨vs, hv, hrl⟩ := hr.of_tup
      have hvs : vs = [] := List.eq_nil_of_length_eq_zero hrl.1.symm
      subst hvs
      refine .inr ⟨?_, e2, e3⟩
      have hy : yielded ops a.tmps j = none := by
        simp only [yielded, hd', Option.bind_some]
        by_cases hlt : d < a.tmps.size
        · have : a.tmps[d]? = some (.tuple #[]) := by
            rw [Array.getElem?_eq_getElem hlt]
            simp [Array.getD, hlt] at hv
            rw [hv]
          rw [this]
        · simp [Array.getElem?_eq_none (Nat.le_of_not_lt hlt)]
      simp [Region.wanted, hg, hy]
theorem put_size (a : Act) (d : Option Tmp) (v : Value) : (a.put d v).tmps.size = a.tmps.size := by cases d <;> simp [Act.put]
theorem put_defers (a : Act) (d : Option Tmp) (v : Value) : (a.put d v).defers = a.defers := by cases d <;> rfl
theorem put_getD (a : Act) (d : Option Tmp) (v : Value) (h : ∀ t, d = some t → t < a.tmps.size) (t : Nat) : (a.put d v).tmps.getD t undef = if d = some t then v else a.tmps.getD t undef := by
  cases d with
  | none => simp [Act.put]
  | some d =>
    have hd := h d rfl
    by_cases e : d = t
    · subst e; simp [Act.put, Array.getD, hd]
    · simp [Act.put, Array.getD_eq_getD_getElem?, Array.getElem?_setIfInBounds_ne e, e]
theorem opR_len {P : Program} {G : Globs} {E : Env} {ann : Ann} {o : Oper} {T : TS} {H H' : AHeap} {r : AV} (hop : opR P G E ann o T H = some (r, H')) : H.length ≤ H'.length := by
  by_cases hw : writes ann (pureIn E) o = false
  · rcases opR_ext hw hop with rfl | ⟨blk, rfl⟩
    · exact Nat.le_refl _
    · simp
  · obtain ⟨dst, op, type, pos, after, guard⟩ := o
    cases op <;> first | (exact absurd rfl hw) | skip
    case store t x y =>
      simp only [opR] at hop
      split at hop
      · rename_i H1 h1
        simp only [Option.some.injEq, Prod.mk.injEq] at hop
        obtain ⟨_, rfl⟩ := hop
        rw [storeA_length h1]; exact Nat.le_refl _
      · cases hop
    case call cl =>
      obtain ⟨callee, args, ats⟩ := cl
      cases callee with
      | invoke rv m => simp [opR] at hop
      | builtin b =>
        cases b <;> first | (exact absurd rfl hw) | skip
        · simp only [opR] at hop
          split at hop
          · rw [appendA_length hop]; exact Nat.le_refl _
          · cases hop
        · simp only [opR] at hop
          split at hop
          · rw [copyA_length hop]; exact Nat.le_refl _
          · cases hop
      | value f =>
        simp only [opR] at hop
        have hop : callV E (opd T f) (args.toList.map (opd T)) H = some (r, H') := by
          split at hop
          · exact (callPV_callV hop).1
          · exact hop
        unfold callV at hop
        split at hop
        case h_2 => cases hop
        unfold callE at hop
        split at hop
        · unfold pureCall at hop
          (repeat' split at hop) <;> first | (cases hop; done) | (simp only [Option.some.injEq, Prod.mk.injEq] at hop; obtain ⟨_, rfl⟩ := hop; exact Nat.le_refl _)
        · unfold heapCall at hop
          split at hop
          · split at hop
            · rename_i hl
              simp only [Option.some.injEq, Prod.mk.injEq] at hop; obtain ⟨_, rfl⟩ := hop; exact hl
            · cases hop
          · cases hop
        · cases hop
theorem stepOp_len {P : Program} {G : Globs} {E : Env} {ann : Ann} {ops : Array Oper} {o : Oper} {T : TS} {H H' : AHeap} {r : AV} (hs : stepOp P G E ann ops o T H = some (r, H')) : H.length ≤ H'.length := by
  unfold stepOp at hs
  split at hs
  · exact opR_len hs
  · split at hs
    · rcases gd_some hs with ⟨_, e⟩ | ⟨_, _, e⟩
      · exact opR_len e
      · rw [e]; exact Nat.le_refl _
    · cases hs
/-! ### In the order of the text -/
theorem ops_text {P : Program} {G : Globs} {E : Env} {ann : Ann} (hE : EnvSound P G E) {γ : Type} {ops : Array Oper} {K : TS → AHeap → Option γ} {out : γ} {c0 : Ctx} {w0 : World} {N B : Nat} {Q : Exit → Act → World → Prop}
    (hdst : ∀ (i : Nat) (o : Oper) (t : Nat), ops[i]? = some o → o.dst = some t → t < N)
    (hQ : ∀ T H c a w, K T H = some out → St G c0 w0 N B T H c a w → Q .normal a w) :
    ∀ (l : List Oper) (k : Nat), (∀ j, l[j]? = ops[k + j]?) → ∀ (T : TS) (H : AHeap) (c : Ctx) (a : Act) (w : World), runOps P G E ann ops l K T H = some out → St G c0 w0 N B T H c a w →
      wpOps P ops Q (List.range' k l.length) a w
  | [], k, hl, T, H, c, a, w, hr, hs => by
    simp only [List.length_nil, List.range'_zero, wpOps]
    exact hQ T H c a w hr hs
  | o :: l, k, hl, T, H, c, a, w, hr, hs => by
    have h0 : ops[k]? = some o := by simpa using (hl 0).symm
    simp only [List.length_cons, List.range'_succ]
    rw [wpOps_cons]
    unfold wpOp
    simp only [h0]
    simp only [runOps, bnd] at hr
    split at hr
    case h_2 => cases hr
    rename_i v H' hst
    have next : ∀ u w' c', Step c w c' w' → Good G c' w' → HeapAt c' H' w' → Dom c' H' → Rel c' v u → wpOps P ops Q (List.range' (k + 1) l.length) (a.put o.dst u) w' := by
      intro u w' c' h1 h2 h3 h4 h5
      refine ops_text hE hdst hQ l (k + 1) (fun j => by have := hl (j + 1); simpa [Nat.add_assoc, Nat.add_comm 1 j] using this) _ H' c' _ w' hr ⟨h2, h3, h4, hs.step.trans h1, fun t => ?_, by rw [put_size]; exact hs.size, by rw [put_defers]; exact hs.defers, Nat.le_trans hs.low (stepOp_len hst)⟩
      rw [put_getD a o.dst u (fun t ht => by rw [hs.size]; exact hdst k o t h0 ht)]
      cases hd : o.dst with
      | none => simpa [putT] using (hs.tmps t).mono h1.le
      | some d =>
        by_cases e : t = d
        · subst e; simpa [putT] using h5
        · have : ¬ (d = t) := fun q => e q.symm
          simpa [putT, e, this] using (hs.tmps t).mono h1.le
    rcases stepOp_wanted hst (c := c) (a := a) (fun j want d _ _ => hs.tmps d) with ⟨hw, hop⟩ | ⟨hw, rfl, rfl⟩
    · rw [if_pos hw]
      refine .inl (opR_sound hE hop hs.good hs.heap (fun _ => ?_) (fun x _ => rel_opd (fun t _ => hs.tmps t)) (fun _ => hs.dom) (fun u w' c' ho _ => next u w' c' ho.step ho.good ho.heap (ho.dom hs.dom) ho.rel))
      cases hm : c.m H.length with
      | none => rfl
      | some i => have := hs.dom H.length (by rw [hm]; simp); omega
    · rw [hw]
      exact next undef w c (.refl c w) hs.good hs.heap hs.dom (rel_undef_tup c)
theorem region_text {P : Program} {G : Globs} {E : Env} {ann : Ann} (hE : EnvSound P G E) {γ : Type} {ops : Array Oper} {K : TS → AHeap → Option γ} {out : γ} {c0 : Ctx} {w0 : World} {N B id : Nat} {Q : Exit → Act → World → Prop}
    (hdst : ∀ (i : Nat) (o : Oper) (t : Nat), ops[i]? = some o → o.dst = some t → t < N)
    (hQ : ∀ T H c a w, K T H = some out → St G c0 w0 N B T H c a w → Q .normal a w) {T : TS} {H : AHeap} {c : Ctx} {a : Act} {w : World} (hr : runOps P G E ann ops ops.toList K T H = some out) (hs : St G c0 w0 N B T H c a w) :
    (Code.region id ops false).wp P Q a w := by
  refine wp_region ?_
  have := ops_text hE hdst hQ ops.toList 0 (fun j => by simp) T H c a w hr hs
  rw [List.range_eq_range']
  simpa using this
end Go.Proofs.YtdfglgnflldkpaaDoor.Mir
namespace Go.Proofs.YtdfglgnflldkpaaDoor.Mir
open Go
set_option linter.unusedVariables false
set_option linter.unusedSimpArgs false
/-! ### What comes before what -/
def maskOf (acc : List Nat) : List Edge → Nat → Nat
  | [], s => s
  | e :: l, s => maskOf acc l (if Region.binds .any e then s ||| 2 ^ e.on ||| acc.getD e.on 0 else s)
def befs : List Oper → List Nat → List Nat
  | [], acc => acc
  | o :: l, acc => befs l (acc ++ [maskOf acc o.after.toList 0])
theorem maskOf_bit (acc : List Nat) : ∀ (l : List Edge) (s i : Nat), (maskOf acc l s).testBit i = true → s.testBit i = true ∨ ∃ e ∈ l, Region.binds .any e = true ∧ (i = e.on ∨ (acc.getD e.on 0).testBit i = true)
  | [], s, i, h => .inl h
  | e :: l, s, i, h => by
    simp only [maskOf] at h
    rcases maskOf_bit acc l _ i h with h1 | ⟨e', h1, h2⟩
    · by_cases hb : Region.binds .any e = true
      · rw [if_pos hb, Nat.testBit_or, Nat.testBit_or, Bool.or_eq_true, Bool.or_eq_true] at h1
        rcases h1 with (h1 | h1) | h1
        · exact .inl h1
        · rw [Nat.testBit_two_pow] at h1
          exact .inr ⟨e, by simp, hb, .inl (of_decide_eq_true h1).symm⟩
        · exact .inr ⟨e, by simp, hb, .inr h1⟩
      · rw [if_neg hb] at h1; exact .inl h1
    · exact .inr ⟨e', by simp [h1], h2⟩
theorem befs_take : ∀ (l : List Oper) (acc : List Nat), (befs l acc).take acc.length = acc ∧ (befs l acc).length = acc.length + l.length
  | [], acc => by simp [befs]
  | o :: l, acc => by
    obtain ⟨h1, h2⟩ := befs_take l (acc ++ [maskOf acc o.after.toList 0])
    simp only [befs, List.length_append, List.length_cons, List.length_nil] at *
    refine ⟨?_, by omega⟩
    have := congrArg (List.take acc.length) h1
    rw [List.take_take, Nat.min_eq_left (by omega)] at this
    rw [this]; simp
theorem befs_get : ∀ (l : List Oper) (acc : List Nat) (k : Nat) (o : Oper), l[k]? = some o → (befs l acc)[acc.length + k]? = some (maskOf ((befs l acc).take (acc.length + k)) o.after.toList 0)
  | [], acc, k, o, h => by simp at h
  | o' :: l, acc, k, o, h => by
    obtain ⟨h1, h2⟩ := befs_take l (acc ++ [maskOf acc o'.after.toList 0])
    cases k with
    | zero =>
      simp at h; subst h
      simp only [befs, Nat.add_zero]
      have e0 := (befs_take (o' :: l) acc).1
      simp only [befs] at e0
      rw [e0]
      have : (befs l (acc ++ [maskOf acc o'.after.toList 0]))[acc.length]? = ((befs l (acc ++ [maskOf acc o'.after.toList 0])).take (acc ++ [maskOf acc o'.after.toList 0]).length)[acc.length]? := by
        rw [List.getElem?_take, if_pos (by simp)]
      rw [this, h1]
      simp
    | succ k =>
      simp at h
      have := befs_get l (acc ++ [maskOf acc o'.after.toList 0]) k o h
      simp only [List.length_append, List.length_cons, List.length_nil] at this
      simp only [befs]
      rw [show acc.length + (k + 1) = acc.length + 0 + 1 + k by omega]
      simpa using this
/-- From here on, no operation gives this temporary anew. -/
def late (ops : Array Oper) (i t : Nat) : Bool := (ops.toList.drop i).all fun o => match o.dst with | some d => !(d == t) | none => true
theorem late_spec {ops : Array Oper} {i t : Nat} (h : late ops i t = true) {k : Nat} (hk : i ≤ k) : dstOf ops k ≠ some t := by
  intro hd
  cases ho : ops[k]? with
  | none => simp [dstOf, ho] at hd
  | some o =>
    have hm : o ∈ ops.toList.drop i := by
      refine List.mem_of_getElem? (i := k - i) ?_
      rw [List.getElem?_drop, show i + (k - i) = k by omega]; simpa using ho
    have := List.all_eq_true.1 h o hm
    have hd' : o.dst = some t := by simpa [dstOf, ho] using hd
    simp [hd'] at this
/-- A load and a store: where their addresses are. -/
def ldst (ops : Array Oper) (i j : Nat) (x y : Oper) : Option (Nat × Nat) :=
  match x.guard, y.guard with
  | none, none => match x.op, y.op with
    | .load _ (.tmp a), .store _ (.tmp b) _ => (match late ops i a && late ops j b with | true => some (a, b) | false => none)
    | .store _ (.tmp b) _, .load _ (.tmp a) => (match late ops i b && late ops j a with | true => some (a, b) | false => none)
    | _, _ => none
  | _, _ => none
def isLoad (o : Oper) : Bool := match o.op with
  | .load .. => true
  | _ => false
theorem ldst_xl {ops : Array Oper} {i j : Nat} {x y : Oper} {p : Nat × Nat} (h : ldst ops i j x y = some p) (hx : isLoad x = true) :
    x.guard = none ∧ y.guard = none ∧ (∃ t, x.op = .load t (.tmp p.1)) ∧ (∃ t z, y.op = .store t (.tmp p.2) z) ∧ late ops i p.1 = true ∧ late ops j p.2 = true := by
  unfold ldst at h
  split at h
  case h_2 => cases h
  rename_i g1 g2
  split at h
  · rename_i t a t' b z e1 e2
    split at h
    · rename_i hl
      rw [Bool.and_eq_true] at hl
      simp only [Option.some.injEq] at h; subst h
      exact ⟨g1, g2, ⟨t, e1⟩, ⟨t', z, e2⟩, hl.1, hl.2⟩
    · cases h
  · rename_i e1 e2
    simp [isLoad, e1] at hx
  · cases h
theorem ldst_yl {ops : Array Oper} {i j : Nat} {x y : Oper} {p : Nat × Nat} (h : ldst ops i j x y = some p) (hy : isLoad y = true) :
    x.guard = none ∧ y.guard = none ∧ (∃ t, y.op = .load t (.tmp p.1)) ∧ (∃ t z, x.op = .store t (.tmp p.2) z) ∧ late ops j p.1 = true ∧ late ops i p.2 = true := by
  unfold ldst at h
  split at h
  case h_2 => cases h
  rename_i g1 g2
  split at h
  · rename_i t a t' b z e1 e2
    simp [isLoad, e2] at hy
  · rename_i t b z t' a e1 e2
    split at h
    · rename_i hl
      rw [Bool.and_eq_true] at hl
      simp only [Option.some.injEq] at h; subst h
      exact ⟨g1, g2, ⟨t', e2⟩, ⟨t, z, e1⟩, hl.2, hl.1⟩
    · cases h
  · cases h
theorem ldst_any {ops : Array Oper} {i j : Nat} {x y : Oper} {p : Nat × Nat} (h : ldst ops i j x y = some p) : (isLoad x = true ∧ isLoad y = false) ∨ (isLoad x = false ∧ isLoad y = true) := by
  unfold ldst at h
  split at h
  case h_2 => cases h
  split at h
  · rename_i e1 e2; exact .inl ⟨by simp [isLoad, e1], by simp [isLoad, e2]⟩
  · rename_i e1 e2; exact .inr ⟨by simp [isLoad, e1], by simp [isLoad, e2]⟩
  · cases h
def someB {α : Type} : Option α → Bool
  | some _ => true
  | none => false
/-- Two operations whose order is open. -/
def looseOk (ann : Ann) (pf : Nat → Bool) (ops : Array Oper) (i j : Nat) (x y : Oper) : Bool :=
  Oper.apart ops x y && ((!(writes ann pf x && touches ann y) && !(touches ann x && writes ann pf y)) || someB (ldst ops i j x y))
def pairsOk (ann : Ann) (pf : Nat → Bool) (ops : Array Oper) (b : Nat) (y : Oper) (j : Nat) : List Oper → Nat → Bool
  | [], _ => true
  | x :: l, i => (b.testBit i || looseOk ann pf ops i j x y) && pairsOk ann pf ops b y j l (i + 1)
def ordFrom (ann : Ann) (pf : Nat → Bool) (ops : Array Oper) (B : List Nat) : List Oper → List Oper → Nat → Bool
  | _, [], _ => true
  | before, y :: l, j => y.after.toList.all (fun e => !Region.binds .any e || decide (e.on < j)) && pairsOk ann pf ops (B.getD j 0) y j before 0 && ordFrom ann pf ops B (before ++ [y]) l (j + 1)
/-- The region's order is open only where it does not matter. -/
def ordOk (ann : Ann) (pf : Nat → Bool) (ops : Array Oper) : Bool := ordFrom ann pf ops (befs ops.toList []) [] ops.toList 0
/-- The loads and stores whose order is open: where their addresses are. -/
def needP (ops : Array Oper) (b : Nat) (y : Oper) (j : Nat) : List Oper → Nat → List (Nat × Nat)
  | [], _ => []
  | x :: l, i => match ldst ops i j x y with
    | some p => (match b.testBit i with
      | true => needP ops b y j l (i + 1)
      | false => p :: needP ops b y j l (i + 1))
    | none => needP ops b y j l (i + 1)
def needFrom (ops : Array Oper) (B : List Nat) : List Oper → List Oper → Nat → List (Nat × Nat)
  | _, [], _ => []
  | before, y :: l, j => needP ops (B.getD j 0) y j before 0 ++ needFrom ops B (before ++ [y]) l (j + 1)
def needs (ops : Array Oper) : List (Nat × Nat) := needFrom ops (befs ops.toList []) [] ops.toList 0
theorem pairsOk_get {ann : Ann} {pf : Nat → Bool} {ops : Array Oper} {b : Nat} {y : Oper} {j : Nat} : ∀ {l : List Oper} {k : Nat} (_ : pairsOk ann pf ops b y j l k = true) {i : Nat} {x : Oper} (_ : l[i]? = some x), b.testBit (k + i) = true ∨ looseOk ann pf ops (k + i) j x y = true
  | [], _, _, _, _, hx => by simp at hx
  | z :: l, k, h, i, x, hx => by
    simp only [pairsOk, Bool.and_eq_true, Bool.or_eq_true] at h
    cases i with
    | zero => simp at hx; subst hx; simpa using h.1
    | succ i =>
      simp at hx
      have := pairsOk_get h.2 hx
      rwa [show k + 1 + i = k + (i + 1) by omega] at this
theorem needP_get {ops : Array Oper} {b : Nat} {y : Oper} {j : Nat} {p : Nat × Nat} : ∀ {l : List Oper} {k i : Nat} {x : Oper} (_ : l[i]? = some x) (_ : b.testBit (k + i) = false) (_ : ldst ops (k + i) j x y = some p), p ∈ needP ops b y j l k
  | [], _, _, _, hx, _, _ => by simp at hx
  | z :: l, k, i, x, hx, hb, hp => by
    cases i with
    | zero =>
      simp at hx; subst hx
      rw [Nat.add_zero] at hb hp
      simp only [needP, hp, hb]
      simp
    | succ i =>
      simp at hx
      rw [show k + (i + 1) = k + 1 + i by omega] at hb hp
      have ih := needP_get hx hb hp
      simp only [needP]
      split
      · split
        · exact ih
        · exact List.mem_cons_of_mem _ ih
      · exact ih
theorem ordFrom_get {ann : Ann} {pf : Nat → Bool} {ops : Array Oper} {B : List Nat} : ∀ {l before : List Oper} (_ : ordFrom ann pf ops B before l before.length = true) {q : Nat} {y : Oper} (_ : l[q]? = some y),
    (∀ e ∈ y.after.toList, Region.binds .any e = true → e.on < before.length + q) ∧ ∀ (i : Nat) (x : Oper), (before ++ l.take q)[i]? = some x → (B.getD (before.length + q) 0).testBit i = true ∨ looseOk ann pf ops i (before.length + q) x y = true
  | [], _, _, _, _, hy => by simp at hy
  | z :: l, before, h, q, y, hy => by
    simp only [ordFrom, Bool.and_eq_true] at h
    obtain ⟨⟨h1, h2⟩, h3⟩ := h
    cases q with
    | zero =>
      simp at hy; subst hy
      refine ⟨fun e he hb => ?_, fun i x hx => ?_⟩
      · have := List.all_eq_true.1 h1 e he
        simpa [hb] using this
      · simp at hx
        have := pairsOk_get h2 hx
        simpa using this
    | succ q =>
      simp at hy
      have h3' : ordFrom ann pf ops B (before ++ [z]) l (before ++ [z]).length = true := by simpa using h3
      obtain ⟨g1, g2⟩ := ordFrom_get h3' hy
      simp only [List.length_append, List.length_cons, List.length_nil] at g1 g2
      refine ⟨fun e he hb => by have := g1 e he hb; omega, fun i x hx => ?_⟩
      have := g2 i x (by simpa using hx)
      rwa [show before.length + (0 + 1) + q = before.length + (q + 1) by omega] at this
theorem needFrom_get {ops : Array Oper} {B : List Nat} {p : Nat × Nat} : ∀ {l before : List Oper} {q : Nat} {y : Oper} (_ : l[q]? = some y) {i : Nat} {x : Oper} (_ : (before ++ l.take q)[i]? = some x) (_ : (B.getD (before.length + q) 0).testBit i = false)
    (_ : ldst ops i (before.length + q) x y = some p), p ∈ needFrom ops B before l before.length
  | [], _, _, _, hy, _, _, _, _, _ => by simp at hy
  | z :: l, before, q, y, hy, i, x, hx, hb, hp => by
    simp only [needFrom, List.mem_append]
    cases q with
    | zero =>
      simp at hy; subst hy
      simp at hx
      rw [Nat.add_zero] at hb hp
      exact .inl (needP_get (k := 0) (i := i) hx (by simpa using hb) (by simpa using hp))
    | succ q =>
      simp at hy
      have e : before.length + (q + 1) = (before ++ [z]).length + q := by simp; omega
      rw [e] at hb hp
      have := needFrom_get (before := before ++ [z]) hy (by simpa using hx) hb hp
      exact .inr (by simpa using this)
/-- Their order is open; if a load and a store: their addresses are among those that are looked at. -/
def Loose (ann : Ann) (pf : Nat → Bool) (ops : Array Oper) (i j : Nat) (x y : Oper) : Prop := looseOk ann pf ops i j x y = true ∧ ∀ p, ldst ops i j x y = some p → p ∈ needs ops
/-- Listed operations: with each, all that it waits for. -/
def Closed (ops : Array Oper) (S : Nat → Prop) : Prop := ∀ (j : Nat) (o : Oper), ops[j]? = some o → S j → ∀ e ∈ o.after, Region.binds .any e = true → S e.on
theorem ord_spec {ann : Ann} {pf : Nat → Bool} {ops : Array Oper} (h : ordOk ann pf ops = true) :
    (∀ (j : Nat) (o : Oper), ops[j]? = some o → ∀ e ∈ o.after, Region.binds .any e = true → e.on < j) ∧
    ∀ (i j : Nat) (x y : Oper), i < j → ops[i]? = some x → ops[j]? = some y → (∀ S, Closed ops S → S j → S i) ∨ Loose ann pf ops i j x y := by
  unfold ordOk at h
  have key := fun {q : Nat} {y : Oper} (hy : ops.toList[q]? = some y) => ordFrom_get (before := []) h hy
  have hedge : ∀ (j : Nat) (o : Oper), ops[j]? = some o → ∀ e ∈ o.after, Region.binds .any e = true → e.on < j := by
    intro j o ho e he hb
    have := (key (q := j) (y := o) (by simpa using ho)).1 e (by simpa using he) hb
    simpa using this
  refine ⟨hedge, fun i j x y hij hx hy => ?_⟩
  have hxt : ([] ++ ops.toList.take j)[i]? = some x := by simp [List.getElem?_take, hij]; simpa using hx
  have h2 := (key (q := j) (y := y) (by simpa using hy)).2 i x hxt
  simp only [List.length_nil, Nat.zero_add] at h2
  have h3 : ((befs ops.toList []).getD j 0).testBit i = true ∨ Loose ann pf ops i j x y := by
    cases hb : ((befs ops.toList []).getD j 0).testBit i with
    | true => exact .inl rfl
    | false =>
      refine .inr ⟨h2.resolve_left (by rw [hb]; simp), fun p hp => ?_⟩
      have := needFrom_get (B := befs ops.toList []) (before := []) (l := ops.toList) (q := j) (y := y) (by simpa using hy) hxt (by simpa using hb) (by simpa using hp)
      simpa [needs] using this
  refine h3.imp (fun hb => ?_) id
  -- by strong induction on j
  have : ∀ (j : Nat), ∀ i, j < ops.size → ((befs ops.toList []).getD j 0).testBit i = true → ∀ S, Closed ops S → S j → S i := by
    intro j
    induction j using Nat.strongRecOn with
    | _ j ih =>
      intro i hj hb S hS hSj
      have ho : ops.toList[j]? = some ops[j] := by simp [hj]
      have hg := befs_get ops.toList [] j ops[j] ho
      simp only [List.length_nil, Nat.zero_add] at hg
      rw [List.getD_eq_getElem?_getD, hg] at hb
      simp only [Option.getD_some] at hb
      rcases maskOf_bit _ _ _ _ hb with h0 | ⟨e, he, hbe, h1⟩
      · simp at h0
      · have he' : e ∈ ops[j].after := by simpa using he
        have hlt := hedge j ops[j] (by simp [hj]) e he' hbe
        have hSe := hS j ops[j] (by simp [hj]) hSj e he' hbe
        rcases h1 with rfl | h1
        · exact hSe
        · rw [List.getD_eq_getElem?_getD, List.getElem?_take, if_pos hlt, ← List.getD_eq_getElem?_getD] at h1
          exact ih e.on hlt i (by omega) h1 S hS hSe
  exact this j i (Array.getElem?_eq_some_iff.1 hy).1 hb
/-! ### Addresses of different blocks -/
/-- Does a store at b leave what lies at a? -/
def apartAV : AV → AV → Bool
  | .ptr b _ _ _, .ptr b' _ _ _ => !(b == b')
  | .rp _ _ _, _ => true
  | .gl _, _ => true
  | _, _ => false
def grd {γ : Type} : List (AV × AV) → Option γ → Option γ
  | [], m => m
  | p :: l, m => match apartAV p.1 p.2 with
    | true => grd l m
    | false => none
theorem grd_some {γ : Type} {m : Option γ} {out : γ} : ∀ {l : List (AV × AV)}, grd l m = some out → m = some out ∧ ∀ p ∈ l, apartAV p.1 p.2 = true
  | [], h => ⟨h, fun p hp => by cases hp⟩
  | q :: l, h => by
    simp only [grd] at h
    split at h
    · rename_i hq
      obtain ⟨h1, h2⟩ := grd_some h
      refine ⟨h1, fun p hp => ?_⟩
      rcases List.mem_cons.1 hp with rfl | hp
      · exact hq
      · exact h2 p hp
    · cases h
def addrs (T : TS) (l : List (Nat × Nat)) : List (AV × AV) := l.map fun p => (T p.1, T p.2)
/-! ### The run in the order of the text -/
structure TextRun (P : Program) (G : Globs) (E : Env) (ann : Ann) (ops : Array Oper) (T : TS) (H : AHeap) (n : Nat) (σ : Nat → TS) (h : Nat → AHeap) (v : Nat → AV) : Prop where
  t0 : σ 0 = T
  h0 : h 0 = H
  step : ∀ (i : Nat) (o : Oper), i < n → ops[i]? = some o → stepOp P G E ann ops o (σ i) (h i) = some (v i, h (i + 1)) ∧ σ (i + 1) = putT (σ i) o.dst (v i)
theorem textRun_of {P : Program} {G : Globs} {E : Env} {ann : Ann} {ops : Array Oper} {γ : Type} {K : TS → AHeap → Option γ} {out : γ} : ∀ (l : List Oper) (k : Nat), (∀ j, l[j]? = ops[k + j]?) → ∀ (T : TS) (H : AHeap), runOps P G E ann ops l K T H = some out →
    ∃ (σ : Nat → TS) (h : Nat → AHeap) (v : Nat → AV), σ k = T ∧ h k = H ∧ (∀ (i : Nat) (o : Oper), k ≤ i → i < k + l.length → ops[i]? = some o → stepOp P G E ann ops o (σ i) (h i) = some (v i, h (i + 1)) ∧ σ (i + 1) = putT (σ i) o.dst (v i)) ∧
      K (σ (k + l.length)) (h (k + l.length)) = some out
  | [], k, hl, T, H, hr => ⟨fun _ => T, fun _ => H, fun _ => .undef, rfl, rfl, fun i o h1 h2 => by simp at h2; omega, by simpa [runOps] using hr⟩
  | o :: l, k, hl, T, H, hr => by
    have h0 : ops[k]? = some o := by simpa using (hl 0).symm
    simp only [runOps, bnd] at hr
    split at hr
    case h_2 => cases hr
    rename_i v0 H' hst
    obtain ⟨σ, h, v, e1, e2, e3, e4⟩ := textRun_of l (k + 1) (fun j => by have := hl (j + 1); simpa [Nat.add_assoc, Nat.add_comm 1 j] using this) _ H' hr
    refine ⟨fun i => if i = k then T else σ i, fun i => if i = k then H else h i, fun i => if i = k then v0 else v i, by simp, by simp, fun i o' h1 h2 h3 => ?_, ?_⟩
    · by_cases hik : i = k
      · subst hik
        rw [h0] at h3; obtain rfl := Option.some.inj h3
        have hne : ¬ (i + 1 = i) := by omega
        simp only [if_true, hne, if_false]
        exact ⟨by rw [e2]; exact hst, e1⟩
      · have hne : ¬ (i + 1 = k) := by omega
        simp only [hik, if_false, hne]
        exact e3 i o' (by omega) (by simp at h2; omega) h3
    · have hne : ¬ (k + (l.length + 1) = k) := by omega
      simp only [List.length_cons, hne, if_false]
      rw [show k + (l.length + 1) = k + 1 + l.length by omega]
      exact e4
end Go.Proofs.YtdfglgnflldkpaaDoor.Mir
namespace Go.Proofs.YtdfglgnflldkpaaDoor.Mir
open Go
set_option linter.unusedVariables false
set_option linter.unusedSimpArgs false
/-- How many are not listed yet. -/
def cntU (listed : Array Bool) : Nat → Nat
  | 0 => 0
  | k + 1 => cntU listed k + if listed.getD k false = true then 0 else 1
theorem cntU_zero {listed : Array Bool} : ∀ {n : Nat}, cntU listed n = 0 → ∀ i, i < n → listed.getD i false = true
  | 0, _, i, hi => by omega
  | n + 1, h, i, hi => by
    simp only [cntU] at h
    by_cases e : i = n
    · subst e
      by_cases hl : listed.getD i false = true
      · exact hl
      · rw [if_neg hl] at h; omega
    · exact cntU_zero (n := n) (by omega) i (by omega)
theorem cntU_set {listed : Array Bool} {i : Nat} (hi : i < listed.size) (hu : listed.getD i false = false) : ∀ (n : Nat), cntU (listed.setIfInBounds i true) n + (if i < n then 1 else 0) = cntU listed n
  | 0 => by simp [cntU]
  | n + 1 => by
    have ih := cntU_set hi hu n
    simp only [cntU]
    by_cases e : i = n
    · subst e
      have h1 : (listed.setIfInBounds i true).getD i false = true := by simp [Array.getD, hi]
      rw [if_pos h1, hu]
      rw [if_neg (show ¬ i < i by omega)] at ih
      rw [if_pos (show i < i + 1 by omega)]
      simp only [Bool.false_eq_true, if_false]
      omega
    · have h1 : (listed.setIfInBounds i true).getD n false = listed.getD n false := getD_set_ne false e
      rw [h1]
      by_cases hl : i < n
      · rw [if_pos hl] at ih; rw [if_pos (show i < n + 1 by omega)]; omega
      · rw [if_neg hl] at ih; rw [if_neg (show ¬ i < n + 1 by omega)]; omega
section
variable {P : Program} {G : Globs} {E : Env} {ann : Ann} {ops : Array Oper} {σ : Nat → TS} {h : Nat → AHeap} {v : Nat → AV}
def Wr (ann : Ann) (E : Env) (ops : Array Oper) (i : Nat) : Prop := ∃ o, ops[i]? = some o ∧ writes ann (pureIn E) o = true
/-- Just the writers ahead of j have come up. -/
def Seg (ann : Ann) (E : Env) (ops : Array Oper) (L : Nat → Prop) (j : Nat) : Prop := (∀ i, i < j → Wr ann E ops i → L i) ∧ ∀ i, j ≤ i → Wr ann E ops i → ¬ L i
/-- What a temporary holds, once these have come up. -/
def Cur (ops : Array Oper) (σ : Nat → TS) (v : Nat → AV) (L : Nat → Prop) (t : Nat) (x : AV) : Prop :=
  (∃ i, L i ∧ dstOf ops i = some t ∧ x = v i ∧ ∀ i', i < i' → L i' → dstOf ops i' ≠ some t) ∨ ((∀ i, L i → dstOf ops i ≠ some t) ∧ x = σ 0 t)
structure RS (G : Globs) (ann : Ann) (E : Env) (ops : Array Oper) (σ : Nat → TS) (h : Nat → AHeap) (v : Nat → AV) (c0 : Ctx) (w0 : World) (N B : Nat) (L : Nat → Prop) (c : Ctx) (a : Act) (w : World) : Prop where
  good : Good G c w
  step : Step c0 w0 c w
  size : a.tmps.size = N
  defers : a.defers = []
  low : B ≤ (h 0).length
  tm : ∀ t x, Cur ops σ v L t x → Rel c x (a.tmps.getD t undef)
  hp : ∀ j, j ≤ ops.size → Seg ann E ops L j → HeapAt c (h j) w
  dom : ∀ b, c.m b ≠ none → b < (h ops.size).length ∧ ∀ i, i < ops.size → (h i).length ≤ b → b < (h (i + 1)).length → L i
/-- The temporary as the text has it. -/
theorem text_cur {T : TS} {H : AHeap} (hr : TextRun P G E ann ops T H ops.size σ h v) (t : Nat) : ∀ (j : Nat), j ≤ ops.size →
    (∃ i, i < j ∧ dstOf ops i = some t ∧ σ j t = v i ∧ ∀ i', i < i' → i' < j → dstOf ops i' ≠ some t) ∨ ((∀ i, i < j → dstOf ops i ≠ some t) ∧ σ j t = σ 0 t)
  | 0, _ => .inr ⟨fun i hi => by omega, rfl⟩
  | j + 1, hj => by
    have ho : ops[j]? = some ops[j] := by simp [show j < ops.size by omega]
    obtain ⟨_, hs⟩ := hr.step j ops[j] (by omega) ho
    have hd : dstOf ops j = ops[j].dst := by simp [dstOf, ho]
    by_cases e : ops[j].dst = some t
    · refine .inl ⟨j, by omega, by rw [hd, e], ?_, fun i' h1 h2 => by omega⟩
      rw [hs, e]; simp [putT]
    · have hk : σ (j + 1) t = σ j t := by
        rw [hs]
        cases hdd : ops[j].dst with
        | none => rfl
        | some d =>
          have : ¬ (t = d) := fun q => e (by rw [hdd, q])
          simp [putT, this]
      rcases text_cur hr t j (by omega) with ⟨i, h1, h2, h3, h4⟩ | ⟨h1, h2⟩
      · refine .inl ⟨i, by omega, h2, by rw [hk, h3], fun i' g1 g2 => ?_⟩
        by_cases q : i' = j
        · subst q; rw [hd]; exact e
        · exact h4 i' g1 (by omega)
      · refine .inr ⟨fun i hi => ?_, by rw [hk, h2]⟩
        by_cases q : i = j
        · subst q; rw [hd]; exact e
        · exact h1 i (by omega)
theorem len_step {T : TS} {H : AHeap} (hr : TextRun P G E ann ops T H ops.size σ h v) {i : Nat} (hi : i < ops.size) : (h i).length ≤ (h (i + 1)).length := by
  have ho : ops[i]? = some ops[i] := by simp [hi]
  obtain ⟨hs, -⟩ := hr.step i ops[i] hi ho
  exact stepOp_len hs
theorem len_mono {T : TS} {H : AHeap} (hr : TextRun P G E ann ops T H ops.size σ h v) {i : Nat} : ∀ (d : Nat), i + d ≤ ops.size → (h i).length ≤ (h (i + d)).length
  | 0, _ => Nat.le_refl _
  | d + 1, hd => Nat.le_trans (len_mono hr d (by omega)) (len_step hr (i := i + d) (by omega))
/-- Between writers the heap only gets new blocks. -/
theorem ext_step {T : TS} {H : AHeap} (hr : TextRun P G E ann ops T H ops.size σ h v) {i : Nat} (hi : i < ops.size) (hw : ¬ Wr ann E ops i) : h (i + 1) = h i ∨ ∃ blk, h (i + 1) = h i ++ [blk] := by
  have ho : ops[i]? = some ops[i] := by simp [hi]
  have hw' : writes ann (pureIn E) ops[i] = false := by
    cases hb : writes ann (pureIn E) ops[i] with
    | false => rfl
    | true => exact absurd ⟨ops[i], ho, hb⟩ hw
  obtain ⟨hs, -⟩ := hr.step i ops[i] hi ho
  unfold stepOp at hs
  split at hs
  · exact opR_ext hw' hs
  · split at hs
    · rcases gd_some hs with ⟨_, e⟩ | ⟨_, _, e⟩
      · exact opR_ext hw' e
      · exact .inl e
    · cases hs
theorem ext_get {T : TS} {H : AHeap} (hr : TextRun P G E ann ops T H ops.size σ h v) {i : Nat} : ∀ (d : Nat), i + d ≤ ops.size → (∀ k, i ≤ k → k < i + d → ¬ Wr ann E ops k) → ∀ b, b < (h i).length → (h (i + d))[b]? = (h i)[b]?
  | 0, _, _, b, _ => rfl
  | d + 1, hd, hw, b, hb => by
    have ih := ext_get hr d (by omega) (fun k h1 h2 => hw k h1 (by omega)) b hb
    have hl := len_mono hr d (i := i) (by omega)
    rcases ext_step hr (i := i + d) (by omega) (hw (i + d) (by omega) (by omega)) with e | ⟨blk, e⟩
    · rw [show i + (d + 1) = i + d + 1 by omega, e]; exact ih
    · rw [show i + (d + 1) = i + d + 1 by omega, e, List.getElem?_append_left (by omega)]; exact ih
/-- An operation that touches no memory leaves the heap. -/
theorem same_step {T : TS} {H : AHeap} (hr : TextRun P G E ann ops T H ops.size σ h v) {i : Nat} {o : Oper} (ho : ops[i]? = some o) (ht : touches ann o = false) : h (i + 1) = h i := by
  have hi : i < ops.size := (Array.getElem?_eq_some_iff.1 ho).1
  obtain ⟨hs, -⟩ := hr.step i o hi ho
  unfold stepOp at hs
  split at hs
  · exact (opR_pure ht hs).1
  · split at hs
    · rcases gd_some hs with ⟨_, e⟩ | ⟨_, _, e⟩
      · exact (opR_pure ht e).1
      · exact e
    · cases hs
end
end Go.Proofs.YtdfglgnflldkpaaDoor.Mir
