/- Part 1 of the proof: the evaluator and its soundness. -/
import Derived.Calls
import Derived.Orders
import Derived.KernelRfl
import Derived.LaidEqlPtr
import Derived.Laws.MakeOwn
import Derived.Laws.Slices
import Derived.Laws.Build
import Derived.Laws.Cover3
namespace Go.Proofs.YtlkgkfgkiidhdaaDoor.Mir
open Go
abbrev HrP (P : Program) (n : Nat) : Prop := ∃ fn, P.funcs[n]? = some fn ∧ fn.body.isSome = true ∧ (fn.name == "runtime.NumGoroutine") = false
theorem aKI {a b : Prop} (h : a) (k : b) : a ∧ b := ⟨h, k⟩
set_option linter.unusedSimpArgs false
set_option linter.unusedVariables false
inductive AV where
 | undef
 | bool (b : Bool)
 | int (k : IntKind) (n : Int)
 | str (s : ByteArray)
 | nilp
 | nilf
 | nili
 | fn (f : Nat) (caps : List AV)
 | iface (t : Nat) (v : AV)
 | agg (cs : List AV)
 | tup (vs : List AV)
 | ptr (b L i o : Nat)
 | sl (b L o n sz : Nat)
 | ro (bor : Bool) (xs : List AV)
 | rp (bor : Bool) (x : AV) (o : Nat)
 | gl (g : Nat)
 | gp (g : Nat)
 | nils
 | anyb
 | mp (b : Nat)
 | emp
instance : Inhabited AV := ⟨.undef⟩
def AV.cells : AV → List AV
 | .agg cs => cs
 | .undef => [.undef]
 | .bool b => [.bool b]
 | .int k n => [.int k n]
 | .str s => [.str s]
 | .nilp => [.nilp]
 | .nilf => [.nilf]
 | .nili => [.nili]
 | .fn f caps => [.fn f caps]
 | .iface t v => [.iface t v]
 | .tup vs => [.tup vs]
 | .ptr b L i o => [.ptr b L i o]
 | .sl b L o n sz => [.sl b L o n sz]
 | .ro bor xs => [.ro bor xs]
 | .rp bor x o => [.rp bor x o]
 | .gl g => [.gl g]
 | .gp g => [.gp g]
 | .nils => [.nils]
 | .anyb => [.anyb]
 | .mp b => [.mp b]
 | .emp => [.emp]
structure ABlk where
 ty : Nat
 sz : Nat
 elems : List AV
abbrev aA := List ABlk
structure Info where
 idx : Nat
 cap : Nat
 ty : Nat
 sz : Nat
 len : Nat
 virt : Bool
structure Ctx where
 m : Nat → Option Info
 M : Addr → Option Value
 B : Addr → Option Value
 S : Nat → Option Addr
def Ctx.mem (c : Ctx) : Bool → Addr → Option Value
 | false => c.M
 | true => c.B
inductive Rel (c : Ctx) : AV → Value → Prop
 | undef (v : Value) : Rel c .undef v
 | bool (b : Bool) : Rel c (.bool b) (.bool b)
 | int (k : IntKind) (n : Int) : Rel c (.int k n) (.int k n)
 | str (s : ByteArray) : Rel c (.str s) (.string s)
 | nilp : Rel c .nilp (.pointer none)
 | nilf : Rel c .nilf .nilFunc
 | nili : Rel c .nili .nilIface
 | fn {f : Nat} {caps : List AV} {vs : List Value} (hl : caps.length = vs.length)
   (h : ∀ (i : Nat) (x : AV) (v : Value), caps[i]? = some x → vs[i]? = some v → Rel c x v) :
   Rel c (.fn f caps) (.func (.func f) #[] vs.toArray)
 | iface {t : Nat} {x : AV} {v : Value} (h : Rel c x v) : Rel c (.iface t x) (.iface t v)
 | agg {cs : List AV} {vs : List Value} (hl : cs.length = vs.length)
   (h : ∀ (i : Nat) (x : AV) (v : Value), cs[i]? = some x → vs[i]? = some v → Rel c x v)
   (h1 : ∀ v ∈ vs, v.oneCell' = true) : Rel c (.agg cs) (.agg vs.toArray)
 | tup {xs : List AV} {vs : List Value} (hl : xs.length = vs.length)
   (h : ∀ (i : Nat) (x : AV) (v : Value), xs[i]? = some x → vs[i]? = some v → Rel c x v) :
   Rel c (.tup xs) (.tuple vs.toArray)
 | ptr {b L i o : Nat} {inf : Info} (hm : c.m b = some inf) (hL : inf.len = L) (hv : inf.virt = false) (hz : 0 < inf.sz) :
   Rel c (.ptr b L i o) (.pointer (some ⟨inf.idx, i * inf.sz + o, none⟩))
 | ptrStale {b L i o : Nat} {inf : Info} (a : Addr) (hm : c.m b = some inf) (hL : L < inf.len) : Rel c (.ptr b L i o) (.pointer (some a))
 | sl {b L o n sz : Nat} {inf : Info} {a : Addr} {cap' : Nat} (hm : c.m b = some inf) (hL : inf.len = L) (hv : inf.virt = false)
   (hsz : inf.sz = sz) (ho : o + n ≤ L) (hcap : cap' + o = inf.cap) (hn : n ≤ cap') (ha : a = ⟨inf.idx, o * sz, none⟩ ∨ (cap' = 0 ∧ o ≠ 0)) (hz : 0 < inf.sz) :
   Rel c (.sl b L o n sz) (.slice (some a) n cap')
 | slVirt {b sz : Nat} {inf : Info} (hm : c.m b = some inf) (hL : inf.len = 0) (hv : inf.virt = true) (hsz : inf.sz = sz) :
   Rel c (.sl b 0 0 0 sz) (.slice none 0 0)
 | slStale {b L o n sz : Nat} {inf : Info} (a : Option Addr) (cap' : Nat) (hm : c.m b = some inf) (hL : L < inf.len) (hn : n ≤ cap') (ha : a = none → n = 0) : Rel c (.sl b L o n sz) (.slice a n cap')
 | ro {bor : Bool} {xs : List AV} {a : Option Addr} {n cap sz : Nat} {A : Addr} {V : Nat → Nat → Value} (hn : xs.length = n) (hcap : n ≤ cap)
   (ha : xs = [] ∨ a = some A) (hA : A.spot = none)
   (hsz : ∀ (i : Nat) (x : AV), xs[i]? = some x → x.cells.length = sz)
   (h : ∀ (i : Nat) (x : AV) (j : Nat) (y : AV), xs[i]? = some x → x.cells[j]? = some y → Rel c y (V i j))
   (hm : ∀ (i : Nat) (x : AV) (j : Nat) (y : AV), xs[i]? = some x → x.cells[j]? = some y →
    c.mem bor ⟨A.block, A.off + i * sz + j, none⟩ = some (V i j) ∧ (V i j).oneCell' = true) :
   Rel c (.ro bor xs) (.slice a n cap)
 | rp {bor : Bool} {x : AV} {o : Nat} {A : Addr} {V : Nat → Value}
   (h : ∀ (j : Nat) (y : AV), x.cells[j]? = some y → Rel c y (V j))
   (hm : ∀ (j : Nat) (y : AV), x.cells[j]? = some y → c.mem bor ⟨A.block, A.off + j, none⟩ = some (V j) ∧ (V j).oneCell' = true) :
   Rel c (.rp bor x o) (.pointer (some ⟨A.block, A.off + o, none⟩))
 | gl (g : Nat) : Rel c (.gl g) (.pointer (some ⟨g, 0, none⟩))
 | gp {g : Nat} {a : Addr} (h : c.S g = some a) : Rel c (.gp g) (.pointer (some a))
 | nils : Rel c .nils (.slice none 0 0)
 | anyb (b : Bool) : Rel c .anyb (.bool b)
 | mp {b : Nat} {inf : Info} (hm : c.m b = some inf) (hv : inf.virt = false) (hz : inf.sz = 0) : Rel c (.mp b) (.map (some inf.idx))
 | emp (a : Addr) : Rel c .emp (.slice (some a) 0 0)
structure Ctx.le (c c' : Ctx) : Prop where
 m : ∀ b inf, c.m b = some inf → ∃ inf', c'.m b = some inf' ∧ inf'.sz = inf.sz ∧ inf.len ≤ inf'.len ∧ (inf'.len = inf.len → inf' = inf) ∧ (inf.sz = 0 → inf'.idx = inf.idx ∧ inf'.virt = inf.virt)
 M : ∀ a v, c.M a = some v → c'.M a = some v
 B : ∀ a v, c.B a = some v → c'.B a = some v
 S : c'.S = c.S
theorem Ctx.le.refl (c : Ctx) : c.le c := ⟨fun _ inf h => ⟨inf, h, rfl, Nat.le_refl _, fun _ => rfl, fun _ => ⟨rfl, rfl⟩⟩, fun _ _ h => h, fun _ _ h => h, rfl⟩
theorem Ctx.le.trans {a b c : Ctx} (h : a.le b) (k : b.le c) : a.le c := by
 refine ⟨fun i inf hi => ?_, fun x v hx => k.M _ _ (h.M _ _ hx), fun x v hx => k.B _ _ (h.B _ _ hx), k.S.trans h.S⟩
 obtain ⟨i1, e1, s1, l1, u1, z1⟩ := h.m i inf hi
 obtain ⟨i2, e2, s2, l2, u2, z2⟩ := k.m i i1 e1
 refine ⟨i2, e2, s2.trans s1, Nat.le_trans l1 l2, fun he => ?_, fun hz => ⟨((z2 (by omega)).1).trans (z1 hz).1, ((z2 (by omega)).2).trans (z1 hz).2⟩⟩
 have : i1.len = inf.len := by omega
 have h3 := u1 this
 have h4 := u2 (by omega)
 rw [h4, h3]
theorem Ctx.le.mem {c c' : Ctx} (h : c.le c') (bor : Bool) (a : Addr) (v : Value) (hv : c.mem bor a = some v) : c'.mem bor a = some v := by
 cases bor
 ·exact h.M _ _ hv
 ·exact h.B _ _ hv
theorem Rel.mono {c c' : Ctx} (hle : c.le c') {x : AV} {v : Value} (h : Rel c x v) : Rel c' x v := by
 induction h with
 | undef v => exact .undef v
 | bool b => exact .bool b
 | int k n => exact .int k n
 | str s => exact .str s
 | nilp => exact .nilp
 | nilf => exact .nilf
 | nili => exact .nili
 | fn hl _ ih => exact .fn hl ih
 | iface _ ih => exact .iface ih
 | agg hl _ h1 ih => exact .agg hl ih h1
 | tup hl _ ih => exact .tup hl ih
 | ptr hm hL hv hz =>
  rename_i b L i o inf
  obtain ⟨i', e, s, l, u, zz⟩ := hle.m _ _ hm
  by_cases he : i'.len = inf.len
  ·obtain rfl := u he; exact .ptr e hL hv hz
  ·exact .ptrStale _ e (by omega)
 | ptrStale a hm hL =>
  obtain ⟨i', e, s, l, u, zz⟩ := hle.m _ _ hm
  exact .ptrStale _ e (by omega)
 | sl hm hL hv hsz ho hcap hn ha hz =>
  rename_i b L o n sz inf a cap'
  obtain ⟨i', e, s, l, u, zz⟩ := hle.m _ _ hm
  by_cases he : i'.len = inf.len
  ·obtain rfl := u he; exact .sl e hL hv hsz ho hcap hn ha hz
  ·exact .slStale _ _ e (by omega) hn (by simp)
 | slVirt hm hL hv hsz =>
  rename_i b sz inf
  obtain ⟨i', e, s, l, u, zz⟩ := hle.m _ _ hm
  by_cases he : i'.len = inf.len
  ·obtain rfl := u he; exact .slVirt e hL hv hsz
  ·exact .slStale _ _ e (by omega) (Nat.le_refl _) (by simp)
 | slStale a cap' hm hL hn ha =>
  obtain ⟨i', e, s, l, u, zz⟩ := hle.m _ _ hm
  exact .slStale _ _ e (by omega) hn ha
 | ro hn hcap ha hA hsz _ hm ih => exact .ro hn hcap ha hA hsz ih (fun i x j y h1 h2 => ⟨hle.mem _ _ _ (hm i x j y h1 h2).1, (hm i x j y h1 h2).2⟩)
 | rp _ hm ih => exact .rp ih (fun j y h1 => ⟨hle.mem _ _ _ (hm j y h1).1, (hm j y h1).2⟩)
 | gl g => exact .gl g
 | gp h => exact .gp (by rw [hle.S]; exact h)
 | nils => exact .nils
 | anyb b => exact .anyb b
 | mp hm hv hz =>
  obtain ⟨i', e, s, l, u, zz⟩ := hle.m _ _ hm
  rw [← (zz hz).1]
  exact .mp e (by rw [(zz hz).2]; exact hv) (by omega)
 | emp a => exact .emp a
def iB (c : Ctx) (xs : List AV) (vs : List Value) : Prop :=
 xs.length = vs.length ∧ ∀ (i : Nat) (x : AV) (v : Value), xs[i]? = some x → vs[i]? = some v → Rel c x v
theorem iB.mono {c c' : Ctx} (hle : c.le c') {xs : List AV} {vs : List Value} (h : iB c xs vs) : iB c' xs vs :=
 ⟨h.1, fun i x v h1 h2 => (h.2 i x v h1 h2).mono hle⟩
theorem iB.nil {c : Ctx} : iB c [] [] := ⟨rfl, fun i x v h => by simp at h⟩
theorem iB.cons {c : Ctx} {x : AV} {v : Value} {xs : List AV} {vs : List Value} (h : Rel c x v) (hs : iB c xs vs) : iB c (x :: xs) (v :: vs) := by
 refine ⟨by simp [hs.1], fun i y u h1 h2 => ?_⟩
 cases i with
 | zero => simp at h1 h2; subst h1; subst h2; exact h
 | succ i => simp at h1 h2; exact hs.2 i y u h1 h2
theorem iB.head {c : Ctx} {x : AV} {v : Value} {xs : List AV} {vs : List Value} (h : iB c (x :: xs) (v :: vs)) : Rel c x v := h.2 0 x v rfl rfl
theorem iB.tail {c : Ctx} {x : AV} {v : Value} {xs : List AV} {vs : List Value} (h : iB c (x :: xs) (v :: vs)) : iB c xs vs :=
 ⟨by simpa using h.1, fun i y u h1 h2 => h.2 (i + 1) y u (by simpa using h1) (by simpa using h2)⟩
def Ctx.own (c : Ctx) (k : Nat) : Prop := ∃ b inf, c.m b = some inf ∧ inf.virt = false ∧ inf.idx = k
abbrev aC := Nat → Option AV
def aJr : Array Value := ((List.range 20).map fun i => Value.int .u64 ((10 ^ i : Nat) : Int)).toArray
structure Good (G : aC) (c : Ctx) (w : World) : Prop where
 holds : ∀ a v, c.B a = some v → w.cell? a = some v
 MB : ∀ a v, c.M a = some v → c.B a = some v
 away : ∀ k, c.own k → ∀ a, a.block = k → c.B a = none
 sent : ∀ g a, c.S g = some a → ∃ cells elem, w.heap[a.block]? = some (.cells cells elem (0, 0))
 sentAway : ∀ g a, c.S g = some a → ¬ c.own a.block
 sentApart : ∀ g g' a a', c.S g = some a → c.S g' = some a' → g ≠ g' → a ≠ a'
 glob : ∀ g x, G g = some x → ∃ v, c.M ⟨g, 0, none⟩ = some v ∧ Rel c x v
 bound : ∀ k, c.own k → k < w.heap.size
 tab : ∀ g, G g = some (.int .u64 1) → ∃ elem fr, w.heap[g]? = some (.cells aJr elem fr)
structure CBlk (c : Ctx) (inf : Info) (blk : ABlk) (w : World) : Prop where
 ty : inf.ty = blk.ty
 sz : inf.sz = blk.sz
 pos : 0 < blk.sz
 len : inf.len = blk.elems.length
 fits : blk.elems.length ≤ inf.cap
 virt : inf.virt = true → inf.cap = 0
 big : inf.cap ≤ maxLen
 real : inf.virt = false → ∃ cells, w.heap[inf.idx]? = some (.cells cells inf.ty (0, 0)) ∧ cells.size = inf.cap * inf.sz
 cells : inf.virt = false → ∀ (i : Nat) (x : AV), blk.elems[i]? = some x → x.cells.length = blk.sz ∧
  ∀ (j : Nat) (y : AV), x.cells[j]? = some y → ∃ v, w.cell? ⟨inf.idx, i * blk.sz + j, none⟩ = some v ∧ Rel c y v ∧ v.oneCell' = true
structure MBlk (c : Ctx) (inf : Info) (blk : ABlk) (w : World) : Prop where
 ty : inf.ty = blk.ty
 sz : inf.sz = blk.sz
 virt : inf.virt = false
 len : inf.len = blk.elems.length
 real : ∃ es clock, w.heap[inf.idx]? = some (.map es clock) ∧ (∀ e ∈ es.toList, ∃ k : Nat, k < blk.elems.length ∧ e.key = .int .i64 k) ∧
  ∀ (i : Nat) (x : AV), blk.elems[i]? = some x →
   (Instr.findNow (.int .i64) (.int .i64 i) es.toList 0 = some none ∧ Rel c x (.slice none 0 0)) ∨
   ∃ j v, Instr.findNow (.int .i64) (.int .i64 i) es.toList 0 = some (some (j, v)) ∧ Rel c x v
structure BlkAt (c : Ctx) (inf : Info) (blk : ABlk) (w : World) : Prop where
 len : inf.len = blk.elems.length
 cb : 0 < inf.sz → CBlk c inf blk w
 mp : inf.sz = 0 → MBlk c inf blk w
theorem CBlk.to {c : Ctx} {inf : Info} {blk : ABlk} {w : World} (h : CBlk c inf blk w) : BlkAt c inf blk w :=
 ⟨h.len, fun _ => h, fun hz => absurd hz (by have := h.pos; have := h.sz; omega)⟩
structure HeapAt (c : Ctx) (H : aA) (w : World) : Prop where
 blk : ∀ b blk inf, H[b]? = some blk → c.m b = some inf → BlkAt c inf blk w
 inj : ∀ b b' inf inf', c.m b = some inf → c.m b' = some inf' → inf.virt = false → inf'.virt = false → inf.idx = inf'.idx → b = b'
def uP (c : Ctx) (H : aA) : Prop := ∀ b, c.m b ≠ none → b < H.length
structure Step (c : Ctx) (w : World) (c' : Ctx) (w' : World) : Prop where
 le : c.le c'
 os : w'.os = w.os
 tape : w'.tape = w.tape
 output : w'.output = w.output
 size : w.heap.size ≤ w'.heap.size
 kept : ∀ k, k < w.heap.size → ¬ c.own k → w'.heap[k]? = w.heap[k]?
 fresh : ∀ b inf, c'.m b = some inf → inf.virt = false → inf.idx < w.heap.size → ∃ i0, c.m b = some i0 ∧ i0.virt = false ∧ i0.idx = inf.idx
 newM : ∀ a v, c'.M a = some v → c.M a = some v ∨ w.heap.size ≤ a.block
 newB : ∀ a v, c'.B a = some v → c.B a = some v ∨ w.heap.size ≤ a.block
theorem Step.own {c : Ctx} {w : World} {c' : Ctx} {w' : World} (h : Step c w c' w') (k : Nat) (ho : c'.own k) (hk : k < w.heap.size) : c.own k := by
 obtain ⟨b, inf, h1, h2, h3⟩ := ho
 obtain ⟨i0, g1, g2, g3⟩ := h.fresh b inf h1 h2 (by omega)
 exact ⟨b, i0, g1, g2, by omega⟩
theorem Step.refl (c : Ctx) (w : World) : Step c w c w :=
 ⟨.refl c, rfl, rfl, rfl, Nat.le_refl _, fun _ _ _ => rfl, fun _ inf h hv _ => ⟨inf, h, hv, rfl⟩, fun _ _ h => .inl h, fun _ _ h => .inl h⟩
theorem Step.trans {c c' c'' : Ctx} {w w' w'' : World} (h : Step c w c' w') (k : Step c' w' c'' w'') : Step c w c'' w'' := by
 refine ⟨h.le.trans k.le, k.os.trans h.os, k.tape.trans h.tape, k.output.trans h.output, Nat.le_trans h.size k.size, fun i hi hn => ?_, fun b inf h1 h2 h3 => ?_, fun a v hv => ?_, fun a v hv => ?_⟩
 ·have h1 := h.kept i hi hn
  have h2 := k.kept i (Nat.lt_of_lt_of_le hi h.size) (fun ho => hn (h.own i ho hi))
  rw [h2, h1]
 ·obtain ⟨i1, g1, g2, g3⟩ := k.fresh b inf h1 h2 (Nat.lt_of_lt_of_le h3 h.size)
  obtain ⟨i0, e1, e2, e3⟩ := h.fresh b i1 g1 g2 (by omega)
  exact ⟨i0, e1, e2, by omega⟩
 ·rcases k.newM a v hv with h1 | h1
  ·exact h.newM a v h1
  ·exact .inr (Nat.le_trans h.size h1)
 ·rcases k.newB a v hv with h1 | h1
  ·exact h.newB a v h1
  ·exact .inr (Nat.le_trans h.size h1)
def gU (c : Ctx) (w : World) (blk off : Nat) (cs : List AV) : Prop :=
 ∀ (j : Nat) (y : AV), cs[j]? = some y → ∃ v, w.cell? ⟨blk, off + j, none⟩ = some v ∧ Rel c y v ∧ v.oneCell' = true
theorem gU.drop {c : Ctx} {w : World} {blk off : Nat} {cs : List AV} (h : gU c w blk off cs) (n : Nat) : gU c w blk (off + n) (cs.drop n) := by
 intro j y hy
 rw [List.getElem?_drop] at hy
 have := h (n + j) y hy
 rwa [← Nat.add_assoc] at this
theorem gU.take {c : Ctx} {w : World} {blk off : Nat} {cs : List AV} (h : gU c w blk off cs) (n : Nat) : gU c w blk off (cs.take n) := by
 intro j y hy
 rw [List.getElem?_take] at hy
 split at hy
 ·exact h j y hy
 ·simp at hy
theorem gU.vals {c : Ctx} {w : World} {blk off : Nat} {cs : List AV} (h : gU c w blk off cs) :
  ∃ vs : List Value, iB c cs vs ∧ (∀ j v, vs[j]? = some v → w.cell? ⟨blk, off + j, none⟩ = some v) ∧ ∀ v ∈ vs, v.oneCell' = true := by
 induction cs generalizing off with
 | nil => exact ⟨[], .nil, by simp, by simp⟩
 | cons y cs ih =>
  obtain ⟨v, h1, h2, h3⟩ := h 0 y rfl
  have h' : gU c w blk (off + 1) cs := by
   intro j z hz
   have := h (j + 1) z (by simpa using hz)
   rwa [show off + (j + 1) = off + 1 + j by omega] at this
  obtain ⟨vs, a, b, d⟩ := ih h'
  refine ⟨v :: vs, .cons h2 a, fun j u hu => ?_, fun u hu => ?_⟩
  ·cases j with
   | zero => simp at hu; subst hu; simpa using h1
   | succ j => simp at hu; have := b j u hu; rwa [show off + 1 + j = off + (j + 1) by omega] at this
  ·rcases List.mem_cons.1 hu with rfl | hu
   ·exact h3
   ·exact d u hu
theorem iB.get {c : Ctx} {xs : List AV} {vs : List Value} (h : iB c xs vs) {i : Nat} {x : AV} (hx : xs[i]? = some x) : ∃ v, vs[i]? = some v ∧ Rel c x v := by
 have hi : i < xs.length := (List.getElem?_eq_some_iff.1 hx).1
 have : i < vs.length := h.1 ▸ hi
 exact ⟨vs[i], List.getElem?_eq_getElem this, h.2 i x _ hx (List.getElem?_eq_getElem this)⟩
theorem CBlk.at {c : Ctx} {inf : Info} {blk : ABlk} {w : World} (h : CBlk c inf blk w) (hv : inf.virt = false) {i : Nat} {x : AV} (hx : blk.elems[i]? = some x) :
  gU c w inf.idx (i * inf.sz) x.cells := by
 intro j y hy
 rw [h.sz]
 exact (h.cells hv i x hx).2 j y hy
theorem CBlk.kept {c c' : Ctx} {inf : Info} {blk : ABlk} {w w' : World} (hle : c.le c') (h : CBlk c inf blk w) (hw : inf.virt = false → w'.heap[inf.idx]? = w.heap[inf.idx]?) :
  CBlk c' inf blk w' := by
 refine ⟨h.ty, h.sz, h.pos, h.len, h.fits, h.virt, h.big, fun hv => ?_, fun hv i x hx => ?_⟩
 ·rw [hw hv]; exact h.real hv
 ·refine ⟨(h.cells hv i x hx).1, fun j y hy => ?_⟩
  obtain ⟨v, h1, h2, h3⟩ := (h.cells hv i x hx).2 j y hy
  refine ⟨v, ?_, h2.mono hle, h3⟩
  rw [World.cell?_of_block (w := w) (a := ⟨inf.idx, i * blk.sz + j, none⟩) (hw hv)]
  exact h1
theorem MBlk.kept {c c' : Ctx} {inf : Info} {blk : ABlk} {w w' : World} (hle : c.le c') (h : MBlk c inf blk w) (hw : inf.virt = false → w'.heap[inf.idx]? = w.heap[inf.idx]?) :
  MBlk c' inf blk w' := by
 obtain ⟨es, clock, h1, h2, h3⟩ := h.real
 refine ⟨h.ty, h.sz, h.virt, h.len, es, clock, by rw [hw h.virt]; exact h1, h2, fun i x hx => ?_⟩
 rcases h3 i x hx with ⟨a, b⟩ | ⟨j, v, a, b⟩
 ·exact .inl ⟨a, b.mono hle⟩
 ·exact .inr ⟨j, v, a, b.mono hle⟩
theorem BlkAt.kept {c c' : Ctx} {inf : Info} {blk : ABlk} {w w' : World} (hle : c.le c') (h : BlkAt c inf blk w) (hw : inf.virt = false → w'.heap[inf.idx]? = w.heap[inf.idx]?) :
  BlkAt c' inf blk w' := ⟨h.len, fun hz => (h.cb hz).kept hle hw, fun hz => (h.mp hz).kept hle hw⟩
theorem Good.step {G : aC} {c c' : Ctx} {w w' : World} (h : Good G c w) (hs : Step c w c' w')
  (hB : ∀ a v, c'.B a = some v → w'.cell? a = some v) (hMB : ∀ a v, c'.M a = some v → c'.B a = some v) (haway : ∀ k, c'.own k → ∀ a, a.block = k → c'.B a = none)
  (hbound : ∀ k, c'.own k → k < w'.heap.size) : Good G c' w' := by
 refine ⟨hB, hMB, haway, fun g a hg => ?_, fun g a hg => ?_, fun g g' a a' h1 h2 => ?_, fun g x hg => ?_, hbound, fun g hg => ?_⟩
 ·rw [hs.le.S] at hg
  obtain ⟨cells, elem, hc⟩ := h.sent g a hg
  have hlt : a.block < w.heap.size := (Array.getElem?_eq_some_iff.1 hc).1
  exact ⟨cells, elem, by rw [hs.kept _ hlt (h.sentAway g a hg)]; exact hc⟩
 ·rw [hs.le.S] at hg
  obtain ⟨cells, elem, hc⟩ := h.sent g a hg
  have hlt : a.block < w.heap.size := (Array.getElem?_eq_some_iff.1 hc).1
  exact fun ho => h.sentAway g a hg (hs.own _ ho hlt)
 ·rw [hs.le.S] at h1 h2
  exact h.sentApart g g' a a' h1 h2
 ·obtain ⟨v, h1, h2⟩ := h.glob g x hg
  exact ⟨v, hs.le.M _ _ h1, h2.mono hs.le⟩
 ·obtain ⟨elem, fr, hc⟩ := h.tab g hg
  obtain ⟨v, h1, _⟩ := h.glob g _ hg
  have hlt : g < w.heap.size := (Array.getElem?_eq_some_iff.1 hc).1
  refine ⟨elem, fr, ?_⟩
  rw [hs.kept g hlt (fun ho => by have := h.away g ho ⟨g, 0, none⟩ rfl; rw [h.MB _ _ h1] at this; cases this)]
  exact hc
theorem Good.world {G : aC} {c : Ctx} {w w' : World} (h : Good G c w) (hs : Step c w c w') : Good G c w' := by
 refine h.step hs (fun a v hv => ?_) h.MB h.away (fun k hk => Nat.lt_of_lt_of_le (h.bound k hk) hs.size)
 have h1 := h.holds a v hv
 have hlt : a.block < w.heap.size := block_lt_of_cell h1
 by_cases ho : c.own a.block
 ·rw [h.away _ ho a rfl] at hv; cases hv
 ·rw [World.cell?_of_block (w := w) (hs.kept _ hlt ho)]; exact h1
theorem Step.setRow {c : Ctx} {w : World} {k : Nat} (ho : c.own k) (cs : Array Value) : Step c w c (w.setRow k cs) :=
 ⟨.refl c, rfl, rfl, rfl, by simp, fun i _ hn => setRow_other w k i cs (fun e => hn (e ▸ ho)), fun _ inf h hv _ => ⟨inf, h, hv, rfl⟩, fun _ _ h => .inl h, fun _ _ h => .inl h⟩
theorem HeapAt.set {c : Ctx} {H : aA} {w : World} {b : Nat} {inf : Info} {blk' : ABlk} {cs : Array Value}
  (h : HeapAt c H w) (hm : c.m b = some inf) (hv : inf.virt = false) (hb : BlkAt c inf blk' (w.setRow inf.idx cs)) : HeapAt c (H.set b blk') (w.setRow inf.idx cs) := by
 refine ⟨fun b' blk'' inf' hH hm' => ?_, h.inj⟩
 by_cases hbb : b = b'
 ·subst hbb
  obtain rfl := Option.some.inj (hm.symm.trans hm')
  have hlt : b < H.length := by have := (List.getElem?_eq_some_iff.1 hH).1; simpa using this
  rw [List.getElem?_set_self hlt] at hH
  obtain rfl := Option.some.inj hH
  exact hb
 ·rw [List.getElem?_set_ne hbb] at hH
  refine (h.blk b' blk'' inf' hH hm').kept (.refl c) (fun hv' => setRow_other w _ _ _ (fun e => hbb ?_))
  exact h.inj b b' inf inf' hm hm' hv hv' e.symm
def Ctx.push (c : Ctx) (n : Nat) (inf : Info) : Ctx := { c with m := fun b => if b = n then some inf else c.m b }
theorem Ctx.push_le {c : Ctx} {n : Nat} {inf : Info} (hn : c.m n = none) : c.le (c.push n inf) := by
 refine ⟨fun b i hb => ⟨i, ?_, rfl, Nat.le_refl _, fun _ => rfl, fun _ => ⟨rfl, rfl⟩⟩, fun _ _ h => h, fun _ _ h => h, rfl⟩
 have : b ≠ n := fun e => by subst e; rw [hn] at hb; cases hb
 simp [Ctx.push, this, hb]
theorem Ctx.push_own {c : Ctx} {n : Nat} {inf : Info} {k : Nat} (h : (c.push n inf).own k) : c.own k ∨ (inf.virt = false ∧ inf.idx = k) := by
 obtain ⟨b, i, hb, hv, hk⟩ := h
 by_cases hbn : b = n
 ·simp [Ctx.push, hbn] at hb; subst hb; exact .inr ⟨hv, hk⟩
 ·simp [Ctx.push, hbn] at hb; exact .inl ⟨b, i, hb, hv, hk⟩
theorem Step.push {c : Ctx} {w : World} {n : Nat} {inf : Info} (o : Obj) (hn : c.m n = none) (hi : inf.virt = false → inf.idx = w.heap.size) : Step c w (c.push n inf) (w.alloc o) := by
 refine ⟨Ctx.push_le hn, rfl, rfl, rfl, by simp, fun k hk _ => heap_alloc_old w o k hk, fun b i hb hv hlt => ?_, fun _ _ h => .inl h, fun _ _ h => .inl h⟩
 by_cases e : b = n
 ·simp [Ctx.push, e] at hb; subst hb
  have := hi hv; omega
 ·simp [Ctx.push, e] at hb
  exact ⟨i, hb, hv, rfl⟩
theorem Good.push {G : aC} {c : Ctx} {w : World} {n : Nat} {inf : Info} (o : Obj) (h : Good G c w) (hn : c.m n = none) (hi : inf.virt = false → inf.idx = w.heap.size) :
  Good G (c.push n inf) (w.alloc o) := by
 refine h.step (Step.push o hn hi) (fun a v hv => ?_) h.MB (fun k hk a ha => ?_) (fun k hk => ?_)
 ·have h1 := h.holds a v hv
  rw [World.cell?_alloc_lt w _ _ (block_lt_of_cell h1)]; exact h1
 ·rcases Ctx.push_own hk with h1 | ⟨h1, h2⟩
  ·exact h.away k h1 a ha
  ·have e := hi h1
   cases hB : (c.push n inf).B a with
   | none => rfl
   | some v => exact absurd (block_lt_of_cell (h.holds a v hB)) (by omega)
 ·rcases Ctx.push_own hk with h1 | ⟨h1, h2⟩
  ·have := h.bound k h1; simp; omega
  ·have := hi h1; simp; omega
theorem CBlk.new {c : Ctx} {w : World} {blk : ABlk} {cap : Nat} {vals : List Value} (hpos : 0 < blk.sz) (hlen : blk.elems.length ≤ cap) (hcap : cap ≤ maxLen)
  (hsz : vals.length = cap * blk.sz)
  (hrel : ∀ (i : Nat) (x : AV), blk.elems[i]? = some x → x.cells.length = blk.sz ∧ ∀ (j : Nat) (y : AV), x.cells[j]? = some y → ∃ v, vals[i * blk.sz + j]? = some v ∧ Rel c y v ∧ v.oneCell' = true)
  {idx : Nat} (hw : w.heap[idx]? = some (.cells vals.toArray blk.ty (0, 0))) :
  CBlk c ⟨idx, cap, blk.ty, blk.sz, blk.elems.length, false⟩ blk w := by
 refine ⟨rfl, rfl, hpos, rfl, hlen, by simp, hcap, fun _ => ⟨_, hw, by simpa using hsz⟩, fun _ i x hx => ?_⟩
 obtain ⟨h1, h2⟩ := hrel i x hx
 refine ⟨h1, fun j y hy => ?_⟩
 obtain ⟨v, e1, e2, e3⟩ := h2 j y hy
 refine ⟨v, ?_, e2, e3⟩
 rw [cell_of_row w idx _ _ blk.ty (0, 0) hw]
 simpa using e1
theorem HeapAt.push {c : Ctx} {H : aA} {w : World} {inf : Info} {blk : ABlk} {o : Obj} (h : HeapAt c H w) {G : aC} (hg : Good G c w)
  (hn : c.m H.length = none) (hi : inf.virt = false → inf.idx = w.heap.size) (hb : BlkAt (c.push H.length inf) inf blk (w.alloc o)) :
  HeapAt (c.push H.length inf) (H ++ [blk]) (w.alloc o) := by
 refine ⟨fun b blk' inf' hH hm => ?_, fun b b' i i' hm hm' hv hv' he => ?_⟩
 ·by_cases hbn : b = H.length
  ·subst hbn
   simp [Ctx.push] at hm; subst hm
   simp at hH; subst hH
   exact hb
  ·simp [Ctx.push, hbn] at hm
   have hlt : b < H.length := by have := (List.getElem?_eq_some_iff.1 hH).1; simp at this; omega
   rw [List.getElem?_append_left hlt] at hH
   refine (h.blk b blk' inf' hH hm).kept (Ctx.push_le hn) (fun hv => heap_alloc_old w o _ (hg.bound _ ⟨b, inf', hm, hv, rfl⟩))
 ·by_cases hbn : b = H.length <;> by_cases hbn' : b' = H.length
  ·rw [hbn, hbn']
  ·simp [Ctx.push, hbn] at hm; subst hm
   simp [Ctx.push, hbn'] at hm'
   have := hg.bound _ ⟨b', i', hm', hv', rfl⟩
   have := hi hv
   omega
  ·simp [Ctx.push, hbn'] at hm'; subst hm'
   simp [Ctx.push, hbn] at hm
   have := hg.bound _ ⟨b, i, hm, hv, rfl⟩
   have := hi hv'
   omega
  ·simp [Ctx.push, hbn] at hm
   simp [Ctx.push, hbn'] at hm'
   exact h.inj b b' i i' hm hm' hv hv' he
def xB : Value → AV
 | .bool b => .bool b
 | .int k n => .int k n
 | .string s => .str s
 | .pointer none => .nilp
 | .slice none 0 0 => .nils
 | .nilFunc => .nilf
 | .nilIface => .nili
 | .func (.func f) a b => if a.size = 0 then if b.size = 0 then .fn f [] else .undef else .undef
 | _ => .undef
def aEC : Value → AV
 | .agg cells => if cells.toList.all Value.oneCell' then .agg (cells.toList.map xB) else .undef
 | .tuple vs => if vs.size = 0 then .tup [] else .undef
 | v => xB v
theorem Rel.roNil (c : Ctx) (bor : Bool) (a : Option Addr) (cap : Nat) : Rel c (.ro bor []) (.slice a 0 cap) :=
 .ro (A := default) (V := fun _ _ => .nilIface) (sz := 0) rfl (Nat.zero_le _) (.inl rfl) rfl (by simp) (by simp) (by simp)
theorem xM (c : Ctx) (v : Value) : Rel c (xB v) v := by
 unfold xB
 split
 ·exact .bool _
 ·exact .int _ _
 ·exact .str _
 ·exact .nilp
 ·exact .nils
 ·exact .nilf
 ·exact .nili
 ·rename_i f a b
  split
  ·rename_i h
   split
   ·rename_i h'
    obtain rfl := Array.size_eq_zero_iff.1 h
    obtain rfl := Array.size_eq_zero_iff.1 h'
    exact .fn (vs := []) rfl (by simp)
   ·exact .undef _
  ·exact .undef _
 ·exact .undef _
theorem pN (c : Ctx) (v : Value) : Rel c (aEC v) v := by
 unfold aEC
 split
 ·rename_i cells
  split
  ·rename_i h
   have := Rel.agg (c := c) (cs := cells.toList.map xB) (vs := cells.toList) (by simp) (fun i x v h1 h2 => by
    simp only [List.getElem?_map, h2, Option.map_some, Option.some.injEq] at h1
    subst h1; exact xM c v) (fun v hv => List.all_eq_true.1 h v hv)
   simpa using this
  ·exact .undef _
 ·rename_i vs
  split
  ·rename_i h
   obtain rfl := Array.size_eq_zero_iff.1 h
   exact .tup (vs := []) rfl (by simp)
  ·exact .undef _
 ·exact xM c v
theorem Rel.of_int {c : Ctx} {k : IntKind} {n : Int} {v : Value} (h : Rel c (.int k n) v) : v = .int k n := by cases h; rfl
theorem Rel.of_bool {c : Ctx} {b : Bool} {v : Value} (h : Rel c (.bool b) v) : v = .bool b := by cases h; rfl
theorem Rel.of_str {c : Ctx} {s : ByteArray} {v : Value} (h : Rel c (.str s) v) : v = .string s := by cases h; rfl
theorem Rel.of_nilp {c : Ctx} {v : Value} (h : Rel c .nilp v) : v = .pointer none := by cases h; rfl
theorem Rel.of_nils {c : Ctx} {v : Value} (h : Rel c .nils v) : v = .slice none 0 0 := by cases h; rfl
theorem Rel.of_anyb {c : Ctx} {v : Value} (h : Rel c .anyb v) : ∃ b, v = .bool b := by cases h; exact ⟨_, rfl⟩
theorem Rel.of_nilf {c : Ctx} {v : Value} (h : Rel c .nilf v) : v = .nilFunc := by cases h; rfl
theorem Rel.of_nili {c : Ctx} {v : Value} (h : Rel c .nili v) : v = .nilIface := by cases h; rfl
theorem Rel.of_iface {c : Ctx} {t : Nat} {x : AV} {v : Value} (h : Rel c (.iface t x) v) : ∃ u, v = .iface t u ∧ Rel c x u := by cases h; exact ⟨_, rfl, ‹_›⟩
theorem Rel.of_gl {c : Ctx} {g : Nat} {v : Value} (h : Rel c (.gl g) v) : v = .pointer (some ⟨g, 0, none⟩) := by cases h; rfl
theorem Rel.of_gp {c : Ctx} {g : Nat} {v : Value} (h : Rel c (.gp g) v) : ∃ a, c.S g = some a ∧ v = .pointer (some a) := by cases h; exact ⟨_, ‹_›, rfl⟩
theorem Rel.of_agg {c : Ctx} {cs : List AV} {v : Value} (h : Rel c (.agg cs) v) : ∃ vs : List Value, v = .agg vs.toArray ∧ iB c cs vs ∧ ∀ u ∈ vs, u.oneCell' = true := by
 cases h; exact ⟨_, rfl, ⟨‹_›, ‹_›⟩, ‹_›⟩
theorem Rel.of_tup {c : Ctx} {cs : List AV} {v : Value} (h : Rel c (.tup cs) v) : ∃ vs : List Value, v = .tuple vs.toArray ∧ iB c cs vs := by
 cases h; exact ⟨_, rfl, ⟨‹_›, ‹_›⟩⟩
theorem Rel.of_fn {c : Ctx} {f : Nat} {cs : List AV} {v : Value} (h : Rel c (.fn f cs) v) : ∃ vs : List Value, v = .func (.func f) #[] vs.toArray ∧ iB c cs vs := by
 cases h; exact ⟨_, rfl, ⟨‹_›, ‹_›⟩⟩
def iS (op : BinOp) (k : IntKind) (a b : Int) : Option AV :=
 match op with
 | .add => some (.int k (k.wrap (a + b)))
 | .sub => some (.int k (k.wrap (a - b)))
 | .mul => some (.int k (k.wrap (a * b)))
 | .quo => if b = 0 then none else some (.int k (k.wrap (a.tdiv b)))
 | .rem => if b = 0 then none else some (.int k (a.tmod b))
 | .and => some (.int k (bits .and k a b))
 | .or => some (.int k (bits .or k a b))
 | .xor => some (.int k (bits .xor k a b))
 | .andNot => some (.int k (bits .andNot k a b))
 | .eql => some (.bool (a == b))
 | .neq => some (.bool (a != b))
 | .lss => some (.bool (decide (a < b)))
 | .leq => some (.bool (decide (a ≤ b)))
 | .gtr => some (.bool (decide (a > b)))
 | .geq => some (.bool (decide (a ≥ b)))
 | _ => none
def sC (op : BinOp) (k : IntKind) (a b : Int) : Option AV :=
 if b < 0 then none else
 match op with
 | .shl => some (.int k (k.wrap (a * 2 ^ min b.toNat k.bits)))
 | .shr => some (.int k (a.fdiv (2 ^ min b.toNat k.bits)))
 | _ => none
def aDn (op : BinOp) (a b : ByteArray) : Option AV :=
 match op with
 | .add => if a.size + b.size ≤ 9223372036854775807 then some (.str (a ++ b)) else none
 | .eql => some (.bool (a.toList == b.toList))
 | .neq => some (.bool !(a.toList == b.toList))
 | _ => none
def kB : AV → AV → Option Bool
 | .bool a, .bool b => some (a == b)
 | .nili, .nili => some true
 | .nili, .iface _ _ => some false
 | .iface _ _, .nili => some false
 | .nilf, .nilf => some true
 | .nilf, .fn _ _ => some false
 | .fn _ _, .nilf => some false
 | .iface t (.gp g), .iface t' (.gp g') => if t = t' then some (g == g') else none
 | _, _ => none
def jG (P : Program) (t : TypeId) : AV → AV → Bool
 | .bool _, .bool _ => match P.underlying t with | some .bool => true | _ => false
 | .nilf, _ => match P.underlying t with | some (.func ..) => true | _ => false
 | .fn .., _ => match P.underlying t with | some (.func ..) => true | _ => false
 | .iface tx (.gp _), .iface .. => (match P.underlying t with | some (.interface _) => true | _ => false) &&
   (match P.info? tx with | some i => i.comparable | none => false) && (match P.underlying tx with | some (.pointer e) => (match P.info? e with | some i => i.size != 0 | none => false) | _ => false)
 | _, _ => match P.underlying t with | some (.interface _) => true | _ => false
def aBb : AV → Option AV
 | .nils => some (.bool true)
 | .ro _ xs => match xs with
  | [] => some .anyb
  | _ :: _ => some (.bool false)
 | .sl _ _ _ n _ => match n with
  | 0 => some .anyb
  | _ + 1 => some (.bool false)
 | _ => none
def aBc : AV → Option AV
 | .nilp => some (.bool true)
 | .ptr .. => some (.bool false)
 | .rp .. => some (.bool false)
 | .gl _ => some (.bool false)
 | .gp _ => some (.bool false)
 | _ => none
def aGu (P : Program) (t : TypeId) : Bool := match P.underlying t with | some (.pointer _) => true | _ => false
theorem rJ {c : Ctx} {x r : AV} (h : aBc x = some r) {v : Value} (hx : Rel c x v) : ∃ a : Option Addr, v = .pointer a ∧ Rel c r (.bool a.isNone) := by
 unfold aBc at h
 split at h
 ·simp at h; subst h; cases hx; exact ⟨none, rfl, .bool true⟩
 ·simp at h; subst h; cases hx <;> exact ⟨_, rfl, .bool false⟩
 ·simp at h; subst h; cases hx; exact ⟨_, rfl, .bool false⟩
 ·simp at h; subst h; cases hx; exact ⟨_, rfl, .bool false⟩
 ·simp at h; subst h; cases hx; exact ⟨_, rfl, .bool false⟩
 ·cases h
theorem lQ {P : Program} (w : World) (t e : TypeId) (a : Option Addr) (h : P.underlying t = some (.pointer e)) : (Op.equal t (.pointer a) (.pointer none)).run P w = .ok a.isNone w := by
 have : ∀ d : Nat, (Op.equalIn (d + 1) t (.pointer a) (.pointer none)).run P w = .ok a.isNone w := fun d => by
  cases a <;> simp [Op.equalIn, run_underlying h]
 exact this 9999
def aJo : AV → AV
 | .bool b => .bool !b
 | x => x
def aCn (P : Program) (t : TypeId) : Bool := match P.underlying t with | some (.slice _) => true | _ => false
theorem rH {c : Ctx} {x r : AV} (h : aBb x = some r) {v : Value} (hx : Rel c x v) : ∃ a n m, v = .slice a n m ∧ Rel c r (.bool a.isNone) := by
 unfold aBb at h
 split at h
 ·simp at h; subst h
  obtain rfl := hx.of_nils
  exact ⟨none, 0, 0, rfl, .bool true⟩
 ·split at h
  ·simp at h; subst h
   cases hx with
   | ro => exact ⟨_, _, _, rfl, .anyb _⟩
  ·simp at h; subst h
   cases hx with
   | ro hn hcap ha hA hsz hrel hm =>
    rcases ha with h0 | rfl
    ·cases h0
    ·exact ⟨_, _, _, rfl, .bool false⟩
 ·split at h
  ·simp at h; subst h
   cases hx with
   | sl => exact ⟨_, _, _, rfl, .anyb _⟩
   | slVirt => exact ⟨_, _, _, rfl, .anyb _⟩
   | slStale => exact ⟨_, _, _, rfl, .anyb _⟩
  ·simp at h; subst h
   cases hx with
   | sl => exact ⟨_, _, _, rfl, .bool false⟩
   | slStale a cap' hm hL hn ha =>
    cases a with
    | none => have := ha rfl; omega
    | some a => exact ⟨_, _, _, rfl, .bool false⟩
 ·cases h
theorem xA {c : Ctx} {x : AV} {b : Bool} (h : Rel c x (.bool b)) : Rel c (aJo x) (.bool !b) := by
 cases h with
 | undef => exact .undef _
 | bool b => exact .bool _
 | anyb b => exact .anyb _
def bC (P : Program) (op : BinOp) (t : TypeId) (cst : Bool) (x y : AV) : Option AV :=
 match x, y with
 | .int k a, .int k' b =>
  match op with
  | .shl => sC .shl k a b
  | .shr => sC .shr k a b
  | op => if k = k' then iS op k a b else none
 | .str a, .str b => aDn op a b
 | .nili, .nili => if cst && jG P t .nili .nili then (match op with | .eql => some (.bool true) | .neq => some (.bool false) | _ => none) else none
 | x, .nils => if aCn P t then (match op with | .eql => aBb x | .neq => (aBb x).map aJo | _ => none) else none
 | x, .nilp => if aGu P t then (match op with | .eql => aBc x | .neq => (aBc x).map aJo | _ => none) else none
 | x, y => if jG P t x y then (match op with | .eql => (kB x y).map .bool | .neq => (kB x y).map fun b => .bool !b | _ => none) else none
def wP : Operand → Bool
 | .const _ => true
 | _ => false
theorem aAD {P : Program} {op : BinOp} {k : IntKind} {a b : Int} {r : AV} (h : iS op k a b = some r) (hs : op ≠ .shl ∧ op ≠ .shr) (c : Ctx) (t : TypeId) (w : World) :
  ∃ v, (binOp op t (.int k a) (.int k b)).run P w = .ok v w ∧ Rel c r v := by
 cases op <;> simp only [iS, Option.some.injEq, reduceCtorEq] at h <;> (first | (exfalso; exact hs.1 rfl) | (exfalso; exact hs.2 rfl) | skip)
 case add => subst h; exact ⟨_, by simp [binOp_add, Op.intArith], .int _ _⟩
 case sub => subst h; exact ⟨_, by simp [binOp_sub, Op.intArith], .int _ _⟩
 case mul => subst h; exact ⟨_, by simp [binOp_mul, Op.intArith], .int _ _⟩
 case quo => split at h; cases h; rename_i h0; simp at h; subst h; exact ⟨_, by simp [binOp_quo, Op.intDiv, h0], .int _ _⟩
 case rem => split at h; cases h; rename_i h0; simp at h; subst h; exact ⟨_, by simp [binOp_rem, Op.intDiv, h0], .int _ _⟩
 case and => subst h; exact ⟨_, by simp [binOp_and, intBits_and], .int _ _⟩
 case or => subst h; exact ⟨_, by simp [binOp_or, intBits_or], .int _ _⟩
 case xor => subst h; exact ⟨_, by simp [binOp_xor, intBits_xor], .int _ _⟩
 case andNot => subst h; exact ⟨_, by simp [binOp_andNot, intBits_andNot], .int _ _⟩
 case eql => subst h; exact ⟨_, by simp [binOp_eql], .bool _⟩
 case neq => subst h; exact ⟨_, by simp [binOp_neq], .bool _⟩
 case lss => subst h; exact ⟨_, by simp [binOp_lss], .bool _⟩
 case leq => subst h; exact ⟨_, by simp [binOp_leq], .bool _⟩
 case gtr => subst h; exact ⟨_, by simp [binOp_gtr], .bool _⟩
 case geq => subst h; exact ⟨_, by simp [binOp_geq], .bool _⟩
theorem oX {P : Program} {op : BinOp} {k yk : IntKind} {a b : Int} {r : AV} (h : sC op k a b = some r) (hs : op = .shl ∨ op = .shr) (c : Ctx) (t : TypeId) (w : World) :
  ∃ v, (binOp op t (.int k a) (.int yk b)).run P w = .ok v w ∧ Rel c r v := by
 unfold sC at h
 split at h
 ·cases h
 ·rename_i h0
  rcases hs with rfl | rfl
  ·simp at h; subst h
   exact ⟨_, by simp [binOp_shl, Op.shift, h0], .int _ _⟩
  ·simp at h; subst h
   exact ⟨_, by simp [binOp_shr, Op.shift, h0], .int _ _⟩
theorem aAE {P : Program} {op : BinOp} {a b : ByteArray} {r : AV} (h : aDn op a b = some r) (c : Ctx) (t : TypeId) (w : World) :
  ∃ v, (binOp op t (.string a) (.string b)).run P w = .ok v w ∧ Rel c r v := by
 cases op <;> simp only [aDn, Option.some.injEq, reduceCtorEq] at h
 case add =>
  split at h
  ·rename_i hl
   simp at h; subst h
   refine ⟨.string (a ++ b), ?_, .str _⟩
   have : ¬ ((9223372036854775807 : Int) < (a.size : Int) + (b.size : Int)) := by omega
   simp [binOp, Op.stringOp, this]
  ·cases h
 case eql => subst h; exact ⟨_, by simp [binOp, Op.stringOp], .bool _⟩
 case neq => subst h; exact ⟨_, by simp [binOp, Op.stringOp], .bool _⟩
theorem kS {P : Program} {t : TypeId} (h : (match P.underlying t with | some (.interface _) => true | _ => false) = true) : ∃ ms, P.underlying t = some (.interface ms) := by
 split at h
 ·exact ⟨_, ‹_›⟩
 ·cases h
theorem oE {P : Program} {t : TypeId} (h : (match P.underlying t with | some (.func ..) => true | _ => false) = true) : ∃ a b c, P.underlying t = some (.func a b c) := by
 split at h
 ·exact ⟨_, _, _, ‹_›⟩
 ·cases h
theorem aCh {P : Program} {t : TypeId} (h : (match P.underlying t with | some .bool => true | _ => false) = true) : P.underlying t = some .bool := by
 split at h
 ·assumption
 ·cases h
theorem mE {P : Program} {t : TypeId} {u v : Value} {b : Bool} {w : World} (h : ∀ d : Nat, (Op.equalIn (d + 1) t u v).run P w = .ok b w) : (Op.equal t u v).run P w = .ok b w := h 9999
theorem lY {P : Program} {t : TypeId} {x y : AV} {b : Bool} (h : kB x y = some b) (ht : jG P t x y = true) {G : aC} {c : Ctx} {w : World} (hg : Good G c w)
  {vx vy : Value} (hx : Rel c x vx) (hy : Rel c y vy) : (Op.equal t vx vy).run P w = .ok b w := by
 unfold kB at h
 split at h
 ·obtain rfl := hx.of_bool; obtain rfl := hy.of_bool
  simp only [jG] at ht
  simp at h; subst h
  exact run_equal_bool w t _ _ (aCh ht)
 ·obtain rfl := hx.of_nili; obtain rfl := hy.of_nili
  simp only [jG] at ht
  obtain ⟨ms, hm⟩ := kS ht
  simp at h; subst h
  exact mE fun d => by simp [Op.equalIn, run_underlying hm]
 ·obtain rfl := hx.of_nili; obtain ⟨u, rfl, _⟩ := hy.of_iface
  simp only [jG] at ht
  obtain ⟨ms, hm⟩ := kS ht
  simp at h; subst h
  exact mE fun d => by simp [Op.equalIn, run_underlying hm]
 ·obtain ⟨u, rfl, _⟩ := hx.of_iface; obtain rfl := hy.of_nili
  have ht' : (match P.underlying t with | some (.interface _) => true | _ => false) = true := by
   unfold jG at ht; split at ht <;> first | (simp_all; done) | exact ht
  obtain ⟨ms, hm⟩ := kS ht'
  simp at h; subst h
  exact mE fun d => by simp [Op.equalIn, run_underlying hm]
 ·obtain rfl := hx.of_nilf; obtain rfl := hy.of_nilf
  simp only [jG] at ht
  obtain ⟨_, _, _, hm⟩ := oE ht
  simp at h; subst h
  exact mE fun d => by simp [Op.equalIn, run_underlying hm]
 ·obtain rfl := hx.of_nilf; obtain ⟨u, rfl, _⟩ := hy.of_fn
  simp only [jG] at ht
  obtain ⟨_, _, _, hm⟩ := oE ht
  simp at h; subst h
  exact mE fun d => by simp [Op.equalIn, run_underlying hm]
 ·obtain ⟨u, rfl, _⟩ := hx.of_fn; obtain rfl := hy.of_nilf
  simp only [jG] at ht
  obtain ⟨_, _, _, hm⟩ := oE ht
  simp at h; subst h
  exact mE fun d => by simp [Op.equalIn, run_underlying hm]
 ·rename_i tx g ty g'
  split at h
  ·rename_i he; subst he
   simp at h; subst h
   obtain ⟨u, rfl, hu⟩ := hx.of_iface; obtain ⟨u', rfl, hu'⟩ := hy.of_iface
   obtain ⟨a, ha, rfl⟩ := hu.of_gp; obtain ⟨a', ha', rfl⟩ := hu'.of_gp
   simp only [jG, Bool.and_eq_true] at ht
   obtain ⟨⟨h1, h2⟩, h3⟩ := ht
   obtain ⟨ms, hm⟩ := kS h1
   split at h2
   case h_2 => cases h2
   rename_i i hi
   split at h3
   case h_2 => cases h3
   rename_i e hp
   split at h3
   case h_2 => cases h3
   rename_i j hj
   have hsz : j.size ≠ 0 := by simpa using h3
   by_cases hgg : g = g'
   ·subst hgg
    obtain rfl := Option.some.inj (ha.symm.trans ha')
    have := run_equalIn_iface_ptr_same w 9998 a hm hp hi h2 hj
    have e : (g == g) = true := by simp
    rw [e]; exact this
   ·obtain ⟨ca, ta, hca⟩ := hg.sent g a ha
    obtain ⟨cb, tb, hcb⟩ := hg.sent g' a' ha'
    have hne := hg.sentApart g g' a a' ha ha' hgg
    have := run_equalIn_iface_ptr_other w 9998 hm hp hi h2 hj hsz hne hca hcb
    have e : (g == g') = false := by simpa using hgg
    rw [e]; exact this
  ·cases h
 ·cases h
theorem aCf {op : BinOp} {t : TypeId} {ox oy : Operand} (h : (wP ox || wP oy) = true) : eqGuard op t ox oy .nilIface .nilIface = pure () := by
 cases ox <;> cases oy <;> simp [wP] at h <;> first | exact eqGuard_nil_constL .. | exact eqGuard_nil_constR ..
theorem aAF {P : Program} {op : BinOp} {t : TypeId} {x y : AV} {r : AV} {G : aC} {c : Ctx} {w : World} (hg : Good G c w) {vx vy : Value} (hx : Rel c x vx) (hy : Rel c y vy)
  (ht : jG P t x y = true) (hr : (match op with | .eql => (kB x y).map .bool | .neq => (kB x y).map fun b => .bool !b | _ => none) = some r)
  (he : binOp .eql t vx vy = (do pure (.bool (← Op.equal t vx vy)))) (hn : binOp .neq t vx vy = (do pure (.bool (!(← Op.equal t vx vy))))) :
  ∃ v, (binOp op t vx vy).run P w = .ok v w ∧ Rel c r v := by
 cases op <;> simp only [reduceCtorEq] at hr
 case eql =>
  obtain ⟨b, hb, rfl⟩ := Option.map_eq_some_iff.1 hr
  have := lY hb ht hg hx hy
  exact ⟨_, by rw [he]; simp [this], .bool _⟩
 case neq =>
  obtain ⟨b, hb, rfl⟩ := Option.map_eq_some_iff.1 hr
  have := lY hb ht hg hx hy
  exact ⟨_, by rw [hn]; simp [this], .bool _⟩
theorem zK {P : Program} {op : BinOp} {t : TypeId} {cst : Bool} {x y : AV} {r : AV} (h : bC P op t cst x y = some r) {G : aC} {c : Ctx} {w : World} (hg : Good G c w)
  {vx vy : Value} (hx : Rel c x vx) (hy : Rel c y vy) (ox oy : Operand) (hc : cst = true → (wP ox || wP oy) = true) :
  ∃ v, (do eqGuard op t ox oy vx vy; binOp op t vx vy : Sem Value).run P w = .ok v w ∧ Rel c r v := by
 unfold bC at h
 split at h
 ·obtain rfl := hx.of_int; obtain rfl := hy.of_int
  rename_i k a k' b
  simp only [eqGuard_at_int]
  split at h
  ·obtain ⟨v, h1, h2⟩ := oX (P := P) (yk := k') h (.inl rfl) c t w
   exact ⟨v, by simpa using h1, h2⟩
  ·obtain ⟨v, h1, h2⟩ := oX (P := P) (yk := k') h (.inr rfl) c t w
   exact ⟨v, by simpa using h1, h2⟩
  ·rename_i h1 h2
   split at h
   ·rename_i e; subst e
    obtain ⟨v, h3, h4⟩ := aAD (P := P) h ⟨h1, h2⟩ c t w
    exact ⟨v, by simpa using h3, h4⟩
   ·cases h
 ·obtain rfl := hx.of_str; obtain rfl := hy.of_str
  obtain ⟨v, h1, h2⟩ := aAE (P := P) h c t w
  exact ⟨v, by simpa [eqGuard_at_string] using h1, h2⟩
 ·obtain rfl := hx.of_nili; obtain rfl := hy.of_nili
  split at h
  ·rename_i hcc
   simp only [Bool.and_eq_true] at hcc
   rw [aCf (hc hcc.1)]
   have he : (Op.equal t .nilIface .nilIface).run P w = .ok true w := lY (x := .nili) (y := .nili) rfl hcc.2 hg .nili .nili
   cases op <;> simp only [Option.some.injEq, reduceCtorEq] at h
   case eql => subst h; exact ⟨.bool true, by simp [binOp, he], .bool _⟩
   case neq => subst h; exact ⟨.bool false, by simp [binOp, he], .bool _⟩
  ·cases h
 ·obtain rfl := hy.of_nils
  split at h
  case isFalse => cases h
  rename_i ht
  obtain ⟨e, hd⟩ : ∃ e, P.underlying t = some (.slice e) := by
   unfold aCn at ht
   split at ht
   ·exact ⟨_, ‹_›⟩
   ·cases ht
  cases op <;> simp only [reduceCtorEq] at h
  case eql =>
   obtain ⟨a, n, m, rfl, h2⟩ := rH h hx
   exact ⟨.bool a.isNone, by simp [eqGuard_at_slice, binOp, run_equal_slice_nil w t e a n m hd], h2⟩
  case neq =>
   obtain ⟨b, hb, rfl⟩ := Option.map_eq_some_iff.1 h
   obtain ⟨a, n, m, rfl, h2⟩ := rH hb hx
   exact ⟨.bool !a.isNone, by simp [eqGuard_at_slice, binOp, run_equal_slice_nil w t e a n m hd], xA h2⟩
 ·obtain rfl := hy.of_nilp
  split at h
  case isFalse => cases h
  rename_i ht
  obtain ⟨e, hd⟩ : ∃ e, P.underlying t = some (.pointer e) := by
   unfold aGu at ht
   split at ht
   ·exact ⟨_, ‹_›⟩
   ·cases ht
  cases op <;> simp only [reduceCtorEq] at h
  case eql =>
   obtain ⟨a, rfl, h2⟩ := rJ h hx
   exact ⟨.bool a.isNone, by simp [eqGuard_at_pointer, binOp, lQ w t e a hd], h2⟩
  case neq =>
   obtain ⟨b, hb, rfl⟩ := Option.map_eq_some_iff.1 h
   obtain ⟨a, rfl, h2⟩ := rJ hb hx
   exact ⟨.bool !a.isNone, by simp [eqGuard_at_pointer, binOp, lQ w t e a hd], xA h2⟩
 ·rename_i n1 n2 n3 n4 n5
  split at h
  case isFalse => cases h
  rename_i ht
  have go : ∀ (hgd : eqGuard op t ox oy vx vy = pure ()), binOp .eql t vx vy = (do pure (.bool (← Op.equal t vx vy))) → binOp .neq t vx vy = (do pure (.bool (!(← Op.equal t vx vy)))) →
    ∃ v, (do eqGuard op t ox oy vx vy; binOp op t vx vy : Sem Value).run P w = .ok v w ∧ Rel c r v := by
   intro hgd he hn
   rw [hgd]
   obtain ⟨v, h1, h2⟩ := aAF hg hx hy ht h he hn
   exact ⟨v, by simpa using h1, h2⟩
  have hsome : (kB x y).isSome = true := by
   cases op <;> simp only [reduceCtorEq] at h <;> (obtain ⟨b, hb, _⟩ := Option.map_eq_some_iff.1 h; rw [hb]; rfl)
  unfold kB at hsome
  split at hsome
  ·obtain rfl := hx.of_bool; obtain rfl := hy.of_bool
   exact go (eqGuard_at_bool ..) (by simp [binOp]) (by simp [binOp])
  ·first | exact (n4 rfl rfl).elim | exact (n5 rfl rfl).elim | exact (n3 rfl rfl).elim | exact (n2 rfl rfl).elim
  ·obtain rfl := hx.of_nili; obtain ⟨u, rfl, _⟩ := hy.of_iface
   exact go (eqGuard_nil_iface ..) (by simp [binOp]) (by simp [binOp])
  ·obtain ⟨u, rfl, _⟩ := hx.of_iface; obtain rfl := hy.of_nili
   exact go (eqGuard_at_iface ..) (by simp [binOp]) (by simp [binOp])
  ·obtain rfl := hx.of_nilf; obtain rfl := hy.of_nilf
   exact go (eqGuard_at_nilFunc ..) (by simp [binOp]) (by simp [binOp])
  ·obtain rfl := hx.of_nilf; obtain ⟨u, rfl, _⟩ := hy.of_fn
   exact go (eqGuard_at_nilFunc ..) (by simp [binOp]) (by simp [binOp])
  ·obtain ⟨u, rfl, _⟩ := hx.of_fn; obtain rfl := hy.of_nilf
   exact go (eqGuard_at_func ..) (by simp [binOp]) (by simp [binOp])
  ·obtain ⟨u, rfl, _⟩ := hx.of_iface; obtain ⟨u', rfl, _⟩ := hy.of_iface
   exact go (eqGuard_at_iface ..) (by simp [binOp]) (by simp [binOp])
  ·cases hsome
def un (op : UnOp) (x : AV) : Option AV :=
 match op, x with
 | .neg, .int k n => some (.int k (k.wrap (0 - n)))
 | .xor, .int k n => some (.int k (bits .xor k (if k.signed then -1 else k.max) n))
 | .not, .bool b => some (.bool !b)
 | .not, .anyb => some .anyb
 | _, _ => none
theorem aCV {P : Program} {op : UnOp} {x r : AV} (h : un op x = some r) {c : Ctx} {w : World} {vx : Value} (hx : Rel c x vx) :
  ∃ v, (Op.unary op vx).run P w = .ok v w ∧ Rel c r v := by
 unfold un at h
 split at h
 ·obtain rfl := hx.of_int; simp at h; subst h
  exact ⟨_, by simp [Op.unary, Op.intArith], .int _ _⟩
 ·obtain rfl := hx.of_int; simp at h; subst h
  exact ⟨_, by simp [Op.unary, intBits_xor], .int _ _⟩
 ·obtain rfl := hx.of_bool; simp at h; subst h
  exact ⟨_, by simp [Op.unary], .bool _⟩
 ·obtain ⟨b, rfl⟩ := hx.of_anyb; simp at h; subst h
  exact ⟨.bool !b, by simp [Op.unary], .anyb _⟩
 ·cases h
def dL (c a b : AV) : Option AV :=
 match c with
 | .bool t => some (bif t then a else b)
 | _ => none
def cX (t : AV) (i : Nat) : Option AV :=
 match t with
 | .tup vs => vs[i]?
 | _ => none
theorem oG {P : Program} {x r : AV} {i : Nat} (h : cX x i = some r) {c : Ctx} {w : World} {vx : Value} (hx : Rel c x vx) :
  ∃ v, (Instr.extract vx i).run P w = .ok v w ∧ Rel c r v := by
 unfold cX at h
 split at h
 ·obtain ⟨vs, rfl, hr⟩ := hx.of_tup
  obtain ⟨v, h1, h2⟩ := hr.get h
  exact ⟨v, by simp [Instr.extract, h1], h2⟩
 ·cases h
def vG (P : Program) (t : Nat) : Option Nat := (P.info? t).map (·.size)
def vS (P : Program) (t : Nat) : Option Bool := (P.underlying t).map fun | .struct _ => true | .array _ _ => true | _ => false
theorem kD {P : Program} {t s : Nat} (h : vG P t = some s) (w : World) : (sizeOf t).run P w = .ok s w := by
 unfold vG at h
 obtain ⟨i, hi, rfl⟩ := Option.map_eq_some_iff.1 h
 simp [sizeOf, typeInfo, hi]
theorem kV {P : Program} {t : Nat} {b : Bool} (h : vS P t = some b) (w : World) : (isAgg t).run P w = .ok b w := by
 unfold vS at h
 obtain ⟨d, hd, rfl⟩ := Option.map_eq_some_iff.1 h
 cases d <;> simp [isAgg, run_underlying hd]
def kJ (agg : Bool) (size : Nat) (cs : List AV) (o : Nat) : Option AV :=
 match agg with
 | true => if o + size ≤ cs.length then some (.agg ((cs.drop o).take size)) else none
 | false => cs[o]?
def aEG (P : Program) (t : Nat) (cs : List AV) (o : Nat) : Option AV :=
 match vS P t, vG P t with
 | some a, some s => kJ a s cs o
 | _, _ => none
theorem uB {P : Program} {t o : Nat} {cs : List AV} {r : AV} (h : aEG P t cs o = some r) {c : Ctx} {w : World} {vs : List Value} (hr : iB c cs vs) (h1 : ∀ u ∈ vs, u.oneCell' = true) :
  ∃ v, (part t vs.toArray o).run P w = .ok v w ∧ Rel c r v := by
 unfold aEG at h
 split at h
 case h_2 => cases h
 rename_i a s ha hs
 cases a with
 | true =>
  simp only [kJ] at h
  split at h
  ·rename_i hl
   simp at h; subst h
   refine ⟨.agg ((vs.drop o).take s).toArray, ?_, .agg ?_ ?_ ?_⟩
   ·simp only [part, Sem.run_bind, kV ha, Result.andThen_ok, if_true, kD hs, Sem.run_pure]
    have : (vs.toArray).extract o (o + s) = ((vs.drop o).take s).toArray := by
     simp [List.extract_toArray, List.extract]
    rw [this]
   ·have := hr.1
    simp only [List.length_take, List.length_drop]
    omega
   ·intro i x v hx hv
    rw [List.getElem?_take] at hx hv
    split at hx
    ·rw [List.getElem?_drop] at hx hv
     simp only [*, if_true] at hv
     exact hr.2 _ _ _ hx hv
    ·cases hx
   ·intro v hv
    exact h1 v (List.mem_of_mem_drop (List.mem_of_mem_take hv))
  ·cases h
 | false =>
  simp only [kJ] at h
  obtain ⟨v, h2, h3⟩ := hr.get h
  exact ⟨v, by simp [part, kV ha, h2], h3⟩
def aGe (g : Bool) (s off : Nat) (x : AV) : Option AV :=
 match x with
 | .agg cs => kJ g s cs off
 | _ => none
def aDx (P : Program) (t : Nat) (x : AV) (f : Nat) : Option AV :=
 match P.underlying t with
 | some (.struct fs) => match fs[f]? with
  | some f => match vS P f.type, vG P f.type with
   | some g, some s => aGe g s f.offset x
   | _, _ => none
  | none => none
 | _ => none
theorem qY {P : Program} {t f : Nat} {x r : AV} (h : aDx P t x f = some r) {c : Ctx} {w : World} {vx : Value} (hx : Rel c x vx) :
  ∃ v, (Instr.field t vx f).run P w = .ok v w ∧ Rel c r v := by
 unfold aDx at h
 split at h
 case h_2 => cases h
 rename_i fs hfs
 split at h
 case h_2 => cases h
 rename_i fd hfd
 split at h
 case h_2 => cases h
 rename_i g s hg hs
 unfold aGe at h
 split at h
 case h_2 => cases h
 obtain ⟨vs, rfl, hr, h1⟩ := hx.of_agg
 obtain ⟨v, e1, e2⟩ := uB (P := P) (t := fd.type) (by unfold aEG; rw [hg, hs]; exact h) (w := w) hr h1
 exact ⟨v, by simp [Instr.field, run_underlying hfs, hfd, asAgg, e1], e2⟩
def aGr (g : Bool) (s len : Nat) (x i : AV) : Option AV :=
 match x, i with
 | .agg cs, .int _ n => if 0 ≤ n ∧ n < len then kJ g s cs (n.toNat * s) else none
 | _, _ => none
def aAY (x i : AV) : Option AV :=
 match x, i with
 | .str s, .int _ n => (if 0 ≤ n then s[n.toNat]? else none).map fun b => .int .u8 b.toNat
 | _, _ => none
def aDB (P : Program) (t : Nat) (x i : AV) : Option AV :=
 match P.underlying t with
 | some (.array len e) => match vS P e, vG P e with
  | some g, some s => aGr g s len x i
  | _, _ => none
 | some .string => aAY x i
 | _ => none
theorem rF {P : Program} {t : Nat} {x i r : AV} (h : aDB P t x i = some r) {c : Ctx} {w : World} {vx vi : Value} (hx : Rel c x vx) (hi : Rel c i vi) :
  ∃ v, (Instr.index t vx vi).run P w = .ok v w ∧ Rel c r v := by
 unfold aDB at h
 split at h
 ·rename_i len e hd
  split at h
  case h_2 => cases h
  rename_i g s hg hs
  unfold aGr at h
  split at h
  case h_2 => cases h
  obtain rfl := hi.of_int
  obtain ⟨vs, rfl, hr, h1⟩ := hx.of_agg
  split at h
  case isFalse => cases h
  rename_i hn
  obtain ⟨v, e1, e2⟩ := uB (P := P) (t := e) (by unfold aEG; rw [hg, hs]; exact h) (w := w) hr h1
  exact ⟨v, by simp [Instr.index, asIntOf, run_underlying hd, hn, kD hs, e1], e2⟩
 ·rename_i hd
  unfold aAY at h
  split at h
  case h_2 => cases h
  obtain rfl := hi.of_int
  obtain rfl := hx.of_str
  obtain ⟨b, hb, rfl⟩ := Option.map_eq_some_iff.1 h
  exact ⟨_, by simp [Instr.index, asIntOf, run_underlying hd, hb], .int _ _⟩
 ·cases h
def aF (off : Nat) (x : AV) : Option AV :=
 match x with
 | .ptr b L i o => some (.ptr b L i (o + off))
 | .rp bor x o => some (.rp bor x (o + off))
 | _ => none
def qH (P : Program) (t : Nat) (x : AV) (f : Nat) : Option AV :=
 match P.underlying t with
 | some (.struct fs) => match fs[f]? with
  | some f => match vG P f.type with
   | some s => if s = 0 then none else aF f.offset x
   | none => none
  | none => none
 | _ => none
theorem mF {P : Program} {t f : Nat} {x r : AV} (h : qH P t x f = some r) {c : Ctx} {w : World} {vx : Value} (hx : Rel c x vx) :
  ∃ v, (Instr.fieldAt t vx f).run P w = .ok v w ∧ Rel c r v := by
 unfold qH at h
 split at h
 case h_2 => cases h
 rename_i fs hfs
 split at h
 case h_2 => cases h
 rename_i fd hfd
 split at h
 case h_2 => cases h
 rename_i s hs
 split at h
 case isTrue => cases h
 rename_i hs0
 have run : ∀ a : Addr, (Instr.fieldAt t (.pointer (some a)) f).run P w = .ok (.pointer (some (a.add fd.offset))) w := fun a => by
  simp [Instr.fieldAt, run_underlying hfs, hfd, Instr.sureAddr, fieldPlace, kD hs, hs0]
 unfold aF at h
 split at h
 ·simp at h; subst h
  cases hx with
  | ptr hm hL hv hz => exact ⟨_, run _, by rw [Addr.add_lit, Nat.add_assoc]; exact .ptr hm hL hv hz⟩
  | ptrStale a hm hL => exact ⟨_, run _, .ptrStale _ hm hL⟩
 ·simp at h; subst h
  cases hx with
  | rp h1 h2 => exact ⟨_, run _, by rw [Addr.add_lit, Nat.add_assoc]; exact .rp h1 h2⟩
 ·cases h
def jB (s : Nat) (xs : List AV) : Bool := xs.all fun x => x.cells.length == s
def aM (s : Nat) (x i : AV) : Option AV :=
 match x, i with
 | .ro bor xs, .int _ n => if 0 ≤ n then (match xs[n.toNat]? with | some y => if y.cells.length = s then some (.rp bor y 0) else none | none => none) else none
 | .sl b L o m sz, .int _ n => if 0 ≤ n ∧ n < m then if sz = s then some (.ptr b L (o + n.toNat) 0) else none else none
 | _, _ => none
def wL (len s : Nat) (x i : AV) : Option AV :=
 match x, i with
 | .ptr b L k o, .int _ n => if 0 ≤ n ∧ n < len then some (.ptr b L k (o + n.toNat * s)) else none
 | .rp bor y o, .int _ n => if 0 ≤ n ∧ n < len then some (.rp bor y (o + n.toNat * s)) else none
 | _, _ => none
def qJ (P : Program) (t : Nat) (x i : AV) : Option AV :=
 match P.underlying t with
 | some (.slice e) => match vG P e with
  | some s => aM s x i
  | none => none
 | some (.array len e) => match vG P e with
  | some s => wL len s x i
  | none => none
 | _ => none
theorem mH {P : Program} {t : Nat} {x i r : AV} (h : qJ P t x i = some r) {c : Ctx} {w : World} {vx vi : Value} (hx : Rel c x vx) (hi : Rel c i vi) :
  ∃ v, (Instr.indexAt t vx vi).run P w = .ok v w ∧ Rel c r v := by
 unfold qJ at h
 split at h
 ·rename_i e hd
  split at h
  case h_2 => cases h
  rename_i s hs
  have hd' : P.underlying t = some (.slice (P.elem t)) := by simp [Program.elem, hd]
  have he : P.elem t = e := by simp [Program.elem, hd]
  have run : ∀ (k : IntKind) (n : Int) (a : Addr) (len cap : Nat), 0 ≤ n ∧ n < len → (Instr.indexAt t (.slice (some a) len cap) (.int k n)).run P w = .ok (.pointer (some (a.add (n.toNat * s)))) w := fun k n a len cap hn => by
   rw [run_indexAt_slice w t a len cap k n hd', if_pos hn, he, kD hs]; rfl
  unfold aM at h
  split at h
  ·rename_i bor xs k n
   obtain rfl := hi.of_int
   split at h
   case isFalse => cases h
   rename_i hn0
   split at h
   case h_2 => cases h
   rename_i y hy
   split at h
   case isFalse => cases h
   rename_i hys
   simp at h; subst h
   have hlt : n.toNat < xs.length := (List.getElem?_eq_some_iff.1 hy).1
   cases hx with
   | ro hn hcap ha hA hsz hh hm =>
    rename_i a len cap sz A V
    have ha' : a = some A := by
     rcases ha with rfl | ha
     ·simp at hlt
     ·exact ha
    subst ha'
    have hszs : sz = s := by rw [← hsz _ _ hy, hys]
    subst hszs
    refine ⟨_, run k n A len cap ⟨hn0, by omega⟩, ?_⟩
    have := Rel.rp (c := c) (bor := bor) (x := y) (o := 0) (A := ⟨A.block, A.off + n.toNat * sz, none⟩) (V := V n.toNat) (fun j z hz => hh _ _ _ _ hy hz) (fun j z hz => hm _ _ _ _ hy hz)
    obtain ⟨blk, off, spot⟩ := A
    simp only at hA
    subst hA
    rw [Addr.add_lit]
    simpa using this
  ·rename_i b L o m sz k n
   obtain rfl := hi.of_int
   split at h
   case isFalse => cases h
   rename_i hn
   split at h
   case isFalse => cases h
   rename_i hsz'
   simp at h; subst h
   subst hsz'
   cases hx with
   | sl hm hL hv hsz ho hcap hnc ha hz =>
    rename_i inf a cap'
    refine ⟨_, run _ _ _ _ _ hn, ?_⟩
    rcases ha with rfl | ⟨rfl, _⟩
    ·rw [Addr.add_lit]
     have := Rel.ptr (c := c) (b := b) (L := L) (i := o + n.toNat) (o := 0) hm hL hv hz
     rw [hsz] at this
     rw [← Nat.add_mul]
     simpa using this
    ·omega
   | slVirt hm hL hv hsz => omega
   | slStale a cap' hm hL hnc ha =>
    cases a with
    | none => have := ha rfl; omega
    | some a => exact ⟨_, run _ _ _ _ _ hn, .ptrStale _ hm hL⟩
  ·cases h
 ·rename_i len e hd
  split at h
  case h_2 => cases h
  rename_i s hs
  have hd' : P.underlying t = some (.array (P.arrayLen t) (P.elem t)) := by simp [Program.elem, Program.arrayLen, hd]
  have he : P.elem t = e := by simp [Program.elem, hd]
  have hl : P.arrayLen t = len := by simp [Program.arrayLen, hd]
  have run : ∀ (k : IntKind) (n : Int) (a : Addr), 0 ≤ n ∧ n < len → (Instr.indexAt t (.pointer (some a)) (.int k n)).run P w = .ok (.pointer (some (a.add (n.toNat * s)))) w := fun k n a hn => by
   rw [run_indexAt_array w t a k n hd', hl, if_pos hn, he, kD hs]; rfl
  unfold wL at h
  split at h
  ·obtain rfl := hi.of_int
   split at h
   case isFalse => cases h
   rename_i hn
   simp at h; subst h
   cases hx with
   | ptr hm hL hv hz => exact ⟨_, run _ _ _ hn, by rw [Addr.add_lit, Nat.add_assoc]; exact .ptr hm hL hv hz⟩
   | ptrStale a hm hL => exact ⟨_, run _ _ _ hn, .ptrStale _ hm hL⟩
  ·obtain rfl := hi.of_int
   split at h
   case isFalse => cases h
   rename_i hn
   simp at h; subst h
   cases hx with
   | rp h1 h2 => exact ⟨_, run _ _ _ hn, by rw [Addr.add_lit, Nat.add_assoc]; exact .rp h1 h2⟩
  ·cases h
 ·cases h
def iM (d : Nat) : Option AV → Option Nat
 | none => some d
 | some (.int _ n) => if 0 ≤ n then some n.toNat else none
 | _ => none
def fO (s : Nat) (x : AV) (lo hi : Option AV) : Option AV :=
 match x with
 | .ro bor xs => match iM 0 lo, iM xs.length hi with
  | some l, some h => if l ≤ h ∧ h ≤ xs.length ∧ jB s xs = true then some (.ro bor ((xs.drop l).take (h - l))) else none
  | _, _ => none
 | .sl b L o n sz => match iM 0 lo, iM n hi with
  | some l, some h => if l ≤ h ∧ h ≤ n ∧ sz = s then some (.sl b L (o + l) (h - l) sz) else none
  | _, _ => none
 | .nils => match iM 0 lo, iM 0 hi with
  | some l, some h => if l ≤ h ∧ h ≤ 0 then some .nils else none
  | _, _ => none
 | _ => none
def aCU (x : AV) (lo hi : Option AV) : Option AV :=
 match x with
 | .str s => match iM 0 lo, iM s.size hi with
  | some l, some h => if l ≤ h ∧ h ≤ s.size then some (.str (s.extract l h)) else none
  | _, _ => none
 | _ => none
def aDW (P : Program) (t : Nat) (x : AV) (lo hi : Option AV) : Option AV :=
 match P.underlying t with
 | some (.slice e) => match vG P e with
  | some s => fO s x lo hi
  | none => none
 | some .string => aCU x lo hi
 | _ => none
theorem pD {P : Program} {c : Ctx} {w : World} {lo : Option AV} {vlo : Option Value} {d l y : Nat} (h : iM d lo = some l)
  (hr : ∀ x, lo = some x → ∃ v, vlo = some v ∧ Rel c x v) (hn : lo = none → vlo = none) (hl : l ≤ y) (code : BoundsCode) :
  (vlo = none ∧ l = d) ∨ (∃ v, vlo = some v ∧ (Instr.sliceBound v y code).run P w = .ok l w) := by
 unfold iM at h
 split at h
 ·exact .inl ⟨hn rfl, by simpa using h.symm⟩
 ·rename_i k n
  split at h
  ·rename_i h0
   obtain ⟨v, e, hv⟩ := hr _ rfl
   obtain rfl := hv.of_int
   have h1 : n.toNat = l := by simpa using h
   have h2 : n ≤ (y : Int) := by omega
   refine .inr ⟨_, e, ?_⟩
   simp [Instr.sliceBound, asIntOf, h0, h2, h1]
  ·cases h
 ·cases h
theorem mP {P : Program} {c : Ctx} {w : World} {t e s : Nat} (hd : P.underlying t = some (.slice e)) (hs : vG P e = some s) {lo hi : Option AV} {vlo vhi : Option Value} {len cap l h : Nat}
  (hlo : iM 0 lo = some l) (hhi : iM len hi = some h) (hlh : l ≤ h) (hhl : h ≤ cap)
  (rlo : ∀ x, lo = some x → ∃ v, vlo = some v ∧ Rel c x v) (nlo : lo = none → vlo = none) (rhi : ∀ x, hi = some x → ∃ v, vhi = some v ∧ Rel c x v) (nhi : hi = none → vhi = none) (a : Option Addr) :
  (Instr.sliceAt t (.slice a len cap) vlo vhi none).run P w = .ok (.slice (if cap = l then a else a.map (·.add (l * s))) (h - l) (cap - l)) w := by
 have h1 : (Instr.sliceBounds true len cap vlo vhi none).run P w = .ok (l, h, cap) w := by
  rcases pD (P := P) (w := w) hhi rhi nhi hhl .sliceAcap with ⟨e1, e2⟩ | ⟨v, e1, e2⟩ <;>
  rcases pD (P := P) (w := w) hlo rlo nlo hlh .sliceB with ⟨f1, f2⟩ | ⟨u, f1, f2⟩
  ·subst e1 f1 e2 f2; simp [Instr.sliceBounds]
  ·subst e1 f1 e2; simp [Instr.sliceBounds, f2]
  ·subst e1 f1 f2; simp [Instr.sliceBounds, e2]
  ·subst e1 f1; simp [Instr.sliceBounds, e2, f2]
 simp [Instr.sliceAt, Instr.slice, run_underlying hd, h1, kD hs]
theorem sD {P : Program} {t : Nat} {x r : AV} {lo hi : Option AV} (h : aDW P t x lo hi = some r) {c : Ctx} {w : World} {vx : Value} {vlo vhi : Option Value} (hx : Rel c x vx)
  (rlo : ∀ x, lo = some x → ∃ v, vlo = some v ∧ Rel c x v) (nlo : lo = none → vlo = none) (rhi : ∀ x, hi = some x → ∃ v, vhi = some v ∧ Rel c x v) (nhi : hi = none → vhi = none) :
  ∃ v, (Instr.sliceAt t vx vlo vhi none).run P w = .ok v w ∧ Rel c r v := by
 unfold aDW at h
 split at h
 rename_i e hd
 split at h
 case h_2 => cases h
 rename_i s hs
 unfold fO at h
 split at h
 ·rename_i bor xs
  split at h
  case h_2 => cases h
  rename_i l hh hl hhi
  split at h
  case isFalse => cases h
  rename_i hc
  obtain ⟨hlh, hhx, hall⟩ := hc
  simp at h; subst h
  cases hx with
  | ro hn hcap ha hA hsz hrel hm =>
   rename_i a len cap sz A V
   subst hn
   refine ⟨_, mP hd hs hl hhi hlh (by omega) rlo nlo rhi nhi a, ?_⟩
   by_cases hxs : xs = []
   ·subst hxs
    simp at hhx
    subst hhx
    simp at hlh
    subst hlh
    simpa using Rel.roNil c bor _ _
   ·have hszs : sz = s := by
     obtain ⟨y, ys, rfl⟩ := List.exists_cons_of_ne_nil hxs
     have h1 := hsz 0 y rfl
     simp [jB] at hall
     omega
    subst hszs
    have ha' : a = some A := ha.resolve_left hxs
    subst ha'
    by_cases hem : (xs.drop l).take (hh - l) = []
    ·rw [hem]
     have : hh - l = 0 := by
      have := congrArg List.length hem
      simp at this
      omega
     rw [this]
     exact Rel.roNil ..
    ·have hne : cap ≠ l := fun e => hem (by
      apply List.eq_nil_of_length_eq_zero
      simp; omega)
     rw [if_neg hne]
     refine .ro (A := A.add (l * sz)) (V := fun i => V (l + i)) (sz := sz) (by simp; omega) (by omega) (.inr rfl) ?_ ?_ ?_ ?_
     ·unfold Addr.add; split <;> simp_all
     ·intro i x hx
      rw [List.getElem?_take] at hx
      split at hx
      ·rw [List.getElem?_drop] at hx; exact hsz _ _ hx
      ·cases hx
     ·intro i x j y hx hy
      rw [List.getElem?_take] at hx
      split at hx
      ·rw [List.getElem?_drop] at hx; exact hrel _ _ _ _ hx hy
      ·cases hx
     ·intro i x j y hx hy
      rw [List.getElem?_take] at hx
      split at hx
      ·rw [List.getElem?_drop] at hx
       have := hm _ _ _ _ hx hy
       obtain ⟨blk, off, spot⟩ := A
       simp only at hA; subst hA
       rw [Addr.add_lit]
       rw [show off + l * sz + i * sz + j = off + (l + i) * sz + j by rw [Nat.add_mul]; omega]
       exact this
      ·cases hx
 ·rename_i b L o n sz
  split at h
  case h_2 => cases h
  rename_i l hh hl hhi
  split at h
  case isFalse => cases h
  rename_i hc
  obtain ⟨hlh, hhn, rfl⟩ := hc
  simp at h; subst h
  cases hx with
  | sl hm hL hv hsz ho hcap hnc ha hz =>
   rename_i inf a cap'
   refine ⟨_, mP hd hs hl hhi hlh (by omega) rlo nlo rhi nhi (some a), ?_⟩
   by_cases hcl : cap' = l
   ·rw [if_pos hcl]
    refine .sl hm hL hv hsz (by omega) (by omega) (by omega) ?_ hz
    by_cases h0 : o + l = 0
    ·rcases ha with rfl | h1
     ·exact .inl (by rw [show l = 0 by omega, show o = 0 by omega])
     ·omega
    ·exact .inr ⟨by omega, h0⟩
   ·rw [if_neg hcl]
    rcases ha with rfl | h0
    ·simp only [Option.map_some, Addr.add_lit]
     exact .sl hm hL hv hsz (by omega) (by omega) (by omega) (.inl (by rw [Nat.add_mul])) hz
    ·omega
  | slVirt hm hL hv hsz =>
   refine ⟨_, mP hd hs hl hhi hlh (by omega) rlo nlo rhi nhi none, ?_⟩
   obtain rfl : hh = 0 := by omega
   obtain rfl : l = 0 := by omega
   exact .slVirt hm hL hv hsz
  | slStale a cap' hm hL hnc ha =>
   refine ⟨_, mP hd hs hl hhi hlh (by omega) rlo nlo rhi nhi a, ?_⟩
   refine .slStale _ _ hm hL (by omega) (fun hn => ?_)
   cases a with
   | none => have := ha rfl; omega
   | some a => split at hn <;> simp at hn
 ·split at h
  case h_2 => cases h
  rename_i l hh hl hhi
  split at h
  case isFalse => cases h
  rename_i hc
  simp at h; subst h
  obtain rfl := hx.of_nils
  obtain ⟨hlh, hhx⟩ := hc
  obtain rfl : hh = 0 := by omega
  obtain rfl : l = 0 := by omega
  refine ⟨_, mP hd hs hl hhi hlh (by omega) rlo nlo rhi nhi none, ?_⟩
  simpa using Rel.nils
 ·cases h
 ·rename_i hd
  unfold aCU at h
  split at h
  case h_2 => cases h
  rename_i s
  obtain rfl := hx.of_str
  split at h
  case h_2 => cases h
  rename_i l hh hl hhi
  split at h
  case isFalse => cases h
  rename_i hc
  simp at h; subst h
  have h1 : (Instr.sliceBounds false s.size s.size vlo vhi none).run P w = .ok (l, hh, s.size) w := by
   rcases pD (P := P) (w := w) hhi rhi nhi hc.2 .sliceAlen with ⟨e1, e2⟩ | ⟨v, e1, e2⟩ <;>
   rcases pD (P := P) (w := w) hl rlo nlo hc.1 .sliceB with ⟨f1, f2⟩ | ⟨u, f1, f2⟩
   ·subst e1 f1 e2 f2; simp [Instr.sliceBounds]
   ·subst e1 f1 e2; simp [Instr.sliceBounds, f2]
   ·subst e1 f1 f2; simp [Instr.sliceBounds, e2]
   ·subst e1 f1; simp [Instr.sliceBounds, e2, f2]
  exact ⟨.string (s.extract l hh), by simp [Instr.sliceAt, Instr.slice, run_underlying hd, h1], .str _⟩
 ·cases h
def cB (x : AV) : Option AV :=
 match x with
 | .ro _ xs => some (.int .i64 xs.length)
 | .sl _ _ _ n _ => some (.int .i64 n)
 | .nils => some (.int .i64 0)
 | _ => none
def aGw (x : AV) : Option AV :=
 match x with
 | .str s => some (.int .i64 s.size)
 | _ => none
def aJj (P : Program) (t : Nat) (x : AV) : Option AV :=
 match P.underlying t with
 | some (.slice _) => cB x
 | some .string => aGw x
 | some (.array n _) => some (.int .i64 n)
 | _ => none
theorem wT {P : Program} {t ty : Nat} {x r : AV} (h : aJj P t x = some r) {c : Ctx} {w : World} {vx : Value} (hx : Rel c x vx) :
  ∃ v, (Builtin.len_ #[t] ty #[vx]).run P w = .ok v w ∧ Rel c r v := by
 unfold aJj at h
 split at h
 ·rename_i e hd
  unfold cB at h
  split at h
  ·simp at h; subst h
   cases hx with
   | ro hn => subst hn; exact ⟨_, by simp [Builtin.len_, run_underlying hd, goInt], .int _ _⟩
  ·simp at h; subst h
   cases hx <;> exact ⟨_, by simp [Builtin.len_, run_underlying hd, goInt], .int _ _⟩
  ·simp at h; subst h
   obtain rfl := hx.of_nils
   exact ⟨_, by simp [Builtin.len_, run_underlying hd, goInt], .int _ _⟩
  ·cases h
 ·rename_i hd
  unfold aGw at h
  split at h
  ·obtain rfl := hx.of_str
   simp at h; subst h
   exact ⟨_, by simp [Builtin.len_, run_underlying hd, goInt], .int _ _⟩
  ·cases h
 ·rename_i n e hd
  simp at h; subst h
  exact ⟨_, by cases vx <;> simp [Builtin.len_, run_underlying hd, goInt], .int _ _⟩
 ·cases h
def aGz : AV → AV → Option AV
 | .int k x, .int _ y => some (.int k (if y < x then y else x))
 | _, _ => none
def rO : AV → AV → Option AV
 | .int k x, .int _ y => some (.int k (if y > x then y else x))
 | _, _ => none
def nN (f : AV → AV → Option AV) : AV → List AV → Option AV
 | a, [] => some a
 | a, b :: l => (f a b).bind fun x => nN f x l
theorem kH {P : Program} {f : AV → AV → Option AV} {g : Value → Value → Sem Value} {c : Ctx} {w : World}
  (hf : ∀ x y r vx vy, f x y = some r → Rel c x vx → Rel c y vy → ∃ v, (g vx vy).run P w = .ok v w ∧ Rel c r v) :
  ∀ (l : List AV) (vl : List Value) (a : AV) (va : Value) (r : AV), nN f a l = some r → Rel c a va → iB c l vl → ∃ v, (vl.foldlM g va).run P w = .ok v w ∧ Rel c r v
 | [], vl, a, va, r, h, ha, hl => by
  have : vl = [] := List.eq_nil_of_length_eq_zero (by rw [← hl.1]; rfl)
  subst this
  simp [nN] at h; subst h
  exact ⟨va, by simp, ha⟩
 | b :: l, vl, a, va, r, h, ha, hl => by
  cases vl with
  | nil => have := hl.1; simp at this
  | cons vb vl =>
   simp only [nN] at h
   obtain ⟨x, hx, hr⟩ := Option.bind_eq_some_iff.1 h
   obtain ⟨v, e1, e2⟩ := hf _ _ _ _ _ hx ha hl.head
   obtain ⟨u, g1, g2⟩ := kH hf l vl x v r hr e2 hl.tail
   exact ⟨u, by simp [List.foldlM_cons, e1, g1], g2⟩
theorem tW {P : Program} {x y r : AV} (h : aGz x y = some r) {c : Ctx} {w : World} {vx vy : Value} (hx : Rel c x vx) (hy : Rel c y vy) :
  ∃ v, (Builtin.min2 vx vy).run P w = .ok v w ∧ Rel c r v := by
 unfold aGz at h
 split at h
 ·obtain rfl := hx.of_int; obtain rfl := hy.of_int
  simp at h; subst h
  exact ⟨_, by simp [Builtin.min2], .int _ _⟩
 ·cases h
theorem tV {P : Program} {x y r : AV} (h : rO x y = some r) {c : Ctx} {w : World} {vx vy : Value} (hx : Rel c x vx) (hy : Rel c y vy) :
  ∃ v, (Builtin.max2 vx vy).run P w = .ok v w ∧ Rel c r v := by
 unfold rO at h
 split at h
 ·obtain rfl := hx.of_int; obtain rfl := hy.of_int
  simp at h; subst h
  exact ⟨_, by simp [Builtin.max2], .int _ _⟩
 ·cases h
def gL (k : IntKind) (x : AV) : Option AV :=
 match x with
 | .int _ n => some (.int k (k.wrap n))
 | _ => none
def aEs (x : AV) : Option AV :=
 match x with
 | .str s => some (.str s)
 | _ => none
def aGa (P : Program) (src dst : Nat) (x : AV) : Option AV :=
 match P.underlying src, P.underlying dst with
 | some _, some (.int k) => gL k x
 | some _, some .string => aEs x
 | _, _ => none
theorem tM {P : Program} {src dst : Nat} {x r : AV} (h : aGa P src dst x = some r) {c : Ctx} {w : World} {vx : Value} (hx : Rel c x vx) :
  ∃ v, (convert src dst vx).run P w = .ok v w ∧ Rel c r v := by
 unfold aGa at h
 split at h
 ·rename_i d k hd hk
  unfold gL at h
  split at h
  ·obtain rfl := hx.of_int
   simp at h; subst h
   exact ⟨_, by simp [convert, run_underlying hd, run_underlying hk, Conv.intToInt], .int _ _⟩
  ·cases h
 ·rename_i d hd hk
  unfold aEs at h
  split at h
  ·obtain rfl := hx.of_str
   simp at h; subst h
   exact ⟨_, by simp [convert, run_underlying hd, run_underlying hk], .str _⟩
  ·cases h
 ·cases h
def aAZ (P : Program) (t : Nat) (x : AV) : Option AV :=
 match P.underlying t with
 | some (.interface _) => none
 | some _ => some (.iface t x)
 | none => none
theorem rE {P : Program} {t : Nat} {x r : AV} (h : aAZ P t x = some r) {c : Ctx} {w : World} {vx : Value} (hx : Rel c x vx) :
  ∃ v, (Instr.makeInterface t vx).run P w = .ok v w ∧ Rel c r v := by
 unfold aAZ at h
 split at h
 ·cases h
 ·rename_i d hd hn
  simp at h; subst h
  refine ⟨.iface t vx, ?_, .iface hx⟩
  cases d <;> first | (simp [Instr.makeInterface, run_underlying hn]; done) | exact absurd rfl (hd _)
 ·cases h
def lH (P : Program) (t : Nat) : Option AV := (P.info? t).bind fun i => i.zero.map aEC
theorem mS {P : Program} {t : Nat} {z : AV} (h : lH P t = some z) (w : World) : ∃ v, (zeroValue t).run P w = .ok v w ∧ ∀ c, Rel c z v := by
 unfold lH at h
 obtain ⟨i, hi, hz⟩ := Option.bind_eq_some_iff.1 h
 obtain ⟨v, hv, rfl⟩ := Option.map_eq_some_iff.1 hz
 exact ⟨v, by simp [zeroValue, typeInfo, hi, hv], fun c => pN c v⟩
def aAB (asserted : Nat) (z : AV) (commaOk : Bool) (x : AV) : Option AV :=
 match x with
 | .nili => if commaOk then some (.tup [z, .bool false]) else none
 | .iface t v => if t = asserted then some (if commaOk then .tup [v, .bool true] else v) else
   if commaOk then some (.tup [z, .bool false]) else none
 | _ => none
def aAA (P : Program) (x : AV) (asserted : Nat) (commaOk : Bool) : Option AV :=
 match P.underlying asserted with
 | some (.interface _) => none
 | none => none
 | some _ => match lH P asserted with
  | some z => aAB asserted z commaOk x
  | none => none
theorem xN {c : Ctx} {x y : AV} {u v : Value} (hx : Rel c x u) (hy : Rel c y v) : Rel c (.tup [x, y]) (.tuple #[u, v]) := by
 have := iB.cons hx (iB.cons hy iB.nil)
 exact .tup (vs := [u, v]) this.1 this.2
theorem pU {P : Program} {x r : AV} {xt asserted : Nat} {commaOk : Bool} (h : aAA P x asserted commaOk = some r) {c : Ctx} {w : World} {vx : Value} (hx : Rel c x vx) :
  ∃ v, (Instr.typeAssert vx xt asserted commaOk).run P w = .ok v w ∧ Rel c r v := by
 unfold aAA at h
 split at h
 ·cases h
 ·cases h
 rename_i d hni hd
 split at h
 case h_2 => cases h
 rename_i z hz
 obtain ⟨v, e1, e2⟩ := mS hz w
 unfold aAB at h
 split at h
 ·obtain rfl := hx.of_nili
  split at h
  ·rename_i hc
   simp at h; subst h
   refine ⟨_, ?_, xN (e2 c) (.bool _)⟩
   subst hc
   cases d <;> first | (simp [Instr.typeAssert, run_underlying hd, e1]; done) | exact (hni _ rfl).elim
  ·cases h
 ·obtain ⟨u, rfl, hu⟩ := hx.of_iface
  rename_i t' v'
  split at h
  ·rename_i ht; subst ht
   simp at h; subst h
   refine ⟨if commaOk then .tuple #[u, .bool true] else u, ?_, ?_⟩
   ·cases d <;> first | (simp [Instr.typeAssert, run_underlying hd]; done) | exact (hni _ rfl).elim
   ·cases commaOk
    ·exact hu
    ·exact xN hu (.bool _)
  ·rename_i ht
   split at h
   ·rename_i hc
    simp at h; subst h
    refine ⟨_, ?_, xN (e2 c) (.bool _)⟩
    subst hc
    cases d <;> first | (simp [Instr.typeAssert, run_underlying hd, ht, e1]; done) | exact (hni _ rfl).elim
   ·cases h
 ·cases h
theorem tU {P : Program} {t o size : Nat} {agg : Bool} {cs : List AV} {r : AV} (h : kJ agg size cs o = some r) (ha : vS P t = some agg) (hs : vG P t = some size)
  {c : Ctx} {w : World} {blk off : Nat} (hc : gU c w blk off cs) :
  ∃ v, (loadVar t ⟨blk, off + o, none⟩).run P w = .ok v w ∧ Rel c r v := by
 cases agg with
 | true =>
  simp only [kJ] at h
  split at h
  case isFalse => cases h
  rename_i hl
  simp at h; subst h
  obtain ⟨vs, hr, hv, h1⟩ := ((hc.drop o).take size).vals
  refine ⟨.agg vs.toArray, ?_, .agg hr.1 hr.2 h1⟩
  have hlen : vs.length = size := by rw [← hr.1]; simp; omega
  have := run_loadCells_list (P := P) w ⟨blk, off + o, none⟩ vs (fun j v hj => by rw [Addr.add_lit]; exact hv j v hj)
  rw [hlen] at this
  simp [loadVar, kV ha, kD hs, this]
 | false =>
  simp only [kJ] at h
  obtain ⟨v, h1, h2, h3⟩ := hc o r h
  exact ⟨v, by simp [loadVar, kV ha, h1], h2⟩
def aH (G : aC) (g : Bool) (s : Nat) (a : AV) (H : aA) : Option AV :=
 match a with
 | .ptr b L i o => match H[b]? with
  | some blk => if blk.elems.length = L then (match blk.elems[i]? with | some x => kJ g s x.cells o | none => none) else none
  | none => none
 | .rp _ x o => kJ g s x.cells o
 | .gl k => match g with | true => none | false => G k
 | _ => none
def oM (P : Program) (G : aC) (t : Nat) (a : AV) (H : aA) : Option AV :=
 match vS P t, vG P t with
 | some g, some s => aH G g s a H
 | _, _ => none
theorem HeapAt.valid {c : Ctx} {H : aA} {w : World} (h : HeapAt c H w) {b : Nat} {blk : ABlk} (hb : H[b]? = some blk) {inf : Info} (hm : c.m b = some inf) : inf.len = blk.elems.length :=
 (h.blk b blk inf hb hm).len
theorem oN {P : Program} {G : aC} {t : Nat} {a r : AV} {H : aA} (h : oM P G t a H = some r) {c : Ctx} {w : World} (hg : Good G c w) (hH : HeapAt c H w) {va : Value} (ha : Rel c a va) :
  ∃ v, (Instr.loadAt t va).run P w = .ok v w ∧ Rel c r v := by
 unfold oM at h
 split at h
 case h_2 => cases h
 rename_i g s hag hsz
 unfold aH at h
 split at h
 ·rename_i b L i o
  split at h
  case h_2 => cases h
  rename_i blk hb
  split at h
  case isFalse => cases h
  rename_i hL
  split at h
  case h_2 => cases h
  rename_i x hx
  cases ha with
  | ptr hm hl hv hz =>
   have hB := (hH.blk _ _ _ hb hm).cb hz
   obtain ⟨v, e1, e2⟩ := tU (P := P) h hag hsz (hB.at hv hx)
   exact ⟨v, by simpa [Instr.loadAt, Instr.sureAddr] using e1, e2⟩
  | ptrStale a hm hl =>
   have := hH.valid hb hm
   omega
 ·rename_i bor x o
  cases ha with
  | rp h1 h2 =>
   rename_i A V
   have hc : gU c w A.block A.off x.cells := fun j y hy => by
    obtain ⟨e1, e2⟩ := h2 j y hy
    have : c.B ⟨A.block, A.off + j, none⟩ = some (V j) := by
     cases bor
     ·exact hg.MB _ _ e1
     ·exact e1
    exact ⟨V j, hg.holds _ _ this, h1 j y hy, e2⟩
   obtain ⟨v, e1, e2⟩ := tU (P := P) h hag hsz hc
   exact ⟨v, by simpa [Instr.loadAt, Instr.sureAddr] using e1, e2⟩
 ·split at h
  ·cases h
  ·rename_i k
   obtain rfl := ha.of_gl
   obtain ⟨v, e1, e2⟩ := hg.glob _ _ h
   have := hg.holds _ _ (hg.MB _ _ e1)
   exact ⟨v, by simp [Instr.loadAt, Instr.sureAddr, loadVar, kV hag, this], e2⟩
 ·cases h
def fP : AV → Bool
 | .undef => false
 | .tup _ => false
 | _ => true
theorem fV {c : Ctx} {x : AV} {v : Value} (hs : fP x = true) (h : Rel c x v) :
  ∃ vs : List Value, v.cells = vs.toArray ∧ iB c x.cells vs ∧ ∀ u ∈ vs, u.oneCell' = true := by
 have single : ∀ (y : AV) (u : Value), Rel c y u → y.cells = [y] → u.cells = #[u] → u.oneCell' = true → ∃ vs : List Value, u.cells = vs.toArray ∧ iB c y.cells vs ∧ ∀ z ∈ vs, z.oneCell' = true :=
  fun y u hr e1 e2 e3 => ⟨[u], by rw [e2], by rw [e1]; exact .cons hr .nil, by simpa using e3⟩
 cases h with
 | undef v => cases hs
 | tup => cases hs
 | agg hl hh h1 => exact ⟨_, rfl, ⟨hl, hh⟩, h1⟩
 | bool b => exact single _ _ (.bool b) rfl rfl rfl
 | int k n => exact single _ _ (.int k n) rfl rfl rfl
 | str s => exact single _ _ (.str s) rfl rfl rfl
 | nilp => exact single _ _ .nilp rfl rfl rfl
 | nilf => exact single _ _ .nilf rfl rfl rfl
 | nili => exact single _ _ .nili rfl rfl rfl
 | fn hl hh => exact single _ _ (.fn hl hh) rfl rfl rfl
 | iface hh => exact single _ _ (.iface hh) rfl rfl rfl
 | ptr a b d hz => exact single _ _ (.ptr a b d hz) rfl rfl rfl
 | ptrStale a b d => exact single _ _ (.ptrStale a b d) rfl rfl rfl
 | sl a b d e f g i j hz => exact single _ _ (.sl a b d e f g i j hz) rfl rfl rfl
 | slVirt a b d e => exact single _ _ (.slVirt a b d e) rfl rfl rfl
 | slStale a b d e f g => exact single _ _ (.slStale a b d e f g) rfl rfl rfl
 | ro a b d e f g i => exact single _ _ (.ro a b d e f g i) rfl rfl rfl
 | rp a b => exact single _ _ (.rp a b) rfl rfl rfl
 | gl g => exact single _ _ (.gl g) rfl rfl rfl
 | gp hh => exact single _ _ (.gp hh) rfl rfl rfl
 | nils => exact single _ _ .nils rfl rfl rfl
 | anyb b => exact single _ _ (.anyb b) rfl rfl rfl
 | mp a b d => exact single _ _ (.mp a b d) rfl rfl rfl
 | emp a => exact single _ _ (.emp a) rfl rfl rfl
def kN (x : AV) (cs : List AV) : AV :=
 match x with
 | .agg _ => .agg cs
 | _ => match cs with | y :: _ => y | [] => .undef
def jU (cs : List AV) (o : Nat) (new : List AV) : List AV := cs.take o ++ (new ++ cs.drop (o + new.length))
def cH (s : Nat) (a v : AV) (H : aA) : Option aA :=
 match a with
 | .ptr b L i o => match H[b]? with
  | some blk => if blk.elems.length = L ∧ fP v = true ∧ v.cells.length = s then
    (match blk.elems[i]? with
     | some x => if o + s ≤ x.cells.length then some (H.set b { blk with elems := blk.elems.set i (kN x (jU x.cells o v.cells)) }) else none
     | none => none) else none
  | none => none
 | _ => none
def oY (P : Program) (t : Nat) (a v : AV) (H : aA) : Option aA :=
 match vG P t with
 | some s => cH s a v H
 | none => none
theorem uD {cs new : List AV} {o : Nat} (h : o + new.length ≤ cs.length) : (jU cs o new).length = cs.length := by
 simp [jU]; omega
theorem sA {x : AV} {cs : List AV} (h : cs.length = x.cells.length) (hone : ∀ y ∈ cs, y.cells = [y] ∨ ∃ l, x = .agg l) : (kN x cs).cells = cs := by
 cases x
 case agg l => rfl
 all_goals
  simp only [AV.cells, List.length_singleton] at h
  obtain ⟨y, rfl⟩ := List.length_eq_one_iff.1 h
  rcases hone y (by simp) with h1 | ⟨l, h1⟩
  ·simpa [kN] using h1
  ·cases h1
theorem aCE {cs new : List AV} {o j : Nat} (h : o + new.length ≤ cs.length) :
  (jU cs o new)[j]? = if o ≤ j ∧ j < o + new.length then new[j - o]? else cs[j]? := by
 unfold jU
 by_cases h1 : j < o
 ·rw [List.getElem?_append_left (by simp; omega), List.getElem?_take, if_pos h1, if_neg (by omega)]
 ·rw [List.getElem?_append_right (by simp; omega)]
  have e : (cs.take o).length = o := by simp; omega
  rw [e]
  by_cases h2 : j < o + new.length
  ·rw [List.getElem?_append_left (by omega), if_pos (by omega)]
  ·rw [List.getElem?_append_right (by omega), List.getElem?_drop, if_neg (by omega)]
   congr 1; omega
theorem iW {c : Ctx} {y : AV} {v : Value} (h : Rel c y v) (h1 : v.oneCell' = true) : y.cells = [y] := by
 cases h <;> first | rfl | (cases h1)
theorem aFF {i k sz j o n : Nat} (hk : k ≠ i) (hj : j < sz) (ho : o + n ≤ sz) : ¬ (i * sz + o ≤ k * sz + j ∧ k * sz + j < i * sz + o + n) := by
 intro ⟨h1, h2⟩
 rcases Nat.lt_or_gt_of_ne hk with h | h
 ·have := Nat.mul_le_mul_right sz (show k + 1 ≤ i by omega)
  rw [Nat.add_mul] at this
  omega
 ·have := Nat.mul_le_mul_right sz (show i + 1 ≤ k by omega)
  rw [Nat.add_mul] at this
  omega
theorem aHf {i n cap sz o s : Nat} (hi : i < n) (hn : n ≤ cap) (ho : o + s ≤ sz) : i * sz + o + s ≤ cap * sz := by
 have := Nat.mul_le_mul_right sz (show i + 1 ≤ cap by omega)
 rw [Nat.add_mul] at this
 omega
theorem xX {α : Type} (cur vs : List α) (k j : Nat) (h : k + vs.length ≤ cur.length) :
  (cur.take k ++ vs ++ cur.drop (k + vs.length))[j]? = if k ≤ j ∧ j < k + vs.length then vs[j - k]? else cur[j]? := by
 rw [List.append_assoc]
 by_cases h1 : j < k
 ·rw [List.getElem?_append_left (by simp; omega), List.getElem?_take, if_pos h1, if_neg (by omega)]
 ·rw [List.getElem?_append_right (by simp; omega)]
  have e : (cur.take k).length = k := by simp; omega
  rw [e]
  by_cases h2 : j < k + vs.length
  ·rw [List.getElem?_append_left (by omega), if_pos (by omega)]
  ·rw [List.getElem?_append_right (by omega), List.getElem?_drop, if_neg (by omega)]
   congr 1; omega
theorem sE {P : Program} {G : aC} {t : Nat} {a v : AV} {H H' : aA} (h : oY P t a v H = some H') {c : Ctx} {w : World} (hg : Good G c w) (hH : HeapAt c H w)
  {va vv : Value} (ha : Rel c a va) (hv : Rel c v vv) :
  ∃ w', (Instr.storeAt t va vv).run P w = .ok () w' ∧ Step c w c w' ∧ Good G c w' ∧ HeapAt c H' w' := by
 unfold oY at h
 split at h
 case h_2 => cases h
 rename_i s hs
 unfold cH at h
 split at h
 case h_2 => cases h
 rename_i b L i o
 split at h
 case h_2 => cases h
 rename_i blk hb
 split at h
 case isFalse => cases h
 rename_i hc
 obtain ⟨hL, hst, hlen⟩ := hc
 split at h
 case h_2 => cases h
 rename_i x hx
 split at h
 case isFalse => cases h
 rename_i hfit
 simp at h; subst h
 obtain ⟨vs, hvs, hrel, h1⟩ := fV hst hv
 have hvl : vs.length = s := by rw [← hrel.1, hlen]
 cases ha with
 | ptrStale a hm hl => have := hH.valid hb hm; omega
 | ptr hm hl hvirt hz =>
  rename_i inf
  have hB := (hH.blk _ _ _ hb hm).cb hz
  obtain ⟨cur, hcur, hsize⟩ := hB.real hvirt
  have hi : i < blk.elems.length := (List.getElem?_eq_some_iff.1 hx).1
  have hxs : x.cells.length = blk.sz := (hB.cells hvirt i x hx).1
  have hfits : i * inf.sz + o + s ≤ inf.cap * inf.sz := aHf hi hB.fits (by rw [hB.sz, ← hxs]; exact hfit)
  have hrun := run_storeCells_at P inf.idx (i * inf.sz + o) inf.ty vs 0 cur w hcur (by rw [hsize, hvl]; simpa using hfits) h1
  simp only [Nat.add_zero] at hrun
  have ho : c.own inf.idx := ⟨b, inf, hm, hvirt, rfl⟩
  have hstep := Step.setRow (c := c) (w := w) ho (cur.toList.take (i * inf.sz + o) ++ vs ++ cur.toList.drop (i * inf.sz + o + vs.length)).toArray
  refine ⟨_, ?_, hstep, hg.world hstep, ?_⟩
  ·have : vv.cells.size = s := by rw [hvs]; simpa using hvl
   simp [Instr.storeAt, Instr.sureAddr, storeVar, kD hs, this]
   rw [hvs]
   simpa using hrun
  ·refine hH.set hm hvirt (CBlk.to ?_)
   have hcells : (kN x (jU x.cells o v.cells)).cells = jU x.cells o v.cells := by
    refine sA (uD (by omega)) (fun y hy => ?_)
    simp only [jU, List.mem_append] at hy
    rcases hy with hy | hy | hy
    ·obtain ⟨j, hj⟩ := List.mem_iff_getElem?.1 (List.mem_of_mem_take hy)
     obtain ⟨u, _, g2, g3⟩ := (hB.cells hvirt i x hx).2 j y hj
     exact .inl (iW g2 g3)
    ·obtain ⟨j, hj⟩ := List.mem_iff_getElem?.1 hy
     obtain ⟨u, g1, g2⟩ := hrel.get hj
     exact .inl (iW g2 (h1 u (List.mem_of_getElem? g1)))
    ·obtain ⟨j, hj⟩ := List.mem_iff_getElem?.1 (List.mem_of_mem_drop hy)
     obtain ⟨u, _, g2, g3⟩ := (hB.cells hvirt i x hx).2 j y hj
     exact .inl (iW g2 g3)
   have hlen' : (cur.toList.take (i * inf.sz + o) ++ vs ++ cur.toList.drop (i * inf.sz + o + vs.length)).length = cur.size := by
    simp; omega
   refine ⟨hB.ty, hB.sz, hB.pos, by simpa using hB.len, by simpa using hB.fits, hB.virt, hB.big, fun _ => ⟨_, setRow_heap w _ cur _ _ _ hcur, ?_⟩, fun _ k y hy => ?_⟩
   ·rw [List.size_toArray, hlen', hsize]
   ·have cell : ∀ j, (w.setRow inf.idx (cur.toList.take (i * inf.sz + o) ++ vs ++ cur.toList.drop (i * inf.sz + o + vs.length)).toArray).cell? ⟨inf.idx, j, none⟩ =
      if i * inf.sz + o ≤ j ∧ j < i * inf.sz + o + vs.length then vs[j - (i * inf.sz + o)]? else w.cell? ⟨inf.idx, j, none⟩ := by
     intro j
     rw [cell_setRow_same w _ _ cur _ _ _ hcur, cell_of_row w _ _ _ _ _ hcur, List.getElem?_toArray, xX _ _ _ _ (by simp; omega)]
     simp
    by_cases hki : k = i
    ·subst hki
     rw [List.getElem?_set_self hi] at hy
     obtain rfl := Option.some.inj hy
     rw [hcells]
     refine ⟨by rw [uD (by omega)]; exact hxs, fun j z hz => ?_⟩
     rw [aCE (by omega)] at hz
     rw [cell, ← hB.sz]
     split at hz
     ·rename_i hj
      rw [if_pos (by omega)]
      obtain ⟨u, g1, g2⟩ := hrel.get hz
      refine ⟨u, ?_, g2, h1 u (List.mem_of_getElem? g1)⟩
      rw [← g1]; congr 1; omega
     ·rename_i hj
      rw [if_neg (by omega)]
      have := (hB.cells hvirt k x hx).2 j z hz
      rwa [← hB.sz] at this
    ·rw [List.getElem?_set_ne (Ne.symm hki)] at hy
     obtain ⟨q1, q2⟩ := hB.cells hvirt k y hy
     refine ⟨q1, fun j z hz => ?_⟩
     have hj : j < blk.sz := by rw [← q1]; exact (List.getElem?_eq_some_iff.1 hz).1
     rw [cell, if_neg (by rw [hB.sz]; exact aFF hki hj (by omega))]
     exact q2 j z hz
def gD (t : Nat) (v : AV) (H : aA) : Option (AV × aA) :=
 if fP v = true ∧ 0 < v.cells.length then some (.ptr H.length 1 0 0, H ++ [{ ty := t, sz := v.cells.length, elems := [v] }]) else none
structure Made (G : aC) (c : Ctx) (H : aA) (w : World) (r : AV) (H' : aA) (v : Value) (w' : World) (c' : Ctx) : Prop where
 step : Step c w c' w'
 good : Good G c' w'
 heap : HeapAt c' H' w'
 rel : Rel c' r v
 same : ∀ b, b ≠ H.length → c'.m b = c.m b
 quiet : ∀ k, k < w.heap.size → w'.heap[k]? = w.heap[k]?
 ext : H' = H ∨ ∃ blk, H' = H ++ [blk]
 keepm : H' = H → c'.m H.length = c.m H.length
theorem mK {G : aC} {c : Ctx} {H : aA} {w : World} (hg : Good G c w) (hH : HeapAt c H w) (hn : c.m H.length = none) {blk : ABlk} {cap : Nat} {vals : List Value}
  (hpos : 0 < blk.sz) (hlen : blk.elems.length ≤ cap) (hcap : cap ≤ maxLen) (hsz : vals.length = cap * blk.sz)
  (hrel : ∀ (i : Nat) (x : AV), blk.elems[i]? = some x → x.cells.length = blk.sz ∧ ∀ (j : Nat) (y : AV), x.cells[j]? = some y → ∃ v, vals[i * blk.sz + j]? = some v ∧ Rel c y v ∧ v.oneCell' = true)
  {r : AV} {v : Value} (hr : Rel (c.push H.length ⟨w.heap.size, cap, blk.ty, blk.sz, blk.elems.length, false⟩) r v) :
  Made G c H w r (H ++ [blk]) v (w.alloc (.cells vals.toArray blk.ty)) (c.push H.length ⟨w.heap.size, cap, blk.ty, blk.sz, blk.elems.length, false⟩) := by
 refine ⟨Step.push _ hn (fun _ => rfl), hg.push _ hn (fun _ => rfl), hH.push hg hn (fun _ => rfl) ?_, hr, fun b hb => by simp [Ctx.push, hb], fun k hk => heap_alloc_old w _ k hk, .inr ⟨blk, rfl⟩, fun e => by simp at e⟩
 refine CBlk.to (CBlk.new hpos hlen hcap hsz (fun i x hx => ?_) (heap_alloc_new w _))
 obtain ⟨h1, h2⟩ := hrel i x hx
 exact ⟨h1, fun j y hy => let ⟨u, a, b, d⟩ := h2 j y hy; ⟨u, a, b.mono (Ctx.push_le hn), d⟩⟩
theorem rS {P : Program} {G : aC} {t : Nat} {v r : AV} {H H' : aA} (h : gD t v H = some (r, H')) {c : Ctx} {w : World} (hg : Good G c w) (hH : HeapAt c H w) (hn : c.m H.length = none)
  {vv : Value} (hv : Rel c v vv) :
  ∃ a w' c', (newVar t vv).run P w = .ok a w' ∧ Made G c H w r H' (.pointer (some a)) w' c' := by
 unfold gD at h
 split at h
 case isFalse => cases h
 rename_i hc
 simp only [Option.some.injEq, Prod.mk.injEq] at h
 obtain ⟨rfl, rfl⟩ := h
 obtain ⟨vs, hvs, hrel, h1⟩ := fV hc.1 hv
 refine ⟨⟨w.heap.size, 0, none⟩, _, _, ?_, mK (cap := 1) (vals := vs) hg hH hn (blk := { ty := t, sz := v.cells.length, elems := [v] }) hc.2 (by simp) (by simp [maxLen]) (by simp [hrel.1]) ?_ ?_⟩
 ·simp [newVar, newRow, hvs]
 ·intro i x hx
  cases i with
  | succ i => simp at hx
  | zero =>
   simp at hx; subst hx
   refine ⟨rfl, fun j y hy => ?_⟩
   obtain ⟨u, g1, g2⟩ := hrel.get hy
   exact ⟨u, by simpa using g1, g2, h1 u (List.mem_of_getElem? g1)⟩
 ·have := Rel.ptr (c := c.push H.length ⟨w.heap.size, 1, t, v.cells.length, 1, false⟩) (b := H.length) (L := 1) (i := 0) (o := 0) (inf := ⟨w.heap.size, 1, t, v.cells.length, 1, false⟩) (by simp [Ctx.push]) rfl rfl hc.2
  simpa using this
theorem aFi {P : Program} {G : aC} {t : Nat} {v r : AV} {H H' : aA} (h : gD t v H = some (r, H')) {c : Ctx} {w : World} (hg : Good G c w) (hH : HeapAt c H w) (hn : c.m H.length = none)
  {vv : Value} (hv : Rel c v vv) : ∃ u w' c', (Instr.box t vv).run P w = .ok u w' ∧ Made G c H w r H' u w' c' := by
 obtain ⟨a, w', c', h1, h2⟩ := rS (P := P) h hg hH hn hv
 exact ⟨_, w', c', by simp [Instr.box, h1], h2⟩
def vU (P : Program) (t : Nat) (H : aA) : Option (AV × aA) :=
 match lH P t with
 | some z => gD t z H
 | none => none
theorem aBP {P : Program} {G : aC} {t : Nat} {r : AV} {H H' : aA} (h : vU P t H = some (r, H')) {c : Ctx} {w : World} (hg : Good G c w) (hH : HeapAt c H w) (hn : c.m H.length = none) :
  ∃ u w' c', (Instr.alloc t true (.tuple #[])).run P w = .ok u w' ∧ Made G c H w r H' u w' c' := by
 unfold vU at h
 split at h
 case h_2 => cases h
 rename_i z hz
 obtain ⟨v, h1, h2⟩ := mS hz w
 obtain ⟨a, w', c', h3, h4⟩ := rS (P := P) h hg hH hn (h2 c)
 exact ⟨_, w', c', by simp [Instr.alloc, h1, h3], h4⟩
def kG (place : Nat → Option (Nat × Nat)) : List (Nat × AV) → List AV → Option (List AV)
 | [], cs => some cs
 | (i, v) :: rest, cs => match place i with
  | some (off, size) => if fP v = true ∧ v.cells.length = size ∧ off + size ≤ cs.length then kG place rest (jU cs off v.cells) else none
  | none => none
structure Cells1 (c : Ctx) (cs : List AV) (vs : List Value) : Prop where
 rel : iB c cs vs
 one : ∀ u ∈ vs, u.oneCell' = true
theorem aFq (news : List Value) : ∀ (k : Nat) (cells : Array Value) (off : Nat), off + k + news.length ≤ cells.size →
  ((news.zipIdx k).foldl (fun cs (p : Value × Nat) => cs.setIfInBounds (off + p.2) p.1) cells).toList = cells.toList.take (off + k) ++ (news ++ cells.toList.drop (off + k + news.length)) := by
 induction news with
 | nil => intro k cells off h; simp
 | cons v news ih =>
  intro k cells off h
  simp only [List.zipIdx_cons, List.foldl_cons]
  simp only [List.length_cons] at h
  rw [ih (k + 1) _ off (by simp; omega)]
  rw [Array.toList_setIfInBounds]
  have e1 : (cells.toList.set (off + k) v).take (off + (k + 1)) = cells.toList.take (off + k) ++ [v] := by
   rw [← Nat.add_assoc, List.take_succ_eq_append_getElem (by simp; omega)]
   simp
   apply List.take_set_of_le; omega
  have e2 : (cells.toList.set (off + k) v).drop (off + (k + 1) + news.length) = cells.toList.drop (off + k + (news.length + 1)) := by
   rw [List.drop_set_of_lt (by omega)]; congr 1; omega
  rw [e1, e2]
  simp
theorem aGJ {c : Ctx} {cs new : List AV} {vs nv : List Value} {o : Nat} (h : Cells1 c cs vs) (hn : Cells1 c new nv) (hl : o + new.length ≤ cs.length) :
  Cells1 c (jU cs o new) (vs.take o ++ (nv ++ vs.drop (o + nv.length))) := by
 have e1 := h.rel.1
 have e2 := hn.rel.1
 refine ⟨⟨by simp [jU]; omega, fun i x v hx hv => ?_⟩, fun u hu => ?_⟩
 ·rw [aCE hl] at hx
  rw [← List.append_assoc, xX _ _ _ _ (by omega)] at hv
  rw [e2] at hx
  split at hx
  ·rename_i hi; rw [if_pos hi] at hv; exact hn.rel.2 _ _ _ hx hv
  ·rename_i hi; rw [if_neg hi] at hv; exact h.rel.2 _ _ _ hx hv
 ·simp only [List.mem_append] at hu
  rcases hu with hu | hu | hu
  ·exact h.one u (List.mem_of_mem_take hu)
  ·exact hn.one u hu
  ·exact h.one u (List.mem_of_mem_drop hu)
theorem oH {c : Ctx} {place : Nat → Option (Nat × Nat)} : ∀ (parts : List (Nat × AV)) (vparts : List (Nat × Value)) (cs r : List AV) (vs : List Value), kG place parts cs = some r →
  Cells1 c cs vs → parts.length = vparts.length → (∀ (k i : Nat) (x : AV) (j : Nat) (v : Value), parts[k]? = some (i, x) → vparts[k]? = some (j, v) → i = j ∧ Rel c x v) →
  ∃ rs : List Value, Instr.fill place vs.toArray vparts = some rs.toArray ∧ Cells1 c r rs
 | [], vparts, cs, r, vs, h, hc, hl, _ => by
  have : vparts = [] := List.eq_nil_of_length_eq_zero hl.symm
  subst this
  simp [kG] at h; subst h
  exact ⟨vs, rfl, hc⟩
 | (i, x) :: parts, vparts, cs, r, vs, h, hc, hl, hp => by
  cases vparts with
  | nil => simp at hl
  | cons q vparts =>
   obtain ⟨j, v⟩ := q
   obtain ⟨rfl, hv⟩ := hp 0 i x j v rfl rfl
   simp only [kG] at h
   split at h
   case h_2 => cases h
   rename_i off size hpl
   split at h
   case isFalse => cases h
   rename_i hcc
   obtain ⟨hst, hsz, hfit⟩ := hcc
   obtain ⟨nv, hnv, hnr, hn1⟩ := fV hst hv
   have hnl : nv.length = size := by rw [← hnr.1, hsz]
   have hvl : vs.length = cs.length := hc.rel.1.symm
   have hput := aGJ (o := off) hc ⟨hnr, hn1⟩ (by omega)
   obtain ⟨rs, g1, g2⟩ := oH parts vparts _ r _ h hput (by simpa using hl) (fun k => hp (k + 1))
   refine ⟨rs, ?_, g2⟩
   simp only [Instr.fill, hpl, hnv]
   have c1 : ¬ (nv.toArray.size ≠ size) := by simpa using hnl
   have c2 : ¬ (off + nv.toArray.size > vs.toArray.size) := by simp; omega
   simp only [c1, c2, decide_false, Bool.or_self, Bool.false_eq_true, if_false, or_self, ne_eq, not_false_eq_true, decide_not, Bool.not_true]
   rw [← g1]
   congr 1
   apply Array.ext'
   have := aFq nv 0 vs.toArray off (by simp; omega)
   simp only [Nat.add_zero] at this
   rw [← this]
   congr 2
   simp
def aEH (P : Program) (fs : List Field) : Option (List (Nat × Nat)) := fs.mapM (fun f => (P.info? f.type).map fun i => (f.offset, i.size))
def aFZ (s : Nat) (zc : List AV) (parts : List (Nat × AV)) : Option AV := (kG (fun i => some (i * s, s)) parts zc).map .agg
def eU (places : List (Nat × Nat)) (zc : List AV) (parts : List (Nat × AV)) : Option AV := (kG (fun i => places[i]?) parts zc).map .agg
def aDo (P : Program) (t : Nat) (parts : List (Nat × AV)) : Option AV :=
 match lH P t with
 | some (.agg zc) => match P.underlying t with
  | some (.array _ e) => match vG P e with
   | some s => aFZ s zc parts
   | none => none
  | some (.struct fs) => match aEH P fs.toList with
   | some places => eU places zc parts
   | none => none
  | _ => none
 | _ => none
def nY (c : Ctx) (parts : List (Nat × AV)) (vparts : List (Nat × Value)) : Prop :=
 parts.length = vparts.length ∧ ∀ (k i : Nat) (x : AV) (j : Nat) (v : Value), parts[k]? = some (i, x) → vparts[k]? = some (j, v) → i = j ∧ Rel c x v
theorem qS {P : Program} {t : Nat} {parts : List (Nat × AV)} {r : AV} (h : aDo P t parts = some r) {c : Ctx} {w : World} {vparts : Array (Nat × Value)} (hp : nY c parts vparts.toList) :
  ∃ v, (Instr.build t vparts).run P w = .ok v w ∧ Rel c r v := by
 unfold aDo at h
 split at h
 case h_2 => cases h
 rename_i zc hz
 unfold lH at hz
 obtain ⟨i, hi, hz⟩ := Option.bind_eq_some_iff.1 hz
 obtain ⟨z, hzz, hzv⟩ := Option.map_eq_some_iff.1 hz
 have hrel := pN c z
 rw [hzv] at hrel
 obtain ⟨vs, rfl, hr, h1⟩ := hrel.of_agg
 have fin : ∀ place, (kG place parts zc).map .agg = some r → ∃ rs : List Value, Instr.fill place vs.toArray vparts.toList = some rs.toArray ∧ Rel c r (.agg rs.toArray) := by
  intro place hf
  obtain ⟨cs, hcs, rfl⟩ := Option.map_eq_some_iff.1 hf
  obtain ⟨rs, g1, g2⟩ := oH parts vparts.toList zc cs vs hcs ⟨hr, h1⟩ hp.1 hp.2
  exact ⟨rs, g1, .agg g2.rel.1 g2.rel.2 g2.one⟩
 split at h
 ·rename_i n e hd
  split at h
  case h_2 => cases h
  rename_i s hs
  obtain ⟨rs, g1, g2⟩ := fin _ h
  unfold vG at hs
  obtain ⟨ie, hie, rfl⟩ := Option.map_eq_some_iff.1 hs
  refine ⟨_, run_build w t vparts _ ?_, g2⟩
  simpa [Program.built, hi, hd, hzz, hie, Value.cells] using g1
 ·rename_i fs hd
  split at h
  case h_2 => cases h
  rename_i places hpl
  obtain ⟨rs, g1, g2⟩ := fin _ h
  refine ⟨_, run_build w t vparts _ ?_, g2⟩
  unfold aEH at hpl
  simpa [Program.built, hi, hd, hzz, hpl, Value.cells] using g1
 ·cases h
def flat (xs : List AV) : List AV := xs.flatMap AV.cells
theorem eD {s : Nat} : ∀ {xs : List AV}, (∀ x ∈ xs, x.cells.length = s) → (flat xs).length = xs.length * s
 | [], _ => by simp [flat]
 | x :: xs, h => by
  have ih := eD (xs := xs) (fun y hy => h y (by simp [hy]))
  have e := h x (by simp)
  simp only [flat] at ih
  simp only [flat, List.flatMap_cons, List.length_append, List.length_cons, ih, e, Nat.add_mul]
  omega
theorem mG {s : Nat} : ∀ {xs : List AV} (_ : ∀ x ∈ xs, x.cells.length = s) {i j : Nat} {x : AV} (_ : xs[i]? = some x) (_ : j < s), (flat xs)[i * s + j]? = x.cells[j]?
 | [], _, _, _, _, hx, _ => by simp at hx
 | y :: xs, h, i, j, x, hx, hj => by
  have e := h y (by simp)
  cases i with
  | zero =>
   simp at hx; subst hx
   simp only [flat, List.flatMap_cons, Nat.zero_mul, Nat.zero_add]
   rw [List.getElem?_append_left (by omega)]
  | succ i =>
   simp at hx
   have ih := mG (xs := xs) (fun z hz => h z (by simp [hz])) hx hj
   simp only [flat] at ih
   simp only [flat, List.flatMap_cons]
   rw [Nat.add_mul, List.getElem?_append_right (by omega), ← ih]
   congr 1; omega
theorem aCl {s : Nat} {v : AV} (hv : v.cells.length = s) : ∀ {xs : List AV} (_ : ∀ x ∈ xs, x.cells.length = s) {i : Nat} (_ : i < xs.length), flat (xs.set i v) = jU (flat xs) (i * s) v.cells
 | [], _, _, hi => by simp at hi
 | y :: xs, h, i, hi => by
  have e := h y (by simp)
  cases i with
  | zero => simp [flat, jU, hv, ← e]
  | succ i =>
   have ih := aCl hv (xs := xs) (fun z hz => h z (by simp [hz])) (i := i) (by simpa using hi)
   simp only [flat] at ih
   simp only [flat, List.set_cons_succ, List.flatMap_cons, ih, jU]
   have e2 : (i + 1) * s = y.cells.length + i * s := by rw [Nat.add_mul]; omega
   rw [e2, List.take_length_add_append, Nat.add_assoc, List.drop_length_add_append]
   simp
def iV (s : Nat) : List (Nat × AV) → List AV → Option (List AV)
 | [], xs => some xs
 | (i, v) :: rest, xs => if fP v = true ∧ v.cells.length = s ∧ i < xs.length then iV s rest (xs.set i v) else none
theorem aCk {s : Nat} : ∀ {parts : List (Nat × AV)} {xs r : List AV}, iV s parts xs = some r → (∀ x ∈ xs, x.cells.length = s) → (∀ x ∈ r, x.cells.length = s) ∧ r.length = xs.length
 | [], xs, r, h, hx => by simp [iV] at h; subst h; exact ⟨hx, rfl⟩
 | (i, v) :: parts, xs, r, h, hx => by
  simp only [iV] at h
  split at h
  ·rename_i hc
   obtain ⟨h1, h2⟩ := aCk h (fun x hm => by
    rcases List.mem_or_eq_of_mem_set hm with hm | rfl
    ·exact hx x hm
    ·exact hc.2.1)
   exact ⟨h1, by simpa using h2⟩
  ·cases h
theorem wF {s : Nat} : ∀ {parts : List (Nat × AV)} {xs r : List AV}, iV s parts xs = some r → (∀ x ∈ xs, x.cells.length = s) → kG (fun i => some (i * s, s)) parts (flat xs) = some (flat r)
 | [], xs, r, h, hx => by simp [iV] at h; subst h; rfl
 | (i, v) :: parts, xs, r, h, hx => by
  simp only [iV] at h
  split at h
  ·rename_i hc
   simp only [kG]
   have hfit : i * s + s ≤ (flat xs).length := by
    rw [eD hx, ← Nat.succ_mul]
    exact Nat.mul_le_mul_right s hc.2.2
   rw [if_pos ⟨hc.1, hc.2.1, hfit⟩, ← aCl hc.2.1 hx hc.2.2]
   exact wF h (fun x hm => by
    rcases List.mem_or_eq_of_mem_set hm with hm | rfl
    ·exact hx x hm
    ·exact hc.2.1)
  ·cases h
def Ctx.lay (c : Ctx) (w : World) (k : Nat) : Ctx :=
 {c with M := fun a => if a.block = k then w.cell? a else c.M a, B := fun a => if a.block = k then w.cell? a else c.B a }
theorem aBe {G : aC} {c : Ctx} {w : World} (hg : Good G c w) (o : Obj) :
  Step c w (c.lay (w.alloc o) w.heap.size) (w.alloc o) ∧ Good G (c.lay (w.alloc o) w.heap.size) (w.alloc o) := by
 have no : ∀ a v, c.B a = some v → a.block ≠ w.heap.size := fun a v h e => by
  have := block_lt_of_cell (hg.holds a v h); omega
 have hs : Step c w (c.lay (w.alloc o) w.heap.size) (w.alloc o) := by
  refine ⟨⟨fun b i hb => ⟨i, hb, rfl, Nat.le_refl _, fun _ => rfl, fun _ => ⟨rfl, rfl⟩⟩, fun a v h => ?_, fun a v h => ?_, rfl⟩, rfl, rfl, rfl, by simp, fun k hk _ => heap_alloc_old w o k hk, fun _ inf h hv _ => ⟨inf, h, hv, rfl⟩, fun a v h => ?_, fun a v h => ?_⟩
  ·simp [Ctx.lay, no a v (hg.MB _ _ h), h]
  ·simp [Ctx.lay, no a v h, h]
  ·by_cases e : a.block = w.heap.size
   ·exact .inr (by omega)
   ·simp [Ctx.lay, e] at h; exact .inl h
  ·by_cases e : a.block = w.heap.size
   ·exact .inr (by omega)
   ·simp [Ctx.lay, e] at h; exact .inl h
 refine ⟨hs, hg.step hs (fun a v h => ?_) (fun a v h => ?_) (fun k hk a ha => ?_) (fun k hk => ?_)⟩
 ·by_cases e : a.block = w.heap.size
  ·simpa [Ctx.lay, e] using h
  ·simp [Ctx.lay, e] at h
   rw [World.cell?_alloc_lt w _ _ (block_lt_of_cell (hg.holds a v h))]
   exact hg.holds a v h
 ·by_cases e : a.block = w.heap.size
  ·simp [Ctx.lay, e] at h ⊢; exact h
  ·simp [Ctx.lay, e] at h ⊢; exact hg.MB _ _ h
 ·have h1 : c.own k := hk
  have := hg.bound k h1
  have e : a.block ≠ w.heap.size := by omega
  simp [Ctx.lay, e]
  exact hg.away k h1 a ha
 ·have := hg.bound k hk
  simp; omega
theorem HeapAt.keep {c c' : Ctx} {H : aA} {w w' : World} (h : HeapAt c H w) (hle : c.le c') (hm : ∀ b inf, c'.m b = some inf → c.m b = some inf)
  (hw : ∀ k, c.own k → w'.heap[k]? = w.heap[k]?) : HeapAt c' H w' :=
 ⟨fun b blk inf hb hi => (h.blk b blk inf hb (hm b inf hi)).kept hle (fun hv => hw _ ⟨b, inf, hm b inf hi, hv, rfl⟩),
  fun b b' i i' h1 h2 => h.inj b b' i i' (hm _ _ h1) (hm _ _ h2)⟩
theorem wV {G : aC} {c : Ctx} {H : aA} {w : World} (hg : Good G c w) (hH : HeapAt c H w) (o : Obj) {r : AV} {v : Value} (hr : Rel (c.lay (w.alloc o) w.heap.size) r v) :
  Made G c H w r H v (w.alloc o) (c.lay (w.alloc o) w.heap.size) := by
 obtain ⟨hs, hg'⟩ := aBe hg o
 exact ⟨hs, hg', hH.keep hs.le (fun _ _ h => h) (fun k hk => heap_alloc_old w o k (hg.bound k hk)), hr, fun _ _ => rfl, fun k hk => heap_alloc_old w o k hk, .inl rfl, fun _ => rfl⟩
def aAN (P : Program) (t len : Nat) : Option (Nat × Nat × AV) :=
 match P.underlying t with
 | some (.slice e) => match vG P e with
  | some s => match lH P e with
   | some z => if 0 < s ∧ len * s ≤ 16777216 ∧ z.cells.length = s ∧ fP z = true then some (e, s, z) else none
   | none => none
  | none => none
 | _ => none
theorem qT {P : Program} {t len e' s' : Nat} {z : AV} {parts : List (Nat × AV)} {ys : List AV} (hb : aAN P t len = some (e', s', z)) (hys : iV s' parts (List.replicate len z) = some ys) {c : Ctx} {w : World}
  {vparts : Array (Nat × Value)} (hp : nY c parts vparts.toList) :
  ∃ vals : List Value, (Instr.buildSlice t len vparts).run P w = .ok (.slice (some ⟨w.heap.size, 0, none⟩) len len) (w.alloc (.cells vals.toArray e')) ∧ Cells1 c (flat ys) vals ∧
   (∀ x ∈ ys, x.cells.length = s') ∧ ys.length = len ∧ 0 < s' ∧ len * s' ≤ 16777216 := by
 unfold aAN at hb
 split at hb
 case h_2 => cases hb
 rename_i e hd
 split at hb
 case h_2 => cases hb
 rename_i s hs
 split at hb
 case h_2 => cases hb
 rename_i z' hz
 split at hb
 case isFalse => cases hb
 rename_i hc
 obtain ⟨hs0, hcap, hzl, hst⟩ := hc
 simp only [Option.some.injEq, Prod.mk.injEq] at hb
 obtain ⟨q1, q2, q3⟩ := hb
 obtain rfl := q1.symm
 obtain rfl := q2.symm
 obtain rfl := q3.symm
 obtain ⟨zv, hzr, hzrel⟩ := mS hz w
 obtain ⟨zs, hzs, hzr1, hz1⟩ := fV hst (hzrel c)
 have hrep : ∀ x ∈ List.replicate len z, x.cells.length = s' := fun x hx => by rw [(List.mem_replicate.1 hx).2]; exact hzl
 obtain ⟨hsz, hlen⟩ := aCk hys hrep
 have hzsl : zs.length = s' := by rw [← hzr1.1, hzl]
 subst hzsl
 let base : List Value := ((List.range (len * zs.length)).map fun i => zs.toArray[i % zs.length]!)
 have hbase : Cells1 c (flat (List.replicate len z)) base := by
  refine ⟨⟨by rw [eD hrep]; simp [base], fun i x v hx hv => ?_⟩, fun u hu => ?_⟩
  ·have hi : i < len * zs.length := by have := (List.getElem?_eq_some_iff.1 hx).1; rwa [eD hrep, List.length_replicate] at this
   have hdm : i = i / zs.length * zs.length + i % zs.length := by rw [Nat.mul_comm]; exact (Nat.div_add_mod i zs.length).symm
   have hmod : i % zs.length < zs.length := Nat.mod_lt _ hs0
   have hdiv : i / zs.length < len := Nat.div_lt_of_lt_mul (by rwa [Nat.mul_comm])
   rw [hdm, mG hrep (i := i / zs.length) (x := z) (by simp [hdiv]) hmod] at hx
   simp only [base, List.getElem?_map, List.getElem?_range hi, Option.map_some, Option.some.injEq] at hv
   have hz' : zs[i % zs.length]? = some v := by
    rw [← hv]
    simp [getElem!_pos, hmod]
   exact hzr1.2 _ _ _ hx hz'
  ·simp only [base, List.mem_map, List.mem_range] at hu
   obtain ⟨i, hi, rfl⟩ := hu
   have hmod : i % zs.length < zs.length := Nat.mod_lt _ (by omega)
   have : zs.toArray[i % zs.length]! = zs[i % zs.length] := by simp [getElem!_pos, hmod]
   rw [this]
   exact hz1 _ (List.getElem_mem _)
 obtain ⟨rs, g1, g2⟩ := oH parts vparts.toList _ _ base (wF hys hrep) hbase hp.1 hp.2
 refine ⟨rs, ?_, g2, hsz, by simpa using hlen, hs0, hcap⟩
 have hn : ¬ (16777216 < len * zs.length) := by omega
 by_cases h0 : len * zs.length = 0
 ·have hb : base = [] := by simp only [base, h0]; rfl
  rw [hb] at g1
  have g1' : Instr.fill (fun i => some (i * zs.length, zs.length)) #[] vparts.toList = some rs.toArray := by simpa using g1
  simp only [Instr.buildSlice, Sem.run_bind, run_underlying hd, Result.andThen_ok, kD hs]
  simp [h0, Array.range_zero', g1', newRow]
 ·have g1' : Instr.fill (fun i => some (i * zs.length, zs.length)) (Array.map (fun x => zs[x % zs.length]?.getD default) (Array.range (len * zs.length))) vparts.toList = some rs.toArray := by
   rw [← g1]
   congr 1
   apply Array.ext'
   simp [base]
  simp only [Instr.buildSlice, Sem.run_bind, run_underlying hd, Result.andThen_ok, kD hs]
  simp [h0, hn, hzr, hzs, g1', newRow]
theorem iG {c : Ctx} {s : Nat} {xs : List AV} {vals : List Value} (hs : ∀ x ∈ xs, x.cells.length = s) (h : Cells1 c (flat xs) vals) {i : Nat} {x : AV} (hx : xs[i]? = some x) {j : Nat} {y : AV} (hy : x.cells[j]? = some y) :
  ∃ v, vals[i * s + j]? = some v ∧ Rel c y v ∧ v.oneCell' = true := by
 have hj : j < s := by rw [← hs x (List.mem_of_getElem? hx)]; exact (List.getElem?_eq_some_iff.1 hy).1
 rw [← mG hs hx hj] at hy
 obtain ⟨v, h1, h2⟩ := h.rel.get hy
 exact ⟨v, h1, h2, h.one v (List.mem_of_getElem? h1)⟩
def gQ (e s len : Nat) (z : AV) (parts : List (Nat × AV)) (H : aA) : Option (AV × aA) :=
 match iV s parts (List.replicate len z) with
 | some xs => some (.sl H.length xs.length 0 xs.length s, H ++ [{ ty := e, sz := s, elems := xs }])
 | none => none
def dN (s len : Nat) (z : AV) (parts : List (Nat × AV)) (H : aA) : Option (AV × aA) :=
 match iV s parts (List.replicate len z) with
 | some xs => some (.ro false xs, H)
 | none => none
def lL (P : Program) (own : Bool) (t len : Nat) (parts : List (Nat × AV)) (H : aA) : Option (AV × aA) :=
 match aAN P t len with
 | some (e, s, z) => match own with
  | true => gQ e s len z parts H
  | false => dN s len z parts H
 | none => none
theorem qV {P : Program} {G : aC} {own : Bool} {t len : Nat} {parts : List (Nat × AV)} {r : AV} {H H' : aA} (h : lL P own t len parts H = some (r, H')) {c : Ctx} {w : World}
  (hg : Good G c w) (hH : HeapAt c H w) (hn : H'.length ≠ H.length → c.m H.length = none) {vparts : Array (Nat × Value)} (hp : nY c parts vparts.toList) :
  ∃ v w' c', (Instr.buildSlice t len vparts).run P w = .ok v w' ∧ Made G c H w r H' v w' c' := by
 unfold lL at h
 split at h
 case h_2 => cases h
 rename_i e s z hb
 have key : ∀ xs, iV s parts (List.replicate len z) = some xs → _ := fun xs hf => qT hb hf (w := w) hp
 cases own with
 | true =>
  simp only [gQ] at h
  split at h
  case h_2 => cases h
  rename_i xs hf
  obtain ⟨vals, hrun, hcells, hsz, hlen, hs0, hcap⟩ := key xs hf
  have hle : len ≤ 16777216 := Nat.le_trans (Nat.le_mul_of_pos_right len hs0) hcap
  simp only [Option.some.injEq, Prod.mk.injEq] at h
  obtain ⟨rfl, rfl⟩ := h
  refine ⟨_, _, _, hrun, mK (cap := len) hg hH (hn (by simp)) (blk := { ty := e, sz := s, elems := xs }) hs0 (by simp [hlen]) (by simp [maxLen]; omega) (by rw [← hcells.rel.1, eD hsz, hlen]) (fun i x hx => ⟨hsz x (List.mem_of_getElem? hx), fun j y hy => iG hsz hcells hx hy⟩) ?_⟩
  have := Rel.sl (c := c.push H.length ⟨w.heap.size, len, e, s, xs.length, false⟩) (b := H.length) (L := xs.length) (o := 0) (n := xs.length) (sz := s) (a := ⟨w.heap.size, 0, none⟩) (cap' := len)
   (inf := ⟨w.heap.size, len, e, s, xs.length, false⟩) (by simp [Ctx.push]) rfl rfl rfl (by omega) (by simp) (by omega) (.inl (by simp)) hs0
  rw [hlen] at this ⊢
  exact this
 | false =>
  simp only [dN] at h
  split at h
  case h_2 => cases h
  rename_i xs hf
  obtain ⟨vals, hrun, hcells, hsz, hlen, hs0, hcap⟩ := key xs hf
  simp only [Option.some.injEq, Prod.mk.injEq] at h
  obtain ⟨rfl, rfl⟩ := h
  refine ⟨_, _, _, hrun, wV hg hH _ ?_⟩
  have hle := (aBe hg (.cells vals.toArray e)).1.le
  refine .ro (A := ⟨w.heap.size, 0, none⟩) (V := fun i j => (vals[i * s + j]?).getD default) (sz := s) hlen (Nat.le_refl _) (.inr rfl) rfl (fun i x hx => hsz x (List.mem_of_getElem? hx)) (fun i x j y hx hy => ?_) (fun i x j y hx hy => ?_)
  ·obtain ⟨v, h1, h2, h3⟩ := iG hsz hcells hx hy
   rw [h1]; exact h2.mono hle
  ·obtain ⟨v, h1, h2, h3⟩ := iG hsz hcells hx hy
   rw [h1]
   refine ⟨?_, h3⟩
   simp [Ctx.mem, Ctx.lay, h1]
def eE (v : AV) (H : aA) : Option (AV × aA) :=
 if fP v = true then some (.rp false v 0, H) else none
theorem aAM {P : Program} {G : aC} {t : Nat} {v r : AV} {H H' : aA} (h : eE v H = some (r, H')) {c : Ctx} {w : World} (hg : Good G c w) (hH : HeapAt c H w)
  {vv : Value} (hv : Rel c v vv) : ∃ u w' c', (Instr.box t vv).run P w = .ok u w' ∧ Made G c H w r H' u w' c' := by
 unfold eE at h
 split at h
 case isFalse => cases h
 rename_i hst
 simp only [Option.some.injEq, Prod.mk.injEq] at h
 obtain ⟨rfl, rfl⟩ := h
 obtain ⟨vs, hvs, hrel, h1⟩ := fV hst hv
 have hle := (aBe hg (.cells vs.toArray t)).1.le
 refine ⟨.pointer (some ⟨w.heap.size, 0, none⟩), _, _, by simp [Instr.box, newVar, newRow, hvs], wV hg hH (.cells vs.toArray t) ?_⟩
 refine .rp (A := ⟨w.heap.size, 0, none⟩) (o := 0) (V := fun j => (vs[j]?).getD default) (fun j y hy => ?_) (fun j y hy => ?_)
 ·obtain ⟨u, g1, g2⟩ := hrel.get hy
  rw [g1]; exact g2.mono hle
 ·obtain ⟨u, g1, g2⟩ := hrel.get hy
  rw [g1]
  exact ⟨by simp [Ctx.mem, Ctx.lay, g1], h1 u (List.mem_of_getElem? g1)⟩
theorem Good.memB {G : aC} {c : Ctx} {w : World} (hg : Good G c w) {bor : Bool} {a : Addr} {v : Value} (h : c.mem bor a = some v) : c.B a = some v := by
 cases bor
 ·exact hg.MB _ _ h
 ·exact h
def tby (P : Program) (t : Nat) : Option Nat := (P.info? t).map (·.bytes)
def fR (e s : Nat) (z : AV) (l c : AV) (H : aA) : Option (AV × aA) :=
 match l, c with
 | .int _ l, .int _ c => if 0 ≤ l ∧ l ≤ c ∧ c ≤ 1099511627776 then
   some (.sl H.length l.toNat 0 l.toNat s, H ++ [{ ty := e, sz := s, elems := List.replicate l.toNat z }]) else none
 | _, _ => none
def gF (P : Program) (t : Nat) (l c : AV) (H : aA) : Option (AV × aA) :=
 match P.underlying t with
 | some (.slice e) => match vG P e, tby P e, lH P e with
  | some s, some by_, some z => if by_ ≤ 128 ∧ 0 < s ∧ z.cells.length = s ∧ fP z = true then fR e s z l c H else none
  | _, _, _ => none
 | _ => none
theorem lT {P : Program} {t s : Nat} {z : AV} (hz : lH P t = some z) (hs : vG P t = some s) :
  ∃ i v, P.info? t = some i ∧ i.zero = some v ∧ i.size = s ∧ ∀ c, Rel c z v := by
 unfold lH at hz
 unfold vG at hs
 obtain ⟨i, hi, hz⟩ := Option.bind_eq_some_iff.1 hz
 obtain ⟨v, hv, rfl⟩ := Option.map_eq_some_iff.1 hz
 simp [hi] at hs
 exact ⟨i, v, hi, hv, hs, fun c => pN c v⟩
theorem aDE {c : Ctx} {z : AV} {zs : List Value} {s n k : Nat} (hz : Cells1 c z.cells zs) (hl : z.cells.length = s) (hs : 0 < s) (hkn : k ≤ n) {i : Nat} {x : AV} (hx : (List.replicate k z)[i]? = some x) :
  x.cells.length = s ∧ ∀ (j : Nat) (y : AV), x.cells[j]? = some y → ∃ v, (madeCells zs.toArray (n * s)).toList[i * s + j]? = some v ∧ Rel c y v ∧ v.oneCell' = true := by
 have hi : i < k := by have := (List.getElem?_eq_some_iff.1 hx).1; simpa using this
 have hxz : x = z := by
  have := List.getElem?_replicate (n := k) (a := z) (i := i)
  rw [this, if_pos hi] at hx
  exact (Option.some.inj hx).symm
 subst hxz
 refine ⟨hl, fun j y hy => ?_⟩
 have hj : j < s := by rw [← hl]; exact (List.getElem?_eq_some_iff.1 hy).1
 obtain ⟨v, h1, h2⟩ := hz.rel.get hy
 refine ⟨v, ?_, h2, hz.one v (List.mem_of_getElem? h1)⟩
 have hzl : zs.length = s := by rw [← hz.rel.1, hl]
 have hlt : i * s + j < n * s := by
  have := Nat.mul_le_mul_right s (show i + 1 ≤ n by omega)
  rw [Nat.add_mul] at this
  omega
 have hmod : (i * s + j) % zs.length = j := by
  rw [hzl, Nat.mul_comm, Nat.mul_add_mod, Nat.mod_eq_of_lt hj]
 simp only [madeCells, Array.toList_map, Array.toList_range, List.getElem?_map, List.getElem?_range hlt, Option.map_some, List.size_toArray, hmod]
 rw [← h1]
 simp [getElem!_pos, hzl, hj]
theorem mL {P : Program} {G : aC} {t : Nat} {l c r : AV} {H H' : aA} (h : gF P t l c H = some (r, H')) {cx : Ctx} {w : World} (hg : Good G cx w) (hH : HeapAt cx H w)
  (hn : cx.m H.length = none) {vl vc : Value} (hl : Rel cx l vl) (hc : Rel cx c vc) :
  ∃ v w' c', (Instr.makeSlice t vl vc).run P w = .ok v w' ∧ Made G cx H w r H' v w' c' := by
 unfold gF at h
 split at h
 case h_2 => cases h
 rename_i e hd
 split at h
 case h_2 => cases h
 rename_i s by_ z hs hb hz
 split at h
 case isFalse => cases h
 rename_i hcond
 obtain ⟨hby, hs0, hzl, hst⟩ := hcond
 unfold fR at h
 split at h
 case h_2 => cases h
 rename_i kl l' kc c'
 obtain rfl := hl.of_int
 obtain rfl := hc.of_int
 split at h
 case isFalse => cases h
 rename_i hcond
 obtain ⟨h0, hlc, hcm⟩ := hcond
 simp only [Option.some.injEq, Prod.mk.injEq] at h
 obtain ⟨rfl, rfl⟩ := h
 obtain ⟨i, zv, hi, hzv, hsz, hrel⟩ := lT hz hs
 obtain ⟨zs, hzs, hzr, hz1⟩ := fV hst (hrel cx)
 have hbyi : i.bytes ≤ 128 := by simp [tby, hi] at hb; omega
 have hbytes : (i.bytes : Int) * c' ≤ 281474976710656 := by
  have : (i.bytes : Int) * c' ≤ 128 * 1099511627776 := Int.mul_le_mul (by omega) hcm (by omega) (by omega)
  omega
 have hrun := run_make (P := P) w t e i zv hd hi hzv kl kc l' c' h0 hlc hbytes (by omega)
 rw [hsz, hzs] at hrun
 have hcap : c'.toNat ≤ maxLen := by simp [maxLen]; omega
 refine ⟨_, _, cx.push H.length ⟨w.heap.size, c'.toNat, e, s, (List.replicate l'.toNat z).length, false⟩, hrun, ?_⟩
 have hvals : madeCells zs.toArray (c'.toNat * s) = (madeCells zs.toArray (c'.toNat * s)).toList.toArray := by simp
 rw [hvals]
 refine mK (cap := c'.toNat) hg hH hn (blk := { ty := e, sz := s, elems := List.replicate l'.toNat z }) hs0 (by simp; omega) hcap (by simp [size_madeCells])
  (fun i x hx => aDE ⟨hzr, hz1⟩ hzl hs0 (by omega) hx) ?_
 have := Rel.sl (c := cx.push H.length ⟨w.heap.size, c'.toNat, e, s, l'.toNat, false⟩) (b := H.length) (L := l'.toNat) (o := 0) (n := l'.toNat) (sz := s) (a := ⟨w.heap.size, 0, none⟩) (cap' := c'.toNat)
  (inf := ⟨w.heap.size, c'.toNat, e, s, l'.toNat, false⟩) (by simp [Ctx.push]) rfl rfl rfl (by omega) (by simp) (by omega) (.inl (by simp)) (by simp only; omega)
 simpa using this
def fN (x : AV) (H : aA) : Option (List AV) :=
 match x with
 | .ro _ ys => some ys
 | .sl b L o n _ => match H[b]? with
  | some blk => if blk.elems.length = L then some ((blk.elems.drop o).take n) else none
  | none => none
 | .nils => some []
 | .emp => some []
 | _ => none
theorem iU {G : aC} {x : AV} {H : aA} {ys : List AV} (h : fN x H = some ys) {c : Ctx} {w : World} (hg : Good G c w) (hH : HeapAt c H w) {v : Value} (hx : Rel c x v) {s : Nat} (hs : jB s ys = true) :
  ∃ a n cap, v = .slice a n cap ∧ ys.length = n ∧ n ≤ cap ∧ (ys = [] ∨ ∃ A, a = some A ∧ A.spot = none ∧ gU c w A.block A.off (flat ys)) := by
 have hsz : ∀ y ∈ ys, y.cells.length = s := fun y hy => by have := List.all_eq_true.1 hs y hy; simpa using this
 have split_ : ∀ {blk off : Nat}, (∀ (i : Nat) (y : AV), ys[i]? = some y → gU c w blk (off + i * s) y.cells) → gU c w blk off (flat ys) := by
  intro blk off hh k z hz
  by_cases hs0 : s = 0
  ·have := eD hsz
   have := (List.getElem?_eq_some_iff.1 hz).1
   rw [hs0] at *
   omega
  have hk : k < ys.length * s := by have := (List.getElem?_eq_some_iff.1 hz).1; rwa [eD hsz] at this
  have hdiv : k / s < ys.length := Nat.div_lt_of_lt_mul (by rwa [Nat.mul_comm])
  have hmod : k % s < s := Nat.mod_lt _ (by omega)
  have hdm : k = k / s * s + k % s := by rw [Nat.mul_comm]; exact (Nat.div_add_mod k s).symm
  have hy : ys[k / s]? = some ys[k / s] := List.getElem?_eq_getElem hdiv
  rw [hdm, mG hsz hy hmod] at hz
  have := hh _ _ hy _ _ hz
  rwa [Nat.add_assoc, ← hdm] at this
 unfold fN at h
 split at h
 ·simp at h; subst h
  cases hx with
  | ro hn hcap ha hA hsz' hrel hm =>
   rename_i bor a n cap sz A V
   refine ⟨a, n, cap, rfl, hn, hcap, ?_⟩
   rcases ha with h0 | ha
   ·exact .inl h0
   ·refine .inr ⟨A, ha, hA, split_ (fun i y hy j z hz => ?_)⟩
    have e : sz = s := by rw [← hsz' i y hy, hsz y (List.mem_of_getElem? hy)]
    subst e
    obtain ⟨g1, g2⟩ := hm i y j z hy hz
    exact ⟨V i j, hg.holds _ _ (hg.memB g1), hrel i y j z hy hz, g2⟩
 ·rename_i b L o n sz
  split at h
  case h_2 => cases h
  rename_i blk hb
  split at h
  case isFalse => cases h
  rename_i hL
  simp at h; subst h
  cases hx with
  | sl hm hl hv hsz' ho hcap hnc ha hz =>
   rename_i inf a cap'
   have hB := (hH.blk _ _ _ hb hm).cb hz
   refine ⟨_, _, _, rfl, by simp; omega, hnc, ?_⟩
   rcases ha with rfl | ⟨h0, _⟩
   ·by_cases hn0 : (blk.elems.drop o).take n = []
    ·exact .inl hn0
    ·refine .inr ⟨_, rfl, rfl, split_ (fun i y hy => ?_)⟩
     have hys := hsz y (List.mem_of_getElem? hy)
     rw [List.getElem?_take] at hy
     split at hy
     case isFalse => cases hy
     rw [List.getElem?_drop] at hy
     have hc := hB.at hv hy
     have : inf.sz = s := by rw [hB.sz, ← (hB.cells hv _ _ hy).1, hys]
     rw [← hsz', this, ← Nat.add_mul]
     rwa [this] at hc
   ·exact .inl (by apply List.eq_nil_of_length_eq_zero; simp; omega)
  | slVirt hm hl hv hsz' => exact ⟨_, _, _, rfl, by simp, by omega, .inl (by simp)⟩
  | slStale a cap' hm hl hnc ha => have := hH.valid hb hm; omega
 ·simp at h; subst h
  obtain rfl := hx.of_nils
  exact ⟨none, 0, 0, rfl, rfl, Nat.le_refl _, .inl rfl⟩
 ·simp at h; subst h
  cases hx with
  | emp a => exact ⟨some a, 0, 0, rfl, rfl, Nat.le_refl _, .inl rfl⟩
 ·cases h
def Ctx.upd (c : Ctx) (b : Nat) (inf : Info) : Ctx := { c with m := fun b' => if b' = b then some inf else c.m b' }
theorem Ctx.upd_le {c : Ctx} {b : Nat} {inf inf' : Info} (hm : c.m b = some inf) (hs : inf'.sz = inf.sz) (hl : inf.len ≤ inf'.len) (hu : inf'.len = inf.len → inf' = inf) (hz : inf.sz = 0 → inf'.idx = inf.idx ∧ inf'.virt = inf.virt) : c.le (c.upd b inf') := by
 refine ⟨fun k i hk => ?_, fun _ _ h => h, fun _ _ h => h, rfl⟩
 by_cases e : k = b
 ·subst e
  obtain rfl := Option.some.inj (hm.symm.trans hk)
  exact ⟨inf', by simp [Ctx.upd], hs, hl, hu, hz⟩
 ·exact ⟨i, by simp [Ctx.upd, e, hk], rfl, Nat.le_refl _, fun _ => rfl, fun _ => ⟨rfl, rfl⟩⟩
theorem Ctx.upd_own {c : Ctx} {b : Nat} {inf : Info} {k : Nat} (h : (c.upd b inf).own k) : (∃ b' i, b' ≠ b ∧ c.m b' = some i ∧ i.virt = false ∧ i.idx = k) ∨ (inf.virt = false ∧ inf.idx = k) := by
 obtain ⟨b', i, hb, hv, hk⟩ := h
 by_cases e : b' = b
 ·simp [Ctx.upd, e] at hb; subst hb; exact .inr ⟨hv, hk⟩
 ·simp [Ctx.upd, e] at hb; exact .inl ⟨b', i, e, hb, hv, hk⟩
theorem zW {G : aC} {c : Ctx} {H : aA} {w : World} (hg : Good G c w) (hH : HeapAt c H w) {b : Nat} {inf inf' : Info} (hm : c.m b = some inf) {blk' : ABlk} {o : Obj}
  (hs : inf'.sz = inf.sz) (hl : inf.len < inf'.len) (hi : inf'.idx = w.heap.size) (hv : inf'.virt = false) (hb : BlkAt (c.upd b inf') inf' blk' (w.drew.alloc o)) (hlt : b < H.length) (hz : 0 < inf.sz) :
  Step c w (c.upd b inf') (w.drew.alloc o) ∧ Good G (c.upd b inf') (w.drew.alloc o) ∧ HeapAt (c.upd b inf') (H.set b blk') (w.drew.alloc o) := by
 have hle : c.le (c.upd b inf') := Ctx.upd_le hm hs (by omega) (by omega) (fun q => absurd q (by omega))
 have hstep : Step c w (c.upd b inf') (w.drew.alloc o) := by
  refine ⟨hle, rfl, rfl, rfl, by simp, fun k hk _ => heap_alloc_old w.drew o k hk, fun b' i hb' hv' hlt => ?_, fun _ _ h => .inl h, fun _ _ h => .inl h⟩
  by_cases e : b' = b
  ·simp [Ctx.upd, e] at hb'; subst hb'; omega
  ·simp [Ctx.upd, e] at hb'; exact ⟨i, hb', hv', rfl⟩
 refine ⟨hstep, hg.step hstep (fun a v hv => ?_) hg.MB (fun k hk a ha => ?_) (fun k hk => ?_), ?_, ?_⟩
 ·have h1 := hg.holds a v hv
  rw [World.cell?_alloc_lt w.drew _ _ (block_lt_of_cell h1)]; exact h1
 ·rcases Ctx.upd_own hk with ⟨b', i, _, h1, h2, h3⟩ | ⟨h1, h2⟩
  ·exact hg.away k ⟨b', i, h1, h2, h3⟩ a ha
  ·cases hB : (c.upd b inf').B a with
   | none => rfl
   | some v => exact absurd (block_lt_of_cell (hg.holds a v hB)) (by omega)
 ·rcases Ctx.upd_own hk with ⟨b', i, _, h1, h2, h3⟩ | ⟨h1, h2⟩
  ·have := hg.bound k ⟨b', i, h1, h2, h3⟩; simp; omega
  ·simp; omega
 ·intro b' blk i hb' hm'
  by_cases e : b' = b
  ·subst e
   simp [Ctx.upd] at hm'; subst hm'
   rw [List.getElem?_set_self hlt] at hb'
   obtain rfl := Option.some.inj hb'
   exact hb
  ·simp [Ctx.upd, e] at hm'
   rw [List.getElem?_set_ne (Ne.symm e)] at hb'
   exact (hH.blk b' blk i hb' hm').kept hle (fun hv' => heap_alloc_old w.drew o _ (hg.bound _ ⟨b', i, hm', hv', rfl⟩))
 ·intro b1 b2 i1 i2 h1 h2 v1 v2 he
  by_cases e1 : b1 = b <;> by_cases e2 : b2 = b
  ·rw [e1, e2]
  ·simp [Ctx.upd, e1] at h1; subst h1
   simp [Ctx.upd, e2] at h2
   have := hg.bound _ ⟨b2, i2, h2, v2, rfl⟩
   omega
  ·simp [Ctx.upd, e2] at h2; subst h2
   simp [Ctx.upd, e1] at h1
   have := hg.bound _ ⟨b1, i1, h1, v1, rfl⟩
   omega
  ·simp [Ctx.upd, e1] at h1
   simp [Ctx.upd, e2] at h2
   exact hH.inj b1 b2 i1 i2 h1 h2 v1 v2 he
theorem aDz {G : aC} {c : Ctx} {H : aA} {w : World} (hg : Good G c w) (hH : HeapAt c H w) {b : Nat} {inf inf' : Info} (hm : c.m b = some inf) {blk' : ABlk} {cs : Array Value}
  (hs : inf'.sz = inf.sz) (hl : inf.len ≤ inf'.len) (hu : inf'.len = inf.len → inf' = inf) (hi : inf'.idx = inf.idx) (hv : inf.virt = false) (hv' : inf'.virt = false)
  (hb : BlkAt (c.upd b inf') inf' blk' (w.setRow inf.idx cs)) (hlt : b < H.length) :
  Step c w (c.upd b inf') (w.setRow inf.idx cs) ∧ Good G (c.upd b inf') (w.setRow inf.idx cs) ∧ HeapAt (c.upd b inf') (H.set b blk') (w.setRow inf.idx cs) := by
 have hle : c.le (c.upd b inf') := Ctx.upd_le hm hs hl hu (fun _ => ⟨hi, hv'.trans hv.symm⟩)
 have hown : ∀ k, (c.upd b inf').own k → c.own k := fun k hk => by
  rcases Ctx.upd_own hk with ⟨b', i, _, h1, h2, h3⟩ | ⟨h1, h2⟩
  ·exact ⟨b', i, h1, h2, h3⟩
  ·exact ⟨b, inf, hm, hv, by omega⟩
 have ho : c.own inf.idx := ⟨b, inf, hm, hv, rfl⟩
 have hstep0 := Step.setRow (c := c) (w := w) ho cs
 have hstep : Step c w (c.upd b inf') (w.setRow inf.idx cs) :=
  ⟨hle, rfl, rfl, rfl, by simp, hstep0.kept, fun b' i hb' hv' hlt => by
   by_cases e : b' = b
   ·simp [Ctx.upd, e] at hb'; subst hb'; exact ⟨inf, by rw [e]; exact hm, hv, hi.symm⟩
   ·simp [Ctx.upd, e] at hb'; exact ⟨i, hb', hv', rfl⟩, fun _ _ h => .inl h, fun _ _ h => .inl h⟩
 have hg0 := hg.world hstep0
 refine ⟨hstep, hg.step hstep hg0.holds hg.MB (fun k hk a ha => hg.away k (hown k hk) a ha) (fun k hk => by have := hg.bound k (hown k hk); simpa using this), ?_, ?_⟩
 ·intro b' blk i hb' hm'
  by_cases e : b' = b
  ·subst e
   simp [Ctx.upd] at hm'; subst hm'
   rw [List.getElem?_set_self hlt] at hb'
   obtain rfl := Option.some.inj hb'
   exact hb
  ·simp [Ctx.upd, e] at hm'
   rw [List.getElem?_set_ne (Ne.symm e)] at hb'
   exact (hH.blk b' blk i hb' hm').kept hle (fun hv'' => setRow_other w _ _ _ (fun q => e (hH.inj b' b i inf hm' hm hv'' hv q)))
 ·intro b1 b2 i1 i2 h1 h2 v1 v2 he
  by_cases e1 : b1 = b <;> by_cases e2 : b2 = b
  ·rw [e1, e2]
  ·simp [Ctx.upd, e1] at h1; subst h1
   simp [Ctx.upd, e2] at h2
   exact absurd (hH.inj b2 b i2 inf h2 hm v2 hv (by omega)) e2
  ·simp [Ctx.upd, e2] at h2; subst h2
   simp [Ctx.upd, e1] at h1
   exact absurd (hH.inj b1 b i1 inf h1 hm v1 hv (by omega)) e1
  ·simp [Ctx.upd, e1] at h1
   simp [Ctx.upd, e2] at h2
   exact hH.inj b1 b2 i1 i2 h1 h2 v1 v2 he
def eQ (e sz : Nat) (s x : AV) (H : aA) : Option (AV × aA) :=
 match s with
 | .sl b L 0 n sz' => match H[b]?, fN x H with
  | some blk, some ys => if blk.elems.length = L ∧ sz' = sz ∧ blk.ty = e ∧ jB sz ys = true ∧ n + ys.length ≤ 1099511627776 then
    some (.sl b (blk.elems.take n ++ (ys ++ blk.elems.drop (n + ys.length))).length 0 (n + ys.length) sz, H.set b { blk with elems := blk.elems.take n ++ (ys ++ blk.elems.drop (n + ys.length)) })
   else none
  | _, _ => none
 | _ => none
def mW (P : Program) (ts : Array Nat) (s x : AV) (H : aA) : Option (AV × aA) :=
 match ts.toList with
 | [t, t'] => if t = t' then
   match P.underlying t with
   | some (.slice e) => match vG P e, tby P e, lH P e with
    | some sz, some by_, some z => if by_ ≤ 128 ∧ z.cells.length = sz ∧ fP z = true then eQ e sz s x H else none
    | _, _, _ => none
   | _ => none
  else none
 | _ => none
end Go.Proofs.YtlkgkfgkiidhdaaDoor.Mir
