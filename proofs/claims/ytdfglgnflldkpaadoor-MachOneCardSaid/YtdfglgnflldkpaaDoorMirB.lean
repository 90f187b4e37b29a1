/- Mirror, part B: how stores, new blocks and frozen cells turn a world that an abstract heap speaks of. -/
import Derived.Test.YtdfglgnflldkpaaDoorMirA
namespace Go.Proofs.YtdfglgnflldkpaaDoor.Mir
open Go
set_option linter.unusedVariables false
set_option linter.unusedSimpArgs false

/-- Cells from a place on. -/
def CellsAt (c : Ctx) (w : World) (blk off : Nat) (cs : List AV) : Prop :=
  ∀ (j : Nat) (y : AV), cs[j]? = some y → ∃ v, w.cell? ⟨blk, off + j, none⟩ = some v ∧ Rel c y v ∧ v.oneCell' = true

theorem CellsAt.drop {c : Ctx} {w : World} {blk off : Nat} {cs : List AV} (h : CellsAt c w blk off cs) (n : Nat) : CellsAt c w blk (off + n) (cs.drop n) := by
  intro j y hy
  rw [List.getElem?_drop] at hy
  have := h (n + j) y hy
  rwa [← Nat.add_assoc] at this

theorem CellsAt.take {c : Ctx} {w : World} {blk off : Nat} {cs : List AV} (h : CellsAt c w blk off cs) (n : Nat) : CellsAt c w blk off (cs.take n) := by
  intro j y hy
  rw [List.getElem?_take] at hy
  split at hy
  · exact h j y hy
  · simp at hy

/-- The values of these cells, as a list. -/
theorem CellsAt.vals {c : Ctx} {w : World} {blk off : Nat} {cs : List AV} (h : CellsAt c w blk off cs) :
    ∃ vs : List Value, RelL c cs vs ∧ (∀ j v, vs[j]? = some v → w.cell? ⟨blk, off + j, none⟩ = some v) ∧ ∀ v ∈ vs, v.oneCell' = true := by
  induction cs generalizing off with
  | nil => exact ⟨[], .nil, by simp, by simp⟩
  | cons y cs ih =>
    obtain ⟨v, h1, h2, h3⟩ := h 0 y rfl
    have h' : CellsAt c w blk (off + 1) cs := by
      intro j z hz
      have := h (j + 1) z (by simpa using hz)
      rwa [show off + (j + 1) = off + 1 + j by omega] at this
    obtain ⟨vs, a, b, d⟩ := ih h'
    refine ⟨v :: vs, .cons h2 a, fun j u hu => ?_, fun u hu => ?_⟩
    · cases j with
      | zero => simp at hu; subst hu; simpa using h1
      | succ j => simp at hu; have := b j u hu; rwa [show off + 1 + j = off + (j + 1) by omega] at this
    · rcases List.mem_cons.1 hu with rfl | hu
      · exact h3
      · exact d u hu

theorem RelL.get {c : Ctx} {xs : List AV} {vs : List Value} (h : RelL c xs vs) {i : Nat} {x : AV} (hx : xs[i]? = some x) : ∃ v, vs[i]? = some v ∧ Rel c x v := by
  have hi : i < xs.length := (List.getElem?_eq_some_iff.1 hx).1
  have : i < vs.length := h.1 ▸ hi
  exact ⟨vs[i], List.getElem?_eq_getElem this, h.2 i x _ hx (List.getElem?_eq_getElem this)⟩

theorem BlkAt.at {c : Ctx} {inf : Info} {blk : ABlk} {w : World} (h : BlkAt c inf blk w) (hv : inf.virt = false) {i : Nat} {x : AV} (hx : blk.elems[i]? = some x) :
    CellsAt c w inf.idx (i * inf.sz) x.cells := by
  intro j y hy
  rw [h.sz]
  exact (h.cells hv i x hx).2 j y hy

theorem BlkAt.kept {c c' : Ctx} {inf : Info} {blk : ABlk} {w w' : World} (hle : c.le c') (h : BlkAt c inf blk w) (hw : inf.virt = false → w'.heap[inf.idx]? = w.heap[inf.idx]?) :
    BlkAt c' inf blk w' := by
  refine ⟨h.ty, h.sz, h.pos, h.len, h.fits, h.virt, h.big, fun hv => ?_, fun hv i x hx => ?_⟩
  · rw [hw hv]; exact h.real hv
  · refine ⟨(h.cells hv i x hx).1, fun j y hy => ?_⟩
    obtain ⟨v, h1, h2, h3⟩ := (h.cells hv i x hx).2 j y hy
    refine ⟨v, ?_, h2.mono hle, h3⟩
    rw [World.cell?_of_block (w := w) (a := ⟨inf.idx, i * blk.sz + j, none⟩) (hw hv)]
    exact h1

/-- What a step must keep for everything else to stay. -/
theorem Good.step {G : Globs} {c c' : Ctx} {w w' : World} (h : Good G c w) (hs : Step c w c' w')
    (hB : ∀ a v, c'.B a = some v → w'.cell? a = some v) (hMB : ∀ a v, c'.M a = some v → c'.B a = some v) (haway : ∀ k, c'.own k → ∀ a, a.block = k → c'.B a = none)
    (hbound : ∀ k, c'.own k → k < w'.heap.size) : Good G c' w' := by
  refine ⟨hB, hMB, haway, fun g a hg => ?_, fun g a hg => ?_, fun g g' a a' h1 h2 => ?_, fun g x hg => ?_, hbound⟩
  · rw [hs.le.S] at hg
    obtain ⟨cells, elem, hc⟩ := h.sent g a hg
    have hlt : a.block < w.heap.size := (Array.getElem?_eq_some_iff.1 hc).1
    exact ⟨cells, elem, by rw [hs.kept _ hlt (h.sentAway g a hg)]; exact hc⟩
  · rw [hs.le.S] at hg
    obtain ⟨cells, elem, hc⟩ := h.sent g a hg
    have hlt : a.block < w.heap.size := (Array.getElem?_eq_some_iff.1 hc).1
    exact fun ho => h.sentAway g a hg (hs.own _ ho hlt)
  · rw [hs.le.S] at h1 h2
    exact h.sentApart g g' a a' h1 h2
  · obtain ⟨v, h1, h2⟩ := h.glob g x hg
    exact ⟨v, hs.le.M _ _ h1, h2.mono hs.le⟩

/-- The world alone has turned, and the own blocks are as they were; the cells of c are still there. -/
theorem Good.world {G : Globs} {c : Ctx} {w w' : World} (h : Good G c w) (hs : Step c w c w') : Good G c w' := by
  refine h.step hs (fun a v hv => ?_) h.MB h.away (fun k hk => Nat.lt_of_lt_of_le (h.bound k hk) hs.size)
  have h1 := h.holds a v hv
  have hlt : a.block < w.heap.size := block_lt_of_cell h1
  by_cases ho : c.own a.block
  · rw [h.away _ ho a rfl] at hv; cases hv
  · rw [World.cell?_of_block (w := w) (hs.kept _ hlt ho)]; exact h1

/-- An own block's cells are laid anew. -/
theorem Step.setRow {c : Ctx} {w : World} {k : Nat} (ho : c.own k) (cs : Array Value) : Step c w c (w.setRow k cs) :=
  ⟨.refl c, rfl, rfl, rfl, by simp, fun i _ hn => setRow_other w k i cs (fun e => hn (e ▸ ho)), fun _ inf h hv _ => ⟨inf, h, hv, rfl⟩, fun _ _ h => .inl h, fun _ _ h => .inl h⟩

theorem HeapAt.set {c : Ctx} {H : AHeap} {w : World} {b : Nat} {inf : Info} {blk' : ABlk} {cs : Array Value}
    (h : HeapAt c H w) (hm : c.m b = some inf) (hv : inf.virt = false) (hb : BlkAt c inf blk' (w.setRow inf.idx cs)) : HeapAt c (H.set b blk') (w.setRow inf.idx cs) := by
  refine ⟨fun b' blk'' inf' hH hm' => ?_, h.inj⟩
  by_cases hbb : b = b'
  · subst hbb
    obtain rfl := Option.some.inj (hm.symm.trans hm')
    have hlt : b < H.length := by have := (List.getElem?_eq_some_iff.1 hH).1; simpa using this
    rw [List.getElem?_set_self hlt] at hH
    obtain rfl := Option.some.inj hH
    exact hb
  · rw [List.getElem?_set_ne hbb] at hH
    refine (h.blk b' blk'' inf' hH hm').kept (.refl c) (fun hv' => setRow_other w _ _ _ (fun e => hbb ?_))
    exact h.inj b b' inf inf' hm hm' hv hv' e.symm

/-- A new block of the call's own. -/
def Ctx.push (c : Ctx) (n : Nat) (inf : Info) : Ctx := { c with m := fun b => if b = n then some inf else c.m b }

theorem Ctx.push_le {c : Ctx} {n : Nat} {inf : Info} (hn : c.m n = none) : c.le (c.push n inf) := by
  refine ⟨fun b i hb => ⟨i, ?_, rfl, Nat.le_refl _, fun _ => rfl⟩, fun _ _ h => h, fun _ _ h => h, rfl⟩
  have : b ≠ n := fun e => by subst e; rw [hn] at hb; cases hb
  simp [Ctx.push, this, hb]

theorem Ctx.push_own {c : Ctx} {n : Nat} {inf : Info} {k : Nat} (h : (c.push n inf).own k) : c.own k ∨ (inf.virt = false ∧ inf.idx = k) := by
  obtain ⟨b, i, hb, hv, hk⟩ := h
  by_cases hbn : b = n
  · simp [Ctx.push, hbn] at hb; subst hb; exact .inr ⟨hv, hk⟩
  · simp [Ctx.push, hbn] at hb; exact .inl ⟨b, i, hb, hv, hk⟩

theorem Step.push {c : Ctx} {w : World} {n : Nat} {inf : Info} (o : Obj) (hn : c.m n = none) (hi : inf.virt = false → inf.idx = w.heap.size) : Step c w (c.push n inf) (w.alloc o) := by
  refine ⟨Ctx.push_le hn, rfl, rfl, rfl, by simp, fun k hk _ => heap_alloc_old w o k hk, fun b i hb hv hlt => ?_, fun _ _ h => .inl h, fun _ _ h => .inl h⟩
  by_cases e : b = n
  · simp [Ctx.push, e] at hb; subst hb
    have := hi hv; omega
  · simp [Ctx.push, e] at hb
    exact ⟨i, hb, hv, rfl⟩

theorem Good.push {G : Globs} {c : Ctx} {w : World} {n : Nat} {inf : Info} (o : Obj) (h : Good G c w) (hn : c.m n = none) (hi : inf.virt = false → inf.idx = w.heap.size) :
    Good G (c.push n inf) (w.alloc o) := by
  refine h.step (Step.push o hn hi) (fun a v hv => ?_) h.MB (fun k hk a ha => ?_) (fun k hk => ?_)
  · have h1 := h.holds a v hv
    rw [World.cell?_alloc_lt w _ _ (block_lt_of_cell h1)]; exact h1
  · rcases Ctx.push_own hk with h1 | ⟨h1, h2⟩
    · exact h.away k h1 a ha
    · have e := hi h1
      cases hB : (c.push n inf).B a with
      | none => rfl
      | some v => exact absurd (block_lt_of_cell (h.holds a v hB)) (by omega)
  · rcases Ctx.push_own hk with h1 | ⟨h1, h2⟩
    · have := h.bound k h1; simp; omega
    · have := hi h1; simp; omega

/-- A block whose cells are these. -/
theorem BlkAt.new {c : Ctx} {w : World} {blk : ABlk} {cap : Nat} {vals : List Value} (hpos : 0 < blk.sz) (hlen : blk.elems.length ≤ cap) (hcap : cap ≤ maxLen)
    (hsz : vals.length = cap * blk.sz)
    (hrel : ∀ (i : Nat) (x : AV), blk.elems[i]? = some x → x.cells.length = blk.sz ∧ ∀ (j : Nat) (y : AV), x.cells[j]? = some y → ∃ v, vals[i * blk.sz + j]? = some v ∧ Rel c y v ∧ v.oneCell' = true)
    {idx : Nat} (hw : w.heap[idx]? = some (.cells vals.toArray blk.ty (0, 0))) :
    BlkAt c ⟨idx, cap, blk.ty, blk.sz, blk.elems.length, false⟩ blk w := by
  refine ⟨rfl, rfl, hpos, rfl, hlen, by simp, hcap, fun _ => ⟨_, hw, by simpa using hsz⟩, fun _ i x hx => ?_⟩
  obtain ⟨h1, h2⟩ := hrel i x hx
  refine ⟨h1, fun j y hy => ?_⟩
  obtain ⟨v, e1, e2, e3⟩ := h2 j y hy
  refine ⟨v, ?_, e2, e3⟩
  rw [cell_of_row w idx _ _ blk.ty (0, 0) hw]
  simpa using e1

theorem HeapAt.push {c : Ctx} {H : AHeap} {w : World} {inf : Info} {blk : ABlk} {o : Obj} (h : HeapAt c H w) {G : Globs} (hg : Good G c w)
    (hn : c.m H.length = none) (hi : inf.virt = false → inf.idx = w.heap.size) (hb : BlkAt (c.push H.length inf) inf blk (w.alloc o)) :
    HeapAt (c.push H.length inf) (H ++ [blk]) (w.alloc o) := by
  refine ⟨fun b blk' inf' hH hm => ?_, fun b b' i i' hm hm' hv hv' he => ?_⟩
  · by_cases hbn : b = H.length
    · subst hbn
      simp [Ctx.push] at hm; subst hm
      simp at hH; subst hH
      exact hb
    · simp [Ctx.push, hbn] at hm
      have hlt : b < H.length := by have := (List.getElem?_eq_some_iff.1 hH).1; simp at this; omega
      rw [List.getElem?_append_left hlt] at hH
      refine (h.blk b blk' inf' hH hm).kept (Ctx.push_le hn) (fun hv => heap_alloc_old w o _ (hg.bound _ ⟨b, inf', hm, hv, rfl⟩))
  · by_cases hbn : b = H.length <;> by_cases hbn' : b' = H.length
    · rw [hbn, hbn']
    · simp [Ctx.push, hbn] at hm; subst hm
      simp [Ctx.push, hbn'] at hm'
      have := hg.bound _ ⟨b', i', hm', hv', rfl⟩
      have := hi hv
      omega
    · simp [Ctx.push, hbn'] at hm'; subst hm'
      simp [Ctx.push, hbn] at hm
      have := hg.bound _ ⟨b, i, hm, hv, rfl⟩
      have := hi hv'
      omega
    · simp [Ctx.push, hbn] at hm
      simp [Ctx.push, hbn'] at hm'
      exact h.inj b b' i i' hm hm' hv hv' he

end Go.Proofs.YtdfglgnflldkpaaDoor.Mir
