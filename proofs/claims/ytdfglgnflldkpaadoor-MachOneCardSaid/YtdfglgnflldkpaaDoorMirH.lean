/- Mirror, part H: slices that are built, made, and grow; what is laid for good. -/
import Derived.Test.YtdfglgnflldkpaaDoorMirG
namespace Go.Proofs.YtdfglgnflldkpaaDoor.Mir
open Go
set_option linter.unusedVariables false
set_option linter.unusedSimpArgs false

/-- The cells of a block are laid for good. -/
def Ctx.lay (c : Ctx) (w : World) (k : Nat) : Ctx :=
  { c with M := fun a => if a.block = k then w.cell? a else c.M a, B := fun a => if a.block = k then w.cell? a else c.B a }

/-- A new block that nobody writes to. -/
theorem lay_new {G : Globs} {c : Ctx} {w : World} (hg : Good G c w) (o : Obj) :
    Step c w (c.lay (w.alloc o) w.heap.size) (w.alloc o) ∧ Good G (c.lay (w.alloc o) w.heap.size) (w.alloc o) := by
  have no : ∀ a v, c.B a = some v → a.block ≠ w.heap.size := fun a v h e => by
    have := block_lt_of_cell (hg.holds a v h); omega
  have hs : Step c w (c.lay (w.alloc o) w.heap.size) (w.alloc o) := by
    refine ⟨⟨fun b i hb => ⟨i, hb, rfl, Nat.le_refl _, fun _ => rfl⟩, fun a v h => ?_, fun a v h => ?_, rfl⟩, rfl, rfl, rfl, by simp, fun k hk _ => heap_alloc_old w o k hk, fun _ inf h hv _ => ⟨inf, h, hv, rfl⟩, fun a v h => ?_, fun a v h => ?_⟩
    · simp [Ctx.lay, no a v (hg.MB _ _ h), h]
    · simp [Ctx.lay, no a v h, h]
    · by_cases e : a.block = w.heap.size
      · exact .inr (by omega)
      · simp [Ctx.lay, e] at h; exact .inl h
    · by_cases e : a.block = w.heap.size
      · exact .inr (by omega)
      · simp [Ctx.lay, e] at h; exact .inl h
  refine ⟨hs, hg.step hs (fun a v h => ?_) (fun a v h => ?_) (fun k hk a ha => ?_) (fun k hk => ?_)⟩
  · by_cases e : a.block = w.heap.size
    · simpa [Ctx.lay, e] using h
    · simp [Ctx.lay, e] at h
      rw [World.cell?_alloc_lt w _ _ (block_lt_of_cell (hg.holds a v h))]
      exact hg.holds a v h
  · by_cases e : a.block = w.heap.size
    · simp [Ctx.lay, e] at h ⊢; exact h
    · simp [Ctx.lay, e] at h ⊢; exact hg.MB _ _ h
  · have h1 : c.own k := hk
    have := hg.bound k h1
    have e : a.block ≠ w.heap.size := by omega
    simp [Ctx.lay, e]
    exact hg.away k h1 a ha
  · have := hg.bound k hk
    simp; omega

theorem HeapAt.keep {c c' : Ctx} {H : AHeap} {w w' : World} (h : HeapAt c H w) (hle : c.le c') (hm : ∀ b inf, c'.m b = some inf → c.m b = some inf)
    (hw : ∀ k, c.own k → w'.heap[k]? = w.heap[k]?) : HeapAt c' H w' :=
  ⟨fun b blk inf hb hi => (h.blk b blk inf hb (hm b inf hi)).kept hle (fun hv => hw _ ⟨b, inf, hm b inf hi, hv, rfl⟩),
   fun b b' i i' h1 h2 => h.inj b b' i i' (hm _ _ h1) (hm _ _ h2)⟩

/-- Made, with nothing of the abstract heap turned. -/
theorem made_lay {G : Globs} {c : Ctx} {H : AHeap} {w : World} (hg : Good G c w) (hH : HeapAt c H w) (o : Obj) {r : AV} {v : Value} (hr : Rel (c.lay (w.alloc o) w.heap.size) r v) :
    Made G c H w r H v (w.alloc o) (c.lay (w.alloc o) w.heap.size) := by
  obtain ⟨hs, hg'⟩ := lay_new hg o
  exact ⟨hs, hg', hH.keep hs.le (fun _ _ h => h) (fun k hk => heap_alloc_old w o k (hg.bound k hk)), hr, fun _ _ => rfl, fun k hk => heap_alloc_old w o k hk, .inl rfl, fun _ => rfl⟩

/-- The elements of a slice that is built. -/
def buildZ (P : Program) (t len : Nat) : Option (Nat × Nat × AV) :=
  match P.underlying t with
  | some (.slice e) => match tsz P e with
    | some s => match zeroA P e with
      | some z => if 0 < s ∧ len * s ≤ 16777216 ∧ z.cells.length = s ∧ storable z = true then some (e, s, z) else none
      | none => none
    | none => none
  | _ => none

theorem buildE_sound {P : Program} {t len e' s' : Nat} {z : AV} {parts : List (Nat × AV)} {ys : List AV} (hb : buildZ P t len = some (e', s', z)) (hys : fillE s' parts (List.replicate len z) = some ys) {c : Ctx} {w : World}
    {vparts : Array (Nat × Value)} (hp : PartsRel c parts vparts.toList) :
    ∃ vals : List Value, (Instr.buildSlice t len vparts).run P w = .ok (.slice (some ⟨w.heap.size, 0, none⟩) len len) (w.alloc (.cells vals.toArray e')) ∧ Cells1 c (flat ys) vals ∧
      (∀ x ∈ ys, x.cells.length = s') ∧ ys.length = len ∧ 0 < s' ∧ len * s' ≤ 16777216 := by
  unfold buildZ at hb
  split at hb
  case h_2 => cases hb
  rename_i e hd
  split at hb
  case h_2 => cases hb
  rename_i s hs
  split at hb
  case h_2 => cases hb
  rename_i z' hz
  split at hb
  case isFalse => cases hb
  rename_i hc
  obtain ⟨hs0, hcap, hzl, hst⟩ := hc
  simp only [Option.some.injEq, Prod.mk.injEq] at hb
  obtain ⟨q1, q2, q3⟩ := hb
  obtain rfl := q1.symm
  obtain rfl := q2.symm
  obtain rfl := q3.symm
  obtain ⟨zv, hzr, hzrel⟩ := zeroA_run hz w
  obtain ⟨zs, hzs, hzr1, hz1⟩ := storable_cells hst (hzrel c)
  have hrep : ∀ x ∈ List.replicate len z, x.cells.length = s' := fun x hx => by rw [(List.mem_replicate.1 hx).2]; exact hzl
  obtain ⟨hsz, hlen⟩ := fillE_sz hys hrep
  have hzsl : zs.length = s' := by rw [← hzr1.1, hzl]
  subst hzsl
  let base : List Value := ((List.range (len * zs.length)).map fun i => zs.toArray[i % zs.length]!)
  have hbase : Cells1 c (flat (List.replicate len z)) base := by
    refine ⟨⟨by rw [flat_length hrep]; simp [base], fun i x v hx hv => ?_⟩, fun u hu => ?_⟩
    · have hi : i < len * zs.length := by have := (List.getElem?_eq_some_iff.1 hx).1; rwa [flat_length hrep, List.length_replicate] at this
      have hdm : i = i / zs.length * zs.length + i % zs.length := by rw [Nat.mul_comm]; exact (Nat.div_add_mod i zs.length).symm
      have hmod : i % zs.length < zs.length := Nat.mod_lt _ hs0
      have hdiv : i / zs.length < len := Nat.div_lt_of_lt_mul (by rwa [Nat.mul_comm])
      rw [hdm, flat_get hrep (i := i / zs.length) (x := z) (by simp [hdiv]) hmod] at hx
      simp only [base, List.getElem?_map, List.getElem?_range hi, Option.map_some, Option.some.injEq] at hv
      have hz' : zs[i % zs.length]? = some v := by
        rw [← hv]
        simp [getElem!_pos, hmod]
      exact hzr1.2 _ _ _ hx hz'
    · simp only [base, List.mem_map, List.mem_range] at hu
      obtain ⟨i, hi, rfl⟩ := hu
      have hmod : i % zs.length < zs.length := Nat.mod_lt _ (by omega)
      have : zs.toArray[i % zs.length]! = zs[i % zs.length] := by simp [getElem!_pos, hmod]
      rw [this]
      exact hz1 _ (List.getElem_mem _)
  obtain ⟨rs, g1, g2⟩ := fillA_sound parts vparts.toList _ _ base (fillE_flat hys hrep) hbase hp.1 hp.2
  refine ⟨rs, ?_, g2, hsz, by simpa using hlen, hs0, hcap⟩
  have hn : ¬ (16777216 < len * zs.length) := by omega
  by_cases h0 : len * zs.length = 0
  · have hb : base = [] := by simp only [base, h0]; rfl
    rw [hb] at g1
    have g1' : Instr.fill (fun i => some (i * zs.length, zs.length)) #[] vparts.toList = some rs.toArray := by simpa using g1
    simp only [Instr.buildSlice, Sem.run_bind, run_underlying hd, Result.andThen_ok, tsz_run hs]
    simp [h0, Array.range_zero', g1', newRow]
  · have g1' : Instr.fill (fun i => some (i * zs.length, zs.length)) (Array.map (fun x => zs[x % zs.length]?.getD default) (Array.range (len * zs.length))) vparts.toList = some rs.toArray := by
      rw [← g1]
      congr 1
      apply Array.ext'
      simp [base]
    simp only [Instr.buildSlice, Sem.run_bind, run_underlying hd, Result.andThen_ok, tsz_run hs]
    simp [h0, hn, hzr, hzs, g1', newRow]

theorem cells_of_flat {c : Ctx} {s : Nat} {xs : List AV} {vals : List Value} (hs : ∀ x ∈ xs, x.cells.length = s) (h : Cells1 c (flat xs) vals) {i : Nat} {x : AV} (hx : xs[i]? = some x) {j : Nat} {y : AV} (hy : x.cells[j]? = some y) :
    ∃ v, vals[i * s + j]? = some v ∧ Rel c y v ∧ v.oneCell' = true := by
  have hj : j < s := by rw [← hs x (List.mem_of_getElem? hx)]; exact (List.getElem?_eq_some_iff.1 hy).1
  rw [← flat_get hs hx hj] at hy
  obtain ⟨v, h1, h2⟩ := h.rel.get hy
  exact ⟨v, h1, h2, h.one v (List.mem_of_getElem? h1)⟩

/-- A slice literal: a block of the call's own, or (nobody writes to it) what it holds. -/
def buildOwn (e s len : Nat) (z : AV) (parts : List (Nat × AV)) (H : AHeap) : Option (AV × AHeap) :=
  match fillE s parts (List.replicate len z) with
  | some xs => some (.sl H.length xs.length 0 xs.length s, H ++ [{ ty := e, sz := s, elems := xs }])
  | none => none

def buildRo (s len : Nat) (z : AV) (parts : List (Nat × AV)) (H : AHeap) : Option (AV × AHeap) :=
  match fillE s parts (List.replicate len z) with
  | some xs => some (.ro false xs, H)
  | none => none

def buildSliceA (P : Program) (own : Bool) (t len : Nat) (parts : List (Nat × AV)) (H : AHeap) : Option (AV × AHeap) :=
  match buildZ P t len with
  | some (e, s, z) => match own with
    | true => buildOwn e s len z parts H
    | false => buildRo s len z parts H
  | none => none

theorem buildSliceA_sound {P : Program} {G : Globs} {own : Bool} {t len : Nat} {parts : List (Nat × AV)} {r : AV} {H H' : AHeap} (h : buildSliceA P own t len parts H = some (r, H')) {c : Ctx} {w : World}
    (hg : Good G c w) (hH : HeapAt c H w) (hn : H'.length ≠ H.length → c.m H.length = none) {vparts : Array (Nat × Value)} (hp : PartsRel c parts vparts.toList) :
    ∃ v w' c', (Instr.buildSlice t len vparts).run P w = .ok v w' ∧ Made G c H w r H' v w' c' := by
  unfold buildSliceA at h
  split at h
  case h_2 => cases h
  rename_i e s z hb
  have key : ∀ xs, fillE s parts (List.replicate len z) = some xs → _ := fun xs hf => buildE_sound hb hf (w := w) hp
  cases own with
  | true =>
    simp only [buildOwn] at h
    split at h
    case h_2 => cases h
    rename_i xs hf
    obtain ⟨vals, hrun, hcells, hsz, hlen, hs0, hcap⟩ := key xs hf
    have hle : len ≤ 16777216 := Nat.le_trans (Nat.le_mul_of_pos_right len hs0) hcap
    simp only [Option.some.injEq, Prod.mk.injEq] at h
    obtain ⟨rfl, rfl⟩ := h
    refine ⟨_, _, _, hrun, made_push (cap := len) hg hH (hn (by simp)) (blk := { ty := e, sz := s, elems := xs }) hs0 (by simp [hlen]) (by simp [maxLen]; omega) (by rw [← hcells.rel.1, flat_length hsz, hlen]) (fun i x hx => ⟨hsz x (List.mem_of_getElem? hx), fun j y hy => cells_of_flat hsz hcells hx hy⟩) ?_⟩
    have := Rel.sl (c := c.push H.length ⟨w.heap.size, len, e, s, xs.length, false⟩) (b := H.length) (L := xs.length) (o := 0) (n := xs.length) (sz := s) (a := ⟨w.heap.size, 0, none⟩) (cap' := len)
      (inf := ⟨w.heap.size, len, e, s, xs.length, false⟩) (by simp [Ctx.push]) rfl rfl rfl (by omega) (by simp) (by omega) (.inl (by simp))
    rw [hlen] at this ⊢
    exact this
  | false =>
    simp only [buildRo] at h
    split at h
    case h_2 => cases h
    rename_i xs hf
    obtain ⟨vals, hrun, hcells, hsz, hlen, hs0, hcap⟩ := key xs hf
    simp only [Option.some.injEq, Prod.mk.injEq] at h
    obtain ⟨rfl, rfl⟩ := h
    refine ⟨_, _, _, hrun, made_lay hg hH _ ?_⟩
    have hle := (lay_new hg (.cells vals.toArray e)).1.le
    refine .ro (A := ⟨w.heap.size, 0, none⟩) (V := fun i j => (vals[i * s + j]?).getD default) (sz := s) hlen (Nat.le_refl _) (.inr rfl) rfl (fun i x hx => hsz x (List.mem_of_getElem? hx)) (fun i x j y hx hy => ?_) (fun i x j y hx hy => ?_)
    · obtain ⟨v, h1, h2, h3⟩ := cells_of_flat hsz hcells hx hy
      rw [h1]; exact h2.mono hle
    · obtain ⟨v, h1, h2, h3⟩ := cells_of_flat hsz hcells hx hy
      rw [h1]
      refine ⟨?_, h3⟩
      simp [Ctx.mem, Ctx.lay, h1]

/-- A box that nobody writes to. -/
def boxRoA (v : AV) (H : AHeap) : Option (AV × AHeap) :=
  if storable v = true then some (.rp false v 0, H) else none

theorem boxRoA_sound {P : Program} {G : Globs} {t : Nat} {v r : AV} {H H' : AHeap} (h : boxRoA v H = some (r, H')) {c : Ctx} {w : World} (hg : Good G c w) (hH : HeapAt c H w)
    {vv : Value} (hv : Rel c v vv) : ∃ u w' c', (Instr.box t vv).run P w = .ok u w' ∧ Made G c H w r H' u w' c' := by
  unfold boxRoA at h
  split at h
  case isFalse => cases h
  rename_i hst
  simp only [Option.some.injEq, Prod.mk.injEq] at h
  obtain ⟨rfl, rfl⟩ := h
  obtain ⟨vs, hvs, hrel, h1⟩ := storable_cells hst hv
  have hle := (lay_new hg (.cells vs.toArray t)).1.le
  refine ⟨.pointer (some ⟨w.heap.size, 0, none⟩), _, _, by simp [Instr.box, newVar, newRow, hvs], made_lay hg hH (.cells vs.toArray t) ?_⟩
  refine .rp (A := ⟨w.heap.size, 0, none⟩) (o := 0) (V := fun j => (vs[j]?).getD default) (fun j y hy => ?_) (fun j y hy => ?_)
  · obtain ⟨u, g1, g2⟩ := hrel.get hy
    rw [g1]; exact g2.mono hle
  · obtain ⟨u, g1, g2⟩ := hrel.get hy
    rw [g1]
    exact ⟨by simp [Ctx.mem, Ctx.lay, g1], h1 u (List.mem_of_getElem? g1)⟩

end Go.Proofs.YtdfglgnflldkpaaDoor.Mir
