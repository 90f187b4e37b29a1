/- Mirror, part I: make and append. -/
import Derived.Test.YtdfglgnflldkpaaDoorMirH
namespace Go.Proofs.YtdfglgnflldkpaaDoor.Mir
open Go
set_option linter.unusedVariables false
set_option linter.unusedSimpArgs false

theorem Good.memB {G : Globs} {c : Ctx} {w : World} (hg : Good G c w) {bor : Bool} {a : Addr} {v : Value} (h : c.mem bor a = some v) : c.B a = some v := by
  cases bor
  · exact hg.MB _ _ h
  · exact h

def tby (P : Program) (t : Nat) : Option Nat := (P.info? t).map (·.bytes)

def makeSliceV (e s : Nat) (z : AV) (l c : AV) (H : AHeap) : Option (AV × AHeap) :=
  match l, c with
  | .int _ l, .int _ c => if 0 ≤ l ∧ l ≤ c ∧ c ≤ 1099511627776 then
      some (.sl H.length l.toNat 0 l.toNat s, H ++ [{ ty := e, sz := s, elems := List.replicate l.toNat z }]) else none
  | _, _ => none

def makeSliceA (P : Program) (t : Nat) (l c : AV) (H : AHeap) : Option (AV × AHeap) :=
  match P.underlying t with
  | some (.slice e) => match tsz P e, tby P e, zeroA P e with
    | some s, some by_, some z => if by_ ≤ 128 ∧ 0 < s ∧ z.cells.length = s ∧ storable z = true then makeSliceV e s z l c H else none
    | _, _, _ => none
  | _ => none

theorem zeroA_parts {P : Program} {t s : Nat} {z : AV} (hz : zeroA P t = some z) (hs : tsz P t = some s) :
    ∃ i v, P.info? t = some i ∧ i.zero = some v ∧ i.size = s ∧ ∀ c, Rel c z v := by
  unfold zeroA at hz
  unfold tsz at hs
  obtain ⟨i, hi, hz⟩ := Option.bind_eq_some_iff.1 hz
  obtain ⟨v, hv, rfl⟩ := Option.map_eq_some_iff.1 hz
  simp [hi] at hs
  exact ⟨i, v, hi, hv, hs, fun c => rel_ofVal c v⟩

theorem made_cells {c : Ctx} {z : AV} {zs : List Value} {s n k : Nat} (hz : Cells1 c z.cells zs) (hl : z.cells.length = s) (hs : 0 < s) (hkn : k ≤ n) {i : Nat} {x : AV} (hx : (List.replicate k z)[i]? = some x) :
    x.cells.length = s ∧ ∀ (j : Nat) (y : AV), x.cells[j]? = some y → ∃ v, (madeCells zs.toArray (n * s)).toList[i * s + j]? = some v ∧ Rel c y v ∧ v.oneCell' = true := by
  have hi : i < k := by have := (List.getElem?_eq_some_iff.1 hx).1; simpa using this
  have hxz : x = z := by
    have := List.getElem?_replicate (n := k) (a := z) (i := i)
    rw [this, if_pos hi] at hx
    exact (Option.some.inj hx).symm
  subst hxz
  refine ⟨hl, fun j y hy => ?_⟩
  have hj : j < s := by rw [← hl]; exact (List.getElem?_eq_some_iff.1 hy).1
  obtain ⟨v, h1, h2⟩ := hz.rel.get hy
  refine ⟨v, ?_, h2, hz.one v (List.mem_of_getElem? h1)⟩
  have hzl : zs.length = s := by rw [← hz.rel.1, hl]
  have hlt : i * s + j < n * s := by
    have := Nat.mul_le_mul_right s (show i + 1 ≤ n by omega)
    rw [Nat.add_mul] at this
    omega
  have hmod : (i * s + j) % zs.length = j := by
    rw [hzl, Nat.mul_comm, Nat.mul_add_mod, Nat.mod_eq_of_lt hj]
  simp only [madeCells, Array.toList_map, Array.toList_range, List.getElem?_map, List.getElem?_range hlt, Option.map_some, List.size_toArray, hmod]
  rw [← h1]
  simp [getElem!_pos, hzl, hj]

theorem makeSliceA_sound {P : Program} {G : Globs} {t : Nat} {l c r : AV} {H H' : AHeap} (h : makeSliceA P t l c H = some (r, H')) {cx : Ctx} {w : World} (hg : Good G cx w) (hH : HeapAt cx H w)
    (hn : cx.m H.length = none) {vl vc : Value} (hl : Rel cx l vl) (hc : Rel cx c vc) :
    ∃ v w' c', (Instr.makeSlice t vl vc).run P w = .ok v w' ∧ Made G cx H w r H' v w' c' := by
  unfold makeSliceA at h
  split at h
  case h_2 => cases h
  rename_i e hd
  split at h
  case h_2 => cases h
  rename_i s by_ z hs hb hz
  split at h
  case isFalse => cases h
  rename_i hcond
  obtain ⟨hby, hs0, hzl, hst⟩ := hcond
  unfold makeSliceV at h
  split at h
  case h_2 => cases h
  rename_i kl l' kc c'
  obtain rfl := hl.of_int
  obtain rfl := hc.of_int
  split at h
  case isFalse => cases h
  rename_i hcond
  obtain ⟨h0, hlc, hcm⟩ := hcond
  simp only [Option.some.injEq, Prod.mk.injEq] at h
  obtain ⟨rfl, rfl⟩ := h
  obtain ⟨i, zv, hi, hzv, hsz, hrel⟩ := zeroA_parts hz hs
  obtain ⟨zs, hzs, hzr, hz1⟩ := storable_cells hst (hrel cx)
  have hbyi : i.bytes ≤ 128 := by simp [tby, hi] at hb; omega
  have hbytes : (i.bytes : Int) * c' ≤ 281474976710656 := by
    have : (i.bytes : Int) * c' ≤ 128 * 1099511627776 := Int.mul_le_mul (by omega) hcm (by omega) (by omega)
    omega
  have hrun := run_make (P := P) w t e i zv hd hi hzv kl kc l' c' h0 hlc hbytes (by omega)
  rw [hsz, hzs] at hrun
  have hcap : c'.toNat ≤ maxLen := by simp [maxLen]; omega
  refine ⟨_, _, cx.push H.length ⟨w.heap.size, c'.toNat, e, s, (List.replicate l'.toNat z).length, false⟩, hrun, ?_⟩
  have hvals : madeCells zs.toArray (c'.toNat * s) = (madeCells zs.toArray (c'.toNat * s)).toList.toArray := by simp
  rw [hvals]
  refine made_push (cap := c'.toNat) hg hH hn (blk := { ty := e, sz := s, elems := List.replicate l'.toNat z }) hs0 (by simp; omega) hcap (by simp [size_madeCells])
    (fun i x hx => made_cells ⟨hzr, hz1⟩ hzl hs0 (by omega) hx) ?_
  have := Rel.sl (c := cx.push H.length ⟨w.heap.size, c'.toNat, e, s, l'.toNat, false⟩) (b := H.length) (L := l'.toNat) (o := 0) (n := l'.toNat) (sz := s) (a := ⟨w.heap.size, 0, none⟩) (cap' := c'.toNat)
    (inf := ⟨w.heap.size, c'.toNat, e, s, l'.toNat, false⟩) (by simp [Ctx.push]) rfl rfl rfl (by omega) (by simp) (by omega) (.inl (by simp))
  simpa using this

/-! ### append -/

/-- The elements of a slice. -/
def elemsOf (x : AV) (H : AHeap) : Option (List AV) :=
  match x with
  | .ro _ ys => some ys
  | .sl b L o n _ => match H[b]? with
    | some blk => if blk.elems.length = L then some ((blk.elems.drop o).take n) else none
    | none => none
  | .nils => some []
  | _ => none

theorem elemsOf_sound {G : Globs} {x : AV} {H : AHeap} {ys : List AV} (h : elemsOf x H = some ys) {c : Ctx} {w : World} (hg : Good G c w) (hH : HeapAt c H w) {v : Value} (hx : Rel c x v) {s : Nat} (hs : allSz s ys = true) :
    ∃ a n cap, v = .slice a n cap ∧ ys.length = n ∧ n ≤ cap ∧ (ys = [] ∨ ∃ A, a = some A ∧ A.spot = none ∧ CellsAt c w A.block A.off (flat ys)) := by
  have hsz : ∀ y ∈ ys, y.cells.length = s := fun y hy => by have := List.all_eq_true.1 hs y hy; simpa using this
  have split_ : ∀ {blk off : Nat}, (∀ (i : Nat) (y : AV), ys[i]? = some y → CellsAt c w blk (off + i * s) y.cells) → CellsAt c w blk off (flat ys) := by
    intro blk off hh k z hz
    by_cases hs0 : s = 0
    · have := flat_length hsz
      have := (List.getElem?_eq_some_iff.1 hz).1
      rw [hs0] at *
      omega
    have hk : k < ys.length * s := by have := (List.getElem?_eq_some_iff.1 hz).1; rwa [flat_length hsz] at this
    have hdiv : k / s < ys.length := Nat.div_lt_of_lt_mul (by rwa [Nat.mul_comm])
    have hmod : k % s < s := Nat.mod_lt _ (by omega)
    have hdm : k = k / s * s + k % s := by rw [Nat.mul_comm]; exact (Nat.div_add_mod k s).symm
    have hy : ys[k / s]? = some ys[k / s] := List.getElem?_eq_getElem hdiv
    rw [hdm, flat_get hsz hy hmod] at hz
    have := hh _ _ hy _ _ hz
    rwa [Nat.add_assoc, ← hdm] at this
  unfold elemsOf at h
  split at h
  · simp at h; subst h
    cases hx with
    | ro hn hcap ha hA hsz' hrel hm =>
      rename_i bor a n cap sz A V
      refine ⟨a, n, cap, rfl, hn, hcap, ?_⟩
      rcases ha with h0 | ha
      · exact .inl h0
      · refine .inr ⟨A, ha, hA, split_ (fun i y hy j z hz => ?_)⟩
        have e : sz = s := by rw [← hsz' i y hy, hsz y (List.mem_of_getElem? hy)]
        subst e
        obtain ⟨g1, g2⟩ := hm i y j z hy hz
        exact ⟨V i j, hg.holds _ _ (hg.memB g1), hrel i y j z hy hz, g2⟩
  · rename_i b L o n sz
    split at h
    case h_2 => cases h
    rename_i blk hb
    split at h
    case isFalse => cases h
    rename_i hL
    simp at h; subst h
    cases hx with
    | sl hm hl hv hsz' ho hcap hnc ha =>
      rename_i inf a cap'
      have hB := hH.blk _ _ _ hb hm
      refine ⟨_, _, _, rfl, by simp; omega, hnc, ?_⟩
      rcases ha with rfl | ⟨h0, _⟩
      · by_cases hn0 : (blk.elems.drop o).take n = []
        · exact .inl hn0
        · refine .inr ⟨_, rfl, rfl, split_ (fun i y hy => ?_)⟩
          have hys := hsz y (List.mem_of_getElem? hy)
          rw [List.getElem?_take] at hy
          split at hy
          case isFalse => cases hy
          rw [List.getElem?_drop] at hy
          have hc := hB.at hv hy
          have : inf.sz = s := by rw [hB.sz, ← (hB.cells hv _ _ hy).1, hys]
          rw [← hsz', this, ← Nat.add_mul]
          rwa [this] at hc
      · exact .inl (by apply List.eq_nil_of_length_eq_zero; simp; omega)
    | slVirt hm hl hv hsz' => exact ⟨_, _, _, rfl, by simp, by omega, .inl (by simp)⟩
    | slStale a cap' hm hl hnc ha => have := hH.valid hb hm; omega
  · simp at h; subst h
    obtain rfl := hx.of_nils
    exact ⟨none, 0, 0, rfl, rfl, Nat.le_refl _, .inl rfl⟩
  · cases h

/-- The place of a block turns: it has grown. -/
def Ctx.upd (c : Ctx) (b : Nat) (inf : Info) : Ctx := { c with m := fun b' => if b' = b then some inf else c.m b' }

theorem Ctx.upd_le {c : Ctx} {b : Nat} {inf inf' : Info} (hm : c.m b = some inf) (hs : inf'.sz = inf.sz) (hl : inf.len ≤ inf'.len) (hu : inf'.len = inf.len → inf' = inf) : c.le (c.upd b inf') := by
  refine ⟨fun k i hk => ?_, fun _ _ h => h, fun _ _ h => h, rfl⟩
  by_cases e : k = b
  · subst e
    obtain rfl := Option.some.inj (hm.symm.trans hk)
    exact ⟨inf', by simp [Ctx.upd], hs, hl, hu⟩
  · exact ⟨i, by simp [Ctx.upd, e, hk], rfl, Nat.le_refl _, fun _ => rfl⟩

theorem Ctx.upd_own {c : Ctx} {b : Nat} {inf : Info} {k : Nat} (h : (c.upd b inf).own k) : (∃ b' i, b' ≠ b ∧ c.m b' = some i ∧ i.virt = false ∧ i.idx = k) ∨ (inf.virt = false ∧ inf.idx = k) := by
  obtain ⟨b', i, hb, hv, hk⟩ := h
  by_cases e : b' = b
  · simp [Ctx.upd, e] at hb; subst hb; exact .inr ⟨hv, hk⟩
  · simp [Ctx.upd, e] at hb; exact .inl ⟨b', i, e, hb, hv, hk⟩

/-- A block has moved into a new row of the heap. -/
theorem grown_new {G : Globs} {c : Ctx} {H : AHeap} {w : World} (hg : Good G c w) (hH : HeapAt c H w) {b : Nat} {inf inf' : Info} (hm : c.m b = some inf) {blk' : ABlk} {o : Obj}
    (hs : inf'.sz = inf.sz) (hl : inf.len < inf'.len) (hi : inf'.idx = w.heap.size) (hv : inf'.virt = false) (hb : BlkAt (c.upd b inf') inf' blk' (w.drew.alloc o)) (hlt : b < H.length) :
    Step c w (c.upd b inf') (w.drew.alloc o) ∧ Good G (c.upd b inf') (w.drew.alloc o) ∧ HeapAt (c.upd b inf') (H.set b blk') (w.drew.alloc o) := by
  have hle : c.le (c.upd b inf') := Ctx.upd_le hm hs (by omega) (by omega)
  have hstep : Step c w (c.upd b inf') (w.drew.alloc o) := by
    refine ⟨hle, rfl, rfl, rfl, by simp, fun k hk _ => heap_alloc_old w.drew o k hk, fun b' i hb' hv' hlt => ?_, fun _ _ h => .inl h, fun _ _ h => .inl h⟩
    by_cases e : b' = b
    · simp [Ctx.upd, e] at hb'; subst hb'; omega
    · simp [Ctx.upd, e] at hb'; exact ⟨i, hb', hv', rfl⟩
  refine ⟨hstep, hg.step hstep (fun a v hv => ?_) hg.MB (fun k hk a ha => ?_) (fun k hk => ?_), ?_, ?_⟩
  · have h1 := hg.holds a v hv
    rw [World.cell?_alloc_lt w.drew _ _ (block_lt_of_cell h1)]; exact h1
  · rcases Ctx.upd_own hk with ⟨b', i, _, h1, h2, h3⟩ | ⟨h1, h2⟩
    · exact hg.away k ⟨b', i, h1, h2, h3⟩ a ha
    · cases hB : (c.upd b inf').B a with
      | none => rfl
      | some v => exact absurd (block_lt_of_cell (hg.holds a v hB)) (by omega)
  · rcases Ctx.upd_own hk with ⟨b', i, _, h1, h2, h3⟩ | ⟨h1, h2⟩
    · have := hg.bound k ⟨b', i, h1, h2, h3⟩; simp; omega
    · simp; omega
  · intro b' blk i hb' hm'
    by_cases e : b' = b
    · subst e
      simp [Ctx.upd] at hm'; subst hm'
      rw [List.getElem?_set_self hlt] at hb'
      obtain rfl := Option.some.inj hb'
      exact hb
    · simp [Ctx.upd, e] at hm'
      rw [List.getElem?_set_ne (Ne.symm e)] at hb'
      exact (hH.blk b' blk i hb' hm').kept hle (fun hv' => heap_alloc_old w.drew o _ (hg.bound _ ⟨b', i, hm', hv', rfl⟩))
  · intro b1 b2 i1 i2 h1 h2 v1 v2 he
    by_cases e1 : b1 = b <;> by_cases e2 : b2 = b
    · rw [e1, e2]
    · simp [Ctx.upd, e1] at h1; subst h1
      simp [Ctx.upd, e2] at h2
      have := hg.bound _ ⟨b2, i2, h2, v2, rfl⟩
      omega
    · simp [Ctx.upd, e2] at h2; subst h2
      simp [Ctx.upd, e1] at h1
      have := hg.bound _ ⟨b1, i1, h1, v1, rfl⟩
      omega
    · simp [Ctx.upd, e1] at h1
      simp [Ctx.upd, e2] at h2
      exact hH.inj b1 b2 i1 i2 h1 h2 v1 v2 he

/-- A block has grown where it lies. -/
theorem grown_here {G : Globs} {c : Ctx} {H : AHeap} {w : World} (hg : Good G c w) (hH : HeapAt c H w) {b : Nat} {inf inf' : Info} (hm : c.m b = some inf) {blk' : ABlk} {cs : Array Value}
    (hs : inf'.sz = inf.sz) (hl : inf.len ≤ inf'.len) (hu : inf'.len = inf.len → inf' = inf) (hi : inf'.idx = inf.idx) (hv : inf.virt = false) (hv' : inf'.virt = false)
    (hb : BlkAt (c.upd b inf') inf' blk' (w.setRow inf.idx cs)) (hlt : b < H.length) :
    Step c w (c.upd b inf') (w.setRow inf.idx cs) ∧ Good G (c.upd b inf') (w.setRow inf.idx cs) ∧ HeapAt (c.upd b inf') (H.set b blk') (w.setRow inf.idx cs) := by
  have hle : c.le (c.upd b inf') := Ctx.upd_le hm hs hl hu
  have hown : ∀ k, (c.upd b inf').own k → c.own k := fun k hk => by
    rcases Ctx.upd_own hk with ⟨b', i, _, h1, h2, h3⟩ | ⟨h1, h2⟩
    · exact ⟨b', i, h1, h2, h3⟩
    · exact ⟨b, inf, hm, hv, by omega⟩
  have ho : c.own inf.idx := ⟨b, inf, hm, hv, rfl⟩
  have hstep0 := Step.setRow (c := c) (w := w) ho cs
  have hstep : Step c w (c.upd b inf') (w.setRow inf.idx cs) :=
    ⟨hle, rfl, rfl, rfl, by simp, hstep0.kept, fun b' i hb' hv' hlt => by
      by_cases e : b' = b
      · simp [Ctx.upd, e] at hb'; subst hb'; exact ⟨inf, by rw [e]; exact hm, hv, hi.symm⟩
      · simp [Ctx.upd, e] at hb'; exact ⟨i, hb', hv', rfl⟩, fun _ _ h => .inl h, fun _ _ h => .inl h⟩
  have hg0 := hg.world hstep0
  refine ⟨hstep, hg.step hstep hg0.holds hg.MB (fun k hk a ha => hg.away k (hown k hk) a ha) (fun k hk => by have := hg.bound k (hown k hk); simpa using this), ?_, ?_⟩
  · intro b' blk i hb' hm'
    by_cases e : b' = b
    · subst e
      simp [Ctx.upd] at hm'; subst hm'
      rw [List.getElem?_set_self hlt] at hb'
      obtain rfl := Option.some.inj hb'
      exact hb
    · simp [Ctx.upd, e] at hm'
      rw [List.getElem?_set_ne (Ne.symm e)] at hb'
      exact (hH.blk b' blk i hb' hm').kept hle (fun hv'' => setRow_other w _ _ _ (fun q => e (hH.inj b' b i inf hm' hm hv'' hv q)))
  · intro b1 b2 i1 i2 h1 h2 v1 v2 he
    by_cases e1 : b1 = b <;> by_cases e2 : b2 = b
    · rw [e1, e2]
    · simp [Ctx.upd, e1] at h1; subst h1
      simp [Ctx.upd, e2] at h2
      exact absurd (hH.inj b2 b i2 inf h2 hm v2 hv (by omega)) e2
    · simp [Ctx.upd, e2] at h2; subst h2
      simp [Ctx.upd, e1] at h1
      exact absurd (hH.inj b1 b i1 inf h1 hm v1 hv (by omega)) e1
    · simp [Ctx.upd, e1] at h1
      simp [Ctx.upd, e2] at h2
      exact hH.inj b1 b2 i1 i2 h1 h2 v1 v2 he

def appendV (e sz : Nat) (s x : AV) (H : AHeap) : Option (AV × AHeap) :=
  match s with
  | .sl b L 0 n sz' => match H[b]?, elemsOf x H with
    | some blk, some ys => if blk.elems.length = L ∧ sz' = sz ∧ blk.ty = e ∧ allSz sz ys = true ∧ n + ys.length ≤ 1099511627776 then
        some (.sl b (blk.elems.take n ++ (ys ++ blk.elems.drop (n + ys.length))).length 0 (n + ys.length) sz, H.set b { blk with elems := blk.elems.take n ++ (ys ++ blk.elems.drop (n + ys.length)) })
      else none
    | _, _ => none
  | _ => none

def appendA (P : Program) (ts : Array Nat) (s x : AV) (H : AHeap) : Option (AV × AHeap) :=
  match ts.toList with
  | [t, t'] => if t = t' then
      match P.underlying t with
      | some (.slice e) => match tsz P e, tby P e, zeroA P e with
        | some sz, some by_, some z => if by_ ≤ 128 ∧ z.cells.length = sz ∧ storable z = true then appendV e sz s x H else none
        | _, _, _ => none
      | _ => none
    else none
  | _ => none

end Go.Proofs.YtdfglgnflldkpaaDoor.Mir
