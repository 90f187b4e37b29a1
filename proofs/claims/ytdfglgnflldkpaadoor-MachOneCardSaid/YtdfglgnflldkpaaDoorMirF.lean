/- Mirror, part F: operations that read, make and write memory. -/
import Derived.Test.YtdfglgnflldkpaaDoorMirE
namespace Go.Proofs.YtdfglgnflldkpaaDoor.Mir
open Go
set_option linter.unusedVariables false
set_option linter.unusedSimpArgs false

theorem loadC_sound {P : Program} {t o size : Nat} {agg : Bool} {cs : List AV} {r : AV} (h : loadC agg size cs o = some r) (ha : aggOf P t = some agg) (hs : tsz P t = some size)
    {c : Ctx} {w : World} {blk off : Nat} (hc : CellsAt c w blk off cs) :
    ∃ v, (loadVar t ⟨blk, off + o, none⟩).run P w = .ok v w ∧ Rel c r v := by
  cases agg with
  | true =>
    simp only [loadC] at h
    split at h
    case isFalse => cases h
    rename_i hl
    simp at h; subst h
    obtain ⟨vs, hr, hv, h1⟩ := ((hc.drop o).take size).vals
    refine ⟨.agg vs.toArray, ?_, .agg hr.1 hr.2 h1⟩
    have hlen : vs.length = size := by rw [← hr.1]; simp; omega
    have := run_loadCells_list (P := P) w ⟨blk, off + o, none⟩ vs (fun j v hj => by rw [Addr.add_lit]; exact hv j v hj)
    rw [hlen] at this
    simp [loadVar, aggOf_run ha, tsz_run hs, this]
  | false =>
    simp only [loadC] at h
    obtain ⟨v, h1, h2, h3⟩ := hc o r h
    exact ⟨v, by simp [loadVar, aggOf_run ha, h1], h2⟩

/-- What lies at a place. -/
def loadV (G : Globs) (g : Bool) (s : Nat) (a : AV) (H : AHeap) : Option AV :=
  match a with
  | .ptr b L i o => match H[b]? with
    | some blk => if blk.elems.length = L then (match blk.elems[i]? with | some x => loadC g s x.cells o | none => none) else none
    | none => none
  | .rp _ x o => loadC g s x.cells o
  | .gl k => match g with | true => none | false => G k
  | _ => none

def loadA (P : Program) (G : Globs) (t : Nat) (a : AV) (H : AHeap) : Option AV :=
  match aggOf P t, tsz P t with
  | some g, some s => loadV G g s a H
  | _, _ => none

theorem HeapAt.valid {c : Ctx} {H : AHeap} {w : World} (h : HeapAt c H w) {b : Nat} {blk : ABlk} (hb : H[b]? = some blk) {inf : Info} (hm : c.m b = some inf) : inf.len = blk.elems.length :=
  (h.blk b blk inf hb hm).len

theorem loadA_sound {P : Program} {G : Globs} {t : Nat} {a r : AV} {H : AHeap} (h : loadA P G t a H = some r) {c : Ctx} {w : World} (hg : Good G c w) (hH : HeapAt c H w) {va : Value} (ha : Rel c a va) :
    ∃ v, (Instr.loadAt t va).run P w = .ok v w ∧ Rel c r v := by
  unfold loadA at h
  split at h
  case h_2 => cases h
  rename_i g s hag hsz
  unfold loadV at h
  split at h
  · rename_i b L i o
    split at h
    case h_2 => cases h
    rename_i blk hb
    split at h
    case isFalse => cases h
    rename_i hL
    split at h
    case h_2 => cases h
    rename_i x hx
    cases ha with
    | ptr hm hl hv =>
      have hB := hH.blk _ _ _ hb hm
      obtain ⟨v, e1, e2⟩ := loadC_sound (P := P) h hag hsz (hB.at hv hx)
      exact ⟨v, by simpa [Instr.loadAt, Instr.sureAddr] using e1, e2⟩
    | ptrStale a hm hl =>
      have := hH.valid hb hm
      omega
  · rename_i bor x o
    cases ha with
    | rp h1 h2 =>
      rename_i A V
      have hc : CellsAt c w A.block A.off x.cells := fun j y hy => by
        obtain ⟨e1, e2⟩ := h2 j y hy
        have : c.B ⟨A.block, A.off + j, none⟩ = some (V j) := by
          cases bor
          · exact hg.MB _ _ e1
          · exact e1
        exact ⟨V j, hg.holds _ _ this, h1 j y hy, e2⟩
      obtain ⟨v, e1, e2⟩ := loadC_sound (P := P) h hag hsz hc
      exact ⟨v, by simpa [Instr.loadAt, Instr.sureAddr] using e1, e2⟩
  · split at h
    · cases h
    · rename_i k
      obtain rfl := ha.of_gl
      obtain ⟨v, e1, e2⟩ := hg.glob _ _ h
      have := hg.holds _ _ (hg.MB _ _ e1)
      exact ⟨v, by simp [Instr.loadAt, Instr.sureAddr, loadVar, aggOf_run hag, this], e2⟩
  · cases h

/-! ### Stores -/

/-- May this lie in memory? -/
def storable : AV → Bool
  | .undef => false
  | .tup _ => false
  | _ => true

theorem storable_cells {c : Ctx} {x : AV} {v : Value} (hs : storable x = true) (h : Rel c x v) :
    ∃ vs : List Value, v.cells = vs.toArray ∧ RelL c x.cells vs ∧ ∀ u ∈ vs, u.oneCell' = true := by
  have single : ∀ (y : AV) (u : Value), Rel c y u → y.cells = [y] → u.cells = #[u] → u.oneCell' = true → ∃ vs : List Value, u.cells = vs.toArray ∧ RelL c y.cells vs ∧ ∀ z ∈ vs, z.oneCell' = true :=
    fun y u hr e1 e2 e3 => ⟨[u], by rw [e2], by rw [e1]; exact .cons hr .nil, by simpa using e3⟩
  cases h with
  | undef v => cases hs
  | tup => cases hs
  | agg hl hh h1 => exact ⟨_, rfl, ⟨hl, hh⟩, h1⟩
  | bool b => exact single _ _ (.bool b) rfl rfl rfl
  | int k n => exact single _ _ (.int k n) rfl rfl rfl
  | str s => exact single _ _ (.str s) rfl rfl rfl
  | nilp => exact single _ _ .nilp rfl rfl rfl
  | nilf => exact single _ _ .nilf rfl rfl rfl
  | nili => exact single _ _ .nili rfl rfl rfl
  | fn hl hh => exact single _ _ (.fn hl hh) rfl rfl rfl
  | iface hh => exact single _ _ (.iface hh) rfl rfl rfl
  | ptr a b d => exact single _ _ (.ptr a b d) rfl rfl rfl
  | ptrStale a b d => exact single _ _ (.ptrStale a b d) rfl rfl rfl
  | sl a b d e f g i j => exact single _ _ (.sl a b d e f g i j) rfl rfl rfl
  | slVirt a b d e => exact single _ _ (.slVirt a b d e) rfl rfl rfl
  | slStale a b d e f g => exact single _ _ (.slStale a b d e f g) rfl rfl rfl
  | ro a b d e f g i => exact single _ _ (.ro a b d e f g i) rfl rfl rfl
  | rp a b => exact single _ _ (.rp a b) rfl rfl rfl
  | gl g => exact single _ _ (.gl g) rfl rfl rfl
  | gp hh => exact single _ _ (.gp hh) rfl rfl rfl
  | nils => exact single _ _ .nils rfl rfl rfl
  | anyb b => exact single _ _ (.anyb b) rfl rfl rfl

/-- An element of other cells. -/
def recell (x : AV) (cs : List AV) : AV :=
  match x with
  | .agg _ => .agg cs
  | _ => match cs with | y :: _ => y | [] => .undef

def putC (cs : List AV) (o : Nat) (new : List AV) : List AV := cs.take o ++ (new ++ cs.drop (o + new.length))

def storeV (s : Nat) (a v : AV) (H : AHeap) : Option AHeap :=
  match a with
  | .ptr b L i o => match H[b]? with
    | some blk => if blk.elems.length = L ∧ storable v = true ∧ v.cells.length = s then
        (match blk.elems[i]? with
          | some x => if o + s ≤ x.cells.length then some (H.set b { blk with elems := blk.elems.set i (recell x (putC x.cells o v.cells)) }) else none
          | none => none) else none
    | none => none
  | _ => none

def storeA (P : Program) (t : Nat) (a v : AV) (H : AHeap) : Option AHeap :=
  match tsz P t with
  | some s => storeV s a v H
  | none => none

theorem putC_length {cs new : List AV} {o : Nat} (h : o + new.length ≤ cs.length) : (putC cs o new).length = cs.length := by
  simp [putC]; omega

theorem recell_cells {x : AV} {cs : List AV} (h : cs.length = x.cells.length) (hone : ∀ y ∈ cs, y.cells = [y] ∨ ∃ l, x = .agg l) : (recell x cs).cells = cs := by
  cases x
  case agg l => rfl
  all_goals
    simp only [AV.cells, List.length_singleton] at h
    obtain ⟨y, rfl⟩ := List.length_eq_one_iff.1 h
    rcases hone y (by simp) with h1 | ⟨l, h1⟩
    · simpa [recell] using h1
    · cases h1

theorem putC_get {cs new : List AV} {o j : Nat} (h : o + new.length ≤ cs.length) :
    (putC cs o new)[j]? = if o ≤ j ∧ j < o + new.length then new[j - o]? else cs[j]? := by
  unfold putC
  by_cases h1 : j < o
  · rw [List.getElem?_append_left (by simp; omega), List.getElem?_take, if_pos h1, if_neg (by omega)]
  · rw [List.getElem?_append_right (by simp; omega)]
    have e : (cs.take o).length = o := by simp; omega
    rw [e]
    by_cases h2 : j < o + new.length
    · rw [List.getElem?_append_left (by omega), if_pos (by omega)]
    · rw [List.getElem?_append_right (by omega), List.getElem?_drop, if_neg (by omega)]
      congr 1; omega

/-- Cells that lie in memory are one cell each. -/
theorem oneCell_cells {c : Ctx} {y : AV} {v : Value} (h : Rel c y v) (h1 : v.oneCell' = true) : y.cells = [y] := by
  cases h <;> first | rfl | (cases h1)

theorem row_apart {i k sz j o n : Nat} (hk : k ≠ i) (hj : j < sz) (ho : o + n ≤ sz) : ¬ (i * sz + o ≤ k * sz + j ∧ k * sz + j < i * sz + o + n) := by
  intro ⟨h1, h2⟩
  rcases Nat.lt_or_gt_of_ne hk with h | h
  · have := Nat.mul_le_mul_right sz (show k + 1 ≤ i by omega)
    rw [Nat.add_mul] at this
    omega
  · have := Nat.mul_le_mul_right sz (show i + 1 ≤ k by omega)
    rw [Nat.add_mul] at this
    omega

theorem row_fits {i n cap sz o s : Nat} (hi : i < n) (hn : n ≤ cap) (ho : o + s ≤ sz) : i * sz + o + s ≤ cap * sz := by
  have := Nat.mul_le_mul_right sz (show i + 1 ≤ cap by omega)
  rw [Nat.add_mul] at this
  omega

theorem splice_get {α : Type} (cur vs : List α) (k j : Nat) (h : k + vs.length ≤ cur.length) :
    (cur.take k ++ vs ++ cur.drop (k + vs.length))[j]? = if k ≤ j ∧ j < k + vs.length then vs[j - k]? else cur[j]? := by
  rw [List.append_assoc]
  by_cases h1 : j < k
  · rw [List.getElem?_append_left (by simp; omega), List.getElem?_take, if_pos h1, if_neg (by omega)]
  · rw [List.getElem?_append_right (by simp; omega)]
    have e : (cur.take k).length = k := by simp; omega
    rw [e]
    by_cases h2 : j < k + vs.length
    · rw [List.getElem?_append_left (by omega), if_pos (by omega)]
    · rw [List.getElem?_append_right (by omega), List.getElem?_drop, if_neg (by omega)]
      congr 1; omega

theorem storeA_sound {P : Program} {G : Globs} {t : Nat} {a v : AV} {H H' : AHeap} (h : storeA P t a v H = some H') {c : Ctx} {w : World} (hg : Good G c w) (hH : HeapAt c H w)
    {va vv : Value} (ha : Rel c a va) (hv : Rel c v vv) :
    ∃ w', (Instr.storeAt t va vv).run P w = .ok () w' ∧ Step c w c w' ∧ Good G c w' ∧ HeapAt c H' w' := by
  unfold storeA at h
  split at h
  case h_2 => cases h
  rename_i s hs
  unfold storeV at h
  split at h
  case h_2 => cases h
  rename_i b L i o
  split at h
  case h_2 => cases h
  rename_i blk hb
  split at h
  case isFalse => cases h
  rename_i hc
  obtain ⟨hL, hst, hlen⟩ := hc
  split at h
  case h_2 => cases h
  rename_i x hx
  split at h
  case isFalse => cases h
  rename_i hfit
  simp at h; subst h
  obtain ⟨vs, hvs, hrel, h1⟩ := storable_cells hst hv
  have hvl : vs.length = s := by rw [← hrel.1, hlen]
  cases ha with
  | ptrStale a hm hl => have := hH.valid hb hm; omega
  | ptr hm hl hvirt =>
    rename_i inf
    have hB := hH.blk _ _ _ hb hm
    obtain ⟨cur, hcur, hsize⟩ := hB.real hvirt
    have hi : i < blk.elems.length := (List.getElem?_eq_some_iff.1 hx).1
    have hxs : x.cells.length = blk.sz := (hB.cells hvirt i x hx).1
    have hfits : i * inf.sz + o + s ≤ inf.cap * inf.sz := row_fits hi hB.fits (by rw [hB.sz, ← hxs]; exact hfit)
    have hrun := run_storeCells_at P inf.idx (i * inf.sz + o) inf.ty vs 0 cur w hcur (by rw [hsize, hvl]; simpa using hfits) h1
    simp only [Nat.add_zero] at hrun
    have ho : c.own inf.idx := ⟨b, inf, hm, hvirt, rfl⟩
    have hstep := Step.setRow (c := c) (w := w) ho (cur.toList.take (i * inf.sz + o) ++ vs ++ cur.toList.drop (i * inf.sz + o + vs.length)).toArray
    refine ⟨_, ?_, hstep, hg.world hstep, ?_⟩
    · have : vv.cells.size = s := by rw [hvs]; simpa using hvl
      simp [Instr.storeAt, Instr.sureAddr, storeVar, tsz_run hs, this]
      rw [hvs]
      simpa using hrun
    · refine hH.set hm hvirt ?_
      have hcells : (recell x (putC x.cells o v.cells)).cells = putC x.cells o v.cells := by
        refine recell_cells (putC_length (by omega)) (fun y hy => ?_)
        simp only [putC, List.mem_append] at hy
        rcases hy with hy | hy | hy
        · obtain ⟨j, hj⟩ := List.mem_iff_getElem?.1 (List.mem_of_mem_take hy)
          obtain ⟨u, _, g2, g3⟩ := (hB.cells hvirt i x hx).2 j y hj
          exact .inl (oneCell_cells g2 g3)
        · obtain ⟨j, hj⟩ := List.mem_iff_getElem?.1 hy
          obtain ⟨u, g1, g2⟩ := hrel.get hj
          exact .inl (oneCell_cells g2 (h1 u (List.mem_of_getElem? g1)))
        · obtain ⟨j, hj⟩ := List.mem_iff_getElem?.1 (List.mem_of_mem_drop hy)
          obtain ⟨u, _, g2, g3⟩ := (hB.cells hvirt i x hx).2 j y hj
          exact .inl (oneCell_cells g2 g3)
      have hlen' : (cur.toList.take (i * inf.sz + o) ++ vs ++ cur.toList.drop (i * inf.sz + o + vs.length)).length = cur.size := by
        simp; omega
      refine ⟨hB.ty, hB.sz, hB.pos, by simpa using hB.len, by simpa using hB.fits, hB.virt, hB.big, fun _ => ⟨_, setRow_heap w _ cur _ _ _ hcur, ?_⟩, fun _ k y hy => ?_⟩
      · rw [List.size_toArray, hlen', hsize]
      · have cell : ∀ j, (w.setRow inf.idx (cur.toList.take (i * inf.sz + o) ++ vs ++ cur.toList.drop (i * inf.sz + o + vs.length)).toArray).cell? ⟨inf.idx, j, none⟩ =
            if i * inf.sz + o ≤ j ∧ j < i * inf.sz + o + vs.length then vs[j - (i * inf.sz + o)]? else w.cell? ⟨inf.idx, j, none⟩ := by
          intro j
          rw [cell_setRow_same w _ _ cur _ _ _ hcur, cell_of_row w _ _ _ _ _ hcur, List.getElem?_toArray, splice_get _ _ _ _ (by simp; omega)]
          simp
        by_cases hki : k = i
        · subst hki
          rw [List.getElem?_set_self hi] at hy
          obtain rfl := Option.some.inj hy
          rw [hcells]
          refine ⟨by rw [putC_length (by omega)]; exact hxs, fun j z hz => ?_⟩
          rw [putC_get (by omega)] at hz
          rw [cell, ← hB.sz]
          split at hz
          · rename_i hj
            rw [if_pos (by omega)]
            obtain ⟨u, g1, g2⟩ := hrel.get hz
            refine ⟨u, ?_, g2, h1 u (List.mem_of_getElem? g1)⟩
            rw [← g1]; congr 1; omega
          · rename_i hj
            rw [if_neg (by omega)]
            have := (hB.cells hvirt k x hx).2 j z hz
            rwa [← hB.sz] at this
        · rw [List.getElem?_set_ne (Ne.symm hki)] at hy
          obtain ⟨q1, q2⟩ := hB.cells hvirt k y hy
          refine ⟨q1, fun j z hz => ?_⟩
          have hj : j < blk.sz := by rw [← q1]; exact (List.getElem?_eq_some_iff.1 hz).1
          rw [cell, if_neg (by rw [hB.sz]; exact row_apart hki hj (by omega))]
          exact q2 j z hz

/-! ### New blocks -/

def boxA (t : Nat) (v : AV) (H : AHeap) : Option (AV × AHeap) :=
  if storable v = true ∧ 0 < v.cells.length then some (.ptr H.length 1 0 0, H ++ [{ ty := t, sz := v.cells.length, elems := [v] }]) else none

/-- What an operation that makes a block leaves. -/
structure Made (G : Globs) (c : Ctx) (H : AHeap) (w : World) (r : AV) (H' : AHeap) (v : Value) (w' : World) (c' : Ctx) : Prop where
  step : Step c w c' w'
  good : Good G c' w'
  heap : HeapAt c' H' w'
  rel : Rel c' r v
  same : ∀ b, b ≠ H.length → c'.m b = c.m b
  quiet : ∀ k, k < w.heap.size → w'.heap[k]? = w.heap[k]?
  ext : H' = H ∨ ∃ blk, H' = H ++ [blk]
  keepm : H' = H → c'.m H.length = c.m H.length

theorem made_push {G : Globs} {c : Ctx} {H : AHeap} {w : World} (hg : Good G c w) (hH : HeapAt c H w) (hn : c.m H.length = none) {blk : ABlk} {cap : Nat} {vals : List Value}
    (hpos : 0 < blk.sz) (hlen : blk.elems.length ≤ cap) (hcap : cap ≤ maxLen) (hsz : vals.length = cap * blk.sz)
    (hrel : ∀ (i : Nat) (x : AV), blk.elems[i]? = some x → x.cells.length = blk.sz ∧ ∀ (j : Nat) (y : AV), x.cells[j]? = some y → ∃ v, vals[i * blk.sz + j]? = some v ∧ Rel c y v ∧ v.oneCell' = true)
    {r : AV} {v : Value} (hr : Rel (c.push H.length ⟨w.heap.size, cap, blk.ty, blk.sz, blk.elems.length, false⟩) r v) :
    Made G c H w r (H ++ [blk]) v (w.alloc (.cells vals.toArray blk.ty)) (c.push H.length ⟨w.heap.size, cap, blk.ty, blk.sz, blk.elems.length, false⟩) := by
  refine ⟨Step.push _ hn (fun _ => rfl), hg.push _ hn (fun _ => rfl), hH.push hg hn (fun _ => rfl) ?_, hr, fun b hb => by simp [Ctx.push, hb], fun k hk => heap_alloc_old w _ k hk, .inr ⟨blk, rfl⟩, fun e => by simp at e⟩
  refine BlkAt.new hpos hlen hcap hsz (fun i x hx => ?_) (heap_alloc_new w _)
  obtain ⟨h1, h2⟩ := hrel i x hx
  exact ⟨h1, fun j y hy => let ⟨u, a, b, d⟩ := h2 j y hy; ⟨u, a, b.mono (Ctx.push_le hn), d⟩⟩

theorem newVar_sound {P : Program} {G : Globs} {t : Nat} {v r : AV} {H H' : AHeap} (h : boxA t v H = some (r, H')) {c : Ctx} {w : World} (hg : Good G c w) (hH : HeapAt c H w) (hn : c.m H.length = none)
    {vv : Value} (hv : Rel c v vv) :
    ∃ a w' c', (newVar t vv).run P w = .ok a w' ∧ Made G c H w r H' (.pointer (some a)) w' c' := by
  unfold boxA at h
  split at h
  case isFalse => cases h
  rename_i hc
  simp only [Option.some.injEq, Prod.mk.injEq] at h
  obtain ⟨rfl, rfl⟩ := h
  obtain ⟨vs, hvs, hrel, h1⟩ := storable_cells hc.1 hv
  refine ⟨⟨w.heap.size, 0, none⟩, _, _, ?_, made_push (cap := 1) (vals := vs) hg hH hn (blk := { ty := t, sz := v.cells.length, elems := [v] }) hc.2 (by simp) (by simp [maxLen]) (by simp [hrel.1]) ?_ ?_⟩
  · simp [newVar, newRow, hvs]
  · intro i x hx
    cases i with
    | succ i => simp at hx
    | zero =>
      simp at hx; subst hx
      refine ⟨rfl, fun j y hy => ?_⟩
      obtain ⟨u, g1, g2⟩ := hrel.get hy
      exact ⟨u, by simpa using g1, g2, h1 u (List.mem_of_getElem? g1)⟩
  · have := Rel.ptr (c := c.push H.length ⟨w.heap.size, 1, t, v.cells.length, 1, false⟩) (b := H.length) (L := 1) (i := 0) (o := 0) (inf := ⟨w.heap.size, 1, t, v.cells.length, 1, false⟩) (by simp [Ctx.push]) rfl rfl
    simpa using this

theorem box_sound {P : Program} {G : Globs} {t : Nat} {v r : AV} {H H' : AHeap} (h : boxA t v H = some (r, H')) {c : Ctx} {w : World} (hg : Good G c w) (hH : HeapAt c H w) (hn : c.m H.length = none)
    {vv : Value} (hv : Rel c v vv) : ∃ u w' c', (Instr.box t vv).run P w = .ok u w' ∧ Made G c H w r H' u w' c' := by
  obtain ⟨a, w', c', h1, h2⟩ := newVar_sound (P := P) h hg hH hn hv
  exact ⟨_, w', c', by simp [Instr.box, h1], h2⟩

def allocA (P : Program) (t : Nat) (H : AHeap) : Option (AV × AHeap) :=
  match zeroA P t with
  | some z => boxA t z H
  | none => none

theorem alloc_sound {P : Program} {G : Globs} {t : Nat} {r : AV} {H H' : AHeap} (h : allocA P t H = some (r, H')) {c : Ctx} {w : World} (hg : Good G c w) (hH : HeapAt c H w) (hn : c.m H.length = none) :
    ∃ u w' c', (Instr.alloc t true (.tuple #[])).run P w = .ok u w' ∧ Made G c H w r H' u w' c' := by
  unfold allocA at h
  split at h
  case h_2 => cases h
  rename_i z hz
  obtain ⟨v, h1, h2⟩ := zeroA_run hz w
  obtain ⟨a, w', c', h3, h4⟩ := newVar_sound (P := P) h hg hH hn (h2 c)
  exact ⟨_, w', c', by simp [Instr.alloc, h1, h3], h4⟩

end Go.Proofs.YtdfglgnflldkpaaDoor.Mir
