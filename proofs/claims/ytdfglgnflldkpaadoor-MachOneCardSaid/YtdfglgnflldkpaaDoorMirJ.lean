/- Mirror, part J: append is sound. -/
import Derived.Test.YtdfglgnflldkpaaDoorMirI
import Derived.Laws.CopyRow
import Derived.Laws.IdiomCopy
namespace Go.Proofs.YtdfglgnflldkpaaDoor.Mir
open Go
set_option linter.unusedVariables false
set_option linter.unusedSimpArgs false

theorem run_append_zero {P : Program} {w : World} {t e : TypeId} {i : TypeInfo} (ty : TypeId) (ht : P.underlying t = some (.slice e)) (hi : P.info? e = some i) (base a : Option Addr) {n cap : Nat} (c : Nat) (hn : n ≤ cap) :
    (Builtin.append_ #[t, t] ty #[.slice base n cap, .slice a 0 c]).run P w = .ok (.slice base n cap) w := by
  cases a <;> cases base <;> simp [Builtin.append_, run_underlying ht, sizeOf, typeInfo, hi, Builtin.lenOf, hn, Builtin.firstCells, loadCells, loadCellsFrom, storeCells]

theorem BlkAt.flatCells {c : Ctx} {inf : Info} {blk : ABlk} {w : World} (h : BlkAt c inf blk w) (hv : inf.virt = false) {cur : Array Value} {ty : Nat} (hc : w.heap[inf.idx]? = some (.cells cur ty (0, 0))) :
    (∀ x ∈ blk.elems, x.cells.length = blk.sz) ∧ Cells1 c (flat blk.elems) (cur.toList.take (blk.elems.length * blk.sz)) ∧ blk.elems.length * blk.sz ≤ cur.size := by
  have hsz : ∀ x ∈ blk.elems, x.cells.length = blk.sz := fun x hx => by
    obtain ⟨i, hi⟩ := List.mem_iff_getElem?.1 hx
    exact (h.cells hv i x hi).1
  obtain ⟨cur', hcur', hsize⟩ := h.real hv
  rw [hc] at hcur'
  obtain ⟨rfl, _⟩ : cur' = cur ∧ True := by simp at hcur'; exact ⟨hcur'.1.symm, trivial⟩
  have hfit : blk.elems.length * blk.sz ≤ cur'.size := by rw [hsize, h.sz]; exact Nat.mul_le_mul_right _ h.fits
  refine ⟨hsz, ?_, hfit⟩
  have get : ∀ (k : Nat) (y : AV), (flat blk.elems)[k]? = some y → ∃ v, cur'.toList[k]? = some v ∧ Rel c y v ∧ v.oneCell' = true := by
    intro k y hy
    have hk : k < blk.elems.length * blk.sz := by have := (List.getElem?_eq_some_iff.1 hy).1; rwa [flat_length hsz] at this
    have hdiv : k / blk.sz < blk.elems.length := Nat.div_lt_of_lt_mul (by rwa [Nat.mul_comm])
    have hmod : k % blk.sz < blk.sz := Nat.mod_lt _ h.pos
    have hdm : k = k / blk.sz * blk.sz + k % blk.sz := by rw [Nat.mul_comm]; exact (Nat.div_add_mod k blk.sz).symm
    have hx : blk.elems[k / blk.sz]? = some blk.elems[k / blk.sz] := List.getElem?_eq_getElem hdiv
    rw [hdm, flat_get hsz hx hmod] at hy
    obtain ⟨v, g1, g2, g3⟩ := (h.cells hv _ _ hx).2 _ _ hy
    rw [← hdm, cell_of_row w _ _ _ _ _ hc] at g1
    exact ⟨v, by simpa using g1, g2, g3⟩
  refine ⟨⟨by simp [flat_length hsz]; omega, fun i x v hx hv' => ?_⟩, fun u hu => ?_⟩
  · obtain ⟨v', g1, g2, _⟩ := get i x hx
    rw [List.getElem?_take] at hv'
    split at hv'
    · rw [g1] at hv'; obtain rfl := Option.some.inj hv'; exact g2
    · cases hv'
  · obtain ⟨i, hi⟩ := List.mem_iff_getElem?.1 hu
    rw [List.getElem?_take] at hi
    split at hi
    · rename_i hlt
      have : (flat blk.elems)[i]? = some ((flat blk.elems)[i]'(by rw [flat_length hsz]; exact hlt)) := List.getElem?_eq_getElem _
      obtain ⟨v', g1, _, g3⟩ := get i _ this
      rw [g1] at hi; obtain rfl := Option.some.inj hi; exact g3
    · cases hi

theorem flat_append (xs ys : List AV) : flat (xs ++ ys) = flat xs ++ flat ys := by simp [flat]

theorem flat_take {s : Nat} {xs : List AV} (h : ∀ x ∈ xs, x.cells.length = s) (n : Nat) : flat (xs.take n) = (flat xs).take (n * s) := by
  have e := List.take_append_drop n xs
  have h1 : (flat (xs.take n)).length = min n xs.length * s := by rw [flat_length (fun x hx => h x (List.mem_of_mem_take hx)), List.length_take]
  by_cases hn : n ≤ xs.length
  · rw [Nat.min_eq_left hn] at h1
    conv => rhs; rw [← e, flat_append]
    rw [← h1, List.take_left]
  · rw [List.take_of_length_le (by omega), List.take_of_length_le]
    rw [flat_length h]; exact Nat.mul_le_mul_right s (by omega)

theorem flat_drop {s : Nat} {xs : List AV} (h : ∀ x ∈ xs, x.cells.length = s) (n : Nat) : flat (xs.drop n) = (flat xs).drop (n * s) := by
  have e := List.take_append_drop n xs
  have h1 : (flat (xs.take n)).length = min n xs.length * s := by rw [flat_length (fun x hx => h x (List.mem_of_mem_take hx)), List.length_take]
  by_cases hn : n ≤ xs.length
  · rw [Nat.min_eq_left hn] at h1
    conv => rhs; rw [← e, flat_append]
    rw [← h1, List.drop_left]
  · rw [List.drop_of_length_le (by omega), List.drop_of_length_le]
    · rfl
    · rw [flat_length h]; exact Nat.mul_le_mul_right s (by omega)

/-- The cells of a slice that has grown, out of those that were there and those that came. -/
theorem grown_cells {c : Ctx} {s n : Nat} {xs ys : List AV} {ov nv : List Value} (hx : ∀ x ∈ xs, x.cells.length = s) (hy : ∀ y ∈ ys, y.cells.length = s) (hn : n ≤ xs.length)
    (ho : Cells1 c (flat xs) ov) (hnv : Cells1 c (flat ys) nv) :
    (∀ x ∈ xs.take n ++ (ys ++ xs.drop (n + ys.length)), x.cells.length = s) ∧
    Cells1 c (flat (xs.take n ++ (ys ++ xs.drop (n + ys.length)))) (ov.take (n * s) ++ (nv ++ ov.drop (n * s + nv.length))) := by
  have hl : ∀ x ∈ xs.take n ++ (ys ++ xs.drop (n + ys.length)), x.cells.length = s := by
    intro x hm
    simp only [List.mem_append] at hm
    rcases hm with hm | hm | hm
    · exact hx x (List.mem_of_mem_take hm)
    · exact hy x hm
    · exact hx x (List.mem_of_mem_drop hm)
  refine ⟨hl, ?_⟩
  have e1 : nv.length = ys.length * s := by rw [← hnv.rel.1, flat_length hy]
  have e2 : ov.length = xs.length * s := by rw [← ho.rel.1, flat_length hx]
  have hns : n * s ≤ xs.length * s := Nat.mul_le_mul_right s hn
  have e3 : flat (xs.take n ++ (ys ++ xs.drop (n + ys.length))) = (flat xs).take (n * s) ++ (flat ys ++ (flat xs).drop (n * s + nv.length)) := by
    rw [flat_append, flat_append, flat_take hx, flat_drop hx, e1, Nat.add_mul]
  rw [e3]
  have hfl := flat_length hx
  have hfy := flat_length hy
  refine ⟨⟨?_, fun i x v h1 h2 => ?_⟩, fun u hu => ?_⟩
  · have := ho.rel.1
    have := hnv.rel.1
    simp only [List.length_append, List.length_take, List.length_drop]
    omega
  · have a1 := ho.rel.1
    have a2 := hnv.rel.1
    by_cases q1 : i < n * s
    · rw [List.getElem?_append_left (by simp; omega), List.getElem?_take, if_pos q1] at h1
      rw [List.getElem?_append_left (by simp; omega), List.getElem?_take, if_pos q1] at h2
      exact ho.rel.2 _ _ _ h1 h2
    · rw [List.getElem?_append_right (by simp; omega)] at h1 h2
      have l1 : ((flat xs).take (n * s)).length = n * s := by simp; omega
      have l2 : (ov.take (n * s)).length = n * s := by simp; omega
      rw [l1] at h1; rw [l2] at h2
      by_cases q2 : i - n * s < nv.length
      · rw [List.getElem?_append_left (by omega)] at h1 h2
        exact hnv.rel.2 _ _ _ h1 h2
      · rw [List.getElem?_append_right (by omega), List.getElem?_drop] at h1 h2
        rw [a2] at h1
        exact ho.rel.2 _ _ _ h1 h2
  · simp only [List.mem_append] at hu
    rcases hu with hu | hu | hu
    · exact ho.one u (List.mem_of_mem_take hu)
    · exact hnv.one u hu
    · exact ho.one u (List.mem_of_mem_drop hu)

theorem Cells1.mono {c c' : Ctx} (hle : c.le c') {cs : List AV} {vs : List Value} (h : Cells1 c cs vs) : Cells1 c' cs vs := ⟨h.rel.mono hle, h.one⟩

/-- A block, out of its row of cells. -/
theorem BlkAt.ofFlat {c : Ctx} {inf : Info} {blk : ABlk} {w : World} {cur : Array Value} {vals : List Value} (hty : inf.ty = blk.ty) (hsz : inf.sz = blk.sz) (hpos : 0 < blk.sz) (hlen : inf.len = blk.elems.length)
    (hfits : blk.elems.length ≤ inf.cap) (hv : inf.virt = false) (hbig : inf.cap ≤ maxLen) (hw : w.heap[inf.idx]? = some (.cells cur inf.ty (0, 0))) (hcs : cur.size = inf.cap * inf.sz)
    (hx : ∀ x ∈ blk.elems, x.cells.length = blk.sz) (hcells : Cells1 c (flat blk.elems) vals) (hpre : ∀ (k : Nat) (v : Value), vals[k]? = some v → cur.toList[k]? = some v) : BlkAt c inf blk w := by
  refine ⟨hty, hsz, hpos, hlen, hfits, by simp [hv], hbig, fun _ => ⟨cur, hw, hcs⟩, fun _ i x hi => ⟨hx x (List.mem_of_getElem? hi), fun j y hy => ?_⟩⟩
  obtain ⟨v, g1, g2, g3⟩ := cells_of_flat hx hcells hi hy
  refine ⟨v, ?_, g2, g3⟩
  rw [cell_of_row w _ _ _ _ _ hw]
  simpa using hpre _ _ g1

/-- What an operation that writes leaves. -/
structure Wrote (G : Globs) (c : Ctx) (w : World) (r : AV) (H' : AHeap) (v : Value) (w' : World) (c' : Ctx) : Prop where
  step : Step c w c' w'
  good : Good G c' w'
  heap : HeapAt c' H' w'
  rel : Rel c' r v
  dom : ∀ b, c'.m b ≠ none → c.m b ≠ none

theorem appendA_sound {P : Program} {G : Globs} {ts : Array Nat} {ty : Nat} {s x r : AV} {H H' : AHeap} (h : appendA P ts s x H = some (r, H')) {c : Ctx} {w : World} (hg : Good G c w) (hH : HeapAt c H w)
    {vs vx : Value} (hs : Rel c s vs) (hx : Rel c x vx) :
    ∃ v w' c', (Builtin.append_ ts ty #[vs, vx]).run P w = .ok v w' ∧ Wrote G c w r H' v w' c' := by
  unfold appendA at h
  split at h
  case h_2 => cases h
  rename_i t t' hts
  split at h
  case isFalse => cases h
  rename_i htt
  subst htt
  have hts' : ts = #[t, t] := by apply Array.ext'; simpa using hts
  subst hts'
  split at h
  case h_2 => cases h
  rename_i e hd
  split at h
  case h_2 => cases h
  rename_i sz by_ z hsz hby hz
  split at h
  case isFalse => cases h
  rename_i hc0
  obtain ⟨hb128, hzl, hzst⟩ := hc0
  unfold appendV at h
  split at h
  case h_2 => cases h
  rename_i b L n sz'
  split at h
  case h_2 => cases h
  rename_i blk ys hb hys
  split at h
  case isFalse => cases h
  rename_i hc
  obtain ⟨hL, hsz', hty, hall, hbig⟩ := hc
  simp only [Option.some.injEq, Prod.mk.injEq] at h
  obtain ⟨rfl, rfl⟩ := h
  subst hsz'
  obtain ⟨i, zv, hi, hzv, hisz, hzrel⟩ := zeroA_parts hz hsz
  have hbyi : i.bytes ≤ 128 := by simp [tby, hi] at hby; omega
  obtain ⟨zs, hzs, hzr, hz1⟩ := storable_cells hzst (hzrel c)
  have hzsl : zs.length = sz' := by rw [← hzr.1, hzl]
  obtain ⟨a, m, cap2, rfl, hym, _, hya⟩ := elemsOf_sound hys hg hH hx hall
  have hyy : ∀ y ∈ ys, y.cells.length = sz' := fun y hy => by have := List.all_eq_true.1 hall y hy; simpa using this
  have hblt : b < H.length := (List.getElem?_eq_some_iff.1 hb).1
  subst hym
  -- the elements behind
  have hlen : ∀ (n : Nat), n ≤ blk.elems.length → (blk.elems.take n ++ (ys ++ blk.elems.drop (n + ys.length))).length = max blk.elems.length (n + ys.length) := by
    intro n hn; simp; omega
  by_cases hm0 : ys.length = 0
  · -- nothing comes
    have hy0 : ys = [] := List.eq_nil_of_length_eq_zero hm0
    subst hy0
    have same : blk.elems.take n ++ ([] ++ blk.elems.drop (n + 0)) = blk.elems := by simp
    have hset : H.set b { blk with elems := blk.elems } = H := by
      apply List.ext_getElem?
      intro k
      by_cases e : b = k
      · subst e; rw [List.getElem?_set_self hblt, hb]
      · rw [List.getElem?_set_ne e]
    simp only [List.length_nil, Nat.add_zero] at same ⊢
    rw [same, hset, hL]
    have fin : ∀ base cap, vs = .slice base n cap → n ≤ cap → Rel c (.sl b L 0 n sz') (.slice base n cap) →
        ∃ v w' c', (Builtin.append_ #[t, t] ty #[vs, .slice a 0 cap2]).run P w = .ok v w' ∧ Wrote G c w (.sl b L 0 n sz') H v w' c' := by
      intro base cap hv hn hr
      subst hv
      exact ⟨_, w, c, run_append_zero ty hd hi base a cap2 hn, .refl c w, hg, hH, hr, fun _ h => h⟩
    cases hs with
    | sl hm hl hv hs1 ho hcap hnc ha => exact fin _ _ rfl hnc (.sl hm hl hv hs1 ho hcap hnc ha)
    | slVirt hm hl hv hs1 => exact fin _ _ rfl (Nat.le_refl _) (.slVirt hm hl hv hs1)
    | slStale a cap' hm hl hnc ha => exact fin _ _ rfl hnc (.slStale a cap' hm hl hnc ha)
  · have hyne : ys ≠ [] := fun e => hm0 (by rw [e]; rfl)
    obtain ⟨A, rfl, hAs, hAc⟩ := hya.resolve_left hyne
    obtain ⟨nv, hnr, hncell, hn1⟩ := hAc.vals
    have hnl : nv.length = ys.length * i.size := by rw [← hnr.1, flat_length hyy, hisz]
    have hnews : ∀ j v, nv[j]? = some v → w.cell? (A.add j) = some v := by
      intro j v hj
      have := hncell j v hj
      obtain ⟨blk', off, spot⟩ := A
      simp only at hAs; subst hAs
      rw [Addr.add_lit]; exact this
    cases hs with
    | slStale a cap' hm hl hnc ha => have := hH.valid hb hm; omega
    | slVirt hm hl hv hs1 =>
      rename_i inf
      have hB := hH.blk _ _ _ hb hm
      have he0 : blk.elems = [] := List.eq_nil_of_length_eq_zero (by rw [← hB.len]; exact hl)
      simp only [Nat.zero_add] at hbig ⊢
      have hrun := run_append_nil (P := P) w t ty e i zv hd hi hzv A ys.length cap2 nv hnl hnews (by omega) (by omega) (by
        have := Nat.mul_le_mul hbig hbyi; omega)
      have hge := grownCap_ge w ys.length 0 e
      have hle := grownCap_le_maxLen w ys.length 0 e (by simp [maxLen]; omega)
      have hvals : (nv.toArray ++ Builtin.zeroCells zv.cells (grownCap w ys.length 0 e - ys.length)) = (nv ++ (Builtin.zeroCells zv.cells (grownCap w ys.length 0 e - ys.length)).toList).toArray := by
        apply Array.ext'; simp
      rw [hvals] at hrun
      have hfl : (flat (blk.elems.take 0 ++ (ys ++ blk.elems.drop ys.length))) = flat ys := by rw [he0]; simp
      have hel : (blk.elems.take 0 ++ (ys ++ blk.elems.drop ys.length)) = ys := by rw [he0]; simp
      rw [hel]
      let inf' : Info := ⟨w.heap.size, grownCap w ys.length 0 e, e, sz', ys.length, false⟩
      have hupd := Ctx.upd_le (c := c) (inf' := inf') hm (by simp [inf', hs1]) (by simp [inf']; omega) (by simp [inf']; omega)
      have hbs : sz' = blk.sz := by rw [← hs1, hB.sz]
      have hBA : BlkAt (c.upd b inf') inf' { blk with elems := ys } (w.drew.alloc (.cells (nv ++ (Builtin.zeroCells zv.cells (grownCap w ys.length 0 e - ys.length)).toList).toArray e)) := by
        refine BlkAt.ofFlat (vals := nv) (by simp [inf', hty]) (by simp [inf', hbs]) hB.pos rfl hge rfl hle (heap_alloc_new w.drew _) ?_ (fun x hx => by rw [← hbs]; exact hyy x hx) (Cells1.mono hupd ⟨hnr, hn1⟩) (fun k v hk => ?_)
        · have : zv.cells.size = sz' := by rw [hzs]; simpa using hzsl
          simp only [inf', List.size_toArray, List.length_append, Array.length_toList, size_zeroCells, this, hnl, hisz, ← Nat.add_mul]
          congr 1; omega
        · simp only
          rw [List.getElem?_append_left (List.getElem?_eq_some_iff.1 hk).1]; exact hk
      obtain ⟨g1, g2, g3⟩ := grown_new hg hH hm (by simp [inf', hs1]) (by simp [inf']; omega) rfl rfl hBA hblt
      refine ⟨_, _, _, hrun, g1, g2, g3, ?_, fun b' hb' => ?_⟩
      · exact .sl (inf := inf') (by simp [Ctx.upd]) rfl rfl rfl (by omega) (by simp [inf']) hge (.inl (by simp [inf']))
      · by_cases eb : b' = b
        · subst eb; rw [hm]; simp
        · simpa [Ctx.upd, eb] using hb'
    | sl hm hl hv hs1 ho hcap hnc ha =>
      rename_i inf a cap'
      have ha' : a = ⟨inf.idx, 0, none⟩ := by
        rcases ha with h1 | h1
        · simpa using h1
        · omega
      subst ha'
      simp only [Nat.zero_add, Nat.add_zero] at ho hcap
      subst hcap
      have hB := hH.blk _ _ _ hb hm
      obtain ⟨cur, hcur, hcs⟩ := hB.real hv
      obtain ⟨hxx, hxc, hxfit⟩ := hB.flatCells hv hcur
      have hbs : sz' = blk.sz := by rw [← hs1, hB.sz]
      have hity : inf.ty = e := by rw [hB.ty, hty]
      rw [hity] at hcur
      have hnL : n ≤ blk.elems.length := by omega
      obtain ⟨hzz, hgc⟩ := grown_cells hxx (by rw [← hbs]; exact hyy) hnL hxc ⟨hnr, hn1⟩
      have hlen' := hlen n hnL
      have hfits := hB.fits
      have htake : ((cur.toList.take (blk.elems.length * blk.sz)).take (n * blk.sz)) = cur.toList.take (n * blk.sz) := by
        rw [List.take_take, Nat.min_eq_left (Nat.mul_le_mul_right _ hnL)]
      have hnvl : nv.length = ys.length * blk.sz := by rw [hnl, hisz, hbs]
      have hnsc : n * blk.sz ≤ cur.size := Nat.le_trans (Nat.mul_le_mul_right _ hnL) hxfit
      by_cases hroom : n + ys.length ≤ inf.cap
      · -- there is room
        have hnfit : n * i.size + nv.length ≤ cur.size := by
          rw [hnl, hcs, ← Nat.add_mul, hisz, hs1]; exact Nat.mul_le_mul_right _ hroom
        have hrun := run_append_room (P := P) w t ty e i hd hi inf.idx n inf.cap cur hcur A ys.length cap2 nv hnl hnews hn1 hroom hnfit
        rw [hisz, hbs] at hrun
        rw [hisz, hbs] at hnfit
        let inf' : Info := { inf with len := max blk.elems.length (n + ys.length) }
        have hu : inf'.len = inf.len → inf' = inf := fun q => by simp only [inf'] at q ⊢; rw [q]
        have hbl := hB.len
        have hupd := Ctx.upd_le (c := c) (inf' := inf') hm rfl (by simp only [inf']; omega) hu
        have hpre : ∀ (k : Nat) (v : Value), ((cur.toList.take (blk.elems.length * blk.sz)).take (n * blk.sz) ++ (nv ++ (cur.toList.take (blk.elems.length * blk.sz)).drop (n * blk.sz + nv.length)))[k]? = some v →
            (cur.toList.take (n * blk.sz) ++ nv ++ cur.toList.drop (n * blk.sz + nv.length))[k]? = some v := by
          intro k v hk
          rw [htake] at hk
          rw [List.append_assoc]
          by_cases q : k < n * blk.sz
          · rw [List.getElem?_append_left (by simp; omega)] at hk ⊢; exact hk
          · have ll : (cur.toList.take (n * blk.sz)).length = n * blk.sz := by simp; omega
            rw [List.getElem?_append_right (by omega)] at hk ⊢
            rw [ll] at hk ⊢
            by_cases q2 : k - n * blk.sz < nv.length
            · rw [List.getElem?_append_left q2] at hk ⊢; exact hk
            · rw [List.getElem?_append_right (by omega)] at hk ⊢
              rw [List.getElem?_drop, List.getElem?_take] at hk
              rw [List.getElem?_drop]
              split at hk
              · exact hk
              · cases hk
        have hBA : BlkAt (c.upd b inf') inf' { blk with elems := blk.elems.take n ++ (ys ++ blk.elems.drop (n + ys.length)) }
            (w.setRow inf.idx (cur.toList.take (n * blk.sz) ++ nv ++ cur.toList.drop (n * blk.sz + nv.length)).toArray) := by
          refine BlkAt.ofFlat (cur := (cur.toList.take (n * blk.sz) ++ nv ++ cur.toList.drop (n * blk.sz + nv.length)).toArray) (vals := _) (by simp [inf', hB.ty]) (by simp [inf', hB.sz]) hB.pos (by simp only [inf']; exact hlen'.symm) ?_ hv hB.big (setRow_heap w inf.idx cur _ e _ hcur |> fun q => by simpa [inf', hity] using q) ?_ hzz (Cells1.mono hupd hgc) (by simpa using hpre)
          · show (blk.elems.take n ++ (ys ++ blk.elems.drop (n + ys.length))).length ≤ inf.cap
            rw [hlen']; omega
          · simp only [inf', List.size_toArray, List.length_append, List.length_take, List.length_drop, Array.length_toList]
            omega
        obtain ⟨g1, g2, g3⟩ := grown_here hg hH hm (inf' := inf') rfl (by simp only [inf']; omega) hu rfl hv hv hBA hblt
        refine ⟨_, _, _, hrun, g1, g2, g3, ?_, fun b' hb' => ?_⟩
        · rw [hlen']
          exact .sl (inf := inf') (by simp [Ctx.upd]) rfl hv hs1 (by omega) (by simp [inf']) hroom (.inl (by simp [inf']))
        · by_cases eb : b' = b
          · subst eb; rw [hm]; simp
          · simpa [Ctx.upd, eb] using hb'
      · -- a new row
        have holds : ∀ j v, (cur.toList.take (n * i.size))[j]? = some v → w.cell? ((⟨inf.idx, 0, none⟩ : Addr).add j) = some v := by
          intro j v hj
          rw [Addr.add_lit, cell_of_row w _ _ _ _ _ hcur]
          rw [List.getElem?_take] at hj
          split at hj
          · simpa using hj
          · cases hj
        have hrun := run_append_grow (P := P) w t ty e i zv hd hi hzv ⟨inf.idx, 0, none⟩ n inf.cap (cur.toList.take (n * i.size)) (by rw [hisz, hbs]; simp; omega) holds A ys.length cap2 nv hnl hnews
          (by omega) (by omega) (growslice_fits (by omega) (by have := Nat.mul_le_mul hbig hbyi; omega))
        rw [hisz, hbs] at hrun
        have hge := grownCap_ge w (n + ys.length) inf.cap e
        have hle := grownCap_le_maxLen w (n + ys.length) inf.cap e (by simp [maxLen]; omega)
        have hvals : ((cur.toList.take (n * blk.sz)).toArray ++ nv.toArray ++ Builtin.zeroCells zv.cells (grownCap w (n + ys.length) inf.cap e - (n + ys.length))) =
            ((cur.toList.take (n * blk.sz)) ++ nv ++ (Builtin.zeroCells zv.cells (grownCap w (n + ys.length) inf.cap e - (n + ys.length))).toList).toArray := by
          apply Array.ext'; simp
        rw [hvals] at hrun
        let inf' : Info := ⟨w.heap.size, grownCap w (n + ys.length) inf.cap e, e, sz', n + ys.length, false⟩
        have hbl := hB.len
        have hupd := Ctx.upd_le (c := c) (inf' := inf') hm (by simp [inf', hs1]) (by simp [inf']; omega) (by simp [inf']; omega)
        have hdrop : blk.elems.drop (n + ys.length) = [] := List.drop_of_length_le (by omega)
        have hmax : max blk.elems.length (n + ys.length) = n + ys.length := by omega
        rw [hmax] at hlen'
        have hpre : ∀ (k : Nat) (v : Value), ((cur.toList.take (blk.elems.length * blk.sz)).take (n * blk.sz) ++ (nv ++ (cur.toList.take (blk.elems.length * blk.sz)).drop (n * blk.sz + nv.length)))[k]? = some v →
            ((cur.toList.take (n * blk.sz)) ++ nv ++ (Builtin.zeroCells zv.cells (grownCap w (n + ys.length) inf.cap e - (n + ys.length))).toList)[k]? = some v := by
          intro k v hk
          have d0 : (cur.toList.take (blk.elems.length * blk.sz)).drop (n * blk.sz + nv.length) = [] := by
            apply List.drop_of_length_le
            rw [hnvl, ← Nat.add_mul]
            simp only [List.length_take]
            have := Nat.mul_le_mul_right blk.sz (show blk.elems.length ≤ n + ys.length by omega)
            omega
          rw [htake, d0, List.append_nil] at hk
          rw [List.getElem?_append_left (List.getElem?_eq_some_iff.1 hk).1]; exact hk
        have hBA : BlkAt (c.upd b inf') inf' { blk with elems := blk.elems.take n ++ (ys ++ blk.elems.drop (n + ys.length)) }
            (w.drew.alloc (.cells ((cur.toList.take (n * blk.sz)) ++ nv ++ (Builtin.zeroCells zv.cells (grownCap w (n + ys.length) inf.cap e - (n + ys.length))).toList).toArray e)) := by
          refine BlkAt.ofFlat (vals := _) (by simp [inf', hty]) (by simp [inf', hbs]) hB.pos (by simp only [inf']; exact hlen'.symm) (by show _ ≤ inf'.cap; rw [hlen']; exact hge) rfl hle (heap_alloc_new w.drew _) ?_ hzz (Cells1.mono hupd hgc) (by simpa using hpre)
          have q : zv.cells.size = sz' := by rw [hzs]; simpa using hzsl
          simp only [inf', List.size_toArray, List.length_append, Array.length_toList, size_zeroCells, q, List.length_take, hnvl, ← hbs]
          rw [Nat.min_eq_left (by rw [hbs]; exact hnsc), ← Nat.add_mul, ← Nat.add_mul]
          congr 1; omega
        obtain ⟨g1, g2, g3⟩ := grown_new hg hH hm (inf' := inf') (by simp [inf', hs1]) (by simp [inf']; omega) rfl rfl hBA hblt
        refine ⟨_, _, _, hrun, g1, g2, g3, ?_, fun b' hb' => ?_⟩
        · rw [hlen']
          exact .sl (inf := inf') (by simp [Ctx.upd]) rfl rfl rfl (by omega) (by simp [inf']) hge (.inl (by simp [inf']))
        · by_cases eb : b' = b
          · subst eb; rw [hm]; simp
          · simpa [Ctx.upd, eb] using hb'

/-! ### copy -/

def copyV (d x : AV) (H : AHeap) : Option (AV × AHeap) :=
  match d with
  | .sl b L o n sz => match H[b]?, elemsOf x H with
    | some blk, some ys => if blk.elems.length = L ∧ sz = 1 ∧ o + n ≤ L ∧ allSz 1 ys = true then
        some (.int .i64 ((min ys.length n : Nat) : Int), H.set b { blk with elems := blk.elems.take o ++ (ys.take n ++ blk.elems.drop (o + (ys.take n).length)) }) else none
    | _, _ => none
  | _ => none

def copyA (P : Program) (ts : Array Nat) (d x : AV) (H : AHeap) : Option (AV × AHeap) :=
  match ts.toList with
  | [t, _] => match P.underlying t with
    | some (.slice e) => match tsz P e with
      | some s => if s = 1 then copyV d x H else none
      | none => none
    | _ => none
  | _ => none

theorem set_same {H : AHeap} {b : Nat} {blk : ABlk} (hb : H[b]? = some blk) : H.set b blk = H := by
  have hlt : b < H.length := (List.getElem?_eq_some_iff.1 hb).1
  apply List.ext_getElem?
  intro k
  by_cases e : b = k
  · subst e; rw [List.getElem?_set_self hlt, hb]
  · rw [List.getElem?_set_ne e]

theorem copyA_sound {P : Program} {G : Globs} {ts : Array Nat} {ty : Nat} {d x r : AV} {H H' : AHeap} (h : copyA P ts d x H = some (r, H')) {c : Ctx} {w : World} (hg : Good G c w) (hH : HeapAt c H w)
    {vd vx : Value} (hd : Rel c d vd) (hx : Rel c x vx) :
    ∃ v w', (Builtin.copy_ ts ty #[vd, vx]).run P w = .ok v w' ∧ Wrote G c w r H' v w' c := by
  unfold copyA at h
  split at h
  case h_2 => cases h
  rename_i t t' hts
  have hts' : ts = #[t, t'] := by apply Array.ext'; simpa using hts
  subst hts'
  split at h
  case h_2 => cases h
  rename_i e hu
  split at h
  case h_2 => cases h
  rename_i s hs
  split at h
  case isFalse => cases h
  rename_i hs1
  subst hs1
  unfold copyV at h
  split at h
  case h_2 => cases h
  rename_i b L o n sz
  split at h
  case h_2 => cases h
  rename_i blk ys hb hys
  split at h
  case isFalse => cases h
  rename_i hc
  obtain ⟨hL, hsz, hon, hall⟩ := hc
  simp only [Option.some.injEq, Prod.mk.injEq] at h
  obtain ⟨rfl, rfl⟩ := h
  subst hsz
  obtain ⟨a, m, cap2, rfl, hym, _, hya⟩ := elemsOf_sound hys hg hH hx hall
  subst hym
  have hyy : ∀ y ∈ ys, y.cells.length = 1 := fun y hy => by have := List.all_eq_true.1 hall y hy; simpa using this
  have hsz : (P.info? e).map (·.size) = some 1 := hs
  have int : ∀ k : Nat, goInt k = .int .i64 (k : Int) := fun k => rfl
  have none_ : ∀ (D : Option Addr) (dc : Nat), vd = .slice D n dc → min ys.length n = 0 → Rel c (.sl b L o n 1) vd →
      ∃ v w', (Builtin.copy_ #[t, t'] ty #[vd, .slice a ys.length cap2]).run P w = .ok v w' ∧ Wrote G c w (.int .i64 ((min ys.length n : Nat) : Int)) (H.set b { blk with elems := blk.elems.take o ++ (ys.take n ++ blk.elems.drop (o + (ys.take n).length)) }) v w' c := by
    intro D dc hv h0 hr
    subst hv
    have hyn : ys.take n = [] := List.eq_nil_of_length_eq_zero (by rw [List.length_take]; omega)
    have same : blk.elems.take o ++ (ys.take n ++ blk.elems.drop (o + (ys.take n).length)) = blk.elems := by rw [hyn]; simp
    rw [same, set_same hb, h0]
    exact ⟨_, w, run_copy_none w t t' ty e D a n dc ys.length cap2 hu hsz h0, .refl c w, hg, hH, .int _ _, fun _ h => h⟩
  cases hd with
  | slStale a' cap' hm hl hnc ha => have := hH.valid hb hm; omega
  | slVirt hm hl hv hs1 => exact none_ _ _ rfl (by omega) (.slVirt hm hl hv hs1)
  | sl hm hl hv hs1 ho hcap hnc ha =>
    rename_i inf a' cap'
    by_cases h0 : min ys.length n = 0
    · exact none_ _ _ rfl h0 (.sl hm hl hv hs1 ho hcap hnc ha)
    have ha' : a' = ⟨inf.idx, o * 1, none⟩ := by
      rcases ha with h1 | h1
      · exact h1
      · omega
    subst ha'
    obtain ⟨A, rfl, hAs, hAc⟩ := hya.resolve_left (fun q => h0 (by rw [q]; simp))
    have hB := hH.blk _ _ _ hb hm
    obtain ⟨cur, hcur, hcs⟩ := hB.real hv
    obtain ⟨hxx, hxc, hxfit⟩ := hB.flatCells hv hcur
    have hbs : blk.sz = 1 := by rw [← hB.sz, hs1]
    have hAc' : CellsAt c w A.block A.off (flat (ys.take n)) := by rw [flat_take hyy, Nat.mul_one]; exact hAc.take n
    obtain ⟨nv, hnr, hncell, hn1⟩ := hAc'.vals
    have hyt : ∀ y ∈ ys.take n, y.cells.length = 1 := fun y hy => hyy y (List.mem_of_mem_take hy)
    have hnl : nv.length = (ys.take n).length := by rw [← hnr.1, flat_length hyt]; simp
    have hnl' : nv.length = min ys.length n := by rw [hnl, List.length_take, Nat.min_comm]
    have hnews : ∀ j v, nv[j]? = some v → w.cell? (A.add j) = some v := by
      intro j v hj
      have := hncell j v hj
      obtain ⟨blk', off, spot⟩ := A
      simp only at hAs; subst hAs
      rw [Addr.add_lit]; exact this
    have hfit : o * 1 + nv.length ≤ cur.size := by
      rw [hnl', hcs, hs1]
      have := hB.fits
      omega
    have hrun := run_copy_row (P := P) w t t' ty e inf.idx (o * 1) n cap' A ys.length cap2 cur inf.ty nv hu hsz hcur hnl' hnews hfit hn1
    have ho' : c.own inf.idx := ⟨b, inf, hm, hv, rfl⟩
    have hstep := Step.setRow (c := c) (w := w) ho' (cur.toList.take (o * 1) ++ nv ++ cur.toList.drop (o * 1 + nv.length)).toArray
    have hon' : o ≤ blk.elems.length := by omega
    obtain ⟨hzz, hgc⟩ := grown_cells hxx (by rw [hbs]; exact hyt) hon' hxc ⟨hnr, hn1⟩
    have hytl : (ys.take n).length = min ys.length n := by rw [List.length_take, Nat.min_comm]
    have hlen' : (blk.elems.take o ++ (ys.take n ++ blk.elems.drop (o + (ys.take n).length))).length = blk.elems.length := by
      simp only [List.length_append, List.length_take, List.length_drop]; omega
    refine ⟨_, _, hrun, hstep, hg.world hstep, hH.set hm hv ?_, ?_, fun _ h => h⟩
    · refine BlkAt.ofFlat (cur := (cur.toList.take (o * 1) ++ nv ++ cur.toList.drop (o * 1 + nv.length)).toArray) (vals := (cur.toList.take (blk.elems.length * blk.sz)).take (o * blk.sz) ++ (nv ++ (cur.toList.take (blk.elems.length * blk.sz)).drop (o * blk.sz + nv.length)))
        hB.ty hB.sz hB.pos (by rw [hlen']; exact hB.len) (by rw [hlen']; exact hB.fits) hv hB.big (setRow_heap w _ cur _ _ _ hcur) ?_ hzz hgc ?_
      · rw [← hcs]
        simp only [List.size_toArray, List.length_append, List.length_take, List.length_drop, Array.length_toList]
        omega
      · intro k v hk
        rw [hbs, Nat.mul_one, Nat.mul_one] at hk
        rw [hbs, Nat.mul_one] at hxfit
        simp only [Nat.mul_one] at hfit ⊢
        rw [List.append_assoc]
        have l0 : ((cur.toList.take blk.elems.length).take o) = cur.toList.take o := by rw [List.take_take, Nat.min_eq_left hon']
        rw [l0] at hk
        have ll : (cur.toList.take o).length = o := by simp; omega
        by_cases q : k < o
        · rw [List.getElem?_append_left (by omega)] at hk ⊢; exact hk
        · rw [List.getElem?_append_right (by omega)] at hk ⊢
          rw [ll] at hk ⊢
          by_cases q2 : k - o < nv.length
          · rw [List.getElem?_append_left q2] at hk ⊢; exact hk
          · rw [List.getElem?_append_right (by omega)] at hk ⊢
            rw [List.getElem?_drop, List.getElem?_take] at hk
            rw [List.getElem?_drop]
            split at hk
            · exact hk
            · cases hk
    · rw [int, hnl']; exact .int _ _

theorem copyV_length {d x r : AV} {H H' : AHeap} (h : copyV d x H = some (r, H')) : H'.length = H.length := by
  unfold copyV at h
  (repeat' split at h) <;> first | (cases h; done) | (simp only [Option.some.injEq, Prod.mk.injEq] at h; obtain ⟨_, rfl⟩ := h; simp)

theorem copyA_length {P : Program} {ts : Array Nat} {d x r : AV} {H H' : AHeap} (h : copyA P ts d x H = some (r, H')) : H'.length = H.length := by
  unfold copyA at h
  (repeat' split at h) <;> first | (cases h; done) | exact copyV_length h

end Go.Proofs.YtdfglgnflldkpaaDoor.Mir
