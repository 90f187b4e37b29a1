/- Part 2 of the proof: the evaluator and its soundness. -/
import Derived.Test.YtcmblhedhgiofaaDoorZv1
import Derived.Laws.CopyRow
import Derived.Laws.IdiomCopy
namespace Go.Proofs.YtcmblhedhgiofaaDoor.Mir
open Go
set_option linter.unusedSimpArgs false
set_option linter.unusedVariables false
theorem nQ {P : Program} {w : World} {t e : TypeId} {i : TypeInfo} (ty : TypeId) (ht : P.underlying t = some (.slice e)) (hi : P.info? e = some i) (base a : Option Addr) {n cap : Nat} (c : Nat) (hn : n ≤ cap) :
  (Builtin.append_ #[t, t] ty #[.slice base n cap, .slice a 0 c]).run P w = .ok (.slice base n cap) w := by
 cases a <;> cases base <;> simp [Builtin.append_, run_underlying ht, sizeOf, typeInfo, hi, Builtin.lenOf, hn, Builtin.firstCells, loadCells, loadCellsFrom, storeCells]
theorem BlkAt.flatCells {c : Ctx} {inf : Info} {blk : ABlk} {w : World} (h : BlkAt c inf blk w) (hv : inf.virt = false) {cur : Array Value} {ty : Nat} (hc : w.heap[inf.idx]? = some (.cells cur ty (0, 0))) :
  (∀ x ∈ blk.elems, x.cells.length = blk.sz) ∧ Cells1 c (dS blk.elems) (cur.toList.take (blk.elems.length * blk.sz)) ∧ blk.elems.length * blk.sz ≤ cur.size := by
 have hsz : ∀ x ∈ blk.elems, x.cells.length = blk.sz := fun x hx => by
  obtain ⟨i, hi⟩ := List.mem_iff_getElem?.1 hx
  exact (h.cells hv i x hi).1
 obtain ⟨cur', hcur', hsize⟩ := h.real hv
 rw [hc] at hcur'
 obtain ⟨rfl, _⟩ : cur' = cur ∧ True := by simp at hcur'; exact ⟨hcur'.1.symm, trivial⟩
 have hfit : blk.elems.length * blk.sz ≤ cur'.size := by rw [hsize, h.sz]; exact Nat.mul_le_mul_right _ h.fits
 refine ⟨hsz, ?_, hfit⟩
 have get : ∀ (k : Nat) (y : AV), (dS blk.elems)[k]? = some y → ∃ v, cur'.toList[k]? = some v ∧ Rel c y v ∧ v.oneCell' = true := by
  intro k y hy
  have hk : k < blk.elems.length * blk.sz := by have := (List.getElem?_eq_some_iff.1 hy).1; rwa [cI hsz] at this
  have hdiv : k / blk.sz < blk.elems.length := Nat.div_lt_of_lt_mul (by rwa [Nat.mul_comm])
  have hmod : k % blk.sz < blk.sz := Nat.mod_lt _ h.pos
  have hdm : k = k / blk.sz * blk.sz + k % blk.sz := by rw [Nat.mul_comm]; exact (Nat.div_add_mod k blk.sz).symm
  have hx : blk.elems[k / blk.sz]? = some blk.elems[k / blk.sz] := List.getElem?_eq_getElem hdiv
  rw [hdm, iF hsz hx hmod] at hy
  obtain ⟨v, g1, g2, g3⟩ := (h.cells hv _ _ hx).2 _ _ hy
  rw [← hdm, cell_of_row w _ _ _ _ _ hc] at g1
  exact ⟨v, by simpa using g1, g2, g3⟩
 refine ⟨⟨by simp [cI hsz]; omega, fun i x v hx hv' => ?_⟩, fun u hu => ?_⟩
 ·obtain ⟨v', g1, g2, _⟩ := get i x hx
  rw [List.getElem?_take] at hv'
  split at hv'
  ·rw [g1] at hv'; obtain rfl := Option.some.inj hv'; exact g2
  ·cases hv'
 ·obtain ⟨i, hi⟩ := List.mem_iff_getElem?.1 hu
  rw [List.getElem?_take] at hi
  split at hi
  ·rename_i hlt
   have : (dS blk.elems)[i]? = some ((dS blk.elems)[i]'(by rw [cI hsz]; exact hlt)) := List.getElem?_eq_getElem _
   obtain ⟨v', g1, _, g3⟩ := get i _ this
   rw [g1] at hi; obtain rfl := Option.some.inj hi; exact g3
  ·cases hi
theorem hP (xs ys : List AV) : dS (xs ++ ys) = dS xs ++ dS ys := by simp [dS]
theorem qZ {s : Nat} {xs : List AV} (h : ∀ x ∈ xs, x.cells.length = s) (n : Nat) : dS (xs.take n) = (dS xs).take (n * s) := by
 have e := List.take_append_drop n xs
 have h1 : (dS (xs.take n)).length = min n xs.length * s := by rw [cI (fun x hx => h x (List.mem_of_mem_take hx)), List.length_take]
 by_cases hn : n ≤ xs.length
 ·rw [Nat.min_eq_left hn] at h1
  conv => rhs; rw [← e, hP]
  rw [← h1, List.take_left]
 ·rw [List.take_of_length_le (by omega), List.take_of_length_le]
  rw [cI h]; exact Nat.mul_le_mul_right s (by omega)
theorem xY {s : Nat} {xs : List AV} (h : ∀ x ∈ xs, x.cells.length = s) (n : Nat) : dS (xs.drop n) = (dS xs).drop (n * s) := by
 have e := List.take_append_drop n xs
 have h1 : (dS (xs.take n)).length = min n xs.length * s := by rw [cI (fun x hx => h x (List.mem_of_mem_take hx)), List.length_take]
 by_cases hn : n ≤ xs.length
 ·rw [Nat.min_eq_left hn] at h1
  conv => rhs; rw [← e, hP]
  rw [← h1, List.drop_left]
 ·rw [List.drop_of_length_le (by omega), List.drop_of_length_le]
  ·rfl
  ·rw [cI h]; exact Nat.mul_le_mul_right s (by omega)
theorem jM {c : Ctx} {s n : Nat} {xs ys : List AV} {ov nv : List Value} (hx : ∀ x ∈ xs, x.cells.length = s) (hy : ∀ y ∈ ys, y.cells.length = s) (hn : n ≤ xs.length)
  (ho : Cells1 c (dS xs) ov) (hnv : Cells1 c (dS ys) nv) :
  (∀ x ∈ xs.take n ++ (ys ++ xs.drop (n + ys.length)), x.cells.length = s) ∧
  Cells1 c (dS (xs.take n ++ (ys ++ xs.drop (n + ys.length)))) (ov.take (n * s) ++ (nv ++ ov.drop (n * s + nv.length))) := by
 have hl : ∀ x ∈ xs.take n ++ (ys ++ xs.drop (n + ys.length)), x.cells.length = s := by
  intro x hm
  simp only [List.mem_append] at hm
  rcases hm with hm | hm | hm
  ·exact hx x (List.mem_of_mem_take hm)
  ·exact hy x hm
  ·exact hx x (List.mem_of_mem_drop hm)
 refine ⟨hl, ?_⟩
 have e1 : nv.length = ys.length * s := by rw [← hnv.rel.1, cI hy]
 have e2 : ov.length = xs.length * s := by rw [← ho.rel.1, cI hx]
 have hns : n * s ≤ xs.length * s := Nat.mul_le_mul_right s hn
 have e3 : dS (xs.take n ++ (ys ++ xs.drop (n + ys.length))) = (dS xs).take (n * s) ++ (dS ys ++ (dS xs).drop (n * s + nv.length)) := by
  rw [hP, hP, qZ hx, xY hx, e1, Nat.add_mul]
 rw [e3]
 have hfl := cI hx
 have hfy := cI hy
 refine ⟨⟨?_, fun i x v h1 h2 => ?_⟩, fun u hu => ?_⟩
 ·have := ho.rel.1
  have := hnv.rel.1
  simp only [List.length_append, List.length_take, List.length_drop]
  omega
 ·have a1 := ho.rel.1
  have a2 := hnv.rel.1
  by_cases q1 : i < n * s
  ·rw [List.getElem?_append_left (by simp; omega), List.getElem?_take, if_pos q1] at h1
   rw [List.getElem?_append_left (by simp; omega), List.getElem?_take, if_pos q1] at h2
   exact ho.rel.2 _ _ _ h1 h2
  ·rw [List.getElem?_append_right (by simp; omega)] at h1 h2
   have l1 : ((dS xs).take (n * s)).length = n * s := by simp; omega
   have l2 : (ov.take (n * s)).length = n * s := by simp; omega
   rw [l1] at h1; rw [l2] at h2
   by_cases q2 : i - n * s < nv.length
   ·rw [List.getElem?_append_left (by omega)] at h1 h2
    exact hnv.rel.2 _ _ _ h1 h2
   ·rw [List.getElem?_append_right (by omega), List.getElem?_drop] at h1 h2
    rw [a2] at h1
    exact ho.rel.2 _ _ _ h1 h2
 ·simp only [List.mem_append] at hu
  rcases hu with hu | hu | hu
  ·exact ho.one u (List.mem_of_mem_take hu)
  ·exact hnv.one u hu
  ·exact ho.one u (List.mem_of_mem_drop hu)
theorem Cells1.mono {c c' : Ctx} (hle : c.le c') {cs : List AV} {vs : List Value} (h : Cells1 c cs vs) : Cells1 c' cs vs := ⟨h.rel.mono hle, h.one⟩
theorem BlkAt.ofFlat {c : Ctx} {inf : Info} {blk : ABlk} {w : World} {cur : Array Value} {vals : List Value} (hty : inf.ty = blk.ty) (hsz : inf.sz = blk.sz) (hpos : 0 < blk.sz) (hlen : inf.len = blk.elems.length)
  (hfits : blk.elems.length ≤ inf.cap) (hv : inf.virt = false) (hbig : inf.cap ≤ maxLen) (hw : w.heap[inf.idx]? = some (.cells cur inf.ty (0, 0))) (hcs : cur.size = inf.cap * inf.sz)
  (hx : ∀ x ∈ blk.elems, x.cells.length = blk.sz) (hcells : Cells1 c (dS blk.elems) vals) (hpre : ∀ (k : Nat) (v : Value), vals[k]? = some v → cur.toList[k]? = some v) : BlkAt c inf blk w := by
 refine ⟨hty, hsz, hpos, hlen, hfits, by simp [hv], hbig, fun _ => ⟨cur, hw, hcs⟩, fun _ i x hi => ⟨hx x (List.mem_of_getElem? hi), fun j y hy => ?_⟩⟩
 obtain ⟨v, g1, g2, g3⟩ := gG hx hcells hi hy
 refine ⟨v, ?_, g2, g3⟩
 rw [cell_of_row w _ _ _ _ _ hw]
 simpa using hpre _ _ g1
structure Wrote (G : aC) (c : Ctx) (w : World) (r : AV) (H' : aB) (v : Value) (w' : World) (c' : Ctx) : Prop where
 step : Step c w c' w'
 good : Good G c' w'
 heap : HeapAt c' H' w'
 rel : Rel c' r v
 dom : ∀ b, c'.m b ≠ none → c.m b ≠ none
theorem qN {P : Program} {G : aC} {ts : Array Nat} {ty : Nat} {s x r : AV} {H H' : aB} (h : kV P ts s x H = some (r, H')) {c : Ctx} {w : World} (hg : Good G c w) (hH : HeapAt c H w)
  {vs vx : Value} (hs : Rel c s vs) (hx : Rel c x vx) :
  ∃ v w' c', (Builtin.append_ ts ty #[vs, vx]).run P w = .ok v w' ∧ Wrote G c w r H' v w' c' := by
 unfold kV at h
 split at h
 case h_2 => cases h
 rename_i t t' hts
 split at h
 case isFalse => cases h
 rename_i htt
 subst htt
 have hts' : ts = #[t, t] := by apply Array.ext'; simpa using hts
 subst hts'
 split at h
 case h_2 => cases h
 rename_i e hd
 split at h
 case h_2 => cases h
 rename_i sz by_ z hsz hby hz
 split at h
 case isFalse => cases h
 rename_i hc0
 obtain ⟨hb128, hzl, hzst⟩ := hc0
 unfold fS at h
 split at h
 case h_2 => cases h
 rename_i b L n sz'
 split at h
 case h_2 => cases h
 rename_i blk ys hb hys
 split at h
 case isFalse => cases h
 rename_i hc
 obtain ⟨hL, hsz', hty, hall, hbig⟩ := hc
 simp only [Option.some.injEq, Prod.mk.injEq] at h
 obtain ⟨rfl, rfl⟩ := h
 subst hsz'
 obtain ⟨i, zv, hi, hzv, hisz, hzrel⟩ := nL hz hsz
 have hbyi : i.bytes ≤ 128 := by simp [tby, hi] at hby; omega
 obtain ⟨zs, hzs, hzr, hz1⟩ := eF hzst (hzrel c)
 have hzsl : zs.length = sz' := by rw [← hzr.1, hzl]
 obtain ⟨a, m, cap2, rfl, hym, _, hya⟩ := hY hys hg hH hx hall
 have hyy : ∀ y ∈ ys, y.cells.length = sz' := fun y hy => by have := List.all_eq_true.1 hall y hy; simpa using this
 have hblt : b < H.length := (List.getElem?_eq_some_iff.1 hb).1
 subst hym
 have hlen : ∀ (n : Nat), n ≤ blk.elems.length → (blk.elems.take n ++ (ys ++ blk.elems.drop (n + ys.length))).length = max blk.elems.length (n + ys.length) := by
  intro n hn; simp; omega
 by_cases hm0 : ys.length = 0
 ·
  have hy0 : ys = [] := List.eq_nil_of_length_eq_zero hm0
  subst hy0
  have same : blk.elems.take n ++ ([] ++ blk.elems.drop (n + 0)) = blk.elems := by simp
  have hset : H.set b { blk with elems := blk.elems } = H := by
   apply List.ext_getElem?
   intro k
   by_cases e : b = k
   ·subst e; rw [List.getElem?_set_self hblt, hb]
   ·rw [List.getElem?_set_ne e]
  simp only [List.length_nil, Nat.add_zero] at same ⊢
  rw [same, hset, hL]
  have fin : ∀ base cap, vs = .slice base n cap → n ≤ cap → Rel c (.sl b L 0 n sz') (.slice base n cap) →
    ∃ v w' c', (Builtin.append_ #[t, t] ty #[vs, .slice a 0 cap2]).run P w = .ok v w' ∧ Wrote G c w (.sl b L 0 n sz') H v w' c' := by
   intro base cap hv hn hr
   subst hv
   exact ⟨_, w, c, nQ ty hd hi base a cap2 hn, .refl c w, hg, hH, hr, fun _ h => h⟩
  cases hs with
  | sl hm hl hv hs1 ho hcap hnc ha => exact fin _ _ rfl hnc (.sl hm hl hv hs1 ho hcap hnc ha)
  | slVirt hm hl hv hs1 => exact fin _ _ rfl (Nat.le_refl _) (.slVirt hm hl hv hs1)
  | slStale a cap' hm hl hnc ha => exact fin _ _ rfl hnc (.slStale a cap' hm hl hnc ha)
 ·have hyne : ys ≠ [] := fun e => hm0 (by rw [e]; rfl)
  obtain ⟨A, rfl, hAs, hAc⟩ := hya.resolve_left hyne
  obtain ⟨nv, hnr, hncell, hn1⟩ := hAc.vals
  have hnl : nv.length = ys.length * i.size := by rw [← hnr.1, cI hyy, hisz]
  have hnews : ∀ j v, nv[j]? = some v → w.cell? (A.add j) = some v := by
   intro j v hj
   have := hncell j v hj
   obtain ⟨blk', off, spot⟩ := A
   simp only at hAs; subst hAs
   rw [Addr.add_lit]; exact this
  cases hs with
  | slStale a cap' hm hl hnc ha => have := hH.valid hb hm; omega
  | slVirt hm hl hv hs1 =>
   rename_i inf
   have hB := hH.blk _ _ _ hb hm
   have he0 : blk.elems = [] := List.eq_nil_of_length_eq_zero (by rw [← hB.len]; exact hl)
   simp only [Nat.zero_add] at hbig ⊢
   have hrun := run_append_nil (P := P) w t ty e i zv hd hi hzv A ys.length cap2 nv hnl hnews (by omega) (by omega) (by
    have := Nat.mul_le_mul hbig hbyi; omega)
   have hge := grownCap_ge w ys.length 0 e
   have hle := grownCap_le_maxLen w ys.length 0 e (by simp [maxLen]; omega)
   have hvals : (nv.toArray ++ Builtin.zeroCells zv.cells (grownCap w ys.length 0 e - ys.length)) = (nv ++ (Builtin.zeroCells zv.cells (grownCap w ys.length 0 e - ys.length)).toList).toArray := by
    apply Array.ext'; simp
   rw [hvals] at hrun
   have hfl : (dS (blk.elems.take 0 ++ (ys ++ blk.elems.drop ys.length))) = dS ys := by rw [he0]; simp
   have hel : (blk.elems.take 0 ++ (ys ++ blk.elems.drop ys.length)) = ys := by rw [he0]; simp
   rw [hel]
   let inf' : Info := ⟨w.heap.size, grownCap w ys.length 0 e, e, sz', ys.length, false⟩
   have hupd := Ctx.upd_le (c := c) (inf' := inf') hm (by simp [inf', hs1]) (by simp [inf']; omega) (by simp [inf']; omega)
   have hbs : sz' = blk.sz := by rw [← hs1, hB.sz]
   have hBA : BlkAt (c.upd b inf') inf' { blk with elems := ys } (w.drew.alloc (.cells (nv ++ (Builtin.zeroCells zv.cells (grownCap w ys.length 0 e - ys.length)).toList).toArray e)) := by
    refine BlkAt.ofFlat (vals := nv) (by simp [inf', hty]) (by simp [inf', hbs]) hB.pos rfl hge rfl hle (heap_alloc_new w.drew _) ?_ (fun x hx => by rw [← hbs]; exact hyy x hx) (Cells1.mono hupd ⟨hnr, hn1⟩) (fun k v hk => ?_)
    ·have : zv.cells.size = sz' := by rw [hzs]; simpa using hzsl
     simp only [inf', List.size_toArray, List.length_append, Array.length_toList, size_zeroCells, this, hnl, hisz, ← Nat.add_mul]
     congr 1; omega
    ·simp only
     rw [List.getElem?_append_left (List.getElem?_eq_some_iff.1 hk).1]; exact hk
   obtain ⟨g1, g2, g3⟩ := rB hg hH hm (by simp [inf', hs1]) (by simp [inf']; omega) rfl rfl hBA hblt
   refine ⟨_, _, _, hrun, g1, g2, g3, ?_, fun b' hb' => ?_⟩
   ·exact .sl (inf := inf') (by simp [Ctx.upd]) rfl rfl rfl (by omega) (by simp [inf']) hge (.inl (by simp [inf']))
   ·by_cases eb : b' = b
    ·subst eb; rw [hm]; simp
    ·simpa [Ctx.upd, eb] using hb'
  | sl hm hl hv hs1 ho hcap hnc ha =>
   rename_i inf a cap'
   have ha' : a = ⟨inf.idx, 0, none⟩ := by
    rcases ha with h1 | h1
    ·simpa using h1
    ·omega
   subst ha'
   simp only [Nat.zero_add, Nat.add_zero] at ho hcap
   subst hcap
   have hB := hH.blk _ _ _ hb hm
   obtain ⟨cur, hcur, hcs⟩ := hB.real hv
   obtain ⟨hxx, hxc, hxfit⟩ := hB.flatCells hv hcur
   have hbs : sz' = blk.sz := by rw [← hs1, hB.sz]
   have hity : inf.ty = e := by rw [hB.ty, hty]
   rw [hity] at hcur
   have hnL : n ≤ blk.elems.length := by omega
   obtain ⟨hzz, hgc⟩ := jM hxx (by rw [← hbs]; exact hyy) hnL hxc ⟨hnr, hn1⟩
   have hlen' := hlen n hnL
   have hfits := hB.fits
   have htake : ((cur.toList.take (blk.elems.length * blk.sz)).take (n * blk.sz)) = cur.toList.take (n * blk.sz) := by
    rw [List.take_take, Nat.min_eq_left (Nat.mul_le_mul_right _ hnL)]
   have hnvl : nv.length = ys.length * blk.sz := by rw [hnl, hisz, hbs]
   have hnsc : n * blk.sz ≤ cur.size := Nat.le_trans (Nat.mul_le_mul_right _ hnL) hxfit
   by_cases hroom : n + ys.length ≤ inf.cap
   ·
    have hnfit : n * i.size + nv.length ≤ cur.size := by
     rw [hnl, hcs, ← Nat.add_mul, hisz, hs1]; exact Nat.mul_le_mul_right _ hroom
    have hrun := run_append_room (P := P) w t ty e i hd hi inf.idx n inf.cap cur hcur A ys.length cap2 nv hnl hnews hn1 hroom hnfit
    rw [hisz, hbs] at hrun
    rw [hisz, hbs] at hnfit
    let inf' : Info := { inf with len := max blk.elems.length (n + ys.length) }
    have hu : inf'.len = inf.len → inf' = inf := fun q => by simp only [inf'] at q ⊢; rw [q]
    have hbl := hB.len
    have hupd := Ctx.upd_le (c := c) (inf' := inf') hm rfl (by simp only [inf']; omega) hu
    have hpre : ∀ (k : Nat) (v : Value), ((cur.toList.take (blk.elems.length * blk.sz)).take (n * blk.sz) ++ (nv ++ (cur.toList.take (blk.elems.length * blk.sz)).drop (n * blk.sz + nv.length)))[k]? = some v →
      (cur.toList.take (n * blk.sz) ++ nv ++ cur.toList.drop (n * blk.sz + nv.length))[k]? = some v := by
     intro k v hk
     rw [htake] at hk
     rw [List.append_assoc]
     by_cases q : k < n * blk.sz
     ·rw [List.getElem?_append_left (by simp; omega)] at hk ⊢; exact hk
     ·have ll : (cur.toList.take (n * blk.sz)).length = n * blk.sz := by simp; omega
      rw [List.getElem?_append_right (by omega)] at hk ⊢
      rw [ll] at hk ⊢
      by_cases q2 : k - n * blk.sz < nv.length
      ·rw [List.getElem?_append_left q2] at hk ⊢; exact hk
      ·rw [List.getElem?_append_right (by omega)] at hk ⊢
       rw [List.getElem?_drop, List.getElem?_take] at hk
       rw [List.getElem?_drop]
       split at hk
       ·exact hk
       ·cases hk
    have hBA : BlkAt (c.upd b inf') inf' { blk with elems := blk.elems.take n ++ (ys ++ blk.elems.drop (n + ys.length)) }
      (w.setRow inf.idx (cur.toList.take (n * blk.sz) ++ nv ++ cur.toList.drop (n * blk.sz + nv.length)).toArray) := by
     refine BlkAt.ofFlat (cur := (cur.toList.take (n * blk.sz) ++ nv ++ cur.toList.drop (n * blk.sz + nv.length)).toArray) (vals := _) (by simp [inf', hB.ty]) (by simp [inf', hB.sz]) hB.pos (by simp only [inf']; exact hlen'.symm) ?_ hv hB.big (setRow_heap w inf.idx cur _ e _ hcur |> fun q => by simpa [inf', hity] using q) ?_ hzz (Cells1.mono hupd hgc) (by simpa using hpre)
     ·show (blk.elems.take n ++ (ys ++ blk.elems.drop (n + ys.length))).length ≤ inf.cap
      rw [hlen']; omega
     ·simp only [inf', List.size_toArray, List.length_append, List.length_take, List.length_drop, Array.length_toList]
      omega
    obtain ⟨g1, g2, g3⟩ := vN hg hH hm (inf' := inf') rfl (by simp only [inf']; omega) hu rfl hv hv hBA hblt
    refine ⟨_, _, _, hrun, g1, g2, g3, ?_, fun b' hb' => ?_⟩
    ·rw [hlen']
     exact .sl (inf := inf') (by simp [Ctx.upd]) rfl hv hs1 (by omega) (by simp [inf']) hroom (.inl (by simp [inf']))
    ·by_cases eb : b' = b
     ·subst eb; rw [hm]; simp
     ·simpa [Ctx.upd, eb] using hb'
   ·
    have holds : ∀ j v, (cur.toList.take (n * i.size))[j]? = some v → w.cell? ((⟨inf.idx, 0, none⟩ : Addr).add j) = some v := by
     intro j v hj
     rw [Addr.add_lit, cell_of_row w _ _ _ _ _ hcur]
     rw [List.getElem?_take] at hj
     split at hj
     ·simpa using hj
     ·cases hj
    have hrun := run_append_grow (P := P) w t ty e i zv hd hi hzv ⟨inf.idx, 0, none⟩ n inf.cap (cur.toList.take (n * i.size)) (by rw [hisz, hbs]; simp; omega) holds A ys.length cap2 nv hnl hnews
     (by omega) (by omega) (growslice_fits (by omega) (by have := Nat.mul_le_mul hbig hbyi; omega))
    rw [hisz, hbs] at hrun
    have hge := grownCap_ge w (n + ys.length) inf.cap e
    have hle := grownCap_le_maxLen w (n + ys.length) inf.cap e (by simp [maxLen]; omega)
    have hvals : ((cur.toList.take (n * blk.sz)).toArray ++ nv.toArray ++ Builtin.zeroCells zv.cells (grownCap w (n + ys.length) inf.cap e - (n + ys.length))) =
      ((cur.toList.take (n * blk.sz)) ++ nv ++ (Builtin.zeroCells zv.cells (grownCap w (n + ys.length) inf.cap e - (n + ys.length))).toList).toArray := by
     apply Array.ext'; simp
    rw [hvals] at hrun
    let inf' : Info := ⟨w.heap.size, grownCap w (n + ys.length) inf.cap e, e, sz', n + ys.length, false⟩
    have hbl := hB.len
    have hupd := Ctx.upd_le (c := c) (inf' := inf') hm (by simp [inf', hs1]) (by simp [inf']; omega) (by simp [inf']; omega)
    have hdrop : blk.elems.drop (n + ys.length) = [] := List.drop_of_length_le (by omega)
    have hmax : max blk.elems.length (n + ys.length) = n + ys.length := by omega
    rw [hmax] at hlen'
    have hpre : ∀ (k : Nat) (v : Value), ((cur.toList.take (blk.elems.length * blk.sz)).take (n * blk.sz) ++ (nv ++ (cur.toList.take (blk.elems.length * blk.sz)).drop (n * blk.sz + nv.length)))[k]? = some v →
      ((cur.toList.take (n * blk.sz)) ++ nv ++ (Builtin.zeroCells zv.cells (grownCap w (n + ys.length) inf.cap e - (n + ys.length))).toList)[k]? = some v := by
     intro k v hk
     have d0 : (cur.toList.take (blk.elems.length * blk.sz)).drop (n * blk.sz + nv.length) = [] := by
      apply List.drop_of_length_le
      rw [hnvl, ← Nat.add_mul]
      simp only [List.length_take]
      have := Nat.mul_le_mul_right blk.sz (show blk.elems.length ≤ n + ys.length by omega)
      omega
     rw [htake, d0, List.append_nil] at hk
     rw [List.getElem?_append_left (List.getElem?_eq_some_iff.1 hk).1]; exact hk
    have hBA : BlkAt (c.upd b inf') inf' { blk with elems := blk.elems.take n ++ (ys ++ blk.elems.drop (n + ys.length)) }
      (w.drew.alloc (.cells ((cur.toList.take (n * blk.sz)) ++ nv ++ (Builtin.zeroCells zv.cells (grownCap w (n + ys.length) inf.cap e - (n + ys.length))).toList).toArray e)) := by
     refine BlkAt.ofFlat (vals := _) (by simp [inf', hty]) (by simp [inf', hbs]) hB.pos (by simp only [inf']; exact hlen'.symm) (by show _ ≤ inf'.cap; rw [hlen']; exact hge) rfl hle (heap_alloc_new w.drew _) ?_ hzz (Cells1.mono hupd hgc) (by simpa using hpre)
     have q : zv.cells.size = sz' := by rw [hzs]; simpa using hzsl
     simp only [inf', List.size_toArray, List.length_append, Array.length_toList, size_zeroCells, q, List.length_take, hnvl, ← hbs]
     rw [Nat.min_eq_left (by rw [hbs]; exact hnsc), ← Nat.add_mul, ← Nat.add_mul]
     congr 1; omega
    obtain ⟨g1, g2, g3⟩ := rB hg hH hm (inf' := inf') (by simp [inf', hs1]) (by simp [inf']; omega) rfl rfl hBA hblt
    refine ⟨_, _, _, hrun, g1, g2, g3, ?_, fun b' hb' => ?_⟩
    ·rw [hlen']
     exact .sl (inf := inf') (by simp [Ctx.upd]) rfl rfl rfl (by omega) (by simp [inf']) hge (.inl (by simp [inf']))
    ·by_cases eb : b' = b
     ·subst eb; rw [hm]; simp
     ·simpa [Ctx.upd, eb] using hb'
def wJ (d x : AV) (H : aB) : Option (AV × aB) :=
 match d with
 | .sl b L o n sz => match H[b]?, gH x H with
  | some blk, some ys => if blk.elems.length = L ∧ sz = 1 ∧ o + n ≤ L ∧ iY 1 ys = true then
    some (.int .i64 ((min ys.length n : Nat) : Int), H.set b { blk with elems := blk.elems.take o ++ (ys.take n ++ blk.elems.drop (o + (ys.take n).length)) }) else none
  | _, _ => none
 | _ => none
def tN (P : Program) (ts : Array Nat) (d x : AV) (H : aB) : Option (AV × aB) :=
 match ts.toList with
 | [t, _] => match P.underlying t with
  | some (.slice e) => match qE P e with
   | some s => if s = 1 then wJ d x H else none
   | none => none
  | _ => none
 | _ => none
theorem uX {H : aB} {b : Nat} {blk : ABlk} (hb : H[b]? = some blk) : H.set b blk = H := by
 have hlt : b < H.length := (List.getElem?_eq_some_iff.1 hb).1
 apply List.ext_getElem?
 intro k
 by_cases e : b = k
 ·subst e; rw [List.getElem?_set_self hlt, hb]
 ·rw [List.getElem?_set_ne e]
theorem tO {P : Program} {G : aC} {ts : Array Nat} {ty : Nat} {d x r : AV} {H H' : aB} (h : tN P ts d x H = some (r, H')) {c : Ctx} {w : World} (hg : Good G c w) (hH : HeapAt c H w)
  {vd vx : Value} (hd : Rel c d vd) (hx : Rel c x vx) :
  ∃ v w', (Builtin.copy_ ts ty #[vd, vx]).run P w = .ok v w' ∧ Wrote G c w r H' v w' c := by
 unfold tN at h
 split at h
 case h_2 => cases h
 rename_i t t' hts
 have hts' : ts = #[t, t'] := by apply Array.ext'; simpa using hts
 subst hts'
 split at h
 case h_2 => cases h
 rename_i e hu
 split at h
 case h_2 => cases h
 rename_i s hs
 split at h
 case isFalse => cases h
 rename_i hs1
 subst hs1
 unfold wJ at h
 split at h
 case h_2 => cases h
 rename_i b L o n sz
 split at h
 case h_2 => cases h
 rename_i blk ys hb hys
 split at h
 case isFalse => cases h
 rename_i hc
 obtain ⟨hL, hsz, hon, hall⟩ := hc
 simp only [Option.some.injEq, Prod.mk.injEq] at h
 obtain ⟨rfl, rfl⟩ := h
 subst hsz
 obtain ⟨a, m, cap2, rfl, hym, _, hya⟩ := hY hys hg hH hx hall
 subst hym
 have hyy : ∀ y ∈ ys, y.cells.length = 1 := fun y hy => by have := List.all_eq_true.1 hall y hy; simpa using this
 have hsz : (P.info? e).map (·.size) = some 1 := hs
 have int : ∀ k : Nat, goInt k = .int .i64 (k : Int) := fun k => rfl
 have none_ : ∀ (D : Option Addr) (dc : Nat), vd = .slice D n dc → min ys.length n = 0 → Rel c (.sl b L o n 1) vd →
   ∃ v w', (Builtin.copy_ #[t, t'] ty #[vd, .slice a ys.length cap2]).run P w = .ok v w' ∧ Wrote G c w (.int .i64 ((min ys.length n : Nat) : Int)) (H.set b { blk with elems := blk.elems.take o ++ (ys.take n ++ blk.elems.drop (o + (ys.take n).length)) }) v w' c := by
  intro D dc hv h0 hr
  subst hv
  have hyn : ys.take n = [] := List.eq_nil_of_length_eq_zero (by rw [List.length_take]; omega)
  have same : blk.elems.take o ++ (ys.take n ++ blk.elems.drop (o + (ys.take n).length)) = blk.elems := by rw [hyn]; simp
  rw [same, uX hb, h0]
  exact ⟨_, w, run_copy_none w t t' ty e D a n dc ys.length cap2 hu hsz h0, .refl c w, hg, hH, .int _ _, fun _ h => h⟩
 cases hd with
 | slStale a' cap' hm hl hnc ha => have := hH.valid hb hm; omega
 | slVirt hm hl hv hs1 => exact none_ _ _ rfl (by omega) (.slVirt hm hl hv hs1)
 | sl hm hl hv hs1 ho hcap hnc ha =>
  rename_i inf a' cap'
  by_cases h0 : min ys.length n = 0
  ·exact none_ _ _ rfl h0 (.sl hm hl hv hs1 ho hcap hnc ha)
  have ha' : a' = ⟨inf.idx, o * 1, none⟩ := by
   rcases ha with h1 | h1
   ·exact h1
   ·omega
  subst ha'
  obtain ⟨A, rfl, hAs, hAc⟩ := hya.resolve_left (fun q => h0 (by rw [q]; simp))
  have hB := hH.blk _ _ _ hb hm
  obtain ⟨cur, hcur, hcs⟩ := hB.real hv
  obtain ⟨hxx, hxc, hxfit⟩ := hB.flatCells hv hcur
  have hbs : blk.sz = 1 := by rw [← hB.sz, hs1]
  have hAc' : eQ c w A.block A.off (dS (ys.take n)) := by rw [qZ hyy, Nat.mul_one]; exact hAc.take n
  obtain ⟨nv, hnr, hncell, hn1⟩ := hAc'.vals
  have hyt : ∀ y ∈ ys.take n, y.cells.length = 1 := fun y hy => hyy y (List.mem_of_mem_take hy)
  have hnl : nv.length = (ys.take n).length := by rw [← hnr.1, cI hyt]; simp
  have hnl' : nv.length = min ys.length n := by rw [hnl, List.length_take, Nat.min_comm]
  have hnews : ∀ j v, nv[j]? = some v → w.cell? (A.add j) = some v := by
   intro j v hj
   have := hncell j v hj
   obtain ⟨blk', off, spot⟩ := A
   simp only at hAs; subst hAs
   rw [Addr.add_lit]; exact this
  have hfit : o * 1 + nv.length ≤ cur.size := by
   rw [hnl', hcs, hs1]
   have := hB.fits
   omega
  have hrun := run_copy_row (P := P) w t t' ty e inf.idx (o * 1) n cap' A ys.length cap2 cur inf.ty nv hu hsz hcur hnl' hnews hfit hn1
  have ho' : c.own inf.idx := ⟨b, inf, hm, hv, rfl⟩
  have hstep := Step.setRow (c := c) (w := w) ho' (cur.toList.take (o * 1) ++ nv ++ cur.toList.drop (o * 1 + nv.length)).toArray
  have hon' : o ≤ blk.elems.length := by omega
  obtain ⟨hzz, hgc⟩ := jM hxx (by rw [hbs]; exact hyt) hon' hxc ⟨hnr, hn1⟩
  have hytl : (ys.take n).length = min ys.length n := by rw [List.length_take, Nat.min_comm]
  have hlen' : (blk.elems.take o ++ (ys.take n ++ blk.elems.drop (o + (ys.take n).length))).length = blk.elems.length := by
   simp only [List.length_append, List.length_take, List.length_drop]; omega
  refine ⟨_, _, hrun, hstep, hg.world hstep, hH.set hm hv ?_, ?_, fun _ h => h⟩
  ·refine BlkAt.ofFlat (cur := (cur.toList.take (o * 1) ++ nv ++ cur.toList.drop (o * 1 + nv.length)).toArray) (vals := (cur.toList.take (blk.elems.length * blk.sz)).take (o * blk.sz) ++ (nv ++ (cur.toList.take (blk.elems.length * blk.sz)).drop (o * blk.sz + nv.length)))
    hB.ty hB.sz hB.pos (by rw [hlen']; exact hB.len) (by rw [hlen']; exact hB.fits) hv hB.big (setRow_heap w _ cur _ _ _ hcur) ?_ hzz hgc ?_
   ·rw [← hcs]
    simp only [List.size_toArray, List.length_append, List.length_take, List.length_drop, Array.length_toList]
    omega
   ·intro k v hk
    rw [hbs, Nat.mul_one, Nat.mul_one] at hk
    rw [hbs, Nat.mul_one] at hxfit
    simp only [Nat.mul_one] at hfit ⊢
    rw [List.append_assoc]
    have l0 : ((cur.toList.take blk.elems.length).take o) = cur.toList.take o := by rw [List.take_take, Nat.min_eq_left hon']
    rw [l0] at hk
    have ll : (cur.toList.take o).length = o := by simp; omega
    by_cases q : k < o
    ·rw [List.getElem?_append_left (by omega)] at hk ⊢; exact hk
    ·rw [List.getElem?_append_right (by omega)] at hk ⊢
     rw [ll] at hk ⊢
     by_cases q2 : k - o < nv.length
     ·rw [List.getElem?_append_left q2] at hk ⊢; exact hk
     ·rw [List.getElem?_append_right (by omega)] at hk ⊢
      rw [List.getElem?_drop, List.getElem?_take] at hk
      rw [List.getElem?_drop]
      split at hk
      ·exact hk
      ·cases hk
  ·rw [int, hnl']; exact .int _ _
theorem sF {d x r : AV} {H H' : aB} (h : wJ d x H = some (r, H')) : H'.length = H.length := by
 unfold wJ at h
 (repeat' split at h) <;> first | (cases h; done) | (simp only [Option.some.injEq, Prod.mk.injEq] at h; obtain ⟨_, rfl⟩ := h; simp)
theorem lE {P : Program} {ts : Array Nat} {d x r : AV} {H H' : aB} (h : tN P ts d x H = some (r, H')) : H'.length = H.length := by
 unfold tN at h
 (repeat' split at h) <;> first | (cases h; done) | exact sF h
def vJ (z : AV) (d : AV) (H : aB) : Option (AV × aB) :=
 match d with
 | .nils => some (.tup [], H)
 | .sl b L o n sz => match H[b]? with
  | some blk => if blk.elems.length = L ∧ sz = 1 ∧ o + n ≤ L then
    some (.tup [], H.set b { blk with elems := blk.elems.take o ++ (List.replicate n z ++ blk.elems.drop (o + (List.replicate n z).length)) }) else none
  | none => none
 | _ => none
def oR (P : Program) (ts : Array Nat) (d : AV) (H : aB) : Option (AV × aB) :=
 match ts.toList with
 | [t] => match P.underlying t with
  | some (.slice e) => match qE P e, jC P e with
   | some s, some (.int k m) => if s = 1 then vJ (.int k m) d H else none
   | _, _ => none
  | _ => none
 | _ => none
theorem qQ {P : Program} (w : World) (t ty elem : TypeId) (g o n cap : Nat) (cur : Array Value) (tc : TypeId) (k : IntKind) (m : Int)
  (hu : P.underlying t = some (.slice elem)) (hz : (zeroValue elem).run P w = .ok (.int k m) w) (hg : w.heap[g]? = some (.cells cur tc (0, 0))) (h0 : n ≠ 0) (hfit : o + n ≤ cur.size) :
  (Builtin.clear_ #[t] ty #[.slice (some ⟨g, o, none⟩) n cap]).run P w =
   .ok (.tuple #[]) (w.setRow g (cur.toList.take o ++ List.replicate n (Value.int k m) ++ cur.toList.drop (o + n)).toArray) := by
 have hst := run_storeCells_at P g o tc (List.replicate n (Value.int k m)) 0 cur w hg (by simpa using hfit) (fun v hv => by rw [List.eq_of_mem_replicate hv]; rfl)
 have hzc : (Builtin.zeroCells (Value.int k m).cells n).toList = List.replicate n (.int k m) := by
  apply List.ext_getElem
  ·simp [Builtin.zeroCells, Value.cells]
  ·intro i h1 h2
   simp [Builtin.zeroCells, Value.cells, Nat.mod_one]
 simp only [List.length_replicate, Nat.add_zero] at hst
 unfold Builtin.clear_
 cases n with
 | zero => exact absurd rfl h0
 | succ n => simp [run_underlying hu, hz, hzc, hst]
theorem qY : ∀ {l : List AV}, (∀ y ∈ l, y.cells = [y]) → dS l = l
 | [], _ => rfl
 | x :: l, h => by
  have ih := qY (l := l) fun y hy => h y (List.mem_cons_of_mem _ hy)
  have hx := h x (List.mem_cons_self ..)
  simp only [dS, List.flatMap_cons] at ih ⊢
  rw [ih, hx]; rfl
theorem sE {P : Program} {G : aC} {ts : Array Nat} {ty : Nat} {d r : AV} {H H' : aB} (h : oR P ts d H = some (r, H')) {c : Ctx} {w : World} (hg : Good G c w) (hH : HeapAt c H w)
  {vd : Value} (hd : Rel c d vd) :
  ∃ v w', (Builtin.clear_ ts ty #[vd]).run P w = .ok v w' ∧ Wrote G c w r H' v w' c := by
 unfold oR at h
 split at h
 case h_2 => cases h
 rename_i t hts
 have hts' : ts = #[t] := by apply Array.ext'; simpa using hts
 subst hts'
 split at h
 case h_2 => cases h
 rename_i e hu
 split at h
 case h_2 => cases h
 rename_i s k m hs hz
 split at h
 case isFalse => cases h
 rename_i hs1
 subst hs1
 obtain ⟨zv, hzr, hzrel⟩ := kF hz w
 obtain rfl : zv = .int k m := by have := hzrel c; cases this; rfl
 have unit : Rel c (.tup []) (.tuple #[]) := .tup rfl (fun i x v h _ => by simp at h)
 have nothing : ∀ (D : Option Addr) (dc : Nat), (D = none ∨ True) → (Builtin.clear_ #[t] ty #[.slice D 0 dc]).run P w = .ok (.tuple #[]) w := by
  intro D dc _
  unfold Builtin.clear_
  cases D <;> simp [run_underlying hu]
 unfold vJ at h
 split at h
 ·
  simp only [Option.some.injEq, Prod.mk.injEq] at h
  obtain ⟨rfl, rfl⟩ := h
  cases hd
  exact ⟨_, w, nothing none 0 (.inl rfl), .refl c w, hg, hH, unit, fun _ h => h⟩
 ·rename_i b L o n sz
  split at h
  case h_2 => cases h
  rename_i blk hb
  split at h
  case isFalse => cases h
  rename_i hc
  obtain ⟨hL, hsz, hon⟩ := hc
  simp only [Option.some.injEq, Prod.mk.injEq] at h
  obtain ⟨rfl, rfl⟩ := h
  subst hsz
  have same : n = 0 → H.set b { blk with elems := blk.elems.take o ++ (List.replicate n (.int k m) ++ blk.elems.drop (o + (List.replicate n (AV.int k m)).length)) } = H := by
   intro h0
   subst h0
   have : blk.elems.take o ++ (List.replicate 0 (AV.int k m) ++ blk.elems.drop (o + (List.replicate 0 (AV.int k m)).length)) = blk.elems := by simp
   rw [this, uX hb]
  cases hd with
  | slStale a' cap' hm hl hnc ha => have := hH.valid hb hm; omega
  | slVirt hm hl hv hs1 =>
   rw [same rfl]
   exact ⟨_, w, nothing none 0 (.inl rfl), .refl c w, hg, hH, unit, fun _ h => h⟩
  | sl hm hl hv hs1 ho hcap hnc ha =>
   rename_i inf a' cap'
   by_cases h0 : n = 0
   ·rw [same h0]
    subst h0
    exact ⟨_, w, nothing _ _ (.inr trivial), .refl c w, hg, hH, unit, fun _ h => h⟩
   have ha' : a' = ⟨inf.idx, o * 1, none⟩ := by
    rcases ha with h1 | h1
    ·exact h1
    ·omega
   subst ha'
   have hB := hH.blk _ _ _ hb hm
   obtain ⟨cur, hcur, hcs⟩ := hB.real hv
   obtain ⟨hxx, hxc, hxfit⟩ := hB.flatCells hv hcur
   have hbs : blk.sz = 1 := by rw [← hB.sz, hs1]
   have hfit : o * 1 + n ≤ cur.size := by
    rw [hcs, hs1]
    have := hB.fits
    omega
   have hrun := qQ (P := P) w t ty e inf.idx (o * 1) n cap' cur inf.ty k m hu hzr hcur h0 hfit
   have ho' : c.own inf.idx := ⟨b, inf, hm, hv, rfl⟩
   obtain ⟨nv, hnv⟩ : ∃ nv : List Value, nv = List.replicate n (.int k m) := ⟨_, rfl⟩
   have hnl : nv.length = n := by rw [hnv]; simp
   rw [← hnv] at hrun
   rw [show o * 1 + n = o * 1 + nv.length by rw [hnl]] at hrun
   have hstep := Step.setRow (c := c) (w := w) ho' (cur.toList.take (o * 1) ++ nv ++ cur.toList.drop (o * 1 + nv.length)).toArray
   have hon' : o ≤ blk.elems.length := by omega
   obtain ⟨ys, hys⟩ : ∃ ys : List AV, ys = List.replicate n (AV.int k m) := ⟨_, rfl⟩
   have hyl : ys.length = n := by rw [hys]; simp
   have hy1 : ∀ y ∈ ys, y.cells.length = 1 := fun y hy => by rw [hys] at hy; rw [List.eq_of_mem_replicate hy]; rfl
   have hcl : Cells1 c (dS ys) nv := by
    have hf : dS ys = ys := qY fun y hy => by rw [hys] at hy; rw [List.eq_of_mem_replicate hy]; rfl
    rw [hf]
    refine ⟨⟨by rw [hyl, hnl], fun i x v hx hv => ?_⟩, fun v hv => ?_⟩
    ·rw [hys] at hx
     rw [hnv] at hv
     rw [List.eq_of_mem_replicate (List.mem_of_getElem? hx), List.eq_of_mem_replicate (List.mem_of_getElem? hv)]
     exact .int _ _
    ·rw [hnv] at hv
     rw [List.eq_of_mem_replicate hv]; rfl
   rw [← hys]
   obtain ⟨hzz, hgc⟩ := jM hxx (by rw [hbs]; exact hy1) hon' hxc hcl
   have hlen' : (blk.elems.take o ++ (ys ++ blk.elems.drop (o + ys.length))).length = blk.elems.length := by
    simp only [List.length_append, List.length_take, List.length_drop]; omega
   refine ⟨_, _, hrun, hstep, hg.world hstep, hH.set hm hv ?_, unit, fun _ h => h⟩
   refine BlkAt.ofFlat (cur := (cur.toList.take (o * 1) ++ nv ++ cur.toList.drop (o * 1 + nv.length)).toArray) (vals := (cur.toList.take (blk.elems.length * blk.sz)).take (o * blk.sz) ++ (nv ++ (cur.toList.take (blk.elems.length * blk.sz)).drop (o * blk.sz + nv.length)))
    hB.ty hB.sz hB.pos (by rw [hlen']; exact hB.len) (by rw [hlen']; exact hB.fits) hv hB.big (setRow_heap w _ cur _ _ _ hcur) ?_ hzz hgc ?_
   ·rw [← hcs]
    simp only [List.size_toArray, List.length_append, List.length_take, List.length_drop, Array.length_toList]
    omega
   ·intro k v hk
    rw [hbs, Nat.mul_one, Nat.mul_one] at hk
    rw [hbs, Nat.mul_one] at hxfit
    simp only [Nat.mul_one] at hfit ⊢
    rw [List.append_assoc]
    have l0 : ((cur.toList.take blk.elems.length).take o) = cur.toList.take o := by rw [List.take_take, Nat.min_eq_left hon']
    rw [l0] at hk
    have ll : (cur.toList.take o).length = o := by simp; omega
    by_cases q : k < o
    ·rw [List.getElem?_append_left (by omega)] at hk ⊢; exact hk
    ·rw [List.getElem?_append_right (by omega)] at hk ⊢
     rw [ll] at hk ⊢
     by_cases q2 : k - o < nv.length
     ·rw [List.getElem?_append_left q2] at hk ⊢; exact hk
     ·rw [List.getElem?_append_right (by omega)] at hk ⊢
      rw [List.getElem?_drop, List.getElem?_take] at hk
      rw [List.getElem?_drop]
      split at hk
      ·exact hk
      ·cases hk
 ·cases h
theorem kI {P : Program} {ts : Array Nat} {d r : AV} {H H' : aB} (h : oR P ts d H = some (r, H')) : H'.length = H.length := by
 unfold oR at h
 (repeat' split at h) <;> first | (cases h; done) | (unfold vJ at h; (repeat' split at h) <;> first | (cases h; done) | (simp only [Option.some.injEq, Prod.mk.injEq] at h; obtain ⟨_, rfl⟩ := h; simp))
mutual
def bE : AV → Bool
 | .ptr .. => false
 | .sl .. => false
 | .fn _ caps => dW caps
 | .iface _ v => bE v
 | .agg cs => dW cs
 | .tup vs => dW vs
 | .ro _ xs => dW xs
 | .rp _ x _ => bE x
 | .undef => true
 | .bool _ => true
 | .int .. => true
 | .str _ => true
 | .nilp => true
 | .nilf => true
 | .nili => true
 | .gl _ => true
 | .gp _ => true
 | .nils => true
 | .anyb => true
def dW : List AV → Bool
 | [] => true
 | x :: xs => bE x && dW xs
end
mutual
def dR : AV → Bool
 | .ptr .. => false
 | .sl .. => false
 | .fn _ caps => fT caps
 | .iface _ v => dR v
 | .agg cs => fT cs
 | .tup vs => fT vs
 | .ro bor xs => !bor && fT xs
 | .rp bor x _ => !bor && dR x
 | .undef => true
 | .bool _ => true
 | .int .. => true
 | .str _ => true
 | .nilp => true
 | .nilf => true
 | .nili => true
 | .gl _ => true
 | .gp _ => true
 | .nils => true
 | .anyb => true
def fT : List AV → Bool
 | [] => true
 | x :: xs => dR x && fT xs
end
theorem eP : ∀ {xs : List AV} (_ : dW xs = true) {i : Nat} {x : AV} (_ : xs[i]? = some x), bE x = true
 | [], _, _, _, hx => by simp at hx
 | y :: xs, h, i, x, hx => by
  simp only [dW, Bool.and_eq_true] at h
  cases i with
  | zero => simp at hx; subst hx; exact h.1
  | succ i => simp at hx; exact eP h.2 hx
theorem fU : ∀ {xs : List AV} (_ : fT xs = true) {i : Nat} {x : AV} (_ : xs[i]? = some x), dR x = true
 | [], _, _, _, hx => by simp at hx
 | y :: xs, h, i, x, hx => by
  simp only [fT, Bool.and_eq_true] at h
  cases i with
  | zero => simp at hx; subst hx; exact h.1
  | succ i => simp at hx; exact fU h.2 hx
theorem pP {α : Type} (e : α → AV) (h : ∀ a, bE (e a) = true) : ∀ xs : List α, dW (xs.map e) = true
 | [] => rfl
 | x :: xs => by simp [dW, h x, pP e h xs]
theorem oQ {α : Type} (e : α → AV) (h : ∀ a, dR (e a) = true) : ∀ xs : List α, fT (xs.map e) = true
 | [] => rfl
 | x :: xs => by simp [fT, h x, oQ e h xs]
theorem hU {x : AV} (h : bE x = true) : dW x.cells = true := by
 cases x <;> simp_all [AV.cells, dW, bE]
theorem mS {x : AV} (h : dR x = true) : fT x.cells = true := by
 cases x <;> simp_all [AV.cells, fT, dR]
theorem Rel.plain {c c' : Ctx} (hM : ∀ a v, c.M a = some v → c'.M a = some v) (hB : ∀ a v, c.B a = some v → c'.B a = some v) (hS : c'.S = c.S) {x : AV} {v : Value} (h : Rel c x v) :
  bE x = true → Rel c' x v := by
 have hmem : ∀ bor a v, c.mem bor a = some v → c'.mem bor a = some v := fun bor a v => by cases bor <;> simp only [Ctx.mem]; exact hM a v; exact hB a v
 induction h with
 | undef v => exact fun _ => .undef v
 | bool b => exact fun _ => .bool b
 | int k n => exact fun _ => .int k n
 | str s => exact fun _ => .str s
 | nilp => exact fun _ => .nilp
 | nilf => exact fun _ => .nilf
 | nili => exact fun _ => .nili
 | fn hl _ ih => exact fun hp => .fn hl (fun i x v h1 h2 => ih i x v h1 h2 (eP (by simpa [bE] using hp) h1))
 | iface _ ih => exact fun hp => .iface (ih (by simpa [bE] using hp))
 | agg hl _ h1 ih => exact fun hp => .agg hl (fun i x v h1 h2 => ih i x v h1 h2 (eP (by simpa [bE] using hp) h1)) h1
 | tup hl _ ih => exact fun hp => .tup hl (fun i x v h1 h2 => ih i x v h1 h2 (eP (by simpa [bE] using hp) h1))
 | ptr => exact fun hp => by simp [bE] at hp
 | ptrStale => exact fun hp => by simp [bE] at hp
 | sl => exact fun hp => by simp [bE] at hp
 | slVirt => exact fun hp => by simp [bE] at hp
 | slStale => exact fun hp => by simp [bE] at hp
 | ro hn hcap ha hA hsz _ hm ih =>
  intro hp
  refine .ro hn hcap ha hA hsz (fun i x j y h1 h2 => ih i x j y h1 h2 ?_) (fun i x j y h1 h2 => ⟨hmem _ _ _ (hm i x j y h1 h2).1, (hm i x j y h1 h2).2⟩)
  exact eP (hU (eP (by simpa [bE] using hp) h1)) h2
 | rp _ hm ih =>
  intro hp
  refine .rp (fun j y h1 => ih j y h1 ?_) (fun j y h1 => ⟨hmem _ _ _ (hm j y h1).1, (hm j y h1).2⟩)
  exact eP (hU (by simpa [bE] using hp)) h1
 | gl g => exact fun _ => .gl g
 | gp h => exact fun _ => .gp (by rw [hS]; exact h)
 | nils => exact fun _ => .nils
 | anyb b => exact fun _ => .anyb b
theorem Rel.clean {c c' : Ctx} (hM : ∀ a v, c.M a = some v → c'.M a = some v) (hS : c'.S = c.S) {x : AV} {v : Value} (h : Rel c x v) :
  dR x = true → Rel c' x v := by
 induction h with
 | undef v => exact fun _ => .undef v
 | bool b => exact fun _ => .bool b
 | int k n => exact fun _ => .int k n
 | str s => exact fun _ => .str s
 | nilp => exact fun _ => .nilp
 | nilf => exact fun _ => .nilf
 | nili => exact fun _ => .nili
 | fn hl _ ih => exact fun hp => .fn hl (fun i x v h1 h2 => ih i x v h1 h2 (fU (by simpa [dR] using hp) h1))
 | iface _ ih => exact fun hp => .iface (ih (by simpa [dR] using hp))
 | agg hl _ h1 ih => exact fun hp => .agg hl (fun i x v h1 h2 => ih i x v h1 h2 (fU (by simpa [dR] using hp) h1)) h1
 | tup hl _ ih => exact fun hp => .tup hl (fun i x v h1 h2 => ih i x v h1 h2 (fU (by simpa [dR] using hp) h1))
 | ptr => exact fun hp => by simp [dR] at hp
 | ptrStale => exact fun hp => by simp [dR] at hp
 | sl => exact fun hp => by simp [dR] at hp
 | slVirt => exact fun hp => by simp [dR] at hp
 | slStale => exact fun hp => by simp [dR] at hp
 | ro hn hcap ha hA hsz _ hm ih =>
  intro hp
  simp only [dR, Bool.and_eq_true, Bool.not_eq_true'] at hp
  obtain ⟨hb, hp⟩ := hp
  subst hb
  refine .ro hn hcap ha hA hsz (fun i x j y h1 h2 => ih i x j y h1 h2 ?_) (fun i x j y h1 h2 => ⟨hM _ _ (hm i x j y h1 h2).1, (hm i x j y h1 h2).2⟩)
  exact fU (mS (fU hp h1)) h2
 | rp _ hm ih =>
  intro hp
  simp only [dR, Bool.and_eq_true, Bool.not_eq_true'] at hp
  obtain ⟨hb, hp⟩ := hp
  subst hb
  refine .rp (fun j y h1 => ih j y h1 ?_) (fun j y h1 => ⟨hM _ _ (hm j y h1).1, (hm j y h1).2⟩)
  exact fU (mS hp) h1
 | gl g => exact fun _ => .gl g
 | gp h => exact fun _ => .gp (by rw [hS]; exact h)
 | nils => exact fun _ => .nils
 | anyb b => exact fun _ => .anyb b
structure Ret (G : aC) (c : Ctx) (w : World) (r : AV) (H' : aB) (v : Value) (w' : World) (c' : Ctx) : Prop where
 step : Step c w c' w'
 good : Good G c' w'
 heap : HeapAt c' H' w'
 dom : rR c' H'
 rel : Rel c' r v
abbrev bV := List AV → aB → Option (AV × aB)
structure Sound (P : Program) (G : aC) (f : Nat) (g : bV) : Prop where
 here : ∃ fn, P.funcs[f]? = some fn ∧ fn.body.isSome = true ∧ (fn.name == "runtime.NumGoroutine") = false
 calls : ∀ args H r H', g args H = some (r, H') → ∀ c w vs, Good G c w → HeapAt c H w → rR c H → fC c args vs →
  Calls P f vs.toArray w (fun e w' => ∃ v c', e = .returned v ∧ Ret G c w r H' v w' c')
theorem Sound.mono {P : Program} {G : aC} {f : Nat} {g g' : bV} (h : Sound P G f g) (hg : ∀ args H x, g' args H = some x → g args H = some x) : Sound P G f g' :=
 ⟨h.here, fun args H r H' hr => h.calls args H r H' (hg _ _ _ hr)⟩
def rF : List AV → List AV
 | [] => []
 | x :: xs => (if bE x then x else .undef) :: rF xs
theorem mJ : ∀ (xs : List AV) (j : Nat) (z : AV), (rF xs)[j]? = some z → ∃ y, xs[j]? = some y ∧ bE z = true ∧ (z = y ∨ z = .undef)
 | [], j, z, h => by simp [rF] at h
 | x :: xs, 0, z, h => by
  simp [rF] at h
  refine ⟨x, rfl, ?_⟩
  by_cases hp : bE x = true
  ·rw [if_pos hp] at h; subst h; exact ⟨hp, .inl rfl⟩
  ·rw [if_neg hp] at h; subst h; exact ⟨rfl, .inr rfl⟩
 | x :: xs, j + 1, z, h => by
  simp [rF] at h
  exact mJ xs j z h
def pX (H : aB) (x : AV) : Option AV :=
 match x with
 | .sl b L o n sz => match gH (.sl b L o n sz) H with
  | some ys => if dW ys && iY sz ys then some (.ro true ys) else none
  | none => none
 | .ptr b L i o => match H[b]? with
  | some blk => if blk.elems.length = L then (match blk.elems[i]? with | some y => if bE y then some (.rp true y o) else (match y with | .agg cs => some (.rp true (.agg (rF cs)) o) | _ => none) | none => none) else none
  | none => none
 | x => if bE x then some x else none
def gE (H : aB) : List AV → Option (List AV)
 | [] => some []
 | x :: xs => match pX H x, gE H xs with
  | some y, some ys => some (y :: ys)
  | _, _ => none
def yM (H : aB) (x : AV) : Option AV :=
 match x with
 | .agg cs => (gE H cs).map .agg
 | x => pX H x
def pY (H : aB) : List AV → Option (List AV)
 | [] => some []
 | x :: xs => match yM H x, pY H xs with
  | some y, some ys => some (y :: ys)
  | _, _ => none
def aN (g : bV) (args : List AV) (H : aB) : Option (AV × aB) :=
 match pY H args with
 | some as => match g as [] with
  | some (r, []) => if dR r then some (r, H) else none
  | _ => none
 | none => none
def Ctx.bare (c : Ctx) (w : World) : Ctx := { m := fun _ => none, M := c.M, B := fun a => w.cell? a, S := c.S }
theorem nH {G : aC} {c : Ctx} {w : World} {H : aB} (hg : Good G c w) (hH : HeapAt c H w) {x y : AV} (h : pX H x = some y) {v : Value} (hx : Rel c x v) : Rel (c.bare w) y v := by
 have pl : ∀ (z : AV) (u : Value), Rel c z u → bE z = true → Rel (c.bare w) z u := fun z u hz hp => Rel.plain (c := c) (c' := c.bare w) (fun _ _ h => h) (fun a v h => hg.holds a v h) rfl hz hp
 unfold pX at h
 split at h
 ·rename_i b L o n sz
  split at h
  case h_2 => cases h
  rename_i ys hys
  split at h
  case isFalse => cases h
  rename_i hp
  simp only [Bool.and_eq_true] at hp
  simp at h; subst h
  obtain ⟨a, m, cap, rfl, hl, hcap, hcells⟩ := hY hys hg hH hx hp.2
  rcases hcells with rfl | ⟨A, rfl, hA, hcells⟩
  ·simp at hl; subst hl; exact .roNil ..
  ·have hsz : ∀ y ∈ ys, y.cells.length = sz := fun y hy => by have := List.all_eq_true.1 hp.2 y hy; simpa using this
   have get : ∀ (i : Nat) (z : AV) (j : Nat) (y : AV), ys[i]? = some z → z.cells[j]? = some y → ∃ u, w.cell? ⟨A.block, A.off + i * sz + j, none⟩ = some u ∧ Rel c y u ∧ u.oneCell' = true := by
    intro i z j y hz hy
    have hj : j < sz := by rw [← hsz z (List.mem_of_getElem? hz)]; exact (List.getElem?_eq_some_iff.1 hy).1
    have := hcells (i * sz + j) y (by rw [iF hsz hz hj]; exact hy)
    rwa [← Nat.add_assoc] at this
   refine .ro (A := A) (V := fun i j => (w.cell? ⟨A.block, A.off + i * sz + j, none⟩).getD default) (sz := sz) hl hcap (.inr rfl) hA (fun i z hz => hsz z (List.mem_of_getElem? hz)) (fun i z j y hz hy => ?_) (fun i z j y hz hy => ?_)
   ·obtain ⟨u, g1, g2, g3⟩ := get i z j y hz hy
    simp only [g1, Option.getD_some]
    exact pl _ _ g2 (eP (hU (eP hp.1 hz)) hy)
   ·obtain ⟨u, g1, g2, g3⟩ := get i z j y hz hy
    simp only [g1, Option.getD_some]
    exact ⟨g1, g3⟩
 ·rename_i b L i o
  split at h
  case h_2 => cases h
  rename_i blk hb
  split at h
  case isFalse => cases h
  rename_i hL
  split at h
  case h_2 => cases h
  rename_i y hy
  split at h
  case isFalse =>
   cases y with
   | agg cs =>
    simp at h; subst h
    cases hx with
    | ptrStale a hm hl => have := hH.valid hb hm; omega
    | ptr hm hl hv =>
     rename_i inf
     have hB := (hH.blk _ _ _ hb hm).at hv hy
     refine .rp (A := ⟨inf.idx, i * inf.sz, none⟩) (V := fun j => (w.cell? ⟨inf.idx, i * inf.sz + j, none⟩).getD default) (fun j z hz => ?_) (fun j z hz => ?_)
     ·obtain ⟨z', hz', hp, e⟩ := mJ _ _ _ hz
      obtain ⟨u, g1, g2, g3⟩ := hB j z' hz'
      simp only [g1, Option.getD_some]
      rcases e with rfl | rfl
      ·exact pl _ _ g2 hp
      ·exact .undef _
     ·obtain ⟨z', hz', hp, e⟩ := mJ _ _ _ hz
      obtain ⟨u, g1, g2, g3⟩ := hB j z' hz'
      simp only [g1, Option.getD_some]
      exact ⟨g1, g3⟩
   | _ => cases h
  rename_i hp
  simp at h; subst h
  cases hx with
  | ptrStale a hm hl => have := hH.valid hb hm; omega
  | ptr hm hl hv =>
   rename_i inf
   have hB := (hH.blk _ _ _ hb hm).at hv hy
   refine .rp (A := ⟨inf.idx, i * inf.sz, none⟩) (V := fun j => (w.cell? ⟨inf.idx, i * inf.sz + j, none⟩).getD default) (fun j z hz => ?_) (fun j z hz => ?_)
   ·obtain ⟨u, g1, g2, g3⟩ := hB j z hz
    simp only [g1, Option.getD_some]
    exact pl _ _ g2 (eP (hU hp) hz)
   ·obtain ⟨u, g1, g2, g3⟩ := hB j z hz
    simp only [g1, Option.getD_some]
    exact ⟨g1, g3⟩
 ·split at h
  ·rename_i hp
   simp at h; subst h
   exact pl _ _ hx hp
  ·cases h
theorem jA {G : aC} {c : Ctx} {w : World} {H : aB} (hg : Good G c w) (hH : HeapAt c H w) : ∀ {xs ys : List AV} (_ : gE H xs = some ys) {vs : List Value} (_ : fC c xs vs), fC (c.bare w) ys vs
 | [], ys, h, vs, hx => by
  simp [gE] at h; subst h
  have : vs = [] := List.eq_nil_of_length_eq_zero hx.1.symm
  subst this; exact .nil
 | x :: xs, ys, h, vs, hx => by
  simp only [gE] at h
  split at h
  ·rename_i y ys' h1 h2
   simp at h; subst h
   cases vs with
   | nil => have := hx.1; simp at this
   | cons v vs => exact .cons (nH hg hH h1 hx.head) (jA hg hH h2 hx.tail)
  ·cases h
theorem vZ {G : aC} {c : Ctx} {w : World} {H : aB} (hg : Good G c w) (hH : HeapAt c H w) {x y : AV} (h : yM H x = some y) {v : Value} (hx : Rel c x v) : Rel (c.bare w) y v := by
 unfold yM at h
 split at h
 ·obtain ⟨ys, h1, rfl⟩ := Option.map_eq_some_iff.1 h
  obtain ⟨vs, rfl, hr, h1'⟩ := hx.of_agg
  have := jA hg hH h1 hr
  exact .agg this.1 this.2 h1'
 ·exact nH hg hH h hx
theorem nJ {G : aC} {c : Ctx} {w : World} {H : aB} (hg : Good G c w) (hH : HeapAt c H w) : ∀ {xs ys : List AV} (_ : pY H xs = some ys) {vs : List Value} (_ : fC c xs vs), fC (c.bare w) ys vs
 | [], ys, h, vs, hx => by
  simp [pY] at h; subst h
  have : vs = [] := List.eq_nil_of_length_eq_zero hx.1.symm
  subst this; exact .nil
 | x :: xs, ys, h, vs, hx => by
  simp only [pY] at h
  split at h
  ·rename_i y ys' h1 h2
   simp at h; subst h
   cases vs with
   | nil => have := hx.1; simp at this
   | cons v vs => exact .cons (vZ hg hH h1 hx.head) (nJ hg hH h2 hx.tail)
  ·cases h
theorem Good.bare {G : aC} {c : Ctx} {w : World} (hg : Good G c w) (hG : ∀ g x, G g = some x → bE x = true) : Good G (c.bare w) w := by
 refine ⟨fun a v h => h, fun a v h => hg.holds _ _ (hg.MB _ _ h), fun k ⟨b, i, h, _⟩ => by simp [Ctx.bare] at h, hg.sent, fun g a h ⟨b, i, h', _⟩ => by simp [Ctx.bare] at h', hg.sentApart, fun g x h => ?_, fun k ⟨b, i, h, _⟩ => by simp [Ctx.bare] at h, hg.tab⟩
 obtain ⟨v, h1, h2⟩ := hg.glob g x h
 exact ⟨v, h1, Rel.plain (c := c) (c' := c.bare w) (fun _ _ h => h) (fun a v h => hg.holds a v h) rfl h2 (hG g x h)⟩
def Ctx.after (c c1 : Ctx) : Ctx := { m := c.m, M := c1.M, B := fun a => match c1.M a with | some v => some v | none => c.B a, S := c.S }
theorem vG {G : aC} {c c1 : Ctx} {w w1 : World} (hg : Good G c w) (hs : Step (c.bare w) w c1 w1) (hg1 : Good G c1 w1) : Step c w (c.after c1) w1 ∧ Good G (c.after c1) w1 := by
 have old : ∀ k, k < w.heap.size → w1.heap[k]? = w.heap[k]? := fun k hk => hs.kept k hk (fun ⟨b, i, h, _⟩ => by simp [Ctx.bare] at h)
 have cell : ∀ a v, w.cell? a = some v → w1.cell? a = some v := fun a v h => by
  rw [World.cell?_of_block (w := w) (old _ (block_lt_of_cell h))]; exact h
 have hB : ∀ a v, c.B a = some v → (c.after c1).B a = some v := by
  intro a v h
  simp only [Ctx.after]
  split
  ·rename_i u hu
   have h1 := hg1.holds _ _ (hg1.MB _ _ hu)
   have h2 := cell a v (hg.holds _ _ h)
   rw [h1] at h2; exact h2
  ·exact h
 have newM : ∀ a v, c1.M a = some v → c.M a = some v ∨ w.heap.size ≤ a.block := fun a v h => hs.newM a v h
 have hstep : Step c w (c.after c1) w1 := by
  refine ⟨⟨fun b i hb => ⟨i, hb, rfl, Nat.le_refl _, fun _ => rfl⟩, fun a v h => hs.le.M a v h, hB, rfl⟩, hs.os, hs.tape, hs.output, hs.size, fun k hk _ => old k hk, fun _ inf h hv _ => ⟨inf, h, hv, rfl⟩, newM, fun a v h => ?_⟩
  simp only [Ctx.after] at h
  split at h
  ·rename_i u hu
   rcases newM a u hu with h1 | h1
   ·obtain rfl := Option.some.inj h
    exact .inl (hg.MB _ _ h1)
   ·exact .inr h1
  ·exact .inl h
 refine ⟨hstep, hg.step hstep (fun a v h => ?_) (fun a v h => ?_) (fun k hk a ha => ?_) (fun k hk => ?_)⟩
 ·simp only [Ctx.after] at h
  split at h
  ·rename_i u hu
   obtain rfl := Option.some.inj h
   exact hg1.holds _ _ (hg1.MB _ _ hu)
  ·exact cell a v (hg.holds a v h)
 ·simp only [Ctx.after] at h ⊢
  rw [h]
 ·have hk' : c.own k := hk
  have hlt := hg.bound k hk'
  have h1 := hg.away k hk' a ha
  simp only [Ctx.after]
  split
  ·rename_i u hu
   rcases newM a u hu with h2 | h2
   ·rw [hg.MB _ _ h2] at h1; cases h1
   ·omega
  ·exact h1
 ·exact Nat.lt_of_lt_of_le (hg.bound k hk) hs.size
theorem rR.nil {c : Ctx} (h : ∀ b, c.m b = none) : rR c [] := fun b hb => absurd (h b) hb
structure Out (G : aC) (c : Ctx) (H : aB) (w : World) (r : AV) (H' : aB) (v : Value) (w' : World) (c' : Ctx) : Prop where
 step : Step c w c' w'
 good : Good G c' w'
 heap : HeapAt c' H' w'
 rel : Rel c' r v
 dom : rR c H → rR c' H'
structure Quiet (c : Ctx) (H : aB) (w : World) (H' : aB) (w' : World) (c' : Ctx) : Prop where
 kept : ∀ k, k < w.heap.size → w'.heap[k]? = w.heap[k]?
 same : ∀ b, b ≠ H.length → c'.m b = c.m b
 ext : H' = H ∨ ∃ blk, H' = H ++ [blk]
 keepm : H' = H → c'.m H.length = c.m H.length
theorem Made.out {G : aC} {c : Ctx} {H : aB} {w : World} {r : AV} {H' : aB} {v : Value} {w' : World} {c' : Ctx} (h : Made G c H w r H' v w' c') : Out G c H w r H' v w' c' ∧ Quiet c H w H' w' c' := by
 refine ⟨⟨h.step, h.good, h.heap, h.rel, fun hd b hb => ?_⟩, ⟨h.quiet, h.same, h.ext, h.keepm⟩⟩
 by_cases e : b = H.length
 ·subst e
  rcases h.ext with rfl | ⟨blk, rfl⟩
  ·rw [h.keepm rfl] at hb; exact hd _ hb
  ·simp
 ·rw [h.same b e] at hb
  have := hd b hb
  rcases h.ext with rfl | ⟨blk, rfl⟩
  ·exact this
  ·simp; omega
theorem uM {G : aC} {c : Ctx} {H : aB} {w : World} (hg : Good G c w) (hH : HeapAt c H w) {r : AV} {v : Value} (hr : Rel c r v) : Out G c H w r H v w c ∧ Quiet c H w H w c :=
 ⟨⟨.refl c w, hg, hH, hr, fun hd => hd⟩, ⟨fun _ _ => rfl, fun _ _ => rfl, .inl rfl, fun _ => rfl⟩⟩
theorem pR {P : Program} {G : aC} {f : Nat} {g : bV} (hs : Sound P G f g) (hG : ∀ g x, G g = some x → bE x = true) {args : List AV} {H H' : aB} {r : AV} (h : aN g args H = some (r, H'))
  {c : Ctx} {w : World} (hg : Good G c w) (hH : HeapAt c H w) {vs : List Value} (ha : fC c args vs) :
  Calls P f vs.toArray w (fun e w' => ∃ v c', e = .returned v ∧ Out G c H w r H' v w' c' ∧ Quiet c H w H' w' c') := by
 unfold aN at h
 split at h
 case h_2 => cases h
 rename_i as has
 split at h
 case h_2 => cases h
 rename_i r' wN
 split at h
 case isFalse => cases h
 rename_i hclean
 simp only [Option.some.injEq, Prod.mk.injEq] at h
 obtain ⟨rfl, rfl⟩ := h
 refine (hs.calls as [] r' [] wN (c.bare w) w vs (hg.bare hG) ⟨by simp, by simp [Ctx.bare]⟩ (rR.nil (fun _ => rfl)) (nJ hg hH has ha)).mono fun e w' he => ?_
 obtain ⟨v, c1, rfl, hret⟩ := he
 obtain ⟨h1, h2⟩ := vG hg hret.step hret.good
 have old : ∀ k, k < w.heap.size → w'.heap[k]? = w.heap[k]? := fun k hk => hret.step.kept k hk (fun ⟨b, i, h, _⟩ => by simp [Ctx.bare] at h)
 have hrel : Rel (c.after c1) r' v := Rel.clean (c := c1) (c' := c.after c1) (fun _ _ h => h) (hret.step.le.S.symm) hret.rel hclean
 exact ⟨v, c.after c1, rfl, ⟨h1, h2, hH.keep h1.le (fun _ _ h => h) (fun k hk => old k (hg.bound k hk)), hrel, fun hd => hd⟩, ⟨old, fun _ _ => rfl, .inl rfl, fun _ => rfl⟩⟩
structure Ann where
 own : Nat → Bool
 nil : Nat → Bool
 keep : Nat → List Nat
 join : Nat → Option (List Nat)
 virt : Nat → List (Nat × Nat × Nat × Nat)
 pt : Nat → Bool
def eZ (T : Nat → AV) : Operand → AV
 | .tmp t => T t
 | .const v => wQ v
 | .global g => .gl g
 | .func f => .fn f []
def pu (H : aB) (m : Option AV) : Option (AV × aB) :=
 match m with
 | some v => some (v, H)
 | none => none
def eH (x : AV) : Option AV :=
 match x with
 | .ptr b L i o => some (.ptr b L i o)
 | .rp bor x o => some (.rp bor x o)
 | .gl g => some (.gl g)
 | .gp g => some (.gp g)
 | .fn f caps => some (.fn f caps)
 | _ => none
def iS : Operand → Bool
 | .const (.slice none 0 0) => true
 | _ => false
def uJ (P : Program) (t : Nat) (H : aB) : Option (AV × aB) :=
 match P.underlying t with
 | some (.slice e) => match qE P e with
  | some s => if 0 < s then some (.sl H.length 0 0 0 s, H ++ [{ ty := e, sz := s, elems := [] }]) else none
  | none => none
 | _ => none
def mL (ann : Ann) : Option Tmp → Bool
 | some d => ann.nil d
 | none => false
def kK (P : Program) (ann : Ann) (o : Oper) (x : Operand) (T : Nat → AV) (H : aB) : Option (AV × aB) :=
 match iS x && mL ann o.dst with
 | true => uJ P o.type H
 | false => some (eZ T x, H)
def aBc (ann : Ann) (o : Oper) : Bool := match o.dst with | some d => ann.own d | none => false
abbrev jD := Nat → Option (Bool × bV)
def eW (g : bV) (args : List AV) (H : aB) : Option (AV × aB) :=
 match g args H with
 | some (r, H') => if H.length ≤ H'.length then some (r, H') else none
 | none => none
def qU (E : jD) (f : Nat) (args : List AV) (H : aB) : Option (AV × aB) :=
 match E f with
 | some (true, g) => aN g args H
 | some (false, g) => eW g args H
 | none => none
def lC (E : jD) (f : AV) (args : List AV) (H : aB) : Option (AV × aB) :=
 match f with
 | .fn f caps => qU E f (args ++ caps) H
 | _ => none
def sD (E : jD) (f : AV) (args : List AV) (H : aB) : Option (AV × aB) :=
 match f with
 | .fn f caps => match E f with
  | some (p, g) => match p with
   | true => aN g (args ++ caps) H
   | false => none
  | none => none
 | _ => none
def mO (ann : Ann) : Operand → Bool
 | .tmp t => ann.pt t
 | _ => false
def pM (P : Program) (G : aC) (E : jD) (ann : Ann) (o : Oper) (T : Nat → AV) (H : aB) : Option (AV × aB) :=
 match o.op with
 | .move x => kK P ann o x T H
 | .assign x => kK P ann o x T H
 | .pick c a b => pu H (dE (eZ T c) (eZ T a) (eZ T b))
 | .alloc t => oL P t H
 | .box t x => match aBc ann o with
  | true => cY t (eZ T x) H
  | false => bN (eZ T x) H
 | .build t parts => pu H (vH P t (parts.toList.map fun p => (p.1, eZ T p.2)))
 | .buildSlice t len parts => hJ P (aBc ann o) t len (parts.toList.map fun p => (p.1, eZ T p.2)) H
 | .load t a => pu H (jO P G t (eZ T a) H)
 | .store t a x => match kS P t (eZ T a) (eZ T x) H with
  | some H' => some (.tup [], H')
  | none => none
 | .nilCheck x => pu H (eH (eZ T x))
 | .binOp op t x y _ => pu H (aZ P op t (pB x || pB y) (eZ T x) (eZ T y))
 | .unOp op _ x => pu H (un op (eZ T x))
 | .convert s d x => pu H (yX P s d (eZ T x))
 | .makeInterface t x => pu H (sK P t (eZ T x))
 | .makeFunc fn first captured => match fn with
  | .func f => match first.toList with
   | [] => some (.fn f (captured.toList.map (eZ T)), H)
   | _ => none
  | _ => none
 | .makeSlice t l c => dV P t (eZ T l) (eZ T c) H
 | .slice t x lo hi mx => match mx with
  | none => pu H (vX P t (eZ T x) (lo.map (eZ T)) (hi.map (eZ T)))
  | some _ => none
 | .fieldAddr t x f => pu H (kO P t (eZ T x) f)
 | .field t x f => pu H (vM P t (eZ T x) f)
 | .indexAddr t x i => pu H (kQ P t (eZ T x) (eZ T i))
 | .index t x i => pu H (vO P t (eZ T x) (eZ T i))
 | .typeAssert x _ t ok => pu H (rU P (eZ T x) t ok)
 | .extract x i => pu H (aI (eZ T x) i)
 | .call c => match c.callee with
  | .builtin .len => match c.argTypes.toList, c.args.toList with
   | [t], [x] => pu H (aBB P t (eZ T x))
   | _, _ => none
  | .builtin .append => match c.args.toList with
   | [s, x] => kV P c.argTypes (eZ T s) (eZ T x) H
   | _ => none
  | .builtin .copy => match c.args.toList with
   | [d, x] => tN P c.argTypes (eZ T d) (eZ T x) H
   | _ => none
  | .builtin .clear => match c.args.toList with
   | [d] => oR P c.argTypes (eZ T d) H
   | _ => none
  | .builtin .min => match c.args.toList with
   | x :: l => pu H (mV zM (eZ T x) (l.map (eZ T)))
   | [] => none
  | .builtin .max => match c.args.toList with
   | x :: l => pu H (mV uI (eZ T x) (l.map (eZ T)))
   | [] => none
  | .value f => match mO ann f with
   | true => sD E (eZ T f) (c.args.toList.map (eZ T)) H
   | false => lC E (eZ T f) (c.args.toList.map (eZ T)) H
  | _ => none
 | _ => none
def eG (ann : Ann) (o : Oper) : Bool :=
 match o.op with
 | .move x => iS x && mL ann o.dst
 | .assign x => iS x && mL ann o.dst
 | .load _ (.global _) => false
 | .load _ _ => true
 | .alloc _ => true
 | .box _ _ => true
 | .buildSlice .. => true
 | .makeSlice .. => true
 | .store .. => true
 | .call c => match c.callee with
  | .builtin .len => false
  | .builtin .min => false
  | .builtin .max => false
  | _ => true
 | _ => false
def dA (ann : Ann) (pf : Nat → Bool) (o : Oper) : Bool :=
 match o.op with
 | .store .. => true
 | .call c => match c.callee with
  | .builtin .append => true
  | .builtin .copy => true
  | .builtin .clear => true
  | .builtin _ => false
  | .value f => match f with
   | .func f => !pf f
   | f => !mO ann f
  | _ => true
 | _ => false
def cL (E : jD) (f : Nat) : Bool := match E f with | some (true, _) => true | _ => false
theorem lA {E : jD} {f : AV} {args : List AV} {H : aB} {r : AV × aB} (h : sD E f args H = some r) : lC E f args H = some r ∧ ∃ fid caps, f = .fn fid caps ∧ cL E fid = true := by
 unfold sD at h
 split at h
 case h_2 => cases h
 rename_i fid caps
 split at h
 case h_2 => cases h
 rename_i p g hf
 split at h
 ·exact ⟨by simp only [lC, qU, hf]; exact h, fid, caps, rfl, by simp [cL, hf]⟩
 ·cases h
structure EnvSound (P : Program) (G : aC) (E : jD) : Prop where
 sound : ∀ f p g, E f = some (p, g) → Sound P G f g
 glob : ∀ g x, G g = some x → bE x = true
theorem uK {P : Program} {G : aC} {t : Nat} {r : AV} {H H' : aB} (h : uJ P t H = some (r, H')) {c : Ctx} {w : World} (hg : Good G c w) (hH : HeapAt c H w) (hn : c.m H.length = none) :
  ∃ c', Out G c H w r H' (.slice none 0 0) w c' ∧ Quiet c H w H' w c' := by
 unfold uJ at h
 split at h
 case h_2 => cases h
 rename_i e hd
 split at h
 case h_2 => cases h
 rename_i s hs
 split at h
 case isFalse => cases h
 rename_i hs0
 simp only [Option.some.injEq, Prod.mk.injEq] at h
 obtain ⟨rfl, rfl⟩ := h
 let inf : Info := ⟨0, 0, e, s, 0, true⟩
 have hle := Ctx.push_le (inf := inf) hn
 have hown : ∀ k, (c.push H.length inf).own k → c.own k := fun k hk => by
  rcases Ctx.push_own hk with h | ⟨h, _⟩
  ·exact h
  ·simp [inf] at h
 have hstep : Step c w (c.push H.length inf) w := ⟨hle, rfl, rfl, rfl, Nat.le_refl _, fun _ _ _ => rfl, fun b i hb hv hlt => by
   by_cases e1 : b = H.length
   ·simp [Ctx.push, e1] at hb; subst hb; simp [inf] at hv
   ·simp [Ctx.push, e1] at hb; exact ⟨i, hb, hv, rfl⟩, fun _ _ h => .inl h, fun _ _ h => .inl h⟩
 refine ⟨c.push H.length inf, ⟨hstep, hg.step hstep hg.holds hg.MB (fun k hk a ha => hg.away k (hown k hk) a ha) (fun k hk => hg.bound k (hown k hk)), ⟨fun b blk i hb hm => ?_, fun b b' i i' h1 h2 v1 v2 he => ?_⟩,
  .slVirt (inf := inf) (by simp [Ctx.push]) rfl rfl rfl, fun hd b hb => ?_⟩, ⟨fun _ _ => rfl, fun b hb => by simp [Ctx.push, hb], .inr ⟨_, rfl⟩, fun e => by simp at e⟩⟩
 ·by_cases e1 : b = H.length
  ·subst e1
   simp [Ctx.push] at hm; subst hm
   simp at hb; subst hb
   exact ⟨rfl, rfl, hs0, rfl, by simp, fun _ => rfl, by simp [inf], by simp [inf], by simp [inf]⟩
  ·simp [Ctx.push, e1] at hm
   have hlt : b < H.length := by have := (List.getElem?_eq_some_iff.1 hb).1; simp at this; omega
   rw [List.getElem?_append_left hlt] at hb
   exact (hH.blk b blk i hb hm).kept hle (fun _ => rfl)
 ·by_cases e1 : b = H.length
  ·simp [Ctx.push, e1] at h1; subst h1; simp [inf] at v1
  ·by_cases e2 : b' = H.length
   ·simp [Ctx.push, e2] at h2; subst h2; simp [inf] at v2
   ·simp [Ctx.push, e1] at h1; simp [Ctx.push, e2] at h2
    exact hH.inj b b' i i' h1 h2 v1 v2 he
 ·by_cases e1 : b = H.length
  ·simp [e1]
  ·simp [Ctx.push, e1] at hb
   have := hd b (by simpa using hb)
   simp; omega
theorem bM {P : Program} {o : Oper} {a : Act} {w w' : World} {v : Value} {next : Act → World → Prop} {Q : Exit → Act → World → Prop}
  (h : (execOp a.eval o).run P w = .ok (.value v) w') (k : next (a.put o.dst v) w') : o.wp P a w next Q := by
 unfold Oper.wp; rw [h]; exact k
theorem qH {P : Program} {o : Oper} {a : Act} {w w' : World} {next : Act → World → Prop} {Q : Exit → Act → World → Prop}
  (h : (execOp a.eval o).run P w = .ok .skip w') (k : next (a.put o.dst undef) w') : o.wp P a w next Q := by
 unfold Oper.wp; rw [h]; exact k
theorem vE {P : Program} {o : Oper} {a : Act} {w : World} {f : Nat} {args : Array Value} {next : Act → World → Prop} {Q : Exit → Act → World → Prop}
  (h : (execOp a.eval o).run P w = .ok (.enter f args) w) {R : Value → World → Prop} (hc : Calls P f args w (fun e w' => ∃ v, e = .returned v ∧ R v w')) (k : ∀ v w', R v w' → next (a.put o.dst v) w') : o.wp P a w next Q := by
 unfold Oper.wp; rw [h, Oper.upon_enter]
 refine hc.mono fun e w' ⟨v, he, hr⟩ => ?_
 subst he
 exact k v w' hr
theorem cA {H H' : aB} {m : Option AV} {r : AV} (h : pu H m = some (r, H')) : m = some r ∧ H' = H := by
 unfold pu at h
 split at h
 ·simp only [Option.some.injEq, Prod.mk.injEq] at h; obtain ⟨rfl, rfl⟩ := h; exact ⟨rfl, rfl⟩
 ·cases h
theorem dZ {P : Program} {s : Sem Value} {u : Value} {w w' : World} (h : s.run P w = .ok u w') : ((do pure (Next.value (← s))) : Sem Next).run P w = .ok (.value u) w' := by
 simp [h]
theorem mM {c : Ctx} {T : Nat → AV} {ρ : Operand → Value} (parts : Array (Nat × Operand)) (h : ∀ p ∈ parts, Rel c (eZ T p.2) (ρ p.2)) :
  kU c (parts.toList.map fun p => (p.1, eZ T p.2)) (parts.map fun (i, x) => (i, ρ x)).toList := by
 refine ⟨by simp, fun k i x j v h1 h2 => ?_⟩
 simp only [List.getElem?_map, Array.toList_map, Option.map_eq_some_iff] at h1 h2
 obtain ⟨p, hp, e1⟩ := h1
 obtain ⟨q, hq, e2⟩ := h2
 rw [hp] at hq
 obtain rfl := Option.some.inj hq
 simp only [Prod.mk.injEq] at e1 e2
 obtain ⟨rfl, rfl⟩ := e1
 obtain ⟨rfl, rfl⟩ := e2
 exact ⟨rfl, h p (by simpa using List.mem_of_getElem? hp)⟩
theorem gX {c : Ctx} {T : Nat → AV} {ρ : Operand → Value} (l : List Operand) (h : ∀ x ∈ l, Rel c (eZ T x) (ρ x)) : fC c (l.map (eZ T)) (l.map ρ) := by
 induction l with
 | nil => exact .nil
 | cons x l ih => exact .cons (h x (by simp)) (ih (fun y hy => h y (by simp [hy])))
theorem sS {P : Program} {f : Nat} {w : World} (h : ∃ fn, P.funcs[f]? = some fn ∧ fn.body.isSome = true ∧ (fn.name == "runtime.NumGoroutine") = false) (args : Array Value) :
  (callFunc f args).run P w = .ok (.enter f args) w := by
 obtain ⟨fn, h1, h2, h3⟩ := h
 have h4 : fn.body.isNone = false := by cases hb : fn.body <;> simp_all
 simp only [callFunc, Sem.run_bind, run_program, Result.andThen_ok, h1, h3, h4, Bool.false_eq_true, if_false, Sem.run_pure]
theorem tJ {P : Program} {G : aC} {E : jD} (hE : EnvSound P G E) {f : Nat} {args : List AV} {H H' : aB} {r : AV} (h : qU E f args H = some (r, H')) {c : Ctx} {w : World} (hg : Good G c w) (hH : HeapAt c H w)
  (hd : cL E f = false → rR c H) {vs : List Value} (ha : fC c args vs) :
  (∃ fn, P.funcs[f]? = some fn ∧ fn.body.isSome = true ∧ (fn.name == "runtime.NumGoroutine") = false) ∧
  Calls P f vs.toArray w (fun e w' => ∃ v, e = .returned v ∧ ∃ c', Out G c H w r H' v w' c' ∧ (cL E f = true → Quiet c H w H' w' c')) := by
 unfold qU at h
 split at h
 ·rename_i g hf
  have hs := hE.sound f true g hf
  refine ⟨hs.here, (pR hs hE.glob h hg hH ha).mono fun e w' ⟨v, c', h1, h2, h3⟩ => ⟨v, h1, c', h2, fun _ => h3⟩⟩
 ·rename_i g hf
  have hs := hE.sound f false g hf
  have hp : cL E f = false := by simp [cL, hf]
  unfold eW at h
  split at h
  case h_2 => cases h
  rename_i r1 H1 h1
  split at h
  case isFalse => cases h
  simp only [Option.some.injEq, Prod.mk.injEq] at h
  obtain ⟨rfl, rfl⟩ := h
  refine ⟨hs.here, (hs.calls args H _ _ h1 c w vs hg hH (hd hp) ha).mono fun e w' ⟨v, c', h1, h2⟩ => ⟨v, h1, c', ⟨h2.step, h2.good, h2.heap, h2.rel, fun _ => h2.dom⟩, fun hq => by rw [hp] at hq; cases hq⟩⟩
 ·cases h
theorem iB {P : Program} {t : Nat} {x y : AV} {H H' : aB} (h : kS P t x y H = some H') : H'.length = H.length := by
 unfold kS aT at h
 (repeat' split at h) <;> first | (cases h; done) | (simp only [Option.some.injEq] at h; subst h; simp)
theorem oM {e sz : Nat} {s x r : AV} {H H' : aB} (h : fS e sz s x H = some (r, H')) : H'.length = H.length := by
 unfold fS at h
 (repeat' split at h) <;> first | (cases h; done) | (simp only [Option.some.injEq, Prod.mk.injEq] at h; obtain ⟨_, rfl⟩ := h; simp)
theorem jF {P : Program} {ts : Array Nat} {s x r : AV} {H H' : aB} (h : kV P ts s x H = some (r, H')) : H'.length = H.length := by
 unfold kV at h
 (repeat' split at h) <;> first | (cases h; done) | exact oM h
theorem mR {t : Nat} {v r : AV} {H H' : aB} (h : cY t v H = some (r, H')) : H'.length ≠ H.length := by
 unfold cY at h
 split at h
 ·simp only [Option.some.injEq, Prod.mk.injEq] at h; obtain ⟨_, rfl⟩ := h; simp
 ·cases h
theorem lU {P : Program} {t : Nat} {l c r : AV} {H H' : aB} (h : dV P t l c H = some (r, H')) : H'.length ≠ H.length := by
 unfold dV fV at h
 (repeat' split at h) <;> first | (cases h; done) | (simp only [Option.some.injEq, Prod.mk.injEq] at h; obtain ⟨_, rfl⟩ := h; simp)
theorem pJ {x r : AV} (h : eH x = some r) {c : Ctx} {v : Value} (hx : Rel c x v) : r = x ∧ ((∃ a, v = .pointer (some a)) ∨ ∃ f cs, v = .func (.func f) #[] cs) := by
 unfold eH at h
 split at h <;> (try cases h) <;> refine ⟨rfl, ?_⟩ <;> cases hx <;> first | exact .inl ⟨_, rfl⟩ | exact .inr ⟨_, _, rfl⟩
theorem rI {P : Program} {G : aC} {E : jD} {ann : Ann} {o : Oper} {T : Nat → AV} {H H' : aB} {r : AV} (hE : EnvSound P G E) (h : pM P G E ann o T H = some (r, H'))
  {c : Ctx} {w : World} {a : Act} (hg : Good G c w) (hH : HeapAt c H w) (hn : H'.length ≠ H.length → c.m H.length = none) (hT : ∀ x ∈ o.op.operands, Rel c (eZ T x) (a.eval x)) (hd : dA ann (cL E) o = true → rR c H)
  {next : Act → World → Prop} {Q : Exit → Act → World → Prop}
  (K : ∀ v w' c', Out G c H w r H' v w' c' → (dA ann (cL E) o = false → Quiet c H w H' w' c') → next (a.put o.dst v) w') : o.wp P a w next Q := by
 obtain ⟨dst, op, type, pos, after, guard⟩ := o
 have pureK : ∀ v, H' = H → Rel c r v → next (a.put dst v) w := fun v e hr => by
  subst e
  exact K v w c (uM hg hH hr).1 (fun _ => (uM hg hH hr).2)
 have madeK : ∀ v w' c', Made G c H w r H' v w' c' → next (a.put dst v) w' := fun v w' c' hm =>
  K v w' c' hm.out.1 (fun _ => hm.out.2)
 have moveK : ∀ x, (op = .move x ∨ op = .assign x) → kK P ann ⟨dst, op, type, pos, after, guard⟩ x T H = some (r, H') → (Oper.mk dst op type pos after guard).wp P a w next Q := by
  intro x hx hm
  have hxT : Rel c (eZ T x) (a.eval x) := hT x (by rcases hx with rfl | rfl <;> simp [Op.operands])
  have run : ∀ v, a.eval x = v → (execOp a.eval (Oper.mk dst op type pos after guard)).run P w = .ok (.value v) w := fun v e => by
   subst e; rcases hx with rfl | rfl <;> rfl
  unfold kK at hm
  split at hm
  ·rename_i hc
   simp only [Bool.and_eq_true] at hc
   have hx0 : a.eval x = .slice none 0 0 := by
    unfold iS at hc
    split at hc
    ·rfl
    ·simp at hc
   obtain ⟨c', h1, h2⟩ := uK hm hg hH (hn (by unfold uJ at hm; (repeat' split at hm) <;> first | (cases hm; done) | (simp only [Option.some.injEq, Prod.mk.injEq] at hm; obtain ⟨_, rfl⟩ := hm; simp)))
   exact bM (run _ hx0) (K _ w c' h1 (fun _ => h2))
  ·simp only [Option.some.injEq, Prod.mk.injEq] at hm
   obtain ⟨rfl, rfl⟩ := hm
   exact bM (run _ rfl) (pureK _ rfl hxT)
 cases op <;> simp only [pM] at h <;> try (cases h; done)
 case move x => exact moveK x (.inl rfl) h
 case assign x => exact moveK x (.inr rfl) h
 case pick cc x y =>
  obtain ⟨h1, rfl⟩ := cA h
  have r1 := hT cc (by simp [Op.operands]); have r2 := hT x (by simp [Op.operands]); have r3 := hT y (by simp [Op.operands])
  unfold dE at h1
  split at h1
  case h_2 => cases h1
  rename_i b hb
  rw [hb] at r1
  have e1 := r1.of_bool
  simp at h1; subst h1
  refine bM (v := if b then a.eval x else a.eval y) ?_ (pureK _ rfl ?_)
  ·simp [execOp, e1, asBool]
  ·cases b <;> simpa
 case alloc t =>
  obtain ⟨u, w', c', h1, h2⟩ := tG (P := P) h hg hH (hn (by unfold oL at h; split at h; exact mR h; cases h))
  exact bM (dZ h1) (madeK _ _ _ h2)
 case box t x =>
  have r1 := hT x (by simp [Op.operands])
  split at h
  ·obtain ⟨u, w', c', h1, h2⟩ := xT (P := P) h hg hH (hn (mR h)) r1
   exact bM (dZ h1) (madeK _ _ _ h2)
  ·obtain ⟨u, w', c', h1, h2⟩ := sB (P := P) (t := t) h hg hH r1
   exact bM (dZ h1) (madeK _ _ _ h2)
 case build t parts =>
  obtain ⟨h1, rfl⟩ := cA h
  have hp := mM (c := c) (T := T) (ρ := a.eval) parts (fun p hp => hT p.2 (by simpa [Op.operands] using ⟨p.1, by simpa using hp⟩))
  obtain ⟨v, e1, e2⟩ := kY h1 (w := w) hp
  exact bM (dZ e1) (pureK _ rfl e2)
 case buildSlice t len parts =>
  have hp := mM (c := c) (T := T) (ρ := a.eval) parts (fun p hp => hT p.2 (by simpa [Op.operands] using ⟨p.1, by simpa using hp⟩))
  obtain ⟨v, w', c', e1, e2⟩ := kZ h hg hH hn hp
  exact bM (dZ e1) (madeK _ _ _ e2)
 case load t x =>
  obtain ⟨h1, rfl⟩ := cA h
  obtain ⟨v, e1, e2⟩ := jP h1 hg hH (hT x (by simp [Op.operands]))
  exact bM (dZ e1) (pureK _ rfl e2)
 case store t x y =>
  split at h
  case h_2 => cases h
  rename_i H1 h1
  simp only [Option.some.injEq, Prod.mk.injEq] at h
  obtain ⟨rfl, rfl⟩ := h
  obtain ⟨w', e1, e2, e3, e4⟩ := mF h1 hg hH (hT x (by simp [Op.operands])) (hT y (by simp [Op.operands]))
  refine qH (w' := w') (by simp [execOp, e1]) (K _ w' c ⟨e2, e3, e4, .tup (vs := []) rfl (by simp), fun hdm b hb => ?_⟩ (fun hw => by simp [dA] at hw))
  have := hdm b hb
  rw [iB h1]
  exact this
 case nilCheck x =>
  obtain ⟨h1, rfl⟩ := cA h
  have r1 := hT x (by simp [Op.operands])
  obtain ⟨rfl, hv⟩ := pJ h1 r1
  refine bM (v := a.eval x) ?_ (pureK _ rfl r1)
  rcases hv with ⟨ad, hv⟩ | ⟨f, cs, hv⟩ <;> simp [execOp, hv]
 case binOp bop t x y yt =>
  obtain ⟨h1, rfl⟩ := cA h
  obtain ⟨v, e1, e2⟩ := qT h1 hg (hT x (by simp [Op.operands])) (hT y (by simp [Op.operands])) x y (fun h => h)
  exact bM (dZ e1) (pureK _ rfl e2)
 case unOp uop t x =>
  obtain ⟨h1, rfl⟩ := cA h
  obtain ⟨v, e1, e2⟩ := vA (P := P) (w := w) h1 (hT x (by simp [Op.operands]))
  exact bM (dZ e1) (pureK _ rfl e2)
 case convert sT dT x =>
  obtain ⟨h1, rfl⟩ := cA h
  obtain ⟨v, e1, e2⟩ := mT (w := w) h1 (hT x (by simp [Op.operands]))
  exact bM (dZ e1) (pureK _ rfl e2)
 case makeInterface t x =>
  obtain ⟨h1, rfl⟩ := cA h
  obtain ⟨v, e1, e2⟩ := lL (w := w) h1 (hT x (by simp [Op.operands]))
  exact bM (dZ e1) (pureK _ rfl e2)
 case makeFunc fn first captured =>
  split at h
  case h_2 => cases h
  rename_i f
  split at h
  case h_2 => cases h
  rename_i hfi
  simp only [Option.some.injEq, Prod.mk.injEq] at h
  obtain ⟨rfl, rfl⟩ := h
  have hf0 : first = #[] := by apply Array.ext'; simpa using hfi
  subst hf0
  have hr := gX (c := c) (T := T) (ρ := a.eval) captured.toList (fun x hx => hT x (by simp [Op.operands]; simpa using hx))
  refine bM (v := .func (.func f) #[] (captured.toList.map a.eval).toArray) ?_ (pureK _ rfl (.fn hr.1 hr.2))
  simp only [execOp, Instr.makeFunc]
  have : captured.map a.eval = (captured.toList.map a.eval).toArray := by apply Array.ext'; simp
  rw [this]
  simp
 case makeSlice t x y =>
  obtain ⟨v, w', c', e1, e2⟩ := iK h hg hH (hn (lU h)) (hT x (by simp [Op.operands])) (hT y (by simp [Op.operands]))
  exact bM (dZ e1) (madeK _ _ _ e2)
 case slice t x lo hi mx =>
  cases mx with
  | some m => cases h
  | none =>
   obtain ⟨h1, rfl⟩ := cA h
   obtain ⟨v, e1, e2⟩ := mE (w := w) (vlo := lo.map a.eval) (vhi := hi.map a.eval) h1 (hT x (by simp [Op.operands]))
    (fun y hy => by
     obtain ⟨l, rfl, rfl⟩ := Option.map_eq_some_iff.1 hy
     exact ⟨_, rfl, hT l (by simp [Op.operands])⟩) (fun hy => by simpa using hy)
    (fun y hy => by
     obtain ⟨l, rfl, rfl⟩ := Option.map_eq_some_iff.1 hy
     exact ⟨_, rfl, hT l (by simp [Op.operands])⟩) (fun hy => by simpa using hy)
   exact bM (dZ e1) (pureK _ rfl e2)
 case fieldAddr t x f =>
  obtain ⟨h1, rfl⟩ := cA h
  obtain ⟨v, e1, e2⟩ := iD (w := w) h1 (hT x (by simp [Op.operands]))
  exact bM (dZ e1) (pureK _ rfl e2)
 case field t x f =>
  obtain ⟨h1, rfl⟩ := cA h
  obtain ⟨v, e1, e2⟩ := lF (w := w) h1 (hT x (by simp [Op.operands]))
  exact bM (dZ e1) (pureK _ rfl e2)
 case indexAddr t x i =>
  obtain ⟨h1, rfl⟩ := cA h
  obtain ⟨v, e1, e2⟩ := iH (w := w) h1 (hT x (by simp [Op.operands])) (hT i (by simp [Op.operands]))
  exact bM (dZ e1) (pureK _ rfl e2)
 case index t x i =>
  obtain ⟨h1, rfl⟩ := cA h
  obtain ⟨v, e1, e2⟩ := lM (w := w) h1 (hT x (by simp [Op.operands])) (hT i (by simp [Op.operands]))
  exact bM (dZ e1) (pureK _ rfl e2)
 case typeAssert x xt t ok =>
  obtain ⟨h1, rfl⟩ := cA h
  obtain ⟨v, e1, e2⟩ := kH (w := w) (xt := xt) h1 (hT x (by simp [Op.operands]))
  exact bM (dZ e1) (pureK _ rfl e2)
 case extract x i =>
  obtain ⟨h1, rfl⟩ := cA h
  obtain ⟨v, e1, e2⟩ := jK (P := P) (w := w) h1 (hT x (by simp [Op.operands]))
  exact bM (dZ e1) (pureK _ rfl e2)
 case call cl =>
  obtain ⟨callee, args, ats⟩ := cl
  have harg : ∀ x ∈ args.toList, Rel c (eZ T x) (a.eval x) := fun x hx => hT x (by simp [Op.operands, Call.operands]; right; simpa using hx)
  have hbi : ∀ (b : Builtin) (s : Sem Value) (v : Value) (w' : World), callee = .builtin b → (∀ cs, builtin b ats type cs (args.map a.eval) = (do pure (.value (← s)))) → s.run P w = .ok v w' →
    (execOp a.eval (Oper.mk dst (.call ⟨callee, args, ats⟩) type pos after guard)).run P w = .ok (.value v) w' := by
   intro b s v w' hb hs hr
   subst hb
   simp [execOp, resolve, invoke, hs, hr]
  simp only at h
  split at h
  ·
   split at h
   case h_2 => cases h
   rename_i t x ht hx
   obtain ⟨h1, rfl⟩ := cA h
   have ht' : ats = #[t] := by apply Array.ext'; simpa using ht
   have hx' : args = #[x] := by apply Array.ext'; simpa using hx
   subst ht' hx'
   obtain ⟨v, e1, e2⟩ := pD (w := w) (ty := type) h1 (harg x (by simp))
   exact bM (hbi .len _ v w rfl (fun _ => rfl) (by simpa using e1)) (pureK _ rfl e2)
  ·
   split at h
   case h_2 => cases h
   rename_i s x hx
   have hx' : args = #[s, x] := by apply Array.ext'; simpa using hx
   subst hx'
   obtain ⟨v, w', c', e1, e2⟩ := qN (ty := type) h hg hH (harg s (by simp)) (harg x (by simp))
   refine bM (hbi .append _ v w' rfl (fun _ => rfl) (by simpa using e1)) (K v w' c' ⟨e2.step, e2.good, e2.heap, e2.rel, fun hdm b hb => ?_⟩ (fun hw => by simp [dA] at hw))
   rw [jF h]
   exact hdm b (e2.dom b hb)
  ·
   split at h
   case h_2 => cases h
   rename_i s x hx
   have hx' : args = #[s, x] := by apply Array.ext'; simpa using hx
   subst hx'
   obtain ⟨v, w', e1, e2⟩ := tO (ty := type) h hg hH (harg s (by simp)) (harg x (by simp))
   refine bM (hbi .copy _ v w' rfl (fun _ => rfl) (by simpa using e1)) (K v w' c ⟨e2.step, e2.good, e2.heap, e2.rel, fun hdm b hb => ?_⟩ (fun hw => by simp [dA] at hw))
   rw [lE h]
   exact hdm b hb
  ·
   split at h
   case h_2 => cases h
   rename_i s hx
   have hx' : args = #[s] := by apply Array.ext'; simpa using hx
   subst hx'
   obtain ⟨v, w', e1, e2⟩ := sE (ty := type) h hg hH (harg s (by simp))
   refine bM (hbi .clear _ v w' rfl (fun _ => rfl) (by simpa using e1)) (K v w' c ⟨e2.step, e2.good, e2.heap, e2.rel, fun hdm b hb => ?_⟩ (fun hw => by simp [dA] at hw))
   rw [kI h]
   exact hdm b hb
  ·
   split at h
   case h_2 => cases h
   rename_i x l hx
   obtain ⟨h1, rfl⟩ := cA h
   have hrel := gX (c := c) (T := T) (ρ := a.eval) l (fun y hy => harg y (by rw [hx]; simp [hy]))
   obtain ⟨v, e1, e2⟩ := gN (P := P) (g := Builtin.min2) (w := w) (fun x y r vx vy hf h1 h2 => mY hf h1 h2) _ _ _ _ _ h1 (harg x (by rw [hx]; simp)) hrel
   refine bM (hbi .min _ v w rfl (fun _ => rfl) ?_) (pureK _ rfl e2)
   simpa [Builtin.min_, hx] using e1
  ·
   split at h
   case h_2 => cases h
   rename_i x l hx
   obtain ⟨h1, rfl⟩ := cA h
   have hrel := gX (c := c) (T := T) (ρ := a.eval) l (fun y hy => harg y (by rw [hx]; simp [hy]))
   obtain ⟨v, e1, e2⟩ := gN (P := P) (g := Builtin.max2) (w := w) (fun x y r vx vy hf h1 h2 => mX hf h1 h2) _ _ _ _ _ h1 (harg x (by rw [hx]; simp)) hrel
   refine bM (hbi .max _ v w rfl (fun _ => rfl) ?_) (pureK _ rfl e2)
   simpa [Builtin.max_, hx] using e1
  ·
   rename_i f
   have hf := hT f (by simp [Op.operands, Call.operands])
   obtain ⟨h, hpf⟩ : lC E (eZ T f) (args.toList.map (eZ T)) H = some (r, H') ∧ (mO ann f = true → ∃ fid caps, eZ T f = .fn fid caps ∧ cL E fid = true) := by
    split at h
    ·obtain ⟨a, b⟩ := lA h
     exact ⟨a, fun _ => b⟩
    ·rename_i hp
     exact ⟨h, fun q => by rw [q] at hp; cases hp⟩
   unfold lC at h
   split at h
   case h_2 => cases h
   rename_i fid caps hfc
   rw [hfc] at hf
   obtain ⟨vs, hv, hr⟩ := hf.of_fn
   have hrel := gX (c := c) (T := T) (ρ := a.eval) args.toList harg
   have hall : fC c (args.toList.map (eZ T) ++ caps) (args.toList.map a.eval ++ vs) := by
    refine ⟨by simp [hr.1], fun i x v h1 h2 => ?_⟩
    by_cases hi : i < args.toList.length
    ·rw [List.getElem?_append_left (by simpa using hi)] at h1 h2
     exact hrel.2 _ _ _ h1 h2
    ·rw [List.getElem?_append_right (by simp at hi ⊢; omega)] at h1 h2
     simp only [List.length_map] at h1 h2
     exact hr.2 _ _ _ h1 h2
   have hdm : cL E fid = false → rR c H := by
    intro hp
    refine hd ?_
    simp only [dA]
    cases f with
    | func g =>
     simp [eZ] at hfc
     obtain ⟨rfl, rfl⟩ := hfc
     simp [hp]
    | tmp t =>
     cases hq : mO ann (.tmp t) with
     | false => simp [hq]
     | true =>
      obtain ⟨_, _, e, e2⟩ := hpf hq
      rw [hfc] at e
      cases e
      rw [hp] at e2; cases e2
    | const _ => rfl
    | global _ => rfl
   obtain ⟨hhere, wN⟩ := tJ hE h hg hH hdm hall
   refine vE (f := fid) (args := (args.toList.map a.eval ++ vs).toArray) ?_ wN ?_
   ·simp [execOp, resolve, hv, Deferred.ofValue, invoke]
    have := sS (w := w) hhere (args.map a.eval ++ vs.toArray)
    rw [this]
    congr 2
    apply Array.ext'
    simp
   ·intro v w' ⟨c', h1, h2⟩
    refine K v w' c' h1 (fun hw => h2 ?_)
    simp only [dA] at hw
    cases f with
    | func g =>
     simp [eZ] at hfc
     obtain ⟨rfl, rfl⟩ := hfc
     simpa using hw
    | tmp t =>
     obtain ⟨_, _, e, e2⟩ := hpf (by simpa using hw)
     rw [hfc] at e
     cases e
     exact e2
    | const _ => simp [mO] at hw
    | global _ => simp [mO] at hw
  ·cases h
theorem lZ {P : Program} {G : aC} {E : jD} {ann : Ann} {o : Oper} {T : Nat → AV} {H H' : aB} {r : AV} (ht : eG ann o = false) (h : pM P G E ann o T H = some (r, H')) :
  H' = H ∧ ∀ (c : Ctx) (w : World) (a : Act), Good G c w → (∀ x ∈ o.op.operands, Rel c (eZ T x) (a.eval x)) → ∃ v, (execOp a.eval o).run P w = .ok (.value v) w ∧ Rel c r v := by
 obtain ⟨dst, op, type, pos, after, guard⟩ := o
 have moveK : ∀ x, (op = .move x ∨ op = .assign x) → eG ann ⟨dst, op, type, pos, after, guard⟩ = (iS x && mL ann dst) → kK P ann ⟨dst, op, type, pos, after, guard⟩ x T H = some (r, H') →
   H' = H ∧ ∀ (c : Ctx) (w : World) (a : Act), Good G c w → (∀ x ∈ op.operands, Rel c (eZ T x) (a.eval x)) → ∃ v, (execOp a.eval (Oper.mk dst op type pos after guard)).run P w = .ok (.value v) w ∧ Rel c r v := by
  intro x hx he hm
  rw [ht] at he
  unfold kK at hm
  simp only [← he] at hm
  simp only [Option.some.injEq, Prod.mk.injEq] at hm
  obtain ⟨rfl, rfl⟩ := hm
  refine ⟨rfl, fun c w a hg hT => ⟨a.eval x, ?_, hT x (by rcases hx with rfl | rfl <;> simp [Op.operands])⟩⟩
  rcases hx with rfl | rfl <;> rfl
 cases op <;> simp only [pM] at h <;> try (cases h; done)
 case move x => exact moveK x (.inl rfl) rfl h
 case assign x => exact moveK x (.inr rfl) rfl h
 case pick cc x y =>
  obtain ⟨h1, rfl⟩ := cA h
  refine ⟨rfl, fun c w a hg hT => ?_⟩
  have r1 := hT cc (by simp [Op.operands]); have r2 := hT x (by simp [Op.operands]); have r3 := hT y (by simp [Op.operands])
  unfold dE at h1
  split at h1
  case h_2 => cases h1
  rename_i b hb
  rw [hb] at r1
  have e1 := r1.of_bool
  simp at h1; subst h1
  refine ⟨if b then a.eval x else a.eval y, ?_, ?_⟩
  ·simp [execOp, e1, asBool]
  ·cases b <;> simpa
 case alloc t => cases ht
 case box t x => cases ht
 case build t parts =>
  obtain ⟨h1, rfl⟩ := cA h
  refine ⟨rfl, fun c w a hg hT => ?_⟩
  have hp := mM (c := c) (T := T) (ρ := a.eval) parts (fun p hp => hT p.2 (by simpa [Op.operands] using ⟨p.1, by simpa using hp⟩))
  obtain ⟨v, e1, e2⟩ := kY h1 (w := w) hp
  exact ⟨v, dZ e1, e2⟩
 case buildSlice t len parts => cases ht
 case load t x =>
  cases x with
  | tmp _ => cases ht
  | const _ => cases ht
  | func _ => cases ht
  | global g =>
   obtain ⟨h1, rfl⟩ := cA h
   refine ⟨rfl, fun c w a hg hT => ?_⟩
   unfold jO at h1
   split at h1
   case h_2 => cases h1
   rename_i gg s hag hsz
   simp only [eZ, aE] at h1
   split at h1
   ·cases h1
   obtain ⟨v, e1, e2⟩ := hg.glob _ _ h1
   have := hg.holds _ _ (hg.MB _ _ e1)
   refine ⟨v, dZ ?_, e2⟩
   simp [Instr.loadAt, Act.eval, Instr.sureAddr, loadVar, gT hag, this]
 case store t x y => cases ht
 case nilCheck x =>
  obtain ⟨h1, rfl⟩ := cA h
  refine ⟨rfl, fun c w a hg hT => ?_⟩
  obtain ⟨rfl, hv⟩ := pJ h1 (hT x (by simp [Op.operands]))
  refine ⟨a.eval x, ?_, hT x (by simp [Op.operands])⟩
  rcases hv with ⟨ad, hv⟩ | ⟨f, cs, hv⟩ <;> simp [execOp, hv]
 case binOp bop t x y yt =>
  obtain ⟨h1, rfl⟩ := cA h
  refine ⟨rfl, fun c w a hg hT => ?_⟩
  obtain ⟨v, e1, e2⟩ := qT h1 hg (hT x (by simp [Op.operands])) (hT y (by simp [Op.operands])) x y (fun h => h)
  exact ⟨v, dZ e1, e2⟩
 case unOp uop t x =>
  obtain ⟨h1, rfl⟩ := cA h
  refine ⟨rfl, fun c w a hg hT => ?_⟩
  obtain ⟨v, e1, e2⟩ := vA (P := P) (w := w) h1 (hT x (by simp [Op.operands]))
  exact ⟨v, dZ e1, e2⟩
 case convert sT dT x =>
  obtain ⟨h1, rfl⟩ := cA h
  refine ⟨rfl, fun c w a hg hT => ?_⟩
  obtain ⟨v, e1, e2⟩ := mT (w := w) h1 (hT x (by simp [Op.operands]))
  exact ⟨v, dZ e1, e2⟩
 case makeInterface t x =>
  obtain ⟨h1, rfl⟩ := cA h
  refine ⟨rfl, fun c w a hg hT => ?_⟩
  obtain ⟨v, e1, e2⟩ := lL (w := w) h1 (hT x (by simp [Op.operands]))
  exact ⟨v, dZ e1, e2⟩
 case makeFunc fn first captured =>
  cases fn <;> simp only at h <;> try (cases h; done)
  rename_i f
  split at h
  case h_2 => cases h
  rename_i hfi
  simp only [Option.some.injEq, Prod.mk.injEq] at h
  obtain ⟨rfl, rfl⟩ := h
  refine ⟨rfl, fun c w a hg hT => ?_⟩
  have hf0 : first = #[] := by apply Array.ext'; simpa using hfi
  subst hf0
  have hr := gX (c := c) (T := T) (ρ := a.eval) captured.toList (fun x hx => hT x (by simp [Op.operands]; simpa using hx))
  refine ⟨.func (.func f) #[] (captured.toList.map a.eval).toArray, ?_, .fn hr.1 hr.2⟩
  simp only [execOp, Instr.makeFunc]
  have : captured.map a.eval = (captured.toList.map a.eval).toArray := by apply Array.ext'; simp
  rw [this]
  simp
 case makeSlice t x y => cases ht
 case slice t x lo hi mx =>
  cases mx with
  | some m => cases h
  | none =>
   obtain ⟨h1, rfl⟩ := cA h
   refine ⟨rfl, fun c w a hg hT => ?_⟩
   obtain ⟨v, e1, e2⟩ := mE (w := w) (vlo := lo.map a.eval) (vhi := hi.map a.eval) h1 (hT x (by simp [Op.operands]))
    (fun y hy => by
     obtain ⟨l, rfl, rfl⟩ := Option.map_eq_some_iff.1 hy
     exact ⟨_, rfl, hT l (by simp [Op.operands])⟩) (fun hy => by simpa using hy)
    (fun y hy => by
     obtain ⟨l, rfl, rfl⟩ := Option.map_eq_some_iff.1 hy
     exact ⟨_, rfl, hT l (by simp [Op.operands])⟩) (fun hy => by simpa using hy)
   exact ⟨v, dZ e1, e2⟩
 case fieldAddr t x f =>
  obtain ⟨h1, rfl⟩ := cA h
  refine ⟨rfl, fun c w a hg hT => ?_⟩
  obtain ⟨v, e1, e2⟩ := iD (w := w) h1 (hT x (by simp [Op.operands]))
  exact ⟨v, dZ e1, e2⟩
 case field t x f =>
  obtain ⟨h1, rfl⟩ := cA h
  refine ⟨rfl, fun c w a hg hT => ?_⟩
  obtain ⟨v, e1, e2⟩ := lF (w := w) h1 (hT x (by simp [Op.operands]))
  exact ⟨v, dZ e1, e2⟩
 case indexAddr t x i =>
  obtain ⟨h1, rfl⟩ := cA h
  refine ⟨rfl, fun c w a hg hT => ?_⟩
  obtain ⟨v, e1, e2⟩ := iH (w := w) h1 (hT x (by simp [Op.operands])) (hT i (by simp [Op.operands]))
  exact ⟨v, dZ e1, e2⟩
 case index t x i =>
  obtain ⟨h1, rfl⟩ := cA h
  refine ⟨rfl, fun c w a hg hT => ?_⟩
  obtain ⟨v, e1, e2⟩ := lM (w := w) h1 (hT x (by simp [Op.operands])) (hT i (by simp [Op.operands]))
  exact ⟨v, dZ e1, e2⟩
 case typeAssert x xt t ok =>
  obtain ⟨h1, rfl⟩ := cA h
  refine ⟨rfl, fun c w a hg hT => ?_⟩
  obtain ⟨v, e1, e2⟩ := kH (w := w) (xt := xt) h1 (hT x (by simp [Op.operands]))
  exact ⟨v, dZ e1, e2⟩
 case extract x i =>
  obtain ⟨h1, rfl⟩ := cA h
  refine ⟨rfl, fun c w a hg hT => ?_⟩
  obtain ⟨v, e1, e2⟩ := jK (P := P) (w := w) h1 (hT x (by simp [Op.operands]))
  exact ⟨v, dZ e1, e2⟩
 case call cl =>
  obtain ⟨callee, args, ats⟩ := cl
  have hbi : ∀ (a : Act) (w : World) (b : Builtin) (s : Sem Value) (v : Value) (w' : World), callee = .builtin b → (∀ cs, builtin b ats type cs (args.map a.eval) = (do pure (.value (← s)))) → s.run P w = .ok v w' →
    (execOp a.eval (Oper.mk dst (.call ⟨callee, args, ats⟩) type pos after guard)).run P w = .ok (.value v) w' := by
   intro a w b s v w' hb hs hr
   subst hb
   simp [execOp, resolve, invoke, hs, hr]
  cases callee with
  | value f => cases ht
  | invoke rv m => cases h
  | builtin b =>
  cases b <;> simp only at h <;> (first | (cases h; done) | (cases ht; done) | skip)
  case len =>
   split at h
   case h_2 => cases h
   rename_i t x ht' hx
   obtain ⟨h1, rfl⟩ := cA h
   refine ⟨rfl, fun c w a hg hT => ?_⟩
   have harg : ∀ x ∈ args.toList, Rel c (eZ T x) (a.eval x) := fun x hx => hT x (by simp [Op.operands, Call.operands]; simpa using hx)
   have ht' : ats = #[t] := by apply Array.ext'; simpa using ht'
   have hx' : args = #[x] := by apply Array.ext'; simpa using hx
   subst ht' hx'
   obtain ⟨v, e1, e2⟩ := pD (w := w) (ty := type) h1 (harg x (by simp))
   exact ⟨v, hbi a w .len _ v w rfl (fun _ => rfl) (by simpa using e1), e2⟩
  case min =>
   split at h
   case h_2 => cases h
   rename_i x l hx
   obtain ⟨h1, rfl⟩ := cA h
   refine ⟨rfl, fun c w a hg hT => ?_⟩
   have harg : ∀ x ∈ args.toList, Rel c (eZ T x) (a.eval x) := fun x hx => hT x (by simp [Op.operands, Call.operands]; simpa using hx)
   have hrel := gX (c := c) (T := T) (ρ := a.eval) l (fun y hy => harg y (by rw [hx]; simp [hy]))
   obtain ⟨v, e1, e2⟩ := gN (P := P) (g := Builtin.min2) (w := w) (fun x y r vx vy hf h1 h2 => mY hf h1 h2) _ _ _ _ _ h1 (harg x (by rw [hx]; simp)) hrel
   refine ⟨v, hbi a w .min _ v w rfl (fun _ => rfl) ?_, e2⟩
   simpa [Builtin.min_, hx] using e1
  case max =>
   split at h
   case h_2 => cases h
   rename_i x l hx
   obtain ⟨h1, rfl⟩ := cA h
   refine ⟨rfl, fun c w a hg hT => ?_⟩
   have harg : ∀ x ∈ args.toList, Rel c (eZ T x) (a.eval x) := fun x hx => hT x (by simp [Op.operands, Call.operands]; simpa using hx)
   have hrel := gX (c := c) (T := T) (ρ := a.eval) l (fun y hy => harg y (by rw [hx]; simp [hy]))
   obtain ⟨v, e1, e2⟩ := gN (P := P) (g := Builtin.max2) (w := w) (fun x y r vx vy hf h1 h2 => mX hf h1 h2) _ _ _ _ _ h1 (harg x (by rw [hx]; simp)) hrel
   refine ⟨v, hbi a w .max _ v w rfl (fun _ => rfl) ?_, e2⟩
   simpa [Builtin.max_, hx] using e1
theorem sO {P : Program} {G : aC} {E : jD} {ann : Ann} {o : Oper} {T : Nat → AV} {H H' : aB} {r : AV} (hw : dA ann (cL E) o = false) (h : pM P G E ann o T H = some (r, H')) :
  H' = H ∨ ∃ blk, H' = H ++ [blk] := by
 by_cases ht : eG ann o = false
 ·exact .inl (lZ ht h).1
 obtain ⟨dst, op, type, pos, after, guard⟩ := o
 have moveK : ∀ (o : Oper) x, kK P ann o x T H = some (r, H') → H' = H ∨ ∃ blk, H' = H ++ [blk] := by
  intro o x hm
  unfold kK uJ at hm
  (repeat' split at hm) <;> first | (cases hm; done) | (simp only [Option.some.injEq, Prod.mk.injEq] at hm; obtain ⟨_, rfl⟩ := hm; first | exact .inl rfl | exact .inr ⟨_, rfl⟩)
 cases op <;> simp only [pM] at h <;> try (cases h; done)
 case move x => exact moveK _ x h
 case assign x => exact moveK _ x h
 case alloc t =>
  unfold oL cY at h
  (repeat' split at h) <;> first | (cases h; done) | (simp only [Option.some.injEq, Prod.mk.injEq] at h; obtain ⟨_, rfl⟩ := h; exact .inr ⟨_, rfl⟩)
 case box t x =>
  unfold cY bN at h
  (repeat' split at h) <;> first | (cases h; done) | (simp only [Option.some.injEq, Prod.mk.injEq] at h; obtain ⟨_, rfl⟩ := h; first | exact .inl rfl | exact .inr ⟨_, rfl⟩)
 case buildSlice t len parts =>
  unfold hJ bJ bK at h
  (repeat' split at h) <;> first | (cases h; done) | (simp only [Option.some.injEq, Prod.mk.injEq] at h; obtain ⟨_, rfl⟩ := h; first | exact .inl rfl | exact .inr ⟨_, rfl⟩)
 case makeSlice t x y =>
  unfold dV fV at h
  (repeat' split at h) <;> first | (cases h; done) | (simp only [Option.some.injEq, Prod.mk.injEq] at h; obtain ⟨_, rfl⟩ := h; exact .inr ⟨_, rfl⟩)
 case store t x y => cases hw
 case makeFunc fn first captured =>
  cases fn <;> simp only at h <;> try (cases h; done)
  split at h
  ·simp only [Option.some.injEq, Prod.mk.injEq] at h; exact .inl h.2.symm
  ·cases h
 case slice t x lo hi mx =>
  cases mx with
  | some m => cases h
  | none => exact .inl (cA h).2
 case call cl =>
  obtain ⟨callee, args, ats⟩ := cl
  cases callee with
  | invoke rv m => cases h
  | builtin b =>
   cases b <;> simp only at h <;> (first | (cases h; done) | (cases hw; done) | skip)
   all_goals
    split at h
    ·exact .inl (cA h).2
    ·cases h
  | value f =>
   simp only at h
   split at h
   ·unfold sD at h
    split at h
    case h_2 => cases h
    split at h
    case h_2 => cases h
    split at h
    ·unfold aN at h
     (repeat' split at h) <;> first | (cases h; done) | (simp only [Option.some.injEq, Prod.mk.injEq] at h; exact .inl h.2.symm)
    ·cases h
   rename_i hpa
   unfold lC at h
   split at h
   case h_2 => cases h
   rename_i fid caps hfc
   cases f with
   | tmp _ => simp [dA, hpa] at hw
   | const _ => cases hw
   | global _ => cases hw
   | func g =>
    simp [eZ] at hfc
    obtain ⟨rfl, rfl⟩ := hfc
    simp only [dA] at hw
    unfold qU at h
    split at h
    ·unfold aN at h
     (repeat' split at h) <;> first | (cases h; done) | (simp only [Option.some.injEq, Prod.mk.injEq] at h; exact .inl h.2.symm)
    ·rename_i hf; simp [cL, hf] at hw
    ·cases h
 all_goals exact .inl (cA h).2
abbrev TS := Nat → AV
def gd (g : AV) (want : Bool) (H : aB) (m : Option (AV × aB)) : Option (AV × aB) :=
 match g with
 | .bool b => match b == want with
  | true => m
  | false => some (.tup [], H)
 | .tup [] => some (.tup [], H)
 | _ => none
def fA (ops : Array Oper) (j : Nat) : Option Tmp := (ops[j]?).bind (·.dst)
def fZ (P : Program) (G : aC) (E : jD) (ann : Ann) (ops : Array Oper) (o : Oper) (T : TS) (H : aB) : Option (AV × aB) :=
 match o.guard with
 | none => pM P G E ann o T H
 | some (j, want) => match fA ops j with
  | some d => gd (T d) want H (pM P G E ann o T H)
  | none => none
def aD {γ : Type} (m : Option (AV × aB)) (k : AV → aB → Option γ) : Option γ :=
 match m with
 | some (v, H) => k v H
 | none => none
def nP (T : TS) (d : Option Tmp) (v : AV) : TS :=
 match d with
 | some d => fun t => if t = d then v else T t
 | none => T
def gQ {γ : Type} (P : Program) (G : aC) (E : jD) (ann : Ann) (ops : Array Oper) : List Oper → (TS → aB → Option γ) → TS → aB → Option γ
 | [], K, T, H => K T H
 | o :: l, K, T, H => aD (fZ P G E ann ops o T H) fun v H' => gQ P G E ann ops l K (nP T o.dst v) H'
structure St (G : aC) (c0 : Ctx) (w0 : World) (N B : Nat) (T : TS) (H : aB) (c : Ctx) (a : Act) (w : World) : Prop where
 good : Good G c w
 heap : HeapAt c H w
 dom : rR c H
 step : Step c0 w0 c w
 tmps : ∀ t, Rel c (T t) (a.tmps.getD t undef)
 size : a.tmps.size = N
 defers : a.defers = []
 low : B ≤ H.length
theorem sR {c : Ctx} {T : TS} {a : Act} {x : Operand} (h : ∀ t, x = .tmp t → Rel c (T t) (a.tmps.getD t undef)) : Rel c (eZ T x) (a.eval x) := by
 cases x with
 | tmp t => exact h t rfl
 | const v => exact kE c v
 | global g => exact .gl g
 | func f => exact .fn (vs := []) rfl (by simp)
theorem fP (c : Ctx) : Rel c (.tup []) undef := .tup (vs := []) rfl (by simp)
theorem lG {g : AV} {want : Bool} {H H' : aB} {m : Option (AV × aB)} {v : AV} (h : gd g want H m = some (v, H')) :
  (g = .bool want ∧ m = some (v, H')) ∨ ((g = .bool (!want) ∨ g = .tup []) ∧ v = .tup [] ∧ H' = H) := by
 unfold gd at h
 split at h
 ·rename_i b
  split at h
  ·rename_i hb; simp at hb; subst hb; exact .inl ⟨rfl, h⟩
  ·rename_i hb
   simp only [Option.some.injEq, Prod.mk.injEq] at h
   refine .inr ⟨.inl ?_, h.1.symm, h.2.symm⟩
   cases b <;> cases want <;> simp_all
 ·simp only [Option.some.injEq, Prod.mk.injEq] at h
  exact .inr ⟨.inr rfl, h.1.symm, h.2.symm⟩
 ·cases h
theorem rA {a : Array Value} {t : Nat} {b : Bool} (h : a.getD t undef = .bool b) : a[t]? = some (.bool b) := by
 by_cases ht : t < a.size
 ·rw [Array.getElem?_eq_getElem ht]
  simp [Array.getD, ht] at h
  rw [h]
 ·simp [Array.getD, ht, undef] at h
theorem kL {P : Program} {G : aC} {E : jD} {ann : Ann} {ops : Array Oper} {o : Oper} {T : TS} {H H' : aB} {v : AV} (h : fZ P G E ann ops o T H = some (v, H'))
  {c : Ctx} {a : Act} (hT : ∀ j want d, o.guard = some (j, want) → fA ops j = some d → Rel c (T d) (a.tmps.getD d undef)) :
  (Region.wanted o (yielded ops a.tmps) = true ∧ pM P G E ann o T H = some (v, H')) ∨ (Region.wanted o (yielded ops a.tmps) = false ∧ v = .tup [] ∧ H' = H) := by
 unfold fZ at h
 split at h
 ·rename_i hg
  exact .inl ⟨by simp [Region.wanted, hg], h⟩
 ·rename_i j want hg
  split at h
  case h_2 => cases h
  rename_i d hd
  have hr := hT j want d hg hd
  have hd' : (ops[j]?).bind (·.dst) = some d := hd
  rcases lG h with ⟨e1, e2⟩ | ⟨e1 | e1, e2, e3⟩
  ·rw [e1] at hr
   have := rA hr.of_bool
   exact .inl ⟨by simp [Region.wanted, hg, yielded, hd', this], e2⟩
  ·rw [e1] at hr
   have := rA hr.of_bool
   exact .inr ⟨by simp [Region.wanted, hg, yielded, hd', this], e2, e3⟩
  ·rw [e1] at hr
   obtain ⟨vs, hv, hrl⟩ := hr.of_tup
   have hvs : vs = [] := List.eq_nil_of_length_eq_zero hrl.1.symm
   subst hvs
   refine .inr ⟨?_, e2, e3⟩
   have hy : yielded ops a.tmps j = none := by
    simp only [yielded, hd', Option.bind_some]
    by_cases hlt : d < a.tmps.size
    ·have : a.tmps[d]? = some (.tuple #[]) := by
      rw [Array.getElem?_eq_getElem hlt]
      simp [Array.getD, hlt] at hv
      rw [hv]
     rw [this]
    ·simp [Array.getElem?_eq_none (Nat.le_of_not_lt hlt)]
   simp [Region.wanted, hg, hy]
theorem jU (a : Act) (d : Option Tmp) (v : Value) : (a.put d v).tmps.size = a.tmps.size := by cases d <;> simp [Act.put]
theorem gW (a : Act) (d : Option Tmp) (v : Value) : (a.put d v).defers = a.defers := by cases d <;> rfl
theorem uP (a : Act) (d : Option Tmp) (v : Value) (h : ∀ t, d = some t → t < a.tmps.size) (t : Nat) : (a.put d v).tmps.getD t undef = if d = some t then v else a.tmps.getD t undef := by
 cases d with
 | none => simp [Act.put]
 | some d =>
  have hd := h d rfl
  by_cases e : d = t
  ·subst e; simp [Act.put, Array.getD, hd]
  ·simp [Act.put, Array.getD_eq_getD_getElem?, Array.getElem?_setIfInBounds_ne e, e]
theorem wR {P : Program} {G : aC} {E : jD} {ann : Ann} {o : Oper} {T : TS} {H H' : aB} {r : AV} (hop : pM P G E ann o T H = some (r, H')) : H.length ≤ H'.length := by
 by_cases hw : dA ann (cL E) o = false
 ·rcases sO hw hop with rfl | ⟨blk, rfl⟩
  ·exact Nat.le_refl _
  ·simp
 ·obtain ⟨dst, op, type, pos, after, guard⟩ := o
  cases op <;> first | (exact absurd rfl hw) | skip
  case store t x y =>
   simp only [pM] at hop
   split at hop
   ·rename_i H1 h1
    simp only [Option.some.injEq, Prod.mk.injEq] at hop
    obtain ⟨_, rfl⟩ := hop
    rw [iB h1]; exact Nat.le_refl _
   ·cases hop
  case call cl =>
   obtain ⟨callee, args, ats⟩ := cl
   cases callee with
   | invoke rv m => simp [pM] at hop
   | builtin b =>
    cases b <;> first | (exact absurd rfl hw) | skip
    ·simp only [pM] at hop
     split at hop
     ·rw [jF hop]; exact Nat.le_refl _
     ·cases hop
    ·simp only [pM] at hop
     split at hop
     ·rw [kI hop]; exact Nat.le_refl _
     ·cases hop
    ·simp only [pM] at hop
     split at hop
     ·rw [lE hop]; exact Nat.le_refl _
     ·cases hop
   | value f =>
    simp only [pM] at hop
    have hop : lC E (eZ T f) (args.toList.map (eZ T)) H = some (r, H') := by
     split at hop
     ·exact (lA hop).1
     ·exact hop
    unfold lC at hop
    split at hop
    case h_2 => cases hop
    unfold qU at hop
    split at hop
    ·unfold aN at hop
     (repeat' split at hop) <;> first | (cases hop; done) | (simp only [Option.some.injEq, Prod.mk.injEq] at hop; obtain ⟨_, rfl⟩ := hop; exact Nat.le_refl _)
    ·unfold eW at hop
     split at hop
     ·split at hop
      ·rename_i hl
       simp only [Option.some.injEq, Prod.mk.injEq] at hop; obtain ⟨_, rfl⟩ := hop; exact hl
      ·cases hop
     ·cases hop
    ·cases hop
theorem qB {P : Program} {G : aC} {E : jD} {ann : Ann} {ops : Array Oper} {o : Oper} {T : TS} {H H' : aB} {r : AV} (hs : fZ P G E ann ops o T H = some (r, H')) : H.length ≤ H'.length := by
 unfold fZ at hs
 split at hs
 ·exact wR hs
 ·split at hs
  ·rcases lG hs with ⟨_, e⟩ | ⟨_, _, e⟩
   ·exact wR e
   ·rw [e]; exact Nat.le_refl _
  ·cases hs
theorem uL {P : Program} {G : aC} {E : jD} {ann : Ann} (hE : EnvSound P G E) {γ : Type} {ops : Array Oper} {K : TS → aB → Option γ} {out : γ} {c0 : Ctx} {w0 : World} {N B : Nat} {Q : Exit → Act → World → Prop}
  (hdst : ∀ (i : Nat) (o : Oper) (t : Nat), ops[i]? = some o → o.dst = some t → t < N)
  (hQ : ∀ T H c a w, K T H = some out → St G c0 w0 N B T H c a w → Q .normal a w) :
  ∀ (l : List Oper) (k : Nat), (∀ j, l[j]? = ops[k + j]?) → ∀ (T : TS) (H : aB) (c : Ctx) (a : Act) (w : World), gQ P G E ann ops l K T H = some out → St G c0 w0 N B T H c a w →
   wpOps P ops Q (List.range' k l.length) a w
 | [], k, hl, T, H, c, a, w, hr, hs => by
  simp only [List.length_nil, List.range'_zero, wpOps]
  exact hQ T H c a w hr hs
 | o :: l, k, hl, T, H, c, a, w, hr, hs => by
  have h0 : ops[k]? = some o := by simpa using (hl 0).symm
  simp only [List.length_cons, List.range'_succ]
  rw [wpOps_cons]
  unfold wpOp
  simp only [h0]
  simp only [gQ, aD] at hr
  split at hr
  case h_2 => cases hr
  rename_i v H' hst
  have next : ∀ u w' c', Step c w c' w' → Good G c' w' → HeapAt c' H' w' → rR c' H' → Rel c' v u → wpOps P ops Q (List.range' (k + 1) l.length) (a.put o.dst u) w' := by
   intro u w' c' h1 h2 h3 h4 h5
   refine uL hE hdst hQ l (k + 1) (fun j => by have := hl (j + 1); simpa [Nat.add_assoc, Nat.add_comm 1 j] using this) _ H' c' _ w' hr ⟨h2, h3, h4, hs.step.trans h1, fun t => ?_, by rw [jU]; exact hs.size, by rw [gW]; exact hs.defers, Nat.le_trans hs.low (qB hst)⟩
   rw [uP a o.dst u (fun t ht => by rw [hs.size]; exact hdst k o t h0 ht)]
   cases hd : o.dst with
   | none => simpa [nP] using (hs.tmps t).mono h1.le
   | some d =>
    by_cases e : t = d
    ·subst e; simpa [nP] using h5
    ·have : ¬ (d = t) := fun q => e q.symm
     simpa [nP, e, this] using (hs.tmps t).mono h1.le
  rcases kL hst (c := c) (a := a) (fun j want d _ _ => hs.tmps d) with ⟨hw, hop⟩ | ⟨hw, rfl, rfl⟩
  ·rw [if_pos hw]
   refine .inl (rI hE hop hs.good hs.heap (fun _ => ?_) (fun x _ => sR (fun t _ => hs.tmps t)) (fun _ => hs.dom) (fun u w' c' ho _ => next u w' c' ho.step ho.good ho.heap (ho.dom hs.dom) ho.rel))
   cases hm : c.m H.length with
   | none => rfl
   | some i => have := hs.dom H.length (by rw [hm]; simp); omega
  ·rw [hw]
   exact next undef w c (.refl c w) hs.good hs.heap hs.dom (fP c)
theorem uT {P : Program} {G : aC} {E : jD} {ann : Ann} (hE : EnvSound P G E) {γ : Type} {ops : Array Oper} {K : TS → aB → Option γ} {out : γ} {c0 : Ctx} {w0 : World} {N B id : Nat} {Q : Exit → Act → World → Prop}
  (hdst : ∀ (i : Nat) (o : Oper) (t : Nat), ops[i]? = some o → o.dst = some t → t < N)
  (hQ : ∀ T H c a w, K T H = some out → St G c0 w0 N B T H c a w → Q .normal a w) {T : TS} {H : aB} {c : Ctx} {a : Act} {w : World} (hr : gQ P G E ann ops ops.toList K T H = some out) (hs : St G c0 w0 N B T H c a w) :
  (Code.region id ops false).wp P Q a w := by
 refine wp_region ?_
 have := uL hE hdst hQ ops.toList 0 (fun j => by simp) T H c a w hr hs
 rw [List.range_eq_range']
 simpa using this
def gV (acc : List Nat) : List Edge → Nat → Nat
 | [], s => s
 | e :: l, s => gV acc l (if Region.binds .any e then s ||| 2 ^ e.on ||| acc.getD e.on 0 else s)
def jE : List Oper → List Nat → List Nat
 | [], acc => acc
 | o :: l, acc => jE l (acc ++ [gV acc o.after.toList 0])
theorem pG (acc : List Nat) : ∀ (l : List Edge) (s i : Nat), (gV acc l s).testBit i = true → s.testBit i = true ∨ ∃ e ∈ l, Region.binds .any e = true ∧ (i = e.on ∨ (acc.getD e.on 0).testBit i = true)
 | [], s, i, h => .inl h
 | e :: l, s, i, h => by
  simp only [gV] at h
  rcases pG acc l _ i h with h1 | ⟨e', h1, h2⟩
  ·by_cases hb : Region.binds .any e = true
   ·rw [if_pos hb, Nat.testBit_or, Nat.testBit_or, Bool.or_eq_true, Bool.or_eq_true] at h1
    rcases h1 with (h1 | h1) | h1
    ·exact .inl h1
    ·rw [Nat.testBit_two_pow] at h1
     exact .inr ⟨e, by simp, hb, .inl (of_decide_eq_true h1).symm⟩
    ·exact .inr ⟨e, by simp, hb, .inr h1⟩
   ·rw [if_neg hb] at h1; exact .inl h1
  ·exact .inr ⟨e', by simp [h1], h2⟩
theorem mH : ∀ (l : List Oper) (acc : List Nat), (jE l acc).take acc.length = acc ∧ (jE l acc).length = acc.length + l.length
 | [], acc => by simp [jE]
 | o :: l, acc => by
  obtain ⟨h1, h2⟩ := mH l (acc ++ [gV acc o.after.toList 0])
  simp only [jE, List.length_append, List.length_cons, List.length_nil] at *
  refine ⟨?_, by omega⟩
  have := congrArg (List.take acc.length) h1
  rw [List.take_take, Nat.min_eq_left (by omega)] at this
  rw [this]; simp
theorem tH : ∀ (l : List Oper) (acc : List Nat) (k : Nat) (o : Oper), l[k]? = some o → (jE l acc)[acc.length + k]? = some (gV ((jE l acc).take (acc.length + k)) o.after.toList 0)
 | [], acc, k, o, h => by simp at h
 | o' :: l, acc, k, o, h => by
  obtain ⟨h1, h2⟩ := mH l (acc ++ [gV acc o'.after.toList 0])
  cases k with
  | zero =>
   simp at h; subst h
   simp only [jE, Nat.add_zero]
   have e0 := (mH (o' :: l) acc).1
   simp only [jE] at e0
   rw [e0]
   have : (jE l (acc ++ [gV acc o'.after.toList 0]))[acc.length]? = ((jE l (acc ++ [gV acc o'.after.toList 0])).take (acc ++ [gV acc o'.after.toList 0]).length)[acc.length]? := by
    rw [List.getElem?_take, if_pos (by simp)]
   rw [this, h1]
   simp
  | succ k =>
   simp at h
   have := tH l (acc ++ [gV acc o'.after.toList 0]) k o h
   simp only [List.length_append, List.length_cons, List.length_nil] at this
   simp only [jE]
   rw [show acc.length + (k + 1) = acc.length + 0 + 1 + k by omega]
   simpa using this
def jN (ops : Array Oper) (i t : Nat) : Bool := (ops.toList.drop i).all fun o => match o.dst with | some d => !(d == t) | none => true
theorem yE {ops : Array Oper} {i t : Nat} (h : jN ops i t = true) {k : Nat} (hk : i ≤ k) : fA ops k ≠ some t := by
 intro hd
 cases ho : ops[k]? with
 | none => simp [fA, ho] at hd
 | some o =>
  have hm : o ∈ ops.toList.drop i := by
   refine List.mem_of_getElem? (i := k - i) ?_
   rw [List.getElem?_drop, show i + (k - i) = k by omega]; simpa using ho
  have := List.all_eq_true.1 h o hm
  have hd' : o.dst = some t := by simpa [fA, ho] using hd
  simp [hd'] at this
def kR (ops : Array Oper) (i j : Nat) (x y : Oper) : Option (Nat × Nat) :=
 match x.guard, y.guard with
 | none, none => match x.op, y.op with
  | .load _ (.tmp a), .store _ (.tmp b) _ => (match jN ops i a && jN ops j b with | true => some (a, b) | false => none)
  | .store _ (.tmp b) _, .load _ (.tmp a) => (match jN ops i b && jN ops j a with | true => some (a, b) | false => none)
  | .makeSlice .., .store _ (.tmp b) _ => (match x.dst with
   | some d => (match jN ops (i + 1) d && jN ops j b with | true => some (d, b) | false => none)
   | none => none)
  | _, _ => none
 | _, _ => none
def dU (o : Oper) : Bool := match o.op with
 | .load .. => true
 | _ => false
theorem aAN {ops : Array Oper} {i j : Nat} {x y : Oper} {p : Nat × Nat} (h : kR ops i j x y = some p) (hx : dU x = true) :
  x.guard = none ∧ y.guard = none ∧ (∃ t, x.op = .load t (.tmp p.1)) ∧ (∃ t z, y.op = .store t (.tmp p.2) z) ∧ jN ops i p.1 = true ∧ jN ops j p.2 = true := by
 unfold kR at h
 split at h
 case h_2 => cases h
 rename_i g1 g2
 split at h
 ·rename_i t a t' b z e1 e2
  split at h
  ·rename_i hl
   rw [Bool.and_eq_true] at hl
   simp only [Option.some.injEq] at h; subst h
   exact ⟨g1, g2, ⟨t, e1⟩, ⟨t', z, e2⟩, hl.1, hl.2⟩
  ·cases h
 ·rename_i e1 e2
  simp [dU, e1] at hx
 ·rename_i e1 e2
  simp [dU, e1] at hx
 ·cases h
theorem aAO {ops : Array Oper} {i j : Nat} {x y : Oper} {p : Nat × Nat} (h : kR ops i j x y = some p) (hy : dU y = true) :
  x.guard = none ∧ y.guard = none ∧ (∃ t, y.op = .load t (.tmp p.1)) ∧ (∃ t z, x.op = .store t (.tmp p.2) z) ∧ jN ops j p.1 = true ∧ jN ops i p.2 = true := by
 unfold kR at h
 split at h
 case h_2 => cases h
 rename_i g1 g2
 split at h
 ·rename_i t a t' b z e1 e2
  simp [dU, e2] at hy
 ·rename_i t b z t' a e1 e2
  split at h
  ·rename_i hl
   rw [Bool.and_eq_true] at hl
   simp only [Option.some.injEq] at h; subst h
   exact ⟨g1, g2, ⟨t', e2⟩, ⟨t, z, e1⟩, hl.2, hl.1⟩
  ·cases h
 ·rename_i e1 e2
  simp [dU, e2] at hy
 ·cases h
def lP (o : Oper) : Bool := match o.guard, o.op with
 | none, .makeSlice .. => true
 | _, _ => false
theorem wP {ops : Array Oper} {i j : Nat} {x y : Oper} {p : Nat × Nat} (h : kR ops i j x y = some p) (hx : lP x = true) :
  x.dst = some p.1 ∧ y.guard = none ∧ (∃ t z, y.op = .store t (.tmp p.2) z) ∧ jN ops (i + 1) p.1 = true ∧ jN ops j p.2 = true := by
 unfold kR at h
 split at h
 case h_2 => cases h
 rename_i g1 g2
 split at h
 ·rename_i e1 e2
  simp [lP, g1, e1] at hx
 ·rename_i e1 e2
  simp [lP, g1, e1] at hx
 ·rename_i t b z e1 e2
  split at h
  ·rename_i d hd
   split at h
   ·rename_i hl
    rw [Bool.and_eq_true] at hl
    simp only [Option.some.injEq] at h; subst h
    exact ⟨hd, g2, ⟨t, z, e2⟩, hl.1, hl.2⟩
   ·cases h
  ·cases h
 ·cases h
theorem uE {ops : Array Oper} {i j : Nat} {x y : Oper} {p : Nat × Nat} (h : kR ops i j x y = some p) : (dU x = true ∧ dU y = false) ∨ (dU x = false ∧ dU y = true) ∨ (lP x = true ∧ ∃ t z, y.op = .store t (.tmp p.2) z) := by
 unfold kR at h
 split at h
 case h_2 => cases h
 rename_i g1 g2
 split at h
 ·rename_i e1 e2; exact .inl ⟨by simp [dU, e1], by simp [dU, e2]⟩
 ·rename_i e1 e2; exact .inr (.inl ⟨by simp [dU, e1], by simp [dU, e2]⟩)
 ·rename_i t b z e1 e2
  split at h
  ·split at h
   ·simp only [Option.some.injEq] at h; subst h
    exact .inr (.inr ⟨by simp [lP, g1, e1], t, z, e2⟩)
   ·cases h
  ·cases h
 ·cases h
def aBm {α : Type} : Option α → Bool
 | some _ => true
 | none => false
def iT (ann : Ann) (pf : Nat → Bool) (ops : Array Oper) (i j : Nat) (x y : Oper) : Bool :=
 Oper.apart ops x y && ((!(dA ann pf x && eG ann y) && !(eG ann x && dA ann pf y)) || aBm (kR ops i j x y))
def oC (ann : Ann) (pf : Nat → Bool) (ops : Array Oper) (b : Nat) (y : Oper) (j : Nat) : List Oper → Nat → Bool
 | [], _ => true
 | x :: l, i => (b.testBit i || iT ann pf ops i j x y) && oC ann pf ops b y j l (i + 1)
def mA (ann : Ann) (pf : Nat → Bool) (ops : Array Oper) (B : List Nat) : List Oper → List Oper → Nat → Bool
 | _, [], _ => true
 | before, y :: l, j => y.after.toList.all (fun e => !Region.binds .any e || decide (e.on < j)) && oC ann pf ops (B.getD j 0) y j before 0 && mA ann pf ops B (before ++ [y]) l (j + 1)
def pN (ann : Ann) (pf : Nat → Bool) (ops : Array Oper) : Bool := mA ann pf ops (jE ops.toList []) [] ops.toList 0
def pI (ops : Array Oper) (b : Nat) (y : Oper) (j : Nat) : List Oper → Nat → List (Nat × Nat)
 | [], _ => []
 | x :: l, i => match kR ops i j x y with
  | some p => (match b.testBit i with
   | true => pI ops b y j l (i + 1)
   | false => p :: pI ops b y j l (i + 1))
  | none => pI ops b y j l (i + 1)
def lV (ops : Array Oper) (B : List Nat) : List Oper → List Oper → Nat → List (Nat × Nat)
 | _, [], _ => []
 | before, y :: l, j => pI ops (B.getD j 0) y j before 0 ++ lV ops B (before ++ [y]) l (j + 1)
def iL (ops : Array Oper) : List (Nat × Nat) := lV ops (jE ops.toList []) [] ops.toList 0
theorem nA {ann : Ann} {pf : Nat → Bool} {ops : Array Oper} {b : Nat} {y : Oper} {j : Nat} : ∀ {l : List Oper} {k : Nat} (_ : oC ann pf ops b y j l k = true) {i : Nat} {x : Oper} (_ : l[i]? = some x), b.testBit (k + i) = true ∨ iT ann pf ops (k + i) j x y = true
 | [], _, _, _, _, hx => by simp at hx
 | z :: l, k, h, i, x, hx => by
  simp only [oC, Bool.and_eq_true, Bool.or_eq_true] at h
  cases i with
  | zero => simp at hx; subst hx; simpa using h.1
  | succ i =>
   simp at hx
   have := nA h.2 hx
   rwa [show k + 1 + i = k + (i + 1) by omega] at this
theorem rG {ops : Array Oper} {b : Nat} {y : Oper} {j : Nat} {p : Nat × Nat} : ∀ {l : List Oper} {k i : Nat} {x : Oper} (_ : l[i]? = some x) (_ : b.testBit (k + i) = false) (_ : kR ops (k + i) j x y = some p), p ∈ pI ops b y j l k
 | [], _, _, _, hx, _, _ => by simp at hx
 | z :: l, k, i, x, hx, hb, hp => by
  cases i with
  | zero =>
   simp at hx; subst hx
   rw [Nat.add_zero] at hb hp
   simp only [pI, hp, hb]
   simp
  | succ i =>
   simp at hx
   rw [show k + (i + 1) = k + 1 + i by omega] at hb hp
   have ih := rG hx hb hp
   simp only [pI]
   split
   ·split
    ·exact ih
    ·exact List.mem_cons_of_mem _ ih
   ·exact ih
theorem mZ {ann : Ann} {pf : Nat → Bool} {ops : Array Oper} {B : List Nat} : ∀ {l before : List Oper} (_ : mA ann pf ops B before l before.length = true) {q : Nat} {y : Oper} (_ : l[q]? = some y),
  (∀ e ∈ y.after.toList, Region.binds .any e = true → e.on < before.length + q) ∧ ∀ (i : Nat) (x : Oper), (before ++ l.take q)[i]? = some x → (B.getD (before.length + q) 0).testBit i = true ∨ iT ann pf ops i (before.length + q) x y = true
 | [], _, _, _, _, hy => by simp at hy
 | z :: l, before, h, q, y, hy => by
  simp only [mA, Bool.and_eq_true] at h
  obtain ⟨⟨h1, h2⟩, h3⟩ := h
  cases q with
  | zero =>
   simp at hy; subst hy
   refine ⟨fun e he hb => ?_, fun i x hx => ?_⟩
   ·have := List.all_eq_true.1 h1 e he
    simpa [hb] using this
   ·simp at hx
    have := nA h2 hx
    simpa using this
  | succ q =>
   simp at hy
   have h3' : mA ann pf ops B (before ++ [z]) l (before ++ [z]).length = true := by simpa using h3
   obtain ⟨g1, g2⟩ := mZ h3' hy
   simp only [List.length_append, List.length_cons, List.length_nil] at g1 g2
   refine ⟨fun e he hb => by have := g1 e he hb; omega, fun i x hx => ?_⟩
   have := g2 i x (by simpa using hx)
   rwa [show before.length + (0 + 1) + q = before.length + (q + 1) by omega] at this
theorem lW {ops : Array Oper} {B : List Nat} {p : Nat × Nat} : ∀ {l before : List Oper} {q : Nat} {y : Oper} (_ : l[q]? = some y) {i : Nat} {x : Oper} (_ : (before ++ l.take q)[i]? = some x) (_ : (B.getD (before.length + q) 0).testBit i = false)
  (_ : kR ops i (before.length + q) x y = some p), p ∈ lV ops B before l before.length
 | [], _, _, _, hy, _, _, _, _, _ => by simp at hy
 | z :: l, before, q, y, hy, i, x, hx, hb, hp => by
  simp only [lV, List.mem_append]
  cases q with
  | zero =>
   simp at hy; subst hy
   simp at hx
   rw [Nat.add_zero] at hb hp
   exact .inl (rG (k := 0) (i := i) hx (by simpa using hb) (by simpa using hp))
  | succ q =>
   simp at hy
   have e : before.length + (q + 1) = (before ++ [z]).length + q := by simp; omega
   rw [e] at hb hp
   have := lW (before := before ++ [z]) hy (by simpa using hx) hb hp
   exact .inr (by simpa using this)
def mQ (ann : Ann) (pf : Nat → Bool) (ops : Array Oper) (i j : Nat) (x y : Oper) : Prop := iT ann pf ops i j x y = true ∧ ∀ p, kR ops i j x y = some p → p ∈ iL ops
def mG (ops : Array Oper) (S : Nat → Prop) : Prop := ∀ (j : Nat) (o : Oper), ops[j]? = some o → S j → ∀ e ∈ o.after, Region.binds .any e = true → S e.on
theorem jT {ann : Ann} {pf : Nat → Bool} {ops : Array Oper} (h : pN ann pf ops = true) :
  (∀ (j : Nat) (o : Oper), ops[j]? = some o → ∀ e ∈ o.after, Region.binds .any e = true → e.on < j) ∧
  ∀ (i j : Nat) (x y : Oper), i < j → ops[i]? = some x → ops[j]? = some y → (∀ S, mG ops S → S j → S i) ∨ mQ ann pf ops i j x y := by
 unfold pN at h
 have key := fun {q : Nat} {y : Oper} (hy : ops.toList[q]? = some y) => mZ (before := []) h hy
 have hedge : ∀ (j : Nat) (o : Oper), ops[j]? = some o → ∀ e ∈ o.after, Region.binds .any e = true → e.on < j := by
  intro j o ho e he hb
  have := (key (q := j) (y := o) (by simpa using ho)).1 e (by simpa using he) hb
  simpa using this
 refine ⟨hedge, fun i j x y hij hx hy => ?_⟩
 have hxt : ([] ++ ops.toList.take j)[i]? = some x := by simp [List.getElem?_take, hij]; simpa using hx
 have h2 := (key (q := j) (y := y) (by simpa using hy)).2 i x hxt
 simp only [List.length_nil, Nat.zero_add] at h2
 have h3 : ((jE ops.toList []).getD j 0).testBit i = true ∨ mQ ann pf ops i j x y := by
  cases hb : ((jE ops.toList []).getD j 0).testBit i with
  | true => exact .inl rfl
  | false =>
   refine .inr ⟨h2.resolve_left (by rw [hb]; simp), fun p hp => ?_⟩
   have := lW (B := jE ops.toList []) (before := []) (l := ops.toList) (q := j) (y := y) (by simpa using hy) hxt (by simpa using hb) (by simpa using hp)
   simpa [iL] using this
 refine h3.imp (fun hb => ?_) id
 have : ∀ (j : Nat), ∀ i, j < ops.size → ((jE ops.toList []).getD j 0).testBit i = true → ∀ S, mG ops S → S j → S i := by
  intro j
  induction j using Nat.strongRecOn with
  | _ j ih =>
   intro i hj hb S hS hSj
   have ho : ops.toList[j]? = some ops[j] := by simp [hj]
   have hg := tH ops.toList [] j ops[j] ho
   simp only [List.length_nil, Nat.zero_add] at hg
   rw [List.getD_eq_getElem?_getD, hg] at hb
   simp only [Option.getD_some] at hb
   rcases pG _ _ _ _ hb with h0 | ⟨e, he, hbe, h1⟩
   ·simp at h0
   ·have he' : e ∈ ops[j].after := by simpa using he
    have hlt := hedge j ops[j] (by simp [hj]) e he' hbe
    have hSe := hS j ops[j] (by simp [hj]) hSj e he' hbe
    rcases h1 with rfl | h1
    ·exact hSe
    ·rw [List.getD_eq_getElem?_getD, List.getElem?_take, if_pos hlt, ← List.getD_eq_getElem?_getD] at h1
     exact ih e.on hlt i (by omega) h1 S hS hSe
 exact this j i (Array.getElem?_eq_some_iff.1 hy).1 hb
def fR : AV → AV → Bool
 | .ptr b _ _ _, .ptr b' _ _ _ => !(b == b')
 | .rp _ _ _, _ => true
 | .gl _, _ => true
 | .sl b _ _ _ _, .ptr b' _ _ _ => !(b == b')
 | _, _ => false
def grd {γ : Type} : List (AV × AV) → Option γ → Option γ
 | [], m => m
 | p :: l, m => match fR p.1 p.2 with
  | true => grd l m
  | false => none
theorem oZ {γ : Type} {m : Option γ} {out : γ} : ∀ {l : List (AV × AV)}, grd l m = some out → m = some out ∧ ∀ p ∈ l, fR p.1 p.2 = true
 | [], h => ⟨h, fun p hp => by cases hp⟩
 | q :: l, h => by
  simp only [grd] at h
  split at h
  ·rename_i hq
   obtain ⟨h1, h2⟩ := oZ h
   refine ⟨h1, fun p hp => ?_⟩
   rcases List.mem_cons.1 hp with rfl | hp
   ·exact hq
   ·exact h2 p hp
  ·cases h
def yQ (T : TS) (l : List (Nat × Nat)) : List (AV × AV) := l.map fun p => (T p.1, T p.2)
structure TextRun (P : Program) (G : aC) (E : jD) (ann : Ann) (ops : Array Oper) (T : TS) (H : aB) (n : Nat) (σ : Nat → TS) (h : Nat → aB) (v : Nat → AV) : Prop where
 t0 : σ 0 = T
 h0 : h 0 = H
 step : ∀ (i : Nat) (o : Oper), i < n → ops[i]? = some o → fZ P G E ann ops o (σ i) (h i) = some (v i, h (i + 1)) ∧ σ (i + 1) = nP (σ i) o.dst (v i)
theorem qC {P : Program} {G : aC} {E : jD} {ann : Ann} {ops : Array Oper} {γ : Type} {K : TS → aB → Option γ} {out : γ} : ∀ (l : List Oper) (k : Nat), (∀ j, l[j]? = ops[k + j]?) → ∀ (T : TS) (H : aB), gQ P G E ann ops l K T H = some out →
  ∃ (σ : Nat → TS) (h : Nat → aB) (v : Nat → AV), σ k = T ∧ h k = H ∧ (∀ (i : Nat) (o : Oper), k ≤ i → i < k + l.length → ops[i]? = some o → fZ P G E ann ops o (σ i) (h i) = some (v i, h (i + 1)) ∧ σ (i + 1) = nP (σ i) o.dst (v i)) ∧
   K (σ (k + l.length)) (h (k + l.length)) = some out
 | [], k, hl, T, H, hr => ⟨fun _ => T, fun _ => H, fun _ => .undef, rfl, rfl, fun i o h1 h2 => by simp at h2; omega, by simpa [gQ] using hr⟩
 | o :: l, k, hl, T, H, hr => by
  have h0 : ops[k]? = some o := by simpa using (hl 0).symm
  simp only [gQ, aD] at hr
  split at hr
  case h_2 => cases hr
  rename_i v0 H' hst
  obtain ⟨σ, h, v, e1, e2, e3, e4⟩ := qC l (k + 1) (fun j => by have := hl (j + 1); simpa [Nat.add_assoc, Nat.add_comm 1 j] using this) _ H' hr
  refine ⟨fun i => if i = k then T else σ i, fun i => if i = k then H else h i, fun i => if i = k then v0 else v i, by simp, by simp, fun i o' h1 h2 h3 => ?_, ?_⟩
  ·by_cases hik : i = k
   ·subst hik
    rw [h0] at h3; obtain rfl := Option.some.inj h3
    have hne : ¬ (i + 1 = i) := by omega
    simp only [if_true, hne, if_false]
    exact ⟨by rw [e2]; exact hst, e1⟩
   ·have hne : ¬ (i + 1 = k) := by omega
    simp only [hik, if_false, hne]
    exact e3 i o' (by omega) (by simp at h2; omega) h3
  ·have hne : ¬ (k + (l.length + 1) = k) := by omega
   simp only [List.length_cons, hne, if_false]
   rw [show k + (l.length + 1) = k + 1 + l.length by omega]
   exact e4
def oS (listed : Array Bool) : Nat → Nat
 | 0 => 0
 | k + 1 => oS listed k + if listed.getD k false = true then 0 else 1
theorem qV {listed : Array Bool} : ∀ {n : Nat}, oS listed n = 0 → ∀ i, i < n → listed.getD i false = true
 | 0, _, i, hi => by omega
 | n + 1, h, i, hi => by
  simp only [oS] at h
  by_cases e : i = n
  ·subst e
   by_cases hl : listed.getD i false = true
   ·exact hl
   ·rw [if_neg hl] at h; omega
  ·exact qV (n := n) (by omega) i (by omega)
theorem tL {listed : Array Bool} {i : Nat} (hi : i < listed.size) (hu : listed.getD i false = false) : ∀ (n : Nat), oS (listed.setIfInBounds i true) n + (if i < n then 1 else 0) = oS listed n
 | 0 => by simp [oS]
 | n + 1 => by
  have ih := tL hi hu n
  simp only [oS]
  by_cases e : i = n
  ·subst e
   have h1 : (listed.setIfInBounds i true).getD i false = true := by simp [Array.getD, hi]
   rw [if_pos h1, hu]
   rw [if_neg (show ¬ i < i by omega)] at ih
   rw [if_pos (show i < i + 1 by omega)]
   simp only [Bool.false_eq_true, if_false]
   omega
  ·have h1 : (listed.setIfInBounds i true).getD n false = listed.getD n false := getD_set_ne false e
   rw [h1]
   by_cases hl : i < n
   ·rw [if_pos hl] at ih; rw [if_pos (show i < n + 1 by omega)]; omega
   ·rw [if_neg hl] at ih; rw [if_neg (show ¬ i < n + 1 by omega)]; omega
section
variable {P : Program} {G : aC} {E : jD} {ann : Ann} {ops : Array Oper} {σ : Nat → TS} {h : Nat → aB} {v : Nat → AV}
def Wr (ann : Ann) (E : jD) (ops : Array Oper) (i : Nat) : Prop := ∃ o, ops[i]? = some o ∧ dA ann (cL E) o = true
def Seg (ann : Ann) (E : jD) (ops : Array Oper) (L : Nat → Prop) (j : Nat) : Prop := (∀ i, i < j → Wr ann E ops i → L i) ∧ ∀ i, j ≤ i → Wr ann E ops i → ¬ L i
def Cur (ops : Array Oper) (σ : Nat → TS) (v : Nat → AV) (L : Nat → Prop) (t : Nat) (x : AV) : Prop :=
 (∃ i, L i ∧ fA ops i = some t ∧ x = v i ∧ ∀ i', i < i' → L i' → fA ops i' ≠ some t) ∨ ((∀ i, L i → fA ops i ≠ some t) ∧ x = σ 0 t)
structure RS (G : aC) (ann : Ann) (E : jD) (ops : Array Oper) (σ : Nat → TS) (h : Nat → aB) (v : Nat → AV) (c0 : Ctx) (w0 : World) (N B : Nat) (L : Nat → Prop) (c : Ctx) (a : Act) (w : World) : Prop where
 good : Good G c w
 step : Step c0 w0 c w
 size : a.tmps.size = N
 defers : a.defers = []
 low : B ≤ (h 0).length
 tm : ∀ t x, Cur ops σ v L t x → Rel c x (a.tmps.getD t undef)
 hp : ∀ j, j ≤ ops.size → Seg ann E ops L j → HeapAt c (h j) w
 dom : ∀ b, c.m b ≠ none → b < (h ops.size).length ∧ ∀ i, i < ops.size → (h i).length ≤ b → b < (h (i + 1)).length → L i
theorem qD {T : TS} {H : aB} (hr : TextRun P G E ann ops T H ops.size σ h v) (t : Nat) : ∀ (j : Nat), j ≤ ops.size →
  (∃ i, i < j ∧ fA ops i = some t ∧ σ j t = v i ∧ ∀ i', i < i' → i' < j → fA ops i' ≠ some t) ∨ ((∀ i, i < j → fA ops i ≠ some t) ∧ σ j t = σ 0 t)
 | 0, _ => .inr ⟨fun i hi => by omega, rfl⟩
 | j + 1, hj => by
  have ho : ops[j]? = some ops[j] := by simp [show j < ops.size by omega]
  obtain ⟨_, hs⟩ := hr.step j ops[j] (by omega) ho
  have hd : fA ops j = ops[j].dst := by simp [fA, ho]
  by_cases e : ops[j].dst = some t
  ·refine .inl ⟨j, by omega, by rw [hd, e], ?_, fun i' h1 h2 => by omega⟩
   rw [hs, e]; simp [nP]
  ·have hk : σ (j + 1) t = σ j t := by
    rw [hs]
    cases hdd : ops[j].dst with
    | none => rfl
    | some d =>
     have : ¬ (t = d) := fun q => e (by rw [hdd, q])
     simp [nP, this]
   rcases qD hr t j (by omega) with ⟨i, h1, h2, h3, h4⟩ | ⟨h1, h2⟩
   ·refine .inl ⟨i, by omega, h2, by rw [hk, h3], fun i' g1 g2 => ?_⟩
    by_cases q : i' = j
    ·subst q; rw [hd]; exact e
    ·exact h4 i' g1 (by omega)
   ·refine .inr ⟨fun i hi => ?_, by rw [hk, h2]⟩
    by_cases q : i = j
    ·subst q; rw [hd]; exact e
    ·exact h1 i (by omega)
theorem uF {T : TS} {H : aB} (hr : TextRun P G E ann ops T H ops.size σ h v) {i : Nat} (hi : i < ops.size) : (h i).length ≤ (h (i + 1)).length := by
 have ho : ops[i]? = some ops[i] := by simp [hi]
 obtain ⟨hs, -⟩ := hr.step i ops[i] hi ho
 exact qB hs
theorem dQ {T : TS} {H : aB} (hr : TextRun P G E ann ops T H ops.size σ h v) {i : Nat} : ∀ (d : Nat), i + d ≤ ops.size → (h i).length ≤ (h (i + d)).length
 | 0, _ => Nat.le_refl _
 | d + 1, hd => Nat.le_trans (dQ hr d (by omega)) (uF hr (i := i + d) (by omega))
theorem tU {T : TS} {H : aB} (hr : TextRun P G E ann ops T H ops.size σ h v) {i : Nat} (hi : i < ops.size) (hw : ¬ Wr ann E ops i) : h (i + 1) = h i ∨ ∃ blk, h (i + 1) = h i ++ [blk] := by
 have ho : ops[i]? = some ops[i] := by simp [hi]
 have hw' : dA ann (cL E) ops[i] = false := by
  cases hb : dA ann (cL E) ops[i] with
  | false => rfl
  | true => exact absurd ⟨ops[i], ho, hb⟩ hw
 obtain ⟨hs, -⟩ := hr.step i ops[i] hi ho
 unfold fZ at hs
 split at hs
 ·exact sO hw' hs
 ·split at hs
  ·rcases lG hs with ⟨_, e⟩ | ⟨_, _, e⟩
   ·exact sO hw' e
   ·exact .inl e
  ·cases hs
theorem nX {T : TS} {H : aB} (hr : TextRun P G E ann ops T H ops.size σ h v) {i : Nat} : ∀ (d : Nat), i + d ≤ ops.size → (∀ k, i ≤ k → k < i + d → ¬ Wr ann E ops k) → ∀ b, b < (h i).length → (h (i + d))[b]? = (h i)[b]?
 | 0, _, _, b, _ => rfl
 | d + 1, hd, hw, b, hb => by
  have ih := nX hr d (by omega) (fun k h1 h2 => hw k h1 (by omega)) b hb
  have hl := dQ hr d (i := i) (by omega)
  rcases tU hr (i := i + d) (by omega) (hw (i + d) (by omega) (by omega)) with e | ⟨blk, e⟩
  ·rw [show i + (d + 1) = i + d + 1 by omega, e]; exact ih
  ·rw [show i + (d + 1) = i + d + 1 by omega, e, List.getElem?_append_left (by omega)]; exact ih
theorem rM {T : TS} {H : aB} (hr : TextRun P G E ann ops T H ops.size σ h v) {i : Nat} {o : Oper} (ho : ops[i]? = some o) (ht : eG ann o = false) : h (i + 1) = h i := by
 have hi : i < ops.size := (Array.getElem?_eq_some_iff.1 ho).1
 obtain ⟨hs, -⟩ := hr.step i o hi ho
 unfold fZ at hs
 split at hs
 ·exact (lZ ht hs).1
 ·split at hs
  ·rcases lG hs with ⟨_, e⟩ | ⟨_, _, e⟩
   ·exact (lZ ht e).1
   ·exact e
  ·cases hs
end
end Go.Proofs.YtcmblhedhgiofaaDoor.Mir
