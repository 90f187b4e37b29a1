/- Part 2 of the proof: the evaluator and its soundness. -/
import Derived.Test.YtlkgkfgkiidhdaaDoorVo1
import Derived.Laws.CopyRow
import Derived.Laws.IdiomCopy
namespace Go.Proofs.YtlkgkfgkiidhdaaDoor.Mir
open Go
set_option linter.unusedSimpArgs false
set_option linter.unusedVariables false
theorem kP {P : Program} {w : World} {t e : TypeId} {i : TypeInfo} (ty : TypeId) (ht : P.underlying t = some (.slice e)) (hi : P.info? e = some i) (base a : Option Addr) {n cap : Nat} (c : Nat) (hn : n ≤ cap) :
  (Builtin.append_ #[t, t] ty #[.slice base n cap, .slice a 0 c]).run P w = .ok (.slice base n cap) w := by
 cases a <;> cases base <;> simp [Builtin.append_, run_underlying ht, sizeOf, typeInfo, hi, Builtin.lenOf, hn, Builtin.firstCells, loadCells, loadCellsFrom, storeCells]
theorem CBlk.flatCells {c : Ctx} {inf : Info} {blk : ABlk} {w : World} (h : CBlk c inf blk w) (hv : inf.virt = false) {cur : Array Value} {ty : Nat} (hc : w.heap[inf.idx]? = some (.cells cur ty (0, 0))) :
  (∀ x ∈ blk.elems, x.cells.length = blk.sz) ∧ Cells1 c (flat blk.elems) (cur.toList.take (blk.elems.length * blk.sz)) ∧ blk.elems.length * blk.sz ≤ cur.size := by
 have hsz : ∀ x ∈ blk.elems, x.cells.length = blk.sz := fun x hx => by
  obtain ⟨i, hi⟩ := List.mem_iff_getElem?.1 hx
  exact (h.cells hv i x hi).1
 obtain ⟨cur', hcur', hsize⟩ := h.real hv
 rw [hc] at hcur'
 obtain ⟨rfl, _⟩ : cur' = cur ∧ True := by simp at hcur'; exact ⟨hcur'.1.symm, trivial⟩
 have hfit : blk.elems.length * blk.sz ≤ cur'.size := by rw [hsize, h.sz]; exact Nat.mul_le_mul_right _ h.fits
 refine ⟨hsz, ?_, hfit⟩
 have get : ∀ (k : Nat) (y : AV), (flat blk.elems)[k]? = some y → ∃ v, cur'.toList[k]? = some v ∧ Rel c y v ∧ v.oneCell' = true := by
  intro k y hy
  have hk : k < blk.elems.length * blk.sz := by have := (List.getElem?_eq_some_iff.1 hy).1; rwa [eD hsz] at this
  have hdiv : k / blk.sz < blk.elems.length := Nat.div_lt_of_lt_mul (by rwa [Nat.mul_comm])
  have hmod : k % blk.sz < blk.sz := Nat.mod_lt _ h.pos
  have hdm : k = k / blk.sz * blk.sz + k % blk.sz := by rw [Nat.mul_comm]; exact (Nat.div_add_mod k blk.sz).symm
  have hx : blk.elems[k / blk.sz]? = some blk.elems[k / blk.sz] := List.getElem?_eq_getElem hdiv
  rw [hdm, mG hsz hx hmod] at hy
  obtain ⟨v, g1, g2, g3⟩ := (h.cells hv _ _ hx).2 _ _ hy
  rw [← hdm, cell_of_row w _ _ _ _ _ hc] at g1
  exact ⟨v, by simpa using g1, g2, g3⟩
 refine ⟨⟨by simp [eD hsz]; omega, fun i x v hx hv' => ?_⟩, fun u hu => ?_⟩
 ·obtain ⟨v', g1, g2, _⟩ := get i x hx
  rw [List.getElem?_take] at hv'
  split at hv'
  ·rw [g1] at hv'; obtain rfl := Option.some.inj hv'; exact g2
  ·cases hv'
 ·obtain ⟨i, hi⟩ := List.mem_iff_getElem?.1 hu
  rw [List.getElem?_take] at hi
  split at hi
  ·rename_i hlt
   have : (flat blk.elems)[i]? = some ((flat blk.elems)[i]'(by rw [eD hsz]; exact hlt)) := List.getElem?_eq_getElem _
   obtain ⟨v', g1, _, g3⟩ := get i _ this
   rw [g1] at hi; obtain rfl := Option.some.inj hi; exact g3
  ·cases hi
theorem lN (xs ys : List AV) : flat (xs ++ ys) = flat xs ++ flat ys := by simp [flat]
theorem zS {s : Nat} {xs : List AV} (h : ∀ x ∈ xs, x.cells.length = s) (n : Nat) : flat (xs.take n) = (flat xs).take (n * s) := by
 have e := List.take_append_drop n xs
 have h1 : (flat (xs.take n)).length = min n xs.length * s := by rw [eD (fun x hx => h x (List.mem_of_mem_take hx)), List.length_take]
 by_cases hn : n ≤ xs.length
 ·rw [Nat.min_eq_left hn] at h1
  conv => rhs; rw [← e, lN]
  rw [← h1, List.take_left]
 ·rw [List.take_of_length_le (by omega), List.take_of_length_le]
  rw [eD h]; exact Nat.mul_le_mul_right s (by omega)
theorem aFp {s : Nat} {xs : List AV} (h : ∀ x ∈ xs, x.cells.length = s) (n : Nat) : flat (xs.drop n) = (flat xs).drop (n * s) := by
 have e := List.take_append_drop n xs
 have h1 : (flat (xs.take n)).length = min n xs.length * s := by rw [eD (fun x hx => h x (List.mem_of_mem_take hx)), List.length_take]
 by_cases hn : n ≤ xs.length
 ·rw [Nat.min_eq_left hn] at h1
  conv => rhs; rw [← e, lN]
  rw [← h1, List.drop_left]
 ·rw [List.drop_of_length_le (by omega), List.drop_of_length_le]
  ·rfl
  ·rw [eD h]; exact Nat.mul_le_mul_right s (by omega)
theorem oK {c : Ctx} {s n : Nat} {xs ys : List AV} {ov nv : List Value} (hx : ∀ x ∈ xs, x.cells.length = s) (hy : ∀ y ∈ ys, y.cells.length = s) (hn : n ≤ xs.length)
  (ho : Cells1 c (flat xs) ov) (hnv : Cells1 c (flat ys) nv) :
  (∀ x ∈ xs.take n ++ (ys ++ xs.drop (n + ys.length)), x.cells.length = s) ∧
  Cells1 c (flat (xs.take n ++ (ys ++ xs.drop (n + ys.length)))) (ov.take (n * s) ++ (nv ++ ov.drop (n * s + nv.length))) := by
 have hl : ∀ x ∈ xs.take n ++ (ys ++ xs.drop (n + ys.length)), x.cells.length = s := by
  intro x hm
  simp only [List.mem_append] at hm
  rcases hm with hm | hm | hm
  ·exact hx x (List.mem_of_mem_take hm)
  ·exact hy x hm
  ·exact hx x (List.mem_of_mem_drop hm)
 refine ⟨hl, ?_⟩
 have e1 : nv.length = ys.length * s := by rw [← hnv.rel.1, eD hy]
 have e2 : ov.length = xs.length * s := by rw [← ho.rel.1, eD hx]
 have hns : n * s ≤ xs.length * s := Nat.mul_le_mul_right s hn
 have e3 : flat (xs.take n ++ (ys ++ xs.drop (n + ys.length))) = (flat xs).take (n * s) ++ (flat ys ++ (flat xs).drop (n * s + nv.length)) := by
  rw [lN, lN, zS hx, aFp hx, e1, Nat.add_mul]
 rw [e3]
 have hfl := eD hx
 have hfy := eD hy
 refine ⟨⟨?_, fun i x v h1 h2 => ?_⟩, fun u hu => ?_⟩
 ·have := ho.rel.1
  have := hnv.rel.1
  simp only [List.length_append, List.length_take, List.length_drop]
  omega
 ·have a1 := ho.rel.1
  have a2 := hnv.rel.1
  by_cases q1 : i < n * s
  ·rw [List.getElem?_append_left (by simp; omega), List.getElem?_take, if_pos q1] at h1
   rw [List.getElem?_append_left (by simp; omega), List.getElem?_take, if_pos q1] at h2
   exact ho.rel.2 _ _ _ h1 h2
  ·rw [List.getElem?_append_right (by simp; omega)] at h1 h2
   have l1 : ((flat xs).take (n * s)).length = n * s := by simp; omega
   have l2 : (ov.take (n * s)).length = n * s := by simp; omega
   rw [l1] at h1; rw [l2] at h2
   by_cases q2 : i - n * s < nv.length
   ·rw [List.getElem?_append_left (by omega)] at h1 h2
    exact hnv.rel.2 _ _ _ h1 h2
   ·rw [List.getElem?_append_right (by omega), List.getElem?_drop] at h1 h2
    rw [a2] at h1
    exact ho.rel.2 _ _ _ h1 h2
 ·simp only [List.mem_append] at hu
  rcases hu with hu | hu | hu
  ·exact ho.one u (List.mem_of_mem_take hu)
  ·exact hnv.one u hu
  ·exact ho.one u (List.mem_of_mem_drop hu)
theorem Cells1.mono {c c' : Ctx} (hle : c.le c') {cs : List AV} {vs : List Value} (h : Cells1 c cs vs) : Cells1 c' cs vs := ⟨h.rel.mono hle, h.one⟩
theorem CBlk.ofFlat {c : Ctx} {inf : Info} {blk : ABlk} {w : World} {cur : Array Value} {vals : List Value} (hty : inf.ty = blk.ty) (hsz : inf.sz = blk.sz) (hpos : 0 < blk.sz) (hlen : inf.len = blk.elems.length)
  (hfits : blk.elems.length ≤ inf.cap) (hv : inf.virt = false) (hbig : inf.cap ≤ maxLen) (hw : w.heap[inf.idx]? = some (.cells cur inf.ty (0, 0))) (hcs : cur.size = inf.cap * inf.sz)
  (hx : ∀ x ∈ blk.elems, x.cells.length = blk.sz) (hcells : Cells1 c (flat blk.elems) vals) (hpre : ∀ (k : Nat) (v : Value), vals[k]? = some v → cur.toList[k]? = some v) : CBlk c inf blk w := by
 refine ⟨hty, hsz, hpos, hlen, hfits, by simp [hv], hbig, fun _ => ⟨cur, hw, hcs⟩, fun _ i x hi => ⟨hx x (List.mem_of_getElem? hi), fun j y hy => ?_⟩⟩
 obtain ⟨v, g1, g2, g3⟩ := iG hx hcells hi hy
 refine ⟨v, ?_, g2, g3⟩
 rw [cell_of_row w _ _ _ _ _ hw]
 simpa using hpre _ _ g1
structure Wrote (G : aC) (c : Ctx) (w : World) (r : AV) (H' : aA) (v : Value) (w' : World) (c' : Ctx) : Prop where
 step : Step c w c' w'
 good : Good G c' w'
 heap : HeapAt c' H' w'
 rel : Rel c' r v
 dom : ∀ b, c'.m b ≠ none → c.m b ≠ none
theorem yQ {P : Program} {G : aC} {ts : Array Nat} {ty : Nat} {s x r : AV} {H H' : aA} (h : mW P ts s x H = some (r, H')) {c : Ctx} {w : World} (hg : Good G c w) (hH : HeapAt c H w)
  {vs vx : Value} (hs : Rel c s vs) (hx : Rel c x vx) :
  ∃ v w' c', (Builtin.append_ ts ty #[vs, vx]).run P w = .ok v w' ∧ Wrote G c w r H' v w' c' := by
 unfold mW at h
 split at h
 case h_2 => cases h
 rename_i t t' hts
 split at h
 case isFalse => cases h
 rename_i htt
 subst htt
 have hts' : ts = #[t, t] := by apply Array.ext'; simpa using hts
 subst hts'
 split at h
 case h_2 => cases h
 rename_i e hd
 split at h
 case h_2 => cases h
 rename_i sz by_ z hsz hby hz
 split at h
 case isFalse => cases h
 rename_i hc0
 obtain ⟨hb128, hzl, hzst⟩ := hc0
 unfold eQ at h
 split at h
 case h_2 => cases h
 rename_i b L n sz'
 split at h
 case h_2 => cases h
 rename_i blk ys hb hys
 split at h
 case isFalse => cases h
 rename_i hc
 obtain ⟨hL, hsz', hty, hall, hbig⟩ := hc
 simp only [Option.some.injEq, Prod.mk.injEq] at h
 obtain ⟨rfl, rfl⟩ := h
 subst hsz'
 obtain ⟨i, zv, hi, hzv, hisz, hzrel⟩ := lT hz hsz
 have hbyi : i.bytes ≤ 128 := by simp [tby, hi] at hby; omega
 obtain ⟨zs, hzs, hzr, hz1⟩ := fV hzst (hzrel c)
 have hzsl : zs.length = sz' := by rw [← hzr.1, hzl]
 obtain ⟨a, m, cap2, rfl, hym, _, hya⟩ := iU hys hg hH hx hall
 have hyy : ∀ y ∈ ys, y.cells.length = sz' := fun y hy => by have := List.all_eq_true.1 hall y hy; simpa using this
 have hblt : b < H.length := (List.getElem?_eq_some_iff.1 hb).1
 subst hym
 have hlen : ∀ (n : Nat), n ≤ blk.elems.length → (blk.elems.take n ++ (ys ++ blk.elems.drop (n + ys.length))).length = max blk.elems.length (n + ys.length) := by
  intro n hn; simp; omega
 by_cases hm0 : ys.length = 0
 ·
  have hy0 : ys = [] := List.eq_nil_of_length_eq_zero hm0
  subst hy0
  have same : blk.elems.take n ++ ([] ++ blk.elems.drop (n + 0)) = blk.elems := by simp
  have hset : H.set b { blk with elems := blk.elems } = H := by
   apply List.ext_getElem?
   intro k
   by_cases e : b = k
   ·subst e; rw [List.getElem?_set_self hblt, hb]
   ·rw [List.getElem?_set_ne e]
  simp only [List.length_nil, Nat.add_zero] at same ⊢
  rw [same, hset, hL]
  have fin : ∀ base cap, vs = .slice base n cap → n ≤ cap → Rel c (.sl b L 0 n sz') (.slice base n cap) →
    ∃ v w' c', (Builtin.append_ #[t, t] ty #[vs, .slice a 0 cap2]).run P w = .ok v w' ∧ Wrote G c w (.sl b L 0 n sz') H v w' c' := by
   intro base cap hv hn hr
   subst hv
   exact ⟨_, w, c, kP ty hd hi base a cap2 hn, .refl c w, hg, hH, hr, fun _ h => h⟩
  cases hs with
  | sl hm hl hv hs1 ho hcap hnc ha hz => exact fin _ _ rfl hnc (.sl hm hl hv hs1 ho hcap hnc ha hz)
  | slVirt hm hl hv hs1 => exact fin _ _ rfl (Nat.le_refl _) (.slVirt hm hl hv hs1)
  | slStale a cap' hm hl hnc ha => exact fin _ _ rfl hnc (.slStale a cap' hm hl hnc ha)
 ·have hyne : ys ≠ [] := fun e => hm0 (by rw [e]; rfl)
  obtain ⟨A, rfl, hAs, hAc⟩ := hya.resolve_left hyne
  obtain ⟨nv, hnr, hncell, hn1⟩ := hAc.vals
  have hnl : nv.length = ys.length * i.size := by rw [← hnr.1, eD hyy, hisz]
  have hnews : ∀ j v, nv[j]? = some v → w.cell? (A.add j) = some v := by
   intro j v hj
   have := hncell j v hj
   obtain ⟨blk', off, spot⟩ := A
   simp only at hAs; subst hAs
   rw [Addr.add_lit]; exact this
  cases hs with
  | slStale a cap' hm hl hnc ha => have := hH.valid hb hm; omega
  | slVirt hm hl hv hs1 =>
   rename_i inf
   have hz : 0 < inf.sz := by
    rcases Nat.eq_zero_or_pos inf.sz with q | q
    ·have := ((hH.blk _ _ _ hb hm).mp q).virt; rw [hv] at this; cases this
    ·exact q
   have hB := (hH.blk _ _ _ hb hm).cb hz
   have he0 : blk.elems = [] := List.eq_nil_of_length_eq_zero (by rw [← hB.len]; exact hl)
   simp only [Nat.zero_add] at hbig ⊢
   have hrun := run_append_nil (P := P) w t ty e i zv hd hi hzv A ys.length cap2 nv hnl hnews (by omega) (by omega) (by
    have := Nat.mul_le_mul hbig hbyi; omega)
   have hge := grownCap_ge w ys.length 0 e
   have hle := grownCap_le_maxLen w ys.length 0 e (by simp [maxLen]; omega)
   have hvals : (nv.toArray ++ Builtin.zeroCells zv.cells (grownCap w ys.length 0 e - ys.length)) = (nv ++ (Builtin.zeroCells zv.cells (grownCap w ys.length 0 e - ys.length)).toList).toArray := by
    apply Array.ext'; simp
   rw [hvals] at hrun
   have hfl : (flat (blk.elems.take 0 ++ (ys ++ blk.elems.drop ys.length))) = flat ys := by rw [he0]; simp
   have hel : (blk.elems.take 0 ++ (ys ++ blk.elems.drop ys.length)) = ys := by rw [he0]; simp
   rw [hel]
   let inf' : Info := ⟨w.heap.size, grownCap w ys.length 0 e, e, sz', ys.length, false⟩
   have hupd := Ctx.upd_le (c := c) (inf' := inf') hm (by simp [inf', hs1]) (by simp [inf']; omega) (by simp [inf']; omega) (fun q => absurd q (by omega))
   have hbs : sz' = blk.sz := by rw [← hs1, hB.sz]
   have hBA : CBlk (c.upd b inf') inf' { blk with elems := ys } (w.drew.alloc (.cells (nv ++ (Builtin.zeroCells zv.cells (grownCap w ys.length 0 e - ys.length)).toList).toArray e)) := by
    refine CBlk.ofFlat (vals := nv) (by simp [inf', hty]) (by simp [inf', hbs]) hB.pos rfl hge rfl hle (heap_alloc_new w.drew _) ?_ (fun x hx => by rw [← hbs]; exact hyy x hx) (Cells1.mono hupd ⟨hnr, hn1⟩) (fun k v hk => ?_)
    ·have : zv.cells.size = sz' := by rw [hzs]; simpa using hzsl
     simp only [inf', List.size_toArray, List.length_append, Array.length_toList, size_zeroCells, this, hnl, hisz, ← Nat.add_mul]
     congr 1; omega
    ·simp only
     rw [List.getElem?_append_left (List.getElem?_eq_some_iff.1 hk).1]; exact hk
   obtain ⟨g1, g2, g3⟩ := zW hg hH hm (by simp [inf', hs1]) (by simp [inf']; omega) rfl rfl hBA.to hblt hz
   refine ⟨_, _, _, hrun, g1, g2, g3, ?_, fun b' hb' => ?_⟩
   ·exact .sl (inf := inf') (by simp [Ctx.upd]) rfl rfl rfl (by omega) (by simp [inf']) hge (.inl (by simp [inf'])) (by simp only [inf']; omega)
   ·by_cases eb : b' = b
    ·subst eb; rw [hm]; simp
    ·simpa [Ctx.upd, eb] using hb'
  | sl hm hl hv hs1 ho hcap hnc ha hz =>
   rename_i inf a cap'
   have ha' : a = ⟨inf.idx, 0, none⟩ := by
    rcases ha with h1 | h1
    ·simpa using h1
    ·omega
   subst ha'
   simp only [Nat.zero_add, Nat.add_zero] at ho hcap
   subst hcap
   have hB := (hH.blk _ _ _ hb hm).cb hz
   obtain ⟨cur, hcur, hcs⟩ := hB.real hv
   obtain ⟨hxx, hxc, hxfit⟩ := hB.flatCells hv hcur
   have hbs : sz' = blk.sz := by rw [← hs1, hB.sz]
   have hity : inf.ty = e := by rw [hB.ty, hty]
   rw [hity] at hcur
   have hnL : n ≤ blk.elems.length := by omega
   obtain ⟨hzz, hgc⟩ := oK hxx (by rw [← hbs]; exact hyy) hnL hxc ⟨hnr, hn1⟩
   have hlen' := hlen n hnL
   have hfits := hB.fits
   have htake : ((cur.toList.take (blk.elems.length * blk.sz)).take (n * blk.sz)) = cur.toList.take (n * blk.sz) := by
    rw [List.take_take, Nat.min_eq_left (Nat.mul_le_mul_right _ hnL)]
   have hnvl : nv.length = ys.length * blk.sz := by rw [hnl, hisz, hbs]
   have hnsc : n * blk.sz ≤ cur.size := Nat.le_trans (Nat.mul_le_mul_right _ hnL) hxfit
   by_cases hroom : n + ys.length ≤ inf.cap
   ·
    have hnfit : n * i.size + nv.length ≤ cur.size := by
     rw [hnl, hcs, ← Nat.add_mul, hisz, hs1]; exact Nat.mul_le_mul_right _ hroom
    have hrun := run_append_room (P := P) w t ty e i hd hi inf.idx n inf.cap cur hcur A ys.length cap2 nv hnl hnews hn1 hroom hnfit
    rw [hisz, hbs] at hrun
    rw [hisz, hbs] at hnfit
    let inf' : Info := { inf with len := max blk.elems.length (n + ys.length) }
    have hu : inf'.len = inf.len → inf' = inf := fun q => by simp only [inf'] at q ⊢; rw [q]
    have hbl := hB.len
    have hupd := Ctx.upd_le (c := c) (inf' := inf') hm rfl (by simp only [inf']; omega) hu (fun _ => ⟨rfl, rfl⟩)
    have hpre : ∀ (k : Nat) (v : Value), ((cur.toList.take (blk.elems.length * blk.sz)).take (n * blk.sz) ++ (nv ++ (cur.toList.take (blk.elems.length * blk.sz)).drop (n * blk.sz + nv.length)))[k]? = some v →
      (cur.toList.take (n * blk.sz) ++ nv ++ cur.toList.drop (n * blk.sz + nv.length))[k]? = some v := by
     intro k v hk
     rw [htake] at hk
     rw [List.append_assoc]
     by_cases q : k < n * blk.sz
     ·rw [List.getElem?_append_left (by simp; omega)] at hk ⊢; exact hk
     ·have ll : (cur.toList.take (n * blk.sz)).length = n * blk.sz := by simp; omega
      rw [List.getElem?_append_right (by omega)] at hk ⊢
      rw [ll] at hk ⊢
      by_cases q2 : k - n * blk.sz < nv.length
      ·rw [List.getElem?_append_left q2] at hk ⊢; exact hk
      ·rw [List.getElem?_append_right (by omega)] at hk ⊢
       rw [List.getElem?_drop, List.getElem?_take] at hk
       rw [List.getElem?_drop]
       split at hk
       ·exact hk
       ·cases hk
    have hBA : CBlk (c.upd b inf') inf' { blk with elems := blk.elems.take n ++ (ys ++ blk.elems.drop (n + ys.length)) }
      (w.setRow inf.idx (cur.toList.take (n * blk.sz) ++ nv ++ cur.toList.drop (n * blk.sz + nv.length)).toArray) := by
     refine CBlk.ofFlat (cur := (cur.toList.take (n * blk.sz) ++ nv ++ cur.toList.drop (n * blk.sz + nv.length)).toArray) (vals := _) (by simp [inf', hB.ty]) (by simp [inf', hB.sz]) hB.pos (by simp only [inf']; exact hlen'.symm) ?_ hv hB.big (setRow_heap w inf.idx cur _ e _ hcur |> fun q => by simpa [inf', hity] using q) ?_ hzz (Cells1.mono hupd hgc) (by simpa using hpre)
     ·show (blk.elems.take n ++ (ys ++ blk.elems.drop (n + ys.length))).length ≤ inf.cap
      rw [hlen']; omega
     ·simp only [inf', List.size_toArray, List.length_append, List.length_take, List.length_drop, Array.length_toList]
      omega
    obtain ⟨g1, g2, g3⟩ := aDz hg hH hm (inf' := inf') rfl (by simp only [inf']; omega) hu rfl hv hv hBA.to hblt
    refine ⟨_, _, _, hrun, g1, g2, g3, ?_, fun b' hb' => ?_⟩
    ·rw [hlen']
     exact .sl (inf := inf') (by simp [Ctx.upd]) rfl hv hs1 (by omega) (by simp [inf']) hroom (.inl (by simp [inf'])) hz
    ·by_cases eb : b' = b
     ·subst eb; rw [hm]; simp
     ·simpa [Ctx.upd, eb] using hb'
   ·
    have holds : ∀ j v, (cur.toList.take (n * i.size))[j]? = some v → w.cell? ((⟨inf.idx, 0, none⟩ : Addr).add j) = some v := by
     intro j v hj
     rw [Addr.add_lit, cell_of_row w _ _ _ _ _ hcur]
     rw [List.getElem?_take] at hj
     split at hj
     ·simpa using hj
     ·cases hj
    have hrun := run_append_grow (P := P) w t ty e i zv hd hi hzv ⟨inf.idx, 0, none⟩ n inf.cap (cur.toList.take (n * i.size)) (by rw [hisz, hbs]; simp; omega) holds A ys.length cap2 nv hnl hnews
     (by omega) (by omega) (growslice_fits (by omega) (by have := Nat.mul_le_mul hbig hbyi; omega))
    rw [hisz, hbs] at hrun
    have hge := grownCap_ge w (n + ys.length) inf.cap e
    have hle := grownCap_le_maxLen w (n + ys.length) inf.cap e (by simp [maxLen]; omega)
    have hvals : ((cur.toList.take (n * blk.sz)).toArray ++ nv.toArray ++ Builtin.zeroCells zv.cells (grownCap w (n + ys.length) inf.cap e - (n + ys.length))) =
      ((cur.toList.take (n * blk.sz)) ++ nv ++ (Builtin.zeroCells zv.cells (grownCap w (n + ys.length) inf.cap e - (n + ys.length))).toList).toArray := by
     apply Array.ext'; simp
    rw [hvals] at hrun
    let inf' : Info := ⟨w.heap.size, grownCap w (n + ys.length) inf.cap e, e, sz', n + ys.length, false⟩
    have hbl := hB.len
    have hupd := Ctx.upd_le (c := c) (inf' := inf') hm (by simp [inf', hs1]) (by simp [inf']; omega) (by simp [inf']; omega) (fun q => absurd q (by omega))
    have hdrop : blk.elems.drop (n + ys.length) = [] := List.drop_of_length_le (by omega)
    have hmax : max blk.elems.length (n + ys.length) = n + ys.length := by omega
    rw [hmax] at hlen'
    have hpre : ∀ (k : Nat) (v : Value), ((cur.toList.take (blk.elems.length * blk.sz)).take (n * blk.sz) ++ (nv ++ (cur.toList.take (blk.elems.length * blk.sz)).drop (n * blk.sz + nv.length)))[k]? = some v →
      ((cur.toList.take (n * blk.sz)) ++ nv ++ (Builtin.zeroCells zv.cells (grownCap w (n + ys.length) inf.cap e - (n + ys.length))).toList)[k]? = some v := by
     intro k v hk
     have d0 : (cur.toList.take (blk.elems.length * blk.sz)).drop (n * blk.sz + nv.length) = [] := by
      apply List.drop_of_length_le
      rw [hnvl, ← Nat.add_mul]
      simp only [List.length_take]
      have := Nat.mul_le_mul_right blk.sz (show blk.elems.length ≤ n + ys.length by omega)
      omega
     rw [htake, d0, List.append_nil] at hk
     rw [List.getElem?_append_left (List.getElem?_eq_some_iff.1 hk).1]; exact hk
    have hBA : CBlk (c.upd b inf') inf' { blk with elems := blk.elems.take n ++ (ys ++ blk.elems.drop (n + ys.length)) }
      (w.drew.alloc (.cells ((cur.toList.take (n * blk.sz)) ++ nv ++ (Builtin.zeroCells zv.cells (grownCap w (n + ys.length) inf.cap e - (n + ys.length))).toList).toArray e)) := by
     refine CBlk.ofFlat (vals := _) (by simp [inf', hty]) (by simp [inf', hbs]) hB.pos (by simp only [inf']; exact hlen'.symm) (by show _ ≤ inf'.cap; rw [hlen']; exact hge) rfl hle (heap_alloc_new w.drew _) ?_ hzz (Cells1.mono hupd hgc) (by simpa using hpre)
     have q : zv.cells.size = sz' := by rw [hzs]; simpa using hzsl
     simp only [inf', List.size_toArray, List.length_append, Array.length_toList, size_zeroCells, q, List.length_take, hnvl, ← hbs]
     rw [Nat.min_eq_left (by rw [hbs]; exact hnsc), ← Nat.add_mul, ← Nat.add_mul]
     congr 1; omega
    obtain ⟨g1, g2, g3⟩ := zW hg hH hm (inf' := inf') (by simp [inf', hs1]) (by simp [inf']; omega) rfl rfl hBA.to hblt hz
    refine ⟨_, _, _, hrun, g1, g2, g3, ?_, fun b' hb' => ?_⟩
    ·rw [hlen']
     exact .sl (inf := inf') (by simp [Ctx.upd]) rfl rfl rfl (by omega) (by simp [inf']) hge (.inl (by simp [inf'])) (by simp only [inf']; omega)
    ·by_cases eb : b' = b
     ·subst eb; rw [hm]; simp
     ·simpa [Ctx.upd, eb] using hb'
def aEt (d x : AV) (H : aA) : Option (AV × aA) :=
 match d with
 | .sl b L o n sz => match H[b]?, fN x H with
  | some blk, some ys => if blk.elems.length = L ∧ sz = 1 ∧ o + n ≤ L ∧ jB 1 ys = true then
    some (.int .i64 ((min ys.length n : Nat) : Int), H.set b { blk with elems := blk.elems.take o ++ (ys.take n ++ blk.elems.drop (o + (ys.take n).length)) }) else none
  | _, _ => none
 | _ => none
def aBX (P : Program) (ts : Array Nat) (d x : AV) (H : aA) : Option (AV × aA) :=
 match ts.toList with
 | [t, _] => match P.underlying t with
  | some (.slice e) => match vG P e with
   | some s => if s = 1 then aEt d x H else none
   | none => none
  | _ => none
 | _ => none
theorem aCR {H : aA} {b : Nat} {blk : ABlk} (hb : H[b]? = some blk) : H.set b blk = H := by
 have hlt : b < H.length := (List.getElem?_eq_some_iff.1 hb).1
 apply List.ext_getElem?
 intro k
 by_cases e : b = k
 ·subst e; rw [List.getElem?_set_self hlt, hb]
 ·rw [List.getElem?_set_ne e]
theorem aBY {P : Program} {G : aC} {ts : Array Nat} {ty : Nat} {d x r : AV} {H H' : aA} (h : aBX P ts d x H = some (r, H')) {c : Ctx} {w : World} (hg : Good G c w) (hH : HeapAt c H w)
  {vd vx : Value} (hd : Rel c d vd) (hx : Rel c x vx) :
  ∃ v w', (Builtin.copy_ ts ty #[vd, vx]).run P w = .ok v w' ∧ Wrote G c w r H' v w' c := by
 unfold aBX at h
 split at h
 case h_2 => cases h
 rename_i t t' hts
 have hts' : ts = #[t, t'] := by apply Array.ext'; simpa using hts
 subst hts'
 split at h
 case h_2 => cases h
 rename_i e hu
 split at h
 case h_2 => cases h
 rename_i s hs
 split at h
 case isFalse => cases h
 rename_i hs1
 subst hs1
 unfold aEt at h
 split at h
 case h_2 => cases h
 rename_i b L o n sz
 split at h
 case h_2 => cases h
 rename_i blk ys hb hys
 split at h
 case isFalse => cases h
 rename_i hc
 obtain ⟨hL, hsz, hon, hall⟩ := hc
 simp only [Option.some.injEq, Prod.mk.injEq] at h
 obtain ⟨rfl, rfl⟩ := h
 subst hsz
 obtain ⟨a, m, cap2, rfl, hym, _, hya⟩ := iU hys hg hH hx hall
 subst hym
 have hyy : ∀ y ∈ ys, y.cells.length = 1 := fun y hy => by have := List.all_eq_true.1 hall y hy; simpa using this
 have hsz : (P.info? e).map (·.size) = some 1 := hs
 have int : ∀ k : Nat, goInt k = .int .i64 (k : Int) := fun k => rfl
 have none_ : ∀ (D : Option Addr) (dc : Nat), vd = .slice D n dc → min ys.length n = 0 → Rel c (.sl b L o n 1) vd →
   ∃ v w', (Builtin.copy_ #[t, t'] ty #[vd, .slice a ys.length cap2]).run P w = .ok v w' ∧ Wrote G c w (.int .i64 ((min ys.length n : Nat) : Int)) (H.set b { blk with elems := blk.elems.take o ++ (ys.take n ++ blk.elems.drop (o + (ys.take n).length)) }) v w' c := by
  intro D dc hv h0 hr
  subst hv
  have hyn : ys.take n = [] := List.eq_nil_of_length_eq_zero (by rw [List.length_take]; omega)
  have same : blk.elems.take o ++ (ys.take n ++ blk.elems.drop (o + (ys.take n).length)) = blk.elems := by rw [hyn]; simp
  rw [same, aCR hb, h0]
  exact ⟨_, w, run_copy_none w t t' ty e D a n dc ys.length cap2 hu hsz h0, .refl c w, hg, hH, .int _ _, fun _ h => h⟩
 cases hd with
 | slStale a' cap' hm hl hnc ha => have := hH.valid hb hm; omega
 | slVirt hm hl hv hs1 => exact none_ _ _ rfl (by omega) (.slVirt hm hl hv hs1)
 | sl hm hl hv hs1 ho hcap hnc ha hz =>
  rename_i inf a' cap'
  by_cases h0 : min ys.length n = 0
  ·exact none_ _ _ rfl h0 (.sl hm hl hv hs1 ho hcap hnc ha hz)
  have ha' : a' = ⟨inf.idx, o * 1, none⟩ := by
   rcases ha with h1 | h1
   ·exact h1
   ·omega
  subst ha'
  obtain ⟨A, rfl, hAs, hAc⟩ := hya.resolve_left (fun q => h0 (by rw [q]; simp))
  have hB := (hH.blk _ _ _ hb hm).cb hz
  obtain ⟨cur, hcur, hcs⟩ := hB.real hv
  obtain ⟨hxx, hxc, hxfit⟩ := hB.flatCells hv hcur
  have hbs : blk.sz = 1 := by rw [← hB.sz, hs1]
  have hAc' : gU c w A.block A.off (flat (ys.take n)) := by rw [zS hyy, Nat.mul_one]; exact hAc.take n
  obtain ⟨nv, hnr, hncell, hn1⟩ := hAc'.vals
  have hyt : ∀ y ∈ ys.take n, y.cells.length = 1 := fun y hy => hyy y (List.mem_of_mem_take hy)
  have hnl : nv.length = (ys.take n).length := by rw [← hnr.1, eD hyt]; simp
  have hnl' : nv.length = min ys.length n := by rw [hnl, List.length_take, Nat.min_comm]
  have hnews : ∀ j v, nv[j]? = some v → w.cell? (A.add j) = some v := by
   intro j v hj
   have := hncell j v hj
   obtain ⟨blk', off, spot⟩ := A
   simp only at hAs; subst hAs
   rw [Addr.add_lit]; exact this
  have hfit : o * 1 + nv.length ≤ cur.size := by
   rw [hnl', hcs, hs1]
   have := hB.fits
   omega
  have hrun := run_copy_row (P := P) w t t' ty e inf.idx (o * 1) n cap' A ys.length cap2 cur inf.ty nv hu hsz hcur hnl' hnews hfit hn1
  have ho' : c.own inf.idx := ⟨b, inf, hm, hv, rfl⟩
  have hstep := Step.setRow (c := c) (w := w) ho' (cur.toList.take (o * 1) ++ nv ++ cur.toList.drop (o * 1 + nv.length)).toArray
  have hon' : o ≤ blk.elems.length := by omega
  obtain ⟨hzz, hgc⟩ := oK hxx (by rw [hbs]; exact hyt) hon' hxc ⟨hnr, hn1⟩
  have hytl : (ys.take n).length = min ys.length n := by rw [List.length_take, Nat.min_comm]
  have hlen' : (blk.elems.take o ++ (ys.take n ++ blk.elems.drop (o + (ys.take n).length))).length = blk.elems.length := by
   simp only [List.length_append, List.length_take, List.length_drop]; omega
  refine ⟨_, _, hrun, hstep, hg.world hstep, hH.set hm hv (CBlk.to ?_), ?_, fun _ h => h⟩
  ·refine CBlk.ofFlat (cur := (cur.toList.take (o * 1) ++ nv ++ cur.toList.drop (o * 1 + nv.length)).toArray) (vals := (cur.toList.take (blk.elems.length * blk.sz)).take (o * blk.sz) ++ (nv ++ (cur.toList.take (blk.elems.length * blk.sz)).drop (o * blk.sz + nv.length)))
    hB.ty hB.sz hB.pos (by rw [hlen']; exact hB.len) (by rw [hlen']; exact hB.fits) hv hB.big (setRow_heap w _ cur _ _ _ hcur) ?_ hzz hgc ?_
   ·rw [← hcs]
    simp only [List.size_toArray, List.length_append, List.length_take, List.length_drop, Array.length_toList]
    omega
   ·intro k v hk
    rw [hbs, Nat.mul_one, Nat.mul_one] at hk
    rw [hbs, Nat.mul_one] at hxfit
    simp only [Nat.mul_one] at hfit ⊢
    rw [List.append_assoc]
    have l0 : ((cur.toList.take blk.elems.length).take o) = cur.toList.take o := by rw [List.take_take, Nat.min_eq_left hon']
    rw [l0] at hk
    have ll : (cur.toList.take o).length = o := by simp; omega
    by_cases q : k < o
    ·rw [List.getElem?_append_left (by omega)] at hk ⊢; exact hk
    ·rw [List.getElem?_append_right (by omega)] at hk ⊢
     rw [ll] at hk ⊢
     by_cases q2 : k - o < nv.length
     ·rw [List.getElem?_append_left q2] at hk ⊢; exact hk
     ·rw [List.getElem?_append_right (by omega)] at hk ⊢
      rw [List.getElem?_drop, List.getElem?_take] at hk
      rw [List.getElem?_drop]
      split at hk
      ·exact hk
      ·cases hk
  ·rw [int, hnl']; exact .int _ _
theorem aAQ {d x r : AV} {H H' : aA} (h : aEt d x H = some (r, H')) : H'.length = H.length := by
 unfold aEt at h
 (repeat' split at h) <;> first | (cases h; done) | (simp only [Option.some.injEq, Prod.mk.injEq] at h; obtain ⟨_, rfl⟩ := h; simp)
theorem qX {P : Program} {ts : Array Nat} {d x r : AV} {H H' : aA} (h : aBX P ts d x H = some (r, H')) : H'.length = H.length := by
 unfold aBX at h
 (repeat' split at h) <;> first | (cases h; done) | exact aAQ h
def oD (z : AV) (d : AV) (H : aA) : Option (AV × aA) :=
 match d with
 | .nils => some (.tup [], H)
 | .sl b L o n sz => match H[b]? with
  | some blk => if blk.elems.length = L ∧ sz = 1 ∧ o + n ≤ L then
    some (.tup [], H.set b { blk with elems := blk.elems.take o ++ (List.replicate n z ++ blk.elems.drop (o + (List.replicate n z).length)) }) else none
  | none => none
 | _ => none
def vY (P : Program) (ts : Array Nat) (d : AV) (H : aA) : Option (AV × aA) :=
 match ts.toList with
 | [t] => match P.underlying t with
  | some (.slice e) => match vG P e, lH P e with
   | some s, some (.int k m) => if s = 1 then oD (.int k m) d H else none
   | _, _ => none
  | _ => none
 | _ => none
theorem yU {P : Program} (w : World) (t ty elem : TypeId) (g o n cap : Nat) (cur : Array Value) (tc : TypeId) (k : IntKind) (m : Int)
  (hu : P.underlying t = some (.slice elem)) (hz : (zeroValue elem).run P w = .ok (.int k m) w) (hg : w.heap[g]? = some (.cells cur tc (0, 0))) (h0 : n ≠ 0) (hfit : o + n ≤ cur.size) :
  (Builtin.clear_ #[t] ty #[.slice (some ⟨g, o, none⟩) n cap]).run P w =
   .ok (.tuple #[]) (w.setRow g (cur.toList.take o ++ List.replicate n (Value.int k m) ++ cur.toList.drop (o + n)).toArray) := by
 have hst := run_storeCells_at P g o tc (List.replicate n (Value.int k m)) 0 cur w hg (by simpa using hfit) (fun v hv => by rw [List.eq_of_mem_replicate hv]; rfl)
 have hzc : (Builtin.zeroCells (Value.int k m).cells n).toList = List.replicate n (.int k m) := by
  apply List.ext_getElem
  ·simp [Builtin.zeroCells, Value.cells]
  ·intro i h1 h2
   simp [Builtin.zeroCells, Value.cells, Nat.mod_one]
 simp only [List.length_replicate, Nat.add_zero] at hst
 unfold Builtin.clear_
 cases n with
 | zero => exact absurd rfl h0
 | succ n => simp [run_underlying hu, hz, hzc, hst]
theorem zR : ∀ {l : List AV}, (∀ y ∈ l, y.cells = [y]) → flat l = l
 | [], _ => rfl
 | x :: l, h => by
  have ih := zR (l := l) fun y hy => h y (List.mem_cons_of_mem _ hy)
  have hx := h x (List.mem_cons_self ..)
  simp only [flat, List.flatMap_cons] at ih ⊢
  rw [ih, hx]; rfl
theorem aAP {P : Program} {G : aC} {ts : Array Nat} {ty : Nat} {d r : AV} {H H' : aA} (h : vY P ts d H = some (r, H')) {c : Ctx} {w : World} (hg : Good G c w) (hH : HeapAt c H w)
  {vd : Value} (hd : Rel c d vd) :
  ∃ v w', (Builtin.clear_ ts ty #[vd]).run P w = .ok v w' ∧ Wrote G c w r H' v w' c := by
 unfold vY at h
 split at h
 case h_2 => cases h
 rename_i t hts
 have hts' : ts = #[t] := by apply Array.ext'; simpa using hts
 subst hts'
 split at h
 case h_2 => cases h
 rename_i e hu
 split at h
 case h_2 => cases h
 rename_i s k m hs hz
 split at h
 case isFalse => cases h
 rename_i hs1
 subst hs1
 obtain ⟨zv, hzr, hzrel⟩ := mS hz w
 obtain rfl : zv = .int k m := by have := hzrel c; cases this; rfl
 have unit : Rel c (.tup []) (.tuple #[]) := .tup rfl (fun i x v h _ => by simp at h)
 have nothing : ∀ (D : Option Addr) (dc : Nat), (D = none ∨ True) → (Builtin.clear_ #[t] ty #[.slice D 0 dc]).run P w = .ok (.tuple #[]) w := by
  intro D dc _
  unfold Builtin.clear_
  cases D <;> simp [run_underlying hu]
 unfold oD at h
 split at h
 ·
  simp only [Option.some.injEq, Prod.mk.injEq] at h
  obtain ⟨rfl, rfl⟩ := h
  cases hd
  exact ⟨_, w, nothing none 0 (.inl rfl), .refl c w, hg, hH, unit, fun _ h => h⟩
 ·rename_i b L o n sz
  split at h
  case h_2 => cases h
  rename_i blk hb
  split at h
  case isFalse => cases h
  rename_i hc
  obtain ⟨hL, hsz, hon⟩ := hc
  simp only [Option.some.injEq, Prod.mk.injEq] at h
  obtain ⟨rfl, rfl⟩ := h
  subst hsz
  have same : n = 0 → H.set b { blk with elems := blk.elems.take o ++ (List.replicate n (.int k m) ++ blk.elems.drop (o + (List.replicate n (AV.int k m)).length)) } = H := by
   intro h0
   subst h0
   have : blk.elems.take o ++ (List.replicate 0 (AV.int k m) ++ blk.elems.drop (o + (List.replicate 0 (AV.int k m)).length)) = blk.elems := by simp
   rw [this, aCR hb]
  cases hd with
  | slStale a' cap' hm hl hnc ha => have := hH.valid hb hm; omega
  | slVirt hm hl hv hs1 =>
   rw [same rfl]
   exact ⟨_, w, nothing none 0 (.inl rfl), .refl c w, hg, hH, unit, fun _ h => h⟩
  | sl hm hl hv hs1 ho hcap hnc ha hz =>
   rename_i inf a' cap'
   by_cases h0 : n = 0
   ·rw [same h0]
    subst h0
    exact ⟨_, w, nothing _ _ (.inr trivial), .refl c w, hg, hH, unit, fun _ h => h⟩
   have ha' : a' = ⟨inf.idx, o * 1, none⟩ := by
    rcases ha with h1 | h1
    ·exact h1
    ·omega
   subst ha'
   have hB := (hH.blk _ _ _ hb hm).cb hz
   obtain ⟨cur, hcur, hcs⟩ := hB.real hv
   obtain ⟨hxx, hxc, hxfit⟩ := hB.flatCells hv hcur
   have hbs : blk.sz = 1 := by rw [← hB.sz, hs1]
   have hfit : o * 1 + n ≤ cur.size := by
    rw [hcs, hs1]
    have := hB.fits
    omega
   have hrun := yU (P := P) w t ty e inf.idx (o * 1) n cap' cur inf.ty k m hu hzr hcur h0 hfit
   have ho' : c.own inf.idx := ⟨b, inf, hm, hv, rfl⟩
   obtain ⟨nv, hnv⟩ : ∃ nv : List Value, nv = List.replicate n (.int k m) := ⟨_, rfl⟩
   have hnl : nv.length = n := by rw [hnv]; simp
   rw [← hnv] at hrun
   rw [show o * 1 + n = o * 1 + nv.length by rw [hnl]] at hrun
   have hstep := Step.setRow (c := c) (w := w) ho' (cur.toList.take (o * 1) ++ nv ++ cur.toList.drop (o * 1 + nv.length)).toArray
   have hon' : o ≤ blk.elems.length := by omega
   obtain ⟨ys, hys⟩ : ∃ ys : List AV, ys = List.replicate n (AV.int k m) := ⟨_, rfl⟩
   have hyl : ys.length = n := by rw [hys]; simp
   have hy1 : ∀ y ∈ ys, y.cells.length = 1 := fun y hy => by rw [hys] at hy; rw [List.eq_of_mem_replicate hy]; rfl
   have hcl : Cells1 c (flat ys) nv := by
    have hf : flat ys = ys := zR fun y hy => by rw [hys] at hy; rw [List.eq_of_mem_replicate hy]; rfl
    rw [hf]
    refine ⟨⟨by rw [hyl, hnl], fun i x v hx hv => ?_⟩, fun v hv => ?_⟩
    ·rw [hys] at hx
     rw [hnv] at hv
     rw [List.eq_of_mem_replicate (List.mem_of_getElem? hx), List.eq_of_mem_replicate (List.mem_of_getElem? hv)]
     exact .int _ _
    ·rw [hnv] at hv
     rw [List.eq_of_mem_replicate hv]; rfl
   rw [← hys]
   obtain ⟨hzz, hgc⟩ := oK hxx (by rw [hbs]; exact hy1) hon' hxc hcl
   have hlen' : (blk.elems.take o ++ (ys ++ blk.elems.drop (o + ys.length))).length = blk.elems.length := by
    simp only [List.length_append, List.length_take, List.length_drop]; omega
   refine ⟨_, _, hrun, hstep, hg.world hstep, hH.set hm hv (CBlk.to ?_), unit, fun _ h => h⟩
   refine CBlk.ofFlat (cur := (cur.toList.take (o * 1) ++ nv ++ cur.toList.drop (o * 1 + nv.length)).toArray) (vals := (cur.toList.take (blk.elems.length * blk.sz)).take (o * blk.sz) ++ (nv ++ (cur.toList.take (blk.elems.length * blk.sz)).drop (o * blk.sz + nv.length)))
    hB.ty hB.sz hB.pos (by rw [hlen']; exact hB.len) (by rw [hlen']; exact hB.fits) hv hB.big (setRow_heap w _ cur _ _ _ hcur) ?_ hzz hgc ?_
   ·rw [← hcs]
    simp only [List.size_toArray, List.length_append, List.length_take, List.length_drop, Array.length_toList]
    omega
   ·intro k v hk
    rw [hbs, Nat.mul_one, Nat.mul_one] at hk
    rw [hbs, Nat.mul_one] at hxfit
    simp only [Nat.mul_one] at hfit ⊢
    rw [List.append_assoc]
    have l0 : ((cur.toList.take blk.elems.length).take o) = cur.toList.take o := by rw [List.take_take, Nat.min_eq_left hon']
    rw [l0] at hk
    have ll : (cur.toList.take o).length = o := by simp; omega
    by_cases q : k < o
    ·rw [List.getElem?_append_left (by omega)] at hk ⊢; exact hk
    ·rw [List.getElem?_append_right (by omega)] at hk ⊢
     rw [ll] at hk ⊢
     by_cases q2 : k - o < nv.length
     ·rw [List.getElem?_append_left q2] at hk ⊢; exact hk
     ·rw [List.getElem?_append_right (by omega)] at hk ⊢
      rw [List.getElem?_drop, List.getElem?_take] at hk
      rw [List.getElem?_drop]
      split at hk
      ·exact hk
      ·cases hk
 ·cases h
theorem pV {P : Program} {ts : Array Nat} {d r : AV} {H H' : aA} (h : vY P ts d H = some (r, H')) : H'.length = H.length := by
 unfold vY at h
 (repeat' split at h) <;> first | (cases h; done) | (unfold oD at h; (repeat' split at h) <;> first | (cases h; done) | (simp only [Option.some.injEq, Prod.mk.injEq] at h; obtain ⟨_, rfl⟩ := h; simp))
mutual
def bP : AV → Bool
 | .ptr .. => false
 | .sl .. => false
 | .fn _ caps => dK caps
 | .iface _ v => bP v
 | .agg cs => dK cs
 | .tup vs => dK vs
 | .ro _ xs => dK xs
 | .rp _ x _ => bP x
 | .undef => true
 | .bool _ => true
 | .int .. => true
 | .str _ => true
 | .nilp => true
 | .nilf => true
 | .nili => true
 | .gl _ => true
 | .gp _ => true
 | .nils => true
 | .anyb => true
 | .mp _ => false
 | .emp => true
def dK : List AV → Bool
 | [] => true
 | x :: xs => bP x && dK xs
end
mutual
def dV : AV → Bool
 | .ptr .. => false
 | .sl .. => false
 | .fn _ caps => fW caps
 | .iface _ v => dV v
 | .agg cs => fW cs
 | .tup vs => fW vs
 | .ro bor xs => !bor && fW xs
 | .rp bor x _ => !bor && dV x
 | .undef => true
 | .bool _ => true
 | .int .. => true
 | .str _ => true
 | .nilp => true
 | .nilf => true
 | .nili => true
 | .gl _ => true
 | .gp _ => true
 | .nils => true
 | .anyb => true
 | .mp _ => false
 | .emp => true
def fW : List AV → Bool
 | [] => true
 | x :: xs => dV x && fW xs
end
theorem gT : ∀ {xs : List AV} (_ : dK xs = true) {i : Nat} {x : AV} (_ : xs[i]? = some x), bP x = true
 | [], _, _, _, hx => by simp at hx
 | y :: xs, h, i, x, hx => by
  simp only [dK, Bool.and_eq_true] at h
  cases i with
  | zero => simp at hx; subst hx; exact h.1
  | succ i => simp at hx; exact gT h.2 hx
theorem iY : ∀ {xs : List AV} (_ : fW xs = true) {i : Nat} {x : AV} (_ : xs[i]? = some x), dV x = true
 | [], _, _, _, hx => by simp at hx
 | y :: xs, h, i, x, hx => by
  simp only [fW, Bool.and_eq_true] at h
  cases i with
  | zero => simp at hx; subst hx; exact h.1
  | succ i => simp at hx; exact iY h.2 hx
theorem kZ {α : Type} (e : α → AV) (h : ∀ a, bP (e a) = true) : ∀ xs : List α, dK (xs.map e) = true
 | [] => rfl
 | x :: xs => by simp [dK, h x, kZ e h xs]
theorem iN {α : Type} (e : α → AV) (h : ∀ a, dV (e a) = true) : ∀ xs : List α, fW (xs.map e) = true
 | [] => rfl
 | x :: xs => by simp [fW, h x, iN e h xs]
theorem lP {x : AV} (h : bP x = true) : dK x.cells = true := by
 cases x <;> simp_all [AV.cells, dK, bP]
theorem tL {x : AV} (h : dV x = true) : fW x.cells = true := by
 cases x <;> simp_all [AV.cells, fW, dV]
theorem Rel.plain {c c' : Ctx} (hM : ∀ a v, c.M a = some v → c'.M a = some v) (hB : ∀ a v, c.B a = some v → c'.B a = some v) (hS : c'.S = c.S) {x : AV} {v : Value} (h : Rel c x v) :
  bP x = true → Rel c' x v := by
 have hmem : ∀ bor a v, c.mem bor a = some v → c'.mem bor a = some v := fun bor a v => by cases bor <;> simp only [Ctx.mem]; exact hM a v; exact hB a v
 induction h with
 | undef v => exact fun _ => .undef v
 | bool b => exact fun _ => .bool b
 | int k n => exact fun _ => .int k n
 | str s => exact fun _ => .str s
 | nilp => exact fun _ => .nilp
 | nilf => exact fun _ => .nilf
 | nili => exact fun _ => .nili
 | fn hl _ ih => exact fun hp => .fn hl (fun i x v h1 h2 => ih i x v h1 h2 (gT (by simpa [bP] using hp) h1))
 | iface _ ih => exact fun hp => .iface (ih (by simpa [bP] using hp))
 | agg hl _ h1 ih => exact fun hp => .agg hl (fun i x v h1 h2 => ih i x v h1 h2 (gT (by simpa [bP] using hp) h1)) h1
 | tup hl _ ih => exact fun hp => .tup hl (fun i x v h1 h2 => ih i x v h1 h2 (gT (by simpa [bP] using hp) h1))
 | ptr => exact fun hp => by simp [bP] at hp
 | ptrStale => exact fun hp => by simp [bP] at hp
 | sl => exact fun hp => by simp [bP] at hp
 | slVirt => exact fun hp => by simp [bP] at hp
 | slStale => exact fun hp => by simp [bP] at hp
 | ro hn hcap ha hA hsz _ hm ih =>
  intro hp
  refine .ro hn hcap ha hA hsz (fun i x j y h1 h2 => ih i x j y h1 h2 ?_) (fun i x j y h1 h2 => ⟨hmem _ _ _ (hm i x j y h1 h2).1, (hm i x j y h1 h2).2⟩)
  exact gT (lP (gT (by simpa [bP] using hp) h1)) h2
 | rp _ hm ih =>
  intro hp
  refine .rp (fun j y h1 => ih j y h1 ?_) (fun j y h1 => ⟨hmem _ _ _ (hm j y h1).1, (hm j y h1).2⟩)
  exact gT (lP (by simpa [bP] using hp)) h1
 | gl g => exact fun _ => .gl g
 | gp h => exact fun _ => .gp (by rw [hS]; exact h)
 | nils => exact fun _ => .nils
 | anyb b => exact fun _ => .anyb b
 | mp => exact fun hp => by simp [bP] at hp
 | emp a => exact fun _ => .emp a
theorem Rel.clean {c c' : Ctx} (hM : ∀ a v, c.M a = some v → c'.M a = some v) (hS : c'.S = c.S) {x : AV} {v : Value} (h : Rel c x v) :
  dV x = true → Rel c' x v := by
 induction h with
 | undef v => exact fun _ => .undef v
 | bool b => exact fun _ => .bool b
 | int k n => exact fun _ => .int k n
 | str s => exact fun _ => .str s
 | nilp => exact fun _ => .nilp
 | nilf => exact fun _ => .nilf
 | nili => exact fun _ => .nili
 | fn hl _ ih => exact fun hp => .fn hl (fun i x v h1 h2 => ih i x v h1 h2 (iY (by simpa [dV] using hp) h1))
 | iface _ ih => exact fun hp => .iface (ih (by simpa [dV] using hp))
 | agg hl _ h1 ih => exact fun hp => .agg hl (fun i x v h1 h2 => ih i x v h1 h2 (iY (by simpa [dV] using hp) h1)) h1
 | tup hl _ ih => exact fun hp => .tup hl (fun i x v h1 h2 => ih i x v h1 h2 (iY (by simpa [dV] using hp) h1))
 | ptr => exact fun hp => by simp [dV] at hp
 | ptrStale => exact fun hp => by simp [dV] at hp
 | sl => exact fun hp => by simp [dV] at hp
 | slVirt => exact fun hp => by simp [dV] at hp
 | slStale => exact fun hp => by simp [dV] at hp
 | ro hn hcap ha hA hsz _ hm ih =>
  intro hp
  simp only [dV, Bool.and_eq_true, Bool.not_eq_true'] at hp
  obtain ⟨hb, hp⟩ := hp
  subst hb
  refine .ro hn hcap ha hA hsz (fun i x j y h1 h2 => ih i x j y h1 h2 ?_) (fun i x j y h1 h2 => ⟨hM _ _ (hm i x j y h1 h2).1, (hm i x j y h1 h2).2⟩)
  exact iY (tL (iY hp h1)) h2
 | rp _ hm ih =>
  intro hp
  simp only [dV, Bool.and_eq_true, Bool.not_eq_true'] at hp
  obtain ⟨hb, hp⟩ := hp
  subst hb
  refine .rp (fun j y h1 => ih j y h1 ?_) (fun j y h1 => ⟨hM _ _ (hm j y h1).1, (hm j y h1).2⟩)
  exact iY (tL hp) h1
 | gl g => exact fun _ => .gl g
 | gp h => exact fun _ => .gp (by rw [hS]; exact h)
 | nils => exact fun _ => .nils
 | anyb b => exact fun _ => .anyb b
 | mp => exact fun hp => by simp [dV] at hp
 | emp a => exact fun _ => .emp a
structure Ret (G : aC) (c : Ctx) (w : World) (r : AV) (H' : aA) (v : Value) (w' : World) (c' : Ctx) : Prop where
 step : Step c w c' w'
 good : Good G c' w'
 heap : HeapAt c' H' w'
 dom : uP c' H'
 rel : Rel c' r v
abbrev cK := List AV → aA → Option (AV × aA)
structure Sound (P : Program) (G : aC) (f : Nat) (g : cK) : Prop where
 here : ∃ fn, P.funcs[f]? = some fn ∧ fn.body.isSome = true ∧ (fn.name == "runtime.NumGoroutine") = false
 calls : ∀ args H r H', g args H = some (r, H') → ∀ c w vs, Good G c w → HeapAt c H w → uP c H → iB c args vs →
  Calls P f vs.toArray w (fun e w' => ∃ v c', e = .returned v ∧ Ret G c w r H' v w' c')
theorem Sound.mono {P : Program} {G : aC} {f : Nat} {g g' : cK} (h : Sound P G f g) (hg : ∀ args H x, g' args H = some x → g args H = some x) : Sound P G f g' :=
 ⟨h.here, fun args H r H' hr => h.calls args H r H' (hg _ _ _ hr)⟩
def aAf : List AV → List AV
 | [] => []
 | x :: xs => (if bP x then x else .undef) :: aAf xs
theorem sQ : ∀ (xs : List AV) (j : Nat) (z : AV), (aAf xs)[j]? = some z → ∃ y, xs[j]? = some y ∧ bP z = true ∧ (z = y ∨ z = .undef)
 | [], j, z, h => by simp [aAf] at h
 | x :: xs, 0, z, h => by
  simp [aAf] at h
  refine ⟨x, rfl, ?_⟩
  by_cases hp : bP x = true
  ·rw [if_pos hp] at h; subst h; exact ⟨hp, .inl rfl⟩
  ·rw [if_neg hp] at h; subst h; exact ⟨rfl, .inr rfl⟩
 | x :: xs, j + 1, z, h => by
  simp [aAf] at h
  exact sQ xs j z h
def uI (H : aA) (x : AV) : Option AV :=
 match x with
 | .sl b L o n sz => match fN (.sl b L o n sz) H with
  | some ys => if dK ys && jB sz ys then some (.ro true ys) else none
  | none => none
 | .ptr b L i o => match H[b]? with
  | some blk => if blk.elems.length = L then (match blk.elems[i]? with | some y => if bP y then some (.rp true y o) else (match y with | .agg cs => some (.rp true (.agg (aAf cs)) o) | _ => none) | none => none) else none
  | none => none
 | x => if bP x then some x else none
def jX (H : aA) : List AV → Option (List AV)
 | [] => some []
 | x :: xs => match uI H x, jX H xs with
  | some y, some ys => some (y :: ys)
  | _, _ => none
def aBt (H : aA) (x : AV) : Option AV :=
 match x with
 | .agg cs => (jX H cs).map .agg
 | x => uI H x
def mQ (H : aA) : List AV → Option (List AV)
 | [] => some []
 | x :: xs => match aBt H x, mQ H xs with
  | some y, some ys => some (y :: ys)
  | _, _ => none
def aJ (g : cK) (args : List AV) (H : aA) : Option (AV × aA) :=
 match mQ H args with
 | some as => match g as [] with
  | some (r, []) => if dV r then some (r, H) else none
  | _ => none
 | none => none
def Ctx.bare (c : Ctx) (w : World) : Ctx := { m := fun _ => none, M := c.M, B := fun a => w.cell? a, S := c.S }
theorem uJ {G : aC} {c : Ctx} {w : World} {H : aA} (hg : Good G c w) (hH : HeapAt c H w) {x y : AV} (h : uI H x = some y) {v : Value} (hx : Rel c x v) : Rel (c.bare w) y v := by
 have pl : ∀ (z : AV) (u : Value), Rel c z u → bP z = true → Rel (c.bare w) z u := fun z u hz hp => Rel.plain (c := c) (c' := c.bare w) (fun _ _ h => h) (fun a v h => hg.holds a v h) rfl hz hp
 unfold uI at h
 split at h
 ·rename_i b L o n sz
  split at h
  case h_2 => cases h
  rename_i ys hys
  split at h
  case isFalse => cases h
  rename_i hp
  simp only [Bool.and_eq_true] at hp
  simp at h; subst h
  obtain ⟨a, m, cap, rfl, hl, hcap, hcells⟩ := iU hys hg hH hx hp.2
  rcases hcells with rfl | ⟨A, rfl, hA, hcells⟩
  ·simp at hl; subst hl; exact .roNil ..
  ·have hsz : ∀ y ∈ ys, y.cells.length = sz := fun y hy => by have := List.all_eq_true.1 hp.2 y hy; simpa using this
   have get : ∀ (i : Nat) (z : AV) (j : Nat) (y : AV), ys[i]? = some z → z.cells[j]? = some y → ∃ u, w.cell? ⟨A.block, A.off + i * sz + j, none⟩ = some u ∧ Rel c y u ∧ u.oneCell' = true := by
    intro i z j y hz hy
    have hj : j < sz := by rw [← hsz z (List.mem_of_getElem? hz)]; exact (List.getElem?_eq_some_iff.1 hy).1
    have := hcells (i * sz + j) y (by rw [mG hsz hz hj]; exact hy)
    rwa [← Nat.add_assoc] at this
   refine .ro (A := A) (V := fun i j => (w.cell? ⟨A.block, A.off + i * sz + j, none⟩).getD default) (sz := sz) hl hcap (.inr rfl) hA (fun i z hz => hsz z (List.mem_of_getElem? hz)) (fun i z j y hz hy => ?_) (fun i z j y hz hy => ?_)
   ·obtain ⟨u, g1, g2, g3⟩ := get i z j y hz hy
    simp only [g1, Option.getD_some]
    exact pl _ _ g2 (gT (lP (gT hp.1 hz)) hy)
   ·obtain ⟨u, g1, g2, g3⟩ := get i z j y hz hy
    simp only [g1, Option.getD_some]
    exact ⟨g1, g3⟩
 ·rename_i b L i o
  split at h
  case h_2 => cases h
  rename_i blk hb
  split at h
  case isFalse => cases h
  rename_i hL
  split at h
  case h_2 => cases h
  rename_i y hy
  split at h
  case isFalse =>
   cases y with
   | agg cs =>
    simp at h; subst h
    cases hx with
    | ptrStale a hm hl => have := hH.valid hb hm; omega
    | ptr hm hl hv hz =>
     rename_i inf
     have hB := ((hH.blk _ _ _ hb hm).cb hz).at hv hy
     refine .rp (A := ⟨inf.idx, i * inf.sz, none⟩) (V := fun j => (w.cell? ⟨inf.idx, i * inf.sz + j, none⟩).getD default) (fun j z hz => ?_) (fun j z hz => ?_)
     ·obtain ⟨z', hz', hp, e⟩ := sQ _ _ _ hz
      obtain ⟨u, g1, g2, g3⟩ := hB j z' hz'
      simp only [g1, Option.getD_some]
      rcases e with rfl | rfl
      ·exact pl _ _ g2 hp
      ·exact .undef _
     ·obtain ⟨z', hz', hp, e⟩ := sQ _ _ _ hz
      obtain ⟨u, g1, g2, g3⟩ := hB j z' hz'
      simp only [g1, Option.getD_some]
      exact ⟨g1, g3⟩
   | _ => cases h
  rename_i hp
  simp at h; subst h
  cases hx with
  | ptrStale a hm hl => have := hH.valid hb hm; omega
  | ptr hm hl hv hz =>
   rename_i inf
   have hB := ((hH.blk _ _ _ hb hm).cb hz).at hv hy
   refine .rp (A := ⟨inf.idx, i * inf.sz, none⟩) (V := fun j => (w.cell? ⟨inf.idx, i * inf.sz + j, none⟩).getD default) (fun j z hz => ?_) (fun j z hz => ?_)
   ·obtain ⟨u, g1, g2, g3⟩ := hB j z hz
    simp only [g1, Option.getD_some]
    exact pl _ _ g2 (gT (lP hp) hz)
   ·obtain ⟨u, g1, g2, g3⟩ := hB j z hz
    simp only [g1, Option.getD_some]
    exact ⟨g1, g3⟩
 ·split at h
  ·rename_i hp
   simp at h; subst h
   exact pl _ _ hx hp
  ·cases h
theorem nR {G : aC} {c : Ctx} {w : World} {H : aA} (hg : Good G c w) (hH : HeapAt c H w) : ∀ {xs ys : List AV} (_ : jX H xs = some ys) {vs : List Value} (_ : iB c xs vs), iB (c.bare w) ys vs
 | [], ys, h, vs, hx => by
  simp [jX] at h; subst h
  have : vs = [] := List.eq_nil_of_length_eq_zero hx.1.symm
  subst this; exact .nil
 | x :: xs, ys, h, vs, hx => by
  simp only [jX] at h
  split at h
  ·rename_i y ys' h1 h2
   simp at h; subst h
   cases vs with
   | nil => have := hx.1; simp at this
   | cons v vs => exact .cons (uJ hg hH h1 hx.head) (nR hg hH h2 hx.tail)
  ·cases h
theorem aDX {G : aC} {c : Ctx} {w : World} {H : aA} (hg : Good G c w) (hH : HeapAt c H w) {x y : AV} (h : aBt H x = some y) {v : Value} (hx : Rel c x v) : Rel (c.bare w) y v := by
 unfold aBt at h
 split at h
 ·obtain ⟨ys, h1, rfl⟩ := Option.map_eq_some_iff.1 h
  obtain ⟨vs, rfl, hr, h1'⟩ := hx.of_agg
  have := nR hg hH h1 hr
  exact .agg this.1 this.2 h1'
 ·exact uJ hg hH h hx
theorem uL {G : aC} {c : Ctx} {w : World} {H : aA} (hg : Good G c w) (hH : HeapAt c H w) : ∀ {xs ys : List AV} (_ : mQ H xs = some ys) {vs : List Value} (_ : iB c xs vs), iB (c.bare w) ys vs
 | [], ys, h, vs, hx => by
  simp [mQ] at h; subst h
  have : vs = [] := List.eq_nil_of_length_eq_zero hx.1.symm
  subst this; exact .nil
 | x :: xs, ys, h, vs, hx => by
  simp only [mQ] at h
  split at h
  ·rename_i y ys' h1 h2
   simp at h; subst h
   cases vs with
   | nil => have := hx.1; simp at this
   | cons v vs => exact .cons (aDX hg hH h1 hx.head) (uL hg hH h2 hx.tail)
  ·cases h
theorem qZ {k : Int} : ∀ (es : List MapEntry) (n : Nat), (∀ e ∈ es, ∃ m : Int, e.key = .int .i64 m ∧ m ≠ k) → Instr.findNow (.int .i64) (.int .i64 k) es n = some none
 | [], n, _ => rfl
 | e :: es, n, h => by
  obtain ⟨m, e1, e2⟩ := h e (by simp)
  simp only [Instr.findNow, Instr.sameNow, e1, if_true]
  have : (k == m) = false := by simpa using Ne.symm e2
  simp only [this]
  exact qZ es (n + 1) (fun e he => h e (by simp [he]))
theorem pY {k : Int} : ∀ (es : List MapEntry) (n j : Nat) (v : Value), (∀ e ∈ es, ∃ m : Int, e.key = .int .i64 m) → Instr.findNow (.int .i64) (.int .i64 k) es n = some (some (j, v)) →
  n ≤ j ∧ ∃ e, es[j - n]? = some e ∧ e.key = .int .i64 k ∧ e.val = v
 | [], n, j, v, _, h => by simp [Instr.findNow] at h
 | e :: es, n, j, v, hk, h => by
  obtain ⟨m, e1⟩ := hk e (by simp)
  simp only [Instr.findNow, Instr.sameNow, e1, if_true] at h
  by_cases q : k = m
  ·subst q
   simp at h
   obtain ⟨rfl, rfl⟩ := h
   exact ⟨Nat.le_refl _, e, by simp, e1, rfl⟩
  ·have : (k == m) = false := by simpa using q
   simp only [this] at h
   obtain ⟨h1, e', h2, h3, h4⟩ := pY es (n + 1) j v (fun e he => hk e (by simp [he])) h
   refine ⟨by omega, e', ?_, h3, h4⟩
   rw [show j - n = (j - (n + 1)) + 1 by omega]
   simpa using h2
theorem tQ {k : Int} (val : Value) (q : Int) : ∀ (es : List MapEntry) (n i : Nat) (e0 : MapEntry), (∀ e ∈ es, ∃ m : Int, e.key = .int .i64 m) → es[i]? = some e0 → e0.key = .int .i64 k →
  Instr.findNow (.int .i64) (.int .i64 k) es n = some (some (n + i, e0.val)) →
  Instr.findNow (.int .i64) (.int .i64 q) (es.modify i fun e => { e with key := .int .i64 k, val := val }) n =
   if q = k then some (some (n + i, val)) else Instr.findNow (.int .i64) (.int .i64 q) es n
 | [], n, i, e0, _, h, _, _ => by simp at h
 | e :: es, n, 0, e0, hk, h, h0, hf => by
  simp at h; subst h
  simp only [List.modify_zero_cons, Instr.findNow, Instr.sameNow, h0, if_true]
  by_cases c : q = k
  ·subst c; simp
  ·have : (q == k) = false := by simpa using c
   simp [this, c]
 | e :: es, n, i + 1, e0, hk, h, h0, hf => by
  obtain ⟨m, e1⟩ := hk e (by simp)
  simp only [List.modify_succ_cons, Instr.findNow, Instr.sameNow, e1, if_true] at hf ⊢
  have km : ¬ (k = m) := fun c => by
   subst c; simp at hf
  have : (k == m) = false := by simpa using km
  simp only [this] at hf
  have ih := tQ val q es (n + 1) i e0 (fun e he => hk e (by simp [he])) (by simpa using h) h0 (by rw [hf, show n + 1 + i = n + (i + 1) by omega])
  rw [ih, show n + 1 + i = n + (i + 1) by omega]
  by_cases c : q = k
  ·subst c; simp [this]
  ·simp only [c, if_false]
theorem nA {k q : Int} {val : Value} {cl : Nat} : ∀ (es : List MapEntry) (n : Nat), (∀ e ∈ es, ∃ m : Int, e.key = .int .i64 m) → Instr.findNow (.int .i64) (.int .i64 k) es n = some none →
  Instr.findNow (.int .i64) (.int .i64 q) (es ++ [{ key := .int .i64 k, val := val, born := cl }]) n =
   if q = k then some (some (n + es.length, val)) else Instr.findNow (.int .i64) (.int .i64 q) es n
 | [], n, _, _ => by
  simp only [List.nil_append, Instr.findNow, Instr.sameNow, if_true]
  by_cases c : q = k
  ·subst c; simp
  ·have : (q == k) = false := by simpa using c
   simp [this, c]
 | e :: es, n, hk, hf => by
  obtain ⟨m, e1⟩ := hk e (by simp)
  simp only [List.cons_append, Instr.findNow, Instr.sameNow, e1, if_true] at hf ⊢
  have km : ¬ (k = m) := fun c => by subst c; simp at hf
  have : (k == m) = false := by simpa using km
  simp only [this] at hf
  have ih := nA (q := q) (val := val) (cl := cl) es (n + 1) (fun e he => hk e (by simp [he])) hf
  rw [ih, List.length_cons, show n + 1 + es.length = n + (es.length + 1) by omega]
  by_cases c : q = k
  ·subst c; simp [this]
  ·simp only [c, if_false]
def aBa (P : Program) (t : Nat) : Bool :=
 match P.underlying t with
 | some (.map k e) => (match P.underlying k with | some (.int .i64) => true | _ => false) && (match lH P e with | some .nils => true | _ => false)
 | _ => false
theorem wQ {P : Program} {t : Nat} (h : aBa P t = true) : ∃ k e, P.underlying t = some (.map k e) ∧ P.underlying k = some (.int .i64) ∧ lH P e = some .nils := by
 unfold aBa at h
 split at h
 ·rename_i k e hk
  simp only [Bool.and_eq_true] at h
  obtain ⟨h1, h2⟩ := h
  split at h1 <;> rename_i h1' <;> try cases h1
  split at h2 <;> rename_i h2' <;> try cases h2
  exact ⟨k, e, hk, h1', h2'⟩
 ·cases h
def aAd (m x : AV) (H : aA) : Option AV :=
 match m with
 | .mp b => match x with
  | .int .i64 n => match H[b]? with
   | some blk => if blk.sz = 0 ∧ 0 ≤ n then blk.elems[n.toNat]? else none
   | none => none
  | _ => none
 | _ => none
def aGy (P : Program) (t : Nat) (m x : AV) (H : aA) : Option AV :=
 match aBa P t with
 | true => aAd m x H
 | false => none
def aEc (m k x : AV) (H : aA) : Option aA :=
 match m with
 | .mp b => match k with
  | .int .i64 n => match H[b]? with
   | some blk => if blk.sz = 0 ∧ 0 ≤ n ∧ n.toNat < blk.elems.length then some (H.set b { blk with elems := blk.elems.set n.toNat x }) else none
   | none => none
  | _ => none
 | _ => none
def aHp (P : Program) (t : Nat) (m k x : AV) (H : aA) : Option aA :=
 match aBa P t with
 | true => aEc m k x H
 | false => none
def sR (H : aA) : AV × aA := (.mp H.length, H ++ [{ ty := 0, sz := 0, elems := [] }])
theorem MBlk.keys {c : Ctx} {inf : Info} {blk : ABlk} {es : List MapEntry} (h : ∀ e ∈ es, ∃ k : Nat, k < blk.elems.length ∧ e.key = .int .i64 k) : ∀ e ∈ es, ∃ m : Int, e.key = .int .i64 m :=
 fun e he => let ⟨k, _, h2⟩ := h e he; ⟨k, h2⟩
theorem jW {P : Program} {k : Nat} (hk : P.underlying k = some (.int .i64)) (b : Bool) (n : Int) (w : World) : (Instr.checkKey b 10000 k (.int .i64 n)).run P w = .ok () w := by
 unfold Instr.checkKey
 simp [run_underlying hk]
theorem kQ {P : Program} {k : Nat} (hk : P.underlying k = some (.int .i64)) (n : Int) (es : List MapEntry) {r : Option (Nat × Value)} (hr : Instr.findNow (.int .i64) (.int .i64 n) es 0 = some r) (w : World) :
  (Instr.findKey k (.int .i64 n) es).run P w = .ok r w := by
 simp [Instr.findKey, run_underlying hk, hr]
theorem kR {P : Program} {w : World} {r : Nat} {es : Array MapEntry} {clock : Nat} (hb : w.heap[r]? = some (.map es clock)) : (getObj r).run P w = .ok (.map es clock) w := by
 simp [getObj, Sem.run, hb]
theorem aCr {P : Program} {G : aC} {t : Nat} {m x r : AV} {H : aA} (h : aGy P t m x H = some r) {c : Ctx} {w : World} (hg : Good G c w) (hH : HeapAt c H w) {vm vx : Value} (hm : Rel c m vm) (hx : Rel c x vx) :
  ∃ v, (Instr.lookup t vm vx false).run P w = .ok v w ∧ Rel c r v := by
 unfold aGy at h
 split at h
 case h_2 => cases h
 rename_i ht
 obtain ⟨k, e, h1, h2, h3⟩ := wQ ht
 unfold aAd at h
 split at h
 case h_2 => cases h
 rename_i b
 split at h
 case h_2 => cases h
 rename_i n
 split at h
 case h_2 => cases h
 rename_i blk hb
 split at h
 case isFalse => cases h
 rename_i hc
 obtain ⟨hz, hn⟩ := hc
 obtain rfl := hx.of_int
 cases hm with
 | mp hmm hv hsz =>
  rename_i inf
  have hB := (hH.blk _ _ _ hb hmm).mp hsz
  obtain ⟨es, clock, r1, r2, r3⟩ := hB.real
  have hnn : ((n.toNat : Nat) : Int) = n := Int.toNat_of_nonneg hn
  obtain ⟨zv, z1, z2⟩ := mS h3 w
  have hz0 : zv = .slice none 0 0 := (z2 c).of_nils
  subst hz0
  have fin : ∀ rr, Instr.findNow (.int .i64) (.int .i64 n) es.toList 0 = some rr → (Instr.lookup t (.map (some inf.idx)) (.int .i64 n) false).run P w = .ok (match rr with | some p => p.2 | none => .slice none 0 0) w := by
   intro rr hrr
   unfold Instr.lookup
   simp only [Sem.run_bind, run_underlying h1, Result.andThen_ok, kR r1, Sem.run_pure, jW h2, kQ h2 _ _ hrr]
   cases rr with
   | none => simp [z1]
   | some p => simp
  rcases r3 n.toNat r h with ⟨a, b⟩ | ⟨j, v, a, b⟩
  ·rw [hnn] at a
   exact ⟨_, fin _ a, b⟩
  ·rw [hnn] at a
   exact ⟨_, fin _ a, b⟩
def World.putMap (w : World) (r : Nat) (o : Obj) : World := { w with heap := w.heap.setIfInBounds r o }
theorem rY (w : World) (r k : Nat) (o : Obj) (h : k ≠ r) : (World.putMap w r o).heap[k]? = w.heap[k]? := by
 simp [World.putMap, Array.getElem?_setIfInBounds_ne (Ne.symm h)]
theorem aCG (w : World) (r : Nat) (o o' : Obj) (h : w.heap[r]? = some o') : (World.putMap w r o).heap[r]? = some o := by
 have : r < w.heap.size := (Array.getElem?_eq_some_iff.1 h).1
 simp [World.putMap, this]
theorem nQ {P : Program} {w : World} {r : Nat} {es : Array MapEntry} {clock : Nat} (hb : w.heap[r]? = some (.map es clock)) (o : Obj) : (setObj r o).run P w = .ok () (World.putMap w r o) := by
 simp [setObj, Sem.run, hb, World.putMap]
theorem Step.putMap {c : Ctx} {w : World} {k : Nat} (ho : c.own k) (o : Obj) : Step c w c (World.putMap w k o) :=
 ⟨.refl c, rfl, rfl, rfl, by simp [World.putMap], fun i _ hn => rY w k i o (fun e => hn (e ▸ ho)), fun _ inf h hv _ => ⟨inf, h, hv, rfl⟩, fun _ _ h => .inl h, fun _ _ h => .inl h⟩
theorem aEb {P : Program} {G : aC} {t : Nat} {m k x : AV} {H H' : aA} (h : aHp P t m k x H = some H') {c : Ctx} {w : World} (hg : Good G c w) (hH : HeapAt c H w)
  {vm vk vx : Value} (hm : Rel c m vm) (hk : Rel c k vk) (hx : Rel c x vx) :
  ∃ w', (Instr.mapUpdate t vm vk vx).run P w = .ok () w' ∧ Step c w c w' ∧ Good G c w' ∧ HeapAt c H' w' := by
 unfold aHp at h
 split at h
 case h_2 => cases h
 rename_i ht
 obtain ⟨kt, e, h1, h2, h3⟩ := wQ ht
 unfold aEc at h
 split at h
 case h_2 => cases h
 rename_i b
 split at h
 case h_2 => cases h
 rename_i n
 split at h
 case h_2 => cases h
 rename_i blk hb
 split at h
 case isFalse => cases h
 rename_i hc
 obtain ⟨hz, hn, hlt⟩ := hc
 simp at h; subst h
 obtain rfl := hk.of_int
 have hnn : ((n.toNat : Nat) : Int) = n := Int.toNat_of_nonneg hn
 cases hm with
 | mp hmm hv hsz =>
  rename_i inf
  have hB := (hH.blk _ _ _ hb hmm).mp hsz
  obtain ⟨es, clock, r1, r2, r3⟩ := hB.real
  have hkeys := MBlk.keys (c := c) (inf := inf) (blk := blk) r2
  have ho : c.own inf.idx := ⟨b, inf, hmm, hv, rfl⟩
  have fin : ∀ (es' : Array MapEntry) (clock' : Nat), (∀ e ∈ es'.toList, ∃ k : Nat, k < blk.elems.length ∧ e.key = .int .i64 k) →
    (∃ j, Instr.findNow (.int .i64) (.int .i64 n) es'.toList 0 = some (some (j, vx))) →
    (∀ q : Int, q ≠ n → Instr.findNow (.int .i64) (.int .i64 q) es'.toList 0 = Instr.findNow (.int .i64) (.int .i64 q) es.toList 0) →
    Step c w c (World.putMap w inf.idx (.map es' clock')) ∧ Good G c (World.putMap w inf.idx (.map es' clock')) ∧ HeapAt c (H.set b { blk with elems := blk.elems.set n.toNat x }) (World.putMap w inf.idx (.map es' clock')) := by
   intro es' clock' k1 ⟨j, k2⟩ k3
   have hstep := Step.putMap (c := c) (w := w) ho (.map es' clock')
   refine ⟨hstep, hg.world hstep, fun b' blk'' inf' hb' hm' => ?_, hH.inj⟩
   have hbl : b < H.length := (List.getElem?_eq_some_iff.1 hb).1
   by_cases e : b = b'
   ·subst e
    obtain rfl := Option.some.inj (hmm.symm.trans hm')
    rw [List.getElem?_set_self hbl] at hb'
    obtain rfl := Option.some.inj hb'
    refine ⟨by simpa using hB.len, fun q => by omega, fun _ => ⟨hB.ty, hB.sz, hB.virt, by simpa using hB.len, es', clock', aCG _ _ _ _ r1, by simpa using k1, fun i y hy => ?_⟩⟩
    by_cases ei : i = n.toNat
    ·subst ei
     rw [List.getElem?_set_self hlt] at hy
     obtain rfl := Option.some.inj hy
     rw [hnn]
     exact .inr ⟨j, vx, k2, hx⟩
    ·rw [List.getElem?_set_ne (Ne.symm ei)] at hy
     have hne : ((i : Nat) : Int) ≠ n := by omega
     rw [k3 _ hne]
     exact r3 i y hy
   ·rw [List.getElem?_set_ne e] at hb'
    exact (hH.blk b' blk'' inf' hb' hm').kept (.refl c) (fun hv' => rY w _ _ _ (fun q => e (hH.inj b b' inf inf' hmm hm' hv hv' q.symm)))
  have old := r3 n.toNat _ (List.getElem?_eq_getElem hlt)
  rw [hnn] at old
  rcases old with ⟨a, _⟩ | ⟨j, v0, a, _⟩
  ·refine ⟨World.putMap w inf.idx (.map (es.push { key := .int .i64 n, val := vx, born := clock }) (clock + 1)), ?_, fin _ _ ?_ ⟨0 + es.toList.length, ?_⟩ ?_⟩
   ·unfold Instr.mapUpdate
    simp only [Sem.run_bind, run_underlying h1, Result.andThen_ok, kR r1, Sem.run_pure, jW h2, kQ h2 _ _ a, nQ r1]
   ·intro e he
    simp only [Array.toList_push, List.mem_append, List.mem_singleton] at he
    rcases he with he | rfl
    ·exact r2 e he
    ·exact ⟨n.toNat, hlt, by rw [hnn]⟩
   ·have := nA (q := n) (val := vx) (cl := clock) es.toList 0 hkeys a
    rw [if_pos rfl] at this
    simpa using this
   ·intro q hq
    have := nA (q := q) (val := vx) (cl := clock) es.toList 0 hkeys a
    rw [if_neg hq] at this
    simpa using this
  ·obtain ⟨_, e0, p1, p2, p3⟩ := pY es.toList 0 j v0 hkeys a
   simp only [Nat.sub_zero] at p1
   have hmod : (es.modify j fun e => { e with key := .int .i64 n, val := vx }).toList = es.toList.modify j fun e => { e with key := .int .i64 n, val := vx } := by simp
   have hset := fun q => tQ (k := n) vx q es.toList 0 j e0 hkeys p1 p2 (by rw [a, p3]; simp)
   have p1' : es[j]? = some e0 := by simpa using p1
   refine ⟨World.putMap w inf.idx (.map (es.modify j fun e => { e with key := .int .i64 n, val := vx }) clock), ?_, fin _ _ ?_ ⟨0 + j, ?_⟩ ?_⟩
   ·unfold Instr.mapUpdate
    have hks : (Instr.keyThatStays (.int .i64 n) (.int .i64 n)).run P w = .ok (.int .i64 n) w := by
     unfold Instr.keyThatStays
     have : Instr.sameBits 10000 (.int .i64 n) (.int .i64 n) = true := by unfold Instr.sameBits; simp
     simp [this]
    simp only [Sem.run_bind, run_underlying h1, Result.andThen_ok, kR r1, Sem.run_pure, jW h2, kQ h2 _ _ a, p1', Option.map_some, Option.getD_some, p2, hks, nQ r1]
   ·intro e he
    rw [hmod] at he
    obtain ⟨i, hi⟩ := List.mem_iff_getElem?.1 he
    rw [List.getElem?_modify] at hi
    obtain ⟨e1, q1, q2⟩ := Option.map_eq_some_iff.1 hi
    by_cases c : j = i
    ·rw [if_pos c] at q2; subst q2; exact ⟨n.toNat, hlt, by simp only [hnn]⟩
    ·rw [if_neg c] at q2; subst q2; exact r2 _ (List.mem_of_getElem? q1)
   ·rw [hmod, hset n, if_pos rfl]
   ·intro q hq
    rw [hmod, hset q, if_neg hq]
theorem uN {P : Program} {t : Nat} {m k x : AV} {H H' : aA} (h : aHp P t m k x H = some H') : H'.length = H.length := by
 unfold aHp aEc at h
 (repeat' split at h) <;> first | (cases h; done) | (simp only [Option.some.injEq] at h; rw [← h]; simp)
theorem aBf {P : Program} {G : aC} {H : aA} {c : Ctx} {w : World} (t : Nat) (hg : Good G c w) (hH : HeapAt c H w) (hn : c.m H.length = none) :
  ∃ v w' c', (Instr.makeMap t none).run P w = .ok v w' ∧ Made G c H w (sR H).1 (sR H).2 v w' c' := by
 have hle := Ctx.push_le (inf := ⟨w.heap.size, 0, 0, 0, 0, false⟩) hn
 refine ⟨.map (some w.heap.size), w.alloc (.map #[] 0), c.push H.length ⟨w.heap.size, 0, 0, 0, 0, false⟩, by simp [Instr.makeMap], Step.push _ hn (fun _ => rfl), hg.push _ hn (fun _ => rfl), hH.push hg hn (fun _ => rfl) ?_,
  Rel.mp (c := c.push H.length ⟨w.heap.size, 0, 0, 0, 0, false⟩) (b := H.length) (inf := ⟨w.heap.size, 0, 0, 0, 0, false⟩) (by simp [Ctx.push]) rfl rfl, fun b hb => by simp [Ctx.push, hb], fun k hk => heap_alloc_old w _ k hk, .inr ⟨_, rfl⟩, fun e => by simp [sR] at e⟩
 exact ⟨rfl, fun q => absurd q (Nat.lt_irrefl 0), fun _ => ⟨rfl, rfl, rfl, rfl, #[], 0, heap_alloc_new w _, by simp, fun i x hx => by simp at hx⟩⟩
def qU (P : Program) (t len : Nat) (parts : List (Nat × AV)) (H : aA) : Option (AV × aA) :=
 match aAN P t len with
 | some _ => match len with
  | 0 => match parts with
   | [] => some (.emp, H)
   | _ => none
  | _ => none
 | none => none
theorem vX {P : Program} {G : aC} {t len : Nat} {parts : List (Nat × AV)} {r : AV} {H H' : aA} (h : qU P t len parts H = some (r, H')) {c : Ctx} {w : World}
  (hg : Good G c w) (hH : HeapAt c H w) {vparts : Array (Nat × Value)} (hp : nY c parts vparts.toList) :
  ∃ v w' c', (Instr.buildSlice t len vparts).run P w = .ok v w' ∧ Made G c H w r H' v w' c' := by
 unfold qU at h
 split at h
 case h_2 => cases h
 rename_i q hb
 obtain ⟨e, s, z⟩ := q
 split at h
 case h_2 => cases h
 split at h
 case h_2 => cases h
 simp only [Option.some.injEq, Prod.mk.injEq] at h
 obtain ⟨rfl, rfl⟩ := h
 obtain ⟨vals, hrun, _⟩ := qT hb (ys := []) (by simp [iV]) (w := w) hp
 exact ⟨_, _, _, hrun, wV hg hH (.cells vals.toArray e) (.emp _)⟩
def aDm (e sz : Nat) (s x : AV) (H : aA) : Option (AV × aA) :=
 match s with
 | .emp => match fN x H with
  | some ys => match jB sz ys with
   | true => match decide (0 < sz ∧ ys.length ≤ 1099511627776) with
    | true => match ys with
     | [] => some (.ro false [], H)
     | y :: ys => some (.sl H.length (ys.length + 1) 0 (ys.length + 1) sz, H ++ [{ ty := e, sz := sz, elems := y :: ys }])
    | false => none
   | false => none
  | none => none
 | .nils => match fN x H with
  | some ys => match jB sz ys with
   | true => match decide (0 < sz ∧ ys.length ≤ 1099511627776) with
    | true => match ys with
     | [] => some (.nils, H)
     | y :: ys => some (.sl H.length (ys.length + 1) 0 (ys.length + 1) sz, H ++ [{ ty := e, sz := sz, elems := y :: ys }])
    | false => none
   | false => none
  | none => none
 | _ => none
def vV (P : Program) (ts : Array Nat) (s x : AV) (H : aA) : Option (AV × aA) :=
 match ts.toList with
 | [t, t'] => if t = t' then
   match P.underlying t with
   | some (.slice e) => match vG P e, tby P e, lH P e with
    | some sz, some by_, some z => if by_ ≤ 128 ∧ z.cells.length = sz ∧ fP z = true then aDm e sz s x H else none
    | _, _, _ => none
   | _ => none
  else none
 | _ => none
theorem Made.drew {G : aC} {c : Ctx} {H : aA} {w : World} {r : AV} {H' : aA} {v : Value} {w' : World} {c' : Ctx} (h : Made G c H w.drew r H' v w' c') : Made G c H w r H' v w' c' :=
 ⟨⟨h.step.le, h.step.os, h.step.tape, h.step.output, h.step.size, h.step.kept, h.step.fresh, h.step.newM, h.step.newB⟩, h.good, h.heap, h.rel, h.same, h.quiet, h.ext, h.keepm⟩
theorem aAy {P : Program} {G : aC} {ts : Array Nat} {ty : Nat} {s x r : AV} {H H' : aA} (h : vV P ts s x H = some (r, H')) {c : Ctx} {w : World} (hg : Good G c w) (hH : HeapAt c H w)
  (hn : H'.length ≠ H.length → c.m H.length = none) {vs vx : Value} (hs : Rel c s vs) (hx : Rel c x vx) :
  ∃ v w' c', (Builtin.append_ ts ty #[vs, vx]).run P w = .ok v w' ∧ Made G c H w r H' v w' c' := by
 unfold vV at h
 split at h
 case h_2 => cases h
 rename_i t t' hts
 split at h
 case isFalse => cases h
 rename_i htt
 subst htt
 have hts' : ts = #[t, t] := by apply Array.ext'; simpa using hts
 subst hts'
 split at h
 case h_2 => cases h
 rename_i e hd
 split at h
 case h_2 => cases h
 rename_i sz by_ z hsz hby hz
 split at h
 case isFalse => cases h
 rename_i hc0
 obtain ⟨hb128, hzl, hzst⟩ := hc0
 unfold aDm at h
 split at h
 case h_3 => cases h
 ·skip
  split at h
  case h_2 => cases h
  rename_i ys hys
  split at h
  case h_2 => cases h
  rename_i hall
  split at h
  case h_2 => cases h
  rename_i hdd
  obtain ⟨hsz0, hbig⟩ := of_decide_eq_true hdd
  obtain ⟨i, zv, hi, hzv, hisz, hzrel⟩ := lT hz hsz
  have hbyi : i.bytes ≤ 128 := by simp [tby, hi] at hby; omega
  obtain ⟨zs, hzs, hzr, hz1⟩ := fV hzst (hzrel c)
  have hzsl : zs.length = sz := by rw [← hzr.1, hzl]
  obtain ⟨a, m, cap2, rfl, hym, _, hya⟩ := iU hys hg hH hx hall
  have hyy : ∀ y ∈ ys, y.cells.length = sz := fun y hy => by have := List.all_eq_true.1 hall y hy; simpa using this
  cases hs with
  | emp ad =>
  split at h
  ·simp only [Option.some.injEq, Prod.mk.injEq] at h
   obtain ⟨rfl, rfl⟩ := h
   simp at hym; subst hym
   refine ⟨_, w, c, kP ty hd hi (some ad) a cap2 (Nat.le_refl 0), ?_⟩
   exact ⟨.refl c w, hg, hH, .roNil .., fun _ _ => rfl, fun _ _ => rfl, .inl rfl, fun _ => rfl⟩
  ·rename_i y ys
   simp only [Option.some.injEq, Prod.mk.injEq] at h
   obtain ⟨rfl, rfl⟩ := h
   obtain ⟨n, hnn⟩ : ∃ n, n = (y :: ys).length := ⟨_, rfl⟩
   have hn0 : 0 < n := by rw [hnn]; simp
   have hlen1 : ys.length + 1 = n := by rw [hnn]; rfl
   rw [hlen1]
   generalize y :: ys = L at *
   subst hym
   obtain ⟨A, rfl, hAs, hAc⟩ := hya.resolve_left (fun q => by rw [q] at hnn; simp at hnn; omega)
   obtain ⟨nv, hnr, hncell, hn1⟩ := hAc.vals
   have hnl : nv.length = L.length * i.size := by rw [← hnr.1, eD hyy, hisz]
   have hnews : ∀ j v, nv[j]? = some v → w.cell? (A.add j) = some v := by
    intro j v hj
    have := hncell j v hj
    obtain ⟨blk', off, spot⟩ := A
    simp only at hAs; subst hAs
    rw [Addr.add_lit]; exact this
   have hrun := run_append_grow (P := P) w t ty e i zv hd hi hzv ad 0 0 [] (by simp) (by simp) A L.length cap2 nv hnl hnews (by omega) (by omega) (growslice_fits (by omega) (by rw [Nat.zero_add]; have := Nat.mul_le_mul hbig hbyi; omega))
   simp only [Nat.zero_add, List.nil_append, Array.empty_append] at hrun
   have hge := grownCap_ge w L.length 0 e
   have hle := grownCap_le_maxLen w L.length 0 e (by simp [maxLen]; omega)
   have hzz : zv.cells.size = sz := by rw [hzs]; simpa using hzsl
   have hvals : (#[] ++ nv.toArray ++ Builtin.zeroCells zv.cells (grownCap w L.length 0 e - L.length)) = (nv ++ (Builtin.zeroCells zv.cells (grownCap w L.length 0 e - L.length)).toList).toArray := by
    apply Array.ext'; simp
   have hrun' : (Builtin.append_ #[t, t] ty #[.slice (some ad) 0 0, .slice (some A) L.length cap2]).run P w = .ok (.slice (some ⟨w.heap.size, 0, none⟩) L.length (grownCap w L.length 0 e))
     (w.drew.alloc (.cells (nv ++ (Builtin.zeroCells zv.cells (grownCap w L.length 0 e - L.length)).toList).toArray e)) := by
    rw [← hvals]; simpa using hrun
   have hstep : Step c w c w.drew := ⟨.refl c, rfl, rfl, rfl, Nat.le_refl _, fun _ _ _ => rfl, fun _ inf h hv _ => ⟨inf, h, hv, rfl⟩, fun _ _ h => .inl h, fun _ _ h => .inl h⟩
   have hgd : Good G c w.drew := hg.world hstep
   have hHd : HeapAt c H w.drew := ⟨fun b blk inf hb hm => (hH.blk b blk inf hb hm).kept (.refl c) (fun _ => rfl), hH.inj⟩
   refine ⟨_, _, _, hrun', Made.drew (mK (cap := grownCap w L.length 0 e) hgd hHd (hn (by simp)) (blk := { ty := e, sz := sz, elems := L }) hsz0 hge hle ?_ (fun k x hk => ⟨hyy x (List.mem_of_getElem? hk), fun j q hq => ?_⟩) ?_)⟩
   ·simp only [List.length_append, Array.length_toList, size_zeroCells, hzz, hnl, hisz, ← Nat.add_mul]
    congr 1; omega
   ·obtain ⟨v, g1, g2, g3⟩ := iG hyy ⟨hnr, hn1⟩ hk hq
    refine ⟨v, ?_, g2, g3⟩
    rw [List.getElem?_append_left (List.getElem?_eq_some_iff.1 g1).1]; exact g1
   ·have := Rel.sl (c := c.push H.length ⟨w.heap.size, grownCap w L.length 0 e, e, sz, L.length, false⟩) (b := H.length) (L := L.length) (o := 0) (n := L.length) (sz := sz) (a := ⟨w.heap.size, 0, none⟩) (cap' := grownCap w L.length 0 e)
     (inf := ⟨w.heap.size, grownCap w L.length 0 e, e, sz, L.length, false⟩) (by simp [Ctx.push]) rfl rfl rfl (by omega) (by simp) hge (.inl (by simp)) hsz0
    rw [hnn]
    exact this
 ·skip
  split at h
  case h_2 => cases h
  rename_i ys hys
  split at h
  case h_2 => cases h
  rename_i hall
  split at h
  case h_2 => cases h
  rename_i hdd
  obtain ⟨hsz0, hbig⟩ := of_decide_eq_true hdd
  obtain ⟨i, zv, hi, hzv, hisz, hzrel⟩ := lT hz hsz
  have hbyi : i.bytes ≤ 128 := by simp [tby, hi] at hby; omega
  obtain ⟨zs, hzs, hzr, hz1⟩ := fV hzst (hzrel c)
  have hzsl : zs.length = sz := by rw [← hzr.1, hzl]
  obtain ⟨a, m, cap2, rfl, hym, _, hya⟩ := iU hys hg hH hx hall
  have hyy : ∀ y ∈ ys, y.cells.length = sz := fun y hy => by have := List.all_eq_true.1 hall y hy; simpa using this
  obtain rfl := hs.of_nils
  skip
  split at h
  ·simp only [Option.some.injEq, Prod.mk.injEq] at h
   obtain ⟨rfl, rfl⟩ := h
   simp at hym; subst hym
   refine ⟨_, w, c, kP ty hd hi none a cap2 (Nat.le_refl 0), ?_⟩
   exact ⟨.refl c w, hg, hH, .nils, fun _ _ => rfl, fun _ _ => rfl, .inl rfl, fun _ => rfl⟩
  ·rename_i y ys
   simp only [Option.some.injEq, Prod.mk.injEq] at h
   obtain ⟨rfl, rfl⟩ := h
   obtain ⟨n, hnn⟩ : ∃ n, n = (y :: ys).length := ⟨_, rfl⟩
   have hn0 : 0 < n := by rw [hnn]; simp
   have hlen1 : ys.length + 1 = n := by rw [hnn]; rfl
   rw [hlen1]
   generalize y :: ys = L at *
   subst hym
   obtain ⟨A, rfl, hAs, hAc⟩ := hya.resolve_left (fun q => by rw [q] at hnn; simp at hnn; omega)
   obtain ⟨nv, hnr, hncell, hn1⟩ := hAc.vals
   have hnl : nv.length = L.length * i.size := by rw [← hnr.1, eD hyy, hisz]
   have hnews : ∀ j v, nv[j]? = some v → w.cell? (A.add j) = some v := by
    intro j v hj
    have := hncell j v hj
    obtain ⟨blk', off, spot⟩ := A
    simp only at hAs; subst hAs
    rw [Addr.add_lit]; exact this
   have hrun := run_append_nil (P := P) w t ty e i zv hd hi hzv A L.length cap2 nv hnl hnews (by omega) (by omega) (by have := Nat.mul_le_mul hbig hbyi; omega)
   have hge := grownCap_ge w L.length 0 e
   have hle := grownCap_le_maxLen w L.length 0 e (by simp [maxLen]; omega)
   have hzz : zv.cells.size = sz := by rw [hzs]; simpa using hzsl
   have hvals : (nv.toArray ++ Builtin.zeroCells zv.cells (grownCap w L.length 0 e - L.length)) = (nv ++ (Builtin.zeroCells zv.cells (grownCap w L.length 0 e - L.length)).toList).toArray := by
    apply Array.ext'; simp
   have hrun' : (Builtin.append_ #[t, t] ty #[.slice none 0 0, .slice (some A) L.length cap2]).run P w = .ok (.slice (some ⟨w.heap.size, 0, none⟩) L.length (grownCap w L.length 0 e))
     (w.drew.alloc (.cells (nv ++ (Builtin.zeroCells zv.cells (grownCap w L.length 0 e - L.length)).toList).toArray e)) := by
    rw [← hvals]; simpa using hrun
   have hstep : Step c w c w.drew := ⟨.refl c, rfl, rfl, rfl, Nat.le_refl _, fun _ _ _ => rfl, fun _ inf h hv _ => ⟨inf, h, hv, rfl⟩, fun _ _ h => .inl h, fun _ _ h => .inl h⟩
   have hgd : Good G c w.drew := hg.world hstep
   have hHd : HeapAt c H w.drew := ⟨fun b blk inf hb hm => (hH.blk b blk inf hb hm).kept (.refl c) (fun _ => rfl), hH.inj⟩
   refine ⟨_, _, _, hrun', Made.drew (mK (cap := grownCap w L.length 0 e) hgd hHd (hn (by simp)) (blk := { ty := e, sz := sz, elems := L }) hsz0 hge hle ?_ (fun k x hk => ⟨hyy x (List.mem_of_getElem? hk), fun j q hq => ?_⟩) ?_)⟩
   ·simp only [List.length_append, Array.length_toList, size_zeroCells, hzz, hnl, hisz, ← Nat.add_mul]
    congr 1; omega
   ·obtain ⟨v, g1, g2, g3⟩ := iG hyy ⟨hnr, hn1⟩ hk hq
    refine ⟨v, ?_, g2, g3⟩
    rw [List.getElem?_append_left (List.getElem?_eq_some_iff.1 g1).1]; exact g1
   ·have := Rel.sl (c := c.push H.length ⟨w.heap.size, grownCap w L.length 0 e, e, sz, L.length, false⟩) (b := H.length) (L := L.length) (o := 0) (n := L.length) (sz := sz) (a := ⟨w.heap.size, 0, none⟩) (cap' := grownCap w L.length 0 e)
     (inf := ⟨w.heap.size, grownCap w L.length 0 e, e, sz, L.length, false⟩) (by simp [Ctx.push]) rfl rfl rfl (by omega) (by simp) hge (.inl (by simp)) hsz0
    rw [hnn]
    exact this
theorem pT {P : Program} {ts : Array Nat} {s x r : AV} {H H' : aA} (h : vV P ts s x H = some (r, H')) : H' = H ∨ ∃ blk, H' = H ++ [blk] := by
 unfold vV aDm at h
 (repeat' split at h) <;> first | (cases h; done) | (simp only [Option.some.injEq, Prod.mk.injEq] at h; obtain ⟨_, rfl⟩ := h; first | exact .inl rfl | exact .inr ⟨_, rfl⟩)
theorem Good.bare {G : aC} {c : Ctx} {w : World} (hg : Good G c w) (hG : ∀ g x, G g = some x → bP x = true) : Good G (c.bare w) w := by
 refine ⟨fun a v h => h, fun a v h => hg.holds _ _ (hg.MB _ _ h), fun k ⟨b, i, h, _⟩ => by simp [Ctx.bare] at h, hg.sent, fun g a h ⟨b, i, h', _⟩ => by simp [Ctx.bare] at h', hg.sentApart, fun g x h => ?_, fun k ⟨b, i, h, _⟩ => by simp [Ctx.bare] at h, hg.tab⟩
 obtain ⟨v, h1, h2⟩ := hg.glob g x h
 exact ⟨v, h1, Rel.plain (c := c) (c' := c.bare w) (fun _ _ h => h) (fun a v h => hg.holds a v h) rfl h2 (hG g x h)⟩
def Ctx.after (c c1 : Ctx) : Ctx := { m := c.m, M := c1.M, B := fun a => match c1.M a with | some v => some v | none => c.B a, S := c.S }
theorem aDl {G : aC} {c c1 : Ctx} {w w1 : World} (hg : Good G c w) (hs : Step (c.bare w) w c1 w1) (hg1 : Good G c1 w1) : Step c w (c.after c1) w1 ∧ Good G (c.after c1) w1 := by
 have old : ∀ k, k < w.heap.size → w1.heap[k]? = w.heap[k]? := fun k hk => hs.kept k hk (fun ⟨b, i, h, _⟩ => by simp [Ctx.bare] at h)
 have cell : ∀ a v, w.cell? a = some v → w1.cell? a = some v := fun a v h => by
  rw [World.cell?_of_block (w := w) (old _ (block_lt_of_cell h))]; exact h
 have hB : ∀ a v, c.B a = some v → (c.after c1).B a = some v := by
  intro a v h
  simp only [Ctx.after]
  split
  ·rename_i u hu
   have h1 := hg1.holds _ _ (hg1.MB _ _ hu)
   have h2 := cell a v (hg.holds _ _ h)
   rw [h1] at h2; exact h2
  ·exact h
 have newM : ∀ a v, c1.M a = some v → c.M a = some v ∨ w.heap.size ≤ a.block := fun a v h => hs.newM a v h
 have hstep : Step c w (c.after c1) w1 := by
  refine ⟨⟨fun b i hb => ⟨i, hb, rfl, Nat.le_refl _, fun _ => rfl, fun _ => ⟨rfl, rfl⟩⟩, fun a v h => hs.le.M a v h, hB, rfl⟩, hs.os, hs.tape, hs.output, hs.size, fun k hk _ => old k hk, fun _ inf h hv _ => ⟨inf, h, hv, rfl⟩, newM, fun a v h => ?_⟩
  simp only [Ctx.after] at h
  split at h
  ·rename_i u hu
   rcases newM a u hu with h1 | h1
   ·obtain rfl := Option.some.inj h
    exact .inl (hg.MB _ _ h1)
   ·exact .inr h1
  ·exact .inl h
 refine ⟨hstep, hg.step hstep (fun a v h => ?_) (fun a v h => ?_) (fun k hk a ha => ?_) (fun k hk => ?_)⟩
 ·simp only [Ctx.after] at h
  split at h
  ·rename_i u hu
   obtain rfl := Option.some.inj h
   exact hg1.holds _ _ (hg1.MB _ _ hu)
  ·exact cell a v (hg.holds a v h)
 ·simp only [Ctx.after] at h ⊢
  rw [h]
 ·have hk' : c.own k := hk
  have hlt := hg.bound k hk'
  have h1 := hg.away k hk' a ha
  simp only [Ctx.after]
  split
  ·rename_i u hu
   rcases newM a u hu with h2 | h2
   ·rw [hg.MB _ _ h2] at h1; cases h1
   ·omega
  ·exact h1
 ·exact Nat.lt_of_lt_of_le (hg.bound k hk) hs.size
theorem uP.nil {c : Ctx} (h : ∀ b, c.m b = none) : uP c [] := fun b hb => absurd (h b) hb
structure Out (G : aC) (c : Ctx) (H : aA) (w : World) (r : AV) (H' : aA) (v : Value) (w' : World) (c' : Ctx) : Prop where
 step : Step c w c' w'
 good : Good G c' w'
 heap : HeapAt c' H' w'
 rel : Rel c' r v
 dom : uP c H → uP c' H'
structure Quiet (c : Ctx) (H : aA) (w : World) (H' : aA) (w' : World) (c' : Ctx) : Prop where
 kept : ∀ k, k < w.heap.size → w'.heap[k]? = w.heap[k]?
 same : ∀ b, b ≠ H.length → c'.m b = c.m b
 ext : H' = H ∨ ∃ blk, H' = H ++ [blk]
 keepm : H' = H → c'.m H.length = c.m H.length
theorem Made.out {G : aC} {c : Ctx} {H : aA} {w : World} {r : AV} {H' : aA} {v : Value} {w' : World} {c' : Ctx} (h : Made G c H w r H' v w' c') : Out G c H w r H' v w' c' ∧ Quiet c H w H' w' c' := by
 refine ⟨⟨h.step, h.good, h.heap, h.rel, fun hd b hb => ?_⟩, ⟨h.quiet, h.same, h.ext, h.keepm⟩⟩
 by_cases e : b = H.length
 ·subst e
  rcases h.ext with rfl | ⟨blk, rfl⟩
  ·rw [h.keepm rfl] at hb; exact hd _ hb
  ·simp
 ·rw [h.same b e] at hb
  have := hd b hb
  rcases h.ext with rfl | ⟨blk, rfl⟩
  ·exact this
  ·simp; omega
theorem aCB {G : aC} {c : Ctx} {H : aA} {w : World} (hg : Good G c w) (hH : HeapAt c H w) {r : AV} {v : Value} (hr : Rel c r v) : Out G c H w r H v w c ∧ Quiet c H w H w c :=
 ⟨⟨.refl c w, hg, hH, hr, fun hd => hd⟩, ⟨fun _ _ => rfl, fun _ _ => rfl, .inl rfl, fun _ => rfl⟩⟩
theorem xH {P : Program} {G : aC} {f : Nat} {g : cK} (hs : Sound P G f g) (hG : ∀ g x, G g = some x → bP x = true) {args : List AV} {H H' : aA} {r : AV} (h : aJ g args H = some (r, H'))
  {c : Ctx} {w : World} (hg : Good G c w) (hH : HeapAt c H w) {vs : List Value} (ha : iB c args vs) :
  Calls P f vs.toArray w (fun e w' => ∃ v c', e = .returned v ∧ Out G c H w r H' v w' c' ∧ Quiet c H w H' w' c') := by
 unfold aJ at h
 split at h
 case h_2 => cases h
 rename_i as has
 split at h
 case h_2 => cases h
 rename_i r' aEy
 split at h
 case isFalse => cases h
 rename_i hclean
 simp only [Option.some.injEq, Prod.mk.injEq] at h
 obtain ⟨rfl, rfl⟩ := h
 refine (hs.calls as [] r' [] aEy (c.bare w) w vs (hg.bare hG) ⟨by simp, by simp [Ctx.bare]⟩ (uP.nil (fun _ => rfl)) (uL hg hH has ha)).mono fun e w' he => ?_
 obtain ⟨v, c1, rfl, hret⟩ := he
 obtain ⟨h1, h2⟩ := aDl hg hret.step hret.good
 have old : ∀ k, k < w.heap.size → w'.heap[k]? = w.heap[k]? := fun k hk => hret.step.kept k hk (fun ⟨b, i, h, _⟩ => by simp [Ctx.bare] at h)
 have hrel : Rel (c.after c1) r' v := Rel.clean (c := c1) (c' := c.after c1) (fun _ _ h => h) (hret.step.le.S.symm) hret.rel hclean
 exact ⟨v, c.after c1, rfl, ⟨h1, h2, hH.keep h1.le (fun _ _ h => h) (fun k hk => old k (hg.bound k hk)), hrel, fun hd => hd⟩, ⟨old, fun _ _ => rfl, .inl rfl, fun _ => rfl⟩⟩
structure Ann where
 own : Nat → Bool
 nil : Nat → Bool
 keep : Nat → List Nat
 join : Nat → Option (List Nat)
 virt : Nat → List (Nat × Nat × Nat × Nat)
 pt : Nat → Bool
 virtM : Nat → List (Nat × Nat × Nat × Nat × Nat)
 grow : Nat → Bool
 neu : Nat → Bool
def gN (T : Nat → AV) : Operand → AV
 | .tmp t => T t
 | .const v => aEC v
 | .global g => .gl g
 | .func f => .fn f []
def pu (H : aA) (m : Option AV) : Option (AV × aA) :=
 match m with
 | some v => some (v, H)
 | none => none
def rT (x : AV) : Option AV :=
 match x with
 | .ptr b L i o => some (.ptr b L i o)
 | .rp bor x o => some (.rp bor x o)
 | .gl g => some (.gl g)
 | .gp g => some (.gp g)
 | .fn f caps => some (.fn f caps)
 | _ => none
def nE : Operand → Bool
 | .const (.slice none 0 0) => true
 | _ => false
def aCw (P : Program) (t : Nat) (H : aA) : Option (AV × aA) :=
 match P.underlying t with
 | some (.slice e) => match vG P e with
  | some s => if 0 < s then some (.sl H.length 0 0 0 s, H ++ [{ ty := e, sz := s, elems := [] }]) else none
  | none => none
 | _ => none
def sV (ann : Ann) : Option Tmp → Bool
 | some d => ann.nil d
 | none => false
def pZ (P : Program) (ann : Ann) (o : Oper) (x : Operand) (T : Nat → AV) (H : aA) : Option (AV × aA) :=
 match nE x && sV ann o.dst with
 | true => aCw P o.type H
 | false => some (gN T x, H)
def aID (ann : Ann) (o : Oper) : Bool := match o.dst with | some d => ann.own d | none => false
def aJm (ann : Ann) (o : Oper) : Bool := match o.dst with | some d => ann.neu d | none => false
abbrev nT := Nat → Option (Bool × cK)
def dG (g : cK) (args : List AV) (H : aA) : Option (AV × aA) :=
 match g args H with
 | some (r, H') => if H.length ≤ H'.length then some (r, H') else none
 | none => none
def zL (E : nT) (f : Nat) (args : List AV) (H : aA) : Option (AV × aA) :=
 match E f with
 | some (true, g) => aJ g args H
 | some (false, g) => dG g args H
 | none => none
def kX (E : nT) (f : AV) (args : List AV) (H : aA) : Option (AV × aA) :=
 match f with
 | .fn f caps => zL E f (args ++ caps) H
 | _ => none
def aAO (E : nT) (f : AV) (args : List AV) (H : aA) : Option (AV × aA) :=
 match f with
 | .fn f caps => match E f with
  | some (p, g) => match p with
   | true => aJ g (args ++ caps) H
   | false => none
  | none => none
 | _ => none
def sY (ann : Ann) : Operand → Bool
 | .tmp t => ann.pt t
 | _ => false
def tY (P : Program) (G : aC) (E : nT) (ann : Ann) (o : Oper) (T : Nat → AV) (H : aA) : Option (AV × aA) :=
 match o.op with
 | .move x => pZ P ann o x T H
 | .assign x => pZ P ann o x T H
 | .pick c a b => pu H (dL (gN T c) (gN T a) (gN T b))
 | .alloc t => vU P t H
 | .box t x => match aID ann o with
  | true => gD t (gN T x) H
  | false => eE (gN T x) H
 | .build t parts => pu H (aDo P t (parts.toList.map fun p => (p.1, gN T p.2)))
 | .buildSlice t len parts => match aJm ann o with
  | true => qU P t len (parts.toList.map fun p => (p.1, gN T p.2)) H
  | false => lL P (aID ann o) t len (parts.toList.map fun p => (p.1, gN T p.2)) H
 | .load t a => pu H (oM P G t (gN T a) H)
 | .store t a x => match oY P t (gN T a) (gN T x) H with
  | some H' => some (.tup [], H')
  | none => none
 | .nilCheck x => pu H (rT (gN T x))
 | .binOp op t x y _ => pu H (bC P op t (wP x || wP y) (gN T x) (gN T y))
 | .unOp op _ x => pu H (un op (gN T x))
 | .convert s d x => pu H (aGa P s d (gN T x))
 | .makeInterface t x => pu H (aAZ P t (gN T x))
 | .makeFunc fn first captured => match fn with
  | .func f => match first.toList with
   | [] => some (.fn f (captured.toList.map (gN T)), H)
   | _ => none
  | _ => none
 | .makeSlice t l c => gF P t (gN T l) (gN T c) H
 | .makeMap t r => match r with
  | none => some (sR H)
  | some _ => none
 | .lookup t x i ok => match ok with
  | false => pu H (aGy P t (gN T x) (gN T i) H)
  | true => none
 | .mapUpdate t m k x => match aHp P t (gN T m) (gN T k) (gN T x) H with
  | some H' => some (.tup [], H')
  | none => none
 | .slice t x lo hi mx => match mx with
  | none => pu H (aDW P t (gN T x) (lo.map (gN T)) (hi.map (gN T)))
  | some _ => none
 | .fieldAddr t x f => pu H (qH P t (gN T x) f)
 | .field t x f => pu H (aDx P t (gN T x) f)
 | .indexAddr t x i => pu H (qJ P t (gN T x) (gN T i))
 | .index t x i => pu H (aDB P t (gN T x) (gN T i))
 | .typeAssert x _ t ok => pu H (aAA P (gN T x) t ok)
 | .extract x i => pu H (cX (gN T x) i)
 | .call c => match c.callee with
  | .builtin .len => match c.argTypes.toList, c.args.toList with
   | [t], [x] => pu H (aJj P t (gN T x))
   | _, _ => none
  | .builtin .append => match c.args.toList with
   | [s, x] => match aJm ann o with
    | true => vV P c.argTypes (gN T s) (gN T x) H
    | false => mW P c.argTypes (gN T s) (gN T x) H
   | _ => none
  | .builtin .copy => match c.args.toList with
   | [d, x] => aBX P c.argTypes (gN T d) (gN T x) H
   | _ => none
  | .builtin .clear => match c.args.toList with
   | [d] => vY P c.argTypes (gN T d) H
   | _ => none
  | .builtin .min => match c.args.toList with
   | x :: l => pu H (nN aGz (gN T x) (l.map (gN T)))
   | [] => none
  | .builtin .max => match c.args.toList with
   | x :: l => pu H (nN rO (gN T x) (l.map (gN T)))
   | [] => none
  | .value f => match sY ann f with
   | true => aAO E (gN T f) (c.args.toList.map (gN T)) H
   | false => kX E (gN T f) (c.args.toList.map (gN T)) H
  | _ => none
 | _ => none
def gM (ann : Ann) (o : Oper) : Bool :=
 match o.op with
 | .move x => nE x && sV ann o.dst
 | .assign x => nE x && sV ann o.dst
 | .load _ (.global _) => false
 | .load _ _ => true
 | .alloc _ => true
 | .box _ _ => true
 | .buildSlice .. => true
 | .makeSlice .. => true
 | .makeMap .. => true
 | .lookup .. => true
 | .mapUpdate .. => true
 | .store .. => true
 | .call c => match c.callee with
  | .builtin .len => false
  | .builtin .min => false
  | .builtin .max => false
  | _ => true
 | _ => false
def fF (ann : Ann) (pf : Nat → Bool) (o : Oper) : Bool :=
 match o.op with
 | .store .. => true
 | .mapUpdate .. => true
 | .call c => match c.callee with
  | .builtin .append => !(aJm ann o)
  | .builtin .copy => true
  | .builtin .clear => true
  | .builtin _ => false
  | .value f => match f with
   | .func f => !pf f
   | f => !sY ann f
  | _ => true
 | _ => false
def eO (E : nT) (f : Nat) : Bool := match E f with | some (true, _) => true | _ => false
theorem qW {E : nT} {f : AV} {args : List AV} {H : aA} {r : AV × aA} (h : aAO E f args H = some r) : kX E f args H = some r ∧ ∃ fid caps, f = .fn fid caps ∧ eO E fid = true := by
 unfold aAO at h
 split at h
 case h_2 => cases h
 rename_i fid caps
 split at h
 case h_2 => cases h
 rename_i p g hf
 split at h
 ·exact ⟨by simp only [kX, zL, hf]; exact h, fid, caps, rfl, by simp [eO, hf]⟩
 ·cases h
structure EnvSound (P : Program) (G : aC) (E : nT) : Prop where
 sound : ∀ f p g, E f = some (p, g) → Sound P G f g
 glob : ∀ g x, G g = some x → bP x = true
theorem aCx {P : Program} {G : aC} {t : Nat} {r : AV} {H H' : aA} (h : aCw P t H = some (r, H')) {c : Ctx} {w : World} (hg : Good G c w) (hH : HeapAt c H w) (hn : c.m H.length = none) :
  ∃ c', Out G c H w r H' (.slice none 0 0) w c' ∧ Quiet c H w H' w c' := by
 unfold aCw at h
 split at h
 case h_2 => cases h
 rename_i e hd
 split at h
 case h_2 => cases h
 rename_i s hs
 split at h
 case isFalse => cases h
 rename_i hs0
 simp only [Option.some.injEq, Prod.mk.injEq] at h
 obtain ⟨rfl, rfl⟩ := h
 let inf : Info := ⟨0, 0, e, s, 0, true⟩
 have hle := Ctx.push_le (inf := inf) hn
 have hown : ∀ k, (c.push H.length inf).own k → c.own k := fun k hk => by
  rcases Ctx.push_own hk with h | ⟨h, _⟩
  ·exact h
  ·simp [inf] at h
 have hstep : Step c w (c.push H.length inf) w := ⟨hle, rfl, rfl, rfl, Nat.le_refl _, fun _ _ _ => rfl, fun b i hb hv hlt => by
   by_cases e1 : b = H.length
   ·simp [Ctx.push, e1] at hb; subst hb; simp [inf] at hv
   ·simp [Ctx.push, e1] at hb; exact ⟨i, hb, hv, rfl⟩, fun _ _ h => .inl h, fun _ _ h => .inl h⟩
 refine ⟨c.push H.length inf, ⟨hstep, hg.step hstep hg.holds hg.MB (fun k hk a ha => hg.away k (hown k hk) a ha) (fun k hk => hg.bound k (hown k hk)), ⟨fun b blk i hb hm => ?_, fun b b' i i' h1 h2 v1 v2 he => ?_⟩,
  .slVirt (inf := inf) (by simp [Ctx.push]) rfl rfl rfl, fun hd b hb => ?_⟩, ⟨fun _ _ => rfl, fun b hb => by simp [Ctx.push, hb], .inr ⟨_, rfl⟩, fun e => by simp at e⟩⟩
 ·by_cases e1 : b = H.length
  ·subst e1
   simp [Ctx.push] at hm; subst hm
   simp at hb; subst hb
   exact CBlk.to ⟨rfl, rfl, hs0, rfl, by simp, fun _ => rfl, by simp [inf], by simp [inf], by simp [inf]⟩
  ·simp [Ctx.push, e1] at hm
   have hlt : b < H.length := by have := (List.getElem?_eq_some_iff.1 hb).1; simp at this; omega
   rw [List.getElem?_append_left hlt] at hb
   exact (hH.blk b blk i hb hm).kept hle (fun _ => rfl)
 ·by_cases e1 : b = H.length
  ·simp [Ctx.push, e1] at h1; subst h1; simp [inf] at v1
  ·by_cases e2 : b' = H.length
   ·simp [Ctx.push, e2] at h2; subst h2; simp [inf] at v2
   ·simp [Ctx.push, e1] at h1; simp [Ctx.push, e2] at h2
    exact hH.inj b b' i i' h1 h2 v1 v2 he
 ·by_cases e1 : b = H.length
  ·simp [e1]
  ·simp [Ctx.push, e1] at hb
   have := hd b (by simpa using hb)
   simp; omega
theorem cU {P : Program} {o : Oper} {a : Act} {w w' : World} {v : Value} {next : Act → World → Prop} {Q : Exit → Act → World → Prop}
  (h : (execOp a.eval o).run P w = .ok (.value v) w') (k : next (a.put o.dst v) w') : o.wp P a w next Q := by
 unfold Oper.wp; rw [h]; exact k
theorem qO {P : Program} {o : Oper} {a : Act} {w w' : World} {next : Act → World → Prop} {Q : Exit → Act → World → Prop}
  (h : (execOp a.eval o).run P w = .ok .skip w') (k : next (a.put o.dst undef) w') : o.wp P a w next Q := by
 unfold Oper.wp; rw [h]; exact k
theorem aDd {P : Program} {o : Oper} {a : Act} {w : World} {f : Nat} {args : Array Value} {next : Act → World → Prop} {Q : Exit → Act → World → Prop}
  (h : (execOp a.eval o).run P w = .ok (.enter f args) w) {R : Value → World → Prop} (hc : Calls P f args w (fun e w' => ∃ v, e = .returned v ∧ R v w')) (k : ∀ v w', R v w' → next (a.put o.dst v) w') : o.wp P a w next Q := by
 unfold Oper.wp; rw [h, Oper.upon_enter]
 refine hc.mono fun e w' ⟨v, he, hr⟩ => ?_
 subst he
 exact k v w' hr
theorem dY {H H' : aA} {m : Option AV} {r : AV} (h : pu H m = some (r, H')) : m = some r ∧ H' = H := by
 unfold pu at h
 split at h
 ·simp only [Option.some.injEq, Prod.mk.injEq] at h; obtain ⟨rfl, rfl⟩ := h; exact ⟨rfl, rfl⟩
 ·cases h
theorem gA {P : Program} {s : Sem Value} {u : Value} {w w' : World} (h : s.run P w = .ok u w') : ((do pure (Next.value (← s))) : Sem Next).run P w = .ok (.value u) w' := by
 simp [h]
theorem sX {c : Ctx} {T : Nat → AV} {ρ : Operand → Value} (parts : Array (Nat × Operand)) (h : ∀ p ∈ parts, Rel c (gN T p.2) (ρ p.2)) :
  nY c (parts.toList.map fun p => (p.1, gN T p.2)) (parts.map fun (i, x) => (i, ρ x)).toList := by
 refine ⟨by simp, fun k i x j v h1 h2 => ?_⟩
 simp only [List.getElem?_map, Array.toList_map, Option.map_eq_some_iff] at h1 h2
 obtain ⟨p, hp, e1⟩ := h1
 obtain ⟨q, hq, e2⟩ := h2
 rw [hp] at hq
 obtain rfl := Option.some.inj hq
 simp only [Prod.mk.injEq] at e1 e2
 obtain ⟨rfl, rfl⟩ := e1
 obtain ⟨rfl, rfl⟩ := e2
 exact ⟨rfl, h p (by simpa using List.mem_of_getElem? hp)⟩
theorem lB {c : Ctx} {T : Nat → AV} {ρ : Operand → Value} (l : List Operand) (h : ∀ x ∈ l, Rel c (gN T x) (ρ x)) : iB c (l.map (gN T)) (l.map ρ) := by
 induction l with
 | nil => exact .nil
 | cons x l ih => exact .cons (h x (by simp)) (ih (fun y hy => h y (by simp [hy])))
theorem aBo {P : Program} {f : Nat} {w : World} (h : ∃ fn, P.funcs[f]? = some fn ∧ fn.body.isSome = true ∧ (fn.name == "runtime.NumGoroutine") = false) (args : Array Value) :
  (callFunc f args).run P w = .ok (.enter f args) w := by
 obtain ⟨fn, h1, h2, h3⟩ := h
 have h4 : fn.body.isNone = false := by cases hb : fn.body <;> simp_all
 simp only [callFunc, Sem.run_bind, run_program, Result.andThen_ok, h1, h3, h4, Bool.false_eq_true, if_false, Sem.run_pure]
theorem aBV {P : Program} {G : aC} {E : nT} (hE : EnvSound P G E) {f : Nat} {args : List AV} {H H' : aA} {r : AV} (h : zL E f args H = some (r, H')) {c : Ctx} {w : World} (hg : Good G c w) (hH : HeapAt c H w)
  (hd : eO E f = false → uP c H) {vs : List Value} (ha : iB c args vs) :
  (∃ fn, P.funcs[f]? = some fn ∧ fn.body.isSome = true ∧ (fn.name == "runtime.NumGoroutine") = false) ∧
  Calls P f vs.toArray w (fun e w' => ∃ v, e = .returned v ∧ ∃ c', Out G c H w r H' v w' c' ∧ (eO E f = true → Quiet c H w H' w' c')) := by
 unfold zL at h
 split at h
 ·rename_i g hf
  have hs := hE.sound f true g hf
  refine ⟨hs.here, (xH hs hE.glob h hg hH ha).mono fun e w' ⟨v, c', h1, h2, h3⟩ => ⟨v, h1, c', h2, fun _ => h3⟩⟩
 ·rename_i g hf
  have hs := hE.sound f false g hf
  have hp : eO E f = false := by simp [eO, hf]
  unfold dG at h
  split at h
  case h_2 => cases h
  rename_i r1 H1 h1
  split at h
  case isFalse => cases h
  simp only [Option.some.injEq, Prod.mk.injEq] at h
  obtain ⟨rfl, rfl⟩ := h
  refine ⟨hs.here, (hs.calls args H _ _ h1 c w vs hg hH (hd hp) ha).mono fun e w' ⟨v, c', h1, h2⟩ => ⟨v, h1, c', ⟨h2.step, h2.good, h2.heap, h2.rel, fun _ => h2.dom⟩, fun hq => by rw [hp] at hq; cases hq⟩⟩
 ·cases h
theorem mB {P : Program} {t : Nat} {x y : AV} {H H' : aA} (h : oY P t x y H = some H') : H'.length = H.length := by
 unfold oY cH at h
 (repeat' split at h) <;> first | (cases h; done) | (simp only [Option.some.injEq] at h; subst h; simp)
theorem vW {e sz : Nat} {s x r : AV} {H H' : aA} (h : eQ e sz s x H = some (r, H')) : H'.length = H.length := by
 unfold eQ at h
 (repeat' split at h) <;> first | (cases h; done) | (simp only [Option.some.injEq, Prod.mk.injEq] at h; obtain ⟨_, rfl⟩ := h; simp)
theorem oB {P : Program} {ts : Array Nat} {s x r : AV} {H H' : aA} (h : mW P ts s x H = some (r, H')) : H'.length = H.length := by
 unfold mW at h
 (repeat' split at h) <;> first | (cases h; done) | exact vW h
theorem tK {t : Nat} {v r : AV} {H H' : aA} (h : gD t v H = some (r, H')) : H'.length ≠ H.length := by
 unfold gD at h
 split at h
 ·simp only [Option.some.injEq, Prod.mk.injEq] at h; obtain ⟨_, rfl⟩ := h; simp
 ·cases h
theorem rN {P : Program} {t : Nat} {l c r : AV} {H H' : aA} (h : gF P t l c H = some (r, H')) : H'.length ≠ H.length := by
 unfold gF fR at h
 (repeat' split at h) <;> first | (cases h; done) | (simp only [Option.some.injEq, Prod.mk.injEq] at h; obtain ⟨_, rfl⟩ := h; simp)
theorem wZ {x r : AV} (h : rT x = some r) {c : Ctx} {v : Value} (hx : Rel c x v) : r = x ∧ ((∃ a, v = .pointer (some a)) ∨ ∃ f cs, v = .func (.func f) #[] cs) := by
 unfold rT at h
 split at h <;> (try cases h) <;> refine ⟨rfl, ?_⟩ <;> cases hx <;> first | exact .inl ⟨_, rfl⟩ | exact .inr ⟨_, _, rfl⟩
theorem aAi {P : Program} {G : aC} {E : nT} {ann : Ann} {o : Oper} {T : Nat → AV} {H H' : aA} {r : AV} (hE : EnvSound P G E) (h : tY P G E ann o T H = some (r, H'))
  {c : Ctx} {w : World} {a : Act} (hg : Good G c w) (hH : HeapAt c H w) (hn : H'.length ≠ H.length → c.m H.length = none) (hT : ∀ x ∈ o.op.operands, Rel c (gN T x) (a.eval x)) (hd : fF ann (eO E) o = true → uP c H)
  {next : Act → World → Prop} {Q : Exit → Act → World → Prop}
  (K : ∀ v w' c', Out G c H w r H' v w' c' → (fF ann (eO E) o = false → Quiet c H w H' w' c') → next (a.put o.dst v) w') : o.wp P a w next Q := by
 obtain ⟨dst, op, type, pos, after, guard⟩ := o
 have pureK : ∀ v, H' = H → Rel c r v → next (a.put dst v) w := fun v e hr => by
  subst e
  exact K v w c (aCB hg hH hr).1 (fun _ => (aCB hg hH hr).2)
 have madeK : ∀ v w' c', Made G c H w r H' v w' c' → next (a.put dst v) w' := fun v w' c' hm =>
  K v w' c' hm.out.1 (fun _ => hm.out.2)
 have moveK : ∀ x, (op = .move x ∨ op = .assign x) → pZ P ann ⟨dst, op, type, pos, after, guard⟩ x T H = some (r, H') → (Oper.mk dst op type pos after guard).wp P a w next Q := by
  intro x hx hm
  have hxT : Rel c (gN T x) (a.eval x) := hT x (by rcases hx with rfl | rfl <;> simp [Op.operands])
  have run : ∀ v, a.eval x = v → (execOp a.eval (Oper.mk dst op type pos after guard)).run P w = .ok (.value v) w := fun v e => by
   subst e; rcases hx with rfl | rfl <;> rfl
  unfold pZ at hm
  split at hm
  ·rename_i hc
   simp only [Bool.and_eq_true] at hc
   have hx0 : a.eval x = .slice none 0 0 := by
    unfold nE at hc
    split at hc
    ·rfl
    ·simp at hc
   obtain ⟨c', h1, h2⟩ := aCx hm hg hH (hn (by unfold aCw at hm; (repeat' split at hm) <;> first | (cases hm; done) | (simp only [Option.some.injEq, Prod.mk.injEq] at hm; obtain ⟨_, rfl⟩ := hm; simp)))
   exact cU (run _ hx0) (K _ w c' h1 (fun _ => h2))
  ·simp only [Option.some.injEq, Prod.mk.injEq] at hm
   obtain ⟨rfl, rfl⟩ := hm
   exact cU (run _ rfl) (pureK _ rfl hxT)
 cases op <;> simp only [tY] at h <;> try (cases h; done)
 case move x => exact moveK x (.inl rfl) h
 case assign x => exact moveK x (.inr rfl) h
 case pick cc x y =>
  obtain ⟨h1, rfl⟩ := dY h
  have r1 := hT cc (by simp [Op.operands]); have r2 := hT x (by simp [Op.operands]); have r3 := hT y (by simp [Op.operands])
  unfold dL at h1
  split at h1
  case h_2 => cases h1
  rename_i b hb
  rw [hb] at r1
  have e1 := r1.of_bool
  simp at h1; subst h1
  refine cU (v := if b then a.eval x else a.eval y) ?_ (pureK _ rfl ?_)
  ·simp [execOp, e1, asBool]
  ·cases b <;> simpa
 case alloc t =>
  obtain ⟨u, w', c', h1, h2⟩ := aBP (P := P) h hg hH (hn (by unfold vU at h; split at h; exact tK h; cases h))
  exact cU (gA h1) (madeK _ _ _ h2)
 case box t x =>
  have r1 := hT x (by simp [Op.operands])
  split at h
  ·obtain ⟨u, w', c', h1, h2⟩ := aFi (P := P) h hg hH (hn (tK h)) r1
   exact cU (gA h1) (madeK _ _ _ h2)
  ·obtain ⟨u, w', c', h1, h2⟩ := aAM (P := P) (t := t) h hg hH r1
   exact cU (gA h1) (madeK _ _ _ h2)
 case build t parts =>
  obtain ⟨h1, rfl⟩ := dY h
  have hp := sX (c := c) (T := T) (ρ := a.eval) parts (fun p hp => hT p.2 (by simpa [Op.operands] using ⟨p.1, by simpa using hp⟩))
  obtain ⟨v, e1, e2⟩ := qS h1 (w := w) hp
  exact cU (gA e1) (pureK _ rfl e2)
 case buildSlice t len parts =>
  have hp := sX (c := c) (T := T) (ρ := a.eval) parts (fun p hp => hT p.2 (by simpa [Op.operands] using ⟨p.1, by simpa using hp⟩))
  split at h
  ·obtain ⟨v, w', c', e1, e2⟩ := vX h hg hH hp
   exact cU (gA e1) (madeK _ _ _ e2)
  ·obtain ⟨v, w', c', e1, e2⟩ := qV h hg hH hn hp
   exact cU (gA e1) (madeK _ _ _ e2)
 case load t x =>
  obtain ⟨h1, rfl⟩ := dY h
  obtain ⟨v, e1, e2⟩ := oN h1 hg hH (hT x (by simp [Op.operands]))
  exact cU (gA e1) (pureK _ rfl e2)
 case store t x y =>
  split at h
  case h_2 => cases h
  rename_i H1 h1
  simp only [Option.some.injEq, Prod.mk.injEq] at h
  obtain ⟨rfl, rfl⟩ := h
  obtain ⟨w', e1, e2, e3, e4⟩ := sE h1 hg hH (hT x (by simp [Op.operands])) (hT y (by simp [Op.operands]))
  refine qO (w' := w') (by simp [execOp, e1]) (K _ w' c ⟨e2, e3, e4, .tup (vs := []) rfl (by simp), fun hdm b hb => ?_⟩ (fun hw => by simp [fF] at hw))
  have := hdm b hb
  rw [mB h1]
  exact this
 case nilCheck x =>
  obtain ⟨h1, rfl⟩ := dY h
  have r1 := hT x (by simp [Op.operands])
  obtain ⟨rfl, hv⟩ := wZ h1 r1
  refine cU (v := a.eval x) ?_ (pureK _ rfl r1)
  rcases hv with ⟨ad, hv⟩ | ⟨f, cs, hv⟩ <;> simp [execOp, hv]
 case binOp bop t x y yt =>
  obtain ⟨h1, rfl⟩ := dY h
  obtain ⟨v, e1, e2⟩ := zK h1 hg (hT x (by simp [Op.operands])) (hT y (by simp [Op.operands])) x y (fun h => h)
  exact cU (gA e1) (pureK _ rfl e2)
 case unOp uop t x =>
  obtain ⟨h1, rfl⟩ := dY h
  obtain ⟨v, e1, e2⟩ := aCV (P := P) (w := w) h1 (hT x (by simp [Op.operands]))
  exact cU (gA e1) (pureK _ rfl e2)
 case convert sT dT x =>
  obtain ⟨h1, rfl⟩ := dY h
  obtain ⟨v, e1, e2⟩ := tM (w := w) h1 (hT x (by simp [Op.operands]))
  exact cU (gA e1) (pureK _ rfl e2)
 case makeInterface t x =>
  obtain ⟨h1, rfl⟩ := dY h
  obtain ⟨v, e1, e2⟩ := rE (w := w) h1 (hT x (by simp [Op.operands]))
  exact cU (gA e1) (pureK _ rfl e2)
 case makeFunc fn first captured =>
  split at h
  case h_2 => cases h
  rename_i f
  split at h
  case h_2 => cases h
  rename_i hfi
  simp only [Option.some.injEq, Prod.mk.injEq] at h
  obtain ⟨rfl, rfl⟩ := h
  have hf0 : first = #[] := by apply Array.ext'; simpa using hfi
  subst hf0
  have hr := lB (c := c) (T := T) (ρ := a.eval) captured.toList (fun x hx => hT x (by simp [Op.operands]; simpa using hx))
  refine cU (v := .func (.func f) #[] (captured.toList.map a.eval).toArray) ?_ (pureK _ rfl (.fn hr.1 hr.2))
  simp only [execOp, Instr.makeFunc]
  have : captured.map a.eval = (captured.toList.map a.eval).toArray := by apply Array.ext'; simp
  rw [this]
  simp
 case makeSlice t x y =>
  obtain ⟨v, w', c', e1, e2⟩ := mL h hg hH (hn (rN h)) (hT x (by simp [Op.operands])) (hT y (by simp [Op.operands]))
  exact cU (gA e1) (madeK _ _ _ e2)
 case makeMap t r0 =>
  split at h
  case h_2 => cases h
  simp only [Option.some.injEq] at h
  obtain ⟨v, w', c', e1, e2⟩ := aBf (P := P) t hg hH (hn (by have e := congrArg Prod.snd h; simp only at e; rw [← e]; simp [sR]))
  rw [h] at e2
  exact cU (gA (by simpa using e1)) (madeK _ _ _ e2)
 case lookup t x i ok =>
  split at h
  case h_2 => cases h
  obtain ⟨h1, rfl⟩ := dY h
  obtain ⟨v, e1, e2⟩ := aCr h1 hg hH (hT x (by simp [Op.operands])) (hT i (by simp [Op.operands]))
  exact cU (gA e1) (pureK _ rfl e2)
 case mapUpdate t m k x =>
  split at h
  case h_2 => cases h
  rename_i H1 h1
  simp only [Option.some.injEq, Prod.mk.injEq] at h
  obtain ⟨rfl, rfl⟩ := h
  obtain ⟨w', e1, e2, e3, e4⟩ := aEb h1 hg hH (hT m (by simp [Op.operands])) (hT k (by simp [Op.operands])) (hT x (by simp [Op.operands]))
  refine qO (w' := w') (by simp [execOp, e1]) (K _ w' c ⟨e2, e3, e4, .tup (vs := []) rfl (by simp), fun hdm b hb => ?_⟩ (fun hw => by simp [fF] at hw))
  have := hdm b hb
  rw [uN h1]
  exact this
 case slice t x lo hi mx =>
  cases mx with
  | some m => cases h
  | none =>
   obtain ⟨h1, rfl⟩ := dY h
   obtain ⟨v, e1, e2⟩ := sD (w := w) (vlo := lo.map a.eval) (vhi := hi.map a.eval) h1 (hT x (by simp [Op.operands]))
    (fun y hy => by
     obtain ⟨l, rfl, rfl⟩ := Option.map_eq_some_iff.1 hy
     exact ⟨_, rfl, hT l (by simp [Op.operands])⟩) (fun hy => by simpa using hy)
    (fun y hy => by
     obtain ⟨l, rfl, rfl⟩ := Option.map_eq_some_iff.1 hy
     exact ⟨_, rfl, hT l (by simp [Op.operands])⟩) (fun hy => by simpa using hy)
   exact cU (gA e1) (pureK _ rfl e2)
 case fieldAddr t x f =>
  obtain ⟨h1, rfl⟩ := dY h
  obtain ⟨v, e1, e2⟩ := mF (w := w) h1 (hT x (by simp [Op.operands]))
  exact cU (gA e1) (pureK _ rfl e2)
 case field t x f =>
  obtain ⟨h1, rfl⟩ := dY h
  obtain ⟨v, e1, e2⟩ := qY (w := w) h1 (hT x (by simp [Op.operands]))
  exact cU (gA e1) (pureK _ rfl e2)
 case indexAddr t x i =>
  obtain ⟨h1, rfl⟩ := dY h
  obtain ⟨v, e1, e2⟩ := mH (w := w) h1 (hT x (by simp [Op.operands])) (hT i (by simp [Op.operands]))
  exact cU (gA e1) (pureK _ rfl e2)
 case index t x i =>
  obtain ⟨h1, rfl⟩ := dY h
  obtain ⟨v, e1, e2⟩ := rF (w := w) h1 (hT x (by simp [Op.operands])) (hT i (by simp [Op.operands]))
  exact cU (gA e1) (pureK _ rfl e2)
 case typeAssert x xt t ok =>
  obtain ⟨h1, rfl⟩ := dY h
  obtain ⟨v, e1, e2⟩ := pU (w := w) (xt := xt) h1 (hT x (by simp [Op.operands]))
  exact cU (gA e1) (pureK _ rfl e2)
 case extract x i =>
  obtain ⟨h1, rfl⟩ := dY h
  obtain ⟨v, e1, e2⟩ := oG (P := P) (w := w) h1 (hT x (by simp [Op.operands]))
  exact cU (gA e1) (pureK _ rfl e2)
 case call cl =>
  obtain ⟨callee, args, ats⟩ := cl
  have harg : ∀ x ∈ args.toList, Rel c (gN T x) (a.eval x) := fun x hx => hT x (by simp [Op.operands, Call.operands]; right; simpa using hx)
  have hbi : ∀ (b : Builtin) (s : Sem Value) (v : Value) (w' : World), callee = .builtin b → (∀ cs, builtin b ats type cs (args.map a.eval) = (do pure (.value (← s)))) → s.run P w = .ok v w' →
    (execOp a.eval (Oper.mk dst (.call ⟨callee, args, ats⟩) type pos after guard)).run P w = .ok (.value v) w' := by
   intro b s v w' hb hs hr
   subst hb
   simp [execOp, resolve, invoke, hs, hr]
  simp only at h
  split at h
  ·
   split at h
   case h_2 => cases h
   rename_i t x ht hx
   obtain ⟨h1, rfl⟩ := dY h
   have ht' : ats = #[t] := by apply Array.ext'; simpa using ht
   have hx' : args = #[x] := by apply Array.ext'; simpa using hx
   subst ht' hx'
   obtain ⟨v, e1, e2⟩ := wT (w := w) (ty := type) h1 (harg x (by simp))
   exact cU (hbi .len _ v w rfl (fun _ => rfl) (by simpa using e1)) (pureK _ rfl e2)
  ·
   split at h
   case h_2 => cases h
   rename_i s x hx
   have hx' : args = #[s, x] := by apply Array.ext'; simpa using hx
   subst hx'
   split at h
   ·obtain ⟨v, w', c', e1, e2⟩ := aAy (ty := type) h hg hH hn (harg s (by simp)) (harg x (by simp))
    exact cU (hbi .append _ v w' rfl (fun _ => rfl) (by simpa using e1)) (madeK _ _ _ e2)
   rename_i hmk
   obtain ⟨v, w', c', e1, e2⟩ := yQ (ty := type) h hg hH (harg s (by simp)) (harg x (by simp))
   refine cU (hbi .append _ v w' rfl (fun _ => rfl) (by simpa using e1)) (K v w' c' ⟨e2.step, e2.good, e2.heap, e2.rel, fun hdm b hb => ?_⟩ (fun hw => by simp [fF, hmk] at hw))
   rw [oB h]
   exact hdm b (e2.dom b hb)
  ·
   split at h
   case h_2 => cases h
   rename_i s x hx
   have hx' : args = #[s, x] := by apply Array.ext'; simpa using hx
   subst hx'
   obtain ⟨v, w', e1, e2⟩ := aBY (ty := type) h hg hH (harg s (by simp)) (harg x (by simp))
   refine cU (hbi .copy _ v w' rfl (fun _ => rfl) (by simpa using e1)) (K v w' c ⟨e2.step, e2.good, e2.heap, e2.rel, fun hdm b hb => ?_⟩ (fun hw => by simp [fF] at hw))
   rw [qX h]
   exact hdm b hb
  ·
   split at h
   case h_2 => cases h
   rename_i s hx
   have hx' : args = #[s] := by apply Array.ext'; simpa using hx
   subst hx'
   obtain ⟨v, w', e1, e2⟩ := aAP (ty := type) h hg hH (harg s (by simp))
   refine cU (hbi .clear _ v w' rfl (fun _ => rfl) (by simpa using e1)) (K v w' c ⟨e2.step, e2.good, e2.heap, e2.rel, fun hdm b hb => ?_⟩ (fun hw => by simp [fF] at hw))
   rw [pV h]
   exact hdm b hb
  ·
   split at h
   case h_2 => cases h
   rename_i x l hx
   obtain ⟨h1, rfl⟩ := dY h
   have hrel := lB (c := c) (T := T) (ρ := a.eval) l (fun y hy => harg y (by rw [hx]; simp [hy]))
   obtain ⟨v, e1, e2⟩ := kH (P := P) (g := Builtin.min2) (w := w) (fun x y r vx vy hf h1 h2 => tW hf h1 h2) _ _ _ _ _ h1 (harg x (by rw [hx]; simp)) hrel
   refine cU (hbi .min _ v w rfl (fun _ => rfl) ?_) (pureK _ rfl e2)
   simpa [Builtin.min_, hx] using e1
  ·
   split at h
   case h_2 => cases h
   rename_i x l hx
   obtain ⟨h1, rfl⟩ := dY h
   have hrel := lB (c := c) (T := T) (ρ := a.eval) l (fun y hy => harg y (by rw [hx]; simp [hy]))
   obtain ⟨v, e1, e2⟩ := kH (P := P) (g := Builtin.max2) (w := w) (fun x y r vx vy hf h1 h2 => tV hf h1 h2) _ _ _ _ _ h1 (harg x (by rw [hx]; simp)) hrel
   refine cU (hbi .max _ v w rfl (fun _ => rfl) ?_) (pureK _ rfl e2)
   simpa [Builtin.max_, hx] using e1
  ·
   rename_i f
   have hf := hT f (by simp [Op.operands, Call.operands])
   obtain ⟨h, hpf⟩ : kX E (gN T f) (args.toList.map (gN T)) H = some (r, H') ∧ (sY ann f = true → ∃ fid caps, gN T f = .fn fid caps ∧ eO E fid = true) := by
    split at h
    ·obtain ⟨a, b⟩ := qW h
     exact ⟨a, fun _ => b⟩
    ·rename_i hp
     exact ⟨h, fun q => by rw [q] at hp; cases hp⟩
   unfold kX at h
   split at h
   case h_2 => cases h
   rename_i fid caps hfc
   rw [hfc] at hf
   obtain ⟨vs, hv, hr⟩ := hf.of_fn
   have hrel := lB (c := c) (T := T) (ρ := a.eval) args.toList harg
   have hall : iB c (args.toList.map (gN T) ++ caps) (args.toList.map a.eval ++ vs) := by
    refine ⟨by simp [hr.1], fun i x v h1 h2 => ?_⟩
    by_cases hi : i < args.toList.length
    ·rw [List.getElem?_append_left (by simpa using hi)] at h1 h2
     exact hrel.2 _ _ _ h1 h2
    ·rw [List.getElem?_append_right (by simp at hi ⊢; omega)] at h1 h2
     simp only [List.length_map] at h1 h2
     exact hr.2 _ _ _ h1 h2
   have hdm : eO E fid = false → uP c H := by
    intro hp
    refine hd ?_
    simp only [fF]
    cases f with
    | func g =>
     simp [gN] at hfc
     obtain ⟨rfl, rfl⟩ := hfc
     simp [hp]
    | tmp t =>
     cases hq : sY ann (.tmp t) with
     | false => simp [hq]
     | true =>
      obtain ⟨_, _, e, e2⟩ := hpf hq
      rw [hfc] at e
      cases e
      rw [hp] at e2; cases e2
    | const _ => rfl
    | global _ => rfl
   obtain ⟨hhere, aEy⟩ := aBV hE h hg hH hdm hall
   refine aDd (f := fid) (args := (args.toList.map a.eval ++ vs).toArray) ?_ aEy ?_
   ·simp [execOp, resolve, hv, Deferred.ofValue, invoke]
    have := aBo (w := w) hhere (args.map a.eval ++ vs.toArray)
    rw [this]
    congr 2
    apply Array.ext'
    simp
   ·intro v w' ⟨c', h1, h2⟩
    refine K v w' c' h1 (fun hw => h2 ?_)
    simp only [fF] at hw
    cases f with
    | func g =>
     simp [gN] at hfc
     obtain ⟨rfl, rfl⟩ := hfc
     simpa using hw
    | tmp t =>
     obtain ⟨_, _, e, e2⟩ := hpf (by simpa using hw)
     rw [hfc] at e
     cases e
     exact e2
    | const _ => simp [sY] at hw
    | global _ => simp [sY] at hw
  ·cases h
theorem rV {P : Program} {G : aC} {E : nT} {ann : Ann} {o : Oper} {T : Nat → AV} {H H' : aA} {r : AV} (ht : gM ann o = false) (h : tY P G E ann o T H = some (r, H')) :
  H' = H ∧ ∀ (c : Ctx) (w : World) (a : Act), Good G c w → (∀ x ∈ o.op.operands, Rel c (gN T x) (a.eval x)) → ∃ v, (execOp a.eval o).run P w = .ok (.value v) w ∧ Rel c r v := by
 obtain ⟨dst, op, type, pos, after, guard⟩ := o
 have moveK : ∀ x, (op = .move x ∨ op = .assign x) → gM ann ⟨dst, op, type, pos, after, guard⟩ = (nE x && sV ann dst) → pZ P ann ⟨dst, op, type, pos, after, guard⟩ x T H = some (r, H') →
   H' = H ∧ ∀ (c : Ctx) (w : World) (a : Act), Good G c w → (∀ x ∈ op.operands, Rel c (gN T x) (a.eval x)) → ∃ v, (execOp a.eval (Oper.mk dst op type pos after guard)).run P w = .ok (.value v) w ∧ Rel c r v := by
  intro x hx he hm
  rw [ht] at he
  unfold pZ at hm
  simp only [← he] at hm
  simp only [Option.some.injEq, Prod.mk.injEq] at hm
  obtain ⟨rfl, rfl⟩ := hm
  refine ⟨rfl, fun c w a hg hT => ⟨a.eval x, ?_, hT x (by rcases hx with rfl | rfl <;> simp [Op.operands])⟩⟩
  rcases hx with rfl | rfl <;> rfl
 cases op <;> simp only [tY] at h <;> try (cases h; done)
 case move x => exact moveK x (.inl rfl) rfl h
 case assign x => exact moveK x (.inr rfl) rfl h
 case pick cc x y =>
  obtain ⟨h1, rfl⟩ := dY h
  refine ⟨rfl, fun c w a hg hT => ?_⟩
  have r1 := hT cc (by simp [Op.operands]); have r2 := hT x (by simp [Op.operands]); have r3 := hT y (by simp [Op.operands])
  unfold dL at h1
  split at h1
  case h_2 => cases h1
  rename_i b hb
  rw [hb] at r1
  have e1 := r1.of_bool
  simp at h1; subst h1
  refine ⟨if b then a.eval x else a.eval y, ?_, ?_⟩
  ·simp [execOp, e1, asBool]
  ·cases b <;> simpa
 case alloc t => cases ht
 case box t x => cases ht
 case build t parts =>
  obtain ⟨h1, rfl⟩ := dY h
  refine ⟨rfl, fun c w a hg hT => ?_⟩
  have hp := sX (c := c) (T := T) (ρ := a.eval) parts (fun p hp => hT p.2 (by simpa [Op.operands] using ⟨p.1, by simpa using hp⟩))
  obtain ⟨v, e1, e2⟩ := qS h1 (w := w) hp
  exact ⟨v, gA e1, e2⟩
 case buildSlice t len parts => cases ht
 case load t x =>
  cases x with
  | tmp _ => cases ht
  | const _ => cases ht
  | func _ => cases ht
  | global g =>
   obtain ⟨h1, rfl⟩ := dY h
   refine ⟨rfl, fun c w a hg hT => ?_⟩
   unfold oM at h1
   split at h1
   case h_2 => cases h1
   rename_i gg s hag hsz
   simp only [gN, aH] at h1
   split at h1
   ·cases h1
   obtain ⟨v, e1, e2⟩ := hg.glob _ _ h1
   have := hg.holds _ _ (hg.MB _ _ e1)
   refine ⟨v, gA ?_, e2⟩
   simp [Instr.loadAt, Act.eval, Instr.sureAddr, loadVar, kV hag, this]
 case store t x y => cases ht
 case makeMap t r0 => cases ht
 case lookup t x i ok => cases ht
 case mapUpdate t m k x => cases ht
 case nilCheck x =>
  obtain ⟨h1, rfl⟩ := dY h
  refine ⟨rfl, fun c w a hg hT => ?_⟩
  obtain ⟨rfl, hv⟩ := wZ h1 (hT x (by simp [Op.operands]))
  refine ⟨a.eval x, ?_, hT x (by simp [Op.operands])⟩
  rcases hv with ⟨ad, hv⟩ | ⟨f, cs, hv⟩ <;> simp [execOp, hv]
 case binOp bop t x y yt =>
  obtain ⟨h1, rfl⟩ := dY h
  refine ⟨rfl, fun c w a hg hT => ?_⟩
  obtain ⟨v, e1, e2⟩ := zK h1 hg (hT x (by simp [Op.operands])) (hT y (by simp [Op.operands])) x y (fun h => h)
  exact ⟨v, gA e1, e2⟩
 case unOp uop t x =>
  obtain ⟨h1, rfl⟩ := dY h
  refine ⟨rfl, fun c w a hg hT => ?_⟩
  obtain ⟨v, e1, e2⟩ := aCV (P := P) (w := w) h1 (hT x (by simp [Op.operands]))
  exact ⟨v, gA e1, e2⟩
 case convert sT dT x =>
  obtain ⟨h1, rfl⟩ := dY h
  refine ⟨rfl, fun c w a hg hT => ?_⟩
  obtain ⟨v, e1, e2⟩ := tM (w := w) h1 (hT x (by simp [Op.operands]))
  exact ⟨v, gA e1, e2⟩
 case makeInterface t x =>
  obtain ⟨h1, rfl⟩ := dY h
  refine ⟨rfl, fun c w a hg hT => ?_⟩
  obtain ⟨v, e1, e2⟩ := rE (w := w) h1 (hT x (by simp [Op.operands]))
  exact ⟨v, gA e1, e2⟩
 case makeFunc fn first captured =>
  cases fn <;> simp only at h <;> try (cases h; done)
  rename_i f
  split at h
  case h_2 => cases h
  rename_i hfi
  simp only [Option.some.injEq, Prod.mk.injEq] at h
  obtain ⟨rfl, rfl⟩ := h
  refine ⟨rfl, fun c w a hg hT => ?_⟩
  have hf0 : first = #[] := by apply Array.ext'; simpa using hfi
  subst hf0
  have hr := lB (c := c) (T := T) (ρ := a.eval) captured.toList (fun x hx => hT x (by simp [Op.operands]; simpa using hx))
  refine ⟨.func (.func f) #[] (captured.toList.map a.eval).toArray, ?_, .fn hr.1 hr.2⟩
  simp only [execOp, Instr.makeFunc]
  have : captured.map a.eval = (captured.toList.map a.eval).toArray := by apply Array.ext'; simp
  rw [this]
  simp
 case makeSlice t x y => cases ht
 case slice t x lo hi mx =>
  cases mx with
  | some m => cases h
  | none =>
   obtain ⟨h1, rfl⟩ := dY h
   refine ⟨rfl, fun c w a hg hT => ?_⟩
   obtain ⟨v, e1, e2⟩ := sD (w := w) (vlo := lo.map a.eval) (vhi := hi.map a.eval) h1 (hT x (by simp [Op.operands]))
    (fun y hy => by
     obtain ⟨l, rfl, rfl⟩ := Option.map_eq_some_iff.1 hy
     exact ⟨_, rfl, hT l (by simp [Op.operands])⟩) (fun hy => by simpa using hy)
    (fun y hy => by
     obtain ⟨l, rfl, rfl⟩ := Option.map_eq_some_iff.1 hy
     exact ⟨_, rfl, hT l (by simp [Op.operands])⟩) (fun hy => by simpa using hy)
   exact ⟨v, gA e1, e2⟩
 case fieldAddr t x f =>
  obtain ⟨h1, rfl⟩ := dY h
  refine ⟨rfl, fun c w a hg hT => ?_⟩
  obtain ⟨v, e1, e2⟩ := mF (w := w) h1 (hT x (by simp [Op.operands]))
  exact ⟨v, gA e1, e2⟩
 case field t x f =>
  obtain ⟨h1, rfl⟩ := dY h
  refine ⟨rfl, fun c w a hg hT => ?_⟩
  obtain ⟨v, e1, e2⟩ := qY (w := w) h1 (hT x (by simp [Op.operands]))
  exact ⟨v, gA e1, e2⟩
 case indexAddr t x i =>
  obtain ⟨h1, rfl⟩ := dY h
  refine ⟨rfl, fun c w a hg hT => ?_⟩
  obtain ⟨v, e1, e2⟩ := mH (w := w) h1 (hT x (by simp [Op.operands])) (hT i (by simp [Op.operands]))
  exact ⟨v, gA e1, e2⟩
 case index t x i =>
  obtain ⟨h1, rfl⟩ := dY h
  refine ⟨rfl, fun c w a hg hT => ?_⟩
  obtain ⟨v, e1, e2⟩ := rF (w := w) h1 (hT x (by simp [Op.operands])) (hT i (by simp [Op.operands]))
  exact ⟨v, gA e1, e2⟩
 case typeAssert x xt t ok =>
  obtain ⟨h1, rfl⟩ := dY h
  refine ⟨rfl, fun c w a hg hT => ?_⟩
  obtain ⟨v, e1, e2⟩ := pU (w := w) (xt := xt) h1 (hT x (by simp [Op.operands]))
  exact ⟨v, gA e1, e2⟩
 case extract x i =>
  obtain ⟨h1, rfl⟩ := dY h
  refine ⟨rfl, fun c w a hg hT => ?_⟩
  obtain ⟨v, e1, e2⟩ := oG (P := P) (w := w) h1 (hT x (by simp [Op.operands]))
  exact ⟨v, gA e1, e2⟩
 case call cl =>
  obtain ⟨callee, args, ats⟩ := cl
  have hbi : ∀ (a : Act) (w : World) (b : Builtin) (s : Sem Value) (v : Value) (w' : World), callee = .builtin b → (∀ cs, builtin b ats type cs (args.map a.eval) = (do pure (.value (← s)))) → s.run P w = .ok v w' →
    (execOp a.eval (Oper.mk dst (.call ⟨callee, args, ats⟩) type pos after guard)).run P w = .ok (.value v) w' := by
   intro a w b s v w' hb hs hr
   subst hb
   simp [execOp, resolve, invoke, hs, hr]
  cases callee with
  | value f => cases ht
  | invoke rv m => cases h
  | builtin b =>
  cases b <;> simp only at h <;> (first | (cases h; done) | (cases ht; done) | skip)
  case len =>
   split at h
   case h_2 => cases h
   rename_i t x ht' hx
   obtain ⟨h1, rfl⟩ := dY h
   refine ⟨rfl, fun c w a hg hT => ?_⟩
   have harg : ∀ x ∈ args.toList, Rel c (gN T x) (a.eval x) := fun x hx => hT x (by simp [Op.operands, Call.operands]; simpa using hx)
   have ht' : ats = #[t] := by apply Array.ext'; simpa using ht'
   have hx' : args = #[x] := by apply Array.ext'; simpa using hx
   subst ht' hx'
   obtain ⟨v, e1, e2⟩ := wT (w := w) (ty := type) h1 (harg x (by simp))
   exact ⟨v, hbi a w .len _ v w rfl (fun _ => rfl) (by simpa using e1), e2⟩
  case min =>
   split at h
   case h_2 => cases h
   rename_i x l hx
   obtain ⟨h1, rfl⟩ := dY h
   refine ⟨rfl, fun c w a hg hT => ?_⟩
   have harg : ∀ x ∈ args.toList, Rel c (gN T x) (a.eval x) := fun x hx => hT x (by simp [Op.operands, Call.operands]; simpa using hx)
   have hrel := lB (c := c) (T := T) (ρ := a.eval) l (fun y hy => harg y (by rw [hx]; simp [hy]))
   obtain ⟨v, e1, e2⟩ := kH (P := P) (g := Builtin.min2) (w := w) (fun x y r vx vy hf h1 h2 => tW hf h1 h2) _ _ _ _ _ h1 (harg x (by rw [hx]; simp)) hrel
   refine ⟨v, hbi a w .min _ v w rfl (fun _ => rfl) ?_, e2⟩
   simpa [Builtin.min_, hx] using e1
  case max =>
   split at h
   case h_2 => cases h
   rename_i x l hx
   obtain ⟨h1, rfl⟩ := dY h
   refine ⟨rfl, fun c w a hg hT => ?_⟩
   have harg : ∀ x ∈ args.toList, Rel c (gN T x) (a.eval x) := fun x hx => hT x (by simp [Op.operands, Call.operands]; simpa using hx)
   have hrel := lB (c := c) (T := T) (ρ := a.eval) l (fun y hy => harg y (by rw [hx]; simp [hy]))
   obtain ⟨v, e1, e2⟩ := kH (P := P) (g := Builtin.max2) (w := w) (fun x y r vx vy hf h1 h2 => tV hf h1 h2) _ _ _ _ _ h1 (harg x (by rw [hx]; simp)) hrel
   refine ⟨v, hbi a w .max _ v w rfl (fun _ => rfl) ?_, e2⟩
   simpa [Builtin.max_, hx] using e1
theorem aBh {P : Program} {G : aC} {E : nT} {ann : Ann} {o : Oper} {T : Nat → AV} {H H' : aA} {r : AV} (hw : fF ann (eO E) o = false) (h : tY P G E ann o T H = some (r, H')) :
  H' = H ∨ ∃ blk, H' = H ++ [blk] := by
 by_cases ht : gM ann o = false
 ·exact .inl (rV ht h).1
 obtain ⟨dst, op, type, pos, after, guard⟩ := o
 have moveK : ∀ (o : Oper) x, pZ P ann o x T H = some (r, H') → H' = H ∨ ∃ blk, H' = H ++ [blk] := by
  intro o x hm
  unfold pZ aCw at hm
  (repeat' split at hm) <;> first | (cases hm; done) | (simp only [Option.some.injEq, Prod.mk.injEq] at hm; obtain ⟨_, rfl⟩ := hm; first | exact .inl rfl | exact .inr ⟨_, rfl⟩)
 cases op <;> simp only [tY] at h <;> try (cases h; done)
 case move x => exact moveK _ x h
 case assign x => exact moveK _ x h
 case alloc t =>
  unfold vU gD at h
  (repeat' split at h) <;> first | (cases h; done) | (simp only [Option.some.injEq, Prod.mk.injEq] at h; obtain ⟨_, rfl⟩ := h; exact .inr ⟨_, rfl⟩)
 case box t x =>
  unfold gD eE at h
  (repeat' split at h) <;> first | (cases h; done) | (simp only [Option.some.injEq, Prod.mk.injEq] at h; obtain ⟨_, rfl⟩ := h; first | exact .inl rfl | exact .inr ⟨_, rfl⟩)
 case buildSlice t len parts =>
  unfold qU lL gQ dN at h
  (repeat' split at h) <;> first | (cases h; done) | (simp only [Option.some.injEq, Prod.mk.injEq] at h; obtain ⟨_, rfl⟩ := h; first | exact .inl rfl | exact .inr ⟨_, rfl⟩)
 case makeSlice t x y =>
  unfold gF fR at h
  (repeat' split at h) <;> first | (cases h; done) | (simp only [Option.some.injEq, Prod.mk.injEq] at h; obtain ⟨_, rfl⟩ := h; exact .inr ⟨_, rfl⟩)
 case store t x y => cases hw
 case makeMap t r0 =>
  split at h
  ·simp only [Option.some.injEq, sR, Prod.mk.injEq] at h; exact .inr ⟨_, h.2.symm⟩
  ·cases h
 case lookup t x i ok =>
  split at h
  ·exact .inl (dY h).2
  ·cases h
 case mapUpdate t m k x => cases hw
 case makeFunc fn first captured =>
  cases fn <;> simp only at h <;> try (cases h; done)
  split at h
  ·simp only [Option.some.injEq, Prod.mk.injEq] at h; exact .inl h.2.symm
  ·cases h
 case slice t x lo hi mx =>
  cases mx with
  | some m => cases h
  | none => exact .inl (dY h).2
 case call cl =>
  obtain ⟨callee, args, ats⟩ := cl
  cases callee with
  | invoke rv m => cases h
  | builtin b =>
   cases b <;> simp only at h <;> (first | (cases h; done) | (cases hw; done) | skip)
   case append =>
    split at h
    case h_2 => cases h
    split at h
    ·exact pT h
    ·rename_i hmk
     simp [fF, hmk] at hw
   all_goals
    split at h
    ·exact .inl (dY h).2
    ·cases h
  | value f =>
   simp only at h
   split at h
   ·unfold aAO at h
    split at h
    case h_2 => cases h
    split at h
    case h_2 => cases h
    split at h
    ·unfold aJ at h
     (repeat' split at h) <;> first | (cases h; done) | (simp only [Option.some.injEq, Prod.mk.injEq] at h; exact .inl h.2.symm)
    ·cases h
   rename_i hpa
   unfold kX at h
   split at h
   case h_2 => cases h
   rename_i fid caps hfc
   cases f with
   | tmp _ => simp [fF, hpa] at hw
   | const _ => cases hw
   | global _ => cases hw
   | func g =>
    simp [gN] at hfc
    obtain ⟨rfl, rfl⟩ := hfc
    simp only [fF] at hw
    unfold zL at h
    split at h
    ·unfold aJ at h
     (repeat' split at h) <;> first | (cases h; done) | (simp only [Option.some.injEq, Prod.mk.injEq] at h; exact .inl h.2.symm)
    ·rename_i hf; simp [eO, hf] at hw
    ·cases h
 all_goals exact .inl (dY h).2
abbrev TS := Nat → AV
def gd (g : AV) (want : Bool) (H : aA) (m : Option (AV × aA)) : Option (AV × aA) :=
 match g with
 | .bool b => match b == want with
  | true => m
  | false => some (.tup [], H)
 | .tup [] => some (.tup [], H)
 | _ => none
def hY (ops : Array Oper) (j : Nat) : Option Tmp := (ops[j]?).bind (·.dst)
def jJ (P : Program) (G : aC) (E : nT) (ann : Ann) (ops : Array Oper) (o : Oper) (T : TS) (H : aA) : Option (AV × aA) :=
 match o.guard with
 | none => tY P G E ann o T H
 | some (j, want) => match hY ops j with
  | some d => gd (T d) want H (tY P G E ann o T H)
  | none => none
def aE {γ : Type} (m : Option (AV × aA)) (k : AV → aA → Option γ) : Option γ :=
 match m with
 | some (v, H) => k v H
 | none => none
def uS (T : TS) (d : Option Tmp) (v : AV) : TS :=
 match d with
 | some d => fun t => if t = d then v else T t
 | none => T
def kO {γ : Type} (P : Program) (G : aC) (E : nT) (ann : Ann) (ops : Array Oper) : List Oper → (TS → aA → Option γ) → TS → aA → Option γ
 | [], K, T, H => K T H
 | o :: l, K, T, H => aE (jJ P G E ann ops o T H) fun v H' => kO P G E ann ops l K (uS T o.dst v) H'
structure St (G : aC) (c0 : Ctx) (w0 : World) (N B : Nat) (T : TS) (H : aA) (c : Ctx) (a : Act) (w : World) : Prop where
 good : Good G c w
 heap : HeapAt c H w
 dom : uP c H
 step : Step c0 w0 c w
 tmps : ∀ t, Rel c (T t) (a.tmps.getD t undef)
 size : a.tmps.size = N
 defers : a.defers = []
 low : B ≤ H.length
theorem aBm {c : Ctx} {T : TS} {a : Act} {x : Operand} (h : ∀ t, x = .tmp t → Rel c (T t) (a.tmps.getD t undef)) : Rel c (gN T x) (a.eval x) := by
 cases x with
 | tmp t => exact h t rfl
 | const v => exact pN c v
 | global g => exact .gl g
 | func f => exact .fn (vs := []) rfl (by simp)
theorem iX (c : Ctx) : Rel c (.tup []) undef := .tup (vs := []) rfl (by simp)
theorem rB {g : AV} {want : Bool} {H H' : aA} {m : Option (AV × aA)} {v : AV} (h : gd g want H m = some (v, H')) :
  (g = .bool want ∧ m = some (v, H')) ∨ ((g = .bool (!want) ∨ g = .tup []) ∧ v = .tup [] ∧ H' = H) := by
 unfold gd at h
 split at h
 ·rename_i b
  split at h
  ·rename_i hb; simp at hb; subst hb; exact .inl ⟨rfl, h⟩
  ·rename_i hb
   simp only [Option.some.injEq, Prod.mk.injEq] at h
   refine .inr ⟨.inl ?_, h.1.symm, h.2.symm⟩
   cases b <;> cases want <;> simp_all
 ·simp only [Option.some.injEq, Prod.mk.injEq] at h
  exact .inr ⟨.inr rfl, h.1.symm, h.2.symm⟩
 ·cases h
theorem zV {a : Array Value} {t : Nat} {b : Bool} (h : a.getD t undef = .bool b) : a[t]? = some (.bool b) := by
 by_cases ht : t < a.size
 ·rw [Array.getElem?_eq_getElem ht]
  simp [Array.getD, ht] at h
  rw [h]
 ·simp [Array.getD, ht, undef] at h
theorem qA {P : Program} {G : aC} {E : nT} {ann : Ann} {ops : Array Oper} {o : Oper} {T : TS} {H H' : aA} {v : AV} (h : jJ P G E ann ops o T H = some (v, H'))
  {c : Ctx} {a : Act} (hT : ∀ j want d, o.guard = some (j, want) → hY ops j = some d → Rel c (T d) (a.tmps.getD d undef)) :
  (Region.wanted o (yielded ops a.tmps) = true ∧ tY P G E ann o T H = some (v, H')) ∨ (Region.wanted o (yielded ops a.tmps) = false ∧ v = .tup [] ∧ H' = H) := by
 unfold jJ at h
 split at h
 ·rename_i hg
  exact .inl ⟨by simp [Region.wanted, hg], h⟩
 ·rename_i j want hg
  split at h
  case h_2 => cases h
  rename_i d hd
  have hr := hT j want d hg hd
  have hd' : (ops[j]?).bind (·.dst) = some d := hd
  rcases rB h with ⟨e1, e2⟩ | ⟨e1 | e1, e2, e3⟩
  ·rw [e1] at hr
   have := zV hr.of_bool
   exact .inl ⟨by simp [Region.wanted, hg, yielded, hd', this], e2⟩
  ·rw [e1] at hr
   have := zV hr.of_bool
   exact .inr ⟨by simp [Region.wanted, hg, yielded, hd', this], e2, e3⟩
  ·rw [e1] at hr
   obtain ⟨vs, hv, hrl⟩ := hr.of_tup
   have hvs : vs = [] := List.eq_nil_of_length_eq_zero hrl.1.symm
   subst hvs
   refine .inr ⟨?_, e2, e3⟩
   have hy : yielded ops a.tmps j = none := by
    simp only [yielded, hd', Option.bind_some]
    by_cases hlt : d < a.tmps.size
    ·have : a.tmps[d]? = some (.tuple #[]) := by
      rw [Array.getElem?_eq_getElem hlt]
      simp [Array.getD, hlt] at hv
      rw [hv]
     rw [this]
    ·simp [Array.getElem?_eq_none (Nat.le_of_not_lt hlt)]
   simp [Region.wanted, hg, hy]
theorem oV (a : Act) (d : Option Tmp) (v : Value) : (a.put d v).tmps.size = a.tmps.size := by cases d <;> simp [Act.put]
theorem lA (a : Act) (d : Option Tmp) (v : Value) : (a.put d v).defers = a.defers := by cases d <;> rfl
theorem aCH (a : Act) (d : Option Tmp) (v : Value) (h : ∀ t, d = some t → t < a.tmps.size) (t : Nat) : (a.put d v).tmps.getD t undef = if d = some t then v else a.tmps.getD t undef := by
 cases d with
 | none => simp [Act.put]
 | some d =>
  have hd := h d rfl
  by_cases e : d = t
  ·subst e; simp [Act.put, Array.getD, hd]
  ·simp [Act.put, Array.getD_eq_getD_getElem?, Array.getElem?_setIfInBounds_ne e, e]
theorem aEF {P : Program} {G : aC} {E : nT} {ann : Ann} {o : Oper} {T : TS} {H H' : aA} {r : AV} (hop : tY P G E ann o T H = some (r, H')) : H.length ≤ H'.length := by
 by_cases hw : fF ann (eO E) o = false
 ·rcases aBh hw hop with rfl | ⟨blk, rfl⟩
  ·exact Nat.le_refl _
  ·simp
 ·obtain ⟨dst, op, type, pos, after, guard⟩ := o
  cases op <;> first | (exact absurd rfl hw) | skip
  case store t x y =>
   simp only [tY] at hop
   split at hop
   ·rename_i H1 h1
    simp only [Option.some.injEq, Prod.mk.injEq] at hop
    obtain ⟨_, rfl⟩ := hop
    rw [mB h1]; exact Nat.le_refl _
   ·cases hop
  case mapUpdate t m k x =>
   simp only [tY] at hop
   split at hop
   ·rename_i H1 h1
    simp only [Option.some.injEq, Prod.mk.injEq] at hop
    obtain ⟨_, rfl⟩ := hop
    rw [uN h1]; exact Nat.le_refl _
   ·cases hop
  case call cl =>
   obtain ⟨callee, args, ats⟩ := cl
   cases callee with
   | invoke rv m => simp [tY] at hop
   | builtin b =>
    cases b <;> first | (exact absurd rfl hw) | skip
    ·simp only [tY] at hop
     split at hop
     ·split at hop
      ·rcases pT hop with rfl | ⟨blk, rfl⟩ <;> simp
      ·rw [oB hop]; exact Nat.le_refl _
     ·cases hop
    ·simp only [tY] at hop
     split at hop
     ·rw [pV hop]; exact Nat.le_refl _
     ·cases hop
    ·simp only [tY] at hop
     split at hop
     ·rw [qX hop]; exact Nat.le_refl _
     ·cases hop
   | value f =>
    simp only [tY] at hop
    have hop : kX E (gN T f) (args.toList.map (gN T)) H = some (r, H') := by
     split at hop
     ·exact (qW hop).1
     ·exact hop
    unfold kX at hop
    split at hop
    case h_2 => cases hop
    unfold zL at hop
    split at hop
    ·unfold aJ at hop
     (repeat' split at hop) <;> first | (cases hop; done) | (simp only [Option.some.injEq, Prod.mk.injEq] at hop; obtain ⟨_, rfl⟩ := hop; exact Nat.le_refl _)
    ·unfold dG at hop
     split at hop
     ·split at hop
      ·rename_i hl
       simp only [Option.some.injEq, Prod.mk.injEq] at hop; obtain ⟨_, rfl⟩ := hop; exact hl
      ·cases hop
     ·cases hop
    ·cases hop
theorem xZ {P : Program} {G : aC} {E : nT} {ann : Ann} {ops : Array Oper} {o : Oper} {T : TS} {H H' : aA} {r : AV} (hs : jJ P G E ann ops o T H = some (r, H')) : H.length ≤ H'.length := by
 unfold jJ at hs
 split at hs
 ·exact aEF hs
 ·split at hs
  ·rcases rB hs with ⟨_, e⟩ | ⟨_, _, e⟩
   ·exact aEF e
   ·rw [e]; exact Nat.le_refl _
  ·cases hs
theorem aCz {P : Program} {G : aC} {E : nT} {ann : Ann} (hE : EnvSound P G E) {γ : Type} {ops : Array Oper} {K : TS → aA → Option γ} {out : γ} {c0 : Ctx} {w0 : World} {N B : Nat} {Q : Exit → Act → World → Prop}
  (hdst : ∀ (i : Nat) (o : Oper) (t : Nat), ops[i]? = some o → o.dst = some t → t < N)
  (hQ : ∀ T H c a w, K T H = some out → St G c0 w0 N B T H c a w → Q .normal a w) :
  ∀ (l : List Oper) (k : Nat), (∀ j, l[j]? = ops[k + j]?) → ∀ (T : TS) (H : aA) (c : Ctx) (a : Act) (w : World), kO P G E ann ops l K T H = some out → St G c0 w0 N B T H c a w →
   wpOps P ops Q (List.range' k l.length) a w
 | [], k, hl, T, H, c, a, w, hr, hs => by
  simp only [List.length_nil, List.range'_zero, wpOps]
  exact hQ T H c a w hr hs
 | o :: l, k, hl, T, H, c, a, w, hr, hs => by
  have h0 : ops[k]? = some o := by simpa using (hl 0).symm
  simp only [List.length_cons, List.range'_succ]
  rw [wpOps_cons]
  unfold wpOp
  simp only [h0]
  simp only [kO, aE] at hr
  split at hr
  case h_2 => cases hr
  rename_i v H' hst
  have next : ∀ u w' c', Step c w c' w' → Good G c' w' → HeapAt c' H' w' → uP c' H' → Rel c' v u → wpOps P ops Q (List.range' (k + 1) l.length) (a.put o.dst u) w' := by
   intro u w' c' h1 h2 h3 h4 h5
   refine aCz hE hdst hQ l (k + 1) (fun j => by have := hl (j + 1); simpa [Nat.add_assoc, Nat.add_comm 1 j] using this) _ H' c' _ w' hr ⟨h2, h3, h4, hs.step.trans h1, fun t => ?_, by rw [oV]; exact hs.size, by rw [lA]; exact hs.defers, Nat.le_trans hs.low (xZ hst)⟩
   rw [aCH a o.dst u (fun t ht => by rw [hs.size]; exact hdst k o t h0 ht)]
   cases hd : o.dst with
   | none => simpa [uS] using (hs.tmps t).mono h1.le
   | some d =>
    by_cases e : t = d
    ·subst e; simpa [uS] using h5
    ·have : ¬ (d = t) := fun q => e q.symm
     simpa [uS, e, this] using (hs.tmps t).mono h1.le
  rcases qA hst (c := c) (a := a) (fun j want d _ _ => hs.tmps d) with ⟨hw, hop⟩ | ⟨hw, rfl, rfl⟩
  ·rw [if_pos hw]
   refine .inl (aAi hE hop hs.good hs.heap (fun _ => ?_) (fun x _ => aBm (fun t _ => hs.tmps t)) (fun _ => hs.dom) (fun u w' c' ho _ => next u w' c' ho.step ho.good ho.heap (ho.dom hs.dom) ho.rel))
   cases hm : c.m H.length with
   | none => rfl
   | some i => have := hs.dom H.length (by rw [hm]; simp); omega
  ·rw [hw]
   exact next undef w c (.refl c w) hs.good hs.heap hs.dom (iX c)
theorem aCO {P : Program} {G : aC} {E : nT} {ann : Ann} (hE : EnvSound P G E) {γ : Type} {ops : Array Oper} {K : TS → aA → Option γ} {out : γ} {c0 : Ctx} {w0 : World} {N B id : Nat} {Q : Exit → Act → World → Prop}
  (hdst : ∀ (i : Nat) (o : Oper) (t : Nat), ops[i]? = some o → o.dst = some t → t < N)
  (hQ : ∀ T H c a w, K T H = some out → St G c0 w0 N B T H c a w → Q .normal a w) {T : TS} {H : aA} {c : Ctx} {a : Act} {w : World} (hr : kO P G E ann ops ops.toList K T H = some out) (hs : St G c0 w0 N B T H c a w) :
  (Code.region id ops false).wp P Q a w := by
 refine wp_region ?_
 have := aCz hE hdst hQ ops.toList 0 (fun j => by simp) T H c a w hr hs
 rw [List.range_eq_range']
 simpa using this
end Go.Proofs.YtlkgkfgkiidhdaaDoor.Mir
