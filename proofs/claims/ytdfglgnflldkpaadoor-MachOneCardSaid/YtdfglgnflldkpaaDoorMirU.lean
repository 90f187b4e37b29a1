/- Mirror, part U: functions: what they hand back is laid for good. -/
import Derived.Test.YtdfglgnflldkpaaDoorMirT
namespace Go.Proofs.YtdfglgnflldkpaaDoor.Mir
open Go
set_option linter.unusedVariables false
set_option linter.unusedSimpArgs false

def mapO (f : AV → Option AV) : List AV → Option (List AV)
  | [] => some []
  | x :: xs => match f x, mapO f xs with
    | some y, some ys => some (y :: ys)
    | _, _ => none

def elemF (f : AV → Option AV) (x : AV) : Option AV :=
  match x with
  | .agg cs => match mapO f cs with
    | some zs => some (.agg zs)
    | none => none
  | x => f x

/-- A value that is handed back: what lies in the call's own blocks becomes a part of it. -/
def frz (H : AHeap) (n0 : Nat) : Nat → AV → Option AV
  | 0, v => match belowB n0 v with
    | true => some v
    | false => none
  | d + 1, v => match belowB n0 v with
    | true => some v
    | false => match v with
      | .sl b L o n sz => match elemsOf (.sl b L o n sz) H with
        | some ys => match allSz sz ys with
          | true => match mapO (elemF (frz H n0 d)) ys with
            | some zs => some (.ro false zs)
            | none => none
          | false => none
        | none => none
      | .ptr b L i o => match H[b]? with
        | some blk => if blk.elems.length = L then (match blk.elems[i]? with
          | some y => match elemF (frz H n0 d) y with
            | some z => some (.rp false z o)
            | none => none
          | none => none) else none
        | none => none
      | .agg cs => match mapO (frz H n0 d) cs with
        | some zs => some (.agg zs)
        | none => none
      | .tup vs => match mapO (frz H n0 d) vs with
        | some zs => some (.tup zs)
        | none => none
      | .iface t x => match frz H n0 d x with
        | some z => some (.iface t z)
        | none => none
      | _ => none

theorem mapO_get {f : AV → Option AV} : ∀ {xs ys : List AV} (_ : mapO f xs = some ys), xs.length = ys.length ∧ ∀ (i : Nat) (y : AV), ys[i]? = some y → ∃ x, xs[i]? = some x ∧ f x = some y
  | [], ys, h => by simp [mapO] at h; subst h; exact ⟨rfl, fun i y h => by simp at h⟩
  | x :: xs, ys, h => by
    simp only [mapO] at h
    split at h
    · rename_i y ys' h1 h2
      simp at h; subst h
      obtain ⟨g1, g2⟩ := mapO_get h2
      refine ⟨by simp [g1], fun i z hz => ?_⟩
      cases i with
      | zero => simp at hz; subst hz; exact ⟨x, rfl, h1⟩
      | succ i => simp at hz; obtain ⟨u, e1, e2⟩ := g2 i z hz; exact ⟨u, by simpa using e1, e2⟩
    · cases h

/-- The call's own blocks, from n0 on, are laid for good. -/
noncomputable def Ctx.lock (c : Ctx) (w : World) (n0 : Nat) : Ctx :=
  open Classical in
  { m := fun b => if b < n0 then c.m b else none
    M := fun a => if ∃ b inf, n0 ≤ b ∧ c.m b = some inf ∧ inf.virt = false ∧ inf.idx = a.block then w.cell? a else c.M a
    B := fun a => if ∃ b inf, n0 ≤ b ∧ c.m b = some inf ∧ inf.virt = false ∧ inf.idx = a.block then w.cell? a else c.B a
    S := c.S }

theorem lock_le {G : Globs} {c : Ctx} {w : World} (hg : Good G c w) (n0 : Nat) : (c.cut n0).le (c.lock w n0) := by
  have no : ∀ a v, c.B a = some v → ¬ ∃ b inf, n0 ≤ b ∧ c.m b = some inf ∧ inf.virt = false ∧ inf.idx = a.block := by
    rintro a v h ⟨b, inf, _, h1, h2, h3⟩
    rw [hg.away _ ⟨b, inf, h1, h2, h3⟩ a rfl] at h; cases h
  refine ⟨fun b i h => ⟨i, h, rfl, Nat.le_refl _, fun _ => rfl⟩, fun a v h => ?_, fun a v h => ?_, rfl⟩
  · simp only [Ctx.lock]; rw [if_neg (no a v (hg.MB _ _ h))]; exact h
  · simp only [Ctx.lock]; rw [if_neg (no a v h)]; exact h

theorem lock_own {c : Ctx} {w : World} {n0 k : Nat} (h : (c.lock w n0).own k) : ∃ b inf, b < n0 ∧ c.m b = some inf ∧ inf.virt = false ∧ inf.idx = k := by
  obtain ⟨b, i, hb, hv, hk⟩ := h
  by_cases q : b < n0
  · simp [Ctx.lock, q] at hb; exact ⟨b, i, q, hb, hv, hk⟩
  · simp [Ctx.lock, q] at hb

theorem lock_good {G : Globs} {c : Ctx} {H : AHeap} {w : World} (hg : Good G c w) (hH : HeapAt c H w) (hG : ∀ g x, G g = some x → plainB x = true) (n0 : Nat) : Good G (c.lock w n0) w := by
  have hle := lock_le hg n0
  have hc := hg.cut hG n0
  refine ⟨fun a v h => ?_, fun a v h => ?_, fun k hk a ha => ?_, hg.sent, fun g a h hk => ?_, hg.sentApart, fun g x h => ?_, fun k hk => ?_⟩
  · simp only [Ctx.lock] at h
    split at h
    · exact h
    · exact hg.holds a v h
  · simp only [Ctx.lock] at h ⊢
    split at h
    · rename_i q; rw [if_pos q]; exact h
    · rename_i q; rw [if_neg q]; exact hg.MB _ _ h
  · obtain ⟨b, i, q, hb, hv, hki⟩ := lock_own hk
    have hno : ¬ ∃ b inf, n0 ≤ b ∧ c.m b = some inf ∧ inf.virt = false ∧ inf.idx = a.block := by
      rintro ⟨b', i', q', hb', hv', hk'⟩
      have := hH.inj b b' i i' hb hb' hv hv' (by omega)
      omega
    simp only [Ctx.lock]
    rw [if_neg hno]
    exact hg.away k ⟨b, i, hb, hv, hki⟩ a ha
  · obtain ⟨b, i, q, hb, hv, hki⟩ := lock_own hk
    exact hg.sentAway g a h ⟨b, i, hb, hv, hki⟩
  · obtain ⟨v, h1, h2⟩ := hc.glob g x h
    exact ⟨v, hle.M _ _ h1, h2.mono hle⟩
  · obtain ⟨b, i, q, hb, hv, hki⟩ := lock_own hk
    exact hg.bound k ⟨b, i, hb, hv, hki⟩

theorem lock_step {G : Globs} {c0 c : Ctx} {w0 w : World} (hg : Good G c w) (hs : Step c0 w0 c w) {n0 : Nat} (hl : ∀ b, c0.m b ≠ none → b < n0) : Step c0 w0 (c.lock w n0) w := by
  have hcut := hs.cut hl
  have hle := lock_le hg n0
  refine ⟨hcut.le.trans hle, hs.os, hs.tape, hs.output, hs.size, hs.kept, fun b i hb hv hlt => ?_, fun a v h => ?_, fun a v h => ?_⟩
  · by_cases q : b < n0
    · simp [Ctx.lock, q] at hb; exact hs.fresh b i hb hv hlt
    · simp [Ctx.lock, q] at hb
  all_goals
    simp only [Ctx.lock] at h
    split at h
    · rename_i q
      obtain ⟨b, i, q1, q2, q3, q4⟩ := q
      right
      rcases Nat.lt_or_ge i.idx w0.heap.size with z | z
      · obtain ⟨i0, e1, _⟩ := hs.fresh b i q2 q3 z
        have := hl b (by rw [e1]; simp)
        omega
      · omega
  · exact hs.newM a v h
  · exact hs.newB a v h

theorem elemF_sound {c cf : Ctx} {f : AV → Option AV} (hf : ∀ y z u, f y = some z → Rel c y u → Rel cf z u) {x z : AV} (hx : elemF f x = some z) {V : Nat → Value}
    (hc : ∀ (j : Nat) (y : AV), x.cells[j]? = some y → Rel c y (V j) ∧ (V j).oneCell' = true) :
    z.cells.length = x.cells.length ∧ ∀ (j : Nat) (y : AV), z.cells[j]? = some y → Rel cf y (V j) ∧ (V j).oneCell' = true := by
  unfold elemF at hx
  split at hx
  · rename_i cs
    split at hx
    case h_2 => cases hx
    rename_i zs hz
    simp at hx; subst hx
    obtain ⟨g1, g2⟩ := mapO_get hz
    refine ⟨by simp [AV.cells, g1], fun j y hy => ?_⟩
    obtain ⟨y0, e1, e2⟩ := g2 j y hy
    obtain ⟨r1, r2⟩ := hc j y0 e1
    exact ⟨hf _ _ _ e2 r1, r2⟩
  · rename_i hna
    have h1 : x.cells = [x] := by cases x <;> first | rfl | exact absurd rfl (hna _)
    obtain ⟨r1, r2⟩ := hc 0 x (by rw [h1]; rfl)
    have rz := hf _ _ _ hx r1
    have h2 := oneCell_cells rz r2
    refine ⟨by rw [h1, h2]; rfl, fun j y hy => ?_⟩
    rw [h2] at hy
    cases j with
    | zero => simp at hy; subst hy; exact ⟨rz, r2⟩
    | succ j => simp at hy

theorem frz_sound {G : Globs} {c : Ctx} {H : AHeap} {w : World} (hg : Good G c w) (hH : HeapAt c H w) (n0 : Nat) : ∀ (d : Nat) (x z : AV) (u : Value), frz H n0 d x = some z → Rel c x u → Rel (c.lock w n0) z u := by
  have low : ∀ x u, belowB n0 x = true → Rel c x u → Rel (c.lock w n0) x u := fun x u hb hr => (hr.cut hb).mono (lock_le hg n0)
  have cell : ∀ (b : Nat) (inf : Info) (a : Addr), n0 ≤ b → c.m b = some inf → inf.virt = false → inf.idx = a.block → (c.lock w n0).M a = w.cell? a := fun b inf a h1 h2 h3 h4 => by
    simp only [Ctx.lock]; rw [if_pos ⟨b, inf, h1, h2, h3, h4⟩]
  intro d
  induction d with
  | zero =>
    intro x z u h hr
    simp only [frz] at h
    split at h
    · rename_i hb; simp at h; subst h; exact low _ _ hb hr
    · cases h
  | succ d ih =>
    intro x z u h hr
    simp only [frz] at h
    split at h
    · rename_i hb; simp at h; subst h; exact low _ _ hb hr
    rename_i hb
    split at h
    · -- a slice
      rename_i b L o n sz
      simp [belowB] at hb
      split at h
      case h_2 => cases h
      rename_i ys hys
      split at h
      case h_2 => cases h
      rename_i hall
      split at h
      case h_2 => cases h
      rename_i zs hzs
      simp at h; subst h
      obtain ⟨g1, g2⟩ := mapO_get hzs
      have hys' := hys
      simp only [elemsOf] at hys'
      split at hys'
      case h_2 => cases hys'
      rename_i blk hblk
      split at hys'
      case isFalse => cases hys'
      rename_i hL
      simp at hys'
      cases hr with
      | slStale a cap' hm hl hnc ha => have := hH.valid hblk hm; omega
      | slVirt hm hl hv hs1 =>
        have hy0 : ys = [] := by rw [← hys']; simp
        subst hy0
        have : zs = [] := List.eq_nil_of_length_eq_zero (by rw [← g1]; rfl)
        subst this; exact .roNil ..
      | sl hm hl hv hs1 ho hcap hnc ha =>
        rename_i inf a cap'
        have hB := hH.blk _ _ _ hblk hm
        have hylen : ys.length = n := by rw [← hys']; simp; omega
        by_cases hn0 : n = 0
        · subst hn0
          have : zs = [] := List.eq_nil_of_length_eq_zero (by rw [← g1]; exact hylen)
          subst this; exact .roNil ..
        · have ha' : a = ⟨inf.idx, o * sz, none⟩ := by
            rcases ha with h1 | ⟨h1, _⟩
            · exact h1
            · omega
          subst ha'
          have yget : ∀ (i : Nat) (y : AV), ys[i]? = some y → blk.elems[o + i]? = some y := by
            intro i y hy
            rw [← hys', List.getElem?_take] at hy
            split at hy
            · rwa [List.getElem?_drop] at hy
            · cases hy
          have hbs : inf.sz = sz := hs1
          have V : ∀ (i : Nat) (y : AV), ys[i]? = some y → ∀ (j : Nat) (q : AV), y.cells[j]? = some q → Rel c q ((w.cell? ⟨inf.idx, o * sz + i * sz + j, none⟩).getD default) ∧ ((w.cell? ⟨inf.idx, o * sz + i * sz + j, none⟩).getD default).oneCell' = true ∧
              w.cell? ⟨inf.idx, o * sz + i * sz + j, none⟩ = some ((w.cell? ⟨inf.idx, o * sz + i * sz + j, none⟩).getD default) := by
            intro i y hy j q hq
            obtain ⟨v, e1, e2, e3⟩ := hB.at hv (yget i y hy) j q hq
            rw [hbs, Nat.add_mul] at e1
            rw [e1]; exact ⟨e2, e3, rfl⟩
          have hyy : ∀ y ∈ ys, y.cells.length = sz := fun y hy => by have := List.all_eq_true.1 hall y hy; simpa using this
          have el : ∀ (i : Nat) (z : AV), zs[i]? = some z → z.cells.length = sz ∧ ∀ (j : Nat) (q : AV), z.cells[j]? = some q → Rel (c.lock w n0) q ((w.cell? ⟨inf.idx, o * sz + i * sz + j, none⟩).getD default) ∧ ((w.cell? ⟨inf.idx, o * sz + i * sz + j, none⟩).getD default).oneCell' = true ∧ ∃ y, ys[i]? = some y ∧ j < y.cells.length := by
            intro i z hz
            obtain ⟨y, e1, e2⟩ := g2 i z hz
            obtain ⟨l1, l2⟩ := elemF_sound (cf := c.lock w n0) (fun y z u h hr => ih y z u h hr) e2 (V := fun j => (w.cell? ⟨inf.idx, o * sz + i * sz + j, none⟩).getD default) (fun j q hq => ⟨(V i y e1 j q hq).1, (V i y e1 j q hq).2.1⟩)
            refine ⟨by rw [l1]; exact hyy y (List.mem_of_getElem? e1), fun j q hq => ⟨(l2 j q hq).1, (l2 j q hq).2, y, e1, ?_⟩⟩
            rw [← l1]; exact (List.getElem?_eq_some_iff.1 hq).1
          refine .ro (A := ⟨inf.idx, o * sz, none⟩) (V := fun i j => (w.cell? ⟨inf.idx, o * sz + i * sz + j, none⟩).getD default) (sz := sz) (by rw [← g1]; exact hylen) hnc (.inr rfl) rfl (fun i z hz => (el i z hz).1) (fun i z j q hz hq => ((el i z hz).2 j q hq).1) (fun i z j q hz hq => ?_)
          obtain ⟨r1, r2, y, r3, r4⟩ := (el i z hz).2 j q hq
          obtain ⟨_, _, v3⟩ := V i y r3 j _ (List.getElem?_eq_getElem r4)
          refine ⟨?_, r2⟩
          show (c.lock w n0).M _ = _
          rw [cell b inf ⟨inf.idx, o * sz + i * sz + j, none⟩ hb hm hv rfl]
          exact v3
    · -- a pointer
      rename_i b L i o
      simp [belowB] at hb
      split at h
      case h_2 => cases h
      rename_i blk hblk
      split at h
      case isFalse => cases h
      rename_i hL
      split at h
      case h_2 => cases h
      rename_i y hy
      split at h
      case h_2 => cases h
      rename_i z' hz
      simp at h; subst h
      cases hr with
      | ptrStale a hm hl => have := hH.valid hblk hm; omega
      | ptr hm hl hv =>
        rename_i inf
        have hB := (hH.blk _ _ _ hblk hm).at hv hy
        have V : ∀ (j : Nat) (q : AV), y.cells[j]? = some q → Rel c q ((w.cell? ⟨inf.idx, i * inf.sz + j, none⟩).getD default) ∧ ((w.cell? ⟨inf.idx, i * inf.sz + j, none⟩).getD default).oneCell' = true ∧
            w.cell? ⟨inf.idx, i * inf.sz + j, none⟩ = some ((w.cell? ⟨inf.idx, i * inf.sz + j, none⟩).getD default) := by
          intro j q hq
          obtain ⟨v, e1, e2, e3⟩ := hB j q hq
          rw [e1]; exact ⟨e2, e3, rfl⟩
        obtain ⟨l1, l2⟩ := elemF_sound (cf := c.lock w n0) (fun y z u h hr => ih y z u h hr) hz (V := fun j => (w.cell? ⟨inf.idx, i * inf.sz + j, none⟩).getD default) (fun j q hq => ⟨(V j q hq).1, (V j q hq).2.1⟩)
        refine .rp (A := ⟨inf.idx, i * inf.sz, none⟩) (V := fun j => (w.cell? ⟨inf.idx, i * inf.sz + j, none⟩).getD default) (fun j q hq => (l2 j q hq).1) (fun j q hq => ⟨?_, (l2 j q hq).2⟩)
        have hj : j < y.cells.length := by rw [← l1]; exact (List.getElem?_eq_some_iff.1 hq).1
        show (c.lock w n0).M _ = _
        rw [cell b inf ⟨inf.idx, i * inf.sz + j, none⟩ hb hm hv rfl]
        exact (V j _ (List.getElem?_eq_getElem hj)).2.2
    · -- a struct, an array
      split at h
      case h_2 => cases h
      rename_i zs hzs
      simp at h; subst h
      obtain ⟨g1, g2⟩ := mapO_get hzs
      obtain ⟨vs, rfl, hrl, h1⟩ := hr.of_agg
      refine .agg (by rw [← g1]; exact hrl.1) (fun i q v hq hv => ?_) h1
      obtain ⟨y, e1, e2⟩ := g2 i q hq
      exact ih _ _ _ e2 (hrl.2 i y v e1 hv)
    · split at h
      case h_2 => cases h
      rename_i zs hzs
      simp at h; subst h
      obtain ⟨g1, g2⟩ := mapO_get hzs
      obtain ⟨vs, rfl, hrl⟩ := hr.of_tup
      refine .tup (by rw [← g1]; exact hrl.1) (fun i q v hq hv => ?_)
      obtain ⟨y, e1, e2⟩ := g2 i q hq
      exact ih _ _ _ e2 (hrl.2 i y v e1 hv)
    · split at h
      case h_2 => cases h
      rename_i z' hz
      simp at h; subst h
      obtain ⟨v, rfl, hv⟩ := hr.of_iface
      exact .iface (ih _ _ _ hz hv)
    · cases h

end Go.Proofs.YtdfglgnflldkpaaDoor.Mir
