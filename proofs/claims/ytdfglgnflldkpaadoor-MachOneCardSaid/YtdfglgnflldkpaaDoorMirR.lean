/- Mirror, part R: a region that draws its order is sound. -/
import Derived.Test.YtdfglgnflldkpaaDoorMirQ
namespace Go.Proofs.YtdfglgnflldkpaaDoor.Mir
open Go
set_option linter.unusedVariables false
set_option linter.unusedSimpArgs false

theorem writes_touches {ann : Ann} {pf : Nat → Bool} {o : Oper} (h : writes ann pf o = true) : touches ann o = true := by
  obtain ⟨dst, op, type, pos, after, guard⟩ := o
  cases op <;> first | (cases h; done) | rfl | skip
  rename_i cl
  obtain ⟨callee, args, ats⟩ := cl
  cases callee with
  | invoke r m => rfl
  | value f => rfl
  | builtin b => cases b <;> first | (cases h; done) | rfl

section
variable {P : Program} {G : Globs} {E : Env} {ann : Ann} {ops : Array Oper} {σ : Nat → TS} {h : Nat → AHeap} {v : Nat → AV} {T : TS} {H : AHeap} {c0 : Ctx} {w0 : World} {N B : Nat} {L : Nat → Prop}

/-- What of the order is used: an operation that has all it waits for, and has not come up. -/
structure Rdy (E : Env) (ann : Ann) (ops : Array Oper) (L : Nat → Prop) (i : Nat) : Prop where
  ok : ordOk ann (pureIn E) ops = true
  closed : Closed ops L
  lt : i < ops.size
  new : ¬ L i
  waits : ∀ o, ops[i]? = some o → ∀ e ∈ o.after, Region.binds .any e = true → L e.on

theorem Rdy.closed' {i : Nat} (r : Rdy E ann ops L i) : Closed ops (fun k => k = i ∨ L k) := by
  intro j o ho hj e he hb
  rcases hj with rfl | hj
  · exact .inr (r.waits o ho e he hb)
  · exact .inr (r.closed j o ho hj e he hb)

/-- Ahead of i, and bound: it has come up. -/
theorem Rdy.ahead {i : Nat} (r : Rdy E ann ops L i) {k : Nat} {x y : Oper} (hk : k < i) (hx : ops[k]? = some x) (hy : ops[i]? = some y) : L k ∨ Loose ann (pureIn E) ops k i x y := by
  rcases (ord_spec r.ok).2 k i x y hk hx hy with h1 | h1
  · rcases h1 _ r.closed' (.inl rfl) with h2 | h2
    · omega
    · exact .inl h2
  · exact .inr h1

/-- Behind i, and bound: it has not come up. -/
theorem Rdy.behind {i : Nat} (r : Rdy E ann ops L i) {k : Nat} {x y : Oper} (hk : i < k) (hx : ops[k]? = some x) (hy : ops[i]? = some y) : ¬ L k ∨ Loose ann (pureIn E) ops i k y x := by
  rcases (ord_spec r.ok).2 i k y x hk hy hx with h1 | h1
  · exact .inl fun hl => r.new (h1 L r.closed hl)
  · exact .inr h1

theorem loose_apart {i j : Nat} {x y : Oper} (hl : Loose ann (pureIn E) ops i j x y) : Oper.apart ops x y = true := by
  have := hl.1
  simp only [looseOk, Bool.and_eq_true] at this; exact this.1
theorem someB_some {α : Type} {o : Option α} (h : someB o = true) : ∃ p, o = some p := by
  cases o with
  | none => cases h
  | some p => exact ⟨p, rfl⟩
theorem load_writes {o : Oper} (h : isLoad o = true) {pf : Nat → Bool} : writes ann pf o = false := by
  obtain ⟨dst, op, type, pos, after, guard⟩ := o
  cases op <;> first | (cases h; done) | rfl
/-- A writer, and one that looks at memory: that one is a load. -/
theorem loose_wt {i j : Nat} {x y : Oper} (hl : Loose ann (pureIn E) ops i j x y) (hx : writes ann (pureIn E) x = true) (hy : touches ann y = true) : isLoad y = true ∧ ∃ p, ldst ops i j x y = some p ∧ p ∈ needs ops := by
  have h1 := hl.1
  simp only [looseOk, hx, hy, Bool.and_true, Bool.not_true, Bool.false_and, Bool.false_or, Bool.and_eq_true] at h1
  obtain ⟨p, hp⟩ := someB_some h1.2
  refine ⟨?_, p, hp, hl.2 p hp⟩
  rcases ldst_any hp with ⟨h2, _⟩ | ⟨_, h2⟩
  · rw [load_writes h2] at hx; cases hx
  · exact h2
theorem loose_tw {i j : Nat} {x y : Oper} (hl : Loose ann (pureIn E) ops i j x y) (hx : touches ann x = true) (hy : writes ann (pureIn E) y = true) : isLoad x = true ∧ ∃ p, ldst ops i j x y = some p ∧ p ∈ needs ops := by
  have h1 := hl.1
  simp only [looseOk, hx, hy, Bool.and_true, Bool.not_true, Bool.and_false, Bool.false_or, Bool.and_eq_true] at h1
  obtain ⟨p, hp⟩ := someB_some h1.2
  refine ⟨?_, p, hp, hl.2 p hp⟩
  rcases ldst_any hp with ⟨h2, _⟩ | ⟨_, h2⟩
  · exact h2
  · rw [load_writes h2] at hy; cases hy
theorem loose_ww {i j : Nat} {x y : Oper} (hl : Loose ann (pureIn E) ops i j x y) (hx : writes ann (pureIn E) x = true) (hy : writes ann (pureIn E) y = true) : False := by
  have := (loose_wt hl hx (writes_touches hy)).1
  rw [load_writes this] at hy; cases hy

theorem Rdy.seg {i : Nat} (r : Rdy E ann ops L i) {o : Oper} (ho : ops[i]? = some o) (ht : touches ann o = true) (hnl : isLoad o = false) : Seg ann E ops L i := by
  refine ⟨fun k hk ⟨x, hx, hw⟩ => ?_, fun k hk ⟨x, hx, hw⟩ => ?_⟩
  · rcases r.ahead hk hx ho with h1 | h1
    · exact h1
    · rw [(loose_wt h1 hw ht).1] at hnl; cases hnl
  · by_cases e : k = i
    · rw [e]; exact r.new
    · rcases r.behind (show i < k by omega) hx ho with h1 | h1
      · exact h1
      · rw [(loose_tw h1 ht hw).1] at hnl; cases hnl

/-- Between two lengths there is an operation that brings it. -/
theorem step_at (hr : TextRun P G E ann ops T H ops.size σ h v) {b i : Nat} : ∀ (d : Nat), i + d ≤ ops.size → (h i).length ≤ b → b < (h (i + d)).length → ∃ k, i ≤ k ∧ k < i + d ∧ (h k).length ≤ b ∧ b < (h (k + 1)).length
  | 0, _, h1, h2 => by simp at h2; omega
  | d + 1, hd, h1, h2 => by
    by_cases hb : b < (h (i + d)).length
    · obtain ⟨k, g1, g2, g3, g4⟩ := step_at hr d (by omega) h1 hb
      exact ⟨k, g1, by omega, g3, g4⟩
    · exact ⟨i + d, by omega, by omega, by omega, by rw [show i + d + 1 = i + (d + 1) by omega]; exact h2⟩

theorem touches_of_len (hr : TextRun P G E ann ops T H ops.size σ h v) {k : Nat} {x : Oper} (hx : ops[k]? = some x) (hl : (h k).length < (h (k + 1)).length) : touches ann x = true := by
  cases ht : touches ann x with
  | true => rfl
  | false => rw [same_step hr hx ht] at hl; omega

/-- A load makes no block. -/
theorem grow_load (hr : TextRun P G E ann ops T H ops.size σ h v) {k : Nat} {x : Oper} (hx : ops[k]? = some x) (hl : (h k).length < (h (k + 1)).length) : isLoad x = false := by
  cases hld : isLoad x with
  | false => rfl
  | true =>
    exfalso
    have hk : k < ops.size := (Array.getElem?_eq_some_iff.1 hx).1
    obtain ⟨hs, -⟩ := hr.step k x hk hx
    have same : ∀ {r : AV} {H1 H2 : AHeap}, opR P G E ann x (σ k) H1 = some (r, H2) → H2 = H1 := by
      intro r H1 H2 hop
      obtain ⟨dst, op, type, pos, after, guard⟩ := x
      cases op <;> first | (cases hld; done) | skip
      simp only [opR] at hop
      exact (pu_some hop).2
    have : h (k + 1) = h k := by
      unfold stepOp at hs
      split at hs
      · exact same hs
      · split at hs
        · rcases gd_some hs with ⟨_, e⟩ | ⟨_, _, e⟩
          · exact same e
          · exact e
        · cases hs
    rw [this] at hl; omega

theorem Rdy.domW {i : Nat} (r : Rdy E ann ops L i) (hr : TextRun P G E ann ops T H ops.size σ h v) {c : Ctx} {a : Act} {w : World} (hs : RS G ann E ops σ h v c0 w0 N B L c a w) {o : Oper} (ho : ops[i]? = some o) (hw : writes ann (pureIn E) o = true) :
    Dom c (h i) := by
  intro b hb
  obtain ⟨h1, h2⟩ := hs.dom b hb
  by_cases hlt : b < (h i).length
  · exact hlt
  · exfalso
    obtain ⟨k, g1, g2, g3, g4⟩ := step_at hr (i := i) (b := b) (ops.size - i) (by have := r.lt; omega) (by omega) (by rw [show i + (ops.size - i) = ops.size by have := r.lt; omega]; exact h1)
    have hk : k < ops.size := by have := r.lt; omega
    have hLk := h2 k hk g3 g4
    have hkx : ops[k]? = some ops[k] := by simp [hk]
    have hik : i < k := by
      rcases Nat.lt_or_ge i k with q | q
      · exact q
      · have : k = i := by omega
        subst this; exact absurd hLk r.new
    rcases r.behind hik hkx ho with q | q
    · exact q hLk
    · have := (loose_wt q hw (touches_of_len hr hkx (by omega))).1
      rw [grow_load hr hkx (by omega)] at this; cases this

/-- The operands, as the text has them. -/
theorem Rdy.operand {i : Nat} (r : Rdy E ann ops L i) (hr : TextRun P G E ann ops T H ops.size σ h v) {c : Ctx} {a : Act} {w : World} (hs : RS G ann E ops σ h v c0 w0 N B L c a w) {o : Oper} (ho : ops[i]? = some o) {t : Nat} (ht : t ∈ o.looksAt ops) :
    Rel c (σ i t) (a.tmps.getD t undef) := by
  refine hs.tm t (σ i t) ?_
  have later : ∀ i', i < i' → L i' → dstOf ops i' ≠ some t := by
    intro i' h1 h2 h3
    cases hx : ops[i']? with
    | none => simp [dstOf, hx] at h3
    | some x =>
      rcases r.behind h1 hx ho with q | q
      · exact q h2
      · have := (Oper.apart_spec (loose_apart q)).2.2 t (by simpa [dstOf, hx] using h3)
        exact this ht
  rcases text_cur hr t i (Nat.le_of_lt r.lt) with ⟨k, g1, g2, g3, g4⟩ | ⟨g1, g2⟩
  · have hk : k < ops.size := by have := r.lt; omega
    have hkx : ops[k]? = some ops[k] := by simp [hk]
    refine .inl ⟨k, ?_, g2, g3, fun i' q1 q2 => ?_⟩
    · rcases r.ahead g1 hkx ho with q | q
      · exact q
      · have := (Oper.apart_spec (loose_apart q)).1 t (by simpa [dstOf, hkx] using g2)
        exact absurd ht this
    · rcases Nat.lt_trichotomy i' i with q | q | q
      · exact g4 i' q1 q
      · subst q; exact absurd q2 r.new
      · exact later i' q q2
  · refine .inr ⟨fun i' q2 => ?_, g2⟩
    rcases Nat.lt_trichotomy i' i with q | q | q
    · exact g1 i' q
    · subst q; exact absurd q2 r.new
    · exact later i' q q2

/-- The temporaries behind it. -/
theorem Rdy.tm {i : Nat} (r : Rdy E ann ops L i) {c c' : Ctx} {a : Act} {w : World} (hs : RS G ann E ops σ h v c0 w0 N B L c a w) {o : Oper} (ho : ops[i]? = some o) (hdst : ∀ t, o.dst = some t → t < N) (hle : c.le c')
    {u : Value} (hu : Rel c' (v i) u) : ∀ t x, Cur ops σ v (fun k => k = i ∨ L k) t x → Rel c' x ((a.put o.dst u).tmps.getD t undef) := by
  intro t x hc
  rw [put_getD a o.dst u (fun t ht => by rw [hs.size]; exact hdst t ht)]
  have hd : dstOf ops i = o.dst := by simp [dstOf, ho]
  by_cases e : o.dst = some t
  · rw [if_pos e]
    rcases hc with ⟨k, g1, g2, g3, g4⟩ | ⟨g1, g2⟩
    · by_cases q : k = i
      · subst q; rw [g3]; exact hu
      · exfalso
        have hLk : L k := g1.resolve_left q
        rcases Nat.lt_or_gt_of_ne q with q1 | q1
        · exact g4 i q1 (.inl rfl) (by rw [hd, e])
        · cases hx : ops[k]? with
          | none => simp [dstOf, hx] at g2
          | some y =>
            rcases r.behind q1 hx ho with z | z
            · exact z hLk
            · exact (Oper.apart_spec (loose_apart z)).2.1 t e (by simpa [dstOf, hx] using g2)
    · exact absurd (by rw [hd, e]) (g1 i (.inl rfl))
  · rw [if_neg e]
    refine (hs.tm t x ?_).mono hle
    rcases hc with ⟨k, g1, g2, g3, g4⟩ | ⟨g1, g2⟩
    · have q : k ≠ i := fun q => e (by rw [← hd, ← q]; exact g2)
      exact .inl ⟨k, g1.resolve_left q, g2, g3, fun i' z1 z2 => g4 i' z1 (.inr z2)⟩
    · exact .inr ⟨fun i' z => g1 i' (.inr z), g2⟩

/-- Behind a writer. -/
theorem Rdy.writer {i : Nat} (r : Rdy E ann ops L i) (hr : TextRun P G E ann ops T H ops.size σ h v) {c c' : Ctx} {a : Act} {w w' : World} (hs : RS G ann E ops σ h v c0 w0 N B L c a w) {o : Oper} (ho : ops[i]? = some o)
    (hw : writes ann (pureIn E) o = true) (hdst : ∀ t, o.dst = some t → t < N) (hst : Step c w c' w') (hg : Good G c' w') (hH : HeapAt c' (h (i + 1)) w') (hd : Dom c' (h (i + 1))) {u : Value} (hu : Rel c' (v i) u) :
    RS G ann E ops σ h v c0 w0 N B (fun k => k = i ∨ L k) c' (a.put o.dst u) w' := by
  have hlt := r.lt
  refine ⟨hg, hs.step.trans hst, by rw [put_size]; exact hs.size, by rw [put_defers]; exact hs.defers, hs.low, r.tm hs ho hdst hst.le hu, fun j hj hseg => ?_, fun b hb => ?_⟩
  · have hij : i < j := by
      rcases Nat.lt_or_ge i j with q | q
      · exact q
      · exact absurd (.inl rfl) (hseg.2 i q ⟨o, ho, hw⟩)
    have hno : ∀ k, i + 1 ≤ k → k < i + 1 + (j - (i + 1)) → ¬ Wr ann E ops k := by
      intro k q1 q2 ⟨x, hx, hwx⟩
      have hLk : L k := (hseg.1 k (by omega) ⟨x, hx, hwx⟩).resolve_left (by omega)
      rcases r.behind (show i < k by omega) hx ho with z | z
      · exact z hLk
      · exact loose_ww z hw hwx
    have hext := ext_get hr (i := i + 1) (j - (i + 1)) (by omega) hno
    rw [show i + 1 + (j - (i + 1)) = j by omega] at hext
    refine ⟨fun b blk inf hb hm => ?_, hH.inj⟩
    have hbl := hd b (by rw [hm]; simp)
    rw [hext b hbl] at hb
    exact hH.blk b blk inf hb hm
  · have hbl := hd b hb
    refine ⟨Nat.lt_of_lt_of_le hbl (by have := len_mono hr (i := i + 1) (ops.size - (i + 1)) (by omega); rwa [show i + 1 + (ops.size - (i + 1)) = ops.size by omega] at this), fun k hk g1 g2 => ?_⟩
    by_cases q : k = i
    · exact .inl q
    · have hki : k < i := by
        rcases Nat.lt_or_ge k i with z | z
        · exact z
        · have := len_mono hr (i := i + 1) (k - (i + 1)) (by omega)
          rw [show i + 1 + (k - (i + 1)) = k by omega] at this
          omega
      have hkx : ops[k]? = some ops[k] := by simp [hk]
      rcases r.ahead hki hkx ho with z | z
      · exact .inr z
      · have := (loose_tw z (touches_of_len hr hkx (by omega)) hw).1
        rw [grow_load hr hkx (by omega)] at this; cases this

theorem not_wr {i : Nat} {o : Oper} (ho : ops[i]? = some o) (hw : writes ann (pureIn E) o = false) : ¬ Wr ann E ops i := fun ⟨x, hx, hwx⟩ => by
  rw [ho] at hx; obtain rfl := Option.some.inj hx; rw [hw] at hwx; cases hwx

theorem seg_iff {i j : Nat} (hw : ¬ Wr ann E ops i) (hs : Seg ann E ops (fun k => k = i ∨ L k) j) : Seg ann E ops L j :=
  ⟨fun k hk hwk => (hs.1 k hk hwk).resolve_left (fun e => hw (e ▸ hwk)), fun k hk hwk hl => hs.2 k hk hwk (.inr hl)⟩

/-- Behind an operation that has turned nothing at all. -/
theorem Rdy.idle {i : Nat} (r : Rdy E ann ops L i) {c : Ctx} {a : Act} {w : World} (hs : RS G ann E ops σ h v c0 w0 N B L c a w) {o : Oper} (ho : ops[i]? = some o)
    (hw : writes ann (pureIn E) o = false) (hdst : ∀ t, o.dst = some t → t < N) {u : Value} (hu : Rel c (v i) u) :
    RS G ann E ops σ h v c0 w0 N B (fun k => k = i ∨ L k) c (a.put o.dst u) w :=
  ⟨hs.good, hs.step, by rw [put_size]; exact hs.size, by rw [put_defers]; exact hs.defers, hs.low, r.tm hs ho hdst (.refl c) hu, fun j hj hseg => hs.hp j hj (seg_iff (not_wr ho hw) hseg),
   fun b hb => ⟨(hs.dom b hb).1, fun k hk g1 g2 => .inr ((hs.dom b hb).2 k hk g1 g2)⟩⟩

/-- Behind an operation that has made a block, at most. -/
theorem Rdy.quiet {i : Nat} (r : Rdy E ann ops L i) (hr : TextRun P G E ann ops T H ops.size σ h v) {c c' : Ctx} {a : Act} {w w' : World} (hs : RS G ann E ops σ h v c0 w0 N B L c a w) {o : Oper} (ho : ops[i]? = some o)
    (hw : writes ann (pureIn E) o = false) (hdst : ∀ t, o.dst = some t → t < N) {u : Value} (hout : Out G c (h i) w (v i) (h (i + 1)) u w' c') (hq : Quiet c (h i) w (h (i + 1)) w' c') :
    RS G ann E ops σ h v c0 w0 N B (fun k => k = i ∨ L k) c' (a.put o.dst u) w' := by
  have hlt := r.lt
  refine ⟨hout.good, hs.step.trans hout.step, by rw [put_size]; exact hs.size, by rw [put_defers]; exact hs.defers, hs.low, r.tm hs ho hdst hout.step.le hout.rel, fun j hj hseg => ?_, fun b hb => ?_⟩
  · have hsegL := seg_iff (not_wr ho hw) hseg
    have hHj := hs.hp j hj hsegL
    refine ⟨fun b blk inf hb hm => ?_, hout.heap.inj⟩
    have old : c.m b = some inf → BlkAt c' inf blk w' := fun hm0 =>
      (hHj.blk b blk inf hb hm0).kept hout.step.le (fun hv => hq.kept _ (hs.good.bound _ ⟨b, inf, hm0, hv, rfl⟩))
    by_cases e : b = (h i).length
    · rcases hq.ext with hx | ⟨blk', hx⟩
      · subst e; rw [hq.keepm hx] at hm; exact old hm
      · -- the new block
        have hij : i + 1 ≤ j := by
          rcases Nat.lt_or_ge i j with q | q
          · exact q
          · exfalso
            have := len_mono hr (i := j) (i - j) (by omega)
            rw [show j + (i - j) = i by omega] at this
            have := (List.getElem?_eq_some_iff.1 hb).1
            omega
        by_cases hto : touches ann o = true
        · have hno : ∀ k, i + 1 ≤ k → k < i + 1 + (j - (i + 1)) → ¬ Wr ann E ops k := by
            intro k q1 q2 ⟨x, hx', hwx⟩
            have hLk : L k := hsegL.1 k (by omega) ⟨x, hx', hwx⟩
            rcases r.behind (show i < k by omega) hx' ho with z | z
            · exact z hLk
            · have := (loose_tw z hto hwx).1
              rw [grow_load hr ho (by rw [hx]; simp)] at this; cases this
          have hext := ext_get hr (i := i + 1) (j - (i + 1)) (by omega) hno b (by rw [hx]; simp; omega)
          rw [show i + 1 + (j - (i + 1)) = j by omega] at hext
          rw [hext] at hb
          exact hout.heap.blk b blk inf hb hm
        · have := same_step hr ho (by simpa using hto)
          rw [this] at hx
          have := congrArg List.length hx
          simp at this
    · rw [hq.same b e] at hm; exact old hm
  · by_cases e : b = (h i).length
    · rcases hq.ext with hx | ⟨blk', hx⟩
      · subst e
        rw [hq.keepm hx] at hb
        exact ⟨(hs.dom _ hb).1, fun k hk g1 g2 => .inr ((hs.dom _ hb).2 k hk g1 g2)⟩
      · have hl : (h (i + 1)).length = (h i).length + 1 := by rw [hx]; simp
        refine ⟨?_, fun k hk g1 g2 => ?_⟩
        · have := len_mono hr (i := i + 1) (ops.size - (i + 1)) (by omega)
          rw [show i + 1 + (ops.size - (i + 1)) = ops.size by omega] at this
          omega
        · rcases Nat.lt_trichotomy k i with q | q | q
          · have := len_mono hr (i := k + 1) (i - (k + 1)) (by omega)
            rw [show k + 1 + (i - (k + 1)) = i by omega] at this
            omega
          · exact .inl q
          · have := len_mono hr (i := i + 1) (k - (i + 1)) (by omega)
            rw [show i + 1 + (k - (i + 1)) = k by omega] at this
            omega
    · rw [hq.same b e] at hb
      exact ⟨(hs.dom b hb).1, fun k hk g1 g2 => .inr ((hs.dom b hb).2 k hk g1 g2)⟩

theorem looksAt_operand {o : Oper} {t : Nat} (h : (.tmp t : Operand) ∈ o.op.operands) : t ∈ o.looksAt ops :=
  List.mem_append_left _ (List.mem_filterMap.2 ⟨.tmp t, by simpa using h, rfl⟩)

theorem looksAt_guard {o : Oper} {j d : Nat} {want : Bool} (hg : o.guard = some (j, want)) (hd : dstOf ops j = some d) : d ∈ o.looksAt ops := by
  refine List.mem_append_right _ ?_
  have hd' : (ops[j]?).bind (·.dst) = some d := hd
  simp [hg, hd']

/-- The first writer that has not come up. -/
theorem first_open (hok : ordOk ann (pureIn E) ops = true) (hcl : Closed ops L) : ∃ j, j ≤ ops.size ∧ Seg ann E ops L j ∧ (j = ops.size ∨ (Wr ann E ops j ∧ ¬ L j)) := by
  have least : ∀ n, (∃ k, k < n ∧ Wr ann E ops k ∧ ¬ L k ∧ ∀ m, m < k → Wr ann E ops m → L m) ∨ ∀ k, k < n → Wr ann E ops k → L k := by
    intro n
    induction n with
    | zero => exact .inr fun k hk => by omega
    | succ n ih =>
      rcases ih with ⟨k, h1, h2, h3, h4⟩ | hall
      · exact .inl ⟨k, by omega, h2, h3, h4⟩
      · by_cases hn : Wr ann E ops n ∧ ¬ L n
        · exact .inl ⟨n, by omega, hn.1, hn.2, hall⟩
        · refine .inr fun k hk hw => ?_
          by_cases e : k = n
          · subst e; exact Classical.byContradiction fun hl => hn ⟨hw, hl⟩
          · exact hall k (by omega) hw
  rcases least ops.size with ⟨k, h1, ⟨x, hx, hw⟩, h3, h4⟩ | hall
  · refine ⟨k, Nat.le_of_lt h1, ⟨fun m hm hwm => h4 m hm hwm, fun m hm ⟨y, hy, hwy⟩ hl => ?_⟩, .inr ⟨⟨x, hx, hw⟩, h3⟩⟩
    by_cases e : m = k
    · subst e; exact h3 hl
    · rcases (ord_spec hok).2 k m x y (by omega) hx hy with z | z
      · exact h3 (z L hcl hl)
      · exact loose_ww z hw hwy
  · refine ⟨ops.size, Nat.le_refl _, ⟨fun m hm hwm => hall m hm hwm, fun m hm ⟨y, hy, hwy⟩ hl => ?_⟩, .inl rfl⟩
    have := (Array.getElem?_eq_some_iff.1 hy).1; omega

theorem sig_late (hr : TextRun P G E ann ops T H ops.size σ h v) {i t : Nat} (hl : late ops i t = true) : ∀ d, i + d ≤ ops.size → σ (i + d) t = σ i t
  | 0, _ => rfl
  | d + 1, hd => by
    have ho : ops[i + d]? = some ops[i + d] := by simp [show i + d < ops.size by omega]
    obtain ⟨_, hs⟩ := hr.step (i + d) ops[i + d] (by omega) ho
    have hne := late_spec hl (k := i + d) (by omega)
    rw [show i + (d + 1) = i + d + 1 by omega, hs, ← sig_late hr hl d (by omega)]
    cases hdd : ops[i + d].dst with
    | none => rfl
    | some e =>
      have : ¬ (t = e) := fun q => hne (by simp [dstOf, ho, hdd, q])
      simp [putT, this]
theorem sig_end (hr : TextRun P G E ann ops T H ops.size σ h v) {i t : Nat} (hi : i < ops.size) (hl : late ops i t = true) : σ ops.size t = σ i t := by
  have := sig_late hr hl (ops.size - i) (by omega)
  rwa [show i + (ops.size - i) = ops.size by omega] at this

theorem storeA_get {t b L' i' o' : Nat} {x : AV} {H1 H2 : AHeap} (hst : storeA P t (.ptr b L' i' o') x H1 = some H2) {q : Nat} (hq : q ≠ b) : H2[q]? = H1[q]? := by
  unfold storeA storeV at hst
  split at hst
  case h_2 => cases hst
  simp only at hst
  split at hst
  case h_2 => cases hst
  split at hst
  case isFalse => cases hst
  split at hst
  case h_2 => cases hst
  split at hst
  case isFalse => cases hst
  simp only [Option.some.injEq] at hst
  subst hst
  rw [List.getElem?_set_ne (Ne.symm hq)]

/-- A block that nothing between writes to. -/
theorem blk_keep (hr : TextRun P G E ann ops T H ops.size σ h v) {b lo : Nat} (hb : b < (h lo).length) : ∀ d, lo + d ≤ ops.size →
    (∀ k, lo ≤ k → k < lo + d → Wr ann E ops k → ∃ x t z tb b' L' i' o', ops[k]? = some x ∧ x.guard = none ∧ x.op = .store t (.tmp tb) z ∧ σ k tb = .ptr b' L' i' o' ∧ b ≠ b') → (h (lo + d))[b]? = (h lo)[b]?
  | 0, _, _ => rfl
  | d + 1, hd, hw => by
    have ih := blk_keep hr hb d (by omega) (fun k h1 h2 => hw k h1 (by omega))
    have hl := len_mono hr (i := lo) d (by omega)
    rw [show lo + (d + 1) = lo + d + 1 by omega]
    by_cases hwk : Wr ann E ops (lo + d)
    · obtain ⟨x, t, z, tb, b', L', i', o', hx, hg, hop, hs, hne⟩ := hw (lo + d) (by omega) (by omega) hwk
      obtain ⟨hst, -⟩ := hr.step (lo + d) x (by omega) hx
      unfold stepOp at hst
      rw [hg] at hst
      simp only [opR, hop] at hst
      split at hst
      · rename_i H1 h1
        simp only [Option.some.injEq, Prod.mk.injEq] at hst
        obtain ⟨_, e⟩ := hst
        have e2 : opd (σ (lo + d)) (.tmp tb) = .ptr b' L' i' o' := hs
        rw [e2] at h1
        rw [← e, storeA_get h1 hne, ih]
      · cases hst
    · rcases ext_step hr (i := lo + d) (by omega) hwk with e | ⟨blk, e⟩
      · rw [e]; exact ih
      · rw [e, List.getElem?_append_left (by omega)]; exact ih

theorem apart_ptr {b L' i' o' : Nat} {y : AV} (h : apartAV (.ptr b L' i' o') y = true) : ∃ b' L2 i2 o2, y = .ptr b' L2 i2 o2 ∧ b ≠ b' := by
  cases y <;> first | (cases h; done) | skip
  refine ⟨_, _, _, _, rfl, fun e => ?_⟩
  subst e
  simp [apartAV] at h

theorem execOp_load {o : Oper} {t : Nat} {xa : Operand} (h : o.op = .load t xa) {ev : Operand → Value} : execOp ev o = (do pure (Next.value (← Instr.loadAt t (ev xa)))) := by
  obtain ⟨dst, op, type, pos, after, guard⟩ := o
  simp only at h; subst h; rfl

/-- What a load gives, from the memory as it is when it comes up. -/
theorem Rdy.load {i : Nat} (r : Rdy E ann ops L i) (hr : TextRun P G E ann ops T H ops.size σ h v) (hgd : ∀ p ∈ needs ops, apartAV (σ ops.size p.1) (σ ops.size p.2) = true) {c : Ctx} {a : Act} {w : World}
    (hs : RS G ann E ops σ h v c0 w0 N B L c a w) {o : Oper} (ho : ops[i]? = some o) (ht : touches ann o = true) {t : Nat} {xa : Operand} (hld : o.op = .load t xa) (hop : loadA P G t (opd (σ i) xa) (h i) = some (v i)) {u0 : Value} (hrel : Rel c (opd (σ i) xa) u0) :
    ∃ j, j ≤ ops.size ∧ Seg ann E ops L j ∧ loadA P G t (opd (σ i) xa) (h j) = some (v i) := by
  have hi := r.lt
  obtain ⟨j, hj, hseg, hopen⟩ := first_open r.ok r.closed
  refine ⟨j, hj, hseg, ?_⟩
  have hisl : isLoad o = true := by simp [isLoad, hld]
  have dep : ∀ {A : AV} {H1 H2 : AHeap}, (∀ b L' i' o', A = .ptr b L' i' o' → b < H1.length → H2[b]? = H1[b]?) → ∀ {q : AV}, loadA P G t A H1 = some q → loadA P G t A H2 = some q := by
    intro A H1 H2 hA q hq
    unfold loadA at hq ⊢
    split at hq
    case h_2 => cases hq
    rename_i g s e1 e2
    unfold loadV at hq ⊢
    split at hq
    · rename_i b L' i' o'
      have hb : b < H1.length := by
        rcases Nat.lt_or_ge b H1.length with z | z
        · exact z
        · rw [List.getElem?_eq_none z] at hq; cases hq
      simp only [hA b L' i' o' rfl hb]
      exact hq
    · exact hq
    · exact hq
    · cases hq
  refine dep (fun b L' i' o' hA hb => ?_) hop
  -- the writers between: stores to other blocks
  have hex : ∀ k, k ≠ i → Wr ann E ops k → ((i < k ∧ L k) ∨ (k < i ∧ ¬ L k)) → ∃ x t z tb b' L' i' o', ops[k]? = some x ∧ x.guard = none ∧ x.op = .store t (.tmp tb) z ∧ σ k tb = .ptr b' L' i' o' ∧ b ≠ b' := by
    intro k hki ⟨x, hx, hw⟩ hc
    have hk : k < ops.size := (Array.getElem?_eq_some_iff.1 hx).1
    have fin : ∀ (p : Nat × Nat), p ∈ needs ops → (∃ t', o.op = .load t' (.tmp p.1)) → (∃ t' z, x.op = .store t' (.tmp p.2) z) → x.guard = none → late ops i p.1 = true → late ops k p.2 = true →
        ∃ x t z tb b' L' i' o', ops[k]? = some x ∧ x.guard = none ∧ x.op = .store t (.tmp tb) z ∧ σ k tb = .ptr b' L' i' o' ∧ b ≠ b' := by
      intro p hp ⟨t', e1⟩ ⟨t2, z, e2⟩ hg l1 l2
      rw [hld] at e1
      obtain ⟨_, e1⟩ := Op.load.inj e1
      subst e1
      have hA' : σ i p.1 = .ptr b L' i' o' := hA
      have hd := hgd p hp
      rw [sig_end hr hi l1, sig_end hr hk l2, hA'] at hd
      obtain ⟨b', L2, i2, o2, e3, hne⟩ := apart_ptr hd
      exact ⟨x, t2, z, p.2, b', L2, i2, o2, hx, hg, e2, e3, hne⟩
    rcases hc with ⟨q1, q2⟩ | ⟨q1, q2⟩
    · rcases r.behind q1 hx ho with z | z
      · exact absurd q2 z
      · obtain ⟨_, p, hp, hm⟩ := loose_tw z ht hw
        obtain ⟨_, g2, e1, e2, l1, l2⟩ := ldst_xl hp hisl
        exact fin p hm e1 e2 g2 l1 l2
    · rcases r.ahead q1 hx ho with z | z
      · exact absurd z q2
      · obtain ⟨_, p, hp, hm⟩ := loose_wt z hw ht
        obtain ⟨g1, _, e1, e2, l1, l2⟩ := ldst_yl hp hisl
        exact fin p hm e1 e2 g1 l1 l2
  have hnw : ¬ Wr ann E ops i := fun ⟨x, hx, hw⟩ => by
    rw [ho] at hx; obtain rfl := Option.some.inj hx
    rw [load_writes hisl] at hw; cases hw
  rcases Nat.le_total i j with hij | hij
  · have := blk_keep hr (b := b) (lo := i) hb (j - i) (by omega) (fun k h1 h2 hwk => by
      have hki : k ≠ i := fun e => hnw (e ▸ hwk)
      exact hex k hki hwk (.inl ⟨by omega, hseg.1 k (by omega) hwk⟩))
    rwa [show i + (j - i) = j by omega] at this
  · -- the block is there already
    have hcm : c.m b ≠ none := by
      rw [hA] at hrel
      cases hrel with
      | ptr hm _ _ => rw [hm]; simp
      | ptrStale _ hm _ => rw [hm]; simp
    have hbj : b < (h j).length := by
      rcases Nat.lt_or_ge b (h j).length with z | z
      · exact z
      · exfalso
        have hlt : j < i := by
          rcases Nat.lt_or_ge j i with q | q
          · exact q
          · have : j = i := by omega
            subst this; omega
        obtain ⟨k, g1, g2, g3, g4⟩ := step_at hr (i := j) (b := b) (i - j) (by omega) z (by rw [show j + (i - j) = i by omega]; exact hb)
        have hk : k < ops.size := by omega
        have hLk := (hs.dom b hcm).2 k hk g3 g4
        have hkx : ops[k]? = some ops[k] := by simp [hk]
        rcases hopen with e | ⟨⟨x, hx, hw⟩, hnl⟩
        · omega
        · by_cases e : k = j
          · subst e; exact hnl hLk
          · rcases (ord_spec r.ok).2 j k x ops[k] (by omega) hx hkx with z | z
            · exact hnl (z L r.closed hLk)
            · have h1 := (loose_wt z hw (touches_of_len hr hkx (by omega))).1
              rw [grow_load hr hkx (by omega)] at h1; cases h1
    have := blk_keep hr (b := b) (lo := j) hbj (i - j) (by omega) (fun k h1 h2 hwk => by
      have hki : k ≠ i := by omega
      exact hex k hki hwk (.inr ⟨by omega, fun hl => hseg.2 k h1 hwk hl⟩))
    rw [show j + (i - j) = i by omega] at this
    exact this.symm

/-- One operation comes up. -/
theorem Rdy.op {i : Nat} (r : Rdy E ann ops L i) (hE : EnvSound P G E) (hr : TextRun P G E ann ops T H ops.size σ h v) (hgd : ∀ p ∈ needs ops, apartAV (σ ops.size p.1) (σ ops.size p.2) = true) {c : Ctx} {a : Act} {w : World} (hs : RS G ann E ops σ h v c0 w0 N B L c a w)
    (hdst : ∀ (i : Nat) (o : Oper) (t : Nat), ops[i]? = some o → o.dst = some t → t < N) {K : Act → World → Prop} {Q : Exit → Act → World → Prop}
    (hK : ∀ c' a' w', RS G ann E ops σ h v c0 w0 N B (fun k => k = i ∨ L k) c' a' w' → K a' w') : wpOp P ops Q i K a w := by
  obtain ⟨o, ho⟩ : ∃ o, ops[i]? = some o := ⟨ops[i]'r.lt, by simp [r.lt]⟩
  unfold wpOp
  simp only [ho]
  obtain ⟨hst, -⟩ := hr.step i o r.lt ho
  have hguard : ∀ j want d, o.guard = some (j, want) → dstOf ops j = some d → Rel c (σ i d) (a.tmps.getD d undef) := fun j want d hg hd => r.operand hr hs ho (looksAt_guard hg hd)
  have hops : ∀ x ∈ o.op.operands, Rel c (opd (σ i) x) (a.eval x) := fun x hx => rel_opd (fun t ht => r.operand hr hs ho (looksAt_operand (by rw [ht] at hx; exact hx)))
  have hd1 := fun t ht => hdst i o t ho ht
  rcases stepOp_wanted hst hguard with ⟨hw, hop⟩ | ⟨hw, hv, hh⟩
  · rw [if_pos hw]
    left
    by_cases ht : touches ann o = true
    · cases hnl : isLoad o with
      | true =>
      obtain ⟨t, xa, hld⟩ : ∃ t xa, o.op = .load t xa := by
        obtain ⟨dst, op, type, pos, after, guard⟩ := o
        cases op <;> first | (cases hnl; done) | exact ⟨_, _, rfl⟩
      have hxa := hops xa (by rw [hld]; simp [Op.operands])
      have hop' : loadA P G t (opd (σ i) xa) (h i) = some (v i) := by
        simp only [opR, hld] at hop
        exact (pu_some hop).1
      obtain ⟨j, hj, hseg, hl⟩ := r.load hr hgd hs ho ht hld hop' hxa
      obtain ⟨u, e1, e2⟩ := loadA_sound hl hs.good (hs.hp j hj hseg) hxa
      exact wp_of_value (by rw [execOp_load hld]; exact run_v e1) (hK _ _ _ (r.idle hs ho (load_writes hnl) hd1 e2))
      | false =>
      have hseg := r.seg ho ht hnl
      have hHi := hs.hp i (Nat.le_of_lt r.lt) hseg
      refine opR_sound hE hop hs.good hHi (fun hne => ?_) hops (fun hwr => r.domW hr hs ho hwr) (fun u w' c' hout hq => ?_)
      · cases hm : c.m (h i).length with
        | none => rfl
        | some inf =>
          have hl := len_step hr r.lt
          exact absurd ((hs.dom (h i).length (by rw [hm]; simp)).2 i r.lt (Nat.le_refl _) (by omega)) r.new
      · cases hwr : writes ann (pureIn E) o with
        | false => exact hK _ _ _ (r.quiet hr hs ho hwr hd1 hout (hq hwr))
        | true => exact hK _ _ _ (r.writer hr hs ho hwr hd1 hout.step hout.good hout.heap (hout.dom (r.domW hr hs ho hwr)) hout.rel)
    · have ht' : touches ann o = false := by simpa using ht
      obtain ⟨hh, hrun⟩ := opR_pure ht' hop
      obtain ⟨u, e1, e2⟩ := hrun c w a hs.good hops
      have hwr : writes ann (pureIn E) o = false := by
        cases hwb : writes ann (pureIn E) o with
        | false => rfl
        | true => rw [writes_touches hwb] at ht'; cases ht'
      exact wp_of_value e1 (hK _ _ _ (r.idle hs ho hwr hd1 e2))
  · rw [hw]
    have hu : Rel c (v i) undef := by rw [hv]; exact rel_undef_tup c
    cases hwr : writes ann (pureIn E) o with
    | false => exact hK _ _ _ (r.idle hs ho hwr hd1 hu)
    | true =>
      have hHi := hs.hp i (Nat.le_of_lt r.lt) (r.seg ho (writes_touches hwr) (by cases hl : isLoad o with | false => rfl | true => rw [load_writes hl] at hwr; cases hwr))
      exact hK _ _ _ (r.writer hr hs ho hwr hd1 (.refl c w) hs.good (by rw [hh]; exact hHi) (by rw [hh]; exact r.domW hr hs ho hwr) hu)

theorem rs_any (hok : ordOk ann (pureIn E) ops = true) (hE : EnvSound P G E) (hr : TextRun P G E ann ops T H ops.size σ h v) (hgd : ∀ p ∈ needs ops, apartAV (σ ops.size p.1) (σ ops.size p.2) = true)
    (hdst : ∀ (i : Nat) (o : Oper) (t : Nat), ops[i]? = some o → o.dst = some t → t < N) {Q : Exit → Act → World → Prop}
    (hQ : ∀ c a w, St G c0 w0 N B (σ ops.size) (h ops.size) c a w → Q .normal a w) :
    ∀ (fuel : Nat) (listed : Array Bool), cntU listed ops.size ≤ fuel → listed.size = ops.size → Closed ops (fun k => listed.getD k false = true) →
      ∀ (c : Ctx) (a : Act) (w : World), RS G ann E ops σ h v c0 w0 N B (fun k => listed.getD k false = true) c a w → wpAny P .any ops Q fuel listed a w := by
  have done : ∀ (listed : Array Bool), (∀ i, i < ops.size → listed.getD i false = true) → listed.size = ops.size → ∀ c a w, RS G ann E ops σ h v c0 w0 N B (fun k => listed.getD k false = true) c a w → Q .normal a w := by
    intro listed hall hsz c a w hs
    refine hQ c a w ⟨hs.good, hs.hp ops.size (Nat.le_refl _) ⟨fun i hi _ => hall i hi, fun i hi ⟨o, ho, _⟩ => ?_⟩, fun b hb => (hs.dom b hb).1, hs.step, fun t => ?_, hs.size, hs.defers, Nat.le_trans hs.low (by have := len_mono hr (i := 0) ops.size (by omega); rwa [Nat.zero_add] at this)⟩
    · have := (Array.getElem?_eq_some_iff.1 ho).1; omega
    · refine hs.tm t _ ?_
      have big : ∀ i', ¬ i' < ops.size → dstOf ops i' ≠ some t := fun i' hi => by simp [dstOf, Array.getElem?_eq_none (Nat.le_of_not_lt hi)]
      rcases text_cur hr t ops.size (Nat.le_refl _) with ⟨k, g1, g2, g3, g4⟩ | ⟨g1, g2⟩
      · refine .inl ⟨k, hall k g1, g2, g3, fun i' z1 z2 => ?_⟩
        by_cases q : i' < ops.size
        · exact g4 i' z1 q
        · exact big i' q
      · refine .inr ⟨fun i' z => ?_, g2⟩
        by_cases q : i' < ops.size
        · exact g1 i' q
        · exact big i' q
  have all_of_ready : ∀ (listed : Array Bool), listed.size = ops.size → Region.ready .any ops listed = [] → ∀ i, i < ops.size → listed.getD i false = true := by
    intro listed hsz hrd i
    induction i using Nat.strongRecOn with
    | _ i ih =>
      intro hi
      cases hl : listed.getD i false with
      | true => rfl
      | false =>
        exfalso
        have hmem : i ∈ Region.ready .any ops listed := by
          rw [mem_ready]
          refine ⟨?_, ops[i], by simp [hi], fun e he hb => ?_⟩
          · have hi' : i < listed.size := by omega
            simp [Array.getD, hi'] at hl ⊢; exact hl
          · have := (ord_spec hok).1 i ops[i] (by simp [hi]) e he hb
            exact ih e.on this (by omega)
        rw [hrd] at hmem; cases hmem
  intro fuel
  induction fuel with
  | zero =>
    intro listed hc hsz hcl c a w hs
    have hall := cntU_zero (listed := listed) (n := ops.size) (by omega)
    refine ⟨?_, done listed hall hsz c a w hs⟩
    apply List.eq_nil_iff_forall_not_mem.2
    intro j hj
    obtain ⟨h1, o, ho, _⟩ := mem_ready.1 hj
    have hj' := (Array.getElem?_eq_some_iff.1 ho).1
    have h2 := hall j hj'
    have hj'' : j < listed.size := by omega
    simp [Array.getD, hj''] at h1 h2
    rw [h1] at h2; cases h2
  | succ fuel ih =>
    intro listed hc hsz hcl c a w hs
    refine ⟨fun hrd => done listed (all_of_ready listed hsz hrd) hsz c a w hs, fun i hi => ?_⟩
    obtain ⟨h1, o, ho, hall⟩ := mem_ready.1 hi
    have hi' := (Array.getElem?_eq_some_iff.1 ho).1
    have hil : i < listed.size := by omega
    have hun : listed.getD i false = false := by simp [Array.getD, hil] at h1 ⊢; exact h1
    have r : Rdy E ann ops (fun k => listed.getD k false = true) i := ⟨hok, hcl, hi', by simp [hun], fun o' ho' e he hb => by
      rw [ho] at ho'; obtain rfl := Option.some.inj ho'; exact hall e he hb⟩
    have hiff : ∀ k, (listed.setIfInBounds i true).getD k false = true ↔ (k = i ∨ listed.getD k false = true) := by
      intro k
      by_cases e : k = i
      · subst e; simp [Array.getD, hil]
      · rw [getD_set_ne false (Ne.symm e)]; simp [e]
    refine r.op hE hr hgd hs hdst (fun c' a' w' hs' => ?_)
    have hL : (fun k => (listed.setIfInBounds i true).getD k false = true) = (fun k => k = i ∨ listed.getD k false = true) := funext fun k => propext (hiff k)
    refine ih (listed.setIfInBounds i true) ?_ (by simpa using hsz) (by rw [hL]; exact r.closed') c' a' w' (by rw [hL]; exact hs')
    have := cntU_set hil hun ops.size
    rw [if_pos hi'] at this
    omega

/-- A region that draws its order. -/
theorem region_draw {γ : Type} {K : TS → AHeap → Option γ} {out : γ} {id : Nat} (hm : P.follows .mixedOrders = true) (hok : ordOk ann (pureIn E) ops = true) (hE : EnvSound P G E)
    (hdst : ∀ (i : Nat) (o : Oper) (t : Nat), ops[i]? = some o → o.dst = some t → t < N) {Q : Exit → Act → World → Prop}
    (hQ : ∀ T H c a w, K T H = some out → St G c0 w0 N B T H c a w → Q .normal a w) {c : Ctx} {a : Act} {w : World} (hrun : runOps P G E ann ops ops.toList (fun T H => grd (addrs T (needs ops)) (K T H)) T H = some out) (hs : St G c0 w0 N B T H c a w) :
    (Code.region id ops true).wp P Q a w := by
  obtain ⟨σ, h, v, e1, e2, e3, e4⟩ := textRun_of (K := fun T H => grd (addrs T (needs ops)) (K T H)) ops.toList 0 (fun j => by simp) T H hrun
  simp only [Nat.zero_add, Array.length_toList] at e3 e4
  obtain ⟨e4, hgd⟩ := grd_some e4
  have hgd' : ∀ p ∈ needs ops, apartAV (σ ops.size p.1) (σ ops.size p.2) = true := fun p hp => hgd _ (List.mem_map.2 ⟨p, hp, rfl⟩)
  have hr : TextRun P G E ann ops T H ops.size σ h v := ⟨e1, e2, fun i o hi ho => e3 i o (Nat.zero_le _) hi ho⟩
  refine wp_region_any hm ?_
  have hnone : ∀ k, (Array.replicate ops.size false).getD k false = false := fun k => by
    simp only [Array.getD_eq_getD_getElem?, Array.getElem?_replicate]
    split <;> rfl
  have hstep : Step c w c { w with drawn := w.drawn + 1 } := ⟨.refl c, rfl, rfl, rfl, Nat.le_refl _, fun _ _ _ => rfl, fun _ inf h hv _ => ⟨inf, h, hv, rfl⟩, fun _ _ h => .inl h, fun _ _ h => .inl h⟩
  have hn0 : ∀ (S : Nat → Prop), S = (fun k => (Array.replicate ops.size false).getD k false = true) → ∀ k, ¬ S k := fun S hS k hk => by rw [hS] at hk; simp only [hnone] at hk; cases hk
  refine rs_any hok hE hr hgd' hdst (fun c a w hst => hQ _ _ c a w e4 hst) ops.size _ ?_ (by simp) (fun j o ho hj => absurd hj (hn0 _ rfl j)) c a _ ⟨hs.good.world hstep, hs.step.trans hstep, hs.size, hs.defers, by rw [e2]; exact hs.low, fun t x hc => ?_, fun j hj hseg => ?_, fun b hb => ?_⟩
  · have : ∀ n, cntU (Array.replicate ops.size false) n ≤ n := by
      intro n
      induction n with
      | zero => simp [cntU]
      | succ n ih => simp only [cntU]; split <;> omega
    exact this _
  · rcases hc with ⟨k, g1, _⟩ | ⟨_, g2⟩
    · exact absurd g1 (hn0 _ rfl k)
    · rw [g2, e1]; exact hs.tmps t
  · -- no writer ahead of j
    have hno : ∀ k, 0 ≤ k → k < 0 + j → ¬ Wr ann E ops k := fun k _ hk hw => absurd (hseg.1 k (by omega) hw) (hn0 _ rfl k)
    have hext := ext_get hr (i := 0) j (by omega) hno
    rw [Nat.zero_add] at hext
    refine (⟨fun b blk inf hb hm => ?_, hs.heap.inj⟩ : HeapAt c (h j) w) |> fun q => ⟨fun b blk inf hb hm => (q.blk b blk inf hb hm).kept (.refl c) (fun _ => rfl), q.inj⟩
    have hbl := hs.dom b (by rw [hm]; simp)
    rw [← e2] at hbl
    rw [hext b hbl, e2] at hb
    exact hs.heap.blk b blk inf hb hm
  · have hbl := hs.dom b hb
    rw [← e2] at hbl
    refine ⟨Nat.lt_of_lt_of_le hbl (by have := len_mono hr (i := 0) ops.size (by omega); rwa [Nat.zero_add] at this), fun k hk g1 g2 => ?_⟩
    have := len_mono hr (i := 0) k (by omega)
    rw [Nat.zero_add] at this
    omega

end

end Go.Proofs.YtdfglgnflldkpaaDoor.Mir
