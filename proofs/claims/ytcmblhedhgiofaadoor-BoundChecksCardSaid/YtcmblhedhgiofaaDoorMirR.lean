/- Mirror, part R: a region that draws its order is sound. -/
import Derived.Test.YtcmblhedhgiofaaDoorMirQ
namespace Go.Proofs.YtcmblhedhgiofaaDoor.Mir
open Go
set_option linter.unusedVariables false
set_option linter.unusedSimpArgs false

theorem writes_touches {ann : Ann} {pf : Nat → Bool} {o : Oper} (h : writes ann pf o = true) : touches ann o = true := by
  obtain ⟨dst, op, type, pos, after, guard⟩ := o
  cases op <;> first | (cases h; done) | rfl | skip
  rename_i cl
  obtain ⟨callee, args, ats⟩ := cl
  cases callee with
  | invoke r m => rfl
  | value f => rfl
  | builtin b => cases b <;> first | (cases h; done) | rfl

section
variable {P : Program} {G : Globs} {E : Env} {ann : Ann} {ops : Array Oper} {σ : Nat → TS} {h : Nat → AHeap} {v : Nat → AV} {T : TS} {H : AHeap} {c0 : Ctx} {w0 : World} {N B : Nat} {L : Nat → Prop}

/-- What of the order is used: an operation that has all it waits for, and has not come up. -/
structure Rdy (E : Env) (ann : Ann) (ops : Array Oper) (L : Nat → Prop) (i : Nat) : Prop where
  ok : ordOk ann (pureIn E) ops = true
  closed : Closed ops L
  lt : i < ops.size
  new : ¬ L i
  waits : ∀ o, ops[i]? = some o → ∀ e ∈ o.after, Region.binds .any e = true → L e.on

theorem Rdy.closed' {i : Nat} (r : Rdy E ann ops L i) : Closed ops (fun k => k = i ∨ L k) := by
  intro j o ho hj e he hb
  rcases hj with rfl | hj
  · exact .inr (r.waits o ho e he hb)
  · exact .inr (r.closed j o ho hj e he hb)

/-- Ahead of i, and bound: it has come up. -/
theorem Rdy.ahead {i : Nat} (r : Rdy E ann ops L i) {k : Nat} {x y : Oper} (hk : k < i) (hx : ops[k]? = some x) (hy : ops[i]? = some y) : L k ∨ looseOk ann (pureIn E) ops x y = true := by
  rcases (ord_spec r.ok).2 k i x y hk hx hy with h1 | h1
  · rcases h1 _ r.closed' (.inl rfl) with h2 | h2
    · omega
    · exact .inl h2
  · exact .inr h1

/-- Behind i, and bound: it has not come up. -/
theorem Rdy.behind {i : Nat} (r : Rdy E ann ops L i) {k : Nat} {x y : Oper} (hk : i < k) (hx : ops[k]? = some x) (hy : ops[i]? = some y) : ¬ L k ∨ looseOk ann (pureIn E) ops y x = true := by
  rcases (ord_spec r.ok).2 i k y x hk hy hx with h1 | h1
  · exact .inl fun hl => r.new (h1 L r.closed hl)
  · exact .inr h1

theorem loose_apart {x y : Oper} (hl : looseOk ann (pureIn E) ops x y = true) : Oper.apart ops x y = true := by
  simp only [looseOk, Bool.and_eq_true] at hl; exact hl.1.1
theorem loose_wt {x y : Oper} (hl : looseOk ann (pureIn E) ops x y = true) (hx : writes ann (pureIn E) x = true) (hy : touches ann y = true) : False := by
  simp [looseOk, hx, hy] at hl
theorem loose_tw {x y : Oper} (hl : looseOk ann (pureIn E) ops x y = true) (hx : touches ann x = true) (hy : writes ann (pureIn E) y = true) : False := by
  simp [looseOk, hx, hy] at hl

theorem Rdy.seg {i : Nat} (r : Rdy E ann ops L i) {o : Oper} (ho : ops[i]? = some o) (ht : touches ann o = true) : Seg ann E ops L i := by
  refine ⟨fun k hk ⟨x, hx, hw⟩ => ?_, fun k hk ⟨x, hx, hw⟩ => ?_⟩
  · rcases r.ahead hk hx ho with h1 | h1
    · exact h1
    · exact (loose_wt h1 hw ht).elim
  · by_cases e : k = i
    · rw [e]; exact r.new
    · rcases r.behind (show i < k by omega) hx ho with h1 | h1
      · exact h1
      · exact (loose_tw h1 ht hw).elim

/-- Between two lengths there is an operation that brings it. -/
theorem step_at (hr : TextRun P G E ann ops T H ops.size σ h v) {b i : Nat} : ∀ (d : Nat), i + d ≤ ops.size → (h i).length ≤ b → b < (h (i + d)).length → ∃ k, i ≤ k ∧ k < i + d ∧ (h k).length ≤ b ∧ b < (h (k + 1)).length
  | 0, _, h1, h2 => by simp at h2; omega
  | d + 1, hd, h1, h2 => by
    by_cases hb : b < (h (i + d)).length
    · obtain ⟨k, g1, g2, g3, g4⟩ := step_at hr d (by omega) h1 hb
      exact ⟨k, g1, by omega, g3, g4⟩
    · exact ⟨i + d, by omega, by omega, by omega, by rw [show i + d + 1 = i + (d + 1) by omega]; exact h2⟩

theorem touches_of_len (hr : TextRun P G E ann ops T H ops.size σ h v) {k : Nat} {x : Oper} (hx : ops[k]? = some x) (hl : (h k).length < (h (k + 1)).length) : touches ann x = true := by
  cases ht : touches ann x with
  | true => rfl
  | false => rw [same_step hr hx ht] at hl; omega

theorem Rdy.domW {i : Nat} (r : Rdy E ann ops L i) (hr : TextRun P G E ann ops T H ops.size σ h v) {c : Ctx} {a : Act} {w : World} (hs : RS G ann E ops σ h v c0 w0 N B L c a w) {o : Oper} (ho : ops[i]? = some o) (hw : writes ann (pureIn E) o = true) :
    Dom c (h i) := by
  intro b hb
  obtain ⟨h1, h2⟩ := hs.dom b hb
  by_cases hlt : b < (h i).length
  · exact hlt
  · exfalso
    obtain ⟨k, g1, g2, g3, g4⟩ := step_at hr (i := i) (b := b) (ops.size - i) (by have := r.lt; omega) (by omega) (by rw [show i + (ops.size - i) = ops.size by have := r.lt; omega]; exact h1)
    have hk : k < ops.size := by have := r.lt; omega
    have hLk := h2 k hk g3 g4
    have hkx : ops[k]? = some ops[k] := by simp [hk]
    have hik : i < k := by
      rcases Nat.lt_or_ge i k with q | q
      · exact q
      · have : k = i := by omega
        subst this; exact absurd hLk r.new
    rcases r.behind hik hkx ho with q | q
    · exact q hLk
    · exact loose_wt q hw (touches_of_len hr hkx (by omega))

/-- The operands, as the text has them. -/
theorem Rdy.operand {i : Nat} (r : Rdy E ann ops L i) (hr : TextRun P G E ann ops T H ops.size σ h v) {c : Ctx} {a : Act} {w : World} (hs : RS G ann E ops σ h v c0 w0 N B L c a w) {o : Oper} (ho : ops[i]? = some o) {t : Nat} (ht : t ∈ o.looksAt ops) :
    Rel c (σ i t) (a.tmps.getD t undef) := by
  refine hs.tm t (σ i t) ?_
  have later : ∀ i', i < i' → L i' → dstOf ops i' ≠ some t := by
    intro i' h1 h2 h3
    cases hx : ops[i']? with
    | none => simp [dstOf, hx] at h3
    | some x =>
      rcases r.behind h1 hx ho with q | q
      · exact q h2
      · have := (Oper.apart_spec (loose_apart q)).2.2 t (by simpa [dstOf, hx] using h3)
        exact this ht
  rcases text_cur hr t i (Nat.le_of_lt r.lt) with ⟨k, g1, g2, g3, g4⟩ | ⟨g1, g2⟩
  · have hk : k < ops.size := by have := r.lt; omega
    have hkx : ops[k]? = some ops[k] := by simp [hk]
    refine .inl ⟨k, ?_, g2, g3, fun i' q1 q2 => ?_⟩
    · rcases r.ahead g1 hkx ho with q | q
      · exact q
      · have := (Oper.apart_spec (loose_apart q)).1 t (by simpa [dstOf, hkx] using g2)
        exact absurd ht this
    · rcases Nat.lt_trichotomy i' i with q | q | q
      · exact g4 i' q1 q
      · subst q; exact absurd q2 r.new
      · exact later i' q q2
  · refine .inr ⟨fun i' q2 => ?_, g2⟩
    rcases Nat.lt_trichotomy i' i with q | q | q
    · exact g1 i' q
    · subst q; exact absurd q2 r.new
    · exact later i' q q2

/-- The temporaries behind it. -/
theorem Rdy.tm {i : Nat} (r : Rdy E ann ops L i) {c c' : Ctx} {a : Act} {w : World} (hs : RS G ann E ops σ h v c0 w0 N B L c a w) {o : Oper} (ho : ops[i]? = some o) (hdst : ∀ t, o.dst = some t → t < N) (hle : c.le c')
    {u : Value} (hu : Rel c' (v i) u) : ∀ t x, Cur ops σ v (fun k => k = i ∨ L k) t x → Rel c' x ((a.put o.dst u).tmps.getD t undef) := by
  intro t x hc
  rw [put_getD a o.dst u (fun t ht => by rw [hs.size]; exact hdst t ht)]
  have hd : dstOf ops i = o.dst := by simp [dstOf, ho]
  by_cases e : o.dst = some t
  · rw [if_pos e]
    rcases hc with ⟨k, g1, g2, g3, g4⟩ | ⟨g1, g2⟩
    · by_cases q : k = i
      · subst q; rw [g3]; exact hu
      · exfalso
        have hLk : L k := g1.resolve_left q
        rcases Nat.lt_or_gt_of_ne q with q1 | q1
        · exact g4 i q1 (.inl rfl) (by rw [hd, e])
        · cases hx : ops[k]? with
          | none => simp [dstOf, hx] at g2
          | some y =>
            rcases r.behind q1 hx ho with z | z
            · exact z hLk
            · exact (Oper.apart_spec (loose_apart z)).2.1 t e (by simpa [dstOf, hx] using g2)
    · exact absurd (by rw [hd, e]) (g1 i (.inl rfl))
  · rw [if_neg e]
    refine (hs.tm t x ?_).mono hle
    rcases hc with ⟨k, g1, g2, g3, g4⟩ | ⟨g1, g2⟩
    · have q : k ≠ i := fun q => e (by rw [← hd, ← q]; exact g2)
      exact .inl ⟨k, g1.resolve_left q, g2, g3, fun i' z1 z2 => g4 i' z1 (.inr z2)⟩
    · exact .inr ⟨fun i' z => g1 i' (.inr z), g2⟩

/-- Behind a writer. -/
theorem Rdy.writer {i : Nat} (r : Rdy E ann ops L i) (hr : TextRun P G E ann ops T H ops.size σ h v) {c c' : Ctx} {a : Act} {w w' : World} (hs : RS G ann E ops σ h v c0 w0 N B L c a w) {o : Oper} (ho : ops[i]? = some o)
    (hw : writes ann (pureIn E) o = true) (hdst : ∀ t, o.dst = some t → t < N) (hst : Step c w c' w') (hg : Good G c' w') (hH : HeapAt c' (h (i + 1)) w') (hd : Dom c' (h (i + 1))) {u : Value} (hu : Rel c' (v i) u) :
    RS G ann E ops σ h v c0 w0 N B (fun k => k = i ∨ L k) c' (a.put o.dst u) w' := by
  have hlt := r.lt
  refine ⟨hg, hs.step.trans hst, by rw [put_size]; exact hs.size, by rw [put_defers]; exact hs.defers, hs.low, r.tm hs ho hdst hst.le hu, fun j hj hseg => ?_, fun b hb => ?_⟩
  · have hij : i < j := by
      rcases Nat.lt_or_ge i j with q | q
      · exact q
      · exact absurd (.inl rfl) (hseg.2 i q ⟨o, ho, hw⟩)
    have hno : ∀ k, i + 1 ≤ k → k < i + 1 + (j - (i + 1)) → ¬ Wr ann E ops k := by
      intro k q1 q2 ⟨x, hx, hwx⟩
      have hLk : L k := (hseg.1 k (by omega) ⟨x, hx, hwx⟩).resolve_left (by omega)
      rcases r.behind (show i < k by omega) hx ho with z | z
      · exact z hLk
      · exact loose_wt z hw (writes_touches hwx)
    have hext := ext_get hr (i := i + 1) (j - (i + 1)) (by omega) hno
    rw [show i + 1 + (j - (i + 1)) = j by omega] at hext
    refine ⟨fun b blk inf hb hm => ?_, hH.inj⟩
    have hbl := hd b (by rw [hm]; simp)
    rw [hext b hbl] at hb
    exact hH.blk b blk inf hb hm
  · have hbl := hd b hb
    refine ⟨Nat.lt_of_lt_of_le hbl (by have := len_mono hr (i := i + 1) (ops.size - (i + 1)) (by omega); rwa [show i + 1 + (ops.size - (i + 1)) = ops.size by omega] at this), fun k hk g1 g2 => ?_⟩
    by_cases q : k = i
    · exact .inl q
    · have hki : k < i := by
        rcases Nat.lt_or_ge k i with z | z
        · exact z
        · have := len_mono hr (i := i + 1) (k - (i + 1)) (by omega)
          rw [show i + 1 + (k - (i + 1)) = k by omega] at this
          omega
      have hkx : ops[k]? = some ops[k] := by simp [hk]
      rcases r.ahead hki hkx ho with z | z
      · exact .inr z
      · exact (loose_tw z (touches_of_len hr hkx (by omega)) hw).elim

theorem not_wr {i : Nat} {o : Oper} (ho : ops[i]? = some o) (hw : writes ann (pureIn E) o = false) : ¬ Wr ann E ops i := fun ⟨x, hx, hwx⟩ => by
  rw [ho] at hx; obtain rfl := Option.some.inj hx; rw [hw] at hwx; cases hwx

theorem seg_iff {i j : Nat} (hw : ¬ Wr ann E ops i) (hs : Seg ann E ops (fun k => k = i ∨ L k) j) : Seg ann E ops L j :=
  ⟨fun k hk hwk => (hs.1 k hk hwk).resolve_left (fun e => hw (e ▸ hwk)), fun k hk hwk hl => hs.2 k hk hwk (.inr hl)⟩

/-- Behind an operation that has turned nothing at all. -/
theorem Rdy.idle {i : Nat} (r : Rdy E ann ops L i) {c : Ctx} {a : Act} {w : World} (hs : RS G ann E ops σ h v c0 w0 N B L c a w) {o : Oper} (ho : ops[i]? = some o)
    (hw : writes ann (pureIn E) o = false) (hdst : ∀ t, o.dst = some t → t < N) {u : Value} (hu : Rel c (v i) u) :
    RS G ann E ops σ h v c0 w0 N B (fun k => k = i ∨ L k) c (a.put o.dst u) w :=
  ⟨hs.good, hs.step, by rw [put_size]; exact hs.size, by rw [put_defers]; exact hs.defers, hs.low, r.tm hs ho hdst (.refl c) hu, fun j hj hseg => hs.hp j hj (seg_iff (not_wr ho hw) hseg),
   fun b hb => ⟨(hs.dom b hb).1, fun k hk g1 g2 => .inr ((hs.dom b hb).2 k hk g1 g2)⟩⟩

/-- Behind an operation that has made a block, at most. -/
theorem Rdy.quiet {i : Nat} (r : Rdy E ann ops L i) (hr : TextRun P G E ann ops T H ops.size σ h v) {c c' : Ctx} {a : Act} {w w' : World} (hs : RS G ann E ops σ h v c0 w0 N B L c a w) {o : Oper} (ho : ops[i]? = some o)
    (hw : writes ann (pureIn E) o = false) (hdst : ∀ t, o.dst = some t → t < N) {u : Value} (hout : Out G c (h i) w (v i) (h (i + 1)) u w' c') (hq : Quiet c (h i) w (h (i + 1)) w' c') :
    RS G ann E ops σ h v c0 w0 N B (fun k => k = i ∨ L k) c' (a.put o.dst u) w' := by
  have hlt := r.lt
  refine ⟨hout.good, hs.step.trans hout.step, by rw [put_size]; exact hs.size, by rw [put_defers]; exact hs.defers, hs.low, r.tm hs ho hdst hout.step.le hout.rel, fun j hj hseg => ?_, fun b hb => ?_⟩
  · have hsegL := seg_iff (not_wr ho hw) hseg
    have hHj := hs.hp j hj hsegL
    refine ⟨fun b blk inf hb hm => ?_, hout.heap.inj⟩
    have old : c.m b = some inf → BlkAt c' inf blk w' := fun hm0 =>
      (hHj.blk b blk inf hb hm0).kept hout.step.le (fun hv => hq.kept _ (hs.good.bound _ ⟨b, inf, hm0, hv, rfl⟩))
    by_cases e : b = (h i).length
    · rcases hq.ext with hx | ⟨blk', hx⟩
      · subst e; rw [hq.keepm hx] at hm; exact old hm
      · -- the new block
        have hij : i + 1 ≤ j := by
          rcases Nat.lt_or_ge i j with q | q
          · exact q
          · exfalso
            have := len_mono hr (i := j) (i - j) (by omega)
            rw [show j + (i - j) = i by omega] at this
            have := (List.getElem?_eq_some_iff.1 hb).1
            omega
        by_cases hto : touches ann o = true
        · have hno : ∀ k, i + 1 ≤ k → k < i + 1 + (j - (i + 1)) → ¬ Wr ann E ops k := by
            intro k q1 q2 ⟨x, hx', hwx⟩
            have hLk : L k := hsegL.1 k (by omega) ⟨x, hx', hwx⟩
            rcases r.behind (show i < k by omega) hx' ho with z | z
            · exact z hLk
            · exact loose_tw z hto hwx
          have hext := ext_get hr (i := i + 1) (j - (i + 1)) (by omega) hno b (by rw [hx]; simp; omega)
          rw [show i + 1 + (j - (i + 1)) = j by omega] at hext
          rw [hext] at hb
          exact hout.heap.blk b blk inf hb hm
        · have := same_step hr ho (by simpa using hto)
          rw [this] at hx
          have := congrArg List.length hx
          simp at this
    · rw [hq.same b e] at hm; exact old hm
  · by_cases e : b = (h i).length
    · rcases hq.ext with hx | ⟨blk', hx⟩
      · subst e
        rw [hq.keepm hx] at hb
        exact ⟨(hs.dom _ hb).1, fun k hk g1 g2 => .inr ((hs.dom _ hb).2 k hk g1 g2)⟩
      · have hl : (h (i + 1)).length = (h i).length + 1 := by rw [hx]; simp
        refine ⟨?_, fun k hk g1 g2 => ?_⟩
        · have := len_mono hr (i := i + 1) (ops.size - (i + 1)) (by omega)
          rw [show i + 1 + (ops.size - (i + 1)) = ops.size by omega] at this
          omega
        · rcases Nat.lt_trichotomy k i with q | q | q
          · have := len_mono hr (i := k + 1) (i - (k + 1)) (by omega)
            rw [show k + 1 + (i - (k + 1)) = i by omega] at this
            omega
          · exact .inl q
          · have := len_mono hr (i := i + 1) (k - (i + 1)) (by omega)
            rw [show i + 1 + (k - (i + 1)) = k by omega] at this
            omega
    · rw [hq.same b e] at hb
      exact ⟨(hs.dom b hb).1, fun k hk g1 g2 => .inr ((hs.dom b hb).2 k hk g1 g2)⟩

theorem looksAt_operand {o : Oper} {t : Nat} (h : (.tmp t : Operand) ∈ o.op.operands) : t ∈ o.looksAt ops :=
  List.mem_append_left _ (List.mem_filterMap.2 ⟨.tmp t, by simpa using h, rfl⟩)

theorem looksAt_guard {o : Oper} {j d : Nat} {want : Bool} (hg : o.guard = some (j, want)) (hd : dstOf ops j = some d) : d ∈ o.looksAt ops := by
  refine List.mem_append_right _ ?_
  have hd' : (ops[j]?).bind (·.dst) = some d := hd
  simp [hg, hd']

/-- One operation comes up. -/
theorem Rdy.op {i : Nat} (r : Rdy E ann ops L i) (hE : EnvSound P G E) (hr : TextRun P G E ann ops T H ops.size σ h v) {c : Ctx} {a : Act} {w : World} (hs : RS G ann E ops σ h v c0 w0 N B L c a w)
    (hdst : ∀ (i : Nat) (o : Oper) (t : Nat), ops[i]? = some o → o.dst = some t → t < N) {K : Act → World → Prop} {Q : Exit → Act → World → Prop}
    (hK : ∀ c' a' w', RS G ann E ops σ h v c0 w0 N B (fun k => k = i ∨ L k) c' a' w' → K a' w') : wpOp P ops Q i K a w := by
  obtain ⟨o, ho⟩ : ∃ o, ops[i]? = some o := ⟨ops[i]'r.lt, by simp [r.lt]⟩
  unfold wpOp
  simp only [ho]
  obtain ⟨hst, -⟩ := hr.step i o r.lt ho
  have hguard : ∀ j want d, o.guard = some (j, want) → dstOf ops j = some d → Rel c (σ i d) (a.tmps.getD d undef) := fun j want d hg hd => r.operand hr hs ho (looksAt_guard hg hd)
  have hops : ∀ x ∈ o.op.operands, Rel c (opd (σ i) x) (a.eval x) := fun x hx => rel_opd (fun t ht => r.operand hr hs ho (looksAt_operand (by rw [ht] at hx; exact hx)))
  have hd1 := fun t ht => hdst i o t ho ht
  rcases stepOp_wanted hst hguard with ⟨hw, hop⟩ | ⟨hw, hv, hh⟩
  · rw [if_pos hw]
    left
    by_cases ht : touches ann o = true
    · have hseg := r.seg ho ht
      have hHi := hs.hp i (Nat.le_of_lt r.lt) hseg
      refine opR_sound hE hop hs.good hHi (fun hne => ?_) hops (fun hwr => r.domW hr hs ho hwr) (fun u w' c' hout hq => ?_)
      · cases hm : c.m (h i).length with
        | none => rfl
        | some inf =>
          have hl := len_step hr r.lt
          exact absurd ((hs.dom (h i).length (by rw [hm]; simp)).2 i r.lt (Nat.le_refl _) (by omega)) r.new
      · cases hwr : writes ann (pureIn E) o with
        | false => exact hK _ _ _ (r.quiet hr hs ho hwr hd1 hout (hq hwr))
        | true => exact hK _ _ _ (r.writer hr hs ho hwr hd1 hout.step hout.good hout.heap (hout.dom (r.domW hr hs ho hwr)) hout.rel)
    · have ht' : touches ann o = false := by simpa using ht
      obtain ⟨hh, hrun⟩ := opR_pure ht' hop
      obtain ⟨u, e1, e2⟩ := hrun c w a hs.good hops
      have hwr : writes ann (pureIn E) o = false := by
        cases hwb : writes ann (pureIn E) o with
        | false => rfl
        | true => rw [writes_touches hwb] at ht'; cases ht'
      exact wp_of_value e1 (hK _ _ _ (r.idle hs ho hwr hd1 e2))
  · rw [hw]
    have hu : Rel c (v i) undef := by rw [hv]; exact rel_undef_tup c
    cases hwr : writes ann (pureIn E) o with
    | false => exact hK _ _ _ (r.idle hs ho hwr hd1 hu)
    | true =>
      have hHi := hs.hp i (Nat.le_of_lt r.lt) (r.seg ho (writes_touches hwr))
      exact hK _ _ _ (r.writer hr hs ho hwr hd1 (.refl c w) hs.good (by rw [hh]; exact hHi) (by rw [hh]; exact r.domW hr hs ho hwr) hu)

theorem rs_any (hok : ordOk ann (pureIn E) ops = true) (hE : EnvSound P G E) (hr : TextRun P G E ann ops T H ops.size σ h v)
    (hdst : ∀ (i : Nat) (o : Oper) (t : Nat), ops[i]? = some o → o.dst = some t → t < N) {Q : Exit → Act → World → Prop}
    (hQ : ∀ c a w, St G c0 w0 N B (σ ops.size) (h ops.size) c a w → Q .normal a w) :
    ∀ (fuel : Nat) (listed : Array Bool), cntU listed ops.size ≤ fuel → listed.size = ops.size → Closed ops (fun k => listed.getD k false = true) →
      ∀ (c : Ctx) (a : Act) (w : World), RS G ann E ops σ h v c0 w0 N B (fun k => listed.getD k false = true) c a w → wpAny P .any ops Q fuel listed a w := by
  have done : ∀ (listed : Array Bool), (∀ i, i < ops.size → listed.getD i false = true) → listed.size = ops.size → ∀ c a w, RS G ann E ops σ h v c0 w0 N B (fun k => listed.getD k false = true) c a w → Q .normal a w := by
    intro listed hall hsz c a w hs
    refine hQ c a w ⟨hs.good, hs.hp ops.size (Nat.le_refl _) ⟨fun i hi _ => hall i hi, fun i hi ⟨o, ho, _⟩ => ?_⟩, fun b hb => (hs.dom b hb).1, hs.step, fun t => ?_, hs.size, hs.defers, Nat.le_trans hs.low (by have := len_mono hr (i := 0) ops.size (by omega); rwa [Nat.zero_add] at this)⟩
    · have := (Array.getElem?_eq_some_iff.1 ho).1; omega
    · refine hs.tm t _ ?_
      have big : ∀ i', ¬ i' < ops.size → dstOf ops i' ≠ some t := fun i' hi => by simp [dstOf, Array.getElem?_eq_none (Nat.le_of_not_lt hi)]
      rcases text_cur hr t ops.size (Nat.le_refl _) with ⟨k, g1, g2, g3, g4⟩ | ⟨g1, g2⟩
      · refine .inl ⟨k, hall k g1, g2, g3, fun i' z1 z2 => ?_⟩
        by_cases q : i' < ops.size
        · exact g4 i' z1 q
        · exact big i' q
      · refine .inr ⟨fun i' z => ?_, g2⟩
        by_cases q : i' < ops.size
        · exact g1 i' q
        · exact big i' q
  have all_of_ready : ∀ (listed : Array Bool), listed.size = ops.size → Region.ready .any ops listed = [] → ∀ i, i < ops.size → listed.getD i false = true := by
    intro listed hsz hrd i
    induction i using Nat.strongRecOn with
    | _ i ih =>
      intro hi
      cases hl : listed.getD i false with
      | true => rfl
      | false =>
        exfalso
        have hmem : i ∈ Region.ready .any ops listed := by
          rw [mem_ready]
          refine ⟨?_, ops[i], by simp [hi], fun e he hb => ?_⟩
          · have hi' : i < listed.size := by omega
            simp [Array.getD, hi'] at hl ⊢; exact hl
          · have := (ord_spec hok).1 i ops[i] (by simp [hi]) e he hb
            exact ih e.on this (by omega)
        rw [hrd] at hmem; cases hmem
  intro fuel
  induction fuel with
  | zero =>
    intro listed hc hsz hcl c a w hs
    have hall := cntU_zero (listed := listed) (n := ops.size) (by omega)
    refine ⟨?_, done listed hall hsz c a w hs⟩
    apply List.eq_nil_iff_forall_not_mem.2
    intro j hj
    obtain ⟨h1, o, ho, _⟩ := mem_ready.1 hj
    have hj' := (Array.getElem?_eq_some_iff.1 ho).1
    have h2 := hall j hj'
    have hj'' : j < listed.size := by omega
    simp [Array.getD, hj''] at h1 h2
    rw [h1] at h2; cases h2
  | succ fuel ih =>
    intro listed hc hsz hcl c a w hs
    refine ⟨fun hrd => done listed (all_of_ready listed hsz hrd) hsz c a w hs, fun i hi => ?_⟩
    obtain ⟨h1, o, ho, hall⟩ := mem_ready.1 hi
    have hi' := (Array.getElem?_eq_some_iff.1 ho).1
    have hil : i < listed.size := by omega
    have hun : listed.getD i false = false := by simp [Array.getD, hil] at h1 ⊢; exact h1
    have r : Rdy E ann ops (fun k => listed.getD k false = true) i := ⟨hok, hcl, hi', by simp [hun], fun o' ho' e he hb => by
      rw [ho] at ho'; obtain rfl := Option.some.inj ho'; exact hall e he hb⟩
    have hiff : ∀ k, (listed.setIfInBounds i true).getD k false = true ↔ (k = i ∨ listed.getD k false = true) := by
      intro k
      by_cases e : k = i
      · subst e; simp [Array.getD, hil]
      · rw [getD_set_ne false (Ne.symm e)]; simp [e]
    refine r.op hE hr hs hdst (fun c' a' w' hs' => ?_)
    have hL : (fun k => (listed.setIfInBounds i true).getD k false = true) = (fun k => k = i ∨ listed.getD k false = true) := funext fun k => propext (hiff k)
    refine ih (listed.setIfInBounds i true) ?_ (by simpa using hsz) (by rw [hL]; exact r.closed') c' a' w' (by rw [hL]; exact hs')
    have := cntU_set hil hun ops.size
    rw [if_pos hi'] at this
    omega

/-- A region that draws its order. -/
theorem region_draw {γ : Type} {K : TS → AHeap → Option γ} {out : γ} {id : Nat} (hm : P.follows .mixedOrders = true) (hok : ordOk ann (pureIn E) ops = true) (hE : EnvSound P G E)
    (hdst : ∀ (i : Nat) (o : Oper) (t : Nat), ops[i]? = some o → o.dst = some t → t < N) {Q : Exit → Act → World → Prop}
    (hQ : ∀ T H c a w, K T H = some out → St G c0 w0 N B T H c a w → Q .normal a w) {c : Ctx} {a : Act} {w : World} (hrun : runOps P G E ann ops ops.toList K T H = some out) (hs : St G c0 w0 N B T H c a w) :
    (Code.region id ops true).wp P Q a w := by
  obtain ⟨σ, h, v, e1, e2, e3, e4⟩ := textRun_of ops.toList 0 (fun j => by simp) T H hrun
  simp only [Nat.zero_add, Array.length_toList] at e3 e4
  have hr : TextRun P G E ann ops T H ops.size σ h v := ⟨e1, e2, fun i o hi ho => e3 i o (Nat.zero_le _) hi ho⟩
  refine wp_region_any hm ?_
  have hnone : ∀ k, (Array.replicate ops.size false).getD k false = false := fun k => by
    simp only [Array.getD_eq_getD_getElem?, Array.getElem?_replicate]
    split <;> rfl
  have hstep : Step c w c { w with drawn := w.drawn + 1 } := ⟨.refl c, rfl, rfl, rfl, Nat.le_refl _, fun _ _ _ => rfl, fun _ inf h hv _ => ⟨inf, h, hv, rfl⟩, fun _ _ h => .inl h, fun _ _ h => .inl h⟩
  have hn0 : ∀ (S : Nat → Prop), S = (fun k => (Array.replicate ops.size false).getD k false = true) → ∀ k, ¬ S k := fun S hS k hk => by rw [hS] at hk; simp only [hnone] at hk; cases hk
  refine rs_any hok hE hr hdst (fun c a w hst => hQ _ _ c a w e4 hst) ops.size _ ?_ (by simp) (fun j o ho hj => absurd hj (hn0 _ rfl j)) c a _ ⟨hs.good.world hstep, hs.step.trans hstep, hs.size, hs.defers, by rw [e2]; exact hs.low, fun t x hc => ?_, fun j hj hseg => ?_, fun b hb => ?_⟩
  · have : ∀ n, cntU (Array.replicate ops.size false) n ≤ n := by
      intro n
      induction n with
      | zero => simp [cntU]
      | succ n ih => simp only [cntU]; split <;> omega
    exact this _
  · rcases hc with ⟨k, g1, _⟩ | ⟨_, g2⟩
    · exact absurd g1 (hn0 _ rfl k)
    · rw [g2, e1]; exact hs.tmps t
  · -- no writer ahead of j
    have hno : ∀ k, 0 ≤ k → k < 0 + j → ¬ Wr ann E ops k := fun k _ hk hw => absurd (hseg.1 k (by omega) hw) (hn0 _ rfl k)
    have hext := ext_get hr (i := 0) j (by omega) hno
    rw [Nat.zero_add] at hext
    refine (⟨fun b blk inf hb hm => ?_, hs.heap.inj⟩ : HeapAt c (h j) w) |> fun q => ⟨fun b blk inf hb hm => (q.blk b blk inf hb hm).kept (.refl c) (fun _ => rfl), q.inj⟩
    have hbl := hs.dom b (by rw [hm]; simp)
    rw [← e2] at hbl
    rw [hext b hbl, e2] at hb
    exact hs.heap.blk b blk inf hb hm
  · have hbl := hs.dom b hb
    rw [← e2] at hbl
    refine ⟨Nat.lt_of_lt_of_le hbl (by have := len_mono hr (i := 0) ops.size (by omega); rwa [Nat.zero_add] at this), fun k hk g1 g2 => ?_⟩
    have := len_mono hr (i := 0) k (by omega)
    rw [Nat.zero_add] at this
    omega

end

end Go.Proofs.YtcmblhedhgiofaaDoor.Mir
