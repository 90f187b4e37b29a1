/- Part 3 of the proof: the evaluator and its soundness. -/
import Derived.Test.YtcmblhedhgiofaaDoorZv2
import Derived.Scope
import Derived.ProofKit
import Derived.LaidLaws
import Derived.OpenShut
import Derived.Lib.LaidTab
import Derived.Lib.ItoaNum
namespace Go.Proofs.YtcmblhedhgiofaaDoor.Mir
open Go
set_option linter.unusedSimpArgs false
set_option linter.unusedVariables false
theorem gZ {ann : Ann} {pf : Nat → Bool} {o : Oper} (h : dA ann pf o = true) : eG ann o = true := by
 obtain ⟨dst, op, type, pos, after, guard⟩ := o
 cases op <;> first | (cases h; done) | rfl | skip
 rename_i cl
 obtain ⟨callee, args, ats⟩ := cl
 cases callee with
 | invoke r m => rfl
 | value f => rfl
 | builtin b => cases b <;> first | (cases h; done) | rfl
section
variable {P : Program} {G : aC} {E : jD} {ann : Ann} {ops : Array Oper} {σ : Nat → TS} {h : Nat → aB} {v : Nat → AV} {T : TS} {H : aB} {c0 : Ctx} {w0 : World} {N B : Nat} {L : Nat → Prop}
structure Rdy (E : jD) (ann : Ann) (ops : Array Oper) (L : Nat → Prop) (i : Nat) : Prop where
 ok : pN ann (cL E) ops = true
 closed : mG ops L
 lt : i < ops.size
 new : ¬ L i
 waits : ∀ o, ops[i]? = some o → ∀ e ∈ o.after, Region.binds .any e = true → L e.on
theorem Rdy.closed' {i : Nat} (r : Rdy E ann ops L i) : mG ops (fun k => k = i ∨ L k) := by
 intro j o ho hj e he hb
 rcases hj with rfl | hj
 ·exact .inr (r.waits o ho e he hb)
 ·exact .inr (r.closed j o ho hj e he hb)
theorem Rdy.ahead {i : Nat} (r : Rdy E ann ops L i) {k : Nat} {x y : Oper} (hk : k < i) (hx : ops[k]? = some x) (hy : ops[i]? = some y) : L k ∨ mQ ann (cL E) ops k i x y := by
 rcases (jT r.ok).2 k i x y hk hx hy with h1 | h1
 ·rcases h1 _ r.closed' (.inl rfl) with h2 | h2
  ·omega
  ·exact .inl h2
 ·exact .inr h1
theorem Rdy.behind {i : Nat} (r : Rdy E ann ops L i) {k : Nat} {x y : Oper} (hk : i < k) (hx : ops[k]? = some x) (hy : ops[i]? = some y) : ¬ L k ∨ mQ ann (cL E) ops i k y x := by
 rcases (jT r.ok).2 i k y x hk hy hx with h1 | h1
 ·exact .inl fun hl => r.new (h1 L r.closed hl)
 ·exact .inr h1
theorem jQ {i j : Nat} {x y : Oper} (hl : mQ ann (cL E) ops i j x y) : Oper.apart ops x y = true := by
 have := hl.1
 simp only [iT, Bool.and_eq_true] at this; exact this.1
theorem pZ {α : Type} {o : Option α} (h : aBm o = true) : ∃ p, o = some p := by
 cases o with
 | none => cases h
 | some p => exact ⟨p, rfl⟩
theorem fW {o : Oper} (h : dU o = true) {pf : Nat → Bool} : dA ann pf o = false := by
 obtain ⟨dst, op, type, pos, after, guard⟩ := o
 cases op <;> first | (cases h; done) | rfl
theorem mK {o : Oper} (h : lP o = true) {pf : Nat → Bool} : dA ann pf o = false := by
 obtain ⟨dst, op, type, pos, after, guard⟩ := o
 cases guard <;> cases op <;> first | (cases h; done) | rfl
theorem aAP {o : Oper} (h : lP o = true) : dU o = false := by
 obtain ⟨dst, op, type, pos, after, guard⟩ := o
 cases guard <;> cases op <;> first | (cases h; done) | rfl
theorem vR {o : Oper} (h : lP o = true) : eG ann o = true := by
 obtain ⟨dst, op, type, pos, after, guard⟩ := o
 cases guard <;> cases op <;> first | (cases h; done) | rfl
theorem iJ {i j : Nat} {x y : Oper} (hl : mQ ann (cL E) ops i j x y) (hx : dA ann (cL E) x = true) (hy : eG ann y = true) : dU y = true ∧ ∃ p, kR ops i j x y = some p ∧ p ∈ iL ops := by
 have h1 := hl.1
 simp only [iT, hx, hy, Bool.and_true, Bool.not_true, Bool.false_and, Bool.false_or, Bool.and_eq_true] at h1
 obtain ⟨p, hp⟩ := pZ h1.2
 refine ⟨?_, p, hp, hl.2 p hp⟩
 rcases uE hp with ⟨h2, _⟩ | ⟨_, h2⟩ | ⟨h2, _⟩
 ·rw [fW h2] at hx; cases hx
 ·exact h2
 ·rw [mK h2] at hx; cases hx
theorem jR {i j : Nat} {x y : Oper} (hl : mQ ann (cL E) ops i j x y) (hx : eG ann x = true) (hy : dA ann (cL E) y = true) : (dU x = true ∨ lP x = true) ∧ ∃ p, kR ops i j x y = some p ∧ p ∈ iL ops := by
 have h1 := hl.1
 simp only [iT, hx, hy, Bool.and_true, Bool.not_true, Bool.and_false, Bool.false_or, Bool.and_eq_true] at h1
 obtain ⟨p, hp⟩ := pZ h1.2
 refine ⟨?_, p, hp, hl.2 p hp⟩
 rcases uE hp with ⟨h2, _⟩ | ⟨_, h2⟩ | ⟨h2, _⟩
 ·exact .inl h2
 ·rw [fW h2] at hy; cases hy
 ·exact .inr h2
theorem uG {i j : Nat} {x y : Oper} (hl : mQ ann (cL E) ops i j x y) (hx : dA ann (cL E) x = true) (hy : dA ann (cL E) y = true) : False := by
 have := (iJ hl hx (gZ hy)).1
 rw [fW this] at hy; cases hy
theorem Rdy.seg {i : Nat} (r : Rdy E ann ops L i) {o : Oper} (ho : ops[i]? = some o) (ht : eG ann o = true) (hnl : dU o = false) (hnm : lP o = false) : Seg ann E ops L i := by
 refine ⟨fun k hk ⟨x, hx, hw⟩ => ?_, fun k hk ⟨x, hx, hw⟩ => ?_⟩
 ·rcases r.ahead hk hx ho with h1 | h1
  ·exact h1
  ·rw [(iJ h1 hw ht).1] at hnl; cases hnl
 ·by_cases e : k = i
  ·rw [e]; exact r.new
  ·rcases r.behind (show i < k by omega) hx ho with h1 | h1
   ·exact h1
   ·rcases (jR h1 ht hw).1 with h2 | h2
    ·rw [h2] at hnl; cases hnl
    ·rw [h2] at hnm; cases hnm
theorem sZ (hr : TextRun P G E ann ops T H ops.size σ h v) {b i : Nat} : ∀ (d : Nat), i + d ≤ ops.size → (h i).length ≤ b → b < (h (i + d)).length → ∃ k, i ≤ k ∧ k < i + d ∧ (h k).length ≤ b ∧ b < (h (k + 1)).length
 | 0, _, h1, h2 => by simp at h2; omega
 | d + 1, hd, h1, h2 => by
  by_cases hb : b < (h (i + d)).length
  ·obtain ⟨k, g1, g2, g3, g4⟩ := sZ hr d (by omega) h1 hb
   exact ⟨k, g1, by omega, g3, g4⟩
  ·exact ⟨i + d, by omega, by omega, by omega, by rw [show i + d + 1 = i + (d + 1) by omega]; exact h2⟩
theorem gY (hr : TextRun P G E ann ops T H ops.size σ h v) {k : Nat} {x : Oper} (hx : ops[k]? = some x) (hl : (h k).length < (h (k + 1)).length) : eG ann x = true := by
 cases ht : eG ann x with
 | true => rfl
 | false => rw [rM hr hx ht] at hl; omega
theorem kD (hr : TextRun P G E ann ops T H ops.size σ h v) {k : Nat} {x : Oper} (hx : ops[k]? = some x) (hl : (h k).length < (h (k + 1)).length) : dU x = false := by
 cases hld : dU x with
 | false => rfl
 | true =>
  exfalso
  have hk : k < ops.size := (Array.getElem?_eq_some_iff.1 hx).1
  obtain ⟨hs, -⟩ := hr.step k x hk hx
  have same : ∀ {r : AV} {H1 H2 : aB}, pM P G E ann x (σ k) H1 = some (r, H2) → H2 = H1 := by
   intro r H1 H2 hop
   obtain ⟨dst, op, type, pos, after, guard⟩ := x
   cases op <;> first | (cases hld; done) | skip
   simp only [pM] at hop
   exact (cA hop).2
  have : h (k + 1) = h k := by
   unfold fZ at hs
   split at hs
   ·exact same hs
   ·split at hs
    ·rcases lG hs with ⟨_, e⟩ | ⟨_, _, e⟩
     ·exact same e
     ·exact e
    ·cases hs
  rw [this] at hl; omega
theorem Rdy.domW {i : Nat} (r : Rdy E ann ops L i) (hr : TextRun P G E ann ops T H ops.size σ h v) {c : Ctx} {a : Act} {w : World} (hs : RS G ann E ops σ h v c0 w0 N B L c a w) {o : Oper} (ho : ops[i]? = some o) (hw : dA ann (cL E) o = true) :
  rR c (h i) := by
 intro b hb
 obtain ⟨h1, h2⟩ := hs.dom b hb
 by_cases hlt : b < (h i).length
 ·exact hlt
 ·exfalso
  obtain ⟨k, g1, g2, g3, g4⟩ := sZ hr (i := i) (b := b) (ops.size - i) (by have := r.lt; omega) (by omega) (by rw [show i + (ops.size - i) = ops.size by have := r.lt; omega]; exact h1)
  have hk : k < ops.size := by have := r.lt; omega
  have hLk := h2 k hk g3 g4
  have hkx : ops[k]? = some ops[k] := by simp [hk]
  have hik : i < k := by
   rcases Nat.lt_or_ge i k with q | q
   ·exact q
   ·have : k = i := by omega
    subst this; exact absurd hLk r.new
  rcases r.behind hik hkx ho with q | q
  ·exact q hLk
  ·have := (iJ q hw (gY hr hkx (by omega))).1
   rw [kD hr hkx (by omega)] at this; cases this
theorem Rdy.operand {i : Nat} (r : Rdy E ann ops L i) (hr : TextRun P G E ann ops T H ops.size σ h v) {c : Ctx} {a : Act} {w : World} (hs : RS G ann E ops σ h v c0 w0 N B L c a w) {o : Oper} (ho : ops[i]? = some o) {t : Nat} (ht : t ∈ o.looksAt ops) :
  Rel c (σ i t) (a.tmps.getD t undef) := by
 refine hs.tm t (σ i t) ?_
 have later : ∀ i', i < i' → L i' → fA ops i' ≠ some t := by
  intro i' h1 h2 h3
  cases hx : ops[i']? with
  | none => simp [fA, hx] at h3
  | some x =>
   rcases r.behind h1 hx ho with q | q
   ·exact q h2
   ·have := (Oper.apart_spec (jQ q)).2.2 t (by simpa [fA, hx] using h3)
    exact this ht
 rcases qD hr t i (Nat.le_of_lt r.lt) with ⟨k, g1, g2, g3, g4⟩ | ⟨g1, g2⟩
 ·have hk : k < ops.size := by have := r.lt; omega
  have hkx : ops[k]? = some ops[k] := by simp [hk]
  refine .inl ⟨k, ?_, g2, g3, fun i' q1 q2 => ?_⟩
  ·rcases r.ahead g1 hkx ho with q | q
   ·exact q
   ·have := (Oper.apart_spec (jQ q)).1 t (by simpa [fA, hkx] using g2)
    exact absurd ht this
  ·rcases Nat.lt_trichotomy i' i with q | q | q
   ·exact g4 i' q1 q
   ·subst q; exact absurd q2 r.new
   ·exact later i' q q2
 ·refine .inr ⟨fun i' q2 => ?_, g2⟩
  rcases Nat.lt_trichotomy i' i with q | q | q
  ·exact g1 i' q
  ·subst q; exact absurd q2 r.new
  ·exact later i' q q2
theorem Rdy.tm {i : Nat} (r : Rdy E ann ops L i) {c c' : Ctx} {a : Act} {w : World} (hs : RS G ann E ops σ h v c0 w0 N B L c a w) {o : Oper} (ho : ops[i]? = some o) (hdst : ∀ t, o.dst = some t → t < N) (hle : c.le c')
  {u : Value} (hu : Rel c' (v i) u) : ∀ t x, Cur ops σ v (fun k => k = i ∨ L k) t x → Rel c' x ((a.put o.dst u).tmps.getD t undef) := by
 intro t x hc
 rw [uP a o.dst u (fun t ht => by rw [hs.size]; exact hdst t ht)]
 have hd : fA ops i = o.dst := by simp [fA, ho]
 by_cases e : o.dst = some t
 ·rw [if_pos e]
  rcases hc with ⟨k, g1, g2, g3, g4⟩ | ⟨g1, g2⟩
  ·by_cases q : k = i
   ·subst q; rw [g3]; exact hu
   ·exfalso
    have hLk : L k := g1.resolve_left q
    rcases Nat.lt_or_gt_of_ne q with q1 | q1
    ·exact g4 i q1 (.inl rfl) (by rw [hd, e])
    ·cases hx : ops[k]? with
     | none => simp [fA, hx] at g2
     | some y =>
      rcases r.behind q1 hx ho with z | z
      ·exact z hLk
      ·exact (Oper.apart_spec (jQ z)).2.1 t e (by simpa [fA, hx] using g2)
  ·exact absurd (by rw [hd, e]) (g1 i (.inl rfl))
 ·rw [if_neg e]
  refine (hs.tm t x ?_).mono hle
  rcases hc with ⟨k, g1, g2, g3, g4⟩ | ⟨g1, g2⟩
  ·have q : k ≠ i := fun q => e (by rw [← hd, ← q]; exact g2)
   exact .inl ⟨k, g1.resolve_left q, g2, g3, fun i' z1 z2 => g4 i' z1 (.inr z2)⟩
  ·exact .inr ⟨fun i' z => g1 i' (.inr z), g2⟩
theorem Rdy.writer {i : Nat} (r : Rdy E ann ops L i) (hr : TextRun P G E ann ops T H ops.size σ h v) {c c' : Ctx} {a : Act} {w w' : World} (hs : RS G ann E ops σ h v c0 w0 N B L c a w) {o : Oper} (ho : ops[i]? = some o)
  (hw : dA ann (cL E) o = true) (hdst : ∀ t, o.dst = some t → t < N) (hst : Step c w c' w') (hg : Good G c' w') (hH : HeapAt c' (h (i + 1)) w') (hd : rR c' (h (i + 1))) (hkp : (∃ t tb z, o.op = .store t (.tmp tb) z) → ∀ b, c'.m b ≠ none → c.m b ≠ none) {u : Value} (hu : Rel c' (v i) u) :
  RS G ann E ops σ h v c0 w0 N B (fun k => k = i ∨ L k) c' (a.put o.dst u) w' := by
 have hlt := r.lt
 refine ⟨hg, hs.step.trans hst, by rw [jU]; exact hs.size, by rw [gW]; exact hs.defers, hs.low, r.tm hs ho hdst hst.le hu, fun j hj hseg => ?_, fun b hb => ?_⟩
 ·have hij : i < j := by
   rcases Nat.lt_or_ge i j with q | q
   ·exact q
   ·exact absurd (.inl rfl) (hseg.2 i q ⟨o, ho, hw⟩)
  have hno : ∀ k, i + 1 ≤ k → k < i + 1 + (j - (i + 1)) → ¬ Wr ann E ops k := by
   intro k q1 q2 ⟨x, hx, hwx⟩
   have hLk : L k := (hseg.1 k (by omega) ⟨x, hx, hwx⟩).resolve_left (by omega)
   rcases r.behind (show i < k by omega) hx ho with z | z
   ·exact z hLk
   ·exact uG z hw hwx
  have hext := nX hr (i := i + 1) (j - (i + 1)) (by omega) hno
  rw [show i + 1 + (j - (i + 1)) = j by omega] at hext
  refine ⟨fun b blk inf hb hm => ?_, hH.inj⟩
  have hbl := hd b (by rw [hm]; simp)
  rw [hext b hbl] at hb
  exact hH.blk b blk inf hb hm
 ·have hbl := hd b hb
  refine ⟨Nat.lt_of_lt_of_le hbl (by have := dQ hr (i := i + 1) (ops.size - (i + 1)) (by omega); rwa [show i + 1 + (ops.size - (i + 1)) = ops.size by omega] at this), fun k hk g1 g2 => ?_⟩
  by_cases q : k = i
  ·exact .inl q
  ·have hki : k < i := by
    rcases Nat.lt_or_ge k i with z | z
    ·exact z
    ·have := dQ hr (i := i + 1) (k - (i + 1)) (by omega)
     rw [show i + 1 + (k - (i + 1)) = k by omega] at this
     omega
   have hkx : ops[k]? = some ops[k] := by simp [hk]
   rcases r.ahead hki hkx ho with z | z
   ·exact .inr z
   ·obtain ⟨h1, p, hp, _⟩ := jR z (gY hr hkx (by omega)) hw
    rcases h1 with h1 | h1
    ·rw [kD hr hkx (by omega)] at h1; cases h1
    ·obtain ⟨_, _, ⟨t, z2, e2⟩, _, _⟩ := wP hp h1
     exact .inr ((hs.dom b (hkp ⟨t, p.2, z2, e2⟩ b hb)).2 k hk g1 g2)
theorem vS {i : Nat} {o : Oper} (ho : ops[i]? = some o) (hw : dA ann (cL E) o = false) : ¬ Wr ann E ops i := fun ⟨x, hx, hwx⟩ => by
 rw [ho] at hx; obtain rfl := Option.some.inj hx; rw [hw] at hwx; cases hwx
theorem sU {i j : Nat} (hw : ¬ Wr ann E ops i) (hs : Seg ann E ops (fun k => k = i ∨ L k) j) : Seg ann E ops L j :=
 ⟨fun k hk hwk => (hs.1 k hk hwk).resolve_left (fun e => hw (e ▸ hwk)), fun k hk hwk hl => hs.2 k hk hwk (.inr hl)⟩
theorem Rdy.idle {i : Nat} (r : Rdy E ann ops L i) {c : Ctx} {a : Act} {w : World} (hs : RS G ann E ops σ h v c0 w0 N B L c a w) {o : Oper} (ho : ops[i]? = some o)
  (hw : dA ann (cL E) o = false) (hdst : ∀ t, o.dst = some t → t < N) {u : Value} (hu : Rel c (v i) u) :
  RS G ann E ops σ h v c0 w0 N B (fun k => k = i ∨ L k) c (a.put o.dst u) w :=
 ⟨hs.good, hs.step, by rw [jU]; exact hs.size, by rw [gW]; exact hs.defers, hs.low, r.tm hs ho hdst (.refl c) hu, fun j hj hseg => hs.hp j hj (sU (vS ho hw) hseg),
  fun b hb => ⟨(hs.dom b hb).1, fun k hk g1 g2 => .inr ((hs.dom b hb).2 k hk g1 g2)⟩⟩
theorem Rdy.quiet {i : Nat} (r : Rdy E ann ops L i) (hnm : ∀ o, ops[i]? = some o → lP o = false) (hr : TextRun P G E ann ops T H ops.size σ h v) {c c' : Ctx} {a : Act} {w w' : World} (hs : RS G ann E ops σ h v c0 w0 N B L c a w) {o : Oper} (ho : ops[i]? = some o)
  (hw : dA ann (cL E) o = false) (hdst : ∀ t, o.dst = some t → t < N) {u : Value} (hout : Out G c (h i) w (v i) (h (i + 1)) u w' c') (hq : Quiet c (h i) w (h (i + 1)) w' c') :
  RS G ann E ops σ h v c0 w0 N B (fun k => k = i ∨ L k) c' (a.put o.dst u) w' := by
 have hlt := r.lt
 refine ⟨hout.good, hs.step.trans hout.step, by rw [jU]; exact hs.size, by rw [gW]; exact hs.defers, hs.low, r.tm hs ho hdst hout.step.le hout.rel, fun j hj hseg => ?_, fun b hb => ?_⟩
 ·have hsegL := sU (vS ho hw) hseg
  have hHj := hs.hp j hj hsegL
  refine ⟨fun b blk inf hb hm => ?_, hout.heap.inj⟩
  have old : c.m b = some inf → BlkAt c' inf blk w' := fun hm0 =>
   (hHj.blk b blk inf hb hm0).kept hout.step.le (fun hv => hq.kept _ (hs.good.bound _ ⟨b, inf, hm0, hv, rfl⟩))
  by_cases e : b = (h i).length
  ·rcases hq.ext with hx | ⟨blk', hx⟩
   ·subst e; rw [hq.keepm hx] at hm; exact old hm
   ·
    have hij : i + 1 ≤ j := by
     rcases Nat.lt_or_ge i j with q | q
     ·exact q
     ·exfalso
      have := dQ hr (i := j) (i - j) (by omega)
      rw [show j + (i - j) = i by omega] at this
      have := (List.getElem?_eq_some_iff.1 hb).1
      omega
    by_cases hto : eG ann o = true
    ·have hno : ∀ k, i + 1 ≤ k → k < i + 1 + (j - (i + 1)) → ¬ Wr ann E ops k := by
      intro k q1 q2 ⟨x, hx', hwx⟩
      have hLk : L k := hsegL.1 k (by omega) ⟨x, hx', hwx⟩
      rcases r.behind (show i < k by omega) hx' ho with z | z
      ·exact z hLk
      ·rcases (jR z hto hwx).1 with this | this
       ·rw [kD hr ho (by rw [hx]; simp)] at this; cases this
       ·rw [hnm o ho] at this; cases this
     have hext := nX hr (i := i + 1) (j - (i + 1)) (by omega) hno b (by rw [hx]; simp; omega)
     rw [show i + 1 + (j - (i + 1)) = j by omega] at hext
     rw [hext] at hb
     exact hout.heap.blk b blk inf hb hm
    ·have := rM hr ho (by simpa using hto)
     rw [this] at hx
     have := congrArg List.length hx
     simp at this
  ·rw [hq.same b e] at hm; exact old hm
 ·by_cases e : b = (h i).length
  ·rcases hq.ext with hx | ⟨blk', hx⟩
   ·subst e
    rw [hq.keepm hx] at hb
    exact ⟨(hs.dom _ hb).1, fun k hk g1 g2 => .inr ((hs.dom _ hb).2 k hk g1 g2)⟩
   ·have hl : (h (i + 1)).length = (h i).length + 1 := by rw [hx]; simp
    refine ⟨?_, fun k hk g1 g2 => ?_⟩
    ·have := dQ hr (i := i + 1) (ops.size - (i + 1)) (by omega)
     rw [show i + 1 + (ops.size - (i + 1)) = ops.size by omega] at this
     omega
    ·rcases Nat.lt_trichotomy k i with q | q | q
     ·have := dQ hr (i := k + 1) (i - (k + 1)) (by omega)
      rw [show k + 1 + (i - (k + 1)) = i by omega] at this
      omega
     ·exact .inl q
     ·have := dQ hr (i := i + 1) (k - (i + 1)) (by omega)
      rw [show i + 1 + (k - (i + 1)) = k by omega] at this
      omega
  ·rw [hq.same b e] at hb
   exact ⟨(hs.dom b hb).1, fun k hk g1 g2 => .inr ((hs.dom b hb).2 k hk g1 g2)⟩
theorem nN {o : Oper} {t : Nat} (h : (.tmp t : Operand) ∈ o.op.operands) : t ∈ o.looksAt ops :=
 List.mem_append_left _ (List.mem_filterMap.2 ⟨.tmp t, by simpa using h, rfl⟩)
theorem qP {o : Oper} {j d : Nat} {want : Bool} (hg : o.guard = some (j, want)) (hd : fA ops j = some d) : d ∈ o.looksAt ops := by
 refine List.mem_append_right _ ?_
 have hd' : (ops[j]?).bind (·.dst) = some d := hd
 simp [hg, hd']
theorem oY (hok : pN ann (cL E) ops = true) (hcl : mG ops L) : ∃ j, j ≤ ops.size ∧ Seg ann E ops L j ∧ (j = ops.size ∨ (Wr ann E ops j ∧ ¬ L j)) := by
 have least : ∀ n, (∃ k, k < n ∧ Wr ann E ops k ∧ ¬ L k ∧ ∀ m, m < k → Wr ann E ops m → L m) ∨ ∀ k, k < n → Wr ann E ops k → L k := by
  intro n
  induction n with
  | zero => exact .inr fun k hk => by omega
  | succ n ih =>
   rcases ih with ⟨k, h1, h2, h3, h4⟩ | hall
   ·exact .inl ⟨k, by omega, h2, h3, h4⟩
   ·by_cases hn : Wr ann E ops n ∧ ¬ L n
    ·exact .inl ⟨n, by omega, hn.1, hn.2, hall⟩
    ·refine .inr fun k hk hw => ?_
     by_cases e : k = n
     ·subst e; exact Classical.byContradiction fun hl => hn ⟨hw, hl⟩
     ·exact hall k (by omega) hw
 rcases least ops.size with ⟨k, h1, ⟨x, hx, hw⟩, h3, h4⟩ | hall
 ·refine ⟨k, Nat.le_of_lt h1, ⟨fun m hm hwm => h4 m hm hwm, fun m hm ⟨y, hy, hwy⟩ hl => ?_⟩, .inr ⟨⟨x, hx, hw⟩, h3⟩⟩
  by_cases e : m = k
  ·subst e; exact h3 hl
  ·rcases (jT hok).2 k m x y (by omega) hx hy with z | z
   ·exact h3 (z L hcl hl)
   ·exact uG z hw hwy
 ·refine ⟨ops.size, Nat.le_refl _, ⟨fun m hm hwm => hall m hm hwm, fun m hm ⟨y, hy, hwy⟩ hl => ?_⟩, .inl rfl⟩
  have := (Array.getElem?_eq_some_iff.1 hy).1; omega
theorem pW (hr : TextRun P G E ann ops T H ops.size σ h v) {i t : Nat} (hl : jN ops i t = true) : ∀ d, i + d ≤ ops.size → σ (i + d) t = σ i t
 | 0, _ => rfl
 | d + 1, hd => by
  have ho : ops[i + d]? = some ops[i + d] := by simp [show i + d < ops.size by omega]
  obtain ⟨_, hs⟩ := hr.step (i + d) ops[i + d] (by omega) ho
  have hne := yE hl (k := i + d) (by omega)
  rw [show i + (d + 1) = i + d + 1 by omega, hs, ← pW hr hl d (by omega)]
  cases hdd : ops[i + d].dst with
  | none => rfl
  | some e =>
   have : ¬ (t = e) := fun q => hne (by simp [fA, ho, hdd, q])
   simp [nP, this]
theorem sX (hr : TextRun P G E ann ops T H ops.size σ h v) {i t : Nat} (hi : i < ops.size) (hl : jN ops i t = true) : σ ops.size t = σ i t := by
 have := pW hr hl (ops.size - i) (by omega)
 rwa [show i + (ops.size - i) = ops.size by omega] at this
theorem wA {t b L' i' o' : Nat} {x : AV} {H1 H2 : aB} (hst : kS P t (.ptr b L' i' o') x H1 = some H2) {q : Nat} (hq : q ≠ b) : H2[q]? = H1[q]? := by
 unfold kS aT at hst
 split at hst
 case h_2 => cases hst
 simp only at hst
 split at hst
 case h_2 => cases hst
 split at hst
 case isFalse => cases hst
 split at hst
 case h_2 => cases hst
 split at hst
 case isFalse => cases hst
 simp only [Option.some.injEq] at hst
 subst hst
 rw [List.getElem?_set_ne (Ne.symm hq)]
theorem kX (hr : TextRun P G E ann ops T H ops.size σ h v) {b lo : Nat} (hb : b < (h lo).length) : ∀ d, lo + d ≤ ops.size →
  (∀ k, lo ≤ k → k < lo + d → Wr ann E ops k → ∃ x t z tb b' L' i' o', ops[k]? = some x ∧ x.guard = none ∧ x.op = .store t (.tmp tb) z ∧ σ k tb = .ptr b' L' i' o' ∧ b ≠ b') → (h (lo + d))[b]? = (h lo)[b]?
 | 0, _, _ => rfl
 | d + 1, hd, hw => by
  have ih := kX hr hb d (by omega) (fun k h1 h2 => hw k h1 (by omega))
  have hl := dQ hr (i := lo) d (by omega)
  rw [show lo + (d + 1) = lo + d + 1 by omega]
  by_cases hwk : Wr ann E ops (lo + d)
  ·obtain ⟨x, t, z, tb, b', L', i', o', hx, hg, hop, hs, hne⟩ := hw (lo + d) (by omega) (by omega) hwk
   obtain ⟨hst, -⟩ := hr.step (lo + d) x (by omega) hx
   unfold fZ at hst
   rw [hg] at hst
   simp only [pM, hop] at hst
   split at hst
   ·rename_i H1 h1
    simp only [Option.some.injEq, Prod.mk.injEq] at hst
    obtain ⟨_, e⟩ := hst
    have e2 : eZ (σ (lo + d)) (.tmp tb) = .ptr b' L' i' o' := hs
    rw [e2] at h1
    rw [← e, wA h1 hne, ih]
   ·cases hst
  ·rcases tU hr (i := lo + d) (by omega) hwk with e | ⟨blk, e⟩
   ·rw [e]; exact ih
   ·rw [e, List.getElem?_append_left (by omega)]; exact ih
theorem xQ {b L' i' o' : Nat} {y : AV} (h : fR (.ptr b L' i' o') y = true) : ∃ b' L2 i2 o2, y = .ptr b' L2 i2 o2 ∧ b ≠ b' := by
 cases y <;> first | (cases h; done) | skip
 refine ⟨_, _, _, _, rfl, fun e => ?_⟩
 subst e
 simp [fR] at h
theorem tT {o : Oper} {t : Nat} {xa : Operand} (h : o.op = .load t xa) {ev : Operand → Value} : execOp ev o = (do pure (Next.value (← Instr.loadAt t (ev xa)))) := by
 obtain ⟨dst, op, type, pos, after, guard⟩ := o
 simp only at h; subst h; rfl
theorem Rdy.load {i : Nat} (r : Rdy E ann ops L i) (hr : TextRun P G E ann ops T H ops.size σ h v) (hgd : ∀ p ∈ iL ops, fR (σ ops.size p.1) (σ ops.size p.2) = true) {c : Ctx} {a : Act} {w : World}
  (hs : RS G ann E ops σ h v c0 w0 N B L c a w) {o : Oper} (ho : ops[i]? = some o) (ht : eG ann o = true) {t : Nat} {xa : Operand} (hld : o.op = .load t xa) (hop : jO P G t (eZ (σ i) xa) (h i) = some (v i)) {u0 : Value} (hrel : Rel c (eZ (σ i) xa) u0) :
  ∃ j, j ≤ ops.size ∧ Seg ann E ops L j ∧ jO P G t (eZ (σ i) xa) (h j) = some (v i) := by
 have hi := r.lt
 obtain ⟨j, hj, hseg, hopen⟩ := oY r.ok r.closed
 refine ⟨j, hj, hseg, ?_⟩
 have hisl : dU o = true := by simp [dU, hld]
 have dep : ∀ {A : AV} {H1 H2 : aB}, (∀ b L' i' o', A = .ptr b L' i' o' → b < H1.length → H2[b]? = H1[b]?) → ∀ {q : AV}, jO P G t A H1 = some q → jO P G t A H2 = some q := by
  intro A H1 H2 hA q hq
  unfold jO at hq ⊢
  split at hq
  case h_2 => cases hq
  rename_i g s e1 e2
  unfold aE at hq ⊢
  split at hq
  ·rename_i b L' i' o'
   have hb : b < H1.length := by
    rcases Nat.lt_or_ge b H1.length with z | z
    ·exact z
    ·rw [List.getElem?_eq_none z] at hq; cases hq
   simp only [hA b L' i' o' rfl hb]
   exact hq
  ·exact hq
  ·exact hq
  ·cases hq
 refine dep (fun b L' i' o' hA hb => ?_) hop
 have hex : ∀ k, k ≠ i → Wr ann E ops k → ((i < k ∧ L k) ∨ (k < i ∧ ¬ L k)) → ∃ x t z tb b' L' i' o', ops[k]? = some x ∧ x.guard = none ∧ x.op = .store t (.tmp tb) z ∧ σ k tb = .ptr b' L' i' o' ∧ b ≠ b' := by
  intro k hki ⟨x, hx, hw⟩ hc
  have hk : k < ops.size := (Array.getElem?_eq_some_iff.1 hx).1
  have fin : ∀ (p : Nat × Nat), p ∈ iL ops → (∃ t', o.op = .load t' (.tmp p.1)) → (∃ t' z, x.op = .store t' (.tmp p.2) z) → x.guard = none → jN ops i p.1 = true → jN ops k p.2 = true →
    ∃ x t z tb b' L' i' o', ops[k]? = some x ∧ x.guard = none ∧ x.op = .store t (.tmp tb) z ∧ σ k tb = .ptr b' L' i' o' ∧ b ≠ b' := by
   intro p hp ⟨t', e1⟩ ⟨t2, z, e2⟩ hg l1 l2
   rw [hld] at e1
   obtain ⟨_, e1⟩ := Op.load.inj e1
   subst e1
   have hA' : σ i p.1 = .ptr b L' i' o' := hA
   have hd := hgd p hp
   rw [sX hr hi l1, sX hr hk l2, hA'] at hd
   obtain ⟨b', L2, i2, o2, e3, hne⟩ := xQ hd
   exact ⟨x, t2, z, p.2, b', L2, i2, o2, hx, hg, e2, e3, hne⟩
  rcases hc with ⟨q1, q2⟩ | ⟨q1, q2⟩
  ·rcases r.behind q1 hx ho with z | z
   ·exact absurd q2 z
   ·obtain ⟨_, p, hp, hm⟩ := jR z ht hw
    obtain ⟨_, g2, e1, e2, l1, l2⟩ := aAN hp hisl
    exact fin p hm e1 e2 g2 l1 l2
  ·rcases r.ahead q1 hx ho with z | z
   ·exact absurd z q2
   ·obtain ⟨_, p, hp, hm⟩ := iJ z hw ht
    obtain ⟨g1, _, e1, e2, l1, l2⟩ := aAO hp hisl
    exact fin p hm e1 e2 g1 l1 l2
 have hnw : ¬ Wr ann E ops i := fun ⟨x, hx, hw⟩ => by
  rw [ho] at hx; obtain rfl := Option.some.inj hx
  rw [fW hisl] at hw; cases hw
 rcases Nat.le_total i j with hij | hij
 ·have := kX hr (b := b) (lo := i) hb (j - i) (by omega) (fun k h1 h2 hwk => by
   have hki : k ≠ i := fun e => hnw (e ▸ hwk)
   exact hex k hki hwk (.inl ⟨by omega, hseg.1 k (by omega) hwk⟩))
  rwa [show i + (j - i) = j by omega] at this
 ·
  have hcm : c.m b ≠ none := by
   rw [hA] at hrel
   cases hrel with
   | ptr hm _ _ => rw [hm]; simp
   | ptrStale _ hm _ => rw [hm]; simp
  have hbj : b < (h j).length := by
   rcases Nat.lt_or_ge b (h j).length with z | z
   ·exact z
   ·exfalso
    have hlt : j < i := by
     rcases Nat.lt_or_ge j i with q | q
     ·exact q
     ·have : j = i := by omega
      subst this; omega
    obtain ⟨k, g1, g2, g3, g4⟩ := sZ hr (i := j) (b := b) (i - j) (by omega) z (by rw [show j + (i - j) = i by omega]; exact hb)
    have hk : k < ops.size := by omega
    have hLk := (hs.dom b hcm).2 k hk g3 g4
    have hkx : ops[k]? = some ops[k] := by simp [hk]
    rcases hopen with e | ⟨⟨x, hx, hw⟩, hnl⟩
    ·omega
    ·by_cases e : k = j
     ·subst e; exact hnl hLk
     ·rcases (jT r.ok).2 j k x ops[k] (by omega) hx hkx with z | z
      ·exact hnl (z L r.closed hLk)
      ·have h1 := (iJ z hw (gY hr hkx (by omega))).1
       rw [kD hr hkx (by omega)] at h1; cases h1
  have := kX hr (b := b) (lo := j) hbj (i - j) (by omega) (fun k h1 h2 hwk => by
   have hki : k ≠ i := by omega
   exact hex k hki hwk (.inr ⟨by omega, fun hl => hseg.2 k h1 hwk hl⟩))
  rw [show j + (i - j) = i by omega] at this
  exact this.symm
theorem yR {b L' i' n' s' : Nat} {y : AV} (h : fR (.sl b L' i' n' s') y = true) : ∃ b' L2 i2 o2, y = .ptr b' L2 i2 o2 ∧ b ≠ b' := by
 cases y <;> first | (cases h; done) | skip
 refine ⟨_, _, _, _, rfl, fun e => ?_⟩
 subst e
 simp [fR] at h
theorem aBG {t : Nat} {l cc : AV} {H1 H2 : aB} {r : AV} (h : dV P t l cc H1 = some (r, H2)) :
  ∃ blk n s, r = .sl H1.length n 0 n s ∧ H2 = H1 ++ [blk] ∧ ∀ H0 : aB, H0.length = H1.length → dV P t l cc H0 = some (r, H0 ++ [blk]) := by
 unfold dV at h
 split at h
 case h_2 => cases h
 rename_i e hu
 split at h
 case h_2 => cases h
 rename_i s by_ z e1 e2 e3
 split at h
 case isFalse => cases h
 rename_i hc
 unfold fV at h
 split at h
 case h_2 => cases h
 rename_i k1 l1 k2 c1
 split at h
 case isFalse => cases h
 rename_i hl
 simp only [Option.some.injEq, Prod.mk.injEq] at h
 obtain ⟨rfl, rfl⟩ := h
 refine ⟨_, _, _, rfl, rfl, fun H0 h0 => ?_⟩
 unfold dV
 simp only [hu, e1, e2, e3]
 rw [if_pos hc]
 unfold fV
 simp only
 rw [if_pos hl, h0]
theorem Rdy.fresh {i : Nat} (r : Rdy E ann ops L i) (hr : TextRun P G E ann ops T H ops.size σ h v) (hgd : ∀ p ∈ iL ops, fR (σ ops.size p.1) (σ ops.size p.2) = true) {c : Ctx} {a : Act} {w : World}
  (hs : RS G ann E ops σ h v c0 w0 N B L c a w) {o : Oper} (ho : ops[i]? = some o) (hmk : lP o = true) (hdst : ∀ t, o.dst = some t → t < N) {t : Nat} {l cc : AV} (hop : dV P t l cc (h i) = some (v i, h (i + 1))) {vl vc : Value} (hl : Rel c l vl) (hc : Rel c cc vc) :
  ∃ u w' c', (Instr.makeSlice t vl vc).run P w = .ok u w' ∧ RS G ann E ops σ h v c0 w0 N B (fun k => k = i ∨ L k) c' (a.put o.dst u) w' := by
 have hlt := r.lt
 have hto : eG ann o = true := vR hmk
 have hw : dA ann (cL E) o = false := mK hmk
 obtain ⟨blk, n, s, hvi, hext1, hany⟩ := aBG hop
 obtain ⟨j, hj, hseg, hopen⟩ := oY r.ok r.closed
 have hij : i ≤ j := by
  rcases Nat.lt_or_ge j i with q | q
  ·exfalso
   rcases hopen with e | ⟨⟨x, hx, hwx⟩, hnl⟩
   ·omega
   ·rcases r.ahead q hx ho with z | z
    ·exact hnl z
    ·have := (iJ z hwx hto).1
     rw [aAP hmk] at this; cases this
  ·exact q
 have hlen : (h i).length ≤ (h j).length := by
  have := dQ hr (i := i) (j - i) (by omega)
  rwa [show i + (j - i) = j by omega] at this
 obtain ⟨H0, hH0⟩ : ∃ H0, H0 = (h j).take (h i).length := ⟨_, rfl⟩
 have h0l : H0.length = (h i).length := by rw [hH0, List.length_take]; omega
 have hHj := hs.hp j hj hseg
 have hHat : HeapAt c H0 w := ⟨fun b bk inf hb hm => hHj.blk b bk inf (by
  rw [hH0, List.getElem?_take] at hb
  split at hb
  ·exact hb
  ·cases hb) hm, hHj.inj⟩
 have hnone : c.m H0.length = none := by
  rw [h0l]
  cases hm : c.m (h i).length with
  | none => rfl
  | some inf => exact absurd ((hs.dom (h i).length (by rw [hm]; simp)).2 i r.lt (Nat.le_refl _) (by rw [hext1]; simp)) r.new
 obtain ⟨u, w', c', hrun, hmade⟩ := iK (hany H0 h0l) hs.good hHat hnone hl hc
 obtain ⟨hout, hq⟩ := hmade.out
 refine ⟨u, w', c', hrun, hout.good, hs.step.trans hout.step, by rw [jU]; exact hs.size, by rw [gW]; exact hs.defers, hs.low, r.tm hs ho hdst hout.step.le hout.rel, fun j' hj' hseg' => ?_, fun b hb => ?_⟩
 ·have hsegL := sU (vS ho hw) hseg'
  have hHj' := hs.hp j' hj' hsegL
  refine ⟨fun b bk inf hb hm => ?_, hout.heap.inj⟩
  by_cases e : b = H0.length
  ·rw [h0l] at e
   have hij' : i + 1 ≤ j' := by
    rcases Nat.lt_or_ge i j' with q | q
    ·exact q
    ·exfalso
     have h1 := dQ hr (i := j') (i - j') (by omega)
     rw [show j' + (i - j') = i by omega] at h1
     have := (List.getElem?_eq_some_iff.1 hb).1
     omega
   have hd : ∃ d, o.dst = some d ∨ True := ⟨0, .inr trivial⟩
   have hkeep := kX hr (b := b) (lo := i + 1) (by rw [hext1, e]; simp) (j' - (i + 1)) (by omega) (fun k h1 h2 ⟨x, hx, hwx⟩ => by
    have hk : k < ops.size := by omega
    have hLk : L k := hsegL.1 k (by omega) ⟨x, hx, hwx⟩
    rcases r.behind (show i < k by omega) hx ho with z | z
    ·exact absurd hLk z
    ·obtain ⟨_, p, hp, hm2⟩ := jR z hto hwx
     obtain ⟨hd, hg2, ⟨t2, z2, e2⟩, l1, l2⟩ := wP hp hmk
     have hg := hgd p hm2
     have hsd : σ ops.size p.1 = v i := by
      have h3 := pW hr l1 (ops.size - (i + 1)) (by omega)
      rw [show i + 1 + (ops.size - (i + 1)) = ops.size by omega] at h3
      rw [h3, (hr.step i o r.lt ho).2, hd]
      simp [nP]
     rw [hsd, sX hr hk l2, hvi] at hg
     obtain ⟨b', L2, i2, o2, e3, hne⟩ := yR hg
     exact ⟨x, t2, z2, p.2, b', L2, i2, o2, hx, hg2, e2, e3, by rw [e]; exact hne⟩)
   rw [show i + 1 + (j' - (i + 1)) = j' by omega, hb, hext1] at hkeep
   have hbk : bk = blk := by
    rw [e, List.getElem?_append_right (Nat.le_refl _), Nat.sub_self] at hkeep
    exact Option.some.inj hkeep
   refine hout.heap.blk b bk inf ?_ hm
   rw [hbk, e, ← h0l, List.getElem?_append_right (Nat.le_refl _), Nat.sub_self]; rfl
  ·rw [hq.same b e] at hm
   exact (hHj'.blk b bk inf hb hm).kept hout.step.le (fun hv => hq.kept _ (hs.good.bound _ ⟨b, inf, hm, hv, rfl⟩))
 ·by_cases e : b = H0.length
  ·rw [h0l] at e
   have hl1 : (h (i + 1)).length = (h i).length + 1 := by rw [hext1]; simp
   refine ⟨?_, fun k hk g1 g2 => ?_⟩
   ·have := dQ hr (i := i + 1) (ops.size - (i + 1)) (by omega)
    rw [show i + 1 + (ops.size - (i + 1)) = ops.size by omega] at this
    omega
   ·rcases Nat.lt_trichotomy k i with q | q | q
    ·have := dQ hr (i := k + 1) (i - (k + 1)) (by omega)
     rw [show k + 1 + (i - (k + 1)) = i by omega] at this
     omega
    ·exact .inl q
    ·have := dQ hr (i := i + 1) (k - (i + 1)) (by omega)
     rw [show i + 1 + (k - (i + 1)) = k by omega] at this
     omega
  ·rw [hq.same b e] at hb
   exact ⟨(hs.dom b hb).1, fun k hk g1 g2 => .inr ((hs.dom b hb).2 k hk g1 g2)⟩
theorem xX {o : Oper} {t : Nat} {x y : Operand} (h : o.op = .makeSlice t x y) {ev : Operand → Value} : execOp ev o = (do pure (Next.value (← Instr.makeSlice t (ev x) (ev y)))) := by
 obtain ⟨dst, op, type, pos, after, guard⟩ := o
 simp only at h; subst h; rfl
theorem sI {o : Oper} {t : Nat} {x y : Operand} (h : o.op = .store t x y) {ev : Operand → Value} : execOp ev o = (do Instr.storeAt t (ev x) (ev y); pure .skip) := by
 obtain ⟨dst, op, type, pos, after, guard⟩ := o
 simp only at h; subst h; rfl
theorem Rdy.op {i : Nat} (r : Rdy E ann ops L i) (hE : EnvSound P G E) (hr : TextRun P G E ann ops T H ops.size σ h v) (hgd : ∀ p ∈ iL ops, fR (σ ops.size p.1) (σ ops.size p.2) = true) {c : Ctx} {a : Act} {w : World} (hs : RS G ann E ops σ h v c0 w0 N B L c a w)
  (hdst : ∀ (i : Nat) (o : Oper) (t : Nat), ops[i]? = some o → o.dst = some t → t < N) {K : Act → World → Prop} {Q : Exit → Act → World → Prop}
  (hK : ∀ c' a' w', RS G ann E ops σ h v c0 w0 N B (fun k => k = i ∨ L k) c' a' w' → K a' w') : wpOp P ops Q i K a w := by
 obtain ⟨o, ho⟩ : ∃ o, ops[i]? = some o := ⟨ops[i]'r.lt, by simp [r.lt]⟩
 unfold wpOp
 simp only [ho]
 obtain ⟨hst, -⟩ := hr.step i o r.lt ho
 have hguard : ∀ j want d, o.guard = some (j, want) → fA ops j = some d → Rel c (σ i d) (a.tmps.getD d undef) := fun j want d hg hd => r.operand hr hs ho (qP hg hd)
 have hops : ∀ x ∈ o.op.operands, Rel c (eZ (σ i) x) (a.eval x) := fun x hx => sR (fun t ht => r.operand hr hs ho (nN (by rw [ht] at hx; exact hx)))
 have hd1 := fun t ht => hdst i o t ho ht
 rcases kL hst hguard with ⟨hw, hop⟩ | ⟨hw, hv, hh⟩
 ·rw [if_pos hw]
  left
  by_cases ht : eG ann o = true
  ·cases hnl : dU o with
   | true =>
   obtain ⟨t, xa, hld⟩ : ∃ t xa, o.op = .load t xa := by
    obtain ⟨dst, op, type, pos, after, guard⟩ := o
    cases op <;> first | (cases hnl; done) | exact ⟨_, _, rfl⟩
   have hxa := hops xa (by rw [hld]; simp [Op.operands])
   have hop' : jO P G t (eZ (σ i) xa) (h i) = some (v i) := by
    simp only [pM, hld] at hop
    exact (cA hop).1
   obtain ⟨j, hj, hseg, hl⟩ := r.load hr hgd hs ho ht hld hop' hxa
   obtain ⟨u, e1, e2⟩ := jP hl hs.good (hs.hp j hj hseg) hxa
   exact bM (by rw [tT hld]; exact dZ e1) (hK _ _ _ (r.idle hs ho (fW hnl) hd1 e2))
   | false =>
   cases hnm : lP o with
   | true =>
    obtain ⟨t, x, y, hmk⟩ : ∃ t x y, o.op = .makeSlice t x y := by
     obtain ⟨dst, op, type, pos, after, guard⟩ := o
     cases guard <;> cases op <;> first | (cases hnm; done) | exact ⟨_, _, _, rfl⟩
    have hop' : dV P t (eZ (σ i) x) (eZ (σ i) y) (h i) = some (v i, h (i + 1)) := by
     simp only [pM, hmk] at hop
     exact hop
    obtain ⟨u, w', c', e1, e2⟩ := r.fresh hr hgd hs ho hnm hd1 hop' (hops x (by rw [hmk]; simp [Op.operands])) (hops y (by rw [hmk]; simp [Op.operands]))
    exact bM (by rw [xX hmk]; exact dZ e1) (hK _ _ _ e2)
   | false =>
   have hseg := r.seg ho ht hnl hnm
   have hHi := hs.hp i (Nat.le_of_lt r.lt) hseg
   by_cases hst' : ∃ t xa z, o.op = .store t xa z
   ·obtain ⟨t, xa, z, hsto⟩ := hst'
    have hwr : dA ann (cL E) o = true := by simp [dA, hsto]
    simp only [pM, hsto] at hop
    split at hop
    ·rename_i H1 h1
     simp only [Option.some.injEq, Prod.mk.injEq] at hop
     obtain ⟨hv1, hh1⟩ := hop
     obtain ⟨w', e1, e2, e3, e4⟩ := mF h1 hs.good hHi (hops xa (by rw [hsto]; simp [Op.operands])) (hops z (by rw [hsto]; simp [Op.operands]))
     rw [hh1] at e4
     have hu : Rel c (v i) undef := by rw [← hv1]; exact fP c
     have hdm : rR c (h (i + 1)) := fun b hb => by
      have := r.domW hr hs ho hwr b hb
      rw [← hh1, iB h1]; exact this
     exact qH (w' := w') (by rw [sI hsto]; simp [e1]) (hK _ _ _ (r.writer hr hs ho hwr hd1 e2 e3 e4 hdm (fun _ b hb => hb) hu))
    ·cases hop
   refine rI hE hop hs.good hHi (fun hne => ?_) hops (fun hwr => r.domW hr hs ho hwr) (fun u w' c' hout hq => ?_)
   ·cases hm : c.m (h i).length with
    | none => rfl
    | some inf =>
     have hl := uF hr r.lt
     exact absurd ((hs.dom (h i).length (by rw [hm]; simp)).2 i r.lt (Nat.le_refl _) (by omega)) r.new
   ·cases hwr : dA ann (cL E) o with
    | false => exact hK _ _ _ (r.quiet (fun o' ho' => by rw [ho] at ho'; obtain rfl := Option.some.inj ho'; exact hnm) hr hs ho hwr hd1 hout (hq hwr))
    | true => exact hK _ _ _ (r.writer hr hs ho hwr hd1 hout.step hout.good hout.heap (hout.dom (r.domW hr hs ho hwr)) (fun ⟨t, tb, z, e⟩ => absurd ⟨t, _, z, e⟩ hst') hout.rel)
  ·have ht' : eG ann o = false := by simpa using ht
   obtain ⟨hh, hrun⟩ := lZ ht' hop
   obtain ⟨u, e1, e2⟩ := hrun c w a hs.good hops
   have hwr : dA ann (cL E) o = false := by
    cases hwb : dA ann (cL E) o with
    | false => rfl
    | true => rw [gZ hwb] at ht'; cases ht'
   exact bM e1 (hK _ _ _ (r.idle hs ho hwr hd1 e2))
 ·rw [hw]
  have hu : Rel c (v i) undef := by rw [hv]; exact fP c
  cases hwr : dA ann (cL E) o with
  | false => exact hK _ _ _ (r.idle hs ho hwr hd1 hu)
  | true =>
   have hHi := hs.hp i (Nat.le_of_lt r.lt) (r.seg ho (gZ hwr) (by cases hl : dU o with | false => rfl | true => rw [fW hl] at hwr; cases hwr) (by cases hl : lP o with | false => rfl | true => rw [mK hl] at hwr; cases hwr))
   exact hK _ _ _ (r.writer hr hs ho hwr hd1 (.refl c w) hs.good (by rw [hh]; exact hHi) (by rw [hh]; exact r.domW hr hs ho hwr) (fun _ b hb => hb) hu)
theorem aBM (hok : pN ann (cL E) ops = true) (hE : EnvSound P G E) (hr : TextRun P G E ann ops T H ops.size σ h v) (hgd : ∀ p ∈ iL ops, fR (σ ops.size p.1) (σ ops.size p.2) = true)
  (hdst : ∀ (i : Nat) (o : Oper) (t : Nat), ops[i]? = some o → o.dst = some t → t < N) {Q : Exit → Act → World → Prop}
  (hQ : ∀ c a w, St G c0 w0 N B (σ ops.size) (h ops.size) c a w → Q .normal a w) :
  ∀ (fuel : Nat) (listed : Array Bool), oS listed ops.size ≤ fuel → listed.size = ops.size → mG ops (fun k => listed.getD k false = true) →
   ∀ (c : Ctx) (a : Act) (w : World), RS G ann E ops σ h v c0 w0 N B (fun k => listed.getD k false = true) c a w → wpAny P .any ops Q fuel listed a w := by
 have done : ∀ (listed : Array Bool), (∀ i, i < ops.size → listed.getD i false = true) → listed.size = ops.size → ∀ c a w, RS G ann E ops σ h v c0 w0 N B (fun k => listed.getD k false = true) c a w → Q .normal a w := by
  intro listed hall hsz c a w hs
  refine hQ c a w ⟨hs.good, hs.hp ops.size (Nat.le_refl _) ⟨fun i hi _ => hall i hi, fun i hi ⟨o, ho, _⟩ => ?_⟩, fun b hb => (hs.dom b hb).1, hs.step, fun t => ?_, hs.size, hs.defers, Nat.le_trans hs.low (by have := dQ hr (i := 0) ops.size (by omega); rwa [Nat.zero_add] at this)⟩
  ·have := (Array.getElem?_eq_some_iff.1 ho).1; omega
  ·refine hs.tm t _ ?_
   have big : ∀ i', ¬ i' < ops.size → fA ops i' ≠ some t := fun i' hi => by simp [fA, Array.getElem?_eq_none (Nat.le_of_not_lt hi)]
   rcases qD hr t ops.size (Nat.le_refl _) with ⟨k, g1, g2, g3, g4⟩ | ⟨g1, g2⟩
   ·refine .inl ⟨k, hall k g1, g2, g3, fun i' z1 z2 => ?_⟩
    by_cases q : i' < ops.size
    ·exact g4 i' z1 q
    ·exact big i' q
   ·refine .inr ⟨fun i' z => ?_, g2⟩
    by_cases q : i' < ops.size
    ·exact g1 i' q
    ·exact big i' q
 have all_of_ready : ∀ (listed : Array Bool), listed.size = ops.size → Region.ready .any ops listed = [] → ∀ i, i < ops.size → listed.getD i false = true := by
  intro listed hsz hrd i
  induction i using Nat.strongRecOn with
  | _ i ih =>
   intro hi
   cases hl : listed.getD i false with
   | true => rfl
   | false =>
    exfalso
    have hmem : i ∈ Region.ready .any ops listed := by
     rw [mem_ready]
     refine ⟨?_, ops[i], by simp [hi], fun e he hb => ?_⟩
     ·have hi' : i < listed.size := by omega
      simp [Array.getD, hi'] at hl ⊢; exact hl
     ·have := (jT hok).1 i ops[i] (by simp [hi]) e he hb
      exact ih e.on this (by omega)
    rw [hrd] at hmem; cases hmem
 intro fuel
 induction fuel with
 | zero =>
  intro listed hc hsz hcl c a w hs
  have hall := qV (listed := listed) (n := ops.size) (by omega)
  refine ⟨?_, done listed hall hsz c a w hs⟩
  apply List.eq_nil_iff_forall_not_mem.2
  intro j hj
  obtain ⟨h1, o, ho, _⟩ := mem_ready.1 hj
  have hj' := (Array.getElem?_eq_some_iff.1 ho).1
  have h2 := hall j hj'
  have hj'' : j < listed.size := by omega
  simp [Array.getD, hj''] at h1 h2
  rw [h1] at h2; cases h2
 | succ fuel ih =>
  intro listed hc hsz hcl c a w hs
  refine ⟨fun hrd => done listed (all_of_ready listed hsz hrd) hsz c a w hs, fun i hi => ?_⟩
  obtain ⟨h1, o, ho, hall⟩ := mem_ready.1 hi
  have hi' := (Array.getElem?_eq_some_iff.1 ho).1
  have hil : i < listed.size := by omega
  have hun : listed.getD i false = false := by simp [Array.getD, hil] at h1 ⊢; exact h1
  have r : Rdy E ann ops (fun k => listed.getD k false = true) i := ⟨hok, hcl, hi', by simp [hun], fun o' ho' e he hb => by
   rw [ho] at ho'; obtain rfl := Option.some.inj ho'; exact hall e he hb⟩
  have hiff : ∀ k, (listed.setIfInBounds i true).getD k false = true ↔ (k = i ∨ listed.getD k false = true) := by
   intro k
   by_cases e : k = i
   ·subst e; simp [Array.getD, hil]
   ·rw [getD_set_ne false (Ne.symm e)]; simp [e]
  refine r.op hE hr hgd hs hdst (fun c' a' w' hs' => ?_)
  have hL : (fun k => (listed.setIfInBounds i true).getD k false = true) = (fun k => k = i ∨ listed.getD k false = true) := funext fun k => propext (hiff k)
  refine ih (listed.setIfInBounds i true) ?_ (by simpa using hsz) (by rw [hL]; exact r.closed') c' a' w' (by rw [hL]; exact hs')
  have := tL hil hun ops.size
  rw [if_pos hi'] at this
  omega
theorem uS {γ : Type} {K : TS → aB → Option γ} {out : γ} {id : Nat} (hm : P.follows .mixedOrders = true) (hok : pN ann (cL E) ops = true) (hE : EnvSound P G E)
  (hdst : ∀ (i : Nat) (o : Oper) (t : Nat), ops[i]? = some o → o.dst = some t → t < N) {Q : Exit → Act → World → Prop}
  (hQ : ∀ T H c a w, K T H = some out → St G c0 w0 N B T H c a w → Q .normal a w) {c : Ctx} {a : Act} {w : World} (hrun : gQ P G E ann ops ops.toList (fun T H => grd (yQ T (iL ops)) (K T H)) T H = some out) (hs : St G c0 w0 N B T H c a w) :
  (Code.region id ops true).wp P Q a w := by
 obtain ⟨σ, h, v, e1, e2, e3, e4⟩ := qC (K := fun T H => grd (yQ T (iL ops)) (K T H)) ops.toList 0 (fun j => by simp) T H hrun
 simp only [Nat.zero_add, Array.length_toList] at e3 e4
 obtain ⟨e4, hgd⟩ := oZ e4
 have hgd' : ∀ p ∈ iL ops, fR (σ ops.size p.1) (σ ops.size p.2) = true := fun p hp => hgd _ (List.mem_map.2 ⟨p, hp, rfl⟩)
 have hr : TextRun P G E ann ops T H ops.size σ h v := ⟨e1, e2, fun i o hi ho => e3 i o (Nat.zero_le _) hi ho⟩
 refine wp_region_any hm ?_
 have hnone : ∀ k, (Array.replicate ops.size false).getD k false = false := fun k => by
  simp only [Array.getD_eq_getD_getElem?, Array.getElem?_replicate]
  split <;> rfl
 have hstep : Step c w c { w with drawn := w.drawn + 1 } := ⟨.refl c, rfl, rfl, rfl, Nat.le_refl _, fun _ _ _ => rfl, fun _ inf h hv _ => ⟨inf, h, hv, rfl⟩, fun _ _ h => .inl h, fun _ _ h => .inl h⟩
 have hn0 : ∀ (S : Nat → Prop), S = (fun k => (Array.replicate ops.size false).getD k false = true) → ∀ k, ¬ S k := fun S hS k hk => by rw [hS] at hk; simp only [hnone] at hk; cases hk
 refine aBM hok hE hr hgd' hdst (fun c a w hst => hQ _ _ c a w e4 hst) ops.size _ ?_ (by simp) (fun j o ho hj => absurd hj (hn0 _ rfl j)) c a _ ⟨hs.good.world hstep, hs.step.trans hstep, hs.size, hs.defers, by rw [e2]; exact hs.low, fun t x hc => ?_, fun j hj hseg => ?_, fun b hb => ?_⟩
 ·have : ∀ n, oS (Array.replicate ops.size false) n ≤ n := by
   intro n
   induction n with
   | zero => simp [oS]
   | succ n ih => simp only [oS]; split <;> omega
  exact this _
 ·rcases hc with ⟨k, g1, _⟩ | ⟨_, g2⟩
  ·exact absurd g1 (hn0 _ rfl k)
  ·rw [g2, e1]; exact hs.tmps t
 ·
  have hno : ∀ k, 0 ≤ k → k < 0 + j → ¬ Wr ann E ops k := fun k _ hk hw => absurd (hseg.1 k (by omega) hw) (hn0 _ rfl k)
  have hext := nX hr (i := 0) j (by omega) hno
  rw [Nat.zero_add] at hext
  refine (⟨fun b blk inf hb hm => ?_, hs.heap.inj⟩ : HeapAt c (h j) w) |> fun q => ⟨fun b blk inf hb hm => (q.blk b blk inf hb hm).kept (.refl c) (fun _ => rfl), q.inj⟩
  have hbl := hs.dom b (by rw [hm]; simp)
  rw [← e2] at hbl
  rw [hext b hbl, e2] at hb
  exact hs.heap.blk b blk inf hb hm
 ·have hbl := hs.dom b hb
  rw [← e2] at hbl
  refine ⟨Nat.lt_of_lt_of_le hbl (by have := dQ hr (i := 0) ops.size (by omega); rwa [Nat.zero_add] at this), fun k hk g1 g2 => ?_⟩
  have := dQ hr (i := 0) k (by omega)
  rw [Nat.zero_add] at this
  omega
end
inductive Ex where
 | normal
 | exit (id : Nat)
 | ret
def Ex.to : Ex → Exit
 | .normal => .normal
 | .exit id => .exit id
 | .ret => .ret
abbrev cM := Ex × List AV × aB
abbrev oG := Ex → TS → aB → Option cM
mutual
def bR (n : Nat) : AV → Bool
 | .ptr b _ _ _ => decide (b < n)
 | .sl b _ _ _ _ => decide (b < n)
 | .fn _ caps => cV n caps
 | .iface _ v => bR n v
 | .agg cs => cV n cs
 | .tup vs => cV n vs
 | .ro _ xs => cV n xs
 | .rp _ x _ => bR n x
 | .undef => true
 | .bool _ => true
 | .int .. => true
 | .str _ => true
 | .nilp => true
 | .nilf => true
 | .nili => true
 | .gl _ => true
 | .gp _ => true
 | .nils => true
 | .anyb => true
def cV (n : Nat) : List AV → Bool
 | [] => true
 | x :: xs => bR n x && cV n xs
end
theorem oO {α : Type} (n : Nat) (e : α → AV) (h : ∀ a, bR n (e a) = true) : ∀ xs : List α, cV n (xs.map e) = true
 | [] => rfl
 | x :: xs => by simp [cV, h x, oO n e h xs]
theorem eO {n : Nat} : ∀ {xs : List AV} (_ : cV n xs = true) {i : Nat} {x : AV} (_ : xs[i]? = some x), bR n x = true
 | [], _, _, _, hx => by simp at hx
 | y :: xs, h, i, x, hx => by
  simp only [cV, Bool.and_eq_true] at h
  cases i with
  | zero => simp at hx; subst hx; exact h.1
  | succ i => simp at hx; exact eO h.2 hx
theorem jH {n : Nat} {x : AV} (h : bR n x = true) : cV n x.cells = true := by
 cases x <;> simp_all [AV.cells, cV, bR]
def eU (n : Nat) : aB → Bool
 | [] => true
 | b :: H => cV n b.elems && eU n H
theorem kJ {n : Nat} : ∀ {H : aB} (_ : eU n H = true) {i : Nat} {b : ABlk} (_ : H[i]? = some b), cV n b.elems = true
 | [], _, _, _, hx => by simp at hx
 | y :: H, h, i, b, hx => by
  simp only [eU, Bool.and_eq_true] at h
  cases i with
  | zero => simp at hx; subst hx; exact h.1
  | succ i => simp at hx; exact kJ h.2 hx
def iR (n : Nat) (xs : List AV) (H : aB) : Option aB :=
 match cV n xs && eU n (H.take n) with
 | true => some (H.take n)
 | false => none
def Ctx.cut (c : Ctx) (n : Nat) : Ctx := { c with m := fun b => if b < n then c.m b else none }
theorem Rel.cut {c : Ctx} {n : Nat} {x : AV} {v : Value} (h : Rel c x v) : bR n x = true → Rel (c.cut n) x v := by
 have hm : ∀ b inf, b < n → c.m b = some inf → (c.cut n).m b = some inf := fun b inf hb h => by simp [Ctx.cut, hb, h]
 induction h with
 | undef v => exact fun _ => .undef v
 | bool b => exact fun _ => .bool b
 | int k n => exact fun _ => .int k n
 | str s => exact fun _ => .str s
 | nilp => exact fun _ => .nilp
 | nilf => exact fun _ => .nilf
 | nili => exact fun _ => .nili
 | fn hl _ ih => exact fun hp => .fn hl (fun i x v h1 h2 => ih i x v h1 h2 (eO (by simpa [bR] using hp) h1))
 | iface _ ih => exact fun hp => .iface (ih (by simpa [bR] using hp))
 | agg hl _ h1 ih => exact fun hp => .agg hl (fun i x v h1 h2 => ih i x v h1 h2 (eO (by simpa [bR] using hp) h1)) h1
 | tup hl _ ih => exact fun hp => .tup hl (fun i x v h1 h2 => ih i x v h1 h2 (eO (by simpa [bR] using hp) h1))
 | ptr h1 h2 h3 => exact fun hp => .ptr (hm _ _ (by simpa [bR] using hp) h1) h2 h3
 | ptrStale a h1 h2 => exact fun hp => .ptrStale a (hm _ _ (by simpa [bR] using hp) h1) h2
 | sl h1 h2 h3 h4 h5 h6 h7 h8 => exact fun hp => .sl (hm _ _ (by simpa [bR] using hp) h1) h2 h3 h4 h5 h6 h7 h8
 | slVirt h1 h2 h3 h4 => exact fun hp => .slVirt (hm _ _ (by simpa [bR] using hp) h1) h2 h3 h4
 | slStale a c' h1 h2 h3 h4 => exact fun hp => .slStale a c' (hm _ _ (by simpa [bR] using hp) h1) h2 h3 h4
 | ro hn hcap ha hA hsz _ hmm ih =>
  intro hp
  refine .ro hn hcap ha hA hsz (fun i x j y h1 h2 => ih i x j y h1 h2 ?_) (fun i x j y h1 h2 => by
   rename_i bor _ _ _ _ _ _ _
   have := hmm i x j y h1 h2
   cases bor <;> exact this)
  exact eO (jH (eO (by simpa [bR] using hp) h1)) h2
 | rp _ hmm ih =>
  intro hp
  refine .rp (fun j y h1 => ih j y h1 ?_) (fun j y h1 => by
   rename_i bor _ _ _ _ _
   have := hmm j y h1
   cases bor <;> exact this)
  exact eO (jH (by simpa [bR] using hp)) h1
 | gl g => exact fun _ => .gl g
 | gp h => exact fun _ => .gp h
 | nils => exact fun _ => .nils
 | anyb b => exact fun _ => .anyb b
theorem sG {c : Ctx} {n k : Nat} (h : (c.cut n).own k) : c.own k := by
 obtain ⟨b, i, hb, hv, hk⟩ := h
 by_cases hbn : b < n
 ·simp [Ctx.cut, hbn] at hb; exact ⟨b, i, hb, hv, hk⟩
 ·simp [Ctx.cut, hbn] at hb
theorem Good.cut {G : aC} {c : Ctx} {w : World} (hg : Good G c w) (hG : ∀ g x, G g = some x → bE x = true) (n : Nat) : Good G (c.cut n) w := by
 refine ⟨hg.holds, hg.MB, fun k hk a ha => hg.away k (sG hk) a ha, hg.sent, fun g a h hk => hg.sentAway g a h (sG hk), hg.sentApart, fun g x h => ?_, fun k hk => hg.bound k (sG hk), hg.tab⟩
 obtain ⟨v, h1, h2⟩ := hg.glob g x h
 exact ⟨v, h1, Rel.plain (c := c) (c' := c.cut n) (fun _ _ h => h) (fun _ _ h => h) rfl h2 (hG g x h)⟩
theorem HeapAt.cut {c : Ctx} {H : aB} {w : World} (hH : HeapAt c H w) {n : Nat} (hb : eU n (H.take n) = true) : HeapAt (c.cut n) (H.take n) w := by
 refine ⟨fun b blk inf h1 h2 => ?_, fun b b' i i' h1 h2 v1 v2 he => ?_⟩
 ·have hbn : b < n := by
   by_cases q : b < n
   ·exact q
   ·simp [Ctx.cut, q] at h2
  simp [Ctx.cut, hbn] at h2
  have h1' : H[b]? = some blk := by rw [List.getElem?_take, if_pos hbn] at h1; exact h1
  have hB := hH.blk b blk inf h1' h2
  refine ⟨hB.ty, hB.sz, hB.pos, hB.len, hB.fits, hB.virt, hB.big, hB.real, fun hv i x hx => ⟨(hB.cells hv i x hx).1, fun j y hy => ?_⟩⟩
  obtain ⟨v, g1, g2, g3⟩ := (hB.cells hv i x hx).2 j y hy
  exact ⟨v, g1, g2.cut (eO (jH (eO (kJ hb h1) hx)) hy), g3⟩
 ·by_cases q : b < n
  ·by_cases q' : b' < n
   ·simp [Ctx.cut, q] at h1; simp [Ctx.cut, q'] at h2; exact hH.inj b b' i i' h1 h2 v1 v2 he
   ·simp [Ctx.cut, q'] at h2
  ·simp [Ctx.cut, q] at h1
theorem Step.cut {c0 c : Ctx} {w0 w : World} (hs : Step c0 w0 c w) {n : Nat} (hl : ∀ b, c0.m b ≠ none → b < n) : Step c0 w0 (c.cut n) w := by
 refine ⟨⟨fun b inf hb => ?_, hs.le.M, hs.le.B, hs.le.S⟩, hs.os, hs.tape, hs.output, hs.size, hs.kept, fun b i hb hv hlt => by
   by_cases q : b < n
   ·simp [Ctx.cut, q] at hb; exact hs.fresh b i hb hv hlt
   ·simp [Ctx.cut, q] at hb, hs.newM, hs.newB⟩
 obtain ⟨i, h1, h2⟩ := hs.le.m b inf hb
 have hbn := hl b (by rw [hb]; simp)
 exact ⟨i, by simp [Ctx.cut, hbn, h1], h2⟩
def aJ (xs : List AV) : Nat → AV
 | 0 => match xs with
  | x :: _ => x
  | [] => .undef
 | i + 1 => match xs with
  | _ :: xs => aJ xs i
  | [] => .undef
theorem vT : ∀ (i : Nat) (xs : List AV), aJ xs i = (xs[i]?).getD .undef
 | 0, xs => by cases xs <;> rfl
 | i + 1, [] => rfl
 | i + 1, _ :: xs => by simpa [aJ] using vT i xs
def uN : List Nat → Nat → Option Nat
 | [], _ => none
 | k :: ks, t => if t = k then some 0 else match uN ks t with
  | some i => some (i + 1)
  | none => none
def rH (ks : List Nat) (xs : List AV) (t : Nat) : AV :=
 match uN ks t with
 | some i => aJ xs i
 | none => .undef
theorem rJ : ∀ {ks : List Nat} {t i : Nat} (_ : uN ks t = some i), ks[i]? = some t
 | [], t, i, h => by simp [uN] at h
 | k :: ks, t, i, h => by
  simp only [uN] at h
  split at h
  ·rename_i e; simp at h; subst h; simp [e]
  ·split at h
   ·rename_i j hj
    simp at h; subst h
    simpa using rJ hj
   ·cases h
theorem aAR (ks : List Nat) (T : TS) (t : Nat) : rH ks (ks.map T) t = T t ∨ rH ks (ks.map T) t = .undef := by
 unfold rH
 split
 ·rename_i i hi
  left
  rw [vT, List.getElem?_map, rJ hi]; rfl
 ·exact .inr rfl
theorem aAS (ks : List Nat) (xs : List AV) (t : Nat) : rH ks xs t = .undef ∨ ∃ i : Nat, xs[i]? = some (rH ks xs t) := by
 unfold rH
 split
 ·rename_i i hi
  rw [vT]
  cases h : xs[i]? with
  | none => exact .inl rfl
  | some x => exact .inr ⟨i, by simp [h]⟩
 ·exact .inl rfl
theorem St.kept {G : aC} {c0 : Ctx} {w0 : World} {N B : Nat} {T : TS} {H : aB} {c : Ctx} {a : Act} {w : World} (h : St G c0 w0 N B T H c a w) (ks : List Nat) : St G c0 w0 N B (rH ks (ks.map T)) H c a w :=
 ⟨h.good, h.heap, h.dom, h.step, fun t => by rcases aAR ks T t with e | e <;> rw [e]; exact h.tmps t; exact .undef _, h.size, h.defers, h.low⟩
theorem St.cut {G : aC} {c0 : Ctx} {w0 : World} {N B : Nat} {ks : List Nat} {xs : List AV} {H H' : aB} {c : Ctx} {a : Act} {w : World} (hG : ∀ g x, G g = some x → bE x = true)
  (h : St G c0 w0 N B (rH ks xs) H c a w) {n : Nat} (hc : iR n xs H = some H') (hl : ∀ b, c0.m b ≠ none → b < n) (hn : n ≤ H.length) : St G c0 w0 N n (rH ks xs) H' (c.cut n) a w ∧ H'.length = n := by
 unfold iR at hc
 split at hc
 case h_2 => cases hc
 rename_i hb
 simp only [Bool.and_eq_true] at hb
 simp at hc; subst hc
 refine ⟨⟨h.good.cut hG n, h.heap.cut hb.2, fun b hb' => ?_, h.step.cut hl, fun t => ?_, h.size, h.defers, by simp [hn]⟩, by simp [hn]⟩
 ·have hbn : b < n := by
   by_cases q : b < n
   ·exact q
   ·simp [Ctx.cut, q] at hb'
  simp [Ctx.cut, hbn] at hb'
  have := h.dom b (by simpa using hb')
  simp; omega
 ·refine (h.tmps t).cut ?_
  rcases aAS ks xs t with e | ⟨i, e⟩
  ·rw [e]; rfl
  ·exact eO hb.1 e
mutual
def hD (x y : AV) : Bool :=
 match x with
 | .undef => match y with | .undef => true | _ => false
 | .bool a => match y with | .bool b => a == b | _ => false
 | .int k n => match y with | .int k' n' => decide (k = k') && decide (n = n') | _ => false
 | .nilp => match y with | .nilp => true | _ => false
 | .nilf => match y with | .nilf => true | _ => false
 | .nili => match y with | .nili => true | _ => false
 | .nils => match y with | .nils => true | _ => false
 | .anyb => match y with | .anyb => true | _ => false
 | .gl g => match y with | .gl g' => Nat.beq g g' | _ => false
 | .gp g => match y with | .gp g' => Nat.beq g g' | _ => false
 | .ptr b L i o => match y with | .ptr b' L' i' o' => Nat.beq b b' && Nat.beq L L' && Nat.beq i i' && Nat.beq o o' | _ => false
 | .sl b L o n z => match y with | .sl b' L' o' n' z' => Nat.beq b b' && Nat.beq L L' && Nat.beq o o' && Nat.beq n n' && Nat.beq z z' | _ => false
 | .agg cs => match y with | .agg ds => sH cs ds | _ => false
 | .tup cs => match y with | .tup ds => sH cs ds | _ => false
 | .ro b cs => match y with | .ro b' ds => b == b' && sH cs ds | _ => false
 | .iface t v => match y with | .iface t' v' => Nat.beq t t' && hD v v' | _ => false
 | _ => false
def sH (xs ys : List AV) : Bool :=
 match xs with
 | [] => match ys with | [] => true | _ => false
 | x :: xs => match ys with | y :: ys => hD x y && sH xs ys | [] => false
end
mutual
theorem wK : ∀ {x y : AV}, hD x y = true → x = y
 | .undef, y, h => by unfold hD at h; split at h <;> simp_all
 | .bool a, y, h => by unfold hD at h; split at h <;> simp_all
 | .int k n, y, h => by unfold hD at h; split at h <;> simp_all
 | .nilp, y, h => by unfold hD at h; split at h <;> simp_all
 | .nilf, y, h => by unfold hD at h; split at h <;> simp_all
 | .nili, y, h => by unfold hD at h; split at h <;> simp_all
 | .nils, y, h => by unfold hD at h; split at h <;> simp_all
 | .anyb, y, h => by unfold hD at h; split at h <;> simp_all
 | .gl g, y, h => by unfold hD at h; split at h <;> simp_all
 | .gp g, y, h => by unfold hD at h; split at h <;> simp_all
 | .ptr .., y, h => by unfold hD at h; split at h <;> simp_all
 | .sl .., y, h => by unfold hD at h; split at h <;> simp_all
 | .agg cs, y, h => by
  unfold hD at h
  split at h
  ·rw [kB h]
  ·cases h
 | .tup cs, y, h => by
  unfold hD at h
  split at h
  ·rw [kB h]
  ·cases h
 | .ro b cs, y, h => by
  unfold hD at h
  split at h
  ·simp only [Bool.and_eq_true, beq_iff_eq] at h
   rw [h.1, kB h.2]
  ·cases h
 | .iface t v, y, h => by
  unfold hD at h
  split at h
  ·simp only [Bool.and_eq_true] at h
   rw [Nat.eq_of_beq_eq_true h.1, wK h.2]
  ·cases h
 | .str _, y, h => by unfold hD at h; cases h
 | .fn .., y, h => by unfold hD at h; cases h
 | .rp .., y, h => by unfold hD at h; cases h
theorem kB : ∀ {xs ys : List AV}, sH xs ys = true → xs = ys
 | [], ys, h => by unfold sH at h; split at h <;> simp_all
 | x :: xs, ys, h => by
  unfold sH at h
  split at h
  ·simp only [Bool.and_eq_true] at h
   rw [wK h.1, kB h.2]
  ·cases h
end
def yZ : aB → aB → Bool
 | [], ys => match ys with | [] => true | _ => false
 | x :: xs, ys => match ys with
  | y :: ys => Nat.beq x.ty y.ty && Nat.beq x.sz y.sz && sH x.elems y.elems && yZ xs ys
  | [] => false
theorem wL : ∀ {xs ys : aB}, yZ xs ys = true → xs = ys
 | [], ys, h => by unfold yZ at h; split at h <;> simp_all
 | x :: xs, ys, h => by
  unfold yZ at h
  split at h
  ·rename_i y ys
   simp only [Bool.and_eq_true] at h
   obtain ⟨⟨⟨h1, h2⟩, h3⟩, h4⟩ := h
   obtain ⟨a, b, d⟩ := x
   obtain ⟨a', b', d'⟩ := y
   simp only at h1 h2 h3
   rw [Nat.eq_of_beq_eq_true h1, Nat.eq_of_beq_eq_true h2, kB h3, wL h4]
  ·cases h
def aBu (a b : Ex) : Bool :=
 match a with
 | .normal => match b with | .normal => true | _ => false
 | .ret => match b with | .ret => true | _ => false
 | .exit i => match b with | .exit j => Nat.beq i j | _ => false
theorem aAH {a b : Ex} (h : aBu a b = true) : a = b := by
 unfold aBu at h
 (repeat' split at h) <;> simp_all
def yU (x y : Option cM) : Option cM :=
 match x with
 | some (e, xs, H) => match y with
  | some (e', xs', H') => match aBu e e' && sH xs xs' && yZ H H' with
   | true => some (e, xs, H)
   | false => none
  | none => none
 | none => none
theorem tI {x y : Option cM} {out : cM} (h : yU x y = some out) : x = some out ∧ y = some out := by
 unfold yU at h
 split at h
 case h_2 => cases h
 split at h
 case h_2 => cases h
 split at h
 case h_2 => cases h
 rename_i hc
 simp only [Bool.and_eq_true] at hc
 rw [← aAH hc.1.1, ← kB hc.1.2, ← wL hc.2]
 exact ⟨h, h⟩
def aM (c : AV) (x y : Option cM) : Option cM :=
 match c with
 | .bool b => match b with
  | true => x
  | false => y
 | .anyb => yU x y
 | _ => none
def rO (q : AV × Nat × Nat × Nat) (H : aB) : aB :=
 match q with
 | (p, o, e, s) => match p with
  | .ptr b _ i _ => match H[b]? with
   | some blk => match blk.elems[i]? with
    | some x => match x.cells[o]? with
     | some y => match y with
      | .nils => match decide (0 < s) with
       | true => H.set b { blk with elems := blk.elems.set i (cD x (x.cells.set o (.sl H.length 0 0 0 s))) } ++ [{ ty := e, sz := s, elems := [] }]
       | false => H
      | _ => H
     | none => H
    | none => H
   | none => H
  | _ => H
def vK {γ : Type} : List (AV × Nat × Nat × Nat) → aB → (aB → Option γ) → Option γ
 | [], H, k => k H
 | q :: l, H, k => vK l (rO q H) k
theorem vD {G : aC} {c : Ctx} {H : aB} {w : World} (hg : Good G c w) (hH : HeapAt c H w) (hd : rR c H) (q : AV × Nat × Nat × Nat) :
  ∃ c', Step c w c' w ∧ Good G c' w ∧ HeapAt c' (rO q H) w ∧ rR c' (rO q H) ∧ H.length ≤ (rO q H).length := by
 have same : ∃ c', Step c w c' w ∧ Good G c' w ∧ HeapAt c' H w ∧ rR c' H ∧ H.length ≤ H.length := ⟨c, .refl c w, hg, hH, hd, Nat.le_refl _⟩
 unfold rO
 split
 rename_i p o e s
 split
 case h_2 => exact same
 rename_i b _ i _
 split
 case h_2 => exact same
 rename_i blk hb
 split
 case h_2 => exact same
 rename_i x hx
 split
 case h_2 => exact same
 rename_i y hy
 split
 case h_2 => exact same
 split
 case h_2 => exact same
 rename_i hs
 have hs0 : 0 < s := of_decide_eq_true hs
 have hn : c.m H.length = none := by
  cases hq : c.m H.length with
  | none => rfl
  | some i => exact absurd (hd H.length (by rw [hq]; simp)) (Nat.lt_irrefl _)
 let inf : Info := ⟨0, 0, e, s, 0, true⟩
 have hle := Ctx.push_le (inf := inf) hn
 have hown : ∀ k, (c.push H.length inf).own k → c.own k := fun k hk => by
  rcases Ctx.push_own hk with h | ⟨h, _⟩
  ·exact h
  ·simp [inf] at h
 have hstep : Step c w (c.push H.length inf) w := ⟨hle, rfl, rfl, rfl, Nat.le_refl _, fun _ _ _ => rfl, fun b i hb hv hlt => by
   by_cases e1 : b = H.length
   ·simp [Ctx.push, e1] at hb; subst hb; simp [inf] at hv
   ·simp [Ctx.push, e1] at hb; exact ⟨i, hb, hv, rfl⟩, fun _ _ h => .inl h, fun _ _ h => .inl h⟩
 have hrel : Rel (c.push H.length inf) (.sl H.length 0 0 0 s) (.slice none 0 0) := .slVirt (inf := inf) (by simp [Ctx.push]) rfl rfl rfl
 have hbl : b < H.length := (List.getElem?_eq_some_iff.1 hb).1
 refine ⟨c.push H.length inf, hstep, hg.step hstep hg.holds hg.MB (fun k hk a ha => hg.away k (hown k hk) a ha) (fun k hk => hg.bound k (hown k hk)), ⟨fun b' blk' i' hb' hm => ?_, fun b1 b2 i1 i2 h1 h2 v1 v2 he => ?_⟩, fun b' hb' => ?_, by simp⟩
 ·by_cases e1 : b' = H.length
  ·subst e1
   simp [Ctx.push] at hm; subst hm
   rw [List.getElem?_append_right (by simp)] at hb'
   simp at hb'; subst hb'
   exact ⟨rfl, rfl, hs0, rfl, by simp, fun _ => rfl, by simp [inf], by simp [inf], by simp [inf]⟩
  ·simp [Ctx.push, e1] at hm
   have hlt : b' < H.length := hd b' (by rw [hm]; simp)
   rw [List.getElem?_append_left (by simpa using hlt)] at hb'
   by_cases e2 : b' = b
   ·subst e2
    rw [List.getElem?_set_self hbl] at hb'
    obtain rfl := Option.some.inj hb'
    have hB := hH.blk _ _ _ hb hm
    have hil : i < blk.elems.length := (List.getElem?_eq_some_iff.1 hx).1
    refine ⟨hB.ty, hB.sz, hB.pos, by simpa using hB.len, by simpa using hB.fits, hB.virt, hB.big, hB.real, fun hv k z hz => ?_⟩
    by_cases hki : k = i
    ·subst hki
     rw [List.getElem?_set_self hil] at hz
     obtain rfl := Option.some.inj hz
     obtain ⟨g1, g2⟩ := hB.cells hv k x hx
     have hone : ∀ (j : Nat) (z : AV), x.cells[j]? = some z → z.cells = [z] := fun j z hz => by
      obtain ⟨v, _, r, o1⟩ := g2 j z hz
      exact fO r o1
     have hcells : (cD x (x.cells.set o (.sl H.length 0 0 0 s))).cells = x.cells.set o (.sl H.length 0 0 0 s) := by
      refine mC (by simp) (fun y hy => ?_)
      rcases List.mem_or_eq_of_mem_set hy with h1 | rfl
      ·obtain ⟨j, hj⟩ := List.mem_iff_getElem?.1 h1
       exact .inl (hone j y hj)
      ·exact .inl rfl
     rw [hcells]
     refine ⟨by simpa using g1, fun j z hz => ?_⟩
     by_cases hjo : j = o
     ·subst hjo
      have hol : j < x.cells.length := (List.getElem?_eq_some_iff.1 hy).1
      rw [List.getElem?_set_self hol] at hz
      obtain rfl := Option.some.inj hz
      obtain ⟨v, r1, r2, r3⟩ := g2 j _ hy
      obtain rfl := r2.of_nils
      exact ⟨_, r1, hrel, r3⟩
     ·rw [List.getElem?_set_ne (Ne.symm hjo)] at hz
      obtain ⟨v, r1, r2, r3⟩ := g2 j z hz
      exact ⟨v, r1, r2.mono hle, r3⟩
    ·rw [List.getElem?_set_ne (Ne.symm hki)] at hz
     obtain ⟨g1, g2⟩ := hB.cells hv k z hz
     refine ⟨g1, fun j u hu => ?_⟩
     obtain ⟨v, r1, r2, r3⟩ := g2 j u hu
     exact ⟨v, r1, r2.mono hle, r3⟩
   ·rw [List.getElem?_set_ne (Ne.symm e2)] at hb'
    exact (hH.blk b' blk' i' hb' hm).kept hle (fun _ => rfl)
 ·by_cases e1 : b1 = H.length
  ·simp [Ctx.push, e1] at h1; subst h1; simp [inf] at v1
  ·by_cases e2 : b2 = H.length
   ·simp [Ctx.push, e2] at h2; subst h2; simp [inf] at v2
   ·simp [Ctx.push, e1] at h1; simp [Ctx.push, e2] at h2
    exact hH.inj b1 b2 i1 i2 h1 h2 v1 v2 he
 ·by_cases e1 : b' = H.length
  ·simp [e1]
  ·simp [Ctx.push, e1] at hb'
   have := hd b' (by simpa using hb')
   simp; omega
theorem vC {γ : Type} {G : aC} {c0 : Ctx} {w0 : World} {N B : Nat} {T : TS} {a : Act} {w : World} {k : aB → Option γ} {out : γ} : ∀ (l : List (AV × Nat × Nat × Nat)) {H : aB} {c : Ctx}, vK l H k = some out → St G c0 w0 N B T H c a w →
  ∃ c' H', k H' = some out ∧ H.length ≤ H'.length ∧ St G c0 w0 N B T H' c' a w
 | [], H, c, h, hs => ⟨c, H, h, Nat.le_refl _, hs⟩
 | q :: l, H, c, h, hs => by
  simp only [vK] at h
  obtain ⟨c1, h1, h2, h3, h4, h5⟩ := vD hs.good hs.heap hs.dom q
  obtain ⟨c2, H2, g1, g2, g3⟩ := vC l h ⟨h2, h3, h4, hs.step.trans h1, fun t => (hs.tmps t).mono h1.le, hs.size, hs.defers, Nat.le_trans hs.low h5⟩
  exact ⟨c2, H2, g1, Nat.le_trans h5 g2, g3⟩
def oU (n : Nat) (xs : List AV) (H : aB) (k : aB → Option cM) : Option cM :=
 match iR n xs H with
 | some H0 => k H0
 | none => none
def hC {γ : Type} (e : Ex) (a : γ) (b : Nat → γ) (r : γ) : γ :=
 match e with
 | .normal => a
 | .exit id => b id
 | .ret => r
abbrev fF := List AV → aB → Option cM
def eY (step : fF → fF) : Nat → fF
 | 0 => fun _ _ => none
 | n + 1 => step (eY step n)
def zJ (n0 : Nat) (ks : List Nat) (body : oG → TS → aB → Option cM) (self : fF) : fF := fun xs H =>
 oU n0 xs H fun H0 => body (fun e T' H' => match e with
   | .normal => self (ks.map T') H'
   | .exit id => some (.exit id, ks.map T', H')
   | .ret => some (.ret, ks.map T', H')) (rH ks xs) H0
def vP (n0 : Nat) (ks : List Nat) (body : oG → TS → aB → Option cM) (n : Nat) : fF := eY (zJ n0 ks body) n
theorem rD (n0 : Nat) (ks : List Nat) (body : oG → TS → aB → Option cM) (xs : List AV) (H : aB) : vP n0 ks body 0 xs H = none := rfl
theorem rC (n0 : Nat) (ks : List Nat) (body : oG → TS → aB → Option cM) (n : Nat) (xs : List AV) (H : aB) : vP n0 ks body (n + 1) xs H = match iR n0 xs H with
  | some H0 => body (fun e T' H' => match e with
   | .normal => vP n0 ks body n (ks.map T') H'
   | .exit id => some (.exit id, ks.map T', H')
   | .ret => some (.ret, ks.map T', H')) (rH ks xs) H0
  | none => none := rfl
def dG (r : Option cM) (k : Ex → List AV → aB → Option cM) : Option cM :=
 match r with
 | some (e, xs, H) => k e xs H
 | none => none
def gB : Code → Nat
 | .region id _ _ => id
 | .seq a b => match a with
  | .skip => gB b
  | a => gB a
 | .cond _ a _ => gB a
 | .block _ b => gB b
 | .loop b => gB b
 | .scope b => gB b
 | _ => 0
def inl (P : Program) (ann : Ann) (o : Oper) (T : TS) : Option AV :=
 match o.guard with
 | some _ => none
 | none => match o.op with
  | .move x => (match iS x && mL ann o.dst with | true => none | false => some (eZ T x))
  | .assign x => (match iS x && mL ann o.dst with | true => none | false => some (eZ T x))
  | .makeInterface t x => sK P t (eZ T x)
  | .makeFunc fn first captured => match fn with
   | .func f => match first.toList with
    | [] => some (.fn f (captured.toList.map (eZ T)))
    | _ => none
   | _ => none
  | _ => none
theorem zH {P : Program} {G : aC} {E : jD} {ann : Ann} {ops : Array Oper} {o : Oper} {T : TS} {H : aB} {v : AV} (h : inl P ann o T = some v) : fZ P G E ann ops o T H = some (v, H) := by
 unfold inl at h
 split at h
 ·cases h
 rename_i hg
 unfold fZ
 rw [hg]
 simp only
 unfold pM
 split at h
 ·rename_i ho
  rw [ho]
  unfold kK
  simp only
  split at h <;> rename_i he
  ·cases h
  ·simp at h; subst h; rw [he]
 ·rename_i ho
  rw [ho]
  unfold kK
  simp only
  split at h <;> rename_i he
  ·cases h
  ·simp at h; subst h; rw [he]
 ·rename_i ho
  rw [ho]
  simp only [pu, h]
 ·rename_i ho
  rw [ho]
  split at h
  ·split at h <;> rename_i he
   ·simp at h; subst h; simp only [he]
   ·cases h
  ·cases h
 ·cases h
def aAn {γ : Type} (P : Program) (G : aC) (E : jD) (ann : Ann) (ops : Array Oper) : List Oper → (TS → aB → Option γ) → TS → aB → Option γ
 | [], K, T, H => K T H
 | o :: l, K, T, H => match inl P ann o T with
  | some v => aAn P G E ann ops l K (nP T o.dst v) H
  | none => aD (fZ P G E ann ops o T H) fun v H' => aAn P G E ann ops l K (nP T o.dst v) H'
theorem oD {γ : Type} (P : Program) (G : aC) (E : jD) (ann : Ann) (ops : Array Oper) : ∀ (l : List Oper) (K : TS → aB → Option γ) (T : TS) (H : aB), aAn P G E ann ops l K T H = gQ P G E ann ops l K T H
 | [], K, T, H => rfl
 | o :: l, K, T, H => by
  simp only [aAn, gQ]
  split
  ·rename_i v hv
   rw [zH hv, oD]; rfl
  ·congr 1
   funext v H'
   exact oD P G E ann ops l K _ H'
def fL (P : Program) (G : aC) (E : jD) (ann : Ann) (n : Nat) : Code → oG → TS → aB → Option cM
 | .skip, K, T, H => K .normal T H
 | .region _ ops draw, K, T, H => aAn P G E ann ops ops.toList (fun T H => match draw with
   | true => grd (yQ T (iL ops)) (K .normal T H)
   | false => K .normal T H) T H
 | .seq a b, K, T, H => match ann.join (gB b) with
  | none => fL P G E ann n a (fun e T H => match e with
    | .normal => fL P G E ann n b K T H
    | .exit id => K (.exit id) T H
    | .ret => K .ret T H) T H
  | some ks => dG (fL P G E ann n a (fun e T H => some (e, ks.map T, H)) T H) (fun e xs H => match e with
    | .normal => fL P G E ann n b K (rH ks xs) H
    | .exit id => K (.exit id) (rH ks xs) H
    | .ret => K .ret (rH ks xs) H)
 | .cond c a b, K, T, H => aM (eZ T c) (fL P G E ann n a K T H) (fL P G E ann n b K T H)
 | .block id b, K, T, H => fL P G E ann n b (fun e T H => match e with
   | .normal => K .normal T H
   | .exit i => if i = id then K .normal T H else K (.exit i) T H
   | .ret => K .ret T H) T H
 | .loop b, K, T, H => vK ((ann.virt (gB b)).map fun q => (T q.1, q.2)) H fun H => dG (vP H.length (ann.keep (gB b)) (fL P G E ann n b) n ((ann.keep (gB b)).map T) H) (fun e xs H => match e with
    | .normal => none
    | .exit id => K (.exit id) (rH (ann.keep (gB b)) xs) H
    | .ret => K .ret (rH (ann.keep (gB b)) xs) H)
 | .scope b, K, T, H => fL P G E ann n b K T H
 | .exit id, K, T, H => K (.exit id) T H
 | .label _, K, T, H => K .normal T H
 | .ret, K, T, H => K .ret T H
 | _, _, _, _ => none
def fD (ann : Ann) (pf : Nat → Bool) (N : Nat) : Code → Bool
 | .region _ ops draw => ops.toList.all (fun o => match o.dst with | some d => decide (d < N) | none => true) && (!draw || pN ann pf ops)
 | .seq a b => fD ann pf N a && fD ann pf N b
 | .cond _ a b => fD ann pf N a && fD ann pf N b
 | .block _ b => fD ann pf N b
 | .loop b => fD ann pf N b
 | .scope b => fD ann pf N b
 | .rangeFunc .. => false
 | _ => true
theorem tD {P : Program} {c : Code} {Q : Exit → Act → World → Prop} (I : Nat → Act → World → Prop)
  (round : ∀ n a w, I n a w → c.wp P (Exit.then (fun a' w' => ∃ m, m < n ∧ I m a' w') Q) a w) {n : Nat} {a : Act} {w : World} (h0 : I n a w) : (Code.loop c).wp P Q a w := by
 intro b k cs
 have key : ∀ n a w, I n a w → ∃ e a' w', Q e a' w' ∧ Arrives P (lone (b.at a (.code c :: .inLoop c :: k)) cs w) b k cs e a' w' := by
  intro n
  induction n using Nat.strongRecOn with
  | _ n ih =>
   intro a w hI
   obtain ⟨e, a₁, w₁, hq, harr⟩ := round n a w hI b (.inLoop c :: k) cs
   cases e with
   | normal =>
    obtain ⟨m, hm, hI₁⟩ := hq
    obtain ⟨e₂, a₂, w₂, hq₂, harr₂⟩ := ih m hm a₁ w₁ hI₁
    exact ⟨e₂, a₂, w₂, hq₂, .of_steps (Steps.trans harr (.one step_inLoop)) harr₂⟩
   | exit id => exact ⟨_, a₁, w₁, hq, .pass (x := .inLoop c) rfl (fun _ _ => .inl (by simp)) harr⟩
   | goto l => exact ⟨_, a₁, w₁, hq, .pass (x := .inLoop c) rfl (fun _ _ => .inl (by simp)) harr⟩
   | ret => exact ⟨_, a₁, w₁, hq, .pass (x := .inLoop c) rfl (fun _ _ => .inl (by simp)) harr⟩
   | panic ch => exact ⟨_, a₁, w₁, hq, .pass (x := .inLoop c) rfl (fun _ _ => .inl (by simp)) harr⟩
   | outgrown => exact ⟨_, a₁, w₁, hq, .pass (x := .inLoop c) rfl (fun _ _ => .inl (by simp)) harr⟩
 obtain ⟨e, a', w', hq, harr⟩ := key n a w h0
 exact ⟨e, a', w', hq, .of_steps (.one step_loop) harr⟩
section
variable {P : Program} {G : aC} {E : jD} {ann : Ann} {c0 : Ctx} {w0 : World} {N : Nat}
theorem St.weak {B B' : Nat} {T : TS} {H : aB} {c : Ctx} {a : Act} {w : World} (h : St G c0 w0 N B T H c a w) (hB : B' ≤ H.length) : St G c0 w0 N B' T H c a w :=
 ⟨h.good, h.heap, h.dom, h.step, h.tmps, h.size, h.defers, hB⟩
def QK (G : aC) (c0 : Ctx) (w0 : World) (N B : Nat) (K : oG) (out : cM) (Q : Exit → Act → World → Prop) : Prop :=
 ∀ e T H c a w, K e T H = some out → St G c0 w0 N B T H c a w → Q e.to a w
def aCd (P : Program) (G : aC) (E : jD) (ann : Ann) (c0 : Ctx) (w0 : World) (N n : Nat) (code : Code) : Prop :=
 ∀ (B : Nat) (K : oG) (T : TS) (H : aB) (out : cM) (c : Ctx) (a : Act) (w : World) (Q : Exit → Act → World → Prop), (∀ b, c0.m b ≠ none → b < B) →
  fL P G E ann n code K T H = some out → St G c0 w0 N B T H c a w → QK G c0 w0 N B K out Q → code.wp P Q a w
theorem yD {n : Nat} {b : Code} (hb : aCd P G E ann c0 w0 N n b) (hG : ∀ g x, G g = some x → bE x = true) {n0 : Nat} (hl : ∀ b, c0.m b ≠ none → b < n0) {ks : List Nat} {e : Ex} {ys : List AV} {H1 : aB}
  {Q : Exit → Act → World → Prop} (hq : ∀ c a w, St G c0 w0 N n0 (rH ks ys) H1 c a w → Q e.to a w) (hen : e ≠ .normal) {m : Nat} {xs : List AV} {H : aB} {c : Ctx} {a : Act} {w : World}
  (hi : vP n0 ks (fL P G E ann n b) m xs H = some (e, ys, H1)) (hs : St G c0 w0 N n0 (rH ks xs) H c a w) : (Code.loop b).wp P Q a w := by
 refine tD (fun m a w => ∃ xs H c, vP n0 ks (fL P G E ann n b) m xs H = some (e, ys, H1) ∧ St G c0 w0 N n0 (rH ks xs) H c a w) ?_ ⟨xs, H, c, hi, hs⟩
 intro m a w ⟨xs, H, c, hi, hs⟩
 cases m with
 | zero => simp [rD] at hi
 | succ m =>
  simp only [rC] at hi
  split at hi
  case h_2 => cases hi
  rename_i H0 hcut
  obtain ⟨hs0, hlen⟩ := hs.cut hG hcut hl hs.low
  refine hb n0 _ _ _ _ _ _ _ _ hl hi hs0 ?_
  intro e' T' H' c' a' w' hk hs'
  cases e' with
  | normal => exact ⟨m, by omega, ks.map T', H', c', hk, hs'.kept ks⟩
  | exit id =>
   simp only [Option.some.injEq, Prod.mk.injEq] at hk
   obtain ⟨rfl, rfl, rfl⟩ := hk
   exact hq _ _ _ (hs'.kept ks)
  | ret =>
   simp only [Option.some.injEq, Prod.mk.injEq] at hk
   obtain ⟨rfl, rfl, rfl⟩ := hk
   exact hq _ _ _ (hs'.kept ks)
theorem iZ {n : Nat} {b : Code} {n0 : Nat} {ks : List Nat} {ys : List AV} {H1 : aB} (hx : ∀ (K : oG) T H out, fL P G E ann n b K T H = some out → ∃ e T' H', K e T' H' = some out) :
  ∀ (m : Nat) (xs : List AV) (H : aB), vP n0 ks (fL P G E ann n b) m xs H ≠ some (.normal, ys, H1)
 | 0, xs, H, hi => by simp [rD] at hi
 | m + 1, xs, H, hi => by
  simp only [rC] at hi
  split at hi
  case h_2 => cases hi
  obtain ⟨e, T', H', hk⟩ := hx _ _ _ _ hi
  cases e with
  | normal => exact iZ hx m _ _ hk
  | exit id => simp at hk
  | ret => simp at hk
theorem mD {γ : Type} {ops : Array Oper} {K : TS → aB → Option γ} {out : γ} : ∀ {l : List Oper} {T : TS} {H : aB}, gQ P G E ann ops l K T H = some out → ∃ T' H', K T' H' = some out
 | [], T, H, h => ⟨T, H, h⟩
 | o :: l, T, H, h => by
  simp only [gQ, aD] at h
  split at h
  ·exact mD h
  ·cases h
theorem vB {γ : Type} {k : aB → Option γ} {out : γ} : ∀ (l : List (AV × Nat × Nat × Nat)) {H : aB}, vK l H k = some out → ∃ H', k H' = some out
 | [], H, h => ⟨H, h⟩
 | q :: l, H, h => vB l (by simpa only [vK] using h)
theorem vL (n : Nat) : ∀ (code : Code) (K : oG) (T : TS) (H : aB) (out : cM), fL P G E ann n code K T H = some out → ∃ e T' H', K e T' H' = some out := by
 intro code
 induction code with
 | skip => exact fun K T H out h => ⟨_, _, _, h⟩
 | region id ops draw =>
   intro K T H out h
   simp only [fL, oD] at h
   obtain ⟨T', H', h'⟩ := mD h
   cases draw with
   | true => exact ⟨_, T', H', (oZ h').1⟩
   | false => exact ⟨_, T', H', h'⟩
 | seq x y ihx ihy =>
  intro K T H out h
  simp only [fL] at h
  split at h
  ·obtain ⟨e, T', H', h'⟩ := ihx _ _ _ _ h
   cases e with
   | normal => exact ihy _ _ _ _ h'
   | exit id => exact ⟨_, _, _, h'⟩
   | ret => exact ⟨_, _, _, h'⟩
  ·unfold dG at h
   split at h
   case h_2 => cases h
   rename_i e xs H' _
   cases e with
   | normal => exact ihy _ _ _ _ h
   | exit id => exact ⟨_, _, _, h⟩
   | ret => exact ⟨_, _, _, h⟩
 | cond c x y ihx ihy =>
  intro K T H out h
  simp only [fL] at h
  unfold aM at h
  split at h
  ·split at h
   ·exact ihx _ _ _ _ h
   ·exact ihy _ _ _ _ h
  ·exact ihx _ _ _ _ (tI h).1
  ·cases h
 | block id b ih =>
  intro K T H out h
  simp only [fL] at h
  obtain ⟨e, T', H', h'⟩ := ih _ _ _ _ h
  cases e with
  | normal => exact ⟨_, _, _, h'⟩
  | exit i =>
   simp only at h'
   split at h'
   ·exact ⟨_, _, _, h'⟩
   ·exact ⟨_, _, _, h'⟩
  | ret => exact ⟨_, _, _, h'⟩
 | loop b ih =>
  intro K T H out h
  simp only [fL] at h
  obtain ⟨H, h⟩ := vB _ h
  unfold dG at h
  split at h
  case h_2 => cases h
  rename_i e xs H' _
  cases e with
  | normal => cases h
  | exit id => exact ⟨_, _, _, h⟩
  | ret => exact ⟨_, _, _, h⟩
 | scope b ih => exact fun K T H out h => ih _ _ _ _ h
 | exit id => exact fun K T H out h => ⟨_, _, _, h⟩
 | label l => exact fun K T H out h => ⟨_, _, _, h⟩
 | ret => exact fun K T H out h => ⟨_, _, _, h⟩
 | rangeFunc f ps a b _ _ => exact fun K T H out h => by simp [fL] at h
 | goto l => exact fun K T H out h => by simp [fL] at h
 | refuse why => exact fun K T H out h => by simp [fL] at h
theorem qX (hE : EnvSound P G E) (hm : P.follows .mixedOrders = true) (n : Nat) : ∀ (code : Code), fD ann (cL E) N code = true → aCd P G E ann c0 w0 N n code := by
 intro code
 induction code with
 | skip => exact fun _ B K T H out c a w Q hB h hs hQ => wp_skip (hQ .normal _ _ _ _ _ h hs)
 | region id ops draw =>
  intro hok B K T H out c a w Q hB h hs hQ
  simp only [fD, Bool.and_eq_true] at hok
  have hdst : ∀ (i : Nat) (o : Oper) (t : Nat), ops[i]? = some o → o.dst = some t → t < N := by
   intro i o t ho ht
   have := List.all_eq_true.1 hok.1 o (List.mem_of_getElem? (i := i) (by simpa using ho))
   simpa [ht] using this
  simp only [fL, oD] at h
  cases draw with
  | false => exact uT hE hdst (fun T H c a w hk hs' => hQ .normal T H c a w hk hs') h hs
  | true => exact uS hm (by simpa using hok.2) hE hdst (fun T H c a w hk hs' => hQ .normal T H c a w hk hs') h hs
 | seq x y ihx ihy =>
  intro hok B K T H out c a w Q hB h hs hQ
  simp only [fD, Bool.and_eq_true] at hok
  refine wp_seq ?_
  simp only [fL] at h
  split at h
  ·refine ihx hok.1 B _ _ _ _ _ _ _ _ hB h hs ?_
   intro e T' H' c' a' w' hk hs'
   cases e with
   | normal => exact ihy hok.2 B _ _ _ _ _ _ _ _ hB hk hs' hQ
   | exit id => exact hQ (.exit id) _ _ _ _ _ hk hs'
   | ret => exact hQ .ret _ _ _ _ _ hk hs'
  ·rename_i ks _
   unfold dG at h
   split at h
   case h_2 => cases h
   rename_i e xs H1 h1
   refine ihx hok.1 B _ _ _ _ _ _ _ _ hB h1 hs ?_
   intro e' T' H' c' a' w' hk hs'
   simp only [Option.some.injEq, Prod.mk.injEq] at hk
   obtain ⟨rfl, rfl, rfl⟩ := hk
   cases e' with
   | normal => exact ihy hok.2 B _ _ _ _ _ _ _ _ hB h (hs'.kept ks) hQ
   | exit id => exact hQ (.exit id) _ _ _ _ _ h (hs'.kept ks)
   | ret => exact hQ .ret _ _ _ _ _ h (hs'.kept ks)
 | cond cc x y ihx ihy =>
  intro hok B K T H out c a w Q hB h hs hQ
  simp only [fD, Bool.and_eq_true] at hok
  simp only [fL] at h
  have hr : Rel c (eZ T cc) (a.eval cc) := sR (fun t _ => hs.tmps t)
  unfold aM at h
  split at h
  ·rename_i b hb
   rw [hb] at hr
   cases b with
   | true => exact wp_cond_true hr.of_bool (ihx hok.1 B _ _ _ _ _ _ _ _ hB h hs hQ)
   | false => exact wp_cond_false hr.of_bool (ihy hok.2 B _ _ _ _ _ _ _ _ hB h hs hQ)
  ·rename_i hb
   rw [hb] at hr
   obtain ⟨h1, h2⟩ := tI h
   obtain ⟨b, hb'⟩ := hr.of_anyb
   cases b with
   | true => exact wp_cond_true hb' (ihx hok.1 B _ _ _ _ _ _ _ _ hB h1 hs hQ)
   | false => exact wp_cond_false hb' (ihy hok.2 B _ _ _ _ _ _ _ _ hB h2 hs hQ)
  ·cases h
 | block id b ih =>
  intro hok B K T H out c a w Q hB h hs hQ
  simp only [fD] at hok
  simp only [fL] at h
  refine wp_block (ih hok B _ _ _ _ _ _ _ _ hB h hs ?_)
  intro e T' H' c' a' w' hk hs'
  cases e with
  | normal => exact hQ .normal _ _ _ _ _ hk hs'
  | exit i =>
   simp only [Ex.to, Exit.inBlock] at hk ⊢
   split at hk
   ·rename_i hi; rw [if_pos hi]; exact hQ .normal _ _ _ _ _ hk hs'
   ·rename_i hi; rw [if_neg hi]; exact hQ (.exit i) _ _ _ _ _ hk hs'
  | ret => exact hQ .ret _ _ _ _ _ hk hs'
 | loop b ih =>
  intro hok B K T H out c a w Q hB h hs hQ
  simp only [fD] at hok
  simp only [fL] at h
  obtain ⟨c, H, h, -, hs⟩ := vC _ h hs
  unfold dG at h
  split at h
  case h_2 => cases h
  rename_i e xs H1 h1
  replace h : K e (rH (ann.keep (gB b)) xs) H1 = some out := by
   cases e with
   | normal => cases h
   | exit i => exact h
   | ret => exact h
  have hBH : B ≤ H.length := hs.low
  refine yD (n0 := H.length) (ih hok) hE.glob (fun b hb => Nat.lt_of_lt_of_le (hB b hb) hBH) (fun c' a' w' hs' => hQ e _ _ _ _ _ h (hs'.weak (Nat.le_trans hBH hs'.low))) ?_ h1 ((hs.kept _).weak (Nat.le_refl _))
  rintro rfl
  exact iZ (vL n b) _ _ _ h1
 | scope b ih =>
  intro hok B K T H out c a w Q hB h hs hQ
  simp only [fD] at hok
  simp only [fL] at h
  refine wp_scope_straight (ih hok B _ _ _ _ _ _ _ _ hB h hs ?_)
  intro e T' H' c' a' w' hk hs'
  cases e with
  | normal => exact hQ .normal _ _ _ _ _ hk hs'
  | exit i => exact hQ (.exit i) _ _ _ _ _ hk hs'
  | ret => exact hQ .ret _ _ _ _ _ hk hs'
 | exit id => exact fun _ B K T H out c a w Q hB h hs hQ => wp_exit (hQ (.exit id) _ _ _ _ _ h hs)
 | label l => exact fun _ B K T H out c a w Q hB h hs hQ => wp_label (hQ .normal _ _ _ _ _ h hs)
 | ret => exact fun _ B K T H out c a w Q hB h hs hQ => wp_ret (hQ .ret _ _ _ _ _ h hs)
 | rangeFunc f ps a b _ _ => exact fun _ B K T H out c a w Q hB h hs hQ => by simp [fL] at h
 | goto l => exact fun _ B K T H out c a w Q hB h hs hQ => by simp [fL] at h
 | refuse why => exact fun _ B K T H out c a w Q hB h hs hQ => by simp [fL] at h
end
def nO (f : AV → Option AV) : List AV → Option (List AV)
 | [] => some []
 | x :: xs => match f x, nO f xs with
  | some y, some ys => some (y :: ys)
  | _, _ => none
def oV (f : AV → Option AV) (x : AV) : Option AV :=
 match x with
 | .agg cs => match nO f cs with
  | some zs => some (.agg zs)
  | none => none
 | x => f x
def tX (H : aB) (n0 : Nat) : Nat → AV → Option AV
 | 0, v => match bR n0 v with
  | true => some v
  | false => none
 | d + 1, v => match bR n0 v with
  | true => some v
  | false => match v with
   | .sl b L o n sz => match gH (.sl b L o n sz) H with
    | some ys => match iY sz ys with
     | true => match nO (oV (tX H n0 d)) ys with
      | some zs => some (.ro false zs)
      | none => none
     | false => none
    | none => none
   | .ptr b L i o => match H[b]? with
    | some blk => if blk.elems.length = L then (match blk.elems[i]? with
     | some y => match oV (tX H n0 d) y with
      | some z => some (.rp false z o)
      | none => none
     | none => none) else none
    | none => none
   | .agg cs => match nO (tX H n0 d) cs with
    | some zs => some (.agg zs)
    | none => none
   | .tup vs => match nO (tX H n0 d) vs with
    | some zs => some (.tup zs)
    | none => none
   | .iface t x => match tX H n0 d x with
    | some z => some (.iface t z)
    | none => none
   | _ => none
theorem jS {f : AV → Option AV} : ∀ {xs ys : List AV} (_ : nO f xs = some ys), xs.length = ys.length ∧ ∀ (i : Nat) (y : AV), ys[i]? = some y → ∃ x, xs[i]? = some x ∧ f x = some y
 | [], ys, h => by simp [nO] at h; subst h; exact ⟨rfl, fun i y h => by simp at h⟩
 | x :: xs, ys, h => by
  simp only [nO] at h
  split at h
  ·rename_i y ys' h1 h2
   simp at h; subst h
   obtain ⟨g1, g2⟩ := jS h2
   refine ⟨by simp [g1], fun i z hz => ?_⟩
   cases i with
   | zero => simp at hz; subst hz; exact ⟨x, rfl, h1⟩
   | succ i => simp at hz; obtain ⟨u, e1, e2⟩ := g2 i z hz; exact ⟨u, by simpa using e1, e2⟩
  ·cases h
noncomputable def Ctx.lock (c : Ctx) (w : World) (n0 : Nat) : Ctx :=
 open Classical in
 {m := fun b => if b < n0 then c.m b else none
  M := fun a => if ∃ b inf, n0 ≤ b ∧ c.m b = some inf ∧ inf.virt = false ∧ inf.idx = a.block then w.cell? a else c.M a
  B := fun a => if ∃ b inf, n0 ≤ b ∧ c.m b = some inf ∧ inf.virt = false ∧ inf.idx = a.block then w.cell? a else c.B a
  S := c.S }
theorem oA {G : aC} {c : Ctx} {w : World} (hg : Good G c w) (n0 : Nat) : (c.cut n0).le (c.lock w n0) := by
 have no : ∀ a v, c.B a = some v → ¬ ∃ b inf, n0 ≤ b ∧ c.m b = some inf ∧ inf.virt = false ∧ inf.idx = a.block := by
  rintro a v h ⟨b, inf, _, h1, h2, h3⟩
  rw [hg.away _ ⟨b, inf, h1, h2, h3⟩ a rfl] at h; cases h
 refine ⟨fun b i h => ⟨i, h, rfl, Nat.le_refl _, fun _ => rfl⟩, fun a v h => ?_, fun a v h => ?_, rfl⟩
 ·simp only [Ctx.lock]; rw [if_neg (no a v (hg.MB _ _ h))]; exact h
 ·simp only [Ctx.lock]; rw [if_neg (no a v h)]; exact h
theorem pE {c : Ctx} {w : World} {n0 k : Nat} (h : (c.lock w n0).own k) : ∃ b inf, b < n0 ∧ c.m b = some inf ∧ inf.virt = false ∧ inf.idx = k := by
 obtain ⟨b, i, hb, hv, hk⟩ := h
 by_cases q : b < n0
 ·simp [Ctx.lock, q] at hb; exact ⟨b, i, q, hb, hv, hk⟩
 ·simp [Ctx.lock, q] at hb
theorem yF {G : aC} {c : Ctx} {H : aB} {w : World} (hg : Good G c w) (hH : HeapAt c H w) (hG : ∀ g x, G g = some x → bE x = true) (n0 : Nat) : Good G (c.lock w n0) w := by
 have hle := oA hg n0
 have hc := hg.cut hG n0
 refine ⟨fun a v h => ?_, fun a v h => ?_, fun k hk a ha => ?_, hg.sent, fun g a h hk => ?_, hg.sentApart, fun g x h => ?_, fun k hk => ?_, hg.tab⟩
 ·simp only [Ctx.lock] at h
  split at h
  ·exact h
  ·exact hg.holds a v h
 ·simp only [Ctx.lock] at h ⊢
  split at h
  ·rename_i q; rw [if_pos q]; exact h
  ·rename_i q; rw [if_neg q]; exact hg.MB _ _ h
 ·obtain ⟨b, i, q, hb, hv, hki⟩ := pE hk
  have hno : ¬ ∃ b inf, n0 ≤ b ∧ c.m b = some inf ∧ inf.virt = false ∧ inf.idx = a.block := by
   rintro ⟨b', i', q', hb', hv', hk'⟩
   have := hH.inj b b' i i' hb hb' hv hv' (by omega)
   omega
  simp only [Ctx.lock]
  rw [if_neg hno]
  exact hg.away k ⟨b, i, hb, hv, hki⟩ a ha
 ·obtain ⟨b, i, q, hb, hv, hki⟩ := pE hk
  exact hg.sentAway g a h ⟨b, i, hb, hv, hki⟩
 ·obtain ⟨v, h1, h2⟩ := hc.glob g x h
  exact ⟨v, hle.M _ _ h1, h2.mono hle⟩
 ·obtain ⟨b, i, q, hb, hv, hki⟩ := pE hk
  exact hg.bound k ⟨b, i, hb, hv, hki⟩
theorem yG {G : aC} {c0 c : Ctx} {w0 w : World} (hg : Good G c w) (hs : Step c0 w0 c w) {n0 : Nat} (hl : ∀ b, c0.m b ≠ none → b < n0) : Step c0 w0 (c.lock w n0) w := by
 have hcut := hs.cut hl
 have hle := oA hg n0
 refine ⟨hcut.le.trans hle, hs.os, hs.tape, hs.output, hs.size, hs.kept, fun b i hb hv hlt => ?_, fun a v h => ?_, fun a v h => ?_⟩
 ·by_cases q : b < n0
  ·simp [Ctx.lock, q] at hb; exact hs.fresh b i hb hv hlt
  ·simp [Ctx.lock, q] at hb
 all_goals
  simp only [Ctx.lock] at h
  split at h
  ·rename_i q
   obtain ⟨b, i, q1, q2, q3, q4⟩ := q
   right
   rcases Nat.lt_or_ge i.idx w0.heap.size with z | z
   ·obtain ⟨i0, e1, _⟩ := hs.fresh b i q2 q3 z
    have := hl b (by rw [e1]; simp)
    omega
   ·omega
 ·exact hs.newM a v h
 ·exact hs.newB a v h
theorem mU {c cf : Ctx} {f : AV → Option AV} (hf : ∀ y z u, f y = some z → Rel c y u → Rel cf z u) {x z : AV} (hx : oV f x = some z) {V : Nat → Value}
  (hc : ∀ (j : Nat) (y : AV), x.cells[j]? = some y → Rel c y (V j) ∧ (V j).oneCell' = true) :
  z.cells.length = x.cells.length ∧ ∀ (j : Nat) (y : AV), z.cells[j]? = some y → Rel cf y (V j) ∧ (V j).oneCell' = true := by
 unfold oV at hx
 split at hx
 ·rename_i cs
  split at hx
  case h_2 => cases hx
  rename_i zs hz
  simp at hx; subst hx
  obtain ⟨g1, g2⟩ := jS hz
  refine ⟨by simp [AV.cells, g1], fun j y hy => ?_⟩
  obtain ⟨y0, e1, e2⟩ := g2 j y hy
  obtain ⟨r1, r2⟩ := hc j y0 e1
  exact ⟨hf _ _ _ e2 r1, r2⟩
 ·rename_i hna
  have h1 : x.cells = [x] := by cases x <;> first | rfl | exact absurd rfl (hna _)
  obtain ⟨r1, r2⟩ := hc 0 x (by rw [h1]; rfl)
  have rz := hf _ _ _ hx r1
  have h2 := fO rz r2
  refine ⟨by rw [h1, h2]; rfl, fun j y hy => ?_⟩
  rw [h2] at hy
  cases j with
  | zero => simp at hy; subst hy; exact ⟨rz, r2⟩
  | succ j => simp at hy
theorem yB {G : aC} {c : Ctx} {H : aB} {w : World} (hg : Good G c w) (hH : HeapAt c H w) (n0 : Nat) : ∀ (d : Nat) (x z : AV) (u : Value), tX H n0 d x = some z → Rel c x u → Rel (c.lock w n0) z u := by
 have low : ∀ x u, bR n0 x = true → Rel c x u → Rel (c.lock w n0) x u := fun x u hb hr => (hr.cut hb).mono (oA hg n0)
 have cell : ∀ (b : Nat) (inf : Info) (a : Addr), n0 ≤ b → c.m b = some inf → inf.virt = false → inf.idx = a.block → (c.lock w n0).M a = w.cell? a := fun b inf a h1 h2 h3 h4 => by
  simp only [Ctx.lock]; rw [if_pos ⟨b, inf, h1, h2, h3, h4⟩]
 intro d
 induction d with
 | zero =>
  intro x z u h hr
  simp only [tX] at h
  split at h
  ·rename_i hb; simp at h; subst h; exact low _ _ hb hr
  ·cases h
 | succ d ih =>
  intro x z u h hr
  simp only [tX] at h
  split at h
  ·rename_i hb; simp at h; subst h; exact low _ _ hb hr
  rename_i hb
  split at h
  ·
   rename_i b L o n sz
   simp [bR] at hb
   split at h
   case h_2 => cases h
   rename_i ys hys
   split at h
   case h_2 => cases h
   rename_i hall
   split at h
   case h_2 => cases h
   rename_i zs hzs
   simp at h; subst h
   obtain ⟨g1, g2⟩ := jS hzs
   have hys' := hys
   simp only [gH] at hys'
   split at hys'
   case h_2 => cases hys'
   rename_i blk hblk
   split at hys'
   case isFalse => cases hys'
   rename_i hL
   simp at hys'
   cases hr with
   | slStale a cap' hm hl hnc ha => have := hH.valid hblk hm; omega
   | slVirt hm hl hv hs1 =>
    have hy0 : ys = [] := by rw [← hys']; simp
    subst hy0
    have : zs = [] := List.eq_nil_of_length_eq_zero (by rw [← g1]; rfl)
    subst this; exact .roNil ..
   | sl hm hl hv hs1 ho hcap hnc ha =>
    rename_i inf a cap'
    have hB := hH.blk _ _ _ hblk hm
    have hylen : ys.length = n := by rw [← hys']; simp; omega
    by_cases hn0 : n = 0
    ·subst hn0
     have : zs = [] := List.eq_nil_of_length_eq_zero (by rw [← g1]; exact hylen)
     subst this; exact .roNil ..
    ·have ha' : a = ⟨inf.idx, o * sz, none⟩ := by
      rcases ha with h1 | ⟨h1, _⟩
      ·exact h1
      ·omega
     subst ha'
     have yget : ∀ (i : Nat) (y : AV), ys[i]? = some y → blk.elems[o + i]? = some y := by
      intro i y hy
      rw [← hys', List.getElem?_take] at hy
      split at hy
      ·rwa [List.getElem?_drop] at hy
      ·cases hy
     have hbs : inf.sz = sz := hs1
     have V : ∀ (i : Nat) (y : AV), ys[i]? = some y → ∀ (j : Nat) (q : AV), y.cells[j]? = some q → Rel c q ((w.cell? ⟨inf.idx, o * sz + i * sz + j, none⟩).getD default) ∧ ((w.cell? ⟨inf.idx, o * sz + i * sz + j, none⟩).getD default).oneCell' = true ∧
       w.cell? ⟨inf.idx, o * sz + i * sz + j, none⟩ = some ((w.cell? ⟨inf.idx, o * sz + i * sz + j, none⟩).getD default) := by
      intro i y hy j q hq
      obtain ⟨v, e1, e2, e3⟩ := hB.at hv (yget i y hy) j q hq
      rw [hbs, Nat.add_mul] at e1
      rw [e1]; exact ⟨e2, e3, rfl⟩
     have hyy : ∀ y ∈ ys, y.cells.length = sz := fun y hy => by have := List.all_eq_true.1 hall y hy; simpa using this
     have el : ∀ (i : Nat) (z : AV), zs[i]? = some z → z.cells.length = sz ∧ ∀ (j : Nat) (q : AV), z.cells[j]? = some q → Rel (c.lock w n0) q ((w.cell? ⟨inf.idx, o * sz + i * sz + j, none⟩).getD default) ∧ ((w.cell? ⟨inf.idx, o * sz + i * sz + j, none⟩).getD default).oneCell' = true ∧ ∃ y, ys[i]? = some y ∧ j < y.cells.length := by
      intro i z hz
      obtain ⟨y, e1, e2⟩ := g2 i z hz
      obtain ⟨l1, l2⟩ := mU (cf := c.lock w n0) (fun y z u h hr => ih y z u h hr) e2 (V := fun j => (w.cell? ⟨inf.idx, o * sz + i * sz + j, none⟩).getD default) (fun j q hq => ⟨(V i y e1 j q hq).1, (V i y e1 j q hq).2.1⟩)
      refine ⟨by rw [l1]; exact hyy y (List.mem_of_getElem? e1), fun j q hq => ⟨(l2 j q hq).1, (l2 j q hq).2, y, e1, ?_⟩⟩
      rw [← l1]; exact (List.getElem?_eq_some_iff.1 hq).1
     refine .ro (A := ⟨inf.idx, o * sz, none⟩) (V := fun i j => (w.cell? ⟨inf.idx, o * sz + i * sz + j, none⟩).getD default) (sz := sz) (by rw [← g1]; exact hylen) hnc (.inr rfl) rfl (fun i z hz => (el i z hz).1) (fun i z j q hz hq => ((el i z hz).2 j q hq).1) (fun i z j q hz hq => ?_)
     obtain ⟨r1, r2, y, r3, r4⟩ := (el i z hz).2 j q hq
     obtain ⟨_, _, v3⟩ := V i y r3 j _ (List.getElem?_eq_getElem r4)
     refine ⟨?_, r2⟩
     show (c.lock w n0).M _ = _
     rw [cell b inf ⟨inf.idx, o * sz + i * sz + j, none⟩ hb hm hv rfl]
     exact v3
  ·
   rename_i b L i o
   simp [bR] at hb
   split at h
   case h_2 => cases h
   rename_i blk hblk
   split at h
   case isFalse => cases h
   rename_i hL
   split at h
   case h_2 => cases h
   rename_i y hy
   split at h
   case h_2 => cases h
   rename_i z' hz
   simp at h; subst h
   cases hr with
   | ptrStale a hm hl => have := hH.valid hblk hm; omega
   | ptr hm hl hv =>
    rename_i inf
    have hB := (hH.blk _ _ _ hblk hm).at hv hy
    have V : ∀ (j : Nat) (q : AV), y.cells[j]? = some q → Rel c q ((w.cell? ⟨inf.idx, i * inf.sz + j, none⟩).getD default) ∧ ((w.cell? ⟨inf.idx, i * inf.sz + j, none⟩).getD default).oneCell' = true ∧
      w.cell? ⟨inf.idx, i * inf.sz + j, none⟩ = some ((w.cell? ⟨inf.idx, i * inf.sz + j, none⟩).getD default) := by
     intro j q hq
     obtain ⟨v, e1, e2, e3⟩ := hB j q hq
     rw [e1]; exact ⟨e2, e3, rfl⟩
    obtain ⟨l1, l2⟩ := mU (cf := c.lock w n0) (fun y z u h hr => ih y z u h hr) hz (V := fun j => (w.cell? ⟨inf.idx, i * inf.sz + j, none⟩).getD default) (fun j q hq => ⟨(V j q hq).1, (V j q hq).2.1⟩)
    refine .rp (A := ⟨inf.idx, i * inf.sz, none⟩) (V := fun j => (w.cell? ⟨inf.idx, i * inf.sz + j, none⟩).getD default) (fun j q hq => (l2 j q hq).1) (fun j q hq => ⟨?_, (l2 j q hq).2⟩)
    have hj : j < y.cells.length := by rw [← l1]; exact (List.getElem?_eq_some_iff.1 hq).1
    show (c.lock w n0).M _ = _
    rw [cell b inf ⟨inf.idx, i * inf.sz + j, none⟩ hb hm hv rfl]
    exact (V j _ (List.getElem?_eq_getElem hj)).2.2
  ·
   split at h
   case h_2 => cases h
   rename_i zs hzs
   simp at h; subst h
   obtain ⟨g1, g2⟩ := jS hzs
   obtain ⟨vs, rfl, hrl, h1⟩ := hr.of_agg
   refine .agg (by rw [← g1]; exact hrl.1) (fun i q v hq hv => ?_) h1
   obtain ⟨y, e1, e2⟩ := g2 i q hq
   exact ih _ _ _ e2 (hrl.2 i y v e1 hv)
  ·split at h
   case h_2 => cases h
   rename_i zs hzs
   simp at h; subst h
   obtain ⟨g1, g2⟩ := jS hzs
   obtain ⟨vs, rfl, hrl⟩ := hr.of_tup
   refine .tup (by rw [← g1]; exact hrl.1) (fun i q v hq hv => ?_)
   obtain ⟨y, e1, e2⟩ := g2 i q hq
   exact ih _ _ _ e2 (hrl.2 i y v e1 hv)
  ·split at h
   case h_2 => cases h
   rename_i z' hz
   simp at h; subst h
   obtain ⟨v, rfl, hv⟩ := hr.of_iface
   exact .iface (ih _ _ _ hz hv)
  ·cases h
def aBL (P : Program) (G : aC) (T : TS) (H : aB) : ResultVar → Option AV
 | .tmp t => some (T t)
 | .cell a t => jO P G t (T a) H
def yI (P : Program) (G : aC) (T : TS) (H : aB) : List ResultVar → Option (List AV)
 | [] => some []
 | r :: l => match aBL P G T H r, yI P G T H l with
  | some x, some xs => some (x :: xs)
  | _, _ => none
def mB (xs : List AV) : AV :=
 match xs with
 | [x] => x
 | xs => .tup xs
def bS (xs : List AV) (n0 : Nat) (H : aB) : Option cM :=
 match tX H n0 6 (mB xs), iR n0 [] H with
 | some r, some H' => some (.ret, [r], H')
 | _, _ => none
def bW : List (Option AV) → Option (List AV)
 | [] => some []
 | r :: l => match r, bW l with
  | some x, some xs => some (x :: xs)
  | _, _ => none
def iE (l : List (Option AV)) (n0 : Nat) (H : aB) : Option cM :=
 match bW l with
 | some xs => bS xs n0 H
 | none => none
def aAI (P : Program) (G : aC) (rs : List ResultVar) (n0 : Nat) (T : TS) (H : aB) : Option cM :=
 match yI P G T H rs with
 | some xs => bS xs n0 H
 | none => none
def aCf (P : Program) (G : aC) (rs : List ResultVar) (n0 : Nat) : oG
 | .normal, T, H => aAI P G rs n0 T H
 | .ret, T, H => aAI P G rs n0 T H
 | .exit _, _, _ => none
def aAJ (xs : List AV) (H : aB) : Option cM := some (.ret, [mB xs], H)
def wM (P : Program) (G : aC) (rs : List ResultVar) (T : TS) (H : aB) : Option cM :=
 match yI P G T H rs with
 | some xs => aAJ xs H
 | none => none
def aAZ (P : Program) (G : aC) (rs : List ResultVar) : oG
 | .normal, T, H => wM P G rs T H
 | .ret, T, H => wM P G rs T H
 | .exit _, _, _ => none
def qS (args : List AV) : TS := fun t => match args[t]? with | some x => x | none => .tup []
def dF (m : Option cM) : Option (AV × aB) :=
 match m with
 | some (_, [r], H') => some (r, H')
 | _ => none
def dM (P : Program) (G : aC) (E : jD) (ann : Ann) (rs : List ResultVar) (code : Code) (N n : Nat) (args : List AV) (H : aB) : Option (AV × aB) :=
 match decide (args.length ≤ N) with
 | true => dF (fL P G E ann n code (aCf P G rs H.length) (qS args) H)
 | false => none
def rS (P : Program) (G : aC) (E : jD) (ann : Ann) (rs : List ResultVar) (code : Code) (N n : Nat) (args : List AV) (H : aB) : Option (AV × aB) :=
 match decide (args.length ≤ N) with
 | true => dF (fL P G E ann n code (aAZ P G rs) (qS args) H)
 | false => none
def aAW (tmps : Array Value) : ResultVar → Sem Value
 | .tmp t => pure (tmps.getD t undef)
 | .cell x t => do loadVar t (← asAddr (tmps.getD x undef))
theorem pV (fn : Func) (tmps : Array Value) : results fn tmps = (do let vs ← fn.results.mapM (aAW tmps); pure (if h : vs.size = 1 then vs[0] else .tuple vs)) := by
 unfold results
 congr 1
theorem jV {P : Program} {G : aC} {T : TS} {H : aB} {c : Ctx} {a : Act} {w : World} (hg : Good G c w) (hH : HeapAt c H w) (hT : ∀ t, Rel c (T t) (a.tmps.getD t undef)) :
  ∀ (l : List ResultVar) (xs : List AV), yI P G T H l = some xs →
   ∃ vs : List Value, (l.mapM (aAW a.tmps)).run P w = .ok vs w ∧ fC c xs vs
 | [], xs, h => by simp [yI] at h; subst h; exact ⟨[], by simp, .nil⟩
 | r :: l, xs, h => by
  simp only [yI] at h
  split at h
  case h_2 => cases h
  rename_i x xs' h1 h2
  simp at h; subst h
  obtain ⟨vs, e1, e2⟩ := jV hg hH hT l xs' h2
  have hr : ∃ v, (aAW a.tmps r).run P w = .ok v w ∧ Rel c x v := by
   cases r with
   | tmp t =>
    simp [aBL] at h1; subst h1
    exact ⟨_, rfl, hT t⟩
   | cell y t =>
    simp only [aBL] at h1
    obtain ⟨v, g1, g2⟩ := jP h1 hg hH (hT y)
    refine ⟨v, ?_, g2⟩
    simp only [aAW]
    generalize a.tmps.getD y undef = q at g1 ⊢
    cases q <;> simp [Instr.loadAt, Instr.sureAddr] at g1
    case pointer p =>
     cases p with
     | none => simp at g1
     | some p => simpa [asAddr] using g1
  obtain ⟨v, g1, g2⟩ := hr
  refine ⟨v :: vs, ?_, .cons g2 e2⟩
  simp only [List.mapM_cons, Sem.run_bind, g1, Result.andThen_ok, e1, Sem.run_pure]
theorem tF {P : Program} {G : aC} {E : jD} {ann : Ann} {f : Nat} {fn : Func} {code : Code} {rs : List ResultVar} {N n : Nat} (hE : EnvSound P G E) (hm : P.follows .mixedOrders = true)
  (hf : P.funcs[f]? = some fn) (hb : fn.body = some code) (hname : (fn.name == "runtime.NumGoroutine") = false) (hrs : fn.results.toList = rs) (hN : fn.ntmps = N) (hok : fD ann (cL E) N code = true) :
  Sound P G f (dM P G E ann rs code N n) := by
 refine ⟨⟨fn, hf, by simp [hb], hname⟩, fun args H r H' h c w vs hg hH hd ha => ?_⟩
 unfold dM at h
 split at h
 case h_2 => cases h
 rename_i hlen
 have hlen' : args.length ≤ N := of_decide_eq_true hlen
 unfold dF at h
 split at h
 case h_2 => cases h
 rename_i e r' H1 hex
 simp only [Option.some.injEq, Prod.mk.injEq] at h
 obtain ⟨rfl, rfl⟩ := h
 refine calls_of_wp hf hb ?_
 have hvl := ha.1
 have hst : St G c w N H.length (qS args) H c { tmps := vs.toArray ++ Array.replicate (fn.ntmps - vs.toArray.size) undef, defers := [] } w := by
  refine ⟨hg, hH, hd, .refl c w, fun t => ?_, by simp; omega, rfl, Nat.le_refl _⟩
  unfold qS
  split
  ·rename_i x hx
   obtain ⟨v, h1, h2⟩ := ha.get hx
   have ht : t < vs.length := (List.getElem?_eq_some_iff.1 h1).1
   have : (vs.toArray ++ Array.replicate (fn.ntmps - vs.toArray.size) undef).getD t undef = v := by
    rw [Array.getD_eq_getD_getElem?, Array.getElem?_append_left (by simpa using ht)]
    simp [h1]
   rw [this]; exact h2
  ·rename_i hx
   have ht : vs.length ≤ t := by rw [← hvl]; exact List.getElem?_eq_none_iff.1 hx
   have : (vs.toArray ++ Array.replicate (fn.ntmps - vs.toArray.size) undef).getD t undef = undef := by
    rw [Array.getD_eq_getD_getElem?, Array.getElem?_append_right (by simpa using ht)]
    rw [Array.getElem?_replicate]
    split <;> rfl
   rw [this]; exact fP c
 refine qX hE hm n code hok H.length _ _ _ _ _ _ _ _ hd hex hst ?_
 intro e' T' H2 c' a' w' hk hs
 have fin : aAI P G rs H.length T' H2 = some (e, [r'], H1) → a'.defers = [] ∧ ∃ v, (results fn a'.tmps).run P w' = .ok v w' ∧ ∃ v' c'', Ending.returned v = .returned v' ∧ Ret G c w r' H1 v' w' c'' := by
  intro hfin
  refine ⟨hs.defers, ?_⟩
  unfold aAI at hfin
  split at hfin
  case h_2 => cases hfin
  rename_i xs hxs
  unfold bS at hfin
  split at hfin
  case h_2 => cases hfin
  rename_i r1 H3 hfr hcut
  simp only [Option.some.injEq, Prod.mk.injEq, List.cons.injEq, and_true] at hfin
  obtain ⟨_, rfl, rfl⟩ := hfin
  obtain ⟨us, g1, g2⟩ := jV hs.good hs.heap hs.tmps rs xs hxs
  have hrun : (results fn a'.tmps).run P w' = .ok (if h : us.toArray.size = 1 then us.toArray[0] else .tuple us.toArray) w' := by
   rw [pV, Array.mapM_eq_mapM_toList, hrs]
   simp only [Sem.run_bind, Sem.run_map, g1, Result.andThen_ok, Sem.run_pure]
  have hpack : Rel c' (mB xs) (if h : us.toArray.size = 1 then us.toArray[0] else .tuple us.toArray) := by
   have hl := g2.1
   unfold mB
   split
   ·rename_i x
    simp only [List.length_cons, List.length_nil] at hl
    obtain ⟨u, rfl⟩ := List.length_eq_one_iff.1 hl.symm
    simpa using g2.head
   ·rename_i hx
    have hne : ¬ (us.toArray.size = 1) := by
     intro q
     simp only [List.size_toArray] at q
     rw [← hl] at q
     obtain ⟨x, rfl⟩ := List.length_eq_one_iff.1 q
     exact hx x rfl
    rw [dif_neg hne]
    exact .tup g2.1 g2.2
  refine ⟨_, hrun, _, c'.lock w' H.length, rfl, yG hs.good hs.step hd, yF hs.good hs.heap hE.glob H.length, ?_, ?_, yB hs.good hs.heap H.length 6 _ _ _ hfr hpack⟩
  ·unfold iR at hcut
   split at hcut
   case h_2 => cases hcut
   rename_i hb
   simp only [Bool.and_eq_true] at hb
   simp at hcut; subst hcut
   have hle := oA hs.good H.length
   exact (hs.heap.cut hb.2).keep hle (fun _ _ h => h) (fun _ _ => rfl)
  ·intro b hb
   have hl : H3.length = H.length := by
    unfold iR at hcut
    split at hcut
    ·simp at hcut; rw [← hcut]; simp [hs.low]
    ·cases hcut
   by_cases q : b < H.length
   ·omega
   ·simp [Ctx.lock, q] at hb
 cases e' with
 | normal => exact fin hk
 | ret => exact fin hk
 | exit id => simp [aCf] at hk
theorem rT {P : Program} {G : aC} {E : jD} {ann : Ann} {f : Nat} {fn : Func} {code : Code} {rs : List ResultVar} {N n : Nat} (hE : EnvSound P G E) (hm : P.follows .mixedOrders = true)
  (hf : P.funcs[f]? = some fn) (hb : fn.body = some code) (hname : (fn.name == "runtime.NumGoroutine") = false) (hrs : fn.results.toList = rs) (hN : fn.ntmps = N) (hok : fD ann (cL E) N code = true) :
  Sound P G f (rS P G E ann rs code N n) := by
 refine ⟨⟨fn, hf, by simp [hb], hname⟩, fun args H r H' h c w vs hg hH hd ha => ?_⟩
 unfold rS at h
 split at h
 case h_2 => cases h
 rename_i hlen
 have hlen' : args.length ≤ N := of_decide_eq_true hlen
 unfold dF at h
 split at h
 case h_2 => cases h
 rename_i e r' H1 hex
 simp only [Option.some.injEq, Prod.mk.injEq] at h
 obtain ⟨rfl, rfl⟩ := h
 refine calls_of_wp hf hb ?_
 have hvl := ha.1
 have hst : St G c w N H.length (qS args) H c { tmps := vs.toArray ++ Array.replicate (fn.ntmps - vs.toArray.size) undef, defers := [] } w := by
  refine ⟨hg, hH, hd, .refl c w, fun t => ?_, by simp; omega, rfl, Nat.le_refl _⟩
  unfold qS
  split
  ·rename_i x hx
   obtain ⟨v, h1, h2⟩ := ha.get hx
   have ht : t < vs.length := (List.getElem?_eq_some_iff.1 h1).1
   have : (vs.toArray ++ Array.replicate (fn.ntmps - vs.toArray.size) undef).getD t undef = v := by
    rw [Array.getD_eq_getD_getElem?, Array.getElem?_append_left (by simpa using ht)]
    simp [h1]
   rw [this]; exact h2
  ·rename_i hx
   have ht : vs.length ≤ t := by rw [← hvl]; exact List.getElem?_eq_none_iff.1 hx
   have : (vs.toArray ++ Array.replicate (fn.ntmps - vs.toArray.size) undef).getD t undef = undef := by
    rw [Array.getD_eq_getD_getElem?, Array.getElem?_append_right (by simpa using ht)]
    rw [Array.getElem?_replicate]
    split <;> rfl
   rw [this]; exact fP c
 refine qX hE hm n code hok H.length _ _ _ _ _ _ _ _ hd hex hst ?_
 intro e' T' H2 c' a' w' hk hs
 have fin : wM P G rs T' H2 = some (e, [r'], H1) → a'.defers = [] ∧ ∃ v, (results fn a'.tmps).run P w' = .ok v w' ∧ ∃ v' c'', Ending.returned v = .returned v' ∧ Ret G c w r' H1 v' w' c'' := by
  intro hfin
  refine ⟨hs.defers, ?_⟩
  unfold wM at hfin
  split at hfin
  case h_2 => cases hfin
  rename_i xs hxs
  unfold aAJ at hfin
  simp only [Option.some.injEq, Prod.mk.injEq, List.cons.injEq, and_true] at hfin
  obtain ⟨_, rfl, rfl⟩ := hfin
  obtain ⟨us, g1, g2⟩ := jV hs.good hs.heap hs.tmps rs xs hxs
  have hrun : (results fn a'.tmps).run P w' = .ok (if h : us.toArray.size = 1 then us.toArray[0] else .tuple us.toArray) w' := by
   rw [pV, Array.mapM_eq_mapM_toList, hrs]
   simp only [Sem.run_bind, Sem.run_map, g1, Result.andThen_ok, Sem.run_pure]
  have hpack : Rel c' (mB xs) (if h : us.toArray.size = 1 then us.toArray[0] else .tuple us.toArray) := by
   have hl := g2.1
   unfold mB
   split
   ·rename_i x
    simp only [List.length_cons, List.length_nil] at hl
    obtain ⟨u, rfl⟩ := List.length_eq_one_iff.1 hl.symm
    simpa using g2.head
   ·rename_i hx
    have hne : ¬ (us.toArray.size = 1) := by
     intro q
     simp only [List.size_toArray] at q
     rw [← hl] at q
     obtain ⟨x, rfl⟩ := List.length_eq_one_iff.1 q
     exact hx x rfl
    rw [dif_neg hne]
    exact .tup g2.1 g2.2
  exact ⟨_, hrun, _, c', rfl, hs.step, hs.good, hs.heap, hs.dom, hpack⟩
 cases e' with
 | normal => exact fin hk
 | ret => exact fin hk
 | exit id => simp [aAZ] at hk
def eA : List (Nat × Bool × bV) → jD
 | [], _ => none
 | (f, p, g) :: l, n => if n = f then some (p, g) else eA l n
theorem tQ : ∀ {l : List (Nat × Bool × bV)} {n : Nat} {p : Bool} {g : bV}, eA l n = some (p, g) → ∃ e ∈ l, e.1 = n ∧ e.2.1 = p ∧ e.2.2 = g
 | [], n, p, g, h => by simp [eA] at h
 | (f, q, k) :: l, n, p, g, h => by
  simp only [eA] at h
  split at h
  ·rename_i e
   simp only [Option.some.injEq, Prod.mk.injEq] at h
   exact ⟨(f, q, k), by simp, e.symm, h.1, h.2⟩
  ·obtain ⟨e, h1, h2⟩ := tQ h
   exact ⟨e, by simp [h1], h2⟩
theorem bC {P : Program} {G : aC} {l : List (Nat × Bool × bV)} (hG : ∀ g x, G g = some x → bE x = true) (h : ∀ e ∈ l, Sound P G e.1 e.2.2) : EnvSound P G (eA l) :=
 ⟨fun f p g hf => by
  obtain ⟨e, h1, h2, _, h4⟩ := tQ hf
  subst h2 h4
  exact h e h1, hG⟩
def cN (fn : Func) : Code := match fn.body with | some c => c | none => .skip
def inL (l : List Nat) (n : Nat) : Bool := match l with | [] => false | x :: l => if n = x then true else inL l n
def aBy (l : List (Nat × List Nat)) (n : Nat) : List Nat := match l with | [] => [] | (x, ks) :: l => if n = x then ks else aBy l n
def aBx (l : List (Nat × List Nat)) (n : Nat) : Option (List Nat) := match l with | [] => none | (x, ks) :: l => if n = x then some ks else aBx l n
def aCm (l : List (Nat × List (Nat × Nat × Nat × Nat))) (n : Nat) : List (Nat × Nat × Nat × Nat) := match l with | [] => [] | (x, ks) :: l => if n = x then ks else aCm l n
def dP (own nilS : List Nat) (keep join : List (Nat × List Nat)) : Ann := { own := inL own, nil := inL nilS, keep := aBy keep, join := aBx join, virt := fun _ => [], pt := fun _ => false }
def aBF (own nilS : List Nat) (keep join : List (Nat × List Nat)) (virt : List (Nat × List (Nat × Nat × Nat × Nat))) (pt : List Nat) : Ann := { own := inL own, nil := inL nilS, keep := aBy keep, join := aBx join, virt := aCm virt, pt := inL pt }
theorem bL {P : Program} {G : aC} {f : Nat} (h : ∃ fn, P.funcs[f]? = some fn ∧ fn.body.isSome = true ∧ (fn.name == "runtime.NumGoroutine") = false) {g : bV} (hg : ∀ args H, g args H = none) : Sound P G f g :=
 ⟨h, fun args H r H' hr => by rw [hg] at hr; cases hr⟩
theorem bO {P : Program} {G : aC} {l : List (Nat × Bool × bV)} {ann : Ann} {f : Nat} {fn : Func} {N n : Nat} (hE : EnvSound P G (eA l)) (hm : P.follows .mixedOrders = true)
  (hf : P.funcs[f]? = some fn) (hb : fn.body.isSome = true) (hname : (fn.name == "runtime.NumGoroutine") = false) (hN : fn.ntmps = N) (hok : fD ann (cL (eA l)) N (cN fn) = true) {g : bV}
  (hg : ∀ args H x, g args H = some x → dM P G (eA l) ann fn.results.toList (cN fn) N n args H = some x) : Sound P G f g := by
 obtain ⟨c, hc⟩ := Option.isSome_iff_exists.1 hb
 have : cN fn = c := by simp [cN, hc]
 exact (tF hE hm hf (by rw [hc, this]) hname rfl hN hok).mono hg
theorem uZ {P : Program} {G : aC} {l : List (Nat × Bool × bV)} {ann : Ann} {f : Nat} {fn : Func} {N n : Nat} (hE : EnvSound P G (eA l)) (hm : P.follows .mixedOrders = true)
  (hf : P.funcs[f]? = some fn) (hb : fn.body.isSome = true) (hname : (fn.name == "runtime.NumGoroutine") = false) (hN : fn.ntmps = N) (hok : fD ann (cL (eA l)) N (cN fn) = true) {g : bV}
  (hg : ∀ args H x, g args H = some x → rS P G (eA l) ann fn.results.toList (cN fn) N n args H = some x) : Sound P G f g := by
 obtain ⟨c, hc⟩ := Option.isSome_iff_exists.1 hb
 have : cN fn = c := by simp [cN, hc]
 exact (rT hE hm hf (by rw [hc, this]) hname rfl hN hok).mono hg
theorem cZ {P : Program} {G : aC} : ∀ e ∈ ([] : List (Nat × Bool × bV)), Sound P G e.1 e.2.2 := fun e he => by cases he
theorem bU {P : Program} {G : aC} {f : Nat} {p : Bool} {g : bV} {l : List (Nat × Bool × bV)} (h : Sound P G f g) (hl : ∀ e ∈ l, Sound P G e.1 e.2.2) : ∀ e ∈ (f, p, g) :: l, Sound P G e.1 e.2.2 := fun e he => by
 rcases List.mem_cons.1 he with rfl | he
 ·exact h
 ·exact hl e he
def eD (m : Option aB) : Option (AV × aB) :=
 match m with
 | some H' => some (.tup [], H')
 | none => none
def aBp (args : List AV) (k : Option (AV × aB)) : Option (AV × aB) :=
 match args with
 | [] => k
 | _ => none
theorem aAv {B : aB → Option (AV × aB)} {a : bV} (h : ∀ H, a [] H = B  H) : ∀ args H x, aBp args (B  H) = some x → a args H = some x := by
 intro args H x hx
 unfold aBp at hx
 split at hx
 ·rw [h]; exact hx
 ·cases hx
def kM (args : List AV) (k : AV → Option (AV × aB)) : Option (AV × aB) :=
 match args with
 | [x0] => k x0
 | _ => none
theorem fK {B : AV → aB → Option (AV × aB)} {a : bV} (h : ∀ x0 H, a [x0] H = B x0 H) : ∀ args H x, kM args (fun x0 => B x0 H) = some x → a args H = some x := by
 intro args H x hx
 unfold kM at hx
 split at hx
 ·rw [h]; exact hx
 ·cases hx
def kG (args : List AV) (k : AV → AV → Option (AV × aB)) : Option (AV × aB) :=
 match args with
 | [x0, x1] => k x0 x1
 | _ => none
theorem fG {B : AV → AV → aB → Option (AV × aB)} {a : bV} (h : ∀ x0 x1 H, a [x0, x1] H = B x0 x1 H) : ∀ args H x, kG args (fun x0 x1 => B x0 x1 H) = some x → a args H = some x := by
 intro args H x hx
 unfold kG at hx
 split at hx
 ·rw [h]; exact hx
 ·cases hx
def xR (args : List AV) (k : AV → AV → AV → Option (AV × aB)) : Option (AV × aB) :=
 match args with
 | [x0, x1, x2] => k x0 x1 x2
 | _ => none
theorem nS {B : AV → AV → AV → aB → Option (AV × aB)} {a : bV} (h : ∀ x0 x1 x2 H, a [x0, x1, x2] H = B x0 x1 x2 H) : ∀ args H x, xR args (fun x0 x1 x2 => B x0 x1 x2 H) = some x → a args H = some x := by
 intro args H x hx
 unfold xR at hx
 split at hx
 ·rw [h]; exact hx
 ·cases hx
def xS (args : List AV) (k : AV → AV → AV → AV → Option (AV × aB)) : Option (AV × aB) :=
 match args with
 | [x0, x1, x2, x3] => k x0 x1 x2 x3
 | _ => none
theorem nT {B : AV → AV → AV → AV → aB → Option (AV × aB)} {a : bV} (h : ∀ x0 x1 x2 x3 H, a [x0, x1, x2, x3] H = B x0 x1 x2 x3 H) : ∀ args H x, xS args (fun x0 x1 x2 x3 => B x0 x1 x2 x3 H) = some x → a args H = some x := by
 intro args H x hx
 unfold xS at hx
 split at hx
 ·rw [h]; exact hx
 ·cases hx
def aBq (args : List AV) (k : AV → AV → AV → AV → AV → Option (AV × aB)) : Option (AV × aB) :=
 match args with
 | [x0, x1, x2, x3, x4] => k x0 x1 x2 x3 x4
 | _ => none
theorem aAw {B : AV → AV → AV → AV → AV → aB → Option (AV × aB)} {a : bV} (h : ∀ x0 x1 x2 x3 x4 H, a [x0, x1, x2, x3, x4] H = B x0 x1 x2 x3 x4 H) : ∀ args H x, aBq args (fun x0 x1 x2 x3 x4 => B x0 x1 x2 x3 x4 H) = some x → a args H = some x := by
 intro args H x hx
 unfold aBq at hx
 split at hx
 ·rw [h]; exact hx
 ·cases hx
open Go Go.ChangeShapes Go.WideShapes Go.RowKit
mutual
inductive IsT (P : Program) : TypeId → AV → Prop
 | bool {t : TypeId} (h : P.underlying t = some .bool) (b : Bool) : IsT P t (.bool b)
 | int {t : TypeId} {k : IntKind} (h : P.underlying t = some (.int k)) (n : Int) (hw : (Lit.int k n).wf = true) : IsT P t (.int k n)
 | str {t : TypeId} (h : P.underlying t = some .string) (s : ByteArray) (hs : s.size ≤ maxLen) : IsT P t (.str s)
 | sl {t e : TypeId} {xs : List AV} (h : P.underlying t = some (.slice e)) (hx : ∀ x ∈ xs, IsT P e x) (hl : xs.length ≤ maxLen) : IsT P t (.ro false xs)
 | st {t : TypeId} {fs : Array Field} {cs : List AV} (h : P.underlying t = some (.struct fs)) (hf : IsFs P fs.toList cs) : IsT P t (.agg cs)
 | ar {t : TypeId} {n : Nat} {e : TypeId} {cs : List AV} (h : P.underlying t = some (.array n e)) (hf : IsAr P e n cs) : IsT P t (.agg cs)
inductive IsFs (P : Program) : List Field → List AV → Prop
 | nil : IsFs P [] []
 | cons {f : Field} {fs : List Field} {x : AV} {cs : List AV} (hx : IsT P f.type x) (h : IsFs P fs cs) : IsFs P (f :: fs) (x.cells ++ cs)
inductive IsAr (P : Program) : TypeId → Nat → List AV → Prop
 | nil (e : TypeId) : IsAr P e 0 []
 | cons {e : TypeId} {n : Nat} {x : AV} {cs : List AV} (hx : IsT P e x) (h : IsAr P e n cs) : IsAr P e (n + 1) (x.cells ++ cs)
end
def aAr (P : Program) : List Field → Nat → Nat → Bool
 | [], o, s => o == s
 | f :: fs, o, s => f.offset == o && aAr P fs (o + P.cellsOf f.type) s
def pQ (P : Program) (T : List Nat) (t : Nat) : Bool :=
 match P.underlying t with
 | some .bool => true
 | some (.int _) => true
 | some .string => true
 | some (.slice e) => T.contains e && decide (0 < P.cellsOf e)
 | some (.struct fs) => aAr P fs.toList 0 (P.cellsOf t) && fs.toList.all fun f => T.contains f.type
 | some (.array n e) => T.contains e && decide (n * P.cellsOf e = P.cellsOf t)
 | _ => false
def Ctx.top (S : Nat → Option Addr) (w : World) : Ctx := { m := fun _ => none, M := fun a => w.cell? a, B := fun a => w.cell? a, S := S }
def CR (c : Ctx) (ys : List AV) (cs : List Value) : Prop := ys.length = cs.length ∧ ∀ (j : Nat) (y : AV) (v : Value), ys[j]? = some y → cs[j]? = some v → Rel c y v ∧ v.oneCell' = true
theorem CR.nil (c : Ctx) : CR c [] [] := ⟨rfl, fun j y v h => by simp at h⟩
theorem CR.append {c : Ctx} {ys zs : List AV} {cs ds : List Value} (h : CR c ys cs) (k : CR c zs ds) : CR c (ys ++ zs) (cs ++ ds) := by
 refine ⟨by simp [h.1, k.1], fun j y v hy hv => ?_⟩
 by_cases q : j < ys.length
 ·rw [List.getElem?_append_left q] at hy
  rw [List.getElem?_append_left (by rw [← h.1]; exact q)] at hv
  exact h.2 j y v hy hv
 ·rw [List.getElem?_append_right (by omega)] at hy
  rw [List.getElem?_append_right (by rw [← h.1]; omega), ← h.1] at hv
  exact k.2 _ y v hy hv
theorem CR.one {c : Ctx} {x : AV} {v : Value} (h : Rel c x v) (h1 : v.oneCell' = true) : CR c [x] [v] := ⟨rfl, fun j y u hy hu => by
 cases j with
 | zero => simp at hy hu; subst hy hu; exact ⟨h, h1⟩
 | succ j => simp at hy⟩
theorem jB {α : Type} (cs : List α) (o n : Nat) : cs.drop o = (cs.drop o).take n ++ cs.drop (o + n) := by
 rw [← List.drop_drop, List.take_append_drop]
section
variable {H : Type} {enc : TypeId × Value → H} {P : Program} {w : World} {S : Nat → Option Addr} {sp : Nat → Bool} {T : List Nat}
theorem nD {n : Nat} (ih : ∀ (t : TypeId) (cs : List Value) (x : DataW H × List MemPlace), t ∈ T → DataW.trod enc P w 0 sp true n t cs = some x → ∃ y, IsT P t y ∧ CR (Ctx.top S w) y.cells cs) {cs : List Value} :
  ∀ (fs : List Field) (o : Nat), aAr P fs o cs.length = true → (∀ f ∈ fs, f.type ∈ T) →
   (∀ f ∈ fs, ∃ x, DataW.trod enc P w 0 sp true n f.type ((cs.drop f.offset).take (P.cellsOf f.type)) = some x) → ∃ ys, IsFs P fs ys ∧ CR (Ctx.top S w) ys (cs.drop o)
 | [], o, ht, _, _ => by
  simp [aAr] at ht
  subst ht
  exact ⟨[], .nil, by simpa using CR.nil _⟩
 | f :: fs, o, ht, hT, hx => by
  simp only [aAr, Bool.and_eq_true, beq_iff_eq] at ht
  obtain ⟨x, hx0⟩ := hx f (by simp)
  obtain ⟨y, h1, h2⟩ := ih _ _ _ (hT f (by simp)) hx0
  obtain ⟨ys, h3, h4⟩ := nD ih fs (o + P.cellsOf f.type) ht.2 (fun g hg => hT g (by simp [hg])) (fun g hg => hx g (by simp [hg]))
  refine ⟨y.cells ++ ys, .cons h1 h3, ?_⟩
  rw [jB cs o (P.cellsOf f.type)]
  rw [ht.1] at h2
  exact h2.append h4
theorem pS {n : Nat} (ih : ∀ (t : TypeId) (cs : List Value) (x : DataW H × List MemPlace), t ∈ T → DataW.trod enc P w 0 sp true n t cs = some x → ∃ y, IsT P t y ∧ CR (Ctx.top S w) y.cells cs) {cs : List Value} {e : TypeId} (he : e ∈ T) :
  ∀ (m i : Nat), (i + m) * P.cellsOf e = cs.length → (∀ j, i ≤ j → j < i + m → ∃ x, DataW.trod enc P w 0 sp true n e ((cs.drop (j * P.cellsOf e)).take (P.cellsOf e)) = some x) →
   ∃ ys, IsAr P e m ys ∧ CR (Ctx.top S w) ys (cs.drop (i * P.cellsOf e))
 | 0, i, hl, _ => by
  refine ⟨[], .nil e, ?_⟩
  rw [List.drop_eq_nil_of_le (by simp at hl; omega)]
  exact CR.nil _
 | m + 1, i, hl, hx => by
  obtain ⟨x, hx0⟩ := hx i (Nat.le_refl _) (by omega)
  obtain ⟨y, h1, h2⟩ := ih _ _ _ he hx0
  obtain ⟨ys, h3, h4⟩ := pS ih he m (i + 1) (by rw [← hl]; congr 1; omega) (fun j h1 h2 => hx j (by omega) (by omega))
  refine ⟨y.cells ++ ys, .cons h1 h3, ?_⟩
  rw [jB cs (i * P.cellsOf e) (P.cellsOf e)]
  rw [Nat.add_mul, Nat.one_mul] at h4
  exact h2.append h4
theorem cells?_get {a : Addr} {n : Nat} {cs : List Value} (h : w.cells? 0 a n = some cs) : cs.length = n ∧ ∀ (j : Nat) (v : Value), cs[j]? = some v → w.cell? (a.add j) = some v := by
 unfold World.cells? at h
 rw [if_pos (Nat.zero_le _)] at h
 have hl : cs.length = n := by simpa using mapM_some_length h
 refine ⟨hl, fun j v hv => ?_⟩
 have hj : j < n := by rw [← hl]; exact (List.getElem?_eq_some_iff.1 hv).1
 have := mapM_some_get h j j (by simp [hj])
 rw [this, hv]
theorem sY {a : Addr} {v : Value} (h : w.cell? a = some v) : a.spot = none := by
 unfold World.cell? at h
 split at h
 ·split at h
  ·cases h
  ·rename_i q; simpa using q
 ·cases h
theorem vV (hT : ∀ t ∈ T, pQ P T t = true) : ∀ (fuel : Nat) (t : TypeId) (cs : List Value) (x : DataW H × List MemPlace), t ∈ T → DataW.trod enc P w 0 sp true fuel t cs = some x →
  ∃ y, IsT P t y ∧ CR (Ctx.top S w) y.cells cs := by
 intro fuel
 induction fuel with
 | zero => intro t cs x _ h; simp [DataW.trod] at h
 | succ n ih =>
  intro t cs x ht h
  have hp := hT t ht
  unfold pQ at hp
  split at hp
  ·rename_i hu
   obtain ⟨b, rfl, _⟩ := DataW.trod_bool hu h
   exact ⟨.bool b, .bool hu b, CR.one (.bool b) rfl⟩
  ·rename_i k hu
   obtain ⟨m, rfl, _, hw⟩ := DataW.trod_int hu h
   exact ⟨.int k m, .int hu m hw, CR.one (.int k m) rfl⟩
  ·rename_i hu
   obtain ⟨s, rfl, _, hs⟩ := DataW.trod_string hu h
   exact ⟨.str s, .str hu s hs, CR.one (.str s) rfl⟩
  ·rename_i e hu
   simp only [Bool.and_eq_true, List.contains_iff_mem, decide_eq_true_eq] at hp
   rcases DataW.trod_slice hu h with ⟨rfl, _⟩ | ⟨a, len, cap, elems, rest, m, hm, rfl, _, _, hlc, hcm, hel, hget, _⟩
   ·exact ⟨.ro false [], .sl hu (fun x hx => by cases hx) (by simp), CR.one (.roNil ..) rfl⟩
   ·obtain rfl : n = m := by omega
    have each : ∀ i, i < len → ∃ y cs', w.cells? 0 (a.add (i * P.cellsOf e)) (P.cellsOf e) = some cs' ∧ IsT P e y ∧ CR (Ctx.top S w) y.cells cs' := by
     intro i hi
     have h1 := hget i hi
     rw [List.getElem?_eq_getElem (by omega), Option.bind_eq_some_iff] at h1
     obtain ⟨cs', h2, h3⟩ := h1
     obtain ⟨y, h4, h5⟩ := ih _ _ _ hp.1 h3
     exact ⟨y, cs', h2, h4, h5⟩
    obtain ⟨f, hf⟩ : ∃ f : Nat → AV, ∀ i, i < len → ∃ cs', w.cells? 0 (a.add (i * P.cellsOf e)) (P.cellsOf e) = some cs' ∧ IsT P e (f i) ∧ CR (Ctx.top S w) (f i).cells cs' := by
     refine ⟨fun i => if hi : i < len then (each i hi).choose else .undef, fun i hi => ?_⟩
     simp only [dif_pos hi]
     exact (each i hi).choose_spec
    refine ⟨.ro false ((List.range len).map f), .sl hu (fun y hy => ?_) (by simp; omega), CR.one ?_ rfl⟩
    ·obtain ⟨i, hi, rfl⟩ := List.mem_map.1 hy
     obtain ⟨_, _, h2, _⟩ := hf i (List.mem_range.1 hi)
     exact h2
    ·by_cases h0 : len = 0
     ·subst h0; exact .roNil ..
     have hfi : ∀ (i : Nat) (y : AV), ((List.range len).map f)[i]? = some y → i < len ∧ y = f i := by
      intro i y hy
      simp only [List.getElem?_map] at hy
      by_cases q : i < len
      ·rw [List.getElem?_range q] at hy; simp at hy; exact ⟨q, hy.symm⟩
      ·rw [List.getElem?_eq_none (by simp; omega)] at hy; simp at hy
     have hsp : a.spot = none := by
      obtain ⟨cs', h1, h2, h3⟩ := hf 0 (by omega)
      obtain ⟨hl, hc⟩ := cells?_get h1
      have := hc 0 (cs'[0]'(by omega)) (List.getElem?_eq_getElem _)
      have := sY this
      simpa [Addr.add] using this
     have hadd : ∀ m, a.add m = ⟨a.block, a.off + m, none⟩ := by
      intro m
      unfold Addr.add
      split
      ·rename_i q; subst q; cases a; simp at hsp; subst hsp; rfl
      ·rfl
     have hcell : ∀ (i : Nat) (y : AV) (j : Nat) (z : AV), ((List.range len).map f)[i]? = some y → y.cells[j]? = some z → ∃ v, w.cell? ⟨a.block, a.off + i * P.cellsOf e + j, a.spot⟩ = some v ∧ Rel (Ctx.top S w) z v ∧ v.oneCell' = true := by
      intro i y j z hy hz
      obtain ⟨hi, rfl⟩ := hfi i y hy
      obtain ⟨cs', h1, h2, h3⟩ := hf i hi
      obtain ⟨hl, hc⟩ := cells?_get h1
      have hj : j < cs'.length := by rw [← h3.1]; exact (List.getElem?_eq_some_iff.1 hz).1
      have h4 := hc j cs'[j] (List.getElem?_eq_getElem hj)
      have e1 : (a.add (i * P.cellsOf e)).add j = ⟨a.block, a.off + i * P.cellsOf e + j, none⟩ := by
       rw [hadd]
       unfold Addr.add
       split
       ·rename_i q; subst q; rfl
       ·rfl
      rw [e1] at h4
      exact ⟨cs'[j], by rw [hsp]; exact h4, h3.2 j z _ hz (List.getElem?_eq_getElem hj)⟩
     refine .ro (A := a) (V := fun i j => (w.cell? ⟨a.block, a.off + i * P.cellsOf e + j, a.spot⟩).getD default) (sz := P.cellsOf e) (by simp) hlc (.inr rfl) hsp (fun i y hy => ?_) (fun i y j z hy hz => ?_) (fun i y j z hy hz => ?_)
     ·obtain ⟨hi, rfl⟩ := hfi i y hy
      obtain ⟨cs', h1, h2, h3⟩ := hf i hi
      rw [h3.1]; exact (cells?_get h1).1
     ·obtain ⟨v, h1, h2, h3⟩ := hcell i y j z hy hz
      simp only [h1, Option.getD_some]; exact h2
     ·obtain ⟨v, h1, h2, h3⟩ := hcell i y j z hy hz
      simp only [h1, Option.getD_some]
      refine ⟨?_, h3⟩
      show w.cell? _ = _
      rw [← hsp]; exact h1
  ·rename_i fs hu
   simp only [Bool.and_eq_true, List.all_eq_true, List.contains_iff_mem] at hp
   obtain ⟨xs, m, hm, _, hl, hxl, hget⟩ := DataW.trod_struct hu h
   obtain rfl : n = m := by omega
   obtain ⟨ys, h1, h2⟩ := nD (S := S) (cs := cs) ih fs.toList 0 (by rw [hl]; exact hp.1) (fun f hf => hp.2 f hf) (fun f hf => by
    obtain ⟨i, hi⟩ := List.getElem?_of_mem hf
    have hi' : fs[i]? = some f := by simpa using hi
    have := hget i f hi'
    have hlt : i < xs.length := by rw [hxl]; exact (Array.getElem?_eq_some_iff.1 hi').1
    rw [List.getElem?_eq_getElem hlt] at this
    exact ⟨_, this⟩)
   exact ⟨.agg ys, .st hu h1, by simpa [AV.cells] using h2⟩
  ·rename_i k e hu
   simp only [Bool.and_eq_true, List.contains_iff_mem, decide_eq_true_eq] at hp
   obtain ⟨xs, m, hm, _, hl, hxl, hget⟩ := DataW.trod_array hu h
   obtain rfl : n = m := by omega
   obtain ⟨ys, h1, h2⟩ := pS (S := S) (cs := cs) ih hp.1 k 0 (by rw [hl]; simpa using hp.2) (fun j _ hj => by
    have := hget j (by omega)
    rw [List.getElem?_eq_getElem (by omega)] at this
    exact ⟨_, this⟩)
   exact ⟨.agg ys, .ar hu h1, by simpa [AV.cells] using h2⟩
  ·cases hp
theorem gJ {c : Ctx} {y : AV} {v : Value} (h : CR c y.cells [v]) (hy : y.cells = [y]) : Rel c y v := by
 rw [hy] at h
 exact (h.2 0 y v rfl rfl).1
theorem aAk (hT : ∀ t ∈ T, pQ P T t = true) {t : TypeId} {v : Value} {d : DataW H} {ps : List MemPlace} {r : Reach} {b0 : Nat} (ht : t ∈ T) (ok : Value.okWide P w r b0 t v) (h : DataW.Trod enc P w 0 sp true t v d ps) :
  ∃ y, IsT P t y ∧ Rel (Ctx.top S w) y v := by
 obtain ⟨fuel, hf⟩ := h
 obtain ⟨y, h1, h2⟩ := vV (S := S) hT _ _ _ _ ht hf
 refine ⟨y, h1, ?_⟩
 have hagg : ∀ cs : Array Value, v = .agg cs → ∀ ys, y = .agg ys → Rel (Ctx.top S w) y v := by
  intro cs hv ys hy
  subst hv hy
  simp only [Value.cells, AV.cells] at h2
  have : cs = cs.toList.toArray := by simp
  rw [this]
  refine .agg h2.1 (fun i x u hx hu => (h2.2 i x u hx hu).1) (fun u hu => ?_)
  obtain ⟨i, hi⟩ := List.getElem?_of_mem hu
  have hlt : i < ys.length := by rw [h2.1]; exact (List.getElem?_eq_some_iff.1 hi).1
  exact (h2.2 i _ u (List.getElem?_eq_getElem hlt) hi).2
 cases h1 with
 | bool hu b =>
  have : v.cells.toList = [v] := by
   simp only [Value.okWide, hu] at ok
   cases v <;> simp_all [Cell.okWide, Cell.ok, Value.cells]
  rw [this] at h2
  exact gJ h2 rfl
 | int hu n hw =>
  have : v.cells.toList = [v] := by
   simp only [Value.okWide, hu] at ok
   cases v <;> simp_all [Cell.okWide, Cell.ok, Value.cells]
  rw [this] at h2
  exact gJ h2 rfl
 | str hu s hs =>
  have : v.cells.toList = [v] := by
   simp only [Value.okWide, hu] at ok
   cases v <;> simp_all [Cell.okWide, Cell.ok, Value.cells]
  rw [this] at h2
  exact gJ h2 rfl
 | sl hu hx hl =>
  have : v.cells.toList = [v] := by
   simp only [Value.okWide, hu] at ok
   cases v <;> simp_all [Cell.okWide, Cell.ok, Value.cells]
  rw [this] at h2
  exact gJ h2 rfl
 | st hu hf =>
  simp only [Value.okWide, hu] at ok
  obtain ⟨cs, rfl, _, _⟩ := ok
  exact hagg cs rfl _ rfl
 | ar hu hf =>
  simp only [Value.okWide, hu] at ok
  obtain ⟨cs, rfl, _, _⟩ := ok
  exact hagg cs rfl _ rfl
theorem IsT.of_bool {t : TypeId} {x : AV} (hu : P.underlying t = some .bool) (h : IsT P t x) : ∃ b, x = .bool b := by
 cases h with
 | bool _ b => exact ⟨b, rfl⟩
 | int h' => rw [hu] at h'; cases h'
 | str h' => rw [hu] at h'; cases h'
 | sl h' => rw [hu] at h'; cases h'
 | st h' => rw [hu] at h'; cases h'
 | ar h' => rw [hu] at h'; cases h'
theorem IsT.of_int {t : TypeId} {k : IntKind} {x : AV} (hu : P.underlying t = some (.int k)) (h : IsT P t x) : ∃ n, x = .int k n ∧ (Lit.int k n).wf = true := by
 cases h with
 | int h' n hw => rw [hu] at h'; cases h'; exact ⟨n, rfl, hw⟩
 | bool h' => rw [hu] at h'; cases h'
 | str h' => rw [hu] at h'; cases h'
 | sl h' => rw [hu] at h'; cases h'
 | st h' => rw [hu] at h'; cases h'
 | ar h' => rw [hu] at h'; cases h'
theorem IsT.of_struct {t : TypeId} {fs : Array Field} {x : AV} (hu : P.underlying t = some (.struct fs)) (h : IsT P t x) : ∃ cs, x = .agg cs ∧ IsFs P fs.toList cs := by
 cases h with
 | st h' hf => rw [hu] at h'; cases h'; exact ⟨_, rfl, hf⟩
 | bool h' => rw [hu] at h'; cases h'
 | int h' => rw [hu] at h'; cases h'
 | str h' => rw [hu] at h'; cases h'
 | sl h' => rw [hu] at h'; cases h'
 | ar h' => rw [hu] at h'; cases h'
inductive IsTs (P : Program) : List TypeId → List AV → Prop
 | nil : IsTs P [] []
 | cons {t : TypeId} {ts : List TypeId} {x : AV} {xs : List AV} (h : IsT P t x) (hs : IsTs P ts xs) : IsTs P (t :: ts) (x :: xs)
theorem IsTs.uncons {t : TypeId} {ts : List TypeId} {ys : List AV} (h : IsTs P (t :: ts) ys) : ∃ x xs, ys = x :: xs ∧ IsT P t x ∧ IsTs P ts xs := by
 cases h with
 | cons h hs => exact ⟨_, _, rfl, h, hs⟩
theorem IsTs.unnil {ys : List AV} (h : IsTs P [] ys) : ys = [] := by
 cases h; rfl
theorem rK (hT : ∀ t ∈ T, pQ P T t = true) {r : Reach} {b0 : Nat} : ∀ {ts : List TypeId} {vs : List Value} {ds : List (DataW H)} {ps : List MemPlace}, (∀ t ∈ ts, t ∈ T) →
  (∀ (j : Nat) t v, ts[j]? = some t → vs[j]? = some v → Value.okWide P w r b0 t v) → DataW.TrodAll enc P w 0 sp true ts vs ds ps → ∃ xs, IsTs P ts xs ∧ fC (Ctx.top S w) xs vs
 | [], vs, ds, ps, _, _, h => by
  obtain ⟨rfl, rfl, rfl⟩ := trodAll_nil h
  exact ⟨[], .nil, .nil⟩
 | t :: ts, vs, ds, ps, hm, ok, h => by
  obtain ⟨v, vs', d, ds', p, q, rfl, rfl, rfl, hd, hr⟩ := trodAll_cons h
  obtain ⟨x, h1, h2⟩ := aAk (S := S) hT (hm t (by simp)) (ok 0 t v rfl rfl) hd
  obtain ⟨xs, h3, h4⟩ := rK hT (fun u hu => hm u (by simp [hu])) (fun j u v' h1 h2 => ok (j + 1) u v' (by simpa using h1) (by simpa using h2)) hr
  exact ⟨x :: xs, .cons h1 h3, .cons h2 h4⟩
theorem nE (hl : laidOutB P = true) {w' : World} (hb : Below w.heap.size w w') : ∀ {ts : List TypeId} {vs : List Value} {ds : List (DataW H)} {ps : List MemPlace}, (∀ t ∈ ts, P.readableRec t = true ∧ t < P.types.size) →
  DataW.TrodAll enc P w 0 (fun _ => true) true ts vs ds ps → DataW.TrodAll enc P w' 0 (fun b => decide (b < w.heap.size)) true ts vs ds ps
 | [], vs, ds, ps, _, h => by
  obtain ⟨rfl, rfl, rfl⟩ := trodAll_nil h
  exact rfl
 | t :: ts, vs, ds, ps, hm, h => by
  obtain ⟨v, vs', d, ds', p, q, rfl, rfl, rfl, hd, hr⟩ := trodAll_cons h
  have hd' := hd
  obtain ⟨m, hm'⟩ := hd'
  exact ⟨p, q, Below.trod hl (hm t (by simp)).1 (hm t (by simp)).2 hd hb (DataW.trod_lt m _ _ _ hm'), nE hl hb (fun u hu => hm u (by simp [hu])) hr, rfl⟩
end
open Go Go.ChangeShapes Go.WideShapes Go.RowKit
def rN (tp : Nat) (gs : List Nat) : aC := fun g => if gs.contains g then some (.iface tp (.gp g)) else none
theorem uV (tp : Nat) (gs : List Nat) : ∀ g x, rN tp gs g = some x → bE x = true := by
 intro g x h
 unfold rN at h
 split at h
 ·simp at h; subst h; rfl
 ·cases h
structure SentS (w : World) (tp : Nat) (gs : List Nat) (S : Nat → Option Addr) : Prop where
 here : ∀ g ∈ gs, ∃ a, S g = some a ∧ w.cell? ⟨g, 0, none⟩ = some (.iface tp (.pointer (some a)))
 laid : ∀ g a, S g = some a → ∃ cells elem, w.heap[a.block]? = some (.cells cells elem (0, 0))
 apart : ∀ g g' a a', S g = some a → S g' = some a' → g ≠ g' → a ≠ a'
theorem zD {w : World} {tp : Nat} {gs : List Nat} {S : Nat → Option Addr} (h : SentS w tp gs S) : Good (rN tp gs) (Ctx.top S w) w := by
 refine ⟨fun a v h => h, fun a v h => h, fun k hk => ?_, h.laid, fun g a _ hk => ?_, h.apart, fun g x hx => ?_, fun k hk => ?_, fun g hg => by unfold rN at hg; split at hg <;> simp at hg⟩
 ·obtain ⟨b, i, hb, _⟩ := hk; cases hb
 ·obtain ⟨b, i, hb, _⟩ := hk; cases hb
 ·unfold rN at hx
  split at hx
  ·rename_i hg
   simp at hx; subst hx
   obtain ⟨a, h1, h2⟩ := h.here g (by simpa using hg)
   exact ⟨_, h2, .iface (.gp h1)⟩
  ·cases hx
 ·obtain ⟨b, i, hb, _⟩ := hk; cases hb
def nF (T tp : Nat) (gs : List Nat) : aC := fun g => if g = T then some (.int .u64 1) else rN tp gs g
theorem uW (T tp : Nat) (gs : List Nat) : ∀ g x, nF T tp gs g = some x → bE x = true := by
 intro g x h
 unfold nF at h
 split at h
 ·simp at h; subst h; rfl
 ·exact uV tp gs g x h
theorem yC {w : World} {T tp : Nat} {gs : List Nat} {S : Nat → Option Addr} (h : SentS w tp gs S) (hT : ∃ elem fr, w.heap[T]? = some (.cells mN elem fr)) : Good (nF T tp gs) (Ctx.top S w) w := by
 have hg := zD h
 refine ⟨hg.holds, hg.MB, hg.away, hg.sent, hg.sentAway, hg.sentApart, fun g x hx => ?_, hg.bound, fun g hx => ?_⟩
 ·unfold nF at hx
  split at hx
  ·rename_i e
   subst e
   simp only [Option.some.injEq] at hx
   subst hx
   obtain ⟨elem, fr, hc⟩ := hT
   refine ⟨.int .u64 1, ?_, .int _ _⟩
   show w.cell? ⟨g, 0, none⟩ = _
   unfold World.cell?
   simp only [hc]
   rfl
  ·exact hg.glob g x hx
 ·unfold nF at hx
  split at hx
  ·rename_i e; subst e; exact hT
  ·exact hg.tab g hx
theorem yL (w : World) (tp : Nat) : SentS w tp [] (fun _ => none) := ⟨fun g hg => (by cases hg), fun g a h => (by cases h), fun g g' a a' h => (by cases h)⟩
def wE (P : Program) (ti : Nat) : List (String × DataW Unit) → List Nat → Prop
 | [], [] => True
 | x :: L, g :: gs => P.globalNamed x.1 = some g ∧ (P.globals[g]?).map (·.type) = some ti ∧ (∃ text, x.2 = .iface "*errors.errorString" (.ptr (.agg [.lit (.string text)]))) ∧ wE P ti L gs
 | _, _ => False
theorem nG {P : Program} {w : World} {ti tp te ts : TypeId} {ms : Array (String × TypeId)} {f : Field}
  (hi : P.underlying ti = some (.interface ms)) (hrow : ∀ u, P.typeName? 3 u = some "*errors.errorString" → u = tp)
  (hp : P.underlying tp = some (.pointer te)) (he : P.underlying te = some (.struct #[f])) (hft : f.type = ts) (hfo : f.offset = 0) (hs : P.underlying ts = some .string) (hc : P.cellsOf te = 1) (hcs : P.cellsOf ts = 1) :
  ∀ {L : List (String × DataW Unit)} {gs : List Nat} {ps : List MemPlace}, wE P ti L gs → gs.Nodup → DataW.LaidVars P w L ps → ps.Nodup →
   (∀ b off, MemPlace.cell b off ∈ ps → (∃ c t, w.heap[b]? = some (.cells c t (0, 0))) ∧ ∀ u v, w.cell? ⟨b, off, none⟩ = some (.iface u v) → Value.okWide P w .any 0 u v) →
   ∃ S, SentS w tp gs S ∧ ∀ g a, S g = some a → g ∈ gs ∧ MemPlace.cell a.block a.off ∈ ps
 | [], [], ps, _, _, _, _, _ => ⟨_, yL w tp, fun g a h => by cases h⟩
 | [], _ :: _, ps, h, _, _, _, _ => by cases h
 | _ :: _, [], ps, h, _, _, _, _ => by cases h
 | (n, d) :: L, g :: gs, ps, hL, hnd, hv, hpn, hr => by
  obtain ⟨hg, ht, ⟨text, rfl⟩, hL'⟩ := hL
  obtain ⟨g', t', cs, fuel, p, q, hg', ht', hcs', hd, hq, rfl⟩ := hv
  obtain rfl := Option.some.inj (hg.symm.trans hg')
  obtain rfl := Option.some.inj (ht.symm.trans ht')
  rw [List.nodup_cons] at hnd
  obtain ⟨S, hS, hSp⟩ := nG hi hrow hp he hft hfo hs hc hcs hL' hnd.2 hq (List.nodup_append.1 hpn).2.1 (fun b off hb => hr b off (List.mem_append_right _ hb))
  obtain ⟨l⟩ := cs
  have ok : ∀ u v, l = [.iface u v] → Value.okWide P w .any 0 u v := fun u v e => by
   subst e
   exact (hr g 0 (by simp [MemPlace.row])).2 u v (by simpa using World.var?_cell hg hcs' 0)
  obtain ⟨a, s, hl, hc0, hs0, hz0, rfl⟩ := errorString_of_trod hi hrow hp he hft hfo hs hc hcs hd ok
  simp only at hl
  subst hl
  have hin : MemPlace.cell a.block a.off ∈ MemPlace.row (⟨g, 0, none⟩ : Addr) 1 ++ MemPlace.row a 1 := by simp [MemPlace.row]
  have hne : ∀ g2 a2, S g2 = some a2 → a ≠ a2 := by
   intro g2 a2 h2 e
   subst e
   exact (List.nodup_append.1 hpn).2.2 _ hin _ (hSp g2 a h2).2 rfl
  refine ⟨fun x => if x = g then some a else S x, ⟨fun x hx => ?_, fun x b hb => ?_, fun x x' b b' hb hb' hxx => ?_⟩, fun x b hb => ?_⟩
  ·rcases List.mem_cons.1 hx with rfl | hx'
   ·exact ⟨a, by simp, by simpa using World.var?_cell hg hcs' 0⟩
   ·obtain ⟨b, h1, h2⟩ := hS.here x hx'
    have : x ≠ g := fun e => hnd.1 (e ▸ hx')
    exact ⟨b, by simp [this, h1], h2⟩
  ·split at hb
   ·obtain rfl := Option.some.inj hb
    obtain ⟨c, t, h⟩ := (hr a.block a.off (List.mem_append_left _ hin)).1
    exact ⟨c, t, h⟩
   ·exact hS.laid x b hb
  ·split at hb
   ·rename_i e1
    obtain rfl := Option.some.inj hb
    split at hb'
    ·rename_i e2; exact absurd (e1.trans e2.symm) hxx
    ·exact hne _ _ hb'
   ·split at hb'
    ·obtain rfl := Option.some.inj hb'
     exact (hne _ _ hb).symm
    ·exact hS.apart x x' b b' hb hb' hxx
  ·replace hb : (if x = g then some a else S x) = some b := hb
   split at hb
   ·rename_i e; subst e
    obtain rfl := Option.some.inj hb
    exact ⟨by simp, List.mem_append_left _ hin⟩
   ·exact ⟨List.mem_cons_of_mem _ (hSp x b hb).1, List.mem_append_right _ (hSp x b hb).2⟩
theorem sV {P : Program} {w : World} {ti tp te ts : TypeId} {ms : Array (String × TypeId)} {f : Field}
  (hi : P.underlying ti = some (.interface ms)) (hrow : ∀ u, P.typeName? 3 u = some "*errors.errorString" → u = tp)
  (hp : P.underlying tp = some (.pointer te)) (he : P.underlying te = some (.struct #[f])) (hft : f.type = ts) (hfo : f.offset = 0) (hs : P.underlying ts = some .string) (hc : P.cellsOf te = 1) (hcs : P.cellsOf ts = 1)
  {L : List (String × DataW Unit)} {gs : List Nat} (hL : wE P ti L gs) (hnd : decide gs.Nodup = true) (h : laidMet P L w) : ∃ S, SentS w tp gs S := by
 obtain ⟨ps, h1, h2, h3⟩ := h
 obtain ⟨S, hS, _⟩ := nG hi hrow hp he hft hfo hs hc hcs hL (of_decide_eq_true hnd) h1 h2 h3
 exact ⟨S, hS⟩
theorem iI {P : Program} {w : World} {x : String × DataW Unit} {L : List (String × DataW Unit)} (h : laidMet P (x :: L) w) : laidMet P L w := by
 obtain ⟨ps, ⟨g, t, cs, fuel, p, q, _, _, _, _, hq, rfl⟩, hn, hr⟩ := h
 exact ⟨q, hq, (List.nodup_append.1 hn).2.1, fun b off hb => hr b off (List.mem_append_right _ hb)⟩
theorem aBU {P : Program} {w : World} {name : String} {g : Nat} (hg : P.globalNamed name = some g) (h : Lib.TabIs P w name .u64 Lib.pow10Tab) : ∃ elem fr, w.heap[g]? = some (.cells mN elem fr) := by
 unfold Lib.TabIs World.var? at h
 rw [hg] at h
 simp only [Option.bind_some] at h
 split at h
 ·rename_i cs e fr hh
  obtain rfl := Option.some.inj h
  refine ⟨e, fr, ?_⟩
  rw [hh]
  unfold mN Lib.pow10Tab
  rw [List.map_map]; rfl
 ·cases h
theorem xU {P : Program} {G : aC} {f : Nat} {g : bV} (hs : Sound P G f g) {xs : List AV} (hg : g xs [] = some (.bool true, [])) {S : Nat → Option Addr} {w : World} (hgood : Good G (Ctx.top S w) w) {vs : List Value} (hr : fC (Ctx.top S w) xs vs) :
  Calls P f vs.toArray w (fun e w' => e = .returned (.bool true) ∧ Below w.heap.size w w') := by
 refine (hs.calls xs [] _ [] hg (Ctx.top S w) w vs hgood ⟨by simp, by simp [Ctx.top]⟩ (rR.nil (fun _ => rfl)) hr).mono fun e w' he => ?_
 obtain ⟨v, c', rfl, h⟩ := he
 obtain rfl := h.rel.of_bool
 refine ⟨rfl, h.step.os, h.step.tape, h.step.output, h.step.size, fun k hk => h.step.kept k hk ?_⟩
 rintro ⟨b, i, hb, _⟩
 cases hb
theorem zO {H : Type} {enc : TypeId × Value → H} {P : Program} {fn : Func} {s : ChangeSpec} {ts : List TypeId} {t : TypeId} (hv : s.vars = []) (hts : fn.params.toList = ts) (hres : fn.resultTypes = #[t]) (ht : P.underlying t = some .bool)
  (hspec : ∀ ds : List (DataW H), ds.length = ts.length → s.fn H ds = { results := [.lit (.bool true)], args := ds })
  (hl : laidOutB P = true) (hr : (ts.all fun t => P.readableRec t && decide (t < P.types.size)) = true) {w w' : World} {args : Array Value} {ds gs : List (DataW H)} {before : List MemPlace}
  (hW : DataW.Whole enc P fn.params.toList s.vars false w args.toList ds gs before) (hb : Below w.heap.size w w') :
  s.post enc P fn false true false false w args (.bool true) w' := by
 have hW' := hW
 obtain ⟨p, q, hA, hV, rfl, _, _⟩ := hW
 rw [hts] at hA
 rw [hv] at hV
 obtain ⟨rfl, rfl⟩ := trodVars_none hV
 have len : ∀ {ts : List TypeId} {vs : List Value} {ds : List (DataW H)} {ps : List MemPlace}, DataW.TrodAll enc P w 0 (fun _ => true) true ts vs ds ps → ds.length = ts.length := by
  intro ts
  induction ts with
  | nil => intro vs ds ps h; obtain ⟨rfl, rfl, rfl⟩ := trodAll_nil h; rfl
  | cons t ts ih =>
   intro vs ds ps h
   obtain ⟨v, vs', d, ds', p, q, rfl, rfl, rfl, hd, hr⟩ := trodAll_cons h
   simp [ih hr]
 have e1 := hspec ds (len hA)
 have e2 : s.fn H (ds ++ []) = { results := [.lit (.bool true)], args := ds } := by rw [List.append_nil]; exact e1
 refine ⟨ds, [], _, [], p, [], hW', ?_, ?_, ?_, hb.frame _, fun h => by cases h⟩
 ·rw [e2, hres]
  exact trodAll_mk1 (shut_bool ht true)
 ·rw [e2, hts]
  exact nE hl hb (fun t ht => by
   have := List.all_eq_true.1 hr t ht
   simp only [Bool.and_eq_true, decide_eq_true_eq] at this
   exact this) hA
 ·rw [e2, hv]; exact rfl
end Go.Proofs.YtcmblhedhgiofaaDoor.Mir
