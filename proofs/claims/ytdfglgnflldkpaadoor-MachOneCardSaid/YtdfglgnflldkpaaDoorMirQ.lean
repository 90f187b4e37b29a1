/- Mirror, part Q: a region that draws its order does what it does in the order of the text. -/
import Derived.Test.YtdfglgnflldkpaaDoorMirP
namespace Go.Proofs.YtdfglgnflldkpaaDoor.Mir
open Go
set_option linter.unusedVariables false
set_option linter.unusedSimpArgs false

/-- How many are not listed yet. -/
def cntU (listed : Array Bool) : Nat → Nat
  | 0 => 0
  | k + 1 => cntU listed k + if listed.getD k false = true then 0 else 1

theorem cntU_zero {listed : Array Bool} : ∀ {n : Nat}, cntU listed n = 0 → ∀ i, i < n → listed.getD i false = true
  | 0, _, i, hi => by omega
  | n + 1, h, i, hi => by
    simp only [cntU] at h
    by_cases e : i = n
    · subst e
      by_cases hl : listed.getD i false = true
      · exact hl
      · rw [if_neg hl] at h; omega
    · exact cntU_zero (n := n) (by omega) i (by omega)

theorem cntU_set {listed : Array Bool} {i : Nat} (hi : i < listed.size) (hu : listed.getD i false = false) : ∀ (n : Nat), cntU (listed.setIfInBounds i true) n + (if i < n then 1 else 0) = cntU listed n
  | 0 => by simp [cntU]
  | n + 1 => by
    have ih := cntU_set hi hu n
    simp only [cntU]
    by_cases e : i = n
    · subst e
      have h1 : (listed.setIfInBounds i true).getD i false = true := by simp [Array.getD, hi]
      rw [if_pos h1, hu]
      rw [if_neg (show ¬ i < i by omega)] at ih
      rw [if_pos (show i < i + 1 by omega)]
      simp only [Bool.false_eq_true, if_false]
      omega
    · have h1 : (listed.setIfInBounds i true).getD n false = listed.getD n false := getD_set_ne false e
      rw [h1]
      by_cases hl : i < n
      · rw [if_pos hl] at ih; rw [if_pos (show i < n + 1 by omega)]; omega
      · rw [if_neg hl] at ih; rw [if_neg (show ¬ i < n + 1 by omega)]; omega

section
variable {P : Program} {G : Globs} {E : Env} {ann : Ann} {ops : Array Oper} {σ : Nat → TS} {h : Nat → AHeap} {v : Nat → AV}

def Wr (ann : Ann) (E : Env) (ops : Array Oper) (i : Nat) : Prop := ∃ o, ops[i]? = some o ∧ writes ann (pureIn E) o = true

/-- Just the writers ahead of j have come up. -/
def Seg (ann : Ann) (E : Env) (ops : Array Oper) (L : Nat → Prop) (j : Nat) : Prop := (∀ i, i < j → Wr ann E ops i → L i) ∧ ∀ i, j ≤ i → Wr ann E ops i → ¬ L i

/-- What a temporary holds, once these have come up. -/
def Cur (ops : Array Oper) (σ : Nat → TS) (v : Nat → AV) (L : Nat → Prop) (t : Nat) (x : AV) : Prop :=
  (∃ i, L i ∧ dstOf ops i = some t ∧ x = v i ∧ ∀ i', i < i' → L i' → dstOf ops i' ≠ some t) ∨ ((∀ i, L i → dstOf ops i ≠ some t) ∧ x = σ 0 t)

structure RS (G : Globs) (ann : Ann) (E : Env) (ops : Array Oper) (σ : Nat → TS) (h : Nat → AHeap) (v : Nat → AV) (c0 : Ctx) (w0 : World) (N B : Nat) (L : Nat → Prop) (c : Ctx) (a : Act) (w : World) : Prop where
  good : Good G c w
  step : Step c0 w0 c w
  size : a.tmps.size = N
  defers : a.defers = []
  low : B ≤ (h 0).length
  tm : ∀ t x, Cur ops σ v L t x → Rel c x (a.tmps.getD t undef)
  hp : ∀ j, j ≤ ops.size → Seg ann E ops L j → HeapAt c (h j) w
  dom : ∀ b, c.m b ≠ none → b < (h ops.size).length ∧ ∀ i, i < ops.size → (h i).length ≤ b → b < (h (i + 1)).length → L i

/-- The temporary as the text has it. -/
theorem text_cur {T : TS} {H : AHeap} (hr : TextRun P G E ann ops T H ops.size σ h v) (t : Nat) : ∀ (j : Nat), j ≤ ops.size →
    (∃ i, i < j ∧ dstOf ops i = some t ∧ σ j t = v i ∧ ∀ i', i < i' → i' < j → dstOf ops i' ≠ some t) ∨ ((∀ i, i < j → dstOf ops i ≠ some t) ∧ σ j t = σ 0 t)
  | 0, _ => .inr ⟨fun i hi => by omega, rfl⟩
  | j + 1, hj => by
    have ho : ops[j]? = some ops[j] := by simp [show j < ops.size by omega]
    obtain ⟨_, hs⟩ := hr.step j ops[j] (by omega) ho
    have hd : dstOf ops j = ops[j].dst := by simp [dstOf, ho]
    by_cases e : ops[j].dst = some t
    · refine .inl ⟨j, by omega, by rw [hd, e], ?_, fun i' h1 h2 => by omega⟩
      rw [hs, e]; simp [putT]
    · have hk : σ (j + 1) t = σ j t := by
        rw [hs]
        cases hdd : ops[j].dst with
        | none => rfl
        | some d =>
          have : ¬ (t = d) := fun q => e (by rw [hdd, q])
          simp [putT, this]
      rcases text_cur hr t j (by omega) with ⟨i, h1, h2, h3, h4⟩ | ⟨h1, h2⟩
      · refine .inl ⟨i, by omega, h2, by rw [hk, h3], fun i' g1 g2 => ?_⟩
        by_cases q : i' = j
        · subst q; rw [hd]; exact e
        · exact h4 i' g1 (by omega)
      · refine .inr ⟨fun i hi => ?_, by rw [hk, h2]⟩
        by_cases q : i = j
        · subst q; rw [hd]; exact e
        · exact h1 i (by omega)

theorem len_step {T : TS} {H : AHeap} (hr : TextRun P G E ann ops T H ops.size σ h v) {i : Nat} (hi : i < ops.size) : (h i).length ≤ (h (i + 1)).length := by
  have ho : ops[i]? = some ops[i] := by simp [hi]
  obtain ⟨hs, -⟩ := hr.step i ops[i] hi ho
  exact stepOp_len hs

theorem len_mono {T : TS} {H : AHeap} (hr : TextRun P G E ann ops T H ops.size σ h v) {i : Nat} : ∀ (d : Nat), i + d ≤ ops.size → (h i).length ≤ (h (i + d)).length
  | 0, _ => Nat.le_refl _
  | d + 1, hd => Nat.le_trans (len_mono hr d (by omega)) (len_step hr (i := i + d) (by omega))

/-- Between writers the heap only gets new blocks. -/
theorem ext_step {T : TS} {H : AHeap} (hr : TextRun P G E ann ops T H ops.size σ h v) {i : Nat} (hi : i < ops.size) (hw : ¬ Wr ann E ops i) : h (i + 1) = h i ∨ ∃ blk, h (i + 1) = h i ++ [blk] := by
  have ho : ops[i]? = some ops[i] := by simp [hi]
  have hw' : writes ann (pureIn E) ops[i] = false := by
    cases hb : writes ann (pureIn E) ops[i] with
    | false => rfl
    | true => exact absurd ⟨ops[i], ho, hb⟩ hw
  obtain ⟨hs, -⟩ := hr.step i ops[i] hi ho
  unfold stepOp at hs
  split at hs
  · exact opR_ext hw' hs
  · split at hs
    · rcases gd_some hs with ⟨_, e⟩ | ⟨_, _, e⟩
      · exact opR_ext hw' e
      · exact .inl e
    · cases hs

theorem ext_get {T : TS} {H : AHeap} (hr : TextRun P G E ann ops T H ops.size σ h v) {i : Nat} : ∀ (d : Nat), i + d ≤ ops.size → (∀ k, i ≤ k → k < i + d → ¬ Wr ann E ops k) → ∀ b, b < (h i).length → (h (i + d))[b]? = (h i)[b]?
  | 0, _, _, b, _ => rfl
  | d + 1, hd, hw, b, hb => by
    have ih := ext_get hr d (by omega) (fun k h1 h2 => hw k h1 (by omega)) b hb
    have hl := len_mono hr d (i := i) (by omega)
    rcases ext_step hr (i := i + d) (by omega) (hw (i + d) (by omega) (by omega)) with e | ⟨blk, e⟩
    · rw [show i + (d + 1) = i + d + 1 by omega, e]; exact ih
    · rw [show i + (d + 1) = i + d + 1 by omega, e, List.getElem?_append_left (by omega)]; exact ih

/-- An operation that touches no memory leaves the heap. -/
theorem same_step {T : TS} {H : AHeap} (hr : TextRun P G E ann ops T H ops.size σ h v) {i : Nat} {o : Oper} (ho : ops[i]? = some o) (ht : touches ann o = false) : h (i + 1) = h i := by
  have hi : i < ops.size := (Array.getElem?_eq_some_iff.1 ho).1
  obtain ⟨hs, -⟩ := hr.step i o hi ho
  unfold stepOp at hs
  split at hs
  · exact (opR_pure ht hs).1
  · split at hs
    · rcases gd_some hs with ⟨_, e⟩ | ⟨_, _, e⟩
      · exact (opR_pure ht e).1
      · exact e
    · cases hs

end

end Go.Proofs.YtdfglgnflldkpaaDoor.Mir
