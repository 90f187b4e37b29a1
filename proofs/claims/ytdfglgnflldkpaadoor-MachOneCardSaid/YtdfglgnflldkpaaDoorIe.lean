/- isa: words and instructions, one for one. Plain. -/
import Derived.Test.YtdfglgnflldkpaaDoorId
namespace Go.Proofs.YtdfglgnflldkpaaDoor.Mir
open Go
set_option linter.unusedVariables false
set_option linter.unusedSimpArgs false
set_option maxHeartbeats 8000000
set_option maxRecDepth 20000

theorem right24 {i : MI} (h : rightB i = true) : 1 ≤ i.op ∧ i.op ≤ 24 := by
  unfold rightB at h
  rw [Bool.and_eq_true] at h
  exact of_decide_eq_true h.1

/-- The kind of a word. -/
def cls (w : Int) : Int :=
  if w < 402653184 then 20 else if w < 1426063360 then 21 else if w < 2317352960 then 5 else if w < 2334130176 then 3 else if w < 2436890624 then 10
  else if w < 2474639360 then 14 else if w < 2594177024 then (if w / 1024 % 4 = 1 then 17 else 16) else if w < 2602565632 then 8 else if w < 2615148544 then 9
  else if w < 2854223872 then 6 else if w < 3036676096 then 22 else if w < 3053453312 then 23 else if w < 3391094784 then 7 else if w < 3407872000 then 4
  else if w < 3510632448 then 11 else if w < 3539992576 then 1 else if w < 3548381184 then (if w / 1024 % 64 = 63 then 13 else 12) else if w < 3563061248 then 24
  else if w < 3944742912 then 15 else if w < 4076863488 then 2 else if w < 4181721088 then 19 else 18

theorem word_all {i : MI} (h : rightB i = true) : 0 ≤ wordF i ∧ wordF i < 4294967296 ∧ asF i.op (wordF i) = i ∧ cls (wordF i) = (if i.op = 12 ∧ i.imm = 0 then 13 else i.op) := by
  have h24 := right24 h
  obtain ⟨op, d, n, m, a, imm⟩ := i
  unfold rightB at h
  rw [Bool.and_eq_true] at h
  obtain ⟨_, h⟩ := h
  simp only at h24
  obtain ⟨w, hw⟩ : ∃ w, w = wordF ⟨op, d, n, m, a, imm⟩ := ⟨_, rfl⟩
  rw [← hw]
  rcases op24 h24 with rfl | rfl | rfl | rfl | rfl | rfl | rfl | rfl | rfl | rfl | rfl | rfl | rfl | rfl | rfl | rfl | rfl | rfl | rfl | rfl | rfl | rfl | rfl | rfl
  all_goals (
    simp [formF, fairB, regB, extraB, immB, halfI, stackB] at h
    have hw2 := hw
    simp [wordF, formF, wNum] at hw2
    clear hw
    refine ⟨by omega, by omega, ?_, ?_⟩
    · simp [asF, formF, exA, exI, sgnF, x1F]
      first | omega | (refine ⟨?_, ?_, ?_, ?_⟩ <;> omega)
    · unfold cls
      simp (disch := omega) only [if_pos, if_neg]
      first | done | omega | (by_cases hi : imm = 0 <;> simp [hi] <;> omega))

theorem asB_iff {op w : Int} : asB op w = true ↔ rightB (asF op w) = true ∧ wordF (asF op w) = w := by
  unfold asB; simp
theorem okB_iff {op w : Int} : okB op w = true ↔ (rightB (asF op w) = true ∧ wordF (asF op w) = w) ∧ ¬ (op = 12 ∧ (asF op w).imm = 0) := by
  unfold okB
  rw [Bool.and_eq_true, asB_iff]
  simp
  intro _ _
  constructor
  · rintro (h | h)
    · intro h2; exact absurd h2 h
    · intro _; exact h
  · intro h
    by_cases h2 : op = 12
    · exact .inr (h h2)
    · exact .inl h2
theorem okB_cls {op w : Int} (h : okB op w = true) : cls w = op := by
  obtain ⟨⟨h1, h2⟩, h3⟩ := okB_iff.1 h
  have := (word_all h1).2.2.2
  rw [h2] at this
  have h3' : ¬ ((asF op w).op = 12 ∧ (asF op w).imm = 0) := h3
  rw [this, if_neg h3']
  rfl
theorem find_none : ∀ {d : Nat} {op w : Int}, findF d op w = none → ∀ o : Int, op ≤ o → o < op + d → okB o w = false
  | 0, op, w, _, o, h1, h2 => by omega
  | d + 1, op, w, h, o, h1, h2 => by
    unfold findF at h
    by_cases hk : okB op w = true
    · rw [if_pos hk] at h; cases h
    · rw [if_neg hk] at h
      by_cases ho : o = op
      · subst ho; simpa using hk
      · exact find_none h o (by omega) (by omega)
theorem find_some : ∀ {d : Nat} {op w : Int} {i : MI}, findF d op w = some i → ∃ o, okB o w = true ∧ i = asF o w ∧ op ≤ o ∧ o < op + d
  | 0, op, w, i, h => by cases h
  | d + 1, op, w, i, h => by
    unfold findF at h
    by_cases hk : okB op w = true
    · rw [if_pos hk] at h
      simp at h
      exact ⟨op, hk, h.symm, by omega, by omega⟩
    · rw [if_neg hk] at h
      obtain ⟨o, h1, h2, h3, h4⟩ := find_some h
      exact ⟨o, h1, h2, by omega, by omega⟩

/-- What is found. -/
theorem of_some {w : Int} {i : MI} (h : ofF w = some i) : rightB i = true ∧ wordF i = w ∧ ¬ (i.op = 12 ∧ i.imm = 0) := by
  obtain ⟨o, h1, rfl, _, _⟩ := find_some h
  obtain ⟨⟨h2, h3⟩, h4⟩ := okB_iff.1 h1
  exact ⟨h2, h3, h4⟩
/-- An instruction is found by its word. -/
theorem of_word {i : MI} (h : rightB i = true) (hs : ¬ (i.op = 12 ∧ i.imm = 0)) : ofF (wordF i) = some i := by
  obtain ⟨w0, w1, w2, w3⟩ := word_all h
  rw [if_neg hs] at w3
  have h24 := right24 h
  have hk : okB i.op (wordF i) = true := by
    rw [okB_iff, w2]
    exact ⟨⟨h, rfl⟩, hs⟩
  cases hq : ofF (wordF i) with
  | none =>
    have := find_none hq i.op h24.1 (by omega)
    rw [hk] at this; cases this
  | some j =>
    obtain ⟨o, h1, rfl, _, _⟩ := find_some hq
    have := okB_cls h1
    rw [w3] at this
    rw [← this, w2]
theorem of_iff {w : Int} {i : MI} : ofF w = some i ↔ rightB i = true ∧ wordF i = w ∧ ¬ (i.op = 12 ∧ i.imm = 0) := by
  constructor
  · exact of_some
  · rintro ⟨h1, rfl, h3⟩; exact of_word h1 h3
end Go.Proofs.YtdfglgnflldkpaaDoor.Mir
