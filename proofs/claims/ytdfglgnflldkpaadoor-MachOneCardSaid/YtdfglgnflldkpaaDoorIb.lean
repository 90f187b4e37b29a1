/- isa: an instruction's word: the program's. Printed by isa_ib.py. -/
import Derived.Test.YtdfglgnflldkpaaDoorIa
namespace Go.Proofs.YtdfglgnflldkpaaDoor.Mir
open Go
set_option linter.unusedVariables false
set_option linter.unusedSimpArgs false
set_option maxHeartbeats 8000000
set_option maxRecDepth 20000

theorem dj_zero {x : Int} (h : 0 ≤ x) : dj x 0 := ⟨h, by decide, by simp⟩

/-- The word of one that may be, or 0. -/
def wordR (i : MI) : Int := if rightB i = true then wordF i else 0

theorem word_1 (G : Globs) (k : Nat) (d n m a imm : Int) (h : rightB ⟨1, d, n, m, a, imm⟩ = true) : isa_Word.f G (k + 5) [mV 1 d n m a imm] [] = some (.tup [W32 (wordF ⟨1, d, n, m, a, imm⟩), .bool true], []) := by
  have r1 : ∀ H, pureCall (isa_of.f G (k + 4)) [.int .i64 1] H = _ := fun H => pureCall_of (H := H) (of_spec G k 1) rfl rfl
  have r2 : ∀ H, pureCall (isa_fair.f G (k + 4)) [mV 1 d n m a imm, (formF 1).v] H = _ := fun H => pureCall_of (H := H) (fair_spec G (k + 1) 1 d n m a imm (formF 1) (form_bits 1)) rfl rfl
  have r3 : ∀ H, pureCall (isa_number.f G (k + 4)) [mV 1 d n m a imm] H = _ := fun H => pureCall_of (H := H) (number_spec G (k + 3) ⟨1, d, n, m, a, imm⟩ h) rfl rfl
  unfold rightB at h
  rw [Bool.and_eq_true] at h
  obtain ⟨_, h⟩ := h
  simp only at h
  rw [h] at r2
  simp [formF, fairB, regB, extraB, immB, halfI, stackB] at h
  have c1 : convInt .u32 (I6 d) = some (W32 d) := q_cv32 (by omega) (by omega)
  have c2 : convInt .u32 (I6 n) = some (W32 n) := q_cv32 (by omega) (by omega)
  have c3 : convInt .u32 (I6 m) = some (W32 m) := q_cv32 (by omega) (by omega)
  have s1 := shl_p Tryd.prog 71 true (v := n) (p := 32) (b := 5) 5 rfl (by decide) rfl (by omega) (by omega)
  have s2 := shl_p Tryd.prog 71 true (v := m) (p := 65536) (b := 16) 16 rfl (by decide) rfl (by omega) (by omega)
  have o1 := or_f0 Tryd.prog 71 false (x := 3531603968) (v := d) (q := 32) 5 rfl (by omega) (by omega) (by omega) (by omega) (by omega)
  have o2 := or_fd Tryd.prog 71 false (x := 3531603968 + d) (v := n) (p := 32) (q := 1) 5 0 rfl rfl (by omega) (by omega) (by omega) (by omega) (by omega)
  have o3 := or_fd Tryd.prog 71 false (x := 3531603968 + d + n * 32) (v := m) (p := 65536) (q := 1) 16 0 rfl rfl (by omega) (by omega) (by omega) (by omega) (by omega)
  have e4 : wNum 1 a imm = a * 2097152 + imm * 32 := rfl
  have o4 : bin Tryd.prog .or 71 false (W32 (3531603968 + d + n * 32 + m * 65536)) (W32 (wNum 1 a imm)) = some (W32 (3531603968 + d + n * 32 + m * 65536 + wNum 1 a imm)) := by
    rw [e4]
    exact or_dj Tryd.prog 71 false (dj_add (dj_field (x := 3531603968 + d + n * 32 + m * 65536) (v := a) (p := 2097152) (q := 4) 21 2 rfl rfl (by omega) (by omega) (by omega) (by omega)) (dj_field (x := 3531603968 + d + n * 32 + m * 65536) (v := imm) (p := 32) (q := 65536) 5 16 rfl rfl (by omega) (by omega) (by omega) (by omega)) (dj_field (x := a * 2097152) (v := imm) (p := 32) (q := 65536) 5 16 rfl rfl (by omega) (by omega) (by omega) (by omega)) (by omega)) (by omega)
  have ef : formF 1 = ⟨(formF 1).nm, 3531603968, true, false, false, (formF 1).a, (formF 1).b⟩ := rfl
  have eo : isOp 1 = true := rfl
  have ew : wordF ⟨1, d, n, m, a, imm⟩ = 3531603968 + d + n * 32 + m * 65536 + wNum 1 a imm := rfl
  rw [ew]
  rw [eo, ef] at r1
  rw [ef] at r2
  rw [isa_Word.step]
  unfold isa_Word.c
  unfold Form.v at r1 r2
  clear e4 ef eo h ew
  generalize (formF 1).nm = nm at *
  generalize (formF 1).a = fa at *
  generalize (formF 1).b = fb at *
  generalize wNum 1 a imm = z at *
  refine e_in ?_
  repeat' first
    | (with_reducible first | refine eT ?_ | refine eN ?_ | refine eS ?_ | refine eXn ?_ | refine eXr ?_ | refine eX ?_ | refine eI ?_ | refine eK ?_ | refine eV0 ?_ | refine eGr0 ?_ | refine eGtt ?_ | refine eGff ?_ | refine eGtf ?_ | refine eGft ?_ | refine eGno ?_)
    | ((with_reducible apply eCn); (simp only [nth_zero, nth_succ]; first | done | (with_reducible exact rfl)))
    | ((with_reducible apply eJ); (rfl))
    | ((with_reducible apply eGr1); (first | rfl | (simp only [nth_zero, nth_succ]; rfl)))
    | ((with_reducible apply eB); (first | (with_reducible exact rfl) | (simp (disch := omega) only [qf, r1, r2, r3, c1, c2, c3, s1, s2, o1, o2, o3, o4]; first | done | (with_reducible exact rfl) | (with_reducible exact ⟨rfl, rfl⟩)) | (simp (disch := omega) only [qa, putC, AV.cells, storable, buildSt, fillA, buildRo, buildOwn, fillE, Nat.reduceLeDiff, Nat.reduceLT, Nat.reduceAdd, ↓reduceIte, r1, r2, r3, c1, c2, c3, s1, s2, o1, o2, o3, o4]; first | done | (with_reducible exact rfl) | (with_reducible exact ⟨rfl, rfl⟩))))
    | ((with_reducible apply eR); (simp only [nth_zero, nth_succ]; (with_reducible exact rfl)))
    | ((with_reducible first | refine sEql ?_ ?_ | refine sNeq ?_ ?_ | refine sLss ?_ ?_ | refine sLeq ?_ ?_ | refine sGtr ?_ ?_ | refine sGeq ?_ ?_ | refine sNot ?_ ?_ | refine sPick ?_ ?_ | refine sGd ?_ ?_ | refine eBool ?_ ?_) <;> intro hq <;> try subst hq)
  exact w2 rfl rfl rfl
theorem word_2 (G : Globs) (k : Nat) (d n m a imm : Int) (h : rightB ⟨2, d, n, m, a, imm⟩ = true) : isa_Word.f G (k + 5) [mV 2 d n m a imm] [] = some (.tup [W32 (wordF ⟨2, d, n, m, a, imm⟩), .bool true], []) := by
  have r1 : ∀ H, pureCall (isa_of.f G (k + 4)) [.int .i64 2] H = _ := fun H => pureCall_of (H := H) (of_spec G k 2) rfl rfl
  have r2 : ∀ H, pureCall (isa_fair.f G (k + 4)) [mV 2 d n m a imm, (formF 2).v] H = _ := fun H => pureCall_of (H := H) (fair_spec G (k + 1) 2 d n m a imm (formF 2) (form_bits 2)) rfl rfl
  have r3 : ∀ H, pureCall (isa_number.f G (k + 4)) [mV 2 d n m a imm] H = _ := fun H => pureCall_of (H := H) (number_spec G (k + 3) ⟨2, d, n, m, a, imm⟩ h) rfl rfl
  unfold rightB at h
  rw [Bool.and_eq_true] at h
  obtain ⟨_, h⟩ := h
  simp only at h
  rw [h] at r2
  simp [formF, fairB, regB, extraB, immB, halfI, stackB] at h
  have c1 : convInt .u32 (I6 d) = some (W32 d) := q_cv32 (by omega) (by omega)
  have c2 : convInt .u32 (I6 n) = some (W32 n) := q_cv32 (by omega) (by omega)
  have c3 : convInt .u32 (I6 m) = some (W32 m) := q_cv32 (by omega) (by omega)
  have s1 := shl_p Tryd.prog 71 true (v := n) (p := 32) (b := 5) 5 rfl (by decide) rfl (by omega) (by omega)
  have s2 := shl_p Tryd.prog 71 true (v := m) (p := 65536) (b := 16) 16 rfl (by decide) rfl (by omega) (by omega)
  have o1 := or_f0 Tryd.prog 71 false (x := 4068474880) (v := d) (q := 32) 5 rfl (by omega) (by omega) (by omega) (by omega) (by omega)
  have o2 := or_fd Tryd.prog 71 false (x := 4068474880 + d) (v := n) (p := 32) (q := 1) 5 0 rfl rfl (by omega) (by omega) (by omega) (by omega) (by omega)
  have o3 := or_fd Tryd.prog 71 false (x := 4068474880 + d + n * 32) (v := m) (p := 65536) (q := 1) 16 0 rfl rfl (by omega) (by omega) (by omega) (by omega) (by omega)
  have e4 : wNum 2 a imm = a * 2097152 + imm * 32 := rfl
  have o4 : bin Tryd.prog .or 71 false (W32 (4068474880 + d + n * 32 + m * 65536)) (W32 (wNum 2 a imm)) = some (W32 (4068474880 + d + n * 32 + m * 65536 + wNum 2 a imm)) := by
    rw [e4]
    exact or_dj Tryd.prog 71 false (dj_add (dj_field (x := 4068474880 + d + n * 32 + m * 65536) (v := a) (p := 2097152) (q := 4) 21 2 rfl rfl (by omega) (by omega) (by omega) (by omega)) (dj_field (x := 4068474880 + d + n * 32 + m * 65536) (v := imm) (p := 32) (q := 65536) 5 16 rfl rfl (by omega) (by omega) (by omega) (by omega)) (dj_field (x := a * 2097152) (v := imm) (p := 32) (q := 65536) 5 16 rfl rfl (by omega) (by omega) (by omega) (by omega)) (by omega)) (by omega)
  have ef : formF 2 = ⟨(formF 2).nm, 4068474880, true, false, false, (formF 2).a, (formF 2).b⟩ := rfl
  have eo : isOp 2 = true := rfl
  have ew : wordF ⟨2, d, n, m, a, imm⟩ = 4068474880 + d + n * 32 + m * 65536 + wNum 2 a imm := rfl
  rw [ew]
  rw [eo, ef] at r1
  rw [ef] at r2
  rw [isa_Word.step]
  unfold isa_Word.c
  unfold Form.v at r1 r2
  clear e4 ef eo h ew
  generalize (formF 2).nm = nm at *
  generalize (formF 2).a = fa at *
  generalize (formF 2).b = fb at *
  generalize wNum 2 a imm = z at *
  refine e_in ?_
  repeat' first
    | (with_reducible first | refine eT ?_ | refine eN ?_ | refine eS ?_ | refine eXn ?_ | refine eXr ?_ | refine eX ?_ | refine eI ?_ | refine eK ?_ | refine eV0 ?_ | refine eGr0 ?_ | refine eGtt ?_ | refine eGff ?_ | refine eGtf ?_ | refine eGft ?_ | refine eGno ?_)
    | ((with_reducible apply eCn); (simp only [nth_zero, nth_succ]; first | done | (with_reducible exact rfl)))
    | ((with_reducible apply eJ); (rfl))
    | ((with_reducible apply eGr1); (first | rfl | (simp only [nth_zero, nth_succ]; rfl)))
    | ((with_reducible apply eB); (first | (with_reducible exact rfl) | (simp (disch := omega) only [qf, r1, r2, r3, c1, c2, c3, s1, s2, o1, o2, o3, o4]; first | done | (with_reducible exact rfl) | (with_reducible exact ⟨rfl, rfl⟩)) | (simp (disch := omega) only [qa, putC, AV.cells, storable, buildSt, fillA, buildRo, buildOwn, fillE, Nat.reduceLeDiff, Nat.reduceLT, Nat.reduceAdd, ↓reduceIte, r1, r2, r3, c1, c2, c3, s1, s2, o1, o2, o3, o4]; first | done | (with_reducible exact rfl) | (with_reducible exact ⟨rfl, rfl⟩))))
    | ((with_reducible apply eR); (simp only [nth_zero, nth_succ]; (with_reducible exact rfl)))
    | ((with_reducible first | refine sEql ?_ ?_ | refine sNeq ?_ ?_ | refine sLss ?_ ?_ | refine sLeq ?_ ?_ | refine sGtr ?_ ?_ | refine sGeq ?_ ?_ | refine sNot ?_ ?_ | refine sPick ?_ ?_ | refine sGd ?_ ?_ | refine eBool ?_ ?_) <;> intro hq <;> try subst hq)
  exact w2 rfl rfl rfl
theorem word_3 (G : Globs) (k : Nat) (d n m a imm : Int) (h : rightB ⟨3, d, n, m, a, imm⟩ = true) : isa_Word.f G (k + 5) [mV 3 d n m a imm] [] = some (.tup [W32 (wordF ⟨3, d, n, m, a, imm⟩), .bool true], []) := by
  have r1 : ∀ H, pureCall (isa_of.f G (k + 4)) [.int .i64 3] H = _ := fun H => pureCall_of (H := H) (of_spec G k 3) rfl rfl
  have r2 : ∀ H, pureCall (isa_fair.f G (k + 4)) [mV 3 d n m a imm, (formF 3).v] H = _ := fun H => pureCall_of (H := H) (fair_spec G (k + 1) 3 d n m a imm (formF 3) (form_bits 3)) rfl rfl
  have r3 : ∀ H, pureCall (isa_number.f G (k + 4)) [mV 3 d n m a imm] H = _ := fun H => pureCall_of (H := H) (number_spec G (k + 3) ⟨3, d, n, m, a, imm⟩ h) rfl rfl
  unfold rightB at h
  rw [Bool.and_eq_true] at h
  obtain ⟨_, h⟩ := h
  simp only at h
  rw [h] at r2
  simp [formF, fairB, regB, extraB, immB, halfI, stackB] at h
  have c1 : convInt .u32 (I6 d) = some (W32 d) := q_cv32 (by omega) (by omega)
  have c2 : convInt .u32 (I6 n) = some (W32 n) := q_cv32 (by omega) (by omega)
  have c3 : convInt .u32 (I6 m) = some (W32 m) := q_cv32 (by omega) (by omega)
  have s1 := shl_p Tryd.prog 71 true (v := n) (p := 32) (b := 5) 5 rfl (by decide) rfl (by omega) (by omega)
  have s2 := shl_p Tryd.prog 71 true (v := m) (p := 65536) (b := 16) 16 rfl (by decide) rfl (by omega) (by omega)
  have o1 := or_f0 Tryd.prog 71 false (x := 2332033024) (v := d) (q := 32) 5 rfl (by omega) (by omega) (by omega) (by omega) (by omega)
  have o2 := or_fd Tryd.prog 71 false (x := 2332033024 + d) (v := n) (p := 32) (q := 32) 5 5 rfl rfl (by omega) (by omega) (by omega) (by omega) (by omega)
  have o3 := or_fd Tryd.prog 71 false (x := 2332033024 + d + n * 32) (v := m) (p := 65536) (q := 32) 16 5 rfl rfl (by omega) (by omega) (by omega) (by omega) (by omega)
  have e4 : wNum 3 a imm = 0 := rfl
  have o4 : bin Tryd.prog .or 71 false (W32 (2332033024 + d + n * 32 + m * 65536)) (W32 (wNum 3 a imm)) = some (W32 (2332033024 + d + n * 32 + m * 65536 + wNum 3 a imm)) := by
    rw [e4]
    exact or_dj Tryd.prog 71 false (dj_zero (x := 2332033024 + d + n * 32 + m * 65536) (by omega)) (by omega)
  have ef : formF 3 = ⟨(formF 3).nm, 2332033024, true, true, true, (formF 3).a, (formF 3).b⟩ := rfl
  have eo : isOp 3 = true := rfl
  have ew : wordF ⟨3, d, n, m, a, imm⟩ = 2332033024 + d + n * 32 + m * 65536 + wNum 3 a imm := rfl
  rw [ew]
  rw [eo, ef] at r1
  rw [ef] at r2
  rw [isa_Word.step]
  unfold isa_Word.c
  unfold Form.v at r1 r2
  clear e4 ef eo h ew
  generalize (formF 3).nm = nm at *
  generalize (formF 3).a = fa at *
  generalize (formF 3).b = fb at *
  generalize wNum 3 a imm = z at *
  refine e_in ?_
  repeat' first
    | (with_reducible first | refine eT ?_ | refine eN ?_ | refine eS ?_ | refine eXn ?_ | refine eXr ?_ | refine eX ?_ | refine eI ?_ | refine eK ?_ | refine eV0 ?_ | refine eGr0 ?_ | refine eGtt ?_ | refine eGff ?_ | refine eGtf ?_ | refine eGft ?_ | refine eGno ?_)
    | ((with_reducible apply eCn); (simp only [nth_zero, nth_succ]; first | done | (with_reducible exact rfl)))
    | ((with_reducible apply eJ); (rfl))
    | ((with_reducible apply eGr1); (first | rfl | (simp only [nth_zero, nth_succ]; rfl)))
    | ((with_reducible apply eB); (first | (with_reducible exact rfl) | (simp (disch := omega) only [qf, r1, r2, r3, c1, c2, c3, s1, s2, o1, o2, o3, o4]; first | done | (with_reducible exact rfl) | (with_reducible exact ⟨rfl, rfl⟩)) | (simp (disch := omega) only [qa, putC, AV.cells, storable, buildSt, fillA, buildRo, buildOwn, fillE, Nat.reduceLeDiff, Nat.reduceLT, Nat.reduceAdd, ↓reduceIte, r1, r2, r3, c1, c2, c3, s1, s2, o1, o2, o3, o4]; first | done | (with_reducible exact rfl) | (with_reducible exact ⟨rfl, rfl⟩))))
    | ((with_reducible apply eR); (simp only [nth_zero, nth_succ]; (with_reducible exact rfl)))
    | ((with_reducible first | refine sEql ?_ ?_ | refine sNeq ?_ ?_ | refine sLss ?_ ?_ | refine sLeq ?_ ?_ | refine sGtr ?_ ?_ | refine sGeq ?_ ?_ | refine sNot ?_ ?_ | refine sPick ?_ ?_ | refine sGd ?_ ?_ | refine eBool ?_ ?_) <;> intro hq <;> try subst hq)
  exact w2 rfl rfl rfl
theorem word_4 (G : Globs) (k : Nat) (d n m a imm : Int) (h : rightB ⟨4, d, n, m, a, imm⟩ = true) : isa_Word.f G (k + 5) [mV 4 d n m a imm] [] = some (.tup [W32 (wordF ⟨4, d, n, m, a, imm⟩), .bool true], []) := by
  have r1 : ∀ H, pureCall (isa_of.f G (k + 4)) [.int .i64 4] H = _ := fun H => pureCall_of (H := H) (of_spec G k 4) rfl rfl
  have r2 : ∀ H, pureCall (isa_fair.f G (k + 4)) [mV 4 d n m a imm, (formF 4).v] H = _ := fun H => pureCall_of (H := H) (fair_spec G (k + 1) 4 d n m a imm (formF 4) (form_bits 4)) rfl rfl
  have r3 : ∀ H, pureCall (isa_number.f G (k + 4)) [mV 4 d n m a imm] H = _ := fun H => pureCall_of (H := H) (number_spec G (k + 3) ⟨4, d, n, m, a, imm⟩ h) rfl rfl
  unfold rightB at h
  rw [Bool.and_eq_true] at h
  obtain ⟨_, h⟩ := h
  simp only at h
  rw [h] at r2
  simp [formF, fairB, regB, extraB, immB, halfI, stackB] at h
  have c1 : convInt .u32 (I6 d) = some (W32 d) := q_cv32 (by omega) (by omega)
  have c2 : convInt .u32 (I6 n) = some (W32 n) := q_cv32 (by omega) (by omega)
  have c3 : convInt .u32 (I6 m) = some (W32 m) := q_cv32 (by omega) (by omega)
  have s1 := shl_p Tryd.prog 71 true (v := n) (p := 32) (b := 5) 5 rfl (by decide) rfl (by omega) (by omega)
  have s2 := shl_p Tryd.prog 71 true (v := m) (p := 65536) (b := 16) 16 rfl (by decide) rfl (by omega) (by omega)
  have o1 := or_f0 Tryd.prog 71 false (x := 3405774848) (v := d) (q := 32) 5 rfl (by omega) (by omega) (by omega) (by omega) (by omega)
  have o2 := or_fd Tryd.prog 71 false (x := 3405774848 + d) (v := n) (p := 32) (q := 32) 5 5 rfl rfl (by omega) (by omega) (by omega) (by omega) (by omega)
  have o3 := or_fd Tryd.prog 71 false (x := 3405774848 + d + n * 32) (v := m) (p := 65536) (q := 32) 16 5 rfl rfl (by omega) (by omega) (by omega) (by omega) (by omega)
  have e4 : wNum 4 a imm = 0 := rfl
  have o4 : bin Tryd.prog .or 71 false (W32 (3405774848 + d + n * 32 + m * 65536)) (W32 (wNum 4 a imm)) = some (W32 (3405774848 + d + n * 32 + m * 65536 + wNum 4 a imm)) := by
    rw [e4]
    exact or_dj Tryd.prog 71 false (dj_zero (x := 3405774848 + d + n * 32 + m * 65536) (by omega)) (by omega)
  have ef : formF 4 = ⟨(formF 4).nm, 3405774848, true, true, true, (formF 4).a, (formF 4).b⟩ := rfl
  have eo : isOp 4 = true := rfl
  have ew : wordF ⟨4, d, n, m, a, imm⟩ = 3405774848 + d + n * 32 + m * 65536 + wNum 4 a imm := rfl
  rw [ew]
  rw [eo, ef] at r1
  rw [ef] at r2
  rw [isa_Word.step]
  unfold isa_Word.c
  unfold Form.v at r1 r2
  clear e4 ef eo h ew
  generalize (formF 4).nm = nm at *
  generalize (formF 4).a = fa at *
  generalize (formF 4).b = fb at *
  generalize wNum 4 a imm = z at *
  refine e_in ?_
  repeat' first
    | (with_reducible first | refine eT ?_ | refine eN ?_ | refine eS ?_ | refine eXn ?_ | refine eXr ?_ | refine eX ?_ | refine eI ?_ | refine eK ?_ | refine eV0 ?_ | refine eGr0 ?_ | refine eGtt ?_ | refine eGff ?_ | refine eGtf ?_ | refine eGft ?_ | refine eGno ?_)
    | ((with_reducible apply eCn); (simp only [nth_zero, nth_succ]; first | done | (with_reducible exact rfl)))
    | ((with_reducible apply eJ); (rfl))
    | ((with_reducible apply eGr1); (first | rfl | (simp only [nth_zero, nth_succ]; rfl)))
    | ((with_reducible apply eB); (first | (with_reducible exact rfl) | (simp (disch := omega) only [qf, r1, r2, r3, c1, c2, c3, s1, s2, o1, o2, o3, o4]; first | done | (with_reducible exact rfl) | (with_reducible exact ⟨rfl, rfl⟩)) | (simp (disch := omega) only [qa, putC, AV.cells, storable, buildSt, fillA, buildRo, buildOwn, fillE, Nat.reduceLeDiff, Nat.reduceLT, Nat.reduceAdd, ↓reduceIte, r1, r2, r3, c1, c2, c3, s1, s2, o1, o2, o3, o4]; first | done | (with_reducible exact rfl) | (with_reducible exact ⟨rfl, rfl⟩))))
    | ((with_reducible apply eR); (simp only [nth_zero, nth_succ]; (with_reducible exact rfl)))
    | ((with_reducible first | refine sEql ?_ ?_ | refine sNeq ?_ ?_ | refine sLss ?_ ?_ | refine sLeq ?_ ?_ | refine sGtr ?_ ?_ | refine sGeq ?_ ?_ | refine sNot ?_ ?_ | refine sPick ?_ ?_ | refine sGd ?_ ?_ | refine eBool ?_ ?_) <;> intro hq <;> try subst hq)
  exact w2 rfl rfl rfl
theorem word_5 (G : Globs) (k : Nat) (d n m a imm : Int) (h : rightB ⟨5, d, n, m, a, imm⟩ = true) : isa_Word.f G (k + 5) [mV 5 d n m a imm] [] = some (.tup [W32 (wordF ⟨5, d, n, m, a, imm⟩), .bool true], []) := by
  have r1 : ∀ H, pureCall (isa_of.f G (k + 4)) [.int .i64 5] H = _ := fun H => pureCall_of (H := H) (of_spec G k 5) rfl rfl
  have r2 : ∀ H, pureCall (isa_fair.f G (k + 4)) [mV 5 d n m a imm, (formF 5).v] H = _ := fun H => pureCall_of (H := H) (fair_spec G (k + 1) 5 d n m a imm (formF 5) (form_bits 5)) rfl rfl
  have r3 : ∀ H, pureCall (isa_number.f G (k + 4)) [mV 5 d n m a imm] H = _ := fun H => pureCall_of (H := H) (number_spec G (k + 3) ⟨5, d, n, m, a, imm⟩ h) rfl rfl
  unfold rightB at h
  rw [Bool.and_eq_true] at h
  obtain ⟨_, h⟩ := h
  simp only at h
  rw [h] at r2
  simp [formF, fairB, regB, extraB, immB, halfI, stackB] at h
  have c1 : convInt .u32 (I6 d) = some (W32 d) := q_cv32 (by omega) (by omega)
  have c2 : convInt .u32 (I6 n) = some (W32 n) := q_cv32 (by omega) (by omega)
  have c3 : convInt .u32 (I6 m) = some (W32 m) := q_cv32 (by omega) (by omega)
  have s1 := shl_p Tryd.prog 71 true (v := n) (p := 32) (b := 5) 5 rfl (by decide) rfl (by omega) (by omega)
  have s2 := shl_p Tryd.prog 71 true (v := m) (p := 65536) (b := 16) 16 rfl (by decide) rfl (by omega) (by omega)
  have o1 := or_f0 Tryd.prog 71 false (x := 2315255808) (v := d) (q := 32) 5 rfl (by omega) (by omega) (by omega) (by omega) (by omega)
  have o2 := or_fd Tryd.prog 71 false (x := 2315255808 + d) (v := n) (p := 32) (q := 32) 5 5 rfl rfl (by omega) (by omega) (by omega) (by omega) (by omega)
  have o3 := or_fd Tryd.prog 71 false (x := 2315255808 + d + n * 32) (v := m) (p := 65536) (q := 32) 16 5 rfl rfl (by omega) (by omega) (by omega) (by omega) (by omega)
  have e4 : wNum 5 a imm = 0 := rfl
  have o4 : bin Tryd.prog .or 71 false (W32 (2315255808 + d + n * 32 + m * 65536)) (W32 (wNum 5 a imm)) = some (W32 (2315255808 + d + n * 32 + m * 65536 + wNum 5 a imm)) := by
    rw [e4]
    exact or_dj Tryd.prog 71 false (dj_zero (x := 2315255808 + d + n * 32 + m * 65536) (by omega)) (by omega)
  have ef : formF 5 = ⟨(formF 5).nm, 2315255808, true, true, true, (formF 5).a, (formF 5).b⟩ := rfl
  have eo : isOp 5 = true := rfl
  have ew : wordF ⟨5, d, n, m, a, imm⟩ = 2315255808 + d + n * 32 + m * 65536 + wNum 5 a imm := rfl
  rw [ew]
  rw [eo, ef] at r1
  rw [ef] at r2
  rw [isa_Word.step]
  unfold isa_Word.c
  unfold Form.v at r1 r2
  clear e4 ef eo h ew
  generalize (formF 5).nm = nm at *
  generalize (formF 5).a = fa at *
  generalize (formF 5).b = fb at *
  generalize wNum 5 a imm = z at *
  refine e_in ?_
  repeat' first
    | (with_reducible first | refine eT ?_ | refine eN ?_ | refine eS ?_ | refine eXn ?_ | refine eXr ?_ | refine eX ?_ | refine eI ?_ | refine eK ?_ | refine eV0 ?_ | refine eGr0 ?_ | refine eGtt ?_ | refine eGff ?_ | refine eGtf ?_ | refine eGft ?_ | refine eGno ?_)
    | ((with_reducible apply eCn); (simp only [nth_zero, nth_succ]; first | done | (with_reducible exact rfl)))
    | ((with_reducible apply eJ); (rfl))
    | ((with_reducible apply eGr1); (first | rfl | (simp only [nth_zero, nth_succ]; rfl)))
    | ((with_reducible apply eB); (first | (with_reducible exact rfl) | (simp (disch := omega) only [qf, r1, r2, r3, c1, c2, c3, s1, s2, o1, o2, o3, o4]; first | done | (with_reducible exact rfl) | (with_reducible exact ⟨rfl, rfl⟩)) | (simp (disch := omega) only [qa, putC, AV.cells, storable, buildSt, fillA, buildRo, buildOwn, fillE, Nat.reduceLeDiff, Nat.reduceLT, Nat.reduceAdd, ↓reduceIte, r1, r2, r3, c1, c2, c3, s1, s2, o1, o2, o3, o4]; first | done | (with_reducible exact rfl) | (with_reducible exact ⟨rfl, rfl⟩))))
    | ((with_reducible apply eR); (simp only [nth_zero, nth_succ]; (with_reducible exact rfl)))
    | ((with_reducible first | refine sEql ?_ ?_ | refine sNeq ?_ ?_ | refine sLss ?_ ?_ | refine sLeq ?_ ?_ | refine sGtr ?_ ?_ | refine sGeq ?_ ?_ | refine sNot ?_ ?_ | refine sPick ?_ ?_ | refine sGd ?_ ?_ | refine eBool ?_ ?_) <;> intro hq <;> try subst hq)
  exact w2 rfl rfl rfl
theorem word_6 (G : Globs) (k : Nat) (d n m a imm : Int) (h : rightB ⟨6, d, n, m, a, imm⟩ = true) : isa_Word.f G (k + 5) [mV 6 d n m a imm] [] = some (.tup [W32 (wordF ⟨6, d, n, m, a, imm⟩), .bool true], []) := by
  have r1 : ∀ H, pureCall (isa_of.f G (k + 4)) [.int .i64 6] H = _ := fun H => pureCall_of (H := H) (of_spec G k 6) rfl rfl
  have r2 : ∀ H, pureCall (isa_fair.f G (k + 4)) [mV 6 d n m a imm, (formF 6).v] H = _ := fun H => pureCall_of (H := H) (fair_spec G (k + 1) 6 d n m a imm (formF 6) (form_bits 6)) rfl rfl
  have r3 : ∀ H, pureCall (isa_number.f G (k + 4)) [mV 6 d n m a imm] H = _ := fun H => pureCall_of (H := H) (number_spec G (k + 3) ⟨6, d, n, m, a, imm⟩ h) rfl rfl
  unfold rightB at h
  rw [Bool.and_eq_true] at h
  obtain ⟨_, h⟩ := h
  simp only at h
  rw [h] at r2
  simp [formF, fairB, regB, extraB, immB, halfI, stackB] at h
  have c1 : convInt .u32 (I6 d) = some (W32 d) := q_cv32 (by omega) (by omega)
  have c2 : convInt .u32 (I6 n) = some (W32 n) := q_cv32 (by omega) (by omega)
  have c3 : convInt .u32 (I6 m) = some (W32 m) := q_cv32 (by omega) (by omega)
  have s1 := shl_p Tryd.prog 71 true (v := n) (p := 32) (b := 5) 5 rfl (by decide) rfl (by omega) (by omega)
  have s2 := shl_p Tryd.prog 71 true (v := m) (p := 65536) (b := 16) 16 rfl (by decide) rfl (by omega) (by omega)
  have o1 := or_f0 Tryd.prog 71 false (x := 2852126720) (v := d) (q := 32) 5 rfl (by omega) (by omega) (by omega) (by omega) (by omega)
  have o2 := or_fd Tryd.prog 71 false (x := 2852126720 + d) (v := n) (p := 32) (q := 32) 5 5 rfl rfl (by omega) (by omega) (by omega) (by omega) (by omega)
  have o3 := or_fd Tryd.prog 71 false (x := 2852126720 + d + n * 32) (v := m) (p := 65536) (q := 32) 16 5 rfl rfl (by omega) (by omega) (by omega) (by omega) (by omega)
  have e4 : wNum 6 a imm = 0 := rfl
  have o4 : bin Tryd.prog .or 71 false (W32 (2852126720 + d + n * 32 + m * 65536)) (W32 (wNum 6 a imm)) = some (W32 (2852126720 + d + n * 32 + m * 65536 + wNum 6 a imm)) := by
    rw [e4]
    exact or_dj Tryd.prog 71 false (dj_zero (x := 2852126720 + d + n * 32 + m * 65536) (by omega)) (by omega)
  have ef : formF 6 = ⟨(formF 6).nm, 2852126720, true, true, true, (formF 6).a, (formF 6).b⟩ := rfl
  have eo : isOp 6 = true := rfl
  have ew : wordF ⟨6, d, n, m, a, imm⟩ = 2852126720 + d + n * 32 + m * 65536 + wNum 6 a imm := rfl
  rw [ew]
  rw [eo, ef] at r1
  rw [ef] at r2
  rw [isa_Word.step]
  unfold isa_Word.c
  unfold Form.v at r1 r2
  clear e4 ef eo h ew
  generalize (formF 6).nm = nm at *
  generalize (formF 6).a = fa at *
  generalize (formF 6).b = fb at *
  generalize wNum 6 a imm = z at *
  refine e_in ?_
  repeat' first
    | (with_reducible first | refine eT ?_ | refine eN ?_ | refine eS ?_ | refine eXn ?_ | refine eXr ?_ | refine eX ?_ | refine eI ?_ | refine eK ?_ | refine eV0 ?_ | refine eGr0 ?_ | refine eGtt ?_ | refine eGff ?_ | refine eGtf ?_ | refine eGft ?_ | refine eGno ?_)
    | ((with_reducible apply eCn); (simp only [nth_zero, nth_succ]; first | done | (with_reducible exact rfl)))
    | ((with_reducible apply eJ); (rfl))
    | ((with_reducible apply eGr1); (first | rfl | (simp only [nth_zero, nth_succ]; rfl)))
    | ((with_reducible apply eB); (first | (with_reducible exact rfl) | (simp (disch := omega) only [qf, r1, r2, r3, c1, c2, c3, s1, s2, o1, o2, o3, o4]; first | done | (with_reducible exact rfl) | (with_reducible exact ⟨rfl, rfl⟩)) | (simp (disch := omega) only [qa, putC, AV.cells, storable, buildSt, fillA, buildRo, buildOwn, fillE, Nat.reduceLeDiff, Nat.reduceLT, Nat.reduceAdd, ↓reduceIte, r1, r2, r3, c1, c2, c3, s1, s2, o1, o2, o3, o4]; first | done | (with_reducible exact rfl) | (with_reducible exact ⟨rfl, rfl⟩))))
    | ((with_reducible apply eR); (simp only [nth_zero, nth_succ]; (with_reducible exact rfl)))
    | ((with_reducible first | refine sEql ?_ ?_ | refine sNeq ?_ ?_ | refine sLss ?_ ?_ | refine sLeq ?_ ?_ | refine sGtr ?_ ?_ | refine sGeq ?_ ?_ | refine sNot ?_ ?_ | refine sPick ?_ ?_ | refine sGd ?_ ?_ | refine eBool ?_ ?_) <;> intro hq <;> try subst hq)
  exact w2 rfl rfl rfl
theorem word_7 (G : Globs) (k : Nat) (d n m a imm : Int) (h : rightB ⟨7, d, n, m, a, imm⟩ = true) : isa_Word.f G (k + 5) [mV 7 d n m a imm] [] = some (.tup [W32 (wordF ⟨7, d, n, m, a, imm⟩), .bool true], []) := by
  have r1 : ∀ H, pureCall (isa_of.f G (k + 4)) [.int .i64 7] H = _ := fun H => pureCall_of (H := H) (of_spec G k 7) rfl rfl
  have r2 : ∀ H, pureCall (isa_fair.f G (k + 4)) [mV 7 d n m a imm, (formF 7).v] H = _ := fun H => pureCall_of (H := H) (fair_spec G (k + 1) 7 d n m a imm (formF 7) (form_bits 7)) rfl rfl
  have r3 : ∀ H, pureCall (isa_number.f G (k + 4)) [mV 7 d n m a imm] H = _ := fun H => pureCall_of (H := H) (number_spec G (k + 3) ⟨7, d, n, m, a, imm⟩ h) rfl rfl
  unfold rightB at h
  rw [Bool.and_eq_true] at h
  obtain ⟨_, h⟩ := h
  simp only at h
  rw [h] at r2
  simp [formF, fairB, regB, extraB, immB, halfI, stackB] at h
  have c1 : convInt .u32 (I6 d) = some (W32 d) := q_cv32 (by omega) (by omega)
  have c2 : convInt .u32 (I6 n) = some (W32 n) := q_cv32 (by omega) (by omega)
  have c3 : convInt .u32 (I6 m) = some (W32 m) := q_cv32 (by omega) (by omega)
  have s1 := shl_p Tryd.prog 71 true (v := n) (p := 32) (b := 5) 5 rfl (by decide) rfl (by omega) (by omega)
  have s2 := shl_p Tryd.prog 71 true (v := m) (p := 65536) (b := 16) 16 rfl (by decide) rfl (by omega) (by omega)
  have o1 := or_f0 Tryd.prog 71 false (x := 3388997632) (v := d) (q := 32) 5 rfl (by omega) (by omega) (by omega) (by omega) (by omega)
  have o2 := or_fd Tryd.prog 71 false (x := 3388997632 + d) (v := n) (p := 32) (q := 32) 5 5 rfl rfl (by omega) (by omega) (by omega) (by omega) (by omega)
  have o3 := or_fd Tryd.prog 71 false (x := 3388997632 + d + n * 32) (v := m) (p := 65536) (q := 32) 16 5 rfl rfl (by omega) (by omega) (by omega) (by omega) (by omega)
  have e4 : wNum 7 a imm = 0 := rfl
  have o4 : bin Tryd.prog .or 71 false (W32 (3388997632 + d + n * 32 + m * 65536)) (W32 (wNum 7 a imm)) = some (W32 (3388997632 + d + n * 32 + m * 65536 + wNum 7 a imm)) := by
    rw [e4]
    exact or_dj Tryd.prog 71 false (dj_zero (x := 3388997632 + d + n * 32 + m * 65536) (by omega)) (by omega)
  have ef : formF 7 = ⟨(formF 7).nm, 3388997632, true, true, true, (formF 7).a, (formF 7).b⟩ := rfl
  have eo : isOp 7 = true := rfl
  have ew : wordF ⟨7, d, n, m, a, imm⟩ = 3388997632 + d + n * 32 + m * 65536 + wNum 7 a imm := rfl
  rw [ew]
  rw [eo, ef] at r1
  rw [ef] at r2
  rw [isa_Word.step]
  unfold isa_Word.c
  unfold Form.v at r1 r2
  clear e4 ef eo h ew
  generalize (formF 7).nm = nm at *
  generalize (formF 7).a = fa at *
  generalize (formF 7).b = fb at *
  generalize wNum 7 a imm = z at *
  refine e_in ?_
  repeat' first
    | (with_reducible first | refine eT ?_ | refine eN ?_ | refine eS ?_ | refine eXn ?_ | refine eXr ?_ | refine eX ?_ | refine eI ?_ | refine eK ?_ | refine eV0 ?_ | refine eGr0 ?_ | refine eGtt ?_ | refine eGff ?_ | refine eGtf ?_ | refine eGft ?_ | refine eGno ?_)
    | ((with_reducible apply eCn); (simp only [nth_zero, nth_succ]; first | done | (with_reducible exact rfl)))
    | ((with_reducible apply eJ); (rfl))
    | ((with_reducible apply eGr1); (first | rfl | (simp only [nth_zero, nth_succ]; rfl)))
    | ((with_reducible apply eB); (first | (with_reducible exact rfl) | (simp (disch := omega) only [qf, r1, r2, r3, c1, c2, c3, s1, s2, o1, o2, o3, o4]; first | done | (with_reducible exact rfl) | (with_reducible exact ⟨rfl, rfl⟩)) | (simp (disch := omega) only [qa, putC, AV.cells, storable, buildSt, fillA, buildRo, buildOwn, fillE, Nat.reduceLeDiff, Nat.reduceLT, Nat.reduceAdd, ↓reduceIte, r1, r2, r3, c1, c2, c3, s1, s2, o1, o2, o3, o4]; first | done | (with_reducible exact rfl) | (with_reducible exact ⟨rfl, rfl⟩))))
    | ((with_reducible apply eR); (simp only [nth_zero, nth_succ]; (with_reducible exact rfl)))
    | ((with_reducible first | refine sEql ?_ ?_ | refine sNeq ?_ ?_ | refine sLss ?_ ?_ | refine sLeq ?_ ?_ | refine sGtr ?_ ?_ | refine sGeq ?_ ?_ | refine sNot ?_ ?_ | refine sPick ?_ ?_ | refine sGd ?_ ?_ | refine eBool ?_ ?_) <;> intro hq <;> try subst hq)
  exact w2 rfl rfl rfl
theorem word_8 (G : Globs) (k : Nat) (d n m a imm : Int) (h : rightB ⟨8, d, n, m, a, imm⟩ = true) : isa_Word.f G (k + 5) [mV 8 d n m a imm] [] = some (.tup [W32 (wordF ⟨8, d, n, m, a, imm⟩), .bool true], []) := by
  have r1 : ∀ H, pureCall (isa_of.f G (k + 4)) [.int .i64 8] H = _ := fun H => pureCall_of (H := H) (of_spec G k 8) rfl rfl
  have r2 : ∀ H, pureCall (isa_fair.f G (k + 4)) [mV 8 d n m a imm, (formF 8).v] H = _ := fun H => pureCall_of (H := H) (fair_spec G (k + 1) 8 d n m a imm (formF 8) (form_bits 8)) rfl rfl
  have r3 : ∀ H, pureCall (isa_number.f G (k + 4)) [mV 8 d n m a imm] H = _ := fun H => pureCall_of (H := H) (number_spec G (k + 3) ⟨8, d, n, m, a, imm⟩ h) rfl rfl
  unfold rightB at h
  rw [Bool.and_eq_true] at h
  obtain ⟨_, h⟩ := h
  simp only at h
  rw [h] at r2
  simp [formF, fairB, regB, extraB, immB, halfI, stackB] at h
  have c1 : convInt .u32 (I6 d) = some (W32 d) := q_cv32 (by omega) (by omega)
  have c2 : convInt .u32 (I6 n) = some (W32 n) := q_cv32 (by omega) (by omega)
  have c3 : convInt .u32 (I6 m) = some (W32 m) := q_cv32 (by omega) (by omega)
  have s1 := shl_p Tryd.prog 71 true (v := n) (p := 32) (b := 5) 5 rfl (by decide) rfl (by omega) (by omega)
  have s2 := shl_p Tryd.prog 71 true (v := m) (p := 65536) (b := 16) 16 rfl (by decide) rfl (by omega) (by omega)
  have o1 := or_f0 Tryd.prog 71 false (x := 2600468480) (v := d) (q := 32) 5 rfl (by omega) (by omega) (by omega) (by omega) (by omega)
  have o2 := or_fd Tryd.prog 71 false (x := 2600468480 + d) (v := n) (p := 32) (q := 32) 5 5 rfl rfl (by omega) (by omega) (by omega) (by omega) (by omega)
  have o3 := or_fd Tryd.prog 71 false (x := 2600468480 + d + n * 32) (v := m) (p := 65536) (q := 32) 16 5 rfl rfl (by omega) (by omega) (by omega) (by omega) (by omega)
  have e4 : wNum 8 a imm = a * 1024 := rfl
  have o4 : bin Tryd.prog .or 71 false (W32 (2600468480 + d + n * 32 + m * 65536)) (W32 (wNum 8 a imm)) = some (W32 (2600468480 + d + n * 32 + m * 65536 + wNum 8 a imm)) := by
    rw [e4]
    exact or_dj Tryd.prog 71 false ((dj_field (x := 2600468480 + d + n * 32 + m * 65536) (v := a) (p := 1024) (q := 32) 10 5 rfl rfl (by omega) (by omega) (by omega) (by omega))) (by omega)
  have ef : formF 8 = ⟨(formF 8).nm, 2600468480, true, true, true, (formF 8).a, (formF 8).b⟩ := rfl
  have eo : isOp 8 = true := rfl
  have ew : wordF ⟨8, d, n, m, a, imm⟩ = 2600468480 + d + n * 32 + m * 65536 + wNum 8 a imm := rfl
  rw [ew]
  rw [eo, ef] at r1
  rw [ef] at r2
  rw [isa_Word.step]
  unfold isa_Word.c
  unfold Form.v at r1 r2
  clear e4 ef eo h ew
  generalize (formF 8).nm = nm at *
  generalize (formF 8).a = fa at *
  generalize (formF 8).b = fb at *
  generalize wNum 8 a imm = z at *
  refine e_in ?_
  repeat' first
    | (with_reducible first | refine eT ?_ | refine eN ?_ | refine eS ?_ | refine eXn ?_ | refine eXr ?_ | refine eX ?_ | refine eI ?_ | refine eK ?_ | refine eV0 ?_ | refine eGr0 ?_ | refine eGtt ?_ | refine eGff ?_ | refine eGtf ?_ | refine eGft ?_ | refine eGno ?_)
    | ((with_reducible apply eCn); (simp only [nth_zero, nth_succ]; first | done | (with_reducible exact rfl)))
    | ((with_reducible apply eJ); (rfl))
    | ((with_reducible apply eGr1); (first | rfl | (simp only [nth_zero, nth_succ]; rfl)))
    | ((with_reducible apply eB); (first | (with_reducible exact rfl) | (simp (disch := omega) only [qf, r1, r2, r3, c1, c2, c3, s1, s2, o1, o2, o3, o4]; first | done | (with_reducible exact rfl) | (with_reducible exact ⟨rfl, rfl⟩)) | (simp (disch := omega) only [qa, putC, AV.cells, storable, buildSt, fillA, buildRo, buildOwn, fillE, Nat.reduceLeDiff, Nat.reduceLT, Nat.reduceAdd, ↓reduceIte, r1, r2, r3, c1, c2, c3, s1, s2, o1, o2, o3, o4]; first | done | (with_reducible exact rfl) | (with_reducible exact ⟨rfl, rfl⟩))))
    | ((with_reducible apply eR); (simp only [nth_zero, nth_succ]; (with_reducible exact rfl)))
    | ((with_reducible first | refine sEql ?_ ?_ | refine sNeq ?_ ?_ | refine sLss ?_ ?_ | refine sLeq ?_ ?_ | refine sGtr ?_ ?_ | refine sGeq ?_ ?_ | refine sNot ?_ ?_ | refine sPick ?_ ?_ | refine sGd ?_ ?_ | refine eBool ?_ ?_) <;> intro hq <;> try subst hq)
  exact w2 rfl rfl rfl
theorem word_9 (G : Globs) (k : Nat) (d n m a imm : Int) (h : rightB ⟨9, d, n, m, a, imm⟩ = true) : isa_Word.f G (k + 5) [mV 9 d n m a imm] [] = some (.tup [W32 (wordF ⟨9, d, n, m, a, imm⟩), .bool true], []) := by
  have r1 : ∀ H, pureCall (isa_of.f G (k + 4)) [.int .i64 9] H = _ := fun H => pureCall_of (H := H) (of_spec G k 9) rfl rfl
  have r2 : ∀ H, pureCall (isa_fair.f G (k + 4)) [mV 9 d n m a imm, (formF 9).v] H = _ := fun H => pureCall_of (H := H) (fair_spec G (k + 1) 9 d n m a imm (formF 9) (form_bits 9)) rfl rfl
  have r3 : ∀ H, pureCall (isa_number.f G (k + 4)) [mV 9 d n m a imm] H = _ := fun H => pureCall_of (H := H) (number_spec G (k + 3) ⟨9, d, n, m, a, imm⟩ h) rfl rfl
  unfold rightB at h
  rw [Bool.and_eq_true] at h
  obtain ⟨_, h⟩ := h
  simp only at h
  rw [h] at r2
  simp [formF, fairB, regB, extraB, immB, halfI, stackB] at h
  have c1 : convInt .u32 (I6 d) = some (W32 d) := q_cv32 (by omega) (by omega)
  have c2 : convInt .u32 (I6 n) = some (W32 n) := q_cv32 (by omega) (by omega)
  have c3 : convInt .u32 (I6 m) = some (W32 m) := q_cv32 (by omega) (by omega)
  have s1 := shl_p Tryd.prog 71 true (v := n) (p := 32) (b := 5) 5 rfl (by decide) rfl (by omega) (by omega)
  have s2 := shl_p Tryd.prog 71 true (v := m) (p := 65536) (b := 16) 16 rfl (by decide) rfl (by omega) (by omega)
  have o1 := or_f0 Tryd.prog 71 false (x := 2613083136) (v := d) (q := 32) 5 rfl (by omega) (by omega) (by omega) (by omega) (by omega)
  have o2 := or_fd Tryd.prog 71 false (x := 2613083136 + d) (v := n) (p := 32) (q := 32) 5 5 rfl rfl (by omega) (by omega) (by omega) (by omega) (by omega)
  have o3 := or_fd Tryd.prog 71 false (x := 2613083136 + d + n * 32) (v := m) (p := 65536) (q := 32) 16 5 rfl rfl (by omega) (by omega) (by omega) (by omega) (by omega)
  have e4 : wNum 9 a imm = 0 := rfl
  have o4 : bin Tryd.prog .or 71 false (W32 (2613083136 + d + n * 32 + m * 65536)) (W32 (wNum 9 a imm)) = some (W32 (2613083136 + d + n * 32 + m * 65536 + wNum 9 a imm)) := by
    rw [e4]
    exact or_dj Tryd.prog 71 false (dj_zero (x := 2613083136 + d + n * 32 + m * 65536) (by omega)) (by omega)
  have ef : formF 9 = ⟨(formF 9).nm, 2613083136, true, true, true, (formF 9).a, (formF 9).b⟩ := rfl
  have eo : isOp 9 = true := rfl
  have ew : wordF ⟨9, d, n, m, a, imm⟩ = 2613083136 + d + n * 32 + m * 65536 + wNum 9 a imm := rfl
  rw [ew]
  rw [eo, ef] at r1
  rw [ef] at r2
  rw [isa_Word.step]
  unfold isa_Word.c
  unfold Form.v at r1 r2
  clear e4 ef eo h ew
  generalize (formF 9).nm = nm at *
  generalize (formF 9).a = fa at *
  generalize (formF 9).b = fb at *
  generalize wNum 9 a imm = z at *
  refine e_in ?_
  repeat' first
    | (with_reducible first | refine eT ?_ | refine eN ?_ | refine eS ?_ | refine eXn ?_ | refine eXr ?_ | refine eX ?_ | refine eI ?_ | refine eK ?_ | refine eV0 ?_ | refine eGr0 ?_ | refine eGtt ?_ | refine eGff ?_ | refine eGtf ?_ | refine eGft ?_ | refine eGno ?_)
    | ((with_reducible apply eCn); (simp only [nth_zero, nth_succ]; first | done | (with_reducible exact rfl)))
    | ((with_reducible apply eJ); (rfl))
    | ((with_reducible apply eGr1); (first | rfl | (simp only [nth_zero, nth_succ]; rfl)))
    | ((with_reducible apply eB); (first | (with_reducible exact rfl) | (simp (disch := omega) only [qf, r1, r2, r3, c1, c2, c3, s1, s2, o1, o2, o3, o4]; first | done | (with_reducible exact rfl) | (with_reducible exact ⟨rfl, rfl⟩)) | (simp (disch := omega) only [qa, putC, AV.cells, storable, buildSt, fillA, buildRo, buildOwn, fillE, Nat.reduceLeDiff, Nat.reduceLT, Nat.reduceAdd, ↓reduceIte, r1, r2, r3, c1, c2, c3, s1, s2, o1, o2, o3, o4]; first | done | (with_reducible exact rfl) | (with_reducible exact ⟨rfl, rfl⟩))))
    | ((with_reducible apply eR); (simp only [nth_zero, nth_succ]; (with_reducible exact rfl)))
    | ((with_reducible first | refine sEql ?_ ?_ | refine sNeq ?_ ?_ | refine sLss ?_ ?_ | refine sLeq ?_ ?_ | refine sGtr ?_ ?_ | refine sGeq ?_ ?_ | refine sNot ?_ ?_ | refine sPick ?_ ?_ | refine sGd ?_ ?_ | refine eBool ?_ ?_) <;> intro hq <;> try subst hq)
  exact w2 rfl rfl rfl
theorem word_10 (G : Globs) (k : Nat) (d n m a imm : Int) (h : rightB ⟨10, d, n, m, a, imm⟩ = true) : isa_Word.f G (k + 5) [mV 10 d n m a imm] [] = some (.tup [W32 (wordF ⟨10, d, n, m, a, imm⟩), .bool true], []) := by
  have r1 : ∀ H, pureCall (isa_of.f G (k + 4)) [.int .i64 10] H = _ := fun H => pureCall_of (H := H) (of_spec G k 10) rfl rfl
  have r2 : ∀ H, pureCall (isa_fair.f G (k + 4)) [mV 10 d n m a imm, (formF 10).v] H = _ := fun H => pureCall_of (H := H) (fair_spec G (k + 1) 10 d n m a imm (formF 10) (form_bits 10)) rfl rfl
  have r3 : ∀ H, pureCall (isa_number.f G (k + 4)) [mV 10 d n m a imm] H = _ := fun H => pureCall_of (H := H) (number_spec G (k + 3) ⟨10, d, n, m, a, imm⟩ h) rfl rfl
  unfold rightB at h
  rw [Bool.and_eq_true] at h
  obtain ⟨_, h⟩ := h
  simp only at h
  rw [h] at r2
  simp [formF, fairB, regB, extraB, immB, halfI, stackB] at h
  have c1 : convInt .u32 (I6 d) = some (W32 d) := q_cv32 (by omega) (by omega)
  have c2 : convInt .u32 (I6 n) = some (W32 n) := q_cv32 (by omega) (by omega)
  have c3 : convInt .u32 (I6 m) = some (W32 m) := q_cv32 (by omega) (by omega)
  have s1 := shl_p Tryd.prog 71 true (v := n) (p := 32) (b := 5) 5 rfl (by decide) rfl (by omega) (by omega)
  have s2 := shl_p Tryd.prog 71 true (v := m) (p := 65536) (b := 16) 16 rfl (by decide) rfl (by omega) (by omega)
  have o1 := or_f0 Tryd.prog 71 false (x := 2432696320) (v := d) (q := 32) 5 rfl (by omega) (by omega) (by omega) (by omega) (by omega)
  have o2 := or_fd Tryd.prog 71 false (x := 2432696320 + d) (v := n) (p := 32) (q := 32) 5 5 rfl rfl (by omega) (by omega) (by omega) (by omega) (by omega)
  have o3 := or_fd Tryd.prog 71 false (x := 2432696320 + d + n * 32) (v := m) (p := 65536) (q := 1) 16 0 rfl rfl (by omega) (by omega) (by omega) (by omega) (by omega)
  have e4 : wNum 10 a imm = imm * 1024 := rfl
  have o4 : bin Tryd.prog .or 71 false (W32 (2432696320 + d + n * 32 + m * 65536)) (W32 (wNum 10 a imm)) = some (W32 (2432696320 + d + n * 32 + m * 65536 + wNum 10 a imm)) := by
    rw [e4]
    exact or_dj Tryd.prog 71 false ((dj_field (x := 2432696320 + d + n * 32 + m * 65536) (v := imm) (p := 1024) (q := 4096) 10 12 rfl rfl (by omega) (by omega) (by omega) (by omega))) (by omega)
  have ef : formF 10 = ⟨(formF 10).nm, 2432696320, true, true, false, (formF 10).a, (formF 10).b⟩ := rfl
  have eo : isOp 10 = true := rfl
  have ew : wordF ⟨10, d, n, m, a, imm⟩ = 2432696320 + d + n * 32 + m * 65536 + wNum 10 a imm := rfl
  rw [ew]
  rw [eo, ef] at r1
  rw [ef] at r2
  rw [isa_Word.step]
  unfold isa_Word.c
  unfold Form.v at r1 r2
  clear e4 ef eo h ew
  generalize (formF 10).nm = nm at *
  generalize (formF 10).a = fa at *
  generalize (formF 10).b = fb at *
  generalize wNum 10 a imm = z at *
  refine e_in ?_
  repeat' first
    | (with_reducible first | refine eT ?_ | refine eN ?_ | refine eS ?_ | refine eXn ?_ | refine eXr ?_ | refine eX ?_ | refine eI ?_ | refine eK ?_ | refine eV0 ?_ | refine eGr0 ?_ | refine eGtt ?_ | refine eGff ?_ | refine eGtf ?_ | refine eGft ?_ | refine eGno ?_)
    | ((with_reducible apply eCn); (simp only [nth_zero, nth_succ]; first | done | (with_reducible exact rfl)))
    | ((with_reducible apply eJ); (rfl))
    | ((with_reducible apply eGr1); (first | rfl | (simp only [nth_zero, nth_succ]; rfl)))
    | ((with_reducible apply eB); (first | (with_reducible exact rfl) | (simp (disch := omega) only [qf, r1, r2, r3, c1, c2, c3, s1, s2, o1, o2, o3, o4]; first | done | (with_reducible exact rfl) | (with_reducible exact ⟨rfl, rfl⟩)) | (simp (disch := omega) only [qa, putC, AV.cells, storable, buildSt, fillA, buildRo, buildOwn, fillE, Nat.reduceLeDiff, Nat.reduceLT, Nat.reduceAdd, ↓reduceIte, r1, r2, r3, c1, c2, c3, s1, s2, o1, o2, o3, o4]; first | done | (with_reducible exact rfl) | (with_reducible exact ⟨rfl, rfl⟩))))
    | ((with_reducible apply eR); (simp only [nth_zero, nth_succ]; (with_reducible exact rfl)))
    | ((with_reducible first | refine sEql ?_ ?_ | refine sNeq ?_ ?_ | refine sLss ?_ ?_ | refine sLeq ?_ ?_ | refine sGtr ?_ ?_ | refine sGeq ?_ ?_ | refine sNot ?_ ?_ | refine sPick ?_ ?_ | refine sGd ?_ ?_ | refine eBool ?_ ?_) <;> intro hq <;> try subst hq)
  exact w2 rfl rfl rfl
theorem word_11 (G : Globs) (k : Nat) (d n m a imm : Int) (h : rightB ⟨11, d, n, m, a, imm⟩ = true) : isa_Word.f G (k + 5) [mV 11 d n m a imm] [] = some (.tup [W32 (wordF ⟨11, d, n, m, a, imm⟩), .bool true], []) := by
  have r1 : ∀ H, pureCall (isa_of.f G (k + 4)) [.int .i64 11] H = _ := fun H => pureCall_of (H := H) (of_spec G k 11) rfl rfl
  have r2 : ∀ H, pureCall (isa_fair.f G (k + 4)) [mV 11 d n m a imm, (formF 11).v] H = _ := fun H => pureCall_of (H := H) (fair_spec G (k + 1) 11 d n m a imm (formF 11) (form_bits 11)) rfl rfl
  have r3 : ∀ H, pureCall (isa_number.f G (k + 4)) [mV 11 d n m a imm] H = _ := fun H => pureCall_of (H := H) (number_spec G (k + 3) ⟨11, d, n, m, a, imm⟩ h) rfl rfl
  unfold rightB at h
  rw [Bool.and_eq_true] at h
  obtain ⟨_, h⟩ := h
  simp only at h
  rw [h] at r2
  simp [formF, fairB, regB, extraB, immB, halfI, stackB] at h
  have c1 : convInt .u32 (I6 d) = some (W32 d) := q_cv32 (by omega) (by omega)
  have c2 : convInt .u32 (I6 n) = some (W32 n) := q_cv32 (by omega) (by omega)
  have c3 : convInt .u32 (I6 m) = some (W32 m) := q_cv32 (by omega) (by omega)
  have s1 := shl_p Tryd.prog 71 true (v := n) (p := 32) (b := 5) 5 rfl (by decide) rfl (by omega) (by omega)
  have s2 := shl_p Tryd.prog 71 true (v := m) (p := 65536) (b := 16) 16 rfl (by decide) rfl (by omega) (by omega)
  have o1 := or_f0 Tryd.prog 71 false (x := 3506438144) (v := d) (q := 32) 5 rfl (by omega) (by omega) (by omega) (by omega) (by omega)
  have o2 := or_fd Tryd.prog 71 false (x := 3506438144 + d) (v := n) (p := 32) (q := 32) 5 5 rfl rfl (by omega) (by omega) (by omega) (by omega) (by omega)
  have o3 := or_fd Tryd.prog 71 false (x := 3506438144 + d + n * 32) (v := m) (p := 65536) (q := 1) 16 0 rfl rfl (by omega) (by omega) (by omega) (by omega) (by omega)
  have e4 : wNum 11 a imm = imm * 1024 := rfl
  have o4 : bin Tryd.prog .or 71 false (W32 (3506438144 + d + n * 32 + m * 65536)) (W32 (wNum 11 a imm)) = some (W32 (3506438144 + d + n * 32 + m * 65536 + wNum 11 a imm)) := by
    rw [e4]
    exact or_dj Tryd.prog 71 false ((dj_field (x := 3506438144 + d + n * 32 + m * 65536) (v := imm) (p := 1024) (q := 4096) 10 12 rfl rfl (by omega) (by omega) (by omega) (by omega))) (by omega)
  have ef : formF 11 = ⟨(formF 11).nm, 3506438144, true, true, false, (formF 11).a, (formF 11).b⟩ := rfl
  have eo : isOp 11 = true := rfl
  have ew : wordF ⟨11, d, n, m, a, imm⟩ = 3506438144 + d + n * 32 + m * 65536 + wNum 11 a imm := rfl
  rw [ew]
  rw [eo, ef] at r1
  rw [ef] at r2
  rw [isa_Word.step]
  unfold isa_Word.c
  unfold Form.v at r1 r2
  clear e4 ef eo h ew
  generalize (formF 11).nm = nm at *
  generalize (formF 11).a = fa at *
  generalize (formF 11).b = fb at *
  generalize wNum 11 a imm = z at *
  refine e_in ?_
  repeat' first
    | (with_reducible first | refine eT ?_ | refine eN ?_ | refine eS ?_ | refine eXn ?_ | refine eXr ?_ | refine eX ?_ | refine eI ?_ | refine eK ?_ | refine eV0 ?_ | refine eGr0 ?_ | refine eGtt ?_ | refine eGff ?_ | refine eGtf ?_ | refine eGft ?_ | refine eGno ?_)
    | ((with_reducible apply eCn); (simp only [nth_zero, nth_succ]; first | done | (with_reducible exact rfl)))
    | ((with_reducible apply eJ); (rfl))
    | ((with_reducible apply eGr1); (first | rfl | (simp only [nth_zero, nth_succ]; rfl)))
    | ((with_reducible apply eB); (first | (with_reducible exact rfl) | (simp (disch := omega) only [qf, r1, r2, r3, c1, c2, c3, s1, s2, o1, o2, o3, o4]; first | done | (with_reducible exact rfl) | (with_reducible exact ⟨rfl, rfl⟩)) | (simp (disch := omega) only [qa, putC, AV.cells, storable, buildSt, fillA, buildRo, buildOwn, fillE, Nat.reduceLeDiff, Nat.reduceLT, Nat.reduceAdd, ↓reduceIte, r1, r2, r3, c1, c2, c3, s1, s2, o1, o2, o3, o4]; first | done | (with_reducible exact rfl) | (with_reducible exact ⟨rfl, rfl⟩))))
    | ((with_reducible apply eR); (simp only [nth_zero, nth_succ]; (with_reducible exact rfl)))
    | ((with_reducible first | refine sEql ?_ ?_ | refine sNeq ?_ ?_ | refine sLss ?_ ?_ | refine sLeq ?_ ?_ | refine sGtr ?_ ?_ | refine sGeq ?_ ?_ | refine sNot ?_ ?_ | refine sPick ?_ ?_ | refine sGd ?_ ?_ | refine eBool ?_ ?_) <;> intro hq <;> try subst hq)
  exact w2 rfl rfl rfl
theorem word_12 (G : Globs) (k : Nat) (d n m a imm : Int) (h : rightB ⟨12, d, n, m, a, imm⟩ = true) : isa_Word.f G (k + 5) [mV 12 d n m a imm] [] = some (.tup [W32 (wordF ⟨12, d, n, m, a, imm⟩), .bool true], []) := by
  have r1 : ∀ H, pureCall (isa_of.f G (k + 4)) [.int .i64 12] H = _ := fun H => pureCall_of (H := H) (of_spec G k 12) rfl rfl
  have r2 : ∀ H, pureCall (isa_fair.f G (k + 4)) [mV 12 d n m a imm, (formF 12).v] H = _ := fun H => pureCall_of (H := H) (fair_spec G (k + 1) 12 d n m a imm (formF 12) (form_bits 12)) rfl rfl
  have r3 : ∀ H, pureCall (isa_number.f G (k + 4)) [mV 12 d n m a imm] H = _ := fun H => pureCall_of (H := H) (number_spec G (k + 3) ⟨12, d, n, m, a, imm⟩ h) rfl rfl
  unfold rightB at h
  rw [Bool.and_eq_true] at h
  obtain ⟨_, h⟩ := h
  simp only at h
  rw [h] at r2
  simp [formF, fairB, regB, extraB, immB, halfI, stackB] at h
  have c1 : convInt .u32 (I6 d) = some (W32 d) := q_cv32 (by omega) (by omega)
  have c2 : convInt .u32 (I6 n) = some (W32 n) := q_cv32 (by omega) (by omega)
  have c3 : convInt .u32 (I6 m) = some (W32 m) := q_cv32 (by omega) (by omega)
  have s1 := shl_p Tryd.prog 71 true (v := n) (p := 32) (b := 5) 5 rfl (by decide) rfl (by omega) (by omega)
  have s2 := shl_p Tryd.prog 71 true (v := m) (p := 65536) (b := 16) 16 rfl (by decide) rfl (by omega) (by omega)
  have o1 := or_f0 Tryd.prog 71 false (x := 3544186880) (v := d) (q := 32) 5 rfl (by omega) (by omega) (by omega) (by omega) (by omega)
  have o2 := or_fd Tryd.prog 71 false (x := 3544186880 + d) (v := n) (p := 32) (q := 32) 5 5 rfl rfl (by omega) (by omega) (by omega) (by omega) (by omega)
  have o3 := or_fd Tryd.prog 71 false (x := 3544186880 + d + n * 32) (v := m) (p := 65536) (q := 1) 16 0 rfl rfl (by omega) (by omega) (by omega) (by omega) (by omega)
  have e4 : wNum 12 a imm = (64 - imm) % 64 * 65536 + (63 - imm) * 1024 := rfl
  have o4 : bin Tryd.prog .or 71 false (W32 (3544186880 + d + n * 32 + m * 65536)) (W32 (wNum 12 a imm)) = some (W32 (3544186880 + d + n * 32 + m * 65536 + wNum 12 a imm)) := by
    rw [e4]
    exact or_dj Tryd.prog 71 false (dj_add (dj_field (x := 3544186880 + d + n * 32 + m * 65536) (v := (64 - imm) % 64) (p := 65536) (q := 64) 16 6 rfl rfl (by omega) (by omega) (by omega) (by omega)) (dj_field (x := 3544186880 + d + n * 32 + m * 65536) (v := (63 - imm)) (p := 1024) (q := 64) 10 6 rfl rfl (by omega) (by omega) (by omega) (by omega)) (dj_field (x := (64 - imm) % 64 * 65536) (v := (63 - imm)) (p := 1024) (q := 64) 10 6 rfl rfl (by omega) (by omega) (by omega) (by omega)) (by omega)) (by omega)
  have ef : formF 12 = ⟨(formF 12).nm, 3544186880, true, true, false, (formF 12).a, (formF 12).b⟩ := rfl
  have eo : isOp 12 = true := rfl
  have ew : wordF ⟨12, d, n, m, a, imm⟩ = 3544186880 + d + n * 32 + m * 65536 + wNum 12 a imm := rfl
  rw [ew]
  rw [eo, ef] at r1
  rw [ef] at r2
  rw [isa_Word.step]
  unfold isa_Word.c
  unfold Form.v at r1 r2
  clear e4 ef eo h ew
  generalize (formF 12).nm = nm at *
  generalize (formF 12).a = fa at *
  generalize (formF 12).b = fb at *
  generalize wNum 12 a imm = z at *
  refine e_in ?_
  repeat' first
    | (with_reducible first | refine eT ?_ | refine eN ?_ | refine eS ?_ | refine eXn ?_ | refine eXr ?_ | refine eX ?_ | refine eI ?_ | refine eK ?_ | refine eV0 ?_ | refine eGr0 ?_ | refine eGtt ?_ | refine eGff ?_ | refine eGtf ?_ | refine eGft ?_ | refine eGno ?_)
    | ((with_reducible apply eCn); (simp only [nth_zero, nth_succ]; first | done | (with_reducible exact rfl)))
    | ((with_reducible apply eJ); (rfl))
    | ((with_reducible apply eGr1); (first | rfl | (simp only [nth_zero, nth_succ]; rfl)))
    | ((with_reducible apply eB); (first | (with_reducible exact rfl) | (simp (disch := omega) only [qf, r1, r2, r3, c1, c2, c3, s1, s2, o1, o2, o3, o4]; first | done | (with_reducible exact rfl) | (with_reducible exact ⟨rfl, rfl⟩)) | (simp (disch := omega) only [qa, putC, AV.cells, storable, buildSt, fillA, buildRo, buildOwn, fillE, Nat.reduceLeDiff, Nat.reduceLT, Nat.reduceAdd, ↓reduceIte, r1, r2, r3, c1, c2, c3, s1, s2, o1, o2, o3, o4]; first | done | (with_reducible exact rfl) | (with_reducible exact ⟨rfl, rfl⟩))))
    | ((with_reducible apply eR); (simp only [nth_zero, nth_succ]; (with_reducible exact rfl)))
    | ((with_reducible first | refine sEql ?_ ?_ | refine sNeq ?_ ?_ | refine sLss ?_ ?_ | refine sLeq ?_ ?_ | refine sGtr ?_ ?_ | refine sGeq ?_ ?_ | refine sNot ?_ ?_ | refine sPick ?_ ?_ | refine sGd ?_ ?_ | refine eBool ?_ ?_) <;> intro hq <;> try subst hq)
  exact w2 rfl rfl rfl
theorem word_13 (G : Globs) (k : Nat) (d n m a imm : Int) (h : rightB ⟨13, d, n, m, a, imm⟩ = true) : isa_Word.f G (k + 5) [mV 13 d n m a imm] [] = some (.tup [W32 (wordF ⟨13, d, n, m, a, imm⟩), .bool true], []) := by
  have r1 : ∀ H, pureCall (isa_of.f G (k + 4)) [.int .i64 13] H = _ := fun H => pureCall_of (H := H) (of_spec G k 13) rfl rfl
  have r2 : ∀ H, pureCall (isa_fair.f G (k + 4)) [mV 13 d n m a imm, (formF 13).v] H = _ := fun H => pureCall_of (H := H) (fair_spec G (k + 1) 13 d n m a imm (formF 13) (form_bits 13)) rfl rfl
  have r3 : ∀ H, pureCall (isa_number.f G (k + 4)) [mV 13 d n m a imm] H = _ := fun H => pureCall_of (H := H) (number_spec G (k + 3) ⟨13, d, n, m, a, imm⟩ h) rfl rfl
  unfold rightB at h
  rw [Bool.and_eq_true] at h
  obtain ⟨_, h⟩ := h
  simp only at h
  rw [h] at r2
  simp [formF, fairB, regB, extraB, immB, halfI, stackB] at h
  have c1 : convInt .u32 (I6 d) = some (W32 d) := q_cv32 (by omega) (by omega)
  have c2 : convInt .u32 (I6 n) = some (W32 n) := q_cv32 (by omega) (by omega)
  have c3 : convInt .u32 (I6 m) = some (W32 m) := q_cv32 (by omega) (by omega)
  have s1 := shl_p Tryd.prog 71 true (v := n) (p := 32) (b := 5) 5 rfl (by decide) rfl (by omega) (by omega)
  have s2 := shl_p Tryd.prog 71 true (v := m) (p := 65536) (b := 16) 16 rfl (by decide) rfl (by omega) (by omega)
  have o1 := or_f0 Tryd.prog 71 false (x := 3544186880) (v := d) (q := 32) 5 rfl (by omega) (by omega) (by omega) (by omega) (by omega)
  have o2 := or_fd Tryd.prog 71 false (x := 3544186880 + d) (v := n) (p := 32) (q := 32) 5 5 rfl rfl (by omega) (by omega) (by omega) (by omega) (by omega)
  have o3 := or_fd Tryd.prog 71 false (x := 3544186880 + d + n * 32) (v := m) (p := 65536) (q := 1) 16 0 rfl rfl (by omega) (by omega) (by omega) (by omega) (by omega)
  have e4 : wNum 13 a imm = imm * 65536 + 63 * 1024 := rfl
  have o4 : bin Tryd.prog .or 71 false (W32 (3544186880 + d + n * 32 + m * 65536)) (W32 (wNum 13 a imm)) = some (W32 (3544186880 + d + n * 32 + m * 65536 + wNum 13 a imm)) := by
    rw [e4]
    exact or_dj Tryd.prog 71 false (dj_add (dj_field (x := 3544186880 + d + n * 32 + m * 65536) (v := imm) (p := 65536) (q := 64) 16 6 rfl rfl (by omega) (by omega) (by omega) (by omega)) (dj_field (x := 3544186880 + d + n * 32 + m * 65536) (v := 63) (p := 1024) (q := 64) 10 6 rfl rfl (by omega) (by omega) (by omega) (by omega)) (dj_field (x := imm * 65536) (v := 63) (p := 1024) (q := 64) 10 6 rfl rfl (by omega) (by omega) (by omega) (by omega)) (by omega)) (by omega)
  have ef : formF 13 = ⟨(formF 13).nm, 3544186880, true, true, false, (formF 13).a, (formF 13).b⟩ := rfl
  have eo : isOp 13 = true := rfl
  have ew : wordF ⟨13, d, n, m, a, imm⟩ = 3544186880 + d + n * 32 + m * 65536 + wNum 13 a imm := rfl
  rw [ew]
  rw [eo, ef] at r1
  rw [ef] at r2
  rw [isa_Word.step]
  unfold isa_Word.c
  unfold Form.v at r1 r2
  clear e4 ef eo h ew
  generalize (formF 13).nm = nm at *
  generalize (formF 13).a = fa at *
  generalize (formF 13).b = fb at *
  generalize wNum 13 a imm = z at *
  refine e_in ?_
  repeat' first
    | (with_reducible first | refine eT ?_ | refine eN ?_ | refine eS ?_ | refine eXn ?_ | refine eXr ?_ | refine eX ?_ | refine eI ?_ | refine eK ?_ | refine eV0 ?_ | refine eGr0 ?_ | refine eGtt ?_ | refine eGff ?_ | refine eGtf ?_ | refine eGft ?_ | refine eGno ?_)
    | ((with_reducible apply eCn); (simp only [nth_zero, nth_succ]; first | done | (with_reducible exact rfl)))
    | ((with_reducible apply eJ); (rfl))
    | ((with_reducible apply eGr1); (first | rfl | (simp only [nth_zero, nth_succ]; rfl)))
    | ((with_reducible apply eB); (first | (with_reducible exact rfl) | (simp (disch := omega) only [qf, r1, r2, r3, c1, c2, c3, s1, s2, o1, o2, o3, o4]; first | done | (with_reducible exact rfl) | (with_reducible exact ⟨rfl, rfl⟩)) | (simp (disch := omega) only [qa, putC, AV.cells, storable, buildSt, fillA, buildRo, buildOwn, fillE, Nat.reduceLeDiff, Nat.reduceLT, Nat.reduceAdd, ↓reduceIte, r1, r2, r3, c1, c2, c3, s1, s2, o1, o2, o3, o4]; first | done | (with_reducible exact rfl) | (with_reducible exact ⟨rfl, rfl⟩))))
    | ((with_reducible apply eR); (simp only [nth_zero, nth_succ]; (with_reducible exact rfl)))
    | ((with_reducible first | refine sEql ?_ ?_ | refine sNeq ?_ ?_ | refine sLss ?_ ?_ | refine sLeq ?_ ?_ | refine sGtr ?_ ?_ | refine sGeq ?_ ?_ | refine sNot ?_ ?_ | refine sPick ?_ ?_ | refine sGd ?_ ?_ | refine eBool ?_ ?_) <;> intro hq <;> try subst hq)
  exact w2 rfl rfl rfl
theorem word_14 (G : Globs) (k : Nat) (d n m a imm : Int) (h : rightB ⟨14, d, n, m, a, imm⟩ = true) : isa_Word.f G (k + 5) [mV 14 d n m a imm] [] = some (.tup [W32 (wordF ⟨14, d, n, m, a, imm⟩), .bool true], []) := by
  have r1 : ∀ H, pureCall (isa_of.f G (k + 4)) [.int .i64 14] H = _ := fun H => pureCall_of (H := H) (of_spec G k 14) rfl rfl
  have r2 : ∀ H, pureCall (isa_fair.f G (k + 4)) [mV 14 d n m a imm, (formF 14).v] H = _ := fun H => pureCall_of (H := H) (fair_spec G (k + 1) 14 d n m a imm (formF 14) (form_bits 14)) rfl rfl
  have r3 : ∀ H, pureCall (isa_number.f G (k + 4)) [mV 14 d n m a imm] H = _ := fun H => pureCall_of (H := H) (number_spec G (k + 3) ⟨14, d, n, m, a, imm⟩ h) rfl rfl
  unfold rightB at h
  rw [Bool.and_eq_true] at h
  obtain ⟨_, h⟩ := h
  simp only at h
  rw [h] at r2
  simp [formF, fairB, regB, extraB, immB, halfI, stackB] at h
  have c1 : convInt .u32 (I6 d) = some (W32 d) := q_cv32 (by omega) (by omega)
  have c2 : convInt .u32 (I6 n) = some (W32 n) := q_cv32 (by omega) (by omega)
  have c3 : convInt .u32 (I6 m) = some (W32 m) := q_cv32 (by omega) (by omega)
  have s1 := shl_p Tryd.prog 71 true (v := n) (p := 32) (b := 5) 5 rfl (by decide) rfl (by omega) (by omega)
  have s2 := shl_p Tryd.prog 71 true (v := m) (p := 65536) (b := 16) 16 rfl (by decide) rfl (by omega) (by omega)
  have o1 := or_f0 Tryd.prog 71 false (x := 2470509568) (v := d) (q := 32) 5 rfl (by omega) (by omega) (by omega) (by omega) (by omega)
  have o2 := or_fd Tryd.prog 71 false (x := 2470509568 + d) (v := n) (p := 32) (q := 32) 5 5 rfl rfl (by omega) (by omega) (by omega) (by omega) (by omega)
  have o3 := or_fd Tryd.prog 71 false (x := 2470509568 + d + n * 32) (v := m) (p := 65536) (q := 1) 16 0 rfl rfl (by omega) (by omega) (by omega) (by omega) (by omega)
  have e4 : wNum 14 a imm = imm * 65536 := rfl
  have o4 : bin Tryd.prog .or 71 false (W32 (2470509568 + d + n * 32 + m * 65536)) (W32 (wNum 14 a imm)) = some (W32 (2470509568 + d + n * 32 + m * 65536 + wNum 14 a imm)) := by
    rw [e4]
    exact or_dj Tryd.prog 71 false ((dj_field (x := 2470509568 + d + n * 32 + m * 65536) (v := imm) (p := 65536) (q := 64) 16 6 rfl rfl (by omega) (by omega) (by omega) (by omega))) (by omega)
  have ef : formF 14 = ⟨(formF 14).nm, 2470509568, true, true, false, (formF 14).a, (formF 14).b⟩ := rfl
  have eo : isOp 14 = true := rfl
  have ew : wordF ⟨14, d, n, m, a, imm⟩ = 2470509568 + d + n * 32 + m * 65536 + wNum 14 a imm := rfl
  rw [ew]
  rw [eo, ef] at r1
  rw [ef] at r2
  rw [isa_Word.step]
  unfold isa_Word.c
  unfold Form.v at r1 r2
  clear e4 ef eo h ew
  generalize (formF 14).nm = nm at *
  generalize (formF 14).a = fa at *
  generalize (formF 14).b = fb at *
  generalize wNum 14 a imm = z at *
  refine e_in ?_
  repeat' first
    | (with_reducible first | refine eT ?_ | refine eN ?_ | refine eS ?_ | refine eXn ?_ | refine eXr ?_ | refine eX ?_ | refine eI ?_ | refine eK ?_ | refine eV0 ?_ | refine eGr0 ?_ | refine eGtt ?_ | refine eGff ?_ | refine eGtf ?_ | refine eGft ?_ | refine eGno ?_)
    | ((with_reducible apply eCn); (simp only [nth_zero, nth_succ]; first | done | (with_reducible exact rfl)))
    | ((with_reducible apply eJ); (rfl))
    | ((with_reducible apply eGr1); (first | rfl | (simp only [nth_zero, nth_succ]; rfl)))
    | ((with_reducible apply eB); (first | (with_reducible exact rfl) | (simp (disch := omega) only [qf, r1, r2, r3, c1, c2, c3, s1, s2, o1, o2, o3, o4]; first | done | (with_reducible exact rfl) | (with_reducible exact ⟨rfl, rfl⟩)) | (simp (disch := omega) only [qa, putC, AV.cells, storable, buildSt, fillA, buildRo, buildOwn, fillE, Nat.reduceLeDiff, Nat.reduceLT, Nat.reduceAdd, ↓reduceIte, r1, r2, r3, c1, c2, c3, s1, s2, o1, o2, o3, o4]; first | done | (with_reducible exact rfl) | (with_reducible exact ⟨rfl, rfl⟩))))
    | ((with_reducible apply eR); (simp only [nth_zero, nth_succ]; (with_reducible exact rfl)))
    | ((with_reducible first | refine sEql ?_ ?_ | refine sNeq ?_ ?_ | refine sLss ?_ ?_ | refine sLeq ?_ ?_ | refine sGtr ?_ ?_ | refine sGeq ?_ ?_ | refine sNot ?_ ?_ | refine sPick ?_ ?_ | refine sGd ?_ ?_ | refine eBool ?_ ?_) <;> intro hq <;> try subst hq)
  exact w2 rfl rfl rfl
theorem word_15 (G : Globs) (k : Nat) (d n m a imm : Int) (h : rightB ⟨15, d, n, m, a, imm⟩ = true) : isa_Word.f G (k + 5) [mV 15 d n m a imm] [] = some (.tup [W32 (wordF ⟨15, d, n, m, a, imm⟩), .bool true], []) := by
  have r1 : ∀ H, pureCall (isa_of.f G (k + 4)) [.int .i64 15] H = _ := fun H => pureCall_of (H := H) (of_spec G k 15) rfl rfl
  have r2 : ∀ H, pureCall (isa_fair.f G (k + 4)) [mV 15 d n m a imm, (formF 15).v] H = _ := fun H => pureCall_of (H := H) (fair_spec G (k + 1) 15 d n m a imm (formF 15) (form_bits 15)) rfl rfl
  have r3 : ∀ H, pureCall (isa_number.f G (k + 4)) [mV 15 d n m a imm] H = _ := fun H => pureCall_of (H := H) (number_spec G (k + 3) ⟨15, d, n, m, a, imm⟩ h) rfl rfl
  unfold rightB at h
  rw [Bool.and_eq_true] at h
  obtain ⟨_, h⟩ := h
  simp only at h
  rw [h] at r2
  simp [formF, fairB, regB, extraB, immB, halfI, stackB] at h
  have c1 : convInt .u32 (I6 d) = some (W32 d) := q_cv32 (by omega) (by omega)
  have c2 : convInt .u32 (I6 n) = some (W32 n) := q_cv32 (by omega) (by omega)
  have c3 : convInt .u32 (I6 m) = some (W32 m) := q_cv32 (by omega) (by omega)
  have s1 := shl_p Tryd.prog 71 true (v := n) (p := 32) (b := 5) 5 rfl (by decide) rfl (by omega) (by omega)
  have s2 := shl_p Tryd.prog 71 true (v := m) (p := 65536) (b := 16) 16 rfl (by decide) rfl (by omega) (by omega)
  have o1 := or_f0 Tryd.prog 71 false (x := 3942645791) (v := d) (q := 1) 0 rfl (by omega) (by omega) (by omega) (by omega) (by omega)
  have o2 := or_fd Tryd.prog 71 false (x := 3942645791 + d) (v := n) (p := 32) (q := 32) 5 5 rfl rfl (by omega) (by omega) (by omega) (by omega) (by omega)
  have o3 := or_fd Tryd.prog 71 false (x := 3942645791 + d + n * 32) (v := m) (p := 65536) (q := 32) 16 5 rfl rfl (by omega) (by omega) (by omega) (by omega) (by omega)
  have e4 : wNum 15 a imm = 0 := rfl
  have o4 : bin Tryd.prog .or 71 false (W32 (3942645791 + d + n * 32 + m * 65536)) (W32 (wNum 15 a imm)) = some (W32 (3942645791 + d + n * 32 + m * 65536 + wNum 15 a imm)) := by
    rw [e4]
    exact or_dj Tryd.prog 71 false (dj_zero (x := 3942645791 + d + n * 32 + m * 65536) (by omega)) (by omega)
  have ef : formF 15 = ⟨(formF 15).nm, 3942645791, false, true, true, (formF 15).a, (formF 15).b⟩ := rfl
  have eo : isOp 15 = true := rfl
  have ew : wordF ⟨15, d, n, m, a, imm⟩ = 3942645791 + d + n * 32 + m * 65536 + wNum 15 a imm := rfl
  rw [ew]
  rw [eo, ef] at r1
  rw [ef] at r2
  rw [isa_Word.step]
  unfold isa_Word.c
  unfold Form.v at r1 r2
  clear e4 ef eo h ew
  generalize (formF 15).nm = nm at *
  generalize (formF 15).a = fa at *
  generalize (formF 15).b = fb at *
  generalize wNum 15 a imm = z at *
  refine e_in ?_
  repeat' first
    | (with_reducible first | refine eT ?_ | refine eN ?_ | refine eS ?_ | refine eXn ?_ | refine eXr ?_ | refine eX ?_ | refine eI ?_ | refine eK ?_ | refine eV0 ?_ | refine eGr0 ?_ | refine eGtt ?_ | refine eGff ?_ | refine eGtf ?_ | refine eGft ?_ | refine eGno ?_)
    | ((with_reducible apply eCn); (simp only [nth_zero, nth_succ]; first | done | (with_reducible exact rfl)))
    | ((with_reducible apply eJ); (rfl))
    | ((with_reducible apply eGr1); (first | rfl | (simp only [nth_zero, nth_succ]; rfl)))
    | ((with_reducible apply eB); (first | (with_reducible exact rfl) | (simp (disch := omega) only [qf, r1, r2, r3, c1, c2, c3, s1, s2, o1, o2, o3, o4]; first | done | (with_reducible exact rfl) | (with_reducible exact ⟨rfl, rfl⟩)) | (simp (disch := omega) only [qa, putC, AV.cells, storable, buildSt, fillA, buildRo, buildOwn, fillE, Nat.reduceLeDiff, Nat.reduceLT, Nat.reduceAdd, ↓reduceIte, r1, r2, r3, c1, c2, c3, s1, s2, o1, o2, o3, o4]; first | done | (with_reducible exact rfl) | (with_reducible exact ⟨rfl, rfl⟩))))
    | ((with_reducible apply eR); (simp only [nth_zero, nth_succ]; (with_reducible exact rfl)))
    | ((with_reducible first | refine sEql ?_ ?_ | refine sNeq ?_ ?_ | refine sLss ?_ ?_ | refine sLeq ?_ ?_ | refine sGtr ?_ ?_ | refine sGeq ?_ ?_ | refine sNot ?_ ?_ | refine sPick ?_ ?_ | refine sGd ?_ ?_ | refine eBool ?_ ?_) <;> intro hq <;> try subst hq)
  exact w2 rfl rfl rfl
theorem word_16 (G : Globs) (k : Nat) (d n m a imm : Int) (h : rightB ⟨16, d, n, m, a, imm⟩ = true) : isa_Word.f G (k + 5) [mV 16 d n m a imm] [] = some (.tup [W32 (wordF ⟨16, d, n, m, a, imm⟩), .bool true], []) := by
  have r1 : ∀ H, pureCall (isa_of.f G (k + 4)) [.int .i64 16] H = _ := fun H => pureCall_of (H := H) (of_spec G k 16) rfl rfl
  have r2 : ∀ H, pureCall (isa_fair.f G (k + 4)) [mV 16 d n m a imm, (formF 16).v] H = _ := fun H => pureCall_of (H := H) (fair_spec G (k + 1) 16 d n m a imm (formF 16) (form_bits 16)) rfl rfl
  have r3 : ∀ H, pureCall (isa_number.f G (k + 4)) [mV 16 d n m a imm] H = _ := fun H => pureCall_of (H := H) (number_spec G (k + 3) ⟨16, d, n, m, a, imm⟩ h) rfl rfl
  unfold rightB at h
  rw [Bool.and_eq_true] at h
  obtain ⟨_, h⟩ := h
  simp only at h
  rw [h] at r2
  simp [formF, fairB, regB, extraB, immB, halfI, stackB] at h
  have c1 : convInt .u32 (I6 d) = some (W32 d) := q_cv32 (by omega) (by omega)
  have c2 : convInt .u32 (I6 n) = some (W32 n) := q_cv32 (by omega) (by omega)
  have c3 : convInt .u32 (I6 m) = some (W32 m) := q_cv32 (by omega) (by omega)
  have s1 := shl_p Tryd.prog 71 true (v := n) (p := 32) (b := 5) 5 rfl (by decide) rfl (by omega) (by omega)
  have s2 := shl_p Tryd.prog 71 true (v := m) (p := 65536) (b := 16) 16 rfl (by decide) rfl (by omega) (by omega)
  have o1 := or_f0 Tryd.prog 71 false (x := 2592079872) (v := d) (q := 32) 5 rfl (by omega) (by omega) (by omega) (by omega) (by omega)
  have o2 := or_fd Tryd.prog 71 false (x := 2592079872 + d) (v := n) (p := 32) (q := 32) 5 5 rfl rfl (by omega) (by omega) (by omega) (by omega) (by omega)
  have o3 := or_fd Tryd.prog 71 false (x := 2592079872 + d + n * 32) (v := m) (p := 65536) (q := 32) 16 5 rfl rfl (by omega) (by omega) (by omega) (by omega) (by omega)
  have e4 : wNum 16 a imm = a * 4096 := rfl
  have o4 : bin Tryd.prog .or 71 false (W32 (2592079872 + d + n * 32 + m * 65536)) (W32 (wNum 16 a imm)) = some (W32 (2592079872 + d + n * 32 + m * 65536 + wNum 16 a imm)) := by
    rw [e4]
    exact or_dj Tryd.prog 71 false ((dj_field (x := 2592079872 + d + n * 32 + m * 65536) (v := a) (p := 4096) (q := 16) 12 4 rfl rfl (by omega) (by omega) (by omega) (by omega))) (by omega)
  have ef : formF 16 = ⟨(formF 16).nm, 2592079872, true, true, true, (formF 16).a, (formF 16).b⟩ := rfl
  have eo : isOp 16 = true := rfl
  have ew : wordF ⟨16, d, n, m, a, imm⟩ = 2592079872 + d + n * 32 + m * 65536 + wNum 16 a imm := rfl
  rw [ew]
  rw [eo, ef] at r1
  rw [ef] at r2
  rw [isa_Word.step]
  unfold isa_Word.c
  unfold Form.v at r1 r2
  clear e4 ef eo h ew
  generalize (formF 16).nm = nm at *
  generalize (formF 16).a = fa at *
  generalize (formF 16).b = fb at *
  generalize wNum 16 a imm = z at *
  refine e_in ?_
  repeat' first
    | (with_reducible first | refine eT ?_ | refine eN ?_ | refine eS ?_ | refine eXn ?_ | refine eXr ?_ | refine eX ?_ | refine eI ?_ | refine eK ?_ | refine eV0 ?_ | refine eGr0 ?_ | refine eGtt ?_ | refine eGff ?_ | refine eGtf ?_ | refine eGft ?_ | refine eGno ?_)
    | ((with_reducible apply eCn); (simp only [nth_zero, nth_succ]; first | done | (with_reducible exact rfl)))
    | ((with_reducible apply eJ); (rfl))
    | ((with_reducible apply eGr1); (first | rfl | (simp only [nth_zero, nth_succ]; rfl)))
    | ((with_reducible apply eB); (first | (with_reducible exact rfl) | (simp (disch := omega) only [qf, r1, r2, r3, c1, c2, c3, s1, s2, o1, o2, o3, o4]; first | done | (with_reducible exact rfl) | (with_reducible exact ⟨rfl, rfl⟩)) | (simp (disch := omega) only [qa, putC, AV.cells, storable, buildSt, fillA, buildRo, buildOwn, fillE, Nat.reduceLeDiff, Nat.reduceLT, Nat.reduceAdd, ↓reduceIte, r1, r2, r3, c1, c2, c3, s1, s2, o1, o2, o3, o4]; first | done | (with_reducible exact rfl) | (with_reducible exact ⟨rfl, rfl⟩))))
    | ((with_reducible apply eR); (simp only [nth_zero, nth_succ]; (with_reducible exact rfl)))
    | ((with_reducible first | refine sEql ?_ ?_ | refine sNeq ?_ ?_ | refine sLss ?_ ?_ | refine sLeq ?_ ?_ | refine sGtr ?_ ?_ | refine sGeq ?_ ?_ | refine sNot ?_ ?_ | refine sPick ?_ ?_ | refine sGd ?_ ?_ | refine eBool ?_ ?_) <;> intro hq <;> try subst hq)
  exact w2 rfl rfl rfl
theorem word_17 (G : Globs) (k : Nat) (d n m a imm : Int) (h : rightB ⟨17, d, n, m, a, imm⟩ = true) : isa_Word.f G (k + 5) [mV 17 d n m a imm] [] = some (.tup [W32 (wordF ⟨17, d, n, m, a, imm⟩), .bool true], []) := by
  have r1 : ∀ H, pureCall (isa_of.f G (k + 4)) [.int .i64 17] H = _ := fun H => pureCall_of (H := H) (of_spec G k 17) rfl rfl
  have r2 : ∀ H, pureCall (isa_fair.f G (k + 4)) [mV 17 d n m a imm, (formF 17).v] H = _ := fun H => pureCall_of (H := H) (fair_spec G (k + 1) 17 d n m a imm (formF 17) (form_bits 17)) rfl rfl
  have r3 : ∀ H, pureCall (isa_number.f G (k + 4)) [mV 17 d n m a imm] H = _ := fun H => pureCall_of (H := H) (number_spec G (k + 3) ⟨17, d, n, m, a, imm⟩ h) rfl rfl
  unfold rightB at h
  rw [Bool.and_eq_true] at h
  obtain ⟨_, h⟩ := h
  simp only at h
  rw [h] at r2
  simp [formF, fairB, regB, extraB, immB, halfI, stackB] at h
  have c1 : convInt .u32 (I6 d) = some (W32 d) := q_cv32 (by omega) (by omega)
  have c2 : convInt .u32 (I6 n) = some (W32 n) := q_cv32 (by omega) (by omega)
  have c3 : convInt .u32 (I6 m) = some (W32 m) := q_cv32 (by omega) (by omega)
  have s1 := shl_p Tryd.prog 71 true (v := n) (p := 32) (b := 5) 5 rfl (by decide) rfl (by omega) (by omega)
  have s2 := shl_p Tryd.prog 71 true (v := m) (p := 65536) (b := 16) 16 rfl (by decide) rfl (by omega) (by omega)
  have o1 := or_f0 Tryd.prog 71 false (x := 2594113504) (v := d) (q := 32) 5 rfl (by omega) (by omega) (by omega) (by omega) (by omega)
  have o2 := or_fd Tryd.prog 71 false (x := 2594113504 + d) (v := n) (p := 32) (q := 1) 5 0 rfl rfl (by omega) (by omega) (by omega) (by omega) (by omega)
  have o3 := or_fd Tryd.prog 71 false (x := 2594113504 + d + n * 32) (v := m) (p := 65536) (q := 1) 16 0 rfl rfl (by omega) (by omega) (by omega) (by omega) (by omega)
  have e4 : wNum 17 a imm = (if a % 2 = 0 then a + 1 else a - 1) * 4096 := rfl
  have o4 : bin Tryd.prog .or 71 false (W32 (2594113504 + d + n * 32 + m * 65536)) (W32 (wNum 17 a imm)) = some (W32 (2594113504 + d + n * 32 + m * 65536 + wNum 17 a imm)) := by
    rw [e4]
    exact or_dj Tryd.prog 71 false ((dj_field (x := 2594113504 + d + n * 32 + m * 65536) (v := (if a % 2 = 0 then a + 1 else a - 1)) (p := 4096) (q := 16) 12 4 rfl rfl (by omega) (by split <;> omega) (by split <;> omega) (by omega))) (by split <;> omega)
  have ef : formF 17 = ⟨(formF 17).nm, 2594113504, true, false, false, (formF 17).a, (formF 17).b⟩ := rfl
  have eo : isOp 17 = true := rfl
  have ew : wordF ⟨17, d, n, m, a, imm⟩ = 2594113504 + d + n * 32 + m * 65536 + wNum 17 a imm := rfl
  rw [ew]
  rw [eo, ef] at r1
  rw [ef] at r2
  rw [isa_Word.step]
  unfold isa_Word.c
  unfold Form.v at r1 r2
  clear e4 ef eo h ew
  generalize (formF 17).nm = nm at *
  generalize (formF 17).a = fa at *
  generalize (formF 17).b = fb at *
  generalize wNum 17 a imm = z at *
  refine e_in ?_
  repeat' first
    | (with_reducible first | refine eT ?_ | refine eN ?_ | refine eS ?_ | refine eXn ?_ | refine eXr ?_ | refine eX ?_ | refine eI ?_ | refine eK ?_ | refine eV0 ?_ | refine eGr0 ?_ | refine eGtt ?_ | refine eGff ?_ | refine eGtf ?_ | refine eGft ?_ | refine eGno ?_)
    | ((with_reducible apply eCn); (simp only [nth_zero, nth_succ]; first | done | (with_reducible exact rfl)))
    | ((with_reducible apply eJ); (rfl))
    | ((with_reducible apply eGr1); (first | rfl | (simp only [nth_zero, nth_succ]; rfl)))
    | ((with_reducible apply eB); (first | (with_reducible exact rfl) | (simp (disch := omega) only [qf, r1, r2, r3, c1, c2, c3, s1, s2, o1, o2, o3, o4]; first | done | (with_reducible exact rfl) | (with_reducible exact ⟨rfl, rfl⟩)) | (simp (disch := omega) only [qa, putC, AV.cells, storable, buildSt, fillA, buildRo, buildOwn, fillE, Nat.reduceLeDiff, Nat.reduceLT, Nat.reduceAdd, ↓reduceIte, r1, r2, r3, c1, c2, c3, s1, s2, o1, o2, o3, o4]; first | done | (with_reducible exact rfl) | (with_reducible exact ⟨rfl, rfl⟩))))
    | ((with_reducible apply eR); (simp only [nth_zero, nth_succ]; (with_reducible exact rfl)))
    | ((with_reducible first | refine sEql ?_ ?_ | refine sNeq ?_ ?_ | refine sLss ?_ ?_ | refine sLeq ?_ ?_ | refine sGtr ?_ ?_ | refine sGeq ?_ ?_ | refine sNot ?_ ?_ | refine sPick ?_ ?_ | refine sGd ?_ ?_ | refine eBool ?_ ?_) <;> intro hq <;> try subst hq)
  exact w2 rfl rfl rfl
theorem word_18 (G : Globs) (k : Nat) (d n m a imm : Int) (h : rightB ⟨18, d, n, m, a, imm⟩ = true) : isa_Word.f G (k + 5) [mV 18 d n m a imm] [] = some (.tup [W32 (wordF ⟨18, d, n, m, a, imm⟩), .bool true], []) := by
  have r1 : ∀ H, pureCall (isa_of.f G (k + 4)) [.int .i64 18] H = _ := fun H => pureCall_of (H := H) (of_spec G k 18) rfl rfl
  have r2 : ∀ H, pureCall (isa_fair.f G (k + 4)) [mV 18 d n m a imm, (formF 18).v] H = _ := fun H => pureCall_of (H := H) (fair_spec G (k + 1) 18 d n m a imm (formF 18) (form_bits 18)) rfl rfl
  have r3 : ∀ H, pureCall (isa_number.f G (k + 4)) [mV 18 d n m a imm] H = _ := fun H => pureCall_of (H := H) (number_spec G (k + 3) ⟨18, d, n, m, a, imm⟩ h) rfl rfl
  unfold rightB at h
  rw [Bool.and_eq_true] at h
  obtain ⟨_, h⟩ := h
  simp only at h
  rw [h] at r2
  simp [formF, fairB, regB, extraB, immB, halfI, stackB] at h
  have c1 : convInt .u32 (I6 d) = some (W32 d) := q_cv32 (by omega) (by omega)
  have c2 : convInt .u32 (I6 n) = some (W32 n) := q_cv32 (by omega) (by omega)
  have c3 : convInt .u32 (I6 m) = some (W32 m) := q_cv32 (by omega) (by omega)
  have s1 := shl_p Tryd.prog 71 true (v := n) (p := 32) (b := 5) 5 rfl (by decide) rfl (by omega) (by omega)
  have s2 := shl_p Tryd.prog 71 true (v := m) (p := 65536) (b := 16) 16 rfl (by decide) rfl (by omega) (by omega)
  have o1 := or_f0 Tryd.prog 71 false (x := 4181721088) (v := d) (q := 32) 5 rfl (by omega) (by omega) (by omega) (by omega) (by omega)
  have o2 := or_fd Tryd.prog 71 false (x := 4181721088 + d) (v := n) (p := 32) (q := 32) 5 5 rfl rfl (by omega) (by omega) (by omega) (by omega) (by omega)
  have o3 := or_fd Tryd.prog 71 false (x := 4181721088 + d + n * 32) (v := m) (p := 65536) (q := 1) 16 0 rfl rfl (by omega) (by omega) (by omega) (by omega) (by omega)
  have e4 : wNum 18 a imm = imm * 1024 := rfl
  have o4 : bin Tryd.prog .or 71 false (W32 (4181721088 + d + n * 32 + m * 65536)) (W32 (wNum 18 a imm)) = some (W32 (4181721088 + d + n * 32 + m * 65536 + wNum 18 a imm)) := by
    rw [e4]
    exact or_dj Tryd.prog 71 false ((dj_field (x := 4181721088 + d + n * 32 + m * 65536) (v := imm) (p := 1024) (q := 4096) 10 12 rfl rfl (by omega) (by omega) (by omega) (by omega))) (by omega)
  have ef : formF 18 = ⟨(formF 18).nm, 4181721088, true, true, false, (formF 18).a, (formF 18).b⟩ := rfl
  have eo : isOp 18 = true := rfl
  have ew : wordF ⟨18, d, n, m, a, imm⟩ = 4181721088 + d + n * 32 + m * 65536 + wNum 18 a imm := rfl
  rw [ew]
  rw [eo, ef] at r1
  rw [ef] at r2
  rw [isa_Word.step]
  unfold isa_Word.c
  unfold Form.v at r1 r2
  clear e4 ef eo h ew
  generalize (formF 18).nm = nm at *
  generalize (formF 18).a = fa at *
  generalize (formF 18).b = fb at *
  generalize wNum 18 a imm = z at *
  refine e_in ?_
  repeat' first
    | (with_reducible first | refine eT ?_ | refine eN ?_ | refine eS ?_ | refine eXn ?_ | refine eXr ?_ | refine eX ?_ | refine eI ?_ | refine eK ?_ | refine eV0 ?_ | refine eGr0 ?_ | refine eGtt ?_ | refine eGff ?_ | refine eGtf ?_ | refine eGft ?_ | refine eGno ?_)
    | ((with_reducible apply eCn); (simp only [nth_zero, nth_succ]; first | done | (with_reducible exact rfl)))
    | ((with_reducible apply eJ); (rfl))
    | ((with_reducible apply eGr1); (first | rfl | (simp only [nth_zero, nth_succ]; rfl)))
    | ((with_reducible apply eB); (first | (with_reducible exact rfl) | (simp (disch := omega) only [qf, r1, r2, r3, c1, c2, c3, s1, s2, o1, o2, o3, o4]; first | done | (with_reducible exact rfl) | (with_reducible exact ⟨rfl, rfl⟩)) | (simp (disch := omega) only [qa, putC, AV.cells, storable, buildSt, fillA, buildRo, buildOwn, fillE, Nat.reduceLeDiff, Nat.reduceLT, Nat.reduceAdd, ↓reduceIte, r1, r2, r3, c1, c2, c3, s1, s2, o1, o2, o3, o4]; first | done | (with_reducible exact rfl) | (with_reducible exact ⟨rfl, rfl⟩))))
    | ((with_reducible apply eR); (simp only [nth_zero, nth_succ]; (with_reducible exact rfl)))
    | ((with_reducible first | refine sEql ?_ ?_ | refine sNeq ?_ ?_ | refine sLss ?_ ?_ | refine sLeq ?_ ?_ | refine sGtr ?_ ?_ | refine sGeq ?_ ?_ | refine sNot ?_ ?_ | refine sPick ?_ ?_ | refine sGd ?_ ?_ | refine eBool ?_ ?_) <;> intro hq <;> try subst hq)
  exact w2 rfl rfl rfl
theorem word_19 (G : Globs) (k : Nat) (d n m a imm : Int) (h : rightB ⟨19, d, n, m, a, imm⟩ = true) : isa_Word.f G (k + 5) [mV 19 d n m a imm] [] = some (.tup [W32 (wordF ⟨19, d, n, m, a, imm⟩), .bool true], []) := by
  have r1 : ∀ H, pureCall (isa_of.f G (k + 4)) [.int .i64 19] H = _ := fun H => pureCall_of (H := H) (of_spec G k 19) rfl rfl
  have r2 : ∀ H, pureCall (isa_fair.f G (k + 4)) [mV 19 d n m a imm, (formF 19).v] H = _ := fun H => pureCall_of (H := H) (fair_spec G (k + 1) 19 d n m a imm (formF 19) (form_bits 19)) rfl rfl
  have r3 : ∀ H, pureCall (isa_number.f G (k + 4)) [mV 19 d n m a imm] H = _ := fun H => pureCall_of (H := H) (number_spec G (k + 3) ⟨19, d, n, m, a, imm⟩ h) rfl rfl
  unfold rightB at h
  rw [Bool.and_eq_true] at h
  obtain ⟨_, h⟩ := h
  simp only at h
  rw [h] at r2
  simp [formF, fairB, regB, extraB, immB, halfI, stackB] at h
  have c1 : convInt .u32 (I6 d) = some (W32 d) := q_cv32 (by omega) (by omega)
  have c2 : convInt .u32 (I6 n) = some (W32 n) := q_cv32 (by omega) (by omega)
  have c3 : convInt .u32 (I6 m) = some (W32 m) := q_cv32 (by omega) (by omega)
  have s1 := shl_p Tryd.prog 71 true (v := n) (p := 32) (b := 5) 5 rfl (by decide) rfl (by omega) (by omega)
  have s2 := shl_p Tryd.prog 71 true (v := m) (p := 65536) (b := 16) 16 rfl (by decide) rfl (by omega) (by omega)
  have o1 := or_f0 Tryd.prog 71 false (x := 4177526784) (v := d) (q := 32) 5 rfl (by omega) (by omega) (by omega) (by omega) (by omega)
  have o2 := or_fd Tryd.prog 71 false (x := 4177526784 + d) (v := n) (p := 32) (q := 32) 5 5 rfl rfl (by omega) (by omega) (by omega) (by omega) (by omega)
  have o3 := or_fd Tryd.prog 71 false (x := 4177526784 + d + n * 32) (v := m) (p := 65536) (q := 1) 16 0 rfl rfl (by omega) (by omega) (by omega) (by omega) (by omega)
  have e4 : wNum 19 a imm = imm * 1024 := rfl
  have o4 : bin Tryd.prog .or 71 false (W32 (4177526784 + d + n * 32 + m * 65536)) (W32 (wNum 19 a imm)) = some (W32 (4177526784 + d + n * 32 + m * 65536 + wNum 19 a imm)) := by
    rw [e4]
    exact or_dj Tryd.prog 71 false ((dj_field (x := 4177526784 + d + n * 32 + m * 65536) (v := imm) (p := 1024) (q := 4096) 10 12 rfl rfl (by omega) (by omega) (by omega) (by omega))) (by omega)
  have ef : formF 19 = ⟨(formF 19).nm, 4177526784, true, true, false, (formF 19).a, (formF 19).b⟩ := rfl
  have eo : isOp 19 = true := rfl
  have ew : wordF ⟨19, d, n, m, a, imm⟩ = 4177526784 + d + n * 32 + m * 65536 + wNum 19 a imm := rfl
  rw [ew]
  rw [eo, ef] at r1
  rw [ef] at r2
  rw [isa_Word.step]
  unfold isa_Word.c
  unfold Form.v at r1 r2
  clear e4 ef eo h ew
  generalize (formF 19).nm = nm at *
  generalize (formF 19).a = fa at *
  generalize (formF 19).b = fb at *
  generalize wNum 19 a imm = z at *
  refine e_in ?_
  repeat' first
    | (with_reducible first | refine eT ?_ | refine eN ?_ | refine eS ?_ | refine eXn ?_ | refine eXr ?_ | refine eX ?_ | refine eI ?_ | refine eK ?_ | refine eV0 ?_ | refine eGr0 ?_ | refine eGtt ?_ | refine eGff ?_ | refine eGtf ?_ | refine eGft ?_ | refine eGno ?_)
    | ((with_reducible apply eCn); (simp only [nth_zero, nth_succ]; first | done | (with_reducible exact rfl)))
    | ((with_reducible apply eJ); (rfl))
    | ((with_reducible apply eGr1); (first | rfl | (simp only [nth_zero, nth_succ]; rfl)))
    | ((with_reducible apply eB); (first | (with_reducible exact rfl) | (simp (disch := omega) only [qf, r1, r2, r3, c1, c2, c3, s1, s2, o1, o2, o3, o4]; first | done | (with_reducible exact rfl) | (with_reducible exact ⟨rfl, rfl⟩)) | (simp (disch := omega) only [qa, putC, AV.cells, storable, buildSt, fillA, buildRo, buildOwn, fillE, Nat.reduceLeDiff, Nat.reduceLT, Nat.reduceAdd, ↓reduceIte, r1, r2, r3, c1, c2, c3, s1, s2, o1, o2, o3, o4]; first | done | (with_reducible exact rfl) | (with_reducible exact ⟨rfl, rfl⟩))))
    | ((with_reducible apply eR); (simp only [nth_zero, nth_succ]; (with_reducible exact rfl)))
    | ((with_reducible first | refine sEql ?_ ?_ | refine sNeq ?_ ?_ | refine sLss ?_ ?_ | refine sLeq ?_ ?_ | refine sGtr ?_ ?_ | refine sGeq ?_ ?_ | refine sNot ?_ ?_ | refine sPick ?_ ?_ | refine sGd ?_ ?_ | refine eBool ?_ ?_) <;> intro hq <;> try subst hq)
  exact w2 rfl rfl rfl
theorem word_20 (G : Globs) (k : Nat) (d n m a imm : Int) (h : rightB ⟨20, d, n, m, a, imm⟩ = true) : isa_Word.f G (k + 5) [mV 20 d n m a imm] [] = some (.tup [W32 (wordF ⟨20, d, n, m, a, imm⟩), .bool true], []) := by
  have r1 : ∀ H, pureCall (isa_of.f G (k + 4)) [.int .i64 20] H = _ := fun H => pureCall_of (H := H) (of_spec G k 20) rfl rfl
  have r2 : ∀ H, pureCall (isa_fair.f G (k + 4)) [mV 20 d n m a imm, (formF 20).v] H = _ := fun H => pureCall_of (H := H) (fair_spec G (k + 1) 20 d n m a imm (formF 20) (form_bits 20)) rfl rfl
  have r3 : ∀ H, pureCall (isa_number.f G (k + 4)) [mV 20 d n m a imm] H = _ := fun H => pureCall_of (H := H) (number_spec G (k + 3) ⟨20, d, n, m, a, imm⟩ h) rfl rfl
  unfold rightB at h
  rw [Bool.and_eq_true] at h
  obtain ⟨_, h⟩ := h
  simp only at h
  rw [h] at r2
  simp [formF, fairB, regB, extraB, immB, halfI, stackB] at h
  have c1 : convInt .u32 (I6 d) = some (W32 d) := q_cv32 (by omega) (by omega)
  have c2 : convInt .u32 (I6 n) = some (W32 n) := q_cv32 (by omega) (by omega)
  have c3 : convInt .u32 (I6 m) = some (W32 m) := q_cv32 (by omega) (by omega)
  have s1 := shl_p Tryd.prog 71 true (v := n) (p := 32) (b := 5) 5 rfl (by decide) rfl (by omega) (by omega)
  have s2 := shl_p Tryd.prog 71 true (v := m) (p := 65536) (b := 16) 16 rfl (by decide) rfl (by omega) (by omega)
  have o1 := or_f0 Tryd.prog 71 false (x := 335544320) (v := d) (q := 1) 0 rfl (by omega) (by omega) (by omega) (by omega) (by omega)
  have o2 := or_fd Tryd.prog 71 false (x := 335544320 + d) (v := n) (p := 32) (q := 1) 5 0 rfl rfl (by omega) (by omega) (by omega) (by omega) (by omega)
  have o3 := or_fd Tryd.prog 71 false (x := 335544320 + d + n * 32) (v := m) (p := 65536) (q := 1) 16 0 rfl rfl (by omega) (by omega) (by omega) (by omega) (by omega)
  have e4 : wNum 20 a imm = imm % 67108864 := rfl
  have o4 : bin Tryd.prog .or 71 false (W32 (335544320 + d + n * 32 + m * 65536)) (W32 (wNum 20 a imm)) = some (W32 (335544320 + d + n * 32 + m * 65536 + wNum 20 a imm)) := by
    rw [e4]
    exact or_dj Tryd.prog 71 false ((by have := dj_field (x := 335544320 + d + n * 32 + m * 65536) (v := imm % 67108864) (p := 1) (q := 67108864) 0 26 rfl rfl (by omega) (by omega) (by omega) (by omega); rwa [Int.mul_one] at this)) (by omega)
  have ef : formF 20 = ⟨(formF 20).nm, 335544320, false, false, false, (formF 20).a, (formF 20).b⟩ := rfl
  have eo : isOp 20 = true := rfl
  have ew : wordF ⟨20, d, n, m, a, imm⟩ = 335544320 + d + n * 32 + m * 65536 + wNum 20 a imm := rfl
  rw [ew]
  rw [eo, ef] at r1
  rw [ef] at r2
  rw [isa_Word.step]
  unfold isa_Word.c
  unfold Form.v at r1 r2
  clear e4 ef eo h ew
  generalize (formF 20).nm = nm at *
  generalize (formF 20).a = fa at *
  generalize (formF 20).b = fb at *
  generalize wNum 20 a imm = z at *
  refine e_in ?_
  repeat' first
    | (with_reducible first | refine eT ?_ | refine eN ?_ | refine eS ?_ | refine eXn ?_ | refine eXr ?_ | refine eX ?_ | refine eI ?_ | refine eK ?_ | refine eV0 ?_ | refine eGr0 ?_ | refine eGtt ?_ | refine eGff ?_ | refine eGtf ?_ | refine eGft ?_ | refine eGno ?_)
    | ((with_reducible apply eCn); (simp only [nth_zero, nth_succ]; first | done | (with_reducible exact rfl)))
    | ((with_reducible apply eJ); (rfl))
    | ((with_reducible apply eGr1); (first | rfl | (simp only [nth_zero, nth_succ]; rfl)))
    | ((with_reducible apply eB); (first | (with_reducible exact rfl) | (simp (disch := omega) only [qf, r1, r2, r3, c1, c2, c3, s1, s2, o1, o2, o3, o4]; first | done | (with_reducible exact rfl) | (with_reducible exact ⟨rfl, rfl⟩)) | (simp (disch := omega) only [qa, putC, AV.cells, storable, buildSt, fillA, buildRo, buildOwn, fillE, Nat.reduceLeDiff, Nat.reduceLT, Nat.reduceAdd, ↓reduceIte, r1, r2, r3, c1, c2, c3, s1, s2, o1, o2, o3, o4]; first | done | (with_reducible exact rfl) | (with_reducible exact ⟨rfl, rfl⟩))))
    | ((with_reducible apply eR); (simp only [nth_zero, nth_succ]; (with_reducible exact rfl)))
    | ((with_reducible first | refine sEql ?_ ?_ | refine sNeq ?_ ?_ | refine sLss ?_ ?_ | refine sLeq ?_ ?_ | refine sGtr ?_ ?_ | refine sGeq ?_ ?_ | refine sNot ?_ ?_ | refine sPick ?_ ?_ | refine sGd ?_ ?_ | refine eBool ?_ ?_) <;> intro hq <;> try subst hq)
  exact w2 rfl rfl rfl
theorem word_21 (G : Globs) (k : Nat) (d n m a imm : Int) (h : rightB ⟨21, d, n, m, a, imm⟩ = true) : isa_Word.f G (k + 5) [mV 21 d n m a imm] [] = some (.tup [W32 (wordF ⟨21, d, n, m, a, imm⟩), .bool true], []) := by
  have r1 : ∀ H, pureCall (isa_of.f G (k + 4)) [.int .i64 21] H = _ := fun H => pureCall_of (H := H) (of_spec G k 21) rfl rfl
  have r2 : ∀ H, pureCall (isa_fair.f G (k + 4)) [mV 21 d n m a imm, (formF 21).v] H = _ := fun H => pureCall_of (H := H) (fair_spec G (k + 1) 21 d n m a imm (formF 21) (form_bits 21)) rfl rfl
  have r3 : ∀ H, pureCall (isa_number.f G (k + 4)) [mV 21 d n m a imm] H = _ := fun H => pureCall_of (H := H) (number_spec G (k + 3) ⟨21, d, n, m, a, imm⟩ h) rfl rfl
  unfold rightB at h
  rw [Bool.and_eq_true] at h
  obtain ⟨_, h⟩ := h
  simp only at h
  rw [h] at r2
  simp [formF, fairB, regB, extraB, immB, halfI, stackB] at h
  have c1 : convInt .u32 (I6 d) = some (W32 d) := q_cv32 (by omega) (by omega)
  have c2 : convInt .u32 (I6 n) = some (W32 n) := q_cv32 (by omega) (by omega)
  have c3 : convInt .u32 (I6 m) = some (W32 m) := q_cv32 (by omega) (by omega)
  have s1 := shl_p Tryd.prog 71 true (v := n) (p := 32) (b := 5) 5 rfl (by decide) rfl (by omega) (by omega)
  have s2 := shl_p Tryd.prog 71 true (v := m) (p := 65536) (b := 16) 16 rfl (by decide) rfl (by omega) (by omega)
  have o1 := or_f0 Tryd.prog 71 false (x := 1409286144) (v := d) (q := 1) 0 rfl (by omega) (by omega) (by omega) (by omega) (by omega)
  have o2 := or_fd Tryd.prog 71 false (x := 1409286144 + d) (v := n) (p := 32) (q := 1) 5 0 rfl rfl (by omega) (by omega) (by omega) (by omega) (by omega)
  have o3 := or_fd Tryd.prog 71 false (x := 1409286144 + d + n * 32) (v := m) (p := 65536) (q := 1) 16 0 rfl rfl (by omega) (by omega) (by omega) (by omega) (by omega)
  have e4 : wNum 21 a imm = a + imm % 524288 * 32 := rfl
  have o4 : bin Tryd.prog .or 71 false (W32 (1409286144 + d + n * 32 + m * 65536)) (W32 (wNum 21 a imm)) = some (W32 (1409286144 + d + n * 32 + m * 65536 + wNum 21 a imm)) := by
    rw [e4]
    exact or_dj Tryd.prog 71 false (dj_add (by have := dj_field (x := 1409286144 + d + n * 32 + m * 65536) (v := a) (p := 1) (q := 16) 0 4 rfl rfl (by omega) (by omega) (by omega) (by omega); rwa [Int.mul_one] at this) (dj_field (x := 1409286144 + d + n * 32 + m * 65536) (v := imm % 524288) (p := 32) (q := 524288) 5 19 rfl rfl (by omega) (by omega) (by omega) (by omega)) (dj_field (x := a) (v := imm % 524288) (p := 32) (q := 524288) 5 19 rfl rfl (by omega) (by omega) (by omega) (by omega)) (by omega)) (by omega)
  have ef : formF 21 = ⟨(formF 21).nm, 1409286144, false, false, false, (formF 21).a, (formF 21).b⟩ := rfl
  have eo : isOp 21 = true := rfl
  have ew : wordF ⟨21, d, n, m, a, imm⟩ = 1409286144 + d + n * 32 + m * 65536 + wNum 21 a imm := rfl
  rw [ew]
  rw [eo, ef] at r1
  rw [ef] at r2
  rw [isa_Word.step]
  unfold isa_Word.c
  unfold Form.v at r1 r2
  clear e4 ef eo h ew
  generalize (formF 21).nm = nm at *
  generalize (formF 21).a = fa at *
  generalize (formF 21).b = fb at *
  generalize wNum 21 a imm = z at *
  refine e_in ?_
  repeat' first
    | (with_reducible first | refine eT ?_ | refine eN ?_ | refine eS ?_ | refine eXn ?_ | refine eXr ?_ | refine eX ?_ | refine eI ?_ | refine eK ?_ | refine eV0 ?_ | refine eGr0 ?_ | refine eGtt ?_ | refine eGff ?_ | refine eGtf ?_ | refine eGft ?_ | refine eGno ?_)
    | ((with_reducible apply eCn); (simp only [nth_zero, nth_succ]; first | done | (with_reducible exact rfl)))
    | ((with_reducible apply eJ); (rfl))
    | ((with_reducible apply eGr1); (first | rfl | (simp only [nth_zero, nth_succ]; rfl)))
    | ((with_reducible apply eB); (first | (with_reducible exact rfl) | (simp (disch := omega) only [qf, r1, r2, r3, c1, c2, c3, s1, s2, o1, o2, o3, o4]; first | done | (with_reducible exact rfl) | (with_reducible exact ⟨rfl, rfl⟩)) | (simp (disch := omega) only [qa, putC, AV.cells, storable, buildSt, fillA, buildRo, buildOwn, fillE, Nat.reduceLeDiff, Nat.reduceLT, Nat.reduceAdd, ↓reduceIte, r1, r2, r3, c1, c2, c3, s1, s2, o1, o2, o3, o4]; first | done | (with_reducible exact rfl) | (with_reducible exact ⟨rfl, rfl⟩))))
    | ((with_reducible apply eR); (simp only [nth_zero, nth_succ]; (with_reducible exact rfl)))
    | ((with_reducible first | refine sEql ?_ ?_ | refine sNeq ?_ ?_ | refine sLss ?_ ?_ | refine sLeq ?_ ?_ | refine sGtr ?_ ?_ | refine sGeq ?_ ?_ | refine sNot ?_ ?_ | refine sPick ?_ ?_ | refine sGd ?_ ?_ | refine eBool ?_ ?_) <;> intro hq <;> try subst hq)
  exact w2 rfl rfl rfl
theorem word_22 (G : Globs) (k : Nat) (d n m a imm : Int) (h : rightB ⟨22, d, n, m, a, imm⟩ = true) : isa_Word.f G (k + 5) [mV 22 d n m a imm] [] = some (.tup [W32 (wordF ⟨22, d, n, m, a, imm⟩), .bool true], []) := by
  have r1 : ∀ H, pureCall (isa_of.f G (k + 4)) [.int .i64 22] H = _ := fun H => pureCall_of (H := H) (of_spec G k 22) rfl rfl
  have r2 : ∀ H, pureCall (isa_fair.f G (k + 4)) [mV 22 d n m a imm, (formF 22).v] H = _ := fun H => pureCall_of (H := H) (fair_spec G (k + 1) 22 d n m a imm (formF 22) (form_bits 22)) rfl rfl
  have r3 : ∀ H, pureCall (isa_number.f G (k + 4)) [mV 22 d n m a imm] H = _ := fun H => pureCall_of (H := H) (number_spec G (k + 3) ⟨22, d, n, m, a, imm⟩ h) rfl rfl
  unfold rightB at h
  rw [Bool.and_eq_true] at h
  obtain ⟨_, h⟩ := h
  simp only at h
  rw [h] at r2
  simp [formF, fairB, regB, extraB, immB, halfI, stackB] at h
  have c1 : convInt .u32 (I6 d) = some (W32 d) := q_cv32 (by omega) (by omega)
  have c2 : convInt .u32 (I6 n) = some (W32 n) := q_cv32 (by omega) (by omega)
  have c3 : convInt .u32 (I6 m) = some (W32 m) := q_cv32 (by omega) (by omega)
  have s1 := shl_p Tryd.prog 71 true (v := n) (p := 32) (b := 5) 5 rfl (by decide) rfl (by omega) (by omega)
  have s2 := shl_p Tryd.prog 71 true (v := m) (p := 65536) (b := 16) 16 rfl (by decide) rfl (by omega) (by omega)
  have o1 := or_f0 Tryd.prog 71 false (x := 3019898880) (v := d) (q := 32) 5 rfl (by omega) (by omega) (by omega) (by omega) (by omega)
  have o2 := or_fd Tryd.prog 71 false (x := 3019898880 + d) (v := n) (p := 32) (q := 1) 5 0 rfl rfl (by omega) (by omega) (by omega) (by omega) (by omega)
  have o3 := or_fd Tryd.prog 71 false (x := 3019898880 + d + n * 32) (v := m) (p := 65536) (q := 1) 16 0 rfl rfl (by omega) (by omega) (by omega) (by omega) (by omega)
  have e4 : wNum 22 a imm = imm % 524288 * 32 := rfl
  have o4 : bin Tryd.prog .or 71 false (W32 (3019898880 + d + n * 32 + m * 65536)) (W32 (wNum 22 a imm)) = some (W32 (3019898880 + d + n * 32 + m * 65536 + wNum 22 a imm)) := by
    rw [e4]
    exact or_dj Tryd.prog 71 false ((dj_field (x := 3019898880 + d + n * 32 + m * 65536) (v := imm % 524288) (p := 32) (q := 524288) 5 19 rfl rfl (by omega) (by omega) (by omega) (by omega))) (by omega)
  have ef : formF 22 = ⟨(formF 22).nm, 3019898880, true, false, false, (formF 22).a, (formF 22).b⟩ := rfl
  have eo : isOp 22 = true := rfl
  have ew : wordF ⟨22, d, n, m, a, imm⟩ = 3019898880 + d + n * 32 + m * 65536 + wNum 22 a imm := rfl
  rw [ew]
  rw [eo, ef] at r1
  rw [ef] at r2
  rw [isa_Word.step]
  unfold isa_Word.c
  unfold Form.v at r1 r2
  clear e4 ef eo h ew
  generalize (formF 22).nm = nm at *
  generalize (formF 22).a = fa at *
  generalize (formF 22).b = fb at *
  generalize wNum 22 a imm = z at *
  refine e_in ?_
  repeat' first
    | (with_reducible first | refine eT ?_ | refine eN ?_ | refine eS ?_ | refine eXn ?_ | refine eXr ?_ | refine eX ?_ | refine eI ?_ | refine eK ?_ | refine eV0 ?_ | refine eGr0 ?_ | refine eGtt ?_ | refine eGff ?_ | refine eGtf ?_ | refine eGft ?_ | refine eGno ?_)
    | ((with_reducible apply eCn); (simp only [nth_zero, nth_succ]; first | done | (with_reducible exact rfl)))
    | ((with_reducible apply eJ); (rfl))
    | ((with_reducible apply eGr1); (first | rfl | (simp only [nth_zero, nth_succ]; rfl)))
    | ((with_reducible apply eB); (first | (with_reducible exact rfl) | (simp (disch := omega) only [qf, r1, r2, r3, c1, c2, c3, s1, s2, o1, o2, o3, o4]; first | done | (with_reducible exact rfl) | (with_reducible exact ⟨rfl, rfl⟩)) | (simp (disch := omega) only [qa, putC, AV.cells, storable, buildSt, fillA, buildRo, buildOwn, fillE, Nat.reduceLeDiff, Nat.reduceLT, Nat.reduceAdd, ↓reduceIte, r1, r2, r3, c1, c2, c3, s1, s2, o1, o2, o3, o4]; first | done | (with_reducible exact rfl) | (with_reducible exact ⟨rfl, rfl⟩))))
    | ((with_reducible apply eR); (simp only [nth_zero, nth_succ]; (with_reducible exact rfl)))
    | ((with_reducible first | refine sEql ?_ ?_ | refine sNeq ?_ ?_ | refine sLss ?_ ?_ | refine sLeq ?_ ?_ | refine sGtr ?_ ?_ | refine sGeq ?_ ?_ | refine sNot ?_ ?_ | refine sPick ?_ ?_ | refine sGd ?_ ?_ | refine eBool ?_ ?_) <;> intro hq <;> try subst hq)
  exact w2 rfl rfl rfl
theorem word_23 (G : Globs) (k : Nat) (d n m a imm : Int) (h : rightB ⟨23, d, n, m, a, imm⟩ = true) : isa_Word.f G (k + 5) [mV 23 d n m a imm] [] = some (.tup [W32 (wordF ⟨23, d, n, m, a, imm⟩), .bool true], []) := by
  have r1 : ∀ H, pureCall (isa_of.f G (k + 4)) [.int .i64 23] H = _ := fun H => pureCall_of (H := H) (of_spec G k 23) rfl rfl
  have r2 : ∀ H, pureCall (isa_fair.f G (k + 4)) [mV 23 d n m a imm, (formF 23).v] H = _ := fun H => pureCall_of (H := H) (fair_spec G (k + 1) 23 d n m a imm (formF 23) (form_bits 23)) rfl rfl
  have r3 : ∀ H, pureCall (isa_number.f G (k + 4)) [mV 23 d n m a imm] H = _ := fun H => pureCall_of (H := H) (number_spec G (k + 3) ⟨23, d, n, m, a, imm⟩ h) rfl rfl
  unfold rightB at h
  rw [Bool.and_eq_true] at h
  obtain ⟨_, h⟩ := h
  simp only at h
  rw [h] at r2
  simp [formF, fairB, regB, extraB, immB, halfI, stackB] at h
  have c1 : convInt .u32 (I6 d) = some (W32 d) := q_cv32 (by omega) (by omega)
  have c2 : convInt .u32 (I6 n) = some (W32 n) := q_cv32 (by omega) (by omega)
  have c3 : convInt .u32 (I6 m) = some (W32 m) := q_cv32 (by omega) (by omega)
  have s1 := shl_p Tryd.prog 71 true (v := n) (p := 32) (b := 5) 5 rfl (by decide) rfl (by omega) (by omega)
  have s2 := shl_p Tryd.prog 71 true (v := m) (p := 65536) (b := 16) 16 rfl (by decide) rfl (by omega) (by omega)
  have o1 := or_f0 Tryd.prog 71 false (x := 3036676096) (v := d) (q := 32) 5 rfl (by omega) (by omega) (by omega) (by omega) (by omega)
  have o2 := or_fd Tryd.prog 71 false (x := 3036676096 + d) (v := n) (p := 32) (q := 1) 5 0 rfl rfl (by omega) (by omega) (by omega) (by omega) (by omega)
  have o3 := or_fd Tryd.prog 71 false (x := 3036676096 + d + n * 32) (v := m) (p := 65536) (q := 1) 16 0 rfl rfl (by omega) (by omega) (by omega) (by omega) (by omega)
  have e4 : wNum 23 a imm = imm % 524288 * 32 := rfl
  have o4 : bin Tryd.prog .or 71 false (W32 (3036676096 + d + n * 32 + m * 65536)) (W32 (wNum 23 a imm)) = some (W32 (3036676096 + d + n * 32 + m * 65536 + wNum 23 a imm)) := by
    rw [e4]
    exact or_dj Tryd.prog 71 false ((dj_field (x := 3036676096 + d + n * 32 + m * 65536) (v := imm % 524288) (p := 32) (q := 524288) 5 19 rfl rfl (by omega) (by omega) (by omega) (by omega))) (by omega)
  have ef : formF 23 = ⟨(formF 23).nm, 3036676096, true, false, false, (formF 23).a, (formF 23).b⟩ := rfl
  have eo : isOp 23 = true := rfl
  have ew : wordF ⟨23, d, n, m, a, imm⟩ = 3036676096 + d + n * 32 + m * 65536 + wNum 23 a imm := rfl
  rw [ew]
  rw [eo, ef] at r1
  rw [ef] at r2
  rw [isa_Word.step]
  unfold isa_Word.c
  unfold Form.v at r1 r2
  clear e4 ef eo h ew
  generalize (formF 23).nm = nm at *
  generalize (formF 23).a = fa at *
  generalize (formF 23).b = fb at *
  generalize wNum 23 a imm = z at *
  refine e_in ?_
  repeat' first
    | (with_reducible first | refine eT ?_ | refine eN ?_ | refine eS ?_ | refine eXn ?_ | refine eXr ?_ | refine eX ?_ | refine eI ?_ | refine eK ?_ | refine eV0 ?_ | refine eGr0 ?_ | refine eGtt ?_ | refine eGff ?_ | refine eGtf ?_ | refine eGft ?_ | refine eGno ?_)
    | ((with_reducible apply eCn); (simp only [nth_zero, nth_succ]; first | done | (with_reducible exact rfl)))
    | ((with_reducible apply eJ); (rfl))
    | ((with_reducible apply eGr1); (first | rfl | (simp only [nth_zero, nth_succ]; rfl)))
    | ((with_reducible apply eB); (first | (with_reducible exact rfl) | (simp (disch := omega) only [qf, r1, r2, r3, c1, c2, c3, s1, s2, o1, o2, o3, o4]; first | done | (with_reducible exact rfl) | (with_reducible exact ⟨rfl, rfl⟩)) | (simp (disch := omega) only [qa, putC, AV.cells, storable, buildSt, fillA, buildRo, buildOwn, fillE, Nat.reduceLeDiff, Nat.reduceLT, Nat.reduceAdd, ↓reduceIte, r1, r2, r3, c1, c2, c3, s1, s2, o1, o2, o3, o4]; first | done | (with_reducible exact rfl) | (with_reducible exact ⟨rfl, rfl⟩))))
    | ((with_reducible apply eR); (simp only [nth_zero, nth_succ]; (with_reducible exact rfl)))
    | ((with_reducible first | refine sEql ?_ ?_ | refine sNeq ?_ ?_ | refine sLss ?_ ?_ | refine sLeq ?_ ?_ | refine sGtr ?_ ?_ | refine sGeq ?_ ?_ | refine sNot ?_ ?_ | refine sPick ?_ ?_ | refine sGd ?_ ?_ | refine eBool ?_ ?_) <;> intro hq <;> try subst hq)
  exact w2 rfl rfl rfl
theorem word_24 (G : Globs) (k : Nat) (d n m a imm : Int) (h : rightB ⟨24, d, n, m, a, imm⟩ = true) : isa_Word.f G (k + 5) [mV 24 d n m a imm] [] = some (.tup [W32 (wordF ⟨24, d, n, m, a, imm⟩), .bool true], []) := by
  have r1 : ∀ H, pureCall (isa_of.f G (k + 4)) [.int .i64 24] H = _ := fun H => pureCall_of (H := H) (of_spec G k 24) rfl rfl
  have r2 : ∀ H, pureCall (isa_fair.f G (k + 4)) [mV 24 d n m a imm, (formF 24).v] H = _ := fun H => pureCall_of (H := H) (fair_spec G (k + 1) 24 d n m a imm (formF 24) (form_bits 24)) rfl rfl
  have r3 : ∀ H, pureCall (isa_number.f G (k + 4)) [mV 24 d n m a imm] H = _ := fun H => pureCall_of (H := H) (number_spec G (k + 3) ⟨24, d, n, m, a, imm⟩ h) rfl rfl
  unfold rightB at h
  rw [Bool.and_eq_true] at h
  obtain ⟨_, h⟩ := h
  simp only at h
  rw [h] at r2
  simp [formF, fairB, regB, extraB, immB, halfI, stackB] at h
  have c1 : convInt .u32 (I6 d) = some (W32 d) := q_cv32 (by omega) (by omega)
  have c2 : convInt .u32 (I6 n) = some (W32 n) := q_cv32 (by omega) (by omega)
  have c3 : convInt .u32 (I6 m) = some (W32 m) := q_cv32 (by omega) (by omega)
  have s1 := shl_p Tryd.prog 71 true (v := n) (p := 32) (b := 5) 5 rfl (by decide) rfl (by omega) (by omega)
  have s2 := shl_p Tryd.prog 71 true (v := m) (p := 65536) (b := 16) 16 rfl (by decide) rfl (by omega) (by omega)
  have o1 := or_f0 Tryd.prog 71 false (x := 3560964096) (v := d) (q := 1) 0 rfl (by omega) (by omega) (by omega) (by omega) (by omega)
  have o2 := or_fd Tryd.prog 71 false (x := 3560964096 + d) (v := n) (p := 32) (q := 1) 5 0 rfl rfl (by omega) (by omega) (by omega) (by omega) (by omega)
  have o3 := or_fd Tryd.prog 71 false (x := 3560964096 + d + n * 32) (v := m) (p := 65536) (q := 1) 16 0 rfl rfl (by omega) (by omega) (by omega) (by omega) (by omega)
  have e4 : wNum 24 a imm = imm * 32 := rfl
  have o4 : bin Tryd.prog .or 71 false (W32 (3560964096 + d + n * 32 + m * 65536)) (W32 (wNum 24 a imm)) = some (W32 (3560964096 + d + n * 32 + m * 65536 + wNum 24 a imm)) := by
    rw [e4]
    exact or_dj Tryd.prog 71 false ((dj_field (x := 3560964096 + d + n * 32 + m * 65536) (v := imm) (p := 32) (q := 65536) 5 16 rfl rfl (by omega) (by omega) (by omega) (by omega))) (by omega)
  have ef : formF 24 = ⟨(formF 24).nm, 3560964096, false, false, false, (formF 24).a, (formF 24).b⟩ := rfl
  have eo : isOp 24 = true := rfl
  have ew : wordF ⟨24, d, n, m, a, imm⟩ = 3560964096 + d + n * 32 + m * 65536 + wNum 24 a imm := rfl
  rw [ew]
  rw [eo, ef] at r1
  rw [ef] at r2
  rw [isa_Word.step]
  unfold isa_Word.c
  unfold Form.v at r1 r2
  clear e4 ef eo h ew
  generalize (formF 24).nm = nm at *
  generalize (formF 24).a = fa at *
  generalize (formF 24).b = fb at *
  generalize wNum 24 a imm = z at *
  refine e_in ?_
  repeat' first
    | (with_reducible first | refine eT ?_ | refine eN ?_ | refine eS ?_ | refine eXn ?_ | refine eXr ?_ | refine eX ?_ | refine eI ?_ | refine eK ?_ | refine eV0 ?_ | refine eGr0 ?_ | refine eGtt ?_ | refine eGff ?_ | refine eGtf ?_ | refine eGft ?_ | refine eGno ?_)
    | ((with_reducible apply eCn); (simp only [nth_zero, nth_succ]; first | done | (with_reducible exact rfl)))
    | ((with_reducible apply eJ); (rfl))
    | ((with_reducible apply eGr1); (first | rfl | (simp only [nth_zero, nth_succ]; rfl)))
    | ((with_reducible apply eB); (first | (with_reducible exact rfl) | (simp (disch := omega) only [qf, r1, r2, r3, c1, c2, c3, s1, s2, o1, o2, o3, o4]; first | done | (with_reducible exact rfl) | (with_reducible exact ⟨rfl, rfl⟩)) | (simp (disch := omega) only [qa, putC, AV.cells, storable, buildSt, fillA, buildRo, buildOwn, fillE, Nat.reduceLeDiff, Nat.reduceLT, Nat.reduceAdd, ↓reduceIte, r1, r2, r3, c1, c2, c3, s1, s2, o1, o2, o3, o4]; first | done | (with_reducible exact rfl) | (with_reducible exact ⟨rfl, rfl⟩))))
    | ((with_reducible apply eR); (simp only [nth_zero, nth_succ]; (with_reducible exact rfl)))
    | ((with_reducible first | refine sEql ?_ ?_ | refine sNeq ?_ ?_ | refine sLss ?_ ?_ | refine sLeq ?_ ?_ | refine sGtr ?_ ?_ | refine sGeq ?_ ?_ | refine sNot ?_ ?_ | refine sPick ?_ ?_ | refine sGd ?_ ?_ | refine eBool ?_ ?_) <;> intro hq <;> try subst hq)
  exact w2 rfl rfl rfl

theorem word_spec (G : Globs) (k : Nat) (i : MI) : isa_Word.f G (k + 5) [i.v] [] = some (.tup [W32 (wordR i), .bool (rightB i)], []) := by
  cases hr : rightB i
  · have e : wordR i = 0 := by unfold wordR; rw [hr]; rfl
    rw [e]
    obtain ⟨op, d, n, m, a, imm⟩ := i
    show isa_Word.f G (k + 5) [mV op d n m a imm] [] = _
    rw [isa_Word.step]
    unfold isa_Word.c
    unfold rightB at hr
    have r1 : ∀ H, pureCall (isa_of.f G (k + 4)) [I6 op] H = _ := fun H => pureCall_of (H := H) (of_spec G k op) rfl rfl
    have r2 : ∀ H, pureCall (isa_fair.f G (k + 4)) [mV op d n m a imm, (formF op).v] H = _ := fun H => pureCall_of (H := H) (fair_spec G (k + 1) op d n m a imm (formF op) (form_bits op)) rfl rfl
    simp only at hr
    generalize fairB ⟨op, d, n, m, a, imm⟩ (formF op) = g2 at *
    generalize isOp op = g1 at *
    obtain ⟨nm, w, fd, fn, fm, fa, fb⟩ := formF op
    unfold Form.v at *
    refine e_in ?_
    cases g1
    · repeat' first
        | (with_reducible first | refine eT ?_ | refine eN ?_ | refine eS ?_ | refine eXn ?_ | refine eXr ?_ | refine eX ?_ | refine eI ?_ | refine eK ?_ | refine eV0 ?_ | refine eGr0 ?_ | refine eGtt ?_ | refine eGff ?_ | refine eGtf ?_ | refine eGft ?_ | refine eGno ?_)
        | ((with_reducible apply eCn); (simp only [nth_zero, nth_succ]; first | done | (with_reducible exact rfl)))
        | ((with_reducible apply eJ); (rfl))
        | ((with_reducible apply eGr1); (first | rfl | (simp only [nth_zero, nth_succ]; rfl)))
        | ((with_reducible apply eB); (first | (with_reducible exact rfl) | (simp (disch := omega) only [qf, r1, r2]; first | done | (with_reducible exact rfl) | (with_reducible exact ⟨rfl, rfl⟩)) | (simp (disch := omega) only [qa, putC, AV.cells, storable, buildSt, fillA, buildRo, buildOwn, fillE, Nat.reduceLeDiff, Nat.reduceLT, Nat.reduceAdd, ↓reduceIte, r1, r2]; first | done | (with_reducible exact rfl) | (with_reducible exact ⟨rfl, rfl⟩))))
        | ((with_reducible apply eR); (simp only [nth_zero, nth_succ]; (with_reducible exact rfl)))
        | ((with_reducible first | refine sEql ?_ ?_ | refine sNeq ?_ ?_ | refine sLss ?_ ?_ | refine sLeq ?_ ?_ | refine sGtr ?_ ?_ | refine sGeq ?_ ?_ | refine sNot ?_ ?_ | refine sPick ?_ ?_ | refine sGd ?_ ?_ | refine eBool ?_ ?_) <;> intro hq <;> try subst hq)
      exact w2 rfl rfl rfl
    · cases g2
      · repeat' first
          | (with_reducible first | refine eT ?_ | refine eN ?_ | refine eS ?_ | refine eXn ?_ | refine eXr ?_ | refine eX ?_ | refine eI ?_ | refine eK ?_ | refine eV0 ?_ | refine eGr0 ?_ | refine eGtt ?_ | refine eGff ?_ | refine eGtf ?_ | refine eGft ?_ | refine eGno ?_)
          | ((with_reducible apply eCn); (simp only [nth_zero, nth_succ]; first | done | (with_reducible exact rfl)))
          | ((with_reducible apply eJ); (rfl))
          | ((with_reducible apply eGr1); (first | rfl | (simp only [nth_zero, nth_succ]; rfl)))
          | ((with_reducible apply eB); (first | (with_reducible exact rfl) | (simp (disch := omega) only [qf, r1, r2]; first | done | (with_reducible exact rfl) | (with_reducible exact ⟨rfl, rfl⟩)) | (simp (disch := omega) only [qa, putC, AV.cells, storable, buildSt, fillA, buildRo, buildOwn, fillE, Nat.reduceLeDiff, Nat.reduceLT, Nat.reduceAdd, ↓reduceIte, r1, r2]; first | done | (with_reducible exact rfl) | (with_reducible exact ⟨rfl, rfl⟩))))
          | ((with_reducible apply eR); (simp only [nth_zero, nth_succ]; (with_reducible exact rfl)))
          | ((with_reducible first | refine sEql ?_ ?_ | refine sNeq ?_ ?_ | refine sLss ?_ ?_ | refine sLeq ?_ ?_ | refine sGtr ?_ ?_ | refine sGeq ?_ ?_ | refine sNot ?_ ?_ | refine sPick ?_ ?_ | refine sGd ?_ ?_ | refine eBool ?_ ?_) <;> intro hq <;> try subst hq)
        exact w2 rfl rfl rfl
      · cases hr
  · have e : wordR i = wordF i := by unfold wordR; rw [hr]; rfl
    rw [e]
    obtain ⟨op, d, n, m, a, imm⟩ := i
    show isa_Word.f G (k + 5) [mV op d n m a imm] [] = _
    have h24 := (Bool.and_eq_true_iff.1 hr).1
    have h24 : 1 ≤ op ∧ op ≤ 24 := of_decide_eq_true h24
    rcases op24 h24 with rfl | rfl | rfl | rfl | rfl | rfl | rfl | rfl | rfl | rfl | rfl | rfl | rfl | rfl | rfl | rfl | rfl | rfl | rfl | rfl | rfl | rfl | rfl | rfl
    · exact word_1 G k d n m a imm hr
    · exact word_2 G k d n m a imm hr
    · exact word_3 G k d n m a imm hr
    · exact word_4 G k d n m a imm hr
    · exact word_5 G k d n m a imm hr
    · exact word_6 G k d n m a imm hr
    · exact word_7 G k d n m a imm hr
    · exact word_8 G k d n m a imm hr
    · exact word_9 G k d n m a imm hr
    · exact word_10 G k d n m a imm hr
    · exact word_11 G k d n m a imm hr
    · exact word_12 G k d n m a imm hr
    · exact word_13 G k d n m a imm hr
    · exact word_14 G k d n m a imm hr
    · exact word_15 G k d n m a imm hr
    · exact word_16 G k d n m a imm hr
    · exact word_17 G k d n m a imm hr
    · exact word_18 G k d n m a imm hr
    · exact word_19 G k d n m a imm hr
    · exact word_20 G k d n m a imm hr
    · exact word_21 G k d n m a imm hr
    · exact word_22 G k d n m a imm hr
    · exact word_23 G k d n m a imm hr
    · exact word_24 G k d n m a imm hr
end Go.Proofs.YtdfglgnflldkpaaDoor.Mir
