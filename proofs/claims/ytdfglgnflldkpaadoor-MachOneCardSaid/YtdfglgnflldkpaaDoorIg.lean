/- The document's: an instruction's word. Printed by isa_ig.py. -/
import Derived.Test.YtdfglgnflldkpaaDoorIf
namespace Go.Proofs.YtdfglgnflldkpaaDoor.Mir
open Go
set_option linter.unusedVariables false
set_option linter.unusedSimpArgs false
set_option maxHeartbeats 8000000
set_option maxRecDepth 20000

theorem rword_1 (G : Globs) (k : Nat) (d n m a imm : Int) (h : rightB ⟨1, d, n, m, a, imm⟩ = true) : alembicref17_Word.f G (k + 6) [mV 1 d n m a imm] [] = some (.tup [W32 (wordF ⟨1, d, n, m, a, imm⟩), .bool true], []) := by
  have r1 : ∀ H, pureCall (alembicref17_right.f G (k + 5)) [mV 1 d n m a imm] H = _ := fun H => pureCall_of (H := H) (rright_spec G k 1 d n m a imm) rfl rfl
  have r2 : ∀ H, pureCall (alembicref17_partsOf.f G (k + 5)) [.int .i64 1] H = _ := fun H => pureCall_of (H := H) (parts_spec G (k + 1) 1) rfl rfl
  have r3 : ∀ H, pureCall (alembicref17_base.f G (k + 5)) [.int .i64 1] H = _ := fun H => pureCall_of (H := H) (rbase_spec G (k + 4) 1 (by decide)) rfl rfl
  rw [h] at r1
  unfold rightB at h
  rw [Bool.and_eq_true] at h
  obtain ⟨_, h⟩ := h
  simp [formF, fairB, regB, extraB, immB, halfI, stackB] at h
  have c1 : convInt .u32 (I6 d) = some (W32 d) := q_cv32 (by omega) (by omega)
  have c2 : convInt .u32 (I6 n) = some (W32 n) := q_cv32 (by omega) (by omega)
  have c3 : convInt .u32 (I6 m) = some (W32 m) := q_cv32 (by omega) (by omega)
  have s1 := shl_p Tryd.prog 71 true (v := n) (p := 32) (b := 5) 5 rfl (by decide) rfl (by omega) (by omega)
  have s2 := shl_p Tryd.prog 71 true (v := m) (p := 65536) (b := 16) 16 rfl (by decide) rfl (by omega) (by omega)
  have o1 := or_f0 Tryd.prog 71 false (x := 3531603968) (v := d) (q := 32) 5 rfl (by omega) (by omega) (by omega) (by omega) (by omega)
  have o2 := or_fd Tryd.prog 71 false (x := 3531603968 + d) (v := n) (p := 32) (q := 1) 5 0 rfl rfl (by omega) (by omega) (by omega) (by omega) (by omega)
  have o3 := or_fd Tryd.prog 71 false (x := 3531603968 + d + n * 32) (v := m) (p := 65536) (q := 1) 16 0 rfl rfl (by omega) (by omega) (by omega) (by omega) (by omega)
  have t1 := shl_p Tryd.prog 71 true (v := a) (p := 2097152) (b := 21) 21 rfl (by decide) rfl (by omega) (by omega)
  have t2 := or_fd Tryd.prog 71 false (x := 3531603968 + d + n * 32 + m * 65536) (v := a) (p := 2097152) (q := 4) 21 2 rfl rfl (by omega) (by omega) (by omega) (by omega) (by omega)
  have t3 := shl_p Tryd.prog 71 true (v := imm) (p := 32) (b := 5) 5 rfl (by decide) rfl (by omega) (by omega)
  have t4 := or_fd Tryd.prog 71 false (x := 3531603968 + d + n * 32 + m * 65536 + a * 2097152) (v := imm) (p := 32) (q := 65536) 5 16 rfl rfl (by omega) (by omega) (by omega) (by omega) (by omega)
  have ew : wordF ⟨1, d, n, m, a, imm⟩ = 3531603968 + d + n * 32 + m * 65536 + (a * 2097152 + imm * 32) := rfl
  rw [ew]
  simp only [partsV, formF, Int.reduceEq, if_true, if_false, ↓reduceIte] at r2 r3
  clear ew
  rw [alembicref17_Word.step]
  unfold alembicref17_Word.c
  refine e_in ?_
  repeat' first
    | (with_reducible first | refine eT ?_ | refine eN ?_ | refine eS ?_ | refine eXn ?_ | refine eXr ?_ | refine eX ?_ | refine eI ?_ | refine eK ?_ | refine eV0 ?_ | refine eGr0 ?_ | refine eGtt ?_ | refine eGff ?_ | refine eGtf ?_ | refine eGft ?_ | refine eGno ?_)
    | ((with_reducible apply eCn); (simp only [nth_zero, nth_succ]; first | done | (with_reducible exact rfl)))
    | ((with_reducible apply eJ); (rfl))
    | ((with_reducible apply eGr1); (first | rfl | (simp only [nth_zero, nth_succ]; rfl)))
    | ((with_reducible apply eB); (first | (with_reducible exact rfl) | (simp (disch := omega) only [qf, r1, r2, r3, c1, c2, c3, s1, s2, o1, o2, o3, t1, t2, t3, t4]; first | done | (with_reducible exact rfl) | (with_reducible exact ⟨rfl, rfl⟩)) | (simp (disch := omega) only [qa, putC, AV.cells, storable, buildSt, fillA, buildRo, buildOwn, fillE, Nat.reduceLeDiff, Nat.reduceLT, Nat.reduceAdd, ↓reduceIte, r1, r2, r3, c1, c2, c3, s1, s2, o1, o2, o3, t1, t2, t3, t4]; first | done | (with_reducible exact rfl) | (with_reducible exact ⟨rfl, rfl⟩))))
    | ((with_reducible apply eR); (simp only [nth_zero, nth_succ]; (with_reducible exact rfl)))
    | ((with_reducible first | refine sEql ?_ ?_ | refine sNeq ?_ ?_ | refine sLss ?_ ?_ | refine sLeq ?_ ?_ | refine sGtr ?_ ?_ | refine sGeq ?_ ?_ | refine sNot ?_ ?_ | refine sPick ?_ ?_ | refine sGd ?_ ?_ | refine eBool ?_ ?_) <;> intro hq <;> try subst hq)
  all_goals first | exact w2b rfl rfl | (refine w2b ?_ rfl; omega)
theorem rword_2 (G : Globs) (k : Nat) (d n m a imm : Int) (h : rightB ⟨2, d, n, m, a, imm⟩ = true) : alembicref17_Word.f G (k + 6) [mV 2 d n m a imm] [] = some (.tup [W32 (wordF ⟨2, d, n, m, a, imm⟩), .bool true], []) := by
  have r1 : ∀ H, pureCall (alembicref17_right.f G (k + 5)) [mV 2 d n m a imm] H = _ := fun H => pureCall_of (H := H) (rright_spec G k 2 d n m a imm) rfl rfl
  have r2 : ∀ H, pureCall (alembicref17_partsOf.f G (k + 5)) [.int .i64 2] H = _ := fun H => pureCall_of (H := H) (parts_spec G (k + 1) 2) rfl rfl
  have r3 : ∀ H, pureCall (alembicref17_base.f G (k + 5)) [.int .i64 2] H = _ := fun H => pureCall_of (H := H) (rbase_spec G (k + 4) 2 (by decide)) rfl rfl
  rw [h] at r1
  unfold rightB at h
  rw [Bool.and_eq_true] at h
  obtain ⟨_, h⟩ := h
  simp [formF, fairB, regB, extraB, immB, halfI, stackB] at h
  have c1 : convInt .u32 (I6 d) = some (W32 d) := q_cv32 (by omega) (by omega)
  have c2 : convInt .u32 (I6 n) = some (W32 n) := q_cv32 (by omega) (by omega)
  have c3 : convInt .u32 (I6 m) = some (W32 m) := q_cv32 (by omega) (by omega)
  have s1 := shl_p Tryd.prog 71 true (v := n) (p := 32) (b := 5) 5 rfl (by decide) rfl (by omega) (by omega)
  have s2 := shl_p Tryd.prog 71 true (v := m) (p := 65536) (b := 16) 16 rfl (by decide) rfl (by omega) (by omega)
  have o1 := or_f0 Tryd.prog 71 false (x := 4068474880) (v := d) (q := 32) 5 rfl (by omega) (by omega) (by omega) (by omega) (by omega)
  have o2 := or_fd Tryd.prog 71 false (x := 4068474880 + d) (v := n) (p := 32) (q := 1) 5 0 rfl rfl (by omega) (by omega) (by omega) (by omega) (by omega)
  have o3 := or_fd Tryd.prog 71 false (x := 4068474880 + d + n * 32) (v := m) (p := 65536) (q := 1) 16 0 rfl rfl (by omega) (by omega) (by omega) (by omega) (by omega)
  have t1 := shl_p Tryd.prog 71 true (v := a) (p := 2097152) (b := 21) 21 rfl (by decide) rfl (by omega) (by omega)
  have t2 := or_fd Tryd.prog 71 false (x := 4068474880 + d + n * 32 + m * 65536) (v := a) (p := 2097152) (q := 4) 21 2 rfl rfl (by omega) (by omega) (by omega) (by omega) (by omega)
  have t3 := shl_p Tryd.prog 71 true (v := imm) (p := 32) (b := 5) 5 rfl (by decide) rfl (by omega) (by omega)
  have t4 := or_fd Tryd.prog 71 false (x := 4068474880 + d + n * 32 + m * 65536 + a * 2097152) (v := imm) (p := 32) (q := 65536) 5 16 rfl rfl (by omega) (by omega) (by omega) (by omega) (by omega)
  have ew : wordF ⟨2, d, n, m, a, imm⟩ = 4068474880 + d + n * 32 + m * 65536 + (a * 2097152 + imm * 32) := rfl
  rw [ew]
  simp only [partsV, formF, Int.reduceEq, if_true, if_false, ↓reduceIte] at r2 r3
  clear ew
  rw [alembicref17_Word.step]
  unfold alembicref17_Word.c
  refine e_in ?_
  repeat' first
    | (with_reducible first | refine eT ?_ | refine eN ?_ | refine eS ?_ | refine eXn ?_ | refine eXr ?_ | refine eX ?_ | refine eI ?_ | refine eK ?_ | refine eV0 ?_ | refine eGr0 ?_ | refine eGtt ?_ | refine eGff ?_ | refine eGtf ?_ | refine eGft ?_ | refine eGno ?_)
    | ((with_reducible apply eCn); (simp only [nth_zero, nth_succ]; first | done | (with_reducible exact rfl)))
    | ((with_reducible apply eJ); (rfl))
    | ((with_reducible apply eGr1); (first | rfl | (simp only [nth_zero, nth_succ]; rfl)))
    | ((with_reducible apply eB); (first | (with_reducible exact rfl) | (simp (disch := omega) only [qf, r1, r2, r3, c1, c2, c3, s1, s2, o1, o2, o3, t1, t2, t3, t4]; first | done | (with_reducible exact rfl) | (with_reducible exact ⟨rfl, rfl⟩)) | (simp (disch := omega) only [qa, putC, AV.cells, storable, buildSt, fillA, buildRo, buildOwn, fillE, Nat.reduceLeDiff, Nat.reduceLT, Nat.reduceAdd, ↓reduceIte, r1, r2, r3, c1, c2, c3, s1, s2, o1, o2, o3, t1, t2, t3, t4]; first | done | (with_reducible exact rfl) | (with_reducible exact ⟨rfl, rfl⟩))))
    | ((with_reducible apply eR); (simp only [nth_zero, nth_succ]; (with_reducible exact rfl)))
    | ((with_reducible first | refine sEql ?_ ?_ | refine sNeq ?_ ?_ | refine sLss ?_ ?_ | refine sLeq ?_ ?_ | refine sGtr ?_ ?_ | refine sGeq ?_ ?_ | refine sNot ?_ ?_ | refine sPick ?_ ?_ | refine sGd ?_ ?_ | refine eBool ?_ ?_) <;> intro hq <;> try subst hq)
  all_goals first | exact w2b rfl rfl | (refine w2b ?_ rfl; omega)
theorem rword_3 (G : Globs) (k : Nat) (d n m a imm : Int) (h : rightB ⟨3, d, n, m, a, imm⟩ = true) : alembicref17_Word.f G (k + 6) [mV 3 d n m a imm] [] = some (.tup [W32 (wordF ⟨3, d, n, m, a, imm⟩), .bool true], []) := by
  have r1 : ∀ H, pureCall (alembicref17_right.f G (k + 5)) [mV 3 d n m a imm] H = _ := fun H => pureCall_of (H := H) (rright_spec G k 3 d n m a imm) rfl rfl
  have r2 : ∀ H, pureCall (alembicref17_partsOf.f G (k + 5)) [.int .i64 3] H = _ := fun H => pureCall_of (H := H) (parts_spec G (k + 1) 3) rfl rfl
  have r3 : ∀ H, pureCall (alembicref17_base.f G (k + 5)) [.int .i64 3] H = _ := fun H => pureCall_of (H := H) (rbase_spec G (k + 4) 3 (by decide)) rfl rfl
  rw [h] at r1
  unfold rightB at h
  rw [Bool.and_eq_true] at h
  obtain ⟨_, h⟩ := h
  simp [formF, fairB, regB, extraB, immB, halfI, stackB] at h
  have c1 : convInt .u32 (I6 d) = some (W32 d) := q_cv32 (by omega) (by omega)
  have c2 : convInt .u32 (I6 n) = some (W32 n) := q_cv32 (by omega) (by omega)
  have c3 : convInt .u32 (I6 m) = some (W32 m) := q_cv32 (by omega) (by omega)
  have s1 := shl_p Tryd.prog 71 true (v := n) (p := 32) (b := 5) 5 rfl (by decide) rfl (by omega) (by omega)
  have s2 := shl_p Tryd.prog 71 true (v := m) (p := 65536) (b := 16) 16 rfl (by decide) rfl (by omega) (by omega)
  have o1 := or_f0 Tryd.prog 71 false (x := 2332033024) (v := d) (q := 32) 5 rfl (by omega) (by omega) (by omega) (by omega) (by omega)
  have o2 := or_fd Tryd.prog 71 false (x := 2332033024 + d) (v := n) (p := 32) (q := 32) 5 5 rfl rfl (by omega) (by omega) (by omega) (by omega) (by omega)
  have o3 := or_fd Tryd.prog 71 false (x := 2332033024 + d + n * 32) (v := m) (p := 65536) (q := 32) 16 5 rfl rfl (by omega) (by omega) (by omega) (by omega) (by omega)
  have ew : wordF ⟨3, d, n, m, a, imm⟩ = 2332033024 + d + n * 32 + m * 65536 + 0 := rfl
  rw [ew]
  simp only [partsV, formF, Int.reduceEq, if_true, if_false, ↓reduceIte] at r2 r3
  clear ew
  rw [alembicref17_Word.step]
  unfold alembicref17_Word.c
  refine e_in ?_
  repeat' first
    | (with_reducible first | refine eT ?_ | refine eN ?_ | refine eS ?_ | refine eXn ?_ | refine eXr ?_ | refine eX ?_ | refine eI ?_ | refine eK ?_ | refine eV0 ?_ | refine eGr0 ?_ | refine eGtt ?_ | refine eGff ?_ | refine eGtf ?_ | refine eGft ?_ | refine eGno ?_)
    | ((with_reducible apply eCn); (simp only [nth_zero, nth_succ]; first | done | (with_reducible exact rfl)))
    | ((with_reducible apply eJ); (rfl))
    | ((with_reducible apply eGr1); (first | rfl | (simp only [nth_zero, nth_succ]; rfl)))
    | ((with_reducible apply eB); (first | (with_reducible exact rfl) | (simp (disch := omega) only [qf, r1, r2, r3, c1, c2, c3, s1, s2, o1, o2, o3]; first | done | (with_reducible exact rfl) | (with_reducible exact ⟨rfl, rfl⟩)) | (simp (disch := omega) only [qa, putC, AV.cells, storable, buildSt, fillA, buildRo, buildOwn, fillE, Nat.reduceLeDiff, Nat.reduceLT, Nat.reduceAdd, ↓reduceIte, r1, r2, r3, c1, c2, c3, s1, s2, o1, o2, o3]; first | done | (with_reducible exact rfl) | (with_reducible exact ⟨rfl, rfl⟩))))
    | ((with_reducible apply eR); (simp only [nth_zero, nth_succ]; (with_reducible exact rfl)))
    | ((with_reducible first | refine sEql ?_ ?_ | refine sNeq ?_ ?_ | refine sLss ?_ ?_ | refine sLeq ?_ ?_ | refine sGtr ?_ ?_ | refine sGeq ?_ ?_ | refine sNot ?_ ?_ | refine sPick ?_ ?_ | refine sGd ?_ ?_ | refine eBool ?_ ?_) <;> intro hq <;> try subst hq)
  all_goals first | exact w2b rfl rfl | (refine w2b ?_ rfl; omega)
theorem rword_4 (G : Globs) (k : Nat) (d n m a imm : Int) (h : rightB ⟨4, d, n, m, a, imm⟩ = true) : alembicref17_Word.f G (k + 6) [mV 4 d n m a imm] [] = some (.tup [W32 (wordF ⟨4, d, n, m, a, imm⟩), .bool true], []) := by
  have r1 : ∀ H, pureCall (alembicref17_right.f G (k + 5)) [mV 4 d n m a imm] H = _ := fun H => pureCall_of (H := H) (rright_spec G k 4 d n m a imm) rfl rfl
  have r2 : ∀ H, pureCall (alembicref17_partsOf.f G (k + 5)) [.int .i64 4] H = _ := fun H => pureCall_of (H := H) (parts_spec G (k + 1) 4) rfl rfl
  have r3 : ∀ H, pureCall (alembicref17_base.f G (k + 5)) [.int .i64 4] H = _ := fun H => pureCall_of (H := H) (rbase_spec G (k + 4) 4 (by decide)) rfl rfl
  rw [h] at r1
  unfold rightB at h
  rw [Bool.and_eq_true] at h
  obtain ⟨_, h⟩ := h
  simp [formF, fairB, regB, extraB, immB, halfI, stackB] at h
  have c1 : convInt .u32 (I6 d) = some (W32 d) := q_cv32 (by omega) (by omega)
  have c2 : convInt .u32 (I6 n) = some (W32 n) := q_cv32 (by omega) (by omega)
  have c3 : convInt .u32 (I6 m) = some (W32 m) := q_cv32 (by omega) (by omega)
  have s1 := shl_p Tryd.prog 71 true (v := n) (p := 32) (b := 5) 5 rfl (by decide) rfl (by omega) (by omega)
  have s2 := shl_p Tryd.prog 71 true (v := m) (p := 65536) (b := 16) 16 rfl (by decide) rfl (by omega) (by omega)
  have o1 := or_f0 Tryd.prog 71 false (x := 3405774848) (v := d) (q := 32) 5 rfl (by omega) (by omega) (by omega) (by omega) (by omega)
  have o2 := or_fd Tryd.prog 71 false (x := 3405774848 + d) (v := n) (p := 32) (q := 32) 5 5 rfl rfl (by omega) (by omega) (by omega) (by omega) (by omega)
  have o3 := or_fd Tryd.prog 71 false (x := 3405774848 + d + n * 32) (v := m) (p := 65536) (q := 32) 16 5 rfl rfl (by omega) (by omega) (by omega) (by omega) (by omega)
  have ew : wordF ⟨4, d, n, m, a, imm⟩ = 3405774848 + d + n * 32 + m * 65536 + 0 := rfl
  rw [ew]
  simp only [partsV, formF, Int.reduceEq, if_true, if_false, ↓reduceIte] at r2 r3
  clear ew
  rw [alembicref17_Word.step]
  unfold alembicref17_Word.c
  refine e_in ?_
  repeat' first
    | (with_reducible first | refine eT ?_ | refine eN ?_ | refine eS ?_ | refine eXn ?_ | refine eXr ?_ | refine eX ?_ | refine eI ?_ | refine eK ?_ | refine eV0 ?_ | refine eGr0 ?_ | refine eGtt ?_ | refine eGff ?_ | refine eGtf ?_ | refine eGft ?_ | refine eGno ?_)
    | ((with_reducible apply eCn); (simp only [nth_zero, nth_succ]; first | done | (with_reducible exact rfl)))
    | ((with_reducible apply eJ); (rfl))
    | ((with_reducible apply eGr1); (first | rfl | (simp only [nth_zero, nth_succ]; rfl)))
    | ((with_reducible apply eB); (first | (with_reducible exact rfl) | (simp (disch := omega) only [qf, r1, r2, r3, c1, c2, c3, s1, s2, o1, o2, o3]; first | done | (with_reducible exact rfl) | (with_reducible exact ⟨rfl, rfl⟩)) | (simp (disch := omega) only [qa, putC, AV.cells, storable, buildSt, fillA, buildRo, buildOwn, fillE, Nat.reduceLeDiff, Nat.reduceLT, Nat.reduceAdd, ↓reduceIte, r1, r2, r3, c1, c2, c3, s1, s2, o1, o2, o3]; first | done | (with_reducible exact rfl) | (with_reducible exact ⟨rfl, rfl⟩))))
    | ((with_reducible apply eR); (simp only [nth_zero, nth_succ]; (with_reducible exact rfl)))
    | ((with_reducible first | refine sEql ?_ ?_ | refine sNeq ?_ ?_ | refine sLss ?_ ?_ | refine sLeq ?_ ?_ | refine sGtr ?_ ?_ | refine sGeq ?_ ?_ | refine sNot ?_ ?_ | refine sPick ?_ ?_ | refine sGd ?_ ?_ | refine eBool ?_ ?_) <;> intro hq <;> try subst hq)
  all_goals first | exact w2b rfl rfl | (refine w2b ?_ rfl; omega)
theorem rword_5 (G : Globs) (k : Nat) (d n m a imm : Int) (h : rightB ⟨5, d, n, m, a, imm⟩ = true) : alembicref17_Word.f G (k + 6) [mV 5 d n m a imm] [] = some (.tup [W32 (wordF ⟨5, d, n, m, a, imm⟩), .bool true], []) := by
  have r1 : ∀ H, pureCall (alembicref17_right.f G (k + 5)) [mV 5 d n m a imm] H = _ := fun H => pureCall_of (H := H) (rright_spec G k 5 d n m a imm) rfl rfl
  have r2 : ∀ H, pureCall (alembicref17_partsOf.f G (k + 5)) [.int .i64 5] H = _ := fun H => pureCall_of (H := H) (parts_spec G (k + 1) 5) rfl rfl
  have r3 : ∀ H, pureCall (alembicref17_base.f G (k + 5)) [.int .i64 5] H = _ := fun H => pureCall_of (H := H) (rbase_spec G (k + 4) 5 (by decide)) rfl rfl
  rw [h] at r1
  unfold rightB at h
  rw [Bool.and_eq_true] at h
  obtain ⟨_, h⟩ := h
  simp [formF, fairB, regB, extraB, immB, halfI, stackB] at h
  have c1 : convInt .u32 (I6 d) = some (W32 d) := q_cv32 (by omega) (by omega)
  have c2 : convInt .u32 (I6 n) = some (W32 n) := q_cv32 (by omega) (by omega)
  have c3 : convInt .u32 (I6 m) = some (W32 m) := q_cv32 (by omega) (by omega)
  have s1 := shl_p Tryd.prog 71 true (v := n) (p := 32) (b := 5) 5 rfl (by decide) rfl (by omega) (by omega)
  have s2 := shl_p Tryd.prog 71 true (v := m) (p := 65536) (b := 16) 16 rfl (by decide) rfl (by omega) (by omega)
  have o1 := or_f0 Tryd.prog 71 false (x := 2315255808) (v := d) (q := 32) 5 rfl (by omega) (by omega) (by omega) (by omega) (by omega)
  have o2 := or_fd Tryd.prog 71 false (x := 2315255808 + d) (v := n) (p := 32) (q := 32) 5 5 rfl rfl (by omega) (by omega) (by omega) (by omega) (by omega)
  have o3 := or_fd Tryd.prog 71 false (x := 2315255808 + d + n * 32) (v := m) (p := 65536) (q := 32) 16 5 rfl rfl (by omega) (by omega) (by omega) (by omega) (by omega)
  have ew : wordF ⟨5, d, n, m, a, imm⟩ = 2315255808 + d + n * 32 + m * 65536 + 0 := rfl
  rw [ew]
  simp only [partsV, formF, Int.reduceEq, if_true, if_false, ↓reduceIte] at r2 r3
  clear ew
  rw [alembicref17_Word.step]
  unfold alembicref17_Word.c
  refine e_in ?_
  repeat' first
    | (with_reducible first | refine eT ?_ | refine eN ?_ | refine eS ?_ | refine eXn ?_ | refine eXr ?_ | refine eX ?_ | refine eI ?_ | refine eK ?_ | refine eV0 ?_ | refine eGr0 ?_ | refine eGtt ?_ | refine eGff ?_ | refine eGtf ?_ | refine eGft ?_ | refine eGno ?_)
    | ((with_reducible apply eCn); (simp only [nth_zero, nth_succ]; first | done | (with_reducible exact rfl)))
    | ((with_reducible apply eJ); (rfl))
    | ((with_reducible apply eGr1); (first | rfl | (simp only [nth_zero, nth_succ]; rfl)))
    | ((with_reducible apply eB); (first | (with_reducible exact rfl) | (simp (disch := omega) only [qf, r1, r2, r3, c1, c2, c3, s1, s2, o1, o2, o3]; first | done | (with_reducible exact rfl) | (with_reducible exact ⟨rfl, rfl⟩)) | (simp (disch := omega) only [qa, putC, AV.cells, storable, buildSt, fillA, buildRo, buildOwn, fillE, Nat.reduceLeDiff, Nat.reduceLT, Nat.reduceAdd, ↓reduceIte, r1, r2, r3, c1, c2, c3, s1, s2, o1, o2, o3]; first | done | (with_reducible exact rfl) | (with_reducible exact ⟨rfl, rfl⟩))))
    | ((with_reducible apply eR); (simp only [nth_zero, nth_succ]; (with_reducible exact rfl)))
    | ((with_reducible first | refine sEql ?_ ?_ | refine sNeq ?_ ?_ | refine sLss ?_ ?_ | refine sLeq ?_ ?_ | refine sGtr ?_ ?_ | refine sGeq ?_ ?_ | refine sNot ?_ ?_ | refine sPick ?_ ?_ | refine sGd ?_ ?_ | refine eBool ?_ ?_) <;> intro hq <;> try subst hq)
  all_goals first | exact w2b rfl rfl | (refine w2b ?_ rfl; omega)
theorem rword_6 (G : Globs) (k : Nat) (d n m a imm : Int) (h : rightB ⟨6, d, n, m, a, imm⟩ = true) : alembicref17_Word.f G (k + 6) [mV 6 d n m a imm] [] = some (.tup [W32 (wordF ⟨6, d, n, m, a, imm⟩), .bool true], []) := by
  have r1 : ∀ H, pureCall (alembicref17_right.f G (k + 5)) [mV 6 d n m a imm] H = _ := fun H => pureCall_of (H := H) (rright_spec G k 6 d n m a imm) rfl rfl
  have r2 : ∀ H, pureCall (alembicref17_partsOf.f G (k + 5)) [.int .i64 6] H = _ := fun H => pureCall_of (H := H) (parts_spec G (k + 1) 6) rfl rfl
  have r3 : ∀ H, pureCall (alembicref17_base.f G (k + 5)) [.int .i64 6] H = _ := fun H => pureCall_of (H := H) (rbase_spec G (k + 4) 6 (by decide)) rfl rfl
  rw [h] at r1
  unfold rightB at h
  rw [Bool.and_eq_true] at h
  obtain ⟨_, h⟩ := h
  simp [formF, fairB, regB, extraB, immB, halfI, stackB] at h
  have c1 : convInt .u32 (I6 d) = some (W32 d) := q_cv32 (by omega) (by omega)
  have c2 : convInt .u32 (I6 n) = some (W32 n) := q_cv32 (by omega) (by omega)
  have c3 : convInt .u32 (I6 m) = some (W32 m) := q_cv32 (by omega) (by omega)
  have s1 := shl_p Tryd.prog 71 true (v := n) (p := 32) (b := 5) 5 rfl (by decide) rfl (by omega) (by omega)
  have s2 := shl_p Tryd.prog 71 true (v := m) (p := 65536) (b := 16) 16 rfl (by decide) rfl (by omega) (by omega)
  have o1 := or_f0 Tryd.prog 71 false (x := 2852126720) (v := d) (q := 32) 5 rfl (by omega) (by omega) (by omega) (by omega) (by omega)
  have o2 := or_fd Tryd.prog 71 false (x := 2852126720 + d) (v := n) (p := 32) (q := 32) 5 5 rfl rfl (by omega) (by omega) (by omega) (by omega) (by omega)
  have o3 := or_fd Tryd.prog 71 false (x := 2852126720 + d + n * 32) (v := m) (p := 65536) (q := 32) 16 5 rfl rfl (by omega) (by omega) (by omega) (by omega) (by omega)
  have ew : wordF ⟨6, d, n, m, a, imm⟩ = 2852126720 + d + n * 32 + m * 65536 + 0 := rfl
  rw [ew]
  simp only [partsV, formF, Int.reduceEq, if_true, if_false, ↓reduceIte] at r2 r3
  clear ew
  rw [alembicref17_Word.step]
  unfold alembicref17_Word.c
  refine e_in ?_
  repeat' first
    | (with_reducible first | refine eT ?_ | refine eN ?_ | refine eS ?_ | refine eXn ?_ | refine eXr ?_ | refine eX ?_ | refine eI ?_ | refine eK ?_ | refine eV0 ?_ | refine eGr0 ?_ | refine eGtt ?_ | refine eGff ?_ | refine eGtf ?_ | refine eGft ?_ | refine eGno ?_)
    | ((with_reducible apply eCn); (simp only [nth_zero, nth_succ]; first | done | (with_reducible exact rfl)))
    | ((with_reducible apply eJ); (rfl))
    | ((with_reducible apply eGr1); (first | rfl | (simp only [nth_zero, nth_succ]; rfl)))
    | ((with_reducible apply eB); (first | (with_reducible exact rfl) | (simp (disch := omega) only [qf, r1, r2, r3, c1, c2, c3, s1, s2, o1, o2, o3]; first | done | (with_reducible exact rfl) | (with_reducible exact ⟨rfl, rfl⟩)) | (simp (disch := omega) only [qa, putC, AV.cells, storable, buildSt, fillA, buildRo, buildOwn, fillE, Nat.reduceLeDiff, Nat.reduceLT, Nat.reduceAdd, ↓reduceIte, r1, r2, r3, c1, c2, c3, s1, s2, o1, o2, o3]; first | done | (with_reducible exact rfl) | (with_reducible exact ⟨rfl, rfl⟩))))
    | ((with_reducible apply eR); (simp only [nth_zero, nth_succ]; (with_reducible exact rfl)))
    | ((with_reducible first | refine sEql ?_ ?_ | refine sNeq ?_ ?_ | refine sLss ?_ ?_ | refine sLeq ?_ ?_ | refine sGtr ?_ ?_ | refine sGeq ?_ ?_ | refine sNot ?_ ?_ | refine sPick ?_ ?_ | refine sGd ?_ ?_ | refine eBool ?_ ?_) <;> intro hq <;> try subst hq)
  all_goals first | exact w2b rfl rfl | (refine w2b ?_ rfl; omega)
theorem rword_7 (G : Globs) (k : Nat) (d n m a imm : Int) (h : rightB ⟨7, d, n, m, a, imm⟩ = true) : alembicref17_Word.f G (k + 6) [mV 7 d n m a imm] [] = some (.tup [W32 (wordF ⟨7, d, n, m, a, imm⟩), .bool true], []) := by
  have r1 : ∀ H, pureCall (alembicref17_right.f G (k + 5)) [mV 7 d n m a imm] H = _ := fun H => pureCall_of (H := H) (rright_spec G k 7 d n m a imm) rfl rfl
  have r2 : ∀ H, pureCall (alembicref17_partsOf.f G (k + 5)) [.int .i64 7] H = _ := fun H => pureCall_of (H := H) (parts_spec G (k + 1) 7) rfl rfl
  have r3 : ∀ H, pureCall (alembicref17_base.f G (k + 5)) [.int .i64 7] H = _ := fun H => pureCall_of (H := H) (rbase_spec G (k + 4) 7 (by decide)) rfl rfl
  rw [h] at r1
  unfold rightB at h
  rw [Bool.and_eq_true] at h
  obtain ⟨_, h⟩ := h
  simp [formF, fairB, regB, extraB, immB, halfI, stackB] at h
  have c1 : convInt .u32 (I6 d) = some (W32 d) := q_cv32 (by omega) (by omega)
  have c2 : convInt .u32 (I6 n) = some (W32 n) := q_cv32 (by omega) (by omega)
  have c3 : convInt .u32 (I6 m) = some (W32 m) := q_cv32 (by omega) (by omega)
  have s1 := shl_p Tryd.prog 71 true (v := n) (p := 32) (b := 5) 5 rfl (by decide) rfl (by omega) (by omega)
  have s2 := shl_p Tryd.prog 71 true (v := m) (p := 65536) (b := 16) 16 rfl (by decide) rfl (by omega) (by omega)
  have o1 := or_f0 Tryd.prog 71 false (x := 3388997632) (v := d) (q := 32) 5 rfl (by omega) (by omega) (by omega) (by omega) (by omega)
  have o2 := or_fd Tryd.prog 71 false (x := 3388997632 + d) (v := n) (p := 32) (q := 32) 5 5 rfl rfl (by omega) (by omega) (by omega) (by omega) (by omega)
  have o3 := or_fd Tryd.prog 71 false (x := 3388997632 + d + n * 32) (v := m) (p := 65536) (q := 32) 16 5 rfl rfl (by omega) (by omega) (by omega) (by omega) (by omega)
  have ew : wordF ⟨7, d, n, m, a, imm⟩ = 3388997632 + d + n * 32 + m * 65536 + 0 := rfl
  rw [ew]
  simp only [partsV, formF, Int.reduceEq, if_true, if_false, ↓reduceIte] at r2 r3
  clear ew
  rw [alembicref17_Word.step]
  unfold alembicref17_Word.c
  refine e_in ?_
  repeat' first
    | (with_reducible first | refine eT ?_ | refine eN ?_ | refine eS ?_ | refine eXn ?_ | refine eXr ?_ | refine eX ?_ | refine eI ?_ | refine eK ?_ | refine eV0 ?_ | refine eGr0 ?_ | refine eGtt ?_ | refine eGff ?_ | refine eGtf ?_ | refine eGft ?_ | refine eGno ?_)
    | ((with_reducible apply eCn); (simp only [nth_zero, nth_succ]; first | done | (with_reducible exact rfl)))
    | ((with_reducible apply eJ); (rfl))
    | ((with_reducible apply eGr1); (first | rfl | (simp only [nth_zero, nth_succ]; rfl)))
    | ((with_reducible apply eB); (first | (with_reducible exact rfl) | (simp (disch := omega) only [qf, r1, r2, r3, c1, c2, c3, s1, s2, o1, o2, o3]; first | done | (with_reducible exact rfl) | (with_reducible exact ⟨rfl, rfl⟩)) | (simp (disch := omega) only [qa, putC, AV.cells, storable, buildSt, fillA, buildRo, buildOwn, fillE, Nat.reduceLeDiff, Nat.reduceLT, Nat.reduceAdd, ↓reduceIte, r1, r2, r3, c1, c2, c3, s1, s2, o1, o2, o3]; first | done | (with_reducible exact rfl) | (with_reducible exact ⟨rfl, rfl⟩))))
    | ((with_reducible apply eR); (simp only [nth_zero, nth_succ]; (with_reducible exact rfl)))
    | ((with_reducible first | refine sEql ?_ ?_ | refine sNeq ?_ ?_ | refine sLss ?_ ?_ | refine sLeq ?_ ?_ | refine sGtr ?_ ?_ | refine sGeq ?_ ?_ | refine sNot ?_ ?_ | refine sPick ?_ ?_ | refine sGd ?_ ?_ | refine eBool ?_ ?_) <;> intro hq <;> try subst hq)
  all_goals first | exact w2b rfl rfl | (refine w2b ?_ rfl; omega)
theorem rword_8 (G : Globs) (k : Nat) (d n m a imm : Int) (h : rightB ⟨8, d, n, m, a, imm⟩ = true) : alembicref17_Word.f G (k + 6) [mV 8 d n m a imm] [] = some (.tup [W32 (wordF ⟨8, d, n, m, a, imm⟩), .bool true], []) := by
  have r1 : ∀ H, pureCall (alembicref17_right.f G (k + 5)) [mV 8 d n m a imm] H = _ := fun H => pureCall_of (H := H) (rright_spec G k 8 d n m a imm) rfl rfl
  have r2 : ∀ H, pureCall (alembicref17_partsOf.f G (k + 5)) [.int .i64 8] H = _ := fun H => pureCall_of (H := H) (parts_spec G (k + 1) 8) rfl rfl
  have r3 : ∀ H, pureCall (alembicref17_base.f G (k + 5)) [.int .i64 8] H = _ := fun H => pureCall_of (H := H) (rbase_spec G (k + 4) 8 (by decide)) rfl rfl
  rw [h] at r1
  unfold rightB at h
  rw [Bool.and_eq_true] at h
  obtain ⟨_, h⟩ := h
  simp [formF, fairB, regB, extraB, immB, halfI, stackB] at h
  have c1 : convInt .u32 (I6 d) = some (W32 d) := q_cv32 (by omega) (by omega)
  have c2 : convInt .u32 (I6 n) = some (W32 n) := q_cv32 (by omega) (by omega)
  have c3 : convInt .u32 (I6 m) = some (W32 m) := q_cv32 (by omega) (by omega)
  have s1 := shl_p Tryd.prog 71 true (v := n) (p := 32) (b := 5) 5 rfl (by decide) rfl (by omega) (by omega)
  have s2 := shl_p Tryd.prog 71 true (v := m) (p := 65536) (b := 16) 16 rfl (by decide) rfl (by omega) (by omega)
  have o1 := or_f0 Tryd.prog 71 false (x := 2600468480) (v := d) (q := 32) 5 rfl (by omega) (by omega) (by omega) (by omega) (by omega)
  have o2 := or_fd Tryd.prog 71 false (x := 2600468480 + d) (v := n) (p := 32) (q := 32) 5 5 rfl rfl (by omega) (by omega) (by omega) (by omega) (by omega)
  have o3 := or_fd Tryd.prog 71 false (x := 2600468480 + d + n * 32) (v := m) (p := 65536) (q := 32) 16 5 rfl rfl (by omega) (by omega) (by omega) (by omega) (by omega)
  have t1 := shl_p Tryd.prog 71 true (v := a) (p := 1024) (b := 10) 10 rfl (by decide) rfl (by omega) (by omega)
  have t2 := or_fd Tryd.prog 71 false (x := 2600468480 + d + n * 32 + m * 65536) (v := a) (p := 1024) (q := 32) 10 5 rfl rfl (by omega) (by omega) (by omega) (by omega) (by omega)
  have ew : wordF ⟨8, d, n, m, a, imm⟩ = 2600468480 + d + n * 32 + m * 65536 + a * 1024 := rfl
  rw [ew]
  simp only [partsV, formF, Int.reduceEq, if_true, if_false, ↓reduceIte] at r2 r3
  clear ew
  rw [alembicref17_Word.step]
  unfold alembicref17_Word.c
  refine e_in ?_
  repeat' first
    | (with_reducible first | refine eT ?_ | refine eN ?_ | refine eS ?_ | refine eXn ?_ | refine eXr ?_ | refine eX ?_ | refine eI ?_ | refine eK ?_ | refine eV0 ?_ | refine eGr0 ?_ | refine eGtt ?_ | refine eGff ?_ | refine eGtf ?_ | refine eGft ?_ | refine eGno ?_)
    | ((with_reducible apply eCn); (simp only [nth_zero, nth_succ]; first | done | (with_reducible exact rfl)))
    | ((with_reducible apply eJ); (rfl))
    | ((with_reducible apply eGr1); (first | rfl | (simp only [nth_zero, nth_succ]; rfl)))
    | ((with_reducible apply eB); (first | (with_reducible exact rfl) | (simp (disch := omega) only [qf, r1, r2, r3, c1, c2, c3, s1, s2, o1, o2, o3, t1, t2]; first | done | (with_reducible exact rfl) | (with_reducible exact ⟨rfl, rfl⟩)) | (simp (disch := omega) only [qa, putC, AV.cells, storable, buildSt, fillA, buildRo, buildOwn, fillE, Nat.reduceLeDiff, Nat.reduceLT, Nat.reduceAdd, ↓reduceIte, r1, r2, r3, c1, c2, c3, s1, s2, o1, o2, o3, t1, t2]; first | done | (with_reducible exact rfl) | (with_reducible exact ⟨rfl, rfl⟩))))
    | ((with_reducible apply eR); (simp only [nth_zero, nth_succ]; (with_reducible exact rfl)))
    | ((with_reducible first | refine sEql ?_ ?_ | refine sNeq ?_ ?_ | refine sLss ?_ ?_ | refine sLeq ?_ ?_ | refine sGtr ?_ ?_ | refine sGeq ?_ ?_ | refine sNot ?_ ?_ | refine sPick ?_ ?_ | refine sGd ?_ ?_ | refine eBool ?_ ?_) <;> intro hq <;> try subst hq)
  all_goals first | exact w2b rfl rfl | (refine w2b ?_ rfl; omega)
theorem rword_9 (G : Globs) (k : Nat) (d n m a imm : Int) (h : rightB ⟨9, d, n, m, a, imm⟩ = true) : alembicref17_Word.f G (k + 6) [mV 9 d n m a imm] [] = some (.tup [W32 (wordF ⟨9, d, n, m, a, imm⟩), .bool true], []) := by
  have r1 : ∀ H, pureCall (alembicref17_right.f G (k + 5)) [mV 9 d n m a imm] H = _ := fun H => pureCall_of (H := H) (rright_spec G k 9 d n m a imm) rfl rfl
  have r2 : ∀ H, pureCall (alembicref17_partsOf.f G (k + 5)) [.int .i64 9] H = _ := fun H => pureCall_of (H := H) (parts_spec G (k + 1) 9) rfl rfl
  have r3 : ∀ H, pureCall (alembicref17_base.f G (k + 5)) [.int .i64 9] H = _ := fun H => pureCall_of (H := H) (rbase_spec G (k + 4) 9 (by decide)) rfl rfl
  rw [h] at r1
  unfold rightB at h
  rw [Bool.and_eq_true] at h
  obtain ⟨_, h⟩ := h
  simp [formF, fairB, regB, extraB, immB, halfI, stackB] at h
  have c1 : convInt .u32 (I6 d) = some (W32 d) := q_cv32 (by omega) (by omega)
  have c2 : convInt .u32 (I6 n) = some (W32 n) := q_cv32 (by omega) (by omega)
  have c3 : convInt .u32 (I6 m) = some (W32 m) := q_cv32 (by omega) (by omega)
  have s1 := shl_p Tryd.prog 71 true (v := n) (p := 32) (b := 5) 5 rfl (by decide) rfl (by omega) (by omega)
  have s2 := shl_p Tryd.prog 71 true (v := m) (p := 65536) (b := 16) 16 rfl (by decide) rfl (by omega) (by omega)
  have o1 := or_f0 Tryd.prog 71 false (x := 2613083136) (v := d) (q := 32) 5 rfl (by omega) (by omega) (by omega) (by omega) (by omega)
  have o2 := or_fd Tryd.prog 71 false (x := 2613083136 + d) (v := n) (p := 32) (q := 32) 5 5 rfl rfl (by omega) (by omega) (by omega) (by omega) (by omega)
  have o3 := or_fd Tryd.prog 71 false (x := 2613083136 + d + n * 32) (v := m) (p := 65536) (q := 32) 16 5 rfl rfl (by omega) (by omega) (by omega) (by omega) (by omega)
  have ew : wordF ⟨9, d, n, m, a, imm⟩ = 2613083136 + d + n * 32 + m * 65536 + 0 := rfl
  rw [ew]
  simp only [partsV, formF, Int.reduceEq, if_true, if_false, ↓reduceIte] at r2 r3
  clear ew
  rw [alembicref17_Word.step]
  unfold alembicref17_Word.c
  refine e_in ?_
  repeat' first
    | (with_reducible first | refine eT ?_ | refine eN ?_ | refine eS ?_ | refine eXn ?_ | refine eXr ?_ | refine eX ?_ | refine eI ?_ | refine eK ?_ | refine eV0 ?_ | refine eGr0 ?_ | refine eGtt ?_ | refine eGff ?_ | refine eGtf ?_ | refine eGft ?_ | refine eGno ?_)
    | ((with_reducible apply eCn); (simp only [nth_zero, nth_succ]; first | done | (with_reducible exact rfl)))
    | ((with_reducible apply eJ); (rfl))
    | ((with_reducible apply eGr1); (first | rfl | (simp only [nth_zero, nth_succ]; rfl)))
    | ((with_reducible apply eB); (first | (with_reducible exact rfl) | (simp (disch := omega) only [qf, r1, r2, r3, c1, c2, c3, s1, s2, o1, o2, o3]; first | done | (with_reducible exact rfl) | (with_reducible exact ⟨rfl, rfl⟩)) | (simp (disch := omega) only [qa, putC, AV.cells, storable, buildSt, fillA, buildRo, buildOwn, fillE, Nat.reduceLeDiff, Nat.reduceLT, Nat.reduceAdd, ↓reduceIte, r1, r2, r3, c1, c2, c3, s1, s2, o1, o2, o3]; first | done | (with_reducible exact rfl) | (with_reducible exact ⟨rfl, rfl⟩))))
    | ((with_reducible apply eR); (simp only [nth_zero, nth_succ]; (with_reducible exact rfl)))
    | ((with_reducible first | refine sEql ?_ ?_ | refine sNeq ?_ ?_ | refine sLss ?_ ?_ | refine sLeq ?_ ?_ | refine sGtr ?_ ?_ | refine sGeq ?_ ?_ | refine sNot ?_ ?_ | refine sPick ?_ ?_ | refine sGd ?_ ?_ | refine eBool ?_ ?_) <;> intro hq <;> try subst hq)
  all_goals first | exact w2b rfl rfl | (refine w2b ?_ rfl; omega)
theorem rword_10 (G : Globs) (k : Nat) (d n m a imm : Int) (h : rightB ⟨10, d, n, m, a, imm⟩ = true) : alembicref17_Word.f G (k + 6) [mV 10 d n m a imm] [] = some (.tup [W32 (wordF ⟨10, d, n, m, a, imm⟩), .bool true], []) := by
  have r1 : ∀ H, pureCall (alembicref17_right.f G (k + 5)) [mV 10 d n m a imm] H = _ := fun H => pureCall_of (H := H) (rright_spec G k 10 d n m a imm) rfl rfl
  have r2 : ∀ H, pureCall (alembicref17_partsOf.f G (k + 5)) [.int .i64 10] H = _ := fun H => pureCall_of (H := H) (parts_spec G (k + 1) 10) rfl rfl
  have r3 : ∀ H, pureCall (alembicref17_base.f G (k + 5)) [.int .i64 10] H = _ := fun H => pureCall_of (H := H) (rbase_spec G (k + 4) 10 (by decide)) rfl rfl
  rw [h] at r1
  unfold rightB at h
  rw [Bool.and_eq_true] at h
  obtain ⟨_, h⟩ := h
  simp [formF, fairB, regB, extraB, immB, halfI, stackB] at h
  have c1 : convInt .u32 (I6 d) = some (W32 d) := q_cv32 (by omega) (by omega)
  have c2 : convInt .u32 (I6 n) = some (W32 n) := q_cv32 (by omega) (by omega)
  have c3 : convInt .u32 (I6 m) = some (W32 m) := q_cv32 (by omega) (by omega)
  have s1 := shl_p Tryd.prog 71 true (v := n) (p := 32) (b := 5) 5 rfl (by decide) rfl (by omega) (by omega)
  have s2 := shl_p Tryd.prog 71 true (v := m) (p := 65536) (b := 16) 16 rfl (by decide) rfl (by omega) (by omega)
  have o1 := or_f0 Tryd.prog 71 false (x := 2432696320) (v := d) (q := 32) 5 rfl (by omega) (by omega) (by omega) (by omega) (by omega)
  have o2 := or_fd Tryd.prog 71 false (x := 2432696320 + d) (v := n) (p := 32) (q := 32) 5 5 rfl rfl (by omega) (by omega) (by omega) (by omega) (by omega)
  have o3 := or_fd Tryd.prog 71 false (x := 2432696320 + d + n * 32) (v := m) (p := 65536) (q := 1) 16 0 rfl rfl (by omega) (by omega) (by omega) (by omega) (by omega)
  have t1 := shl_p Tryd.prog 71 true (v := imm) (p := 1024) (b := 10) 10 rfl (by decide) rfl (by omega) (by omega)
  have t2 := or_fd Tryd.prog 71 false (x := 2432696320 + d + n * 32 + m * 65536) (v := imm) (p := 1024) (q := 4096) 10 12 rfl rfl (by omega) (by omega) (by omega) (by omega) (by omega)
  have ew : wordF ⟨10, d, n, m, a, imm⟩ = 2432696320 + d + n * 32 + m * 65536 + imm * 1024 := rfl
  rw [ew]
  simp only [partsV, formF, Int.reduceEq, if_true, if_false, ↓reduceIte] at r2 r3
  clear ew
  rw [alembicref17_Word.step]
  unfold alembicref17_Word.c
  refine e_in ?_
  repeat' first
    | (with_reducible first | refine eT ?_ | refine eN ?_ | refine eS ?_ | refine eXn ?_ | refine eXr ?_ | refine eX ?_ | refine eI ?_ | refine eK ?_ | refine eV0 ?_ | refine eGr0 ?_ | refine eGtt ?_ | refine eGff ?_ | refine eGtf ?_ | refine eGft ?_ | refine eGno ?_)
    | ((with_reducible apply eCn); (simp only [nth_zero, nth_succ]; first | done | (with_reducible exact rfl)))
    | ((with_reducible apply eJ); (rfl))
    | ((with_reducible apply eGr1); (first | rfl | (simp only [nth_zero, nth_succ]; rfl)))
    | ((with_reducible apply eB); (first | (with_reducible exact rfl) | (simp (disch := omega) only [qf, r1, r2, r3, c1, c2, c3, s1, s2, o1, o2, o3, t1, t2]; first | done | (with_reducible exact rfl) | (with_reducible exact ⟨rfl, rfl⟩)) | (simp (disch := omega) only [qa, putC, AV.cells, storable, buildSt, fillA, buildRo, buildOwn, fillE, Nat.reduceLeDiff, Nat.reduceLT, Nat.reduceAdd, ↓reduceIte, r1, r2, r3, c1, c2, c3, s1, s2, o1, o2, o3, t1, t2]; first | done | (with_reducible exact rfl) | (with_reducible exact ⟨rfl, rfl⟩))))
    | ((with_reducible apply eR); (simp only [nth_zero, nth_succ]; (with_reducible exact rfl)))
    | ((with_reducible first | refine sEql ?_ ?_ | refine sNeq ?_ ?_ | refine sLss ?_ ?_ | refine sLeq ?_ ?_ | refine sGtr ?_ ?_ | refine sGeq ?_ ?_ | refine sNot ?_ ?_ | refine sPick ?_ ?_ | refine sGd ?_ ?_ | refine eBool ?_ ?_) <;> intro hq <;> try subst hq)
  all_goals first | exact w2b rfl rfl | (refine w2b ?_ rfl; omega)
theorem rword_11 (G : Globs) (k : Nat) (d n m a imm : Int) (h : rightB ⟨11, d, n, m, a, imm⟩ = true) : alembicref17_Word.f G (k + 6) [mV 11 d n m a imm] [] = some (.tup [W32 (wordF ⟨11, d, n, m, a, imm⟩), .bool true], []) := by
  have r1 : ∀ H, pureCall (alembicref17_right.f G (k + 5)) [mV 11 d n m a imm] H = _ := fun H => pureCall_of (H := H) (rright_spec G k 11 d n m a imm) rfl rfl
  have r2 : ∀ H, pureCall (alembicref17_partsOf.f G (k + 5)) [.int .i64 11] H = _ := fun H => pureCall_of (H := H) (parts_spec G (k + 1) 11) rfl rfl
  have r3 : ∀ H, pureCall (alembicref17_base.f G (k + 5)) [.int .i64 11] H = _ := fun H => pureCall_of (H := H) (rbase_spec G (k + 4) 11 (by decide)) rfl rfl
  rw [h] at r1
  unfold rightB at h
  rw [Bool.and_eq_true] at h
  obtain ⟨_, h⟩ := h
  simp [formF, fairB, regB, extraB, immB, halfI, stackB] at h
  have c1 : convInt .u32 (I6 d) = some (W32 d) := q_cv32 (by omega) (by omega)
  have c2 : convInt .u32 (I6 n) = some (W32 n) := q_cv32 (by omega) (by omega)
  have c3 : convInt .u32 (I6 m) = some (W32 m) := q_cv32 (by omega) (by omega)
  have s1 := shl_p Tryd.prog 71 true (v := n) (p := 32) (b := 5) 5 rfl (by decide) rfl (by omega) (by omega)
  have s2 := shl_p Tryd.prog 71 true (v := m) (p := 65536) (b := 16) 16 rfl (by decide) rfl (by omega) (by omega)
  have o1 := or_f0 Tryd.prog 71 false (x := 3506438144) (v := d) (q := 32) 5 rfl (by omega) (by omega) (by omega) (by omega) (by omega)
  have o2 := or_fd Tryd.prog 71 false (x := 3506438144 + d) (v := n) (p := 32) (q := 32) 5 5 rfl rfl (by omega) (by omega) (by omega) (by omega) (by omega)
  have o3 := or_fd Tryd.prog 71 false (x := 3506438144 + d + n * 32) (v := m) (p := 65536) (q := 1) 16 0 rfl rfl (by omega) (by omega) (by omega) (by omega) (by omega)
  have t1 := shl_p Tryd.prog 71 true (v := imm) (p := 1024) (b := 10) 10 rfl (by decide) rfl (by omega) (by omega)
  have t2 := or_fd Tryd.prog 71 false (x := 3506438144 + d + n * 32 + m * 65536) (v := imm) (p := 1024) (q := 4096) 10 12 rfl rfl (by omega) (by omega) (by omega) (by omega) (by omega)
  have ew : wordF ⟨11, d, n, m, a, imm⟩ = 3506438144 + d + n * 32 + m * 65536 + imm * 1024 := rfl
  rw [ew]
  simp only [partsV, formF, Int.reduceEq, if_true, if_false, ↓reduceIte] at r2 r3
  clear ew
  rw [alembicref17_Word.step]
  unfold alembicref17_Word.c
  refine e_in ?_
  repeat' first
    | (with_reducible first | refine eT ?_ | refine eN ?_ | refine eS ?_ | refine eXn ?_ | refine eXr ?_ | refine eX ?_ | refine eI ?_ | refine eK ?_ | refine eV0 ?_ | refine eGr0 ?_ | refine eGtt ?_ | refine eGff ?_ | refine eGtf ?_ | refine eGft ?_ | refine eGno ?_)
    | ((with_reducible apply eCn); (simp only [nth_zero, nth_succ]; first | done | (with_reducible exact rfl)))
    | ((with_reducible apply eJ); (rfl))
    | ((with_reducible apply eGr1); (first | rfl | (simp only [nth_zero, nth_succ]; rfl)))
    | ((with_reducible apply eB); (first | (with_reducible exact rfl) | (simp (disch := omega) only [qf, r1, r2, r3, c1, c2, c3, s1, s2, o1, o2, o3, t1, t2]; first | done | (with_reducible exact rfl) | (with_reducible exact ⟨rfl, rfl⟩)) | (simp (disch := omega) only [qa, putC, AV.cells, storable, buildSt, fillA, buildRo, buildOwn, fillE, Nat.reduceLeDiff, Nat.reduceLT, Nat.reduceAdd, ↓reduceIte, r1, r2, r3, c1, c2, c3, s1, s2, o1, o2, o3, t1, t2]; first | done | (with_reducible exact rfl) | (with_reducible exact ⟨rfl, rfl⟩))))
    | ((with_reducible apply eR); (simp only [nth_zero, nth_succ]; (with_reducible exact rfl)))
    | ((with_reducible first | refine sEql ?_ ?_ | refine sNeq ?_ ?_ | refine sLss ?_ ?_ | refine sLeq ?_ ?_ | refine sGtr ?_ ?_ | refine sGeq ?_ ?_ | refine sNot ?_ ?_ | refine sPick ?_ ?_ | refine sGd ?_ ?_ | refine eBool ?_ ?_) <;> intro hq <;> try subst hq)
  all_goals first | exact w2b rfl rfl | (refine w2b ?_ rfl; omega)
theorem rword_12 (G : Globs) (k : Nat) (d n m a imm : Int) (h : rightB ⟨12, d, n, m, a, imm⟩ = true) : alembicref17_Word.f G (k + 6) [mV 12 d n m a imm] [] = some (.tup [W32 (wordF ⟨12, d, n, m, a, imm⟩), .bool true], []) := by
  have r1 : ∀ H, pureCall (alembicref17_right.f G (k + 5)) [mV 12 d n m a imm] H = _ := fun H => pureCall_of (H := H) (rright_spec G k 12 d n m a imm) rfl rfl
  have r2 : ∀ H, pureCall (alembicref17_partsOf.f G (k + 5)) [.int .i64 12] H = _ := fun H => pureCall_of (H := H) (parts_spec G (k + 1) 12) rfl rfl
  have r3 : ∀ H, pureCall (alembicref17_base.f G (k + 5)) [.int .i64 12] H = _ := fun H => pureCall_of (H := H) (rbase_spec G (k + 4) 12 (by decide)) rfl rfl
  rw [h] at r1
  unfold rightB at h
  rw [Bool.and_eq_true] at h
  obtain ⟨_, h⟩ := h
  simp [formF, fairB, regB, extraB, immB, halfI, stackB] at h
  have c1 : convInt .u32 (I6 d) = some (W32 d) := q_cv32 (by omega) (by omega)
  have c2 : convInt .u32 (I6 n) = some (W32 n) := q_cv32 (by omega) (by omega)
  have c3 : convInt .u32 (I6 m) = some (W32 m) := q_cv32 (by omega) (by omega)
  have s1 := shl_p Tryd.prog 71 true (v := n) (p := 32) (b := 5) 5 rfl (by decide) rfl (by omega) (by omega)
  have s2 := shl_p Tryd.prog 71 true (v := m) (p := 65536) (b := 16) 16 rfl (by decide) rfl (by omega) (by omega)
  have o1 := or_f0 Tryd.prog 71 false (x := 3544186880) (v := d) (q := 32) 5 rfl (by omega) (by omega) (by omega) (by omega) (by omega)
  have o2 := or_fd Tryd.prog 71 false (x := 3544186880 + d) (v := n) (p := 32) (q := 32) 5 5 rfl rfl (by omega) (by omega) (by omega) (by omega) (by omega)
  have o3 := or_fd Tryd.prog 71 false (x := 3544186880 + d + n * 32) (v := m) (p := 65536) (q := 1) 16 0 rfl rfl (by omega) (by omega) (by omega) (by omega) (by omega)
  have t0 := sub32 Tryd.prog 71 true (a := 64) (b := imm) (by omega) (by omega) (by omega)
  have t1 := rem64 Tryd.prog 71 true (a := 64 - imm) (by omega)
  have t2 := shl_p Tryd.prog 71 true (v := ((64 - imm) % 64)) (p := 65536) (b := 16) 16 rfl (by decide) rfl (by omega) (by omega)
  have t3 := or_fd Tryd.prog 71 false (x := 3544186880 + d + n * 32 + m * 65536) (v := ((64 - imm) % 64)) (p := 65536) (q := 64) 16 6 rfl rfl (by omega) (by omega) (by omega) (by omega) (by omega)
  have t4 := sub32 Tryd.prog 71 true (a := 63) (b := imm) (by omega) (by omega) (by omega)
  have t5 := shl_p Tryd.prog 71 true (v := (63 - imm)) (p := 1024) (b := 10) 10 rfl (by decide) rfl (by omega) (by omega)
  have t6 := or_fd Tryd.prog 71 false (x := 3544186880 + d + n * 32 + m * 65536 + (64 - imm) % 64 * 65536) (v := (63 - imm)) (p := 1024) (q := 64) 10 6 rfl rfl (by omega) (by omega) (by omega) (by omega) (by omega)
  have ew : wordF ⟨12, d, n, m, a, imm⟩ = 3544186880 + d + n * 32 + m * 65536 + ((64 - imm) % 64 * 65536 + (63 - imm) * 1024) := rfl
  rw [ew]
  simp only [partsV, formF, Int.reduceEq, if_true, if_false, ↓reduceIte] at r2 r3
  clear ew
  rw [alembicref17_Word.step]
  unfold alembicref17_Word.c
  refine e_in ?_
  repeat' first
    | (with_reducible first | refine eT ?_ | refine eN ?_ | refine eS ?_ | refine eXn ?_ | refine eXr ?_ | refine eX ?_ | refine eI ?_ | refine eK ?_ | refine eV0 ?_ | refine eGr0 ?_ | refine eGtt ?_ | refine eGff ?_ | refine eGtf ?_ | refine eGft ?_ | refine eGno ?_)
    | ((with_reducible apply eCn); (simp only [nth_zero, nth_succ]; first | done | (with_reducible exact rfl)))
    | ((with_reducible apply eJ); (rfl))
    | ((with_reducible apply eGr1); (first | rfl | (simp only [nth_zero, nth_succ]; rfl)))
    | ((with_reducible apply eB); (first | (with_reducible exact rfl) | (simp (disch := omega) only [qf, r1, r2, r3, c1, c2, c3, s1, s2, o1, o2, o3, t0, t1, t2, t3, t4, t5, t6]; first | done | (with_reducible exact rfl) | (with_reducible exact ⟨rfl, rfl⟩)) | (simp (disch := omega) only [qa, putC, AV.cells, storable, buildSt, fillA, buildRo, buildOwn, fillE, Nat.reduceLeDiff, Nat.reduceLT, Nat.reduceAdd, ↓reduceIte, r1, r2, r3, c1, c2, c3, s1, s2, o1, o2, o3, t0, t1, t2, t3, t4, t5, t6]; first | done | (with_reducible exact rfl) | (with_reducible exact ⟨rfl, rfl⟩))))
    | ((with_reducible apply eR); (simp only [nth_zero, nth_succ]; (with_reducible exact rfl)))
    | ((with_reducible first | refine sEql ?_ ?_ | refine sNeq ?_ ?_ | refine sLss ?_ ?_ | refine sLeq ?_ ?_ | refine sGtr ?_ ?_ | refine sGeq ?_ ?_ | refine sNot ?_ ?_ | refine sPick ?_ ?_ | refine sGd ?_ ?_ | refine eBool ?_ ?_) <;> intro hq <;> try subst hq)
  all_goals first | exact w2b rfl rfl | (refine w2b ?_ rfl; omega)
theorem rword_13 (G : Globs) (k : Nat) (d n m a imm : Int) (h : rightB ⟨13, d, n, m, a, imm⟩ = true) : alembicref17_Word.f G (k + 6) [mV 13 d n m a imm] [] = some (.tup [W32 (wordF ⟨13, d, n, m, a, imm⟩), .bool true], []) := by
  have r1 : ∀ H, pureCall (alembicref17_right.f G (k + 5)) [mV 13 d n m a imm] H = _ := fun H => pureCall_of (H := H) (rright_spec G k 13 d n m a imm) rfl rfl
  have r2 : ∀ H, pureCall (alembicref17_partsOf.f G (k + 5)) [.int .i64 13] H = _ := fun H => pureCall_of (H := H) (parts_spec G (k + 1) 13) rfl rfl
  have r3 : ∀ H, pureCall (alembicref17_base.f G (k + 5)) [.int .i64 13] H = _ := fun H => pureCall_of (H := H) (rbase_spec G (k + 4) 13 (by decide)) rfl rfl
  rw [h] at r1
  unfold rightB at h
  rw [Bool.and_eq_true] at h
  obtain ⟨_, h⟩ := h
  simp [formF, fairB, regB, extraB, immB, halfI, stackB] at h
  have c1 : convInt .u32 (I6 d) = some (W32 d) := q_cv32 (by omega) (by omega)
  have c2 : convInt .u32 (I6 n) = some (W32 n) := q_cv32 (by omega) (by omega)
  have c3 : convInt .u32 (I6 m) = some (W32 m) := q_cv32 (by omega) (by omega)
  have s1 := shl_p Tryd.prog 71 true (v := n) (p := 32) (b := 5) 5 rfl (by decide) rfl (by omega) (by omega)
  have s2 := shl_p Tryd.prog 71 true (v := m) (p := 65536) (b := 16) 16 rfl (by decide) rfl (by omega) (by omega)
  have o1 := or_f0 Tryd.prog 71 false (x := 3544186880) (v := d) (q := 32) 5 rfl (by omega) (by omega) (by omega) (by omega) (by omega)
  have o2 := or_fd Tryd.prog 71 false (x := 3544186880 + d) (v := n) (p := 32) (q := 32) 5 5 rfl rfl (by omega) (by omega) (by omega) (by omega) (by omega)
  have o3 := or_fd Tryd.prog 71 false (x := 3544186880 + d + n * 32) (v := m) (p := 65536) (q := 1) 16 0 rfl rfl (by omega) (by omega) (by omega) (by omega) (by omega)
  have t1 := shl_p Tryd.prog 71 true (v := imm) (p := 65536) (b := 16) 16 rfl (by decide) rfl (by omega) (by omega)
  have t2 := or_fd Tryd.prog 71 false (x := 3544186880 + d + n * 32 + m * 65536) (v := imm) (p := 65536) (q := 64) 16 6 rfl rfl (by omega) (by omega) (by omega) (by omega) (by omega)
  have t3 : bin Tryd.prog .or 71 true (W32 (3544186880 + d + n * 32 + m * 65536 + imm * 65536)) (.int .u32 64512) = some (W32 (3544186880 + d + n * 32 + m * 65536 + imm * 65536 + 64512)) := or_fd Tryd.prog 71 true (x := 3544186880 + d + n * 32 + m * 65536 + imm * 65536) (v := 63) (p := 1024) (q := 64) 10 6 rfl rfl (by omega) (by omega) (by omega) (by omega) (by omega)
  have ew : wordF ⟨13, d, n, m, a, imm⟩ = 3544186880 + d + n * 32 + m * 65536 + (imm * 65536 + 64512) := rfl
  rw [ew]
  simp only [partsV, formF, Int.reduceEq, if_true, if_false, ↓reduceIte] at r2 r3
  clear ew
  rw [alembicref17_Word.step]
  unfold alembicref17_Word.c
  refine e_in ?_
  repeat' first
    | (with_reducible first | refine eT ?_ | refine eN ?_ | refine eS ?_ | refine eXn ?_ | refine eXr ?_ | refine eX ?_ | refine eI ?_ | refine eK ?_ | refine eV0 ?_ | refine eGr0 ?_ | refine eGtt ?_ | refine eGff ?_ | refine eGtf ?_ | refine eGft ?_ | refine eGno ?_)
    | ((with_reducible apply eCn); (simp only [nth_zero, nth_succ]; first | done | (with_reducible exact rfl)))
    | ((with_reducible apply eJ); (rfl))
    | ((with_reducible apply eGr1); (first | rfl | (simp only [nth_zero, nth_succ]; rfl)))
    | ((with_reducible apply eB); (first | (with_reducible exact rfl) | (simp (disch := omega) only [qf, r1, r2, r3, c1, c2, c3, s1, s2, o1, o2, o3, t1, t2, t3]; first | done | (with_reducible exact rfl) | (with_reducible exact ⟨rfl, rfl⟩)) | (simp (disch := omega) only [qa, putC, AV.cells, storable, buildSt, fillA, buildRo, buildOwn, fillE, Nat.reduceLeDiff, Nat.reduceLT, Nat.reduceAdd, ↓reduceIte, r1, r2, r3, c1, c2, c3, s1, s2, o1, o2, o3, t1, t2, t3]; first | done | (with_reducible exact rfl) | (with_reducible exact ⟨rfl, rfl⟩))))
    | ((with_reducible apply eR); (simp only [nth_zero, nth_succ]; (with_reducible exact rfl)))
    | ((with_reducible first | refine sEql ?_ ?_ | refine sNeq ?_ ?_ | refine sLss ?_ ?_ | refine sLeq ?_ ?_ | refine sGtr ?_ ?_ | refine sGeq ?_ ?_ | refine sNot ?_ ?_ | refine sPick ?_ ?_ | refine sGd ?_ ?_ | refine eBool ?_ ?_) <;> intro hq <;> try subst hq)
  all_goals first | exact w2b rfl rfl | (refine w2b ?_ rfl; omega)
theorem rword_14 (G : Globs) (k : Nat) (d n m a imm : Int) (h : rightB ⟨14, d, n, m, a, imm⟩ = true) : alembicref17_Word.f G (k + 6) [mV 14 d n m a imm] [] = some (.tup [W32 (wordF ⟨14, d, n, m, a, imm⟩), .bool true], []) := by
  have r1 : ∀ H, pureCall (alembicref17_right.f G (k + 5)) [mV 14 d n m a imm] H = _ := fun H => pureCall_of (H := H) (rright_spec G k 14 d n m a imm) rfl rfl
  have r2 : ∀ H, pureCall (alembicref17_partsOf.f G (k + 5)) [.int .i64 14] H = _ := fun H => pureCall_of (H := H) (parts_spec G (k + 1) 14) rfl rfl
  have r3 : ∀ H, pureCall (alembicref17_base.f G (k + 5)) [.int .i64 14] H = _ := fun H => pureCall_of (H := H) (rbase_spec G (k + 4) 14 (by decide)) rfl rfl
  rw [h] at r1
  unfold rightB at h
  rw [Bool.and_eq_true] at h
  obtain ⟨_, h⟩ := h
  simp [formF, fairB, regB, extraB, immB, halfI, stackB] at h
  have c1 : convInt .u32 (I6 d) = some (W32 d) := q_cv32 (by omega) (by omega)
  have c2 : convInt .u32 (I6 n) = some (W32 n) := q_cv32 (by omega) (by omega)
  have c3 : convInt .u32 (I6 m) = some (W32 m) := q_cv32 (by omega) (by omega)
  have s1 := shl_p Tryd.prog 71 true (v := n) (p := 32) (b := 5) 5 rfl (by decide) rfl (by omega) (by omega)
  have s2 := shl_p Tryd.prog 71 true (v := m) (p := 65536) (b := 16) 16 rfl (by decide) rfl (by omega) (by omega)
  have o1 := or_f0 Tryd.prog 71 false (x := 2470509568) (v := d) (q := 32) 5 rfl (by omega) (by omega) (by omega) (by omega) (by omega)
  have o2 := or_fd Tryd.prog 71 false (x := 2470509568 + d) (v := n) (p := 32) (q := 32) 5 5 rfl rfl (by omega) (by omega) (by omega) (by omega) (by omega)
  have o3 := or_fd Tryd.prog 71 false (x := 2470509568 + d + n * 32) (v := m) (p := 65536) (q := 1) 16 0 rfl rfl (by omega) (by omega) (by omega) (by omega) (by omega)
  have t1 := shl_p Tryd.prog 71 true (v := imm) (p := 65536) (b := 16) 16 rfl (by decide) rfl (by omega) (by omega)
  have t2 := or_fd Tryd.prog 71 false (x := 2470509568 + d + n * 32 + m * 65536) (v := imm) (p := 65536) (q := 64) 16 6 rfl rfl (by omega) (by omega) (by omega) (by omega) (by omega)
  have ew : wordF ⟨14, d, n, m, a, imm⟩ = 2470509568 + d + n * 32 + m * 65536 + imm * 65536 := rfl
  rw [ew]
  simp only [partsV, formF, Int.reduceEq, if_true, if_false, ↓reduceIte] at r2 r3
  clear ew
  rw [alembicref17_Word.step]
  unfold alembicref17_Word.c
  refine e_in ?_
  repeat' first
    | (with_reducible first | refine eT ?_ | refine eN ?_ | refine eS ?_ | refine eXn ?_ | refine eXr ?_ | refine eX ?_ | refine eI ?_ | refine eK ?_ | refine eV0 ?_ | refine eGr0 ?_ | refine eGtt ?_ | refine eGff ?_ | refine eGtf ?_ | refine eGft ?_ | refine eGno ?_)
    | ((with_reducible apply eCn); (simp only [nth_zero, nth_succ]; first | done | (with_reducible exact rfl)))
    | ((with_reducible apply eJ); (rfl))
    | ((with_reducible apply eGr1); (first | rfl | (simp only [nth_zero, nth_succ]; rfl)))
    | ((with_reducible apply eB); (first | (with_reducible exact rfl) | (simp (disch := omega) only [qf, r1, r2, r3, c1, c2, c3, s1, s2, o1, o2, o3, t1, t2]; first | done | (with_reducible exact rfl) | (with_reducible exact ⟨rfl, rfl⟩)) | (simp (disch := omega) only [qa, putC, AV.cells, storable, buildSt, fillA, buildRo, buildOwn, fillE, Nat.reduceLeDiff, Nat.reduceLT, Nat.reduceAdd, ↓reduceIte, r1, r2, r3, c1, c2, c3, s1, s2, o1, o2, o3, t1, t2]; first | done | (with_reducible exact rfl) | (with_reducible exact ⟨rfl, rfl⟩))))
    | ((with_reducible apply eR); (simp only [nth_zero, nth_succ]; (with_reducible exact rfl)))
    | ((with_reducible first | refine sEql ?_ ?_ | refine sNeq ?_ ?_ | refine sLss ?_ ?_ | refine sLeq ?_ ?_ | refine sGtr ?_ ?_ | refine sGeq ?_ ?_ | refine sNot ?_ ?_ | refine sPick ?_ ?_ | refine sGd ?_ ?_ | refine eBool ?_ ?_) <;> intro hq <;> try subst hq)
  all_goals first | exact w2b rfl rfl | (refine w2b ?_ rfl; omega)
theorem rword_15 (G : Globs) (k : Nat) (d n m a imm : Int) (h : rightB ⟨15, d, n, m, a, imm⟩ = true) : alembicref17_Word.f G (k + 6) [mV 15 d n m a imm] [] = some (.tup [W32 (wordF ⟨15, d, n, m, a, imm⟩), .bool true], []) := by
  have r1 : ∀ H, pureCall (alembicref17_right.f G (k + 5)) [mV 15 d n m a imm] H = _ := fun H => pureCall_of (H := H) (rright_spec G k 15 d n m a imm) rfl rfl
  have r2 : ∀ H, pureCall (alembicref17_partsOf.f G (k + 5)) [.int .i64 15] H = _ := fun H => pureCall_of (H := H) (parts_spec G (k + 1) 15) rfl rfl
  have r3 : ∀ H, pureCall (alembicref17_base.f G (k + 5)) [.int .i64 15] H = _ := fun H => pureCall_of (H := H) (rbase_spec G (k + 4) 15 (by decide)) rfl rfl
  rw [h] at r1
  unfold rightB at h
  rw [Bool.and_eq_true] at h
  obtain ⟨_, h⟩ := h
  simp [formF, fairB, regB, extraB, immB, halfI, stackB] at h
  have c1 : convInt .u32 (I6 d) = some (W32 d) := q_cv32 (by omega) (by omega)
  have c2 : convInt .u32 (I6 n) = some (W32 n) := q_cv32 (by omega) (by omega)
  have c3 : convInt .u32 (I6 m) = some (W32 m) := q_cv32 (by omega) (by omega)
  have s1 := shl_p Tryd.prog 71 true (v := n) (p := 32) (b := 5) 5 rfl (by decide) rfl (by omega) (by omega)
  have s2 := shl_p Tryd.prog 71 true (v := m) (p := 65536) (b := 16) 16 rfl (by decide) rfl (by omega) (by omega)
  have o1 := or_f0 Tryd.prog 71 false (x := 3942645791) (v := d) (q := 1) 0 rfl (by omega) (by omega) (by omega) (by omega) (by omega)
  have o2 := or_fd Tryd.prog 71 false (x := 3942645791 + d) (v := n) (p := 32) (q := 32) 5 5 rfl rfl (by omega) (by omega) (by omega) (by omega) (by omega)
  have o3 := or_fd Tryd.prog 71 false (x := 3942645791 + d + n * 32) (v := m) (p := 65536) (q := 32) 16 5 rfl rfl (by omega) (by omega) (by omega) (by omega) (by omega)
  have ew : wordF ⟨15, d, n, m, a, imm⟩ = 3942645791 + d + n * 32 + m * 65536 + 0 := rfl
  rw [ew]
  simp only [partsV, formF, Int.reduceEq, if_true, if_false, ↓reduceIte] at r2 r3
  clear ew
  rw [alembicref17_Word.step]
  unfold alembicref17_Word.c
  refine e_in ?_
  repeat' first
    | (with_reducible first | refine eT ?_ | refine eN ?_ | refine eS ?_ | refine eXn ?_ | refine eXr ?_ | refine eX ?_ | refine eI ?_ | refine eK ?_ | refine eV0 ?_ | refine eGr0 ?_ | refine eGtt ?_ | refine eGff ?_ | refine eGtf ?_ | refine eGft ?_ | refine eGno ?_)
    | ((with_reducible apply eCn); (simp only [nth_zero, nth_succ]; first | done | (with_reducible exact rfl)))
    | ((with_reducible apply eJ); (rfl))
    | ((with_reducible apply eGr1); (first | rfl | (simp only [nth_zero, nth_succ]; rfl)))
    | ((with_reducible apply eB); (first | (with_reducible exact rfl) | (simp (disch := omega) only [qf, r1, r2, r3, c1, c2, c3, s1, s2, o1, o2, o3]; first | done | (with_reducible exact rfl) | (with_reducible exact ⟨rfl, rfl⟩)) | (simp (disch := omega) only [qa, putC, AV.cells, storable, buildSt, fillA, buildRo, buildOwn, fillE, Nat.reduceLeDiff, Nat.reduceLT, Nat.reduceAdd, ↓reduceIte, r1, r2, r3, c1, c2, c3, s1, s2, o1, o2, o3]; first | done | (with_reducible exact rfl) | (with_reducible exact ⟨rfl, rfl⟩))))
    | ((with_reducible apply eR); (simp only [nth_zero, nth_succ]; (with_reducible exact rfl)))
    | ((with_reducible first | refine sEql ?_ ?_ | refine sNeq ?_ ?_ | refine sLss ?_ ?_ | refine sLeq ?_ ?_ | refine sGtr ?_ ?_ | refine sGeq ?_ ?_ | refine sNot ?_ ?_ | refine sPick ?_ ?_ | refine sGd ?_ ?_ | refine eBool ?_ ?_) <;> intro hq <;> try subst hq)
  all_goals first | exact w2b rfl rfl | (refine w2b ?_ rfl; omega)
theorem rword_16 (G : Globs) (k : Nat) (d n m a imm : Int) (h : rightB ⟨16, d, n, m, a, imm⟩ = true) : alembicref17_Word.f G (k + 6) [mV 16 d n m a imm] [] = some (.tup [W32 (wordF ⟨16, d, n, m, a, imm⟩), .bool true], []) := by
  have r1 : ∀ H, pureCall (alembicref17_right.f G (k + 5)) [mV 16 d n m a imm] H = _ := fun H => pureCall_of (H := H) (rright_spec G k 16 d n m a imm) rfl rfl
  have r2 : ∀ H, pureCall (alembicref17_partsOf.f G (k + 5)) [.int .i64 16] H = _ := fun H => pureCall_of (H := H) (parts_spec G (k + 1) 16) rfl rfl
  have r3 : ∀ H, pureCall (alembicref17_base.f G (k + 5)) [.int .i64 16] H = _ := fun H => pureCall_of (H := H) (rbase_spec G (k + 4) 16 (by decide)) rfl rfl
  rw [h] at r1
  unfold rightB at h
  rw [Bool.and_eq_true] at h
  obtain ⟨_, h⟩ := h
  simp [formF, fairB, regB, extraB, immB, halfI, stackB] at h
  have c1 : convInt .u32 (I6 d) = some (W32 d) := q_cv32 (by omega) (by omega)
  have c2 : convInt .u32 (I6 n) = some (W32 n) := q_cv32 (by omega) (by omega)
  have c3 : convInt .u32 (I6 m) = some (W32 m) := q_cv32 (by omega) (by omega)
  have s1 := shl_p Tryd.prog 71 true (v := n) (p := 32) (b := 5) 5 rfl (by decide) rfl (by omega) (by omega)
  have s2 := shl_p Tryd.prog 71 true (v := m) (p := 65536) (b := 16) 16 rfl (by decide) rfl (by omega) (by omega)
  have o1 := or_f0 Tryd.prog 71 false (x := 2592079872) (v := d) (q := 32) 5 rfl (by omega) (by omega) (by omega) (by omega) (by omega)
  have o2 := or_fd Tryd.prog 71 false (x := 2592079872 + d) (v := n) (p := 32) (q := 32) 5 5 rfl rfl (by omega) (by omega) (by omega) (by omega) (by omega)
  have o3 := or_fd Tryd.prog 71 false (x := 2592079872 + d + n * 32) (v := m) (p := 65536) (q := 32) 16 5 rfl rfl (by omega) (by omega) (by omega) (by omega) (by omega)
  have t1 := shl_p Tryd.prog 71 true (v := a) (p := 4096) (b := 12) 12 rfl (by decide) rfl (by omega) (by omega)
  have t2 := or_fd Tryd.prog 71 false (x := 2592079872 + d + n * 32 + m * 65536) (v := a) (p := 4096) (q := 16) 12 4 rfl rfl (by omega) (by omega) (by omega) (by omega) (by omega)
  have ew : wordF ⟨16, d, n, m, a, imm⟩ = 2592079872 + d + n * 32 + m * 65536 + a * 4096 := rfl
  rw [ew]
  simp only [partsV, formF, Int.reduceEq, if_true, if_false, ↓reduceIte] at r2 r3
  clear ew
  rw [alembicref17_Word.step]
  unfold alembicref17_Word.c
  refine e_in ?_
  repeat' first
    | (with_reducible first | refine eT ?_ | refine eN ?_ | refine eS ?_ | refine eXn ?_ | refine eXr ?_ | refine eX ?_ | refine eI ?_ | refine eK ?_ | refine eV0 ?_ | refine eGr0 ?_ | refine eGtt ?_ | refine eGff ?_ | refine eGtf ?_ | refine eGft ?_ | refine eGno ?_)
    | ((with_reducible apply eCn); (simp only [nth_zero, nth_succ]; first | done | (with_reducible exact rfl)))
    | ((with_reducible apply eJ); (rfl))
    | ((with_reducible apply eGr1); (first | rfl | (simp only [nth_zero, nth_succ]; rfl)))
    | ((with_reducible apply eB); (first | (with_reducible exact rfl) | (simp (disch := omega) only [qf, r1, r2, r3, c1, c2, c3, s1, s2, o1, o2, o3, t1, t2]; first | done | (with_reducible exact rfl) | (with_reducible exact ⟨rfl, rfl⟩)) | (simp (disch := omega) only [qa, putC, AV.cells, storable, buildSt, fillA, buildRo, buildOwn, fillE, Nat.reduceLeDiff, Nat.reduceLT, Nat.reduceAdd, ↓reduceIte, r1, r2, r3, c1, c2, c3, s1, s2, o1, o2, o3, t1, t2]; first | done | (with_reducible exact rfl) | (with_reducible exact ⟨rfl, rfl⟩))))
    | ((with_reducible apply eR); (simp only [nth_zero, nth_succ]; (with_reducible exact rfl)))
    | ((with_reducible first | refine sEql ?_ ?_ | refine sNeq ?_ ?_ | refine sLss ?_ ?_ | refine sLeq ?_ ?_ | refine sGtr ?_ ?_ | refine sGeq ?_ ?_ | refine sNot ?_ ?_ | refine sPick ?_ ?_ | refine sGd ?_ ?_ | refine eBool ?_ ?_) <;> intro hq <;> try subst hq)
  all_goals first | exact w2b rfl rfl | (refine w2b ?_ rfl; omega)
theorem rword_17 (G : Globs) (k : Nat) (d n m a imm : Int) (h : rightB ⟨17, d, n, m, a, imm⟩ = true) : alembicref17_Word.f G (k + 6) [mV 17 d n m a imm] [] = some (.tup [W32 (wordF ⟨17, d, n, m, a, imm⟩), .bool true], []) := by
  have r1 : ∀ H, pureCall (alembicref17_right.f G (k + 5)) [mV 17 d n m a imm] H = _ := fun H => pureCall_of (H := H) (rright_spec G k 17 d n m a imm) rfl rfl
  have r2 : ∀ H, pureCall (alembicref17_partsOf.f G (k + 5)) [.int .i64 17] H = _ := fun H => pureCall_of (H := H) (parts_spec G (k + 1) 17) rfl rfl
  have r3 : ∀ H, pureCall (alembicref17_base.f G (k + 5)) [.int .i64 17] H = _ := fun H => pureCall_of (H := H) (rbase_spec G (k + 4) 17 (by decide)) rfl rfl
  rw [h] at r1
  unfold rightB at h
  rw [Bool.and_eq_true] at h
  obtain ⟨_, h⟩ := h
  simp [formF, fairB, regB, extraB, immB, halfI, stackB] at h
  have c1 : convInt .u32 (I6 d) = some (W32 d) := q_cv32 (by omega) (by omega)
  have c2 : convInt .u32 (I6 n) = some (W32 n) := q_cv32 (by omega) (by omega)
  have c3 : convInt .u32 (I6 m) = some (W32 m) := q_cv32 (by omega) (by omega)
  have s1 := shl_p Tryd.prog 71 true (v := n) (p := 32) (b := 5) 5 rfl (by decide) rfl (by omega) (by omega)
  have s2 := shl_p Tryd.prog 71 true (v := m) (p := 65536) (b := 16) 16 rfl (by decide) rfl (by omega) (by omega)
  have o1 := or_f0 Tryd.prog 71 false (x := 2594113504) (v := d) (q := 32) 5 rfl (by omega) (by omega) (by omega) (by omega) (by omega)
  have o2 := or_fd Tryd.prog 71 false (x := 2594113504 + d) (v := n) (p := 32) (q := 1) 5 0 rfl rfl (by omega) (by omega) (by omega) (by omega) (by omega)
  have o3 := or_fd Tryd.prog 71 false (x := 2594113504 + d + n * 32) (v := m) (p := 65536) (q := 1) 16 0 rfl rfl (by omega) (by omega) (by omega) (by omega) (by omega)
  have t0 : bin Tryd.prog .xor 3 true (I6 a) (.int .i64 1) = some (I6 (if a % 2 = 0 then a + 1 else a - 1)) := xor1i _ _ _ (by omega) (by omega)
  have t3 : convInt .u32 (I6 (if a % 2 = 0 then a + 1 else a - 1)) = some (W32 (if a % 2 = 0 then a + 1 else a - 1)) := q_cv32 (by split <;> omega) (by split <;> omega)
  have t1 := shl_p Tryd.prog 71 true (v := (if a % 2 = 0 then a + 1 else a - 1)) (p := 4096) (b := 12) 12 rfl (by decide) rfl (by split <;> omega) (by split <;> omega)
  have t2 := or_fd Tryd.prog 71 false (x := 2594113504 + d + n * 32 + m * 65536) (v := (if a % 2 = 0 then a + 1 else a - 1)) (p := 4096) (q := 16) 12 4 rfl rfl (by omega) (by split <;> omega) (by split <;> omega) (by omega) (by split <;> omega)
  have ew : wordF ⟨17, d, n, m, a, imm⟩ = 2594113504 + d + n * 32 + m * 65536 + (if a % 2 = 0 then a + 1 else a - 1) * 4096 := rfl
  rw [ew]
  simp only [partsV, formF, Int.reduceEq, if_true, if_false, ↓reduceIte] at r2 r3
  clear ew
  rw [alembicref17_Word.step]
  unfold alembicref17_Word.c
  refine e_in ?_
  repeat' first
    | (with_reducible first | refine eT ?_ | refine eN ?_ | refine eS ?_ | refine eXn ?_ | refine eXr ?_ | refine eX ?_ | refine eI ?_ | refine eK ?_ | refine eV0 ?_ | refine eGr0 ?_ | refine eGtt ?_ | refine eGff ?_ | refine eGtf ?_ | refine eGft ?_ | refine eGno ?_)
    | ((with_reducible apply eCn); (simp only [nth_zero, nth_succ]; first | done | (with_reducible exact rfl)))
    | ((with_reducible apply eJ); (rfl))
    | ((with_reducible apply eGr1); (first | rfl | (simp only [nth_zero, nth_succ]; rfl)))
    | ((with_reducible apply eB); (first | (with_reducible exact rfl) | (simp (disch := omega) only [qf, r1, r2, r3, c1, c2, c3, s1, s2, o1, o2, o3, t0, t3, t1, t2]; first | done | (with_reducible exact rfl) | (with_reducible exact ⟨rfl, rfl⟩)) | (simp (disch := omega) only [qa, putC, AV.cells, storable, buildSt, fillA, buildRo, buildOwn, fillE, Nat.reduceLeDiff, Nat.reduceLT, Nat.reduceAdd, ↓reduceIte, r1, r2, r3, c1, c2, c3, s1, s2, o1, o2, o3, t0, t3, t1, t2]; first | done | (with_reducible exact rfl) | (with_reducible exact ⟨rfl, rfl⟩))))
    | ((with_reducible apply eR); (simp only [nth_zero, nth_succ]; (with_reducible exact rfl)))
    | ((with_reducible first | refine sEql ?_ ?_ | refine sNeq ?_ ?_ | refine sLss ?_ ?_ | refine sLeq ?_ ?_ | refine sGtr ?_ ?_ | refine sGeq ?_ ?_ | refine sNot ?_ ?_ | refine sPick ?_ ?_ | refine sGd ?_ ?_ | refine eBool ?_ ?_) <;> intro hq <;> try subst hq)
  all_goals first | exact w2b rfl rfl | (refine w2b ?_ rfl; omega)
theorem rword_18 (G : Globs) (k : Nat) (d n m a imm : Int) (h : rightB ⟨18, d, n, m, a, imm⟩ = true) : alembicref17_Word.f G (k + 6) [mV 18 d n m a imm] [] = some (.tup [W32 (wordF ⟨18, d, n, m, a, imm⟩), .bool true], []) := by
  have r1 : ∀ H, pureCall (alembicref17_right.f G (k + 5)) [mV 18 d n m a imm] H = _ := fun H => pureCall_of (H := H) (rright_spec G k 18 d n m a imm) rfl rfl
  have r2 : ∀ H, pureCall (alembicref17_partsOf.f G (k + 5)) [.int .i64 18] H = _ := fun H => pureCall_of (H := H) (parts_spec G (k + 1) 18) rfl rfl
  have r3 : ∀ H, pureCall (alembicref17_base.f G (k + 5)) [.int .i64 18] H = _ := fun H => pureCall_of (H := H) (rbase_spec G (k + 4) 18 (by decide)) rfl rfl
  rw [h] at r1
  unfold rightB at h
  rw [Bool.and_eq_true] at h
  obtain ⟨_, h⟩ := h
  simp [formF, fairB, regB, extraB, immB, halfI, stackB] at h
  have c1 : convInt .u32 (I6 d) = some (W32 d) := q_cv32 (by omega) (by omega)
  have c2 : convInt .u32 (I6 n) = some (W32 n) := q_cv32 (by omega) (by omega)
  have c3 : convInt .u32 (I6 m) = some (W32 m) := q_cv32 (by omega) (by omega)
  have s1 := shl_p Tryd.prog 71 true (v := n) (p := 32) (b := 5) 5 rfl (by decide) rfl (by omega) (by omega)
  have s2 := shl_p Tryd.prog 71 true (v := m) (p := 65536) (b := 16) 16 rfl (by decide) rfl (by omega) (by omega)
  have o1 := or_f0 Tryd.prog 71 false (x := 4181721088) (v := d) (q := 32) 5 rfl (by omega) (by omega) (by omega) (by omega) (by omega)
  have o2 := or_fd Tryd.prog 71 false (x := 4181721088 + d) (v := n) (p := 32) (q := 32) 5 5 rfl rfl (by omega) (by omega) (by omega) (by omega) (by omega)
  have o3 := or_fd Tryd.prog 71 false (x := 4181721088 + d + n * 32) (v := m) (p := 65536) (q := 1) 16 0 rfl rfl (by omega) (by omega) (by omega) (by omega) (by omega)
  have t1 := shl_p Tryd.prog 71 true (v := imm) (p := 1024) (b := 10) 10 rfl (by decide) rfl (by omega) (by omega)
  have t2 := or_fd Tryd.prog 71 false (x := 4181721088 + d + n * 32 + m * 65536) (v := imm) (p := 1024) (q := 4096) 10 12 rfl rfl (by omega) (by omega) (by omega) (by omega) (by omega)
  have ew : wordF ⟨18, d, n, m, a, imm⟩ = 4181721088 + d + n * 32 + m * 65536 + imm * 1024 := rfl
  rw [ew]
  simp only [partsV, formF, Int.reduceEq, if_true, if_false, ↓reduceIte] at r2 r3
  clear ew
  rw [alembicref17_Word.step]
  unfold alembicref17_Word.c
  refine e_in ?_
  repeat' first
    | (with_reducible first | refine eT ?_ | refine eN ?_ | refine eS ?_ | refine eXn ?_ | refine eXr ?_ | refine eX ?_ | refine eI ?_ | refine eK ?_ | refine eV0 ?_ | refine eGr0 ?_ | refine eGtt ?_ | refine eGff ?_ | refine eGtf ?_ | refine eGft ?_ | refine eGno ?_)
    | ((with_reducible apply eCn); (simp only [nth_zero, nth_succ]; first | done | (with_reducible exact rfl)))
    | ((with_reducible apply eJ); (rfl))
    | ((with_reducible apply eGr1); (first | rfl | (simp only [nth_zero, nth_succ]; rfl)))
    | ((with_reducible apply eB); (first | (with_reducible exact rfl) | (simp (disch := omega) only [qf, r1, r2, r3, c1, c2, c3, s1, s2, o1, o2, o3, t1, t2]; first | done | (with_reducible exact rfl) | (with_reducible exact ⟨rfl, rfl⟩)) | (simp (disch := omega) only [qa, putC, AV.cells, storable, buildSt, fillA, buildRo, buildOwn, fillE, Nat.reduceLeDiff, Nat.reduceLT, Nat.reduceAdd, ↓reduceIte, r1, r2, r3, c1, c2, c3, s1, s2, o1, o2, o3, t1, t2]; first | done | (with_reducible exact rfl) | (with_reducible exact ⟨rfl, rfl⟩))))
    | ((with_reducible apply eR); (simp only [nth_zero, nth_succ]; (with_reducible exact rfl)))
    | ((with_reducible first | refine sEql ?_ ?_ | refine sNeq ?_ ?_ | refine sLss ?_ ?_ | refine sLeq ?_ ?_ | refine sGtr ?_ ?_ | refine sGeq ?_ ?_ | refine sNot ?_ ?_ | refine sPick ?_ ?_ | refine sGd ?_ ?_ | refine eBool ?_ ?_) <;> intro hq <;> try subst hq)
  all_goals first | exact w2b rfl rfl | (refine w2b ?_ rfl; omega)
theorem rword_19 (G : Globs) (k : Nat) (d n m a imm : Int) (h : rightB ⟨19, d, n, m, a, imm⟩ = true) : alembicref17_Word.f G (k + 6) [mV 19 d n m a imm] [] = some (.tup [W32 (wordF ⟨19, d, n, m, a, imm⟩), .bool true], []) := by
  have r1 : ∀ H, pureCall (alembicref17_right.f G (k + 5)) [mV 19 d n m a imm] H = _ := fun H => pureCall_of (H := H) (rright_spec G k 19 d n m a imm) rfl rfl
  have r2 : ∀ H, pureCall (alembicref17_partsOf.f G (k + 5)) [.int .i64 19] H = _ := fun H => pureCall_of (H := H) (parts_spec G (k + 1) 19) rfl rfl
  have r3 : ∀ H, pureCall (alembicref17_base.f G (k + 5)) [.int .i64 19] H = _ := fun H => pureCall_of (H := H) (rbase_spec G (k + 4) 19 (by decide)) rfl rfl
  rw [h] at r1
  unfold rightB at h
  rw [Bool.and_eq_true] at h
  obtain ⟨_, h⟩ := h
  simp [formF, fairB, regB, extraB, immB, halfI, stackB] at h
  have c1 : convInt .u32 (I6 d) = some (W32 d) := q_cv32 (by omega) (by omega)
  have c2 : convInt .u32 (I6 n) = some (W32 n) := q_cv32 (by omega) (by omega)
  have c3 : convInt .u32 (I6 m) = some (W32 m) := q_cv32 (by omega) (by omega)
  have s1 := shl_p Tryd.prog 71 true (v := n) (p := 32) (b := 5) 5 rfl (by decide) rfl (by omega) (by omega)
  have s2 := shl_p Tryd.prog 71 true (v := m) (p := 65536) (b := 16) 16 rfl (by decide) rfl (by omega) (by omega)
  have o1 := or_f0 Tryd.prog 71 false (x := 4177526784) (v := d) (q := 32) 5 rfl (by omega) (by omega) (by omega) (by omega) (by omega)
  have o2 := or_fd Tryd.prog 71 false (x := 4177526784 + d) (v := n) (p := 32) (q := 32) 5 5 rfl rfl (by omega) (by omega) (by omega) (by omega) (by omega)
  have o3 := or_fd Tryd.prog 71 false (x := 4177526784 + d + n * 32) (v := m) (p := 65536) (q := 1) 16 0 rfl rfl (by omega) (by omega) (by omega) (by omega) (by omega)
  have t1 := shl_p Tryd.prog 71 true (v := imm) (p := 1024) (b := 10) 10 rfl (by decide) rfl (by omega) (by omega)
  have t2 := or_fd Tryd.prog 71 false (x := 4177526784 + d + n * 32 + m * 65536) (v := imm) (p := 1024) (q := 4096) 10 12 rfl rfl (by omega) (by omega) (by omega) (by omega) (by omega)
  have ew : wordF ⟨19, d, n, m, a, imm⟩ = 4177526784 + d + n * 32 + m * 65536 + imm * 1024 := rfl
  rw [ew]
  simp only [partsV, formF, Int.reduceEq, if_true, if_false, ↓reduceIte] at r2 r3
  clear ew
  rw [alembicref17_Word.step]
  unfold alembicref17_Word.c
  refine e_in ?_
  repeat' first
    | (with_reducible first | refine eT ?_ | refine eN ?_ | refine eS ?_ | refine eXn ?_ | refine eXr ?_ | refine eX ?_ | refine eI ?_ | refine eK ?_ | refine eV0 ?_ | refine eGr0 ?_ | refine eGtt ?_ | refine eGff ?_ | refine eGtf ?_ | refine eGft ?_ | refine eGno ?_)
    | ((with_reducible apply eCn); (simp only [nth_zero, nth_succ]; first | done | (with_reducible exact rfl)))
    | ((with_reducible apply eJ); (rfl))
    | ((with_reducible apply eGr1); (first | rfl | (simp only [nth_zero, nth_succ]; rfl)))
    | ((with_reducible apply eB); (first | (with_reducible exact rfl) | (simp (disch := omega) only [qf, r1, r2, r3, c1, c2, c3, s1, s2, o1, o2, o3, t1, t2]; first | done | (with_reducible exact rfl) | (with_reducible exact ⟨rfl, rfl⟩)) | (simp (disch := omega) only [qa, putC, AV.cells, storable, buildSt, fillA, buildRo, buildOwn, fillE, Nat.reduceLeDiff, Nat.reduceLT, Nat.reduceAdd, ↓reduceIte, r1, r2, r3, c1, c2, c3, s1, s2, o1, o2, o3, t1, t2]; first | done | (with_reducible exact rfl) | (with_reducible exact ⟨rfl, rfl⟩))))
    | ((with_reducible apply eR); (simp only [nth_zero, nth_succ]; (with_reducible exact rfl)))
    | ((with_reducible first | refine sEql ?_ ?_ | refine sNeq ?_ ?_ | refine sLss ?_ ?_ | refine sLeq ?_ ?_ | refine sGtr ?_ ?_ | refine sGeq ?_ ?_ | refine sNot ?_ ?_ | refine sPick ?_ ?_ | refine sGd ?_ ?_ | refine eBool ?_ ?_) <;> intro hq <;> try subst hq)
  all_goals first | exact w2b rfl rfl | (refine w2b ?_ rfl; omega)
theorem rword_20 (G : Globs) (k : Nat) (d n m a imm : Int) (h : rightB ⟨20, d, n, m, a, imm⟩ = true) : alembicref17_Word.f G (k + 6) [mV 20 d n m a imm] [] = some (.tup [W32 (wordF ⟨20, d, n, m, a, imm⟩), .bool true], []) := by
  have r1 : ∀ H, pureCall (alembicref17_right.f G (k + 5)) [mV 20 d n m a imm] H = _ := fun H => pureCall_of (H := H) (rright_spec G k 20 d n m a imm) rfl rfl
  have r2 : ∀ H, pureCall (alembicref17_partsOf.f G (k + 5)) [.int .i64 20] H = _ := fun H => pureCall_of (H := H) (parts_spec G (k + 1) 20) rfl rfl
  have r3 : ∀ H, pureCall (alembicref17_base.f G (k + 5)) [.int .i64 20] H = _ := fun H => pureCall_of (H := H) (rbase_spec G (k + 4) 20 (by decide)) rfl rfl
  rw [h] at r1
  unfold rightB at h
  rw [Bool.and_eq_true] at h
  obtain ⟨_, h⟩ := h
  simp [formF, fairB, regB, extraB, immB, halfI, stackB] at h
  have c1 : convInt .u32 (I6 d) = some (W32 d) := q_cv32 (by omega) (by omega)
  have c2 : convInt .u32 (I6 n) = some (W32 n) := q_cv32 (by omega) (by omega)
  have c3 : convInt .u32 (I6 m) = some (W32 m) := q_cv32 (by omega) (by omega)
  have s1 := shl_p Tryd.prog 71 true (v := n) (p := 32) (b := 5) 5 rfl (by decide) rfl (by omega) (by omega)
  have s2 := shl_p Tryd.prog 71 true (v := m) (p := 65536) (b := 16) 16 rfl (by decide) rfl (by omega) (by omega)
  have o1 := or_f0 Tryd.prog 71 false (x := 335544320) (v := d) (q := 1) 0 rfl (by omega) (by omega) (by omega) (by omega) (by omega)
  have o2 := or_fd Tryd.prog 71 false (x := 335544320 + d) (v := n) (p := 32) (q := 1) 5 0 rfl rfl (by omega) (by omega) (by omega) (by omega) (by omega)
  have o3 := or_fd Tryd.prog 71 false (x := 335544320 + d + n * 32) (v := m) (p := 65536) (q := 1) 16 0 rfl rfl (by omega) (by omega) (by omega) (by omega) (by omega)
  have t1 : bin Tryd.prog .and 71 true (W32 (imm % 4294967296)) (.int .u32 67108863) = some (W32 (imm % 67108864)) := by
    have := and_low Tryd.prog 71 true (x := imm % 4294967296) (q := 67108863) 26 (by decide) rfl (by omega) (by omega)
    rw [this]; congr 2; omega
  have t2 := or_f0 Tryd.prog 71 false (x := 335544320 + d + n * 32 + m * 65536) (v := (imm % 67108864)) (q := 67108864) 26 rfl (by omega) (by omega) (by omega) (by omega) (by omega)
  have ew : wordF ⟨20, d, n, m, a, imm⟩ = 335544320 + d + n * 32 + m * 65536 + imm % 67108864 := rfl
  rw [ew]
  simp only [partsV, formF, Int.reduceEq, if_true, if_false, ↓reduceIte] at r2 r3
  clear ew
  rw [alembicref17_Word.step]
  unfold alembicref17_Word.c
  refine e_in ?_
  repeat' first
    | (with_reducible first | refine eT ?_ | refine eN ?_ | refine eS ?_ | refine eXn ?_ | refine eXr ?_ | refine eX ?_ | refine eI ?_ | refine eK ?_ | refine eV0 ?_ | refine eGr0 ?_ | refine eGtt ?_ | refine eGff ?_ | refine eGtf ?_ | refine eGft ?_ | refine eGno ?_)
    | ((with_reducible apply eCn); (simp only [nth_zero, nth_succ]; first | done | (with_reducible exact rfl)))
    | ((with_reducible apply eJ); (rfl))
    | ((with_reducible apply eGr1); (first | rfl | (simp only [nth_zero, nth_succ]; rfl)))
    | ((with_reducible apply eB); (first | (with_reducible exact rfl) | (simp (disch := omega) only [qf, r1, r2, r3, c1, c2, c3, s1, s2, o1, o2, o3, cvM, t1, t2]; first | done | (with_reducible exact rfl) | (with_reducible exact ⟨rfl, rfl⟩)) | (simp (disch := omega) only [qa, putC, AV.cells, storable, buildSt, fillA, buildRo, buildOwn, fillE, Nat.reduceLeDiff, Nat.reduceLT, Nat.reduceAdd, ↓reduceIte, r1, r2, r3, c1, c2, c3, s1, s2, o1, o2, o3, cvM, t1, t2]; first | done | (with_reducible exact rfl) | (with_reducible exact ⟨rfl, rfl⟩))))
    | ((with_reducible apply eR); (simp only [nth_zero, nth_succ]; (with_reducible exact rfl)))
    | ((with_reducible first | refine sEql ?_ ?_ | refine sNeq ?_ ?_ | refine sLss ?_ ?_ | refine sLeq ?_ ?_ | refine sGtr ?_ ?_ | refine sGeq ?_ ?_ | refine sNot ?_ ?_ | refine sPick ?_ ?_ | refine sGd ?_ ?_ | refine eBool ?_ ?_) <;> intro hq <;> try subst hq)
  all_goals first | exact w2b rfl rfl | (refine w2b ?_ rfl; omega)
theorem rword_21 (G : Globs) (k : Nat) (d n m a imm : Int) (h : rightB ⟨21, d, n, m, a, imm⟩ = true) : alembicref17_Word.f G (k + 6) [mV 21 d n m a imm] [] = some (.tup [W32 (wordF ⟨21, d, n, m, a, imm⟩), .bool true], []) := by
  have r1 : ∀ H, pureCall (alembicref17_right.f G (k + 5)) [mV 21 d n m a imm] H = _ := fun H => pureCall_of (H := H) (rright_spec G k 21 d n m a imm) rfl rfl
  have r2 : ∀ H, pureCall (alembicref17_partsOf.f G (k + 5)) [.int .i64 21] H = _ := fun H => pureCall_of (H := H) (parts_spec G (k + 1) 21) rfl rfl
  have r3 : ∀ H, pureCall (alembicref17_base.f G (k + 5)) [.int .i64 21] H = _ := fun H => pureCall_of (H := H) (rbase_spec G (k + 4) 21 (by decide)) rfl rfl
  rw [h] at r1
  unfold rightB at h
  rw [Bool.and_eq_true] at h
  obtain ⟨_, h⟩ := h
  simp [formF, fairB, regB, extraB, immB, halfI, stackB] at h
  have c1 : convInt .u32 (I6 d) = some (W32 d) := q_cv32 (by omega) (by omega)
  have c2 : convInt .u32 (I6 n) = some (W32 n) := q_cv32 (by omega) (by omega)
  have c3 : convInt .u32 (I6 m) = some (W32 m) := q_cv32 (by omega) (by omega)
  have s1 := shl_p Tryd.prog 71 true (v := n) (p := 32) (b := 5) 5 rfl (by decide) rfl (by omega) (by omega)
  have s2 := shl_p Tryd.prog 71 true (v := m) (p := 65536) (b := 16) 16 rfl (by decide) rfl (by omega) (by omega)
  have o1 := or_f0 Tryd.prog 71 false (x := 1409286144) (v := d) (q := 1) 0 rfl (by omega) (by omega) (by omega) (by omega) (by omega)
  have o2 := or_fd Tryd.prog 71 false (x := 1409286144 + d) (v := n) (p := 32) (q := 1) 5 0 rfl rfl (by omega) (by omega) (by omega) (by omega) (by omega)
  have o3 := or_fd Tryd.prog 71 false (x := 1409286144 + d + n * 32) (v := m) (p := 65536) (q := 1) 16 0 rfl rfl (by omega) (by omega) (by omega) (by omega) (by omega)
  have t0 : convInt .u32 (I6 a) = some (W32 a) := q_cv32 (by omega) (by omega)
  have t1 := or_f0 Tryd.prog 71 false (x := 1409286144 + d + n * 32 + m * 65536) (v := a) (q := 16) 4 rfl (by omega) (by omega) (by omega) (by omega) (by omega)
  have t2 : bin Tryd.prog .and 71 true (W32 (imm % 4294967296)) (.int .u32 524287) = some (W32 (imm % 524288)) := by
    have := and_low Tryd.prog 71 true (x := imm % 4294967296) (q := 524287) 19 (by decide) rfl (by omega) (by omega)
    rw [this]; congr 2; omega
  have t3 := shl_p Tryd.prog 71 true (v := (imm % 524288)) (p := 32) (b := 5) 5 rfl (by decide) rfl (by omega) (by omega)
  have t4 := or_fd Tryd.prog 71 false (x := 1409286144 + d + n * 32 + m * 65536 + a) (v := (imm % 524288)) (p := 32) (q := 524288) 5 19 rfl rfl (by omega) (by omega) (by omega) (by omega) (by omega)
  have ew : wordF ⟨21, d, n, m, a, imm⟩ = 1409286144 + d + n * 32 + m * 65536 + (a + imm % 524288 * 32) := rfl
  rw [ew]
  simp only [partsV, formF, Int.reduceEq, if_true, if_false, ↓reduceIte] at r2 r3
  clear ew
  rw [alembicref17_Word.step]
  unfold alembicref17_Word.c
  refine e_in ?_
  repeat' first
    | (with_reducible first | refine eT ?_ | refine eN ?_ | refine eS ?_ | refine eXn ?_ | refine eXr ?_ | refine eX ?_ | refine eI ?_ | refine eK ?_ | refine eV0 ?_ | refine eGr0 ?_ | refine eGtt ?_ | refine eGff ?_ | refine eGtf ?_ | refine eGft ?_ | refine eGno ?_)
    | ((with_reducible apply eCn); (simp only [nth_zero, nth_succ]; first | done | (with_reducible exact rfl)))
    | ((with_reducible apply eJ); (rfl))
    | ((with_reducible apply eGr1); (first | rfl | (simp only [nth_zero, nth_succ]; rfl)))
    | ((with_reducible apply eB); (first | (with_reducible exact rfl) | (simp (disch := omega) only [qf, r1, r2, r3, c1, c2, c3, s1, s2, o1, o2, o3, t0, cvM, t1, t2, t3, t4]; first | done | (with_reducible exact rfl) | (with_reducible exact ⟨rfl, rfl⟩)) | (simp (disch := omega) only [qa, putC, AV.cells, storable, buildSt, fillA, buildRo, buildOwn, fillE, Nat.reduceLeDiff, Nat.reduceLT, Nat.reduceAdd, ↓reduceIte, r1, r2, r3, c1, c2, c3, s1, s2, o1, o2, o3, t0, cvM, t1, t2, t3, t4]; first | done | (with_reducible exact rfl) | (with_reducible exact ⟨rfl, rfl⟩))))
    | ((with_reducible apply eR); (simp only [nth_zero, nth_succ]; (with_reducible exact rfl)))
    | ((with_reducible first | refine sEql ?_ ?_ | refine sNeq ?_ ?_ | refine sLss ?_ ?_ | refine sLeq ?_ ?_ | refine sGtr ?_ ?_ | refine sGeq ?_ ?_ | refine sNot ?_ ?_ | refine sPick ?_ ?_ | refine sGd ?_ ?_ | refine eBool ?_ ?_) <;> intro hq <;> try subst hq)
  all_goals first | exact w2b rfl rfl | (refine w2b ?_ rfl; omega)
theorem rword_22 (G : Globs) (k : Nat) (d n m a imm : Int) (h : rightB ⟨22, d, n, m, a, imm⟩ = true) : alembicref17_Word.f G (k + 6) [mV 22 d n m a imm] [] = some (.tup [W32 (wordF ⟨22, d, n, m, a, imm⟩), .bool true], []) := by
  have r1 : ∀ H, pureCall (alembicref17_right.f G (k + 5)) [mV 22 d n m a imm] H = _ := fun H => pureCall_of (H := H) (rright_spec G k 22 d n m a imm) rfl rfl
  have r2 : ∀ H, pureCall (alembicref17_partsOf.f G (k + 5)) [.int .i64 22] H = _ := fun H => pureCall_of (H := H) (parts_spec G (k + 1) 22) rfl rfl
  have r3 : ∀ H, pureCall (alembicref17_base.f G (k + 5)) [.int .i64 22] H = _ := fun H => pureCall_of (H := H) (rbase_spec G (k + 4) 22 (by decide)) rfl rfl
  rw [h] at r1
  unfold rightB at h
  rw [Bool.and_eq_true] at h
  obtain ⟨_, h⟩ := h
  simp [formF, fairB, regB, extraB, immB, halfI, stackB] at h
  have c1 : convInt .u32 (I6 d) = some (W32 d) := q_cv32 (by omega) (by omega)
  have c2 : convInt .u32 (I6 n) = some (W32 n) := q_cv32 (by omega) (by omega)
  have c3 : convInt .u32 (I6 m) = some (W32 m) := q_cv32 (by omega) (by omega)
  have s1 := shl_p Tryd.prog 71 true (v := n) (p := 32) (b := 5) 5 rfl (by decide) rfl (by omega) (by omega)
  have s2 := shl_p Tryd.prog 71 true (v := m) (p := 65536) (b := 16) 16 rfl (by decide) rfl (by omega) (by omega)
  have o1 := or_f0 Tryd.prog 71 false (x := 3019898880) (v := d) (q := 32) 5 rfl (by omega) (by omega) (by omega) (by omega) (by omega)
  have o2 := or_fd Tryd.prog 71 false (x := 3019898880 + d) (v := n) (p := 32) (q := 1) 5 0 rfl rfl (by omega) (by omega) (by omega) (by omega) (by omega)
  have o3 := or_fd Tryd.prog 71 false (x := 3019898880 + d + n * 32) (v := m) (p := 65536) (q := 1) 16 0 rfl rfl (by omega) (by omega) (by omega) (by omega) (by omega)
  have t2 : bin Tryd.prog .and 71 true (W32 (imm % 4294967296)) (.int .u32 524287) = some (W32 (imm % 524288)) := by
    have := and_low Tryd.prog 71 true (x := imm % 4294967296) (q := 524287) 19 (by decide) rfl (by omega) (by omega)
    rw [this]; congr 2; omega
  have t3 := shl_p Tryd.prog 71 true (v := (imm % 524288)) (p := 32) (b := 5) 5 rfl (by decide) rfl (by omega) (by omega)
  have t4 := or_fd Tryd.prog 71 false (x := 3019898880 + d + n * 32 + m * 65536) (v := (imm % 524288)) (p := 32) (q := 524288) 5 19 rfl rfl (by omega) (by omega) (by omega) (by omega) (by omega)
  have ew : wordF ⟨22, d, n, m, a, imm⟩ = 3019898880 + d + n * 32 + m * 65536 + imm % 524288 * 32 := rfl
  rw [ew]
  simp only [partsV, formF, Int.reduceEq, if_true, if_false, ↓reduceIte] at r2 r3
  clear ew
  rw [alembicref17_Word.step]
  unfold alembicref17_Word.c
  refine e_in ?_
  repeat' first
    | (with_reducible first | refine eT ?_ | refine eN ?_ | refine eS ?_ | refine eXn ?_ | refine eXr ?_ | refine eX ?_ | refine eI ?_ | refine eK ?_ | refine eV0 ?_ | refine eGr0 ?_ | refine eGtt ?_ | refine eGff ?_ | refine eGtf ?_ | refine eGft ?_ | refine eGno ?_)
    | ((with_reducible apply eCn); (simp only [nth_zero, nth_succ]; first | done | (with_reducible exact rfl)))
    | ((with_reducible apply eJ); (rfl))
    | ((with_reducible apply eGr1); (first | rfl | (simp only [nth_zero, nth_succ]; rfl)))
    | ((with_reducible apply eB); (first | (with_reducible exact rfl) | (simp (disch := omega) only [qf, r1, r2, r3, c1, c2, c3, s1, s2, o1, o2, o3, cvM, t2, t3, t4]; first | done | (with_reducible exact rfl) | (with_reducible exact ⟨rfl, rfl⟩)) | (simp (disch := omega) only [qa, putC, AV.cells, storable, buildSt, fillA, buildRo, buildOwn, fillE, Nat.reduceLeDiff, Nat.reduceLT, Nat.reduceAdd, ↓reduceIte, r1, r2, r3, c1, c2, c3, s1, s2, o1, o2, o3, cvM, t2, t3, t4]; first | done | (with_reducible exact rfl) | (with_reducible exact ⟨rfl, rfl⟩))))
    | ((with_reducible apply eR); (simp only [nth_zero, nth_succ]; (with_reducible exact rfl)))
    | ((with_reducible first | refine sEql ?_ ?_ | refine sNeq ?_ ?_ | refine sLss ?_ ?_ | refine sLeq ?_ ?_ | refine sGtr ?_ ?_ | refine sGeq ?_ ?_ | refine sNot ?_ ?_ | refine sPick ?_ ?_ | refine sGd ?_ ?_ | refine eBool ?_ ?_) <;> intro hq <;> try subst hq)
  all_goals first | exact w2b rfl rfl | (refine w2b ?_ rfl; omega)
theorem rword_23 (G : Globs) (k : Nat) (d n m a imm : Int) (h : rightB ⟨23, d, n, m, a, imm⟩ = true) : alembicref17_Word.f G (k + 6) [mV 23 d n m a imm] [] = some (.tup [W32 (wordF ⟨23, d, n, m, a, imm⟩), .bool true], []) := by
  have r1 : ∀ H, pureCall (alembicref17_right.f G (k + 5)) [mV 23 d n m a imm] H = _ := fun H => pureCall_of (H := H) (rright_spec G k 23 d n m a imm) rfl rfl
  have r2 : ∀ H, pureCall (alembicref17_partsOf.f G (k + 5)) [.int .i64 23] H = _ := fun H => pureCall_of (H := H) (parts_spec G (k + 1) 23) rfl rfl
  have r3 : ∀ H, pureCall (alembicref17_base.f G (k + 5)) [.int .i64 23] H = _ := fun H => pureCall_of (H := H) (rbase_spec G (k + 4) 23 (by decide)) rfl rfl
  rw [h] at r1
  unfold rightB at h
  rw [Bool.and_eq_true] at h
  obtain ⟨_, h⟩ := h
  simp [formF, fairB, regB, extraB, immB, halfI, stackB] at h
  have c1 : convInt .u32 (I6 d) = some (W32 d) := q_cv32 (by omega) (by omega)
  have c2 : convInt .u32 (I6 n) = some (W32 n) := q_cv32 (by omega) (by omega)
  have c3 : convInt .u32 (I6 m) = some (W32 m) := q_cv32 (by omega) (by omega)
  have s1 := shl_p Tryd.prog 71 true (v := n) (p := 32) (b := 5) 5 rfl (by decide) rfl (by omega) (by omega)
  have s2 := shl_p Tryd.prog 71 true (v := m) (p := 65536) (b := 16) 16 rfl (by decide) rfl (by omega) (by omega)
  have o1 := or_f0 Tryd.prog 71 false (x := 3036676096) (v := d) (q := 32) 5 rfl (by omega) (by omega) (by omega) (by omega) (by omega)
  have o2 := or_fd Tryd.prog 71 false (x := 3036676096 + d) (v := n) (p := 32) (q := 1) 5 0 rfl rfl (by omega) (by omega) (by omega) (by omega) (by omega)
  have o3 := or_fd Tryd.prog 71 false (x := 3036676096 + d + n * 32) (v := m) (p := 65536) (q := 1) 16 0 rfl rfl (by omega) (by omega) (by omega) (by omega) (by omega)
  have t2 : bin Tryd.prog .and 71 true (W32 (imm % 4294967296)) (.int .u32 524287) = some (W32 (imm % 524288)) := by
    have := and_low Tryd.prog 71 true (x := imm % 4294967296) (q := 524287) 19 (by decide) rfl (by omega) (by omega)
    rw [this]; congr 2; omega
  have t3 := shl_p Tryd.prog 71 true (v := (imm % 524288)) (p := 32) (b := 5) 5 rfl (by decide) rfl (by omega) (by omega)
  have t4 := or_fd Tryd.prog 71 false (x := 3036676096 + d + n * 32 + m * 65536) (v := (imm % 524288)) (p := 32) (q := 524288) 5 19 rfl rfl (by omega) (by omega) (by omega) (by omega) (by omega)
  have ew : wordF ⟨23, d, n, m, a, imm⟩ = 3036676096 + d + n * 32 + m * 65536 + imm % 524288 * 32 := rfl
  rw [ew]
  simp only [partsV, formF, Int.reduceEq, if_true, if_false, ↓reduceIte] at r2 r3
  clear ew
  rw [alembicref17_Word.step]
  unfold alembicref17_Word.c
  refine e_in ?_
  repeat' first
    | (with_reducible first | refine eT ?_ | refine eN ?_ | refine eS ?_ | refine eXn ?_ | refine eXr ?_ | refine eX ?_ | refine eI ?_ | refine eK ?_ | refine eV0 ?_ | refine eGr0 ?_ | refine eGtt ?_ | refine eGff ?_ | refine eGtf ?_ | refine eGft ?_ | refine eGno ?_)
    | ((with_reducible apply eCn); (simp only [nth_zero, nth_succ]; first | done | (with_reducible exact rfl)))
    | ((with_reducible apply eJ); (rfl))
    | ((with_reducible apply eGr1); (first | rfl | (simp only [nth_zero, nth_succ]; rfl)))
    | ((with_reducible apply eB); (first | (with_reducible exact rfl) | (simp (disch := omega) only [qf, r1, r2, r3, c1, c2, c3, s1, s2, o1, o2, o3, cvM, t2, t3, t4]; first | done | (with_reducible exact rfl) | (with_reducible exact ⟨rfl, rfl⟩)) | (simp (disch := omega) only [qa, putC, AV.cells, storable, buildSt, fillA, buildRo, buildOwn, fillE, Nat.reduceLeDiff, Nat.reduceLT, Nat.reduceAdd, ↓reduceIte, r1, r2, r3, c1, c2, c3, s1, s2, o1, o2, o3, cvM, t2, t3, t4]; first | done | (with_reducible exact rfl) | (with_reducible exact ⟨rfl, rfl⟩))))
    | ((with_reducible apply eR); (simp only [nth_zero, nth_succ]; (with_reducible exact rfl)))
    | ((with_reducible first | refine sEql ?_ ?_ | refine sNeq ?_ ?_ | refine sLss ?_ ?_ | refine sLeq ?_ ?_ | refine sGtr ?_ ?_ | refine sGeq ?_ ?_ | refine sNot ?_ ?_ | refine sPick ?_ ?_ | refine sGd ?_ ?_ | refine eBool ?_ ?_) <;> intro hq <;> try subst hq)
  all_goals first | exact w2b rfl rfl | (refine w2b ?_ rfl; omega)
theorem rword_24 (G : Globs) (k : Nat) (d n m a imm : Int) (h : rightB ⟨24, d, n, m, a, imm⟩ = true) : alembicref17_Word.f G (k + 6) [mV 24 d n m a imm] [] = some (.tup [W32 (wordF ⟨24, d, n, m, a, imm⟩), .bool true], []) := by
  have r1 : ∀ H, pureCall (alembicref17_right.f G (k + 5)) [mV 24 d n m a imm] H = _ := fun H => pureCall_of (H := H) (rright_spec G k 24 d n m a imm) rfl rfl
  have r2 : ∀ H, pureCall (alembicref17_partsOf.f G (k + 5)) [.int .i64 24] H = _ := fun H => pureCall_of (H := H) (parts_spec G (k + 1) 24) rfl rfl
  have r3 : ∀ H, pureCall (alembicref17_base.f G (k + 5)) [.int .i64 24] H = _ := fun H => pureCall_of (H := H) (rbase_spec G (k + 4) 24 (by decide)) rfl rfl
  rw [h] at r1
  unfold rightB at h
  rw [Bool.and_eq_true] at h
  obtain ⟨_, h⟩ := h
  simp [formF, fairB, regB, extraB, immB, halfI, stackB] at h
  have c1 : convInt .u32 (I6 d) = some (W32 d) := q_cv32 (by omega) (by omega)
  have c2 : convInt .u32 (I6 n) = some (W32 n) := q_cv32 (by omega) (by omega)
  have c3 : convInt .u32 (I6 m) = some (W32 m) := q_cv32 (by omega) (by omega)
  have s1 := shl_p Tryd.prog 71 true (v := n) (p := 32) (b := 5) 5 rfl (by decide) rfl (by omega) (by omega)
  have s2 := shl_p Tryd.prog 71 true (v := m) (p := 65536) (b := 16) 16 rfl (by decide) rfl (by omega) (by omega)
  have o1 := or_f0 Tryd.prog 71 false (x := 3560964096) (v := d) (q := 1) 0 rfl (by omega) (by omega) (by omega) (by omega) (by omega)
  have o2 := or_fd Tryd.prog 71 false (x := 3560964096 + d) (v := n) (p := 32) (q := 1) 5 0 rfl rfl (by omega) (by omega) (by omega) (by omega) (by omega)
  have o3 := or_fd Tryd.prog 71 false (x := 3560964096 + d + n * 32) (v := m) (p := 65536) (q := 1) 16 0 rfl rfl (by omega) (by omega) (by omega) (by omega) (by omega)
  have t1 := shl_p Tryd.prog 71 true (v := imm) (p := 32) (b := 5) 5 rfl (by decide) rfl (by omega) (by omega)
  have t2 := or_fd Tryd.prog 71 false (x := 3560964096 + d + n * 32 + m * 65536) (v := imm) (p := 32) (q := 65536) 5 16 rfl rfl (by omega) (by omega) (by omega) (by omega) (by omega)
  have ew : wordF ⟨24, d, n, m, a, imm⟩ = 3560964096 + d + n * 32 + m * 65536 + imm * 32 := rfl
  rw [ew]
  simp only [partsV, formF, Int.reduceEq, if_true, if_false, ↓reduceIte] at r2 r3
  clear ew
  rw [alembicref17_Word.step]
  unfold alembicref17_Word.c
  refine e_in ?_
  repeat' first
    | (with_reducible first | refine eT ?_ | refine eN ?_ | refine eS ?_ | refine eXn ?_ | refine eXr ?_ | refine eX ?_ | refine eI ?_ | refine eK ?_ | refine eV0 ?_ | refine eGr0 ?_ | refine eGtt ?_ | refine eGff ?_ | refine eGtf ?_ | refine eGft ?_ | refine eGno ?_)
    | ((with_reducible apply eCn); (simp only [nth_zero, nth_succ]; first | done | (with_reducible exact rfl)))
    | ((with_reducible apply eJ); (rfl))
    | ((with_reducible apply eGr1); (first | rfl | (simp only [nth_zero, nth_succ]; rfl)))
    | ((with_reducible apply eB); (first | (with_reducible exact rfl) | (simp (disch := omega) only [qf, r1, r2, r3, c1, c2, c3, s1, s2, o1, o2, o3, t1, t2]; first | done | (with_reducible exact rfl) | (with_reducible exact ⟨rfl, rfl⟩)) | (simp (disch := omega) only [qa, putC, AV.cells, storable, buildSt, fillA, buildRo, buildOwn, fillE, Nat.reduceLeDiff, Nat.reduceLT, Nat.reduceAdd, ↓reduceIte, r1, r2, r3, c1, c2, c3, s1, s2, o1, o2, o3, t1, t2]; first | done | (with_reducible exact rfl) | (with_reducible exact ⟨rfl, rfl⟩))))
    | ((with_reducible apply eR); (simp only [nth_zero, nth_succ]; (with_reducible exact rfl)))
    | ((with_reducible first | refine sEql ?_ ?_ | refine sNeq ?_ ?_ | refine sLss ?_ ?_ | refine sLeq ?_ ?_ | refine sGtr ?_ ?_ | refine sGeq ?_ ?_ | refine sNot ?_ ?_ | refine sPick ?_ ?_ | refine sGd ?_ ?_ | refine eBool ?_ ?_) <;> intro hq <;> try subst hq)
  all_goals first | exact w2b rfl rfl | (refine w2b ?_ rfl; omega)

theorem rword_spec (G : Globs) (k : Nat) (i : MI) : alembicref17_Word.f G (k + 6) [i.v] [] = some (.tup [W32 (wordR i), .bool (rightB i)], []) := by
  cases hr : rightB i
  · have e : wordR i = 0 := by unfold wordR; rw [hr]; rfl
    rw [e]
    obtain ⟨op, d, n, m, a, imm⟩ := i
    show alembicref17_Word.f G (k + 6) [mV op d n m a imm] [] = _
    have r1 : ∀ H, pureCall (alembicref17_right.f G (k + 5)) [mV op d n m a imm] H = _ := fun H => pureCall_of (H := H) (rright_spec G k op d n m a imm) rfl rfl
    rw [hr] at r1
    rw [alembicref17_Word.step]
    unfold alembicref17_Word.c
    refine e_in ?_
    repeat' first
      | (with_reducible first | refine eT ?_ | refine eN ?_ | refine eS ?_ | refine eXn ?_ | refine eXr ?_ | refine eX ?_ | refine eI ?_ | refine eK ?_ | refine eV0 ?_ | refine eGr0 ?_ | refine eGtt ?_ | refine eGff ?_ | refine eGtf ?_ | refine eGft ?_ | refine eGno ?_)
      | ((with_reducible apply eCn); (simp only [nth_zero, nth_succ]; first | done | (with_reducible exact rfl)))
      | ((with_reducible apply eJ); (rfl))
      | ((with_reducible apply eGr1); (first | rfl | (simp only [nth_zero, nth_succ]; rfl)))
      | ((with_reducible apply eB); (first | (with_reducible exact rfl) | (simp (disch := omega) only [qf, r1]; first | done | (with_reducible exact rfl) | (with_reducible exact ⟨rfl, rfl⟩)) | (simp (disch := omega) only [qa, putC, AV.cells, storable, buildSt, fillA, buildRo, buildOwn, fillE, Nat.reduceLeDiff, Nat.reduceLT, Nat.reduceAdd, ↓reduceIte, r1]; first | done | (with_reducible exact rfl) | (with_reducible exact ⟨rfl, rfl⟩))))
      | ((with_reducible apply eR); (simp only [nth_zero, nth_succ]; (with_reducible exact rfl)))
      | ((with_reducible first | refine sEql ?_ ?_ | refine sNeq ?_ ?_ | refine sLss ?_ ?_ | refine sLeq ?_ ?_ | refine sGtr ?_ ?_ | refine sGeq ?_ ?_ | refine sNot ?_ ?_ | refine sPick ?_ ?_ | refine sGd ?_ ?_ | refine eBool ?_ ?_) <;> intro hq <;> try subst hq)
    exact w2 rfl rfl rfl
  · have e : wordR i = wordF i := by unfold wordR; rw [hr]; rfl
    rw [e]
    obtain ⟨op, d, n, m, a, imm⟩ := i
    show alembicref17_Word.f G (k + 6) [mV op d n m a imm] [] = _
    have h24 : 1 ≤ op ∧ op ≤ 24 := right24 hr
    rcases op24 h24 with rfl | rfl | rfl | rfl | rfl | rfl | rfl | rfl | rfl | rfl | rfl | rfl | rfl | rfl | rfl | rfl | rfl | rfl | rfl | rfl | rfl | rfl | rfl | rfl
    · exact rword_1 G k d n m a imm hr
    · exact rword_2 G k d n m a imm hr
    · exact rword_3 G k d n m a imm hr
    · exact rword_4 G k d n m a imm hr
    · exact rword_5 G k d n m a imm hr
    · exact rword_6 G k d n m a imm hr
    · exact rword_7 G k d n m a imm hr
    · exact rword_8 G k d n m a imm hr
    · exact rword_9 G k d n m a imm hr
    · exact rword_10 G k d n m a imm hr
    · exact rword_11 G k d n m a imm hr
    · exact rword_12 G k d n m a imm hr
    · exact rword_13 G k d n m a imm hr
    · exact rword_14 G k d n m a imm hr
    · exact rword_15 G k d n m a imm hr
    · exact rword_16 G k d n m a imm hr
    · exact rword_17 G k d n m a imm hr
    · exact rword_18 G k d n m a imm hr
    · exact rword_19 G k d n m a imm hr
    · exact rword_20 G k d n m a imm hr
    · exact rword_21 G k d n m a imm hr
    · exact rword_22 G k d n m a imm hr
    · exact rword_23 G k d n m a imm hr
    · exact rword_24 G k d n m a imm hr
end Go.Proofs.YtdfglgnflldkpaaDoor.Mir
