/- Part 6 of the proof: what these functions do. -/
import Derived.Test.YtdfglgnflldkpaaDoorVa5
namespace Go.Proofs.YtdfglgnflldkpaaDoor.Mir
open Go
set_option linter.unusedVariables false
set_option linter.unusedSimpArgs false
set_option maxHeartbeats 8000000
set_option maxRecDepth 20000
theorem rword_1 (G : Globs) (k : Nat) (d n m a imm : Int) (h : rightB ⟨1, d, n, m, a, imm⟩ = true) : alembicref17_Word.f G (k + 6) [mV 1 d n m a imm] [] = some (.tup [W32 (wordF ⟨1, d, n, m, a, imm⟩), .bool true], []) := by
  have r1 : ∀ H, pureCall (alembicref17_right.f G (k + 5)) [mV 1 d n m a imm] H = _ := fun H => pureCall_of (H := H) (rright_spec G k 1 d n m a imm) rfl rfl
  have r2 : ∀ H, pureCall (alembicref17_partsOf.f G (k + 5)) [.int .i64 1] H = _ := fun H => pureCall_of (H := H) (parts_spec G (k + 1) 1) rfl rfl
  have r3 : ∀ H, pureCall (alembicref17_base.f G (k + 5)) [.int .i64 1] H = _ := fun H => pureCall_of (H := H) (rbase_spec G (k + 4) 1 (by decide)) rfl rfl
  rw [h] at r1
  unfold rightB at h
  rw [Bool.and_eq_true] at h
  obtain ⟨_, h⟩ := h
  simp [formF, fairB, regB, extraB, immB, halfI, stackB] at h
  have c1 : convInt .u32 (I6 d) = some (W32 d) := q_cv32 (by omega) (by omega)
  have c2 : convInt .u32 (I6 n) = some (W32 n) := q_cv32 (by omega) (by omega)
  have c3 : convInt .u32 (I6 m) = some (W32 m) := q_cv32 (by omega) (by omega)
  have s1 := shl_p Tryd.prog 71 true (v := n) (p := 32) (b := 5) 5 rfl (by decide) rfl (by omega) (by omega)
  have s2 := shl_p Tryd.prog 71 true (v := m) (p := 65536) (b := 16) 16 rfl (by decide) rfl (by omega) (by omega)
  have o1 := or_f0 Tryd.prog 71 false (x := 3531603968) (v := d) (q := 32) 5 rfl (by omega) (by omega) (by omega) (by omega) (by omega)
  have o2 := or_fd Tryd.prog 71 false (x := 3531603968 + d) (v := n) (p := 32) (q := 1) 5 0 rfl rfl (by omega) (by omega) (by omega) (by omega) (by omega)
  have o3 := or_fd Tryd.prog 71 false (x := 3531603968 + d + n * 32) (v := m) (p := 65536) (q := 1) 16 0 rfl rfl (by omega) (by omega) (by omega) (by omega) (by omega)
  have t1 := shl_p Tryd.prog 71 true (v := a) (p := 2097152) (b := 21) 21 rfl (by decide) rfl (by omega) (by omega)
  have t2 := or_fd Tryd.prog 71 false (x := 3531603968 + d + n * 32 + m * 65536) (v := a) (p := 2097152) (q := 4) 21 2 rfl rfl (by omega) (by omega) (by omega) (by omega) (by omega)
  have t3 := shl_p Tryd.prog 71 true (v := imm) (p := 32) (b := 5) 5 rfl (by decide) rfl (by omega) (by omega)
  have t4 := or_fd Tryd.prog 71 false (x := 3531603968 + d + n * 32 + m * 65536 + a * 2097152) (v := imm) (p := 32) (q := 65536) 5 16 rfl rfl (by omega) (by omega) (by omega) (by omega) (by omega)
  have ew : wordF ⟨1, d, n, m, a, imm⟩ = 3531603968 + d + n * 32 + m * 65536 + (a * 2097152 + imm * 32) := rfl
  rw [ew]
  simp only [partsV, formF, Int.reduceEq, if_true, if_false, ↓reduceIte] at r2 r3
  clear ew
  rw [alembicref17_Word.step]
  unfold alembicref17_Word.c
  refine e_in ?_
  have fx := And.intro r1 <| And.intro r2 <| And.intro r3 <| And.intro c1 <| And.intro c2 <| And.intro c3 <| And.intro s1 <| And.intro s2 <| And.intro o1 <| And.intro o2 <| And.intro o3 <| And.intro t1 <| And.intro t2 <| And.intro t3 <| t4
  refine wkA ?_
  all_goals first | exact w2b rfl rfl | (refine w2b ?_ rfl; omega)
theorem rword_2 (G : Globs) (k : Nat) (d n m a imm : Int) (h : rightB ⟨2, d, n, m, a, imm⟩ = true) : alembicref17_Word.f G (k + 6) [mV 2 d n m a imm] [] = some (.tup [W32 (wordF ⟨2, d, n, m, a, imm⟩), .bool true], []) := by
  have r1 : ∀ H, pureCall (alembicref17_right.f G (k + 5)) [mV 2 d n m a imm] H = _ := fun H => pureCall_of (H := H) (rright_spec G k 2 d n m a imm) rfl rfl
  have r2 : ∀ H, pureCall (alembicref17_partsOf.f G (k + 5)) [.int .i64 2] H = _ := fun H => pureCall_of (H := H) (parts_spec G (k + 1) 2) rfl rfl
  have r3 : ∀ H, pureCall (alembicref17_base.f G (k + 5)) [.int .i64 2] H = _ := fun H => pureCall_of (H := H) (rbase_spec G (k + 4) 2 (by decide)) rfl rfl
  rw [h] at r1
  unfold rightB at h
  rw [Bool.and_eq_true] at h
  obtain ⟨_, h⟩ := h
  simp [formF, fairB, regB, extraB, immB, halfI, stackB] at h
  have c1 : convInt .u32 (I6 d) = some (W32 d) := q_cv32 (by omega) (by omega)
  have c2 : convInt .u32 (I6 n) = some (W32 n) := q_cv32 (by omega) (by omega)
  have c3 : convInt .u32 (I6 m) = some (W32 m) := q_cv32 (by omega) (by omega)
  have s1 := shl_p Tryd.prog 71 true (v := n) (p := 32) (b := 5) 5 rfl (by decide) rfl (by omega) (by omega)
  have s2 := shl_p Tryd.prog 71 true (v := m) (p := 65536) (b := 16) 16 rfl (by decide) rfl (by omega) (by omega)
  have o1 := or_f0 Tryd.prog 71 false (x := 4068474880) (v := d) (q := 32) 5 rfl (by omega) (by omega) (by omega) (by omega) (by omega)
  have o2 := or_fd Tryd.prog 71 false (x := 4068474880 + d) (v := n) (p := 32) (q := 1) 5 0 rfl rfl (by omega) (by omega) (by omega) (by omega) (by omega)
  have o3 := or_fd Tryd.prog 71 false (x := 4068474880 + d + n * 32) (v := m) (p := 65536) (q := 1) 16 0 rfl rfl (by omega) (by omega) (by omega) (by omega) (by omega)
  have t1 := shl_p Tryd.prog 71 true (v := a) (p := 2097152) (b := 21) 21 rfl (by decide) rfl (by omega) (by omega)
  have t2 := or_fd Tryd.prog 71 false (x := 4068474880 + d + n * 32 + m * 65536) (v := a) (p := 2097152) (q := 4) 21 2 rfl rfl (by omega) (by omega) (by omega) (by omega) (by omega)
  have t3 := shl_p Tryd.prog 71 true (v := imm) (p := 32) (b := 5) 5 rfl (by decide) rfl (by omega) (by omega)
  have t4 := or_fd Tryd.prog 71 false (x := 4068474880 + d + n * 32 + m * 65536 + a * 2097152) (v := imm) (p := 32) (q := 65536) 5 16 rfl rfl (by omega) (by omega) (by omega) (by omega) (by omega)
  have ew : wordF ⟨2, d, n, m, a, imm⟩ = 4068474880 + d + n * 32 + m * 65536 + (a * 2097152 + imm * 32) := rfl
  rw [ew]
  simp only [partsV, formF, Int.reduceEq, if_true, if_false, ↓reduceIte] at r2 r3
  clear ew
  rw [alembicref17_Word.step]
  unfold alembicref17_Word.c
  refine e_in ?_
  have fx := And.intro r1 <| And.intro r2 <| And.intro r3 <| And.intro c1 <| And.intro c2 <| And.intro c3 <| And.intro s1 <| And.intro s2 <| And.intro o1 <| And.intro o2 <| And.intro o3 <| And.intro t1 <| And.intro t2 <| And.intro t3 <| t4
  refine wkA ?_
  all_goals first | exact w2b rfl rfl | (refine w2b ?_ rfl; omega)
theorem rword_3 (G : Globs) (k : Nat) (d n m a imm : Int) (h : rightB ⟨3, d, n, m, a, imm⟩ = true) : alembicref17_Word.f G (k + 6) [mV 3 d n m a imm] [] = some (.tup [W32 (wordF ⟨3, d, n, m, a, imm⟩), .bool true], []) := by
  have r1 : ∀ H, pureCall (alembicref17_right.f G (k + 5)) [mV 3 d n m a imm] H = _ := fun H => pureCall_of (H := H) (rright_spec G k 3 d n m a imm) rfl rfl
  have r2 : ∀ H, pureCall (alembicref17_partsOf.f G (k + 5)) [.int .i64 3] H = _ := fun H => pureCall_of (H := H) (parts_spec G (k + 1) 3) rfl rfl
  have r3 : ∀ H, pureCall (alembicref17_base.f G (k + 5)) [.int .i64 3] H = _ := fun H => pureCall_of (H := H) (rbase_spec G (k + 4) 3 (by decide)) rfl rfl
  rw [h] at r1
  unfold rightB at h
  rw [Bool.and_eq_true] at h
  obtain ⟨_, h⟩ := h
  simp [formF, fairB, regB, extraB, immB, halfI, stackB] at h
  have c1 : convInt .u32 (I6 d) = some (W32 d) := q_cv32 (by omega) (by omega)
  have c2 : convInt .u32 (I6 n) = some (W32 n) := q_cv32 (by omega) (by omega)
  have c3 : convInt .u32 (I6 m) = some (W32 m) := q_cv32 (by omega) (by omega)
  have s1 := shl_p Tryd.prog 71 true (v := n) (p := 32) (b := 5) 5 rfl (by decide) rfl (by omega) (by omega)
  have s2 := shl_p Tryd.prog 71 true (v := m) (p := 65536) (b := 16) 16 rfl (by decide) rfl (by omega) (by omega)
  have o1 := or_f0 Tryd.prog 71 false (x := 2332033024) (v := d) (q := 32) 5 rfl (by omega) (by omega) (by omega) (by omega) (by omega)
  have o2 := or_fd Tryd.prog 71 false (x := 2332033024 + d) (v := n) (p := 32) (q := 32) 5 5 rfl rfl (by omega) (by omega) (by omega) (by omega) (by omega)
  have o3 := or_fd Tryd.prog 71 false (x := 2332033024 + d + n * 32) (v := m) (p := 65536) (q := 32) 16 5 rfl rfl (by omega) (by omega) (by omega) (by omega) (by omega)
  have ew : wordF ⟨3, d, n, m, a, imm⟩ = 2332033024 + d + n * 32 + m * 65536 + 0 := rfl
  rw [ew]
  simp only [partsV, formF, Int.reduceEq, if_true, if_false, ↓reduceIte] at r2 r3
  clear ew
  rw [alembicref17_Word.step]
  unfold alembicref17_Word.c
  refine e_in ?_
  have fx := And.intro r1 <| And.intro r2 <| And.intro r3 <| And.intro c1 <| And.intro c2 <| And.intro c3 <| And.intro s1 <| And.intro s2 <| And.intro o1 <| And.intro o2 <| o3
  refine wkA ?_
  all_goals first | exact w2b rfl rfl | (refine w2b ?_ rfl; omega)
theorem rword_4 (G : Globs) (k : Nat) (d n m a imm : Int) (h : rightB ⟨4, d, n, m, a, imm⟩ = true) : alembicref17_Word.f G (k + 6) [mV 4 d n m a imm] [] = some (.tup [W32 (wordF ⟨4, d, n, m, a, imm⟩), .bool true], []) := by
  have r1 : ∀ H, pureCall (alembicref17_right.f G (k + 5)) [mV 4 d n m a imm] H = _ := fun H => pureCall_of (H := H) (rright_spec G k 4 d n m a imm) rfl rfl
  have r2 : ∀ H, pureCall (alembicref17_partsOf.f G (k + 5)) [.int .i64 4] H = _ := fun H => pureCall_of (H := H) (parts_spec G (k + 1) 4) rfl rfl
  have r3 : ∀ H, pureCall (alembicref17_base.f G (k + 5)) [.int .i64 4] H = _ := fun H => pureCall_of (H := H) (rbase_spec G (k + 4) 4 (by decide)) rfl rfl
  rw [h] at r1
  unfold rightB at h
  rw [Bool.and_eq_true] at h
  obtain ⟨_, h⟩ := h
  simp [formF, fairB, regB, extraB, immB, halfI, stackB] at h
  have c1 : convInt .u32 (I6 d) = some (W32 d) := q_cv32 (by omega) (by omega)
  have c2 : convInt .u32 (I6 n) = some (W32 n) := q_cv32 (by omega) (by omega)
  have c3 : convInt .u32 (I6 m) = some (W32 m) := q_cv32 (by omega) (by omega)
  have s1 := shl_p Tryd.prog 71 true (v := n) (p := 32) (b := 5) 5 rfl (by decide) rfl (by omega) (by omega)
  have s2 := shl_p Tryd.prog 71 true (v := m) (p := 65536) (b := 16) 16 rfl (by decide) rfl (by omega) (by omega)
  have o1 := or_f0 Tryd.prog 71 false (x := 3405774848) (v := d) (q := 32) 5 rfl (by omega) (by omega) (by omega) (by omega) (by omega)
  have o2 := or_fd Tryd.prog 71 false (x := 3405774848 + d) (v := n) (p := 32) (q := 32) 5 5 rfl rfl (by omega) (by omega) (by omega) (by omega) (by omega)
  have o3 := or_fd Tryd.prog 71 false (x := 3405774848 + d + n * 32) (v := m) (p := 65536) (q := 32) 16 5 rfl rfl (by omega) (by omega) (by omega) (by omega) (by omega)
  have ew : wordF ⟨4, d, n, m, a, imm⟩ = 3405774848 + d + n * 32 + m * 65536 + 0 := rfl
  rw [ew]
  simp only [partsV, formF, Int.reduceEq, if_true, if_false, ↓reduceIte] at r2 r3
  clear ew
  rw [alembicref17_Word.step]
  unfold alembicref17_Word.c
  refine e_in ?_
  have fx := And.intro r1 <| And.intro r2 <| And.intro r3 <| And.intro c1 <| And.intro c2 <| And.intro c3 <| And.intro s1 <| And.intro s2 <| And.intro o1 <| And.intro o2 <| o3
  refine wkA ?_
  all_goals first | exact w2b rfl rfl | (refine w2b ?_ rfl; omega)
theorem rword_5 (G : Globs) (k : Nat) (d n m a imm : Int) (h : rightB ⟨5, d, n, m, a, imm⟩ = true) : alembicref17_Word.f G (k + 6) [mV 5 d n m a imm] [] = some (.tup [W32 (wordF ⟨5, d, n, m, a, imm⟩), .bool true], []) := by
  have r1 : ∀ H, pureCall (alembicref17_right.f G (k + 5)) [mV 5 d n m a imm] H = _ := fun H => pureCall_of (H := H) (rright_spec G k 5 d n m a imm) rfl rfl
  have r2 : ∀ H, pureCall (alembicref17_partsOf.f G (k + 5)) [.int .i64 5] H = _ := fun H => pureCall_of (H := H) (parts_spec G (k + 1) 5) rfl rfl
  have r3 : ∀ H, pureCall (alembicref17_base.f G (k + 5)) [.int .i64 5] H = _ := fun H => pureCall_of (H := H) (rbase_spec G (k + 4) 5 (by decide)) rfl rfl
  rw [h] at r1
  unfold rightB at h
  rw [Bool.and_eq_true] at h
  obtain ⟨_, h⟩ := h
  simp [formF, fairB, regB, extraB, immB, halfI, stackB] at h
  have c1 : convInt .u32 (I6 d) = some (W32 d) := q_cv32 (by omega) (by omega)
  have c2 : convInt .u32 (I6 n) = some (W32 n) := q_cv32 (by omega) (by omega)
  have c3 : convInt .u32 (I6 m) = some (W32 m) := q_cv32 (by omega) (by omega)
  have s1 := shl_p Tryd.prog 71 true (v := n) (p := 32) (b := 5) 5 rfl (by decide) rfl (by omega) (by omega)
  have s2 := shl_p Tryd.prog 71 true (v := m) (p := 65536) (b := 16) 16 rfl (by decide) rfl (by omega) (by omega)
  have o1 := or_f0 Tryd.prog 71 false (x := 2315255808) (v := d) (q := 32) 5 rfl (by omega) (by omega) (by omega) (by omega) (by omega)
  have o2 := or_fd Tryd.prog 71 false (x := 2315255808 + d) (v := n) (p := 32) (q := 32) 5 5 rfl rfl (by omega) (by omega) (by omega) (by omega) (by omega)
  have o3 := or_fd Tryd.prog 71 false (x := 2315255808 + d + n * 32) (v := m) (p := 65536) (q := 32) 16 5 rfl rfl (by omega) (by omega) (by omega) (by omega) (by omega)
  have ew : wordF ⟨5, d, n, m, a, imm⟩ = 2315255808 + d + n * 32 + m * 65536 + 0 := rfl
  rw [ew]
  simp only [partsV, formF, Int.reduceEq, if_true, if_false, ↓reduceIte] at r2 r3
  clear ew
  rw [alembicref17_Word.step]
  unfold alembicref17_Word.c
  refine e_in ?_
  have fx := And.intro r1 <| And.intro r2 <| And.intro r3 <| And.intro c1 <| And.intro c2 <| And.intro c3 <| And.intro s1 <| And.intro s2 <| And.intro o1 <| And.intro o2 <| o3
  refine wkA ?_
  all_goals first | exact w2b rfl rfl | (refine w2b ?_ rfl; omega)
theorem rword_6 (G : Globs) (k : Nat) (d n m a imm : Int) (h : rightB ⟨6, d, n, m, a, imm⟩ = true) : alembicref17_Word.f G (k + 6) [mV 6 d n m a imm] [] = some (.tup [W32 (wordF ⟨6, d, n, m, a, imm⟩), .bool true], []) := by
  have r1 : ∀ H, pureCall (alembicref17_right.f G (k + 5)) [mV 6 d n m a imm] H = _ := fun H => pureCall_of (H := H) (rright_spec G k 6 d n m a imm) rfl rfl
  have r2 : ∀ H, pureCall (alembicref17_partsOf.f G (k + 5)) [.int .i64 6] H = _ := fun H => pureCall_of (H := H) (parts_spec G (k + 1) 6) rfl rfl
  have r3 : ∀ H, pureCall (alembicref17_base.f G (k + 5)) [.int .i64 6] H = _ := fun H => pureCall_of (H := H) (rbase_spec G (k + 4) 6 (by decide)) rfl rfl
  rw [h] at r1
  unfold rightB at h
  rw [Bool.and_eq_true] at h
  obtain ⟨_, h⟩ := h
  simp [formF, fairB, regB, extraB, immB, halfI, stackB] at h
  have c1 : convInt .u32 (I6 d) = some (W32 d) := q_cv32 (by omega) (by omega)
  have c2 : convInt .u32 (I6 n) = some (W32 n) := q_cv32 (by omega) (by omega)
  have c3 : convInt .u32 (I6 m) = some (W32 m) := q_cv32 (by omega) (by omega)
  have s1 := shl_p Tryd.prog 71 true (v := n) (p := 32) (b := 5) 5 rfl (by decide) rfl (by omega) (by omega)
  have s2 := shl_p Tryd.prog 71 true (v := m) (p := 65536) (b := 16) 16 rfl (by decide) rfl (by omega) (by omega)
  have o1 := or_f0 Tryd.prog 71 false (x := 2852126720) (v := d) (q := 32) 5 rfl (by omega) (by omega) (by omega) (by omega) (by omega)
  have o2 := or_fd Tryd.prog 71 false (x := 2852126720 + d) (v := n) (p := 32) (q := 32) 5 5 rfl rfl (by omega) (by omega) (by omega) (by omega) (by omega)
  have o3 := or_fd Tryd.prog 71 false (x := 2852126720 + d + n * 32) (v := m) (p := 65536) (q := 32) 16 5 rfl rfl (by omega) (by omega) (by omega) (by omega) (by omega)
  have ew : wordF ⟨6, d, n, m, a, imm⟩ = 2852126720 + d + n * 32 + m * 65536 + 0 := rfl
  rw [ew]
  simp only [partsV, formF, Int.reduceEq, if_true, if_false, ↓reduceIte] at r2 r3
  clear ew
  rw [alembicref17_Word.step]
  unfold alembicref17_Word.c
  refine e_in ?_
  have fx := And.intro r1 <| And.intro r2 <| And.intro r3 <| And.intro c1 <| And.intro c2 <| And.intro c3 <| And.intro s1 <| And.intro s2 <| And.intro o1 <| And.intro o2 <| o3
  refine wkA ?_
  all_goals first | exact w2b rfl rfl | (refine w2b ?_ rfl; omega)
theorem rword_7 (G : Globs) (k : Nat) (d n m a imm : Int) (h : rightB ⟨7, d, n, m, a, imm⟩ = true) : alembicref17_Word.f G (k + 6) [mV 7 d n m a imm] [] = some (.tup [W32 (wordF ⟨7, d, n, m, a, imm⟩), .bool true], []) := by
  have r1 : ∀ H, pureCall (alembicref17_right.f G (k + 5)) [mV 7 d n m a imm] H = _ := fun H => pureCall_of (H := H) (rright_spec G k 7 d n m a imm) rfl rfl
  have r2 : ∀ H, pureCall (alembicref17_partsOf.f G (k + 5)) [.int .i64 7] H = _ := fun H => pureCall_of (H := H) (parts_spec G (k + 1) 7) rfl rfl
  have r3 : ∀ H, pureCall (alembicref17_base.f G (k + 5)) [.int .i64 7] H = _ := fun H => pureCall_of (H := H) (rbase_spec G (k + 4) 7 (by decide)) rfl rfl
  rw [h] at r1
  unfold rightB at h
  rw [Bool.and_eq_true] at h
  obtain ⟨_, h⟩ := h
  simp [formF, fairB, regB, extraB, immB, halfI, stackB] at h
  have c1 : convInt .u32 (I6 d) = some (W32 d) := q_cv32 (by omega) (by omega)
  have c2 : convInt .u32 (I6 n) = some (W32 n) := q_cv32 (by omega) (by omega)
  have c3 : convInt .u32 (I6 m) = some (W32 m) := q_cv32 (by omega) (by omega)
  have s1 := shl_p Tryd.prog 71 true (v := n) (p := 32) (b := 5) 5 rfl (by decide) rfl (by omega) (by omega)
  have s2 := shl_p Tryd.prog 71 true (v := m) (p := 65536) (b := 16) 16 rfl (by decide) rfl (by omega) (by omega)
  have o1 := or_f0 Tryd.prog 71 false (x := 3388997632) (v := d) (q := 32) 5 rfl (by omega) (by omega) (by omega) (by omega) (by omega)
  have o2 := or_fd Tryd.prog 71 false (x := 3388997632 + d) (v := n) (p := 32) (q := 32) 5 5 rfl rfl (by omega) (by omega) (by omega) (by omega) (by omega)
  have o3 := or_fd Tryd.prog 71 false (x := 3388997632 + d + n * 32) (v := m) (p := 65536) (q := 32) 16 5 rfl rfl (by omega) (by omega) (by omega) (by omega) (by omega)
  have ew : wordF ⟨7, d, n, m, a, imm⟩ = 3388997632 + d + n * 32 + m * 65536 + 0 := rfl
  rw [ew]
  simp only [partsV, formF, Int.reduceEq, if_true, if_false, ↓reduceIte] at r2 r3
  clear ew
  rw [alembicref17_Word.step]
  unfold alembicref17_Word.c
  refine e_in ?_
  have fx := And.intro r1 <| And.intro r2 <| And.intro r3 <| And.intro c1 <| And.intro c2 <| And.intro c3 <| And.intro s1 <| And.intro s2 <| And.intro o1 <| And.intro o2 <| o3
  refine wkA ?_
  all_goals first | exact w2b rfl rfl | (refine w2b ?_ rfl; omega)
theorem rword_8 (G : Globs) (k : Nat) (d n m a imm : Int) (h : rightB ⟨8, d, n, m, a, imm⟩ = true) : alembicref17_Word.f G (k + 6) [mV 8 d n m a imm] [] = some (.tup [W32 (wordF ⟨8, d, n, m, a, imm⟩), .bool true], []) := by
  have r1 : ∀ H, pureCall (alembicref17_right.f G (k + 5)) [mV 8 d n m a imm] H = _ := fun H => pureCall_of (H := H) (rright_spec G k 8 d n m a imm) rfl rfl
  have r2 : ∀ H, pureCall (alembicref17_partsOf.f G (k + 5)) [.int .i64 8] H = _ := fun H => pureCall_of (H := H) (parts_spec G (k + 1) 8) rfl rfl
  have r3 : ∀ H, pureCall (alembicref17_base.f G (k + 5)) [.int .i64 8] H = _ := fun H => pureCall_of (H := H) (rbase_spec G (k + 4) 8 (by decide)) rfl rfl
  rw [h] at r1
  unfold rightB at h
  rw [Bool.and_eq_true] at h
  obtain ⟨_, h⟩ := h
  simp [formF, fairB, regB, extraB, immB, halfI, stackB] at h
  have c1 : convInt .u32 (I6 d) = some (W32 d) := q_cv32 (by omega) (by omega)
  have c2 : convInt .u32 (I6 n) = some (W32 n) := q_cv32 (by omega) (by omega)
  have c3 : convInt .u32 (I6 m) = some (W32 m) := q_cv32 (by omega) (by omega)
  have s1 := shl_p Tryd.prog 71 true (v := n) (p := 32) (b := 5) 5 rfl (by decide) rfl (by omega) (by omega)
  have s2 := shl_p Tryd.prog 71 true (v := m) (p := 65536) (b := 16) 16 rfl (by decide) rfl (by omega) (by omega)
  have o1 := or_f0 Tryd.prog 71 false (x := 2600468480) (v := d) (q := 32) 5 rfl (by omega) (by omega) (by omega) (by omega) (by omega)
  have o2 := or_fd Tryd.prog 71 false (x := 2600468480 + d) (v := n) (p := 32) (q := 32) 5 5 rfl rfl (by omega) (by omega) (by omega) (by omega) (by omega)
  have o3 := or_fd Tryd.prog 71 false (x := 2600468480 + d + n * 32) (v := m) (p := 65536) (q := 32) 16 5 rfl rfl (by omega) (by omega) (by omega) (by omega) (by omega)
  have t1 := shl_p Tryd.prog 71 true (v := a) (p := 1024) (b := 10) 10 rfl (by decide) rfl (by omega) (by omega)
  have t2 := or_fd Tryd.prog 71 false (x := 2600468480 + d + n * 32 + m * 65536) (v := a) (p := 1024) (q := 32) 10 5 rfl rfl (by omega) (by omega) (by omega) (by omega) (by omega)
  have ew : wordF ⟨8, d, n, m, a, imm⟩ = 2600468480 + d + n * 32 + m * 65536 + a * 1024 := rfl
  rw [ew]
  simp only [partsV, formF, Int.reduceEq, if_true, if_false, ↓reduceIte] at r2 r3
  clear ew
  rw [alembicref17_Word.step]
  unfold alembicref17_Word.c
  refine e_in ?_
  have fx := And.intro r1 <| And.intro r2 <| And.intro r3 <| And.intro c1 <| And.intro c2 <| And.intro c3 <| And.intro s1 <| And.intro s2 <| And.intro o1 <| And.intro o2 <| And.intro o3 <| And.intro t1 <| t2
  refine wkA ?_
  all_goals first | exact w2b rfl rfl | (refine w2b ?_ rfl; omega)
theorem rword_9 (G : Globs) (k : Nat) (d n m a imm : Int) (h : rightB ⟨9, d, n, m, a, imm⟩ = true) : alembicref17_Word.f G (k + 6) [mV 9 d n m a imm] [] = some (.tup [W32 (wordF ⟨9, d, n, m, a, imm⟩), .bool true], []) := by
  have r1 : ∀ H, pureCall (alembicref17_right.f G (k + 5)) [mV 9 d n m a imm] H = _ := fun H => pureCall_of (H := H) (rright_spec G k 9 d n m a imm) rfl rfl
  have r2 : ∀ H, pureCall (alembicref17_partsOf.f G (k + 5)) [.int .i64 9] H = _ := fun H => pureCall_of (H := H) (parts_spec G (k + 1) 9) rfl rfl
  have r3 : ∀ H, pureCall (alembicref17_base.f G (k + 5)) [.int .i64 9] H = _ := fun H => pureCall_of (H := H) (rbase_spec G (k + 4) 9 (by decide)) rfl rfl
  rw [h] at r1
  unfold rightB at h
  rw [Bool.and_eq_true] at h
  obtain ⟨_, h⟩ := h
  simp [formF, fairB, regB, extraB, immB, halfI, stackB] at h
  have c1 : convInt .u32 (I6 d) = some (W32 d) := q_cv32 (by omega) (by omega)
  have c2 : convInt .u32 (I6 n) = some (W32 n) := q_cv32 (by omega) (by omega)
  have c3 : convInt .u32 (I6 m) = some (W32 m) := q_cv32 (by omega) (by omega)
  have s1 := shl_p Tryd.prog 71 true (v := n) (p := 32) (b := 5) 5 rfl (by decide) rfl (by omega) (by omega)
  have s2 := shl_p Tryd.prog 71 true (v := m) (p := 65536) (b := 16) 16 rfl (by decide) rfl (by omega) (by omega)
  have o1 := or_f0 Tryd.prog 71 false (x := 2613083136) (v := d) (q := 32) 5 rfl (by omega) (by omega) (by omega) (by omega) (by omega)
  have o2 := or_fd Tryd.prog 71 false (x := 2613083136 + d) (v := n) (p := 32) (q := 32) 5 5 rfl rfl (by omega) (by omega) (by omega) (by omega) (by omega)
  have o3 := or_fd Tryd.prog 71 false (x := 2613083136 + d + n * 32) (v := m) (p := 65536) (q := 32) 16 5 rfl rfl (by omega) (by omega) (by omega) (by omega) (by omega)
  have ew : wordF ⟨9, d, n, m, a, imm⟩ = 2613083136 + d + n * 32 + m * 65536 + 0 := rfl
  rw [ew]
  simp only [partsV, formF, Int.reduceEq, if_true, if_false, ↓reduceIte] at r2 r3
  clear ew
  rw [alembicref17_Word.step]
  unfold alembicref17_Word.c
  refine e_in ?_
  have fx := And.intro r1 <| And.intro r2 <| And.intro r3 <| And.intro c1 <| And.intro c2 <| And.intro c3 <| And.intro s1 <| And.intro s2 <| And.intro o1 <| And.intro o2 <| o3
  refine wkA ?_
  all_goals first | exact w2b rfl rfl | (refine w2b ?_ rfl; omega)
theorem rword_10 (G : Globs) (k : Nat) (d n m a imm : Int) (h : rightB ⟨10, d, n, m, a, imm⟩ = true) : alembicref17_Word.f G (k + 6) [mV 10 d n m a imm] [] = some (.tup [W32 (wordF ⟨10, d, n, m, a, imm⟩), .bool true], []) := by
  have r1 : ∀ H, pureCall (alembicref17_right.f G (k + 5)) [mV 10 d n m a imm] H = _ := fun H => pureCall_of (H := H) (rright_spec G k 10 d n m a imm) rfl rfl
  have r2 : ∀ H, pureCall (alembicref17_partsOf.f G (k + 5)) [.int .i64 10] H = _ := fun H => pureCall_of (H := H) (parts_spec G (k + 1) 10) rfl rfl
  have r3 : ∀ H, pureCall (alembicref17_base.f G (k + 5)) [.int .i64 10] H = _ := fun H => pureCall_of (H := H) (rbase_spec G (k + 4) 10 (by decide)) rfl rfl
  rw [h] at r1
  unfold rightB at h
  rw [Bool.and_eq_true] at h
  obtain ⟨_, h⟩ := h
  simp [formF, fairB, regB, extraB, immB, halfI, stackB] at h
  have c1 : convInt .u32 (I6 d) = some (W32 d) := q_cv32 (by omega) (by omega)
  have c2 : convInt .u32 (I6 n) = some (W32 n) := q_cv32 (by omega) (by omega)
  have c3 : convInt .u32 (I6 m) = some (W32 m) := q_cv32 (by omega) (by omega)
  have s1 := shl_p Tryd.prog 71 true (v := n) (p := 32) (b := 5) 5 rfl (by decide) rfl (by omega) (by omega)
  have s2 := shl_p Tryd.prog 71 true (v := m) (p := 65536) (b := 16) 16 rfl (by decide) rfl (by omega) (by omega)
  have o1 := or_f0 Tryd.prog 71 false (x := 2432696320) (v := d) (q := 32) 5 rfl (by omega) (by omega) (by omega) (by omega) (by omega)
  have o2 := or_fd Tryd.prog 71 false (x := 2432696320 + d) (v := n) (p := 32) (q := 32) 5 5 rfl rfl (by omega) (by omega) (by omega) (by omega) (by omega)
  have o3 := or_fd Tryd.prog 71 false (x := 2432696320 + d + n * 32) (v := m) (p := 65536) (q := 1) 16 0 rfl rfl (by omega) (by omega) (by omega) (by omega) (by omega)
  have t1 := shl_p Tryd.prog 71 true (v := imm) (p := 1024) (b := 10) 10 rfl (by decide) rfl (by omega) (by omega)
  have t2 := or_fd Tryd.prog 71 false (x := 2432696320 + d + n * 32 + m * 65536) (v := imm) (p := 1024) (q := 4096) 10 12 rfl rfl (by omega) (by omega) (by omega) (by omega) (by omega)
  have ew : wordF ⟨10, d, n, m, a, imm⟩ = 2432696320 + d + n * 32 + m * 65536 + imm * 1024 := rfl
  rw [ew]
  simp only [partsV, formF, Int.reduceEq, if_true, if_false, ↓reduceIte] at r2 r3
  clear ew
  rw [alembicref17_Word.step]
  unfold alembicref17_Word.c
  refine e_in ?_
  have fx := And.intro r1 <| And.intro r2 <| And.intro r3 <| And.intro c1 <| And.intro c2 <| And.intro c3 <| And.intro s1 <| And.intro s2 <| And.intro o1 <| And.intro o2 <| And.intro o3 <| And.intro t1 <| t2
  refine wkA ?_
  all_goals first | exact w2b rfl rfl | (refine w2b ?_ rfl; omega)
theorem rword_11 (G : Globs) (k : Nat) (d n m a imm : Int) (h : rightB ⟨11, d, n, m, a, imm⟩ = true) : alembicref17_Word.f G (k + 6) [mV 11 d n m a imm] [] = some (.tup [W32 (wordF ⟨11, d, n, m, a, imm⟩), .bool true], []) := by
  have r1 : ∀ H, pureCall (alembicref17_right.f G (k + 5)) [mV 11 d n m a imm] H = _ := fun H => pureCall_of (H := H) (rright_spec G k 11 d n m a imm) rfl rfl
  have r2 : ∀ H, pureCall (alembicref17_partsOf.f G (k + 5)) [.int .i64 11] H = _ := fun H => pureCall_of (H := H) (parts_spec G (k + 1) 11) rfl rfl
  have r3 : ∀ H, pureCall (alembicref17_base.f G (k + 5)) [.int .i64 11] H = _ := fun H => pureCall_of (H := H) (rbase_spec G (k + 4) 11 (by decide)) rfl rfl
  rw [h] at r1
  unfold rightB at h
  rw [Bool.and_eq_true] at h
  obtain ⟨_, h⟩ := h
  simp [formF, fairB, regB, extraB, immB, halfI, stackB] at h
  have c1 : convInt .u32 (I6 d) = some (W32 d) := q_cv32 (by omega) (by omega)
  have c2 : convInt .u32 (I6 n) = some (W32 n) := q_cv32 (by omega) (by omega)
  have c3 : convInt .u32 (I6 m) = some (W32 m) := q_cv32 (by omega) (by omega)
  have s1 := shl_p Tryd.prog 71 true (v := n) (p := 32) (b := 5) 5 rfl (by decide) rfl (by omega) (by omega)
  have s2 := shl_p Tryd.prog 71 true (v := m) (p := 65536) (b := 16) 16 rfl (by decide) rfl (by omega) (by omega)
  have o1 := or_f0 Tryd.prog 71 false (x := 3506438144) (v := d) (q := 32) 5 rfl (by omega) (by omega) (by omega) (by omega) (by omega)
  have o2 := or_fd Tryd.prog 71 false (x := 3506438144 + d) (v := n) (p := 32) (q := 32) 5 5 rfl rfl (by omega) (by omega) (by omega) (by omega) (by omega)
  have o3 := or_fd Tryd.prog 71 false (x := 3506438144 + d + n * 32) (v := m) (p := 65536) (q := 1) 16 0 rfl rfl (by omega) (by omega) (by omega) (by omega) (by omega)
  have t1 := shl_p Tryd.prog 71 true (v := imm) (p := 1024) (b := 10) 10 rfl (by decide) rfl (by omega) (by omega)
  have t2 := or_fd Tryd.prog 71 false (x := 3506438144 + d + n * 32 + m * 65536) (v := imm) (p := 1024) (q := 4096) 10 12 rfl rfl (by omega) (by omega) (by omega) (by omega) (by omega)
  have ew : wordF ⟨11, d, n, m, a, imm⟩ = 3506438144 + d + n * 32 + m * 65536 + imm * 1024 := rfl
  rw [ew]
  simp only [partsV, formF, Int.reduceEq, if_true, if_false, ↓reduceIte] at r2 r3
  clear ew
  rw [alembicref17_Word.step]
  unfold alembicref17_Word.c
  refine e_in ?_
  have fx := And.intro r1 <| And.intro r2 <| And.intro r3 <| And.intro c1 <| And.intro c2 <| And.intro c3 <| And.intro s1 <| And.intro s2 <| And.intro o1 <| And.intro o2 <| And.intro o3 <| And.intro t1 <| t2
  refine wkA ?_
  all_goals first | exact w2b rfl rfl | (refine w2b ?_ rfl; omega)
theorem rword_12 (G : Globs) (k : Nat) (d n m a imm : Int) (h : rightB ⟨12, d, n, m, a, imm⟩ = true) : alembicref17_Word.f G (k + 6) [mV 12 d n m a imm] [] = some (.tup [W32 (wordF ⟨12, d, n, m, a, imm⟩), .bool true], []) := by
  have r1 : ∀ H, pureCall (alembicref17_right.f G (k + 5)) [mV 12 d n m a imm] H = _ := fun H => pureCall_of (H := H) (rright_spec G k 12 d n m a imm) rfl rfl
  have r2 : ∀ H, pureCall (alembicref17_partsOf.f G (k + 5)) [.int .i64 12] H = _ := fun H => pureCall_of (H := H) (parts_spec G (k + 1) 12) rfl rfl
  have r3 : ∀ H, pureCall (alembicref17_base.f G (k + 5)) [.int .i64 12] H = _ := fun H => pureCall_of (H := H) (rbase_spec G (k + 4) 12 (by decide)) rfl rfl
  rw [h] at r1
  unfold rightB at h
  rw [Bool.and_eq_true] at h
  obtain ⟨_, h⟩ := h
  simp [formF, fairB, regB, extraB, immB, halfI, stackB] at h
  have c1 : convInt .u32 (I6 d) = some (W32 d) := q_cv32 (by omega) (by omega)
  have c2 : convInt .u32 (I6 n) = some (W32 n) := q_cv32 (by omega) (by omega)
  have c3 : convInt .u32 (I6 m) = some (W32 m) := q_cv32 (by omega) (by omega)
  have s1 := shl_p Tryd.prog 71 true (v := n) (p := 32) (b := 5) 5 rfl (by decide) rfl (by omega) (by omega)
  have s2 := shl_p Tryd.prog 71 true (v := m) (p := 65536) (b := 16) 16 rfl (by decide) rfl (by omega) (by omega)
  have o1 := or_f0 Tryd.prog 71 false (x := 3544186880) (v := d) (q := 32) 5 rfl (by omega) (by omega) (by omega) (by omega) (by omega)
  have o2 := or_fd Tryd.prog 71 false (x := 3544186880 + d) (v := n) (p := 32) (q := 32) 5 5 rfl rfl (by omega) (by omega) (by omega) (by omega) (by omega)
  have o3 := or_fd Tryd.prog 71 false (x := 3544186880 + d + n * 32) (v := m) (p := 65536) (q := 1) 16 0 rfl rfl (by omega) (by omega) (by omega) (by omega) (by omega)
  have t0 := sub32 Tryd.prog 71 true (a := 64) (b := imm) (by omega) (by omega) (by omega)
  have t1 := rem64 Tryd.prog 71 true (a := 64 - imm) (by omega)
  have t2 := shl_p Tryd.prog 71 true (v := ((64 - imm) % 64)) (p := 65536) (b := 16) 16 rfl (by decide) rfl (by omega) (by omega)
  have t3 := or_fd Tryd.prog 71 false (x := 3544186880 + d + n * 32 + m * 65536) (v := ((64 - imm) % 64)) (p := 65536) (q := 64) 16 6 rfl rfl (by omega) (by omega) (by omega) (by omega) (by omega)
  have t4 := sub32 Tryd.prog 71 true (a := 63) (b := imm) (by omega) (by omega) (by omega)
  have t5 := shl_p Tryd.prog 71 true (v := (63 - imm)) (p := 1024) (b := 10) 10 rfl (by decide) rfl (by omega) (by omega)
  have t6 := or_fd Tryd.prog 71 false (x := 3544186880 + d + n * 32 + m * 65536 + (64 - imm) % 64 * 65536) (v := (63 - imm)) (p := 1024) (q := 64) 10 6 rfl rfl (by omega) (by omega) (by omega) (by omega) (by omega)
  have ew : wordF ⟨12, d, n, m, a, imm⟩ = 3544186880 + d + n * 32 + m * 65536 + ((64 - imm) % 64 * 65536 + (63 - imm) * 1024) := rfl
  rw [ew]
  simp only [partsV, formF, Int.reduceEq, if_true, if_false, ↓reduceIte] at r2 r3
  clear ew
  rw [alembicref17_Word.step]
  unfold alembicref17_Word.c
  refine e_in ?_
  have fx := And.intro r1 <| And.intro r2 <| And.intro r3 <| And.intro c1 <| And.intro c2 <| And.intro c3 <| And.intro s1 <| And.intro s2 <| And.intro o1 <| And.intro o2 <| And.intro o3 <| And.intro t0 <| And.intro t1 <| And.intro t2 <| And.intro t3 <| And.intro t4 <| And.intro t5 <| t6
  refine wkA ?_
  all_goals first | exact w2b rfl rfl | (refine w2b ?_ rfl; omega)
theorem rword_13 (G : Globs) (k : Nat) (d n m a imm : Int) (h : rightB ⟨13, d, n, m, a, imm⟩ = true) : alembicref17_Word.f G (k + 6) [mV 13 d n m a imm] [] = some (.tup [W32 (wordF ⟨13, d, n, m, a, imm⟩), .bool true], []) := by
  have r1 : ∀ H, pureCall (alembicref17_right.f G (k + 5)) [mV 13 d n m a imm] H = _ := fun H => pureCall_of (H := H) (rright_spec G k 13 d n m a imm) rfl rfl
  have r2 : ∀ H, pureCall (alembicref17_partsOf.f G (k + 5)) [.int .i64 13] H = _ := fun H => pureCall_of (H := H) (parts_spec G (k + 1) 13) rfl rfl
  have r3 : ∀ H, pureCall (alembicref17_base.f G (k + 5)) [.int .i64 13] H = _ := fun H => pureCall_of (H := H) (rbase_spec G (k + 4) 13 (by decide)) rfl rfl
  rw [h] at r1
  unfold rightB at h
  rw [Bool.and_eq_true] at h
  obtain ⟨_, h⟩ := h
  simp [formF, fairB, regB, extraB, immB, halfI, stackB] at h
  have c1 : convInt .u32 (I6 d) = some (W32 d) := q_cv32 (by omega) (by omega)
  have c2 : convInt .u32 (I6 n) = some (W32 n) := q_cv32 (by omega) (by omega)
  have c3 : convInt .u32 (I6 m) = some (W32 m) := q_cv32 (by omega) (by omega)
  have s1 := shl_p Tryd.prog 71 true (v := n) (p := 32) (b := 5) 5 rfl (by decide) rfl (by omega) (by omega)
  have s2 := shl_p Tryd.prog 71 true (v := m) (p := 65536) (b := 16) 16 rfl (by decide) rfl (by omega) (by omega)
  have o1 := or_f0 Tryd.prog 71 false (x := 3544186880) (v := d) (q := 32) 5 rfl (by omega) (by omega) (by omega) (by omega) (by omega)
  have o2 := or_fd Tryd.prog 71 false (x := 3544186880 + d) (v := n) (p := 32) (q := 32) 5 5 rfl rfl (by omega) (by omega) (by omega) (by omega) (by omega)
  have o3 := or_fd Tryd.prog 71 false (x := 3544186880 + d + n * 32) (v := m) (p := 65536) (q := 1) 16 0 rfl rfl (by omega) (by omega) (by omega) (by omega) (by omega)
  have t1 := shl_p Tryd.prog 71 true (v := imm) (p := 65536) (b := 16) 16 rfl (by decide) rfl (by omega) (by omega)
  have t2 := or_fd Tryd.prog 71 false (x := 3544186880 + d + n * 32 + m * 65536) (v := imm) (p := 65536) (q := 64) 16 6 rfl rfl (by omega) (by omega) (by omega) (by omega) (by omega)
  have t3 : bin Tryd.prog .or 71 true (W32 (3544186880 + d + n * 32 + m * 65536 + imm * 65536)) (.int .u32 64512) = some (W32 (3544186880 + d + n * 32 + m * 65536 + imm * 65536 + 64512)) := or_fd Tryd.prog 71 true (x := 3544186880 + d + n * 32 + m * 65536 + imm * 65536) (v := 63) (p := 1024) (q := 64) 10 6 rfl rfl (by omega) (by omega) (by omega) (by omega) (by omega)
  have ew : wordF ⟨13, d, n, m, a, imm⟩ = 3544186880 + d + n * 32 + m * 65536 + (imm * 65536 + 64512) := rfl
  rw [ew]
  simp only [partsV, formF, Int.reduceEq, if_true, if_false, ↓reduceIte] at r2 r3
  clear ew
  rw [alembicref17_Word.step]
  unfold alembicref17_Word.c
  refine e_in ?_
  have fx := And.intro r1 <| And.intro r2 <| And.intro r3 <| And.intro c1 <| And.intro c2 <| And.intro c3 <| And.intro s1 <| And.intro s2 <| And.intro o1 <| And.intro o2 <| And.intro o3 <| And.intro t1 <| And.intro t2 <| t3
  refine wkA ?_
  all_goals first | exact w2b rfl rfl | (refine w2b ?_ rfl; omega)
theorem rword_14 (G : Globs) (k : Nat) (d n m a imm : Int) (h : rightB ⟨14, d, n, m, a, imm⟩ = true) : alembicref17_Word.f G (k + 6) [mV 14 d n m a imm] [] = some (.tup [W32 (wordF ⟨14, d, n, m, a, imm⟩), .bool true], []) := by
  have r1 : ∀ H, pureCall (alembicref17_right.f G (k + 5)) [mV 14 d n m a imm] H = _ := fun H => pureCall_of (H := H) (rright_spec G k 14 d n m a imm) rfl rfl
  have r2 : ∀ H, pureCall (alembicref17_partsOf.f G (k + 5)) [.int .i64 14] H = _ := fun H => pureCall_of (H := H) (parts_spec G (k + 1) 14) rfl rfl
  have r3 : ∀ H, pureCall (alembicref17_base.f G (k + 5)) [.int .i64 14] H = _ := fun H => pureCall_of (H := H) (rbase_spec G (k + 4) 14 (by decide)) rfl rfl
  rw [h] at r1
  unfold rightB at h
  rw [Bool.and_eq_true] at h
  obtain ⟨_, h⟩ := h
  simp [formF, fairB, regB, extraB, immB, halfI, stackB] at h
  have c1 : convInt .u32 (I6 d) = some (W32 d) := q_cv32 (by omega) (by omega)
  have c2 : convInt .u32 (I6 n) = some (W32 n) := q_cv32 (by omega) (by omega)
  have c3 : convInt .u32 (I6 m) = some (W32 m) := q_cv32 (by omega) (by omega)
  have s1 := shl_p Tryd.prog 71 true (v := n) (p := 32) (b := 5) 5 rfl (by decide) rfl (by omega) (by omega)
  have s2 := shl_p Tryd.prog 71 true (v := m) (p := 65536) (b := 16) 16 rfl (by decide) rfl (by omega) (by omega)
  have o1 := or_f0 Tryd.prog 71 false (x := 2470509568) (v := d) (q := 32) 5 rfl (by omega) (by omega) (by omega) (by omega) (by omega)
  have o2 := or_fd Tryd.prog 71 false (x := 2470509568 + d) (v := n) (p := 32) (q := 32) 5 5 rfl rfl (by omega) (by omega) (by omega) (by omega) (by omega)
  have o3 := or_fd Tryd.prog 71 false (x := 2470509568 + d + n * 32) (v := m) (p := 65536) (q := 1) 16 0 rfl rfl (by omega) (by omega) (by omega) (by omega) (by omega)
  have t1 := shl_p Tryd.prog 71 true (v := imm) (p := 65536) (b := 16) 16 rfl (by decide) rfl (by omega) (by omega)
  have t2 := or_fd Tryd.prog 71 false (x := 2470509568 + d + n * 32 + m * 65536) (v := imm) (p := 65536) (q := 64) 16 6 rfl rfl (by omega) (by omega) (by omega) (by omega) (by omega)
  have ew : wordF ⟨14, d, n, m, a, imm⟩ = 2470509568 + d + n * 32 + m * 65536 + imm * 65536 := rfl
  rw [ew]
  simp only [partsV, formF, Int.reduceEq, if_true, if_false, ↓reduceIte] at r2 r3
  clear ew
  rw [alembicref17_Word.step]
  unfold alembicref17_Word.c
  refine e_in ?_
  have fx := And.intro r1 <| And.intro r2 <| And.intro r3 <| And.intro c1 <| And.intro c2 <| And.intro c3 <| And.intro s1 <| And.intro s2 <| And.intro o1 <| And.intro o2 <| And.intro o3 <| And.intro t1 <| t2
  refine wkA ?_
  all_goals first | exact w2b rfl rfl | (refine w2b ?_ rfl; omega)
theorem rword_15 (G : Globs) (k : Nat) (d n m a imm : Int) (h : rightB ⟨15, d, n, m, a, imm⟩ = true) : alembicref17_Word.f G (k + 6) [mV 15 d n m a imm] [] = some (.tup [W32 (wordF ⟨15, d, n, m, a, imm⟩), .bool true], []) := by
  have r1 : ∀ H, pureCall (alembicref17_right.f G (k + 5)) [mV 15 d n m a imm] H = _ := fun H => pureCall_of (H := H) (rright_spec G k 15 d n m a imm) rfl rfl
  have r2 : ∀ H, pureCall (alembicref17_partsOf.f G (k + 5)) [.int .i64 15] H = _ := fun H => pureCall_of (H := H) (parts_spec G (k + 1) 15) rfl rfl
  have r3 : ∀ H, pureCall (alembicref17_base.f G (k + 5)) [.int .i64 15] H = _ := fun H => pureCall_of (H := H) (rbase_spec G (k + 4) 15 (by decide)) rfl rfl
  rw [h] at r1
  unfold rightB at h
  rw [Bool.and_eq_true] at h
  obtain ⟨_, h⟩ := h
  simp [formF, fairB, regB, extraB, immB, halfI, stackB] at h
  have c1 : convInt .u32 (I6 d) = some (W32 d) := q_cv32 (by omega) (by omega)
  have c2 : convInt .u32 (I6 n) = some (W32 n) := q_cv32 (by omega) (by omega)
  have c3 : convInt .u32 (I6 m) = some (W32 m) := q_cv32 (by omega) (by omega)
  have s1 := shl_p Tryd.prog 71 true (v := n) (p := 32) (b := 5) 5 rfl (by decide) rfl (by omega) (by omega)
  have s2 := shl_p Tryd.prog 71 true (v := m) (p := 65536) (b := 16) 16 rfl (by decide) rfl (by omega) (by omega)
  have o1 := or_f0 Tryd.prog 71 false (x := 3942645791) (v := d) (q := 1) 0 rfl (by omega) (by omega) (by omega) (by omega) (by omega)
  have o2 := or_fd Tryd.prog 71 false (x := 3942645791 + d) (v := n) (p := 32) (q := 32) 5 5 rfl rfl (by omega) (by omega) (by omega) (by omega) (by omega)
  have o3 := or_fd Tryd.prog 71 false (x := 3942645791 + d + n * 32) (v := m) (p := 65536) (q := 32) 16 5 rfl rfl (by omega) (by omega) (by omega) (by omega) (by omega)
  have ew : wordF ⟨15, d, n, m, a, imm⟩ = 3942645791 + d + n * 32 + m * 65536 + 0 := rfl
  rw [ew]
  simp only [partsV, formF, Int.reduceEq, if_true, if_false, ↓reduceIte] at r2 r3
  clear ew
  rw [alembicref17_Word.step]
  unfold alembicref17_Word.c
  refine e_in ?_
  have fx := And.intro r1 <| And.intro r2 <| And.intro r3 <| And.intro c1 <| And.intro c2 <| And.intro c3 <| And.intro s1 <| And.intro s2 <| And.intro o1 <| And.intro o2 <| o3
  refine wkA ?_
  all_goals first | exact w2b rfl rfl | (refine w2b ?_ rfl; omega)
theorem rword_16 (G : Globs) (k : Nat) (d n m a imm : Int) (h : rightB ⟨16, d, n, m, a, imm⟩ = true) : alembicref17_Word.f G (k + 6) [mV 16 d n m a imm] [] = some (.tup [W32 (wordF ⟨16, d, n, m, a, imm⟩), .bool true], []) := by
  have r1 : ∀ H, pureCall (alembicref17_right.f G (k + 5)) [mV 16 d n m a imm] H = _ := fun H => pureCall_of (H := H) (rright_spec G k 16 d n m a imm) rfl rfl
  have r2 : ∀ H, pureCall (alembicref17_partsOf.f G (k + 5)) [.int .i64 16] H = _ := fun H => pureCall_of (H := H) (parts_spec G (k + 1) 16) rfl rfl
  have r3 : ∀ H, pureCall (alembicref17_base.f G (k + 5)) [.int .i64 16] H = _ := fun H => pureCall_of (H := H) (rbase_spec G (k + 4) 16 (by decide)) rfl rfl
  rw [h] at r1
  unfold rightB at h
  rw [Bool.and_eq_true] at h
  obtain ⟨_, h⟩ := h
  simp [formF, fairB, regB, extraB, immB, halfI, stackB] at h
  have c1 : convInt .u32 (I6 d) = some (W32 d) := q_cv32 (by omega) (by omega)
  have c2 : convInt .u32 (I6 n) = some (W32 n) := q_cv32 (by omega) (by omega)
  have c3 : convInt .u32 (I6 m) = some (W32 m) := q_cv32 (by omega) (by omega)
  have s1 := shl_p Tryd.prog 71 true (v := n) (p := 32) (b := 5) 5 rfl (by decide) rfl (by omega) (by omega)
  have s2 := shl_p Tryd.prog 71 true (v := m) (p := 65536) (b := 16) 16 rfl (by decide) rfl (by omega) (by omega)
  have o1 := or_f0 Tryd.prog 71 false (x := 2592079872) (v := d) (q := 32) 5 rfl (by omega) (by omega) (by omega) (by omega) (by omega)
  have o2 := or_fd Tryd.prog 71 false (x := 2592079872 + d) (v := n) (p := 32) (q := 32) 5 5 rfl rfl (by omega) (by omega) (by omega) (by omega) (by omega)
  have o3 := or_fd Tryd.prog 71 false (x := 2592079872 + d + n * 32) (v := m) (p := 65536) (q := 32) 16 5 rfl rfl (by omega) (by omega) (by omega) (by omega) (by omega)
  have t1 := shl_p Tryd.prog 71 true (v := a) (p := 4096) (b := 12) 12 rfl (by decide) rfl (by omega) (by omega)
  have t2 := or_fd Tryd.prog 71 false (x := 2592079872 + d + n * 32 + m * 65536) (v := a) (p := 4096) (q := 16) 12 4 rfl rfl (by omega) (by omega) (by omega) (by omega) (by omega)
  have ew : wordF ⟨16, d, n, m, a, imm⟩ = 2592079872 + d + n * 32 + m * 65536 + a * 4096 := rfl
  rw [ew]
  simp only [partsV, formF, Int.reduceEq, if_true, if_false, ↓reduceIte] at r2 r3
  clear ew
  rw [alembicref17_Word.step]
  unfold alembicref17_Word.c
  refine e_in ?_
  have fx := And.intro r1 <| And.intro r2 <| And.intro r3 <| And.intro c1 <| And.intro c2 <| And.intro c3 <| And.intro s1 <| And.intro s2 <| And.intro o1 <| And.intro o2 <| And.intro o3 <| And.intro t1 <| t2
  refine wkA ?_
  all_goals first | exact w2b rfl rfl | (refine w2b ?_ rfl; omega)
theorem rword_17 (G : Globs) (k : Nat) (d n m a imm : Int) (h : rightB ⟨17, d, n, m, a, imm⟩ = true) : alembicref17_Word.f G (k + 6) [mV 17 d n m a imm] [] = some (.tup [W32 (wordF ⟨17, d, n, m, a, imm⟩), .bool true], []) := by
  have r1 : ∀ H, pureCall (alembicref17_right.f G (k + 5)) [mV 17 d n m a imm] H = _ := fun H => pureCall_of (H := H) (rright_spec G k 17 d n m a imm) rfl rfl
  have r2 : ∀ H, pureCall (alembicref17_partsOf.f G (k + 5)) [.int .i64 17] H = _ := fun H => pureCall_of (H := H) (parts_spec G (k + 1) 17) rfl rfl
  have r3 : ∀ H, pureCall (alembicref17_base.f G (k + 5)) [.int .i64 17] H = _ := fun H => pureCall_of (H := H) (rbase_spec G (k + 4) 17 (by decide)) rfl rfl
  rw [h] at r1
  unfold rightB at h
  rw [Bool.and_eq_true] at h
  obtain ⟨_, h⟩ := h
  simp [formF, fairB, regB, extraB, immB, halfI, stackB] at h
  have c1 : convInt .u32 (I6 d) = some (W32 d) := q_cv32 (by omega) (by omega)
  have c2 : convInt .u32 (I6 n) = some (W32 n) := q_cv32 (by omega) (by omega)
  have c3 : convInt .u32 (I6 m) = some (W32 m) := q_cv32 (by omega) (by omega)
  have s1 := shl_p Tryd.prog 71 true (v := n) (p := 32) (b := 5) 5 rfl (by decide) rfl (by omega) (by omega)
  have s2 := shl_p Tryd.prog 71 true (v := m) (p := 65536) (b := 16) 16 rfl (by decide) rfl (by omega) (by omega)
  have o1 := or_f0 Tryd.prog 71 false (x := 2594113504) (v := d) (q := 32) 5 rfl (by omega) (by omega) (by omega) (by omega) (by omega)
  have o2 := or_fd Tryd.prog 71 false (x := 2594113504 + d) (v := n) (p := 32) (q := 1) 5 0 rfl rfl (by omega) (by omega) (by omega) (by omega) (by omega)
  have o3 := or_fd Tryd.prog 71 false (x := 2594113504 + d + n * 32) (v := m) (p := 65536) (q := 1) 16 0 rfl rfl (by omega) (by omega) (by omega) (by omega) (by omega)
  have t0 : bin Tryd.prog .xor 3 true (I6 a) (.int .i64 1) = some (I6 (if a % 2 = 0 then a + 1 else a - 1)) := xor1i _ _ _ (by omega) (by omega)
  have t3 : convInt .u32 (I6 (if a % 2 = 0 then a + 1 else a - 1)) = some (W32 (if a % 2 = 0 then a + 1 else a - 1)) := q_cv32 (by split <;> omega) (by split <;> omega)
  have t1 := shl_p Tryd.prog 71 true (v := (if a % 2 = 0 then a + 1 else a - 1)) (p := 4096) (b := 12) 12 rfl (by decide) rfl (by split <;> omega) (by split <;> omega)
  have t2 := or_fd Tryd.prog 71 false (x := 2594113504 + d + n * 32 + m * 65536) (v := (if a % 2 = 0 then a + 1 else a - 1)) (p := 4096) (q := 16) 12 4 rfl rfl (by omega) (by split <;> omega) (by split <;> omega) (by omega) (by split <;> omega)
  have ew : wordF ⟨17, d, n, m, a, imm⟩ = 2594113504 + d + n * 32 + m * 65536 + (if a % 2 = 0 then a + 1 else a - 1) * 4096 := rfl
  rw [ew]
  simp only [partsV, formF, Int.reduceEq, if_true, if_false, ↓reduceIte] at r2 r3
  clear ew
  rw [alembicref17_Word.step]
  unfold alembicref17_Word.c
  refine e_in ?_
  have fx := And.intro r1 <| And.intro r2 <| And.intro r3 <| And.intro c1 <| And.intro c2 <| And.intro c3 <| And.intro s1 <| And.intro s2 <| And.intro o1 <| And.intro o2 <| And.intro o3 <| And.intro t0 <| And.intro t3 <| And.intro t1 <| t2
  refine wkA ?_
  all_goals first | exact w2b rfl rfl | (refine w2b ?_ rfl; omega)
theorem rword_18 (G : Globs) (k : Nat) (d n m a imm : Int) (h : rightB ⟨18, d, n, m, a, imm⟩ = true) : alembicref17_Word.f G (k + 6) [mV 18 d n m a imm] [] = some (.tup [W32 (wordF ⟨18, d, n, m, a, imm⟩), .bool true], []) := by
  have r1 : ∀ H, pureCall (alembicref17_right.f G (k + 5)) [mV 18 d n m a imm] H = _ := fun H => pureCall_of (H := H) (rright_spec G k 18 d n m a imm) rfl rfl
  have r2 : ∀ H, pureCall (alembicref17_partsOf.f G (k + 5)) [.int .i64 18] H = _ := fun H => pureCall_of (H := H) (parts_spec G (k + 1) 18) rfl rfl
  have r3 : ∀ H, pureCall (alembicref17_base.f G (k + 5)) [.int .i64 18] H = _ := fun H => pureCall_of (H := H) (rbase_spec G (k + 4) 18 (by decide)) rfl rfl
  rw [h] at r1
  unfold rightB at h
  rw [Bool.and_eq_true] at h
  obtain ⟨_, h⟩ := h
  simp [formF, fairB, regB, extraB, immB, halfI, stackB] at h
  have c1 : convInt .u32 (I6 d) = some (W32 d) := q_cv32 (by omega) (by omega)
  have c2 : convInt .u32 (I6 n) = some (W32 n) := q_cv32 (by omega) (by omega)
  have c3 : convInt .u32 (I6 m) = some (W32 m) := q_cv32 (by omega) (by omega)
  have s1 := shl_p Tryd.prog 71 true (v := n) (p := 32) (b := 5) 5 rfl (by decide) rfl (by omega) (by omega)
  have s2 := shl_p Tryd.prog 71 true (v := m) (p := 65536) (b := 16) 16 rfl (by decide) rfl (by omega) (by omega)
  have o1 := or_f0 Tryd.prog 71 false (x := 4181721088) (v := d) (q := 32) 5 rfl (by omega) (by omega) (by omega) (by omega) (by omega)
  have o2 := or_fd Tryd.prog 71 false (x := 4181721088 + d) (v := n) (p := 32) (q := 32) 5 5 rfl rfl (by omega) (by omega) (by omega) (by omega) (by omega)
  have o3 := or_fd Tryd.prog 71 false (x := 4181721088 + d + n * 32) (v := m) (p := 65536) (q := 1) 16 0 rfl rfl (by omega) (by omega) (by omega) (by omega) (by omega)
  have t1 := shl_p Tryd.prog 71 true (v := imm) (p := 1024) (b := 10) 10 rfl (by decide) rfl (by omega) (by omega)
  have t2 := or_fd Tryd.prog 71 false (x := 4181721088 + d + n * 32 + m * 65536) (v := imm) (p := 1024) (q := 4096) 10 12 rfl rfl (by omega) (by omega) (by omega) (by omega) (by omega)
  have ew : wordF ⟨18, d, n, m, a, imm⟩ = 4181721088 + d + n * 32 + m * 65536 + imm * 1024 := rfl
  rw [ew]
  simp only [partsV, formF, Int.reduceEq, if_true, if_false, ↓reduceIte] at r2 r3
  clear ew
  rw [alembicref17_Word.step]
  unfold alembicref17_Word.c
  refine e_in ?_
  have fx := And.intro r1 <| And.intro r2 <| And.intro r3 <| And.intro c1 <| And.intro c2 <| And.intro c3 <| And.intro s1 <| And.intro s2 <| And.intro o1 <| And.intro o2 <| And.intro o3 <| And.intro t1 <| t2
  refine wkA ?_
  all_goals first | exact w2b rfl rfl | (refine w2b ?_ rfl; omega)
theorem rword_19 (G : Globs) (k : Nat) (d n m a imm : Int) (h : rightB ⟨19, d, n, m, a, imm⟩ = true) : alembicref17_Word.f G (k + 6) [mV 19 d n m a imm] [] = some (.tup [W32 (wordF ⟨19, d, n, m, a, imm⟩), .bool true], []) := by
  have r1 : ∀ H, pureCall (alembicref17_right.f G (k + 5)) [mV 19 d n m a imm] H = _ := fun H => pureCall_of (H := H) (rright_spec G k 19 d n m a imm) rfl rfl
  have r2 : ∀ H, pureCall (alembicref17_partsOf.f G (k + 5)) [.int .i64 19] H = _ := fun H => pureCall_of (H := H) (parts_spec G (k + 1) 19) rfl rfl
  have r3 : ∀ H, pureCall (alembicref17_base.f G (k + 5)) [.int .i64 19] H = _ := fun H => pureCall_of (H := H) (rbase_spec G (k + 4) 19 (by decide)) rfl rfl
  rw [h] at r1
  unfold rightB at h
  rw [Bool.and_eq_true] at h
  obtain ⟨_, h⟩ := h
  simp [formF, fairB, regB, extraB, immB, halfI, stackB] at h
  have c1 : convInt .u32 (I6 d) = some (W32 d) := q_cv32 (by omega) (by omega)
  have c2 : convInt .u32 (I6 n) = some (W32 n) := q_cv32 (by omega) (by omega)
  have c3 : convInt .u32 (I6 m) = some (W32 m) := q_cv32 (by omega) (by omega)
  have s1 := shl_p Tryd.prog 71 true (v := n) (p := 32) (b := 5) 5 rfl (by decide) rfl (by omega) (by omega)
  have s2 := shl_p Tryd.prog 71 true (v := m) (p := 65536) (b := 16) 16 rfl (by decide) rfl (by omega) (by omega)
  have o1 := or_f0 Tryd.prog 71 false (x := 4177526784) (v := d) (q := 32) 5 rfl (by omega) (by omega) (by omega) (by omega) (by omega)
  have o2 := or_fd Tryd.prog 71 false (x := 4177526784 + d) (v := n) (p := 32) (q := 32) 5 5 rfl rfl (by omega) (by omega) (by omega) (by omega) (by omega)
  have o3 := or_fd Tryd.prog 71 false (x := 4177526784 + d + n * 32) (v := m) (p := 65536) (q := 1) 16 0 rfl rfl (by omega) (by omega) (by omega) (by omega) (by omega)
  have t1 := shl_p Tryd.prog 71 true (v := imm) (p := 1024) (b := 10) 10 rfl (by decide) rfl (by omega) (by omega)
  have t2 := or_fd Tryd.prog 71 false (x := 4177526784 + d + n * 32 + m * 65536) (v := imm) (p := 1024) (q := 4096) 10 12 rfl rfl (by omega) (by omega) (by omega) (by omega) (by omega)
  have ew : wordF ⟨19, d, n, m, a, imm⟩ = 4177526784 + d + n * 32 + m * 65536 + imm * 1024 := rfl
  rw [ew]
  simp only [partsV, formF, Int.reduceEq, if_true, if_false, ↓reduceIte] at r2 r3
  clear ew
  rw [alembicref17_Word.step]
  unfold alembicref17_Word.c
  refine e_in ?_
  have fx := And.intro r1 <| And.intro r2 <| And.intro r3 <| And.intro c1 <| And.intro c2 <| And.intro c3 <| And.intro s1 <| And.intro s2 <| And.intro o1 <| And.intro o2 <| And.intro o3 <| And.intro t1 <| t2
  refine wkA ?_
  all_goals first | exact w2b rfl rfl | (refine w2b ?_ rfl; omega)
theorem rword_20 (G : Globs) (k : Nat) (d n m a imm : Int) (h : rightB ⟨20, d, n, m, a, imm⟩ = true) : alembicref17_Word.f G (k + 6) [mV 20 d n m a imm] [] = some (.tup [W32 (wordF ⟨20, d, n, m, a, imm⟩), .bool true], []) := by
  have r1 : ∀ H, pureCall (alembicref17_right.f G (k + 5)) [mV 20 d n m a imm] H = _ := fun H => pureCall_of (H := H) (rright_spec G k 20 d n m a imm) rfl rfl
  have r2 : ∀ H, pureCall (alembicref17_partsOf.f G (k + 5)) [.int .i64 20] H = _ := fun H => pureCall_of (H := H) (parts_spec G (k + 1) 20) rfl rfl
  have r3 : ∀ H, pureCall (alembicref17_base.f G (k + 5)) [.int .i64 20] H = _ := fun H => pureCall_of (H := H) (rbase_spec G (k + 4) 20 (by decide)) rfl rfl
  rw [h] at r1
  unfold rightB at h
  rw [Bool.and_eq_true] at h
  obtain ⟨_, h⟩ := h
  simp [formF, fairB, regB, extraB, immB, halfI, stackB] at h
  have c1 : convInt .u32 (I6 d) = some (W32 d) := q_cv32 (by omega) (by omega)
  have c2 : convInt .u32 (I6 n) = some (W32 n) := q_cv32 (by omega) (by omega)
  have c3 : convInt .u32 (I6 m) = some (W32 m) := q_cv32 (by omega) (by omega)
  have s1 := shl_p Tryd.prog 71 true (v := n) (p := 32) (b := 5) 5 rfl (by decide) rfl (by omega) (by omega)
  have s2 := shl_p Tryd.prog 71 true (v := m) (p := 65536) (b := 16) 16 rfl (by decide) rfl (by omega) (by omega)
  have o1 := or_f0 Tryd.prog 71 false (x := 335544320) (v := d) (q := 1) 0 rfl (by omega) (by omega) (by omega) (by omega) (by omega)
  have o2 := or_fd Tryd.prog 71 false (x := 335544320 + d) (v := n) (p := 32) (q := 1) 5 0 rfl rfl (by omega) (by omega) (by omega) (by omega) (by omega)
  have o3 := or_fd Tryd.prog 71 false (x := 335544320 + d + n * 32) (v := m) (p := 65536) (q := 1) 16 0 rfl rfl (by omega) (by omega) (by omega) (by omega) (by omega)
  have t1 : bin Tryd.prog .and 71 true (W32 (imm % 4294967296)) (.int .u32 67108863) = some (W32 (imm % 67108864)) := by
    have := and_low Tryd.prog 71 true (x := imm % 4294967296) (q := 67108863) 26 (by decide) rfl (by omega) (by omega)
    rw [this]; congr 2; omega
  have t2 := or_f0 Tryd.prog 71 false (x := 335544320 + d + n * 32 + m * 65536) (v := (imm % 67108864)) (q := 67108864) 26 rfl (by omega) (by omega) (by omega) (by omega) (by omega)
  have ew : wordF ⟨20, d, n, m, a, imm⟩ = 335544320 + d + n * 32 + m * 65536 + imm % 67108864 := rfl
  rw [ew]
  simp only [partsV, formF, Int.reduceEq, if_true, if_false, ↓reduceIte] at r2 r3
  clear ew
  rw [alembicref17_Word.step]
  unfold alembicref17_Word.c
  refine e_in ?_
  have fx := And.intro r1 <| And.intro r2 <| And.intro r3 <| And.intro c1 <| And.intro c2 <| And.intro c3 <| And.intro s1 <| And.intro s2 <| And.intro o1 <| And.intro o2 <| And.intro o3 <| And.intro cvM <| And.intro t1 <| t2
  refine wkA ?_
  all_goals first | exact w2b rfl rfl | (refine w2b ?_ rfl; omega)
theorem rword_21 (G : Globs) (k : Nat) (d n m a imm : Int) (h : rightB ⟨21, d, n, m, a, imm⟩ = true) : alembicref17_Word.f G (k + 6) [mV 21 d n m a imm] [] = some (.tup [W32 (wordF ⟨21, d, n, m, a, imm⟩), .bool true], []) := by
  have r1 : ∀ H, pureCall (alembicref17_right.f G (k + 5)) [mV 21 d n m a imm] H = _ := fun H => pureCall_of (H := H) (rright_spec G k 21 d n m a imm) rfl rfl
  have r2 : ∀ H, pureCall (alembicref17_partsOf.f G (k + 5)) [.int .i64 21] H = _ := fun H => pureCall_of (H := H) (parts_spec G (k + 1) 21) rfl rfl
  have r3 : ∀ H, pureCall (alembicref17_base.f G (k + 5)) [.int .i64 21] H = _ := fun H => pureCall_of (H := H) (rbase_spec G (k + 4) 21 (by decide)) rfl rfl
  rw [h] at r1
  unfold rightB at h
  rw [Bool.and_eq_true] at h
  obtain ⟨_, h⟩ := h
  simp [formF, fairB, regB, extraB, immB, halfI, stackB] at h
  have c1 : convInt .u32 (I6 d) = some (W32 d) := q_cv32 (by omega) (by omega)
  have c2 : convInt .u32 (I6 n) = some (W32 n) := q_cv32 (by omega) (by omega)
  have c3 : convInt .u32 (I6 m) = some (W32 m) := q_cv32 (by omega) (by omega)
  have s1 := shl_p Tryd.prog 71 true (v := n) (p := 32) (b := 5) 5 rfl (by decide) rfl (by omega) (by omega)
  have s2 := shl_p Tryd.prog 71 true (v := m) (p := 65536) (b := 16) 16 rfl (by decide) rfl (by omega) (by omega)
  have o1 := or_f0 Tryd.prog 71 false (x := 1409286144) (v := d) (q := 1) 0 rfl (by omega) (by omega) (by omega) (by omega) (by omega)
  have o2 := or_fd Tryd.prog 71 false (x := 1409286144 + d) (v := n) (p := 32) (q := 1) 5 0 rfl rfl (by omega) (by omega) (by omega) (by omega) (by omega)
  have o3 := or_fd Tryd.prog 71 false (x := 1409286144 + d + n * 32) (v := m) (p := 65536) (q := 1) 16 0 rfl rfl (by omega) (by omega) (by omega) (by omega) (by omega)
  have t0 : convInt .u32 (I6 a) = some (W32 a) := q_cv32 (by omega) (by omega)
  have t1 := or_f0 Tryd.prog 71 false (x := 1409286144 + d + n * 32 + m * 65536) (v := a) (q := 16) 4 rfl (by omega) (by omega) (by omega) (by omega) (by omega)
  have t2 : bin Tryd.prog .and 71 true (W32 (imm % 4294967296)) (.int .u32 524287) = some (W32 (imm % 524288)) := by
    have := and_low Tryd.prog 71 true (x := imm % 4294967296) (q := 524287) 19 (by decide) rfl (by omega) (by omega)
    rw [this]; congr 2; omega
  have t3 := shl_p Tryd.prog 71 true (v := (imm % 524288)) (p := 32) (b := 5) 5 rfl (by decide) rfl (by omega) (by omega)
  have t4 := or_fd Tryd.prog 71 false (x := 1409286144 + d + n * 32 + m * 65536 + a) (v := (imm % 524288)) (p := 32) (q := 524288) 5 19 rfl rfl (by omega) (by omega) (by omega) (by omega) (by omega)
  have ew : wordF ⟨21, d, n, m, a, imm⟩ = 1409286144 + d + n * 32 + m * 65536 + (a + imm % 524288 * 32) := rfl
  rw [ew]
  simp only [partsV, formF, Int.reduceEq, if_true, if_false, ↓reduceIte] at r2 r3
  clear ew
  rw [alembicref17_Word.step]
  unfold alembicref17_Word.c
  refine e_in ?_
  have fx := And.intro r1 <| And.intro r2 <| And.intro r3 <| And.intro c1 <| And.intro c2 <| And.intro c3 <| And.intro s1 <| And.intro s2 <| And.intro o1 <| And.intro o2 <| And.intro o3 <| And.intro t0 <| And.intro cvM <| And.intro t1 <| And.intro t2 <| And.intro t3 <| t4
  refine wkA ?_
  all_goals first | exact w2b rfl rfl | (refine w2b ?_ rfl; omega)
theorem rword_22 (G : Globs) (k : Nat) (d n m a imm : Int) (h : rightB ⟨22, d, n, m, a, imm⟩ = true) : alembicref17_Word.f G (k + 6) [mV 22 d n m a imm] [] = some (.tup [W32 (wordF ⟨22, d, n, m, a, imm⟩), .bool true], []) := by
  have r1 : ∀ H, pureCall (alembicref17_right.f G (k + 5)) [mV 22 d n m a imm] H = _ := fun H => pureCall_of (H := H) (rright_spec G k 22 d n m a imm) rfl rfl
  have r2 : ∀ H, pureCall (alembicref17_partsOf.f G (k + 5)) [.int .i64 22] H = _ := fun H => pureCall_of (H := H) (parts_spec G (k + 1) 22) rfl rfl
  have r3 : ∀ H, pureCall (alembicref17_base.f G (k + 5)) [.int .i64 22] H = _ := fun H => pureCall_of (H := H) (rbase_spec G (k + 4) 22 (by decide)) rfl rfl
  rw [h] at r1
  unfold rightB at h
  rw [Bool.and_eq_true] at h
  obtain ⟨_, h⟩ := h
  simp [formF, fairB, regB, extraB, immB, halfI, stackB] at h
  have c1 : convInt .u32 (I6 d) = some (W32 d) := q_cv32 (by omega) (by omega)
  have c2 : convInt .u32 (I6 n) = some (W32 n) := q_cv32 (by omega) (by omega)
  have c3 : convInt .u32 (I6 m) = some (W32 m) := q_cv32 (by omega) (by omega)
  have s1 := shl_p Tryd.prog 71 true (v := n) (p := 32) (b := 5) 5 rfl (by decide) rfl (by omega) (by omega)
  have s2 := shl_p Tryd.prog 71 true (v := m) (p := 65536) (b := 16) 16 rfl (by decide) rfl (by omega) (by omega)
  have o1 := or_f0 Tryd.prog 71 false (x := 3019898880) (v := d) (q := 32) 5 rfl (by omega) (by omega) (by omega) (by omega) (by omega)
  have o2 := or_fd Tryd.prog 71 false (x := 3019898880 + d) (v := n) (p := 32) (q := 1) 5 0 rfl rfl (by omega) (by omega) (by omega) (by omega) (by omega)
  have o3 := or_fd Tryd.prog 71 false (x := 3019898880 + d + n * 32) (v := m) (p := 65536) (q := 1) 16 0 rfl rfl (by omega) (by omega) (by omega) (by omega) (by omega)
  have t2 : bin Tryd.prog .and 71 true (W32 (imm % 4294967296)) (.int .u32 524287) = some (W32 (imm % 524288)) := by
    have := and_low Tryd.prog 71 true (x := imm % 4294967296) (q := 524287) 19 (by decide) rfl (by omega) (by omega)
    rw [this]; congr 2; omega
  have t3 := shl_p Tryd.prog 71 true (v := (imm % 524288)) (p := 32) (b := 5) 5 rfl (by decide) rfl (by omega) (by omega)
  have t4 := or_fd Tryd.prog 71 false (x := 3019898880 + d + n * 32 + m * 65536) (v := (imm % 524288)) (p := 32) (q := 524288) 5 19 rfl rfl (by omega) (by omega) (by omega) (by omega) (by omega)
  have ew : wordF ⟨22, d, n, m, a, imm⟩ = 3019898880 + d + n * 32 + m * 65536 + imm % 524288 * 32 := rfl
  rw [ew]
  simp only [partsV, formF, Int.reduceEq, if_true, if_false, ↓reduceIte] at r2 r3
  clear ew
  rw [alembicref17_Word.step]
  unfold alembicref17_Word.c
  refine e_in ?_
  have fx := And.intro r1 <| And.intro r2 <| And.intro r3 <| And.intro c1 <| And.intro c2 <| And.intro c3 <| And.intro s1 <| And.intro s2 <| And.intro o1 <| And.intro o2 <| And.intro o3 <| And.intro cvM <| And.intro t2 <| And.intro t3 <| t4
  refine wkA ?_
  all_goals first | exact w2b rfl rfl | (refine w2b ?_ rfl; omega)
theorem rword_23 (G : Globs) (k : Nat) (d n m a imm : Int) (h : rightB ⟨23, d, n, m, a, imm⟩ = true) : alembicref17_Word.f G (k + 6) [mV 23 d n m a imm] [] = some (.tup [W32 (wordF ⟨23, d, n, m, a, imm⟩), .bool true], []) := by
  have r1 : ∀ H, pureCall (alembicref17_right.f G (k + 5)) [mV 23 d n m a imm] H = _ := fun H => pureCall_of (H := H) (rright_spec G k 23 d n m a imm) rfl rfl
  have r2 : ∀ H, pureCall (alembicref17_partsOf.f G (k + 5)) [.int .i64 23] H = _ := fun H => pureCall_of (H := H) (parts_spec G (k + 1) 23) rfl rfl
  have r3 : ∀ H, pureCall (alembicref17_base.f G (k + 5)) [.int .i64 23] H = _ := fun H => pureCall_of (H := H) (rbase_spec G (k + 4) 23 (by decide)) rfl rfl
  rw [h] at r1
  unfold rightB at h
  rw [Bool.and_eq_true] at h
  obtain ⟨_, h⟩ := h
  simp [formF, fairB, regB, extraB, immB, halfI, stackB] at h
  have c1 : convInt .u32 (I6 d) = some (W32 d) := q_cv32 (by omega) (by omega)
  have c2 : convInt .u32 (I6 n) = some (W32 n) := q_cv32 (by omega) (by omega)
  have c3 : convInt .u32 (I6 m) = some (W32 m) := q_cv32 (by omega) (by omega)
  have s1 := shl_p Tryd.prog 71 true (v := n) (p := 32) (b := 5) 5 rfl (by decide) rfl (by omega) (by omega)
  have s2 := shl_p Tryd.prog 71 true (v := m) (p := 65536) (b := 16) 16 rfl (by decide) rfl (by omega) (by omega)
  have o1 := or_f0 Tryd.prog 71 false (x := 3036676096) (v := d) (q := 32) 5 rfl (by omega) (by omega) (by omega) (by omega) (by omega)
  have o2 := or_fd Tryd.prog 71 false (x := 3036676096 + d) (v := n) (p := 32) (q := 1) 5 0 rfl rfl (by omega) (by omega) (by omega) (by omega) (by omega)
  have o3 := or_fd Tryd.prog 71 false (x := 3036676096 + d + n * 32) (v := m) (p := 65536) (q := 1) 16 0 rfl rfl (by omega) (by omega) (by omega) (by omega) (by omega)
  have t2 : bin Tryd.prog .and 71 true (W32 (imm % 4294967296)) (.int .u32 524287) = some (W32 (imm % 524288)) := by
    have := and_low Tryd.prog 71 true (x := imm % 4294967296) (q := 524287) 19 (by decide) rfl (by omega) (by omega)
    rw [this]; congr 2; omega
  have t3 := shl_p Tryd.prog 71 true (v := (imm % 524288)) (p := 32) (b := 5) 5 rfl (by decide) rfl (by omega) (by omega)
  have t4 := or_fd Tryd.prog 71 false (x := 3036676096 + d + n * 32 + m * 65536) (v := (imm % 524288)) (p := 32) (q := 524288) 5 19 rfl rfl (by omega) (by omega) (by omega) (by omega) (by omega)
  have ew : wordF ⟨23, d, n, m, a, imm⟩ = 3036676096 + d + n * 32 + m * 65536 + imm % 524288 * 32 := rfl
  rw [ew]
  simp only [partsV, formF, Int.reduceEq, if_true, if_false, ↓reduceIte] at r2 r3
  clear ew
  rw [alembicref17_Word.step]
  unfold alembicref17_Word.c
  refine e_in ?_
  have fx := And.intro r1 <| And.intro r2 <| And.intro r3 <| And.intro c1 <| And.intro c2 <| And.intro c3 <| And.intro s1 <| And.intro s2 <| And.intro o1 <| And.intro o2 <| And.intro o3 <| And.intro cvM <| And.intro t2 <| And.intro t3 <| t4
  refine wkA ?_
  all_goals first | exact w2b rfl rfl | (refine w2b ?_ rfl; omega)
theorem rword_24 (G : Globs) (k : Nat) (d n m a imm : Int) (h : rightB ⟨24, d, n, m, a, imm⟩ = true) : alembicref17_Word.f G (k + 6) [mV 24 d n m a imm] [] = some (.tup [W32 (wordF ⟨24, d, n, m, a, imm⟩), .bool true], []) := by
  have r1 : ∀ H, pureCall (alembicref17_right.f G (k + 5)) [mV 24 d n m a imm] H = _ := fun H => pureCall_of (H := H) (rright_spec G k 24 d n m a imm) rfl rfl
  have r2 : ∀ H, pureCall (alembicref17_partsOf.f G (k + 5)) [.int .i64 24] H = _ := fun H => pureCall_of (H := H) (parts_spec G (k + 1) 24) rfl rfl
  have r3 : ∀ H, pureCall (alembicref17_base.f G (k + 5)) [.int .i64 24] H = _ := fun H => pureCall_of (H := H) (rbase_spec G (k + 4) 24 (by decide)) rfl rfl
  rw [h] at r1
  unfold rightB at h
  rw [Bool.and_eq_true] at h
  obtain ⟨_, h⟩ := h
  simp [formF, fairB, regB, extraB, immB, halfI, stackB] at h
  have c1 : convInt .u32 (I6 d) = some (W32 d) := q_cv32 (by omega) (by omega)
  have c2 : convInt .u32 (I6 n) = some (W32 n) := q_cv32 (by omega) (by omega)
  have c3 : convInt .u32 (I6 m) = some (W32 m) := q_cv32 (by omega) (by omega)
  have s1 := shl_p Tryd.prog 71 true (v := n) (p := 32) (b := 5) 5 rfl (by decide) rfl (by omega) (by omega)
  have s2 := shl_p Tryd.prog 71 true (v := m) (p := 65536) (b := 16) 16 rfl (by decide) rfl (by omega) (by omega)
  have o1 := or_f0 Tryd.prog 71 false (x := 3560964096) (v := d) (q := 1) 0 rfl (by omega) (by omega) (by omega) (by omega) (by omega)
  have o2 := or_fd Tryd.prog 71 false (x := 3560964096 + d) (v := n) (p := 32) (q := 1) 5 0 rfl rfl (by omega) (by omega) (by omega) (by omega) (by omega)
  have o3 := or_fd Tryd.prog 71 false (x := 3560964096 + d + n * 32) (v := m) (p := 65536) (q := 1) 16 0 rfl rfl (by omega) (by omega) (by omega) (by omega) (by omega)
  have t1 := shl_p Tryd.prog 71 true (v := imm) (p := 32) (b := 5) 5 rfl (by decide) rfl (by omega) (by omega)
  have t2 := or_fd Tryd.prog 71 false (x := 3560964096 + d + n * 32 + m * 65536) (v := imm) (p := 32) (q := 65536) 5 16 rfl rfl (by omega) (by omega) (by omega) (by omega) (by omega)
  have ew : wordF ⟨24, d, n, m, a, imm⟩ = 3560964096 + d + n * 32 + m * 65536 + imm * 32 := rfl
  rw [ew]
  simp only [partsV, formF, Int.reduceEq, if_true, if_false, ↓reduceIte] at r2 r3
  clear ew
  rw [alembicref17_Word.step]
  unfold alembicref17_Word.c
  refine e_in ?_
  have fx := And.intro r1 <| And.intro r2 <| And.intro r3 <| And.intro c1 <| And.intro c2 <| And.intro c3 <| And.intro s1 <| And.intro s2 <| And.intro o1 <| And.intro o2 <| And.intro o3 <| And.intro t1 <| t2
  refine wkA ?_
  all_goals first | exact w2b rfl rfl | (refine w2b ?_ rfl; omega)
theorem rword_spec (G : Globs) (k : Nat) (i : MI) : alembicref17_Word.f G (k + 6) [i.v] [] = some (.tup [W32 (wordR i), .bool (rightB i)], []) := by
  cases hr : rightB i
  · have e : wordR i = 0 := by unfold wordR; rw [hr]; rfl
    rw [e]
    obtain ⟨op, d, n, m, a, imm⟩ := i
    show alembicref17_Word.f G (k + 6) [mV op d n m a imm] [] = _
    have r1 : ∀ H, pureCall (alembicref17_right.f G (k + 5)) [mV op d n m a imm] H = _ := fun H => pureCall_of (H := H) (rright_spec G k op d n m a imm) rfl rfl
    rw [hr] at r1
    rw [alembicref17_Word.step]
    unfold alembicref17_Word.c
    refine e_in ?_
    have fx := r1
    refine wkA ?_
    exact w2 rfl rfl rfl
  · have e : wordR i = wordF i := by unfold wordR; rw [hr]; rfl
    rw [e]
    obtain ⟨op, d, n, m, a, imm⟩ := i
    show alembicref17_Word.f G (k + 6) [mV op d n m a imm] [] = _
    have h24 : 1 ≤ op ∧ op ≤ 24 := right24 hr
    rcases op24 h24 with rfl | rfl | rfl | rfl | rfl | rfl | rfl | rfl | rfl | rfl | rfl | rfl | rfl | rfl | rfl | rfl | rfl | rfl | rfl | rfl | rfl | rfl | rfl | rfl
    · exact rword_1 G k d n m a imm hr
    · exact rword_2 G k d n m a imm hr
    · exact rword_3 G k d n m a imm hr
    · exact rword_4 G k d n m a imm hr
    · exact rword_5 G k d n m a imm hr
    · exact rword_6 G k d n m a imm hr
    · exact rword_7 G k d n m a imm hr
    · exact rword_8 G k d n m a imm hr
    · exact rword_9 G k d n m a imm hr
    · exact rword_10 G k d n m a imm hr
    · exact rword_11 G k d n m a imm hr
    · exact rword_12 G k d n m a imm hr
    · exact rword_13 G k d n m a imm hr
    · exact rword_14 G k d n m a imm hr
    · exact rword_15 G k d n m a imm hr
    · exact rword_16 G k d n m a imm hr
    · exact rword_17 G k d n m a imm hr
    · exact rword_18 G k d n m a imm hr
    · exact rword_19 G k d n m a imm hr
    · exact rword_20 G k d n m a imm hr
    · exact rword_21 G k d n m a imm hr
    · exact rword_22 G k d n m a imm hr
    · exact rword_23 G k d n m a imm hr
    · exact rword_24 G k d n m a imm hr
end Go.Proofs.YtdfglgnflldkpaaDoor.Mir
namespace Go.Proofs.YtdfglgnflldkpaaDoor.Mir
open Go
set_option linter.unusedVariables false
set_option linter.unusedSimpArgs false
set_option maxHeartbeats 8000000
set_option maxRecDepth 20000
theorem rsigned_spec (G : Globs) (k : Nat) (w b h : Int) (hb : (b = 19 ∧ h = 262144) ∨ (b = 26 ∧ h = 33554432)) (h0 : 0 ≤ w) (h1 : w < 4294967296) : alembicref17_signed.f G (k + 1) [W32 w, I6 b] [] = some (I6 (sgnF (w % (2 * h)) h), []) := by
  rw [alembicref17_signed.step]
  unfold alembicref17_signed.c sgnF
  obtain ⟨s1, s2, s3, s4, s5, s6, s7⟩ : convInt .u64 (I6 b) = some (.int .u64 b) ∧ bin Tryd.prog .shl 71 true (.int .u32 1) (.int .u64 b) = some (W32 (2 * h)) ∧ bin Tryd.prog .sub 71 true (W32 (2 * h)) (.int .u32 1) = some (W32 (2 * h - 1)) ∧ bin Tryd.prog .sub 3 true (I6 b) (.int .i64 1) = some (I6 (b - 1)) ∧
      convInt .u64 (I6 (b - 1)) = some (.int .u64 (b - 1)) ∧ bin Tryd.prog .shl 3 true (.int .i64 1) (.int .u64 (b - 1)) = some (I6 h) ∧ bin Tryd.prog .shl 3 true (.int .i64 1) (.int .u64 b) = some (I6 (2 * h)) := by
    clear h0 h1
    rcases hb with ⟨rfl, rfl⟩ | ⟨rfl, rfl⟩
    · exact ⟨by kernel_rfl, by kernel_rfl, by kernel_rfl, by kernel_rfl, by kernel_rfl, by kernel_rfl, by kernel_rfl⟩
    · exact ⟨by kernel_rfl, by kernel_rfl, by kernel_rfl, by kernel_rfl, by kernel_rfl, by kernel_rfl, by kernel_rfl⟩
  have s8 : bin Tryd.prog .and 71 false (W32 w) (W32 (2 * h - 1)) = some (W32 (w % (2 * h))) := by
    rcases hb with ⟨rfl, rfl⟩ | ⟨rfl, rfl⟩
    · exact and_low Tryd.prog 71 false (x := w) (q := 524287) 19 (by decide) rfl h0 h1
    · exact and_low Tryd.prog 71 false (x := w) (q := 67108863) 26 (by decide) rfl h0 h1
  have m0 : 0 ≤ w % (2 * h) := Int.emod_nonneg _ (by omega)
  have m1 : w % (2 * h) < 2 * h := Int.emod_lt_of_pos _ (by omega)
  have hh : 0 ≤ h ∧ h ≤ 33554432 := by omega
  clear hb
  generalize w % (2 * h) = z at *
  refine e_in ?_
  by_cases hc : h ≤ z
  · rw [if_pos hc]
    have fx := And.intro s1 <| And.intro s2 <| And.intro s3 <| And.intro s4 <| And.intro s5 <| And.intro s6 <| And.intro s7 <| s8
    refine wkA ?_
    exact w1i rfl
  · rw [if_neg hc]
    have fx := And.intro s1 <| And.intro s2 <| And.intro s3 <| And.intro s4 <| And.intro s5 <| And.intro s6 <| And.intro s7 <| s8
    refine wkA ?_
    exact w1i rfl
/-- The document's: a word as an instruction of a kind. -/
def rasF (op w : Int) : MI := if op = 12 then ⟨12, w % 32, w / 32 % 32, 0, 0, (64 - w / 65536 % 64) % 64⟩ else asF op w
def rasB (op w : Int) : Bool := rightB (rasF op w) && decide (wordF (rasF op w) = w)
def rasV (op w : Int) : AV := if rasB op w = true then .tup [(rasF op w).v, .bool true] else .tup [mV 0 0 0 0 0 0, .bool false]
theorem ras_spec (G : Globs) (k : Nat) (op w : Int) (hop : 1 ≤ op ∧ op ≤ 24) (h0 : 0 ≤ w) (h1 : w < 4294967296) : alembicref17_as.f G (k + 7) [I6 op, W32 w] [] = some (rasV op w, []) := by
  rw [alembicref17_as.step]
  unfold alembicref17_as.c
  have r1 : ∀ H, pureCall (alembicref17_partsOf.f G (k + 6)) [I6 op] H = _ := fun H => pureCall_of (H := H) (parts_spec G (k + 2) op) rfl rfl
  have r3 : ∀ H, pureCall (alembicref17_Word.f G (k + 6)) [(rasF op w).v] H = _ := fun H => pureCall_of (H := H) (rword_spec G k (rasF op w)) rfl rfl
  have r4 : rightB (rasF op w) = true → wordR (rasF op w) = wordF (rasF op w) := fun h => by unfold wordR; rw [if_pos h]
  have d1 : 0 ≤ w / 32 ∧ w / 32 < 4294967296 := by omega
  have g19 : ∀ H, pureCall (alembicref17_signed.f G (k + 6)) [W32 (w / 32), .int .i64 19] H = some (I6 (sgnF (w / 32 % 524288) 262144), H) := fun H => pureCall_of (H := H) (rsigned_spec G (k + 5) (w / 32) 19 262144 (.inl ⟨rfl, rfl⟩) d1.1 d1.2) rfl rfl
  have g26 : ∀ H, pureCall (alembicref17_signed.f G (k + 6)) [W32 w, .int .i64 26] H = some (I6 (sgnF (w % 67108864) 33554432), H) := fun H => pureCall_of (H := H) (rsigned_spec G (k + 5) w 26 33554432 (.inr ⟨rfl, rfl⟩) h0 h1) rfl rfl
  have s5 := shr_p Tryd.prog 71 true .u64 (v := w) (p := 32) (b := 5) 5 rfl (by decide) rfl h0
  have s10 := shr_p Tryd.prog 71 true .u64 (v := w) (p := 1024) (b := 10) 10 rfl (by decide) rfl h0
  have s12 := shr_p Tryd.prog 71 true .u64 (v := w) (p := 4096) (b := 12) 12 rfl (by decide) rfl h0
  have s16 := shr_p Tryd.prog 71 true .u64 (v := w) (p := 65536) (b := 16) 16 rfl (by decide) rfl h0
  have s21 := shr_p Tryd.prog 71 true .u64 (v := w) (p := 2097152) (b := 21) 21 rfl (by decide) rfl h0
  have a0 : bin Tryd.prog .and 71 true (W32 w) (.int .u32 31) = some (W32 (w % 32)) := and_low _ _ _ (x := w) (q := 31) 5 (by decide) rfl (by omega) (by omega)
  have a5 : bin Tryd.prog .and 71 true (W32 (w / 32)) (.int .u32 31) = some (W32 (w / 32 % 32)) := and_low _ _ _ (x := w / 32) (q := 31) 5 (by decide) rfl (by omega) (by omega)
  have a16 : bin Tryd.prog .and 71 true (W32 (w / 65536)) (.int .u32 31) = some (W32 (w / 65536 % 32)) := and_low _ _ _ (x := w / 65536) (q := 31) 5 (by decide) rfl (by omega) (by omega)
  have a21 : bin Tryd.prog .and 71 true (W32 (w / 2097152)) (.int .u32 3) = some (W32 (w / 2097152 % 4)) := and_low _ _ _ (x := w / 2097152) (q := 3) 2 (by decide) rfl (by omega) (by omega)
  have a10 : bin Tryd.prog .and 71 true (W32 (w / 1024)) (.int .u32 31) = some (W32 (w / 1024 % 32)) := and_low _ _ _ (x := w / 1024) (q := 31) 5 (by decide) rfl (by omega) (by omega)
  have a12 : bin Tryd.prog .and 71 true (W32 (w / 4096)) (.int .u32 15) = some (W32 (w / 4096 % 16)) := and_low _ _ _ (x := w / 4096) (q := 15) 4 (by decide) rfl (by omega) (by omega)
  have a4 : bin Tryd.prog .and 71 true (W32 w) (.int .u32 15) = some (W32 (w % 16)) := and_low _ _ _ (x := w) (q := 15) 4 (by decide) rfl (by omega) (by omega)
  have b16 : bin Tryd.prog .and 71 true (W32 (w / 65536)) (.int .u32 63) = some (W32 (w / 65536 % 64)) := and_low _ _ _ (x := w / 65536) (q := 63) 6 (by decide) rfl (by omega) (by omega)
  have b10 : bin Tryd.prog .and 71 true (W32 (w / 1024)) (.int .u32 4095) = some (W32 (w / 1024 % 4096)) := and_low _ _ _ (x := w / 1024) (q := 4095) 12 (by decide) rfl (by omega) (by omega)
  have b5 : bin Tryd.prog .and 71 true (W32 (w / 32)) (.int .u32 65535) = some (W32 (w / 32 % 65536)) := and_low _ _ _ (x := w / 32) (q := 65535) 16 (by decide) rfl (by omega) (by omega)
  have x1 := xor1i Tryd.prog 3 true (a := w / 4096 % 16) (by omega) (by omega)
  have l1 : bin Tryd.prog .sub 3 true (.int .i64 64) (I6 (w / 65536 % 64)) = some (I6 (64 - w / 65536 % 64)) := q_sub (by omega) (by omega)
  have l2 : bin Tryd.prog .rem 3 true (I6 (64 - w / 65536 % 64)) (.int .i64 64) = some (I6 ((64 - w / 65536 % 64) % 64)) := by
    rw [bin_rem _ _ _ _ _ _ (by decide), Int.tmod_eq_emod_of_nonneg (by omega)]
  unfold rasV rasB
  generalize wordR (rasF op w) = zr at *
  generalize wordF (rasF op w) = zf at *
  generalize rightB (rasF op w) = b at *
  clear d1
  refine e_in ?_
  rcases op24 hop with rfl | rfl | rfl | rfl | rfl | rfl | rfl | rfl | rfl | rfl | rfl | rfl | rfl | rfl | rfl | rfl | rfl | rfl | rfl | rfl | rfl | rfl | rfl | rfl
  all_goals (
    clear hop
    simp only [partsV, formF, Int.reduceEq, if_true, if_false, ↓reduceIte] at r1
    simp only [rasF, asF, formF, exA, exI, MI.v, Int.reduceEq, or_false, false_or, or_self, true_or, or_true, if_true, if_false, ↓reduceIte, Bool.false_eq_true] at r3 ⊢
    cases b
    · simp only [Bool.false_and, Bool.false_eq_true, if_false, ↓reduceIte]
      have fx := And.intro r1 <| And.intro r3 <| And.intro g19 <| And.intro g26 <| And.intro s5 <| And.intro s10 <| And.intro s12 <| And.intro s16 <| And.intro s21 <| And.intro a0 <| And.intro a5 <| And.intro a16 <| And.intro a21 <| And.intro a10 <| And.intro a12 <| And.intro a4 <| And.intro b16 <| And.intro b10 <| And.intro b5 <| And.intro x1 <| And.intro l1 <| l2
      refine wkB ?_
      exact oF (finL_two rfl rfl rfl)
    · have r4 := r4 rfl
      subst r4
      by_cases hz : zr = w
      · rw [decide_eq_true hz]
        simp only [Bool.and_self, ↓reduceIte]
        have fx := And.intro r1 <| And.intro r3 <| And.intro g19 <| And.intro g26 <| And.intro s5 <| And.intro s10 <| And.intro s12 <| And.intro s16 <| And.intro s21 <| And.intro a0 <| And.intro a5 <| And.intro a16 <| And.intro a21 <| And.intro a10 <| And.intro a12 <| And.intro a4 <| And.intro b16 <| And.intro b10 <| And.intro b5 <| And.intro x1 <| And.intro l1 <| l2
        refine wkB ?_
        exact oF (finL_two rfl rfl rfl)
      · rw [decide_eq_false hz]
        simp only [Bool.and_false, Bool.false_eq_true, ↓reduceIte]
        have fx := And.intro r1 <| And.intro r3 <| And.intro g19 <| And.intro g26 <| And.intro s5 <| And.intro s10 <| And.intro s12 <| And.intro s16 <| And.intro s21 <| And.intro a0 <| And.intro a5 <| And.intro a16 <| And.intro a21 <| And.intro a10 <| And.intro a12 <| And.intro a4 <| And.intro b16 <| And.intro b10 <| And.intro b5 <| And.intro x1 <| And.intro l1 <| l2
        refine wkB ?_
        exact oF (finL_two rfl rfl rfl))
end Go.Proofs.YtdfglgnflldkpaaDoor.Mir
namespace Go.Proofs.YtdfglgnflldkpaaDoor.Mir
open Go
set_option linter.unusedVariables false
set_option linter.unusedSimpArgs false
set_option maxHeartbeats 8000000
set_option maxRecDepth 20000
def rfindF : Nat → Int → Int → Option MI
  | 0, _, _ => none
  | d + 1, op, w => if op ≠ 12 ∧ rasB op w = true then some (rasF op w) else rfindF d (op + 1) w
def rofF (w : Int) : Option MI := match rfindF 24 1 w with
  | some i => some i
  | none => if rasB 12 w = true then some (rasF 12 w) else none
theorem ras_ne {op w : Int} (h : op ≠ 12) : rasF op w = asF op w := by unfold rasF; rw [if_neg h]
theorem rasB_ok {op w : Int} (h : op ≠ 12) : rasB op w = okB op w := by
  unfold rasB okB asB
  rw [ras_ne h, decide_eq_true h]
  simp
theorem rfind_some : ∀ {d : Nat} {op w : Int} {i : MI}, rfindF d op w = some i → ∃ o, o ≠ 12 ∧ okB o w = true ∧ i = asF o w ∧ op ≤ o ∧ o < op + d
  | 0, op, w, i, h => by cases h
  | d + 1, op, w, i, h => by
    unfold rfindF at h
    by_cases hk : op ≠ 12 ∧ rasB op w = true
    · rw [if_pos hk] at h
      simp at h
      exact ⟨op, hk.1, by rw [← rasB_ok hk.1]; exact hk.2, by rw [← ras_ne hk.1]; exact h.symm, by omega, by omega⟩
    · rw [if_neg hk] at h
      obtain ⟨o, h0, h1, h2, h3, h4⟩ := rfind_some h
      exact ⟨o, h0, h1, h2, by omega, by omega⟩
theorem rfind_none : ∀ {d : Nat} {op w : Int}, rfindF d op w = none → ∀ o : Int, o ≠ 12 → op ≤ o → o < op + d → okB o w = false
  | 0, op, w, _, o, _, h1, h2 => by omega
  | d + 1, op, w, h, o, h0, h1, h2 => by
    unfold rfindF at h
    by_cases hk : op ≠ 12 ∧ rasB op w = true
    · rw [if_pos hk] at h; cases h
    · rw [if_neg hk] at h
      by_cases ho : o = op
      · subst ho
        rw [rasB_ok h0] at hk
        simpa [h0] using hk
      · exact rfind_none h o h0 (by omega) (by omega)
theorem find_of {d : Nat} {w : Int} {i : MI} (h : rfindF d 1 w = some i) : ofF w = some i := by
  obtain ⟨o, h0, h1, rfl, _, _⟩ := rfind_some h
  obtain ⟨⟨h2, h3⟩, h4⟩ := okB_iff.1 h1
  exact of_iff.2 ⟨h2, h3, h4⟩
theorem rofF_eq (w : Int) : rofF w = ofF w := by
  unfold rofF
  cases hr : rfindF 24 1 w with
  | some i => exact (find_of hr).symm
  | none =>
    simp only
    have hn := rfind_none hr
    cases hq : ofF w with
    | some i =>
      obtain ⟨h1, h2, h3⟩ := of_some hq
      have h24 := right24 h1
      have hop : i.op = 12 := by
        apply Classical.byContradiction
        intro hne
        have h4 := hn i.op hne h24.1 (by omega)
        have hk : okB i.op w = true := by
          subst h2
          rw [okB_iff, (word_all h1).2.2.1]
          exact ⟨⟨h1, rfl⟩, h3⟩
        rw [hk] at h4; cases h4
      have e : rasF 12 w = i := by
        obtain ⟨op, d, n, m, a, imm⟩ := i
        simp only at hop; subst hop
        unfold rightB at h1
        rw [Bool.and_eq_true] at h1
        obtain ⟨_, h1⟩ := h1
        simp [formF, fairB, regB, extraB, immB, halfI, stackB] at h1
        have h2' : w = 3544186880 + d + n * 32 + m * 65536 + ((64 - imm) % 64 * 65536 + (63 - imm) * 1024) := h2.symm
        have hi : imm ≠ 0 := fun h => h3 ⟨rfl, h⟩
        have e64 : (64 - imm) % 64 = 64 - imm := by omega
        rw [e64] at h2'
        clear h2
        have e65 : w / 65536 = 54144 - imm := by omega
        simp [rasF]
        refine ⟨?_, ?_, ?_, ?_, ?_⟩ <;> omega
      have hb : rasB 12 w = true := by
        unfold rasB
        rw [e, h1, h2]; simp
      rw [if_pos hb, e]
    | none =>
      by_cases hb : rasB 12 w = true
      · exfalso
        have hb' := hb
        unfold rasB at hb'
        rw [Bool.and_eq_true] at hb'
        obtain ⟨h1, h2⟩ := hb'
        have h2 := of_decide_eq_true h2
        by_cases hs : (rasF 12 w).imm = 0
        · obtain ⟨i, hi⟩ : ∃ i, i = rasF 12 w := ⟨_, rfl⟩
          rw [← hi] at h1 h2 hs
          have ho : i.op = 12 := by rw [hi]; rfl
          obtain ⟨op, d, n, m, a, imm⟩ := i
          simp only at ho hs; subst ho; subst hs
          have e1 : rightB ⟨13, d, n, m, a, 0⟩ = true := by
            have : rightB ⟨13, d, n, m, a, 0⟩ = rightB ⟨12, d, n, m, a, 0⟩ := rfl
            rw [this]; exact h1
          have e2 : wordF ⟨13, d, n, m, a, 0⟩ = w := by
            rw [← h2]; rfl
          have := of_iff.2 ⟨e1, e2, by simp⟩
          rw [hq] at this; cases this
        · have := of_iff.2 ⟨h1, h2, fun h => hs h.2⟩
          rw [hq] at this; cases this
      · rw [if_neg hb]
theorem rof_loop (G : Globs) (k : Nat) (self : Den) (w : Int) (h0 : 0 ≤ w) (h1 : w < 4294967296) : ∀ (d f : Nat) (op : Int) (T : AHeap), op + (d : Int) = 25 → 1 ≤ op → d < f →
    ∃ T', loopN (alembicref17_Of.l2 G (k + 7) 1 self) f [W32 w, .ptr 0 1 0 0, .bool false, I6 op] (⟨57, 6, [mV 0 0 0 0 0 0]⟩ :: T) = some (ofStep (rfindF d op w) w T')
  | d, 0, op, T, h, _, hf => by omega
  | 0, f + 1, op, T, h, _, hf => by
    rw [loopN_succ, alembicref17_Of.l2]
    have hc : cutH 1 [W32 w, .ptr 0 1 0 0, .bool false, I6 op] (⟨57, 6, [mV 0 0 0 0 0 0]⟩ :: T) = some [⟨57, 6, [mV 0 0 0 0 0 0]⟩] := rfl
    have e : op = 25 := by omega
    subst e
    refine ⟨[], ?_⟩
    refine e_id ?_
    refine eC hc ?_
    have fx := True.intro
    refine wkA ?_
    refine e_out ?_; rfl
  | d + 1, f + 1, op, T, h, hop, hf => by
    rw [loopN_succ, alembicref17_Of.l2]
    have hc : cutH 1 [W32 w, .ptr 0 1 0 0, .bool false, I6 op] (⟨57, 6, [mV 0 0 0 0 0 0]⟩ :: T) = some [⟨57, 6, [mV 0 0 0 0 0 0]⟩] := rfl
    have ih := fun T => rof_loop G k self w h0 h1 d f (op + 1) T (by omega) (by omega) (by omega)
    have q1 : bin Tryd.prog .leq 3 true (I6 op) (.int .i64 24) = some (.bool true) := q_leq_t (by omega)
    have q2 : bin Tryd.prog .add 3 true (I6 op) (.int .i64 1) = some (I6 (op + 1)) := q_add (by omega) (by omega)
    unfold rfindF
    by_cases h12 : op = 12
    · rw [if_neg (by simp [h12])]
      subst h12
      obtain ⟨T', ih⟩ := ih []
      refine ⟨T', ?_⟩
      refine e_id ?_
      refine eC hc ?_
      have fx := And.intro q1 <| q2
      refine wkA ?_
      exact ih
    · have r1 : ∀ H, pureCall (alembicref17_as.f G (k + 7)) [I6 op, W32 w] H = some (rasV op w, H) := fun H => pureCall_of (H := H) (ras_spec G k op w (by omega) h0 h1) rfl (by unfold rasV; split <;> rfl)
      have q3 : bin Tryd.prog .eql 3 true (I6 op) (.int .i64 12) = some (.bool false) := q_eql_f h12
      have e0 : (rasF op w).op = op := by rw [ras_ne h12]; rfl
      unfold rasV at r1
      generalize rasB op w = b at *
      generalize rasF op w = i at *
      obtain ⟨op', xd, xn, xm, xa, xi⟩ := i
      simp only at e0
      subst e0
      unfold MI.v at *
      simp only at *
      clear h1 h hf hop h0
      cases b
      · rw [if_neg (by simp)]
        simp only [Bool.false_eq_true, if_false] at r1
        obtain ⟨T', ih⟩ := ih [⟨57, 6, [mV 0 0 0 0 0 0]⟩]
        refine ⟨T', ?_⟩
        refine e_id ?_
        refine eC hc ?_
        have fx := And.intro r1 <| And.intro q1 <| And.intro q2 <| q3
        refine wkA ?_
        exact ih
      · rw [if_pos (by simp [h12])]
        simp only [if_true] at r1
        refine ⟨[⟨57, 6, [.agg [I6 op', I6 xd, I6 xn, I6 xm, I6 xa, I6 xi]]⟩], ?_⟩
        refine e_id ?_
        refine eC hc ?_
        have fx := And.intro r1 <| And.intro q1 <| And.intro q2 <| q3
        refine wkA ?_
        refine e_out ?_; rfl
theorem rOf_spec (G : Globs) (k : Nat) (w : Int) (h0 : 0 ≤ w) (h1 : w < 4294967296) : alembicref17_Of.f G (k + 40) [W32 w] [] = some (ofV (ofF w), []) := by
  rw [← rofF_eq]
  rw [alembicref17_Of.step]
  unfold alembicref17_Of.c
  obtain ⟨T', lp⟩ : ∃ T', loopN (alembicref17_Of.l2 G (k + 39) 1 (alembicref17_Of.f G (k + 39))) (k + 39) [W32 w, .ptr 0 1 0 0, .bool false, .int .i64 1] [⟨57, 6, [mV 0 0 0 0 0 0]⟩] = some (ofStep (rfindF 24 1 w) w T') := rof_loop G (k + 32) (alembicref17_Of.f G (k + 39)) w h0 h1 24 (k + 39) 1 [] (by decide) (by decide) (by omega)
  have r1 : ∀ H, pureCall (alembicref17_as.f G (k + 39)) [.int .i64 12, W32 w] H = some (rasV 12 w, H) := fun H => pureCall_of (H := H) (ras_spec G (k + 32) 12 w (by decide) h0 h1) rfl (by unfold rasV; split <;> rfl)
  unfold rofF
  unfold rasV at r1
  have e0 : (rasF 12 w).op = 12 := rfl
  generalize rfindF 24 1 w = q at *
  generalize rasB 12 w = b at *
  generalize rasF 12 w = i at *
  obtain ⟨op', xd, xn, xm, xa, xi⟩ := i
  refine e_in ?_
  cases q with
  | none =>
    unfold ofStep at lp
    simp only at lp
    cases b
    · simp only [Bool.false_eq_true, if_false] at r1 ⊢
      have fx := r1
      have lx1 := lp
      refine wkA ?_
      exact oF (finL_two rfl rfl rfl)
    · simp only [if_true] at r1 ⊢
      unfold MI.v at *
      have fx := r1
      have lx1 := lp
      refine wkA ?_
      exact oF (finL_two rfl rfl rfl)
  | some i =>
    unfold ofStep at lp
    simp only at lp
    have fx := True.intro
    have lx1 := lp
    refine wkA ?_
    exact oF (finL_two rfl rfl rfl)
end Go.Proofs.YtdfglgnflldkpaaDoor.Mir
namespace Go.Proofs.YtdfglgnflldkpaaDoor.Mir
open Go
set_option linter.unusedVariables false
set_option linter.unusedSimpArgs false
set_option maxHeartbeats 8000000
set_option maxRecDepth 20000
theorem rget_spec (G : Globs) (k : Nat) (r : List Nat) (hr : r.length = 31) (j : Int) (h0 : 0 ≤ j) (h1 : j ≤ 31) : alembicref17_get.f G (k + 1) [rgV r, I6 j] [] = some (Un (getF r j), []) := by
  rw [alembicref17_get.step]
  unfold alembicref17_get.c getF
  have b1 : ∀ H, boxRoA (rgV r) H = some (.rp false (rgV r) 0, H) := fun H => rfl
  refine e_in ?_
  by_cases h : j = 31
  · rw [if_pos h]
    have fx := b1
    refine wkA ?_
    exact w1i rfl
  · rw [if_neg h]
    have i1 : idxAddrArr 31 1 (.rp false (rgV r) 0) (I6 j) = some (.rp false (rgV r) j.toNat) := by
      unfold idxAddrArr
      simp only
      rw [if_pos ⟨h0, by omega⟩, Nat.zero_add, Nat.mul_one]
    have l1 : ∀ H, loadV G false 1 (.rp false (rgV r) j.toNat) H = some (Un (r.getD j.toNat 0)) := fun H => by
      rw [q_ldrp, natsU_get _ _ (by omega)]
    have fx := And.intro b1 <| And.intro i1 <| l1
    refine wkA ?_
    exact w1i rfl
theorem zeroRg : (AV.agg [(.int .u64 0), (.int .u64 0), (.int .u64 0), (.int .u64 0), (.int .u64 0), (.int .u64 0), (.int .u64 0), (.int .u64 0), (.int .u64 0), (.int .u64 0), (.int .u64 0), (.int .u64 0), (.int .u64 0), (.int .u64 0), (.int .u64 0), (.int .u64 0), (.int .u64 0), (.int .u64 0), (.int .u64 0), (.int .u64 0), (.int .u64 0), (.int .u64 0), (.int .u64 0), (.int .u64 0), (.int .u64 0), (.int .u64 0), (.int .u64 0), (.int .u64 0), (.int .u64 0), (.int .u64 0), (.int .u64 0)]) = rgV (List.replicate 31 0) := rfl
theorem zeroRgL : [(AV.int .u64 0), (.int .u64 0), (.int .u64 0), (.int .u64 0), (.int .u64 0), (.int .u64 0), (.int .u64 0), (.int .u64 0), (.int .u64 0), (.int .u64 0), (.int .u64 0), (.int .u64 0), (.int .u64 0), (.int .u64 0), (.int .u64 0), (.int .u64 0), (.int .u64 0), (.int .u64 0), (.int .u64 0), (.int .u64 0), (.int .u64 0), (.int .u64 0), (.int .u64 0), (.int .u64 0), (.int .u64 0), (.int .u64 0), (.int .u64 0), (.int .u64 0), (.int .u64 0), (.int .u64 0), (.int .u64 0)] = natsU (List.replicate 31 0) := rfl
theorem boxRg (r : List Nat) (hr : r.length = 31) (H : AHeap) : boxA 44 (rgV r) H = some (.ptr H.length 1 0 0, H ++ [⟨44, 31, [rgV r]⟩]) := by
  simp [boxA, storable, AV.cells, natsU_len, hr]
theorem stReg {j i : Nat} {H : AHeap} {r : List Nat} (hr : r.length = 31) (hi : i < 31) (x : Nat) (e : H[j]? = some ⟨44, 31, [rgV r]⟩) : stS (storeV 1 (.ptr j 1 0 i) (Un x) H) = some (.tup [], H.set j ⟨44, 31, [rgV (r.set i x)]⟩) := by
  have e2 : putC (natsU r) i [Un x] = natsU (r.set i x) := by
    rw [natsU_set, List.set_eq_take_append_cons_drop, if_pos (by rw [natsU_len]; omega)]
    rfl
  unfold storeV
  simp only [e, AV.cells, natsU_len, hr, List.length_singleton, storable, List.getElem?_cons_zero]
  rw [if_pos (by simp), if_pos (by omega), e2]
  rfl
theorem stRgA {j : Nat} {H : AHeap} {q r : List Nat} (hq : q.length = 31) (hr : r.length = 31) (e : H[j]? = some ⟨44, 31, [rgV r]⟩) : stS (storeV 31 (.ptr j 1 0 0) (rgV q) H) = some (.tup [], H.set j ⟨44, 31, [rgV q]⟩) := by
  have e2 : putC (natsU r) 0 (natsU q) = natsU q := by
    unfold putC
    rw [List.take_zero, List.nil_append, List.drop_of_length_le (by rw [natsU_len, natsU_len]; omega), List.append_nil]
  unfold storeV
  simp only [e, AV.cells, natsU_len, hq, List.length_singleton, storable, List.getElem?_cons_zero]
  rw [if_pos (by simp), if_pos (by omega), e2]
  rfl
theorem rset_spec (G : Globs) (k : Nat) (r : List Nat) (hr : r.length = 31) (j : Int) (h0 : 0 ≤ j) (h1 : j ≤ 31) (x : Nat) : alembicref17_set.f G (k + 1) [rgV r, I6 j, Un x] [] = some (rgV (setF r j x), []) := by
  rw [alembicref17_set.step]
  unfold alembicref17_set.c setF
  rw [zeroRg]
  have hZ : (List.replicate 31 0 : List Nat).length = 31 := rfl
  obtain ⟨Z, hz⟩ : ∃ Z : List Nat, Z = List.replicate 31 0 := ⟨_, rfl⟩
  rw [← hz] at hZ ⊢
  clear hz
  have b1 : boxA 44 (rgV r) [] = some (.ptr 0 1 0 0, [⟨44, 31, [rgV r]⟩]) := boxRg r hr []
  have b2 : boxA 44 (rgV Z) [⟨44, 31, [rgV r]⟩] = some (.ptr 1 1 0 0, [⟨44, 31, [rgV r]⟩, ⟨44, 31, [rgV Z]⟩]) := boxRg Z hZ _
  refine e_in ?_
  by_cases h : j = 31
  · rw [if_pos h]
    have l1 : loadV G true 31 (.ptr 0 1 0 0) [⟨44, 31, [rgV r]⟩, ⟨44, 31, [rgV Z]⟩] = some (rgV r) := ldRg G hr rfl
    have s1 : stS (storeV 31 (.ptr 1 1 0 0) (rgV r) [⟨44, 31, [rgV r]⟩, ⟨44, 31, [rgV Z]⟩]) = some (.tup [], [⟨44, 31, [rgV r]⟩, ⟨44, 31, [rgV r]⟩]) := stRgA hr hZ rfl
    have fx := And.intro b1 <| And.intro b2 <| And.intro l1 <| s1
    refine wkA ?_
    exact oF (finL_one (by simp [belowB, natsU_below]) (ldRg G hr rfl))
  · rw [if_neg h]
    have i1 : idxAddrArr 31 1 (.ptr 0 1 0 0) (I6 j) = some (.ptr 0 1 0 j.toNat) := by
      unfold idxAddrArr
      simp only
      rw [if_pos ⟨h0, by omega⟩, Nat.zero_add, Nat.mul_one]
    have hr' : (r.set j.toNat x).length = 31 := by rw [List.length_set]; exact hr
    have s0 : stS (storeV 1 (.ptr 0 1 0 j.toNat) (Un x) [⟨44, 31, [rgV r]⟩, ⟨44, 31, [rgV Z]⟩]) = some (.tup [], [⟨44, 31, [rgV (r.set j.toNat x)]⟩, ⟨44, 31, [rgV Z]⟩]) := stReg hr (by omega) x rfl
    generalize r.set j.toNat x = q at *
    have l1 : loadV G true 31 (.ptr 0 1 0 0) [⟨44, 31, [rgV q]⟩, ⟨44, 31, [rgV Z]⟩] = some (rgV q) := ldRg G hr' rfl
    have s1 : stS (storeV 31 (.ptr 1 1 0 0) (rgV q) [⟨44, 31, [rgV q]⟩, ⟨44, 31, [rgV Z]⟩]) = some (.tup [], [⟨44, 31, [rgV q]⟩, ⟨44, 31, [rgV q]⟩]) := stRgA hr' hZ rfl
    have fx := And.intro b1 <| And.intro b2 <| And.intro i1 <| And.intro s0 <| And.intro l1 <| s1
    refine wkA ?_
    exact oF (finL_one (by simp [belowB, natsU_below]) (ldRg G hr' rfl))
theorem rholds_spec (G : Globs) (k : Nat) (c : Int) (f : FL) : alembicref17_Holds.f G (k + 1) [I6 c, f.a] [] = some (.bool (holdsF c f), []) := by
  obtain ⟨n, z, cc, v⟩ := f
  rw [alembicref17_Holds.step]
  unfold alembicref17_Holds.c holdsF FL.a
  have i1 : idxAddrArr 4 1 (.rp false (.agg [.bool n, .bool z, .bool cc, .bool v]) 0) (.int .i64 1) = some (.rp false (.agg [.bool n, .bool z, .bool cc, .bool v]) 1) := rfl
  have i2 : idxAddrArr 4 1 (.rp false (.agg [.bool n, .bool z, .bool cc, .bool v]) 0) (.int .i64 2) = some (.rp false (.agg [.bool n, .bool z, .bool cc, .bool v]) 2) := rfl
  refine e_in ?_
  simp only
  cases z <;> cases cc
  all_goals (
    repeat' first
      | (with_reducible first | refine eT ?_ | refine eN ?_ | refine eS ?_ | refine eXn ?_ | refine eXr ?_ | refine eX ?_ | refine eI ?_ | refine eK ?_ | refine eV0 ?_ | refine eGr0 ?_ | refine eGtt ?_ | refine eGff ?_ | refine eGtf ?_ | refine eGft ?_ | refine eGno ?_)
      | ((with_reducible apply eCn); (simp only [nth_zero, nth_succ]; first | done | (with_reducible exact rfl)))
      | ((with_reducible apply eJ); (rfl))
      | ((with_reducible apply eGr1); (first | rfl | (simp only [nth_zero, nth_succ]; rfl)))
      | ((with_reducible apply eB); (first | (with_reducible exact rfl) | (simp (disch := omega) only [qf, i1, i2]; first | done | (with_reducible exact rfl) | (with_reducible exact ⟨rfl, rfl⟩)) | (simp (disch := omega) only [qa, putC, AV.cells, storable, buildSt, fillA, buildRo, buildOwn, fillE, Nat.reduceLeDiff, Nat.reduceLT, Nat.reduceAdd, ↓reduceIte, i1, i2]; first | done | (with_reducible exact rfl) | (with_reducible exact ⟨rfl, rfl⟩))))
      | ((with_reducible apply eR); (simp only [nth_zero, nth_succ]; (with_reducible exact rfl)))
      | ((with_reducible first | refine sEql ?_ ?_ | refine sNeq ?_ ?_ | refine sLss ?_ ?_ | refine sLeq ?_ ?_ | refine sGtr ?_ ?_ | refine sGeq ?_ ?_ | refine sNot ?_ ?_ | refine sPick ?_ ?_ | refine sGd ?_ ?_ | refine eBool ?_ ?_) <;> intro hq <;> try subst hq)
    all_goals (refine w1b ?_; simp (disch := omega) only [if_pos, if_neg, if_true, Bool.false_eq_true, if_false, ↓reduceIte]; try rfl))
theorem i64_and63 (P : Program) (t : Nat) (c : Bool) {x : Int} (h0 : 0 ≤ x) (h1 : x < 9223372036854775808) : bin P .and t c (I6 x) (.int .i64 63) = some (I6 (x % 64)) := by
  obtain ⟨X, rfl⟩ : ∃ X : Nat, x = X := ⟨x.toNat, by omega⟩
  rw [bin_and]
  show some (AV.int .i64 (IntKind.i64.wrap ((BitVec.ofInt 64 (X : Int) &&& BitVec.ofInt 64 (63 : Int)).toNat : Int))) = _
  have e1 : (BitVec.ofInt 64 (X : Int)).toNat = X := ofInt_u64 X (by omega)
  have e2 : (BitVec.ofInt 64 (63 : Int)).toNat = 2 ^ 6 - 1 := by decide
  rw [BitVec.toNat_and, e1, e2, Nat.and_two_pow_sub_one_eq_mod, wrap_of_i64 (by omega) (by omega)]
  rfl
/-- The blocks of the document's. -/
def hp2 (r : List Nat) (f : FL) : AHeap := [⟨44, 31, [rgV r]⟩, ⟨53, 4, [f.a]⟩]
theorem rone_fin (G : Globs) (r : List Nat) (hr : r.length = 31) (f : FL) (b : Bool) : finL [loadV G true 31 (.ptr 0 1 0 0) (hp2 r f), loadV G true 4 (.ptr 1 1 0 0) (hp2 r f), some (.bool b)] 0 (hp2 r f) = some (.ret, [oneV (r, f, b)], []) := by
  have e1 := ldRg G (j := 0) (H := hp2 r f) hr rfl
  have e2 : loadV G true 4 (.ptr 1 1 0 0) (hp2 r f) = some f.a := rfl
  unfold finL
  rw [e1, e2]
  exact finV_three (by simp [belowB, natsU_below]) rfl rfl _
theorem setF_len (r : List Nat) (hr : r.length = 31) (j : Int) (x : Nat) : (setF r j x).length = 31 := by
  unfold setF; split
  · exact hr
  · rw [List.length_set]; exact hr
theorem rone_1 (G : Globs) (k : Nat) (d n m a imm : Int) (hw : rightB ⟨1, d, n, m, a, imm⟩ = true) (r : List Nat) (hr : RgOk r) (f : FL) :
    alembicref17_One.f G (k + 7) [mV 1 d n m a imm, rgV r, f.a] [] = some (oneV ((doesF ⟨1, d, n, m, a, imm⟩ r f).1, (doesF ⟨1, d, n, m, a, imm⟩ r f).2, true), []) := by
  have r1 : ∀ H, pureCall (alembicref17_Word.f G (k + 6)) [mV 1 d n m a imm] H = _ := fun H => pureCall_of (H := H) (rword_spec G k ⟨1, d, n, m, a, imm⟩) rfl rfl
  rw [hw] at r1
  obtain ⟨_, hd, hn, hm, ha, hf⟩ := right_ok hw
  have himm : 0 ≤ imm ∧ imm < 65536 := by
    unfold rightB at hw
    rw [Bool.and_eq_true] at hw
    obtain ⟨_, h⟩ := hw
    simp [formF, fairB, regB, extraB, immB, halfI, stackB] at h
    omega
  simp only at hd hn hm ha hf
  clear hw
  have ld := hr.get d
  have ln := hr.get n
  have lm := hr.get m
  have la := hr.get a
  have g : ∀ j, 0 ≤ j → j ≤ 31 → ∀ H, pureCall (alembicref17_get.f G (k + 6)) [rgV r, I6 j] H = some (Un (getF r j), H) := fun j h0 h1 H => pureCall_of (H := H) (rget_spec G (k + 5) r hr.len j h0 h1) (by simp [plainL, plainB, plainU]) rfl
  have g1 := g d hd.1 hd.2
  have g2 := g n hn.1 hn.2
  have g3 := g m hm.1 hm.2
  have g4 := g a ha.1 ha.2
  clear g
  have st : ∀ x H, pureCall (alembicref17_set.f G (k + 6)) [rgV r, I6 d, Un x] H = some (rgV (setF r d x), H) := fun x H => pureCall_of (H := H) (rset_spec G (k + 5) r hr.len d hd.1 hd.2 x) (by simp [plainL, plainB, plainU]) (by simp [cleanB, cleanU])
  obtain ⟨ki, hki⟩ : ∃ z, z = u64 imm := ⟨_, rfl⟩
  have hkl : ki < 18446744073709551616 := by rw [hki]; exact u64_lt _
  have hkv : (ki : Int) = imm := by rw [hki]; unfold u64; omega
  have k1 : convInt .u64 (I6 imm) = some (Un ki) := by rw [conv_u64, hki]
  have k2 : bin Tryd.prog .and 3 true (I6 imm) (.int .i64 63) = some (I6 (imm % 64)) := i64_and63 _ _ _ (by omega) (by omega)
  obtain ⟨kj, hkj⟩ : ∃ z : Nat, (z : Int) = imm % 64 := ⟨(imm % 64).toNat, by omega⟩
  rw [← hkj] at k2
  have k3 : convInt .u64 (Nn kj) = some (Un kj) := by rw [convInt_int, wrap_of_u64 (by omega) (by omega)]
  have ed : doesF ⟨1, d, n, m, a, imm⟩ r f = (setF r d (u64 imm * 2 ^ (16 * a).toNat % 18446744073709551616), f) := by
    unfold doesF madeF
    simp only [Int.reduceEq, or_false, false_or, or_self, or_true, true_or, if_false, if_true, ↓reduceIte]
  rw [ed]
  clear ed
  simp only
  try rw [← hki]
  generalize getF r d = rd at *
  generalize getF r n = rn at *
  generalize getF r m = rm at *
  generalize getF r a = ra at *
  obtain ⟨a0, a3⟩ := hf.1 (by omega)
  obtain ⟨s, hs⟩ : ∃ s : Nat, s = (16 * a).toNat := ⟨_, rfl⟩
  have e16 : bin Tryd.prog .mul 3 true (.int .i64 16) (I6 a) = some (Nn s) := by
    rw [bin_mul, wrap_of_i64 (by omega) (by omega)]; congr 2; omega
  rw [← hs]
  have e17 : convInt .u64 (Nn s) = some (Un s) := by rw [convInt_int, wrap_of_u64 (by omega) (by omega)]
  have k17 := u64_shl Tryd.prog 43 false .u64 ki s (by omega)
  clear hs
  generalize ki * 2 ^ s % 18446744073709551616 = xx at *
  rw [alembicref17_One.step]
  unfold alembicref17_One.c
  rw [zeroRg, zeroRgL]
  have hZ : (List.replicate 31 0 : List Nat).length = 31 := rfl
  have z1 : buildArr 1 (natsU (List.replicate 31 0)) [] = some (rgV (List.replicate 31 0)) := rfl
  have z2 : buildArr 1 [.bool false, .bool false, .bool false, .bool false] [] = some f00.a := rfl
  have b1 : boxA 44 (rgV (List.replicate 31 0)) [] = some (.ptr 0 1 0 0, [⟨44, 31, [rgV (List.replicate 31 0)]⟩]) := boxRg _ rfl []
  have b2 : boxA 53 (.agg [.bool false, .bool false, .bool false, .bool false]) [⟨44, 31, [rgV (List.replicate 31 0)]⟩] = some (.ptr 1 1 0 0, hp2 (List.replicate 31 0) f00) := rfl
  generalize List.replicate 31 0 = Z at *
  have c0 : ∀ H, boxRoA (rgV r) H = some (.rp false (rgV r) 0, H) := fun H => rfl
  have c1 : ∀ H, boxRoA f.a H = some (.rp false f.a 0, H) := fun H => rfl
  have c2 : ∀ H, loadV G true 31 (.rp false (rgV r) 0) H = some (rgV r) := fun H => by
    rw [q_ldrpT, if_pos (by rw [natsU_len, hr.len]; exact Nat.le_refl _), List.drop_zero, List.take_of_length_le (by rw [natsU_len, hr.len]; exact Nat.le_refl _)]
  have c3 : ∀ H, loadV G true 4 (.rp false f.a 0) H = some f.a := fun H => rfl
  have c4 : ∀ q : List Nat, q.length = 31 → stS (storeV 31 (.ptr 0 1 0 0) (rgV q) (hp2 Z f00)) = some (.tup [], hp2 q f00) := fun q hq => stRgA hq hZ rfl
  have c5 : ∀ (q : List Nat) (g : FL), stS (storeV 4 (.ptr 1 1 0 0) g.a (hp2 q f00)) = some (.tup [], hp2 q g) := fun q g => rfl
  have st' := st xx
  have hq := setF_len r hr.len d xx
  generalize setF r d xx = q at *
  have c4' := c4 q hq
  have c5' := c5 q f
  refine e_in ?_
  have fx := And.intro r1 <| And.intro g1 <| And.intro g2 <| And.intro g3 <| And.intro g4 <| And.intro k1 <| And.intro k2 <| And.intro k3 <| And.intro b1 <| And.intro b2 <| And.intro c0 <| And.intro c1 <| And.intro c2 <| And.intro c3 <| And.intro z1 <| And.intro z2 <| And.intro e16 <| And.intro e17 <| And.intro k17 <| And.intro st' <| And.intro c4' <| c5'
  refine wkB ?_
  exact oF (rone_fin G q hq f true)
theorem rone_2 (G : Globs) (k : Nat) (d n m a imm : Int) (hw : rightB ⟨2, d, n, m, a, imm⟩ = true) (r : List Nat) (hr : RgOk r) (f : FL) :
    alembicref17_One.f G (k + 7) [mV 2 d n m a imm, rgV r, f.a] [] = some (oneV ((doesF ⟨2, d, n, m, a, imm⟩ r f).1, (doesF ⟨2, d, n, m, a, imm⟩ r f).2, true), []) := by
  have r1 : ∀ H, pureCall (alembicref17_Word.f G (k + 6)) [mV 2 d n m a imm] H = _ := fun H => pureCall_of (H := H) (rword_spec G k ⟨2, d, n, m, a, imm⟩) rfl rfl
  rw [hw] at r1
  obtain ⟨_, hd, hn, hm, ha, hf⟩ := right_ok hw
  have himm : 0 ≤ imm ∧ imm < 65536 := by
    unfold rightB at hw
    rw [Bool.and_eq_true] at hw
    obtain ⟨_, h⟩ := hw
    simp [formF, fairB, regB, extraB, immB, halfI, stackB] at h
    omega
  simp only at hd hn hm ha hf
  clear hw
  have ld := hr.get d
  have ln := hr.get n
  have lm := hr.get m
  have la := hr.get a
  have g : ∀ j, 0 ≤ j → j ≤ 31 → ∀ H, pureCall (alembicref17_get.f G (k + 6)) [rgV r, I6 j] H = some (Un (getF r j), H) := fun j h0 h1 H => pureCall_of (H := H) (rget_spec G (k + 5) r hr.len j h0 h1) (by simp [plainL, plainB, plainU]) rfl
  have g1 := g d hd.1 hd.2
  have g2 := g n hn.1 hn.2
  have g3 := g m hm.1 hm.2
  have g4 := g a ha.1 ha.2
  clear g
  have st : ∀ x H, pureCall (alembicref17_set.f G (k + 6)) [rgV r, I6 d, Un x] H = some (rgV (setF r d x), H) := fun x H => pureCall_of (H := H) (rset_spec G (k + 5) r hr.len d hd.1 hd.2 x) (by simp [plainL, plainB, plainU]) (by simp [cleanB, cleanU])
  obtain ⟨ki, hki⟩ : ∃ z, z = u64 imm := ⟨_, rfl⟩
  have hkl : ki < 18446744073709551616 := by rw [hki]; exact u64_lt _
  have hkv : (ki : Int) = imm := by rw [hki]; unfold u64; omega
  have k1 : convInt .u64 (I6 imm) = some (Un ki) := by rw [conv_u64, hki]
  have k2 : bin Tryd.prog .and 3 true (I6 imm) (.int .i64 63) = some (I6 (imm % 64)) := i64_and63 _ _ _ (by omega) (by omega)
  obtain ⟨kj, hkj⟩ : ∃ z : Nat, (z : Int) = imm % 64 := ⟨(imm % 64).toNat, by omega⟩
  rw [← hkj] at k2
  have k3 : convInt .u64 (Nn kj) = some (Un kj) := by rw [convInt_int, wrap_of_u64 (by omega) (by omega)]
  have ed : doesF ⟨2, d, n, m, a, imm⟩ r f = (setF r d (movkF (getF r d) (u64 imm) (16 * a).toNat), f) := by
    unfold doesF madeF
    simp only [Int.reduceEq, or_false, false_or, or_self, or_true, true_or, if_false, if_true, ↓reduceIte]
  rw [ed]
  clear ed
  simp only
  try rw [← hki]
  generalize getF r d = rd at *
  generalize getF r n = rn at *
  generalize getF r m = rm at *
  generalize getF r a = ra at *
  obtain ⟨a0, a3⟩ := hf.1 (by omega)
  obtain ⟨s, hs⟩ : ∃ s : Nat, s = (16 * a).toNat := ⟨_, rfl⟩
  have e16 : bin Tryd.prog .mul 3 true (.int .i64 16) (I6 a) = some (Nn s) := by
    rw [bin_mul, wrap_of_i64 (by omega) (by omega)]; congr 2; omega
  rw [← hs]
  have e17 : convInt .u64 (Nn s) = some (Un s) := by rw [convInt_int, wrap_of_u64 (by omega) (by omega)]
  have k17 := u64_shl Tryd.prog 43 false .u64 ki s (by omega)
  have k18 : bin Tryd.prog .shl 43 true (.int .u64 65535) (Un s) = some (Un (65535 * 2 ^ s % 18446744073709551616)) := u64_shl Tryd.prog 43 true .u64 65535 s (by omega)
  have k19 := bin_andNot Tryd.prog 43 false .u64 (rd : Int) ((65535 * 2 ^ s % 18446744073709551616 : Nat) : Int)
  have k20 : bin Tryd.prog .or 43 false (.int .u64 (bits .andNot .u64 (rd : Int) ((65535 * 2 ^ s % 18446744073709551616 : Nat) : Int))) (Un (ki * 2 ^ s % 18446744073709551616)) = some (Un (movkF rd ki s)) := by
    rw [bin_or]
    unfold movkF
    have hb : ∀ p q : Int, 0 ≤ bits .or .u64 p q ∧ bits .or .u64 p q < 18446744073709551616 := fun p q => by
      show 0 ≤ IntKind.u64.wrap _ ∧ IntKind.u64.wrap _ < _
      rw [wrap_u64_eq]; omega
    have := hb (bits .andNot .u64 (rd : Int) ((65535 * 2 ^ s % 18446744073709551616 : Nat) : Int)) ((ki * 2 ^ s % 18446744073709551616 : Nat) : Int)
    congr 2
    unfold u64
    omega
  clear hs
  generalize ki * 2 ^ s % 18446744073709551616 = z1' at *
  generalize 65535 * 2 ^ s % 18446744073709551616 = z2' at *
  generalize movkF rd ki s = xx at *
  generalize bits .andNot .u64 (rd : Int) (z2' : Int) = z4' at *
  rw [alembicref17_One.step]
  unfold alembicref17_One.c
  rw [zeroRg, zeroRgL]
  have hZ : (List.replicate 31 0 : List Nat).length = 31 := rfl
  have z1 : buildArr 1 (natsU (List.replicate 31 0)) [] = some (rgV (List.replicate 31 0)) := rfl
  have z2 : buildArr 1 [.bool false, .bool false, .bool false, .bool false] [] = some f00.a := rfl
  have b1 : boxA 44 (rgV (List.replicate 31 0)) [] = some (.ptr 0 1 0 0, [⟨44, 31, [rgV (List.replicate 31 0)]⟩]) := boxRg _ rfl []
  have b2 : boxA 53 (.agg [.bool false, .bool false, .bool false, .bool false]) [⟨44, 31, [rgV (List.replicate 31 0)]⟩] = some (.ptr 1 1 0 0, hp2 (List.replicate 31 0) f00) := rfl
  generalize List.replicate 31 0 = Z at *
  have c0 : ∀ H, boxRoA (rgV r) H = some (.rp false (rgV r) 0, H) := fun H => rfl
  have c1 : ∀ H, boxRoA f.a H = some (.rp false f.a 0, H) := fun H => rfl
  have c2 : ∀ H, loadV G true 31 (.rp false (rgV r) 0) H = some (rgV r) := fun H => by
    rw [q_ldrpT, if_pos (by rw [natsU_len, hr.len]; exact Nat.le_refl _), List.drop_zero, List.take_of_length_le (by rw [natsU_len, hr.len]; exact Nat.le_refl _)]
  have c3 : ∀ H, loadV G true 4 (.rp false f.a 0) H = some f.a := fun H => rfl
  have c4 : ∀ q : List Nat, q.length = 31 → stS (storeV 31 (.ptr 0 1 0 0) (rgV q) (hp2 Z f00)) = some (.tup [], hp2 q f00) := fun q hq => stRgA hq hZ rfl
  have c5 : ∀ (q : List Nat) (g : FL), stS (storeV 4 (.ptr 1 1 0 0) g.a (hp2 q f00)) = some (.tup [], hp2 q g) := fun q g => rfl
  have st' := st xx
  have hq := setF_len r hr.len d xx
  generalize setF r d xx = q at *
  have c4' := c4 q hq
  have c5' := c5 q f
  refine e_in ?_
  have fx := And.intro r1 <| And.intro g1 <| And.intro g2 <| And.intro g3 <| And.intro g4 <| And.intro k1 <| And.intro k2 <| And.intro k3 <| And.intro b1 <| And.intro b2 <| And.intro c0 <| And.intro c1 <| And.intro c2 <| And.intro c3 <| And.intro z1 <| And.intro z2 <| And.intro e16 <| And.intro e17 <| And.intro k17 <| And.intro k18 <| And.intro k19 <| And.intro k20 <| And.intro st' <| And.intro c4' <| c5'
  refine wkB ?_
  exact oF (rone_fin G q hq f true)
theorem rone_3 (G : Globs) (k : Nat) (d n m a imm : Int) (hw : rightB ⟨3, d, n, m, a, imm⟩ = true) (r : List Nat) (hr : RgOk r) (f : FL) :
    alembicref17_One.f G (k + 7) [mV 3 d n m a imm, rgV r, f.a] [] = some (oneV ((doesF ⟨3, d, n, m, a, imm⟩ r f).1, (doesF ⟨3, d, n, m, a, imm⟩ r f).2, true), []) := by
  have r1 : ∀ H, pureCall (alembicref17_Word.f G (k + 6)) [mV 3 d n m a imm] H = _ := fun H => pureCall_of (H := H) (rword_spec G k ⟨3, d, n, m, a, imm⟩) rfl rfl
  rw [hw] at r1
  obtain ⟨_, hd, hn, hm, ha, hf⟩ := right_ok hw
  have himm : 0 ≤ imm ∧ imm < 65536 := by
    unfold rightB at hw
    rw [Bool.and_eq_true] at hw
    obtain ⟨_, h⟩ := hw
    simp [formF, fairB, regB, extraB, immB, halfI, stackB] at h
    omega
  simp only at hd hn hm ha hf
  clear hw
  have ld := hr.get d
  have ln := hr.get n
  have lm := hr.get m
  have la := hr.get a
  have g : ∀ j, 0 ≤ j → j ≤ 31 → ∀ H, pureCall (alembicref17_get.f G (k + 6)) [rgV r, I6 j] H = some (Un (getF r j), H) := fun j h0 h1 H => pureCall_of (H := H) (rget_spec G (k + 5) r hr.len j h0 h1) (by simp [plainL, plainB, plainU]) rfl
  have g1 := g d hd.1 hd.2
  have g2 := g n hn.1 hn.2
  have g3 := g m hm.1 hm.2
  have g4 := g a ha.1 ha.2
  clear g
  have st : ∀ x H, pureCall (alembicref17_set.f G (k + 6)) [rgV r, I6 d, Un x] H = some (rgV (setF r d x), H) := fun x H => pureCall_of (H := H) (rset_spec G (k + 5) r hr.len d hd.1 hd.2 x) (by simp [plainL, plainB, plainU]) (by simp [cleanB, cleanU])
  obtain ⟨ki, hki⟩ : ∃ z, z = u64 imm := ⟨_, rfl⟩
  have hkl : ki < 18446744073709551616 := by rw [hki]; exact u64_lt _
  have hkv : (ki : Int) = imm := by rw [hki]; unfold u64; omega
  have k1 : convInt .u64 (I6 imm) = some (Un ki) := by rw [conv_u64, hki]
  have k2 : bin Tryd.prog .and 3 true (I6 imm) (.int .i64 63) = some (I6 (imm % 64)) := i64_and63 _ _ _ (by omega) (by omega)
  obtain ⟨kj, hkj⟩ : ∃ z : Nat, (z : Int) = imm % 64 := ⟨(imm % 64).toNat, by omega⟩
  rw [← hkj] at k2
  have k3 : convInt .u64 (Nn kj) = some (Un kj) := by rw [convInt_int, wrap_of_u64 (by omega) (by omega)]
  have ed : doesF ⟨3, d, n, m, a, imm⟩ r f = (setF r d ((getF r n + getF r m) % 18446744073709551616), f) := by
    unfold doesF madeF
    simp only [Int.reduceEq, or_false, false_or, or_self, or_true, true_or, if_false, if_true, ↓reduceIte]
  rw [ed]
  clear ed
  simp only
  try rw [← hki]
  generalize getF r d = rd at *
  generalize getF r n = rn at *
  generalize getF r m = rm at *
  generalize getF r a = ra at *
  have o1 := u64_add Tryd.prog 43 false rn rm
  generalize (rn + rm) % 18446744073709551616 = xx at *
  rw [alembicref17_One.step]
  unfold alembicref17_One.c
  rw [zeroRg, zeroRgL]
  have hZ : (List.replicate 31 0 : List Nat).length = 31 := rfl
  have z1 : buildArr 1 (natsU (List.replicate 31 0)) [] = some (rgV (List.replicate 31 0)) := rfl
  have z2 : buildArr 1 [.bool false, .bool false, .bool false, .bool false] [] = some f00.a := rfl
  have b1 : boxA 44 (rgV (List.replicate 31 0)) [] = some (.ptr 0 1 0 0, [⟨44, 31, [rgV (List.replicate 31 0)]⟩]) := boxRg _ rfl []
  have b2 : boxA 53 (.agg [.bool false, .bool false, .bool false, .bool false]) [⟨44, 31, [rgV (List.replicate 31 0)]⟩] = some (.ptr 1 1 0 0, hp2 (List.replicate 31 0) f00) := rfl
  generalize List.replicate 31 0 = Z at *
  have c0 : ∀ H, boxRoA (rgV r) H = some (.rp false (rgV r) 0, H) := fun H => rfl
  have c1 : ∀ H, boxRoA f.a H = some (.rp false f.a 0, H) := fun H => rfl
  have c2 : ∀ H, loadV G true 31 (.rp false (rgV r) 0) H = some (rgV r) := fun H => by
    rw [q_ldrpT, if_pos (by rw [natsU_len, hr.len]; exact Nat.le_refl _), List.drop_zero, List.take_of_length_le (by rw [natsU_len, hr.len]; exact Nat.le_refl _)]
  have c3 : ∀ H, loadV G true 4 (.rp false f.a 0) H = some f.a := fun H => rfl
  have c4 : ∀ q : List Nat, q.length = 31 → stS (storeV 31 (.ptr 0 1 0 0) (rgV q) (hp2 Z f00)) = some (.tup [], hp2 q f00) := fun q hq => stRgA hq hZ rfl
  have c5 : ∀ (q : List Nat) (g : FL), stS (storeV 4 (.ptr 1 1 0 0) g.a (hp2 q f00)) = some (.tup [], hp2 q g) := fun q g => rfl
  have st' := st xx
  have hq := setF_len r hr.len d xx
  generalize setF r d xx = q at *
  have c4' := c4 q hq
  have c5' := c5 q f
  refine e_in ?_
  have fx := And.intro r1 <| And.intro g1 <| And.intro g2 <| And.intro g3 <| And.intro g4 <| And.intro k1 <| And.intro k2 <| And.intro k3 <| And.intro b1 <| And.intro b2 <| And.intro c0 <| And.intro c1 <| And.intro c2 <| And.intro c3 <| And.intro z1 <| And.intro z2 <| And.intro o1 <| And.intro st' <| And.intro c4' <| c5'
  refine wkB ?_
  exact oF (rone_fin G q hq f true)
theorem rone_4 (G : Globs) (k : Nat) (d n m a imm : Int) (hw : rightB ⟨4, d, n, m, a, imm⟩ = true) (r : List Nat) (hr : RgOk r) (f : FL) :
    alembicref17_One.f G (k + 7) [mV 4 d n m a imm, rgV r, f.a] [] = some (oneV ((doesF ⟨4, d, n, m, a, imm⟩ r f).1, (doesF ⟨4, d, n, m, a, imm⟩ r f).2, true), []) := by
  have r1 : ∀ H, pureCall (alembicref17_Word.f G (k + 6)) [mV 4 d n m a imm] H = _ := fun H => pureCall_of (H := H) (rword_spec G k ⟨4, d, n, m, a, imm⟩) rfl rfl
  rw [hw] at r1
  obtain ⟨_, hd, hn, hm, ha, hf⟩ := right_ok hw
  have himm : 0 ≤ imm ∧ imm < 65536 := by
    unfold rightB at hw
    rw [Bool.and_eq_true] at hw
    obtain ⟨_, h⟩ := hw
    simp [formF, fairB, regB, extraB, immB, halfI, stackB] at h
    omega
  simp only at hd hn hm ha hf
  clear hw
  have ld := hr.get d
  have ln := hr.get n
  have lm := hr.get m
  have la := hr.get a
  have g : ∀ j, 0 ≤ j → j ≤ 31 → ∀ H, pureCall (alembicref17_get.f G (k + 6)) [rgV r, I6 j] H = some (Un (getF r j), H) := fun j h0 h1 H => pureCall_of (H := H) (rget_spec G (k + 5) r hr.len j h0 h1) (by simp [plainL, plainB, plainU]) rfl
  have g1 := g d hd.1 hd.2
  have g2 := g n hn.1 hn.2
  have g3 := g m hm.1 hm.2
  have g4 := g a ha.1 ha.2
  clear g
  have st : ∀ x H, pureCall (alembicref17_set.f G (k + 6)) [rgV r, I6 d, Un x] H = some (rgV (setF r d x), H) := fun x H => pureCall_of (H := H) (rset_spec G (k + 5) r hr.len d hd.1 hd.2 x) (by simp [plainL, plainB, plainU]) (by simp [cleanB, cleanU])
  obtain ⟨ki, hki⟩ : ∃ z, z = u64 imm := ⟨_, rfl⟩
  have hkl : ki < 18446744073709551616 := by rw [hki]; exact u64_lt _
  have hkv : (ki : Int) = imm := by rw [hki]; unfold u64; omega
  have k1 : convInt .u64 (I6 imm) = some (Un ki) := by rw [conv_u64, hki]
  have k2 : bin Tryd.prog .and 3 true (I6 imm) (.int .i64 63) = some (I6 (imm % 64)) := i64_and63 _ _ _ (by omega) (by omega)
  obtain ⟨kj, hkj⟩ : ∃ z : Nat, (z : Int) = imm % 64 := ⟨(imm % 64).toNat, by omega⟩
  rw [← hkj] at k2
  have k3 : convInt .u64 (Nn kj) = some (Un kj) := by rw [convInt_int, wrap_of_u64 (by omega) (by omega)]
  have ed : doesF ⟨4, d, n, m, a, imm⟩ r f = (setF r d ((getF r n + 18446744073709551616 - getF r m) % 18446744073709551616), f) := by
    unfold doesF madeF
    simp only [Int.reduceEq, or_false, false_or, or_self, or_true, true_or, if_false, if_true, ↓reduceIte]
  rw [ed]
  clear ed
  simp only
  try rw [← hki]
  generalize getF r d = rd at *
  generalize getF r n = rn at *
  generalize getF r m = rm at *
  generalize getF r a = ra at *
  have o1 := u64_sub Tryd.prog 43 false rn rm lm
  generalize (rn + 18446744073709551616 - rm) % 18446744073709551616 = xx at *
  rw [alembicref17_One.step]
  unfold alembicref17_One.c
  rw [zeroRg, zeroRgL]
  have hZ : (List.replicate 31 0 : List Nat).length = 31 := rfl
  have z1 : buildArr 1 (natsU (List.replicate 31 0)) [] = some (rgV (List.replicate 31 0)) := rfl
  have z2 : buildArr 1 [.bool false, .bool false, .bool false, .bool false] [] = some f00.a := rfl
  have b1 : boxA 44 (rgV (List.replicate 31 0)) [] = some (.ptr 0 1 0 0, [⟨44, 31, [rgV (List.replicate 31 0)]⟩]) := boxRg _ rfl []
  have b2 : boxA 53 (.agg [.bool false, .bool false, .bool false, .bool false]) [⟨44, 31, [rgV (List.replicate 31 0)]⟩] = some (.ptr 1 1 0 0, hp2 (List.replicate 31 0) f00) := rfl
  generalize List.replicate 31 0 = Z at *
  have c0 : ∀ H, boxRoA (rgV r) H = some (.rp false (rgV r) 0, H) := fun H => rfl
  have c1 : ∀ H, boxRoA f.a H = some (.rp false f.a 0, H) := fun H => rfl
  have c2 : ∀ H, loadV G true 31 (.rp false (rgV r) 0) H = some (rgV r) := fun H => by
    rw [q_ldrpT, if_pos (by rw [natsU_len, hr.len]; exact Nat.le_refl _), List.drop_zero, List.take_of_length_le (by rw [natsU_len, hr.len]; exact Nat.le_refl _)]
  have c3 : ∀ H, loadV G true 4 (.rp false f.a 0) H = some f.a := fun H => rfl
  have c4 : ∀ q : List Nat, q.length = 31 → stS (storeV 31 (.ptr 0 1 0 0) (rgV q) (hp2 Z f00)) = some (.tup [], hp2 q f00) := fun q hq => stRgA hq hZ rfl
  have c5 : ∀ (q : List Nat) (g : FL), stS (storeV 4 (.ptr 1 1 0 0) g.a (hp2 q f00)) = some (.tup [], hp2 q g) := fun q g => rfl
  have st' := st xx
  have hq := setF_len r hr.len d xx
  generalize setF r d xx = q at *
  have c4' := c4 q hq
  have c5' := c5 q f
  refine e_in ?_
  have fx := And.intro r1 <| And.intro g1 <| And.intro g2 <| And.intro g3 <| And.intro g4 <| And.intro k1 <| And.intro k2 <| And.intro k3 <| And.intro b1 <| And.intro b2 <| And.intro c0 <| And.intro c1 <| And.intro c2 <| And.intro c3 <| And.intro z1 <| And.intro z2 <| And.intro o1 <| And.intro st' <| And.intro c4' <| c5'
  refine wkB ?_
  exact oF (rone_fin G q hq f true)
theorem rone_5 (G : Globs) (k : Nat) (d n m a imm : Int) (hw : rightB ⟨5, d, n, m, a, imm⟩ = true) (r : List Nat) (hr : RgOk r) (f : FL) :
    alembicref17_One.f G (k + 7) [mV 5 d n m a imm, rgV r, f.a] [] = some (oneV ((doesF ⟨5, d, n, m, a, imm⟩ r f).1, (doesF ⟨5, d, n, m, a, imm⟩ r f).2, true), []) := by
  have r1 : ∀ H, pureCall (alembicref17_Word.f G (k + 6)) [mV 5 d n m a imm] H = _ := fun H => pureCall_of (H := H) (rword_spec G k ⟨5, d, n, m, a, imm⟩) rfl rfl
  rw [hw] at r1
  obtain ⟨_, hd, hn, hm, ha, hf⟩ := right_ok hw
  have himm : 0 ≤ imm ∧ imm < 65536 := by
    unfold rightB at hw
    rw [Bool.and_eq_true] at hw
    obtain ⟨_, h⟩ := hw
    simp [formF, fairB, regB, extraB, immB, halfI, stackB] at h
    omega
  simp only at hd hn hm ha hf
  clear hw
  have ld := hr.get d
  have ln := hr.get n
  have lm := hr.get m
  have la := hr.get a
  have g : ∀ j, 0 ≤ j → j ≤ 31 → ∀ H, pureCall (alembicref17_get.f G (k + 6)) [rgV r, I6 j] H = some (Un (getF r j), H) := fun j h0 h1 H => pureCall_of (H := H) (rget_spec G (k + 5) r hr.len j h0 h1) (by simp [plainL, plainB, plainU]) rfl
  have g1 := g d hd.1 hd.2
  have g2 := g n hn.1 hn.2
  have g3 := g m hm.1 hm.2
  have g4 := g a ha.1 ha.2
  clear g
  have st : ∀ x H, pureCall (alembicref17_set.f G (k + 6)) [rgV r, I6 d, Un x] H = some (rgV (setF r d x), H) := fun x H => pureCall_of (H := H) (rset_spec G (k + 5) r hr.len d hd.1 hd.2 x) (by simp [plainL, plainB, plainU]) (by simp [cleanB, cleanU])
  obtain ⟨ki, hki⟩ : ∃ z, z = u64 imm := ⟨_, rfl⟩
  have hkl : ki < 18446744073709551616 := by rw [hki]; exact u64_lt _
  have hkv : (ki : Int) = imm := by rw [hki]; unfold u64; omega
  have k1 : convInt .u64 (I6 imm) = some (Un ki) := by rw [conv_u64, hki]
  have k2 : bin Tryd.prog .and 3 true (I6 imm) (.int .i64 63) = some (I6 (imm % 64)) := i64_and63 _ _ _ (by omega) (by omega)
  obtain ⟨kj, hkj⟩ : ∃ z : Nat, (z : Int) = imm % 64 := ⟨(imm % 64).toNat, by omega⟩
  rw [← hkj] at k2
  have k3 : convInt .u64 (Nn kj) = some (Un kj) := by rw [convInt_int, wrap_of_u64 (by omega) (by omega)]
  have ed : doesF ⟨5, d, n, m, a, imm⟩ r f = (setF r d (getF r n &&& getF r m), f) := by
    unfold doesF madeF
    simp only [Int.reduceEq, or_false, false_or, or_self, or_true, true_or, if_false, if_true, ↓reduceIte]
  rw [ed]
  clear ed
  simp only
  try rw [← hki]
  generalize getF r d = rd at *
  generalize getF r n = rn at *
  generalize getF r m = rm at *
  generalize getF r a = ra at *
  have o1 : bin Tryd.prog .and 43 false (Un rn) (Un rm) = some (Un (rn &&& rm)) := by rw [bin_and, u64_and rn rm ln lm]
  generalize rn &&& rm = xx at *
  rw [alembicref17_One.step]
  unfold alembicref17_One.c
  rw [zeroRg, zeroRgL]
  have hZ : (List.replicate 31 0 : List Nat).length = 31 := rfl
  have z1 : buildArr 1 (natsU (List.replicate 31 0)) [] = some (rgV (List.replicate 31 0)) := rfl
  have z2 : buildArr 1 [.bool false, .bool false, .bool false, .bool false] [] = some f00.a := rfl
  have b1 : boxA 44 (rgV (List.replicate 31 0)) [] = some (.ptr 0 1 0 0, [⟨44, 31, [rgV (List.replicate 31 0)]⟩]) := boxRg _ rfl []
  have b2 : boxA 53 (.agg [.bool false, .bool false, .bool false, .bool false]) [⟨44, 31, [rgV (List.replicate 31 0)]⟩] = some (.ptr 1 1 0 0, hp2 (List.replicate 31 0) f00) := rfl
  generalize List.replicate 31 0 = Z at *
  have c0 : ∀ H, boxRoA (rgV r) H = some (.rp false (rgV r) 0, H) := fun H => rfl
  have c1 : ∀ H, boxRoA f.a H = some (.rp false f.a 0, H) := fun H => rfl
  have c2 : ∀ H, loadV G true 31 (.rp false (rgV r) 0) H = some (rgV r) := fun H => by
    rw [q_ldrpT, if_pos (by rw [natsU_len, hr.len]; exact Nat.le_refl _), List.drop_zero, List.take_of_length_le (by rw [natsU_len, hr.len]; exact Nat.le_refl _)]
  have c3 : ∀ H, loadV G true 4 (.rp false f.a 0) H = some f.a := fun H => rfl
  have c4 : ∀ q : List Nat, q.length = 31 → stS (storeV 31 (.ptr 0 1 0 0) (rgV q) (hp2 Z f00)) = some (.tup [], hp2 q f00) := fun q hq => stRgA hq hZ rfl
  have c5 : ∀ (q : List Nat) (g : FL), stS (storeV 4 (.ptr 1 1 0 0) g.a (hp2 q f00)) = some (.tup [], hp2 q g) := fun q g => rfl
  have st' := st xx
  have hq := setF_len r hr.len d xx
  generalize setF r d xx = q at *
  have c4' := c4 q hq
  have c5' := c5 q f
  refine e_in ?_
  have fx := And.intro r1 <| And.intro g1 <| And.intro g2 <| And.intro g3 <| And.intro g4 <| And.intro k1 <| And.intro k2 <| And.intro k3 <| And.intro b1 <| And.intro b2 <| And.intro c0 <| And.intro c1 <| And.intro c2 <| And.intro c3 <| And.intro z1 <| And.intro z2 <| And.intro o1 <| And.intro st' <| And.intro c4' <| c5'
  refine wkB ?_
  exact oF (rone_fin G q hq f true)
theorem rone_6 (G : Globs) (k : Nat) (d n m a imm : Int) (hw : rightB ⟨6, d, n, m, a, imm⟩ = true) (r : List Nat) (hr : RgOk r) (f : FL) :
    alembicref17_One.f G (k + 7) [mV 6 d n m a imm, rgV r, f.a] [] = some (oneV ((doesF ⟨6, d, n, m, a, imm⟩ r f).1, (doesF ⟨6, d, n, m, a, imm⟩ r f).2, true), []) := by
  have r1 : ∀ H, pureCall (alembicref17_Word.f G (k + 6)) [mV 6 d n m a imm] H = _ := fun H => pureCall_of (H := H) (rword_spec G k ⟨6, d, n, m, a, imm⟩) rfl rfl
  rw [hw] at r1
  obtain ⟨_, hd, hn, hm, ha, hf⟩ := right_ok hw
  have himm : 0 ≤ imm ∧ imm < 65536 := by
    unfold rightB at hw
    rw [Bool.and_eq_true] at hw
    obtain ⟨_, h⟩ := hw
    simp [formF, fairB, regB, extraB, immB, halfI, stackB] at h
    omega
  simp only at hd hn hm ha hf
  clear hw
  have ld := hr.get d
  have ln := hr.get n
  have lm := hr.get m
  have la := hr.get a
  have g : ∀ j, 0 ≤ j → j ≤ 31 → ∀ H, pureCall (alembicref17_get.f G (k + 6)) [rgV r, I6 j] H = some (Un (getF r j), H) := fun j h0 h1 H => pureCall_of (H := H) (rget_spec G (k + 5) r hr.len j h0 h1) (by simp [plainL, plainB, plainU]) rfl
  have g1 := g d hd.1 hd.2
  have g2 := g n hn.1 hn.2
  have g3 := g m hm.1 hm.2
  have g4 := g a ha.1 ha.2
  clear g
  have st : ∀ x H, pureCall (alembicref17_set.f G (k + 6)) [rgV r, I6 d, Un x] H = some (rgV (setF r d x), H) := fun x H => pureCall_of (H := H) (rset_spec G (k + 5) r hr.len d hd.1 hd.2 x) (by simp [plainL, plainB, plainU]) (by simp [cleanB, cleanU])
  obtain ⟨ki, hki⟩ : ∃ z, z = u64 imm := ⟨_, rfl⟩
  have hkl : ki < 18446744073709551616 := by rw [hki]; exact u64_lt _
  have hkv : (ki : Int) = imm := by rw [hki]; unfold u64; omega
  have k1 : convInt .u64 (I6 imm) = some (Un ki) := by rw [conv_u64, hki]
  have k2 : bin Tryd.prog .and 3 true (I6 imm) (.int .i64 63) = some (I6 (imm % 64)) := i64_and63 _ _ _ (by omega) (by omega)
  obtain ⟨kj, hkj⟩ : ∃ z : Nat, (z : Int) = imm % 64 := ⟨(imm % 64).toNat, by omega⟩
  rw [← hkj] at k2
  have k3 : convInt .u64 (Nn kj) = some (Un kj) := by rw [convInt_int, wrap_of_u64 (by omega) (by omega)]
  have ed : doesF ⟨6, d, n, m, a, imm⟩ r f = (setF r d (getF r n ||| getF r m), f) := by
    unfold doesF madeF
    simp only [Int.reduceEq, or_false, false_or, or_self, or_true, true_or, if_false, if_true, ↓reduceIte]
  rw [ed]
  clear ed
  simp only
  try rw [← hki]
  generalize getF r d = rd at *
  generalize getF r n = rn at *
  generalize getF r m = rm at *
  generalize getF r a = ra at *
  have o1 : bin Tryd.prog .or 43 false (Un rn) (Un rm) = some (Un (rn ||| rm)) := by rw [bin_or, u64_or rn rm ln lm]
  generalize rn ||| rm = xx at *
  rw [alembicref17_One.step]
  unfold alembicref17_One.c
  rw [zeroRg, zeroRgL]
  have hZ : (List.replicate 31 0 : List Nat).length = 31 := rfl
  have z1 : buildArr 1 (natsU (List.replicate 31 0)) [] = some (rgV (List.replicate 31 0)) := rfl
  have z2 : buildArr 1 [.bool false, .bool false, .bool false, .bool false] [] = some f00.a := rfl
  have b1 : boxA 44 (rgV (List.replicate 31 0)) [] = some (.ptr 0 1 0 0, [⟨44, 31, [rgV (List.replicate 31 0)]⟩]) := boxRg _ rfl []
  have b2 : boxA 53 (.agg [.bool false, .bool false, .bool false, .bool false]) [⟨44, 31, [rgV (List.replicate 31 0)]⟩] = some (.ptr 1 1 0 0, hp2 (List.replicate 31 0) f00) := rfl
  generalize List.replicate 31 0 = Z at *
  have c0 : ∀ H, boxRoA (rgV r) H = some (.rp false (rgV r) 0, H) := fun H => rfl
  have c1 : ∀ H, boxRoA f.a H = some (.rp false f.a 0, H) := fun H => rfl
  have c2 : ∀ H, loadV G true 31 (.rp false (rgV r) 0) H = some (rgV r) := fun H => by
    rw [q_ldrpT, if_pos (by rw [natsU_len, hr.len]; exact Nat.le_refl _), List.drop_zero, List.take_of_length_le (by rw [natsU_len, hr.len]; exact Nat.le_refl _)]
  have c3 : ∀ H, loadV G true 4 (.rp false f.a 0) H = some f.a := fun H => rfl
  have c4 : ∀ q : List Nat, q.length = 31 → stS (storeV 31 (.ptr 0 1 0 0) (rgV q) (hp2 Z f00)) = some (.tup [], hp2 q f00) := fun q hq => stRgA hq hZ rfl
  have c5 : ∀ (q : List Nat) (g : FL), stS (storeV 4 (.ptr 1 1 0 0) g.a (hp2 q f00)) = some (.tup [], hp2 q g) := fun q g => rfl
  have st' := st xx
  have hq := setF_len r hr.len d xx
  generalize setF r d xx = q at *
  have c4' := c4 q hq
  have c5' := c5 q f
  refine e_in ?_
  have fx := And.intro r1 <| And.intro g1 <| And.intro g2 <| And.intro g3 <| And.intro g4 <| And.intro k1 <| And.intro k2 <| And.intro k3 <| And.intro b1 <| And.intro b2 <| And.intro c0 <| And.intro c1 <| And.intro c2 <| And.intro c3 <| And.intro z1 <| And.intro z2 <| And.intro o1 <| And.intro st' <| And.intro c4' <| c5'
  refine wkB ?_
  exact oF (rone_fin G q hq f true)
theorem rone_7 (G : Globs) (k : Nat) (d n m a imm : Int) (hw : rightB ⟨7, d, n, m, a, imm⟩ = true) (r : List Nat) (hr : RgOk r) (f : FL) :
    alembicref17_One.f G (k + 7) [mV 7 d n m a imm, rgV r, f.a] [] = some (oneV ((doesF ⟨7, d, n, m, a, imm⟩ r f).1, (doesF ⟨7, d, n, m, a, imm⟩ r f).2, true), []) := by
  have r1 : ∀ H, pureCall (alembicref17_Word.f G (k + 6)) [mV 7 d n m a imm] H = _ := fun H => pureCall_of (H := H) (rword_spec G k ⟨7, d, n, m, a, imm⟩) rfl rfl
  rw [hw] at r1
  obtain ⟨_, hd, hn, hm, ha, hf⟩ := right_ok hw
  have himm : 0 ≤ imm ∧ imm < 65536 := by
    unfold rightB at hw
    rw [Bool.and_eq_true] at hw
    obtain ⟨_, h⟩ := hw
    simp [formF, fairB, regB, extraB, immB, halfI, stackB] at h
    omega
  simp only at hd hn hm ha hf
  clear hw
  have ld := hr.get d
  have ln := hr.get n
  have lm := hr.get m
  have la := hr.get a
  have g : ∀ j, 0 ≤ j → j ≤ 31 → ∀ H, pureCall (alembicref17_get.f G (k + 6)) [rgV r, I6 j] H = some (Un (getF r j), H) := fun j h0 h1 H => pureCall_of (H := H) (rget_spec G (k + 5) r hr.len j h0 h1) (by simp [plainL, plainB, plainU]) rfl
  have g1 := g d hd.1 hd.2
  have g2 := g n hn.1 hn.2
  have g3 := g m hm.1 hm.2
  have g4 := g a ha.1 ha.2
  clear g
  have st : ∀ x H, pureCall (alembicref17_set.f G (k + 6)) [rgV r, I6 d, Un x] H = some (rgV (setF r d x), H) := fun x H => pureCall_of (H := H) (rset_spec G (k + 5) r hr.len d hd.1 hd.2 x) (by simp [plainL, plainB, plainU]) (by simp [cleanB, cleanU])
  obtain ⟨ki, hki⟩ : ∃ z, z = u64 imm := ⟨_, rfl⟩
  have hkl : ki < 18446744073709551616 := by rw [hki]; exact u64_lt _
  have hkv : (ki : Int) = imm := by rw [hki]; unfold u64; omega
  have k1 : convInt .u64 (I6 imm) = some (Un ki) := by rw [conv_u64, hki]
  have k2 : bin Tryd.prog .and 3 true (I6 imm) (.int .i64 63) = some (I6 (imm % 64)) := i64_and63 _ _ _ (by omega) (by omega)
  obtain ⟨kj, hkj⟩ : ∃ z : Nat, (z : Int) = imm % 64 := ⟨(imm % 64).toNat, by omega⟩
  rw [← hkj] at k2
  have k3 : convInt .u64 (Nn kj) = some (Un kj) := by rw [convInt_int, wrap_of_u64 (by omega) (by omega)]
  have ed : doesF ⟨7, d, n, m, a, imm⟩ r f = (setF r d (getF r n ^^^ getF r m), f) := by
    unfold doesF madeF
    simp only [Int.reduceEq, or_false, false_or, or_self, or_true, true_or, if_false, if_true, ↓reduceIte]
  rw [ed]
  clear ed
  simp only
  try rw [← hki]
  generalize getF r d = rd at *
  generalize getF r n = rn at *
  generalize getF r m = rm at *
  generalize getF r a = ra at *
  have o1 : bin Tryd.prog .xor 43 false (Un rn) (Un rm) = some (Un (rn ^^^ rm)) := by rw [bin_xor, u64_xor rn rm ln lm]
  generalize rn ^^^ rm = xx at *
  rw [alembicref17_One.step]
  unfold alembicref17_One.c
  rw [zeroRg, zeroRgL]
  have hZ : (List.replicate 31 0 : List Nat).length = 31 := rfl
  have z1 : buildArr 1 (natsU (List.replicate 31 0)) [] = some (rgV (List.replicate 31 0)) := rfl
  have z2 : buildArr 1 [.bool false, .bool false, .bool false, .bool false] [] = some f00.a := rfl
  have b1 : boxA 44 (rgV (List.replicate 31 0)) [] = some (.ptr 0 1 0 0, [⟨44, 31, [rgV (List.replicate 31 0)]⟩]) := boxRg _ rfl []
  have b2 : boxA 53 (.agg [.bool false, .bool false, .bool false, .bool false]) [⟨44, 31, [rgV (List.replicate 31 0)]⟩] = some (.ptr 1 1 0 0, hp2 (List.replicate 31 0) f00) := rfl
  generalize List.replicate 31 0 = Z at *
  have c0 : ∀ H, boxRoA (rgV r) H = some (.rp false (rgV r) 0, H) := fun H => rfl
  have c1 : ∀ H, boxRoA f.a H = some (.rp false f.a 0, H) := fun H => rfl
  have c2 : ∀ H, loadV G true 31 (.rp false (rgV r) 0) H = some (rgV r) := fun H => by
    rw [q_ldrpT, if_pos (by rw [natsU_len, hr.len]; exact Nat.le_refl _), List.drop_zero, List.take_of_length_le (by rw [natsU_len, hr.len]; exact Nat.le_refl _)]
  have c3 : ∀ H, loadV G true 4 (.rp false f.a 0) H = some f.a := fun H => rfl
  have c4 : ∀ q : List Nat, q.length = 31 → stS (storeV 31 (.ptr 0 1 0 0) (rgV q) (hp2 Z f00)) = some (.tup [], hp2 q f00) := fun q hq => stRgA hq hZ rfl
  have c5 : ∀ (q : List Nat) (g : FL), stS (storeV 4 (.ptr 1 1 0 0) g.a (hp2 q f00)) = some (.tup [], hp2 q g) := fun q g => rfl
  have st' := st xx
  have hq := setF_len r hr.len d xx
  generalize setF r d xx = q at *
  have c4' := c4 q hq
  have c5' := c5 q f
  refine e_in ?_
  have fx := And.intro r1 <| And.intro g1 <| And.intro g2 <| And.intro g3 <| And.intro g4 <| And.intro k1 <| And.intro k2 <| And.intro k3 <| And.intro b1 <| And.intro b2 <| And.intro c0 <| And.intro c1 <| And.intro c2 <| And.intro c3 <| And.intro z1 <| And.intro z2 <| And.intro o1 <| And.intro st' <| And.intro c4' <| c5'
  refine wkB ?_
  exact oF (rone_fin G q hq f true)
theorem rone_8 (G : Globs) (k : Nat) (d n m a imm : Int) (hw : rightB ⟨8, d, n, m, a, imm⟩ = true) (r : List Nat) (hr : RgOk r) (f : FL) :
    alembicref17_One.f G (k + 7) [mV 8 d n m a imm, rgV r, f.a] [] = some (oneV ((doesF ⟨8, d, n, m, a, imm⟩ r f).1, (doesF ⟨8, d, n, m, a, imm⟩ r f).2, true), []) := by
  have r1 : ∀ H, pureCall (alembicref17_Word.f G (k + 6)) [mV 8 d n m a imm] H = _ := fun H => pureCall_of (H := H) (rword_spec G k ⟨8, d, n, m, a, imm⟩) rfl rfl
  rw [hw] at r1
  obtain ⟨_, hd, hn, hm, ha, hf⟩ := right_ok hw
  have himm : 0 ≤ imm ∧ imm < 65536 := by
    unfold rightB at hw
    rw [Bool.and_eq_true] at hw
    obtain ⟨_, h⟩ := hw
    simp [formF, fairB, regB, extraB, immB, halfI, stackB] at h
    omega
  simp only at hd hn hm ha hf
  clear hw
  have ld := hr.get d
  have ln := hr.get n
  have lm := hr.get m
  have la := hr.get a
  have g : ∀ j, 0 ≤ j → j ≤ 31 → ∀ H, pureCall (alembicref17_get.f G (k + 6)) [rgV r, I6 j] H = some (Un (getF r j), H) := fun j h0 h1 H => pureCall_of (H := H) (rget_spec G (k + 5) r hr.len j h0 h1) (by simp [plainL, plainB, plainU]) rfl
  have g1 := g d hd.1 hd.2
  have g2 := g n hn.1 hn.2
  have g3 := g m hm.1 hm.2
  have g4 := g a ha.1 ha.2
  clear g
  have st : ∀ x H, pureCall (alembicref17_set.f G (k + 6)) [rgV r, I6 d, Un x] H = some (rgV (setF r d x), H) := fun x H => pureCall_of (H := H) (rset_spec G (k + 5) r hr.len d hd.1 hd.2 x) (by simp [plainL, plainB, plainU]) (by simp [cleanB, cleanU])
  obtain ⟨ki, hki⟩ : ∃ z, z = u64 imm := ⟨_, rfl⟩
  have hkl : ki < 18446744073709551616 := by rw [hki]; exact u64_lt _
  have hkv : (ki : Int) = imm := by rw [hki]; unfold u64; omega
  have k1 : convInt .u64 (I6 imm) = some (Un ki) := by rw [conv_u64, hki]
  have k2 : bin Tryd.prog .and 3 true (I6 imm) (.int .i64 63) = some (I6 (imm % 64)) := i64_and63 _ _ _ (by omega) (by omega)
  obtain ⟨kj, hkj⟩ : ∃ z : Nat, (z : Int) = imm % 64 := ⟨(imm % 64).toNat, by omega⟩
  rw [← hkj] at k2
  have k3 : convInt .u64 (Nn kj) = some (Un kj) := by rw [convInt_int, wrap_of_u64 (by omega) (by omega)]
  have ed : doesF ⟨8, d, n, m, a, imm⟩ r f = (setF r d ((getF r n * getF r m % 18446744073709551616 + getF r a) % 18446744073709551616), f) := by
    unfold doesF madeF
    simp only [Int.reduceEq, or_false, false_or, or_self, or_true, true_or, if_false, if_true, ↓reduceIte]
  rw [ed]
  clear ed
  simp only
  try rw [← hki]
  generalize getF r d = rd at *
  generalize getF r n = rn at *
  generalize getF r m = rm at *
  generalize getF r a = ra at *
  have o1 := u64_mul Tryd.prog 43 false rn rm
  generalize rn * rm % 18446744073709551616 = z1' at *
  have o2 := u64_add Tryd.prog 43 false z1' ra
  generalize (z1' + ra) % 18446744073709551616 = xx at *
  rw [alembicref17_One.step]
  unfold alembicref17_One.c
  rw [zeroRg, zeroRgL]
  have hZ : (List.replicate 31 0 : List Nat).length = 31 := rfl
  have z1 : buildArr 1 (natsU (List.replicate 31 0)) [] = some (rgV (List.replicate 31 0)) := rfl
  have z2 : buildArr 1 [.bool false, .bool false, .bool false, .bool false] [] = some f00.a := rfl
  have b1 : boxA 44 (rgV (List.replicate 31 0)) [] = some (.ptr 0 1 0 0, [⟨44, 31, [rgV (List.replicate 31 0)]⟩]) := boxRg _ rfl []
  have b2 : boxA 53 (.agg [.bool false, .bool false, .bool false, .bool false]) [⟨44, 31, [rgV (List.replicate 31 0)]⟩] = some (.ptr 1 1 0 0, hp2 (List.replicate 31 0) f00) := rfl
  generalize List.replicate 31 0 = Z at *
  have c0 : ∀ H, boxRoA (rgV r) H = some (.rp false (rgV r) 0, H) := fun H => rfl
  have c1 : ∀ H, boxRoA f.a H = some (.rp false f.a 0, H) := fun H => rfl
  have c2 : ∀ H, loadV G true 31 (.rp false (rgV r) 0) H = some (rgV r) := fun H => by
    rw [q_ldrpT, if_pos (by rw [natsU_len, hr.len]; exact Nat.le_refl _), List.drop_zero, List.take_of_length_le (by rw [natsU_len, hr.len]; exact Nat.le_refl _)]
  have c3 : ∀ H, loadV G true 4 (.rp false f.a 0) H = some f.a := fun H => rfl
  have c4 : ∀ q : List Nat, q.length = 31 → stS (storeV 31 (.ptr 0 1 0 0) (rgV q) (hp2 Z f00)) = some (.tup [], hp2 q f00) := fun q hq => stRgA hq hZ rfl
  have c5 : ∀ (q : List Nat) (g : FL), stS (storeV 4 (.ptr 1 1 0 0) g.a (hp2 q f00)) = some (.tup [], hp2 q g) := fun q g => rfl
  have st' := st xx
  have hq := setF_len r hr.len d xx
  generalize setF r d xx = q at *
  have c4' := c4 q hq
  have c5' := c5 q f
  refine e_in ?_
  have fx := And.intro r1 <| And.intro g1 <| And.intro g2 <| And.intro g3 <| And.intro g4 <| And.intro k1 <| And.intro k2 <| And.intro k3 <| And.intro b1 <| And.intro b2 <| And.intro c0 <| And.intro c1 <| And.intro c2 <| And.intro c3 <| And.intro z1 <| And.intro z2 <| And.intro o1 <| And.intro o2 <| And.intro st' <| And.intro c4' <| c5'
  refine wkB ?_
  exact oF (rone_fin G q hq f true)
theorem rone_9 (G : Globs) (k : Nat) (d n m a imm : Int) (hw : rightB ⟨9, d, n, m, a, imm⟩ = true) (r : List Nat) (hr : RgOk r) (f : FL) :
    alembicref17_One.f G (k + 7) [mV 9 d n m a imm, rgV r, f.a] [] = some (oneV ((doesF ⟨9, d, n, m, a, imm⟩ r f).1, (doesF ⟨9, d, n, m, a, imm⟩ r f).2, true), []) := by
  have r1 : ∀ H, pureCall (alembicref17_Word.f G (k + 6)) [mV 9 d n m a imm] H = _ := fun H => pureCall_of (H := H) (rword_spec G k ⟨9, d, n, m, a, imm⟩) rfl rfl
  rw [hw] at r1
  obtain ⟨_, hd, hn, hm, ha, hf⟩ := right_ok hw
  have himm : 0 ≤ imm ∧ imm < 65536 := by
    unfold rightB at hw
    rw [Bool.and_eq_true] at hw
    obtain ⟨_, h⟩ := hw
    simp [formF, fairB, regB, extraB, immB, halfI, stackB] at h
    omega
  simp only at hd hn hm ha hf
  clear hw
  have ld := hr.get d
  have ln := hr.get n
  have lm := hr.get m
  have la := hr.get a
  have g : ∀ j, 0 ≤ j → j ≤ 31 → ∀ H, pureCall (alembicref17_get.f G (k + 6)) [rgV r, I6 j] H = some (Un (getF r j), H) := fun j h0 h1 H => pureCall_of (H := H) (rget_spec G (k + 5) r hr.len j h0 h1) (by simp [plainL, plainB, plainU]) rfl
  have g1 := g d hd.1 hd.2
  have g2 := g n hn.1 hn.2
  have g3 := g m hm.1 hm.2
  have g4 := g a ha.1 ha.2
  clear g
  have st : ∀ x H, pureCall (alembicref17_set.f G (k + 6)) [rgV r, I6 d, Un x] H = some (rgV (setF r d x), H) := fun x H => pureCall_of (H := H) (rset_spec G (k + 5) r hr.len d hd.1 hd.2 x) (by simp [plainL, plainB, plainU]) (by simp [cleanB, cleanU])
  obtain ⟨ki, hki⟩ : ∃ z, z = u64 imm := ⟨_, rfl⟩
  have hkl : ki < 18446744073709551616 := by rw [hki]; exact u64_lt _
  have hkv : (ki : Int) = imm := by rw [hki]; unfold u64; omega
  have k1 : convInt .u64 (I6 imm) = some (Un ki) := by rw [conv_u64, hki]
  have k2 : bin Tryd.prog .and 3 true (I6 imm) (.int .i64 63) = some (I6 (imm % 64)) := i64_and63 _ _ _ (by omega) (by omega)
  obtain ⟨kj, hkj⟩ : ∃ z : Nat, (z : Int) = imm % 64 := ⟨(imm % 64).toNat, by omega⟩
  rw [← hkj] at k2
  have k3 : convInt .u64 (Nn kj) = some (Un kj) := by rw [convInt_int, wrap_of_u64 (by omega) (by omega)]
  have ed : doesF ⟨9, d, n, m, a, imm⟩ r f = (setF r d (getF r n * getF r m / 18446744073709551616), f) := by
    unfold doesF madeF
    simp only [Int.reduceEq, or_false, false_or, or_self, or_true, true_or, if_false, if_true, ↓reduceIte]
  rw [ed]
  clear ed
  simp only
  try rw [← hki]
  generalize getF r d = rd at *
  generalize getF r n = rn at *
  generalize getF r m = rm at *
  generalize getF r a = ra at *
  have o1 : ∀ H, pureCall (math_bits_Mul64.f G (k + 6)) [Un rn, Un rm] H = _ := fun H => pureCall_of (H := H) (mul64_spec G (k + 5) rn rm ln lm) rfl rfl
  generalize rn * rm / 18446744073709551616 = xx at *
  rw [alembicref17_One.step]
  unfold alembicref17_One.c
  rw [zeroRg, zeroRgL]
  have hZ : (List.replicate 31 0 : List Nat).length = 31 := rfl
  have z1 : buildArr 1 (natsU (List.replicate 31 0)) [] = some (rgV (List.replicate 31 0)) := rfl
  have z2 : buildArr 1 [.bool false, .bool false, .bool false, .bool false] [] = some f00.a := rfl
  have b1 : boxA 44 (rgV (List.replicate 31 0)) [] = some (.ptr 0 1 0 0, [⟨44, 31, [rgV (List.replicate 31 0)]⟩]) := boxRg _ rfl []
  have b2 : boxA 53 (.agg [.bool false, .bool false, .bool false, .bool false]) [⟨44, 31, [rgV (List.replicate 31 0)]⟩] = some (.ptr 1 1 0 0, hp2 (List.replicate 31 0) f00) := rfl
  generalize List.replicate 31 0 = Z at *
  have c0 : ∀ H, boxRoA (rgV r) H = some (.rp false (rgV r) 0, H) := fun H => rfl
  have c1 : ∀ H, boxRoA f.a H = some (.rp false f.a 0, H) := fun H => rfl
  have c2 : ∀ H, loadV G true 31 (.rp false (rgV r) 0) H = some (rgV r) := fun H => by
    rw [q_ldrpT, if_pos (by rw [natsU_len, hr.len]; exact Nat.le_refl _), List.drop_zero, List.take_of_length_le (by rw [natsU_len, hr.len]; exact Nat.le_refl _)]
  have c3 : ∀ H, loadV G true 4 (.rp false f.a 0) H = some f.a := fun H => rfl
  have c4 : ∀ q : List Nat, q.length = 31 → stS (storeV 31 (.ptr 0 1 0 0) (rgV q) (hp2 Z f00)) = some (.tup [], hp2 q f00) := fun q hq => stRgA hq hZ rfl
  have c5 : ∀ (q : List Nat) (g : FL), stS (storeV 4 (.ptr 1 1 0 0) g.a (hp2 q f00)) = some (.tup [], hp2 q g) := fun q g => rfl
  have st' := st xx
  have hq := setF_len r hr.len d xx
  generalize setF r d xx = q at *
  have c4' := c4 q hq
  have c5' := c5 q f
  refine e_in ?_
  have fx := And.intro r1 <| And.intro g1 <| And.intro g2 <| And.intro g3 <| And.intro g4 <| And.intro k1 <| And.intro k2 <| And.intro k3 <| And.intro b1 <| And.intro b2 <| And.intro c0 <| And.intro c1 <| And.intro c2 <| And.intro c3 <| And.intro z1 <| And.intro z2 <| And.intro o1 <| And.intro st' <| And.intro c4' <| c5'
  refine wkB ?_
  exact oF (rone_fin G q hq f true)
theorem rone_10 (G : Globs) (k : Nat) (d n m a imm : Int) (hw : rightB ⟨10, d, n, m, a, imm⟩ = true) (r : List Nat) (hr : RgOk r) (f : FL) :
    alembicref17_One.f G (k + 7) [mV 10 d n m a imm, rgV r, f.a] [] = some (oneV ((doesF ⟨10, d, n, m, a, imm⟩ r f).1, (doesF ⟨10, d, n, m, a, imm⟩ r f).2, true), []) := by
  have r1 : ∀ H, pureCall (alembicref17_Word.f G (k + 6)) [mV 10 d n m a imm] H = _ := fun H => pureCall_of (H := H) (rword_spec G k ⟨10, d, n, m, a, imm⟩) rfl rfl
  rw [hw] at r1
  obtain ⟨_, hd, hn, hm, ha, hf⟩ := right_ok hw
  have himm : 0 ≤ imm ∧ imm < 65536 := by
    unfold rightB at hw
    rw [Bool.and_eq_true] at hw
    obtain ⟨_, h⟩ := hw
    simp [formF, fairB, regB, extraB, immB, halfI, stackB] at h
    omega
  simp only at hd hn hm ha hf
  clear hw
  have ld := hr.get d
  have ln := hr.get n
  have lm := hr.get m
  have la := hr.get a
  have g : ∀ j, 0 ≤ j → j ≤ 31 → ∀ H, pureCall (alembicref17_get.f G (k + 6)) [rgV r, I6 j] H = some (Un (getF r j), H) := fun j h0 h1 H => pureCall_of (H := H) (rget_spec G (k + 5) r hr.len j h0 h1) (by simp [plainL, plainB, plainU]) rfl
  have g1 := g d hd.1 hd.2
  have g2 := g n hn.1 hn.2
  have g3 := g m hm.1 hm.2
  have g4 := g a ha.1 ha.2
  clear g
  have st : ∀ x H, pureCall (alembicref17_set.f G (k + 6)) [rgV r, I6 d, Un x] H = some (rgV (setF r d x), H) := fun x H => pureCall_of (H := H) (rset_spec G (k + 5) r hr.len d hd.1 hd.2 x) (by simp [plainL, plainB, plainU]) (by simp [cleanB, cleanU])
  obtain ⟨ki, hki⟩ : ∃ z, z = u64 imm := ⟨_, rfl⟩
  have hkl : ki < 18446744073709551616 := by rw [hki]; exact u64_lt _
  have hkv : (ki : Int) = imm := by rw [hki]; unfold u64; omega
  have k1 : convInt .u64 (I6 imm) = some (Un ki) := by rw [conv_u64, hki]
  have k2 : bin Tryd.prog .and 3 true (I6 imm) (.int .i64 63) = some (I6 (imm % 64)) := i64_and63 _ _ _ (by omega) (by omega)
  obtain ⟨kj, hkj⟩ : ∃ z : Nat, (z : Int) = imm % 64 := ⟨(imm % 64).toNat, by omega⟩
  rw [← hkj] at k2
  have k3 : convInt .u64 (Nn kj) = some (Un kj) := by rw [convInt_int, wrap_of_u64 (by omega) (by omega)]
  have ed : doesF ⟨10, d, n, m, a, imm⟩ r f = (setF r d ((getF r n + u64 imm) % 18446744073709551616), f) := by
    unfold doesF madeF
    simp only [Int.reduceEq, or_false, false_or, or_self, or_true, true_or, if_false, if_true, ↓reduceIte]
  rw [ed]
  clear ed
  simp only
  try rw [← hki]
  generalize getF r d = rd at *
  generalize getF r n = rn at *
  generalize getF r m = rm at *
  generalize getF r a = ra at *
  have o1 := u64_add Tryd.prog 43 false rn ki
  generalize (rn + ki) % 18446744073709551616 = xx at *
  rw [alembicref17_One.step]
  unfold alembicref17_One.c
  rw [zeroRg, zeroRgL]
  have hZ : (List.replicate 31 0 : List Nat).length = 31 := rfl
  have z1 : buildArr 1 (natsU (List.replicate 31 0)) [] = some (rgV (List.replicate 31 0)) := rfl
  have z2 : buildArr 1 [.bool false, .bool false, .bool false, .bool false] [] = some f00.a := rfl
  have b1 : boxA 44 (rgV (List.replicate 31 0)) [] = some (.ptr 0 1 0 0, [⟨44, 31, [rgV (List.replicate 31 0)]⟩]) := boxRg _ rfl []
  have b2 : boxA 53 (.agg [.bool false, .bool false, .bool false, .bool false]) [⟨44, 31, [rgV (List.replicate 31 0)]⟩] = some (.ptr 1 1 0 0, hp2 (List.replicate 31 0) f00) := rfl
  generalize List.replicate 31 0 = Z at *
  have c0 : ∀ H, boxRoA (rgV r) H = some (.rp false (rgV r) 0, H) := fun H => rfl
  have c1 : ∀ H, boxRoA f.a H = some (.rp false f.a 0, H) := fun H => rfl
  have c2 : ∀ H, loadV G true 31 (.rp false (rgV r) 0) H = some (rgV r) := fun H => by
    rw [q_ldrpT, if_pos (by rw [natsU_len, hr.len]; exact Nat.le_refl _), List.drop_zero, List.take_of_length_le (by rw [natsU_len, hr.len]; exact Nat.le_refl _)]
  have c3 : ∀ H, loadV G true 4 (.rp false f.a 0) H = some f.a := fun H => rfl
  have c4 : ∀ q : List Nat, q.length = 31 → stS (storeV 31 (.ptr 0 1 0 0) (rgV q) (hp2 Z f00)) = some (.tup [], hp2 q f00) := fun q hq => stRgA hq hZ rfl
  have c5 : ∀ (q : List Nat) (g : FL), stS (storeV 4 (.ptr 1 1 0 0) g.a (hp2 q f00)) = some (.tup [], hp2 q g) := fun q g => rfl
  have st' := st xx
  have hq := setF_len r hr.len d xx
  generalize setF r d xx = q at *
  have c4' := c4 q hq
  have c5' := c5 q f
  refine e_in ?_
  have fx := And.intro r1 <| And.intro g1 <| And.intro g2 <| And.intro g3 <| And.intro g4 <| And.intro k1 <| And.intro k2 <| And.intro k3 <| And.intro b1 <| And.intro b2 <| And.intro c0 <| And.intro c1 <| And.intro c2 <| And.intro c3 <| And.intro z1 <| And.intro z2 <| And.intro o1 <| And.intro st' <| And.intro c4' <| c5'
  refine wkB ?_
  exact oF (rone_fin G q hq f true)
theorem rone_11 (G : Globs) (k : Nat) (d n m a imm : Int) (hw : rightB ⟨11, d, n, m, a, imm⟩ = true) (r : List Nat) (hr : RgOk r) (f : FL) :
    alembicref17_One.f G (k + 7) [mV 11 d n m a imm, rgV r, f.a] [] = some (oneV ((doesF ⟨11, d, n, m, a, imm⟩ r f).1, (doesF ⟨11, d, n, m, a, imm⟩ r f).2, true), []) := by
  have r1 : ∀ H, pureCall (alembicref17_Word.f G (k + 6)) [mV 11 d n m a imm] H = _ := fun H => pureCall_of (H := H) (rword_spec G k ⟨11, d, n, m, a, imm⟩) rfl rfl
  rw [hw] at r1
  obtain ⟨_, hd, hn, hm, ha, hf⟩ := right_ok hw
  have himm : 0 ≤ imm ∧ imm < 65536 := by
    unfold rightB at hw
    rw [Bool.and_eq_true] at hw
    obtain ⟨_, h⟩ := hw
    simp [formF, fairB, regB, extraB, immB, halfI, stackB] at h
    omega
  simp only at hd hn hm ha hf
  clear hw
  have ld := hr.get d
  have ln := hr.get n
  have lm := hr.get m
  have la := hr.get a
  have g : ∀ j, 0 ≤ j → j ≤ 31 → ∀ H, pureCall (alembicref17_get.f G (k + 6)) [rgV r, I6 j] H = some (Un (getF r j), H) := fun j h0 h1 H => pureCall_of (H := H) (rget_spec G (k + 5) r hr.len j h0 h1) (by simp [plainL, plainB, plainU]) rfl
  have g1 := g d hd.1 hd.2
  have g2 := g n hn.1 hn.2
  have g3 := g m hm.1 hm.2
  have g4 := g a ha.1 ha.2
  clear g
  have st : ∀ x H, pureCall (alembicref17_set.f G (k + 6)) [rgV r, I6 d, Un x] H = some (rgV (setF r d x), H) := fun x H => pureCall_of (H := H) (rset_spec G (k + 5) r hr.len d hd.1 hd.2 x) (by simp [plainL, plainB, plainU]) (by simp [cleanB, cleanU])
  obtain ⟨ki, hki⟩ : ∃ z, z = u64 imm := ⟨_, rfl⟩
  have hkl : ki < 18446744073709551616 := by rw [hki]; exact u64_lt _
  have hkv : (ki : Int) = imm := by rw [hki]; unfold u64; omega
  have k1 : convInt .u64 (I6 imm) = some (Un ki) := by rw [conv_u64, hki]
  have k2 : bin Tryd.prog .and 3 true (I6 imm) (.int .i64 63) = some (I6 (imm % 64)) := i64_and63 _ _ _ (by omega) (by omega)
  obtain ⟨kj, hkj⟩ : ∃ z : Nat, (z : Int) = imm % 64 := ⟨(imm % 64).toNat, by omega⟩
  rw [← hkj] at k2
  have k3 : convInt .u64 (Nn kj) = some (Un kj) := by rw [convInt_int, wrap_of_u64 (by omega) (by omega)]
  have ed : doesF ⟨11, d, n, m, a, imm⟩ r f = (setF r d ((getF r n + 18446744073709551616 - u64 imm) % 18446744073709551616), f) := by
    unfold doesF madeF
    simp only [Int.reduceEq, or_false, false_or, or_self, or_true, true_or, if_false, if_true, ↓reduceIte]
  rw [ed]
  clear ed
  simp only
  try rw [← hki]
  generalize getF r d = rd at *
  generalize getF r n = rn at *
  generalize getF r m = rm at *
  generalize getF r a = ra at *
  have o1 := u64_sub Tryd.prog 43 false rn ki hkl
  generalize (rn + 18446744073709551616 - ki) % 18446744073709551616 = xx at *
  rw [alembicref17_One.step]
  unfold alembicref17_One.c
  rw [zeroRg, zeroRgL]
  have hZ : (List.replicate 31 0 : List Nat).length = 31 := rfl
  have z1 : buildArr 1 (natsU (List.replicate 31 0)) [] = some (rgV (List.replicate 31 0)) := rfl
  have z2 : buildArr 1 [.bool false, .bool false, .bool false, .bool false] [] = some f00.a := rfl
  have b1 : boxA 44 (rgV (List.replicate 31 0)) [] = some (.ptr 0 1 0 0, [⟨44, 31, [rgV (List.replicate 31 0)]⟩]) := boxRg _ rfl []
  have b2 : boxA 53 (.agg [.bool false, .bool false, .bool false, .bool false]) [⟨44, 31, [rgV (List.replicate 31 0)]⟩] = some (.ptr 1 1 0 0, hp2 (List.replicate 31 0) f00) := rfl
  generalize List.replicate 31 0 = Z at *
  have c0 : ∀ H, boxRoA (rgV r) H = some (.rp false (rgV r) 0, H) := fun H => rfl
  have c1 : ∀ H, boxRoA f.a H = some (.rp false f.a 0, H) := fun H => rfl
  have c2 : ∀ H, loadV G true 31 (.rp false (rgV r) 0) H = some (rgV r) := fun H => by
    rw [q_ldrpT, if_pos (by rw [natsU_len, hr.len]; exact Nat.le_refl _), List.drop_zero, List.take_of_length_le (by rw [natsU_len, hr.len]; exact Nat.le_refl _)]
  have c3 : ∀ H, loadV G true 4 (.rp false f.a 0) H = some f.a := fun H => rfl
  have c4 : ∀ q : List Nat, q.length = 31 → stS (storeV 31 (.ptr 0 1 0 0) (rgV q) (hp2 Z f00)) = some (.tup [], hp2 q f00) := fun q hq => stRgA hq hZ rfl
  have c5 : ∀ (q : List Nat) (g : FL), stS (storeV 4 (.ptr 1 1 0 0) g.a (hp2 q f00)) = some (.tup [], hp2 q g) := fun q g => rfl
  have st' := st xx
  have hq := setF_len r hr.len d xx
  generalize setF r d xx = q at *
  have c4' := c4 q hq
  have c5' := c5 q f
  refine e_in ?_
  have fx := And.intro r1 <| And.intro g1 <| And.intro g2 <| And.intro g3 <| And.intro g4 <| And.intro k1 <| And.intro k2 <| And.intro k3 <| And.intro b1 <| And.intro b2 <| And.intro c0 <| And.intro c1 <| And.intro c2 <| And.intro c3 <| And.intro z1 <| And.intro z2 <| And.intro o1 <| And.intro st' <| And.intro c4' <| c5'
  refine wkB ?_
  exact oF (rone_fin G q hq f true)
theorem rone_12 (G : Globs) (k : Nat) (d n m a imm : Int) (hw : rightB ⟨12, d, n, m, a, imm⟩ = true) (r : List Nat) (hr : RgOk r) (f : FL) :
    alembicref17_One.f G (k + 7) [mV 12 d n m a imm, rgV r, f.a] [] = some (oneV ((doesF ⟨12, d, n, m, a, imm⟩ r f).1, (doesF ⟨12, d, n, m, a, imm⟩ r f).2, true), []) := by
  have r1 : ∀ H, pureCall (alembicref17_Word.f G (k + 6)) [mV 12 d n m a imm] H = _ := fun H => pureCall_of (H := H) (rword_spec G k ⟨12, d, n, m, a, imm⟩) rfl rfl
  rw [hw] at r1
  obtain ⟨_, hd, hn, hm, ha, hf⟩ := right_ok hw
  have himm : 0 ≤ imm ∧ imm < 65536 := by
    unfold rightB at hw
    rw [Bool.and_eq_true] at hw
    obtain ⟨_, h⟩ := hw
    simp [formF, fairB, regB, extraB, immB, halfI, stackB] at h
    omega
  simp only at hd hn hm ha hf
  clear hw
  have ld := hr.get d
  have ln := hr.get n
  have lm := hr.get m
  have la := hr.get a
  have g : ∀ j, 0 ≤ j → j ≤ 31 → ∀ H, pureCall (alembicref17_get.f G (k + 6)) [rgV r, I6 j] H = some (Un (getF r j), H) := fun j h0 h1 H => pureCall_of (H := H) (rget_spec G (k + 5) r hr.len j h0 h1) (by simp [plainL, plainB, plainU]) rfl
  have g1 := g d hd.1 hd.2
  have g2 := g n hn.1 hn.2
  have g3 := g m hm.1 hm.2
  have g4 := g a ha.1 ha.2
  clear g
  have st : ∀ x H, pureCall (alembicref17_set.f G (k + 6)) [rgV r, I6 d, Un x] H = some (rgV (setF r d x), H) := fun x H => pureCall_of (H := H) (rset_spec G (k + 5) r hr.len d hd.1 hd.2 x) (by simp [plainL, plainB, plainU]) (by simp [cleanB, cleanU])
  obtain ⟨ki, hki⟩ : ∃ z, z = u64 imm := ⟨_, rfl⟩
  have hkl : ki < 18446744073709551616 := by rw [hki]; exact u64_lt _
  have hkv : (ki : Int) = imm := by rw [hki]; unfold u64; omega
  have k1 : convInt .u64 (I6 imm) = some (Un ki) := by rw [conv_u64, hki]
  have k2 : bin Tryd.prog .and 3 true (I6 imm) (.int .i64 63) = some (I6 (imm % 64)) := i64_and63 _ _ _ (by omega) (by omega)
  obtain ⟨kj, hkj⟩ : ∃ z : Nat, (z : Int) = imm % 64 := ⟨(imm % 64).toNat, by omega⟩
  rw [← hkj] at k2
  have k3 : convInt .u64 (Nn kj) = some (Un kj) := by rw [convInt_int, wrap_of_u64 (by omega) (by omega)]
  have ed : doesF ⟨12, d, n, m, a, imm⟩ r f = (setF r d (getF r n * 2 ^ (u64 imm) % 18446744073709551616), f) := by
    unfold doesF madeF
    simp only [Int.reduceEq, or_false, false_or, or_self, or_true, true_or, if_false, if_true, ↓reduceIte]
  rw [ed]
  clear ed
  simp only
  try rw [← hki]
  generalize getF r d = rd at *
  generalize getF r n = rn at *
  generalize getF r m = rm at *
  generalize getF r a = ra at *
  have hi := hf.2 (by omega) (by omega)
  have ej : kj = ki := by omega
  subst ej
  have o1 := u64_shl Tryd.prog 43 false .u64 rn kj (by omega)
  generalize rn * 2 ^ kj % 18446744073709551616 = xx at *
  rw [alembicref17_One.step]
  unfold alembicref17_One.c
  rw [zeroRg, zeroRgL]
  have hZ : (List.replicate 31 0 : List Nat).length = 31 := rfl
  have z1 : buildArr 1 (natsU (List.replicate 31 0)) [] = some (rgV (List.replicate 31 0)) := rfl
  have z2 : buildArr 1 [.bool false, .bool false, .bool false, .bool false] [] = some f00.a := rfl
  have b1 : boxA 44 (rgV (List.replicate 31 0)) [] = some (.ptr 0 1 0 0, [⟨44, 31, [rgV (List.replicate 31 0)]⟩]) := boxRg _ rfl []
  have b2 : boxA 53 (.agg [.bool false, .bool false, .bool false, .bool false]) [⟨44, 31, [rgV (List.replicate 31 0)]⟩] = some (.ptr 1 1 0 0, hp2 (List.replicate 31 0) f00) := rfl
  generalize List.replicate 31 0 = Z at *
  have c0 : ∀ H, boxRoA (rgV r) H = some (.rp false (rgV r) 0, H) := fun H => rfl
  have c1 : ∀ H, boxRoA f.a H = some (.rp false f.a 0, H) := fun H => rfl
  have c2 : ∀ H, loadV G true 31 (.rp false (rgV r) 0) H = some (rgV r) := fun H => by
    rw [q_ldrpT, if_pos (by rw [natsU_len, hr.len]; exact Nat.le_refl _), List.drop_zero, List.take_of_length_le (by rw [natsU_len, hr.len]; exact Nat.le_refl _)]
  have c3 : ∀ H, loadV G true 4 (.rp false f.a 0) H = some f.a := fun H => rfl
  have c4 : ∀ q : List Nat, q.length = 31 → stS (storeV 31 (.ptr 0 1 0 0) (rgV q) (hp2 Z f00)) = some (.tup [], hp2 q f00) := fun q hq => stRgA hq hZ rfl
  have c5 : ∀ (q : List Nat) (g : FL), stS (storeV 4 (.ptr 1 1 0 0) g.a (hp2 q f00)) = some (.tup [], hp2 q g) := fun q g => rfl
  have st' := st xx
  have hq := setF_len r hr.len d xx
  generalize setF r d xx = q at *
  have c4' := c4 q hq
  have c5' := c5 q f
  refine e_in ?_
  have fx := And.intro r1 <| And.intro g1 <| And.intro g2 <| And.intro g3 <| And.intro g4 <| And.intro k1 <| And.intro k2 <| And.intro k3 <| And.intro b1 <| And.intro b2 <| And.intro c0 <| And.intro c1 <| And.intro c2 <| And.intro c3 <| And.intro z1 <| And.intro z2 <| And.intro o1 <| And.intro st' <| And.intro c4' <| c5'
  refine wkB ?_
  exact oF (rone_fin G q hq f true)
theorem rone_13 (G : Globs) (k : Nat) (d n m a imm : Int) (hw : rightB ⟨13, d, n, m, a, imm⟩ = true) (r : List Nat) (hr : RgOk r) (f : FL) :
    alembicref17_One.f G (k + 7) [mV 13 d n m a imm, rgV r, f.a] [] = some (oneV ((doesF ⟨13, d, n, m, a, imm⟩ r f).1, (doesF ⟨13, d, n, m, a, imm⟩ r f).2, true), []) := by
  have r1 : ∀ H, pureCall (alembicref17_Word.f G (k + 6)) [mV 13 d n m a imm] H = _ := fun H => pureCall_of (H := H) (rword_spec G k ⟨13, d, n, m, a, imm⟩) rfl rfl
  rw [hw] at r1
  obtain ⟨_, hd, hn, hm, ha, hf⟩ := right_ok hw
  have himm : 0 ≤ imm ∧ imm < 65536 := by
    unfold rightB at hw
    rw [Bool.and_eq_true] at hw
    obtain ⟨_, h⟩ := hw
    simp [formF, fairB, regB, extraB, immB, halfI, stackB] at h
    omega
  simp only at hd hn hm ha hf
  clear hw
  have ld := hr.get d
  have ln := hr.get n
  have lm := hr.get m
  have la := hr.get a
  have g : ∀ j, 0 ≤ j → j ≤ 31 → ∀ H, pureCall (alembicref17_get.f G (k + 6)) [rgV r, I6 j] H = some (Un (getF r j), H) := fun j h0 h1 H => pureCall_of (H := H) (rget_spec G (k + 5) r hr.len j h0 h1) (by simp [plainL, plainB, plainU]) rfl
  have g1 := g d hd.1 hd.2
  have g2 := g n hn.1 hn.2
  have g3 := g m hm.1 hm.2
  have g4 := g a ha.1 ha.2
  clear g
  have st : ∀ x H, pureCall (alembicref17_set.f G (k + 6)) [rgV r, I6 d, Un x] H = some (rgV (setF r d x), H) := fun x H => pureCall_of (H := H) (rset_spec G (k + 5) r hr.len d hd.1 hd.2 x) (by simp [plainL, plainB, plainU]) (by simp [cleanB, cleanU])
  obtain ⟨ki, hki⟩ : ∃ z, z = u64 imm := ⟨_, rfl⟩
  have hkl : ki < 18446744073709551616 := by rw [hki]; exact u64_lt _
  have hkv : (ki : Int) = imm := by rw [hki]; unfold u64; omega
  have k1 : convInt .u64 (I6 imm) = some (Un ki) := by rw [conv_u64, hki]
  have k2 : bin Tryd.prog .and 3 true (I6 imm) (.int .i64 63) = some (I6 (imm % 64)) := i64_and63 _ _ _ (by omega) (by omega)
  obtain ⟨kj, hkj⟩ : ∃ z : Nat, (z : Int) = imm % 64 := ⟨(imm % 64).toNat, by omega⟩
  rw [← hkj] at k2
  have k3 : convInt .u64 (Nn kj) = some (Un kj) := by rw [convInt_int, wrap_of_u64 (by omega) (by omega)]
  have ed : doesF ⟨13, d, n, m, a, imm⟩ r f = (setF r d (getF r n / 2 ^ (u64 imm)), f) := by
    unfold doesF madeF
    simp only [Int.reduceEq, or_false, false_or, or_self, or_true, true_or, if_false, if_true, ↓reduceIte]
  rw [ed]
  clear ed
  simp only
  try rw [← hki]
  generalize getF r d = rd at *
  generalize getF r n = rn at *
  generalize getF r m = rm at *
  generalize getF r a = ra at *
  have hi := hf.2 (by omega) (by omega)
  have ej : kj = ki := by omega
  subst ej
  have o1 := u64_shr Tryd.prog 43 false .u64 rn kj (by omega)
  generalize rn / 2 ^ kj = xx at *
  rw [alembicref17_One.step]
  unfold alembicref17_One.c
  rw [zeroRg, zeroRgL]
  have hZ : (List.replicate 31 0 : List Nat).length = 31 := rfl
  have z1 : buildArr 1 (natsU (List.replicate 31 0)) [] = some (rgV (List.replicate 31 0)) := rfl
  have z2 : buildArr 1 [.bool false, .bool false, .bool false, .bool false] [] = some f00.a := rfl
  have b1 : boxA 44 (rgV (List.replicate 31 0)) [] = some (.ptr 0 1 0 0, [⟨44, 31, [rgV (List.replicate 31 0)]⟩]) := boxRg _ rfl []
  have b2 : boxA 53 (.agg [.bool false, .bool false, .bool false, .bool false]) [⟨44, 31, [rgV (List.replicate 31 0)]⟩] = some (.ptr 1 1 0 0, hp2 (List.replicate 31 0) f00) := rfl
  generalize List.replicate 31 0 = Z at *
  have c0 : ∀ H, boxRoA (rgV r) H = some (.rp false (rgV r) 0, H) := fun H => rfl
  have c1 : ∀ H, boxRoA f.a H = some (.rp false f.a 0, H) := fun H => rfl
  have c2 : ∀ H, loadV G true 31 (.rp false (rgV r) 0) H = some (rgV r) := fun H => by
    rw [q_ldrpT, if_pos (by rw [natsU_len, hr.len]; exact Nat.le_refl _), List.drop_zero, List.take_of_length_le (by rw [natsU_len, hr.len]; exact Nat.le_refl _)]
  have c3 : ∀ H, loadV G true 4 (.rp false f.a 0) H = some f.a := fun H => rfl
  have c4 : ∀ q : List Nat, q.length = 31 → stS (storeV 31 (.ptr 0 1 0 0) (rgV q) (hp2 Z f00)) = some (.tup [], hp2 q f00) := fun q hq => stRgA hq hZ rfl
  have c5 : ∀ (q : List Nat) (g : FL), stS (storeV 4 (.ptr 1 1 0 0) g.a (hp2 q f00)) = some (.tup [], hp2 q g) := fun q g => rfl
  have st' := st xx
  have hq := setF_len r hr.len d xx
  generalize setF r d xx = q at *
  have c4' := c4 q hq
  have c5' := c5 q f
  refine e_in ?_
  have fx := And.intro r1 <| And.intro g1 <| And.intro g2 <| And.intro g3 <| And.intro g4 <| And.intro k1 <| And.intro k2 <| And.intro k3 <| And.intro b1 <| And.intro b2 <| And.intro c0 <| And.intro c1 <| And.intro c2 <| And.intro c3 <| And.intro z1 <| And.intro z2 <| And.intro o1 <| And.intro st' <| And.intro c4' <| c5'
  refine wkB ?_
  exact oF (rone_fin G q hq f true)
theorem rone_14 (G : Globs) (k : Nat) (d n m a imm : Int) (hw : rightB ⟨14, d, n, m, a, imm⟩ = true) (r : List Nat) (hr : RgOk r) (f : FL) :
    alembicref17_One.f G (k + 7) [mV 14 d n m a imm, rgV r, f.a] [] = some (oneV ((doesF ⟨14, d, n, m, a, imm⟩ r f).1, (doesF ⟨14, d, n, m, a, imm⟩ r f).2, true), []) := by
  have r1 : ∀ H, pureCall (alembicref17_Word.f G (k + 6)) [mV 14 d n m a imm] H = _ := fun H => pureCall_of (H := H) (rword_spec G k ⟨14, d, n, m, a, imm⟩) rfl rfl
  rw [hw] at r1
  obtain ⟨_, hd, hn, hm, ha, hf⟩ := right_ok hw
  have himm : 0 ≤ imm ∧ imm < 65536 := by
    unfold rightB at hw
    rw [Bool.and_eq_true] at hw
    obtain ⟨_, h⟩ := hw
    simp [formF, fairB, regB, extraB, immB, halfI, stackB] at h
    omega
  simp only at hd hn hm ha hf
  clear hw
  have ld := hr.get d
  have ln := hr.get n
  have lm := hr.get m
  have la := hr.get a
  have g : ∀ j, 0 ≤ j → j ≤ 31 → ∀ H, pureCall (alembicref17_get.f G (k + 6)) [rgV r, I6 j] H = some (Un (getF r j), H) := fun j h0 h1 H => pureCall_of (H := H) (rget_spec G (k + 5) r hr.len j h0 h1) (by simp [plainL, plainB, plainU]) rfl
  have g1 := g d hd.1 hd.2
  have g2 := g n hn.1 hn.2
  have g3 := g m hm.1 hm.2
  have g4 := g a ha.1 ha.2
  clear g
  have st : ∀ x H, pureCall (alembicref17_set.f G (k + 6)) [rgV r, I6 d, Un x] H = some (rgV (setF r d x), H) := fun x H => pureCall_of (H := H) (rset_spec G (k + 5) r hr.len d hd.1 hd.2 x) (by simp [plainL, plainB, plainU]) (by simp [cleanB, cleanU])
  obtain ⟨ki, hki⟩ : ∃ z, z = u64 imm := ⟨_, rfl⟩
  have hkl : ki < 18446744073709551616 := by rw [hki]; exact u64_lt _
  have hkv : (ki : Int) = imm := by rw [hki]; unfold u64; omega
  have k1 : convInt .u64 (I6 imm) = some (Un ki) := by rw [conv_u64, hki]
  have k2 : bin Tryd.prog .and 3 true (I6 imm) (.int .i64 63) = some (I6 (imm % 64)) := i64_and63 _ _ _ (by omega) (by omega)
  obtain ⟨kj, hkj⟩ : ∃ z : Nat, (z : Int) = imm % 64 := ⟨(imm % 64).toNat, by omega⟩
  rw [← hkj] at k2
  have k3 : convInt .u64 (Nn kj) = some (Un kj) := by rw [convInt_int, wrap_of_u64 (by omega) (by omega)]
  have ed : doesF ⟨14, d, n, m, a, imm⟩ r f = (setF r d (sarF (getF r n) (u64 imm)), f) := by
    unfold doesF madeF
    simp only [Int.reduceEq, or_false, false_or, or_self, or_true, true_or, if_false, if_true, ↓reduceIte]
  rw [ed]
  clear ed
  simp only
  try rw [← hki]
  generalize getF r d = rd at *
  generalize getF r n = rn at *
  generalize getF r m = rm at *
  generalize getF r a = ra at *
  have hi := hf.2 (by omega) (by omega)
  have ej : kj = ki := by omega
  subst ej
  have o1 := conv_i64 rn ln
  have o2 : bin Tryd.prog .shr 2 false (I6 (s64 rn)) (Un kj) = some (I6 ((s64 rn).fdiv (2 ^ kj))) := by
    rw [bin_shr _ _ _ _ _ _ _ (Int.natCast_nonneg kj)]
    have e : min ((kj : Int)).toNat IntKind.i64.bits = kj := by rw [Int.toNat_natCast]; exact Nat.min_eq_left (by have : IntKind.i64.bits = 64 := rfl; omega)
    rw [e]
  have o3 := conv_u64 .i64 ((s64 rn).fdiv (2 ^ kj))
  have hq : u64 ((s64 rn).fdiv (2 ^ kj)) = sarF rn kj := rfl
  rw [hq] at o3
  clear hq
  generalize sarF rn kj = xx at *
  generalize (s64 rn).fdiv (2 ^ kj) = yy at *
  rw [alembicref17_One.step]
  unfold alembicref17_One.c
  rw [zeroRg, zeroRgL]
  have hZ : (List.replicate 31 0 : List Nat).length = 31 := rfl
  have z1 : buildArr 1 (natsU (List.replicate 31 0)) [] = some (rgV (List.replicate 31 0)) := rfl
  have z2 : buildArr 1 [.bool false, .bool false, .bool false, .bool false] [] = some f00.a := rfl
  have b1 : boxA 44 (rgV (List.replicate 31 0)) [] = some (.ptr 0 1 0 0, [⟨44, 31, [rgV (List.replicate 31 0)]⟩]) := boxRg _ rfl []
  have b2 : boxA 53 (.agg [.bool false, .bool false, .bool false, .bool false]) [⟨44, 31, [rgV (List.replicate 31 0)]⟩] = some (.ptr 1 1 0 0, hp2 (List.replicate 31 0) f00) := rfl
  generalize List.replicate 31 0 = Z at *
  have c0 : ∀ H, boxRoA (rgV r) H = some (.rp false (rgV r) 0, H) := fun H => rfl
  have c1 : ∀ H, boxRoA f.a H = some (.rp false f.a 0, H) := fun H => rfl
  have c2 : ∀ H, loadV G true 31 (.rp false (rgV r) 0) H = some (rgV r) := fun H => by
    rw [q_ldrpT, if_pos (by rw [natsU_len, hr.len]; exact Nat.le_refl _), List.drop_zero, List.take_of_length_le (by rw [natsU_len, hr.len]; exact Nat.le_refl _)]
  have c3 : ∀ H, loadV G true 4 (.rp false f.a 0) H = some f.a := fun H => rfl
  have c4 : ∀ q : List Nat, q.length = 31 → stS (storeV 31 (.ptr 0 1 0 0) (rgV q) (hp2 Z f00)) = some (.tup [], hp2 q f00) := fun q hq => stRgA hq hZ rfl
  have c5 : ∀ (q : List Nat) (g : FL), stS (storeV 4 (.ptr 1 1 0 0) g.a (hp2 q f00)) = some (.tup [], hp2 q g) := fun q g => rfl
  have st' := st xx
  have hq := setF_len r hr.len d xx
  generalize setF r d xx = q at *
  have c4' := c4 q hq
  have c5' := c5 q f
  refine e_in ?_
  have fx := And.intro r1 <| And.intro g1 <| And.intro g2 <| And.intro g3 <| And.intro g4 <| And.intro k1 <| And.intro k2 <| And.intro k3 <| And.intro b1 <| And.intro b2 <| And.intro c0 <| And.intro c1 <| And.intro c2 <| And.intro c3 <| And.intro z1 <| And.intro z2 <| And.intro o1 <| And.intro o2 <| And.intro o3 <| And.intro st' <| And.intro c4' <| c5'
  refine wkB ?_
  exact oF (rone_fin G q hq f true)
theorem rone_15 (G : Globs) (k : Nat) (d n m a imm : Int) (hw : rightB ⟨15, d, n, m, a, imm⟩ = true) (r : List Nat) (hr : RgOk r) (f : FL) :
    alembicref17_One.f G (k + 7) [mV 15 d n m a imm, rgV r, f.a] [] = some (oneV ((doesF ⟨15, d, n, m, a, imm⟩ r f).1, (doesF ⟨15, d, n, m, a, imm⟩ r f).2, true), []) := by
  have r1 : ∀ H, pureCall (alembicref17_Word.f G (k + 6)) [mV 15 d n m a imm] H = _ := fun H => pureCall_of (H := H) (rword_spec G k ⟨15, d, n, m, a, imm⟩) rfl rfl
  rw [hw] at r1
  obtain ⟨_, hd, hn, hm, ha, hf⟩ := right_ok hw
  have himm : 0 ≤ imm ∧ imm < 65536 := by
    unfold rightB at hw
    rw [Bool.and_eq_true] at hw
    obtain ⟨_, h⟩ := hw
    simp [formF, fairB, regB, extraB, immB, halfI, stackB] at h
    omega
  simp only at hd hn hm ha hf
  clear hw
  have ld := hr.get d
  have ln := hr.get n
  have lm := hr.get m
  have la := hr.get a
  have g : ∀ j, 0 ≤ j → j ≤ 31 → ∀ H, pureCall (alembicref17_get.f G (k + 6)) [rgV r, I6 j] H = some (Un (getF r j), H) := fun j h0 h1 H => pureCall_of (H := H) (rget_spec G (k + 5) r hr.len j h0 h1) (by simp [plainL, plainB, plainU]) rfl
  have g1 := g d hd.1 hd.2
  have g2 := g n hn.1 hn.2
  have g3 := g m hm.1 hm.2
  have g4 := g a ha.1 ha.2
  clear g
  have st : ∀ x H, pureCall (alembicref17_set.f G (k + 6)) [rgV r, I6 d, Un x] H = some (rgV (setF r d x), H) := fun x H => pureCall_of (H := H) (rset_spec G (k + 5) r hr.len d hd.1 hd.2 x) (by simp [plainL, plainB, plainU]) (by simp [cleanB, cleanU])
  obtain ⟨ki, hki⟩ : ∃ z, z = u64 imm := ⟨_, rfl⟩
  have hkl : ki < 18446744073709551616 := by rw [hki]; exact u64_lt _
  have hkv : (ki : Int) = imm := by rw [hki]; unfold u64; omega
  have k1 : convInt .u64 (I6 imm) = some (Un ki) := by rw [conv_u64, hki]
  have k2 : bin Tryd.prog .and 3 true (I6 imm) (.int .i64 63) = some (I6 (imm % 64)) := i64_and63 _ _ _ (by omega) (by omega)
  obtain ⟨kj, hkj⟩ : ∃ z : Nat, (z : Int) = imm % 64 := ⟨(imm % 64).toNat, by omega⟩
  rw [← hkj] at k2
  have k3 : convInt .u64 (Nn kj) = some (Un kj) := by rw [convInt_int, wrap_of_u64 (by omega) (by omega)]
  have ed : doesF ⟨15, d, n, m, a, imm⟩ r f = (r, lessF (getF r n) (getF r m)) := rfl
  rw [ed]
  clear ed
  simp only
  generalize getF r d = rd at *
  generalize getF r n = rn at *
  generalize getF r m = rm at *
  generalize getF r a = ra at *
  unfold lessF
  have k1' := u64_sub Tryd.prog 43 false rn rm lm
  obtain ⟨x, hx⟩ : ∃ x, x = (rn + 18446744073709551616 - rm) % 18446744073709551616 := ⟨_, rfl⟩
  have hxl : x < 18446744073709551616 := by omega
  rw [← hx] at k1' ⊢
  unfold lessX
  have k2' : bin Tryd.prog .shr 43 true (Un x) (.int .u64 63) = some (Un (x / 2 ^ 63)) := u64_shr Tryd.prog 43 true .u64 x 63 (by omega)
  have k3' : bin Tryd.prog .eql 43 true (Un (x / 2 ^ 63)) (.int .u64 1) = some (.bool (decide (x / 2 ^ 63 = 1))) := by rw [bin_eql]; congr 2; simp only [decide_eq_decide]; omega
  have k4' : bin Tryd.prog .eql 43 true (Un x) (.int .u64 0) = some (.bool (decide (x = 0))) := by rw [bin_eql]; congr 2; simp only [decide_eq_decide]; omega
  have k5' : bin Tryd.prog .geq 43 false (Un rn) (Un rm) = some (.bool (decide (rm ≤ rn))) := by rw [bin_geq]; congr 2; simp only [decide_eq_decide]; omega
  have k6' : bin Tryd.prog .xor 43 false (Un rn) (Un rm) = some (Un (rn ^^^ rm)) := by rw [bin_xor, u64_xor rn rm ln lm]
  have k7' : bin Tryd.prog .xor 43 false (Un rn) (Un x) = some (Un (rn ^^^ x)) := by rw [bin_xor, u64_xor rn x ln hxl]
  have l6 : rn ^^^ rm < 2 ^ 64 := Nat.xor_lt_two_pow ln lm
  have l7 : rn ^^^ x < 2 ^ 64 := Nat.xor_lt_two_pow ln hxl
  obtain ⟨y, hy⟩ : ∃ y, y = (rn ^^^ rm) &&& (rn ^^^ x) := ⟨_, rfl⟩
  have k8' : bin Tryd.prog .and 43 false (Un (rn ^^^ rm)) (Un (rn ^^^ x)) = some (Un y) := by rw [bin_and, u64_and _ _ (by omega) (by omega), hy]
  rw [← hy]
  have k9' : bin Tryd.prog .shr 43 true (Un y) (.int .u64 63) = some (Un (y / 2 ^ 63)) := u64_shr Tryd.prog 43 true .u64 y 63 (by omega)
  have k10' : bin Tryd.prog .eql 43 true (Un (y / 2 ^ 63)) (.int .u64 1) = some (.bool (decide (y / 2 ^ 63 = 1))) := by rw [bin_eql]; congr 2; simp only [decide_eq_decide]; omega
  have x2 : ∀ p q r s, buildArr 1 [.bool false, .bool false, .bool false, .bool false] [(0, .bool p), (1, .bool q), (2, .bool r), (3, .bool s)] = some (FL.a ⟨p, q, r, s⟩) := fun p q r s => rfl
  clear hx hy l6 l7 hxl
  generalize rn ^^^ rm = z1' at *
  generalize rn ^^^ x = z2' at *
  generalize decide (x / 2 ^ 63 = 1) = t1 at *
  generalize decide (x = 0) = t2 at *
  generalize decide (rm ≤ rn) = t3 at *
  generalize decide (y / 2 ^ 63 = 1) = t4 at *
  generalize x / 2 ^ 63 = z3' at *
  generalize y / 2 ^ 63 = z4' at *
  obtain ⟨ff, hff⟩ : ∃ ff : FL, ff = ⟨t1, t2, t3, t4⟩ := ⟨_, rfl⟩
  have x3 := x2 t1 t2 t3 t4
  rw [← hff] at x3 ⊢
  clear x2 hff
  rw [alembicref17_One.step]
  unfold alembicref17_One.c
  rw [zeroRg, zeroRgL]
  have hZ : (List.replicate 31 0 : List Nat).length = 31 := rfl
  have z1 : buildArr 1 (natsU (List.replicate 31 0)) [] = some (rgV (List.replicate 31 0)) := rfl
  have z2 : buildArr 1 [.bool false, .bool false, .bool false, .bool false] [] = some f00.a := rfl
  have b1 : boxA 44 (rgV (List.replicate 31 0)) [] = some (.ptr 0 1 0 0, [⟨44, 31, [rgV (List.replicate 31 0)]⟩]) := boxRg _ rfl []
  have b2 : boxA 53 (.agg [.bool false, .bool false, .bool false, .bool false]) [⟨44, 31, [rgV (List.replicate 31 0)]⟩] = some (.ptr 1 1 0 0, hp2 (List.replicate 31 0) f00) := rfl
  generalize List.replicate 31 0 = Z at *
  have c0 : ∀ H, boxRoA (rgV r) H = some (.rp false (rgV r) 0, H) := fun H => rfl
  have c1 : ∀ H, boxRoA f.a H = some (.rp false f.a 0, H) := fun H => rfl
  have c2 : ∀ H, loadV G true 31 (.rp false (rgV r) 0) H = some (rgV r) := fun H => by
    rw [q_ldrpT, if_pos (by rw [natsU_len, hr.len]; exact Nat.le_refl _), List.drop_zero, List.take_of_length_le (by rw [natsU_len, hr.len]; exact Nat.le_refl _)]
  have c3 : ∀ H, loadV G true 4 (.rp false f.a 0) H = some f.a := fun H => rfl
  have c4 : ∀ q : List Nat, q.length = 31 → stS (storeV 31 (.ptr 0 1 0 0) (rgV q) (hp2 Z f00)) = some (.tup [], hp2 q f00) := fun q hq => stRgA hq hZ rfl
  have c5 : ∀ (q : List Nat) (g : FL), stS (storeV 4 (.ptr 1 1 0 0) g.a (hp2 q f00)) = some (.tup [], hp2 q g) := fun q g => rfl
  have c4' := c4 r hr.len
  have c5' := c5 r ff
  refine e_in ?_
  have fx := And.intro r1 <| And.intro g1 <| And.intro g2 <| And.intro g3 <| And.intro g4 <| And.intro k1 <| And.intro k2 <| And.intro k3 <| And.intro b1 <| And.intro b2 <| And.intro c0 <| And.intro c1 <| And.intro c2 <| And.intro c3 <| And.intro z1 <| And.intro z2 <| And.intro k1' <| And.intro k2' <| And.intro k3' <| And.intro k4' <| And.intro k5' <| And.intro k6' <| And.intro k7' <| And.intro k8' <| And.intro k9' <| And.intro k10' <| And.intro x3 <| And.intro c4' <| c5'
  refine wkB ?_
  exact oF (rone_fin G r hr.len ff true)
theorem rone_16 (G : Globs) (k : Nat) (d n m a imm : Int) (hw : rightB ⟨16, d, n, m, a, imm⟩ = true) (r : List Nat) (hr : RgOk r) (f : FL) :
    alembicref17_One.f G (k + 7) [mV 16 d n m a imm, rgV r, f.a] [] = some (oneV ((doesF ⟨16, d, n, m, a, imm⟩ r f).1, (doesF ⟨16, d, n, m, a, imm⟩ r f).2, true), []) := by
  have r1 : ∀ H, pureCall (alembicref17_Word.f G (k + 6)) [mV 16 d n m a imm] H = _ := fun H => pureCall_of (H := H) (rword_spec G k ⟨16, d, n, m, a, imm⟩) rfl rfl
  rw [hw] at r1
  obtain ⟨_, hd, hn, hm, ha, hf⟩ := right_ok hw
  have himm : 0 ≤ imm ∧ imm < 65536 := by
    unfold rightB at hw
    rw [Bool.and_eq_true] at hw
    obtain ⟨_, h⟩ := hw
    simp [formF, fairB, regB, extraB, immB, halfI, stackB] at h
    omega
  simp only at hd hn hm ha hf
  clear hw
  have ld := hr.get d
  have ln := hr.get n
  have lm := hr.get m
  have la := hr.get a
  have g : ∀ j, 0 ≤ j → j ≤ 31 → ∀ H, pureCall (alembicref17_get.f G (k + 6)) [rgV r, I6 j] H = some (Un (getF r j), H) := fun j h0 h1 H => pureCall_of (H := H) (rget_spec G (k + 5) r hr.len j h0 h1) (by simp [plainL, plainB, plainU]) rfl
  have g1 := g d hd.1 hd.2
  have g2 := g n hn.1 hn.2
  have g3 := g m hm.1 hm.2
  have g4 := g a ha.1 ha.2
  clear g
  have st : ∀ x H, pureCall (alembicref17_set.f G (k + 6)) [rgV r, I6 d, Un x] H = some (rgV (setF r d x), H) := fun x H => pureCall_of (H := H) (rset_spec G (k + 5) r hr.len d hd.1 hd.2 x) (by simp [plainL, plainB, plainU]) (by simp [cleanB, cleanU])
  obtain ⟨ki, hki⟩ : ∃ z, z = u64 imm := ⟨_, rfl⟩
  have hkl : ki < 18446744073709551616 := by rw [hki]; exact u64_lt _
  have hkv : (ki : Int) = imm := by rw [hki]; unfold u64; omega
  have k1 : convInt .u64 (I6 imm) = some (Un ki) := by rw [conv_u64, hki]
  have k2 : bin Tryd.prog .and 3 true (I6 imm) (.int .i64 63) = some (I6 (imm % 64)) := i64_and63 _ _ _ (by omega) (by omega)
  obtain ⟨kj, hkj⟩ : ∃ z : Nat, (z : Int) = imm % 64 := ⟨(imm % 64).toNat, by omega⟩
  rw [← hkj] at k2
  have k3 : convInt .u64 (Nn kj) = some (Un kj) := by rw [convInt_int, wrap_of_u64 (by omega) (by omega)]
  have ed : doesF ⟨16, d, n, m, a, imm⟩ r f = (setF r d ((if holdsF a f = true then getF r n else getF r m)), f) := by
    unfold doesF madeF
    simp only [Int.reduceEq, or_false, false_or, or_self, or_true, true_or, if_false, if_true, ↓reduceIte]
  rw [ed]
  clear ed
  simp only
  try rw [← hki]
  generalize getF r d = rd at *
  generalize getF r n = rn at *
  generalize getF r m = rm at *
  generalize getF r a = ra at *
  have o1 : ∀ H, pureCall (alembicref17_Holds.f G (k + 6)) [I6 a, f.a] H = _ := fun H => pureCall_of (H := H) (rholds_spec G (k + 5) a f) rfl rfl
  generalize holdsF a f = hh at *
  rw [alembicref17_One.step]
  unfold alembicref17_One.c
  rw [zeroRg, zeroRgL]
  have hZ : (List.replicate 31 0 : List Nat).length = 31 := rfl
  have z1 : buildArr 1 (natsU (List.replicate 31 0)) [] = some (rgV (List.replicate 31 0)) := rfl
  have z2 : buildArr 1 [.bool false, .bool false, .bool false, .bool false] [] = some f00.a := rfl
  have b1 : boxA 44 (rgV (List.replicate 31 0)) [] = some (.ptr 0 1 0 0, [⟨44, 31, [rgV (List.replicate 31 0)]⟩]) := boxRg _ rfl []
  have b2 : boxA 53 (.agg [.bool false, .bool false, .bool false, .bool false]) [⟨44, 31, [rgV (List.replicate 31 0)]⟩] = some (.ptr 1 1 0 0, hp2 (List.replicate 31 0) f00) := rfl
  generalize List.replicate 31 0 = Z at *
  have c0 : ∀ H, boxRoA (rgV r) H = some (.rp false (rgV r) 0, H) := fun H => rfl
  have c1 : ∀ H, boxRoA f.a H = some (.rp false f.a 0, H) := fun H => rfl
  have c2 : ∀ H, loadV G true 31 (.rp false (rgV r) 0) H = some (rgV r) := fun H => by
    rw [q_ldrpT, if_pos (by rw [natsU_len, hr.len]; exact Nat.le_refl _), List.drop_zero, List.take_of_length_le (by rw [natsU_len, hr.len]; exact Nat.le_refl _)]
  have c3 : ∀ H, loadV G true 4 (.rp false f.a 0) H = some f.a := fun H => rfl
  have c4 : ∀ q : List Nat, q.length = 31 → stS (storeV 31 (.ptr 0 1 0 0) (rgV q) (hp2 Z f00)) = some (.tup [], hp2 q f00) := fun q hq => stRgA hq hZ rfl
  have c5 : ∀ (q : List Nat) (g : FL), stS (storeV 4 (.ptr 1 1 0 0) g.a (hp2 q f00)) = some (.tup [], hp2 q g) := fun q g => rfl
  refine e_in ?_
  cases hh
  · simp only [Bool.false_eq_true, if_false, if_true]
    have st' : ∀ H, pureCall (alembicref17_set.f G (k + 6)) [rgV r, I6 d, Un rm] H = some (rgV (setF r d rm), H) := st rm
    have hq := setF_len r hr.len d rm
    generalize setF r d rm = q at *
    have c4' := c4 q hq
    have c5' := c5 q f
    have fx := And.intro r1 <| And.intro g1 <| And.intro g2 <| And.intro g3 <| And.intro g4 <| And.intro k1 <| And.intro k2 <| And.intro k3 <| And.intro b1 <| And.intro b2 <| And.intro c0 <| And.intro c1 <| And.intro c2 <| And.intro c3 <| And.intro z1 <| And.intro z2 <| And.intro o1 <| And.intro st' <| And.intro c4' <| c5'
    refine wkB ?_
    exact oF (rone_fin G q hq f true)
  · simp only [Bool.false_eq_true, if_false, if_true]
    have st' : ∀ H, pureCall (alembicref17_set.f G (k + 6)) [rgV r, I6 d, Un rn] H = some (rgV (setF r d rn), H) := st rn
    have hq := setF_len r hr.len d rn
    generalize setF r d rn = q at *
    have c4' := c4 q hq
    have c5' := c5 q f
    have fx := And.intro r1 <| And.intro g1 <| And.intro g2 <| And.intro g3 <| And.intro g4 <| And.intro k1 <| And.intro k2 <| And.intro k3 <| And.intro b1 <| And.intro b2 <| And.intro c0 <| And.intro c1 <| And.intro c2 <| And.intro c3 <| And.intro z1 <| And.intro z2 <| And.intro o1 <| And.intro st' <| And.intro c4' <| c5'
    refine wkB ?_
    exact oF (rone_fin G q hq f true)
theorem rone_17 (G : Globs) (k : Nat) (d n m a imm : Int) (hw : rightB ⟨17, d, n, m, a, imm⟩ = true) (r : List Nat) (hr : RgOk r) (f : FL) :
    alembicref17_One.f G (k + 7) [mV 17 d n m a imm, rgV r, f.a] [] = some (oneV ((doesF ⟨17, d, n, m, a, imm⟩ r f).1, (doesF ⟨17, d, n, m, a, imm⟩ r f).2, true), []) := by
  have r1 : ∀ H, pureCall (alembicref17_Word.f G (k + 6)) [mV 17 d n m a imm] H = _ := fun H => pureCall_of (H := H) (rword_spec G k ⟨17, d, n, m, a, imm⟩) rfl rfl
  rw [hw] at r1
  obtain ⟨_, hd, hn, hm, ha, hf⟩ := right_ok hw
  have himm : 0 ≤ imm ∧ imm < 65536 := by
    unfold rightB at hw
    rw [Bool.and_eq_true] at hw
    obtain ⟨_, h⟩ := hw
    simp [formF, fairB, regB, extraB, immB, halfI, stackB] at h
    omega
  simp only at hd hn hm ha hf
  clear hw
  have ld := hr.get d
  have ln := hr.get n
  have lm := hr.get m
  have la := hr.get a
  have g : ∀ j, 0 ≤ j → j ≤ 31 → ∀ H, pureCall (alembicref17_get.f G (k + 6)) [rgV r, I6 j] H = some (Un (getF r j), H) := fun j h0 h1 H => pureCall_of (H := H) (rget_spec G (k + 5) r hr.len j h0 h1) (by simp [plainL, plainB, plainU]) rfl
  have g1 := g d hd.1 hd.2
  have g2 := g n hn.1 hn.2
  have g3 := g m hm.1 hm.2
  have g4 := g a ha.1 ha.2
  clear g
  have st : ∀ x H, pureCall (alembicref17_set.f G (k + 6)) [rgV r, I6 d, Un x] H = some (rgV (setF r d x), H) := fun x H => pureCall_of (H := H) (rset_spec G (k + 5) r hr.len d hd.1 hd.2 x) (by simp [plainL, plainB, plainU]) (by simp [cleanB, cleanU])
  obtain ⟨ki, hki⟩ : ∃ z, z = u64 imm := ⟨_, rfl⟩
  have hkl : ki < 18446744073709551616 := by rw [hki]; exact u64_lt _
  have hkv : (ki : Int) = imm := by rw [hki]; unfold u64; omega
  have k1 : convInt .u64 (I6 imm) = some (Un ki) := by rw [conv_u64, hki]
  have k2 : bin Tryd.prog .and 3 true (I6 imm) (.int .i64 63) = some (I6 (imm % 64)) := i64_and63 _ _ _ (by omega) (by omega)
  obtain ⟨kj, hkj⟩ : ∃ z : Nat, (z : Int) = imm % 64 := ⟨(imm % 64).toNat, by omega⟩
  rw [← hkj] at k2
  have k3 : convInt .u64 (Nn kj) = some (Un kj) := by rw [convInt_int, wrap_of_u64 (by omega) (by omega)]
  have ed : doesF ⟨17, d, n, m, a, imm⟩ r f = (setF r d ((if holdsF a f = true then 1 else 0)), f) := by
    unfold doesF madeF
    simp only [Int.reduceEq, or_false, false_or, or_self, or_true, true_or, if_false, if_true, ↓reduceIte]
  rw [ed]
  clear ed
  simp only
  try rw [← hki]
  generalize getF r d = rd at *
  generalize getF r n = rn at *
  generalize getF r m = rm at *
  generalize getF r a = ra at *
  have o1 : ∀ H, pureCall (alembicref17_Holds.f G (k + 6)) [I6 a, f.a] H = _ := fun H => pureCall_of (H := H) (rholds_spec G (k + 5) a f) rfl rfl
  generalize holdsF a f = hh at *
  rw [alembicref17_One.step]
  unfold alembicref17_One.c
  rw [zeroRg, zeroRgL]
  have hZ : (List.replicate 31 0 : List Nat).length = 31 := rfl
  have z1 : buildArr 1 (natsU (List.replicate 31 0)) [] = some (rgV (List.replicate 31 0)) := rfl
  have z2 : buildArr 1 [.bool false, .bool false, .bool false, .bool false] [] = some f00.a := rfl
  have b1 : boxA 44 (rgV (List.replicate 31 0)) [] = some (.ptr 0 1 0 0, [⟨44, 31, [rgV (List.replicate 31 0)]⟩]) := boxRg _ rfl []
  have b2 : boxA 53 (.agg [.bool false, .bool false, .bool false, .bool false]) [⟨44, 31, [rgV (List.replicate 31 0)]⟩] = some (.ptr 1 1 0 0, hp2 (List.replicate 31 0) f00) := rfl
  generalize List.replicate 31 0 = Z at *
  have c0 : ∀ H, boxRoA (rgV r) H = some (.rp false (rgV r) 0, H) := fun H => rfl
  have c1 : ∀ H, boxRoA f.a H = some (.rp false f.a 0, H) := fun H => rfl
  have c2 : ∀ H, loadV G true 31 (.rp false (rgV r) 0) H = some (rgV r) := fun H => by
    rw [q_ldrpT, if_pos (by rw [natsU_len, hr.len]; exact Nat.le_refl _), List.drop_zero, List.take_of_length_le (by rw [natsU_len, hr.len]; exact Nat.le_refl _)]
  have c3 : ∀ H, loadV G true 4 (.rp false f.a 0) H = some f.a := fun H => rfl
  have c4 : ∀ q : List Nat, q.length = 31 → stS (storeV 31 (.ptr 0 1 0 0) (rgV q) (hp2 Z f00)) = some (.tup [], hp2 q f00) := fun q hq => stRgA hq hZ rfl
  have c5 : ∀ (q : List Nat) (g : FL), stS (storeV 4 (.ptr 1 1 0 0) g.a (hp2 q f00)) = some (.tup [], hp2 q g) := fun q g => rfl
  refine e_in ?_
  cases hh
  · simp only [Bool.false_eq_true, if_false, if_true]
    have st' : ∀ H, pureCall (alembicref17_set.f G (k + 6)) [rgV r, I6 d, .int .u64 0] H = some (rgV (setF r d 0), H) := st 0
    have hq := setF_len r hr.len d 0
    generalize setF r d 0 = q at *
    have c4' := c4 q hq
    have c5' := c5 q f
    have fx := And.intro r1 <| And.intro g1 <| And.intro g2 <| And.intro g3 <| And.intro g4 <| And.intro k1 <| And.intro k2 <| And.intro k3 <| And.intro b1 <| And.intro b2 <| And.intro c0 <| And.intro c1 <| And.intro c2 <| And.intro c3 <| And.intro z1 <| And.intro z2 <| And.intro o1 <| And.intro st' <| And.intro c4' <| c5'
    refine wkB ?_
    exact oF (rone_fin G q hq f true)
  · simp only [Bool.false_eq_true, if_false, if_true]
    have st' : ∀ H, pureCall (alembicref17_set.f G (k + 6)) [rgV r, I6 d, .int .u64 1] H = some (rgV (setF r d 1), H) := st 1
    have hq := setF_len r hr.len d 1
    generalize setF r d 1 = q at *
    have c4' := c4 q hq
    have c5' := c5 q f
    have fx := And.intro r1 <| And.intro g1 <| And.intro g2 <| And.intro g3 <| And.intro g4 <| And.intro k1 <| And.intro k2 <| And.intro k3 <| And.intro b1 <| And.intro b2 <| And.intro c0 <| And.intro c1 <| And.intro c2 <| And.intro c3 <| And.intro z1 <| And.intro z2 <| And.intro o1 <| And.intro st' <| And.intro c4' <| c5'
    refine wkB ?_
    exact oF (rone_fin G q hq f true)
theorem rOne_spec (G : Globs) (k : Nat) (i : MI) (r : List Nat) (hr : RgOk r) (f : FL) : alembicref17_One.f G (k + 7) [i.v, rgV r, f.a] [] = some (oneV (oneF i r f), []) := by
  unfold oneF
  by_cases h : rightB i = true ∧ i.op ≤ 17
  · rw [if_pos h]
    have h24 := right24 h.1
    obtain ⟨op, d, n, m, a, imm⟩ := i
    obtain ⟨hw, h17⟩ := h
    simp only at h17 h24
    show alembicref17_One.f G (k + 7) [mV op d n m a imm, rgV r, f.a] [] = _
    have h17' : op = 1 ∨ op = 2 ∨ op = 3 ∨ op = 4 ∨ op = 5 ∨ op = 6 ∨ op = 7 ∨ op = 8 ∨ op = 9 ∨ op = 10 ∨ op = 11 ∨ op = 12 ∨ op = 13 ∨ op = 14 ∨ op = 15 ∨ op = 16 ∨ op = 17 := by omega
    rcases h17' with rfl | rfl | rfl | rfl | rfl | rfl | rfl | rfl | rfl | rfl | rfl | rfl | rfl | rfl | rfl | rfl | rfl
    · exact rone_1 G k d n m a imm hw r hr f
    · exact rone_2 G k d n m a imm hw r hr f
    · exact rone_3 G k d n m a imm hw r hr f
    · exact rone_4 G k d n m a imm hw r hr f
    · exact rone_5 G k d n m a imm hw r hr f
    · exact rone_6 G k d n m a imm hw r hr f
    · exact rone_7 G k d n m a imm hw r hr f
    · exact rone_8 G k d n m a imm hw r hr f
    · exact rone_9 G k d n m a imm hw r hr f
    · exact rone_10 G k d n m a imm hw r hr f
    · exact rone_11 G k d n m a imm hw r hr f
    · exact rone_12 G k d n m a imm hw r hr f
    · exact rone_13 G k d n m a imm hw r hr f
    · exact rone_14 G k d n m a imm hw r hr f
    · exact rone_15 G k d n m a imm hw r hr f
    · exact rone_16 G k d n m a imm hw r hr f
    · exact rone_17 G k d n m a imm hw r hr f
  · rw [if_neg h]
    have r1 : ∀ H, pureCall (alembicref17_Word.f G (k + 6)) [i.v] H = _ := fun H => pureCall_of (H := H) (rword_spec G k i) rfl rfl
    rw [alembicref17_One.step]
    unfold alembicref17_One.c
    rw [zeroRg, zeroRgL]
    have hZ : (List.replicate 31 0 : List Nat).length = 31 := rfl
    have z1 : buildArr 1 (natsU (List.replicate 31 0)) [] = some (rgV (List.replicate 31 0)) := rfl
    have z2 : buildArr 1 [.bool false, .bool false, .bool false, .bool false] [] = some f00.a := rfl
    have b1 : boxA 44 (rgV (List.replicate 31 0)) [] = some (.ptr 0 1 0 0, [⟨44, 31, [rgV (List.replicate 31 0)]⟩]) := boxRg _ rfl []
    have b2 : boxA 53 (.agg [.bool false, .bool false, .bool false, .bool false]) [⟨44, 31, [rgV (List.replicate 31 0)]⟩] = some (.ptr 1 1 0 0, hp2 (List.replicate 31 0) f00) := rfl
    have c0 : ∀ H, boxRoA (rgV r) H = some (.rp false (rgV r) 0, H) := fun H => rfl
    have c1 : ∀ H, boxRoA f.a H = some (.rp false f.a 0, H) := fun H => rfl
    have c4 : stS (storeV 31 (.ptr 0 1 0 0) (rgV (List.replicate 31 0)) (hp2 (List.replicate 31 0) f00)) = some (.tup [], hp2 (List.replicate 31 0) f00) := stRgA hZ hZ rfl
    have c5 : ∀ (q : List Nat) (g : FL), stS (storeV 4 (.ptr 1 1 0 0) g.a (hp2 q f00)) = some (.tup [], hp2 q g) := fun q g => rfl
    generalize List.replicate 31 0 = Z at *
    obtain ⟨op, d, n, m, a, imm⟩ := i
    simp only at h
    generalize rightB ⟨op, d, n, m, a, imm⟩ = b at *
    unfold MI.v at *
    simp only at *
    refine e_in ?_
    cases b
    · have fx := And.intro r1 <| And.intro b1 <| And.intro b2 <| And.intro c0 <| And.intro c1 <| And.intro z1 <| And.intro z2 <| And.intro c4 <| c5
      refine wkB ?_
      exact oF (rone_fin G Z hZ f00 false)
    · have h17 : ¬ op ≤ 17 := fun h2 => h ⟨rfl, h2⟩
      have fx := And.intro r1 <| And.intro b1 <| And.intro b2 <| And.intro c0 <| And.intro c1 <| And.intro z1 <| And.intro z2 <| And.intro c4 <| c5
      refine wkB ?_
      exact oF (rone_fin G Z hZ f00 false)
end Go.Proofs.YtdfglgnflldkpaaDoor.Mir
namespace Go.Proofs.YtdfglgnflldkpaaDoor.Mir
open Go
set_option linter.unusedVariables false
set_option linter.unusedSimpArgs false
set_option maxHeartbeats 8000000
set_option maxRecDepth 20000
/-! ### The blocks of the document's run -/
def QS.tailR (s : QS) : List AV := [.sl 6 s.leaks.length 0 s.leaks.length 2, Nn s.steps]
def QS.cellsR (s : QS) : List AV := I6 s.code :: .sl 2 s.mem.length 0 s.mem.length 1 :: (natsU s.regs ++ s.tailR)
def hpR (b0 : ABlk) (T : AHeap) (s : QS) : AHeap :=
  b0 :: ⟨43, 1, []⟩ :: ⟨43, 1, natsU s.mem⟩ :: ⟨46, 35, [.agg s.cellsR]⟩ :: ⟨53, 4, [s.flags.a]⟩ :: ⟨107, 2, []⟩ :: ⟨107, 2, leaksV s.leaks⟩ :: T
abbrev RX : AV := .ptr 3 1 0 0
section
variable (G : Globs) (b0 : ABlk) (T : AHeap) (s : QS)
theorem hpR_len : (hpR b0 T s).length = T.length + 7 := rfl
theorem rldQ (o : Nat) : loadV G false 1 (.ptr 3 1 0 o) (hpR b0 T s) = s.cellsR[o]? := rfl
theorem rldQT (o z : Nat) : loadV G true z (.ptr 3 1 0 o) (hpR b0 T s) = if o + z ≤ s.cellsR.length then some (.agg ((s.cellsR.drop o).take z)) else none := rfl
variable (hr : s.regs.length = 31)
theorem rcells_at (j : Nat) (hr : s.regs.length = 31) : s.cellsR[33 + j]? = s.tailR[j]? := by
  unfold QS.cellsR
  have e : 33 + j = 31 + j + 1 + 1 := by omega
  rw [e, List.getElem?_cons_succ, List.getElem?_cons_succ, List.getElem?_append_right (by rw [natsU_len]; omega), natsU_len, hr]
  congr 1; omega
theorem rcells_len (hr : s.regs.length = 31) : s.cellsR.length = 35 := by
  simp [QS.cellsR, QS.tailR, natsU_len, hr]
include hr in
theorem rldTail (j : Nat) : loadV G false 1 (.ptr 3 1 0 (33 + j)) (hpR b0 T s) = s.tailR[j]? := by
  rw [rldQ, rcells_at _ _ hr]
include hr in
theorem rld33 : loadV G false 1 (.ptr 3 1 0 33) (hpR b0 T s) = some (.sl 6 s.leaks.length 0 s.leaks.length 2) := rldTail G b0 T s hr 0
include hr in
theorem rld34 : loadV G false 1 (.ptr 3 1 0 34) (hpR b0 T s) = some (Nn s.steps) := rldTail G b0 T s hr 1
theorem rld1 : loadV G false 1 (.ptr 3 1 0 1) (hpR b0 T s) = some (.sl 2 s.mem.length 0 s.mem.length 1) := rfl
include hr in
theorem rldRg : loadV G true 31 (.ptr 3 1 0 2) (hpR b0 T s) = some (rgV s.regs) := by
  rw [rldQT, rcells_len _ hr, if_pos (by omega)]
  have hl : (natsU s.regs).length = 31 := by rw [natsU_len, hr]
  have e : (s.cellsR.drop 2).take 31 = natsU s.regs := by
    unfold QS.cellsR
    rw [show 2 = 0 + 1 + 1 from rfl, List.drop_succ_cons, List.drop_succ_cons, List.drop_zero, List.take_append, hl, List.take_of_length_le (by omega)]
    simp
  rw [e]
theorem rldFl : loadV G true 4 (.ptr 4 1 0 0) (hpR b0 T s) = some s.flags.a := rfl
include hr in
theorem rldAll : loadV G true 35 RX (hpR b0 T s) = some (.agg s.cellsR) := by
  rw [rldQT, rcells_len _ hr, if_pos (by omega), List.drop_zero, List.take_of_length_le (by rw [rcells_len _ hr]; exact Nat.le_refl _)]
theorem rstQ (o : Nat) (v : AV) (hv : storable v = true) (h1 : v.cells = [v]) (ho : o < 35) (hr : s.regs.length = 31) : stS (storeV 1 (.ptr 3 1 0 o) v (hpR b0 T s)) =
    some (.tup [], (hpR b0 T s).set 3 ⟨46, 35, [.agg (putC s.cellsR o [v])]⟩) := by
  have e : (hpR b0 T s)[3]? = some ⟨46, 35, [.agg s.cellsR]⟩ := rfl
  have e2 : (AV.agg s.cellsR).cells = s.cellsR := rfl
  unfold storeV
  simp only [e, List.length_singleton, hv, List.getElem?_cons_zero, h1]
  rw [if_pos (by simp), e2, if_pos (by rw [rcells_len _ hr]; omega)]
  rfl
theorem rput_tail (j : Nat) (v : AV) (hr : s.regs.length = 31) : putC s.cellsR (33 + j) [v] = I6 s.code :: .sl 2 s.mem.length 0 s.mem.length 1 :: (natsU s.regs ++ putC s.tailR j [v]) := by
  have hl : (natsU s.regs).length = 31 := by rw [natsU_len, hr]
  unfold QS.cellsR putC
  rw [show 33 + j = 31 + j + 1 + 1 by omega, List.take_succ_cons, List.take_succ_cons, show 31 + j + 1 + 1 + [v].length = 31 + (j + [v].length) + 1 + 1 by omega, List.drop_succ_cons, List.drop_succ_cons,
    List.take_append, hl, List.take_of_length_le (by omega), List.drop_append, hl, List.drop_of_length_le (by omega)]
  simp only [Nat.add_sub_cancel_left, List.nil_append, List.cons_append, List.append_assoc]
theorem rst0 (n : Int) (hr : s.regs.length = 31) : stS (storeV 1 (.ptr 3 1 0 0) (I6 n) (hpR b0 T s)) = some (.tup [], hpR b0 T { s with code := n }) := rstQ b0 T s 0 (I6 n) rfl rfl (by decide) hr
theorem rst34 (n : Nat) (hr : s.regs.length = 31) : stS (storeV 1 (.ptr 3 1 0 34) (Nn n) (hpR b0 T s)) = some (.tup [], hpR b0 T { s with steps := n }) := by
  rw [rstQ b0 T s 34 (Nn n) rfl rfl (by decide) hr, rput_tail s 1 (Nn n) hr]; rfl
theorem rstFl (f : FL) : stS (storeV 4 (.ptr 4 1 0 0) f.a (hpR b0 T s)) = some (.tup [], hpR b0 T { s with flags := f }) := rfl
theorem rstRg (q : List Nat) (hq : q.length = 31) (hr : s.regs.length = 31) : stS (storeV 31 (.ptr 3 1 0 2) (rgV q) (hpR b0 T s)) = some (.tup [], hpR b0 T { s with regs := q }) := by
  have e : (hpR b0 T s)[3]? = some ⟨46, 35, [.agg s.cellsR]⟩ := rfl
  have e2 : (AV.agg s.cellsR).cells = s.cellsR := rfl
  have e3 : (rgV q).cells = natsU q := rfl
  have hs : storable (rgV q) = true := rfl
  have hl : (natsU s.regs).length = 31 := by rw [natsU_len, hr]
  have hlq : (natsU q).length = 31 := by rw [natsU_len, hq]
  have e4 : putC s.cellsR 2 (natsU q) = QS.cellsR { s with regs := q } := by
    show putC (I6 s.code :: .sl 2 s.mem.length 0 s.mem.length 1 :: (natsU s.regs ++ s.tailR)) 2 _ = I6 s.code :: .sl 2 s.mem.length 0 s.mem.length 1 :: (natsU q ++ s.tailR)
    unfold putC
    rw [hlq, show 2 = 0 + 1 + 1 from rfl, List.take_succ_cons, List.take_succ_cons, List.take_zero, show 0 + 1 + 1 + 31 = 31 + 1 + 1 from rfl, List.drop_succ_cons, List.drop_succ_cons, List.drop_append, hl, List.drop_of_length_le (by omega)]
    simp
  unfold storeV
  simp only [e, List.length_singleton, hs, List.getElem?_cons_zero, e3]
  rw [if_pos (by refine ⟨?_, ?_, ?_⟩ <;> first | trivial | exact hlq), e2, if_pos (by rw [rcells_len _ hr]; decide), e4]
  rfl
theorem rldMem (n : Nat) : idxAddrSl 1 (.sl 2 s.mem.length 0 s.mem.length 1) (Un n) = if n < s.mem.length then some (.ptr 2 s.mem.length n 0) else none := by
  have h0 : (0 : Int) ≤ (n : Int) := by omega
  by_cases h : n < s.mem.length
  · have h' : (n : Int) < (s.mem.length : Int) := by omega
    rw [if_pos h]
    simp [idxAddrSl, h0, h']
  · have h' : ¬ (n : Int) < (s.mem.length : Int) := by omega
    rw [if_neg h]
    simp [idxAddrSl, h0, h']
theorem rldM (j : Nat) (h : j < s.mem.length) : loadV G false 1 (.ptr 2 s.mem.length j 0) (hpR b0 T s) = some (Un (s.mem.getD j 0)) := by
  have e : (hpR b0 T s)[2]? = some ⟨43, 1, natsU s.mem⟩ := rfl
  unfold loadV
  simp only [e, natsU_len, natsU_get _ _ h, if_true]
  rfl
theorem rstM (j x : Nat) (h : j < s.mem.length) : stS (storeV 1 (.ptr 2 s.mem.length j 0) (Un x) (hpR b0 T s)) = some (.tup [], hpR b0 T { s with mem := s.mem.set j x }) := by
  have e : (hpR b0 T s)[2]? = some ⟨43, 1, natsU s.mem⟩ := rfl
  have e2 : QS.cellsR { s with mem := s.mem.set j x } = s.cellsR := by
    unfold QS.cellsR QS.tailR
    simp only [List.length_set]
  unfold storeV
  simp only [e, natsU_len, natsU_get _ _ h]
  unfold hpR
  rw [e2]
  simp only [natsU_set]
  rfl
theorem rapL (p : Int × Int) (hl : s.leaks.length ≤ 1000000) : appendV 107 2 (.sl 6 s.leaks.length 0 s.leaks.length 2) (.ro false [leakV p]) (hpR b0 T s) =
    some (.sl 6 (s.leaks.length + 1) 0 (s.leaks.length + 1) 2, (hpR b0 T s).set 6 ⟨107, 2, leaksV (s.leaks ++ [p])⟩) := by
  have e : (hpR b0 T s)[6]? = some ⟨107, 2, leaksV s.leaks⟩ := rfl
  unfold appendV
  simp only [e, elemsOf, leaksV_len, List.length_singleton]
  rw [if_pos (by refine ⟨?_, ?_, ?_, ?_, ?_⟩ <;> first | trivial | rfl | omega)]
  have e2 : (leaksV s.leaks).take s.leaks.length = leaksV s.leaks := List.take_of_length_le (by rw [leaksV_len]; exact Nat.le_refl _)
  have e3 : (leaksV s.leaks).drop (s.leaks.length + 1) = [] := List.drop_of_length_le (by rw [leaksV_len]; omega)
  rw [e2, e3, List.append_nil]
  have e4 : leaksV s.leaks ++ [leakV p] = leaksV (s.leaks ++ [p]) := by simp [leaksV]
  rw [e4, leaksV_len]; simp
theorem rstL (p : Int × Int) (hr : s.regs.length = 31) : stS (storeV 1 (.ptr 3 1 0 33) (.sl 6 (s.leaks.length + 1) 0 (s.leaks.length + 1) 2) ((hpR b0 T s).set 6 ⟨107, 2, leaksV (s.leaks ++ [p])⟩)) =
    some (.tup [], hpR b0 T (s.leak p.1 p.2)) := by
  have e : ((hpR b0 T s).set 6 ⟨107, 2, leaksV (s.leaks ++ [p])⟩)[3]? = some ⟨46, 35, [.agg s.cellsR]⟩ := rfl
  have e2 : (AV.agg s.cellsR).cells = s.cellsR := rfl
  have e3 : QS.cellsR (s.leak p.1 p.2) = I6 s.code :: .sl 2 s.mem.length 0 s.mem.length 1 :: (natsU s.regs ++ putC s.tailR 0 [.sl 6 (s.leaks.length + 1) 0 (s.leaks.length + 1) 2]) := by
    unfold QS.cellsR QS.tailR QS.leak
    simp only [List.length_append, List.length_singleton]
    rfl
  have e4 := rput_tail s 0 (.sl 6 (s.leaks.length + 1) 0 (s.leaks.length + 1) 2) hr
  unfold storeV
  simp only [e, List.length_singleton, List.getElem?_cons_zero]
  rw [if_pos (by refine ⟨?_, ?_, ?_⟩ <;> first | trivial | rfl), e2, if_pos (by rw [rcells_len _ hr]; decide)]
  have e5 : (AV.sl 6 (s.leaks.length + 1) 0 (s.leaks.length + 1) 2).cells = [.sl 6 (s.leaks.length + 1) 0 (s.leaks.length + 1) 2] := rfl
  have e4' : putC s.cellsR 33 [.sl 6 (s.leaks.length + 1) 0 (s.leaks.length + 1) 2] = _ := e4
  rw [e5, e4', ← e3]
  rfl
theorem belowL_app (n : Nat) : ∀ xs ys : List AV, belowL n xs = true → belowL n ys = true → belowL n (xs ++ ys) = true
  | [], ys, _, h => h
  | x :: xs, ys, h1, h2 => by
    simp only [belowL, Bool.and_eq_true] at h1
    simp [belowL, h1.1, belowL_app n xs ys h1.2 h2]
theorem rcut7 (hb : belowL 7 b0.elems = true) (xs : List AV) (hx : belowL 7 xs = true) : cutH 7 xs (hpR b0 T s) = some (hpR b0 [] s) := by
  have e : (hpR b0 T s).take 7 = hpR b0 [] s := rfl
  have h1 : belowL 7 s.cellsR = true := by
    unfold QS.cellsR
    simp [belowL, belowB, belowL_app, natsU_below, QS.tailR]
  have h2 : heapBelow 7 (hpR b0 [] s) = true := by
    simp [hpR, heapBelow, belowL, belowB, hb, natsU_below, leaksV_below, h1, FL.a]
  unfold cutH
  rw [e, hx, h2]; rfl
theorem rstRes (T' : Nat) (z cs : List AV) (hz : z.length = 35) (hc : cs.length = 35) : stS (storeV 35 (.ptr 0 1 0 0) (.agg cs) (hpR (bR T' z) T s)) = some (.tup [], hpR (bR T' cs) T s) := by
  have e : (hpR (bR T' z) T s)[0]? = some ⟨T', 35, [.agg z]⟩ := rfl
  have e2 : putC z 0 cs = cs := by
    unfold putC
    rw [List.take_zero, List.nil_append, List.drop_of_length_le (by omega), List.append_nil]
  have e3 : (AV.agg cs).cells = cs := rfl
  have e4 : (AV.agg z).cells = z := rfl
  have hs : storable (.agg cs) = true := rfl
  unfold storeV
  simp only [e, List.length_singleton, hs, List.getElem?_cons_zero, e3]
  rw [if_pos (by refine ⟨?_, ?_, ?_⟩ <;> first | trivial | exact hc), e4, if_pos (by omega), e2]
  rfl
end
/-- The code that a run has while it goes on says nothing. -/
theorem step_code (s : QS) (c : Int) (w : Int) : (({ s with code := c } : QS).step w) = if (s.step w).2 = true then ({ (s.step w).1 with code := c }, true) else s.step w := by
  unfold QS.step
  cases ofF w with
  | none => rfl
  | some i =>
    simp only
    unfold QS.act
    by_cases h1 : i.op = 18 ∨ i.op = 19
    · rw [if_pos h1, if_pos h1]
      unfold QS.touch
      have e : (({ s with code := c } : QS).next).addr i = s.next.addr i := rfl
      rw [e]
      generalize s.next.addr i = ad
      by_cases h2 : ad % 8 ≠ 0 ∨ s.mem.length ≤ ad / 8
      · have e1 : (ad % 8 ≠ 0 ∨ ({ s with code := c } : QS).next.mem.length ≤ ad / 8) := h2
        have e2 : (ad % 8 ≠ 0 ∨ s.next.mem.length ≤ ad / 8) := h2
        simp only [if_pos e1, if_pos e2]
        rfl
      · have e1 : ¬ (ad % 8 ≠ 0 ∨ ({ s with code := c } : QS).next.mem.length ≤ ad / 8) := h2
        have e2 : ¬ (ad % 8 ≠ 0 ∨ s.next.mem.length ≤ ad / 8) := h2
        simp only [if_neg e1, if_neg e2]
        by_cases h3 : i.op = 18
        · simp only [if_pos h3]; rfl
        · simp only [if_neg h3]; rfl
    rw [if_neg h1, if_neg h1]
    by_cases h2 : i.op = 20 ∨ i.op = 21 ∨ i.op = 22 ∨ i.op = 23
    · rw [if_pos h2, if_pos h2, if_pos rfl]
      unfold QS.branch
      have e : (({ s with code := c } : QS).next).goes i = s.next.goes i := rfl
      rw [e]
      by_cases h3 : i.op = 20
      · rw [if_pos h3, if_pos h3]; rfl
      · rw [if_neg h3, if_neg h3]
        cases s.next.goes i <;> rfl
    rw [if_neg h2, if_neg h2]
    by_cases h3 : i.op = 24
    · rw [if_pos h3, if_pos h3]; rfl
    · rw [if_neg h3, if_neg h3]; rfl
theorem runQ_code (cs : List Int) (fuel : Int) : ∀ (f : Nat) (s : QS) (c : Int), runQ cs fuel f { s with code := c } = runQ cs fuel f s
  | 0, _, _ => rfl
  | f + 1, s, c => by
    simp only [runQ]
    by_cases h1 : s.at_ < 0 ∨ (cs.length : Int) ≤ s.at_
    · rw [if_pos h1, if_pos h1]
    rw [if_neg h1, if_neg h1]
    by_cases h2 : (s.steps : Int) = fuel
    · rw [if_pos h2, if_pos h2]
    rw [if_neg h2, if_neg h2]
    have e : ({ s with code := c } : QS).tick = { s.tick with code := c } := rfl
    rw [e, step_code]
    obtain ⟨s2, b, hsb⟩ : ∃ s2 b, s.tick.step (cs.getD s.at_.toNat 0) = (s2, b) := ⟨_, _, rfl⟩
    rw [hsb]
    cases b
    · simp
    · simp only [if_true]
      exact runQ_code cs fuel f s2 c
end Go.Proofs.YtdfglgnflldkpaaDoor.Mir
namespace Go.Proofs.YtdfglgnflldkpaaDoor.Mir
open Go
set_option linter.unusedVariables false
set_option linter.unusedSimpArgs false
set_option maxHeartbeats 8000000
set_option maxRecDepth 20000
theorem idxRo {b : Bool} {xs : List AV} {j : Nat} {k : IntKind} {n : Int} (h : xs[j]? = some (.int k n)) : idxAddrSl 1 (.ro b xs) (Nn j) = some (.rp b (.int k n) 0) := by
  have h0 : (0 : Int) ≤ (j : Int) := by omega
  unfold idxAddrSl
  simp only [Int.toNat_natCast, h]
  rw [if_pos h0]
  rfl
abbrev bZ : ABlk := ⟨46, 35, [.agg (I6 0 :: .nils :: (natsU (List.replicate 31 0) ++ [.nils, .int .i64 0]))]⟩
theorem bZ_below (n : Nat) : belowL n bZ.elems = true := by simp [bZ, belowL, belowB, belowL_app, natsU_below]
def hpW (l : List Nat) : AHeap := [bZ, ⟨43, 1, []⟩, ⟨43, 1, natsU l⟩]
theorem words_loop (G : Globs) (k : Nat) (self : Den) (b : Bool) (mem : List Nat) (hml : mem.length ≤ 1000000) : ∀ (suf pre : List Nat) (f : Nat), mem = pre ++ suf → suf.length < f →
    loopN (alembicref_Words.l3 G k 3 self) f [.ro b (natsU mem), .sl 2 pre.length 0 pre.length 1, Nn pre.length] (hpW pre) = some (.exit 0, [.ro b (natsU mem), .sl 2 mem.length 0 mem.length 1, Nn mem.length], hpW mem)
  | suf, pre, 0, hm, hf => by omega
  | [], pre, f + 1, hm, hf => by
    rw [loopN_succ, alembicref_Words.l3]
    have hl : mem = pre := by rw [hm]; simp
    have hc : cutH 3 [.ro b (natsU mem), .sl 2 pre.length 0 pre.length 1, Nn pre.length] (hpW pre) = some (hpW pre) := by
      have hz := bZ_below 3; simp only [bZ] at hz; simp [cutH, hpW, belowL, belowB, heapBelow, natsU_below, belowL_app]
    have lc : lenSl (.ro b (natsU mem)) = some (I6 mem.length) := by simp [lenSl, natsU_len]
    have q : bin Tryd.prog .lss 3 false (Nn pre.length) (Nn mem.length) = some (.bool false) := by rw [bin_lss, decide_eq_false (by rw [hl]; omega)]
    refine e_id ?_
    refine eC hc ?_
    have fx := And.intro lc <| q
    refine wkA ?_
    rw [hl]
    refine e_out ?_; rfl
  | a :: suf, pre, f + 1, hm, hf => by
    rw [loopN_succ, alembicref_Words.l3]
    have hl : mem.length = pre.length + (suf.length + 1) := by rw [hm]; simp
    have hc : cutH 3 [.ro b (natsU mem), .sl 2 pre.length 0 pre.length 1, Nn pre.length] (hpW pre) = some (hpW pre) := by
      have hz := bZ_below 3; simp only [bZ] at hz; simp [cutH, hpW, belowL, belowB, heapBelow, natsU_below, belowL_app]
    have lc : lenSl (.ro b (natsU mem)) = some (I6 mem.length) := by simp [lenSl, natsU_len]
    have q : bin Tryd.prog .lss 3 false (Nn pre.length) (Nn mem.length) = some (.bool true) := by rw [bin_lss, decide_eq_true (by omega)]
    have ha : mem.getD pre.length 0 = a := by rw [hm]; simp [List.getD]
    have d1 : idxAddrSl 1 (.ro b (natsU mem)) (Nn pre.length) = some (.rp b (Un a) 0) := by
      have := natsU_get mem pre.length (by omega)
      rw [ha] at this
      exact idxRo this
    have d2 : ∀ H, loadV G false 1 (.rp b (Un a) 0) H = some (Un a) := fun H => rfl
    have d3 : appendV 43 1 (.sl 2 pre.length 0 pre.length 1) (.ro false [Un a]) (hpW pre) = some (.sl 2 (pre ++ [a]).length 0 (pre ++ [a]).length 1, hpW (pre ++ [a])) := by
      have e : (hpW pre)[2]? = some ⟨43, 1, natsU pre⟩ := rfl
      unfold appendV
      simp only [e, elemsOf, natsU_len, List.length_singleton]
      rw [if_pos (by refine ⟨?_, ?_, ?_, ?_, ?_⟩ <;> first | trivial | rfl | omega)]
      have e2 : (natsU pre).take pre.length = natsU pre := List.take_of_length_le (by rw [natsU_len]; exact Nat.le_refl _)
      have e3 : (natsU pre).drop (pre.length + 1) = [] := List.drop_of_length_le (by rw [natsU_len]; omega)
      rw [e2, e3, List.append_nil]
      have e4 : natsU pre ++ [Un a] = natsU (pre ++ [a]) := by simp [natsU]
      rw [e4, natsU_len]; simp [hpW]
    have d4 : bin Tryd.prog .add 3 true (Nn pre.length) (.int .i64 1) = some (Nn (pre ++ [a]).length) := by
      rw [bin_add, wrap_of_i64 (by omega) (by omega)]; congr 2; simp
    have ih := words_loop G k self b mem hml suf (pre ++ [a]) f (by rw [hm]; simp) (by simp at hf; omega)
    refine e_id ?_
    refine eC hc ?_
    have fx := And.intro lc <| And.intro q <| And.intro d1 <| And.intro d2 <| And.intro d3 <| d4
    refine wkA ?_
    exact ih
theorem words_spec (G : Globs) (k : Nat) (b : Bool) (mem : List Nat) (hml : mem.length ≤ 1000000) (hk : mem.length < k) : alembicref_Words.f G (k + 1) [.ro b (natsU mem)] [bZ] = some (.sl 2 mem.length 0 mem.length 1, hpW mem) := by
  rw [alembicref_Words.step]
  unfold alembicref_Words.c
  have lc : lenSl (.ro b (natsU mem)) = some (I6 mem.length) := by simp [lenSl, natsU_len]
  have ms : makeSliceV 43 1 (.int .u64 0) (.int .i64 0) (I6 mem.length) [bZ, ⟨43, 1, []⟩] = some (.sl 2 0 0 0 1, hpW []) := by
    unfold makeSliceV
    simp only
    rw [if_pos (by omega)]
    rfl
  have lp : loopN (alembicref_Words.l3 G k 3 (alembicref_Words.f G k)) k [.ro b (natsU mem), .sl 2 0 0 0 1, .int .i64 0] (hpW []) = _ := words_loop G k (alembicref_Words.f G k) b mem hml mem [] k rfl hk
  refine e_in ?_
  have fx := And.intro lc <| ms
  have lx1 := lp
  refine wkA ?_
  refine e_out ?_; rfl
theorem rone_spec (G : Globs) (k : Nat) (b : Bool) : alembicref17_one.f G (k + 1) [.bool b] [] = some (I6 (if b = true then 1 else 0), []) := by
  rw [alembicref17_one.step]
  unfold alembicref17_one.c
  refine e_in ?_
  cases b
  · have fx := True.intro
    refine wkA ?_
    exact w1i rfl
  · have fx := True.intro
    refine wkA ?_
    exact w1i rfl
def xsR (fuel : Int) (bor : Bool) (cs : List Int) (pc : Int) : List AV := [.ro bor (codeW cs), I6 fuel, .ptr 0 1 0 0, RX, .ptr 4 1 0 0, I6 pc]
theorem xsR_below (fuel : Int) (bor : Bool) (cs : List Int) (pc : Int) : belowL 7 (xsR fuel bor cs pc) = true := by simp [xsR, belowL, belowB, codeW_below]
section
variable (G : Globs) (k : Nat) (self : Den) (z : List AV) (hz : z.length = 35) (hzb : belowL 7 z = true) (bor : Bool) (cs : List Int) (fuel : Int) (lp : LoopF)
/-- An instruction's cells. -/
theorem t7v (b0 : ABlk) (i : MI) (l : AHeap) (t : QS) : loadV G true 6 (.ptr 7 1 0 0) (hpR b0 (⟨57, 6, [i.v]⟩ :: l) t) = some i.v := rfl
theorem t70 (b0 : ABlk) (i : MI) (l : AHeap) (t : QS) : loadV G false 1 (.ptr 7 1 0 0) (hpR b0 (⟨57, 6, [i.v]⟩ :: l) t) = some (I6 i.op) := rfl
theorem t71 (b0 : ABlk) (i : MI) (l : AHeap) (t : QS) : loadV G false 1 (.ptr 7 1 0 1) (hpR b0 (⟨57, 6, [i.v]⟩ :: l) t) = some (I6 i.d) := rfl
theorem t72 (b0 : ABlk) (i : MI) (l : AHeap) (t : QS) : loadV G false 1 (.ptr 7 1 0 2) (hpR b0 (⟨57, 6, [i.v]⟩ :: l) t) = some (I6 i.n) := rfl
theorem t74 (b0 : ABlk) (i : MI) (l : AHeap) (t : QS) : loadV G false 1 (.ptr 7 1 0 4) (hpR b0 (⟨57, 6, [i.v]⟩ :: l) t) = some (I6 i.a) := rfl
theorem t75 (b0 : ABlk) (i : MI) (l : AHeap) (t : QS) : loadV G false 1 (.ptr 7 1 0 5) (hpR b0 (⟨57, 6, [i.v]⟩ :: l) t) = some (I6 i.imm) := rfl
/-- What a round does, as an equation: it goes on, or it ends. -/
def roundR (lp : LoopF) (z : List AV) (fuel : Int) (bor : Bool) (cs : List Int) (q : QS × Bool) (m : Option Outc) : Prop :=
  if q.2 = true then ∃ T, m = lp (xsR fuel bor cs q.1.at_) (hpR (bR 46 z) T q.1)
  else ∃ T xs, m = some (.ret, xs, hpR (bR 46 q.1.cellsR) T q.1) ∧ nth xs 2 = .ptr 0 1 0 0
include hz hzb in
theorem round_spec (T0 : AHeap) (s : QS) (hs : s.Ok) (hc : s.code = 3) (h1 : 0 ≤ s.at_) (h2 : s.at_ < cs.length) (h3 : (s.steps : Int) < fuel) (hf : fuel ≤ 99999) (hcl : cs.length ≤ 100000) (w0 : 0 ≤ cs.getD s.at_.toNat 0 ∧ cs.getD s.at_.toNat 0 < 4294967296) :
    roundR lp z fuel bor cs (s.tick.step (cs.getD s.at_.toNat 0)) (alembicref17_RunMach.l4 G (k + 41) 7 self lp (xsR fuel bor cs s.at_) (hpR (bR 46 z) T0 s)) := by
  have few := hs.few
  have lks := hs.leaks
  have hr := hs.rg.len
  have hb : belowL 7 (bR 46 z).elems = true := by simp [bR, belowL, belowB, hzb]
  have hcut := rcut7 (bR 46 z) T0 s hb _ (xsR_below fuel bor cs s.at_)
  rw [alembicref17_RunMach.l4, zeroRg]
  have hZ : (List.replicate 31 0 : List Nat).length = 31 := rfl
  generalize List.replicate 31 0 = Z at *
  have c2 : lenSl (.ro bor (codeW cs)) = some (Nn cs.length) := by simp [lenSl, codeW_len]
  have n0 : bin Tryd.prog .lss 3 true (I6 s.at_) (.int .i64 0) = some (.bool false) := q_lss_f (by omega)
  have n1 : bin Tryd.prog .geq 3 false (I6 s.at_) (Nn cs.length) = some (.bool false) := q_geq_f (by omega)
  have n2 : bin Tryd.prog .geq 2 false (Nn s.steps) (I6 fuel) = some (.bool false) := q_geq_f (by omega)
  have n3 : bin Tryd.prog .add 2 true (Nn s.steps) (.int .i64 1) = some (Nn (s.steps + 1)) := by
    rw [bin_add, wrap_of_i64 (by omega) (by omega)]; congr 2
  have f0 : fieldAddrV 0 RX = some RX := rfl
  have f1 : fieldAddrV 1 RX = some (.ptr 3 1 0 1) := rfl
  have f2 : fieldAddrV 2 RX = some (.ptr 3 1 0 2) := rfl
  have f33 : fieldAddrV 33 RX = some (.ptr 3 1 0 33) := rfl
  have f34 : fieldAddrV 34 RX = some (.ptr 3 1 0 34) := rfl
  have c3 := rld34 G (bR 46 z) [] s hr
  have c4 := rst34 (bR 46 z) [] s (s.steps + 1) hr
  have c5 := rld33 G (bR 46 z) [] { s with steps := s.steps + 1 } hr
  have ll : s.leaks.length ≤ 999990 := by omega
  have c6 := rapL (bR 46 z) [] { s with steps := s.steps + 1 } (1, s.at_) (by simp only; omega)
  have c7 := rstL (bR 46 z) [] { s with steps := s.steps + 1 } (1, s.at_) hr
  have bl : ∀ a b : Int, buildSt [(0, 1), (1, 1)] [(.int .i64 0), (.int .i64 0)] [(0, I6 a), (1, I6 b)] = some (leakV (a, b)) := fun a b => rfl
  have br : ∀ (a b : Int) H, buildRo 2 1 (.agg [(.int .i64 0), (.int .i64 0)]) [(0, leakV (a, b))] H = some (.ro false [leakV (a, b)], H) := fun a b H => rfl
  have bl1 : buildSt [(0, 1), (1, 1)] [(.int .i64 0), (.int .i64 0)] [(0, (.int .i64 1)), (1, I6 s.at_)] = some (leakV (1, s.at_)) := rfl
  have br1 := br 1 s.at_
  have et : (({ s with steps := s.steps + 1 } : QS).leak 1 s.at_) = s.tick := rfl
  simp only at c5 c6 c7
  rw [et] at c7
  have c8 := wAt bor cs s.at_ h1 h2
  have c9 : ∀ w H, loadV G false 1 (.rp bor (W32 w) 0) H = some (W32 w) := fun w H => rfl
  have okt : s.tick.Ok := ⟨hs.rg, hs.mem, by simp [QS.tick, QS.leak]; omega, hs.big, by simp [QS.tick, QS.leak]; omega⟩
  have tll : s.tick.leaks.length ≤ 999995 := by simp [QS.tick, QS.leak]; omega
  have tc : s.tick.code = 3 := hc
  have tat : s.tick.at_ = s.at_ := rfl
  generalize cs.getD s.at_.toNat 0 = w at *
  obtain ⟨t, ht⟩ : ∃ t, t = s.tick := ⟨_, rfl⟩
  rw [← ht] at c7 okt tll tc tat ⊢
  have tr := okt.rg.len
  have of : ∀ H, pureCall (alembicref17_Of.f G (k + 41)) [W32 w] H = some (ofV (ofF w), H) := fun H => pureCall_of (H := H) (rOf_spec G (k + 1) w w0.1 w0.2) rfl (by unfold ofV; split <;> rfl)
  have bx0 : boxA 57 (.agg [.int .i64 0, .int .i64 0, .int .i64 0, .int .i64 0, .int .i64 0, .int .i64 0]) (hpR (bR 46 z) [] t) = some (.ptr 7 1 0 0, hpR (bR 46 z) (TB ⟨0, 0, 0, 0, 0, 0⟩) t) := rfl
  have s7 : ∀ y : MI, stS (storeV 6 (.ptr 7 1 0 0) y.v (hpR (bR 46 z) (TB ⟨0, 0, 0, 0, 0, 0⟩) t)) = some (.tup [], hpR (bR 46 z) (TB y) t) := fun y => rfl
  have rAll : ∀ (T : AHeap) (q : QS), q.regs.length = 31 → loadV G true 35 RX (hpR (bR 46 z) T q) = some (.agg q.cellsR) := fun T q hq => rldAll G (bR 46 z) T q hq
  have sAll : ∀ (T : AHeap) (q : QS), q.regs.length = 31 → stS (storeV 35 (.ptr 0 1 0 0) (.agg q.cellsR) (hpR (bR 46 z) T q)) = some (.tup [], hpR (bR 46 q.cellsR) T q) := fun T q hq => rstRes T q 46 z _ hz (rcells_len q hq)
  unfold roundR QS.step
  cases ho : ofF w with
  | none =>
    have e3 : ({ t with code := 3 } : QS) = t := by rw [← tc]
    simp only
    rw [if_neg (by simp), e3]
    rw [ho] at of
    unfold ofV at of
    simp only at of
    have s7' := s7 ⟨0, 0, 0, 0, 0, 0⟩
    have z2 : (⟨0, 0, 0, 0, 0, 0⟩ : MI).v = mV 0 0 0 0 0 0 := rfl
    rw [z2] at s7'
    have l1 := rAll (TB ⟨0, 0, 0, 0, 0, 0⟩) t tr
    have l2 := sAll (TB ⟨0, 0, 0, 0, 0, 0⟩) t tr
    clear s7 rAll sAll z2
    refine ⟨TB ⟨0, 0, 0, 0, 0, 0⟩, [.ro bor (codeW cs), I6 fuel, .ptr 0 1 0 0, RX, .ptr 4 1 0 0, I6 s.at_], ?_, rfl⟩
    refine e_id ?_
    refine eC hcut ?_
    unfold xsR
    generalize TB ⟨0, 0, 0, 0, 0, 0⟩ = tb at *
    generalize t.cellsR = tcs at *
    generalize leakV (1, s.at_) = lv at *
    have fx := And.intro f0 <| And.intro f1 <| And.intro f2 <| And.intro f33 <| And.intro f34 <| And.intro c2 <| And.intro n0 <| And.intro n1 <| And.intro c3 <| And.intro n2 <| And.intro n3 <| And.intro c4 <| And.intro c5 <| And.intro bl1 <| And.intro br1 <| And.intro c6 <| And.intro c7 <| And.intro c8 <| And.intro c9 <| And.intro of <| And.intro bx0 <| And.intro s7' <| And.intro l1 <| l2
    refine wkB ?_
    refine e_out ?_; rfl
  | some i =>
    have hri := (of_some ho).1
    have h24 := right24 hri
    have hok := (right_ok hri).2
    have him := imm_small hri
    rw [ho] at of
    unfold ofV at of
    simp only at of ⊢
    have s7' := s7 i
    have a70 : fieldAddrV 0 (.ptr 7 1 0 0) = some (.ptr 7 1 0 0) := rfl
    have a71 : fieldAddrV 1 (.ptr 7 1 0 0) = some (.ptr 7 1 0 1) := rfl
    have a72 : fieldAddrV 2 (.ptr 7 1 0 0) = some (.ptr 7 1 0 2) := rfl
    have a74 : fieldAddrV 4 (.ptr 7 1 0 0) = some (.ptr 7 1 0 4) := rfl
    have a75 : fieldAddrV 5 (.ptr 7 1 0 0) = some (.ptr 7 1 0 5) := rfl
    have l70 := fun l t => t70 G (bR 46 z) i l t
    have l71 := fun l t => t71 G (bR 46 z) i l t
    have l72 := fun l t => t72 G (bR 46 z) i l t
    have l74 := fun l t => t74 G (bR 46 z) i l t
    have l75 := fun l t => t75 G (bR 46 z) i l t
    have l7v := fun l t => t7v G (bR 46 z) i l t
    have pc1 : bin Tryd.prog .add 3 true (I6 s.at_) (.int .i64 1) = some (I6 (s.at_ + 1)) := q_add (by omega) (by omega)
    have g : ∀ j, 0 ≤ j → j ≤ 31 → ∀ H, pureCall (alembicref17_get.f G (k + 41)) [rgV t.regs, I6 j] H = some (Un (getF t.regs j), H) := fun j h0 h1 H => pureCall_of (H := H) (rget_spec G (k + 40) t.regs tr j h0 h1) (by simp [plainL, plainB, plainU]) rfl
    have gn := g i.n hok.n.1 hok.n.2
    have gd_ := g i.d hok.d.1 hok.d.2
    clear g s7
    have atn : t.next.at_ = s.at_ + 1 := by rw [← tat]; rfl
    unfold QS.act
    by_cases t1 : i.op = 18 ∨ i.op = 19
    · rw [if_pos t1]
      have rg := rldRg G (bR 46 z) (TB i) t tr
      have d10 : convInt .u64 (I6 i.imm) = some (Un (u64 i.imm)) := conv_u64 ..
      have d11 : bin Tryd.prog .mul 43 true (.int .u64 8) (Un (u64 i.imm)) = some (Un (8 * u64 i.imm % 18446744073709551616)) := u64_mul Tryd.prog 43 true 8 (u64 i.imm)
      have ea : t.next.addr i = t.addr i := rfl
      have d12 : bin Tryd.prog .add 43 false (Un (getF t.regs i.n)) (Un (8 * u64 i.imm % 18446744073709551616)) = some (Un (t.addr i)) := u64_add ..
      have hal : t.addr i < 18446744073709551616 := by unfold QS.addr; exact Nat.mod_lt _ (by decide)
      unfold QS.touch
      rw [ea]
      generalize t.addr i = ad at *
      have d13 := conv_i64 ad hal
      have x33 := rld33 G (bR 46 z) (TB i) t tr
      have x6 := rapL (bR 46 z) (TB i) t (3, s64 ad) (by omega)
      have x7 := rstL (bR 46 z) (TB i) t (3, s64 ad) tr
      have bl3 : buildSt [(0, 1), (1, 1)] [(.int .i64 0), (.int .i64 0)] [(0, (.int .i64 3)), (1, I6 (s64 ad))] = some (leakV (3, s64 ad)) := rfl
      have br3 := br 3 (s64 ad)
      obtain ⟨t2, ht2⟩ : ∃ t2, t2 = t.leak 3 (s64 ad) := ⟨_, rfl⟩
      simp only at x7
      rw [← ht2] at x7
      have hm1 : t2.mem = t.mem := by rw [ht2]; rfl
      have hr1 : t2.regs = t.regs := by rw [ht2]; rfl
      have tr2 : t2.regs.length = 31 := by rw [hr1]; exact tr
      have d15 := u64_rem8 Tryd.prog 43 true ad
      have d16 := u64_quo8 Tryd.prog 43 true ad hal
      have d17 := rld1 G (bR 46 z) (TB i) t2
      have d18 : lenSl (.sl 2 t2.mem.length 0 t2.mem.length 1) = some (Nn t2.mem.length) := rfl
      have tb := okt.big
      have d19 : convInt .u64 (Nn t2.mem.length) = some (Un t2.mem.length) := by rw [convInt_int, wrap_of_u64 (by omega) (by rw [hm1]; omega)]
      have d20 : bin Tryd.prog .neq 43 true (Un (ad % 8)) (.int .u64 0) = some (.bool (decide (ad % 8 ≠ 0))) := by rw [bin_neq]; congr 2; simp only [decide_eq_decide]; omega
      have d21 : bin Tryd.prog .geq 43 false (Un (ad / 8)) (Un t2.mem.length) = some (.bool (decide (t.mem.length ≤ ad / 8))) := by rw [bin_geq, hm1]; congr 2; simp only [decide_eq_decide]; omega
      have nm : t.next.mem = t.mem := rfl
      have nr : t.next.regs = t.regs := rfl
      by_cases hbad : ad % 8 ≠ 0 ∨ t.mem.length ≤ ad / 8
      · rw [nm, if_pos hbad]
        simp only [Bool.false_eq_true, if_false]
        have e4 : ({ t.next.leak 3 (s64 ad) with code := 3 } : QS) = { t2 with at_ := s.at_ + 1 } := by
          rw [ht2, ← tc, ← tat]; rfl
        rw [e4]
        have l1 := rAll (TB i) t2 tr2
        have l2 := sAll (TB i) t2 tr2
        have e5 : ({ t2 with at_ := s.at_ + 1 } : QS).cellsR = t2.cellsR := rfl
        rw [e5]
        clear ht2 e4 e5 ea rAll sAll hm1 hr1 atn
        refine ⟨TB i, [.ro bor (codeW cs), I6 fuel, .ptr 0 1 0 0, RX, .ptr 4 1 0 0, I6 s.at_], ?_, rfl⟩
        show _ = some (Ex.ret, _, hpR (bR 46 t2.cellsR) (TB i) t2)
        refine e_id ?_
        refine eC hcut ?_
        unfold xsR
        generalize t2.cellsR = tcs at *
        generalize leakV (1, s.at_) = lv at *
        generalize leakV (3, s64 ad) = lv3 at *
        generalize 8 * u64 i.imm % 18446744073709551616 = u8i at *
        by_cases hx : ad % 8 ≠ 0
        · rw [decide_eq_true hx] at d20
          have fx := And.intro f0 <| And.intro f1 <| And.intro f2 <| And.intro f33 <| And.intro f34 <| And.intro c2 <| And.intro n0 <| And.intro n1 <| And.intro c3 <| And.intro n2 <| And.intro n3 <| And.intro c4 <| And.intro c5 <| And.intro bl1 <| And.intro br1 <| And.intro c6 <| And.intro c7 <| And.intro c8 <| And.intro c9 <| And.intro of <| And.intro bx0 <| And.intro s7' <| And.intro a70 <| And.intro a71 <| And.intro a72 <| And.intro a74 <| And.intro a75 <| And.intro l70 <| And.intro pc1 <| And.intro l72 <| And.intro l75 <| And.intro rg <| And.intro gn <| And.intro d10 <| And.intro d11 <| And.intro d12 <| And.intro d13 <| And.intro x33 <| And.intro x6 <| And.intro x7 <| And.intro bl3 <| And.intro br3 <| And.intro d15 <| And.intro d16 <| And.intro d17 <| And.intro d18 <| And.intro d19 <| And.intro d20 <| And.intro d21 <| And.intro l1 <| l2
          refine wkA ?_
          all_goals first | omega | (refine e_out ?_; rfl)
        · rw [decide_eq_false hx] at d20
          rw [decide_eq_true (by rcases hbad with h | h; exact absurd h hx; exact h)] at d21
          have fx := And.intro f0 <| And.intro f1 <| And.intro f2 <| And.intro f33 <| And.intro f34 <| And.intro c2 <| And.intro n0 <| And.intro n1 <| And.intro c3 <| And.intro n2 <| And.intro n3 <| And.intro c4 <| And.intro c5 <| And.intro bl1 <| And.intro br1 <| And.intro c6 <| And.intro c7 <| And.intro c8 <| And.intro c9 <| And.intro of <| And.intro bx0 <| And.intro s7' <| And.intro a70 <| And.intro a71 <| And.intro a72 <| And.intro a74 <| And.intro a75 <| And.intro l70 <| And.intro pc1 <| And.intro l72 <| And.intro l75 <| And.intro rg <| And.intro gn <| And.intro d10 <| And.intro d11 <| And.intro d12 <| And.intro d13 <| And.intro x33 <| And.intro x6 <| And.intro x7 <| And.intro bl3 <| And.intro br3 <| And.intro d15 <| And.intro d16 <| And.intro d17 <| And.intro d18 <| And.intro d19 <| And.intro d20 <| And.intro d21 <| And.intro l1 <| l2
          refine wkA ?_
          all_goals first | omega | (refine e_out ?_; rfl)
      rw [nm, if_neg hbad]
      have hb1 : ¬ (ad % 8 ≠ 0) := fun h => hbad (.inl h)
      have hb2 : ¬ (t.mem.length ≤ ad / 8) := fun h => hbad (.inr h)
      rw [decide_eq_false hb1] at d20
      rw [decide_eq_false hb2] at d21
      have d37 := rldMem t2 (ad / 8)
      rw [if_pos (by rw [hm1]; omega)] at d37
      have rg2 := rldRg G (bR 46 z) (TB i) t2 tr2
      rw [hr1] at rg2
      by_cases h18 : i.op = 18
      · rw [if_pos h18]
        simp only [if_true]
        have d38 := rldM G (bR 46 z) (TB i) t2 (ad / 8) (by rw [hm1]; omega)
        have em : t2.mem.getD (ad / 8) 0 = t.mem.getD (ad / 8) 0 := by rw [hm1]
        rw [em] at d38
        have st : ∀ H, pureCall (alembicref17_set.f G (k + 41)) [rgV t.regs, I6 i.d, Un (t.mem.getD (ad / 8) 0)] H = some (rgV (setF t.regs i.d (t.mem.getD (ad / 8) 0)), H) := fun H => pureCall_of (H := H) (rset_spec G (k + 40) t.regs tr i.d hok.d.1 hok.d.2 _) (by simp [plainL, plainB, plainU]) (by simp [cleanB, cleanU])
        have d40 := rstRg (bR 46 z) (TB i) t2 (setF t.regs i.d (t.mem.getD (ad / 8) 0)) (setF_len _ tr _ _) tr2
        refine ⟨TB i, ?_⟩
        have e6 : hpR (bR 46 z) (TB i) { t.next.leak 3 (s64 ad) with regs := setF t.next.regs i.d (t.mem.getD (ad / 8) 0) } = hpR (bR 46 z) (TB i) { t2 with regs := setF t.regs i.d (t.mem.getD (ad / 8) 0) } := by
          rw [ht2]; rfl
        have e7 : (t.next.leak 3 (s64 ad)).at_ = s.at_ + 1 := atn
        rw [e6, e7]
        clear ht2 e6 e7 ea rAll sAll hm1 hr1 atn em
        refine e_id ?_
        refine eC hcut ?_
        unfold xsR
        generalize leakV (1, s.at_) = lv at *
        generalize leakV (3, s64 ad) = lv3 at *
        generalize 8 * u64 i.imm % 18446744073709551616 = u8i at *
        generalize t.mem.getD (ad / 8) 0 = mv at *
        generalize setF t.regs i.d mv = rq at *
        have fx := And.intro f0 <| And.intro f1 <| And.intro f2 <| And.intro f33 <| And.intro f34 <| And.intro c2 <| And.intro n0 <| And.intro n1 <| And.intro c3 <| And.intro n2 <| And.intro n3 <| And.intro c4 <| And.intro c5 <| And.intro bl1 <| And.intro br1 <| And.intro c6 <| And.intro c7 <| And.intro c8 <| And.intro c9 <| And.intro of <| And.intro bx0 <| And.intro s7' <| And.intro a70 <| And.intro a71 <| And.intro a72 <| And.intro a74 <| And.intro a75 <| And.intro l70 <| And.intro pc1 <| And.intro l71 <| And.intro l72 <| And.intro l75 <| And.intro rg <| And.intro rg2 <| And.intro gn <| And.intro d10 <| And.intro d11 <| And.intro d12 <| And.intro d13 <| And.intro x33 <| And.intro x6 <| And.intro x7 <| And.intro bl3 <| And.intro br3 <| And.intro d15 <| And.intro d16 <| And.intro d17 <| And.intro d18 <| And.intro d19 <| And.intro d20 <| And.intro d21 <| And.intro d37 <| And.intro d38 <| And.intro st <| d40
        refine wkA ?_
        all_goals first | omega | (refine e_out ?_; rfl)
      · rw [if_neg h18]
        simp only [if_true]
        have d40 := rstM (bR 46 z) (TB i) t2 (ad / 8) (getF t.regs i.d) (by rw [hm1]; omega)
        refine ⟨TB i, ?_⟩
        have e6 : hpR (bR 46 z) (TB i) { t.next.leak 3 (s64 ad) with mem := t.mem.set (ad / 8) (getF t.next.regs i.d) } = hpR (bR 46 z) (TB i) { t2 with mem := t2.mem.set (ad / 8) (getF t.regs i.d) } := by
          rw [ht2]; rfl
        have e7 : (t.next.leak 3 (s64 ad)).at_ = s.at_ + 1 := atn
        rw [e6, e7]
        clear ht2 e6 e7 ea rAll sAll hm1 hr1 atn
        refine e_id ?_
        refine eC hcut ?_
        unfold xsR
        generalize leakV (1, s.at_) = lv at *
        generalize leakV (3, s64 ad) = lv3 at *
        generalize 8 * u64 i.imm % 18446744073709551616 = u8i at *
        generalize getF t.regs i.d = rd at *
        have fx := And.intro f0 <| And.intro f1 <| And.intro f2 <| And.intro f33 <| And.intro f34 <| And.intro c2 <| And.intro n0 <| And.intro n1 <| And.intro c3 <| And.intro n2 <| And.intro n3 <| And.intro c4 <| And.intro c5 <| And.intro bl1 <| And.intro br1 <| And.intro c6 <| And.intro c7 <| And.intro c8 <| And.intro c9 <| And.intro of <| And.intro bx0 <| And.intro s7' <| And.intro a70 <| And.intro a71 <| And.intro a72 <| And.intro a74 <| And.intro a75 <| And.intro l70 <| And.intro pc1 <| And.intro l71 <| And.intro l72 <| And.intro l75 <| And.intro rg <| And.intro rg2 <| And.intro gn <| And.intro gd_ <| And.intro d10 <| And.intro d11 <| And.intro d12 <| And.intro d13 <| And.intro x33 <| And.intro x6 <| And.intro x7 <| And.intro bl3 <| And.intro br3 <| And.intro d15 <| And.intro d16 <| And.intro d17 <| And.intro d18 <| And.intro d19 <| And.intro d20 <| And.intro d21 <| And.intro d37 <| d40
        refine wkA ?_
        all_goals first | omega | (refine e_out ?_; rfl)
    rw [if_neg t1]
    by_cases t2 : i.op = 20 ∨ i.op = 21 ∨ i.op = 22 ∨ i.op = 23
    · rw [if_pos t2]
      simp only [if_true]
      unfold QS.branch
      have jp : bin Tryd.prog .add 3 false (I6 s.at_) (I6 i.imm) = some (I6 (s.at_ + i.imm)) := q_add (by omega) (by omega)
      have eat : t.next.at_ + (i.imm - 1) = s.at_ + i.imm := by rw [atn]; omega
      by_cases h20 : i.op = 20
      · rw [if_pos h20]
        refine ⟨TB i, ?_⟩
        simp only
        rw [eat]
        show _ = lp _ (hpR (bR 46 z) (TB i) t)
        clear rAll sAll ht
        refine e_id ?_
        refine eC hcut ?_
        unfold xsR
        generalize leakV (1, s.at_) = lv at *
        generalize s.at_ + i.imm = at2 at *
        have fx := And.intro f0 <| And.intro f1 <| And.intro f2 <| And.intro f33 <| And.intro f34 <| And.intro c2 <| And.intro n0 <| And.intro n1 <| And.intro c3 <| And.intro n2 <| And.intro n3 <| And.intro c4 <| And.intro c5 <| And.intro bl1 <| And.intro br1 <| And.intro c6 <| And.intro c7 <| And.intro c8 <| And.intro c9 <| And.intro of <| And.intro bx0 <| And.intro s7' <| And.intro a70 <| And.intro a71 <| And.intro a72 <| And.intro a74 <| And.intro a75 <| And.intro l70 <| And.intro pc1 <| And.intro l75 <| jp
        refine wkA ?_
        all_goals first | omega | (refine e_out ?_; rfl)
      rw [if_neg h20]
      have fl := rldFl G (bR 46 z) (TB i) t
      have rg := rldRg G (bR 46 z) (TB i) t tr
      have hh : ∀ H, pureCall (alembicref17_Holds.f G (k + 41)) [I6 i.a, t.flags.a] H = _ := fun H => pureCall_of (H := H) (rholds_spec G (k + 40) i.a t.flags) (by simp [plainL, plainB, FL.a]) rfl
      have e1 : bin Tryd.prog .eql 43 true (Un (getF t.regs i.d)) (.int .u64 0) = some (.bool (decide (getF t.regs i.d = 0))) := by rw [bin_eql]; congr 2; simp only [decide_eq_decide]; omega
      have e22 : bin Tryd.prog .eql 3 true (I6 i.op) (.int .i64 22) = some (.bool (decide (i.op = 22))) := bin_eql ..
      have eb : bin Tryd.prog .eql 4 false (.bool (decide (getF t.regs i.d = 0))) (.bool (decide (i.op = 22))) = some (.bool (decide (getF t.regs i.d = 0) == decide (i.op = 22))) := bin_eql_bool Tryd.underlying4 ..
      have n21 : bin Tryd.prog .neq 3 true (I6 i.op) (.int .i64 21) = some (.bool (decide (i.op ≠ 21))) := bin_neq ..
      have gg : t.next.goes i = if i.op = 21 then holdsF i.a t.flags else (decide (getF t.regs i.d = 0) == decide (i.op = 22)) := by
        unfold QS.goes
        have q1 : t.next.flags = t.flags := rfl
        have q2 : t.next.regs = t.regs := rfl
        rw [q1, q2]
        by_cases h21 : i.op = 21
        · rw [if_pos h21, if_pos h21]
        rw [if_neg h21, if_neg h21]
        by_cases h22 : i.op = 22
        · rw [if_pos h22, decide_eq_true h22]; simp
        · rw [if_neg h22, decide_eq_false h22]; by_cases h : getF t.regs i.d = 0 <;> simp [h]
      have x33 := rld33 G (bR 46 z) (TB i) t tr
      have one : ∀ b H, pureCall (alembicref17_one.f G (k + 41)) [.bool b] H = some (I6 (if b = true then 1 else 0), H) := fun b H => pureCall_of (H := H) (rone_spec G (k + 40) b) rfl rfl
      cases hg : t.next.goes i
      · have x6 := rapL (bR 46 z) (TB i) t (2, 0) (by omega)
        have x7 := rstL (bR 46 z) (TB i) t (2, 0) tr
        have bl3 : buildSt [(0, 1), (1, 1)] [(.int .i64 0), (.int .i64 0)] [(0, (.int .i64 2)), (1, .int .i64 0)] = some (leakV (2, 0)) := rfl
        have br3 := br 2 0
        have ob : ∀ H, pureCall (alembicref17_one.f G (k + 41)) [.bool false] H = some (.int .i64 0, H) := fun H => one false H
        simp only at x7
        simp only [Bool.false_eq_true, if_false]
        rw [hg] at gg
        refine ⟨TB i, ?_⟩
        have ez : (t.next.leak 2 0).at_ = s.at_ + 1 := atn
        rw [ez]
        show _ = lp _ (hpR (bR 46 z) (TB i) (t.leak 2 0))
        clear rAll sAll ht one br bl hg
        refine e_id ?_
        refine eC hcut ?_
        unfold xsR
        generalize leakV (1, s.at_) = lv at *
        generalize t.leak 2 0 = tl at *
        generalize leakV (2, 0) = lv2 at *
        skip
        generalize holdsF i.a t.flags = hhh at *
        generalize decide (getF t.regs i.d = 0) = gz1 at *
        generalize getF t.regs i.d = rd at *
        by_cases h21 : i.op = 21
        · rw [if_pos h21] at gg
          rw [← gg] at hh
          rw [decide_eq_false (fun h => h h21)] at n21
          have fx := And.intro f0 <| And.intro f1 <| And.intro f2 <| And.intro f33 <| And.intro f34 <| And.intro c2 <| And.intro n0 <| And.intro n1 <| And.intro c3 <| And.intro n2 <| And.intro n3 <| And.intro c4 <| And.intro c5 <| And.intro bl1 <| And.intro br1 <| And.intro c6 <| And.intro c7 <| And.intro c8 <| And.intro c9 <| And.intro of <| And.intro bx0 <| And.intro s7' <| And.intro a70 <| And.intro a71 <| And.intro a72 <| And.intro a74 <| And.intro a75 <| And.intro l70 <| And.intro pc1 <| And.intro l71 <| And.intro l74 <| And.intro l75 <| And.intro fl <| And.intro rg <| And.intro hh <| And.intro gd_ <| And.intro e1 <| And.intro e22 <| And.intro eb <| And.intro n21 <| And.intro x33 <| And.intro ob <| And.intro x6 <| And.intro x7 <| And.intro bl3 <| And.intro br3 <| jp
          refine wkA ?_
          all_goals first | omega | (refine e_out ?_; rfl)
        · rw [if_neg h21] at gg
          rw [← gg] at eb
          rw [decide_eq_true h21] at n21
          by_cases h22 : i.op = 22
          · rw [decide_eq_true h22] at e22 eb
            have fx := And.intro f0 <| And.intro f1 <| And.intro f2 <| And.intro f33 <| And.intro f34 <| And.intro c2 <| And.intro n0 <| And.intro n1 <| And.intro c3 <| And.intro n2 <| And.intro n3 <| And.intro c4 <| And.intro c5 <| And.intro bl1 <| And.intro br1 <| And.intro c6 <| And.intro c7 <| And.intro c8 <| And.intro c9 <| And.intro of <| And.intro bx0 <| And.intro s7' <| And.intro a70 <| And.intro a71 <| And.intro a72 <| And.intro a74 <| And.intro a75 <| And.intro l70 <| And.intro pc1 <| And.intro l71 <| And.intro l74 <| And.intro l75 <| And.intro fl <| And.intro rg <| And.intro hh <| And.intro gd_ <| And.intro e1 <| And.intro e22 <| And.intro eb <| And.intro n21 <| And.intro x33 <| And.intro ob <| And.intro x6 <| And.intro x7 <| And.intro bl3 <| And.intro br3 <| jp
            refine wkA ?_
            all_goals first | omega | (refine e_out ?_; rfl)
          · rw [decide_eq_false h22] at e22 eb
            have fx := And.intro f0 <| And.intro f1 <| And.intro f2 <| And.intro f33 <| And.intro f34 <| And.intro c2 <| And.intro n0 <| And.intro n1 <| And.intro c3 <| And.intro n2 <| And.intro n3 <| And.intro c4 <| And.intro c5 <| And.intro bl1 <| And.intro br1 <| And.intro c6 <| And.intro c7 <| And.intro c8 <| And.intro c9 <| And.intro of <| And.intro bx0 <| And.intro s7' <| And.intro a70 <| And.intro a71 <| And.intro a72 <| And.intro a74 <| And.intro a75 <| And.intro l70 <| And.intro pc1 <| And.intro l71 <| And.intro l74 <| And.intro l75 <| And.intro fl <| And.intro rg <| And.intro hh <| And.intro gd_ <| And.intro e1 <| And.intro e22 <| And.intro eb <| And.intro n21 <| And.intro x33 <| And.intro ob <| And.intro x6 <| And.intro x7 <| And.intro bl3 <| And.intro br3 <| jp
            refine wkA ?_
            all_goals first | omega | (refine e_out ?_; rfl)
      · have x6 := rapL (bR 46 z) (TB i) t (2, 1) (by omega)
        have x7 := rstL (bR 46 z) (TB i) t (2, 1) tr
        have bl3 : buildSt [(0, 1), (1, 1)] [(.int .i64 0), (.int .i64 0)] [(0, (.int .i64 2)), (1, .int .i64 1)] = some (leakV (2, 1)) := rfl
        have br3 := br 2 1
        have ob : ∀ H, pureCall (alembicref17_one.f G (k + 41)) [.bool true] H = some (.int .i64 1, H) := fun H => one true H
        simp only at x7
        simp only [if_true]
        rw [hg] at gg
        refine ⟨TB i, ?_⟩
        rw [eat]
        show _ = lp _ (hpR (bR 46 z) (TB i) (t.leak 2 1))
        skip
        clear rAll sAll ht one br bl hg
        refine e_id ?_
        refine eC hcut ?_
        unfold xsR
        generalize leakV (1, s.at_) = lv at *
        generalize t.leak 2 1 = tl at *
        generalize leakV (2, 1) = lv2 at *
        generalize s.at_ + i.imm = at2 at *
        generalize holdsF i.a t.flags = hhh at *
        generalize decide (getF t.regs i.d = 0) = gz1 at *
        generalize getF t.regs i.d = rd at *
        by_cases h21 : i.op = 21
        · rw [if_pos h21] at gg
          rw [← gg] at hh
          rw [decide_eq_false (fun h => h h21)] at n21
          have fx := And.intro f0 <| And.intro f1 <| And.intro f2 <| And.intro f33 <| And.intro f34 <| And.intro c2 <| And.intro n0 <| And.intro n1 <| And.intro c3 <| And.intro n2 <| And.intro n3 <| And.intro c4 <| And.intro c5 <| And.intro bl1 <| And.intro br1 <| And.intro c6 <| And.intro c7 <| And.intro c8 <| And.intro c9 <| And.intro of <| And.intro bx0 <| And.intro s7' <| And.intro a70 <| And.intro a71 <| And.intro a72 <| And.intro a74 <| And.intro a75 <| And.intro l70 <| And.intro pc1 <| And.intro l71 <| And.intro l74 <| And.intro l75 <| And.intro fl <| And.intro rg <| And.intro hh <| And.intro gd_ <| And.intro e1 <| And.intro e22 <| And.intro eb <| And.intro n21 <| And.intro x33 <| And.intro ob <| And.intro x6 <| And.intro x7 <| And.intro bl3 <| And.intro br3 <| jp
          refine wkA ?_
          all_goals first | omega | (refine e_out ?_; rfl)
        · rw [if_neg h21] at gg
          rw [← gg] at eb
          rw [decide_eq_true h21] at n21
          by_cases h22 : i.op = 22
          · rw [decide_eq_true h22] at e22 eb
            have fx := And.intro f0 <| And.intro f1 <| And.intro f2 <| And.intro f33 <| And.intro f34 <| And.intro c2 <| And.intro n0 <| And.intro n1 <| And.intro c3 <| And.intro n2 <| And.intro n3 <| And.intro c4 <| And.intro c5 <| And.intro bl1 <| And.intro br1 <| And.intro c6 <| And.intro c7 <| And.intro c8 <| And.intro c9 <| And.intro of <| And.intro bx0 <| And.intro s7' <| And.intro a70 <| And.intro a71 <| And.intro a72 <| And.intro a74 <| And.intro a75 <| And.intro l70 <| And.intro pc1 <| And.intro l71 <| And.intro l74 <| And.intro l75 <| And.intro fl <| And.intro rg <| And.intro hh <| And.intro gd_ <| And.intro e1 <| And.intro e22 <| And.intro eb <| And.intro n21 <| And.intro x33 <| And.intro ob <| And.intro x6 <| And.intro x7 <| And.intro bl3 <| And.intro br3 <| jp
            refine wkA ?_
            all_goals first | omega | (refine e_out ?_; rfl)
          · rw [decide_eq_false h22] at e22 eb
            have fx := And.intro f0 <| And.intro f1 <| And.intro f2 <| And.intro f33 <| And.intro f34 <| And.intro c2 <| And.intro n0 <| And.intro n1 <| And.intro c3 <| And.intro n2 <| And.intro n3 <| And.intro c4 <| And.intro c5 <| And.intro bl1 <| And.intro br1 <| And.intro c6 <| And.intro c7 <| And.intro c8 <| And.intro c9 <| And.intro of <| And.intro bx0 <| And.intro s7' <| And.intro a70 <| And.intro a71 <| And.intro a72 <| And.intro a74 <| And.intro a75 <| And.intro l70 <| And.intro pc1 <| And.intro l71 <| And.intro l74 <| And.intro l75 <| And.intro fl <| And.intro rg <| And.intro hh <| And.intro gd_ <| And.intro e1 <| And.intro e22 <| And.intro eb <| And.intro n21 <| And.intro x33 <| And.intro ob <| And.intro x6 <| And.intro x7 <| And.intro bl3 <| And.intro br3 <| jp
            refine wkA ?_
            all_goals first | omega | (refine e_out ?_; rfl)
    rw [if_neg t2]
    by_cases t3 : i.op = 24
    · rw [if_pos t3]
      simp only [Bool.false_eq_true, if_false]
      by_cases t4 : i.imm ≤ 2
      · rw [if_pos t4]
        have q4 : bin Tryd.prog .leq 3 true (I6 i.imm) (.int .i64 2) = some (.bool true) := q_leq_t t4
        have x0 := rst0 (bR 46 z) (TB i) t i.imm tr
        have l1 := rAll (TB i) { t with code := i.imm } tr
        have l2 := sAll (TB i) { t with code := i.imm } tr
        refine ⟨TB i, [.ro bor (codeW cs), I6 fuel, .ptr 0 1 0 0, RX, .ptr 4 1 0 0, I6 s.at_], ?_, rfl⟩
        show _ = some (Ex.ret, _, hpR (bR 46 (QS.cellsR { t with code := i.imm })) (TB i) { t with code := i.imm })
        clear rAll sAll ht br bl
        refine e_id ?_
        refine eC hcut ?_
        unfold xsR
        generalize leakV (1, s.at_) = lv at *
        generalize (QS.cellsR { t with code := i.imm }) = tcs at *
        have fx := And.intro f0 <| And.intro f1 <| And.intro f2 <| And.intro f33 <| And.intro f34 <| And.intro c2 <| And.intro n0 <| And.intro n1 <| And.intro c3 <| And.intro n2 <| And.intro n3 <| And.intro c4 <| And.intro c5 <| And.intro bl1 <| And.intro br1 <| And.intro c6 <| And.intro c7 <| And.intro c8 <| And.intro c9 <| And.intro of <| And.intro bx0 <| And.intro s7' <| And.intro a70 <| And.intro a71 <| And.intro a72 <| And.intro a74 <| And.intro a75 <| And.intro l70 <| And.intro pc1 <| And.intro l75 <| And.intro q4 <| And.intro x0 <| And.intro l1 <| l2
        refine wkA ?_
        all_goals first | omega | (refine e_out ?_; rfl)
      · rw [if_neg t4]
        have q4 : bin Tryd.prog .leq 3 true (I6 i.imm) (.int .i64 2) = some (.bool false) := q_leq_f (by omega)
        have l1 := rAll (TB i) t tr
        have l2 := sAll (TB i) t tr
        have e5 : ({ t.next with code := 3 } : QS) = { t with at_ := s.at_ + 1 } := by rw [← tc, ← tat]; rfl
        rw [e5]
        refine ⟨TB i, [.ro bor (codeW cs), I6 fuel, .ptr 0 1 0 0, RX, .ptr 4 1 0 0, I6 s.at_], ?_, rfl⟩
        show _ = some (Ex.ret, _, hpR (bR 46 t.cellsR) (TB i) t)
        clear rAll sAll ht br bl e5
        refine e_id ?_
        refine eC hcut ?_
        unfold xsR
        generalize leakV (1, s.at_) = lv at *
        generalize t.cellsR = tcs at *
        have fx := And.intro f0 <| And.intro f1 <| And.intro f2 <| And.intro f33 <| And.intro f34 <| And.intro c2 <| And.intro n0 <| And.intro n1 <| And.intro c3 <| And.intro n2 <| And.intro n3 <| And.intro c4 <| And.intro c5 <| And.intro bl1 <| And.intro br1 <| And.intro c6 <| And.intro c7 <| And.intro c8 <| And.intro c9 <| And.intro of <| And.intro bx0 <| And.intro s7' <| And.intro a70 <| And.intro a71 <| And.intro a72 <| And.intro a74 <| And.intro a75 <| And.intro l70 <| And.intro pc1 <| And.intro l75 <| And.intro q4 <| And.intro l1 <| l2
        refine wkA ?_
        all_goals first | omega | (refine e_out ?_; rfl)
    rw [if_neg t3]
    simp only [if_true]
    have h17 : i.op ≤ 17 := by omega
    have rg := rldRg G (bR 46 z) (TB i) t tr
    have fl := rldFl G (bR 46 z) (TB i) t
    have pl : plainL [i.v, rgV t.regs, t.flags.a] = true := by simp [plainL, plainB, plainU, MI.v, FL.a]
    have cl : cleanB (oneV (oneF i t.regs t.flags)) = true := by simp [cleanB, cleanL, cleanU, FL.a]
    have on : ∀ H, pureCall (alembicref17_One.f G (k + 41)) [i.v, rgV t.regs, t.flags.a] H = _ := fun H => pureCall_of (H := H) (rOne_spec G (k + 34) i t.regs okt.rg t.flags) pl cl
    have eo : oneF i t.regs t.flags = ((doesF i t.regs t.flags).1, (doesF i t.regs t.flags).2, true) := by
      unfold oneF; rw [if_pos ⟨hri, h17⟩]
    have hq := (doesF_ok i okt.rg t.flags).len
    have nr : t.next.regs = t.regs := rfl
    have nf : t.next.flags = t.flags := rfl
    rw [nr, nf]
    rw [eo] at on
    unfold oneV at on
    simp only at on
    generalize doesF i t.regs t.flags = dd at *
    obtain ⟨q, f⟩ := dd
    simp only at hq on ⊢
    have b44 : boxA 44 (rgV Z) (hpR (bR 46 z) (TB i) t) = some (.ptr 8 1 0 0, hpR (bR 46 z) [⟨57, 6, [i.v]⟩, ⟨44, 31, [rgV Z]⟩] t) := boxRg Z hZ _
    have b53 : boxA 53 (.agg [.bool false, .bool false, .bool false, .bool false]) (hpR (bR 46 z) [⟨57, 6, [i.v]⟩, ⟨44, 31, [rgV Z]⟩] t) = some (.ptr 9 1 0 0, hpR (bR 46 z) [⟨57, 6, [i.v]⟩, ⟨44, 31, [rgV Z]⟩, ⟨53, 4, [f00.a]⟩] t) := rfl
    have s44 : stS (storeV 31 (.ptr 8 1 0 0) (rgV q) (hpR (bR 46 z) [⟨57, 6, [i.v]⟩, ⟨44, 31, [rgV Z]⟩, ⟨53, 4, [f00.a]⟩] t)) = some (.tup [], hpR (bR 46 z) [⟨57, 6, [i.v]⟩, ⟨44, 31, [rgV q]⟩, ⟨53, 4, [f00.a]⟩] t) := stRgA hq hZ rfl
    have s53 : stS (storeV 4 (.ptr 9 1 0 0) f.a (hpR (bR 46 z) [⟨57, 6, [i.v]⟩, ⟨44, 31, [rgV q]⟩, ⟨53, 4, [f00.a]⟩] t)) = some (.tup [], hpR (bR 46 z) [⟨57, 6, [i.v]⟩, ⟨44, 31, [rgV q]⟩, ⟨53, 4, [f.a]⟩] t) := rfl
    have l44 : loadV G true 31 (.ptr 8 1 0 0) (hpR (bR 46 z) [⟨57, 6, [i.v]⟩, ⟨44, 31, [rgV q]⟩, ⟨53, 4, [f.a]⟩] t) = some (rgV q) := ldRg G hq rfl
    have w44 := rstRg (bR 46 z) [⟨57, 6, [i.v]⟩, ⟨44, 31, [rgV q]⟩, ⟨53, 4, [f.a]⟩] t q hq tr
    have l53 : loadV G true 4 (.ptr 9 1 0 0) (hpR (bR 46 z) [⟨57, 6, [i.v]⟩, ⟨44, 31, [rgV q]⟩, ⟨53, 4, [f.a]⟩] { t with regs := q }) = some f.a := rfl
    have w53 := rstFl (bR 46 z) [⟨57, 6, [i.v]⟩, ⟨44, 31, [rgV q]⟩, ⟨53, 4, [f.a]⟩] { t with regs := q } f
    refine ⟨[⟨57, 6, [i.v]⟩, ⟨44, 31, [rgV q]⟩, ⟨53, 4, [f.a]⟩], ?_⟩
    show _ = lp (xsR fuel bor cs t.next.at_) (hpR (bR 46 z) [⟨57, 6, [i.v]⟩, ⟨44, 31, [rgV q]⟩, ⟨53, 4, [f.a]⟩] { t with regs := q, flags := f })
    rw [atn]
    clear rAll sAll ht br bl nr nf eo
    refine e_id ?_
    refine eC hcut ?_
    unfold xsR
    generalize leakV (1, s.at_) = lv at *
    have fx := And.intro f0 <| And.intro f1 <| And.intro f2 <| And.intro f33 <| And.intro f34 <| And.intro c2 <| And.intro n0 <| And.intro n1 <| And.intro c3 <| And.intro n2 <| And.intro n3 <| And.intro c4 <| And.intro c5 <| And.intro bl1 <| And.intro br1 <| And.intro c6 <| And.intro c7 <| And.intro c8 <| And.intro c9 <| And.intro of <| And.intro bx0 <| And.intro s7' <| And.intro a70 <| And.intro a71 <| And.intro a72 <| And.intro a74 <| And.intro a75 <| And.intro l70 <| And.intro pc1 <| And.intro l7v <| And.intro rg <| And.intro fl <| And.intro on <| And.intro b44 <| And.intro b53 <| And.intro s44 <| And.intro s53 <| And.intro l44 <| And.intro w44 <| And.intro l53 <| w53
    refine wkA ?_
    all_goals first | omega | (refine e_out ?_; rfl)
end
end Go.Proofs.YtdfglgnflldkpaaDoor.Mir
namespace Go.Proofs.YtdfglgnflldkpaaDoor.Mir
open Go
set_option linter.unusedVariables false
set_option linter.unusedSimpArgs false
set_option maxHeartbeats 8000000
set_option maxRecDepth 20000
theorem step_on {s s' : QS} {w : Int} (h : s.step w = (s', true)) : s'.code = s.code := by
  unfold QS.step at h
  cases ho : ofF w with
  | none => rw [ho] at h; simp at h
  | some i =>
    rw [ho] at h
    simp only at h
    unfold QS.act at h
    by_cases h1 : i.op = 18 ∨ i.op = 19
    · rw [if_pos h1] at h
      unfold QS.touch at h
      generalize s.next.addr i = ad at h
      by_cases h2 : ad % 8 ≠ 0 ∨ s.next.mem.length ≤ ad / 8
      · simp only [if_pos h2] at h; simp at h
      · simp only [if_neg h2] at h
        by_cases h3 : i.op = 18
        · simp only [if_pos h3] at h; simp only [Prod.mk.injEq] at h; rw [← h.1]; rfl
        · simp only [if_neg h3] at h; simp only [Prod.mk.injEq] at h; rw [← h.1]; rfl
    rw [if_neg h1] at h
    by_cases h2 : i.op = 20 ∨ i.op = 21 ∨ i.op = 22 ∨ i.op = 23
    · rw [if_pos h2] at h
      simp only [Prod.mk.injEq] at h
      rw [← h.1]
      unfold QS.branch
      by_cases h3 : i.op = 20
      · rw [if_pos h3]; rfl
      · rw [if_neg h3]
        cases s.next.goes i <;> rfl
    rw [if_neg h2] at h
    by_cases h3 : i.op = 24
    · rw [if_pos h3] at h; simp at h
    · rw [if_neg h3] at h
      simp only [Prod.mk.injEq] at h
      rw [← h.1]; rfl
section
variable (G : Globs) (k : Nat) (self : Den) (z : List AV) (hz : z.length = 35) (hzb : belowL 7 z = true) (bor : Bool) (cs : List Int) (fuel : Int)
include hz hzb in
theorem rrun_loop (hf : fuel ≤ 99999) (hcl : cs.length ≤ 100000) (hcs : ∀ w ∈ cs, 0 ≤ w ∧ w < 4294967296) : ∀ (f : Nat) (T0 : AHeap) (s s' : QS), runQ cs fuel f s = some s' → s.Ok → s.code = 3 → (s.steps : Int) ≤ fuel →
    s'.regs.length = 31 ∧ ∃ T xs, loopN (alembicref17_RunMach.l4 G (k + 41) 7 self) f (xsR fuel bor cs s.at_) (hpR (bR 46 z) T0 s) = some (.ret, xs, hpR (bR 46 s'.cellsR) T s') ∧ nth xs 2 = .ptr 0 1 0 0
  | 0, T0, s, s', h, _, _, _ => by simp [runQ] at h
  | f + 1, T0, s, s', h, hs, hc, hst => by
    have few := hs.few
    have lks := hs.leaks
    have hr := hs.rg.len
    have hb : belowL 7 (bR 46 z).elems = true := by simp [bR, belowL, belowB, hzb]
    have hcut := rcut7 (bR 46 z) T0 s hb _ (xsR_below fuel bor cs s.at_)
    rw [loopN_succ]
    simp only [runQ] at h
    by_cases h1 : s.at_ < 0 ∨ (cs.length : Int) ≤ s.at_
    · rw [if_pos h1] at h
      simp only [Option.some.injEq] at h
      have e3 : ({ s with code := 3 } : QS) = s := by rw [← hc]
      rw [e3] at h
      subst h
      have c2 : lenSl (.ro bor (codeW cs)) = some (Nn cs.length) := by simp [lenSl, codeW_len]
      have l1 := rldAll G (bR 46 z) [] s hr
      have l2 := rstRes [] s 46 z _ hz (rcells_len s hr)
      refine ⟨hr, [], [.ro bor (codeW cs), I6 fuel, .ptr 0 1 0 0, RX, .ptr 4 1 0 0, I6 s.at_], ?_, rfl⟩
      rw [alembicref17_RunMach.l4]
      refine e_id ?_
      refine eC hcut ?_
      unfold xsR
      generalize s.cellsR = tcs at *
      have fx := And.intro c2 <| And.intro l1 <| l2
      refine wkA ?_
      all_goals first | omega | (refine e_out ?_; rfl)
    rw [if_neg h1] at h
    by_cases h2 : (s.steps : Int) = fuel
    · rw [if_pos h2] at h
      simp only [Option.some.injEq] at h
      subst h
      have c2 : lenSl (.ro bor (codeW cs)) = some (Nn cs.length) := by simp [lenSl, codeW_len]
      have n0 : bin Tryd.prog .lss 3 true (I6 s.at_) (.int .i64 0) = some (.bool false) := q_lss_f (by omega)
      have n1 : bin Tryd.prog .geq 3 false (I6 s.at_) (Nn cs.length) = some (.bool false) := q_geq_f (by omega)
      have n2 : bin Tryd.prog .geq 2 false (Nn s.steps) (I6 fuel) = some (.bool true) := q_geq_t (by omega)
      have f0 : fieldAddrV 0 RX = some RX := rfl
      have f34 : fieldAddrV 34 RX = some (.ptr 3 1 0 34) := rfl
      have c3 := rld34 G (bR 46 z) [] s hr
      have c4 := rst0 (bR 46 z) [] s 4 hr
      have l1 := rldAll G (bR 46 z) [] { s with code := 4 } hr
      have l2 := rstRes [] { s with code := 4 } 46 z _ hz (rcells_len { s with code := 4 } hr)
      refine ⟨hr, [], [.ro bor (codeW cs), I6 fuel, .ptr 0 1 0 0, RX, .ptr 4 1 0 0, I6 s.at_], ?_, rfl⟩
      rw [alembicref17_RunMach.l4]
      refine e_id ?_
      refine eC hcut ?_
      unfold xsR
      generalize (QS.cellsR { s with code := 4 }) = tcs at *
      have fx := And.intro f0 <| And.intro f34 <| And.intro c2 <| And.intro n0 <| And.intro n1 <| And.intro n2 <| And.intro c3 <| And.intro c4 <| And.intro l1 <| l2
      refine wkB ?_
      refine e_out ?_; rfl
    rw [if_neg h2] at h
    have hw := hcs (cs.getD s.at_.toNat 0) (by
      have : s.at_.toNat < cs.length := by omega
      rw [List.getD_eq_getElem?_getD, List.getElem?_eq_getElem this]
      exact List.getElem_mem this)
    have rd := round_spec G k self z hz hzb bor cs fuel (loopN (alembicref17_RunMach.l4 G (k + 41) 7 self) f) T0 s hs hc (by omega) (by omega) (by omega) hf hcl hw
    have okt : s.tick.Ok := ⟨hs.rg, hs.mem, by simp [QS.tick, QS.leak]; omega, hs.big, by simp [QS.tick, QS.leak]; omega⟩
    obtain ⟨o1, o2, o3⟩ := QS.step_ok okt (cs.getD s.at_.toNat 0) (by simp [QS.tick, QS.leak]; omega)
    have hst2 : s.tick.steps = s.steps + 1 := rfl
    generalize cs.getD s.at_.toNat 0 = w at *
    obtain ⟨s2, b, hsb⟩ : ∃ s2 b, s.tick.step w = (s2, b) := ⟨_, _, rfl⟩
    rw [hsb] at h rd o1 o2
    simp only at h o1 o2
    unfold roundR at rd
    cases b
    · simp only [Bool.false_eq_true, if_false] at rd
      simp only [Option.some.injEq] at h
      subst h
      exact ⟨o1.rg.len, rd⟩
    · simp only [if_true] at rd
      simp only at h
      obtain ⟨T, hT⟩ := rd
      have hc2 : s2.code = 3 := by rw [step_on hsb]; exact hc
      rw [hT]
      exact rrun_loop hf hcl hcs f T s2 s' h o1 hc2 (by rw [o2, hst2]; omega)
theorem rfrz (b0 : ABlk) (T : AHeap) (s : QS) : frz (hpR b0 T s) 0 6 (.agg s.cellsR) = some (endQ s) := by
  have f1 := frz_sl (H := hpR b0 T s) (b := 2) (n0 := 0) (d := 4) (ty := 43) rfl (by omega) (natsU_len s.mem) (allSz_U _) (natsU_below 0 _)
  have f2 := frz_sl (H := hpR b0 T s) (b := 6) (n0 := 0) (d := 4) (ty := 107) rfl (by omega) (leaksV_len s.leaks) (allSz_L _) (leaksV_below 0 _)
  have f3 : mapO (frz (hpR b0 T s) 0 5) (natsU s.regs) = some (natsU s.regs) := mapO_low fun x hx => frz_low (belowL_mem (natsU_below 0 s.regs) x hx) 5
  exact frz_agg (by simp [QS.cellsR, belowL, belowB]) (mapO_cons (frz_low rfl 5) (mapO_cons f1 (mapO_app f3 (mapO_cons f2 (mapO_cons (frz_low rfl 5) mapO_nil)))))
theorem RunMach_spec (bm : Bool) (mem : List Nat) (hm : ∀ x ∈ mem, x < 18446744073709551616) (hml : mem.length ≤ 60000) (h0 : 0 ≤ fuel) (hf : fuel ≤ 99999) (hk : mem.length < k + 40) (hcl : cs.length ≤ 100000) (hcs : ∀ w ∈ cs, 0 ≤ w ∧ w < 4294967296)
    (s' : QS) (hrun : runQ cs fuel (k + 41) (q0 3 mem) = some s') :
    alembicref17_RunMach.f G (k + 42) [.ro bor (codeW cs), .ro bm (natsU mem), I6 fuel] [] = some (endQ s', []) := by
  rw [alembicref17_RunMach.step]
  unfold alembicref17_RunMach.c
  have hzl : zR.length = 35 := rfl
  have hzb : belowL 7 zR = true := rfl
  obtain ⟨hr', T, xs, lp, hx⟩ := rrun_loop G k (alembicref17_RunMach.f G (k + 41)) zR hzl hzb bor cs fuel hf hcl hcs (k + 41) [] (q0 3 mem) s' hrun (q0_ok 3 mem hm (by omega)) rfl (by simp only [q0]; omega)
  have w1_ : heapCall (alembicref_Words.f G (k + 41)) [.ro bm (natsU mem)] [bZ] = some (.sl 2 mem.length 0 mem.length 1, hpW mem) := heapCall_of (words_spec G (k + 40) bm mem (by omega) hk) (by simp [hpW])
  have zz : (AV.agg [.int .i64 0, .nils, .int .u64 0, .int .u64 0, .int .u64 0, .int .u64 0, .int .u64 0, .int .u64 0, .int .u64 0, .int .u64 0, .int .u64 0, .int .u64 0, .int .u64 0, .int .u64 0, .int .u64 0, .int .u64 0, .int .u64 0, .int .u64 0, .int .u64 0, .int .u64 0, .int .u64 0, .int .u64 0, .int .u64 0, .int .u64 0, .int .u64 0, .int .u64 0, .int .u64 0, .int .u64 0, .int .u64 0, .int .u64 0, .int .u64 0, .int .u64 0, .int .u64 0, .nils, .int .i64 0]) = .agg (I6 0 :: .nils :: (natsU (List.replicate 31 0) ++ [.nils, .int .i64 0])) := rfl
  have zb : buildSt [(0, 1), (1, 1), (2, 31), (33, 1), (34, 1)] [.int .i64 0, .nils, .int .u64 0, .int .u64 0, .int .u64 0, .int .u64 0, .int .u64 0, .int .u64 0, .int .u64 0, .int .u64 0, .int .u64 0, .int .u64 0, .int .u64 0, .int .u64 0, .int .u64 0, .int .u64 0, .int .u64 0, .int .u64 0, .int .u64 0, .int .u64 0, .int .u64 0, .int .u64 0, .int .u64 0, .int .u64 0, .int .u64 0, .int .u64 0, .int .u64 0, .int .u64 0, .int .u64 0, .int .u64 0, .int .u64 0, .int .u64 0, .int .u64 0, .nils, .int .i64 0] [(1, .sl 2 mem.length 0 mem.length 1), (0, .int .i64 3)] =
      some (.agg (I6 3 :: .sl 2 mem.length 0 mem.length 1 :: (natsU (List.replicate 31 0) ++ [.nils, .int .i64 0]))) := rfl
  have b1 : boxA 46 (.agg (I6 0 :: .nils :: (natsU (List.replicate 31 0) ++ [.nils, .int .i64 0]))) [] = some (.ptr 0 1 0 0, [bZ]) := rfl
  have b2 : boxA 46 (.agg (I6 0 :: .nils :: (natsU (List.replicate 31 0) ++ [.nils, .int .i64 0]))) (hpW mem) = some (.ptr 3 1 0 0, hpW mem ++ [bZ]) := rfl
  have s2 : stS (storeV 35 (.ptr 3 1 0 0) (.agg (I6 3 :: .sl 2 mem.length 0 mem.length 1 :: (natsU (List.replicate 31 0) ++ [.nils, .int .i64 0]))) (hpW mem ++ [bZ])) = some (.tup [], hpW mem ++ [⟨46, 35, [.agg (I6 3 :: .sl 2 mem.length 0 mem.length 1 :: (natsU (List.replicate 31 0) ++ [.nils, .int .i64 0]))]⟩]) := rfl
  have b3 : boxA 53 (.agg [.bool false, .bool false, .bool false, .bool false]) (hpW mem ++ [⟨46, 35, [.agg (I6 3 :: .sl 2 mem.length 0 mem.length 1 :: (natsU (List.replicate 31 0) ++ [.nils, .int .i64 0]))]⟩]) = some (.ptr 4 1 0 0, hpW mem ++ [⟨46, 35, [.agg (I6 3 :: .sl 2 mem.length 0 mem.length 1 :: (natsU (List.replicate 31 0) ++ [.nils, .int .i64 0]))]⟩, ⟨53, 4, [f00.a]⟩]) := rfl
  have v1 : ∀ m : Nat, virt1 (.ptr 0 1 0 0, 33, 107, 2) (hpW mem ++ [⟨46, 35, [.agg (I6 3 :: .sl 2 m 0 m 1 :: (natsU (List.replicate 31 0) ++ [.nils, .int .i64 0]))]⟩, ⟨53, 4, [f00.a]⟩]) =
     [bR 46 zR, ⟨43, 1, []⟩, ⟨43, 1, natsU mem⟩, ⟨46, 35, [.agg (I6 3 :: .sl 2 m 0 m 1 :: (natsU (List.replicate 31 0) ++ [.nils, .int .i64 0]))]⟩, ⟨53, 4, [f00.a]⟩, ⟨107, 2, []⟩] := fun m => rfl
  have v2 : virt1 (.ptr 3 1 0 0, 33, 107, 2) [bR 46 zR, ⟨43, 1, []⟩, ⟨43, 1, natsU mem⟩, ⟨46, 35, [.agg (I6 3 :: .sl 2 mem.length 0 mem.length 1 :: (natsU (List.replicate 31 0) ++ [.nils, .int .i64 0]))]⟩, ⟨53, 4, [f00.a]⟩, ⟨107, 2, []⟩] =
     hpR (bR 46 zR) [] (q0 3 mem) := by
    simp only [hpR, q0, QS.cellsR, QS.tailR]
    rfl
  have v1' := v1 mem.length
  have hl7 : (hpR (bR 46 zR) [] (q0 3 mem)).length = 7 := rfl
  have ldE : loadV G true 35 (.ptr 0 1 0 0) (hpR (bR 46 s'.cellsR) T s') = some (.agg s'.cellsR) := by
    have hrl := rcells_len s' hr'
    generalize s'.cellsR = rl at *
    show (if 0 + 35 ≤ rl.length then some (AV.agg ((rl.drop 0).take 35)) else none) = _
    rw [if_pos (by omega), List.drop_zero, List.take_of_length_le (by omega)]
  have fin : finL [loadV G true 35 (.ptr 0 1 0 0) (hpR (bR 46 s'.cellsR) T s')] 0 (hpR (bR 46 s'.cellsR) T s') = some (.ret, [endQ s'], []) := by
    have f3 := rfrz (bR 46 s'.cellsR) T s'
    unfold finL
    rw [ldE]
    simp only [allSome]
    unfold finV packR
    simp only [f3, cutH_zero]
  rw [zz]
  unfold xsR at lp
  clear zz v1 hcs hm
  refine e_in ?_
  generalize s'.cellsR = rl at *
  generalize hpR (bR 46 zR) [] (q0 3 mem) = hq at *
  generalize natsU (List.replicate 31 0) = NZ at *
  generalize hpW mem = HW at *
  have fx := And.intro b1 <| And.intro w1_ <| And.intro zb <| And.intro b2 <| And.intro s2 <| b3
  refine wkB ?_
  refine eV1 v1' ?_
  refine eV1 v2 ?_
  refine eV0 ?_
  rw [hl7]
  refine eK ?_
  refine eL lp ?_
  have fx := True.intro
  refine wkB ?_
  rw [hx]
  exact oF fin
end
theorem runQ_ok (cs : List Int) (fuel : Int) (hf : fuel ≤ 99999) : ∀ (f : Nat) (s s' : QS), runQ cs fuel f s = some s' → s.Ok → (s.steps : Int) ≤ fuel → s'.Ok ∧ s'.mem.length = s.mem.length
  | 0, s, s', h, _, _ => by simp [runQ] at h
  | f + 1, s, s', h, hs, hst => by
    have few := hs.few
    have lks := hs.leaks
    simp only [runQ] at h
    by_cases h1 : s.at_ < 0 ∨ (cs.length : Int) ≤ s.at_
    · rw [if_pos h1] at h
      simp only [Option.some.injEq] at h
      subst h
      exact ⟨⟨hs.rg, hs.mem, hs.leaks, hs.big, hs.few⟩, rfl⟩
    rw [if_neg h1] at h
    by_cases h2 : (s.steps : Int) = fuel
    · rw [if_pos h2] at h
      simp only [Option.some.injEq] at h
      subst h
      exact ⟨⟨hs.rg, hs.mem, hs.leaks, hs.big, hs.few⟩, rfl⟩
    rw [if_neg h2] at h
    have okt : s.tick.Ok := ⟨hs.rg, hs.mem, by simp [QS.tick, QS.leak]; omega, hs.big, by simp [QS.tick, QS.leak]; omega⟩
    obtain ⟨o1, o2, o3⟩ := QS.step_ok okt (cs.getD s.at_.toNat 0) (by simp [QS.tick, QS.leak]; omega)
    have hst2 : s.tick.steps = s.steps + 1 := rfl
    have tm : s.tick.mem = s.mem := rfl
    obtain ⟨s2, b, hsb⟩ : ∃ s2 b, s.tick.step (cs.getD s.at_.toNat 0) = (s2, b) := ⟨_, _, rfl⟩
    rw [hsb] at h o1 o2 o3
    simp only at h o1 o2 o3
    cases b
    · simp only [Option.some.injEq] at h
      subst h
      exact ⟨o1, by rw [o3, tm]⟩
    · simp only at h
      obtain ⟨p1, p2⟩ := runQ_ok cs fuel hf f s2 s' h o1 (by rw [o2, hst2]; omega)
      exact ⟨p1, by rw [p2, o3, tm]⟩
theorem runQ_steps (cs : List Int) (fuel : Int) : ∀ (f : Nat) (s s' : QS), runQ cs fuel f s = some s' → (s.steps : Int) ≤ fuel → (s'.steps : Int) ≤ fuel
  | 0, s, s', h, _ => by simp [runQ] at h
  | f + 1, s, s', h, hst => by
    simp only [runQ] at h
    by_cases h1 : s.at_ < 0 ∨ (cs.length : Int) ≤ s.at_
    · rw [if_pos h1] at h
      simp only [Option.some.injEq] at h
      subst h; exact hst
    rw [if_neg h1] at h
    by_cases h2 : (s.steps : Int) = fuel
    · rw [if_pos h2] at h
      simp only [Option.some.injEq] at h
      subst h; exact hst
    rw [if_neg h2] at h
    have e : ∀ w, (s.tick.step w).1.steps = s.steps + 1 := fun w => by
      unfold QS.step
      cases ofF w with
      | none => rfl
      | some i =>
        simp only
        unfold QS.act QS.touch QS.branch
        repeat' split
        all_goals rfl
    have e' := e (cs.getD s.at_.toNat 0)
    obtain ⟨s2, b, hsb⟩ : ∃ s2 b, s.tick.step (cs.getD s.at_.toNat 0) = (s2, b) := ⟨_, _, rfl⟩
    rw [hsb] at h e'
    simp only at h e'
    cases b
    · simp only [Option.some.injEq] at h
      subst h; omega
    · simp only at h
      exact runQ_steps cs fuel f s2 s' h (by omega)
end Go.Proofs.YtdfglgnflldkpaaDoor.Mir
namespace Go.Proofs.YtdfglgnflldkpaaDoor.Mir
open Go
set_option linter.unusedVariables false
set_option linter.unusedSimpArgs false
set_option maxHeartbeats 8000000
set_option maxRecDepth 20000
section
variable {cs : List Int} {fuel : Int} {f : Nat} {s s2 s' : QS} {i : MI}
theorem runQ_on (h1 : 0 ≤ s.at_ ∧ s.at_ < cs.length) (h2 : (s.steps : Int) ≠ fuel) (ho : ofF (cs.getD s.at_.toNat 0) = some i) (ha : s.tick.next.act i = (s2, true)) : runQ cs fuel (f + 1) s = runQ cs fuel f s2 := by
  simp only [runQ]
  rw [if_neg (by omega), if_neg h2]
  have e : s.tick.step (cs.getD s.at_.toNat 0) = (s2, true) := by unfold QS.step; rw [ho]; exact ha
  rw [e]
theorem runQ_off (h1 : 0 ≤ s.at_ ∧ s.at_ < cs.length) (h2 : (s.steps : Int) ≠ fuel) (ho : ofF (cs.getD s.at_.toNat 0) = some i) (ha : s.tick.next.act i = (s2, false)) : runQ cs fuel (f + 1) s = some s2 := by
  simp only [runQ]
  rw [if_neg (by omega), if_neg h2]
  have e : s.tick.step (cs.getD s.at_.toNat 0) = (s2, false) := by unfold QS.step; rw [ho]; exact ha
  rw [e]
theorem runQ_bad (h1 : 0 ≤ s.at_ ∧ s.at_ < cs.length) (h2 : (s.steps : Int) ≠ fuel) (ho : ofF (cs.getD s.at_.toNat 0) = none) : runQ cs fuel (f + 1) s = some { s.tick with code := 3 } := by
  simp only [runQ]
  rw [if_neg (by omega), if_neg h2]
  have e : s.tick.step (cs.getD s.at_.toNat 0) = ({ s.tick with code := 3 }, false) := by unfold QS.step; rw [ho]
  rw [e]
theorem runQ_out (h1 : s.at_ < 0 ∨ (cs.length : Int) ≤ s.at_) : runQ cs fuel (f + 1) s = some { s with code := 3 } := by
  simp only [runQ]
  rw [if_pos h1]
theorem runQ_fuel (h1 : 0 ≤ s.at_ ∧ s.at_ < cs.length) (h2 : (s.steps : Int) = fuel) : runQ cs fuel (f + 1) s = some { s with code := 4 } := by
  simp only [runQ]
  rw [if_neg (by omega), if_pos h2]
end
theorem lword_spec (G : Globs) (k : Nat) (i : MI) (h : rightB i = true) : alembiclaw23_word.f G (k + 7) [i.v] [] = some (W32 (wordF i), []) := by
  rw [alembiclaw23_word.step]
  unfold alembiclaw23_word.c
  have r : ∀ H, pureCall (alembicref17_Word.f G (k + 6)) [i.v] H = _ := fun H => pureCall_of (H := H) (rword_spec G k i) rfl rfl
  have e : wordR i = wordF i := by unfold wordR; rw [if_pos h]
  rw [e] at r
  have b0 := bx i
  have l6 := gl6 G i
  generalize i.v = iv at *
  refine e_in ?_
  have fx := And.intro r <| And.intro b0 <| l6
  refine wkB ?_
  exact w1i rfl
end Go.Proofs.YtdfglgnflldkpaaDoor.Mir
namespace Go.Proofs.YtdfglgnflldkpaaDoor.Mir
open Go
set_option linter.unusedVariables false
set_option linter.unusedSimpArgs false
set_option maxHeartbeats 8000000
set_option maxRecDepth 20000
def j1 (n : Nat) : MI := ⟨1, 3, 0, 0, 0, (8 * n : Nat)⟩
def j2 : MI := ⟨15, 0, 1, 3, 0, 0⟩
def j3 : MI := ⟨21, 0, 0, 0, 2, 5⟩
def j4 : MI := ⟨18, 4, 1, 0, 0, 0⟩
def j5 : MI := ⟨3, 2, 2, 4, 0, 0⟩
def j6 : MI := ⟨10, 1, 1, 0, 0, 8⟩
def j7 : MI := ⟨20, 0, 0, 0, 0, -5⟩
def j8 : MI := ⟨19, 2, 1, 0, 0, 0⟩
def j9 (c : Int) : MI := ⟨24, 0, 0, 0, 0, c⟩
def loopC (n : Nat) (c : Int) : List Int := [wordF (j1 n), wordF j2, wordF j3, wordF j4, wordF j5, wordF j6, wordF j7, wordF j8, wordF (j9 c)]
theorem rj1 (n : Nat) (h : n ≤ 40) : rightB (j1 n) = true := by simp [j1, rightB, isOp, fairB, formF, regB, extraB, immB, halfI, stackB]; omega
theorem rj9 (c : Int) (h0 : 0 ≤ c) (h : c ≤ 5) : rightB (j9 c) = true := by simp [j9, rightB, isOp, fairB, formF, regB, extraB, immB, halfI, stackB]; omega
theorem rj2 : rightB j2 = true := by kernel_rfl
theorem rj3 : rightB j3 = true := by kernel_rfl
theorem rj4 : rightB j4 = true := by kernel_rfl
theorem rj5 : rightB j5 = true := by kernel_rfl
theorem rj6 : rightB j6 = true := by kernel_rfl
theorem rj7 : rightB j7 = true := by kernel_rfl
theorem rj8 : rightB j8 = true := by kernel_rfl
def rgs (x1 x2 x3 x4 : Nat) : List Nat := [0, x1, x2, x3, x4, 0, 0, 0, 0, 0, 0, 0, 0, 0, 0, 0, 0, 0, 0, 0, 0, 0, 0, 0, 0, 0, 0, 0, 0, 0, 0]
def sumF (l : List Nat) : Nat → Nat
  | 0 => 0
  | j + 1 => (sumF l j + l.getD j 0) % 18446744073709551616
section
variable {n : Nat} {c fuel : Int} {f : Nat} {mem : List Nat} {x1 x2 x3 x4 : Nat} {lk : List (Int × Int)} {st : Nat} {fl : FL} {cd : Int}
theorem len9 : ((loopC n c).length : Int) = 9 := rfl
theorem st1 (hn : n ≤ 40) (hs : (st : Int) ≠ fuel) : runQ (loopC n c) fuel (f + 1) ⟨cd, mem, rgs x1 x2 x3 x4, lk, st, fl, 0⟩ = runQ (loopC n c) fuel f ⟨cd, mem, rgs x1 x2 (8 * n) x4, lk ++ [(1, 0)], st + 1, fl, 1⟩ := by
  have e : u64 ((8 * n : Nat) : Int) * 2 ^ (16 * (0 : Int)).toNat % 18446744073709551616 = 8 * n := by
    have : (16 * (0 : Int)).toNat = 0 := rfl
    rw [this]; unfold u64; omega
  have ha : (QS.next (QS.tick ⟨cd, mem, rgs x1 x2 x3 x4, lk, st, fl, 0⟩)).act (j1 n) = (⟨cd, mem, rgs x1 x2 (u64 ((8 * n : Nat) : Int) * 2 ^ (16 * (0 : Int)).toNat % 18446744073709551616) x4, lk ++ [(1, 0)], st + 1, fl, 1⟩, true) := by rfl
  rw [e] at ha
  exact runQ_on (cs := loopC n c) ⟨(by decide : (0 : Int) ≤ 0), by rw [len9]; show (0 : Int) < 9; decide⟩ hs (of_word (rj1 n hn) (by simp [j1])) ha
theorem st2 (hs : (st : Int) ≠ fuel) : runQ (loopC n c) fuel (f + 1) ⟨cd, mem, rgs x1 x2 x3 x4, lk, st, fl, 1⟩ = runQ (loopC n c) fuel f ⟨cd, mem, rgs x1 x2 x3 x4, lk ++ [(1, 1)], st + 1, lessF x1 x3, 2⟩ :=
  runQ_on (cs := loopC n c) ⟨(by decide : (0 : Int) ≤ 1), by rw [len9]; show (1 : Int) < 9; decide⟩ hs (of_word rj2 (by simp [j2])) rfl
theorem st3 (hs : (st : Int) ≠ fuel) : runQ (loopC n c) fuel (f + 1) ⟨cd, mem, rgs x1 x2 x3 x4, lk, st, fl, 2⟩ = runQ (loopC n c) fuel f (if fl.c = true then ⟨cd, mem, rgs x1 x2 x3 x4, lk ++ [(1, 2)] ++ [(2, 1)], st + 1, fl, 7⟩ else ⟨cd, mem, rgs x1 x2 x3 x4, lk ++ [(1, 2)] ++ [(2, 0)], st + 1, fl, 3⟩) := by
  refine runQ_on (cs := loopC n c) (i := j3) ⟨(by decide : (0 : Int) ≤ 2), by rw [len9]; show (2 : Int) < 9; decide⟩ hs (of_word rj3 (by simp [j3])) ?_
  obtain ⟨fn, fz, fc, fv⟩ := fl
  cases fc <;> rfl
theorem ad0 (hx : x1 < 18446744073709551616) (st : Nat) (at_ : Int) (i : MI) (h1 : i.n = 1) (h2 : i.imm = 0) : (QS.next (QS.tick ⟨cd, mem, rgs x1 x2 x3 x4, lk, st, fl, at_⟩)).addr i = x1 := by
  unfold QS.addr
  rw [h1, h2]
  show (x1 + 8 * 0 % 18446744073709551616) % 18446744073709551616 = x1
  omega
theorem st4 (j : Nat) (hj : j < mem.length) (hx : 8 * j < 18446744073709551616) (hs : (st : Int) ≠ fuel) : runQ (loopC n c) fuel (f + 1) ⟨cd, mem, rgs (8 * j) x2 x3 x4, lk, st, fl, 3⟩ = runQ (loopC n c) fuel f ⟨cd, mem, rgs (8 * j) x2 x3 (mem.getD j 0), lk ++ [(1, 3)] ++ [(3, s64 (8 * j))], st + 1, fl, 4⟩ := by
  refine runQ_on (cs := loopC n c) (i := j4) ⟨(by decide : (0 : Int) ≤ 3), by rw [len9]; show (3 : Int) < 9; decide⟩ hs (of_word rj4 (by simp [j4])) ?_
  unfold QS.act
  rw [if_pos (show j4.op = 18 ∨ j4.op = 19 from Or.inl rfl)]
  unfold QS.touch
  rw [ad0 hx st 3 j4 rfl rfl]
  have hm : (QS.next (QS.tick ⟨cd, mem, rgs (8 * j) x2 x3 x4, lk, st, fl, 3⟩)).mem = mem := rfl
  rw [hm]
  have hb : ¬ (8 * j % 8 ≠ 0 ∨ mem.length ≤ 8 * j / 8) := by omega
  have e8 : 8 * j / 8 = j := by omega
  simp only
  rw [if_neg hb, if_pos (show j4.op = 18 from rfl), e8]
  rfl
theorem st5 (hs : (st : Int) ≠ fuel) : runQ (loopC n c) fuel (f + 1) ⟨cd, mem, rgs x1 x2 x3 x4, lk, st, fl, 4⟩ = runQ (loopC n c) fuel f ⟨cd, mem, rgs x1 ((x2 + x4) % 18446744073709551616) x3 x4, lk ++ [(1, 4)], st + 1, fl, 5⟩ :=
  runQ_on (cs := loopC n c) ⟨(by decide : (0 : Int) ≤ 4), by rw [len9]; show (4 : Int) < 9; decide⟩ hs (of_word rj5 (by simp [j5])) rfl
theorem st6 (j : Nat) (hx : 8 * j < 10000) (hs : (st : Int) ≠ fuel) : runQ (loopC n c) fuel (f + 1) ⟨cd, mem, rgs (8 * j) x2 x3 x4, lk, st, fl, 5⟩ = runQ (loopC n c) fuel f ⟨cd, mem, rgs (8 * (j + 1)) x2 x3 x4, lk ++ [(1, 5)], st + 1, fl, 6⟩ := by
  have e : (8 * j + u64 8) % 18446744073709551616 = 8 * (j + 1) := by
    have : u64 8 = 8 := rfl
    rw [this]; omega
  have ha : (QS.next (QS.tick ⟨cd, mem, rgs (8 * j) x2 x3 x4, lk, st, fl, 5⟩)).act j6 = (⟨cd, mem, rgs ((8 * j + u64 8) % 18446744073709551616) x2 x3 x4, lk ++ [(1, 5)], st + 1, fl, 6⟩, true) := rfl
  rw [e] at ha
  exact runQ_on (cs := loopC n c) ⟨(by decide : (0 : Int) ≤ 5), by rw [len9]; show (5 : Int) < 9; decide⟩ hs (of_word rj6 (by simp [j6])) ha
theorem st7 (hs : (st : Int) ≠ fuel) : runQ (loopC n c) fuel (f + 1) ⟨cd, mem, rgs x1 x2 x3 x4, lk, st, fl, 6⟩ = runQ (loopC n c) fuel f ⟨cd, mem, rgs x1 x2 x3 x4, lk ++ [(1, 6)], st + 1, fl, 1⟩ :=
  runQ_on (cs := loopC n c) ⟨(by decide : (0 : Int) ≤ 6), by rw [len9]; show (6 : Int) < 9; decide⟩ hs (of_word rj7 (by simp [j7])) rfl
theorem st8 (j : Nat) (hj : j < mem.length) (hx : 8 * j < 18446744073709551616) (hs : (st : Int) ≠ fuel) : runQ (loopC n c) fuel (f + 1) ⟨cd, mem, rgs (8 * j) x2 x3 x4, lk, st, fl, 7⟩ = runQ (loopC n c) fuel f ⟨cd, mem.set j x2, rgs (8 * j) x2 x3 x4, lk ++ [(1, 7)] ++ [(3, s64 (8 * j))], st + 1, fl, 8⟩ := by
  refine runQ_on (cs := loopC n c) (i := j8) ⟨(by decide : (0 : Int) ≤ 7), by rw [len9]; show (7 : Int) < 9; decide⟩ hs (of_word rj8 (by simp [j8])) ?_
  unfold QS.act
  rw [if_pos (show j8.op = 18 ∨ j8.op = 19 from Or.inr rfl)]
  unfold QS.touch
  rw [ad0 hx st 7 j8 rfl rfl]
  have hm : (QS.next (QS.tick ⟨cd, mem, rgs (8 * j) x2 x3 x4, lk, st, fl, 7⟩)).mem = mem := rfl
  rw [hm]
  have hb : ¬ (8 * j % 8 ≠ 0 ∨ mem.length ≤ 8 * j / 8) := by omega
  have e8 : 8 * j / 8 = j := by omega
  simp only
  rw [if_neg hb, if_neg (show ¬ j8.op = 18 from by decide), e8]
  rfl
theorem st9 (h0 : 0 ≤ c) (h5 : c ≤ 5) (hs : (st : Int) ≠ fuel) : runQ (loopC n c) fuel (f + 1) ⟨cd, mem, rgs x1 x2 x3 x4, lk, st, fl, 8⟩ = some ⟨if c ≤ 2 then c else 3, mem, rgs x1 x2 x3 x4, lk ++ [(1, 8)], st + 1, fl, 9⟩ := by
  exact runQ_off (cs := loopC n c) (i := j9 c) ⟨(by decide : (0 : Int) ≤ 8), by rw [len9]; show (8 : Int) < 9; decide⟩ hs (of_word (rj9 c h0 h5) (by simp [j9])) rfl
theorem st9f (hs : (st : Int) = fuel) : runQ (loopC n c) fuel (f + 1) ⟨cd, mem, rgs x1 x2 x3 x4, lk, st, fl, 8⟩ = some ⟨4, mem, rgs x1 x2 x3 x4, lk, st, fl, 8⟩ :=
  runQ_fuel (cs := loopC n c) ⟨(by decide : (0 : Int) ≤ 8), by rw [len9]; show (8 : Int) < 9; decide⟩ hs
end
theorem lessC (a b : Nat) : (lessF a b).c = decide (b ≤ a) := rfl
/-- The rounds of the loop. -/
theorem rounds (n : Nat) (hn : n ≤ 40) (c fuel : Int) (mem : List Nat) (hm : n < mem.length) : ∀ (d j : Nat), j + d = n → ∀ (f : Nat) (x4 : Nat) (lk : List (Int × Int)) (fl : FL), (1 + 6 * n : Int) ≤ fuel →
    ∃ x4' lk' fl', lk'.length = lk.length + 8 * d ∧ runQ (loopC n c) fuel (f + 6 * d) ⟨0, mem, rgs (8 * j) (sumF mem j) (8 * n) x4, lk, 1 + 6 * j, fl, 1⟩ = runQ (loopC n c) fuel f ⟨0, mem, rgs (8 * n) (sumF mem n) (8 * n) x4', lk', 1 + 6 * n, fl', 1⟩
  | 0, j, h, f, x4, lk, fl, hf => by
    have : j = n := by omega
    subst this
    exact ⟨x4, lk, fl, rfl, rfl⟩
  | d + 1, j, h, f, x4, lk, fl, hf => by
    have hc : (lessF (8 * j) (8 * n)).c = false := by rw [lessC]; exact decide_eq_false (by omega)
    have e : f + 6 * (d + 1) = f + 6 * d + 1 + 1 + 1 + 1 + 1 + 1 := by omega
    rw [e, st2 (by omega), st3 (by omega), hc, if_neg (by decide), st4 j (by omega) (by omega) (by omega), st5 (by omega), st6 j (by omega) (by omega), st7 (by omega)]
    obtain ⟨x4', lk', fl', h1, h2⟩ := rounds n hn c fuel mem hm d (j + 1) (by omega) f (mem.getD j 0) (lk ++ [(1, 1)] ++ [(1, 2)] ++ [(2, 0)] ++ [(1, 3)] ++ [(3, s64 (8 * j))] ++ [(1, 4)] ++ [(1, 5)] ++ [(1, 6)]) (lessF (8 * j) (8 * n)) hf
    refine ⟨x4', lk', fl', ?_, ?_⟩
    · rw [h1]; simp only [List.length_append, List.length_singleton]; omega
    · rw [← h2]
      have e2 : 1 + 6 * j + 1 + 1 + 1 + 1 + 1 + 1 = 1 + 6 * (j + 1) := by omega
      rw [e2]
      rfl
/-- The whole of it. -/
theorem loop_end (n : Nat) (hn : n ≤ 40) (c : Int) (h0 : 0 ≤ c) (h5 : c ≤ 5) (mem : List Nat) (hm : n < mem.length) (f : Nat) :
    (∃ s, runQ (loopC n c) (6 * n + 5 : Nat) (f + 6 * n + 5) (q0 0 mem) = some s ∧ s.code = (if c ≤ 2 then c else 3) ∧ s.steps = 6 * n + 5 ∧ s.mem = mem.set n (sumF mem n) ∧ getF s.regs 2 = sumF mem n ∧ s.leaks.length = 8 * n + 7) ∧
    (∃ s, runQ (loopC n c) (6 * n + 4 : Nat) (f + 6 * n + 5) (q0 0 mem) = some s ∧ s.code = 4) := by
  have e0 : q0 0 mem = ⟨0, mem, rgs (8 * 0) (sumF mem 0) 0 0, [], 0, f00, 0⟩ := rfl
  have hc : (lessF (8 * n) (8 * n)).c = true := by rw [lessC]; exact decide_eq_true (by omega)
  have e : f + 6 * n + 5 = f + 1 + 1 + 1 + 1 + 6 * n + 1 := by omega
  constructor
  · obtain ⟨x4, lk, fl, h1, h2⟩ := rounds n hn c (6 * n + 5 : Nat) mem hm n 0 (by omega) (f + 1 + 1 + 1 + 1) 0 ([] ++ [(1, 0)]) f00 (by omega)
    rw [e, e0, st1 hn (by omega)]
    rw [show 0 + 1 = 1 + 6 * 0 from rfl, h2, st2 (by omega), st3 (by omega), hc, if_pos rfl, st8 n hm (by omega) (by omega), st9 h0 h5 (by omega)]
    refine ⟨_, rfl, rfl, by show 1 + 6 * n + 1 + 1 + 1 + 1 = 6 * n + 5; omega, rfl, rfl, ?_⟩
    simp only [List.length_append, List.length_singleton, List.length_nil] at h1 ⊢
    omega
  · obtain ⟨x4, lk, fl, h1, h2⟩ := rounds n hn c (6 * n + 4 : Nat) mem hm n 0 (by omega) (f + 1 + 1 + 1 + 1) 0 ([] ++ [(1, 0)]) f00 (by omega)
    rw [e, e0, st1 hn (by omega)]
    rw [show 0 + 1 = 1 + 6 * 0 from rfl, h2, st2 (by omega), st3 (by omega), hc, if_pos rfl, st8 n hm (by omega) (by omega), st9f (by omega)]
    exact ⟨_, rfl, rfl⟩
end Go.Proofs.YtdfglgnflldkpaaDoor.Mir
