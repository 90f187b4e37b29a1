/- Part 9 of the proof: what these functions do. -/
import Derived.Test.YtdfglgnflldkpaaDoorVf8
namespace Go.Proofs.YtdfglgnflldkpaaDoor.Mir
open Go
set_option linter.unusedSimpArgs false
set_option linter.unusedVariables false
set_option maxHeartbeats 8000000
set_option maxRecDepth 20000
theorem aKw (G : aG) (k : Nat) (d n m a imm : Int) (h : aU ⟨1, d, n, m, a, imm⟩ = true) : aH.f G (k + 6) [mV 1 d n m a imm] [] = some (.tup [dF (cS ⟨1, d, n, m, a, imm⟩), .bool true], []) := by
 have r1 : ∀ H, aE (aT.f G (k + 5)) [mV 1 d n m a imm] H = _ := fun H => aD (H := H) (fE G k 1 d n m a imm) rfl rfl
 have r2 : ∀ H, aE (aM.f G (k + 5)) [.int .i64 1] H = _ := fun H => aD (H := H) (fO G (k + 1) 1) rfl rfl
 have r3 : ∀ H, aE (aZ.f G (k + 5)) [.int .i64 1] H = _ := fun H => aD (H := H) (fX G (k + 4) 1 (by decide)) rfl rfl
 rw [h] at r1
 unfold aU at h
 rw [Bool.and_eq_true] at h
 obtain ⟨_, h⟩ := h
 simp [aO, eQ, gC, dL, gL, eU, dM] at h
 have c1 : aJ .u32 (I6 d) = some (dF d) := bD (by omega) (by omega)
 have c2 : aJ .u32 (I6 n) = some (dF n) := bD (by omega) (by omega)
 have c3 : aJ .u32 (I6 m) = some (dF m) := bD (by omega) (by omega)
 have s1 := cW Tryd.prog 71 true (v := n) (p := 32) (b := 5) 5 rfl (by decide) rfl (by omega) (by omega)
 have s2 := cW Tryd.prog 71 true (v := m) (p := 65536) (b := 16) 16 rfl (by decide) rfl (by omega) (by omega)
 have o1 := gT Tryd.prog 71 false (x := 3531603968) (v := d) (q := 32) 5 rfl (by omega) (by omega) (by omega) (by omega) (by omega)
 have o2 := dG Tryd.prog 71 false (x := 3531603968 + d) (v := n) (p := 32) (q := 1) 5 0 rfl rfl (by omega) (by omega) (by omega) (by omega) (by omega)
 have o3 := dG Tryd.prog 71 false (x := 3531603968 + d + n * 32) (v := m) (p := 65536) (q := 1) 16 0 rfl rfl (by omega) (by omega) (by omega) (by omega) (by omega)
 have t1 := cW Tryd.prog 71 true (v := a) (p := 2097152) (b := 21) 21 rfl (by decide) rfl (by omega) (by omega)
 have t2 := dG Tryd.prog 71 false (x := 3531603968 + d + n * 32 + m * 65536) (v := a) (p := 2097152) (q := 4) 21 2 rfl rfl (by omega) (by omega) (by omega) (by omega) (by omega)
 have t3 := cW Tryd.prog 71 true (v := imm) (p := 32) (b := 5) 5 rfl (by decide) rfl (by omega) (by omega)
 have t4 := dG Tryd.prog 71 false (x := 3531603968 + d + n * 32 + m * 65536 + a * 2097152) (v := imm) (p := 32) (q := 65536) 5 16 rfl rfl (by omega) (by omega) (by omega) (by omega) (by omega)
 have ew : cS ⟨1, d, n, m, a, imm⟩ = 3531603968 + d + n * 32 + m * 65536 + (a * 2097152 + imm * 32) := rfl
 rw [ew]
 simp only [iT, aO, Int.reduceEq, if_true, if_false, ↓reduceIte] at r2 r3
 clear ew
 rw [aH.step]
 unfold aH.c
 refine eO ?_
 have fx := aPt r1 <| aPt r2 <| aPt r3 <| aPt c1 <| aPt c2 <| aPt c3 <| aPt s1 <| aPt s2 <| aPt o1 <| aPt o2 <| aPt o3 <| aPt t1 <| aPt t2 <| aPt t3 <| t4
 refine gI ?_
 all_goals first | exact nN rfl rfl | (refine nN ?_ rfl; omega)
theorem aKx (G : aG) (k : Nat) (d n m a imm : Int) (h : aU ⟨2, d, n, m, a, imm⟩ = true) : aH.f G (k + 6) [mV 2 d n m a imm] [] = some (.tup [dF (cS ⟨2, d, n, m, a, imm⟩), .bool true], []) := by
 have r1 : ∀ H, aE (aT.f G (k + 5)) [mV 2 d n m a imm] H = _ := fun H => aD (H := H) (fE G k 2 d n m a imm) rfl rfl
 have r2 : ∀ H, aE (aM.f G (k + 5)) [.int .i64 2] H = _ := fun H => aD (H := H) (fO G (k + 1) 2) rfl rfl
 have r3 : ∀ H, aE (aZ.f G (k + 5)) [.int .i64 2] H = _ := fun H => aD (H := H) (fX G (k + 4) 2 (by decide)) rfl rfl
 rw [h] at r1
 unfold aU at h
 rw [Bool.and_eq_true] at h
 obtain ⟨_, h⟩ := h
 simp [aO, eQ, gC, dL, gL, eU, dM] at h
 have c1 : aJ .u32 (I6 d) = some (dF d) := bD (by omega) (by omega)
 have c2 : aJ .u32 (I6 n) = some (dF n) := bD (by omega) (by omega)
 have c3 : aJ .u32 (I6 m) = some (dF m) := bD (by omega) (by omega)
 have s1 := cW Tryd.prog 71 true (v := n) (p := 32) (b := 5) 5 rfl (by decide) rfl (by omega) (by omega)
 have s2 := cW Tryd.prog 71 true (v := m) (p := 65536) (b := 16) 16 rfl (by decide) rfl (by omega) (by omega)
 have o1 := gT Tryd.prog 71 false (x := 4068474880) (v := d) (q := 32) 5 rfl (by omega) (by omega) (by omega) (by omega) (by omega)
 have o2 := dG Tryd.prog 71 false (x := 4068474880 + d) (v := n) (p := 32) (q := 1) 5 0 rfl rfl (by omega) (by omega) (by omega) (by omega) (by omega)
 have o3 := dG Tryd.prog 71 false (x := 4068474880 + d + n * 32) (v := m) (p := 65536) (q := 1) 16 0 rfl rfl (by omega) (by omega) (by omega) (by omega) (by omega)
 have t1 := cW Tryd.prog 71 true (v := a) (p := 2097152) (b := 21) 21 rfl (by decide) rfl (by omega) (by omega)
 have t2 := dG Tryd.prog 71 false (x := 4068474880 + d + n * 32 + m * 65536) (v := a) (p := 2097152) (q := 4) 21 2 rfl rfl (by omega) (by omega) (by omega) (by omega) (by omega)
 have t3 := cW Tryd.prog 71 true (v := imm) (p := 32) (b := 5) 5 rfl (by decide) rfl (by omega) (by omega)
 have t4 := dG Tryd.prog 71 false (x := 4068474880 + d + n * 32 + m * 65536 + a * 2097152) (v := imm) (p := 32) (q := 65536) 5 16 rfl rfl (by omega) (by omega) (by omega) (by omega) (by omega)
 have ew : cS ⟨2, d, n, m, a, imm⟩ = 4068474880 + d + n * 32 + m * 65536 + (a * 2097152 + imm * 32) := rfl
 rw [ew]
 simp only [iT, aO, Int.reduceEq, if_true, if_false, ↓reduceIte] at r2 r3
 clear ew
 rw [aH.step]
 unfold aH.c
 refine eO ?_
 have fx := aPt r1 <| aPt r2 <| aPt r3 <| aPt c1 <| aPt c2 <| aPt c3 <| aPt s1 <| aPt s2 <| aPt o1 <| aPt o2 <| aPt o3 <| aPt t1 <| aPt t2 <| aPt t3 <| t4
 refine gI ?_
 all_goals first | exact nN rfl rfl | (refine nN ?_ rfl; omega)
theorem aKy (G : aG) (k : Nat) (d n m a imm : Int) (h : aU ⟨3, d, n, m, a, imm⟩ = true) : aH.f G (k + 6) [mV 3 d n m a imm] [] = some (.tup [dF (cS ⟨3, d, n, m, a, imm⟩), .bool true], []) := by
 have r1 : ∀ H, aE (aT.f G (k + 5)) [mV 3 d n m a imm] H = _ := fun H => aD (H := H) (fE G k 3 d n m a imm) rfl rfl
 have r2 : ∀ H, aE (aM.f G (k + 5)) [.int .i64 3] H = _ := fun H => aD (H := H) (fO G (k + 1) 3) rfl rfl
 have r3 : ∀ H, aE (aZ.f G (k + 5)) [.int .i64 3] H = _ := fun H => aD (H := H) (fX G (k + 4) 3 (by decide)) rfl rfl
 rw [h] at r1
 unfold aU at h
 rw [Bool.and_eq_true] at h
 obtain ⟨_, h⟩ := h
 simp [aO, eQ, gC, dL, gL, eU, dM] at h
 have c1 : aJ .u32 (I6 d) = some (dF d) := bD (by omega) (by omega)
 have c2 : aJ .u32 (I6 n) = some (dF n) := bD (by omega) (by omega)
 have c3 : aJ .u32 (I6 m) = some (dF m) := bD (by omega) (by omega)
 have s1 := cW Tryd.prog 71 true (v := n) (p := 32) (b := 5) 5 rfl (by decide) rfl (by omega) (by omega)
 have s2 := cW Tryd.prog 71 true (v := m) (p := 65536) (b := 16) 16 rfl (by decide) rfl (by omega) (by omega)
 have o1 := gT Tryd.prog 71 false (x := 2332033024) (v := d) (q := 32) 5 rfl (by omega) (by omega) (by omega) (by omega) (by omega)
 have o2 := dG Tryd.prog 71 false (x := 2332033024 + d) (v := n) (p := 32) (q := 32) 5 5 rfl rfl (by omega) (by omega) (by omega) (by omega) (by omega)
 have o3 := dG Tryd.prog 71 false (x := 2332033024 + d + n * 32) (v := m) (p := 65536) (q := 32) 16 5 rfl rfl (by omega) (by omega) (by omega) (by omega) (by omega)
 have ew : cS ⟨3, d, n, m, a, imm⟩ = 2332033024 + d + n * 32 + m * 65536 + 0 := rfl
 rw [ew]
 simp only [iT, aO, Int.reduceEq, if_true, if_false, ↓reduceIte] at r2 r3
 clear ew
 rw [aH.step]
 unfold aH.c
 refine eO ?_
 have fx := aPt r1 <| aPt r2 <| aPt r3 <| aPt c1 <| aPt c2 <| aPt c3 <| aPt s1 <| aPt s2 <| aPt o1 <| aPt o2 <| o3
 refine gI ?_
 all_goals first | exact nN rfl rfl | (refine nN ?_ rfl; omega)
theorem aKz (G : aG) (k : Nat) (d n m a imm : Int) (h : aU ⟨4, d, n, m, a, imm⟩ = true) : aH.f G (k + 6) [mV 4 d n m a imm] [] = some (.tup [dF (cS ⟨4, d, n, m, a, imm⟩), .bool true], []) := by
 have r1 : ∀ H, aE (aT.f G (k + 5)) [mV 4 d n m a imm] H = _ := fun H => aD (H := H) (fE G k 4 d n m a imm) rfl rfl
 have r2 : ∀ H, aE (aM.f G (k + 5)) [.int .i64 4] H = _ := fun H => aD (H := H) (fO G (k + 1) 4) rfl rfl
 have r3 : ∀ H, aE (aZ.f G (k + 5)) [.int .i64 4] H = _ := fun H => aD (H := H) (fX G (k + 4) 4 (by decide)) rfl rfl
 rw [h] at r1
 unfold aU at h
 rw [Bool.and_eq_true] at h
 obtain ⟨_, h⟩ := h
 simp [aO, eQ, gC, dL, gL, eU, dM] at h
 have c1 : aJ .u32 (I6 d) = some (dF d) := bD (by omega) (by omega)
 have c2 : aJ .u32 (I6 n) = some (dF n) := bD (by omega) (by omega)
 have c3 : aJ .u32 (I6 m) = some (dF m) := bD (by omega) (by omega)
 have s1 := cW Tryd.prog 71 true (v := n) (p := 32) (b := 5) 5 rfl (by decide) rfl (by omega) (by omega)
 have s2 := cW Tryd.prog 71 true (v := m) (p := 65536) (b := 16) 16 rfl (by decide) rfl (by omega) (by omega)
 have o1 := gT Tryd.prog 71 false (x := 3405774848) (v := d) (q := 32) 5 rfl (by omega) (by omega) (by omega) (by omega) (by omega)
 have o2 := dG Tryd.prog 71 false (x := 3405774848 + d) (v := n) (p := 32) (q := 32) 5 5 rfl rfl (by omega) (by omega) (by omega) (by omega) (by omega)
 have o3 := dG Tryd.prog 71 false (x := 3405774848 + d + n * 32) (v := m) (p := 65536) (q := 32) 16 5 rfl rfl (by omega) (by omega) (by omega) (by omega) (by omega)
 have ew : cS ⟨4, d, n, m, a, imm⟩ = 3405774848 + d + n * 32 + m * 65536 + 0 := rfl
 rw [ew]
 simp only [iT, aO, Int.reduceEq, if_true, if_false, ↓reduceIte] at r2 r3
 clear ew
 rw [aH.step]
 unfold aH.c
 refine eO ?_
 have fx := aPt r1 <| aPt r2 <| aPt r3 <| aPt c1 <| aPt c2 <| aPt c3 <| aPt s1 <| aPt s2 <| aPt o1 <| aPt o2 <| o3
 refine gI ?_
 all_goals first | exact nN rfl rfl | (refine nN ?_ rfl; omega)
theorem aKA (G : aG) (k : Nat) (d n m a imm : Int) (h : aU ⟨5, d, n, m, a, imm⟩ = true) : aH.f G (k + 6) [mV 5 d n m a imm] [] = some (.tup [dF (cS ⟨5, d, n, m, a, imm⟩), .bool true], []) := by
 have r1 : ∀ H, aE (aT.f G (k + 5)) [mV 5 d n m a imm] H = _ := fun H => aD (H := H) (fE G k 5 d n m a imm) rfl rfl
 have r2 : ∀ H, aE (aM.f G (k + 5)) [.int .i64 5] H = _ := fun H => aD (H := H) (fO G (k + 1) 5) rfl rfl
 have r3 : ∀ H, aE (aZ.f G (k + 5)) [.int .i64 5] H = _ := fun H => aD (H := H) (fX G (k + 4) 5 (by decide)) rfl rfl
 rw [h] at r1
 unfold aU at h
 rw [Bool.and_eq_true] at h
 obtain ⟨_, h⟩ := h
 simp [aO, eQ, gC, dL, gL, eU, dM] at h
 have c1 : aJ .u32 (I6 d) = some (dF d) := bD (by omega) (by omega)
 have c2 : aJ .u32 (I6 n) = some (dF n) := bD (by omega) (by omega)
 have c3 : aJ .u32 (I6 m) = some (dF m) := bD (by omega) (by omega)
 have s1 := cW Tryd.prog 71 true (v := n) (p := 32) (b := 5) 5 rfl (by decide) rfl (by omega) (by omega)
 have s2 := cW Tryd.prog 71 true (v := m) (p := 65536) (b := 16) 16 rfl (by decide) rfl (by omega) (by omega)
 have o1 := gT Tryd.prog 71 false (x := 2315255808) (v := d) (q := 32) 5 rfl (by omega) (by omega) (by omega) (by omega) (by omega)
 have o2 := dG Tryd.prog 71 false (x := 2315255808 + d) (v := n) (p := 32) (q := 32) 5 5 rfl rfl (by omega) (by omega) (by omega) (by omega) (by omega)
 have o3 := dG Tryd.prog 71 false (x := 2315255808 + d + n * 32) (v := m) (p := 65536) (q := 32) 16 5 rfl rfl (by omega) (by omega) (by omega) (by omega) (by omega)
 have ew : cS ⟨5, d, n, m, a, imm⟩ = 2315255808 + d + n * 32 + m * 65536 + 0 := rfl
 rw [ew]
 simp only [iT, aO, Int.reduceEq, if_true, if_false, ↓reduceIte] at r2 r3
 clear ew
 rw [aH.step]
 unfold aH.c
 refine eO ?_
 have fx := aPt r1 <| aPt r2 <| aPt r3 <| aPt c1 <| aPt c2 <| aPt c3 <| aPt s1 <| aPt s2 <| aPt o1 <| aPt o2 <| o3
 refine gI ?_
 all_goals first | exact nN rfl rfl | (refine nN ?_ rfl; omega)
theorem aKB (G : aG) (k : Nat) (d n m a imm : Int) (h : aU ⟨6, d, n, m, a, imm⟩ = true) : aH.f G (k + 6) [mV 6 d n m a imm] [] = some (.tup [dF (cS ⟨6, d, n, m, a, imm⟩), .bool true], []) := by
 have r1 : ∀ H, aE (aT.f G (k + 5)) [mV 6 d n m a imm] H = _ := fun H => aD (H := H) (fE G k 6 d n m a imm) rfl rfl
 have r2 : ∀ H, aE (aM.f G (k + 5)) [.int .i64 6] H = _ := fun H => aD (H := H) (fO G (k + 1) 6) rfl rfl
 have r3 : ∀ H, aE (aZ.f G (k + 5)) [.int .i64 6] H = _ := fun H => aD (H := H) (fX G (k + 4) 6 (by decide)) rfl rfl
 rw [h] at r1
 unfold aU at h
 rw [Bool.and_eq_true] at h
 obtain ⟨_, h⟩ := h
 simp [aO, eQ, gC, dL, gL, eU, dM] at h
 have c1 : aJ .u32 (I6 d) = some (dF d) := bD (by omega) (by omega)
 have c2 : aJ .u32 (I6 n) = some (dF n) := bD (by omega) (by omega)
 have c3 : aJ .u32 (I6 m) = some (dF m) := bD (by omega) (by omega)
 have s1 := cW Tryd.prog 71 true (v := n) (p := 32) (b := 5) 5 rfl (by decide) rfl (by omega) (by omega)
 have s2 := cW Tryd.prog 71 true (v := m) (p := 65536) (b := 16) 16 rfl (by decide) rfl (by omega) (by omega)
 have o1 := gT Tryd.prog 71 false (x := 2852126720) (v := d) (q := 32) 5 rfl (by omega) (by omega) (by omega) (by omega) (by omega)
 have o2 := dG Tryd.prog 71 false (x := 2852126720 + d) (v := n) (p := 32) (q := 32) 5 5 rfl rfl (by omega) (by omega) (by omega) (by omega) (by omega)
 have o3 := dG Tryd.prog 71 false (x := 2852126720 + d + n * 32) (v := m) (p := 65536) (q := 32) 16 5 rfl rfl (by omega) (by omega) (by omega) (by omega) (by omega)
 have ew : cS ⟨6, d, n, m, a, imm⟩ = 2852126720 + d + n * 32 + m * 65536 + 0 := rfl
 rw [ew]
 simp only [iT, aO, Int.reduceEq, if_true, if_false, ↓reduceIte] at r2 r3
 clear ew
 rw [aH.step]
 unfold aH.c
 refine eO ?_
 have fx := aPt r1 <| aPt r2 <| aPt r3 <| aPt c1 <| aPt c2 <| aPt c3 <| aPt s1 <| aPt s2 <| aPt o1 <| aPt o2 <| o3
 refine gI ?_
 all_goals first | exact nN rfl rfl | (refine nN ?_ rfl; omega)
theorem aKC (G : aG) (k : Nat) (d n m a imm : Int) (h : aU ⟨7, d, n, m, a, imm⟩ = true) : aH.f G (k + 6) [mV 7 d n m a imm] [] = some (.tup [dF (cS ⟨7, d, n, m, a, imm⟩), .bool true], []) := by
 have r1 : ∀ H, aE (aT.f G (k + 5)) [mV 7 d n m a imm] H = _ := fun H => aD (H := H) (fE G k 7 d n m a imm) rfl rfl
 have r2 : ∀ H, aE (aM.f G (k + 5)) [.int .i64 7] H = _ := fun H => aD (H := H) (fO G (k + 1) 7) rfl rfl
 have r3 : ∀ H, aE (aZ.f G (k + 5)) [.int .i64 7] H = _ := fun H => aD (H := H) (fX G (k + 4) 7 (by decide)) rfl rfl
 rw [h] at r1
 unfold aU at h
 rw [Bool.and_eq_true] at h
 obtain ⟨_, h⟩ := h
 simp [aO, eQ, gC, dL, gL, eU, dM] at h
 have c1 : aJ .u32 (I6 d) = some (dF d) := bD (by omega) (by omega)
 have c2 : aJ .u32 (I6 n) = some (dF n) := bD (by omega) (by omega)
 have c3 : aJ .u32 (I6 m) = some (dF m) := bD (by omega) (by omega)
 have s1 := cW Tryd.prog 71 true (v := n) (p := 32) (b := 5) 5 rfl (by decide) rfl (by omega) (by omega)
 have s2 := cW Tryd.prog 71 true (v := m) (p := 65536) (b := 16) 16 rfl (by decide) rfl (by omega) (by omega)
 have o1 := gT Tryd.prog 71 false (x := 3388997632) (v := d) (q := 32) 5 rfl (by omega) (by omega) (by omega) (by omega) (by omega)
 have o2 := dG Tryd.prog 71 false (x := 3388997632 + d) (v := n) (p := 32) (q := 32) 5 5 rfl rfl (by omega) (by omega) (by omega) (by omega) (by omega)
 have o3 := dG Tryd.prog 71 false (x := 3388997632 + d + n * 32) (v := m) (p := 65536) (q := 32) 16 5 rfl rfl (by omega) (by omega) (by omega) (by omega) (by omega)
 have ew : cS ⟨7, d, n, m, a, imm⟩ = 3388997632 + d + n * 32 + m * 65536 + 0 := rfl
 rw [ew]
 simp only [iT, aO, Int.reduceEq, if_true, if_false, ↓reduceIte] at r2 r3
 clear ew
 rw [aH.step]
 unfold aH.c
 refine eO ?_
 have fx := aPt r1 <| aPt r2 <| aPt r3 <| aPt c1 <| aPt c2 <| aPt c3 <| aPt s1 <| aPt s2 <| aPt o1 <| aPt o2 <| o3
 refine gI ?_
 all_goals first | exact nN rfl rfl | (refine nN ?_ rfl; omega)
theorem aKD (G : aG) (k : Nat) (d n m a imm : Int) (h : aU ⟨8, d, n, m, a, imm⟩ = true) : aH.f G (k + 6) [mV 8 d n m a imm] [] = some (.tup [dF (cS ⟨8, d, n, m, a, imm⟩), .bool true], []) := by
 have r1 : ∀ H, aE (aT.f G (k + 5)) [mV 8 d n m a imm] H = _ := fun H => aD (H := H) (fE G k 8 d n m a imm) rfl rfl
 have r2 : ∀ H, aE (aM.f G (k + 5)) [.int .i64 8] H = _ := fun H => aD (H := H) (fO G (k + 1) 8) rfl rfl
 have r3 : ∀ H, aE (aZ.f G (k + 5)) [.int .i64 8] H = _ := fun H => aD (H := H) (fX G (k + 4) 8 (by decide)) rfl rfl
 rw [h] at r1
 unfold aU at h
 rw [Bool.and_eq_true] at h
 obtain ⟨_, h⟩ := h
 simp [aO, eQ, gC, dL, gL, eU, dM] at h
 have c1 : aJ .u32 (I6 d) = some (dF d) := bD (by omega) (by omega)
 have c2 : aJ .u32 (I6 n) = some (dF n) := bD (by omega) (by omega)
 have c3 : aJ .u32 (I6 m) = some (dF m) := bD (by omega) (by omega)
 have s1 := cW Tryd.prog 71 true (v := n) (p := 32) (b := 5) 5 rfl (by decide) rfl (by omega) (by omega)
 have s2 := cW Tryd.prog 71 true (v := m) (p := 65536) (b := 16) 16 rfl (by decide) rfl (by omega) (by omega)
 have o1 := gT Tryd.prog 71 false (x := 2600468480) (v := d) (q := 32) 5 rfl (by omega) (by omega) (by omega) (by omega) (by omega)
 have o2 := dG Tryd.prog 71 false (x := 2600468480 + d) (v := n) (p := 32) (q := 32) 5 5 rfl rfl (by omega) (by omega) (by omega) (by omega) (by omega)
 have o3 := dG Tryd.prog 71 false (x := 2600468480 + d + n * 32) (v := m) (p := 65536) (q := 32) 16 5 rfl rfl (by omega) (by omega) (by omega) (by omega) (by omega)
 have t1 := cW Tryd.prog 71 true (v := a) (p := 1024) (b := 10) 10 rfl (by decide) rfl (by omega) (by omega)
 have t2 := dG Tryd.prog 71 false (x := 2600468480 + d + n * 32 + m * 65536) (v := a) (p := 1024) (q := 32) 10 5 rfl rfl (by omega) (by omega) (by omega) (by omega) (by omega)
 have ew : cS ⟨8, d, n, m, a, imm⟩ = 2600468480 + d + n * 32 + m * 65536 + a * 1024 := rfl
 rw [ew]
 simp only [iT, aO, Int.reduceEq, if_true, if_false, ↓reduceIte] at r2 r3
 clear ew
 rw [aH.step]
 unfold aH.c
 refine eO ?_
 have fx := aPt r1 <| aPt r2 <| aPt r3 <| aPt c1 <| aPt c2 <| aPt c3 <| aPt s1 <| aPt s2 <| aPt o1 <| aPt o2 <| aPt o3 <| aPt t1 <| t2
 refine gI ?_
 all_goals first | exact nN rfl rfl | (refine nN ?_ rfl; omega)
theorem aKE (G : aG) (k : Nat) (d n m a imm : Int) (h : aU ⟨9, d, n, m, a, imm⟩ = true) : aH.f G (k + 6) [mV 9 d n m a imm] [] = some (.tup [dF (cS ⟨9, d, n, m, a, imm⟩), .bool true], []) := by
 have r1 : ∀ H, aE (aT.f G (k + 5)) [mV 9 d n m a imm] H = _ := fun H => aD (H := H) (fE G k 9 d n m a imm) rfl rfl
 have r2 : ∀ H, aE (aM.f G (k + 5)) [.int .i64 9] H = _ := fun H => aD (H := H) (fO G (k + 1) 9) rfl rfl
 have r3 : ∀ H, aE (aZ.f G (k + 5)) [.int .i64 9] H = _ := fun H => aD (H := H) (fX G (k + 4) 9 (by decide)) rfl rfl
 rw [h] at r1
 unfold aU at h
 rw [Bool.and_eq_true] at h
 obtain ⟨_, h⟩ := h
 simp [aO, eQ, gC, dL, gL, eU, dM] at h
 have c1 : aJ .u32 (I6 d) = some (dF d) := bD (by omega) (by omega)
 have c2 : aJ .u32 (I6 n) = some (dF n) := bD (by omega) (by omega)
 have c3 : aJ .u32 (I6 m) = some (dF m) := bD (by omega) (by omega)
 have s1 := cW Tryd.prog 71 true (v := n) (p := 32) (b := 5) 5 rfl (by decide) rfl (by omega) (by omega)
 have s2 := cW Tryd.prog 71 true (v := m) (p := 65536) (b := 16) 16 rfl (by decide) rfl (by omega) (by omega)
 have o1 := gT Tryd.prog 71 false (x := 2613083136) (v := d) (q := 32) 5 rfl (by omega) (by omega) (by omega) (by omega) (by omega)
 have o2 := dG Tryd.prog 71 false (x := 2613083136 + d) (v := n) (p := 32) (q := 32) 5 5 rfl rfl (by omega) (by omega) (by omega) (by omega) (by omega)
 have o3 := dG Tryd.prog 71 false (x := 2613083136 + d + n * 32) (v := m) (p := 65536) (q := 32) 16 5 rfl rfl (by omega) (by omega) (by omega) (by omega) (by omega)
 have ew : cS ⟨9, d, n, m, a, imm⟩ = 2613083136 + d + n * 32 + m * 65536 + 0 := rfl
 rw [ew]
 simp only [iT, aO, Int.reduceEq, if_true, if_false, ↓reduceIte] at r2 r3
 clear ew
 rw [aH.step]
 unfold aH.c
 refine eO ?_
 have fx := aPt r1 <| aPt r2 <| aPt r3 <| aPt c1 <| aPt c2 <| aPt c3 <| aPt s1 <| aPt s2 <| aPt o1 <| aPt o2 <| o3
 refine gI ?_
 all_goals first | exact nN rfl rfl | (refine nN ?_ rfl; omega)
theorem aIP (G : aG) (k : Nat) (d n m a imm : Int) (h : aU ⟨10, d, n, m, a, imm⟩ = true) : aH.f G (k + 6) [mV 10 d n m a imm] [] = some (.tup [dF (cS ⟨10, d, n, m, a, imm⟩), .bool true], []) := by
 have r1 : ∀ H, aE (aT.f G (k + 5)) [mV 10 d n m a imm] H = _ := fun H => aD (H := H) (fE G k 10 d n m a imm) rfl rfl
 have r2 : ∀ H, aE (aM.f G (k + 5)) [.int .i64 10] H = _ := fun H => aD (H := H) (fO G (k + 1) 10) rfl rfl
 have r3 : ∀ H, aE (aZ.f G (k + 5)) [.int .i64 10] H = _ := fun H => aD (H := H) (fX G (k + 4) 10 (by decide)) rfl rfl
 rw [h] at r1
 unfold aU at h
 rw [Bool.and_eq_true] at h
 obtain ⟨_, h⟩ := h
 simp [aO, eQ, gC, dL, gL, eU, dM] at h
 have c1 : aJ .u32 (I6 d) = some (dF d) := bD (by omega) (by omega)
 have c2 : aJ .u32 (I6 n) = some (dF n) := bD (by omega) (by omega)
 have c3 : aJ .u32 (I6 m) = some (dF m) := bD (by omega) (by omega)
 have s1 := cW Tryd.prog 71 true (v := n) (p := 32) (b := 5) 5 rfl (by decide) rfl (by omega) (by omega)
 have s2 := cW Tryd.prog 71 true (v := m) (p := 65536) (b := 16) 16 rfl (by decide) rfl (by omega) (by omega)
 have o1 := gT Tryd.prog 71 false (x := 2432696320) (v := d) (q := 32) 5 rfl (by omega) (by omega) (by omega) (by omega) (by omega)
 have o2 := dG Tryd.prog 71 false (x := 2432696320 + d) (v := n) (p := 32) (q := 32) 5 5 rfl rfl (by omega) (by omega) (by omega) (by omega) (by omega)
 have o3 := dG Tryd.prog 71 false (x := 2432696320 + d + n * 32) (v := m) (p := 65536) (q := 1) 16 0 rfl rfl (by omega) (by omega) (by omega) (by omega) (by omega)
 have t1 := cW Tryd.prog 71 true (v := imm) (p := 1024) (b := 10) 10 rfl (by decide) rfl (by omega) (by omega)
 have t2 := dG Tryd.prog 71 false (x := 2432696320 + d + n * 32 + m * 65536) (v := imm) (p := 1024) (q := 4096) 10 12 rfl rfl (by omega) (by omega) (by omega) (by omega) (by omega)
 have ew : cS ⟨10, d, n, m, a, imm⟩ = 2432696320 + d + n * 32 + m * 65536 + imm * 1024 := rfl
 rw [ew]
 simp only [iT, aO, Int.reduceEq, if_true, if_false, ↓reduceIte] at r2 r3
 clear ew
 rw [aH.step]
 unfold aH.c
 refine eO ?_
 have fx := aPt r1 <| aPt r2 <| aPt r3 <| aPt c1 <| aPt c2 <| aPt c3 <| aPt s1 <| aPt s2 <| aPt o1 <| aPt o2 <| aPt o3 <| aPt t1 <| t2
 refine gI ?_
 all_goals first | exact nN rfl rfl | (refine nN ?_ rfl; omega)
theorem aIQ (G : aG) (k : Nat) (d n m a imm : Int) (h : aU ⟨11, d, n, m, a, imm⟩ = true) : aH.f G (k + 6) [mV 11 d n m a imm] [] = some (.tup [dF (cS ⟨11, d, n, m, a, imm⟩), .bool true], []) := by
 have r1 : ∀ H, aE (aT.f G (k + 5)) [mV 11 d n m a imm] H = _ := fun H => aD (H := H) (fE G k 11 d n m a imm) rfl rfl
 have r2 : ∀ H, aE (aM.f G (k + 5)) [.int .i64 11] H = _ := fun H => aD (H := H) (fO G (k + 1) 11) rfl rfl
 have r3 : ∀ H, aE (aZ.f G (k + 5)) [.int .i64 11] H = _ := fun H => aD (H := H) (fX G (k + 4) 11 (by decide)) rfl rfl
 rw [h] at r1
 unfold aU at h
 rw [Bool.and_eq_true] at h
 obtain ⟨_, h⟩ := h
 simp [aO, eQ, gC, dL, gL, eU, dM] at h
 have c1 : aJ .u32 (I6 d) = some (dF d) := bD (by omega) (by omega)
 have c2 : aJ .u32 (I6 n) = some (dF n) := bD (by omega) (by omega)
 have c3 : aJ .u32 (I6 m) = some (dF m) := bD (by omega) (by omega)
 have s1 := cW Tryd.prog 71 true (v := n) (p := 32) (b := 5) 5 rfl (by decide) rfl (by omega) (by omega)
 have s2 := cW Tryd.prog 71 true (v := m) (p := 65536) (b := 16) 16 rfl (by decide) rfl (by omega) (by omega)
 have o1 := gT Tryd.prog 71 false (x := 3506438144) (v := d) (q := 32) 5 rfl (by omega) (by omega) (by omega) (by omega) (by omega)
 have o2 := dG Tryd.prog 71 false (x := 3506438144 + d) (v := n) (p := 32) (q := 32) 5 5 rfl rfl (by omega) (by omega) (by omega) (by omega) (by omega)
 have o3 := dG Tryd.prog 71 false (x := 3506438144 + d + n * 32) (v := m) (p := 65536) (q := 1) 16 0 rfl rfl (by omega) (by omega) (by omega) (by omega) (by omega)
 have t1 := cW Tryd.prog 71 true (v := imm) (p := 1024) (b := 10) 10 rfl (by decide) rfl (by omega) (by omega)
 have t2 := dG Tryd.prog 71 false (x := 3506438144 + d + n * 32 + m * 65536) (v := imm) (p := 1024) (q := 4096) 10 12 rfl rfl (by omega) (by omega) (by omega) (by omega) (by omega)
 have ew : cS ⟨11, d, n, m, a, imm⟩ = 3506438144 + d + n * 32 + m * 65536 + imm * 1024 := rfl
 rw [ew]
 simp only [iT, aO, Int.reduceEq, if_true, if_false, ↓reduceIte] at r2 r3
 clear ew
 rw [aH.step]
 unfold aH.c
 refine eO ?_
 have fx := aPt r1 <| aPt r2 <| aPt r3 <| aPt c1 <| aPt c2 <| aPt c3 <| aPt s1 <| aPt s2 <| aPt o1 <| aPt o2 <| aPt o3 <| aPt t1 <| t2
 refine gI ?_
 all_goals first | exact nN rfl rfl | (refine nN ?_ rfl; omega)
theorem aIR (G : aG) (k : Nat) (d n m a imm : Int) (h : aU ⟨12, d, n, m, a, imm⟩ = true) : aH.f G (k + 6) [mV 12 d n m a imm] [] = some (.tup [dF (cS ⟨12, d, n, m, a, imm⟩), .bool true], []) := by
 have r1 : ∀ H, aE (aT.f G (k + 5)) [mV 12 d n m a imm] H = _ := fun H => aD (H := H) (fE G k 12 d n m a imm) rfl rfl
 have r2 : ∀ H, aE (aM.f G (k + 5)) [.int .i64 12] H = _ := fun H => aD (H := H) (fO G (k + 1) 12) rfl rfl
 have r3 : ∀ H, aE (aZ.f G (k + 5)) [.int .i64 12] H = _ := fun H => aD (H := H) (fX G (k + 4) 12 (by decide)) rfl rfl
 rw [h] at r1
 unfold aU at h
 rw [Bool.and_eq_true] at h
 obtain ⟨_, h⟩ := h
 simp [aO, eQ, gC, dL, gL, eU, dM] at h
 have c1 : aJ .u32 (I6 d) = some (dF d) := bD (by omega) (by omega)
 have c2 : aJ .u32 (I6 n) = some (dF n) := bD (by omega) (by omega)
 have c3 : aJ .u32 (I6 m) = some (dF m) := bD (by omega) (by omega)
 have s1 := cW Tryd.prog 71 true (v := n) (p := 32) (b := 5) 5 rfl (by decide) rfl (by omega) (by omega)
 have s2 := cW Tryd.prog 71 true (v := m) (p := 65536) (b := 16) 16 rfl (by decide) rfl (by omega) (by omega)
 have o1 := gT Tryd.prog 71 false (x := 3544186880) (v := d) (q := 32) 5 rfl (by omega) (by omega) (by omega) (by omega) (by omega)
 have o2 := dG Tryd.prog 71 false (x := 3544186880 + d) (v := n) (p := 32) (q := 32) 5 5 rfl rfl (by omega) (by omega) (by omega) (by omega) (by omega)
 have o3 := dG Tryd.prog 71 false (x := 3544186880 + d + n * 32) (v := m) (p := 65536) (q := 1) 16 0 rfl rfl (by omega) (by omega) (by omega) (by omega) (by omega)
 have t0 := aGz Tryd.prog 71 true (a := 64) (b := imm) (by omega) (by omega) (by omega)
 have t1 := aLD Tryd.prog 71 true (a := 64 - imm) (by omega)
 have t2 := cW Tryd.prog 71 true (v := ((64 - imm) % 64)) (p := 65536) (b := 16) 16 rfl (by decide) rfl (by omega) (by omega)
 have t3 := dG Tryd.prog 71 false (x := 3544186880 + d + n * 32 + m * 65536) (v := ((64 - imm) % 64)) (p := 65536) (q := 64) 16 6 rfl rfl (by omega) (by omega) (by omega) (by omega) (by omega)
 have t4 := aGz Tryd.prog 71 true (a := 63) (b := imm) (by omega) (by omega) (by omega)
 have t5 := cW Tryd.prog 71 true (v := (63 - imm)) (p := 1024) (b := 10) 10 rfl (by decide) rfl (by omega) (by omega)
 have t6 := dG Tryd.prog 71 false (x := 3544186880 + d + n * 32 + m * 65536 + (64 - imm) % 64 * 65536) (v := (63 - imm)) (p := 1024) (q := 64) 10 6 rfl rfl (by omega) (by omega) (by omega) (by omega) (by omega)
 have ew : cS ⟨12, d, n, m, a, imm⟩ = 3544186880 + d + n * 32 + m * 65536 + ((64 - imm) % 64 * 65536 + (63 - imm) * 1024) := rfl
 rw [ew]
 simp only [iT, aO, Int.reduceEq, if_true, if_false, ↓reduceIte] at r2 r3
 clear ew
 rw [aH.step]
 unfold aH.c
 refine eO ?_
 have fx := aPt r1 <| aPt r2 <| aPt r3 <| aPt c1 <| aPt c2 <| aPt c3 <| aPt s1 <| aPt s2 <| aPt o1 <| aPt o2 <| aPt o3 <| aPt t0 <| aPt t1 <| aPt t2 <| aPt t3 <| aPt t4 <| aPt t5 <| t6
 refine gI ?_
 all_goals first | exact nN rfl rfl | (refine nN ?_ rfl; omega)
theorem aIS (G : aG) (k : Nat) (d n m a imm : Int) (h : aU ⟨13, d, n, m, a, imm⟩ = true) : aH.f G (k + 6) [mV 13 d n m a imm] [] = some (.tup [dF (cS ⟨13, d, n, m, a, imm⟩), .bool true], []) := by
 have r1 : ∀ H, aE (aT.f G (k + 5)) [mV 13 d n m a imm] H = _ := fun H => aD (H := H) (fE G k 13 d n m a imm) rfl rfl
 have r2 : ∀ H, aE (aM.f G (k + 5)) [.int .i64 13] H = _ := fun H => aD (H := H) (fO G (k + 1) 13) rfl rfl
 have r3 : ∀ H, aE (aZ.f G (k + 5)) [.int .i64 13] H = _ := fun H => aD (H := H) (fX G (k + 4) 13 (by decide)) rfl rfl
 rw [h] at r1
 unfold aU at h
 rw [Bool.and_eq_true] at h
 obtain ⟨_, h⟩ := h
 simp [aO, eQ, gC, dL, gL, eU, dM] at h
 have c1 : aJ .u32 (I6 d) = some (dF d) := bD (by omega) (by omega)
 have c2 : aJ .u32 (I6 n) = some (dF n) := bD (by omega) (by omega)
 have c3 : aJ .u32 (I6 m) = some (dF m) := bD (by omega) (by omega)
 have s1 := cW Tryd.prog 71 true (v := n) (p := 32) (b := 5) 5 rfl (by decide) rfl (by omega) (by omega)
 have s2 := cW Tryd.prog 71 true (v := m) (p := 65536) (b := 16) 16 rfl (by decide) rfl (by omega) (by omega)
 have o1 := gT Tryd.prog 71 false (x := 3544186880) (v := d) (q := 32) 5 rfl (by omega) (by omega) (by omega) (by omega) (by omega)
 have o2 := dG Tryd.prog 71 false (x := 3544186880 + d) (v := n) (p := 32) (q := 32) 5 5 rfl rfl (by omega) (by omega) (by omega) (by omega) (by omega)
 have o3 := dG Tryd.prog 71 false (x := 3544186880 + d + n * 32) (v := m) (p := 65536) (q := 1) 16 0 rfl rfl (by omega) (by omega) (by omega) (by omega) (by omega)
 have t1 := cW Tryd.prog 71 true (v := imm) (p := 65536) (b := 16) 16 rfl (by decide) rfl (by omega) (by omega)
 have t2 := dG Tryd.prog 71 false (x := 3544186880 + d + n * 32 + m * 65536) (v := imm) (p := 65536) (q := 64) 16 6 rfl rfl (by omega) (by omega) (by omega) (by omega) (by omega)
 have t3 : aQ Tryd.prog .or 71 true (dF (3544186880 + d + n * 32 + m * 65536 + imm * 65536)) (.int .u32 64512) = some (dF (3544186880 + d + n * 32 + m * 65536 + imm * 65536 + 64512)) := dG Tryd.prog 71 true (x := 3544186880 + d + n * 32 + m * 65536 + imm * 65536) (v := 63) (p := 1024) (q := 64) 10 6 rfl rfl (by omega) (by omega) (by omega) (by omega) (by omega)
 have ew : cS ⟨13, d, n, m, a, imm⟩ = 3544186880 + d + n * 32 + m * 65536 + (imm * 65536 + 64512) := rfl
 rw [ew]
 simp only [iT, aO, Int.reduceEq, if_true, if_false, ↓reduceIte] at r2 r3
 clear ew
 rw [aH.step]
 unfold aH.c
 refine eO ?_
 have fx := aPt r1 <| aPt r2 <| aPt r3 <| aPt c1 <| aPt c2 <| aPt c3 <| aPt s1 <| aPt s2 <| aPt o1 <| aPt o2 <| aPt o3 <| aPt t1 <| aPt t2 <| t3
 refine gI ?_
 all_goals first | exact nN rfl rfl | (refine nN ?_ rfl; omega)
theorem aIT (G : aG) (k : Nat) (d n m a imm : Int) (h : aU ⟨14, d, n, m, a, imm⟩ = true) : aH.f G (k + 6) [mV 14 d n m a imm] [] = some (.tup [dF (cS ⟨14, d, n, m, a, imm⟩), .bool true], []) := by
 have r1 : ∀ H, aE (aT.f G (k + 5)) [mV 14 d n m a imm] H = _ := fun H => aD (H := H) (fE G k 14 d n m a imm) rfl rfl
 have r2 : ∀ H, aE (aM.f G (k + 5)) [.int .i64 14] H = _ := fun H => aD (H := H) (fO G (k + 1) 14) rfl rfl
 have r3 : ∀ H, aE (aZ.f G (k + 5)) [.int .i64 14] H = _ := fun H => aD (H := H) (fX G (k + 4) 14 (by decide)) rfl rfl
 rw [h] at r1
 unfold aU at h
 rw [Bool.and_eq_true] at h
 obtain ⟨_, h⟩ := h
 simp [aO, eQ, gC, dL, gL, eU, dM] at h
 have c1 : aJ .u32 (I6 d) = some (dF d) := bD (by omega) (by omega)
 have c2 : aJ .u32 (I6 n) = some (dF n) := bD (by omega) (by omega)
 have c3 : aJ .u32 (I6 m) = some (dF m) := bD (by omega) (by omega)
 have s1 := cW Tryd.prog 71 true (v := n) (p := 32) (b := 5) 5 rfl (by decide) rfl (by omega) (by omega)
 have s2 := cW Tryd.prog 71 true (v := m) (p := 65536) (b := 16) 16 rfl (by decide) rfl (by omega) (by omega)
 have o1 := gT Tryd.prog 71 false (x := 2470509568) (v := d) (q := 32) 5 rfl (by omega) (by omega) (by omega) (by omega) (by omega)
 have o2 := dG Tryd.prog 71 false (x := 2470509568 + d) (v := n) (p := 32) (q := 32) 5 5 rfl rfl (by omega) (by omega) (by omega) (by omega) (by omega)
 have o3 := dG Tryd.prog 71 false (x := 2470509568 + d + n * 32) (v := m) (p := 65536) (q := 1) 16 0 rfl rfl (by omega) (by omega) (by omega) (by omega) (by omega)
 have t1 := cW Tryd.prog 71 true (v := imm) (p := 65536) (b := 16) 16 rfl (by decide) rfl (by omega) (by omega)
 have t2 := dG Tryd.prog 71 false (x := 2470509568 + d + n * 32 + m * 65536) (v := imm) (p := 65536) (q := 64) 16 6 rfl rfl (by omega) (by omega) (by omega) (by omega) (by omega)
 have ew : cS ⟨14, d, n, m, a, imm⟩ = 2470509568 + d + n * 32 + m * 65536 + imm * 65536 := rfl
 rw [ew]
 simp only [iT, aO, Int.reduceEq, if_true, if_false, ↓reduceIte] at r2 r3
 clear ew
 rw [aH.step]
 unfold aH.c
 refine eO ?_
 have fx := aPt r1 <| aPt r2 <| aPt r3 <| aPt c1 <| aPt c2 <| aPt c3 <| aPt s1 <| aPt s2 <| aPt o1 <| aPt o2 <| aPt o3 <| aPt t1 <| t2
 refine gI ?_
 all_goals first | exact nN rfl rfl | (refine nN ?_ rfl; omega)
theorem aIU (G : aG) (k : Nat) (d n m a imm : Int) (h : aU ⟨15, d, n, m, a, imm⟩ = true) : aH.f G (k + 6) [mV 15 d n m a imm] [] = some (.tup [dF (cS ⟨15, d, n, m, a, imm⟩), .bool true], []) := by
 have r1 : ∀ H, aE (aT.f G (k + 5)) [mV 15 d n m a imm] H = _ := fun H => aD (H := H) (fE G k 15 d n m a imm) rfl rfl
 have r2 : ∀ H, aE (aM.f G (k + 5)) [.int .i64 15] H = _ := fun H => aD (H := H) (fO G (k + 1) 15) rfl rfl
 have r3 : ∀ H, aE (aZ.f G (k + 5)) [.int .i64 15] H = _ := fun H => aD (H := H) (fX G (k + 4) 15 (by decide)) rfl rfl
 rw [h] at r1
 unfold aU at h
 rw [Bool.and_eq_true] at h
 obtain ⟨_, h⟩ := h
 simp [aO, eQ, gC, dL, gL, eU, dM] at h
 have c1 : aJ .u32 (I6 d) = some (dF d) := bD (by omega) (by omega)
 have c2 : aJ .u32 (I6 n) = some (dF n) := bD (by omega) (by omega)
 have c3 : aJ .u32 (I6 m) = some (dF m) := bD (by omega) (by omega)
 have s1 := cW Tryd.prog 71 true (v := n) (p := 32) (b := 5) 5 rfl (by decide) rfl (by omega) (by omega)
 have s2 := cW Tryd.prog 71 true (v := m) (p := 65536) (b := 16) 16 rfl (by decide) rfl (by omega) (by omega)
 have o1 := gT Tryd.prog 71 false (x := 3942645791) (v := d) (q := 1) 0 rfl (by omega) (by omega) (by omega) (by omega) (by omega)
 have o2 := dG Tryd.prog 71 false (x := 3942645791 + d) (v := n) (p := 32) (q := 32) 5 5 rfl rfl (by omega) (by omega) (by omega) (by omega) (by omega)
 have o3 := dG Tryd.prog 71 false (x := 3942645791 + d + n * 32) (v := m) (p := 65536) (q := 32) 16 5 rfl rfl (by omega) (by omega) (by omega) (by omega) (by omega)
 have ew : cS ⟨15, d, n, m, a, imm⟩ = 3942645791 + d + n * 32 + m * 65536 + 0 := rfl
 rw [ew]
 simp only [iT, aO, Int.reduceEq, if_true, if_false, ↓reduceIte] at r2 r3
 clear ew
 rw [aH.step]
 unfold aH.c
 refine eO ?_
 have fx := aPt r1 <| aPt r2 <| aPt r3 <| aPt c1 <| aPt c2 <| aPt c3 <| aPt s1 <| aPt s2 <| aPt o1 <| aPt o2 <| o3
 refine gI ?_
 all_goals first | exact nN rfl rfl | (refine nN ?_ rfl; omega)
theorem aIV (G : aG) (k : Nat) (d n m a imm : Int) (h : aU ⟨16, d, n, m, a, imm⟩ = true) : aH.f G (k + 6) [mV 16 d n m a imm] [] = some (.tup [dF (cS ⟨16, d, n, m, a, imm⟩), .bool true], []) := by
 have r1 : ∀ H, aE (aT.f G (k + 5)) [mV 16 d n m a imm] H = _ := fun H => aD (H := H) (fE G k 16 d n m a imm) rfl rfl
 have r2 : ∀ H, aE (aM.f G (k + 5)) [.int .i64 16] H = _ := fun H => aD (H := H) (fO G (k + 1) 16) rfl rfl
 have r3 : ∀ H, aE (aZ.f G (k + 5)) [.int .i64 16] H = _ := fun H => aD (H := H) (fX G (k + 4) 16 (by decide)) rfl rfl
 rw [h] at r1
 unfold aU at h
 rw [Bool.and_eq_true] at h
 obtain ⟨_, h⟩ := h
 simp [aO, eQ, gC, dL, gL, eU, dM] at h
 have c1 : aJ .u32 (I6 d) = some (dF d) := bD (by omega) (by omega)
 have c2 : aJ .u32 (I6 n) = some (dF n) := bD (by omega) (by omega)
 have c3 : aJ .u32 (I6 m) = some (dF m) := bD (by omega) (by omega)
 have s1 := cW Tryd.prog 71 true (v := n) (p := 32) (b := 5) 5 rfl (by decide) rfl (by omega) (by omega)
 have s2 := cW Tryd.prog 71 true (v := m) (p := 65536) (b := 16) 16 rfl (by decide) rfl (by omega) (by omega)
 have o1 := gT Tryd.prog 71 false (x := 2592079872) (v := d) (q := 32) 5 rfl (by omega) (by omega) (by omega) (by omega) (by omega)
 have o2 := dG Tryd.prog 71 false (x := 2592079872 + d) (v := n) (p := 32) (q := 32) 5 5 rfl rfl (by omega) (by omega) (by omega) (by omega) (by omega)
 have o3 := dG Tryd.prog 71 false (x := 2592079872 + d + n * 32) (v := m) (p := 65536) (q := 32) 16 5 rfl rfl (by omega) (by omega) (by omega) (by omega) (by omega)
 have t1 := cW Tryd.prog 71 true (v := a) (p := 4096) (b := 12) 12 rfl (by decide) rfl (by omega) (by omega)
 have t2 := dG Tryd.prog 71 false (x := 2592079872 + d + n * 32 + m * 65536) (v := a) (p := 4096) (q := 16) 12 4 rfl rfl (by omega) (by omega) (by omega) (by omega) (by omega)
 have ew : cS ⟨16, d, n, m, a, imm⟩ = 2592079872 + d + n * 32 + m * 65536 + a * 4096 := rfl
 rw [ew]
 simp only [iT, aO, Int.reduceEq, if_true, if_false, ↓reduceIte] at r2 r3
 clear ew
 rw [aH.step]
 unfold aH.c
 refine eO ?_
 have fx := aPt r1 <| aPt r2 <| aPt r3 <| aPt c1 <| aPt c2 <| aPt c3 <| aPt s1 <| aPt s2 <| aPt o1 <| aPt o2 <| aPt o3 <| aPt t1 <| t2
 refine gI ?_
 all_goals first | exact nN rfl rfl | (refine nN ?_ rfl; omega)
theorem aIW (G : aG) (k : Nat) (d n m a imm : Int) (h : aU ⟨17, d, n, m, a, imm⟩ = true) : aH.f G (k + 6) [mV 17 d n m a imm] [] = some (.tup [dF (cS ⟨17, d, n, m, a, imm⟩), .bool true], []) := by
 have r1 : ∀ H, aE (aT.f G (k + 5)) [mV 17 d n m a imm] H = _ := fun H => aD (H := H) (fE G k 17 d n m a imm) rfl rfl
 have r2 : ∀ H, aE (aM.f G (k + 5)) [.int .i64 17] H = _ := fun H => aD (H := H) (fO G (k + 1) 17) rfl rfl
 have r3 : ∀ H, aE (aZ.f G (k + 5)) [.int .i64 17] H = _ := fun H => aD (H := H) (fX G (k + 4) 17 (by decide)) rfl rfl
 rw [h] at r1
 unfold aU at h
 rw [Bool.and_eq_true] at h
 obtain ⟨_, h⟩ := h
 simp [aO, eQ, gC, dL, gL, eU, dM] at h
 have c1 : aJ .u32 (I6 d) = some (dF d) := bD (by omega) (by omega)
 have c2 : aJ .u32 (I6 n) = some (dF n) := bD (by omega) (by omega)
 have c3 : aJ .u32 (I6 m) = some (dF m) := bD (by omega) (by omega)
 have s1 := cW Tryd.prog 71 true (v := n) (p := 32) (b := 5) 5 rfl (by decide) rfl (by omega) (by omega)
 have s2 := cW Tryd.prog 71 true (v := m) (p := 65536) (b := 16) 16 rfl (by decide) rfl (by omega) (by omega)
 have o1 := gT Tryd.prog 71 false (x := 2594113504) (v := d) (q := 32) 5 rfl (by omega) (by omega) (by omega) (by omega) (by omega)
 have o2 := dG Tryd.prog 71 false (x := 2594113504 + d) (v := n) (p := 32) (q := 1) 5 0 rfl rfl (by omega) (by omega) (by omega) (by omega) (by omega)
 have o3 := dG Tryd.prog 71 false (x := 2594113504 + d + n * 32) (v := m) (p := 65536) (q := 1) 16 0 rfl rfl (by omega) (by omega) (by omega) (by omega) (by omega)
 have t0 : aQ Tryd.prog .xor 3 true (I6 a) (.int .i64 1) = some (I6 (if a % 2 = 0 then a + 1 else a - 1)) := aLN _ _ _ (by omega) (by omega)
 have t3 : aJ .u32 (I6 (if a % 2 = 0 then a + 1 else a - 1)) = some (dF (if a % 2 = 0 then a + 1 else a - 1)) := bD (by split <;> omega) (by split <;> omega)
 have t1 := cW Tryd.prog 71 true (v := (if a % 2 = 0 then a + 1 else a - 1)) (p := 4096) (b := 12) 12 rfl (by decide) rfl (by split <;> omega) (by split <;> omega)
 have t2 := dG Tryd.prog 71 false (x := 2594113504 + d + n * 32 + m * 65536) (v := (if a % 2 = 0 then a + 1 else a - 1)) (p := 4096) (q := 16) 12 4 rfl rfl (by omega) (by split <;> omega) (by split <;> omega) (by omega) (by split <;> omega)
 have ew : cS ⟨17, d, n, m, a, imm⟩ = 2594113504 + d + n * 32 + m * 65536 + (if a % 2 = 0 then a + 1 else a - 1) * 4096 := rfl
 rw [ew]
 simp only [iT, aO, Int.reduceEq, if_true, if_false, ↓reduceIte] at r2 r3
 clear ew
 rw [aH.step]
 unfold aH.c
 refine eO ?_
 have fx := aPt r1 <| aPt r2 <| aPt r3 <| aPt c1 <| aPt c2 <| aPt c3 <| aPt s1 <| aPt s2 <| aPt o1 <| aPt o2 <| aPt o3 <| aPt t0 <| aPt t3 <| aPt t1 <| t2
 refine gI ?_
 all_goals first | exact nN rfl rfl | (refine nN ?_ rfl; omega)
theorem aIX (G : aG) (k : Nat) (d n m a imm : Int) (h : aU ⟨18, d, n, m, a, imm⟩ = true) : aH.f G (k + 6) [mV 18 d n m a imm] [] = some (.tup [dF (cS ⟨18, d, n, m, a, imm⟩), .bool true], []) := by
 have r1 : ∀ H, aE (aT.f G (k + 5)) [mV 18 d n m a imm] H = _ := fun H => aD (H := H) (fE G k 18 d n m a imm) rfl rfl
 have r2 : ∀ H, aE (aM.f G (k + 5)) [.int .i64 18] H = _ := fun H => aD (H := H) (fO G (k + 1) 18) rfl rfl
 have r3 : ∀ H, aE (aZ.f G (k + 5)) [.int .i64 18] H = _ := fun H => aD (H := H) (fX G (k + 4) 18 (by decide)) rfl rfl
 rw [h] at r1
 unfold aU at h
 rw [Bool.and_eq_true] at h
 obtain ⟨_, h⟩ := h
 simp [aO, eQ, gC, dL, gL, eU, dM] at h
 have c1 : aJ .u32 (I6 d) = some (dF d) := bD (by omega) (by omega)
 have c2 : aJ .u32 (I6 n) = some (dF n) := bD (by omega) (by omega)
 have c3 : aJ .u32 (I6 m) = some (dF m) := bD (by omega) (by omega)
 have s1 := cW Tryd.prog 71 true (v := n) (p := 32) (b := 5) 5 rfl (by decide) rfl (by omega) (by omega)
 have s2 := cW Tryd.prog 71 true (v := m) (p := 65536) (b := 16) 16 rfl (by decide) rfl (by omega) (by omega)
 have o1 := gT Tryd.prog 71 false (x := 4181721088) (v := d) (q := 32) 5 rfl (by omega) (by omega) (by omega) (by omega) (by omega)
 have o2 := dG Tryd.prog 71 false (x := 4181721088 + d) (v := n) (p := 32) (q := 32) 5 5 rfl rfl (by omega) (by omega) (by omega) (by omega) (by omega)
 have o3 := dG Tryd.prog 71 false (x := 4181721088 + d + n * 32) (v := m) (p := 65536) (q := 1) 16 0 rfl rfl (by omega) (by omega) (by omega) (by omega) (by omega)
 have t1 := cW Tryd.prog 71 true (v := imm) (p := 1024) (b := 10) 10 rfl (by decide) rfl (by omega) (by omega)
 have t2 := dG Tryd.prog 71 false (x := 4181721088 + d + n * 32 + m * 65536) (v := imm) (p := 1024) (q := 4096) 10 12 rfl rfl (by omega) (by omega) (by omega) (by omega) (by omega)
 have ew : cS ⟨18, d, n, m, a, imm⟩ = 4181721088 + d + n * 32 + m * 65536 + imm * 1024 := rfl
 rw [ew]
 simp only [iT, aO, Int.reduceEq, if_true, if_false, ↓reduceIte] at r2 r3
 clear ew
 rw [aH.step]
 unfold aH.c
 refine eO ?_
 have fx := aPt r1 <| aPt r2 <| aPt r3 <| aPt c1 <| aPt c2 <| aPt c3 <| aPt s1 <| aPt s2 <| aPt o1 <| aPt o2 <| aPt o3 <| aPt t1 <| t2
 refine gI ?_
 all_goals first | exact nN rfl rfl | (refine nN ?_ rfl; omega)
theorem aIY (G : aG) (k : Nat) (d n m a imm : Int) (h : aU ⟨19, d, n, m, a, imm⟩ = true) : aH.f G (k + 6) [mV 19 d n m a imm] [] = some (.tup [dF (cS ⟨19, d, n, m, a, imm⟩), .bool true], []) := by
 have r1 : ∀ H, aE (aT.f G (k + 5)) [mV 19 d n m a imm] H = _ := fun H => aD (H := H) (fE G k 19 d n m a imm) rfl rfl
 have r2 : ∀ H, aE (aM.f G (k + 5)) [.int .i64 19] H = _ := fun H => aD (H := H) (fO G (k + 1) 19) rfl rfl
 have r3 : ∀ H, aE (aZ.f G (k + 5)) [.int .i64 19] H = _ := fun H => aD (H := H) (fX G (k + 4) 19 (by decide)) rfl rfl
 rw [h] at r1
 unfold aU at h
 rw [Bool.and_eq_true] at h
 obtain ⟨_, h⟩ := h
 simp [aO, eQ, gC, dL, gL, eU, dM] at h
 have c1 : aJ .u32 (I6 d) = some (dF d) := bD (by omega) (by omega)
 have c2 : aJ .u32 (I6 n) = some (dF n) := bD (by omega) (by omega)
 have c3 : aJ .u32 (I6 m) = some (dF m) := bD (by omega) (by omega)
 have s1 := cW Tryd.prog 71 true (v := n) (p := 32) (b := 5) 5 rfl (by decide) rfl (by omega) (by omega)
 have s2 := cW Tryd.prog 71 true (v := m) (p := 65536) (b := 16) 16 rfl (by decide) rfl (by omega) (by omega)
 have o1 := gT Tryd.prog 71 false (x := 4177526784) (v := d) (q := 32) 5 rfl (by omega) (by omega) (by omega) (by omega) (by omega)
 have o2 := dG Tryd.prog 71 false (x := 4177526784 + d) (v := n) (p := 32) (q := 32) 5 5 rfl rfl (by omega) (by omega) (by omega) (by omega) (by omega)
 have o3 := dG Tryd.prog 71 false (x := 4177526784 + d + n * 32) (v := m) (p := 65536) (q := 1) 16 0 rfl rfl (by omega) (by omega) (by omega) (by omega) (by omega)
 have t1 := cW Tryd.prog 71 true (v := imm) (p := 1024) (b := 10) 10 rfl (by decide) rfl (by omega) (by omega)
 have t2 := dG Tryd.prog 71 false (x := 4177526784 + d + n * 32 + m * 65536) (v := imm) (p := 1024) (q := 4096) 10 12 rfl rfl (by omega) (by omega) (by omega) (by omega) (by omega)
 have ew : cS ⟨19, d, n, m, a, imm⟩ = 4177526784 + d + n * 32 + m * 65536 + imm * 1024 := rfl
 rw [ew]
 simp only [iT, aO, Int.reduceEq, if_true, if_false, ↓reduceIte] at r2 r3
 clear ew
 rw [aH.step]
 unfold aH.c
 refine eO ?_
 have fx := aPt r1 <| aPt r2 <| aPt r3 <| aPt c1 <| aPt c2 <| aPt c3 <| aPt s1 <| aPt s2 <| aPt o1 <| aPt o2 <| aPt o3 <| aPt t1 <| t2
 refine gI ?_
 all_goals first | exact nN rfl rfl | (refine nN ?_ rfl; omega)
theorem aIZ (G : aG) (k : Nat) (d n m a imm : Int) (h : aU ⟨20, d, n, m, a, imm⟩ = true) : aH.f G (k + 6) [mV 20 d n m a imm] [] = some (.tup [dF (cS ⟨20, d, n, m, a, imm⟩), .bool true], []) := by
 have r1 : ∀ H, aE (aT.f G (k + 5)) [mV 20 d n m a imm] H = _ := fun H => aD (H := H) (fE G k 20 d n m a imm) rfl rfl
 have r2 : ∀ H, aE (aM.f G (k + 5)) [.int .i64 20] H = _ := fun H => aD (H := H) (fO G (k + 1) 20) rfl rfl
 have r3 : ∀ H, aE (aZ.f G (k + 5)) [.int .i64 20] H = _ := fun H => aD (H := H) (fX G (k + 4) 20 (by decide)) rfl rfl
 rw [h] at r1
 unfold aU at h
 rw [Bool.and_eq_true] at h
 obtain ⟨_, h⟩ := h
 simp [aO, eQ, gC, dL, gL, eU, dM] at h
 have c1 : aJ .u32 (I6 d) = some (dF d) := bD (by omega) (by omega)
 have c2 : aJ .u32 (I6 n) = some (dF n) := bD (by omega) (by omega)
 have c3 : aJ .u32 (I6 m) = some (dF m) := bD (by omega) (by omega)
 have s1 := cW Tryd.prog 71 true (v := n) (p := 32) (b := 5) 5 rfl (by decide) rfl (by omega) (by omega)
 have s2 := cW Tryd.prog 71 true (v := m) (p := 65536) (b := 16) 16 rfl (by decide) rfl (by omega) (by omega)
 have o1 := gT Tryd.prog 71 false (x := 335544320) (v := d) (q := 1) 0 rfl (by omega) (by omega) (by omega) (by omega) (by omega)
 have o2 := dG Tryd.prog 71 false (x := 335544320 + d) (v := n) (p := 32) (q := 1) 5 0 rfl rfl (by omega) (by omega) (by omega) (by omega) (by omega)
 have o3 := dG Tryd.prog 71 false (x := 335544320 + d + n * 32) (v := m) (p := 65536) (q := 1) 16 0 rfl rfl (by omega) (by omega) (by omega) (by omega) (by omega)
 have t1 : aQ Tryd.prog .and 71 true (dF (imm % 4294967296)) (.int .u32 67108863) = some (dF (imm % 67108864)) := by
  have := jC Tryd.prog 71 true (x := imm % 4294967296) (q := 67108863) 26 (by decide) rfl (by omega) (by omega)
  rw [this]; congr 2; omega
 have t2 := gT Tryd.prog 71 false (x := 335544320 + d + n * 32 + m * 65536) (v := (imm % 67108864)) (q := 67108864) 26 rfl (by omega) (by omega) (by omega) (by omega) (by omega)
 have ew : cS ⟨20, d, n, m, a, imm⟩ = 335544320 + d + n * 32 + m * 65536 + imm % 67108864 := rfl
 rw [ew]
 simp only [iT, aO, Int.reduceEq, if_true, if_false, ↓reduceIte] at r2 r3
 clear ew
 rw [aH.step]
 unfold aH.c
 refine eO ?_
 have fx := aPt r1 <| aPt r2 <| aPt r3 <| aPt c1 <| aPt c2 <| aPt c3 <| aPt s1 <| aPt s2 <| aPt o1 <| aPt o2 <| aPt o3 <| aPt cvM <| aPt t1 <| t2
 refine gI ?_
 all_goals first | exact nN rfl rfl | (refine nN ?_ rfl; omega)
theorem aJa (G : aG) (k : Nat) (d n m a imm : Int) (h : aU ⟨21, d, n, m, a, imm⟩ = true) : aH.f G (k + 6) [mV 21 d n m a imm] [] = some (.tup [dF (cS ⟨21, d, n, m, a, imm⟩), .bool true], []) := by
 have r1 : ∀ H, aE (aT.f G (k + 5)) [mV 21 d n m a imm] H = _ := fun H => aD (H := H) (fE G k 21 d n m a imm) rfl rfl
 have r2 : ∀ H, aE (aM.f G (k + 5)) [.int .i64 21] H = _ := fun H => aD (H := H) (fO G (k + 1) 21) rfl rfl
 have r3 : ∀ H, aE (aZ.f G (k + 5)) [.int .i64 21] H = _ := fun H => aD (H := H) (fX G (k + 4) 21 (by decide)) rfl rfl
 rw [h] at r1
 unfold aU at h
 rw [Bool.and_eq_true] at h
 obtain ⟨_, h⟩ := h
 simp [aO, eQ, gC, dL, gL, eU, dM] at h
 have c1 : aJ .u32 (I6 d) = some (dF d) := bD (by omega) (by omega)
 have c2 : aJ .u32 (I6 n) = some (dF n) := bD (by omega) (by omega)
 have c3 : aJ .u32 (I6 m) = some (dF m) := bD (by omega) (by omega)
 have s1 := cW Tryd.prog 71 true (v := n) (p := 32) (b := 5) 5 rfl (by decide) rfl (by omega) (by omega)
 have s2 := cW Tryd.prog 71 true (v := m) (p := 65536) (b := 16) 16 rfl (by decide) rfl (by omega) (by omega)
 have o1 := gT Tryd.prog 71 false (x := 1409286144) (v := d) (q := 1) 0 rfl (by omega) (by omega) (by omega) (by omega) (by omega)
 have o2 := dG Tryd.prog 71 false (x := 1409286144 + d) (v := n) (p := 32) (q := 1) 5 0 rfl rfl (by omega) (by omega) (by omega) (by omega) (by omega)
 have o3 := dG Tryd.prog 71 false (x := 1409286144 + d + n * 32) (v := m) (p := 65536) (q := 1) 16 0 rfl rfl (by omega) (by omega) (by omega) (by omega) (by omega)
 have t0 : aJ .u32 (I6 a) = some (dF a) := bD (by omega) (by omega)
 have t1 := gT Tryd.prog 71 false (x := 1409286144 + d + n * 32 + m * 65536) (v := a) (q := 16) 4 rfl (by omega) (by omega) (by omega) (by omega) (by omega)
 have t2 : aQ Tryd.prog .and 71 true (dF (imm % 4294967296)) (.int .u32 524287) = some (dF (imm % 524288)) := by
  have := jC Tryd.prog 71 true (x := imm % 4294967296) (q := 524287) 19 (by decide) rfl (by omega) (by omega)
  rw [this]; congr 2; omega
 have t3 := cW Tryd.prog 71 true (v := (imm % 524288)) (p := 32) (b := 5) 5 rfl (by decide) rfl (by omega) (by omega)
 have t4 := dG Tryd.prog 71 false (x := 1409286144 + d + n * 32 + m * 65536 + a) (v := (imm % 524288)) (p := 32) (q := 524288) 5 19 rfl rfl (by omega) (by omega) (by omega) (by omega) (by omega)
 have ew : cS ⟨21, d, n, m, a, imm⟩ = 1409286144 + d + n * 32 + m * 65536 + (a + imm % 524288 * 32) := rfl
 rw [ew]
 simp only [iT, aO, Int.reduceEq, if_true, if_false, ↓reduceIte] at r2 r3
 clear ew
 rw [aH.step]
 unfold aH.c
 refine eO ?_
 have fx := aPt r1 <| aPt r2 <| aPt r3 <| aPt c1 <| aPt c2 <| aPt c3 <| aPt s1 <| aPt s2 <| aPt o1 <| aPt o2 <| aPt o3 <| aPt t0 <| aPt cvM <| aPt t1 <| aPt t2 <| aPt t3 <| t4
 refine gI ?_
 all_goals first | exact nN rfl rfl | (refine nN ?_ rfl; omega)
theorem aJb (G : aG) (k : Nat) (d n m a imm : Int) (h : aU ⟨22, d, n, m, a, imm⟩ = true) : aH.f G (k + 6) [mV 22 d n m a imm] [] = some (.tup [dF (cS ⟨22, d, n, m, a, imm⟩), .bool true], []) := by
 have r1 : ∀ H, aE (aT.f G (k + 5)) [mV 22 d n m a imm] H = _ := fun H => aD (H := H) (fE G k 22 d n m a imm) rfl rfl
 have r2 : ∀ H, aE (aM.f G (k + 5)) [.int .i64 22] H = _ := fun H => aD (H := H) (fO G (k + 1) 22) rfl rfl
 have r3 : ∀ H, aE (aZ.f G (k + 5)) [.int .i64 22] H = _ := fun H => aD (H := H) (fX G (k + 4) 22 (by decide)) rfl rfl
 rw [h] at r1
 unfold aU at h
 rw [Bool.and_eq_true] at h
 obtain ⟨_, h⟩ := h
 simp [aO, eQ, gC, dL, gL, eU, dM] at h
 have c1 : aJ .u32 (I6 d) = some (dF d) := bD (by omega) (by omega)
 have c2 : aJ .u32 (I6 n) = some (dF n) := bD (by omega) (by omega)
 have c3 : aJ .u32 (I6 m) = some (dF m) := bD (by omega) (by omega)
 have s1 := cW Tryd.prog 71 true (v := n) (p := 32) (b := 5) 5 rfl (by decide) rfl (by omega) (by omega)
 have s2 := cW Tryd.prog 71 true (v := m) (p := 65536) (b := 16) 16 rfl (by decide) rfl (by omega) (by omega)
 have o1 := gT Tryd.prog 71 false (x := 3019898880) (v := d) (q := 32) 5 rfl (by omega) (by omega) (by omega) (by omega) (by omega)
 have o2 := dG Tryd.prog 71 false (x := 3019898880 + d) (v := n) (p := 32) (q := 1) 5 0 rfl rfl (by omega) (by omega) (by omega) (by omega) (by omega)
 have o3 := dG Tryd.prog 71 false (x := 3019898880 + d + n * 32) (v := m) (p := 65536) (q := 1) 16 0 rfl rfl (by omega) (by omega) (by omega) (by omega) (by omega)
 have t2 : aQ Tryd.prog .and 71 true (dF (imm % 4294967296)) (.int .u32 524287) = some (dF (imm % 524288)) := by
  have := jC Tryd.prog 71 true (x := imm % 4294967296) (q := 524287) 19 (by decide) rfl (by omega) (by omega)
  rw [this]; congr 2; omega
 have t3 := cW Tryd.prog 71 true (v := (imm % 524288)) (p := 32) (b := 5) 5 rfl (by decide) rfl (by omega) (by omega)
 have t4 := dG Tryd.prog 71 false (x := 3019898880 + d + n * 32 + m * 65536) (v := (imm % 524288)) (p := 32) (q := 524288) 5 19 rfl rfl (by omega) (by omega) (by omega) (by omega) (by omega)
 have ew : cS ⟨22, d, n, m, a, imm⟩ = 3019898880 + d + n * 32 + m * 65536 + imm % 524288 * 32 := rfl
 rw [ew]
 simp only [iT, aO, Int.reduceEq, if_true, if_false, ↓reduceIte] at r2 r3
 clear ew
 rw [aH.step]
 unfold aH.c
 refine eO ?_
 have fx := aPt r1 <| aPt r2 <| aPt r3 <| aPt c1 <| aPt c2 <| aPt c3 <| aPt s1 <| aPt s2 <| aPt o1 <| aPt o2 <| aPt o3 <| aPt cvM <| aPt t2 <| aPt t3 <| t4
 refine gI ?_
 all_goals first | exact nN rfl rfl | (refine nN ?_ rfl; omega)
theorem aJc (G : aG) (k : Nat) (d n m a imm : Int) (h : aU ⟨23, d, n, m, a, imm⟩ = true) : aH.f G (k + 6) [mV 23 d n m a imm] [] = some (.tup [dF (cS ⟨23, d, n, m, a, imm⟩), .bool true], []) := by
 have r1 : ∀ H, aE (aT.f G (k + 5)) [mV 23 d n m a imm] H = _ := fun H => aD (H := H) (fE G k 23 d n m a imm) rfl rfl
 have r2 : ∀ H, aE (aM.f G (k + 5)) [.int .i64 23] H = _ := fun H => aD (H := H) (fO G (k + 1) 23) rfl rfl
 have r3 : ∀ H, aE (aZ.f G (k + 5)) [.int .i64 23] H = _ := fun H => aD (H := H) (fX G (k + 4) 23 (by decide)) rfl rfl
 rw [h] at r1
 unfold aU at h
 rw [Bool.and_eq_true] at h
 obtain ⟨_, h⟩ := h
 simp [aO, eQ, gC, dL, gL, eU, dM] at h
 have c1 : aJ .u32 (I6 d) = some (dF d) := bD (by omega) (by omega)
 have c2 : aJ .u32 (I6 n) = some (dF n) := bD (by omega) (by omega)
 have c3 : aJ .u32 (I6 m) = some (dF m) := bD (by omega) (by omega)
 have s1 := cW Tryd.prog 71 true (v := n) (p := 32) (b := 5) 5 rfl (by decide) rfl (by omega) (by omega)
 have s2 := cW Tryd.prog 71 true (v := m) (p := 65536) (b := 16) 16 rfl (by decide) rfl (by omega) (by omega)
 have o1 := gT Tryd.prog 71 false (x := 3036676096) (v := d) (q := 32) 5 rfl (by omega) (by omega) (by omega) (by omega) (by omega)
 have o2 := dG Tryd.prog 71 false (x := 3036676096 + d) (v := n) (p := 32) (q := 1) 5 0 rfl rfl (by omega) (by omega) (by omega) (by omega) (by omega)
 have o3 := dG Tryd.prog 71 false (x := 3036676096 + d + n * 32) (v := m) (p := 65536) (q := 1) 16 0 rfl rfl (by omega) (by omega) (by omega) (by omega) (by omega)
 have t2 : aQ Tryd.prog .and 71 true (dF (imm % 4294967296)) (.int .u32 524287) = some (dF (imm % 524288)) := by
  have := jC Tryd.prog 71 true (x := imm % 4294967296) (q := 524287) 19 (by decide) rfl (by omega) (by omega)
  rw [this]; congr 2; omega
 have t3 := cW Tryd.prog 71 true (v := (imm % 524288)) (p := 32) (b := 5) 5 rfl (by decide) rfl (by omega) (by omega)
 have t4 := dG Tryd.prog 71 false (x := 3036676096 + d + n * 32 + m * 65536) (v := (imm % 524288)) (p := 32) (q := 524288) 5 19 rfl rfl (by omega) (by omega) (by omega) (by omega) (by omega)
 have ew : cS ⟨23, d, n, m, a, imm⟩ = 3036676096 + d + n * 32 + m * 65536 + imm % 524288 * 32 := rfl
 rw [ew]
 simp only [iT, aO, Int.reduceEq, if_true, if_false, ↓reduceIte] at r2 r3
 clear ew
 rw [aH.step]
 unfold aH.c
 refine eO ?_
 have fx := aPt r1 <| aPt r2 <| aPt r3 <| aPt c1 <| aPt c2 <| aPt c3 <| aPt s1 <| aPt s2 <| aPt o1 <| aPt o2 <| aPt o3 <| aPt cvM <| aPt t2 <| aPt t3 <| t4
 refine gI ?_
 all_goals first | exact nN rfl rfl | (refine nN ?_ rfl; omega)
theorem aJd (G : aG) (k : Nat) (d n m a imm : Int) (h : aU ⟨24, d, n, m, a, imm⟩ = true) : aH.f G (k + 6) [mV 24 d n m a imm] [] = some (.tup [dF (cS ⟨24, d, n, m, a, imm⟩), .bool true], []) := by
 have r1 : ∀ H, aE (aT.f G (k + 5)) [mV 24 d n m a imm] H = _ := fun H => aD (H := H) (fE G k 24 d n m a imm) rfl rfl
 have r2 : ∀ H, aE (aM.f G (k + 5)) [.int .i64 24] H = _ := fun H => aD (H := H) (fO G (k + 1) 24) rfl rfl
 have r3 : ∀ H, aE (aZ.f G (k + 5)) [.int .i64 24] H = _ := fun H => aD (H := H) (fX G (k + 4) 24 (by decide)) rfl rfl
 rw [h] at r1
 unfold aU at h
 rw [Bool.and_eq_true] at h
 obtain ⟨_, h⟩ := h
 simp [aO, eQ, gC, dL, gL, eU, dM] at h
 have c1 : aJ .u32 (I6 d) = some (dF d) := bD (by omega) (by omega)
 have c2 : aJ .u32 (I6 n) = some (dF n) := bD (by omega) (by omega)
 have c3 : aJ .u32 (I6 m) = some (dF m) := bD (by omega) (by omega)
 have s1 := cW Tryd.prog 71 true (v := n) (p := 32) (b := 5) 5 rfl (by decide) rfl (by omega) (by omega)
 have s2 := cW Tryd.prog 71 true (v := m) (p := 65536) (b := 16) 16 rfl (by decide) rfl (by omega) (by omega)
 have o1 := gT Tryd.prog 71 false (x := 3560964096) (v := d) (q := 1) 0 rfl (by omega) (by omega) (by omega) (by omega) (by omega)
 have o2 := dG Tryd.prog 71 false (x := 3560964096 + d) (v := n) (p := 32) (q := 1) 5 0 rfl rfl (by omega) (by omega) (by omega) (by omega) (by omega)
 have o3 := dG Tryd.prog 71 false (x := 3560964096 + d + n * 32) (v := m) (p := 65536) (q := 1) 16 0 rfl rfl (by omega) (by omega) (by omega) (by omega) (by omega)
 have t1 := cW Tryd.prog 71 true (v := imm) (p := 32) (b := 5) 5 rfl (by decide) rfl (by omega) (by omega)
 have t2 := dG Tryd.prog 71 false (x := 3560964096 + d + n * 32 + m * 65536) (v := imm) (p := 32) (q := 65536) 5 16 rfl rfl (by omega) (by omega) (by omega) (by omega) (by omega)
 have ew : cS ⟨24, d, n, m, a, imm⟩ = 3560964096 + d + n * 32 + m * 65536 + imm * 32 := rfl
 rw [ew]
 simp only [iT, aO, Int.reduceEq, if_true, if_false, ↓reduceIte] at r2 r3
 clear ew
 rw [aH.step]
 unfold aH.c
 refine eO ?_
 have fx := aPt r1 <| aPt r2 <| aPt r3 <| aPt c1 <| aPt c2 <| aPt c3 <| aPt s1 <| aPt s2 <| aPt o1 <| aPt o2 <| aPt o3 <| aPt t1 <| t2
 refine gI ?_
 all_goals first | exact nN rfl rfl | (refine nN ?_ rfl; omega)
theorem gR (G : aG) (k : Nat) (i : MI) : aH.f G (k + 6) [i.v] [] = some (.tup [dF (oO i), .bool (aU i)], []) := by
 cases hr : aU i
 ·have e : oO i = 0 := by unfold oO; rw [hr]; rfl
  rw [e]
  obtain ⟨op, d, n, m, a, imm⟩ := i
  show aH.f G (k + 6) [mV op d n m a imm] [] = _
  have r1 : ∀ H, aE (aT.f G (k + 5)) [mV op d n m a imm] H = _ := fun H => aD (H := H) (fE G k op d n m a imm) rfl rfl
  rw [hr] at r1
  rw [aH.step]
  unfold aH.c
  refine eO ?_
  have fx := r1
  refine gI ?_
  exact w2 rfl rfl rfl
 ·have e : oO i = cS i := by unfold oO; rw [hr]; rfl
  rw [e]
  obtain ⟨op, d, n, m, a, imm⟩ := i
  show aH.f G (k + 6) [mV op d n m a imm] [] = _
  have h24 : 1 ≤ op ∧ op ≤ 24 := qF hr
  rcases yF h24 with rfl | rfl | rfl | rfl | rfl | rfl | rfl | rfl | rfl | rfl | rfl | rfl | rfl | rfl | rfl | rfl | rfl | rfl | rfl | rfl | rfl | rfl | rfl | rfl
  ·exact aKw G k d n m a imm hr
  ·exact aKx G k d n m a imm hr
  ·exact aKy G k d n m a imm hr
  ·exact aKz G k d n m a imm hr
  ·exact aKA G k d n m a imm hr
  ·exact aKB G k d n m a imm hr
  ·exact aKC G k d n m a imm hr
  ·exact aKD G k d n m a imm hr
  ·exact aKE G k d n m a imm hr
  ·exact aIP G k d n m a imm hr
  ·exact aIQ G k d n m a imm hr
  ·exact aIR G k d n m a imm hr
  ·exact aIS G k d n m a imm hr
  ·exact aIT G k d n m a imm hr
  ·exact aIU G k d n m a imm hr
  ·exact aIV G k d n m a imm hr
  ·exact aIW G k d n m a imm hr
  ·exact aIX G k d n m a imm hr
  ·exact aIY G k d n m a imm hr
  ·exact aIZ G k d n m a imm hr
  ·exact aJa G k d n m a imm hr
  ·exact aJb G k d n m a imm hr
  ·exact aJc G k d n m a imm hr
  ·exact aJd G k d n m a imm hr
theorem vJ (G : aG) (k : Nat) (w b h : Int) (hb : (b = 19 ∧ h = 262144) ∨ (b = 26 ∧ h = 33554432)) (h0 : 0 ≤ w) (h1 : w < 4294967296) : bO.f G (k + 1) [dF w, I6 b] [] = some (I6 (aFe (w % (2 * h)) h), []) := by
 rw [bO.step]
 unfold bO.c aFe
 obtain ⟨s1, s2, s3, s4, s5, s6, s7⟩ : aJ .u64 (I6 b) = some (.int .u64 b) ∧ aQ Tryd.prog .shl 71 true (.int .u32 1) (.int .u64 b) = some (dF (2 * h)) ∧ aQ Tryd.prog .sub 71 true (dF (2 * h)) (.int .u32 1) = some (dF (2 * h - 1)) ∧ aQ Tryd.prog .sub 3 true (I6 b) (.int .i64 1) = some (I6 (b - 1)) ∧
   aJ .u64 (I6 (b - 1)) = some (.int .u64 (b - 1)) ∧ aQ Tryd.prog .shl 3 true (.int .i64 1) (.int .u64 (b - 1)) = some (I6 h) ∧ aQ Tryd.prog .shl 3 true (.int .i64 1) (.int .u64 b) = some (I6 (2 * h)) := by
  clear h0 h1
  rcases hb with ⟨rfl, rfl⟩ | ⟨rfl, rfl⟩
  ·exact ⟨by kernel_rfl, by kernel_rfl, by kernel_rfl, by kernel_rfl, by kernel_rfl, by kernel_rfl, by kernel_rfl⟩
  ·exact ⟨by kernel_rfl, by kernel_rfl, by kernel_rfl, by kernel_rfl, by kernel_rfl, by kernel_rfl, by kernel_rfl⟩
 have s8 : aQ Tryd.prog .and 71 false (dF w) (dF (2 * h - 1)) = some (dF (w % (2 * h))) := by
  rcases hb with ⟨rfl, rfl⟩ | ⟨rfl, rfl⟩
  ·exact jC Tryd.prog 71 false (x := w) (q := 524287) 19 (by decide) rfl h0 h1
  ·exact jC Tryd.prog 71 false (x := w) (q := 67108863) 26 (by decide) rfl h0 h1
 have m0 : 0 ≤ w % (2 * h) := Int.emod_nonneg _ (by omega)
 have m1 : w % (2 * h) < 2 * h := Int.emod_lt_of_pos _ (by omega)
 have hh : 0 ≤ h ∧ h ≤ 33554432 := by omega
 clear hb
 generalize w % (2 * h) = z at *
 refine eO ?_
 by_cases hc : h ≤ z
 ·rw [if_pos hc]
  have fx := aPt s1 <| aPt s2 <| aPt s3 <| aPt s4 <| aPt s5 <| aPt s6 <| aPt s7 <| s8
  refine gI ?_
  exact tP rfl
 ·rw [if_neg hc]
  have fx := aPt s1 <| aPt s2 <| aPt s3 <| aPt s4 <| aPt s5 <| aPt s6 <| aPt s7 <| s8
  refine gI ?_
  exact tP rfl
def nS (op w : Int) : MI := if op = 12 then ⟨12, w % 32, w / 32 % 32, 0, 0, (64 - w / 65536 % 64) % 64⟩ else asF op w
def vH (op w : Int) : Bool := aU (nS op w) && decide (cS (nS op w) = w)
def aDT (op w : Int) : AV := if vH op w = true then .tup [(nS op w).v, .bool true] else .tup [mV 0 0 0 0 0 0, .bool false]
theorem aDU (G : aG) (k : Nat) (op w : Int) (hop : 1 ≤ op ∧ op ≤ 24) (h0 : 0 ≤ w) (h1 : w < 4294967296) : cT.f G (k + 7) [I6 op, dF w] [] = some (aDT op w, []) := by
 rw [cT.step]
 unfold cT.c
 have r1 : ∀ H, aE (aM.f G (k + 6)) [I6 op] H = _ := fun H => aD (H := H) (fO G (k + 2) op) rfl rfl
 have r3 : ∀ H, aE (aH.f G (k + 6)) [(nS op w).v] H = _ := fun H => aD (H := H) (gR G k (nS op w)) rfl rfl
 have r4 : aU (nS op w) = true → oO (nS op w) = cS (nS op w) := fun h => by unfold oO; rw [if_pos h]
 have d1 : 0 ≤ w / 32 ∧ w / 32 < 4294967296 := by omega
 have g19 : ∀ H, aE (bO.f G (k + 6)) [dF (w / 32), .int .i64 19] H = some (I6 (aFe (w / 32 % 524288) 262144), H) := fun H => aD (H := H) (vJ G (k + 5) (w / 32) 19 262144 (.inl ⟨rfl, rfl⟩) d1.1 d1.2) rfl rfl
 have g26 : ∀ H, aE (bO.f G (k + 6)) [dF w, .int .i64 26] H = some (I6 (aFe (w % 67108864) 33554432), H) := fun H => aD (H := H) (vJ G (k + 5) w 26 33554432 (.inr ⟨rfl, rfl⟩) h0 h1) rfl rfl
 have s5 := aEb Tryd.prog 71 true .u64 (v := w) (p := 32) (b := 5) 5 rfl (by decide) rfl h0
 have s10 := aEb Tryd.prog 71 true .u64 (v := w) (p := 1024) (b := 10) 10 rfl (by decide) rfl h0
 have s12 := aEb Tryd.prog 71 true .u64 (v := w) (p := 4096) (b := 12) 12 rfl (by decide) rfl h0
 have s16 := aEb Tryd.prog 71 true .u64 (v := w) (p := 65536) (b := 16) 16 rfl (by decide) rfl h0
 have s21 := aEb Tryd.prog 71 true .u64 (v := w) (p := 2097152) (b := 21) 21 rfl (by decide) rfl h0
 have a0 : aQ Tryd.prog .and 71 true (dF w) (.int .u32 31) = some (dF (w % 32)) := jC _ _ _ (x := w) (q := 31) 5 (by decide) rfl (by omega) (by omega)
 have a5 : aQ Tryd.prog .and 71 true (dF (w / 32)) (.int .u32 31) = some (dF (w / 32 % 32)) := jC _ _ _ (x := w / 32) (q := 31) 5 (by decide) rfl (by omega) (by omega)
 have a16 : aQ Tryd.prog .and 71 true (dF (w / 65536)) (.int .u32 31) = some (dF (w / 65536 % 32)) := jC _ _ _ (x := w / 65536) (q := 31) 5 (by decide) rfl (by omega) (by omega)
 have a21 : aQ Tryd.prog .and 71 true (dF (w / 2097152)) (.int .u32 3) = some (dF (w / 2097152 % 4)) := jC _ _ _ (x := w / 2097152) (q := 3) 2 (by decide) rfl (by omega) (by omega)
 have a10 : aQ Tryd.prog .and 71 true (dF (w / 1024)) (.int .u32 31) = some (dF (w / 1024 % 32)) := jC _ _ _ (x := w / 1024) (q := 31) 5 (by decide) rfl (by omega) (by omega)
 have a12 : aQ Tryd.prog .and 71 true (dF (w / 4096)) (.int .u32 15) = some (dF (w / 4096 % 16)) := jC _ _ _ (x := w / 4096) (q := 15) 4 (by decide) rfl (by omega) (by omega)
 have a4 : aQ Tryd.prog .and 71 true (dF w) (.int .u32 15) = some (dF (w % 16)) := jC _ _ _ (x := w) (q := 15) 4 (by decide) rfl (by omega) (by omega)
 have b16 : aQ Tryd.prog .and 71 true (dF (w / 65536)) (.int .u32 63) = some (dF (w / 65536 % 64)) := jC _ _ _ (x := w / 65536) (q := 63) 6 (by decide) rfl (by omega) (by omega)
 have b10 : aQ Tryd.prog .and 71 true (dF (w / 1024)) (.int .u32 4095) = some (dF (w / 1024 % 4096)) := jC _ _ _ (x := w / 1024) (q := 4095) 12 (by decide) rfl (by omega) (by omega)
 have b5 : aQ Tryd.prog .and 71 true (dF (w / 32)) (.int .u32 65535) = some (dF (w / 32 % 65536)) := jC _ _ _ (x := w / 32) (q := 65535) 16 (by decide) rfl (by omega) (by omega)
 have x1 := aLN Tryd.prog 3 true (a := w / 4096 % 16) (by omega) (by omega)
 have l1 : aQ Tryd.prog .sub 3 true (.int .i64 64) (I6 (w / 65536 % 64)) = some (I6 (64 - w / 65536 % 64)) := aIB (by omega) (by omega)
 have l2 : aQ Tryd.prog .rem 3 true (I6 (64 - w / 65536 % 64)) (.int .i64 64) = some (I6 ((64 - w / 65536 % 64) % 64)) := by
  rw [aBV _ _ _ _ _ _ (by decide), Int.tmod_eq_emod_of_nonneg (by omega)]
 unfold aDT vH
 generalize oO (nS op w) = zr at *
 generalize cS (nS op w) = zf at *
 generalize aU (nS op w) = b at *
 clear d1
 refine eO ?_
 rcases yF hop with rfl | rfl | rfl | rfl | rfl | rfl | rfl | rfl | rfl | rfl | rfl | rfl | rfl | rfl | rfl | rfl | rfl | rfl | rfl | rfl | rfl | rfl | rfl | rfl
 all_goals (
  clear hop
  simp only [iT, aO, Int.reduceEq, if_true, if_false, ↓reduceIte] at r1
  simp only [nS, asF, aO, exA, exI, MI.v, Int.reduceEq, or_false, false_or, or_self, true_or, or_true, if_true, if_false, ↓reduceIte, Bool.false_eq_true] at r3 ⊢
  cases b
  ·simp only [Bool.false_and, Bool.false_eq_true, if_false, ↓reduceIte]
   have fx := aPt r1 <| aPt r3 <| aPt g19 <| aPt g26 <| aPt s5 <| aPt s10 <| aPt s12 <| aPt s16 <| aPt s21 <| aPt a0 <| aPt a5 <| aPt a16 <| aPt a21 <| aPt a10 <| aPt a12 <| aPt a4 <| aPt b16 <| aPt b10 <| aPt b5 <| aPt x1 <| aPt l1 <| l2
   refine kN ?_
   exact oF (pL rfl rfl rfl)
  ·have r4 := r4 rfl
   subst r4
   by_cases hz : zr = w
   ·rw [decide_eq_true hz]
    simp only [Bool.and_self, ↓reduceIte]
    have fx := aPt r1 <| aPt r3 <| aPt g19 <| aPt g26 <| aPt s5 <| aPt s10 <| aPt s12 <| aPt s16 <| aPt s21 <| aPt a0 <| aPt a5 <| aPt a16 <| aPt a21 <| aPt a10 <| aPt a12 <| aPt a4 <| aPt b16 <| aPt b10 <| aPt b5 <| aPt x1 <| aPt l1 <| l2
    refine kN ?_
    exact oF (pL rfl rfl rfl)
   ·rw [decide_eq_false hz]
    simp only [Bool.and_false, Bool.false_eq_true, ↓reduceIte]
    have fx := aPt r1 <| aPt r3 <| aPt g19 <| aPt g26 <| aPt s5 <| aPt s10 <| aPt s12 <| aPt s16 <| aPt s21 <| aPt a0 <| aPt a5 <| aPt a16 <| aPt a21 <| aPt a10 <| aPt a12 <| aPt a4 <| aPt b16 <| aPt b10 <| aPt b5 <| aPt x1 <| aPt l1 <| l2
    refine kN ?_
    exact oF (pL rfl rfl rfl))
def nK : Nat → Int → Int → Option MI
 | 0, _, _ => none
 | d + 1, op, w => if op ≠ 12 ∧ vH op w = true then some (nS op w) else nK d (op + 1) w
def aMM (w : Int) : Option MI := match nK 24 1 w with
 | some i => some i
 | none => if vH 12 w = true then some (nS 12 w) else none
theorem aEV {op w : Int} (h : op ≠ 12) : nS op w = asF op w := by unfold nS; rw [if_neg h]
theorem aGk {op w : Int} (h : op ≠ 12) : vH op w = okB op w := by
 unfold vH okB asB
 rw [aEV h, decide_eq_true h]
 simp
theorem aAq : ∀ {d : Nat} {op w : Int} {i : MI}, nK d op w = some i → ∃ o, o ≠ 12 ∧ okB o w = true ∧ i = asF o w ∧ op ≤ o ∧ o < op + d
 | 0, op, w, i, h => by cases h
 | d + 1, op, w, i, h => by
  unfold nK at h
  by_cases hk : op ≠ 12 ∧ vH op w = true
  ·rw [if_pos hk] at h
   simp at h
   exact ⟨op, hk.1, by rw [← aGk hk.1]; exact hk.2, by rw [← aEV hk.1]; exact h.symm, by omega, by omega⟩
  ·rw [if_neg hk] at h
   obtain ⟨o, h0, h1, h2, h3, h4⟩ := aAq h
   exact ⟨o, h0, h1, h2, by omega, by omega⟩
theorem aAp : ∀ {d : Nat} {op w : Int}, nK d op w = none → ∀ o : Int, o ≠ 12 → op ≤ o → o < op + d → okB o w = false
 | 0, op, w, _, o, _, h1, h2 => by omega
 | d + 1, op, w, h, o, h0, h1, h2 => by
  unfold nK at h
  by_cases hk : op ≠ 12 ∧ vH op w = true
  ·rw [if_pos hk] at h; cases h
  ·rw [if_neg hk] at h
   by_cases ho : o = op
   ·subst ho
    rw [aGk h0] at hk
    simpa [h0] using hk
   ·exact aAp h o h0 (by omega) (by omega)
theorem aJL {d : Nat} {w : Int} {i : MI} (h : nK d 1 w = some i) : ofF w = some i := by
 obtain ⟨o, h0, h1, rfl, _, _⟩ := aAq h
 obtain ⟨⟨h2, h3⟩, h4⟩ := uY.1 h1
 exact aEO.2 ⟨h2, h3, h4⟩
theorem aKm (w : Int) : aMM w = ofF w := by
 unfold aMM
 cases hr : nK 24 1 w with
 | some i => exact (aJL hr).symm
 | none =>
  simp only
  have hn := aAp hr
  cases hq : ofF w with
  | some i =>
   obtain ⟨h1, h2, h3⟩ := aCo hq
   have h24 := qF h1
   have hop : i.op = 12 := by
    apply Classical.byContradiction
    intro hne
    have h4 := hn i.op hne h24.1 (by omega)
    have hk : okB i.op w = true := by
     subst h2
     rw [uY, (rM h1).2.2.1]
     exact ⟨⟨h1, rfl⟩, h3⟩
    rw [hk] at h4; cases h4
   have e : nS 12 w = i := by
    obtain ⟨op, d, n, m, a, imm⟩ := i
    simp only at hop; subst hop
    unfold aU at h1
    rw [Bool.and_eq_true] at h1
    obtain ⟨_, h1⟩ := h1
    simp [aO, eQ, gC, dL, gL, eU, dM] at h1
    have h2' : w = 3544186880 + d + n * 32 + m * 65536 + ((64 - imm) % 64 * 65536 + (63 - imm) * 1024) := h2.symm
    have hi : imm ≠ 0 := fun h => h3 ⟨rfl, h⟩
    have e64 : (64 - imm) % 64 = 64 - imm := by omega
    rw [e64] at h2'
    clear h2
    have e65 : w / 65536 = 54144 - imm := by omega
    simp [nS]
    refine ⟨?_, ?_, ?_, ?_, ?_⟩ <;> omega
   have hb : vH 12 w = true := by
    unfold vH
    rw [e, h1, h2]; simp
   rw [if_pos hb, e]
  | none =>
   by_cases hb : vH 12 w = true
   ·exfalso
    have hb' := hb
    unfold vH at hb'
    rw [Bool.and_eq_true] at hb'
    obtain ⟨h1, h2⟩ := hb'
    have h2 := of_decide_eq_true h2
    by_cases hs : (nS 12 w).imm = 0
    ·obtain ⟨i, hi⟩ : ∃ i, i = nS 12 w := ⟨_, rfl⟩
     rw [← hi] at h1 h2 hs
     have ho : i.op = 12 := by rw [hi]; rfl
     obtain ⟨op, d, n, m, a, imm⟩ := i
     simp only at ho hs; subst ho; subst hs
     have e1 : aU ⟨13, d, n, m, a, 0⟩ = true := by
      have : aU ⟨13, d, n, m, a, 0⟩ = aU ⟨12, d, n, m, a, 0⟩ := rfl
      rw [this]; exact h1
     have e2 : cS ⟨13, d, n, m, a, 0⟩ = w := by
      rw [← h2]; rfl
     have := aEO.2 ⟨e1, e2, by simp⟩
     rw [hq] at this; cases this
    ·have := aEO.2 ⟨h1, h2, fun h => hs h.2⟩
     rw [hq] at this; cases this
   ·rw [if_neg hb]
theorem aDX (G : aG) (k : Nat) (self : dA) (w : Int) (h0 : 0 ≤ w) (h1 : w < 4294967296) : ∀ (d f : Nat) (op : Int) (T : aF), op + (d : Int) = 25 → 1 ≤ op → d < f →
  ∃ T', gP (bY.l2 G (k + 7) 1 self) f [dF w, .ptr 0 1 0 0, .bool false, I6 op] (⟨57, 6, [mV 0 0 0 0 0 0]⟩ :: T) = some (aCn (nK d op w) w T')
 | d, 0, op, T, h, _, hf => by omega
 | 0, f + 1, op, T, h, _, hf => by
  rw [fD, bY.l2]
  have hc : iL 1 [dF w, .ptr 0 1 0 0, .bool false, I6 op] (⟨57, 6, [mV 0 0 0 0 0 0]⟩ :: T) = some [⟨57, 6, [mV 0 0 0 0 0 0]⟩] := rfl
  have e : op = 25 := by omega
  subst e
  refine ⟨[], ?_⟩
  refine jQ ?_
  refine eC hc ?_
  have fx := True.intro
  refine gI ?_
  refine gY ?_; rfl
 | d + 1, f + 1, op, T, h, hop, hf => by
  rw [fD, bY.l2]
  have hc : iL 1 [dF w, .ptr 0 1 0 0, .bool false, I6 op] (⟨57, 6, [mV 0 0 0 0 0 0]⟩ :: T) = some [⟨57, 6, [mV 0 0 0 0 0 0]⟩] := rfl
  have ih := fun T => aDX G k self w h0 h1 d f (op + 1) T (by omega) (by omega) (by omega)
  have q1 : aQ Tryd.prog .leq 3 true (I6 op) (.int .i64 24) = some (.bool true) := vF (by omega)
  have q2 : aQ Tryd.prog .add 3 true (I6 op) (.int .i64 1) = some (I6 (op + 1)) := aDP (by omega) (by omega)
  unfold nK
  by_cases h12 : op = 12
  ·rw [if_neg (by simp [h12])]
   subst h12
   obtain ⟨T', ih⟩ := ih []
   refine ⟨T', ?_⟩
   refine jQ ?_
   refine eC hc ?_
   have fx := aPt q1 <| q2
   refine gI ?_
   exact ih
  ·have r1 : ∀ H, aE (cT.f G (k + 7)) [I6 op, dF w] H = some (aDT op w, H) := fun H => aD (H := H) (aDU G k op w (by omega) h0 h1) rfl (by unfold aDT; split <;> rfl)
   have q3 : aQ Tryd.prog .eql 3 true (I6 op) (.int .i64 12) = some (.bool false) := pB h12
   have e0 : (nS op w).op = op := by rw [aEV h12]; rfl
   unfold aDT at r1
   generalize vH op w = b at *
   generalize nS op w = i at *
   obtain ⟨op', xd, xn, xm, xa, xi⟩ := i
   simp only at e0
   subst e0
   unfold MI.v at *
   simp only at *
   clear h1 h hf hop h0
   cases b
   ·rw [if_neg (by simp)]
    simp only [Bool.false_eq_true, if_false] at r1
    obtain ⟨T', ih⟩ := ih [⟨57, 6, [mV 0 0 0 0 0 0]⟩]
    refine ⟨T', ?_⟩
    refine jQ ?_
    refine eC hc ?_
    have fx := aPt r1 <| aPt q1 <| aPt q2 <| q3
    refine gI ?_
    exact ih
   ·rw [if_pos (by simp [h12])]
    simp only [if_true] at r1
    refine ⟨[⟨57, 6, [.agg [I6 op', I6 xd, I6 xn, I6 xm, I6 xa, I6 xi]]⟩], ?_⟩
    refine jQ ?_
    refine eC hc ?_
    have fx := aPt r1 <| aPt q1 <| aPt q2 <| q3
    refine gI ?_
    refine gY ?_; rfl
theorem aIC (G : aG) (k : Nat) (w : Int) (h0 : 0 ≤ w) (h1 : w < 4294967296) : bY.f G (k + 40) [dF w] [] = some (ofV (ofF w), []) := by
 rw [← aKm]
 rw [bY.step]
 unfold bY.c
 obtain ⟨T', lp⟩ : ∃ T', gP (bY.l2 G (k + 39) 1 (bY.f G (k + 39))) (k + 39) [dF w, .ptr 0 1 0 0, .bool false, .int .i64 1] [⟨57, 6, [mV 0 0 0 0 0 0]⟩] = some (aCn (nK 24 1 w) w T') := aDX G (k + 32) (bY.f G (k + 39)) w h0 h1 24 (k + 39) 1 [] (by decide) (by decide) (by omega)
 have r1 : ∀ H, aE (cT.f G (k + 39)) [.int .i64 12, dF w] H = some (aDT 12 w, H) := fun H => aD (H := H) (aDU G (k + 32) 12 w (by decide) h0 h1) rfl (by unfold aDT; split <;> rfl)
 unfold aMM
 unfold aDT at r1
 have e0 : (nS 12 w).op = 12 := rfl
 generalize nK 24 1 w = q at *
 generalize vH 12 w = b at *
 generalize nS 12 w = i at *
 obtain ⟨op', xd, xn, xm, xa, xi⟩ := i
 refine eO ?_
 cases q with
 | none =>
  unfold aCn at lp
  simp only at lp
  cases b
  ·simp only [Bool.false_eq_true, if_false] at r1 ⊢
   have fx := r1
   have lx1 := lp
   refine gI ?_
   exact oF (pL rfl rfl rfl)
  ·simp only [if_true] at r1 ⊢
   unfold MI.v at *
   have fx := r1
   have lx1 := lp
   refine gI ?_
   exact oF (pL rfl rfl rfl)
 | some i =>
  unfold aCn at lp
  simp only at lp
  have fx := True.intro
  have lx1 := lp
  refine gI ?_
  exact oF (pL rfl rfl rfl)
end Go.Proofs.YtdfglgnflldkpaaDoor.Mir
