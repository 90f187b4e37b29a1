/- Part 9 of the proof: what these functions do. -/
import Derived.Test.YtdfglgnflldkpaaDoorVg8
namespace Go.Proofs.YtdfglgnflldkpaaDoor.Mir
open Go
set_option linter.unusedSimpArgs false
set_option linter.unusedVariables false
set_option maxHeartbeats 8000000
set_option maxRecDepth 20000
theorem aJQ (G : aI) (k : Nat) (d n m a imm : Int) (h : aT ⟨1, d, n, m, a, imm⟩ = true) : aG.f G (k + 6) [mV 1 d n m a imm] [] = some (.tup [cX (cI ⟨1, d, n, m, a, imm⟩), .bool true], []) := by
 have r1 : ∀ H, aE (aS.f G (k + 5)) [mV 1 d n m a imm] H = _ := fun H => aD (H := H) (eM G k 1 d n m a imm) rfl rfl
 have r2 : ∀ H, aE (aM.f G (k + 5)) [.int .i64 1] H = _ := fun H => aD (H := H) (fA G (k + 1) 1) rfl rfl
 have r3 : ∀ H, aE (aY.f G (k + 5)) [.int .i64 1] H = _ := fun H => aD (H := H) (fK G (k + 4) 1 (by decide)) rfl rfl
 rw [h] at r1
 unfold aT at h
 rw [Bool.and_eq_true] at h
 obtain ⟨_, h⟩ := h
 simp [aN, dS, fP, dA, fW, dU, dB] at h
 have c1 : aJ .u32 (I6 d) = some (cX d) := bB (by omega) (by omega)
 have c2 : aJ .u32 (I6 n) = some (cX n) := bB (by omega) (by omega)
 have c3 : aJ .u32 (I6 m) = some (cX m) := bB (by omega) (by omega)
 have s1 := cN Tryd.prog 71 true (v := n) (p := 32) (b := 5) 5 rfl (by decide) rfl (by omega) (by omega)
 have s2 := cN Tryd.prog 71 true (v := m) (p := 65536) (b := 16) 16 rfl (by decide) rfl (by omega) (by omega)
 have o1 := gJ Tryd.prog 71 false (x := 3531603968) (v := d) (q := 32) 5 rfl (by omega) (by omega) (by omega) (by omega) (by omega)
 have o2 := cY Tryd.prog 71 false (x := 3531603968 + d) (v := n) (p := 32) (q := 1) 5 0 rfl rfl (by omega) (by omega) (by omega) (by omega) (by omega)
 have o3 := cY Tryd.prog 71 false (x := 3531603968 + d + n * 32) (v := m) (p := 65536) (q := 1) 16 0 rfl rfl (by omega) (by omega) (by omega) (by omega) (by omega)
 have t1 := cN Tryd.prog 71 true (v := a) (p := 2097152) (b := 21) 21 rfl (by decide) rfl (by omega) (by omega)
 have t2 := cY Tryd.prog 71 false (x := 3531603968 + d + n * 32 + m * 65536) (v := a) (p := 2097152) (q := 4) 21 2 rfl rfl (by omega) (by omega) (by omega) (by omega) (by omega)
 have t3 := cN Tryd.prog 71 true (v := imm) (p := 32) (b := 5) 5 rfl (by decide) rfl (by omega) (by omega)
 have t4 := cY Tryd.prog 71 false (x := 3531603968 + d + n * 32 + m * 65536 + a * 2097152) (v := imm) (p := 32) (q := 65536) 5 16 rfl rfl (by omega) (by omega) (by omega) (by omega) (by omega)
 have ew : cI ⟨1, d, n, m, a, imm⟩ = 3531603968 + d + n * 32 + m * 65536 + (a * 2097152 + imm * 32) := rfl
 rw [ew]
 simp only [iF, aN, Int.reduceEq, if_true, if_false, ↓reduceIte] at r2 r3
 clear ew
 rw [aG.step]
 unfold aG.c
 refine dX ?_
 have fx := aOO r1 <| aOO r2 <| aOO r3 <| aOO c1 <| aOO c2 <| aOO c3 <| aOO s1 <| aOO s2 <| aOO o1 <| aOO o2 <| aOO o3 <| aOO t1 <| aOO t2 <| aOO t3 <| t4
 refine gC ?_
 all_goals first | exact mY rfl rfl | (refine mY ?_ rfl; omega)
theorem aJR (G : aI) (k : Nat) (d n m a imm : Int) (h : aT ⟨2, d, n, m, a, imm⟩ = true) : aG.f G (k + 6) [mV 2 d n m a imm] [] = some (.tup [cX (cI ⟨2, d, n, m, a, imm⟩), .bool true], []) := by
 have r1 : ∀ H, aE (aS.f G (k + 5)) [mV 2 d n m a imm] H = _ := fun H => aD (H := H) (eM G k 2 d n m a imm) rfl rfl
 have r2 : ∀ H, aE (aM.f G (k + 5)) [.int .i64 2] H = _ := fun H => aD (H := H) (fA G (k + 1) 2) rfl rfl
 have r3 : ∀ H, aE (aY.f G (k + 5)) [.int .i64 2] H = _ := fun H => aD (H := H) (fK G (k + 4) 2 (by decide)) rfl rfl
 rw [h] at r1
 unfold aT at h
 rw [Bool.and_eq_true] at h
 obtain ⟨_, h⟩ := h
 simp [aN, dS, fP, dA, fW, dU, dB] at h
 have c1 : aJ .u32 (I6 d) = some (cX d) := bB (by omega) (by omega)
 have c2 : aJ .u32 (I6 n) = some (cX n) := bB (by omega) (by omega)
 have c3 : aJ .u32 (I6 m) = some (cX m) := bB (by omega) (by omega)
 have s1 := cN Tryd.prog 71 true (v := n) (p := 32) (b := 5) 5 rfl (by decide) rfl (by omega) (by omega)
 have s2 := cN Tryd.prog 71 true (v := m) (p := 65536) (b := 16) 16 rfl (by decide) rfl (by omega) (by omega)
 have o1 := gJ Tryd.prog 71 false (x := 4068474880) (v := d) (q := 32) 5 rfl (by omega) (by omega) (by omega) (by omega) (by omega)
 have o2 := cY Tryd.prog 71 false (x := 4068474880 + d) (v := n) (p := 32) (q := 1) 5 0 rfl rfl (by omega) (by omega) (by omega) (by omega) (by omega)
 have o3 := cY Tryd.prog 71 false (x := 4068474880 + d + n * 32) (v := m) (p := 65536) (q := 1) 16 0 rfl rfl (by omega) (by omega) (by omega) (by omega) (by omega)
 have t1 := cN Tryd.prog 71 true (v := a) (p := 2097152) (b := 21) 21 rfl (by decide) rfl (by omega) (by omega)
 have t2 := cY Tryd.prog 71 false (x := 4068474880 + d + n * 32 + m * 65536) (v := a) (p := 2097152) (q := 4) 21 2 rfl rfl (by omega) (by omega) (by omega) (by omega) (by omega)
 have t3 := cN Tryd.prog 71 true (v := imm) (p := 32) (b := 5) 5 rfl (by decide) rfl (by omega) (by omega)
 have t4 := cY Tryd.prog 71 false (x := 4068474880 + d + n * 32 + m * 65536 + a * 2097152) (v := imm) (p := 32) (q := 65536) 5 16 rfl rfl (by omega) (by omega) (by omega) (by omega) (by omega)
 have ew : cI ⟨2, d, n, m, a, imm⟩ = 4068474880 + d + n * 32 + m * 65536 + (a * 2097152 + imm * 32) := rfl
 rw [ew]
 simp only [iF, aN, Int.reduceEq, if_true, if_false, ↓reduceIte] at r2 r3
 clear ew
 rw [aG.step]
 unfold aG.c
 refine dX ?_
 have fx := aOO r1 <| aOO r2 <| aOO r3 <| aOO c1 <| aOO c2 <| aOO c3 <| aOO s1 <| aOO s2 <| aOO o1 <| aOO o2 <| aOO o3 <| aOO t1 <| aOO t2 <| aOO t3 <| t4
 refine gC ?_
 all_goals first | exact mY rfl rfl | (refine mY ?_ rfl; omega)
theorem aJS (G : aI) (k : Nat) (d n m a imm : Int) (h : aT ⟨3, d, n, m, a, imm⟩ = true) : aG.f G (k + 6) [mV 3 d n m a imm] [] = some (.tup [cX (cI ⟨3, d, n, m, a, imm⟩), .bool true], []) := by
 have r1 : ∀ H, aE (aS.f G (k + 5)) [mV 3 d n m a imm] H = _ := fun H => aD (H := H) (eM G k 3 d n m a imm) rfl rfl
 have r2 : ∀ H, aE (aM.f G (k + 5)) [.int .i64 3] H = _ := fun H => aD (H := H) (fA G (k + 1) 3) rfl rfl
 have r3 : ∀ H, aE (aY.f G (k + 5)) [.int .i64 3] H = _ := fun H => aD (H := H) (fK G (k + 4) 3 (by decide)) rfl rfl
 rw [h] at r1
 unfold aT at h
 rw [Bool.and_eq_true] at h
 obtain ⟨_, h⟩ := h
 simp [aN, dS, fP, dA, fW, dU, dB] at h
 have c1 : aJ .u32 (I6 d) = some (cX d) := bB (by omega) (by omega)
 have c2 : aJ .u32 (I6 n) = some (cX n) := bB (by omega) (by omega)
 have c3 : aJ .u32 (I6 m) = some (cX m) := bB (by omega) (by omega)
 have s1 := cN Tryd.prog 71 true (v := n) (p := 32) (b := 5) 5 rfl (by decide) rfl (by omega) (by omega)
 have s2 := cN Tryd.prog 71 true (v := m) (p := 65536) (b := 16) 16 rfl (by decide) rfl (by omega) (by omega)
 have o1 := gJ Tryd.prog 71 false (x := 2332033024) (v := d) (q := 32) 5 rfl (by omega) (by omega) (by omega) (by omega) (by omega)
 have o2 := cY Tryd.prog 71 false (x := 2332033024 + d) (v := n) (p := 32) (q := 32) 5 5 rfl rfl (by omega) (by omega) (by omega) (by omega) (by omega)
 have o3 := cY Tryd.prog 71 false (x := 2332033024 + d + n * 32) (v := m) (p := 65536) (q := 32) 16 5 rfl rfl (by omega) (by omega) (by omega) (by omega) (by omega)
 have ew : cI ⟨3, d, n, m, a, imm⟩ = 2332033024 + d + n * 32 + m * 65536 + 0 := rfl
 rw [ew]
 simp only [iF, aN, Int.reduceEq, if_true, if_false, ↓reduceIte] at r2 r3
 clear ew
 rw [aG.step]
 unfold aG.c
 refine dX ?_
 have fx := aOO r1 <| aOO r2 <| aOO r3 <| aOO c1 <| aOO c2 <| aOO c3 <| aOO s1 <| aOO s2 <| aOO o1 <| aOO o2 <| o3
 refine gC ?_
 all_goals first | exact mY rfl rfl | (refine mY ?_ rfl; omega)
theorem aJT (G : aI) (k : Nat) (d n m a imm : Int) (h : aT ⟨4, d, n, m, a, imm⟩ = true) : aG.f G (k + 6) [mV 4 d n m a imm] [] = some (.tup [cX (cI ⟨4, d, n, m, a, imm⟩), .bool true], []) := by
 have r1 : ∀ H, aE (aS.f G (k + 5)) [mV 4 d n m a imm] H = _ := fun H => aD (H := H) (eM G k 4 d n m a imm) rfl rfl
 have r2 : ∀ H, aE (aM.f G (k + 5)) [.int .i64 4] H = _ := fun H => aD (H := H) (fA G (k + 1) 4) rfl rfl
 have r3 : ∀ H, aE (aY.f G (k + 5)) [.int .i64 4] H = _ := fun H => aD (H := H) (fK G (k + 4) 4 (by decide)) rfl rfl
 rw [h] at r1
 unfold aT at h
 rw [Bool.and_eq_true] at h
 obtain ⟨_, h⟩ := h
 simp [aN, dS, fP, dA, fW, dU, dB] at h
 have c1 : aJ .u32 (I6 d) = some (cX d) := bB (by omega) (by omega)
 have c2 : aJ .u32 (I6 n) = some (cX n) := bB (by omega) (by omega)
 have c3 : aJ .u32 (I6 m) = some (cX m) := bB (by omega) (by omega)
 have s1 := cN Tryd.prog 71 true (v := n) (p := 32) (b := 5) 5 rfl (by decide) rfl (by omega) (by omega)
 have s2 := cN Tryd.prog 71 true (v := m) (p := 65536) (b := 16) 16 rfl (by decide) rfl (by omega) (by omega)
 have o1 := gJ Tryd.prog 71 false (x := 3405774848) (v := d) (q := 32) 5 rfl (by omega) (by omega) (by omega) (by omega) (by omega)
 have o2 := cY Tryd.prog 71 false (x := 3405774848 + d) (v := n) (p := 32) (q := 32) 5 5 rfl rfl (by omega) (by omega) (by omega) (by omega) (by omega)
 have o3 := cY Tryd.prog 71 false (x := 3405774848 + d + n * 32) (v := m) (p := 65536) (q := 32) 16 5 rfl rfl (by omega) (by omega) (by omega) (by omega) (by omega)
 have ew : cI ⟨4, d, n, m, a, imm⟩ = 3405774848 + d + n * 32 + m * 65536 + 0 := rfl
 rw [ew]
 simp only [iF, aN, Int.reduceEq, if_true, if_false, ↓reduceIte] at r2 r3
 clear ew
 rw [aG.step]
 unfold aG.c
 refine dX ?_
 have fx := aOO r1 <| aOO r2 <| aOO r3 <| aOO c1 <| aOO c2 <| aOO c3 <| aOO s1 <| aOO s2 <| aOO o1 <| aOO o2 <| o3
 refine gC ?_
 all_goals first | exact mY rfl rfl | (refine mY ?_ rfl; omega)
theorem aJU (G : aI) (k : Nat) (d n m a imm : Int) (h : aT ⟨5, d, n, m, a, imm⟩ = true) : aG.f G (k + 6) [mV 5 d n m a imm] [] = some (.tup [cX (cI ⟨5, d, n, m, a, imm⟩), .bool true], []) := by
 have r1 : ∀ H, aE (aS.f G (k + 5)) [mV 5 d n m a imm] H = _ := fun H => aD (H := H) (eM G k 5 d n m a imm) rfl rfl
 have r2 : ∀ H, aE (aM.f G (k + 5)) [.int .i64 5] H = _ := fun H => aD (H := H) (fA G (k + 1) 5) rfl rfl
 have r3 : ∀ H, aE (aY.f G (k + 5)) [.int .i64 5] H = _ := fun H => aD (H := H) (fK G (k + 4) 5 (by decide)) rfl rfl
 rw [h] at r1
 unfold aT at h
 rw [Bool.and_eq_true] at h
 obtain ⟨_, h⟩ := h
 simp [aN, dS, fP, dA, fW, dU, dB] at h
 have c1 : aJ .u32 (I6 d) = some (cX d) := bB (by omega) (by omega)
 have c2 : aJ .u32 (I6 n) = some (cX n) := bB (by omega) (by omega)
 have c3 : aJ .u32 (I6 m) = some (cX m) := bB (by omega) (by omega)
 have s1 := cN Tryd.prog 71 true (v := n) (p := 32) (b := 5) 5 rfl (by decide) rfl (by omega) (by omega)
 have s2 := cN Tryd.prog 71 true (v := m) (p := 65536) (b := 16) 16 rfl (by decide) rfl (by omega) (by omega)
 have o1 := gJ Tryd.prog 71 false (x := 2315255808) (v := d) (q := 32) 5 rfl (by omega) (by omega) (by omega) (by omega) (by omega)
 have o2 := cY Tryd.prog 71 false (x := 2315255808 + d) (v := n) (p := 32) (q := 32) 5 5 rfl rfl (by omega) (by omega) (by omega) (by omega) (by omega)
 have o3 := cY Tryd.prog 71 false (x := 2315255808 + d + n * 32) (v := m) (p := 65536) (q := 32) 16 5 rfl rfl (by omega) (by omega) (by omega) (by omega) (by omega)
 have ew : cI ⟨5, d, n, m, a, imm⟩ = 2315255808 + d + n * 32 + m * 65536 + 0 := rfl
 rw [ew]
 simp only [iF, aN, Int.reduceEq, if_true, if_false, ↓reduceIte] at r2 r3
 clear ew
 rw [aG.step]
 unfold aG.c
 refine dX ?_
 have fx := aOO r1 <| aOO r2 <| aOO r3 <| aOO c1 <| aOO c2 <| aOO c3 <| aOO s1 <| aOO s2 <| aOO o1 <| aOO o2 <| o3
 refine gC ?_
 all_goals first | exact mY rfl rfl | (refine mY ?_ rfl; omega)
theorem aJV (G : aI) (k : Nat) (d n m a imm : Int) (h : aT ⟨6, d, n, m, a, imm⟩ = true) : aG.f G (k + 6) [mV 6 d n m a imm] [] = some (.tup [cX (cI ⟨6, d, n, m, a, imm⟩), .bool true], []) := by
 have r1 : ∀ H, aE (aS.f G (k + 5)) [mV 6 d n m a imm] H = _ := fun H => aD (H := H) (eM G k 6 d n m a imm) rfl rfl
 have r2 : ∀ H, aE (aM.f G (k + 5)) [.int .i64 6] H = _ := fun H => aD (H := H) (fA G (k + 1) 6) rfl rfl
 have r3 : ∀ H, aE (aY.f G (k + 5)) [.int .i64 6] H = _ := fun H => aD (H := H) (fK G (k + 4) 6 (by decide)) rfl rfl
 rw [h] at r1
 unfold aT at h
 rw [Bool.and_eq_true] at h
 obtain ⟨_, h⟩ := h
 simp [aN, dS, fP, dA, fW, dU, dB] at h
 have c1 : aJ .u32 (I6 d) = some (cX d) := bB (by omega) (by omega)
 have c2 : aJ .u32 (I6 n) = some (cX n) := bB (by omega) (by omega)
 have c3 : aJ .u32 (I6 m) = some (cX m) := bB (by omega) (by omega)
 have s1 := cN Tryd.prog 71 true (v := n) (p := 32) (b := 5) 5 rfl (by decide) rfl (by omega) (by omega)
 have s2 := cN Tryd.prog 71 true (v := m) (p := 65536) (b := 16) 16 rfl (by decide) rfl (by omega) (by omega)
 have o1 := gJ Tryd.prog 71 false (x := 2852126720) (v := d) (q := 32) 5 rfl (by omega) (by omega) (by omega) (by omega) (by omega)
 have o2 := cY Tryd.prog 71 false (x := 2852126720 + d) (v := n) (p := 32) (q := 32) 5 5 rfl rfl (by omega) (by omega) (by omega) (by omega) (by omega)
 have o3 := cY Tryd.prog 71 false (x := 2852126720 + d + n * 32) (v := m) (p := 65536) (q := 32) 16 5 rfl rfl (by omega) (by omega) (by omega) (by omega) (by omega)
 have ew : cI ⟨6, d, n, m, a, imm⟩ = 2852126720 + d + n * 32 + m * 65536 + 0 := rfl
 rw [ew]
 simp only [iF, aN, Int.reduceEq, if_true, if_false, ↓reduceIte] at r2 r3
 clear ew
 rw [aG.step]
 unfold aG.c
 refine dX ?_
 have fx := aOO r1 <| aOO r2 <| aOO r3 <| aOO c1 <| aOO c2 <| aOO c3 <| aOO s1 <| aOO s2 <| aOO o1 <| aOO o2 <| o3
 refine gC ?_
 all_goals first | exact mY rfl rfl | (refine mY ?_ rfl; omega)
theorem aJW (G : aI) (k : Nat) (d n m a imm : Int) (h : aT ⟨7, d, n, m, a, imm⟩ = true) : aG.f G (k + 6) [mV 7 d n m a imm] [] = some (.tup [cX (cI ⟨7, d, n, m, a, imm⟩), .bool true], []) := by
 have r1 : ∀ H, aE (aS.f G (k + 5)) [mV 7 d n m a imm] H = _ := fun H => aD (H := H) (eM G k 7 d n m a imm) rfl rfl
 have r2 : ∀ H, aE (aM.f G (k + 5)) [.int .i64 7] H = _ := fun H => aD (H := H) (fA G (k + 1) 7) rfl rfl
 have r3 : ∀ H, aE (aY.f G (k + 5)) [.int .i64 7] H = _ := fun H => aD (H := H) (fK G (k + 4) 7 (by decide)) rfl rfl
 rw [h] at r1
 unfold aT at h
 rw [Bool.and_eq_true] at h
 obtain ⟨_, h⟩ := h
 simp [aN, dS, fP, dA, fW, dU, dB] at h
 have c1 : aJ .u32 (I6 d) = some (cX d) := bB (by omega) (by omega)
 have c2 : aJ .u32 (I6 n) = some (cX n) := bB (by omega) (by omega)
 have c3 : aJ .u32 (I6 m) = some (cX m) := bB (by omega) (by omega)
 have s1 := cN Tryd.prog 71 true (v := n) (p := 32) (b := 5) 5 rfl (by decide) rfl (by omega) (by omega)
 have s2 := cN Tryd.prog 71 true (v := m) (p := 65536) (b := 16) 16 rfl (by decide) rfl (by omega) (by omega)
 have o1 := gJ Tryd.prog 71 false (x := 3388997632) (v := d) (q := 32) 5 rfl (by omega) (by omega) (by omega) (by omega) (by omega)
 have o2 := cY Tryd.prog 71 false (x := 3388997632 + d) (v := n) (p := 32) (q := 32) 5 5 rfl rfl (by omega) (by omega) (by omega) (by omega) (by omega)
 have o3 := cY Tryd.prog 71 false (x := 3388997632 + d + n * 32) (v := m) (p := 65536) (q := 32) 16 5 rfl rfl (by omega) (by omega) (by omega) (by omega) (by omega)
 have ew : cI ⟨7, d, n, m, a, imm⟩ = 3388997632 + d + n * 32 + m * 65536 + 0 := rfl
 rw [ew]
 simp only [iF, aN, Int.reduceEq, if_true, if_false, ↓reduceIte] at r2 r3
 clear ew
 rw [aG.step]
 unfold aG.c
 refine dX ?_
 have fx := aOO r1 <| aOO r2 <| aOO r3 <| aOO c1 <| aOO c2 <| aOO c3 <| aOO s1 <| aOO s2 <| aOO o1 <| aOO o2 <| o3
 refine gC ?_
 all_goals first | exact mY rfl rfl | (refine mY ?_ rfl; omega)
theorem aJX (G : aI) (k : Nat) (d n m a imm : Int) (h : aT ⟨8, d, n, m, a, imm⟩ = true) : aG.f G (k + 6) [mV 8 d n m a imm] [] = some (.tup [cX (cI ⟨8, d, n, m, a, imm⟩), .bool true], []) := by
 have r1 : ∀ H, aE (aS.f G (k + 5)) [mV 8 d n m a imm] H = _ := fun H => aD (H := H) (eM G k 8 d n m a imm) rfl rfl
 have r2 : ∀ H, aE (aM.f G (k + 5)) [.int .i64 8] H = _ := fun H => aD (H := H) (fA G (k + 1) 8) rfl rfl
 have r3 : ∀ H, aE (aY.f G (k + 5)) [.int .i64 8] H = _ := fun H => aD (H := H) (fK G (k + 4) 8 (by decide)) rfl rfl
 rw [h] at r1
 unfold aT at h
 rw [Bool.and_eq_true] at h
 obtain ⟨_, h⟩ := h
 simp [aN, dS, fP, dA, fW, dU, dB] at h
 have c1 : aJ .u32 (I6 d) = some (cX d) := bB (by omega) (by omega)
 have c2 : aJ .u32 (I6 n) = some (cX n) := bB (by omega) (by omega)
 have c3 : aJ .u32 (I6 m) = some (cX m) := bB (by omega) (by omega)
 have s1 := cN Tryd.prog 71 true (v := n) (p := 32) (b := 5) 5 rfl (by decide) rfl (by omega) (by omega)
 have s2 := cN Tryd.prog 71 true (v := m) (p := 65536) (b := 16) 16 rfl (by decide) rfl (by omega) (by omega)
 have o1 := gJ Tryd.prog 71 false (x := 2600468480) (v := d) (q := 32) 5 rfl (by omega) (by omega) (by omega) (by omega) (by omega)
 have o2 := cY Tryd.prog 71 false (x := 2600468480 + d) (v := n) (p := 32) (q := 32) 5 5 rfl rfl (by omega) (by omega) (by omega) (by omega) (by omega)
 have o3 := cY Tryd.prog 71 false (x := 2600468480 + d + n * 32) (v := m) (p := 65536) (q := 32) 16 5 rfl rfl (by omega) (by omega) (by omega) (by omega) (by omega)
 have t1 := cN Tryd.prog 71 true (v := a) (p := 1024) (b := 10) 10 rfl (by decide) rfl (by omega) (by omega)
 have t2 := cY Tryd.prog 71 false (x := 2600468480 + d + n * 32 + m * 65536) (v := a) (p := 1024) (q := 32) 10 5 rfl rfl (by omega) (by omega) (by omega) (by omega) (by omega)
 have ew : cI ⟨8, d, n, m, a, imm⟩ = 2600468480 + d + n * 32 + m * 65536 + a * 1024 := rfl
 rw [ew]
 simp only [iF, aN, Int.reduceEq, if_true, if_false, ↓reduceIte] at r2 r3
 clear ew
 rw [aG.step]
 unfold aG.c
 refine dX ?_
 have fx := aOO r1 <| aOO r2 <| aOO r3 <| aOO c1 <| aOO c2 <| aOO c3 <| aOO s1 <| aOO s2 <| aOO o1 <| aOO o2 <| aOO o3 <| aOO t1 <| t2
 refine gC ?_
 all_goals first | exact mY rfl rfl | (refine mY ?_ rfl; omega)
theorem aJY (G : aI) (k : Nat) (d n m a imm : Int) (h : aT ⟨9, d, n, m, a, imm⟩ = true) : aG.f G (k + 6) [mV 9 d n m a imm] [] = some (.tup [cX (cI ⟨9, d, n, m, a, imm⟩), .bool true], []) := by
 have r1 : ∀ H, aE (aS.f G (k + 5)) [mV 9 d n m a imm] H = _ := fun H => aD (H := H) (eM G k 9 d n m a imm) rfl rfl
 have r2 : ∀ H, aE (aM.f G (k + 5)) [.int .i64 9] H = _ := fun H => aD (H := H) (fA G (k + 1) 9) rfl rfl
 have r3 : ∀ H, aE (aY.f G (k + 5)) [.int .i64 9] H = _ := fun H => aD (H := H) (fK G (k + 4) 9 (by decide)) rfl rfl
 rw [h] at r1
 unfold aT at h
 rw [Bool.and_eq_true] at h
 obtain ⟨_, h⟩ := h
 simp [aN, dS, fP, dA, fW, dU, dB] at h
 have c1 : aJ .u32 (I6 d) = some (cX d) := bB (by omega) (by omega)
 have c2 : aJ .u32 (I6 n) = some (cX n) := bB (by omega) (by omega)
 have c3 : aJ .u32 (I6 m) = some (cX m) := bB (by omega) (by omega)
 have s1 := cN Tryd.prog 71 true (v := n) (p := 32) (b := 5) 5 rfl (by decide) rfl (by omega) (by omega)
 have s2 := cN Tryd.prog 71 true (v := m) (p := 65536) (b := 16) 16 rfl (by decide) rfl (by omega) (by omega)
 have o1 := gJ Tryd.prog 71 false (x := 2613083136) (v := d) (q := 32) 5 rfl (by omega) (by omega) (by omega) (by omega) (by omega)
 have o2 := cY Tryd.prog 71 false (x := 2613083136 + d) (v := n) (p := 32) (q := 32) 5 5 rfl rfl (by omega) (by omega) (by omega) (by omega) (by omega)
 have o3 := cY Tryd.prog 71 false (x := 2613083136 + d + n * 32) (v := m) (p := 65536) (q := 32) 16 5 rfl rfl (by omega) (by omega) (by omega) (by omega) (by omega)
 have ew : cI ⟨9, d, n, m, a, imm⟩ = 2613083136 + d + n * 32 + m * 65536 + 0 := rfl
 rw [ew]
 simp only [iF, aN, Int.reduceEq, if_true, if_false, ↓reduceIte] at r2 r3
 clear ew
 rw [aG.step]
 unfold aG.c
 refine dX ?_
 have fx := aOO r1 <| aOO r2 <| aOO r3 <| aOO c1 <| aOO c2 <| aOO c3 <| aOO s1 <| aOO s2 <| aOO o1 <| aOO o2 <| o3
 refine gC ?_
 all_goals first | exact mY rfl rfl | (refine mY ?_ rfl; omega)
theorem aIm (G : aI) (k : Nat) (d n m a imm : Int) (h : aT ⟨10, d, n, m, a, imm⟩ = true) : aG.f G (k + 6) [mV 10 d n m a imm] [] = some (.tup [cX (cI ⟨10, d, n, m, a, imm⟩), .bool true], []) := by
 have r1 : ∀ H, aE (aS.f G (k + 5)) [mV 10 d n m a imm] H = _ := fun H => aD (H := H) (eM G k 10 d n m a imm) rfl rfl
 have r2 : ∀ H, aE (aM.f G (k + 5)) [.int .i64 10] H = _ := fun H => aD (H := H) (fA G (k + 1) 10) rfl rfl
 have r3 : ∀ H, aE (aY.f G (k + 5)) [.int .i64 10] H = _ := fun H => aD (H := H) (fK G (k + 4) 10 (by decide)) rfl rfl
 rw [h] at r1
 unfold aT at h
 rw [Bool.and_eq_true] at h
 obtain ⟨_, h⟩ := h
 simp [aN, dS, fP, dA, fW, dU, dB] at h
 have c1 : aJ .u32 (I6 d) = some (cX d) := bB (by omega) (by omega)
 have c2 : aJ .u32 (I6 n) = some (cX n) := bB (by omega) (by omega)
 have c3 : aJ .u32 (I6 m) = some (cX m) := bB (by omega) (by omega)
 have s1 := cN Tryd.prog 71 true (v := n) (p := 32) (b := 5) 5 rfl (by decide) rfl (by omega) (by omega)
 have s2 := cN Tryd.prog 71 true (v := m) (p := 65536) (b := 16) 16 rfl (by decide) rfl (by omega) (by omega)
 have o1 := gJ Tryd.prog 71 false (x := 2432696320) (v := d) (q := 32) 5 rfl (by omega) (by omega) (by omega) (by omega) (by omega)
 have o2 := cY Tryd.prog 71 false (x := 2432696320 + d) (v := n) (p := 32) (q := 32) 5 5 rfl rfl (by omega) (by omega) (by omega) (by omega) (by omega)
 have o3 := cY Tryd.prog 71 false (x := 2432696320 + d + n * 32) (v := m) (p := 65536) (q := 1) 16 0 rfl rfl (by omega) (by omega) (by omega) (by omega) (by omega)
 have t1 := cN Tryd.prog 71 true (v := imm) (p := 1024) (b := 10) 10 rfl (by decide) rfl (by omega) (by omega)
 have t2 := cY Tryd.prog 71 false (x := 2432696320 + d + n * 32 + m * 65536) (v := imm) (p := 1024) (q := 4096) 10 12 rfl rfl (by omega) (by omega) (by omega) (by omega) (by omega)
 have ew : cI ⟨10, d, n, m, a, imm⟩ = 2432696320 + d + n * 32 + m * 65536 + imm * 1024 := rfl
 rw [ew]
 simp only [iF, aN, Int.reduceEq, if_true, if_false, ↓reduceIte] at r2 r3
 clear ew
 rw [aG.step]
 unfold aG.c
 refine dX ?_
 have fx := aOO r1 <| aOO r2 <| aOO r3 <| aOO c1 <| aOO c2 <| aOO c3 <| aOO s1 <| aOO s2 <| aOO o1 <| aOO o2 <| aOO o3 <| aOO t1 <| t2
 refine gC ?_
 all_goals first | exact mY rfl rfl | (refine mY ?_ rfl; omega)
theorem aIn (G : aI) (k : Nat) (d n m a imm : Int) (h : aT ⟨11, d, n, m, a, imm⟩ = true) : aG.f G (k + 6) [mV 11 d n m a imm] [] = some (.tup [cX (cI ⟨11, d, n, m, a, imm⟩), .bool true], []) := by
 have r1 : ∀ H, aE (aS.f G (k + 5)) [mV 11 d n m a imm] H = _ := fun H => aD (H := H) (eM G k 11 d n m a imm) rfl rfl
 have r2 : ∀ H, aE (aM.f G (k + 5)) [.int .i64 11] H = _ := fun H => aD (H := H) (fA G (k + 1) 11) rfl rfl
 have r3 : ∀ H, aE (aY.f G (k + 5)) [.int .i64 11] H = _ := fun H => aD (H := H) (fK G (k + 4) 11 (by decide)) rfl rfl
 rw [h] at r1
 unfold aT at h
 rw [Bool.and_eq_true] at h
 obtain ⟨_, h⟩ := h
 simp [aN, dS, fP, dA, fW, dU, dB] at h
 have c1 : aJ .u32 (I6 d) = some (cX d) := bB (by omega) (by omega)
 have c2 : aJ .u32 (I6 n) = some (cX n) := bB (by omega) (by omega)
 have c3 : aJ .u32 (I6 m) = some (cX m) := bB (by omega) (by omega)
 have s1 := cN Tryd.prog 71 true (v := n) (p := 32) (b := 5) 5 rfl (by decide) rfl (by omega) (by omega)
 have s2 := cN Tryd.prog 71 true (v := m) (p := 65536) (b := 16) 16 rfl (by decide) rfl (by omega) (by omega)
 have o1 := gJ Tryd.prog 71 false (x := 3506438144) (v := d) (q := 32) 5 rfl (by omega) (by omega) (by omega) (by omega) (by omega)
 have o2 := cY Tryd.prog 71 false (x := 3506438144 + d) (v := n) (p := 32) (q := 32) 5 5 rfl rfl (by omega) (by omega) (by omega) (by omega) (by omega)
 have o3 := cY Tryd.prog 71 false (x := 3506438144 + d + n * 32) (v := m) (p := 65536) (q := 1) 16 0 rfl rfl (by omega) (by omega) (by omega) (by omega) (by omega)
 have t1 := cN Tryd.prog 71 true (v := imm) (p := 1024) (b := 10) 10 rfl (by decide) rfl (by omega) (by omega)
 have t2 := cY Tryd.prog 71 false (x := 3506438144 + d + n * 32 + m * 65536) (v := imm) (p := 1024) (q := 4096) 10 12 rfl rfl (by omega) (by omega) (by omega) (by omega) (by omega)
 have ew : cI ⟨11, d, n, m, a, imm⟩ = 3506438144 + d + n * 32 + m * 65536 + imm * 1024 := rfl
 rw [ew]
 simp only [iF, aN, Int.reduceEq, if_true, if_false, ↓reduceIte] at r2 r3
 clear ew
 rw [aG.step]
 unfold aG.c
 refine dX ?_
 have fx := aOO r1 <| aOO r2 <| aOO r3 <| aOO c1 <| aOO c2 <| aOO c3 <| aOO s1 <| aOO s2 <| aOO o1 <| aOO o2 <| aOO o3 <| aOO t1 <| t2
 refine gC ?_
 all_goals first | exact mY rfl rfl | (refine mY ?_ rfl; omega)
theorem aIo (G : aI) (k : Nat) (d n m a imm : Int) (h : aT ⟨12, d, n, m, a, imm⟩ = true) : aG.f G (k + 6) [mV 12 d n m a imm] [] = some (.tup [cX (cI ⟨12, d, n, m, a, imm⟩), .bool true], []) := by
 have r1 : ∀ H, aE (aS.f G (k + 5)) [mV 12 d n m a imm] H = _ := fun H => aD (H := H) (eM G k 12 d n m a imm) rfl rfl
 have r2 : ∀ H, aE (aM.f G (k + 5)) [.int .i64 12] H = _ := fun H => aD (H := H) (fA G (k + 1) 12) rfl rfl
 have r3 : ∀ H, aE (aY.f G (k + 5)) [.int .i64 12] H = _ := fun H => aD (H := H) (fK G (k + 4) 12 (by decide)) rfl rfl
 rw [h] at r1
 unfold aT at h
 rw [Bool.and_eq_true] at h
 obtain ⟨_, h⟩ := h
 simp [aN, dS, fP, dA, fW, dU, dB] at h
 have c1 : aJ .u32 (I6 d) = some (cX d) := bB (by omega) (by omega)
 have c2 : aJ .u32 (I6 n) = some (cX n) := bB (by omega) (by omega)
 have c3 : aJ .u32 (I6 m) = some (cX m) := bB (by omega) (by omega)
 have s1 := cN Tryd.prog 71 true (v := n) (p := 32) (b := 5) 5 rfl (by decide) rfl (by omega) (by omega)
 have s2 := cN Tryd.prog 71 true (v := m) (p := 65536) (b := 16) 16 rfl (by decide) rfl (by omega) (by omega)
 have o1 := gJ Tryd.prog 71 false (x := 3544186880) (v := d) (q := 32) 5 rfl (by omega) (by omega) (by omega) (by omega) (by omega)
 have o2 := cY Tryd.prog 71 false (x := 3544186880 + d) (v := n) (p := 32) (q := 32) 5 5 rfl rfl (by omega) (by omega) (by omega) (by omega) (by omega)
 have o3 := cY Tryd.prog 71 false (x := 3544186880 + d + n * 32) (v := m) (p := 65536) (q := 1) 16 0 rfl rfl (by omega) (by omega) (by omega) (by omega) (by omega)
 have t0 := aFW Tryd.prog 71 true (a := 64) (b := imm) (by omega) (by omega) (by omega)
 have t1 := aKW Tryd.prog 71 true (a := 64 - imm) (by omega)
 have t2 := cN Tryd.prog 71 true (v := ((64 - imm) % 64)) (p := 65536) (b := 16) 16 rfl (by decide) rfl (by omega) (by omega)
 have t3 := cY Tryd.prog 71 false (x := 3544186880 + d + n * 32 + m * 65536) (v := ((64 - imm) % 64)) (p := 65536) (q := 64) 16 6 rfl rfl (by omega) (by omega) (by omega) (by omega) (by omega)
 have t4 := aFW Tryd.prog 71 true (a := 63) (b := imm) (by omega) (by omega) (by omega)
 have t5 := cN Tryd.prog 71 true (v := (63 - imm)) (p := 1024) (b := 10) 10 rfl (by decide) rfl (by omega) (by omega)
 have t6 := cY Tryd.prog 71 false (x := 3544186880 + d + n * 32 + m * 65536 + (64 - imm) % 64 * 65536) (v := (63 - imm)) (p := 1024) (q := 64) 10 6 rfl rfl (by omega) (by omega) (by omega) (by omega) (by omega)
 have ew : cI ⟨12, d, n, m, a, imm⟩ = 3544186880 + d + n * 32 + m * 65536 + ((64 - imm) % 64 * 65536 + (63 - imm) * 1024) := rfl
 rw [ew]
 simp only [iF, aN, Int.reduceEq, if_true, if_false, ↓reduceIte] at r2 r3
 clear ew
 rw [aG.step]
 unfold aG.c
 refine dX ?_
 have fx := aOO r1 <| aOO r2 <| aOO r3 <| aOO c1 <| aOO c2 <| aOO c3 <| aOO s1 <| aOO s2 <| aOO o1 <| aOO o2 <| aOO o3 <| aOO t0 <| aOO t1 <| aOO t2 <| aOO t3 <| aOO t4 <| aOO t5 <| t6
 refine gC ?_
 all_goals first | exact mY rfl rfl | (refine mY ?_ rfl; omega)
theorem aIp (G : aI) (k : Nat) (d n m a imm : Int) (h : aT ⟨13, d, n, m, a, imm⟩ = true) : aG.f G (k + 6) [mV 13 d n m a imm] [] = some (.tup [cX (cI ⟨13, d, n, m, a, imm⟩), .bool true], []) := by
 have r1 : ∀ H, aE (aS.f G (k + 5)) [mV 13 d n m a imm] H = _ := fun H => aD (H := H) (eM G k 13 d n m a imm) rfl rfl
 have r2 : ∀ H, aE (aM.f G (k + 5)) [.int .i64 13] H = _ := fun H => aD (H := H) (fA G (k + 1) 13) rfl rfl
 have r3 : ∀ H, aE (aY.f G (k + 5)) [.int .i64 13] H = _ := fun H => aD (H := H) (fK G (k + 4) 13 (by decide)) rfl rfl
 rw [h] at r1
 unfold aT at h
 rw [Bool.and_eq_true] at h
 obtain ⟨_, h⟩ := h
 simp [aN, dS, fP, dA, fW, dU, dB] at h
 have c1 : aJ .u32 (I6 d) = some (cX d) := bB (by omega) (by omega)
 have c2 : aJ .u32 (I6 n) = some (cX n) := bB (by omega) (by omega)
 have c3 : aJ .u32 (I6 m) = some (cX m) := bB (by omega) (by omega)
 have s1 := cN Tryd.prog 71 true (v := n) (p := 32) (b := 5) 5 rfl (by decide) rfl (by omega) (by omega)
 have s2 := cN Tryd.prog 71 true (v := m) (p := 65536) (b := 16) 16 rfl (by decide) rfl (by omega) (by omega)
 have o1 := gJ Tryd.prog 71 false (x := 3544186880) (v := d) (q := 32) 5 rfl (by omega) (by omega) (by omega) (by omega) (by omega)
 have o2 := cY Tryd.prog 71 false (x := 3544186880 + d) (v := n) (p := 32) (q := 32) 5 5 rfl rfl (by omega) (by omega) (by omega) (by omega) (by omega)
 have o3 := cY Tryd.prog 71 false (x := 3544186880 + d + n * 32) (v := m) (p := 65536) (q := 1) 16 0 rfl rfl (by omega) (by omega) (by omega) (by omega) (by omega)
 have t1 := cN Tryd.prog 71 true (v := imm) (p := 65536) (b := 16) 16 rfl (by decide) rfl (by omega) (by omega)
 have t2 := cY Tryd.prog 71 false (x := 3544186880 + d + n * 32 + m * 65536) (v := imm) (p := 65536) (q := 64) 16 6 rfl rfl (by omega) (by omega) (by omega) (by omega) (by omega)
 have t3 : aQ Tryd.prog .or 71 true (cX (3544186880 + d + n * 32 + m * 65536 + imm * 65536)) (.int .u32 64512) = some (cX (3544186880 + d + n * 32 + m * 65536 + imm * 65536 + 64512)) := cY Tryd.prog 71 true (x := 3544186880 + d + n * 32 + m * 65536 + imm * 65536) (v := 63) (p := 1024) (q := 64) 10 6 rfl rfl (by omega) (by omega) (by omega) (by omega) (by omega)
 have ew : cI ⟨13, d, n, m, a, imm⟩ = 3544186880 + d + n * 32 + m * 65536 + (imm * 65536 + 64512) := rfl
 rw [ew]
 simp only [iF, aN, Int.reduceEq, if_true, if_false, ↓reduceIte] at r2 r3
 clear ew
 rw [aG.step]
 unfold aG.c
 refine dX ?_
 have fx := aOO r1 <| aOO r2 <| aOO r3 <| aOO c1 <| aOO c2 <| aOO c3 <| aOO s1 <| aOO s2 <| aOO o1 <| aOO o2 <| aOO o3 <| aOO t1 <| aOO t2 <| t3
 refine gC ?_
 all_goals first | exact mY rfl rfl | (refine mY ?_ rfl; omega)
theorem aIq (G : aI) (k : Nat) (d n m a imm : Int) (h : aT ⟨14, d, n, m, a, imm⟩ = true) : aG.f G (k + 6) [mV 14 d n m a imm] [] = some (.tup [cX (cI ⟨14, d, n, m, a, imm⟩), .bool true], []) := by
 have r1 : ∀ H, aE (aS.f G (k + 5)) [mV 14 d n m a imm] H = _ := fun H => aD (H := H) (eM G k 14 d n m a imm) rfl rfl
 have r2 : ∀ H, aE (aM.f G (k + 5)) [.int .i64 14] H = _ := fun H => aD (H := H) (fA G (k + 1) 14) rfl rfl
 have r3 : ∀ H, aE (aY.f G (k + 5)) [.int .i64 14] H = _ := fun H => aD (H := H) (fK G (k + 4) 14 (by decide)) rfl rfl
 rw [h] at r1
 unfold aT at h
 rw [Bool.and_eq_true] at h
 obtain ⟨_, h⟩ := h
 simp [aN, dS, fP, dA, fW, dU, dB] at h
 have c1 : aJ .u32 (I6 d) = some (cX d) := bB (by omega) (by omega)
 have c2 : aJ .u32 (I6 n) = some (cX n) := bB (by omega) (by omega)
 have c3 : aJ .u32 (I6 m) = some (cX m) := bB (by omega) (by omega)
 have s1 := cN Tryd.prog 71 true (v := n) (p := 32) (b := 5) 5 rfl (by decide) rfl (by omega) (by omega)
 have s2 := cN Tryd.prog 71 true (v := m) (p := 65536) (b := 16) 16 rfl (by decide) rfl (by omega) (by omega)
 have o1 := gJ Tryd.prog 71 false (x := 2470509568) (v := d) (q := 32) 5 rfl (by omega) (by omega) (by omega) (by omega) (by omega)
 have o2 := cY Tryd.prog 71 false (x := 2470509568 + d) (v := n) (p := 32) (q := 32) 5 5 rfl rfl (by omega) (by omega) (by omega) (by omega) (by omega)
 have o3 := cY Tryd.prog 71 false (x := 2470509568 + d + n * 32) (v := m) (p := 65536) (q := 1) 16 0 rfl rfl (by omega) (by omega) (by omega) (by omega) (by omega)
 have t1 := cN Tryd.prog 71 true (v := imm) (p := 65536) (b := 16) 16 rfl (by decide) rfl (by omega) (by omega)
 have t2 := cY Tryd.prog 71 false (x := 2470509568 + d + n * 32 + m * 65536) (v := imm) (p := 65536) (q := 64) 16 6 rfl rfl (by omega) (by omega) (by omega) (by omega) (by omega)
 have ew : cI ⟨14, d, n, m, a, imm⟩ = 2470509568 + d + n * 32 + m * 65536 + imm * 65536 := rfl
 rw [ew]
 simp only [iF, aN, Int.reduceEq, if_true, if_false, ↓reduceIte] at r2 r3
 clear ew
 rw [aG.step]
 unfold aG.c
 refine dX ?_
 have fx := aOO r1 <| aOO r2 <| aOO r3 <| aOO c1 <| aOO c2 <| aOO c3 <| aOO s1 <| aOO s2 <| aOO o1 <| aOO o2 <| aOO o3 <| aOO t1 <| t2
 refine gC ?_
 all_goals first | exact mY rfl rfl | (refine mY ?_ rfl; omega)
theorem aIr (G : aI) (k : Nat) (d n m a imm : Int) (h : aT ⟨15, d, n, m, a, imm⟩ = true) : aG.f G (k + 6) [mV 15 d n m a imm] [] = some (.tup [cX (cI ⟨15, d, n, m, a, imm⟩), .bool true], []) := by
 have r1 : ∀ H, aE (aS.f G (k + 5)) [mV 15 d n m a imm] H = _ := fun H => aD (H := H) (eM G k 15 d n m a imm) rfl rfl
 have r2 : ∀ H, aE (aM.f G (k + 5)) [.int .i64 15] H = _ := fun H => aD (H := H) (fA G (k + 1) 15) rfl rfl
 have r3 : ∀ H, aE (aY.f G (k + 5)) [.int .i64 15] H = _ := fun H => aD (H := H) (fK G (k + 4) 15 (by decide)) rfl rfl
 rw [h] at r1
 unfold aT at h
 rw [Bool.and_eq_true] at h
 obtain ⟨_, h⟩ := h
 simp [aN, dS, fP, dA, fW, dU, dB] at h
 have c1 : aJ .u32 (I6 d) = some (cX d) := bB (by omega) (by omega)
 have c2 : aJ .u32 (I6 n) = some (cX n) := bB (by omega) (by omega)
 have c3 : aJ .u32 (I6 m) = some (cX m) := bB (by omega) (by omega)
 have s1 := cN Tryd.prog 71 true (v := n) (p := 32) (b := 5) 5 rfl (by decide) rfl (by omega) (by omega)
 have s2 := cN Tryd.prog 71 true (v := m) (p := 65536) (b := 16) 16 rfl (by decide) rfl (by omega) (by omega)
 have o1 := gJ Tryd.prog 71 false (x := 3942645791) (v := d) (q := 1) 0 rfl (by omega) (by omega) (by omega) (by omega) (by omega)
 have o2 := cY Tryd.prog 71 false (x := 3942645791 + d) (v := n) (p := 32) (q := 32) 5 5 rfl rfl (by omega) (by omega) (by omega) (by omega) (by omega)
 have o3 := cY Tryd.prog 71 false (x := 3942645791 + d + n * 32) (v := m) (p := 65536) (q := 32) 16 5 rfl rfl (by omega) (by omega) (by omega) (by omega) (by omega)
 have ew : cI ⟨15, d, n, m, a, imm⟩ = 3942645791 + d + n * 32 + m * 65536 + 0 := rfl
 rw [ew]
 simp only [iF, aN, Int.reduceEq, if_true, if_false, ↓reduceIte] at r2 r3
 clear ew
 rw [aG.step]
 unfold aG.c
 refine dX ?_
 have fx := aOO r1 <| aOO r2 <| aOO r3 <| aOO c1 <| aOO c2 <| aOO c3 <| aOO s1 <| aOO s2 <| aOO o1 <| aOO o2 <| o3
 refine gC ?_
 all_goals first | exact mY rfl rfl | (refine mY ?_ rfl; omega)
theorem aIs (G : aI) (k : Nat) (d n m a imm : Int) (h : aT ⟨16, d, n, m, a, imm⟩ = true) : aG.f G (k + 6) [mV 16 d n m a imm] [] = some (.tup [cX (cI ⟨16, d, n, m, a, imm⟩), .bool true], []) := by
 have r1 : ∀ H, aE (aS.f G (k + 5)) [mV 16 d n m a imm] H = _ := fun H => aD (H := H) (eM G k 16 d n m a imm) rfl rfl
 have r2 : ∀ H, aE (aM.f G (k + 5)) [.int .i64 16] H = _ := fun H => aD (H := H) (fA G (k + 1) 16) rfl rfl
 have r3 : ∀ H, aE (aY.f G (k + 5)) [.int .i64 16] H = _ := fun H => aD (H := H) (fK G (k + 4) 16 (by decide)) rfl rfl
 rw [h] at r1
 unfold aT at h
 rw [Bool.and_eq_true] at h
 obtain ⟨_, h⟩ := h
 simp [aN, dS, fP, dA, fW, dU, dB] at h
 have c1 : aJ .u32 (I6 d) = some (cX d) := bB (by omega) (by omega)
 have c2 : aJ .u32 (I6 n) = some (cX n) := bB (by omega) (by omega)
 have c3 : aJ .u32 (I6 m) = some (cX m) := bB (by omega) (by omega)
 have s1 := cN Tryd.prog 71 true (v := n) (p := 32) (b := 5) 5 rfl (by decide) rfl (by omega) (by omega)
 have s2 := cN Tryd.prog 71 true (v := m) (p := 65536) (b := 16) 16 rfl (by decide) rfl (by omega) (by omega)
 have o1 := gJ Tryd.prog 71 false (x := 2592079872) (v := d) (q := 32) 5 rfl (by omega) (by omega) (by omega) (by omega) (by omega)
 have o2 := cY Tryd.prog 71 false (x := 2592079872 + d) (v := n) (p := 32) (q := 32) 5 5 rfl rfl (by omega) (by omega) (by omega) (by omega) (by omega)
 have o3 := cY Tryd.prog 71 false (x := 2592079872 + d + n * 32) (v := m) (p := 65536) (q := 32) 16 5 rfl rfl (by omega) (by omega) (by omega) (by omega) (by omega)
 have t1 := cN Tryd.prog 71 true (v := a) (p := 4096) (b := 12) 12 rfl (by decide) rfl (by omega) (by omega)
 have t2 := cY Tryd.prog 71 false (x := 2592079872 + d + n * 32 + m * 65536) (v := a) (p := 4096) (q := 16) 12 4 rfl rfl (by omega) (by omega) (by omega) (by omega) (by omega)
 have ew : cI ⟨16, d, n, m, a, imm⟩ = 2592079872 + d + n * 32 + m * 65536 + a * 4096 := rfl
 rw [ew]
 simp only [iF, aN, Int.reduceEq, if_true, if_false, ↓reduceIte] at r2 r3
 clear ew
 rw [aG.step]
 unfold aG.c
 refine dX ?_
 have fx := aOO r1 <| aOO r2 <| aOO r3 <| aOO c1 <| aOO c2 <| aOO c3 <| aOO s1 <| aOO s2 <| aOO o1 <| aOO o2 <| aOO o3 <| aOO t1 <| t2
 refine gC ?_
 all_goals first | exact mY rfl rfl | (refine mY ?_ rfl; omega)
theorem aIt (G : aI) (k : Nat) (d n m a imm : Int) (h : aT ⟨17, d, n, m, a, imm⟩ = true) : aG.f G (k + 6) [mV 17 d n m a imm] [] = some (.tup [cX (cI ⟨17, d, n, m, a, imm⟩), .bool true], []) := by
 have r1 : ∀ H, aE (aS.f G (k + 5)) [mV 17 d n m a imm] H = _ := fun H => aD (H := H) (eM G k 17 d n m a imm) rfl rfl
 have r2 : ∀ H, aE (aM.f G (k + 5)) [.int .i64 17] H = _ := fun H => aD (H := H) (fA G (k + 1) 17) rfl rfl
 have r3 : ∀ H, aE (aY.f G (k + 5)) [.int .i64 17] H = _ := fun H => aD (H := H) (fK G (k + 4) 17 (by decide)) rfl rfl
 rw [h] at r1
 unfold aT at h
 rw [Bool.and_eq_true] at h
 obtain ⟨_, h⟩ := h
 simp [aN, dS, fP, dA, fW, dU, dB] at h
 have c1 : aJ .u32 (I6 d) = some (cX d) := bB (by omega) (by omega)
 have c2 : aJ .u32 (I6 n) = some (cX n) := bB (by omega) (by omega)
 have c3 : aJ .u32 (I6 m) = some (cX m) := bB (by omega) (by omega)
 have s1 := cN Tryd.prog 71 true (v := n) (p := 32) (b := 5) 5 rfl (by decide) rfl (by omega) (by omega)
 have s2 := cN Tryd.prog 71 true (v := m) (p := 65536) (b := 16) 16 rfl (by decide) rfl (by omega) (by omega)
 have o1 := gJ Tryd.prog 71 false (x := 2594113504) (v := d) (q := 32) 5 rfl (by omega) (by omega) (by omega) (by omega) (by omega)
 have o2 := cY Tryd.prog 71 false (x := 2594113504 + d) (v := n) (p := 32) (q := 1) 5 0 rfl rfl (by omega) (by omega) (by omega) (by omega) (by omega)
 have o3 := cY Tryd.prog 71 false (x := 2594113504 + d + n * 32) (v := m) (p := 65536) (q := 1) 16 0 rfl rfl (by omega) (by omega) (by omega) (by omega) (by omega)
 have t0 : aQ Tryd.prog .xor 3 true (I6 a) (.int .i64 1) = some (I6 (if a % 2 = 0 then a + 1 else a - 1)) := aLg _ _ _ (by omega) (by omega)
 have t3 : aJ .u32 (I6 (if a % 2 = 0 then a + 1 else a - 1)) = some (cX (if a % 2 = 0 then a + 1 else a - 1)) := bB (by split <;> omega) (by split <;> omega)
 have t1 := cN Tryd.prog 71 true (v := (if a % 2 = 0 then a + 1 else a - 1)) (p := 4096) (b := 12) 12 rfl (by decide) rfl (by split <;> omega) (by split <;> omega)
 have t2 := cY Tryd.prog 71 false (x := 2594113504 + d + n * 32 + m * 65536) (v := (if a % 2 = 0 then a + 1 else a - 1)) (p := 4096) (q := 16) 12 4 rfl rfl (by omega) (by split <;> omega) (by split <;> omega) (by omega) (by split <;> omega)
 have ew : cI ⟨17, d, n, m, a, imm⟩ = 2594113504 + d + n * 32 + m * 65536 + (if a % 2 = 0 then a + 1 else a - 1) * 4096 := rfl
 rw [ew]
 simp only [iF, aN, Int.reduceEq, if_true, if_false, ↓reduceIte] at r2 r3
 clear ew
 rw [aG.step]
 unfold aG.c
 refine dX ?_
 have fx := aOO r1 <| aOO r2 <| aOO r3 <| aOO c1 <| aOO c2 <| aOO c3 <| aOO s1 <| aOO s2 <| aOO o1 <| aOO o2 <| aOO o3 <| aOO t0 <| aOO t3 <| aOO t1 <| t2
 refine gC ?_
 all_goals first | exact mY rfl rfl | (refine mY ?_ rfl; omega)
theorem aIu (G : aI) (k : Nat) (d n m a imm : Int) (h : aT ⟨18, d, n, m, a, imm⟩ = true) : aG.f G (k + 6) [mV 18 d n m a imm] [] = some (.tup [cX (cI ⟨18, d, n, m, a, imm⟩), .bool true], []) := by
 have r1 : ∀ H, aE (aS.f G (k + 5)) [mV 18 d n m a imm] H = _ := fun H => aD (H := H) (eM G k 18 d n m a imm) rfl rfl
 have r2 : ∀ H, aE (aM.f G (k + 5)) [.int .i64 18] H = _ := fun H => aD (H := H) (fA G (k + 1) 18) rfl rfl
 have r3 : ∀ H, aE (aY.f G (k + 5)) [.int .i64 18] H = _ := fun H => aD (H := H) (fK G (k + 4) 18 (by decide)) rfl rfl
 rw [h] at r1
 unfold aT at h
 rw [Bool.and_eq_true] at h
 obtain ⟨_, h⟩ := h
 simp [aN, dS, fP, dA, fW, dU, dB] at h
 have c1 : aJ .u32 (I6 d) = some (cX d) := bB (by omega) (by omega)
 have c2 : aJ .u32 (I6 n) = some (cX n) := bB (by omega) (by omega)
 have c3 : aJ .u32 (I6 m) = some (cX m) := bB (by omega) (by omega)
 have s1 := cN Tryd.prog 71 true (v := n) (p := 32) (b := 5) 5 rfl (by decide) rfl (by omega) (by omega)
 have s2 := cN Tryd.prog 71 true (v := m) (p := 65536) (b := 16) 16 rfl (by decide) rfl (by omega) (by omega)
 have o1 := gJ Tryd.prog 71 false (x := 4181721088) (v := d) (q := 32) 5 rfl (by omega) (by omega) (by omega) (by omega) (by omega)
 have o2 := cY Tryd.prog 71 false (x := 4181721088 + d) (v := n) (p := 32) (q := 32) 5 5 rfl rfl (by omega) (by omega) (by omega) (by omega) (by omega)
 have o3 := cY Tryd.prog 71 false (x := 4181721088 + d + n * 32) (v := m) (p := 65536) (q := 1) 16 0 rfl rfl (by omega) (by omega) (by omega) (by omega) (by omega)
 have t1 := cN Tryd.prog 71 true (v := imm) (p := 1024) (b := 10) 10 rfl (by decide) rfl (by omega) (by omega)
 have t2 := cY Tryd.prog 71 false (x := 4181721088 + d + n * 32 + m * 65536) (v := imm) (p := 1024) (q := 4096) 10 12 rfl rfl (by omega) (by omega) (by omega) (by omega) (by omega)
 have ew : cI ⟨18, d, n, m, a, imm⟩ = 4181721088 + d + n * 32 + m * 65536 + imm * 1024 := rfl
 rw [ew]
 simp only [iF, aN, Int.reduceEq, if_true, if_false, ↓reduceIte] at r2 r3
 clear ew
 rw [aG.step]
 unfold aG.c
 refine dX ?_
 have fx := aOO r1 <| aOO r2 <| aOO r3 <| aOO c1 <| aOO c2 <| aOO c3 <| aOO s1 <| aOO s2 <| aOO o1 <| aOO o2 <| aOO o3 <| aOO t1 <| t2
 refine gC ?_
 all_goals first | exact mY rfl rfl | (refine mY ?_ rfl; omega)
theorem aIv (G : aI) (k : Nat) (d n m a imm : Int) (h : aT ⟨19, d, n, m, a, imm⟩ = true) : aG.f G (k + 6) [mV 19 d n m a imm] [] = some (.tup [cX (cI ⟨19, d, n, m, a, imm⟩), .bool true], []) := by
 have r1 : ∀ H, aE (aS.f G (k + 5)) [mV 19 d n m a imm] H = _ := fun H => aD (H := H) (eM G k 19 d n m a imm) rfl rfl
 have r2 : ∀ H, aE (aM.f G (k + 5)) [.int .i64 19] H = _ := fun H => aD (H := H) (fA G (k + 1) 19) rfl rfl
 have r3 : ∀ H, aE (aY.f G (k + 5)) [.int .i64 19] H = _ := fun H => aD (H := H) (fK G (k + 4) 19 (by decide)) rfl rfl
 rw [h] at r1
 unfold aT at h
 rw [Bool.and_eq_true] at h
 obtain ⟨_, h⟩ := h
 simp [aN, dS, fP, dA, fW, dU, dB] at h
 have c1 : aJ .u32 (I6 d) = some (cX d) := bB (by omega) (by omega)
 have c2 : aJ .u32 (I6 n) = some (cX n) := bB (by omega) (by omega)
 have c3 : aJ .u32 (I6 m) = some (cX m) := bB (by omega) (by omega)
 have s1 := cN Tryd.prog 71 true (v := n) (p := 32) (b := 5) 5 rfl (by decide) rfl (by omega) (by omega)
 have s2 := cN Tryd.prog 71 true (v := m) (p := 65536) (b := 16) 16 rfl (by decide) rfl (by omega) (by omega)
 have o1 := gJ Tryd.prog 71 false (x := 4177526784) (v := d) (q := 32) 5 rfl (by omega) (by omega) (by omega) (by omega) (by omega)
 have o2 := cY Tryd.prog 71 false (x := 4177526784 + d) (v := n) (p := 32) (q := 32) 5 5 rfl rfl (by omega) (by omega) (by omega) (by omega) (by omega)
 have o3 := cY Tryd.prog 71 false (x := 4177526784 + d + n * 32) (v := m) (p := 65536) (q := 1) 16 0 rfl rfl (by omega) (by omega) (by omega) (by omega) (by omega)
 have t1 := cN Tryd.prog 71 true (v := imm) (p := 1024) (b := 10) 10 rfl (by decide) rfl (by omega) (by omega)
 have t2 := cY Tryd.prog 71 false (x := 4177526784 + d + n * 32 + m * 65536) (v := imm) (p := 1024) (q := 4096) 10 12 rfl rfl (by omega) (by omega) (by omega) (by omega) (by omega)
 have ew : cI ⟨19, d, n, m, a, imm⟩ = 4177526784 + d + n * 32 + m * 65536 + imm * 1024 := rfl
 rw [ew]
 simp only [iF, aN, Int.reduceEq, if_true, if_false, ↓reduceIte] at r2 r3
 clear ew
 rw [aG.step]
 unfold aG.c
 refine dX ?_
 have fx := aOO r1 <| aOO r2 <| aOO r3 <| aOO c1 <| aOO c2 <| aOO c3 <| aOO s1 <| aOO s2 <| aOO o1 <| aOO o2 <| aOO o3 <| aOO t1 <| t2
 refine gC ?_
 all_goals first | exact mY rfl rfl | (refine mY ?_ rfl; omega)
theorem aIw (G : aI) (k : Nat) (d n m a imm : Int) (h : aT ⟨20, d, n, m, a, imm⟩ = true) : aG.f G (k + 6) [mV 20 d n m a imm] [] = some (.tup [cX (cI ⟨20, d, n, m, a, imm⟩), .bool true], []) := by
 have r1 : ∀ H, aE (aS.f G (k + 5)) [mV 20 d n m a imm] H = _ := fun H => aD (H := H) (eM G k 20 d n m a imm) rfl rfl
 have r2 : ∀ H, aE (aM.f G (k + 5)) [.int .i64 20] H = _ := fun H => aD (H := H) (fA G (k + 1) 20) rfl rfl
 have r3 : ∀ H, aE (aY.f G (k + 5)) [.int .i64 20] H = _ := fun H => aD (H := H) (fK G (k + 4) 20 (by decide)) rfl rfl
 rw [h] at r1
 unfold aT at h
 rw [Bool.and_eq_true] at h
 obtain ⟨_, h⟩ := h
 simp [aN, dS, fP, dA, fW, dU, dB] at h
 have c1 : aJ .u32 (I6 d) = some (cX d) := bB (by omega) (by omega)
 have c2 : aJ .u32 (I6 n) = some (cX n) := bB (by omega) (by omega)
 have c3 : aJ .u32 (I6 m) = some (cX m) := bB (by omega) (by omega)
 have s1 := cN Tryd.prog 71 true (v := n) (p := 32) (b := 5) 5 rfl (by decide) rfl (by omega) (by omega)
 have s2 := cN Tryd.prog 71 true (v := m) (p := 65536) (b := 16) 16 rfl (by decide) rfl (by omega) (by omega)
 have o1 := gJ Tryd.prog 71 false (x := 335544320) (v := d) (q := 1) 0 rfl (by omega) (by omega) (by omega) (by omega) (by omega)
 have o2 := cY Tryd.prog 71 false (x := 335544320 + d) (v := n) (p := 32) (q := 1) 5 0 rfl rfl (by omega) (by omega) (by omega) (by omega) (by omega)
 have o3 := cY Tryd.prog 71 false (x := 335544320 + d + n * 32) (v := m) (p := 65536) (q := 1) 16 0 rfl rfl (by omega) (by omega) (by omega) (by omega) (by omega)
 have t1 : aQ Tryd.prog .and 71 true (cX (imm % 4294967296)) (.int .u32 67108863) = some (cX (imm % 67108864)) := by
  have := iT Tryd.prog 71 true (x := imm % 4294967296) (q := 67108863) 26 (by decide) rfl (by omega) (by omega)
  rw [this]; congr 2; omega
 have t2 := gJ Tryd.prog 71 false (x := 335544320 + d + n * 32 + m * 65536) (v := (imm % 67108864)) (q := 67108864) 26 rfl (by omega) (by omega) (by omega) (by omega) (by omega)
 have ew : cI ⟨20, d, n, m, a, imm⟩ = 335544320 + d + n * 32 + m * 65536 + imm % 67108864 := rfl
 rw [ew]
 simp only [iF, aN, Int.reduceEq, if_true, if_false, ↓reduceIte] at r2 r3
 clear ew
 rw [aG.step]
 unfold aG.c
 refine dX ?_
 have fx := aOO r1 <| aOO r2 <| aOO r3 <| aOO c1 <| aOO c2 <| aOO c3 <| aOO s1 <| aOO s2 <| aOO o1 <| aOO o2 <| aOO o3 <| aOO cvM <| aOO t1 <| t2
 refine gC ?_
 all_goals first | exact mY rfl rfl | (refine mY ?_ rfl; omega)
theorem aIx (G : aI) (k : Nat) (d n m a imm : Int) (h : aT ⟨21, d, n, m, a, imm⟩ = true) : aG.f G (k + 6) [mV 21 d n m a imm] [] = some (.tup [cX (cI ⟨21, d, n, m, a, imm⟩), .bool true], []) := by
 have r1 : ∀ H, aE (aS.f G (k + 5)) [mV 21 d n m a imm] H = _ := fun H => aD (H := H) (eM G k 21 d n m a imm) rfl rfl
 have r2 : ∀ H, aE (aM.f G (k + 5)) [.int .i64 21] H = _ := fun H => aD (H := H) (fA G (k + 1) 21) rfl rfl
 have r3 : ∀ H, aE (aY.f G (k + 5)) [.int .i64 21] H = _ := fun H => aD (H := H) (fK G (k + 4) 21 (by decide)) rfl rfl
 rw [h] at r1
 unfold aT at h
 rw [Bool.and_eq_true] at h
 obtain ⟨_, h⟩ := h
 simp [aN, dS, fP, dA, fW, dU, dB] at h
 have c1 : aJ .u32 (I6 d) = some (cX d) := bB (by omega) (by omega)
 have c2 : aJ .u32 (I6 n) = some (cX n) := bB (by omega) (by omega)
 have c3 : aJ .u32 (I6 m) = some (cX m) := bB (by omega) (by omega)
 have s1 := cN Tryd.prog 71 true (v := n) (p := 32) (b := 5) 5 rfl (by decide) rfl (by omega) (by omega)
 have s2 := cN Tryd.prog 71 true (v := m) (p := 65536) (b := 16) 16 rfl (by decide) rfl (by omega) (by omega)
 have o1 := gJ Tryd.prog 71 false (x := 1409286144) (v := d) (q := 1) 0 rfl (by omega) (by omega) (by omega) (by omega) (by omega)
 have o2 := cY Tryd.prog 71 false (x := 1409286144 + d) (v := n) (p := 32) (q := 1) 5 0 rfl rfl (by omega) (by omega) (by omega) (by omega) (by omega)
 have o3 := cY Tryd.prog 71 false (x := 1409286144 + d + n * 32) (v := m) (p := 65536) (q := 1) 16 0 rfl rfl (by omega) (by omega) (by omega) (by omega) (by omega)
 have t0 : aJ .u32 (I6 a) = some (cX a) := bB (by omega) (by omega)
 have t1 := gJ Tryd.prog 71 false (x := 1409286144 + d + n * 32 + m * 65536) (v := a) (q := 16) 4 rfl (by omega) (by omega) (by omega) (by omega) (by omega)
 have t2 : aQ Tryd.prog .and 71 true (cX (imm % 4294967296)) (.int .u32 524287) = some (cX (imm % 524288)) := by
  have := iT Tryd.prog 71 true (x := imm % 4294967296) (q := 524287) 19 (by decide) rfl (by omega) (by omega)
  rw [this]; congr 2; omega
 have t3 := cN Tryd.prog 71 true (v := (imm % 524288)) (p := 32) (b := 5) 5 rfl (by decide) rfl (by omega) (by omega)
 have t4 := cY Tryd.prog 71 false (x := 1409286144 + d + n * 32 + m * 65536 + a) (v := (imm % 524288)) (p := 32) (q := 524288) 5 19 rfl rfl (by omega) (by omega) (by omega) (by omega) (by omega)
 have ew : cI ⟨21, d, n, m, a, imm⟩ = 1409286144 + d + n * 32 + m * 65536 + (a + imm % 524288 * 32) := rfl
 rw [ew]
 simp only [iF, aN, Int.reduceEq, if_true, if_false, ↓reduceIte] at r2 r3
 clear ew
 rw [aG.step]
 unfold aG.c
 refine dX ?_
 have fx := aOO r1 <| aOO r2 <| aOO r3 <| aOO c1 <| aOO c2 <| aOO c3 <| aOO s1 <| aOO s2 <| aOO o1 <| aOO o2 <| aOO o3 <| aOO t0 <| aOO cvM <| aOO t1 <| aOO t2 <| aOO t3 <| t4
 refine gC ?_
 all_goals first | exact mY rfl rfl | (refine mY ?_ rfl; omega)
theorem aIy (G : aI) (k : Nat) (d n m a imm : Int) (h : aT ⟨22, d, n, m, a, imm⟩ = true) : aG.f G (k + 6) [mV 22 d n m a imm] [] = some (.tup [cX (cI ⟨22, d, n, m, a, imm⟩), .bool true], []) := by
 have r1 : ∀ H, aE (aS.f G (k + 5)) [mV 22 d n m a imm] H = _ := fun H => aD (H := H) (eM G k 22 d n m a imm) rfl rfl
 have r2 : ∀ H, aE (aM.f G (k + 5)) [.int .i64 22] H = _ := fun H => aD (H := H) (fA G (k + 1) 22) rfl rfl
 have r3 : ∀ H, aE (aY.f G (k + 5)) [.int .i64 22] H = _ := fun H => aD (H := H) (fK G (k + 4) 22 (by decide)) rfl rfl
 rw [h] at r1
 unfold aT at h
 rw [Bool.and_eq_true] at h
 obtain ⟨_, h⟩ := h
 simp [aN, dS, fP, dA, fW, dU, dB] at h
 have c1 : aJ .u32 (I6 d) = some (cX d) := bB (by omega) (by omega)
 have c2 : aJ .u32 (I6 n) = some (cX n) := bB (by omega) (by omega)
 have c3 : aJ .u32 (I6 m) = some (cX m) := bB (by omega) (by omega)
 have s1 := cN Tryd.prog 71 true (v := n) (p := 32) (b := 5) 5 rfl (by decide) rfl (by omega) (by omega)
 have s2 := cN Tryd.prog 71 true (v := m) (p := 65536) (b := 16) 16 rfl (by decide) rfl (by omega) (by omega)
 have o1 := gJ Tryd.prog 71 false (x := 3019898880) (v := d) (q := 32) 5 rfl (by omega) (by omega) (by omega) (by omega) (by omega)
 have o2 := cY Tryd.prog 71 false (x := 3019898880 + d) (v := n) (p := 32) (q := 1) 5 0 rfl rfl (by omega) (by omega) (by omega) (by omega) (by omega)
 have o3 := cY Tryd.prog 71 false (x := 3019898880 + d + n * 32) (v := m) (p := 65536) (q := 1) 16 0 rfl rfl (by omega) (by omega) (by omega) (by omega) (by omega)
 have t2 : aQ Tryd.prog .and 71 true (cX (imm % 4294967296)) (.int .u32 524287) = some (cX (imm % 524288)) := by
  have := iT Tryd.prog 71 true (x := imm % 4294967296) (q := 524287) 19 (by decide) rfl (by omega) (by omega)
  rw [this]; congr 2; omega
 have t3 := cN Tryd.prog 71 true (v := (imm % 524288)) (p := 32) (b := 5) 5 rfl (by decide) rfl (by omega) (by omega)
 have t4 := cY Tryd.prog 71 false (x := 3019898880 + d + n * 32 + m * 65536) (v := (imm % 524288)) (p := 32) (q := 524288) 5 19 rfl rfl (by omega) (by omega) (by omega) (by omega) (by omega)
 have ew : cI ⟨22, d, n, m, a, imm⟩ = 3019898880 + d + n * 32 + m * 65536 + imm % 524288 * 32 := rfl
 rw [ew]
 simp only [iF, aN, Int.reduceEq, if_true, if_false, ↓reduceIte] at r2 r3
 clear ew
 rw [aG.step]
 unfold aG.c
 refine dX ?_
 have fx := aOO r1 <| aOO r2 <| aOO r3 <| aOO c1 <| aOO c2 <| aOO c3 <| aOO s1 <| aOO s2 <| aOO o1 <| aOO o2 <| aOO o3 <| aOO cvM <| aOO t2 <| aOO t3 <| t4
 refine gC ?_
 all_goals first | exact mY rfl rfl | (refine mY ?_ rfl; omega)
theorem aIz (G : aI) (k : Nat) (d n m a imm : Int) (h : aT ⟨23, d, n, m, a, imm⟩ = true) : aG.f G (k + 6) [mV 23 d n m a imm] [] = some (.tup [cX (cI ⟨23, d, n, m, a, imm⟩), .bool true], []) := by
 have r1 : ∀ H, aE (aS.f G (k + 5)) [mV 23 d n m a imm] H = _ := fun H => aD (H := H) (eM G k 23 d n m a imm) rfl rfl
 have r2 : ∀ H, aE (aM.f G (k + 5)) [.int .i64 23] H = _ := fun H => aD (H := H) (fA G (k + 1) 23) rfl rfl
 have r3 : ∀ H, aE (aY.f G (k + 5)) [.int .i64 23] H = _ := fun H => aD (H := H) (fK G (k + 4) 23 (by decide)) rfl rfl
 rw [h] at r1
 unfold aT at h
 rw [Bool.and_eq_true] at h
 obtain ⟨_, h⟩ := h
 simp [aN, dS, fP, dA, fW, dU, dB] at h
 have c1 : aJ .u32 (I6 d) = some (cX d) := bB (by omega) (by omega)
 have c2 : aJ .u32 (I6 n) = some (cX n) := bB (by omega) (by omega)
 have c3 : aJ .u32 (I6 m) = some (cX m) := bB (by omega) (by omega)
 have s1 := cN Tryd.prog 71 true (v := n) (p := 32) (b := 5) 5 rfl (by decide) rfl (by omega) (by omega)
 have s2 := cN Tryd.prog 71 true (v := m) (p := 65536) (b := 16) 16 rfl (by decide) rfl (by omega) (by omega)
 have o1 := gJ Tryd.prog 71 false (x := 3036676096) (v := d) (q := 32) 5 rfl (by omega) (by omega) (by omega) (by omega) (by omega)
 have o2 := cY Tryd.prog 71 false (x := 3036676096 + d) (v := n) (p := 32) (q := 1) 5 0 rfl rfl (by omega) (by omega) (by omega) (by omega) (by omega)
 have o3 := cY Tryd.prog 71 false (x := 3036676096 + d + n * 32) (v := m) (p := 65536) (q := 1) 16 0 rfl rfl (by omega) (by omega) (by omega) (by omega) (by omega)
 have t2 : aQ Tryd.prog .and 71 true (cX (imm % 4294967296)) (.int .u32 524287) = some (cX (imm % 524288)) := by
  have := iT Tryd.prog 71 true (x := imm % 4294967296) (q := 524287) 19 (by decide) rfl (by omega) (by omega)
  rw [this]; congr 2; omega
 have t3 := cN Tryd.prog 71 true (v := (imm % 524288)) (p := 32) (b := 5) 5 rfl (by decide) rfl (by omega) (by omega)
 have t4 := cY Tryd.prog 71 false (x := 3036676096 + d + n * 32 + m * 65536) (v := (imm % 524288)) (p := 32) (q := 524288) 5 19 rfl rfl (by omega) (by omega) (by omega) (by omega) (by omega)
 have ew : cI ⟨23, d, n, m, a, imm⟩ = 3036676096 + d + n * 32 + m * 65536 + imm % 524288 * 32 := rfl
 rw [ew]
 simp only [iF, aN, Int.reduceEq, if_true, if_false, ↓reduceIte] at r2 r3
 clear ew
 rw [aG.step]
 unfold aG.c
 refine dX ?_
 have fx := aOO r1 <| aOO r2 <| aOO r3 <| aOO c1 <| aOO c2 <| aOO c3 <| aOO s1 <| aOO s2 <| aOO o1 <| aOO o2 <| aOO o3 <| aOO cvM <| aOO t2 <| aOO t3 <| t4
 refine gC ?_
 all_goals first | exact mY rfl rfl | (refine mY ?_ rfl; omega)
theorem aIA (G : aI) (k : Nat) (d n m a imm : Int) (h : aT ⟨24, d, n, m, a, imm⟩ = true) : aG.f G (k + 6) [mV 24 d n m a imm] [] = some (.tup [cX (cI ⟨24, d, n, m, a, imm⟩), .bool true], []) := by
 have r1 : ∀ H, aE (aS.f G (k + 5)) [mV 24 d n m a imm] H = _ := fun H => aD (H := H) (eM G k 24 d n m a imm) rfl rfl
 have r2 : ∀ H, aE (aM.f G (k + 5)) [.int .i64 24] H = _ := fun H => aD (H := H) (fA G (k + 1) 24) rfl rfl
 have r3 : ∀ H, aE (aY.f G (k + 5)) [.int .i64 24] H = _ := fun H => aD (H := H) (fK G (k + 4) 24 (by decide)) rfl rfl
 rw [h] at r1
 unfold aT at h
 rw [Bool.and_eq_true] at h
 obtain ⟨_, h⟩ := h
 simp [aN, dS, fP, dA, fW, dU, dB] at h
 have c1 : aJ .u32 (I6 d) = some (cX d) := bB (by omega) (by omega)
 have c2 : aJ .u32 (I6 n) = some (cX n) := bB (by omega) (by omega)
 have c3 : aJ .u32 (I6 m) = some (cX m) := bB (by omega) (by omega)
 have s1 := cN Tryd.prog 71 true (v := n) (p := 32) (b := 5) 5 rfl (by decide) rfl (by omega) (by omega)
 have s2 := cN Tryd.prog 71 true (v := m) (p := 65536) (b := 16) 16 rfl (by decide) rfl (by omega) (by omega)
 have o1 := gJ Tryd.prog 71 false (x := 3560964096) (v := d) (q := 1) 0 rfl (by omega) (by omega) (by omega) (by omega) (by omega)
 have o2 := cY Tryd.prog 71 false (x := 3560964096 + d) (v := n) (p := 32) (q := 1) 5 0 rfl rfl (by omega) (by omega) (by omega) (by omega) (by omega)
 have o3 := cY Tryd.prog 71 false (x := 3560964096 + d + n * 32) (v := m) (p := 65536) (q := 1) 16 0 rfl rfl (by omega) (by omega) (by omega) (by omega) (by omega)
 have t1 := cN Tryd.prog 71 true (v := imm) (p := 32) (b := 5) 5 rfl (by decide) rfl (by omega) (by omega)
 have t2 := cY Tryd.prog 71 false (x := 3560964096 + d + n * 32 + m * 65536) (v := imm) (p := 32) (q := 65536) 5 16 rfl rfl (by omega) (by omega) (by omega) (by omega) (by omega)
 have ew : cI ⟨24, d, n, m, a, imm⟩ = 3560964096 + d + n * 32 + m * 65536 + imm * 32 := rfl
 rw [ew]
 simp only [iF, aN, Int.reduceEq, if_true, if_false, ↓reduceIte] at r2 r3
 clear ew
 rw [aG.step]
 unfold aG.c
 refine dX ?_
 have fx := aOO r1 <| aOO r2 <| aOO r3 <| aOO c1 <| aOO c2 <| aOO c3 <| aOO s1 <| aOO s2 <| aOO o1 <| aOO o2 <| aOO o3 <| aOO t1 <| t2
 refine gC ?_
 all_goals first | exact mY rfl rfl | (refine mY ?_ rfl; omega)
theorem gF (G : aI) (k : Nat) (i : MI) : aG.f G (k + 6) [i.v] [] = some (.tup [cX (nV i), .bool (aT i)], []) := by
 cases hr : aT i
 ·have e : nV i = 0 := by unfold nV; rw [hr]; rfl
  rw [e]
  obtain ⟨op, d, n, m, a, imm⟩ := i
  show aG.f G (k + 6) [mV op d n m a imm] [] = _
  have r1 : ∀ H, aE (aS.f G (k + 5)) [mV op d n m a imm] H = _ := fun H => aD (H := H) (eM G k op d n m a imm) rfl rfl
  rw [hr] at r1
  rw [aG.step]
  unfold aG.c
  refine dX ?_
  have fx := r1
  refine gC ?_
  exact w2 rfl rfl rfl
 ·have e : nV i = cI i := by unfold nV; rw [hr]; rfl
  rw [e]
  obtain ⟨op, d, n, m, a, imm⟩ := i
  show aG.f G (k + 6) [mV op d n m a imm] [] = _
  have h24 : 1 ≤ op ∧ op ≤ 24 := pS hr
  rcases xE h24 with rfl | rfl | rfl | rfl | rfl | rfl | rfl | rfl | rfl | rfl | rfl | rfl | rfl | rfl | rfl | rfl | rfl | rfl | rfl | rfl | rfl | rfl | rfl | rfl
  ·exact aJQ G k d n m a imm hr
  ·exact aJR G k d n m a imm hr
  ·exact aJS G k d n m a imm hr
  ·exact aJT G k d n m a imm hr
  ·exact aJU G k d n m a imm hr
  ·exact aJV G k d n m a imm hr
  ·exact aJW G k d n m a imm hr
  ·exact aJX G k d n m a imm hr
  ·exact aJY G k d n m a imm hr
  ·exact aIm G k d n m a imm hr
  ·exact aIn G k d n m a imm hr
  ·exact aIo G k d n m a imm hr
  ·exact aIp G k d n m a imm hr
  ·exact aIq G k d n m a imm hr
  ·exact aIr G k d n m a imm hr
  ·exact aIs G k d n m a imm hr
  ·exact aIt G k d n m a imm hr
  ·exact aIu G k d n m a imm hr
  ·exact aIv G k d n m a imm hr
  ·exact aIw G k d n m a imm hr
  ·exact aIx G k d n m a imm hr
  ·exact aIy G k d n m a imm hr
  ·exact aIz G k d n m a imm hr
  ·exact aIA G k d n m a imm hr
theorem uD (G : aI) (k : Nat) (w b h : Int) (hb : (b = 19 ∧ h = 262144) ∨ (b = 26 ∧ h = 33554432)) (h0 : 0 ≤ w) (h1 : w < 4294967296) : bI.f G (k + 1) [cX w, I6 b] [] = some (I6 (aEJ (w % (2 * h)) h), []) := by
 rw [bI.step]
 unfold bI.c aEJ
 obtain ⟨s1, s2, s3, s4, s5, s6, s7⟩ : aJ .u64 (I6 b) = some (.int .u64 b) ∧ aQ Tryd.prog .shl 71 true (.int .u32 1) (.int .u64 b) = some (cX (2 * h)) ∧ aQ Tryd.prog .sub 71 true (cX (2 * h)) (.int .u32 1) = some (cX (2 * h - 1)) ∧ aQ Tryd.prog .sub 3 true (I6 b) (.int .i64 1) = some (I6 (b - 1)) ∧
   aJ .u64 (I6 (b - 1)) = some (.int .u64 (b - 1)) ∧ aQ Tryd.prog .shl 3 true (.int .i64 1) (.int .u64 (b - 1)) = some (I6 h) ∧ aQ Tryd.prog .shl 3 true (.int .i64 1) (.int .u64 b) = some (I6 (2 * h)) := by
  clear h0 h1
  rcases hb with ⟨rfl, rfl⟩ | ⟨rfl, rfl⟩
  ·exact ⟨by kernel_rfl, by kernel_rfl, by kernel_rfl, by kernel_rfl, by kernel_rfl, by kernel_rfl, by kernel_rfl⟩
  ·exact ⟨by kernel_rfl, by kernel_rfl, by kernel_rfl, by kernel_rfl, by kernel_rfl, by kernel_rfl, by kernel_rfl⟩
 have s8 : aQ Tryd.prog .and 71 false (cX w) (cX (2 * h - 1)) = some (cX (w % (2 * h))) := by
  rcases hb with ⟨rfl, rfl⟩ | ⟨rfl, rfl⟩
  ·exact iT Tryd.prog 71 false (x := w) (q := 524287) 19 (by decide) rfl h0 h1
  ·exact iT Tryd.prog 71 false (x := w) (q := 67108863) 26 (by decide) rfl h0 h1
 have m0 : 0 ≤ w % (2 * h) := Int.emod_nonneg _ (by omega)
 have m1 : w % (2 * h) < 2 * h := Int.emod_lt_of_pos _ (by omega)
 have hh : 0 ≤ h ∧ h ≤ 33554432 := by omega
 clear hb
 generalize w % (2 * h) = z at *
 refine dX ?_
 by_cases hc : h ≤ z
 ·rw [if_pos hc]
  have fx := aOO s1 <| aOO s2 <| aOO s3 <| aOO s4 <| aOO s5 <| aOO s6 <| aOO s7 <| s8
  refine gC ?_
  exact sN rfl
 ·rw [if_neg hc]
  have fx := aOO s1 <| aOO s2 <| aOO s3 <| aOO s4 <| aOO s5 <| aOO s6 <| aOO s7 <| s8
  refine gC ?_
  exact sN rfl
def nG (op w : Int) : MI := if op = 12 then ⟨12, w % 32, w / 32 % 32, 0, 0, (64 - w / 65536 % 64) % 64⟩ else asF op w
def uB (op w : Int) : Bool := aT (nG op w) && decide (cI (nG op w) = w)
def aDz (op w : Int) : AV := if uB op w = true then .tup [(nG op w).v, .bool true] else .tup [mV 0 0 0 0 0 0, .bool false]
theorem aDA (G : aI) (k : Nat) (op w : Int) (hop : 1 ≤ op ∧ op ≤ 24) (h0 : 0 ≤ w) (h1 : w < 4294967296) : cJ.f G (k + 7) [I6 op, cX w] [] = some (aDz op w, []) := by
 rw [cJ.step]
 unfold cJ.c
 have r1 : ∀ H, aE (aM.f G (k + 6)) [I6 op] H = _ := fun H => aD (H := H) (fA G (k + 2) op) rfl rfl
 have r3 : ∀ H, aE (aG.f G (k + 6)) [(nG op w).v] H = _ := fun H => aD (H := H) (gF G k (nG op w)) rfl rfl
 have r4 : aT (nG op w) = true → nV (nG op w) = cI (nG op w) := fun h => by unfold nV; rw [if_pos h]
 have d1 : 0 ≤ w / 32 ∧ w / 32 < 4294967296 := by omega
 have g19 : ∀ H, aE (bI.f G (k + 6)) [cX (w / 32), .int .i64 19] H = some (I6 (aEJ (w / 32 % 524288) 262144), H) := fun H => aD (H := H) (uD G (k + 5) (w / 32) 19 262144 (.inl ⟨rfl, rfl⟩) d1.1 d1.2) rfl rfl
 have g26 : ∀ H, aE (bI.f G (k + 6)) [cX w, .int .i64 26] H = some (I6 (aEJ (w % 67108864) 33554432), H) := fun H => aD (H := H) (uD G (k + 5) w 26 33554432 (.inr ⟨rfl, rfl⟩) h0 h1) rfl rfl
 have s5 := aDH Tryd.prog 71 true .u64 (v := w) (p := 32) (b := 5) 5 rfl (by decide) rfl h0
 have s10 := aDH Tryd.prog 71 true .u64 (v := w) (p := 1024) (b := 10) 10 rfl (by decide) rfl h0
 have s12 := aDH Tryd.prog 71 true .u64 (v := w) (p := 4096) (b := 12) 12 rfl (by decide) rfl h0
 have s16 := aDH Tryd.prog 71 true .u64 (v := w) (p := 65536) (b := 16) 16 rfl (by decide) rfl h0
 have s21 := aDH Tryd.prog 71 true .u64 (v := w) (p := 2097152) (b := 21) 21 rfl (by decide) rfl h0
 have a0 : aQ Tryd.prog .and 71 true (cX w) (.int .u32 31) = some (cX (w % 32)) := iT _ _ _ (x := w) (q := 31) 5 (by decide) rfl (by omega) (by omega)
 have a5 : aQ Tryd.prog .and 71 true (cX (w / 32)) (.int .u32 31) = some (cX (w / 32 % 32)) := iT _ _ _ (x := w / 32) (q := 31) 5 (by decide) rfl (by omega) (by omega)
 have a16 : aQ Tryd.prog .and 71 true (cX (w / 65536)) (.int .u32 31) = some (cX (w / 65536 % 32)) := iT _ _ _ (x := w / 65536) (q := 31) 5 (by decide) rfl (by omega) (by omega)
 have a21 : aQ Tryd.prog .and 71 true (cX (w / 2097152)) (.int .u32 3) = some (cX (w / 2097152 % 4)) := iT _ _ _ (x := w / 2097152) (q := 3) 2 (by decide) rfl (by omega) (by omega)
 have a10 : aQ Tryd.prog .and 71 true (cX (w / 1024)) (.int .u32 31) = some (cX (w / 1024 % 32)) := iT _ _ _ (x := w / 1024) (q := 31) 5 (by decide) rfl (by omega) (by omega)
 have a12 : aQ Tryd.prog .and 71 true (cX (w / 4096)) (.int .u32 15) = some (cX (w / 4096 % 16)) := iT _ _ _ (x := w / 4096) (q := 15) 4 (by decide) rfl (by omega) (by omega)
 have a4 : aQ Tryd.prog .and 71 true (cX w) (.int .u32 15) = some (cX (w % 16)) := iT _ _ _ (x := w) (q := 15) 4 (by decide) rfl (by omega) (by omega)
 have b16 : aQ Tryd.prog .and 71 true (cX (w / 65536)) (.int .u32 63) = some (cX (w / 65536 % 64)) := iT _ _ _ (x := w / 65536) (q := 63) 6 (by decide) rfl (by omega) (by omega)
 have b10 : aQ Tryd.prog .and 71 true (cX (w / 1024)) (.int .u32 4095) = some (cX (w / 1024 % 4096)) := iT _ _ _ (x := w / 1024) (q := 4095) 12 (by decide) rfl (by omega) (by omega)
 have b5 : aQ Tryd.prog .and 71 true (cX (w / 32)) (.int .u32 65535) = some (cX (w / 32 % 65536)) := iT _ _ _ (x := w / 32) (q := 65535) 16 (by decide) rfl (by omega) (by omega)
 have x1 := aLg Tryd.prog 3 true (a := w / 4096 % 16) (by omega) (by omega)
 have l1 : aQ Tryd.prog .sub 3 true (.int .i64 64) (I6 (w / 65536 % 64)) = some (I6 (64 - w / 65536 % 64)) := aFI (by omega) (by omega)
 have l2 : aQ Tryd.prog .rem 3 true (I6 (64 - w / 65536 % 64)) (.int .i64 64) = some (I6 ((64 - w / 65536 % 64) % 64)) := by
  rw [xK _ _ _ _ _ _ (by decide), Int.tmod_eq_emod_of_nonneg (by omega)]
 unfold aDz uB
 generalize nV (nG op w) = zr at *
 generalize cI (nG op w) = zf at *
 generalize aT (nG op w) = b at *
 clear d1
 refine dX ?_
 rcases xE hop with rfl | rfl | rfl | rfl | rfl | rfl | rfl | rfl | rfl | rfl | rfl | rfl | rfl | rfl | rfl | rfl | rfl | rfl | rfl | rfl | rfl | rfl | rfl | rfl
 all_goals (
  clear hop
  simp only [iF, aN, Int.reduceEq, if_true, if_false, ↓reduceIte] at r1
  simp only [nG, asF, aN, exA, exI, MI.v, Int.reduceEq, or_false, false_or, or_self, true_or, or_true, if_true, if_false, ↓reduceIte, Bool.false_eq_true] at r3 ⊢
  cases b
  ·simp only [Bool.false_and, Bool.false_eq_true, if_false, ↓reduceIte]
   have fx := aOO r1 <| aOO r3 <| aOO g19 <| aOO g26 <| aOO s5 <| aOO s10 <| aOO s12 <| aOO s16 <| aOO s21 <| aOO a0 <| aOO a5 <| aOO a16 <| aOO a21 <| aOO a10 <| aOO a12 <| aOO a4 <| aOO b16 <| aOO b10 <| aOO b5 <| aOO x1 <| aOO l1 <| l2
   refine jL ?_
   exact oF (oY rfl rfl rfl)
  ·have r4 := r4 rfl
   subst r4
   by_cases hz : zr = w
   ·rw [decide_eq_true hz]
    simp only [Bool.and_self, ↓reduceIte]
    have fx := aOO r1 <| aOO r3 <| aOO g19 <| aOO g26 <| aOO s5 <| aOO s10 <| aOO s12 <| aOO s16 <| aOO s21 <| aOO a0 <| aOO a5 <| aOO a16 <| aOO a21 <| aOO a10 <| aOO a12 <| aOO a4 <| aOO b16 <| aOO b10 <| aOO b5 <| aOO x1 <| aOO l1 <| l2
    refine jL ?_
    exact oF (oY rfl rfl rfl)
   ·rw [decide_eq_false hz]
    simp only [Bool.and_false, Bool.false_eq_true, ↓reduceIte]
    have fx := aOO r1 <| aOO r3 <| aOO g19 <| aOO g26 <| aOO s5 <| aOO s10 <| aOO s12 <| aOO s16 <| aOO s21 <| aOO a0 <| aOO a5 <| aOO a16 <| aOO a21 <| aOO a10 <| aOO a12 <| aOO a4 <| aOO b16 <| aOO b10 <| aOO b5 <| aOO x1 <| aOO l1 <| l2
    refine jL ?_
    exact oF (oY rfl rfl rfl))
def mU : Nat → Int → Int → Option MI
 | 0, _, _ => none
 | d + 1, op, w => if op ≠ 12 ∧ uB op w = true then some (nG op w) else mU d (op + 1) w
def aMg (w : Int) : Option MI := match mU 24 1 w with
 | some i => some i
 | none => if uB 12 w = true then some (nG 12 w) else none
theorem aEB {op w : Int} (h : op ≠ 12) : nG op w = asF op w := by unfold nG; rw [if_neg h]
theorem aFJ {op w : Int} (h : op ≠ 12) : uB op w = okB op w := by
 unfold uB okB asB
 rw [aEB h, decide_eq_true h]
 simp
theorem zQ : ∀ {d : Nat} {op w : Int} {i : MI}, mU d op w = some i → ∃ o, o ≠ 12 ∧ okB o w = true ∧ i = asF o w ∧ op ≤ o ∧ o < op + d
 | 0, op, w, i, h => by cases h
 | d + 1, op, w, i, h => by
  unfold mU at h
  by_cases hk : op ≠ 12 ∧ uB op w = true
  ·rw [if_pos hk] at h
   simp at h
   exact ⟨op, hk.1, by rw [← aFJ hk.1]; exact hk.2, by rw [← aEB hk.1]; exact h.symm, by omega, by omega⟩
  ·rw [if_neg hk] at h
   obtain ⟨o, h0, h1, h2, h3, h4⟩ := zQ h
   exact ⟨o, h0, h1, h2, by omega, by omega⟩
theorem zP : ∀ {d : Nat} {op w : Int}, mU d op w = none → ∀ o : Int, o ≠ 12 → op ≤ o → o < op + d → okB o w = false
 | 0, op, w, _, o, _, h1, h2 => by omega
 | d + 1, op, w, h, o, h0, h1, h2 => by
  unfold mU at h
  by_cases hk : op ≠ 12 ∧ uB op w = true
  ·rw [if_pos hk] at h; cases h
  ·rw [if_neg hk] at h
   by_cases ho : o = op
   ·subst ho
    rw [aFJ h0] at hk
    simpa [h0] using hk
   ·exact zP h o h0 (by omega) (by omega)
theorem aJf {d : Nat} {w : Int} {i : MI} (h : mU d 1 w = some i) : ofF w = some i := by
 obtain ⟨o, h0, h1, rfl, _, _⟩ := zQ h
 obtain ⟨⟨h2, h3⟩, h4⟩ := tU.1 h1
 exact aEt.2 ⟨h2, h3, h4⟩
theorem aJF (w : Int) : aMg w = ofF w := by
 unfold aMg
 cases hr : mU 24 1 w with
 | some i => exact (aJf hr).symm
 | none =>
  simp only
  have hn := zP hr
  cases hq : ofF w with
  | some i =>
   obtain ⟨h1, h2, h3⟩ := aBR hq
   have h24 := pS h1
   have hop : i.op = 12 := by
    apply Classical.byContradiction
    intro hne
    have h4 := hn i.op hne h24.1 (by omega)
    have hk : okB i.op w = true := by
     subst h2
     rw [tU, (rB h1).2.2.1]
     exact ⟨⟨h1, rfl⟩, h3⟩
    rw [hk] at h4; cases h4
   have e : nG 12 w = i := by
    obtain ⟨op, d, n, m, a, imm⟩ := i
    simp only at hop; subst hop
    unfold aT at h1
    rw [Bool.and_eq_true] at h1
    obtain ⟨_, h1⟩ := h1
    simp [aN, dS, fP, dA, fW, dU, dB] at h1
    have h2' : w = 3544186880 + d + n * 32 + m * 65536 + ((64 - imm) % 64 * 65536 + (63 - imm) * 1024) := h2.symm
    have hi : imm ≠ 0 := fun h => h3 ⟨rfl, h⟩
    have e64 : (64 - imm) % 64 = 64 - imm := by omega
    rw [e64] at h2'
    clear h2
    have e65 : w / 65536 = 54144 - imm := by omega
    simp [nG]
    refine ⟨?_, ?_, ?_, ?_, ?_⟩ <;> omega
   have hb : uB 12 w = true := by
    unfold uB
    rw [e, h1, h2]; simp
   rw [if_pos hb, e]
  | none =>
   by_cases hb : uB 12 w = true
   ·exfalso
    have hb' := hb
    unfold uB at hb'
    rw [Bool.and_eq_true] at hb'
    obtain ⟨h1, h2⟩ := hb'
    have h2 := of_decide_eq_true h2
    by_cases hs : (nG 12 w).imm = 0
    ·obtain ⟨i, hi⟩ : ∃ i, i = nG 12 w := ⟨_, rfl⟩
     rw [← hi] at h1 h2 hs
     have ho : i.op = 12 := by rw [hi]; rfl
     obtain ⟨op, d, n, m, a, imm⟩ := i
     simp only at ho hs; subst ho; subst hs
     have e1 : aT ⟨13, d, n, m, a, 0⟩ = true := by
      have : aT ⟨13, d, n, m, a, 0⟩ = aT ⟨12, d, n, m, a, 0⟩ := rfl
      rw [this]; exact h1
     have e2 : cI ⟨13, d, n, m, a, 0⟩ = w := by
      rw [← h2]; rfl
     have := aEt.2 ⟨e1, e2, by simp⟩
     rw [hq] at this; cases this
    ·have := aEt.2 ⟨h1, h2, fun h => hs h.2⟩
     rw [hq] at this; cases this
   ·rw [if_neg hb]
theorem aDD (G : aI) (k : Nat) (self : dE) (w : Int) (h0 : 0 ≤ w) (h1 : w < 4294967296) : ∀ (d f : Nat) (op : Int) (T : aF), op + (d : Int) = 25 → 1 ≤ op → d < f →
  ∃ T', gH (bO.l2 G (k + 7) 1 self) f [cX w, .ptr 0 1 0 0, .bool false, I6 op] (⟨57, 6, [mV 0 0 0 0 0 0]⟩ :: T) = some (aBQ (mU d op w) w T')
 | d, 0, op, T, h, _, hf => by omega
 | 0, f + 1, op, T, h, _, hf => by
  rw [fJ, bO.l2]
  have hc : iL 1 [cX w, .ptr 0 1 0 0, .bool false, I6 op] (⟨57, 6, [mV 0 0 0 0 0 0]⟩ :: T) = some [⟨57, 6, [mV 0 0 0 0 0 0]⟩] := rfl
  have e : op = 25 := by omega
  subst e
  refine ⟨[], ?_⟩
  refine jU ?_
  refine eC hc ?_
  have fx := True.intro
  refine gC ?_
  refine iA ?_; rfl
 | d + 1, f + 1, op, T, h, hop, hf => by
  rw [fJ, bO.l2]
  have hc : iL 1 [cX w, .ptr 0 1 0 0, .bool false, I6 op] (⟨57, 6, [mV 0 0 0 0 0 0]⟩ :: T) = some [⟨57, 6, [mV 0 0 0 0 0 0]⟩] := rfl
  have ih := fun T => aDD G k self w h0 h1 d f (op + 1) T (by omega) (by omega) (by omega)
  have q1 : aQ Tryd.prog .leq 3 true (I6 op) (.int .i64 24) = some (.bool true) := uA (by omega)
  have q2 : aQ Tryd.prog .add 3 true (I6 op) (.int .i64 1) = some (I6 (op + 1)) := aDw (by omega) (by omega)
  unfold mU
  by_cases h12 : op = 12
  ·rw [if_neg (by simp [h12])]
   subst h12
   obtain ⟨T', ih⟩ := ih []
   refine ⟨T', ?_⟩
   refine jU ?_
   refine eC hc ?_
   have fx := aOO q1 <| q2
   refine gC ?_
   exact ih
  ·have r1 : ∀ H, aE (cJ.f G (k + 7)) [I6 op, cX w] H = some (aDz op w, H) := fun H => aD (H := H) (aDA G k op w (by omega) h0 h1) rfl (by unfold aDz; split <;> rfl)
   have q3 : aQ Tryd.prog .eql 3 true (I6 op) (.int .i64 12) = some (.bool false) := gU h12
   have e0 : (nG op w).op = op := by rw [aEB h12]; rfl
   unfold aDz at r1
   generalize uB op w = b at *
   generalize nG op w = i at *
   obtain ⟨op', xd, xn, xm, xa, xi⟩ := i
   simp only at e0
   subst e0
   unfold MI.v at *
   simp only at *
   clear h1 h hf hop h0
   cases b
   ·rw [if_neg (by simp)]
    simp only [Bool.false_eq_true, if_false] at r1
    obtain ⟨T', ih⟩ := ih [⟨57, 6, [mV 0 0 0 0 0 0]⟩]
    refine ⟨T', ?_⟩
    refine jU ?_
    refine eC hc ?_
    have fx := aOO r1 <| aOO q1 <| aOO q2 <| q3
    refine gC ?_
    exact ih
   ·rw [if_pos (by simp [h12])]
    simp only [if_true] at r1
    refine ⟨[⟨57, 6, [.agg [I6 op', I6 xd, I6 xn, I6 xm, I6 xa, I6 xi]]⟩], ?_⟩
    refine jU ?_
    refine eC hc ?_
    have fx := aOO r1 <| aOO q1 <| aOO q2 <| q3
    refine gC ?_
    refine iA ?_; rfl
theorem aIa (G : aI) (k : Nat) (w : Int) (h0 : 0 ≤ w) (h1 : w < 4294967296) : bO.f G (k + 40) [cX w] [] = some (ofV (ofF w), []) := by
 rw [← aJF]
 rw [bO.step]
 unfold bO.c
 obtain ⟨T', lp⟩ : ∃ T', gH (bO.l2 G (k + 39) 1 (bO.f G (k + 39))) (k + 39) [cX w, .ptr 0 1 0 0, .bool false, .int .i64 1] [⟨57, 6, [mV 0 0 0 0 0 0]⟩] = some (aBQ (mU 24 1 w) w T') := aDD G (k + 32) (bO.f G (k + 39)) w h0 h1 24 (k + 39) 1 [] (by decide) (by decide) (by omega)
 have r1 : ∀ H, aE (cJ.f G (k + 39)) [.int .i64 12, cX w] H = some (aDz 12 w, H) := fun H => aD (H := H) (aDA G (k + 32) 12 w (by decide) h0 h1) rfl (by unfold aDz; split <;> rfl)
 unfold aMg
 unfold aDz at r1
 have e0 : (nG 12 w).op = 12 := rfl
 generalize mU 24 1 w = q at *
 generalize uB 12 w = b at *
 generalize nG 12 w = i at *
 obtain ⟨op', xd, xn, xm, xa, xi⟩ := i
 refine dX ?_
 cases q with
 | none =>
  unfold aBQ at lp
  simp only at lp
  cases b
  ·simp only [Bool.false_eq_true, if_false] at r1 ⊢
   have fx := r1
   have lx1 := lp
   refine gC ?_
   exact oF (oY rfl rfl rfl)
  ·simp only [if_true] at r1 ⊢
   unfold MI.v at *
   have fx := r1
   have lx1 := lp
   refine gC ?_
   exact oF (oY rfl rfl rfl)
 | some i =>
  unfold aBQ at lp
  simp only at lp
  have fx := True.intro
  have lx1 := lp
  refine gC ?_
  exact oF (oY rfl rfl rfl)
end Go.Proofs.YtdfglgnflldkpaaDoor.Mir
