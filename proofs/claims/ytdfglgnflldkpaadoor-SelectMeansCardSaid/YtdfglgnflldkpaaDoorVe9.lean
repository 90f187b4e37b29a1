/- Part 9 of the proof: what these functions do. -/
import Derived.Test.YtdfglgnflldkpaaDoorVe8
namespace Go.Proofs.YtdfglgnflldkpaaDoor.Mir
open Go
set_option linter.unusedSimpArgs false
set_option linter.unusedVariables false
set_option maxHeartbeats 8000000
set_option maxRecDepth 20000
theorem aAA {x : AV} {H : aF} (hx : cG 0 x = true) {m : Option AV} (hm : m = some x) : fK [m] 0 H = some (.ret, [x], []) := by
 subst hm
 unfold fK
 exact nF hx H
def jB (f : Form) : AV := .agg [.bool f.d, .bool f.n, .bool f.m, .bool f.a, I6 f.b]
theorem fV (G : aG) (k : Nat) (op : Int) : aN.f G (k + 4) [I6 op] [] = some (jB (aO op), []) := by
 by_cases h : 1 ≤ op ∧ op ≤ 24
 ·rcases xA h with rfl | rfl | rfl | rfl | rfl | rfl | rfl | rfl | rfl | rfl | rfl | rfl | rfl | rfl | rfl | rfl | rfl | rfl | rfl | rfl | rfl | rfl | rfl | rfl <;> (clear h; show _ = _; kernel_rfl)
 ·rw [qT h, aN.step]
  unfold aN.c
  refine eZ ?_
  have fx := True.intro
  refine gM ?_
  all_goals first | omega | exact oF (aAA (x := jB ⟨⟨#[]⟩, 0, false, false, false, false, 0⟩) rfl rfl)
theorem aHn (G : aG) (k : Nat) (r : Int) (is : Bool) : cI.f G (k + 1) [I6 r, .bool is] [] = some (.bool (gI r is), []) := by
 rw [cI.step]
 unfold cI.c gI
 refine eZ ?_
 cases is
 all_goals (
  repeat' first
   | (with_reducible first | refine eT ?_ | refine eN ?_ | refine eS ?_ | refine eXn ?_ | refine eXr ?_ | refine eX ?_ | refine eI ?_ | refine eK ?_ | refine eV0 ?_ | refine sW ?_ | refine sX ?_ | refine sV ?_ | refine tD ?_ | refine tB ?_ | refine sY ?_)
   | ((with_reducible apply eCn); (simp only [eG, eF]; first | done | (with_reducible exact rfl)))
   | ((with_reducible apply eJ); (rfl))
   | ((with_reducible apply sZ); (first | rfl | (simp only [eG, eF]; rfl)))
   | ((with_reducible apply eB); (first | (with_reducible exact rfl) | (simp (disch := omega) only [qa, jY, AV.cells, fQ, aY, lO, fR, fX, kX, Nat.reduceLeDiff, Nat.reduceLT, Nat.reduceAdd, ↓reduceIte]; first | done | (with_reducible exact rfl) | (with_reducible exact ⟨rfl, rfl⟩))))
   | ((with_reducible apply eR); (simp only [eG, eF]; (with_reducible exact rfl)))
   | ((with_reducible first | refine tY ?_ ?_ | refine tU ?_ ?_ | refine tQ ?_ ?_ | refine tW ?_ ?_ | refine uE ?_ ?_ | refine tP ?_ ?_ | refine tX ?_ ?_ | refine pB ?_ ?_ | refine sGd ?_ ?_ | refine oZ ?_ ?_) <;> intro hq <;> try subst hq)
  all_goals (refine uH ?_; simp; try omega))
theorem aFp (G : aG) (k : Nat) (n : Int) : cL.f G (k + 1) [I6 n] [] = some (.bool (decide ((0 ≤ n ∧ n ≤ 3) ∨ n = 8 ∨ n = 9)), []) := by
 rw [cL.step]
 unfold cL.c
 refine eZ ?_
 have fx := True.intro
 exact wkC
theorem aCd (G : aG) (k : Nat) (n b h : Int) (hb : (b = 19 ∧ h = 262144) ∨ (b = 26 ∧ h = 33554432)) : cU.f G (k + 1) [I6 n, I6 b] [] = some (.bool (decide (-h ≤ n ∧ n < h)), []) := by
 rw [cU.step]
 unfold cU.c
 obtain ⟨s1, s2, s3, s4⟩ : aQ Tryd.prog .sub 3 true (I6 b) (.int .i64 1) = some (I6 (b - 1)) ∧ aJ .u64 (I6 (b - 1)) = some (.int .u64 (b - 1)) ∧ aQ Tryd.prog .shl 3 true (.int .i64 1) (.int .u64 (b - 1)) = some (I6 h) ∧ aQ Tryd.prog .shl 3 true (.int .i64 (-1)) (.int .u64 (b - 1)) = some (I6 (-h)) := by
  rcases hb with ⟨rfl, rfl⟩ | ⟨rfl, rfl⟩
  ·exact ⟨by kernel_rfl, by kernel_rfl, by kernel_rfl, by kernel_rfl⟩
  ·exact ⟨by kernel_rfl, by kernel_rfl, by kernel_rfl, by kernel_rfl⟩
 clear hb
 refine eZ ?_
 have fx := aPQ s1 <| aPQ s2 <| aPQ s3 <| s4
 exact wkC
theorem gG (G : aG) (k : Nat) (op : Int) (h : 1 ≤ op ∧ op ≤ 24) : aZ.f G (k + 1) [I6 op] [] = some (cX (aO op).w, []) := by
 rcases xA h with rfl | rfl | rfl | rfl | rfl | rfl | rfl | rfl | rfl | rfl | rfl | rfl | rfl | rfl | rfl | rfl | rfl | rfl | rfl | rfl | rfl | rfl | rfl | rfl <;> (clear h; show _ = _; kernel_rfl)
theorem fL (G : aG) (k : Nat) (op d n m a imm : Int) : aS.f G (k + 5) [mV op d n m a imm] [] = some (.bool (aT ⟨op, d, n, m, a, imm⟩), []) := by
 rw [aS.step]
 unfold aS.c
 have r1 : ∀ H, aD (aN.f G (k + 4)) [I6 op] H = _ := fun H => aE (H := H) (fV G k op) rfl rfl
 have r2 : ∀ r is H, aD (cI.f G (k + 4)) [I6 r, .bool is] H = _ := fun r is H => aE (H := H) (aHn G (k + 3) r is) rfl rfl
 have r3 : ∀ H, aD (cL.f G (k + 4)) [I6 a] H = _ := fun H => aE (H := H) (aFp G (k + 3) a) rfl rfl
 have r4 : ∀ H, aD (cU.f G (k + 4)) [I6 imm, .int .i64 19] H = _ := fun H => aE (H := H) (aCd G (k + 3) imm 19 262144 (.inl ⟨rfl, rfl⟩)) rfl rfl
 have r5 : ∀ H, aD (cU.f G (k + 4)) [I6 imm, .int .i64 26] H = _ := fun H => aE (H := H) (aCd G (k + 3) imm 26 33554432 (.inr ⟨rfl, rfl⟩)) rfl rfl
 have s12 : aQ Tryd.prog .shl 3 true (.int .i64 1) (.int .u64 12) = some (.int .i64 4096) := by kernel_rfl
 have s16 : aQ Tryd.prog .shl 3 true (.int .i64 1) (.int .u64 16) = some (.int .i64 65536) := by kernel_rfl
 have s6 : aQ Tryd.prog .shl 3 true (.int .i64 1) (.int .u64 6) = some (.int .i64 64) := by kernel_rfl
 have s0 : aQ Tryd.prog .shl 3 true (.int .i64 1) (.int .u64 0) = some (.int .i64 1) := by kernel_rfl
 by_cases h : 1 ≤ op ∧ op ≤ 24
 ·refine eZ ?_
  rcases xA h with rfl | rfl | rfl | rfl | rfl | rfl | rfl | rfl | rfl | rfl | rfl | rfl | rfl | rfl | rfl | rfl | rfl | rfl | rfl | rfl | rfl | rfl | rfl | rfl
  all_goals (
   clear h
   simp only [jB, aO, Int.reduceEq, if_true, if_false, ↓reduceIte] at r1
   repeat' first
    | (with_reducible first | refine eT ?_ | refine eN ?_ | refine eS ?_ | refine eXn ?_ | refine eXr ?_ | refine eX ?_ | refine eI ?_ | refine eK ?_ | refine eV0 ?_ | refine sW ?_ | refine sX ?_ | refine sV ?_ | refine tD ?_ | refine tB ?_ | refine sY ?_)
    | ((with_reducible apply eCn); (simp only [eG, eF]; first | done | (with_reducible exact rfl)))
    | ((with_reducible apply eJ); (rfl))
    | ((with_reducible apply sZ); (first | rfl | (simp only [eG, eF]; rfl)))
    | ((with_reducible apply eB); (first | (with_reducible exact rfl) | (simp (disch := omega) only [qf, r1, r2, r3, r4, r5, s0, s6, s12, s16]; first | done | (with_reducible exact rfl) | (with_reducible exact ⟨rfl, rfl⟩)) | (simp (disch := omega) only [qa, jY, AV.cells, fQ, aY, lO, fR, fX, kX, Nat.reduceLeDiff, Nat.reduceLT, Nat.reduceAdd, ↓reduceIte, r1, r2, r3, r4, r5, s0, s6, s12, s16]; first | done | (with_reducible exact rfl) | (with_reducible exact ⟨rfl, rfl⟩))))
    | ((with_reducible apply eR); (simp only [eG, eF]; (with_reducible exact rfl)))
    | ((with_reducible first | refine tY ?_ ?_ | refine tU ?_ ?_ | refine tQ ?_ ?_ | refine tW ?_ ?_ | refine uE ?_ ?_ | refine tP ?_ ?_ | refine tX ?_ ?_ | refine pB ?_ ?_ | refine sGd ?_ ?_ | refine oZ ?_ ?_) <;> intro hq <;> try subst hq)
   all_goals (refine uH ?_; simp [aT, kK, fD, aO, gI, dU, gS, fC, dS] at *; try omega))
 ·have e : aT ⟨op, d, n, m, a, imm⟩ = false := by
   unfold aT kK
   simp only
   rw [decide_eq_false h, Bool.false_and]
  rw [e]
  rw [qT h] at r1
  unfold jB at r1
  refine eZ ?_
  repeat' first
   | (with_reducible first | refine eT ?_ | refine eN ?_ | refine eS ?_ | refine eXn ?_ | refine eXr ?_ | refine eX ?_ | refine eI ?_ | refine eK ?_ | refine eV0 ?_ | refine sW ?_ | refine sX ?_ | refine sV ?_ | refine tD ?_ | refine tB ?_ | refine sY ?_)
   | ((with_reducible apply eCn); (simp only [eG, eF]; first | done | (with_reducible exact rfl)))
   | ((with_reducible apply eJ); (rfl))
   | ((with_reducible apply sZ); (first | rfl | (simp only [eG, eF]; rfl)))
   | ((with_reducible apply eB); (first | (with_reducible exact rfl) | (simp (disch := omega) only [qf, r1]; first | done | (with_reducible exact rfl) | (with_reducible exact ⟨rfl, rfl⟩)) | (simp (disch := omega) only [qa, jY, AV.cells, fQ, aY, lO, fR, fX, kX, Nat.reduceLeDiff, Nat.reduceLT, Nat.reduceAdd, ↓reduceIte, r1]; first | done | (with_reducible exact rfl) | (with_reducible exact ⟨rfl, rfl⟩))))
   | ((with_reducible apply eR); (simp only [eG, eF]; (with_reducible exact rfl)))
   | ((with_reducible first | refine tY ?_ ?_ | refine tU ?_ ?_ | refine tQ ?_ ?_ | refine tW ?_ ?_ | refine uE ?_ ?_ | refine tP ?_ ?_ | refine tX ?_ ?_ | refine pB ?_ ?_ | refine sGd ?_ ?_ | refine oZ ?_ ?_) <;> intro hq <;> try subst hq)
  exact uH rfl
theorem aKL (G : aG) (k : Nat) (d n m a imm : Int) (h : aT ⟨1, d, n, m, a, imm⟩ = true) : aI.f G (k + 6) [mV 1 d n m a imm] [] = some (.tup [cX (cS ⟨1, d, n, m, a, imm⟩), .bool true], []) := by
 have r1 : ∀ H, aD (aS.f G (k + 5)) [mV 1 d n m a imm] H = _ := fun H => aE (H := H) (fL G k 1 d n m a imm) rfl rfl
 have r2 : ∀ H, aD (aN.f G (k + 5)) [.int .i64 1] H = _ := fun H => aE (H := H) (fV G (k + 1) 1) rfl rfl
 have r3 : ∀ H, aD (aZ.f G (k + 5)) [.int .i64 1] H = _ := fun H => aE (H := H) (gG G (k + 4) 1 (by decide)) rfl rfl
 rw [h] at r1
 unfold aT at h
 rw [Bool.and_eq_true] at h
 obtain ⟨_, h⟩ := h
 simp [aO, fD, gI, dU, gS, fC, dS] at h
 have c1 : aJ .u32 (I6 d) = some (cX d) := bF (by omega) (by omega)
 have c2 : aJ .u32 (I6 n) = some (cX n) := bF (by omega) (by omega)
 have c3 : aJ .u32 (I6 m) = some (cX m) := bF (by omega) (by omega)
 have s1 := dA Tryd.prog 71 true (v := n) (p := 32) (b := 5) 5 rfl (by decide) rfl (by omega) (by omega)
 have s2 := dA Tryd.prog 71 true (v := m) (p := 65536) (b := 16) 16 rfl (by decide) rfl (by omega) (by omega)
 have o1 := iD Tryd.prog 71 false (x := 3531603968) (v := d) (q := 32) 5 rfl (by omega) (by omega) (by omega) (by omega) (by omega)
 have o2 := dN Tryd.prog 71 false (x := 3531603968 + d) (v := n) (p := 32) (q := 1) 5 0 rfl rfl (by omega) (by omega) (by omega) (by omega) (by omega)
 have o3 := dN Tryd.prog 71 false (x := 3531603968 + d + n * 32) (v := m) (p := 65536) (q := 1) 16 0 rfl rfl (by omega) (by omega) (by omega) (by omega) (by omega)
 have t1 := dA Tryd.prog 71 true (v := a) (p := 2097152) (b := 21) 21 rfl (by decide) rfl (by omega) (by omega)
 have t2 := dN Tryd.prog 71 false (x := 3531603968 + d + n * 32 + m * 65536) (v := a) (p := 2097152) (q := 4) 21 2 rfl rfl (by omega) (by omega) (by omega) (by omega) (by omega)
 have t3 := dA Tryd.prog 71 true (v := imm) (p := 32) (b := 5) 5 rfl (by decide) rfl (by omega) (by omega)
 have t4 := dN Tryd.prog 71 false (x := 3531603968 + d + n * 32 + m * 65536 + a * 2097152) (v := imm) (p := 32) (q := 65536) 5 16 rfl rfl (by omega) (by omega) (by omega) (by omega) (by omega)
 have ew : cS ⟨1, d, n, m, a, imm⟩ = 3531603968 + d + n * 32 + m * 65536 + (a * 2097152 + imm * 32) := rfl
 rw [ew]
 simp only [jB, aO, Int.reduceEq, if_true, if_false, ↓reduceIte] at r2 r3
 clear ew
 rw [aI.step]
 unfold aI.c
 refine eZ ?_
 have fx := aPQ r1 <| aPQ r2 <| aPQ r3 <| aPQ c1 <| aPQ c2 <| aPQ c3 <| aPQ s1 <| aPQ s2 <| aPQ o1 <| aPQ o2 <| aPQ o3 <| aPQ t1 <| aPQ t2 <| aPQ t3 <| t4
 refine gM ?_
 all_goals first | exact nY rfl rfl | (refine nY ?_ rfl; omega)
theorem aKG (G : aG) (k : Nat) (d n m a imm : Int) (h : aT ⟨2, d, n, m, a, imm⟩ = true) : aI.f G (k + 6) [mV 2 d n m a imm] [] = some (.tup [cX (cS ⟨2, d, n, m, a, imm⟩), .bool true], []) := by
 have r1 : ∀ H, aD (aS.f G (k + 5)) [mV 2 d n m a imm] H = _ := fun H => aE (H := H) (fL G k 2 d n m a imm) rfl rfl
 have r2 : ∀ H, aD (aN.f G (k + 5)) [.int .i64 2] H = _ := fun H => aE (H := H) (fV G (k + 1) 2) rfl rfl
 have r3 : ∀ H, aD (aZ.f G (k + 5)) [.int .i64 2] H = _ := fun H => aE (H := H) (gG G (k + 4) 2 (by decide)) rfl rfl
 rw [h] at r1
 unfold aT at h
 rw [Bool.and_eq_true] at h
 obtain ⟨_, h⟩ := h
 simp [aO, fD, gI, dU, gS, fC, dS] at h
 have c1 : aJ .u32 (I6 d) = some (cX d) := bF (by omega) (by omega)
 have c2 : aJ .u32 (I6 n) = some (cX n) := bF (by omega) (by omega)
 have c3 : aJ .u32 (I6 m) = some (cX m) := bF (by omega) (by omega)
 have s1 := dA Tryd.prog 71 true (v := n) (p := 32) (b := 5) 5 rfl (by decide) rfl (by omega) (by omega)
 have s2 := dA Tryd.prog 71 true (v := m) (p := 65536) (b := 16) 16 rfl (by decide) rfl (by omega) (by omega)
 have o1 := iD Tryd.prog 71 false (x := 4068474880) (v := d) (q := 32) 5 rfl (by omega) (by omega) (by omega) (by omega) (by omega)
 have o2 := dN Tryd.prog 71 false (x := 4068474880 + d) (v := n) (p := 32) (q := 1) 5 0 rfl rfl (by omega) (by omega) (by omega) (by omega) (by omega)
 have o3 := dN Tryd.prog 71 false (x := 4068474880 + d + n * 32) (v := m) (p := 65536) (q := 1) 16 0 rfl rfl (by omega) (by omega) (by omega) (by omega) (by omega)
 have t1 := dA Tryd.prog 71 true (v := a) (p := 2097152) (b := 21) 21 rfl (by decide) rfl (by omega) (by omega)
 have t2 := dN Tryd.prog 71 false (x := 4068474880 + d + n * 32 + m * 65536) (v := a) (p := 2097152) (q := 4) 21 2 rfl rfl (by omega) (by omega) (by omega) (by omega) (by omega)
 have t3 := dA Tryd.prog 71 true (v := imm) (p := 32) (b := 5) 5 rfl (by decide) rfl (by omega) (by omega)
 have t4 := dN Tryd.prog 71 false (x := 4068474880 + d + n * 32 + m * 65536 + a * 2097152) (v := imm) (p := 32) (q := 65536) 5 16 rfl rfl (by omega) (by omega) (by omega) (by omega) (by omega)
 have ew : cS ⟨2, d, n, m, a, imm⟩ = 4068474880 + d + n * 32 + m * 65536 + (a * 2097152 + imm * 32) := rfl
 rw [ew]
 simp only [jB, aO, Int.reduceEq, if_true, if_false, ↓reduceIte] at r2 r3
 clear ew
 rw [aI.step]
 unfold aI.c
 refine eZ ?_
 have fx := aPQ r1 <| aPQ r2 <| aPQ r3 <| aPQ c1 <| aPQ c2 <| aPQ c3 <| aPQ s1 <| aPQ s2 <| aPQ o1 <| aPQ o2 <| aPQ o3 <| aPQ t1 <| aPQ t2 <| aPQ t3 <| t4
 refine gM ?_
 all_goals first | exact nY rfl rfl | (refine nY ?_ rfl; omega)
theorem aLF (G : aG) (k : Nat) (d n m a imm : Int) (h : aT ⟨3, d, n, m, a, imm⟩ = true) : aI.f G (k + 6) [mV 3 d n m a imm] [] = some (.tup [cX (cS ⟨3, d, n, m, a, imm⟩), .bool true], []) := by
 have r1 : ∀ H, aD (aS.f G (k + 5)) [mV 3 d n m a imm] H = _ := fun H => aE (H := H) (fL G k 3 d n m a imm) rfl rfl
 have r2 : ∀ H, aD (aN.f G (k + 5)) [.int .i64 3] H = _ := fun H => aE (H := H) (fV G (k + 1) 3) rfl rfl
 have r3 : ∀ H, aD (aZ.f G (k + 5)) [.int .i64 3] H = _ := fun H => aE (H := H) (gG G (k + 4) 3 (by decide)) rfl rfl
 rw [h] at r1
 unfold aT at h
 rw [Bool.and_eq_true] at h
 obtain ⟨_, h⟩ := h
 simp [aO, fD, gI, dU, gS, fC, dS] at h
 have c1 : aJ .u32 (I6 d) = some (cX d) := bF (by omega) (by omega)
 have c2 : aJ .u32 (I6 n) = some (cX n) := bF (by omega) (by omega)
 have c3 : aJ .u32 (I6 m) = some (cX m) := bF (by omega) (by omega)
 have s1 := dA Tryd.prog 71 true (v := n) (p := 32) (b := 5) 5 rfl (by decide) rfl (by omega) (by omega)
 have s2 := dA Tryd.prog 71 true (v := m) (p := 65536) (b := 16) 16 rfl (by decide) rfl (by omega) (by omega)
 have o1 := iD Tryd.prog 71 false (x := 2332033024) (v := d) (q := 32) 5 rfl (by omega) (by omega) (by omega) (by omega) (by omega)
 have o2 := dN Tryd.prog 71 false (x := 2332033024 + d) (v := n) (p := 32) (q := 32) 5 5 rfl rfl (by omega) (by omega) (by omega) (by omega) (by omega)
 have o3 := dN Tryd.prog 71 false (x := 2332033024 + d + n * 32) (v := m) (p := 65536) (q := 32) 16 5 rfl rfl (by omega) (by omega) (by omega) (by omega) (by omega)
 have ew : cS ⟨3, d, n, m, a, imm⟩ = 2332033024 + d + n * 32 + m * 65536 + 0 := rfl
 rw [ew]
 simp only [jB, aO, Int.reduceEq, if_true, if_false, ↓reduceIte] at r2 r3
 clear ew
 rw [aI.step]
 unfold aI.c
 refine eZ ?_
 have fx := aPQ r1 <| aPQ r2 <| aPQ r3 <| aPQ c1 <| aPQ c2 <| aPQ c3 <| aPQ s1 <| aPQ s2 <| aPQ o1 <| aPQ o2 <| o3
 refine gM ?_
 all_goals first | exact nY rfl rfl | (refine nY ?_ rfl; omega)
theorem aKl (G : aG) (k : Nat) (d n m a imm : Int) (h : aT ⟨4, d, n, m, a, imm⟩ = true) : aI.f G (k + 6) [mV 4 d n m a imm] [] = some (.tup [cX (cS ⟨4, d, n, m, a, imm⟩), .bool true], []) := by
 have r1 : ∀ H, aD (aS.f G (k + 5)) [mV 4 d n m a imm] H = _ := fun H => aE (H := H) (fL G k 4 d n m a imm) rfl rfl
 have r2 : ∀ H, aD (aN.f G (k + 5)) [.int .i64 4] H = _ := fun H => aE (H := H) (fV G (k + 1) 4) rfl rfl
 have r3 : ∀ H, aD (aZ.f G (k + 5)) [.int .i64 4] H = _ := fun H => aE (H := H) (gG G (k + 4) 4 (by decide)) rfl rfl
 rw [h] at r1
 unfold aT at h
 rw [Bool.and_eq_true] at h
 obtain ⟨_, h⟩ := h
 simp [aO, fD, gI, dU, gS, fC, dS] at h
 have c1 : aJ .u32 (I6 d) = some (cX d) := bF (by omega) (by omega)
 have c2 : aJ .u32 (I6 n) = some (cX n) := bF (by omega) (by omega)
 have c3 : aJ .u32 (I6 m) = some (cX m) := bF (by omega) (by omega)
 have s1 := dA Tryd.prog 71 true (v := n) (p := 32) (b := 5) 5 rfl (by decide) rfl (by omega) (by omega)
 have s2 := dA Tryd.prog 71 true (v := m) (p := 65536) (b := 16) 16 rfl (by decide) rfl (by omega) (by omega)
 have o1 := iD Tryd.prog 71 false (x := 3405774848) (v := d) (q := 32) 5 rfl (by omega) (by omega) (by omega) (by omega) (by omega)
 have o2 := dN Tryd.prog 71 false (x := 3405774848 + d) (v := n) (p := 32) (q := 32) 5 5 rfl rfl (by omega) (by omega) (by omega) (by omega) (by omega)
 have o3 := dN Tryd.prog 71 false (x := 3405774848 + d + n * 32) (v := m) (p := 65536) (q := 32) 16 5 rfl rfl (by omega) (by omega) (by omega) (by omega) (by omega)
 have ew : cS ⟨4, d, n, m, a, imm⟩ = 3405774848 + d + n * 32 + m * 65536 + 0 := rfl
 rw [ew]
 simp only [jB, aO, Int.reduceEq, if_true, if_false, ↓reduceIte] at r2 r3
 clear ew
 rw [aI.step]
 unfold aI.c
 refine eZ ?_
 have fx := aPQ r1 <| aPQ r2 <| aPQ r3 <| aPQ c1 <| aPQ c2 <| aPQ c3 <| aPQ s1 <| aPQ s2 <| aPQ o1 <| aPQ o2 <| o3
 refine gM ?_
 all_goals first | exact nY rfl rfl | (refine nY ?_ rfl; omega)
theorem aKa (G : aG) (k : Nat) (d n m a imm : Int) (h : aT ⟨5, d, n, m, a, imm⟩ = true) : aI.f G (k + 6) [mV 5 d n m a imm] [] = some (.tup [cX (cS ⟨5, d, n, m, a, imm⟩), .bool true], []) := by
 have r1 : ∀ H, aD (aS.f G (k + 5)) [mV 5 d n m a imm] H = _ := fun H => aE (H := H) (fL G k 5 d n m a imm) rfl rfl
 have r2 : ∀ H, aD (aN.f G (k + 5)) [.int .i64 5] H = _ := fun H => aE (H := H) (fV G (k + 1) 5) rfl rfl
 have r3 : ∀ H, aD (aZ.f G (k + 5)) [.int .i64 5] H = _ := fun H => aE (H := H) (gG G (k + 4) 5 (by decide)) rfl rfl
 rw [h] at r1
 unfold aT at h
 rw [Bool.and_eq_true] at h
 obtain ⟨_, h⟩ := h
 simp [aO, fD, gI, dU, gS, fC, dS] at h
 have c1 : aJ .u32 (I6 d) = some (cX d) := bF (by omega) (by omega)
 have c2 : aJ .u32 (I6 n) = some (cX n) := bF (by omega) (by omega)
 have c3 : aJ .u32 (I6 m) = some (cX m) := bF (by omega) (by omega)
 have s1 := dA Tryd.prog 71 true (v := n) (p := 32) (b := 5) 5 rfl (by decide) rfl (by omega) (by omega)
 have s2 := dA Tryd.prog 71 true (v := m) (p := 65536) (b := 16) 16 rfl (by decide) rfl (by omega) (by omega)
 have o1 := iD Tryd.prog 71 false (x := 2315255808) (v := d) (q := 32) 5 rfl (by omega) (by omega) (by omega) (by omega) (by omega)
 have o2 := dN Tryd.prog 71 false (x := 2315255808 + d) (v := n) (p := 32) (q := 32) 5 5 rfl rfl (by omega) (by omega) (by omega) (by omega) (by omega)
 have o3 := dN Tryd.prog 71 false (x := 2315255808 + d + n * 32) (v := m) (p := 65536) (q := 32) 16 5 rfl rfl (by omega) (by omega) (by omega) (by omega) (by omega)
 have ew : cS ⟨5, d, n, m, a, imm⟩ = 2315255808 + d + n * 32 + m * 65536 + 0 := rfl
 rw [ew]
 simp only [jB, aO, Int.reduceEq, if_true, if_false, ↓reduceIte] at r2 r3
 clear ew
 rw [aI.step]
 unfold aI.c
 refine eZ ?_
 have fx := aPQ r1 <| aPQ r2 <| aPQ r3 <| aPQ c1 <| aPQ c2 <| aPQ c3 <| aPQ s1 <| aPQ s2 <| aPQ o1 <| aPQ o2 <| o3
 refine gM ?_
 all_goals first | exact nY rfl rfl | (refine nY ?_ rfl; omega)
theorem aLD (G : aG) (k : Nat) (d n m a imm : Int) (h : aT ⟨6, d, n, m, a, imm⟩ = true) : aI.f G (k + 6) [mV 6 d n m a imm] [] = some (.tup [cX (cS ⟨6, d, n, m, a, imm⟩), .bool true], []) := by
 have r1 : ∀ H, aD (aS.f G (k + 5)) [mV 6 d n m a imm] H = _ := fun H => aE (H := H) (fL G k 6 d n m a imm) rfl rfl
 have r2 : ∀ H, aD (aN.f G (k + 5)) [.int .i64 6] H = _ := fun H => aE (H := H) (fV G (k + 1) 6) rfl rfl
 have r3 : ∀ H, aD (aZ.f G (k + 5)) [.int .i64 6] H = _ := fun H => aE (H := H) (gG G (k + 4) 6 (by decide)) rfl rfl
 rw [h] at r1
 unfold aT at h
 rw [Bool.and_eq_true] at h
 obtain ⟨_, h⟩ := h
 simp [aO, fD, gI, dU, gS, fC, dS] at h
 have c1 : aJ .u32 (I6 d) = some (cX d) := bF (by omega) (by omega)
 have c2 : aJ .u32 (I6 n) = some (cX n) := bF (by omega) (by omega)
 have c3 : aJ .u32 (I6 m) = some (cX m) := bF (by omega) (by omega)
 have s1 := dA Tryd.prog 71 true (v := n) (p := 32) (b := 5) 5 rfl (by decide) rfl (by omega) (by omega)
 have s2 := dA Tryd.prog 71 true (v := m) (p := 65536) (b := 16) 16 rfl (by decide) rfl (by omega) (by omega)
 have o1 := iD Tryd.prog 71 false (x := 2852126720) (v := d) (q := 32) 5 rfl (by omega) (by omega) (by omega) (by omega) (by omega)
 have o2 := dN Tryd.prog 71 false (x := 2852126720 + d) (v := n) (p := 32) (q := 32) 5 5 rfl rfl (by omega) (by omega) (by omega) (by omega) (by omega)
 have o3 := dN Tryd.prog 71 false (x := 2852126720 + d + n * 32) (v := m) (p := 65536) (q := 32) 16 5 rfl rfl (by omega) (by omega) (by omega) (by omega) (by omega)
 have ew : cS ⟨6, d, n, m, a, imm⟩ = 2852126720 + d + n * 32 + m * 65536 + 0 := rfl
 rw [ew]
 simp only [jB, aO, Int.reduceEq, if_true, if_false, ↓reduceIte] at r2 r3
 clear ew
 rw [aI.step]
 unfold aI.c
 refine eZ ?_
 have fx := aPQ r1 <| aPQ r2 <| aPQ r3 <| aPQ c1 <| aPQ c2 <| aPQ c3 <| aPQ s1 <| aPQ s2 <| aPQ o1 <| aPQ o2 <| o3
 refine gM ?_
 all_goals first | exact nY rfl rfl | (refine nY ?_ rfl; omega)
theorem aKQ (G : aG) (k : Nat) (d n m a imm : Int) (h : aT ⟨7, d, n, m, a, imm⟩ = true) : aI.f G (k + 6) [mV 7 d n m a imm] [] = some (.tup [cX (cS ⟨7, d, n, m, a, imm⟩), .bool true], []) := by
 have r1 : ∀ H, aD (aS.f G (k + 5)) [mV 7 d n m a imm] H = _ := fun H => aE (H := H) (fL G k 7 d n m a imm) rfl rfl
 have r2 : ∀ H, aD (aN.f G (k + 5)) [.int .i64 7] H = _ := fun H => aE (H := H) (fV G (k + 1) 7) rfl rfl
 have r3 : ∀ H, aD (aZ.f G (k + 5)) [.int .i64 7] H = _ := fun H => aE (H := H) (gG G (k + 4) 7 (by decide)) rfl rfl
 rw [h] at r1
 unfold aT at h
 rw [Bool.and_eq_true] at h
 obtain ⟨_, h⟩ := h
 simp [aO, fD, gI, dU, gS, fC, dS] at h
 have c1 : aJ .u32 (I6 d) = some (cX d) := bF (by omega) (by omega)
 have c2 : aJ .u32 (I6 n) = some (cX n) := bF (by omega) (by omega)
 have c3 : aJ .u32 (I6 m) = some (cX m) := bF (by omega) (by omega)
 have s1 := dA Tryd.prog 71 true (v := n) (p := 32) (b := 5) 5 rfl (by decide) rfl (by omega) (by omega)
 have s2 := dA Tryd.prog 71 true (v := m) (p := 65536) (b := 16) 16 rfl (by decide) rfl (by omega) (by omega)
 have o1 := iD Tryd.prog 71 false (x := 3388997632) (v := d) (q := 32) 5 rfl (by omega) (by omega) (by omega) (by omega) (by omega)
 have o2 := dN Tryd.prog 71 false (x := 3388997632 + d) (v := n) (p := 32) (q := 32) 5 5 rfl rfl (by omega) (by omega) (by omega) (by omega) (by omega)
 have o3 := dN Tryd.prog 71 false (x := 3388997632 + d + n * 32) (v := m) (p := 65536) (q := 32) 16 5 rfl rfl (by omega) (by omega) (by omega) (by omega) (by omega)
 have ew : cS ⟨7, d, n, m, a, imm⟩ = 3388997632 + d + n * 32 + m * 65536 + 0 := rfl
 rw [ew]
 simp only [jB, aO, Int.reduceEq, if_true, if_false, ↓reduceIte] at r2 r3
 clear ew
 rw [aI.step]
 unfold aI.c
 refine eZ ?_
 have fx := aPQ r1 <| aPQ r2 <| aPQ r3 <| aPQ c1 <| aPQ c2 <| aPQ c3 <| aPQ s1 <| aPQ s2 <| aPQ o1 <| aPQ o2 <| o3
 refine gM ?_
 all_goals first | exact nY rfl rfl | (refine nY ?_ rfl; omega)
theorem aKc (G : aG) (k : Nat) (d n m a imm : Int) (h : aT ⟨8, d, n, m, a, imm⟩ = true) : aI.f G (k + 6) [mV 8 d n m a imm] [] = some (.tup [cX (cS ⟨8, d, n, m, a, imm⟩), .bool true], []) := by
 have r1 : ∀ H, aD (aS.f G (k + 5)) [mV 8 d n m a imm] H = _ := fun H => aE (H := H) (fL G k 8 d n m a imm) rfl rfl
 have r2 : ∀ H, aD (aN.f G (k + 5)) [.int .i64 8] H = _ := fun H => aE (H := H) (fV G (k + 1) 8) rfl rfl
 have r3 : ∀ H, aD (aZ.f G (k + 5)) [.int .i64 8] H = _ := fun H => aE (H := H) (gG G (k + 4) 8 (by decide)) rfl rfl
 rw [h] at r1
 unfold aT at h
 rw [Bool.and_eq_true] at h
 obtain ⟨_, h⟩ := h
 simp [aO, fD, gI, dU, gS, fC, dS] at h
 have c1 : aJ .u32 (I6 d) = some (cX d) := bF (by omega) (by omega)
 have c2 : aJ .u32 (I6 n) = some (cX n) := bF (by omega) (by omega)
 have c3 : aJ .u32 (I6 m) = some (cX m) := bF (by omega) (by omega)
 have s1 := dA Tryd.prog 71 true (v := n) (p := 32) (b := 5) 5 rfl (by decide) rfl (by omega) (by omega)
 have s2 := dA Tryd.prog 71 true (v := m) (p := 65536) (b := 16) 16 rfl (by decide) rfl (by omega) (by omega)
 have o1 := iD Tryd.prog 71 false (x := 2600468480) (v := d) (q := 32) 5 rfl (by omega) (by omega) (by omega) (by omega) (by omega)
 have o2 := dN Tryd.prog 71 false (x := 2600468480 + d) (v := n) (p := 32) (q := 32) 5 5 rfl rfl (by omega) (by omega) (by omega) (by omega) (by omega)
 have o3 := dN Tryd.prog 71 false (x := 2600468480 + d + n * 32) (v := m) (p := 65536) (q := 32) 16 5 rfl rfl (by omega) (by omega) (by omega) (by omega) (by omega)
 have t1 := dA Tryd.prog 71 true (v := a) (p := 1024) (b := 10) 10 rfl (by decide) rfl (by omega) (by omega)
 have t2 := dN Tryd.prog 71 false (x := 2600468480 + d + n * 32 + m * 65536) (v := a) (p := 1024) (q := 32) 10 5 rfl rfl (by omega) (by omega) (by omega) (by omega) (by omega)
 have ew : cS ⟨8, d, n, m, a, imm⟩ = 2600468480 + d + n * 32 + m * 65536 + a * 1024 := rfl
 rw [ew]
 simp only [jB, aO, Int.reduceEq, if_true, if_false, ↓reduceIte] at r2 r3
 clear ew
 rw [aI.step]
 unfold aI.c
 refine eZ ?_
 have fx := aPQ r1 <| aPQ r2 <| aPQ r3 <| aPQ c1 <| aPQ c2 <| aPQ c3 <| aPQ s1 <| aPQ s2 <| aPQ o1 <| aPQ o2 <| aPQ o3 <| aPQ t1 <| t2
 refine gM ?_
 all_goals first | exact nY rfl rfl | (refine nY ?_ rfl; omega)
theorem aKV (G : aG) (k : Nat) (d n m a imm : Int) (h : aT ⟨9, d, n, m, a, imm⟩ = true) : aI.f G (k + 6) [mV 9 d n m a imm] [] = some (.tup [cX (cS ⟨9, d, n, m, a, imm⟩), .bool true], []) := by
 have r1 : ∀ H, aD (aS.f G (k + 5)) [mV 9 d n m a imm] H = _ := fun H => aE (H := H) (fL G k 9 d n m a imm) rfl rfl
 have r2 : ∀ H, aD (aN.f G (k + 5)) [.int .i64 9] H = _ := fun H => aE (H := H) (fV G (k + 1) 9) rfl rfl
 have r3 : ∀ H, aD (aZ.f G (k + 5)) [.int .i64 9] H = _ := fun H => aE (H := H) (gG G (k + 4) 9 (by decide)) rfl rfl
 rw [h] at r1
 unfold aT at h
 rw [Bool.and_eq_true] at h
 obtain ⟨_, h⟩ := h
 simp [aO, fD, gI, dU, gS, fC, dS] at h
 have c1 : aJ .u32 (I6 d) = some (cX d) := bF (by omega) (by omega)
 have c2 : aJ .u32 (I6 n) = some (cX n) := bF (by omega) (by omega)
 have c3 : aJ .u32 (I6 m) = some (cX m) := bF (by omega) (by omega)
 have s1 := dA Tryd.prog 71 true (v := n) (p := 32) (b := 5) 5 rfl (by decide) rfl (by omega) (by omega)
 have s2 := dA Tryd.prog 71 true (v := m) (p := 65536) (b := 16) 16 rfl (by decide) rfl (by omega) (by omega)
 have o1 := iD Tryd.prog 71 false (x := 2613083136) (v := d) (q := 32) 5 rfl (by omega) (by omega) (by omega) (by omega) (by omega)
 have o2 := dN Tryd.prog 71 false (x := 2613083136 + d) (v := n) (p := 32) (q := 32) 5 5 rfl rfl (by omega) (by omega) (by omega) (by omega) (by omega)
 have o3 := dN Tryd.prog 71 false (x := 2613083136 + d + n * 32) (v := m) (p := 65536) (q := 32) 16 5 rfl rfl (by omega) (by omega) (by omega) (by omega) (by omega)
 have ew : cS ⟨9, d, n, m, a, imm⟩ = 2613083136 + d + n * 32 + m * 65536 + 0 := rfl
 rw [ew]
 simp only [jB, aO, Int.reduceEq, if_true, if_false, ↓reduceIte] at r2 r3
 clear ew
 rw [aI.step]
 unfold aI.c
 refine eZ ?_
 have fx := aPQ r1 <| aPQ r2 <| aPQ r3 <| aPQ c1 <| aPQ c2 <| aPQ c3 <| aPQ s1 <| aPQ s2 <| aPQ o1 <| aPQ o2 <| o3
 refine gM ?_
 all_goals first | exact nY rfl rfl | (refine nY ?_ rfl; omega)
theorem aHZ (G : aG) (k : Nat) (d n m a imm : Int) (h : aT ⟨10, d, n, m, a, imm⟩ = true) : aI.f G (k + 6) [mV 10 d n m a imm] [] = some (.tup [cX (cS ⟨10, d, n, m, a, imm⟩), .bool true], []) := by
 have r1 : ∀ H, aD (aS.f G (k + 5)) [mV 10 d n m a imm] H = _ := fun H => aE (H := H) (fL G k 10 d n m a imm) rfl rfl
 have r2 : ∀ H, aD (aN.f G (k + 5)) [.int .i64 10] H = _ := fun H => aE (H := H) (fV G (k + 1) 10) rfl rfl
 have r3 : ∀ H, aD (aZ.f G (k + 5)) [.int .i64 10] H = _ := fun H => aE (H := H) (gG G (k + 4) 10 (by decide)) rfl rfl
 rw [h] at r1
 unfold aT at h
 rw [Bool.and_eq_true] at h
 obtain ⟨_, h⟩ := h
 simp [aO, fD, gI, dU, gS, fC, dS] at h
 have c1 : aJ .u32 (I6 d) = some (cX d) := bF (by omega) (by omega)
 have c2 : aJ .u32 (I6 n) = some (cX n) := bF (by omega) (by omega)
 have c3 : aJ .u32 (I6 m) = some (cX m) := bF (by omega) (by omega)
 have s1 := dA Tryd.prog 71 true (v := n) (p := 32) (b := 5) 5 rfl (by decide) rfl (by omega) (by omega)
 have s2 := dA Tryd.prog 71 true (v := m) (p := 65536) (b := 16) 16 rfl (by decide) rfl (by omega) (by omega)
 have o1 := iD Tryd.prog 71 false (x := 2432696320) (v := d) (q := 32) 5 rfl (by omega) (by omega) (by omega) (by omega) (by omega)
 have o2 := dN Tryd.prog 71 false (x := 2432696320 + d) (v := n) (p := 32) (q := 32) 5 5 rfl rfl (by omega) (by omega) (by omega) (by omega) (by omega)
 have o3 := dN Tryd.prog 71 false (x := 2432696320 + d + n * 32) (v := m) (p := 65536) (q := 1) 16 0 rfl rfl (by omega) (by omega) (by omega) (by omega) (by omega)
 have t1 := dA Tryd.prog 71 true (v := imm) (p := 1024) (b := 10) 10 rfl (by decide) rfl (by omega) (by omega)
 have t2 := dN Tryd.prog 71 false (x := 2432696320 + d + n * 32 + m * 65536) (v := imm) (p := 1024) (q := 4096) 10 12 rfl rfl (by omega) (by omega) (by omega) (by omega) (by omega)
 have ew : cS ⟨10, d, n, m, a, imm⟩ = 2432696320 + d + n * 32 + m * 65536 + imm * 1024 := rfl
 rw [ew]
 simp only [jB, aO, Int.reduceEq, if_true, if_false, ↓reduceIte] at r2 r3
 clear ew
 rw [aI.step]
 unfold aI.c
 refine eZ ?_
 have fx := aPQ r1 <| aPQ r2 <| aPQ r3 <| aPQ c1 <| aPQ c2 <| aPQ c3 <| aPQ s1 <| aPQ s2 <| aPQ o1 <| aPQ o2 <| aPQ o3 <| aPQ t1 <| t2
 refine gM ?_
 all_goals first | exact nY rfl rfl | (refine nY ?_ rfl; omega)
theorem aIM (G : aG) (k : Nat) (d n m a imm : Int) (h : aT ⟨11, d, n, m, a, imm⟩ = true) : aI.f G (k + 6) [mV 11 d n m a imm] [] = some (.tup [cX (cS ⟨11, d, n, m, a, imm⟩), .bool true], []) := by
 have r1 : ∀ H, aD (aS.f G (k + 5)) [mV 11 d n m a imm] H = _ := fun H => aE (H := H) (fL G k 11 d n m a imm) rfl rfl
 have r2 : ∀ H, aD (aN.f G (k + 5)) [.int .i64 11] H = _ := fun H => aE (H := H) (fV G (k + 1) 11) rfl rfl
 have r3 : ∀ H, aD (aZ.f G (k + 5)) [.int .i64 11] H = _ := fun H => aE (H := H) (gG G (k + 4) 11 (by decide)) rfl rfl
 rw [h] at r1
 unfold aT at h
 rw [Bool.and_eq_true] at h
 obtain ⟨_, h⟩ := h
 simp [aO, fD, gI, dU, gS, fC, dS] at h
 have c1 : aJ .u32 (I6 d) = some (cX d) := bF (by omega) (by omega)
 have c2 : aJ .u32 (I6 n) = some (cX n) := bF (by omega) (by omega)
 have c3 : aJ .u32 (I6 m) = some (cX m) := bF (by omega) (by omega)
 have s1 := dA Tryd.prog 71 true (v := n) (p := 32) (b := 5) 5 rfl (by decide) rfl (by omega) (by omega)
 have s2 := dA Tryd.prog 71 true (v := m) (p := 65536) (b := 16) 16 rfl (by decide) rfl (by omega) (by omega)
 have o1 := iD Tryd.prog 71 false (x := 3506438144) (v := d) (q := 32) 5 rfl (by omega) (by omega) (by omega) (by omega) (by omega)
 have o2 := dN Tryd.prog 71 false (x := 3506438144 + d) (v := n) (p := 32) (q := 32) 5 5 rfl rfl (by omega) (by omega) (by omega) (by omega) (by omega)
 have o3 := dN Tryd.prog 71 false (x := 3506438144 + d + n * 32) (v := m) (p := 65536) (q := 1) 16 0 rfl rfl (by omega) (by omega) (by omega) (by omega) (by omega)
 have t1 := dA Tryd.prog 71 true (v := imm) (p := 1024) (b := 10) 10 rfl (by decide) rfl (by omega) (by omega)
 have t2 := dN Tryd.prog 71 false (x := 3506438144 + d + n * 32 + m * 65536) (v := imm) (p := 1024) (q := 4096) 10 12 rfl rfl (by omega) (by omega) (by omega) (by omega) (by omega)
 have ew : cS ⟨11, d, n, m, a, imm⟩ = 3506438144 + d + n * 32 + m * 65536 + imm * 1024 := rfl
 rw [ew]
 simp only [jB, aO, Int.reduceEq, if_true, if_false, ↓reduceIte] at r2 r3
 clear ew
 rw [aI.step]
 unfold aI.c
 refine eZ ?_
 have fx := aPQ r1 <| aPQ r2 <| aPQ r3 <| aPQ c1 <| aPQ c2 <| aPQ c3 <| aPQ s1 <| aPQ s2 <| aPQ o1 <| aPQ o2 <| aPQ o3 <| aPQ t1 <| t2
 refine gM ?_
 all_goals first | exact nY rfl rfl | (refine nY ?_ rfl; omega)
theorem aJt (G : aG) (k : Nat) (d n m a imm : Int) (h : aT ⟨12, d, n, m, a, imm⟩ = true) : aI.f G (k + 6) [mV 12 d n m a imm] [] = some (.tup [cX (cS ⟨12, d, n, m, a, imm⟩), .bool true], []) := by
 have r1 : ∀ H, aD (aS.f G (k + 5)) [mV 12 d n m a imm] H = _ := fun H => aE (H := H) (fL G k 12 d n m a imm) rfl rfl
 have r2 : ∀ H, aD (aN.f G (k + 5)) [.int .i64 12] H = _ := fun H => aE (H := H) (fV G (k + 1) 12) rfl rfl
 have r3 : ∀ H, aD (aZ.f G (k + 5)) [.int .i64 12] H = _ := fun H => aE (H := H) (gG G (k + 4) 12 (by decide)) rfl rfl
 rw [h] at r1
 unfold aT at h
 rw [Bool.and_eq_true] at h
 obtain ⟨_, h⟩ := h
 simp [aO, fD, gI, dU, gS, fC, dS] at h
 have c1 : aJ .u32 (I6 d) = some (cX d) := bF (by omega) (by omega)
 have c2 : aJ .u32 (I6 n) = some (cX n) := bF (by omega) (by omega)
 have c3 : aJ .u32 (I6 m) = some (cX m) := bF (by omega) (by omega)
 have s1 := dA Tryd.prog 71 true (v := n) (p := 32) (b := 5) 5 rfl (by decide) rfl (by omega) (by omega)
 have s2 := dA Tryd.prog 71 true (v := m) (p := 65536) (b := 16) 16 rfl (by decide) rfl (by omega) (by omega)
 have o1 := iD Tryd.prog 71 false (x := 3544186880) (v := d) (q := 32) 5 rfl (by omega) (by omega) (by omega) (by omega) (by omega)
 have o2 := dN Tryd.prog 71 false (x := 3544186880 + d) (v := n) (p := 32) (q := 32) 5 5 rfl rfl (by omega) (by omega) (by omega) (by omega) (by omega)
 have o3 := dN Tryd.prog 71 false (x := 3544186880 + d + n * 32) (v := m) (p := 65536) (q := 1) 16 0 rfl rfl (by omega) (by omega) (by omega) (by omega) (by omega)
 have t0 := aDN Tryd.prog 71 true (a := 64) (b := imm) (by omega) (by omega) (by omega)
 have t1 := aLT Tryd.prog 71 true (a := 64 - imm) (by omega)
 have t2 := dA Tryd.prog 71 true (v := ((64 - imm) % 64)) (p := 65536) (b := 16) 16 rfl (by decide) rfl (by omega) (by omega)
 have t3 := dN Tryd.prog 71 false (x := 3544186880 + d + n * 32 + m * 65536) (v := ((64 - imm) % 64)) (p := 65536) (q := 64) 16 6 rfl rfl (by omega) (by omega) (by omega) (by omega) (by omega)
 have t4 := aDN Tryd.prog 71 true (a := 63) (b := imm) (by omega) (by omega) (by omega)
 have t5 := dA Tryd.prog 71 true (v := (63 - imm)) (p := 1024) (b := 10) 10 rfl (by decide) rfl (by omega) (by omega)
 have t6 := dN Tryd.prog 71 false (x := 3544186880 + d + n * 32 + m * 65536 + (64 - imm) % 64 * 65536) (v := (63 - imm)) (p := 1024) (q := 64) 10 6 rfl rfl (by omega) (by omega) (by omega) (by omega) (by omega)
 have ew : cS ⟨12, d, n, m, a, imm⟩ = 3544186880 + d + n * 32 + m * 65536 + ((64 - imm) % 64 * 65536 + (63 - imm) * 1024) := rfl
 rw [ew]
 simp only [jB, aO, Int.reduceEq, if_true, if_false, ↓reduceIte] at r2 r3
 clear ew
 rw [aI.step]
 unfold aI.c
 refine eZ ?_
 have fx := aPQ r1 <| aPQ r2 <| aPQ r3 <| aPQ c1 <| aPQ c2 <| aPQ c3 <| aPQ s1 <| aPQ s2 <| aPQ o1 <| aPQ o2 <| aPQ o3 <| aPQ t0 <| aPQ t1 <| aPQ t2 <| aPQ t3 <| aPQ t4 <| aPQ t5 <| t6
 refine gM ?_
 all_goals first | exact nY rfl rfl | (refine nY ?_ rfl; omega)
theorem aHU (G : aG) (k : Nat) (d n m a imm : Int) (h : aT ⟨13, d, n, m, a, imm⟩ = true) : aI.f G (k + 6) [mV 13 d n m a imm] [] = some (.tup [cX (cS ⟨13, d, n, m, a, imm⟩), .bool true], []) := by
 have r1 : ∀ H, aD (aS.f G (k + 5)) [mV 13 d n m a imm] H = _ := fun H => aE (H := H) (fL G k 13 d n m a imm) rfl rfl
 have r2 : ∀ H, aD (aN.f G (k + 5)) [.int .i64 13] H = _ := fun H => aE (H := H) (fV G (k + 1) 13) rfl rfl
 have r3 : ∀ H, aD (aZ.f G (k + 5)) [.int .i64 13] H = _ := fun H => aE (H := H) (gG G (k + 4) 13 (by decide)) rfl rfl
 rw [h] at r1
 unfold aT at h
 rw [Bool.and_eq_true] at h
 obtain ⟨_, h⟩ := h
 simp [aO, fD, gI, dU, gS, fC, dS] at h
 have c1 : aJ .u32 (I6 d) = some (cX d) := bF (by omega) (by omega)
 have c2 : aJ .u32 (I6 n) = some (cX n) := bF (by omega) (by omega)
 have c3 : aJ .u32 (I6 m) = some (cX m) := bF (by omega) (by omega)
 have s1 := dA Tryd.prog 71 true (v := n) (p := 32) (b := 5) 5 rfl (by decide) rfl (by omega) (by omega)
 have s2 := dA Tryd.prog 71 true (v := m) (p := 65536) (b := 16) 16 rfl (by decide) rfl (by omega) (by omega)
 have o1 := iD Tryd.prog 71 false (x := 3544186880) (v := d) (q := 32) 5 rfl (by omega) (by omega) (by omega) (by omega) (by omega)
 have o2 := dN Tryd.prog 71 false (x := 3544186880 + d) (v := n) (p := 32) (q := 32) 5 5 rfl rfl (by omega) (by omega) (by omega) (by omega) (by omega)
 have o3 := dN Tryd.prog 71 false (x := 3544186880 + d + n * 32) (v := m) (p := 65536) (q := 1) 16 0 rfl rfl (by omega) (by omega) (by omega) (by omega) (by omega)
 have t1 := dA Tryd.prog 71 true (v := imm) (p := 65536) (b := 16) 16 rfl (by decide) rfl (by omega) (by omega)
 have t2 := dN Tryd.prog 71 false (x := 3544186880 + d + n * 32 + m * 65536) (v := imm) (p := 65536) (q := 64) 16 6 rfl rfl (by omega) (by omega) (by omega) (by omega) (by omega)
 have t3 : aQ Tryd.prog .or 71 true (cX (3544186880 + d + n * 32 + m * 65536 + imm * 65536)) (.int .u32 64512) = some (cX (3544186880 + d + n * 32 + m * 65536 + imm * 65536 + 64512)) := dN Tryd.prog 71 true (x := 3544186880 + d + n * 32 + m * 65536 + imm * 65536) (v := 63) (p := 1024) (q := 64) 10 6 rfl rfl (by omega) (by omega) (by omega) (by omega) (by omega)
 have ew : cS ⟨13, d, n, m, a, imm⟩ = 3544186880 + d + n * 32 + m * 65536 + (imm * 65536 + 64512) := rfl
 rw [ew]
 simp only [jB, aO, Int.reduceEq, if_true, if_false, ↓reduceIte] at r2 r3
 clear ew
 rw [aI.step]
 unfold aI.c
 refine eZ ?_
 have fx := aPQ r1 <| aPQ r2 <| aPQ r3 <| aPQ c1 <| aPQ c2 <| aPQ c3 <| aPQ s1 <| aPQ s2 <| aPQ o1 <| aPQ o2 <| aPQ o3 <| aPQ t1 <| aPQ t2 <| t3
 refine gM ?_
 all_goals first | exact nY rfl rfl | (refine nY ?_ rfl; omega)
theorem aJh (G : aG) (k : Nat) (d n m a imm : Int) (h : aT ⟨14, d, n, m, a, imm⟩ = true) : aI.f G (k + 6) [mV 14 d n m a imm] [] = some (.tup [cX (cS ⟨14, d, n, m, a, imm⟩), .bool true], []) := by
 have r1 : ∀ H, aD (aS.f G (k + 5)) [mV 14 d n m a imm] H = _ := fun H => aE (H := H) (fL G k 14 d n m a imm) rfl rfl
 have r2 : ∀ H, aD (aN.f G (k + 5)) [.int .i64 14] H = _ := fun H => aE (H := H) (fV G (k + 1) 14) rfl rfl
 have r3 : ∀ H, aD (aZ.f G (k + 5)) [.int .i64 14] H = _ := fun H => aE (H := H) (gG G (k + 4) 14 (by decide)) rfl rfl
 rw [h] at r1
 unfold aT at h
 rw [Bool.and_eq_true] at h
 obtain ⟨_, h⟩ := h
 simp [aO, fD, gI, dU, gS, fC, dS] at h
 have c1 : aJ .u32 (I6 d) = some (cX d) := bF (by omega) (by omega)
 have c2 : aJ .u32 (I6 n) = some (cX n) := bF (by omega) (by omega)
 have c3 : aJ .u32 (I6 m) = some (cX m) := bF (by omega) (by omega)
 have s1 := dA Tryd.prog 71 true (v := n) (p := 32) (b := 5) 5 rfl (by decide) rfl (by omega) (by omega)
 have s2 := dA Tryd.prog 71 true (v := m) (p := 65536) (b := 16) 16 rfl (by decide) rfl (by omega) (by omega)
 have o1 := iD Tryd.prog 71 false (x := 2470509568) (v := d) (q := 32) 5 rfl (by omega) (by omega) (by omega) (by omega) (by omega)
 have o2 := dN Tryd.prog 71 false (x := 2470509568 + d) (v := n) (p := 32) (q := 32) 5 5 rfl rfl (by omega) (by omega) (by omega) (by omega) (by omega)
 have o3 := dN Tryd.prog 71 false (x := 2470509568 + d + n * 32) (v := m) (p := 65536) (q := 1) 16 0 rfl rfl (by omega) (by omega) (by omega) (by omega) (by omega)
 have t1 := dA Tryd.prog 71 true (v := imm) (p := 65536) (b := 16) 16 rfl (by decide) rfl (by omega) (by omega)
 have t2 := dN Tryd.prog 71 false (x := 2470509568 + d + n * 32 + m * 65536) (v := imm) (p := 65536) (q := 64) 16 6 rfl rfl (by omega) (by omega) (by omega) (by omega) (by omega)
 have ew : cS ⟨14, d, n, m, a, imm⟩ = 2470509568 + d + n * 32 + m * 65536 + imm * 65536 := rfl
 rw [ew]
 simp only [jB, aO, Int.reduceEq, if_true, if_false, ↓reduceIte] at r2 r3
 clear ew
 rw [aI.step]
 unfold aI.c
 refine eZ ?_
 have fx := aPQ r1 <| aPQ r2 <| aPQ r3 <| aPQ c1 <| aPQ c2 <| aPQ c3 <| aPQ s1 <| aPQ s2 <| aPQ o1 <| aPQ o2 <| aPQ o3 <| aPQ t1 <| t2
 refine gM ?_
 all_goals first | exact nY rfl rfl | (refine nY ?_ rfl; omega)
theorem aIT (G : aG) (k : Nat) (d n m a imm : Int) (h : aT ⟨15, d, n, m, a, imm⟩ = true) : aI.f G (k + 6) [mV 15 d n m a imm] [] = some (.tup [cX (cS ⟨15, d, n, m, a, imm⟩), .bool true], []) := by
 have r1 : ∀ H, aD (aS.f G (k + 5)) [mV 15 d n m a imm] H = _ := fun H => aE (H := H) (fL G k 15 d n m a imm) rfl rfl
 have r2 : ∀ H, aD (aN.f G (k + 5)) [.int .i64 15] H = _ := fun H => aE (H := H) (fV G (k + 1) 15) rfl rfl
 have r3 : ∀ H, aD (aZ.f G (k + 5)) [.int .i64 15] H = _ := fun H => aE (H := H) (gG G (k + 4) 15 (by decide)) rfl rfl
 rw [h] at r1
 unfold aT at h
 rw [Bool.and_eq_true] at h
 obtain ⟨_, h⟩ := h
 simp [aO, fD, gI, dU, gS, fC, dS] at h
 have c1 : aJ .u32 (I6 d) = some (cX d) := bF (by omega) (by omega)
 have c2 : aJ .u32 (I6 n) = some (cX n) := bF (by omega) (by omega)
 have c3 : aJ .u32 (I6 m) = some (cX m) := bF (by omega) (by omega)
 have s1 := dA Tryd.prog 71 true (v := n) (p := 32) (b := 5) 5 rfl (by decide) rfl (by omega) (by omega)
 have s2 := dA Tryd.prog 71 true (v := m) (p := 65536) (b := 16) 16 rfl (by decide) rfl (by omega) (by omega)
 have o1 := iD Tryd.prog 71 false (x := 3942645791) (v := d) (q := 1) 0 rfl (by omega) (by omega) (by omega) (by omega) (by omega)
 have o2 := dN Tryd.prog 71 false (x := 3942645791 + d) (v := n) (p := 32) (q := 32) 5 5 rfl rfl (by omega) (by omega) (by omega) (by omega) (by omega)
 have o3 := dN Tryd.prog 71 false (x := 3942645791 + d + n * 32) (v := m) (p := 65536) (q := 32) 16 5 rfl rfl (by omega) (by omega) (by omega) (by omega) (by omega)
 have ew : cS ⟨15, d, n, m, a, imm⟩ = 3942645791 + d + n * 32 + m * 65536 + 0 := rfl
 rw [ew]
 simp only [jB, aO, Int.reduceEq, if_true, if_false, ↓reduceIte] at r2 r3
 clear ew
 rw [aI.step]
 unfold aI.c
 refine eZ ?_
 have fx := aPQ r1 <| aPQ r2 <| aPQ r3 <| aPQ c1 <| aPQ c2 <| aPQ c3 <| aPQ s1 <| aPQ s2 <| aPQ o1 <| aPQ o2 <| o3
 refine gM ?_
 all_goals first | exact nY rfl rfl | (refine nY ?_ rfl; omega)
theorem aId (G : aG) (k : Nat) (d n m a imm : Int) (h : aT ⟨16, d, n, m, a, imm⟩ = true) : aI.f G (k + 6) [mV 16 d n m a imm] [] = some (.tup [cX (cS ⟨16, d, n, m, a, imm⟩), .bool true], []) := by
 have r1 : ∀ H, aD (aS.f G (k + 5)) [mV 16 d n m a imm] H = _ := fun H => aE (H := H) (fL G k 16 d n m a imm) rfl rfl
 have r2 : ∀ H, aD (aN.f G (k + 5)) [.int .i64 16] H = _ := fun H => aE (H := H) (fV G (k + 1) 16) rfl rfl
 have r3 : ∀ H, aD (aZ.f G (k + 5)) [.int .i64 16] H = _ := fun H => aE (H := H) (gG G (k + 4) 16 (by decide)) rfl rfl
 rw [h] at r1
 unfold aT at h
 rw [Bool.and_eq_true] at h
 obtain ⟨_, h⟩ := h
 simp [aO, fD, gI, dU, gS, fC, dS] at h
 have c1 : aJ .u32 (I6 d) = some (cX d) := bF (by omega) (by omega)
 have c2 : aJ .u32 (I6 n) = some (cX n) := bF (by omega) (by omega)
 have c3 : aJ .u32 (I6 m) = some (cX m) := bF (by omega) (by omega)
 have s1 := dA Tryd.prog 71 true (v := n) (p := 32) (b := 5) 5 rfl (by decide) rfl (by omega) (by omega)
 have s2 := dA Tryd.prog 71 true (v := m) (p := 65536) (b := 16) 16 rfl (by decide) rfl (by omega) (by omega)
 have o1 := iD Tryd.prog 71 false (x := 2592079872) (v := d) (q := 32) 5 rfl (by omega) (by omega) (by omega) (by omega) (by omega)
 have o2 := dN Tryd.prog 71 false (x := 2592079872 + d) (v := n) (p := 32) (q := 32) 5 5 rfl rfl (by omega) (by omega) (by omega) (by omega) (by omega)
 have o3 := dN Tryd.prog 71 false (x := 2592079872 + d + n * 32) (v := m) (p := 65536) (q := 32) 16 5 rfl rfl (by omega) (by omega) (by omega) (by omega) (by omega)
 have t1 := dA Tryd.prog 71 true (v := a) (p := 4096) (b := 12) 12 rfl (by decide) rfl (by omega) (by omega)
 have t2 := dN Tryd.prog 71 false (x := 2592079872 + d + n * 32 + m * 65536) (v := a) (p := 4096) (q := 16) 12 4 rfl rfl (by omega) (by omega) (by omega) (by omega) (by omega)
 have ew : cS ⟨16, d, n, m, a, imm⟩ = 2592079872 + d + n * 32 + m * 65536 + a * 4096 := rfl
 rw [ew]
 simp only [jB, aO, Int.reduceEq, if_true, if_false, ↓reduceIte] at r2 r3
 clear ew
 rw [aI.step]
 unfold aI.c
 refine eZ ?_
 have fx := aPQ r1 <| aPQ r2 <| aPQ r3 <| aPQ c1 <| aPQ c2 <| aPQ c3 <| aPQ s1 <| aPQ s2 <| aPQ o1 <| aPQ o2 <| aPQ o3 <| aPQ t1 <| t2
 refine gM ?_
 all_goals first | exact nY rfl rfl | (refine nY ?_ rfl; omega)
theorem aIY (G : aG) (k : Nat) (d n m a imm : Int) (h : aT ⟨17, d, n, m, a, imm⟩ = true) : aI.f G (k + 6) [mV 17 d n m a imm] [] = some (.tup [cX (cS ⟨17, d, n, m, a, imm⟩), .bool true], []) := by
 have r1 : ∀ H, aD (aS.f G (k + 5)) [mV 17 d n m a imm] H = _ := fun H => aE (H := H) (fL G k 17 d n m a imm) rfl rfl
 have r2 : ∀ H, aD (aN.f G (k + 5)) [.int .i64 17] H = _ := fun H => aE (H := H) (fV G (k + 1) 17) rfl rfl
 have r3 : ∀ H, aD (aZ.f G (k + 5)) [.int .i64 17] H = _ := fun H => aE (H := H) (gG G (k + 4) 17 (by decide)) rfl rfl
 rw [h] at r1
 unfold aT at h
 rw [Bool.and_eq_true] at h
 obtain ⟨_, h⟩ := h
 simp [aO, fD, gI, dU, gS, fC, dS] at h
 have c1 : aJ .u32 (I6 d) = some (cX d) := bF (by omega) (by omega)
 have c2 : aJ .u32 (I6 n) = some (cX n) := bF (by omega) (by omega)
 have c3 : aJ .u32 (I6 m) = some (cX m) := bF (by omega) (by omega)
 have s1 := dA Tryd.prog 71 true (v := n) (p := 32) (b := 5) 5 rfl (by decide) rfl (by omega) (by omega)
 have s2 := dA Tryd.prog 71 true (v := m) (p := 65536) (b := 16) 16 rfl (by decide) rfl (by omega) (by omega)
 have o1 := iD Tryd.prog 71 false (x := 2594113504) (v := d) (q := 32) 5 rfl (by omega) (by omega) (by omega) (by omega) (by omega)
 have o2 := dN Tryd.prog 71 false (x := 2594113504 + d) (v := n) (p := 32) (q := 1) 5 0 rfl rfl (by omega) (by omega) (by omega) (by omega) (by omega)
 have o3 := dN Tryd.prog 71 false (x := 2594113504 + d + n * 32) (v := m) (p := 65536) (q := 1) 16 0 rfl rfl (by omega) (by omega) (by omega) (by omega) (by omega)
 have t0 : aQ Tryd.prog .xor 3 true (I6 a) (.int .i64 1) = some (I6 (if a % 2 = 0 then a + 1 else a - 1)) := aHJ _ _ _ (by omega) (by omega)
 have t3 : aJ .u32 (I6 (if a % 2 = 0 then a + 1 else a - 1)) = some (cX (if a % 2 = 0 then a + 1 else a - 1)) := bF (by split <;> omega) (by split <;> omega)
 have t1 := dA Tryd.prog 71 true (v := (if a % 2 = 0 then a + 1 else a - 1)) (p := 4096) (b := 12) 12 rfl (by decide) rfl (by split <;> omega) (by split <;> omega)
 have t2 := dN Tryd.prog 71 false (x := 2594113504 + d + n * 32 + m * 65536) (v := (if a % 2 = 0 then a + 1 else a - 1)) (p := 4096) (q := 16) 12 4 rfl rfl (by omega) (by split <;> omega) (by split <;> omega) (by omega) (by split <;> omega)
 have ew : cS ⟨17, d, n, m, a, imm⟩ = 2594113504 + d + n * 32 + m * 65536 + (if a % 2 = 0 then a + 1 else a - 1) * 4096 := rfl
 rw [ew]
 simp only [jB, aO, Int.reduceEq, if_true, if_false, ↓reduceIte] at r2 r3
 clear ew
 rw [aI.step]
 unfold aI.c
 refine eZ ?_
 have fx := aPQ r1 <| aPQ r2 <| aPQ r3 <| aPQ c1 <| aPQ c2 <| aPQ c3 <| aPQ s1 <| aPQ s2 <| aPQ o1 <| aPQ o2 <| aPQ o3 <| aPQ t0 <| aPQ t3 <| aPQ t1 <| t2
 refine gM ?_
 all_goals first | exact nY rfl rfl | (refine nY ?_ rfl; omega)
theorem aJG (G : aG) (k : Nat) (d n m a imm : Int) (h : aT ⟨18, d, n, m, a, imm⟩ = true) : aI.f G (k + 6) [mV 18 d n m a imm] [] = some (.tup [cX (cS ⟨18, d, n, m, a, imm⟩), .bool true], []) := by
 have r1 : ∀ H, aD (aS.f G (k + 5)) [mV 18 d n m a imm] H = _ := fun H => aE (H := H) (fL G k 18 d n m a imm) rfl rfl
 have r2 : ∀ H, aD (aN.f G (k + 5)) [.int .i64 18] H = _ := fun H => aE (H := H) (fV G (k + 1) 18) rfl rfl
 have r3 : ∀ H, aD (aZ.f G (k + 5)) [.int .i64 18] H = _ := fun H => aE (H := H) (gG G (k + 4) 18 (by decide)) rfl rfl
 rw [h] at r1
 unfold aT at h
 rw [Bool.and_eq_true] at h
 obtain ⟨_, h⟩ := h
 simp [aO, fD, gI, dU, gS, fC, dS] at h
 have c1 : aJ .u32 (I6 d) = some (cX d) := bF (by omega) (by omega)
 have c2 : aJ .u32 (I6 n) = some (cX n) := bF (by omega) (by omega)
 have c3 : aJ .u32 (I6 m) = some (cX m) := bF (by omega) (by omega)
 have s1 := dA Tryd.prog 71 true (v := n) (p := 32) (b := 5) 5 rfl (by decide) rfl (by omega) (by omega)
 have s2 := dA Tryd.prog 71 true (v := m) (p := 65536) (b := 16) 16 rfl (by decide) rfl (by omega) (by omega)
 have o1 := iD Tryd.prog 71 false (x := 4181721088) (v := d) (q := 32) 5 rfl (by omega) (by omega) (by omega) (by omega) (by omega)
 have o2 := dN Tryd.prog 71 false (x := 4181721088 + d) (v := n) (p := 32) (q := 32) 5 5 rfl rfl (by omega) (by omega) (by omega) (by omega) (by omega)
 have o3 := dN Tryd.prog 71 false (x := 4181721088 + d + n * 32) (v := m) (p := 65536) (q := 1) 16 0 rfl rfl (by omega) (by omega) (by omega) (by omega) (by omega)
 have t1 := dA Tryd.prog 71 true (v := imm) (p := 1024) (b := 10) 10 rfl (by decide) rfl (by omega) (by omega)
 have t2 := dN Tryd.prog 71 false (x := 4181721088 + d + n * 32 + m * 65536) (v := imm) (p := 1024) (q := 4096) 10 12 rfl rfl (by omega) (by omega) (by omega) (by omega) (by omega)
 have ew : cS ⟨18, d, n, m, a, imm⟩ = 4181721088 + d + n * 32 + m * 65536 + imm * 1024 := rfl
 rw [ew]
 simp only [jB, aO, Int.reduceEq, if_true, if_false, ↓reduceIte] at r2 r3
 clear ew
 rw [aI.step]
 unfold aI.c
 refine eZ ?_
 have fx := aPQ r1 <| aPQ r2 <| aPQ r3 <| aPQ c1 <| aPQ c2 <| aPQ c3 <| aPQ s1 <| aPQ s2 <| aPQ o1 <| aPQ o2 <| aPQ o3 <| aPQ t1 <| t2
 refine gM ?_
 all_goals first | exact nY rfl rfl | (refine nY ?_ rfl; omega)
theorem aIq (G : aG) (k : Nat) (d n m a imm : Int) (h : aT ⟨19, d, n, m, a, imm⟩ = true) : aI.f G (k + 6) [mV 19 d n m a imm] [] = some (.tup [cX (cS ⟨19, d, n, m, a, imm⟩), .bool true], []) := by
 have r1 : ∀ H, aD (aS.f G (k + 5)) [mV 19 d n m a imm] H = _ := fun H => aE (H := H) (fL G k 19 d n m a imm) rfl rfl
 have r2 : ∀ H, aD (aN.f G (k + 5)) [.int .i64 19] H = _ := fun H => aE (H := H) (fV G (k + 1) 19) rfl rfl
 have r3 : ∀ H, aD (aZ.f G (k + 5)) [.int .i64 19] H = _ := fun H => aE (H := H) (gG G (k + 4) 19 (by decide)) rfl rfl
 rw [h] at r1
 unfold aT at h
 rw [Bool.and_eq_true] at h
 obtain ⟨_, h⟩ := h
 simp [aO, fD, gI, dU, gS, fC, dS] at h
 have c1 : aJ .u32 (I6 d) = some (cX d) := bF (by omega) (by omega)
 have c2 : aJ .u32 (I6 n) = some (cX n) := bF (by omega) (by omega)
 have c3 : aJ .u32 (I6 m) = some (cX m) := bF (by omega) (by omega)
 have s1 := dA Tryd.prog 71 true (v := n) (p := 32) (b := 5) 5 rfl (by decide) rfl (by omega) (by omega)
 have s2 := dA Tryd.prog 71 true (v := m) (p := 65536) (b := 16) 16 rfl (by decide) rfl (by omega) (by omega)
 have o1 := iD Tryd.prog 71 false (x := 4177526784) (v := d) (q := 32) 5 rfl (by omega) (by omega) (by omega) (by omega) (by omega)
 have o2 := dN Tryd.prog 71 false (x := 4177526784 + d) (v := n) (p := 32) (q := 32) 5 5 rfl rfl (by omega) (by omega) (by omega) (by omega) (by omega)
 have o3 := dN Tryd.prog 71 false (x := 4177526784 + d + n * 32) (v := m) (p := 65536) (q := 1) 16 0 rfl rfl (by omega) (by omega) (by omega) (by omega) (by omega)
 have t1 := dA Tryd.prog 71 true (v := imm) (p := 1024) (b := 10) 10 rfl (by decide) rfl (by omega) (by omega)
 have t2 := dN Tryd.prog 71 false (x := 4177526784 + d + n * 32 + m * 65536) (v := imm) (p := 1024) (q := 4096) 10 12 rfl rfl (by omega) (by omega) (by omega) (by omega) (by omega)
 have ew : cS ⟨19, d, n, m, a, imm⟩ = 4177526784 + d + n * 32 + m * 65536 + imm * 1024 := rfl
 rw [ew]
 simp only [jB, aO, Int.reduceEq, if_true, if_false, ↓reduceIte] at r2 r3
 clear ew
 rw [aI.step]
 unfold aI.c
 refine eZ ?_
 have fx := aPQ r1 <| aPQ r2 <| aPQ r3 <| aPQ c1 <| aPQ c2 <| aPQ c3 <| aPQ s1 <| aPQ s2 <| aPQ o1 <| aPQ o2 <| aPQ o3 <| aPQ t1 <| t2
 refine gM ?_
 all_goals first | exact nY rfl rfl | (refine nY ?_ rfl; omega)
theorem aJs (G : aG) (k : Nat) (d n m a imm : Int) (h : aT ⟨20, d, n, m, a, imm⟩ = true) : aI.f G (k + 6) [mV 20 d n m a imm] [] = some (.tup [cX (cS ⟨20, d, n, m, a, imm⟩), .bool true], []) := by
 have r1 : ∀ H, aD (aS.f G (k + 5)) [mV 20 d n m a imm] H = _ := fun H => aE (H := H) (fL G k 20 d n m a imm) rfl rfl
 have r2 : ∀ H, aD (aN.f G (k + 5)) [.int .i64 20] H = _ := fun H => aE (H := H) (fV G (k + 1) 20) rfl rfl
 have r3 : ∀ H, aD (aZ.f G (k + 5)) [.int .i64 20] H = _ := fun H => aE (H := H) (gG G (k + 4) 20 (by decide)) rfl rfl
 rw [h] at r1
 unfold aT at h
 rw [Bool.and_eq_true] at h
 obtain ⟨_, h⟩ := h
 simp [aO, fD, gI, dU, gS, fC, dS] at h
 have c1 : aJ .u32 (I6 d) = some (cX d) := bF (by omega) (by omega)
 have c2 : aJ .u32 (I6 n) = some (cX n) := bF (by omega) (by omega)
 have c3 : aJ .u32 (I6 m) = some (cX m) := bF (by omega) (by omega)
 have s1 := dA Tryd.prog 71 true (v := n) (p := 32) (b := 5) 5 rfl (by decide) rfl (by omega) (by omega)
 have s2 := dA Tryd.prog 71 true (v := m) (p := 65536) (b := 16) 16 rfl (by decide) rfl (by omega) (by omega)
 have o1 := iD Tryd.prog 71 false (x := 335544320) (v := d) (q := 1) 0 rfl (by omega) (by omega) (by omega) (by omega) (by omega)
 have o2 := dN Tryd.prog 71 false (x := 335544320 + d) (v := n) (p := 32) (q := 1) 5 0 rfl rfl (by omega) (by omega) (by omega) (by omega) (by omega)
 have o3 := dN Tryd.prog 71 false (x := 335544320 + d + n * 32) (v := m) (p := 65536) (q := 1) 16 0 rfl rfl (by omega) (by omega) (by omega) (by omega) (by omega)
 have t1 : aQ Tryd.prog .and 71 true (cX (imm % 4294967296)) (.int .u32 67108863) = some (cX (imm % 67108864)) := by
  have := jL Tryd.prog 71 true (x := imm % 4294967296) (q := 67108863) 26 (by decide) rfl (by omega) (by omega)
  rw [this]; congr 2; omega
 have t2 := iD Tryd.prog 71 false (x := 335544320 + d + n * 32 + m * 65536) (v := (imm % 67108864)) (q := 67108864) 26 rfl (by omega) (by omega) (by omega) (by omega) (by omega)
 have ew : cS ⟨20, d, n, m, a, imm⟩ = 335544320 + d + n * 32 + m * 65536 + imm % 67108864 := rfl
 rw [ew]
 simp only [jB, aO, Int.reduceEq, if_true, if_false, ↓reduceIte] at r2 r3
 clear ew
 rw [aI.step]
 unfold aI.c
 refine eZ ?_
 have fx := aPQ r1 <| aPQ r2 <| aPQ r3 <| aPQ c1 <| aPQ c2 <| aPQ c3 <| aPQ s1 <| aPQ s2 <| aPQ o1 <| aPQ o2 <| aPQ o3 <| aPQ cvM <| aPQ t1 <| t2
 refine gM ?_
 all_goals first | exact nY rfl rfl | (refine nY ?_ rfl; omega)
theorem aIv (G : aG) (k : Nat) (d n m a imm : Int) (h : aT ⟨21, d, n, m, a, imm⟩ = true) : aI.f G (k + 6) [mV 21 d n m a imm] [] = some (.tup [cX (cS ⟨21, d, n, m, a, imm⟩), .bool true], []) := by
 have r1 : ∀ H, aD (aS.f G (k + 5)) [mV 21 d n m a imm] H = _ := fun H => aE (H := H) (fL G k 21 d n m a imm) rfl rfl
 have r2 : ∀ H, aD (aN.f G (k + 5)) [.int .i64 21] H = _ := fun H => aE (H := H) (fV G (k + 1) 21) rfl rfl
 have r3 : ∀ H, aD (aZ.f G (k + 5)) [.int .i64 21] H = _ := fun H => aE (H := H) (gG G (k + 4) 21 (by decide)) rfl rfl
 rw [h] at r1
 unfold aT at h
 rw [Bool.and_eq_true] at h
 obtain ⟨_, h⟩ := h
 simp [aO, fD, gI, dU, gS, fC, dS] at h
 have c1 : aJ .u32 (I6 d) = some (cX d) := bF (by omega) (by omega)
 have c2 : aJ .u32 (I6 n) = some (cX n) := bF (by omega) (by omega)
 have c3 : aJ .u32 (I6 m) = some (cX m) := bF (by omega) (by omega)
 have s1 := dA Tryd.prog 71 true (v := n) (p := 32) (b := 5) 5 rfl (by decide) rfl (by omega) (by omega)
 have s2 := dA Tryd.prog 71 true (v := m) (p := 65536) (b := 16) 16 rfl (by decide) rfl (by omega) (by omega)
 have o1 := iD Tryd.prog 71 false (x := 1409286144) (v := d) (q := 1) 0 rfl (by omega) (by omega) (by omega) (by omega) (by omega)
 have o2 := dN Tryd.prog 71 false (x := 1409286144 + d) (v := n) (p := 32) (q := 1) 5 0 rfl rfl (by omega) (by omega) (by omega) (by omega) (by omega)
 have o3 := dN Tryd.prog 71 false (x := 1409286144 + d + n * 32) (v := m) (p := 65536) (q := 1) 16 0 rfl rfl (by omega) (by omega) (by omega) (by omega) (by omega)
 have t0 : aJ .u32 (I6 a) = some (cX a) := bF (by omega) (by omega)
 have t1 := iD Tryd.prog 71 false (x := 1409286144 + d + n * 32 + m * 65536) (v := a) (q := 16) 4 rfl (by omega) (by omega) (by omega) (by omega) (by omega)
 have t2 : aQ Tryd.prog .and 71 true (cX (imm % 4294967296)) (.int .u32 524287) = some (cX (imm % 524288)) := by
  have := jL Tryd.prog 71 true (x := imm % 4294967296) (q := 524287) 19 (by decide) rfl (by omega) (by omega)
  rw [this]; congr 2; omega
 have t3 := dA Tryd.prog 71 true (v := (imm % 524288)) (p := 32) (b := 5) 5 rfl (by decide) rfl (by omega) (by omega)
 have t4 := dN Tryd.prog 71 false (x := 1409286144 + d + n * 32 + m * 65536 + a) (v := (imm % 524288)) (p := 32) (q := 524288) 5 19 rfl rfl (by omega) (by omega) (by omega) (by omega) (by omega)
 have ew : cS ⟨21, d, n, m, a, imm⟩ = 1409286144 + d + n * 32 + m * 65536 + (a + imm % 524288 * 32) := rfl
 rw [ew]
 simp only [jB, aO, Int.reduceEq, if_true, if_false, ↓reduceIte] at r2 r3
 clear ew
 rw [aI.step]
 unfold aI.c
 refine eZ ?_
 have fx := aPQ r1 <| aPQ r2 <| aPQ r3 <| aPQ c1 <| aPQ c2 <| aPQ c3 <| aPQ s1 <| aPQ s2 <| aPQ o1 <| aPQ o2 <| aPQ o3 <| aPQ t0 <| aPQ cvM <| aPQ t1 <| aPQ t2 <| aPQ t3 <| t4
 refine gM ?_
 all_goals first | exact nY rfl rfl | (refine nY ?_ rfl; omega)
theorem aIl (G : aG) (k : Nat) (d n m a imm : Int) (h : aT ⟨22, d, n, m, a, imm⟩ = true) : aI.f G (k + 6) [mV 22 d n m a imm] [] = some (.tup [cX (cS ⟨22, d, n, m, a, imm⟩), .bool true], []) := by
 have r1 : ∀ H, aD (aS.f G (k + 5)) [mV 22 d n m a imm] H = _ := fun H => aE (H := H) (fL G k 22 d n m a imm) rfl rfl
 have r2 : ∀ H, aD (aN.f G (k + 5)) [.int .i64 22] H = _ := fun H => aE (H := H) (fV G (k + 1) 22) rfl rfl
 have r3 : ∀ H, aD (aZ.f G (k + 5)) [.int .i64 22] H = _ := fun H => aE (H := H) (gG G (k + 4) 22 (by decide)) rfl rfl
 rw [h] at r1
 unfold aT at h
 rw [Bool.and_eq_true] at h
 obtain ⟨_, h⟩ := h
 simp [aO, fD, gI, dU, gS, fC, dS] at h
 have c1 : aJ .u32 (I6 d) = some (cX d) := bF (by omega) (by omega)
 have c2 : aJ .u32 (I6 n) = some (cX n) := bF (by omega) (by omega)
 have c3 : aJ .u32 (I6 m) = some (cX m) := bF (by omega) (by omega)
 have s1 := dA Tryd.prog 71 true (v := n) (p := 32) (b := 5) 5 rfl (by decide) rfl (by omega) (by omega)
 have s2 := dA Tryd.prog 71 true (v := m) (p := 65536) (b := 16) 16 rfl (by decide) rfl (by omega) (by omega)
 have o1 := iD Tryd.prog 71 false (x := 3019898880) (v := d) (q := 32) 5 rfl (by omega) (by omega) (by omega) (by omega) (by omega)
 have o2 := dN Tryd.prog 71 false (x := 3019898880 + d) (v := n) (p := 32) (q := 1) 5 0 rfl rfl (by omega) (by omega) (by omega) (by omega) (by omega)
 have o3 := dN Tryd.prog 71 false (x := 3019898880 + d + n * 32) (v := m) (p := 65536) (q := 1) 16 0 rfl rfl (by omega) (by omega) (by omega) (by omega) (by omega)
 have t2 : aQ Tryd.prog .and 71 true (cX (imm % 4294967296)) (.int .u32 524287) = some (cX (imm % 524288)) := by
  have := jL Tryd.prog 71 true (x := imm % 4294967296) (q := 524287) 19 (by decide) rfl (by omega) (by omega)
  rw [this]; congr 2; omega
 have t3 := dA Tryd.prog 71 true (v := (imm % 524288)) (p := 32) (b := 5) 5 rfl (by decide) rfl (by omega) (by omega)
 have t4 := dN Tryd.prog 71 false (x := 3019898880 + d + n * 32 + m * 65536) (v := (imm % 524288)) (p := 32) (q := 524288) 5 19 rfl rfl (by omega) (by omega) (by omega) (by omega) (by omega)
 have ew : cS ⟨22, d, n, m, a, imm⟩ = 3019898880 + d + n * 32 + m * 65536 + imm % 524288 * 32 := rfl
 rw [ew]
 simp only [jB, aO, Int.reduceEq, if_true, if_false, ↓reduceIte] at r2 r3
 clear ew
 rw [aI.step]
 unfold aI.c
 refine eZ ?_
 have fx := aPQ r1 <| aPQ r2 <| aPQ r3 <| aPQ c1 <| aPQ c2 <| aPQ c3 <| aPQ s1 <| aPQ s2 <| aPQ o1 <| aPQ o2 <| aPQ o3 <| aPQ cvM <| aPQ t2 <| aPQ t3 <| t4
 refine gM ?_
 all_goals first | exact nY rfl rfl | (refine nY ?_ rfl; omega)
theorem aJK (G : aG) (k : Nat) (d n m a imm : Int) (h : aT ⟨23, d, n, m, a, imm⟩ = true) : aI.f G (k + 6) [mV 23 d n m a imm] [] = some (.tup [cX (cS ⟨23, d, n, m, a, imm⟩), .bool true], []) := by
 have r1 : ∀ H, aD (aS.f G (k + 5)) [mV 23 d n m a imm] H = _ := fun H => aE (H := H) (fL G k 23 d n m a imm) rfl rfl
 have r2 : ∀ H, aD (aN.f G (k + 5)) [.int .i64 23] H = _ := fun H => aE (H := H) (fV G (k + 1) 23) rfl rfl
 have r3 : ∀ H, aD (aZ.f G (k + 5)) [.int .i64 23] H = _ := fun H => aE (H := H) (gG G (k + 4) 23 (by decide)) rfl rfl
 rw [h] at r1
 unfold aT at h
 rw [Bool.and_eq_true] at h
 obtain ⟨_, h⟩ := h
 simp [aO, fD, gI, dU, gS, fC, dS] at h
 have c1 : aJ .u32 (I6 d) = some (cX d) := bF (by omega) (by omega)
 have c2 : aJ .u32 (I6 n) = some (cX n) := bF (by omega) (by omega)
 have c3 : aJ .u32 (I6 m) = some (cX m) := bF (by omega) (by omega)
 have s1 := dA Tryd.prog 71 true (v := n) (p := 32) (b := 5) 5 rfl (by decide) rfl (by omega) (by omega)
 have s2 := dA Tryd.prog 71 true (v := m) (p := 65536) (b := 16) 16 rfl (by decide) rfl (by omega) (by omega)
 have o1 := iD Tryd.prog 71 false (x := 3036676096) (v := d) (q := 32) 5 rfl (by omega) (by omega) (by omega) (by omega) (by omega)
 have o2 := dN Tryd.prog 71 false (x := 3036676096 + d) (v := n) (p := 32) (q := 1) 5 0 rfl rfl (by omega) (by omega) (by omega) (by omega) (by omega)
 have o3 := dN Tryd.prog 71 false (x := 3036676096 + d + n * 32) (v := m) (p := 65536) (q := 1) 16 0 rfl rfl (by omega) (by omega) (by omega) (by omega) (by omega)
 have t2 : aQ Tryd.prog .and 71 true (cX (imm % 4294967296)) (.int .u32 524287) = some (cX (imm % 524288)) := by
  have := jL Tryd.prog 71 true (x := imm % 4294967296) (q := 524287) 19 (by decide) rfl (by omega) (by omega)
  rw [this]; congr 2; omega
 have t3 := dA Tryd.prog 71 true (v := (imm % 524288)) (p := 32) (b := 5) 5 rfl (by decide) rfl (by omega) (by omega)
 have t4 := dN Tryd.prog 71 false (x := 3036676096 + d + n * 32 + m * 65536) (v := (imm % 524288)) (p := 32) (q := 524288) 5 19 rfl rfl (by omega) (by omega) (by omega) (by omega) (by omega)
 have ew : cS ⟨23, d, n, m, a, imm⟩ = 3036676096 + d + n * 32 + m * 65536 + imm % 524288 * 32 := rfl
 rw [ew]
 simp only [jB, aO, Int.reduceEq, if_true, if_false, ↓reduceIte] at r2 r3
 clear ew
 rw [aI.step]
 unfold aI.c
 refine eZ ?_
 have fx := aPQ r1 <| aPQ r2 <| aPQ r3 <| aPQ c1 <| aPQ c2 <| aPQ c3 <| aPQ s1 <| aPQ s2 <| aPQ o1 <| aPQ o2 <| aPQ o3 <| aPQ cvM <| aPQ t2 <| aPQ t3 <| t4
 refine gM ?_
 all_goals first | exact nY rfl rfl | (refine nY ?_ rfl; omega)
theorem aJJ (G : aG) (k : Nat) (d n m a imm : Int) (h : aT ⟨24, d, n, m, a, imm⟩ = true) : aI.f G (k + 6) [mV 24 d n m a imm] [] = some (.tup [cX (cS ⟨24, d, n, m, a, imm⟩), .bool true], []) := by
 have r1 : ∀ H, aD (aS.f G (k + 5)) [mV 24 d n m a imm] H = _ := fun H => aE (H := H) (fL G k 24 d n m a imm) rfl rfl
 have r2 : ∀ H, aD (aN.f G (k + 5)) [.int .i64 24] H = _ := fun H => aE (H := H) (fV G (k + 1) 24) rfl rfl
 have r3 : ∀ H, aD (aZ.f G (k + 5)) [.int .i64 24] H = _ := fun H => aE (H := H) (gG G (k + 4) 24 (by decide)) rfl rfl
 rw [h] at r1
 unfold aT at h
 rw [Bool.and_eq_true] at h
 obtain ⟨_, h⟩ := h
 simp [aO, fD, gI, dU, gS, fC, dS] at h
 have c1 : aJ .u32 (I6 d) = some (cX d) := bF (by omega) (by omega)
 have c2 : aJ .u32 (I6 n) = some (cX n) := bF (by omega) (by omega)
 have c3 : aJ .u32 (I6 m) = some (cX m) := bF (by omega) (by omega)
 have s1 := dA Tryd.prog 71 true (v := n) (p := 32) (b := 5) 5 rfl (by decide) rfl (by omega) (by omega)
 have s2 := dA Tryd.prog 71 true (v := m) (p := 65536) (b := 16) 16 rfl (by decide) rfl (by omega) (by omega)
 have o1 := iD Tryd.prog 71 false (x := 3560964096) (v := d) (q := 1) 0 rfl (by omega) (by omega) (by omega) (by omega) (by omega)
 have o2 := dN Tryd.prog 71 false (x := 3560964096 + d) (v := n) (p := 32) (q := 1) 5 0 rfl rfl (by omega) (by omega) (by omega) (by omega) (by omega)
 have o3 := dN Tryd.prog 71 false (x := 3560964096 + d + n * 32) (v := m) (p := 65536) (q := 1) 16 0 rfl rfl (by omega) (by omega) (by omega) (by omega) (by omega)
 have t1 := dA Tryd.prog 71 true (v := imm) (p := 32) (b := 5) 5 rfl (by decide) rfl (by omega) (by omega)
 have t2 := dN Tryd.prog 71 false (x := 3560964096 + d + n * 32 + m * 65536) (v := imm) (p := 32) (q := 65536) 5 16 rfl rfl (by omega) (by omega) (by omega) (by omega) (by omega)
 have ew : cS ⟨24, d, n, m, a, imm⟩ = 3560964096 + d + n * 32 + m * 65536 + imm * 32 := rfl
 rw [ew]
 simp only [jB, aO, Int.reduceEq, if_true, if_false, ↓reduceIte] at r2 r3
 clear ew
 rw [aI.step]
 unfold aI.c
 refine eZ ?_
 have fx := aPQ r1 <| aPQ r2 <| aPQ r3 <| aPQ c1 <| aPQ c2 <| aPQ c3 <| aPQ s1 <| aPQ s2 <| aPQ o1 <| aPQ o2 <| aPQ o3 <| aPQ t1 <| t2
 refine gM ?_
 all_goals first | exact nY rfl rfl | (refine nY ?_ rfl; omega)
theorem hU (G : aG) (k : Nat) (i : MI) : aI.f G (k + 6) [i.v] [] = some (.tup [cX (mX i), .bool (aT i)], []) := by
 cases hr : aT i
 ·have e : mX i = 0 := by unfold mX; rw [hr]; rfl
  rw [e]
  obtain ⟨op, d, n, m, a, imm⟩ := i
  show aI.f G (k + 6) [mV op d n m a imm] [] = _
  have r1 : ∀ H, aD (aS.f G (k + 5)) [mV op d n m a imm] H = _ := fun H => aE (H := H) (fL G k op d n m a imm) rfl rfl
  rw [hr] at r1
  rw [aI.step]
  unfold aI.c
  refine eZ ?_
  have fx := r1
  refine gM ?_
  exact w2 rfl rfl rfl
 ·have e : mX i = cS i := by unfold mX; rw [hr]; rfl
  rw [e]
  obtain ⟨op, d, n, m, a, imm⟩ := i
  show aI.f G (k + 6) [mV op d n m a imm] [] = _
  have h24 : 1 ≤ op ∧ op ≤ 24 := qO hr
  rcases xA h24 with rfl | rfl | rfl | rfl | rfl | rfl | rfl | rfl | rfl | rfl | rfl | rfl | rfl | rfl | rfl | rfl | rfl | rfl | rfl | rfl | rfl | rfl | rfl | rfl
  ·exact aKL G k d n m a imm hr
  ·exact aKG G k d n m a imm hr
  ·exact aLF G k d n m a imm hr
  ·exact aKl G k d n m a imm hr
  ·exact aKa G k d n m a imm hr
  ·exact aLD G k d n m a imm hr
  ·exact aKQ G k d n m a imm hr
  ·exact aKc G k d n m a imm hr
  ·exact aKV G k d n m a imm hr
  ·exact aHZ G k d n m a imm hr
  ·exact aIM G k d n m a imm hr
  ·exact aJt G k d n m a imm hr
  ·exact aHU G k d n m a imm hr
  ·exact aJh G k d n m a imm hr
  ·exact aIT G k d n m a imm hr
  ·exact aId G k d n m a imm hr
  ·exact aIY G k d n m a imm hr
  ·exact aJG G k d n m a imm hr
  ·exact aIq G k d n m a imm hr
  ·exact aJs G k d n m a imm hr
  ·exact aIv G k d n m a imm hr
  ·exact aIl G k d n m a imm hr
  ·exact aJK G k d n m a imm hr
  ·exact aJJ G k d n m a imm hr
theorem uY (G : aG) (k : Nat) (w b h : Int) (hb : (b = 19 ∧ h = 262144) ∨ (b = 26 ∧ h = 33554432)) (h0 : 0 ≤ w) (h1 : w < 4294967296) : bQ.f G (k + 1) [cX w, I6 b] [] = some (I6 (aAm (w % (2 * h)) h), []) := by
 rw [bQ.step]
 unfold bQ.c aAm
 obtain ⟨s1, s2, s3, s4, s5, s6, s7⟩ : aJ .u64 (I6 b) = some (.int .u64 b) ∧ aQ Tryd.prog .shl 71 true (.int .u32 1) (.int .u64 b) = some (cX (2 * h)) ∧ aQ Tryd.prog .sub 71 true (cX (2 * h)) (.int .u32 1) = some (cX (2 * h - 1)) ∧ aQ Tryd.prog .sub 3 true (I6 b) (.int .i64 1) = some (I6 (b - 1)) ∧
   aJ .u64 (I6 (b - 1)) = some (.int .u64 (b - 1)) ∧ aQ Tryd.prog .shl 3 true (.int .i64 1) (.int .u64 (b - 1)) = some (I6 h) ∧ aQ Tryd.prog .shl 3 true (.int .i64 1) (.int .u64 b) = some (I6 (2 * h)) := by
  clear h0 h1
  rcases hb with ⟨rfl, rfl⟩ | ⟨rfl, rfl⟩
  ·exact ⟨by kernel_rfl, by kernel_rfl, by kernel_rfl, by kernel_rfl, by kernel_rfl, by kernel_rfl, by kernel_rfl⟩
  ·exact ⟨by kernel_rfl, by kernel_rfl, by kernel_rfl, by kernel_rfl, by kernel_rfl, by kernel_rfl, by kernel_rfl⟩
 have s8 : aQ Tryd.prog .and 71 false (cX w) (cX (2 * h - 1)) = some (cX (w % (2 * h))) := by
  rcases hb with ⟨rfl, rfl⟩ | ⟨rfl, rfl⟩
  ·exact jL Tryd.prog 71 false (x := w) (q := 524287) 19 (by decide) rfl h0 h1
  ·exact jL Tryd.prog 71 false (x := w) (q := 67108863) 26 (by decide) rfl h0 h1
 have m0 : 0 ≤ w % (2 * h) := Int.emod_nonneg _ (by omega)
 have m1 : w % (2 * h) < 2 * h := Int.emod_lt_of_pos _ (by omega)
 have hh : 0 ≤ h ∧ h ≤ 33554432 := by omega
 clear hb
 generalize w % (2 * h) = z at *
 refine eZ ?_
 by_cases hc : h ≤ z
 ·rw [if_pos hc]
  have fx := aPQ s1 <| aPQ s2 <| aPQ s3 <| aPQ s4 <| aPQ s5 <| aPQ s6 <| aPQ s7 <| s8
  refine gM ?_
  exact tA rfl
 ·rw [if_neg hc]
  have fx := aPQ s1 <| aPQ s2 <| aPQ s3 <| aPQ s4 <| aPQ s5 <| aPQ s6 <| aPQ s7 <| s8
  refine gM ?_
  exact tA rfl
def oL (op w : Int) : MI := if op = 12 then ⟨12, w % 32, w / 32 % 32, 0, 0, (64 - w / 65536 % 64) % 64⟩ else uG op w
def vA (op w : Int) : Bool := aT (oL op w) && decide (cS (oL op w) = w)
def aEp (op w : Int) : AV := if vA op w = true then .tup [(oL op w).v, .bool true] else .tup [mV 0 0 0 0 0 0, .bool false]
theorem aDC (G : aG) (k : Nat) (op w : Int) (hop : 1 ≤ op ∧ op ≤ 24) (h0 : 0 ≤ w) (h1 : w < 4294967296) : cW.f G (k + 7) [I6 op, cX w] [] = some (aEp op w, []) := by
 rw [cW.step]
 unfold cW.c
 have r1 : ∀ H, aD (aN.f G (k + 6)) [I6 op] H = _ := fun H => aE (H := H) (fV G (k + 2) op) rfl rfl
 have r3 : ∀ H, aD (aI.f G (k + 6)) [(oL op w).v] H = _ := fun H => aE (H := H) (hU G k (oL op w)) rfl rfl
 have r4 : aT (oL op w) = true → mX (oL op w) = cS (oL op w) := fun h => by unfold mX; rw [if_pos h]
 have d1 : 0 ≤ w / 32 ∧ w / 32 < 4294967296 := by omega
 have g19 : ∀ H, aD (bQ.f G (k + 6)) [cX (w / 32), .int .i64 19] H = some (I6 (aAm (w / 32 % 524288) 262144), H) := fun H => aE (H := H) (uY G (k + 5) (w / 32) 19 262144 (.inl ⟨rfl, rfl⟩) d1.1 d1.2) rfl rfl
 have g26 : ∀ H, aD (bQ.f G (k + 6)) [cX w, .int .i64 26] H = some (I6 (aAm (w % 67108864) 33554432), H) := fun H => aE (H := H) (uY G (k + 5) w 26 33554432 (.inr ⟨rfl, rfl⟩) h0 h1) rfl rfl
 have s5 := aCa Tryd.prog 71 true .u64 (v := w) (p := 32) (b := 5) 5 rfl (by decide) rfl h0
 have s10 := aCa Tryd.prog 71 true .u64 (v := w) (p := 1024) (b := 10) 10 rfl (by decide) rfl h0
 have s12 := aCa Tryd.prog 71 true .u64 (v := w) (p := 4096) (b := 12) 12 rfl (by decide) rfl h0
 have s16 := aCa Tryd.prog 71 true .u64 (v := w) (p := 65536) (b := 16) 16 rfl (by decide) rfl h0
 have s21 := aCa Tryd.prog 71 true .u64 (v := w) (p := 2097152) (b := 21) 21 rfl (by decide) rfl h0
 have a0 : aQ Tryd.prog .and 71 true (cX w) (.int .u32 31) = some (cX (w % 32)) := jL _ _ _ (x := w) (q := 31) 5 (by decide) rfl (by omega) (by omega)
 have a5 : aQ Tryd.prog .and 71 true (cX (w / 32)) (.int .u32 31) = some (cX (w / 32 % 32)) := jL _ _ _ (x := w / 32) (q := 31) 5 (by decide) rfl (by omega) (by omega)
 have a16 : aQ Tryd.prog .and 71 true (cX (w / 65536)) (.int .u32 31) = some (cX (w / 65536 % 32)) := jL _ _ _ (x := w / 65536) (q := 31) 5 (by decide) rfl (by omega) (by omega)
 have a21 : aQ Tryd.prog .and 71 true (cX (w / 2097152)) (.int .u32 3) = some (cX (w / 2097152 % 4)) := jL _ _ _ (x := w / 2097152) (q := 3) 2 (by decide) rfl (by omega) (by omega)
 have a10 : aQ Tryd.prog .and 71 true (cX (w / 1024)) (.int .u32 31) = some (cX (w / 1024 % 32)) := jL _ _ _ (x := w / 1024) (q := 31) 5 (by decide) rfl (by omega) (by omega)
 have a12 : aQ Tryd.prog .and 71 true (cX (w / 4096)) (.int .u32 15) = some (cX (w / 4096 % 16)) := jL _ _ _ (x := w / 4096) (q := 15) 4 (by decide) rfl (by omega) (by omega)
 have a4 : aQ Tryd.prog .and 71 true (cX w) (.int .u32 15) = some (cX (w % 16)) := jL _ _ _ (x := w) (q := 15) 4 (by decide) rfl (by omega) (by omega)
 have b16 : aQ Tryd.prog .and 71 true (cX (w / 65536)) (.int .u32 63) = some (cX (w / 65536 % 64)) := jL _ _ _ (x := w / 65536) (q := 63) 6 (by decide) rfl (by omega) (by omega)
 have b10 : aQ Tryd.prog .and 71 true (cX (w / 1024)) (.int .u32 4095) = some (cX (w / 1024 % 4096)) := jL _ _ _ (x := w / 1024) (q := 4095) 12 (by decide) rfl (by omega) (by omega)
 have b5 : aQ Tryd.prog .and 71 true (cX (w / 32)) (.int .u32 65535) = some (cX (w / 32 % 65536)) := jL _ _ _ (x := w / 32) (q := 65535) 16 (by decide) rfl (by omega) (by omega)
 have x1 := aHJ Tryd.prog 3 true (a := w / 4096 % 16) (by omega) (by omega)
 have l1 : aQ Tryd.prog .sub 3 true (.int .i64 64) (I6 (w / 65536 % 64)) = some (I6 (64 - w / 65536 % 64)) := aGQ (by omega) (by omega)
 have l2 : aQ Tryd.prog .rem 3 true (I6 (64 - w / 65536 % 64)) (.int .i64 64) = some (I6 ((64 - w / 65536 % 64) % 64)) := by
  rw [aCp _ _ _ _ _ _ (by decide), Int.tmod_eq_emod_of_nonneg (by omega)]
 unfold aEp vA
 generalize mX (oL op w) = zr at *
 generalize cS (oL op w) = zf at *
 generalize aT (oL op w) = b at *
 clear d1
 refine eZ ?_
 rcases xA hop with rfl | rfl | rfl | rfl | rfl | rfl | rfl | rfl | rfl | rfl | rfl | rfl | rfl | rfl | rfl | rfl | rfl | rfl | rfl | rfl | rfl | rfl | rfl | rfl
 all_goals (
  clear hop
  simp only [jB, aO, Int.reduceEq, if_true, if_false, ↓reduceIte] at r1
  simp only [oL, uG, aO, exA, exI, MI.v, Int.reduceEq, or_false, false_or, or_self, true_or, or_true, if_true, if_false, ↓reduceIte, Bool.false_eq_true] at r3 ⊢
  cases b
  ·simp only [Bool.false_and, Bool.false_eq_true, if_false, ↓reduceIte]
   have fx := aPQ r1 <| aPQ r3 <| aPQ g19 <| aPQ g26 <| aPQ s5 <| aPQ s10 <| aPQ s12 <| aPQ s16 <| aPQ s21 <| aPQ a0 <| aPQ a5 <| aPQ a16 <| aPQ a21 <| aPQ a10 <| aPQ a12 <| aPQ a4 <| aPQ b16 <| aPQ b10 <| aPQ b5 <| aPQ x1 <| aPQ l1 <| l2
   refine kM ?_
   exact oF (lW rfl rfl rfl)
  ·have r4 := r4 rfl
   subst r4
   by_cases hz : zr = w
   ·rw [decide_eq_true hz]
    simp only [Bool.and_self, ↓reduceIte]
    have fx := aPQ r1 <| aPQ r3 <| aPQ g19 <| aPQ g26 <| aPQ s5 <| aPQ s10 <| aPQ s12 <| aPQ s16 <| aPQ s21 <| aPQ a0 <| aPQ a5 <| aPQ a16 <| aPQ a21 <| aPQ a10 <| aPQ a12 <| aPQ a4 <| aPQ b16 <| aPQ b10 <| aPQ b5 <| aPQ x1 <| aPQ l1 <| l2
    refine kM ?_
    exact oF (lW rfl rfl rfl)
   ·rw [decide_eq_false hz]
    simp only [Bool.and_false, Bool.false_eq_true, ↓reduceIte]
    have fx := aPQ r1 <| aPQ r3 <| aPQ g19 <| aPQ g26 <| aPQ s5 <| aPQ s10 <| aPQ s12 <| aPQ s16 <| aPQ s21 <| aPQ a0 <| aPQ a5 <| aPQ a16 <| aPQ a21 <| aPQ a10 <| aPQ a12 <| aPQ a4 <| aPQ b16 <| aPQ b10 <| aPQ b5 <| aPQ x1 <| aPQ l1 <| l2
    refine kM ?_
    exact oF (lW rfl rfl rfl))
def nT : Nat → Int → Int → Option MI
 | 0, _, _ => none
 | d + 1, op, w => if op ≠ 12 ∧ vA op w = true then some (oL op w) else nT d (op + 1) w
def aMX (w : Int) : Option MI := match nT 24 1 w with
 | some i => some i
 | none => if vA 12 w = true then some (oL 12 w) else none
theorem aFl {op w : Int} (h : op ≠ 12) : oL op w = uG op w := by unfold oL; rw [if_neg h]
theorem aGP {op w : Int} (h : op ≠ 12) : vA op w = okB op w := by
 unfold vA okB asB
 rw [aFl h, decide_eq_true h]
 simp
theorem zV : ∀ {d : Nat} {op w : Int} {i : MI}, nT d op w = some i → ∃ o, o ≠ 12 ∧ okB o w = true ∧ i = uG o w ∧ op ≤ o ∧ o < op + d
 | 0, op, w, i, h => by cases h
 | d + 1, op, w, i, h => by
  unfold nT at h
  by_cases hk : op ≠ 12 ∧ vA op w = true
  ·rw [if_pos hk] at h
   simp at h
   exact ⟨op, hk.1, by rw [← aGP hk.1]; exact hk.2, by rw [← aFl hk.1]; exact h.symm, by omega, by omega⟩
  ·rw [if_neg hk] at h
   obtain ⟨o, h0, h1, h2, h3, h4⟩ := zV h
   exact ⟨o, h0, h1, h2, by omega, by omega⟩
theorem aAZ : ∀ {d : Nat} {op w : Int}, nT d op w = none → ∀ o : Int, o ≠ 12 → op ≤ o → o < op + d → okB o w = false
 | 0, op, w, _, o, _, h1, h2 => by omega
 | d + 1, op, w, h, o, h0, h1, h2 => by
  unfold nT at h
  by_cases hk : op ≠ 12 ∧ vA op w = true
  ·rw [if_pos hk] at h; cases h
  ·rw [if_neg hk] at h
   by_cases ho : o = op
   ·subst ho
    rw [aGP h0] at hk
    simpa [h0] using hk
   ·exact aAZ h o h0 (by omega) (by omega)
theorem aLj {d : Nat} {w : Int} {i : MI} (h : nT d 1 w = some i) : ofF w = some i := by
 obtain ⟨o, h0, h1, rfl, _, _⟩ := zV h
 obtain ⟨⟨h2, h3⟩, h4⟩ := vC.1 h1
 exact aFn.2 ⟨h2, h3, h4⟩
theorem aJX (w : Int) : aMX w = ofF w := by
 unfold aMX
 cases hr : nT 24 1 w with
 | some i => exact (aLj hr).symm
 | none =>
  simp only
  have hn := aAZ hr
  cases hq : ofF w with
  | some i =>
   obtain ⟨h1, h2, h3⟩ := aCr hq
   have h24 := qO h1
   have hop : i.op = 12 := by
    apply Classical.byContradiction
    intro hne
    have h4 := hn i.op hne h24.1 (by omega)
    have hk : okB i.op w = true := by
     subst h2
     rw [vC, (rK h1).2.2.1]
     exact ⟨⟨h1, rfl⟩, h3⟩
    rw [hk] at h4; cases h4
   have e : oL 12 w = i := by
    obtain ⟨op, d, n, m, a, imm⟩ := i
    simp only at hop; subst hop
    unfold aT at h1
    rw [Bool.and_eq_true] at h1
    obtain ⟨_, h1⟩ := h1
    simp [aO, fD, gI, dU, gS, fC, dS] at h1
    have h2' : w = 3544186880 + d + n * 32 + m * 65536 + ((64 - imm) % 64 * 65536 + (63 - imm) * 1024) := h2.symm
    have hi : imm ≠ 0 := fun h => h3 ⟨rfl, h⟩
    have e64 : (64 - imm) % 64 = 64 - imm := by omega
    rw [e64] at h2'
    clear h2
    have e65 : w / 65536 = 54144 - imm := by omega
    simp [oL]
    refine ⟨?_, ?_, ?_, ?_, ?_⟩ <;> omega
   have hb : vA 12 w = true := by
    unfold vA
    rw [e, h1, h2]; simp
   rw [if_pos hb, e]
  | none =>
   by_cases hb : vA 12 w = true
   ·exfalso
    have hb' := hb
    unfold vA at hb'
    rw [Bool.and_eq_true] at hb'
    obtain ⟨h1, h2⟩ := hb'
    have h2 := of_decide_eq_true h2
    by_cases hs : (oL 12 w).imm = 0
    ·obtain ⟨i, hi⟩ : ∃ i, i = oL 12 w := ⟨_, rfl⟩
     rw [← hi] at h1 h2 hs
     have ho : i.op = 12 := by rw [hi]; rfl
     obtain ⟨op, d, n, m, a, imm⟩ := i
     simp only at ho hs; subst ho; subst hs
     have e1 : aT ⟨13, d, n, m, a, 0⟩ = true := by
      have : aT ⟨13, d, n, m, a, 0⟩ = aT ⟨12, d, n, m, a, 0⟩ := rfl
      rw [this]; exact h1
     have e2 : cS ⟨13, d, n, m, a, 0⟩ = w := by
      rw [← h2]; rfl
     have := aFn.2 ⟨e1, e2, by simp⟩
     rw [hq] at this; cases this
    ·have := aFn.2 ⟨h1, h2, fun h => hs h.2⟩
     rw [hq] at this; cases this
   ·rw [if_neg hb]
theorem aEg (G : aG) (k : Nat) (self : cN) (w : Int) (h0 : 0 ≤ w) (h1 : w < 4294967296) : ∀ (d f : Nat) (op : Int) (T : aF), op + (d : Int) = 25 → 1 ≤ op → d < f →
  ∃ T', gV (cC.l2 G (k + 7) 1 self) f [cX w, .ptr 0 1 0 0, .bool false, I6 op] (⟨57, 6, [mV 0 0 0 0 0 0]⟩ :: T) = some (rN (nT d op w) w T')
 | d, 0, op, T, h, _, hf => by omega
 | 0, f + 1, op, T, h, _, hf => by
  rw [fJ, cC.l2]
  have hc : iR 1 [cX w, .ptr 0 1 0 0, .bool false, I6 op] (⟨57, 6, [mV 0 0 0 0 0 0]⟩ :: T) = some [⟨57, 6, [mV 0 0 0 0 0 0]⟩] := rfl
  have e : op = 25 := by omega
  subst e
  refine ⟨[], ?_⟩
  refine jT ?_
  refine eC hc ?_
  have fx := True.intro
  refine gM ?_
  refine iA ?_; rfl
 | d + 1, f + 1, op, T, h, hop, hf => by
  rw [fJ, cC.l2]
  have hc : iR 1 [cX w, .ptr 0 1 0 0, .bool false, I6 op] (⟨57, 6, [mV 0 0 0 0 0 0]⟩ :: T) = some [⟨57, 6, [mV 0 0 0 0 0 0]⟩] := rfl
  have ih := fun T => aEg G k self w h0 h1 d f (op + 1) T (by omega) (by omega) (by omega)
  have q1 : aQ Tryd.prog .leq 3 true (I6 op) (.int .i64 24) = some (.bool true) := sO (by omega)
  have q2 : aQ Tryd.prog .add 3 true (I6 op) (.int .i64 1) = some (I6 (op + 1)) := aBz (by omega) (by omega)
  unfold nT
  by_cases h12 : op = 12
  ·rw [if_neg (by simp [h12])]
   subst h12
   obtain ⟨T', ih⟩ := ih []
   refine ⟨T', ?_⟩
   refine jT ?_
   refine eC hc ?_
   have fx := aPQ q1 <| q2
   refine gM ?_
   exact ih
  ·have r1 : ∀ H, aD (cW.f G (k + 7)) [I6 op, cX w] H = some (aEp op w, H) := fun H => aE (H := H) (aDC G k op w (by omega) h0 h1) rfl (by unfold aEp; split <;> rfl)
   have q3 : aQ Tryd.prog .eql 3 true (I6 op) (.int .i64 12) = some (.bool false) := pP h12
   have e0 : (oL op w).op = op := by rw [aFl h12]; rfl
   unfold aEp at r1
   generalize vA op w = b at *
   generalize oL op w = i at *
   obtain ⟨op', xd, xn, xm, xa, xi⟩ := i
   simp only at e0
   subst e0
   unfold MI.v at *
   simp only at *
   clear h1 h hf hop h0
   cases b
   ·rw [if_neg (by simp)]
    simp only [Bool.false_eq_true, if_false] at r1
    obtain ⟨T', ih⟩ := ih [⟨57, 6, [mV 0 0 0 0 0 0]⟩]
    refine ⟨T', ?_⟩
    refine jT ?_
    refine eC hc ?_
    have fx := aPQ r1 <| aPQ q1 <| aPQ q2 <| q3
    refine gM ?_
    exact ih
   ·rw [if_pos (by simp [h12])]
    simp only [if_true] at r1
    refine ⟨[⟨57, 6, [.agg [I6 op', I6 xd, I6 xn, I6 xm, I6 xa, I6 xi]]⟩], ?_⟩
    refine jT ?_
    refine eC hc ?_
    have fx := aPQ r1 <| aPQ q1 <| aPQ q2 <| q3
    refine gM ?_
    refine iA ?_; rfl
theorem aIS (G : aG) (k : Nat) (w : Int) (h0 : 0 ≤ w) (h1 : w < 4294967296) : cC.f G (k + 40) [cX w] [] = some (ofV (ofF w), []) := by
 rw [← aJX]
 rw [cC.step]
 unfold cC.c
 obtain ⟨T', lp⟩ : ∃ T', gV (cC.l2 G (k + 39) 1 (cC.f G (k + 39))) (k + 39) [cX w, .ptr 0 1 0 0, .bool false, .int .i64 1] [⟨57, 6, [mV 0 0 0 0 0 0]⟩] = some (rN (nT 24 1 w) w T') := aEg G (k + 32) (cC.f G (k + 39)) w h0 h1 24 (k + 39) 1 [] (by decide) (by decide) (by omega)
 have r1 : ∀ H, aD (cW.f G (k + 39)) [.int .i64 12, cX w] H = some (aEp 12 w, H) := fun H => aE (H := H) (aDC G (k + 32) 12 w (by decide) h0 h1) rfl (by unfold aEp; split <;> rfl)
 unfold aMX
 unfold aEp at r1
 have e0 : (oL 12 w).op = 12 := rfl
 generalize nT 24 1 w = q at *
 generalize vA 12 w = b at *
 generalize oL 12 w = i at *
 obtain ⟨op', xd, xn, xm, xa, xi⟩ := i
 refine eZ ?_
 cases q with
 | none =>
  unfold rN at lp
  simp only at lp
  cases b
  ·simp only [Bool.false_eq_true, if_false] at r1 ⊢
   have fx := r1
   have lx1 := lp
   refine gM ?_
   exact oF (lW rfl rfl rfl)
  ·simp only [if_true] at r1 ⊢
   unfold MI.v at *
   have fx := r1
   have lx1 := lp
   refine gM ?_
   exact oF (lW rfl rfl rfl)
 | some i =>
  unfold rN at lp
  simp only at lp
  have fx := True.intro
  have lx1 := lp
  refine gM ?_
  exact oF (lW rfl rfl rfl)
end Go.Proofs.YtdfglgnflldkpaaDoor.Mir
