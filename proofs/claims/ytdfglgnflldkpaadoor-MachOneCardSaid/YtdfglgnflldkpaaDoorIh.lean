/- The document's: a word's instruction. -/
import Derived.Test.YtdfglgnflldkpaaDoorIg
namespace Go.Proofs.YtdfglgnflldkpaaDoor.Mir
open Go
set_option linter.unusedVariables false
set_option linter.unusedSimpArgs false
set_option maxHeartbeats 8000000
set_option maxRecDepth 20000

theorem rsigned_spec (G : Globs) (k : Nat) (w b h : Int) (hb : (b = 19 ∧ h = 262144) ∨ (b = 26 ∧ h = 33554432)) (h0 : 0 ≤ w) (h1 : w < 4294967296) : alembicref17_signed.f G (k + 1) [W32 w, I6 b] [] = some (I6 (sgnF (w % (2 * h)) h), []) := by
  rw [alembicref17_signed.step]
  unfold alembicref17_signed.c sgnF
  obtain ⟨s1, s2, s3, s4, s5, s6, s7⟩ : convInt .u64 (I6 b) = some (.int .u64 b) ∧ bin Tryd.prog .shl 71 true (.int .u32 1) (.int .u64 b) = some (W32 (2 * h)) ∧ bin Tryd.prog .sub 71 true (W32 (2 * h)) (.int .u32 1) = some (W32 (2 * h - 1)) ∧ bin Tryd.prog .sub 3 true (I6 b) (.int .i64 1) = some (I6 (b - 1)) ∧
      convInt .u64 (I6 (b - 1)) = some (.int .u64 (b - 1)) ∧ bin Tryd.prog .shl 3 true (.int .i64 1) (.int .u64 (b - 1)) = some (I6 h) ∧ bin Tryd.prog .shl 3 true (.int .i64 1) (.int .u64 b) = some (I6 (2 * h)) := by
    clear h0 h1
    rcases hb with ⟨rfl, rfl⟩ | ⟨rfl, rfl⟩
    · exact ⟨by kernel_rfl, by kernel_rfl, by kernel_rfl, by kernel_rfl, by kernel_rfl, by kernel_rfl, by kernel_rfl⟩
    · exact ⟨by kernel_rfl, by kernel_rfl, by kernel_rfl, by kernel_rfl, by kernel_rfl, by kernel_rfl, by kernel_rfl⟩
  have s8 : bin Tryd.prog .and 71 false (W32 w) (W32 (2 * h - 1)) = some (W32 (w % (2 * h))) := by
    rcases hb with ⟨rfl, rfl⟩ | ⟨rfl, rfl⟩
    · exact and_low Tryd.prog 71 false (x := w) (q := 524287) 19 (by decide) rfl h0 h1
    · exact and_low Tryd.prog 71 false (x := w) (q := 67108863) 26 (by decide) rfl h0 h1
  have m0 : 0 ≤ w % (2 * h) := Int.emod_nonneg _ (by omega)
  have m1 : w % (2 * h) < 2 * h := Int.emod_lt_of_pos _ (by omega)
  have hh : 0 ≤ h ∧ h ≤ 33554432 := by omega
  clear hb
  generalize w % (2 * h) = z at *
  refine e_in ?_
  by_cases hc : h ≤ z
  · rw [if_pos hc]
    repeat' first
      | (with_reducible first | refine eT ?_ | refine eN ?_ | refine eS ?_ | refine eXn ?_ | refine eXr ?_ | refine eX ?_ | refine eI ?_ | refine eK ?_ | refine eV0 ?_ | refine eGr0 ?_ | refine eGtt ?_ | refine eGff ?_ | refine eGtf ?_ | refine eGft ?_ | refine eGno ?_)
      | ((with_reducible apply eCn); (simp only [nth_zero, nth_succ]; first | done | (with_reducible exact rfl)))
      | ((with_reducible apply eJ); (rfl))
      | ((with_reducible apply eGr1); (first | rfl | (simp only [nth_zero, nth_succ]; rfl)))
      | ((with_reducible apply eB); (first | (with_reducible exact rfl) | (simp (disch := omega) only [qf, s1, s2, s3, s4, s5, s6, s7, s8]; first | done | (with_reducible exact rfl) | (with_reducible exact ⟨rfl, rfl⟩)) | (simp (disch := omega) only [qa, putC, AV.cells, storable, buildSt, fillA, buildRo, buildOwn, fillE, Nat.reduceLeDiff, Nat.reduceLT, Nat.reduceAdd, ↓reduceIte, s1, s2, s3, s4, s5, s6, s7, s8]; first | done | (with_reducible exact rfl) | (with_reducible exact ⟨rfl, rfl⟩))))
      | ((with_reducible apply eR); (simp only [nth_zero, nth_succ]; (with_reducible exact rfl)))
      | ((with_reducible first | refine sEql ?_ ?_ | refine sNeq ?_ ?_ | refine sLss ?_ ?_ | refine sLeq ?_ ?_ | refine sGtr ?_ ?_ | refine sGeq ?_ ?_ | refine sNot ?_ ?_ | refine sPick ?_ ?_ | refine sGd ?_ ?_ | refine eBool ?_ ?_) <;> intro hq <;> try subst hq)
    exact w1i rfl
  · rw [if_neg hc]
    repeat' first
      | (with_reducible first | refine eT ?_ | refine eN ?_ | refine eS ?_ | refine eXn ?_ | refine eXr ?_ | refine eX ?_ | refine eI ?_ | refine eK ?_ | refine eV0 ?_ | refine eGr0 ?_ | refine eGtt ?_ | refine eGff ?_ | refine eGtf ?_ | refine eGft ?_ | refine eGno ?_)
      | ((with_reducible apply eCn); (simp only [nth_zero, nth_succ]; first | done | (with_reducible exact rfl)))
      | ((with_reducible apply eJ); (rfl))
      | ((with_reducible apply eGr1); (first | rfl | (simp only [nth_zero, nth_succ]; rfl)))
      | ((with_reducible apply eB); (first | (with_reducible exact rfl) | (simp (disch := omega) only [qf, s1, s2, s3, s4, s5, s6, s7, s8]; first | done | (with_reducible exact rfl) | (with_reducible exact ⟨rfl, rfl⟩)) | (simp (disch := omega) only [qa, putC, AV.cells, storable, buildSt, fillA, buildRo, buildOwn, fillE, Nat.reduceLeDiff, Nat.reduceLT, Nat.reduceAdd, ↓reduceIte, s1, s2, s3, s4, s5, s6, s7, s8]; first | done | (with_reducible exact rfl) | (with_reducible exact ⟨rfl, rfl⟩))))
      | ((with_reducible apply eR); (simp only [nth_zero, nth_succ]; (with_reducible exact rfl)))
      | ((with_reducible first | refine sEql ?_ ?_ | refine sNeq ?_ ?_ | refine sLss ?_ ?_ | refine sLeq ?_ ?_ | refine sGtr ?_ ?_ | refine sGeq ?_ ?_ | refine sNot ?_ ?_ | refine sPick ?_ ?_ | refine sGd ?_ ?_ | refine eBool ?_ ?_) <;> intro hq <;> try subst hq)
    exact w1i rfl

/-- The document's: a word as an instruction of a kind. -/
def rasF (op w : Int) : MI := if op = 12 then ⟨12, w % 32, w / 32 % 32, 0, 0, (64 - w / 65536 % 64) % 64⟩ else asF op w
def rasB (op w : Int) : Bool := rightB (rasF op w) && decide (wordF (rasF op w) = w)
def rasV (op w : Int) : AV := if rasB op w = true then .tup [(rasF op w).v, .bool true] else .tup [mV 0 0 0 0 0 0, .bool false]

theorem ras_spec (G : Globs) (k : Nat) (op w : Int) (hop : 1 ≤ op ∧ op ≤ 24) (h0 : 0 ≤ w) (h1 : w < 4294967296) : alembicref17_as.f G (k + 7) [I6 op, W32 w] [] = some (rasV op w, []) := by
  rw [alembicref17_as.step]
  unfold alembicref17_as.c
  have r1 : ∀ H, pureCall (alembicref17_partsOf.f G (k + 6)) [I6 op] H = _ := fun H => pureCall_of (H := H) (parts_spec G (k + 2) op) rfl rfl
  have r3 : ∀ H, pureCall (alembicref17_Word.f G (k + 6)) [(rasF op w).v] H = _ := fun H => pureCall_of (H := H) (rword_spec G k (rasF op w)) rfl rfl
  have r4 : rightB (rasF op w) = true → wordR (rasF op w) = wordF (rasF op w) := fun h => by unfold wordR; rw [if_pos h]
  have d1 : 0 ≤ w / 32 ∧ w / 32 < 4294967296 := by omega
  have g19 : ∀ H, pureCall (alembicref17_signed.f G (k + 6)) [W32 (w / 32), .int .i64 19] H = some (I6 (sgnF (w / 32 % 524288) 262144), H) := fun H => pureCall_of (H := H) (rsigned_spec G (k + 5) (w / 32) 19 262144 (.inl ⟨rfl, rfl⟩) d1.1 d1.2) rfl rfl
  have g26 : ∀ H, pureCall (alembicref17_signed.f G (k + 6)) [W32 w, .int .i64 26] H = some (I6 (sgnF (w % 67108864) 33554432), H) := fun H => pureCall_of (H := H) (rsigned_spec G (k + 5) w 26 33554432 (.inr ⟨rfl, rfl⟩) h0 h1) rfl rfl
  have s5 := shr_p Tryd.prog 71 true .u64 (v := w) (p := 32) (b := 5) 5 rfl (by decide) rfl h0
  have s10 := shr_p Tryd.prog 71 true .u64 (v := w) (p := 1024) (b := 10) 10 rfl (by decide) rfl h0
  have s12 := shr_p Tryd.prog 71 true .u64 (v := w) (p := 4096) (b := 12) 12 rfl (by decide) rfl h0
  have s16 := shr_p Tryd.prog 71 true .u64 (v := w) (p := 65536) (b := 16) 16 rfl (by decide) rfl h0
  have s21 := shr_p Tryd.prog 71 true .u64 (v := w) (p := 2097152) (b := 21) 21 rfl (by decide) rfl h0
  have a0 : bin Tryd.prog .and 71 true (W32 w) (.int .u32 31) = some (W32 (w % 32)) := and_low _ _ _ (x := w) (q := 31) 5 (by decide) rfl (by omega) (by omega)
  have a5 : bin Tryd.prog .and 71 true (W32 (w / 32)) (.int .u32 31) = some (W32 (w / 32 % 32)) := and_low _ _ _ (x := w / 32) (q := 31) 5 (by decide) rfl (by omega) (by omega)
  have a16 : bin Tryd.prog .and 71 true (W32 (w / 65536)) (.int .u32 31) = some (W32 (w / 65536 % 32)) := and_low _ _ _ (x := w / 65536) (q := 31) 5 (by decide) rfl (by omega) (by omega)
  have a21 : bin Tryd.prog .and 71 true (W32 (w / 2097152)) (.int .u32 3) = some (W32 (w / 2097152 % 4)) := and_low _ _ _ (x := w / 2097152) (q := 3) 2 (by decide) rfl (by omega) (by omega)
  have a10 : bin Tryd.prog .and 71 true (W32 (w / 1024)) (.int .u32 31) = some (W32 (w / 1024 % 32)) := and_low _ _ _ (x := w / 1024) (q := 31) 5 (by decide) rfl (by omega) (by omega)
  have a12 : bin Tryd.prog .and 71 true (W32 (w / 4096)) (.int .u32 15) = some (W32 (w / 4096 % 16)) := and_low _ _ _ (x := w / 4096) (q := 15) 4 (by decide) rfl (by omega) (by omega)
  have a4 : bin Tryd.prog .and 71 true (W32 w) (.int .u32 15) = some (W32 (w % 16)) := and_low _ _ _ (x := w) (q := 15) 4 (by decide) rfl (by omega) (by omega)
  have b16 : bin Tryd.prog .and 71 true (W32 (w / 65536)) (.int .u32 63) = some (W32 (w / 65536 % 64)) := and_low _ _ _ (x := w / 65536) (q := 63) 6 (by decide) rfl (by omega) (by omega)
  have b10 : bin Tryd.prog .and 71 true (W32 (w / 1024)) (.int .u32 4095) = some (W32 (w / 1024 % 4096)) := and_low _ _ _ (x := w / 1024) (q := 4095) 12 (by decide) rfl (by omega) (by omega)
  have b5 : bin Tryd.prog .and 71 true (W32 (w / 32)) (.int .u32 65535) = some (W32 (w / 32 % 65536)) := and_low _ _ _ (x := w / 32) (q := 65535) 16 (by decide) rfl (by omega) (by omega)
  have x1 := xor1i Tryd.prog 3 true (a := w / 4096 % 16) (by omega) (by omega)
  have l1 : bin Tryd.prog .sub 3 true (.int .i64 64) (I6 (w / 65536 % 64)) = some (I6 (64 - w / 65536 % 64)) := q_sub (by omega) (by omega)
  have l2 : bin Tryd.prog .rem 3 true (I6 (64 - w / 65536 % 64)) (.int .i64 64) = some (I6 ((64 - w / 65536 % 64) % 64)) := by
    rw [bin_rem _ _ _ _ _ _ (by decide), Int.tmod_eq_emod_of_nonneg (by omega)]
  unfold rasV rasB
  generalize wordR (rasF op w) = zr at *
  generalize wordF (rasF op w) = zf at *
  generalize rightB (rasF op w) = b at *
  clear d1
  refine e_in ?_
  rcases op24 hop with rfl | rfl | rfl | rfl | rfl | rfl | rfl | rfl | rfl | rfl | rfl | rfl | rfl | rfl | rfl | rfl | rfl | rfl | rfl | rfl | rfl | rfl | rfl | rfl
  all_goals (
    clear hop
    simp only [partsV, formF, Int.reduceEq, if_true, if_false, ↓reduceIte] at r1
    simp only [rasF, asF, formF, exA, exI, MI.v, Int.reduceEq, or_false, false_or, or_self, true_or, or_true, if_true, if_false, ↓reduceIte, Bool.false_eq_true] at r3 ⊢
    cases b
    · simp only [Bool.false_and, Bool.false_eq_true, if_false, ↓reduceIte]
      repeat first
        | (with_reducible first | refine eT ?_ | refine eN ?_ | refine eS ?_ | refine eXn ?_ | refine eXr ?_ | refine eX ?_ | refine eI ?_ | refine eK ?_ | refine eV0 ?_ | refine eGr0 ?_ | refine eGtt ?_ | refine eGff ?_ | refine eGtf ?_ | refine eGft ?_ | refine eGno ?_)
        | ((with_reducible apply eCn); (simp only [nth_zero, nth_succ]; first | done | (with_reducible exact rfl)))
        | ((with_reducible apply eJ); (rfl))
        | ((with_reducible apply eGr1); (first | rfl | (simp only [nth_zero, nth_succ]; rfl)))
        | ((with_reducible apply eB); (first | (with_reducible exact rfl) | (simp (disch := omega) only [qf, r1, r3, g19, g26, s5, s10, s12, s16, s21, a0, a5, a16, a21, a10, a12, a4, b16, b10, b5, x1, l1, l2]; first | done | (with_reducible exact rfl) | (with_reducible exact ⟨rfl, rfl⟩)) | (simp (disch := omega) only [qa, putC, AV.cells, storable, buildSt, fillA, buildRo, buildOwn, fillE, Nat.reduceLeDiff, Nat.reduceLT, Nat.reduceAdd, ↓reduceIte, r1, r3, g19, g26, s5, s10, s12, s16, s21, a0, a5, a16, a21, a10, a12, a4, b16, b10, b5, x1, l1, l2]; first | done | (with_reducible exact rfl) | (with_reducible exact ⟨rfl, rfl⟩))))
        | ((with_reducible apply eR); (simp only [nth_zero, nth_succ]; (with_reducible exact rfl)))
      exact oF (finL_two rfl rfl rfl)
    · have r4 := r4 rfl
      subst r4
      by_cases hz : zr = w
      · rw [decide_eq_true hz]
        simp only [Bool.and_self, ↓reduceIte]
        repeat first
          | (with_reducible first | refine eT ?_ | refine eN ?_ | refine eS ?_ | refine eXn ?_ | refine eXr ?_ | refine eX ?_ | refine eI ?_ | refine eK ?_ | refine eV0 ?_ | refine eGr0 ?_ | refine eGtt ?_ | refine eGff ?_ | refine eGtf ?_ | refine eGft ?_ | refine eGno ?_)
          | ((with_reducible apply eCn); (simp only [nth_zero, nth_succ]; first | done | (with_reducible exact rfl)))
          | ((with_reducible apply eJ); (rfl))
          | ((with_reducible apply eGr1); (first | rfl | (simp only [nth_zero, nth_succ]; rfl)))
          | ((with_reducible apply eB); (first | (with_reducible exact rfl) | (simp (disch := omega) only [qf, r1, r3, g19, g26, s5, s10, s12, s16, s21, a0, a5, a16, a21, a10, a12, a4, b16, b10, b5, x1, l1, l2]; first | done | (with_reducible exact rfl) | (with_reducible exact ⟨rfl, rfl⟩)) | (simp (disch := omega) only [qa, putC, AV.cells, storable, buildSt, fillA, buildRo, buildOwn, fillE, Nat.reduceLeDiff, Nat.reduceLT, Nat.reduceAdd, ↓reduceIte, r1, r3, g19, g26, s5, s10, s12, s16, s21, a0, a5, a16, a21, a10, a12, a4, b16, b10, b5, x1, l1, l2]; first | done | (with_reducible exact rfl) | (with_reducible exact ⟨rfl, rfl⟩))))
          | ((with_reducible apply eR); (simp only [nth_zero, nth_succ]; (with_reducible exact rfl)))
        exact oF (finL_two rfl rfl rfl)
      · rw [decide_eq_false hz]
        simp only [Bool.and_false, Bool.false_eq_true, ↓reduceIte]
        repeat first
          | (with_reducible first | refine eT ?_ | refine eN ?_ | refine eS ?_ | refine eXn ?_ | refine eXr ?_ | refine eX ?_ | refine eI ?_ | refine eK ?_ | refine eV0 ?_ | refine eGr0 ?_ | refine eGtt ?_ | refine eGff ?_ | refine eGtf ?_ | refine eGft ?_ | refine eGno ?_)
          | ((with_reducible apply eCn); (simp only [nth_zero, nth_succ]; first | done | (with_reducible exact rfl)))
          | ((with_reducible apply eJ); (rfl))
          | ((with_reducible apply eGr1); (first | rfl | (simp only [nth_zero, nth_succ]; rfl)))
          | ((with_reducible apply eB); (first | (with_reducible exact rfl) | (simp (disch := omega) only [qf, r1, r3, g19, g26, s5, s10, s12, s16, s21, a0, a5, a16, a21, a10, a12, a4, b16, b10, b5, x1, l1, l2]; first | done | (with_reducible exact rfl) | (with_reducible exact ⟨rfl, rfl⟩)) | (simp (disch := omega) only [qa, putC, AV.cells, storable, buildSt, fillA, buildRo, buildOwn, fillE, Nat.reduceLeDiff, Nat.reduceLT, Nat.reduceAdd, ↓reduceIte, r1, r3, g19, g26, s5, s10, s12, s16, s21, a0, a5, a16, a21, a10, a12, a4, b16, b10, b5, x1, l1, l2]; first | done | (with_reducible exact rfl) | (with_reducible exact ⟨rfl, rfl⟩))))
          | ((with_reducible apply eR); (simp only [nth_zero, nth_succ]; (with_reducible exact rfl)))
        exact oF (finL_two rfl rfl rfl))
end Go.Proofs.YtdfglgnflldkpaaDoor.Mir
