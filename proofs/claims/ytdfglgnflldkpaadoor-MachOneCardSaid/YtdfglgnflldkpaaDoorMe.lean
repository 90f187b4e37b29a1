/- The laws' own: registers compared, blocks of registers. -/
import Derived.Test.YtdfglgnflldkpaaDoorMd
namespace Go.Proofs.YtdfglgnflldkpaaDoor.Mir
open Go
set_option linter.unusedVariables false
set_option linter.unusedSimpArgs false
set_option maxHeartbeats 8000000
set_option maxRecDepth 20000

theorem number (G : Globs) (k : Nat) (n m : Int) (h0 : 0 < m) (h1 : m < 9223372036854775808) (hn : -9223372036854775808 ≤ n) (hn' : n < 9223372036854775808) :
    alembicworld_Number.f G (k + 1) [.int .i64 n, .int .i64 m] [] = some (.int .i64 (n % m), []) := by
  rw [alembicworld_Number.step]
  unfold alembicworld_Number.c
  rw [bin_rem _ _ _ _ _ _ (by omega)]
  have hlt := Int.tmod_lt_of_pos n h0
  have hgt : -m < n.tmod m := by have := Int.tmod_lt_of_pos (-n) h0; rw [Int.neg_tmod] at this; omega
  have hm : n.tmod m % m = n % m := by
    rw [Int.tmod_eq_emod]; split
    · simp
    · have e : (m.natAbs : Int) = m := by omega
      simp [e]
  by_cases h : n.tmod m < 0
  · simp only [pu_val, bnd_some, bin_lss, h, decide_true, condA_true, bin_add, List.length_nil, finV_int, outV_ret]
    rw [wrap_of_i64 (by omega) (by omega)]
    congr 3
    rw [← hm, ← Int.add_emod_right]
    exact (Int.emod_eq_of_lt (by omega) (by omega)).symm
  · simp only [pu_val, bnd_some, bin_lss, h, decide_false, condA_false, List.length_nil, finV_int, outV_ret]
    congr 3
    rw [← hm]
    exact (Int.emod_eq_of_lt (by omega) (by omega)).symm

theorem first23 (G : Globs) (k : Nat) : alembiclaw23_first.f G (k + 60) [] [] = some (.bool true, []) := by kernel_rfl

theorem ldReg {G : Globs} {j i : Nat} {H : AHeap} {r : List Nat} (hr : r.length = 31) (hi : i < 31) (e : H[j]? = some ⟨44, 31, [rgV r]⟩) : loadV G false 1 (.ptr j 1 0 i) H = some (Un (r.getD i 0)) := by
  unfold loadV
  simp only [e, List.length_singleton, if_true, List.getElem?_cons_zero, AV.cells, loadC]
  exact natsU_get r i (by omega)
theorem stRgAt {j : Nat} {H : AHeap} {q r : List Nat} (hq : q.length = 31) (hr : r.length = 31) (e : H[j]? = some ⟨44, 31, [rgV r]⟩) : stS (storeV 31 (.ptr j 1 0 0) (rgV q) H) = some (.tup [], H.set j ⟨44, 31, [rgV q]⟩) := by
  have e2 : putC (natsU r) 0 (natsU q) = natsU q := by
    unfold putC
    rw [List.take_zero, List.nil_append, List.drop_of_length_le (by rw [natsU_len, natsU_len]; omega), List.append_nil]
  unfold storeV
  simp only [e, AV.cells, natsU_len, hq, List.length_singleton, storable, List.getElem?_cons_zero]
  rw [if_pos (by simp), if_pos (by omega), e2]
  rfl

theorem regs_loop (G : Globs) (k : Nat) (self : Den) (r : List Nat) (hr : r.length = 31) : ∀ (d j f : Nat), j + d = 31 → d < f →
    loopN (alembiclaw23_regs.l2 G k 0 self) f [.rp false (rgV r) 0, .rp false (rgV r) 0, .bool false, Nn j] [] = some (.exit 0, [.rp false (rgV r) 0, .rp false (rgV r) 0, .bool false, Nn 31], [])
  | d, j, 0, h, hf => by omega
  | 0, j, f + 1, h, hf => by
    rw [loopN_succ, alembiclaw23_regs.l2]
    have hj : j = 31 := by omega
    subst hj
    have hc : cutH 0 [.rp false (rgV r) 0, .rp false (rgV r) 0, .bool false, Nn 31] [] = some [] := by simp [cutH, belowL, belowB, heapBelow, natsU_below]
    refine e_id ?_
    refine eC hc ?_
    repeat' first
      | (with_reducible first | refine eT ?_ | refine eN ?_ | refine eS ?_ | refine eXn ?_ | refine eXr ?_ | refine eX ?_ | refine eI ?_ | refine eK ?_ | refine eV0 ?_ | refine eGr0 ?_ | refine eGtt ?_ | refine eGff ?_ | refine eGtf ?_ | refine eGft ?_ | refine eGno ?_)
      | ((with_reducible apply eCn); (simp only [nth_zero, nth_succ]; first | done | (with_reducible exact rfl)))
      | ((with_reducible apply eJ); (rfl))
      | ((with_reducible apply eGr1); (first | rfl | (simp only [nth_zero, nth_succ]; rfl)))
      | ((with_reducible apply eB); (first | (with_reducible exact rfl) | (simp (disch := omega) only [qa, putC, AV.cells, storable, buildSt, fillA, buildRo, buildOwn, fillE, Nat.reduceLeDiff, Nat.reduceLT, Nat.reduceAdd, ↓reduceIte]; first | done | (with_reducible exact rfl) | (with_reducible exact ⟨rfl, rfl⟩))))
      | ((with_reducible apply eR); (simp only [nth_zero, nth_succ]; (with_reducible exact rfl)))
      | ((with_reducible first | refine sEql ?_ ?_ | refine sNeq ?_ ?_ | refine sLss ?_ ?_ | refine sLeq ?_ ?_ | refine sGtr ?_ ?_ | refine sGeq ?_ ?_ | refine sNot ?_ ?_ | refine sPick ?_ ?_ | refine sGd ?_ ?_ | refine eBool ?_ ?_) <;> intro hq <;> try subst hq)
    refine e_out ?_; rfl
  | d + 1, j, f + 1, h, hf => by
    rw [loopN_succ, alembiclaw23_regs.l2]
    have hc : cutH 0 [.rp false (rgV r) 0, .rp false (rgV r) 0, .bool false, Nn j] [] = some [] := by simp [cutH, belowL, belowB, heapBelow, natsU_below]
    have q1 : bin Tryd.prog .lss 3 true (Nn j) (.int .i64 31) = some (.bool true) := q_lss_t (by omega)
    have i1 : idxAddrArr 31 1 (.rp false (rgV r) 0) (Nn j) = some (.rp false (rgV r) j) := by
      unfold idxAddrArr
      simp only
      rw [if_pos ⟨by omega, by omega⟩, Nat.zero_add, Nat.mul_one, Int.toNat_natCast]
    have l1 : ∀ H, loadV G false 1 (.rp false (rgV r) j) H = some (Un (r.getD j 0)) := fun H => by
      rw [q_ldrp, natsU_get _ _ (by omega)]
    have q2 : bin Tryd.prog .neq 43 false (Un (r.getD j 0)) (Un (r.getD j 0)) = some (.bool false) := q_neq_f rfl
    have q3 : bin Tryd.prog .add 3 true (Nn j) (.int .i64 1) = some (Nn (j + 1)) := by
      rw [bin_add, wrap_of_i64 (by omega) (by omega)]; congr 2
    have ih := regs_loop G k self r hr d (j + 1) f (by omega) (by omega)
    generalize r.getD j 0 = z at *
    refine e_id ?_
    refine eC hc ?_
    repeat' first
      | (with_reducible first | refine eT ?_ | refine eN ?_ | refine eS ?_ | refine eXn ?_ | refine eXr ?_ | refine eX ?_ | refine eI ?_ | refine eK ?_ | refine eV0 ?_ | refine eGr0 ?_ | refine eGtt ?_ | refine eGff ?_ | refine eGtf ?_ | refine eGft ?_ | refine eGno ?_)
      | ((with_reducible apply eCn); (simp only [nth_zero, nth_succ]; first | done | (with_reducible exact rfl)))
      | ((with_reducible apply eJ); (rfl))
      | ((with_reducible apply eGr1); (first | rfl | (simp only [nth_zero, nth_succ]; rfl)))
      | ((with_reducible apply eB); (first | (with_reducible exact rfl) | (simp (disch := omega) only [qf, q1, i1, l1, q2, q3]; first | done | (with_reducible exact rfl) | (with_reducible exact ⟨rfl, rfl⟩)) | (simp (disch := omega) only [qa, putC, AV.cells, storable, buildSt, fillA, buildRo, buildOwn, fillE, Nat.reduceLeDiff, Nat.reduceLT, Nat.reduceAdd, ↓reduceIte, q1, i1, l1, q2, q3]; first | done | (with_reducible exact rfl) | (with_reducible exact ⟨rfl, rfl⟩))))
      | ((with_reducible apply eR); (simp only [nth_zero, nth_succ]; (with_reducible exact rfl)))
      | ((with_reducible first | refine sEql ?_ ?_ | refine sNeq ?_ ?_ | refine sLss ?_ ?_ | refine sLeq ?_ ?_ | refine sGtr ?_ ?_ | refine sGeq ?_ ?_ | refine sNot ?_ ?_ | refine sPick ?_ ?_ | refine sGd ?_ ?_ | refine eBool ?_ ?_) <;> intro hq <;> try subst hq)
    exact ih
theorem regs_self (G : Globs) (k : Nat) (r : List Nat) (hr : r.length = 31) : alembiclaw23_regs.f G (k + 40) [rgV r, rgV r] [] = some (.bool true, []) := by
  rw [alembiclaw23_regs.step]
  unfold alembiclaw23_regs.c
  have b1 : ∀ H, boxRoA (rgV r) H = some (.rp false (rgV r) 0, H) := fun H => rfl
  have lp : loopN (alembiclaw23_regs.l2 G (k + 39) 0 (alembiclaw23_regs.f G (k + 39))) (k + 39) [.rp false (rgV r) 0, .rp false (rgV r) 0, .bool false, .int .i64 0] [] = _ := regs_loop G (k + 39) (alembiclaw23_regs.f G (k + 39)) r hr 31 0 (k + 39) rfl (by omega)
  refine e_in ?_
  repeat' first
    | (with_reducible first | refine eT ?_ | refine eN ?_ | refine eS ?_ | refine eXn ?_ | refine eXr ?_ | refine eX ?_ | refine eI ?_ | refine eK ?_ | refine eV0 ?_ | refine eGr0 ?_ | refine eGtt ?_ | refine eGff ?_ | refine eGtf ?_ | refine eGft ?_ | refine eGno ?_)
    | ((with_reducible apply eCn); (simp only [nth_zero, nth_succ]; first | done | (with_reducible exact rfl)))
    | ((with_reducible apply eJ); (rfl))
    | ((with_reducible apply eGr1); (first | rfl | (simp only [nth_zero, nth_succ]; rfl)))
    | ((with_reducible apply eL); (first | exact lp))
    | ((with_reducible apply eB); (first | (with_reducible exact rfl) | (simp (disch := omega) only [qf, b1]; first | done | (with_reducible exact rfl) | (with_reducible exact ⟨rfl, rfl⟩)) | (simp (disch := omega) only [qa, putC, AV.cells, storable, buildSt, fillA, buildRo, buildOwn, fillE, Nat.reduceLeDiff, Nat.reduceLT, Nat.reduceAdd, ↓reduceIte, b1]; first | done | (with_reducible exact rfl) | (with_reducible exact ⟨rfl, rfl⟩))))
    | ((with_reducible apply eR); (simp only [nth_zero, nth_succ]; (with_reducible exact rfl)))
    | ((with_reducible first | refine sEql ?_ ?_ | refine sNeq ?_ ?_ | refine sLss ?_ ?_ | refine sLeq ?_ ?_ | refine sGtr ?_ ?_ | refine sGeq ?_ ?_ | refine sNot ?_ ?_ | refine sPick ?_ ?_ | refine sGd ?_ ?_ | refine eBool ?_ ?_) <;> intro hq <;> try subst hq)
  exact w1b rfl
end Go.Proofs.YtdfglgnflldkpaaDoor.Mir
