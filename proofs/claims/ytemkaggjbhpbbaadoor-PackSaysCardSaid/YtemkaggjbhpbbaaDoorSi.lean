/- Both openings, both packings with signs. -/
import Derived.Test.YtemkaggjbhpbbaaDoorSh
namespace Go.Proofs.YtemkaggjbhpbbaaDoor.Mir
open Go
set_option linter.unusedVariables false
set_option linter.unusedSimpArgs false

theorem open_range (G : Globs) (k : Nat) (d n : Int) (x : AV) (h : d < 1 ∨ 24 < d ∨ n < 0 ∨ 4096 < n) (hG : G 0 = some E0) :
    pack_Open.f G (k + 1) [.int .i64 d, .int .i64 n, x] [] = some (.tup [.sl 1 0 0 0 1, E0], [⟨3, 1, []⟩, ⟨3, 1, []⟩]) ∧
    alembicref4_Open.f G (k + 1) [.int .i64 d, .int .i64 n, x] [] = some (.tup [.ro false [], .int .i64 101], []) := by
  have cG : ∀ H, loadV G false 1 (.gl 0) H = some E0 := fun H => by simp [loadV, hG]
  have c1 : bin Tryd.prog .lss 3 true (.int .i64 d) (.int .i64 1) = some (.bool (decide (d < 1))) := by rw [bin_lss]
  have c2 : bin Tryd.prog .gtr 3 true (.int .i64 d) (.int .i64 24) = some (.bool (decide (24 < d))) := by rw [bin_gtr]
  have c3 : bin Tryd.prog .lss 3 true (.int .i64 n) (.int .i64 0) = some (.bool (decide (n < 0))) := by rw [bin_lss]
  have c4 : bin Tryd.prog .gtr 3 true (.int .i64 n) (.int .i64 4096) = some (.bool (decide (4096 < n))) := by rw [bin_gtr]
  rw [pack_Open.step, alembicref4_Open.step]
  unfold pack_Open.c alembicref4_Open.c
  by_cases h1 : d < 1
  · simp only [decide_eq_true h1] at c1
    constructor
    · repeat first
        | refine oB (by first | (simp only [pu_val, nth_zero, nth_succ, gd_tt, gd_ff, gd_tf, gd_ft, gd_no, pickA_true, pickA_false, un_not, c1, cG]; first | done | (with_reducible exact rfl) | (with_reducible exact ⟨rfl, rfl⟩)) | (with_reducible exact rfl)) ?_
        | refine lB (by first | (simp only [pu_val, nth_zero, nth_succ, gd_tt, gd_ff, gd_tf, gd_ft, gd_no, pickA_true, pickA_false, un_not, c1, cG]; first | done | (with_reducible exact rfl) | (with_reducible exact ⟨rfl, rfl⟩)) | (with_reducible exact rfl)) ?_
        | refine oT ?_
        | refine oN ?_
        | refine oX ?_
        | refine oXn ?_
        | refine oXr ?_
        | exact oF (finV_bool ..)
        | apply oK
        | refine lT ?_
        | refine lN ?_
        | refine lX ?_
        | refine lXn ?_
        | refine lXr ?_
        | apply lK
        | refine oI ?_
        | refine oJ rfl ?_
        | refine lI ?_
        | refine lJ rfl ?_
        | (with_reducible exact rfl)
      rfl
    · repeat first
        | refine oB (by first | (simp only [pu_val, nth_zero, nth_succ, gd_tt, gd_ff, gd_tf, gd_ft, gd_no, pickA_true, pickA_false, un_not, c1]; first | done | (with_reducible exact rfl) | (with_reducible exact ⟨rfl, rfl⟩)) | (with_reducible exact rfl)) ?_
        | refine lB (by first | (simp only [pu_val, nth_zero, nth_succ, gd_tt, gd_ff, gd_tf, gd_ft, gd_no, pickA_true, pickA_false, un_not, c1]; first | done | (with_reducible exact rfl) | (with_reducible exact ⟨rfl, rfl⟩)) | (with_reducible exact rfl)) ?_
        | refine oT ?_
        | refine oN ?_
        | refine oX ?_
        | refine oXn ?_
        | refine oXr ?_
        | exact oF (finV_bool ..)
        | apply oK
        | refine lT ?_
        | refine lN ?_
        | refine lX ?_
        | refine lXn ?_
        | refine lXr ?_
        | apply lK
        | refine oI ?_
        | refine oJ rfl ?_
        | refine lI ?_
        | refine lJ rfl ?_
        | (with_reducible exact rfl)
      exact oF (fin_sl (e := 3) (xs := []) rfl rfl (by simp) rfl)
  simp only [decide_eq_false h1] at c1
  by_cases h2 : 24 < d
  · simp only [decide_eq_true h2] at c2
    constructor
    · repeat first
        | refine oB (by first | (simp only [pu_val, nth_zero, nth_succ, gd_tt, gd_ff, gd_tf, gd_ft, gd_no, pickA_true, pickA_false, un_not, c1, c2, cG]; first | done | (with_reducible exact rfl) | (with_reducible exact ⟨rfl, rfl⟩)) | (with_reducible exact rfl)) ?_
        | refine lB (by first | (simp only [pu_val, nth_zero, nth_succ, gd_tt, gd_ff, gd_tf, gd_ft, gd_no, pickA_true, pickA_false, un_not, c1, c2, cG]; first | done | (with_reducible exact rfl) | (with_reducible exact ⟨rfl, rfl⟩)) | (with_reducible exact rfl)) ?_
        | refine oT ?_
        | refine oN ?_
        | refine oX ?_
        | refine oXn ?_
        | refine oXr ?_
        | exact oF (finV_bool ..)
        | apply oK
        | refine lT ?_
        | refine lN ?_
        | refine lX ?_
        | refine lXn ?_
        | refine lXr ?_
        | apply lK
        | refine oI ?_
        | refine oJ rfl ?_
        | refine lI ?_
        | refine lJ rfl ?_
        | (with_reducible exact rfl)
      rfl
    · repeat first
        | refine oB (by first | (simp only [pu_val, nth_zero, nth_succ, gd_tt, gd_ff, gd_tf, gd_ft, gd_no, pickA_true, pickA_false, un_not, c1, c2]; first | done | (with_reducible exact rfl) | (with_reducible exact ⟨rfl, rfl⟩)) | (with_reducible exact rfl)) ?_
        | refine lB (by first | (simp only [pu_val, nth_zero, nth_succ, gd_tt, gd_ff, gd_tf, gd_ft, gd_no, pickA_true, pickA_false, un_not, c1, c2]; first | done | (with_reducible exact rfl) | (with_reducible exact ⟨rfl, rfl⟩)) | (with_reducible exact rfl)) ?_
        | refine oT ?_
        | refine oN ?_
        | refine oX ?_
        | refine oXn ?_
        | refine oXr ?_
        | exact oF (finV_bool ..)
        | apply oK
        | refine lT ?_
        | refine lN ?_
        | refine lX ?_
        | refine lXn ?_
        | refine lXr ?_
        | apply lK
        | refine oI ?_
        | refine oJ rfl ?_
        | refine lI ?_
        | refine lJ rfl ?_
        | (with_reducible exact rfl)
      exact oF (fin_sl (e := 3) (xs := []) rfl rfl (by simp) rfl)
  simp only [decide_eq_false h2] at c2
  by_cases h3 : n < 0
  · simp only [decide_eq_true h3] at c3
    constructor
    · repeat first
        | refine oB (by first | (simp only [pu_val, nth_zero, nth_succ, gd_tt, gd_ff, gd_tf, gd_ft, gd_no, pickA_true, pickA_false, un_not, c1, c2, c3, cG]; first | done | (with_reducible exact rfl) | (with_reducible exact ⟨rfl, rfl⟩)) | (with_reducible exact rfl)) ?_
        | refine lB (by first | (simp only [pu_val, nth_zero, nth_succ, gd_tt, gd_ff, gd_tf, gd_ft, gd_no, pickA_true, pickA_false, un_not, c1, c2, c3, cG]; first | done | (with_reducible exact rfl) | (with_reducible exact ⟨rfl, rfl⟩)) | (with_reducible exact rfl)) ?_
        | refine oT ?_
        | refine oN ?_
        | refine oX ?_
        | refine oXn ?_
        | refine oXr ?_
        | exact oF (finV_bool ..)
        | apply oK
        | refine lT ?_
        | refine lN ?_
        | refine lX ?_
        | refine lXn ?_
        | refine lXr ?_
        | apply lK
        | refine oI ?_
        | refine oJ rfl ?_
        | refine lI ?_
        | refine lJ rfl ?_
        | (with_reducible exact rfl)
      rfl
    · repeat first
        | refine oB (by first | (simp only [pu_val, nth_zero, nth_succ, gd_tt, gd_ff, gd_tf, gd_ft, gd_no, pickA_true, pickA_false, un_not, c1, c2, c3]; first | done | (with_reducible exact rfl) | (with_reducible exact ⟨rfl, rfl⟩)) | (with_reducible exact rfl)) ?_
        | refine lB (by first | (simp only [pu_val, nth_zero, nth_succ, gd_tt, gd_ff, gd_tf, gd_ft, gd_no, pickA_true, pickA_false, un_not, c1, c2, c3]; first | done | (with_reducible exact rfl) | (with_reducible exact ⟨rfl, rfl⟩)) | (with_reducible exact rfl)) ?_
        | refine oT ?_
        | refine oN ?_
        | refine oX ?_
        | refine oXn ?_
        | refine oXr ?_
        | exact oF (finV_bool ..)
        | apply oK
        | refine lT ?_
        | refine lN ?_
        | refine lX ?_
        | refine lXn ?_
        | refine lXr ?_
        | apply lK
        | refine oI ?_
        | refine oJ rfl ?_
        | refine lI ?_
        | refine lJ rfl ?_
        | (with_reducible exact rfl)
      exact oF (fin_sl (e := 3) (xs := []) rfl rfl (by simp) rfl)
  simp only [decide_eq_false h3] at c3
  have h4 : 4096 < n := by omega
  simp only [decide_eq_true h4] at c4
  constructor
  · repeat first
      | refine oB (by first | (simp only [pu_val, nth_zero, nth_succ, gd_tt, gd_ff, gd_tf, gd_ft, gd_no, pickA_true, pickA_false, un_not, c1, c2, c3, c4, cG]; first | done | (with_reducible exact rfl) | (with_reducible exact ⟨rfl, rfl⟩)) | (with_reducible exact rfl)) ?_
      | refine lB (by first | (simp only [pu_val, nth_zero, nth_succ, gd_tt, gd_ff, gd_tf, gd_ft, gd_no, pickA_true, pickA_false, un_not, c1, c2, c3, c4, cG]; first | done | (with_reducible exact rfl) | (with_reducible exact ⟨rfl, rfl⟩)) | (with_reducible exact rfl)) ?_
      | refine oT ?_
      | refine oN ?_
      | refine oX ?_
      | refine oXn ?_
      | refine oXr ?_
      | exact oF (finV_bool ..)
      | apply oK
      | refine lT ?_
      | refine lN ?_
      | refine lX ?_
      | refine lXn ?_
      | refine lXr ?_
      | apply lK
      | refine oI ?_
      | refine oJ rfl ?_
      | refine lI ?_
      | refine lJ rfl ?_
      | (with_reducible exact rfl)
    rfl
  · repeat first
      | refine oB (by first | (simp only [pu_val, nth_zero, nth_succ, gd_tt, gd_ff, gd_tf, gd_ft, gd_no, pickA_true, pickA_false, un_not, c1, c2, c3, c4]; first | done | (with_reducible exact rfl) | (with_reducible exact ⟨rfl, rfl⟩)) | (with_reducible exact rfl)) ?_
      | refine lB (by first | (simp only [pu_val, nth_zero, nth_succ, gd_tt, gd_ff, gd_tf, gd_ft, gd_no, pickA_true, pickA_false, un_not, c1, c2, c3, c4]; first | done | (with_reducible exact rfl) | (with_reducible exact ⟨rfl, rfl⟩)) | (with_reducible exact rfl)) ?_
      | refine oT ?_
      | refine oN ?_
      | refine oX ?_
      | refine oXn ?_
      | refine oXr ?_
      | exact oF (finV_bool ..)
      | apply oK
      | refine lT ?_
      | refine lN ?_
      | refine lX ?_
      | refine lXn ?_
      | refine lXr ?_
      | apply lK
      | refine oI ?_
      | refine oJ rfl ?_
      | refine lI ?_
      | refine lJ rfl ?_
      | (with_reducible exact rfl)
    exact oF (fin_sl (e := 3) (xs := []) rfl rfl (by simp) rfl)

theorem open_length (G : Globs) (k : Nat) (d n : Nat) (hd : 1 ≤ d ∧ d ≤ 24) (hn : n ≤ 4096) (bor : Bool) (xs : List AV) (h : d * n % 8 ≠ 0 ∨ xs.length ≠ d * n / 8) (hG : G 1 = some E1) :
    pack_Open.f G (k + 1) [Nn d, Nn n, .ro bor xs] [] = some (.tup [.sl 1 0 0 0 1, E1], [⟨3, 1, []⟩, ⟨3, 1, []⟩]) ∧
    alembicref4_Open.f G (k + 1) [Nn d, Nn n, .ro bor xs] [] = some (.tup [.ro false [], .int .i64 102], []) := by
  have hm : d * n ≤ 24 * 4096 := Nat.mul_le_mul hd.2 hn
  have cG : ∀ H, loadV G false 1 (.gl 1) H = some E1 := fun H => by simp [loadV, hG]
  have c1 : bin Tryd.prog .lss 3 true (Nn d) (.int .i64 1) = some (.bool false) := by rw [bin_lss, decide_eq_false (by omega)]
  have c2 : bin Tryd.prog .gtr 3 true (Nn d) (.int .i64 24) = some (.bool false) := by rw [bin_gtr, decide_eq_false (by omega)]
  have c3 : bin Tryd.prog .lss 3 true (Nn n) (.int .i64 0) = some (.bool false) := by rw [bin_lss, decide_eq_false (by omega)]
  have c4 : bin Tryd.prog .gtr 3 true (Nn n) (.int .i64 4096) = some (.bool false) := by rw [bin_gtr, decide_eq_false (by omega)]
  have c5 : bin Tryd.prog .mul 3 false (Nn d) (Nn n) = some (Nn (d * n)) := by
    rw [bin_mul, ← Int.natCast_mul, wrap_of_i64 (by omega) (by omega)]
  have c6 : bin Tryd.prog .rem 3 true (Nn (d * n)) (.int .i64 8) = some (Nn (d * n % 8)) := by
    rw [bin_rem _ _ _ _ _ _ (by decide)]; congr 2
  rw [pack_Open.step, alembicref4_Open.step]
  unfold pack_Open.c alembicref4_Open.c
  by_cases h8 : d * n % 8 ≠ 0
  · have c7 : bin Tryd.prog .neq 3 true (Nn (d * n % 8)) (.int .i64 0) = some (.bool true) := by rw [bin_neq, decide_eq_true (by omega)]
    constructor
    · repeat first
        | refine oB (by first | (simp only [pu_val, nth_zero, nth_succ, gd_tt, gd_ff, gd_tf, gd_ft, gd_no, pickA_true, pickA_false, un_not, c1, c2, c3, c4, c5, c6, c7, cG]; first | done | (with_reducible exact rfl) | (with_reducible exact ⟨rfl, rfl⟩)) | (with_reducible exact rfl)) ?_
        | refine lB (by first | (simp only [pu_val, nth_zero, nth_succ, gd_tt, gd_ff, gd_tf, gd_ft, gd_no, pickA_true, pickA_false, un_not, c1, c2, c3, c4, c5, c6, c7, cG]; first | done | (with_reducible exact rfl) | (with_reducible exact ⟨rfl, rfl⟩)) | (with_reducible exact rfl)) ?_
        | refine oT ?_
        | refine oN ?_
        | refine oX ?_
        | refine oXn ?_
        | refine oXr ?_
        | exact oF (finV_bool ..)
        | apply oK
        | refine lT ?_
        | refine lN ?_
        | refine lX ?_
        | refine lXn ?_
        | refine lXr ?_
        | apply lK
        | refine oI ?_
        | refine oJ rfl ?_
        | refine lI ?_
        | refine lJ rfl ?_
        | (with_reducible exact rfl)
      rfl
    · repeat first
        | refine oB (by first | (simp only [pu_val, nth_zero, nth_succ, gd_tt, gd_ff, gd_tf, gd_ft, gd_no, pickA_true, pickA_false, un_not, c1, c2, c3, c4, c5, c6, c7]; first | done | (with_reducible exact rfl) | (with_reducible exact ⟨rfl, rfl⟩)) | (with_reducible exact rfl)) ?_
        | refine lB (by first | (simp only [pu_val, nth_zero, nth_succ, gd_tt, gd_ff, gd_tf, gd_ft, gd_no, pickA_true, pickA_false, un_not, c1, c2, c3, c4, c5, c6, c7]; first | done | (with_reducible exact rfl) | (with_reducible exact ⟨rfl, rfl⟩)) | (with_reducible exact rfl)) ?_
        | refine oT ?_
        | refine oN ?_
        | refine oX ?_
        | refine oXn ?_
        | refine oXr ?_
        | exact oF (finV_bool ..)
        | apply oK
        | refine lT ?_
        | refine lN ?_
        | refine lX ?_
        | refine lXn ?_
        | refine lXr ?_
        | apply lK
        | refine oI ?_
        | refine oJ rfl ?_
        | refine lI ?_
        | refine lJ rfl ?_
        | (with_reducible exact rfl)
      exact oF (fin_sl (e := 3) (xs := []) rfl rfl (by simp) rfl)
  · have c7 : bin Tryd.prog .neq 3 true (Nn (d * n % 8)) (.int .i64 0) = some (.bool false) := by rw [bin_neq, decide_eq_false (by omega)]
    have c8 : lenSl (.ro bor xs) = some (Nn xs.length) := by simp [lenSl]
    have c9 : bin Tryd.prog .quo 3 true (Nn (d * n)) (.int .i64 8) = some (Nn (d * n / 8)) := by
      have e : (((d * n : Nat) : Int).tdiv 8) = ((d * n / 8 : Nat) : Int) := rfl
      rw [bin_quo _ _ _ _ _ _ (by decide), e, wrap_of_i64 (by omega) (by omega)]
    have c10 : bin Tryd.prog .neq 3 false (Nn xs.length) (Nn (d * n / 8)) = some (.bool true) := by
      rw [bin_neq, decide_eq_true (by omega)]
    constructor
    · repeat first
        | refine oB (by first | (simp only [pu_val, nth_zero, nth_succ, gd_tt, gd_ff, gd_tf, gd_ft, gd_no, pickA_true, pickA_false, un_not, c1, c2, c3, c4, c5, c6, c7, c8, c9, c10, cG]; first | done | (with_reducible exact rfl) | (with_reducible exact ⟨rfl, rfl⟩)) | (with_reducible exact rfl)) ?_
        | refine lB (by first | (simp only [pu_val, nth_zero, nth_succ, gd_tt, gd_ff, gd_tf, gd_ft, gd_no, pickA_true, pickA_false, un_not, c1, c2, c3, c4, c5, c6, c7, c8, c9, c10, cG]; first | done | (with_reducible exact rfl) | (with_reducible exact ⟨rfl, rfl⟩)) | (with_reducible exact rfl)) ?_
        | refine oT ?_
        | refine oN ?_
        | refine oX ?_
        | refine oXn ?_
        | refine oXr ?_
        | exact oF (finV_bool ..)
        | apply oK
        | refine lT ?_
        | refine lN ?_
        | refine lX ?_
        | refine lXn ?_
        | refine lXr ?_
        | apply lK
        | refine oI ?_
        | refine oJ rfl ?_
        | refine lI ?_
        | refine lJ rfl ?_
        | (with_reducible exact rfl)
      rfl
    · repeat first
        | refine oB (by first | (simp only [pu_val, nth_zero, nth_succ, gd_tt, gd_ff, gd_tf, gd_ft, gd_no, pickA_true, pickA_false, un_not, c1, c2, c3, c4, c5, c6, c7, c8, c9, c10]; first | done | (with_reducible exact rfl) | (with_reducible exact ⟨rfl, rfl⟩)) | (with_reducible exact rfl)) ?_
        | refine lB (by first | (simp only [pu_val, nth_zero, nth_succ, gd_tt, gd_ff, gd_tf, gd_ft, gd_no, pickA_true, pickA_false, un_not, c1, c2, c3, c4, c5, c6, c7, c8, c9, c10]; first | done | (with_reducible exact rfl) | (with_reducible exact ⟨rfl, rfl⟩)) | (with_reducible exact rfl)) ?_
        | refine oT ?_
        | refine oN ?_
        | refine oX ?_
        | refine oXn ?_
        | refine oXr ?_
        | exact oF (finV_bool ..)
        | apply oK
        | refine lT ?_
        | refine lN ?_
        | refine lX ?_
        | refine lXn ?_
        | refine lXr ?_
        | apply lK
        | refine oI ?_
        | refine oJ rfl ?_
        | refine lI ?_
        | refine lJ rfl ?_
        | (with_reducible exact rfl)
      exact oF (fin_sl (e := 3) (xs := []) rfl rfl (by simp) rfl)

theorem ropen_ok (G : Globs) (k : Nat) (d n : Nat) (hd : 1 ≤ d ∧ d ≤ 24) (hn : n ≤ 4096) (bor : Bool) (all : List Nat) (hk : n + 60 ≤ k) (h8 : d * n % 8 = 0) (hl : all.length = d * n / 8) (hr : ∀ x ∈ all, x < 256) :
    alembicref4_Open.f G (k + 1) [Nn d, Nn n, .ro bor (bytesV all)] [] = some (.tup [.ro false (natsV (digs (2 ^ d) n (val 256 all))), .int .i64 0], []) := by
  have hm : d * n ≤ 24 * 4096 := Nat.mul_le_mul hd.2 hn
  have lp := p7_loop G k (by omega) (alembicref4_Open.f G k) d n hd hn bor all hr (by omega) n 0 k (by omega) (by omega)
  have c1 : bin Tryd.prog .lss 3 true (Nn d) (.int .i64 1) = some (.bool false) := by rw [bin_lss, decide_eq_false (by omega)]
  have c2 : bin Tryd.prog .gtr 3 true (Nn d) (.int .i64 24) = some (.bool false) := by rw [bin_gtr, decide_eq_false (by omega)]
  have c3 : bin Tryd.prog .lss 3 true (Nn n) (.int .i64 0) = some (.bool false) := by rw [bin_lss, decide_eq_false (by omega)]
  have c4 : bin Tryd.prog .gtr 3 true (Nn n) (.int .i64 4096) = some (.bool false) := by rw [bin_gtr, decide_eq_false (by omega)]
  have c5 : bin Tryd.prog .mul 3 false (Nn d) (Nn n) = some (Nn (d * n)) := by
    rw [bin_mul, ← Int.natCast_mul, wrap_of_i64 (by omega) (by omega)]
  have c6 : bin Tryd.prog .rem 3 true (Nn (d * n)) (.int .i64 8) = some (Nn 0) := by
    rw [bin_rem _ _ _ _ _ _ (by decide)]; congr 2
    rw [← h8]; rfl
  have c7 : bin Tryd.prog .neq 3 true (Nn 0) (.int .i64 0) = some (.bool false) := rfl
  have c8 : lenSl (.ro bor (bytesV all)) = some (Nn all.length) := by simp [lenSl, bytesV_len]
  have c9 : bin Tryd.prog .quo 3 true (Nn (d * n)) (.int .i64 8) = some (Nn (d * n / 8)) := by
    have e : (((d * n : Nat) : Int).tdiv 8) = ((d * n / 8 : Nat) : Int) := rfl
    rw [bin_quo _ _ _ _ _ _ (by decide), e, wrap_of_i64 (by omega) (by omega)]
  have c10 : bin Tryd.prog .neq 3 false (Nn all.length) (Nn (d * n / 8)) = some (.bool false) := by
    rw [bin_neq, hl]; simp
  rw [alembicref4_Open.step]
  unfold alembicref4_Open.c
  repeat first
    | refine oB (by first | (simp only [pu_val, nth_zero, nth_succ, gd_tt, gd_ff, gd_tf, gd_ft, gd_no, pickA_true, pickA_false, un_not, c1, c2, c3, c4, c5, c6, c7, c8, c9, c10]; first | done | (with_reducible exact rfl) | (with_reducible exact ⟨rfl, rfl⟩)) | (with_reducible exact rfl)) ?_
    | refine lB (by first | (simp only [pu_val, nth_zero, nth_succ, gd_tt, gd_ff, gd_tf, gd_ft, gd_no, pickA_true, pickA_false, un_not, c1, c2, c3, c4, c5, c6, c7, c8, c9, c10]; first | done | (with_reducible exact rfl) | (with_reducible exact ⟨rfl, rfl⟩)) | (with_reducible exact rfl)) ?_
    | refine oT ?_
    | refine oN ?_
    | refine oX ?_
    | refine oXn ?_
    | refine oXr ?_
    | exact oF (finV_bool ..)
    | apply oK
    | refine lT ?_
    | refine lN ?_
    | refine lX ?_
    | refine lXn ?_
    | refine lXr ?_
    | apply lK
    | refine oI ?_
    | refine oJ rfl ?_
    | refine lI ?_
    | refine lJ rfl ?_
    | (with_reducible exact rfl)
  exact lp
  repeat first
    | refine oB (by first | (simp only [pu_val, nth_zero, nth_succ, gd_tt, gd_ff, gd_tf, gd_ft, gd_no, pickA_true, pickA_false, un_not]; first | done | (with_reducible exact rfl) | (with_reducible exact ⟨rfl, rfl⟩)) | (with_reducible exact rfl)) ?_
    | refine lB (by first | (simp only [pu_val, nth_zero, nth_succ, gd_tt, gd_ff, gd_tf, gd_ft, gd_no, pickA_true, pickA_false, un_not]; first | done | (with_reducible exact rfl) | (with_reducible exact ⟨rfl, rfl⟩)) | (with_reducible exact rfl)) ?_
    | refine oT ?_
    | refine oN ?_
    | refine oX ?_
    | refine oXn ?_
    | refine oXr ?_
    | exact oF (finV_bool ..)
    | apply oK
    | refine lT ?_
    | refine lN ?_
    | refine lX ?_
    | refine lXn ?_
    | refine lXr ?_
    | apply lK
    | refine oI ?_
    | refine oJ rfl ?_
    | refine lI ?_
    | refine lJ rfl ?_
    | (with_reducible exact rfl)
  unfold stP hpQ
  exact oF (fin_sl (e := 3) rfl (by rw [natsV_len, digs_length]) nats_of rfl)

/-- Both openings, of any bytes. -/
theorem open_pair (G : Globs) (k : Nat) (d n : Int) (bor : Bool) (b : List Nat) (hb : ∀ x ∈ b, x < 256) (hbl : b.length ≤ 1000) (hk : 6000 ≤ k) (hG0 : G 0 = some E0) (hG1 : G 1 = some E1) :
    ∃ (p : List Nat) (c : Nat) (H' : AHeap), okC c ∧ p.length ≤ 4096 ∧ (c ≠ 0 → p = []) ∧ (∀ x ∈ p, x < 2 ^ 24) ∧ H' = [⟨3, 1, []⟩, ⟨3, 1, natsV p⟩] ∧
      pack_Open.f G (k + 1) [.int .i64 d, .int .i64 n, .ro bor (bytesV b)] [] = some (.tup [.sl 1 p.length 0 p.length 1, errV c], H') ∧
      alembicref4_Open.f G (k + 1) [.int .i64 d, .int .i64 n, .ro bor (bytesV b)] [] = some (.tup [.ro false (natsV p), Nn c], []) := by
  by_cases h : d < 1 ∨ 24 < d ∨ n < 0 ∨ 4096 < n
  · obtain ⟨e1, e2⟩ := open_range G k d n (.ro bor (bytesV b)) h hG0
    exact ⟨[], 101, _, .inr (.inl rfl), by simp, fun _ => rfl, by simp, rfl, e1, e2⟩
  obtain ⟨e, rfl⟩ : ∃ e : Nat, d = (e : Int) := ⟨d.toNat, by omega⟩
  obtain ⟨m, rfl⟩ : ∃ m : Nat, n = (m : Int) := ⟨n.toNat, by omega⟩
  have he : 1 ≤ e ∧ e ≤ 24 := by omega
  have hm : m ≤ 4096 := by omega
  by_cases h2 : e * m % 8 ≠ 0 ∨ (bytesV b).length ≠ e * m / 8
  · obtain ⟨e1, e2⟩ := open_length G k e m he hm bor (bytesV b) h2 hG1
    exact ⟨[], 102, _, .inr (.inr rfl), by simp, fun _ => rfl, by simp, rfl, e1, e2⟩
  rw [bytesV_len] at h2
  have e1 := open_ok G k e m he hm bor b (by omega) (by omega) (by omega) hb
  have e2 := ropen_ok G k e m he hm bor b (by omega) (by omega) (by omega) hb
  refine ⟨digs (2 ^ e) m (val 256 b), 0, _, .inl rfl, by rw [digs_length]; omega, fun h => absurd rfl h, fun x hx => ?_, rfl, ?_, e2⟩
  · have := digs_lt (2 ^ e) (Nat.two_pow_pos e) _ _ x hx
    exact Nat.lt_of_lt_of_le this (Nat.pow_le_pow_right (by decide) he.2)
  · rw [digs_length]; exact e1

/-! ### with signs -/
def Fair (lo hi : Int) : Prop := 0 ≤ lo ∧ lo ≤ 8388608 ∧ 0 ≤ hi ∧ hi ≤ 8388608 ∧ 0 < lo + hi
theorem fair_pair (G : Globs) (k : Nat) (lo hi : Int) (hl : -9223372036854775808 ≤ lo ∧ lo < 9223372036854775808) (hh : -9223372036854775808 ≤ hi ∧ hi < 9223372036854775808) :
    ∃ p : Bool, (p = true ↔ Fair lo hi) ∧ pack_fair.f G (k + 1) [.int .i64 lo, .int .i64 hi] [] = some (.bool p, []) ∧ alembicref4_ends.f G (k + 1) [.int .i64 lo, .int .i64 hi] [] = some (.bool p, []) := by
  have c1 : bin Tryd.prog .geq 3 true (.int .i64 lo) (.int .i64 0) = some (.bool (decide (0 ≤ lo))) := by rw [bin_geq]
  have c2 : bin Tryd.prog .leq 3 true (.int .i64 lo) (.int .i64 8388608) = some (.bool (decide (lo ≤ 8388608))) := by rw [bin_leq]
  have c3 : bin Tryd.prog .geq 3 true (.int .i64 hi) (.int .i64 0) = some (.bool (decide (0 ≤ hi))) := by rw [bin_geq]
  have c4 : bin Tryd.prog .leq 3 true (.int .i64 hi) (.int .i64 8388608) = some (.bool (decide (hi ≤ 8388608))) := by rw [bin_leq]
  rw [pack_fair.step, alembicref4_ends.step]
  unfold pack_fair.c alembicref4_ends.c Fair
  by_cases h1 : 0 ≤ lo
  case neg =>
    simp only [decide_eq_false h1] at c1
    refine ⟨false, ⟨(fun h => by cases h), fun h => absurd h.1 h1⟩, ?_, ?_⟩
    · repeat first
        | refine oB (by first | (simp only [pu_val, nth_zero, nth_succ, gd_tt, gd_ff, gd_tf, gd_ft, gd_no, pickA_true, pickA_false, un_not, c1]; first | done | (with_reducible exact rfl) | (with_reducible exact ⟨rfl, rfl⟩)) | (with_reducible exact rfl)) ?_
        | refine lB (by first | (simp only [pu_val, nth_zero, nth_succ, gd_tt, gd_ff, gd_tf, gd_ft, gd_no, pickA_true, pickA_false, un_not, c1]; first | done | (with_reducible exact rfl) | (with_reducible exact ⟨rfl, rfl⟩)) | (with_reducible exact rfl)) ?_
        | refine oT ?_
        | refine oN ?_
        | refine oX ?_
        | refine oXn ?_
        | refine oXr ?_
        | exact oF (finV_bool ..)
        | apply oK
        | refine lT ?_
        | refine lN ?_
        | refine lX ?_
        | refine lXn ?_
        | refine lXr ?_
        | apply lK
        | refine oI ?_
        | refine oJ rfl ?_
        | refine lI ?_
        | refine lJ rfl ?_
        | (with_reducible exact rfl)
    · repeat first
        | refine oB (by first | (simp only [pu_val, nth_zero, nth_succ, gd_tt, gd_ff, gd_tf, gd_ft, gd_no, pickA_true, pickA_false, un_not, c1]; first | done | (with_reducible exact rfl) | (with_reducible exact ⟨rfl, rfl⟩)) | (with_reducible exact rfl)) ?_
        | refine lB (by first | (simp only [pu_val, nth_zero, nth_succ, gd_tt, gd_ff, gd_tf, gd_ft, gd_no, pickA_true, pickA_false, un_not, c1]; first | done | (with_reducible exact rfl) | (with_reducible exact ⟨rfl, rfl⟩)) | (with_reducible exact rfl)) ?_
        | refine oT ?_
        | refine oN ?_
        | refine oX ?_
        | refine oXn ?_
        | refine oXr ?_
        | exact oF (finV_bool ..)
        | apply oK
        | refine lT ?_
        | refine lN ?_
        | refine lX ?_
        | refine lXn ?_
        | refine lXr ?_
        | apply lK
        | refine oI ?_
        | refine oJ rfl ?_
        | refine lI ?_
        | refine lJ rfl ?_
        | (with_reducible exact rfl)
  simp only [decide_eq_true h1] at c1
  by_cases h2 : lo ≤ 8388608
  case neg =>
    simp only [decide_eq_false h2] at c2
    refine ⟨false, ⟨(fun h => by cases h), fun h => absurd h.2.1 h2⟩, ?_, ?_⟩
    · repeat first
        | refine oB (by first | (simp only [pu_val, nth_zero, nth_succ, gd_tt, gd_ff, gd_tf, gd_ft, gd_no, pickA_true, pickA_false, un_not, c1, c2]; first | done | (with_reducible exact rfl) | (with_reducible exact ⟨rfl, rfl⟩)) | (with_reducible exact rfl)) ?_
        | refine lB (by first | (simp only [pu_val, nth_zero, nth_succ, gd_tt, gd_ff, gd_tf, gd_ft, gd_no, pickA_true, pickA_false, un_not, c1, c2]; first | done | (with_reducible exact rfl) | (with_reducible exact ⟨rfl, rfl⟩)) | (with_reducible exact rfl)) ?_
        | refine oT ?_
        | refine oN ?_
        | refine oX ?_
        | refine oXn ?_
        | refine oXr ?_
        | exact oF (finV_bool ..)
        | apply oK
        | refine lT ?_
        | refine lN ?_
        | refine lX ?_
        | refine lXn ?_
        | refine lXr ?_
        | apply lK
        | refine oI ?_
        | refine oJ rfl ?_
        | refine lI ?_
        | refine lJ rfl ?_
        | (with_reducible exact rfl)
    · repeat first
        | refine oB (by first | (simp only [pu_val, nth_zero, nth_succ, gd_tt, gd_ff, gd_tf, gd_ft, gd_no, pickA_true, pickA_false, un_not, c1, c2]; first | done | (with_reducible exact rfl) | (with_reducible exact ⟨rfl, rfl⟩)) | (with_reducible exact rfl)) ?_
        | refine lB (by first | (simp only [pu_val, nth_zero, nth_succ, gd_tt, gd_ff, gd_tf, gd_ft, gd_no, pickA_true, pickA_false, un_not, c1, c2]; first | done | (with_reducible exact rfl) | (with_reducible exact ⟨rfl, rfl⟩)) | (with_reducible exact rfl)) ?_
        | refine oT ?_
        | refine oN ?_
        | refine oX ?_
        | refine oXn ?_
        | refine oXr ?_
        | exact oF (finV_bool ..)
        | apply oK
        | refine lT ?_
        | refine lN ?_
        | refine lX ?_
        | refine lXn ?_
        | refine lXr ?_
        | apply lK
        | refine oI ?_
        | refine oJ rfl ?_
        | refine lI ?_
        | refine lJ rfl ?_
        | (with_reducible exact rfl)
  simp only [decide_eq_true h2] at c2
  by_cases h3 : 0 ≤ hi
  case neg =>
    simp only [decide_eq_false h3] at c3
    refine ⟨false, ⟨(fun h => by cases h), fun h => absurd h.2.2.1 h3⟩, ?_, ?_⟩
    · repeat first
        | refine oB (by first | (simp only [pu_val, nth_zero, nth_succ, gd_tt, gd_ff, gd_tf, gd_ft, gd_no, pickA_true, pickA_false, un_not, c1, c2, c3]; first | done | (with_reducible exact rfl) | (with_reducible exact ⟨rfl, rfl⟩)) | (with_reducible exact rfl)) ?_
        | refine lB (by first | (simp only [pu_val, nth_zero, nth_succ, gd_tt, gd_ff, gd_tf, gd_ft, gd_no, pickA_true, pickA_false, un_not, c1, c2, c3]; first | done | (with_reducible exact rfl) | (with_reducible exact ⟨rfl, rfl⟩)) | (with_reducible exact rfl)) ?_
        | refine oT ?_
        | refine oN ?_
        | refine oX ?_
        | refine oXn ?_
        | refine oXr ?_
        | exact oF (finV_bool ..)
        | apply oK
        | refine lT ?_
        | refine lN ?_
        | refine lX ?_
        | refine lXn ?_
        | refine lXr ?_
        | apply lK
        | refine oI ?_
        | refine oJ rfl ?_
        | refine lI ?_
        | refine lJ rfl ?_
        | (with_reducible exact rfl)
    · repeat first
        | refine oB (by first | (simp only [pu_val, nth_zero, nth_succ, gd_tt, gd_ff, gd_tf, gd_ft, gd_no, pickA_true, pickA_false, un_not, c1, c2, c3]; first | done | (with_reducible exact rfl) | (with_reducible exact ⟨rfl, rfl⟩)) | (with_reducible exact rfl)) ?_
        | refine lB (by first | (simp only [pu_val, nth_zero, nth_succ, gd_tt, gd_ff, gd_tf, gd_ft, gd_no, pickA_true, pickA_false, un_not, c1, c2, c3]; first | done | (with_reducible exact rfl) | (with_reducible exact ⟨rfl, rfl⟩)) | (with_reducible exact rfl)) ?_
        | refine oT ?_
        | refine oN ?_
        | refine oX ?_
        | refine oXn ?_
        | refine oXr ?_
        | exact oF (finV_bool ..)
        | apply oK
        | refine lT ?_
        | refine lN ?_
        | refine lX ?_
        | refine lXn ?_
        | refine lXr ?_
        | apply lK
        | refine oI ?_
        | refine oJ rfl ?_
        | refine lI ?_
        | refine lJ rfl ?_
        | (with_reducible exact rfl)
  simp only [decide_eq_true h3] at c3
  by_cases h4 : hi ≤ 8388608
  case neg =>
    simp only [decide_eq_false h4] at c4
    refine ⟨false, ⟨(fun h => by cases h), fun h => absurd h.2.2.2.1 h4⟩, ?_, ?_⟩
    · repeat first
        | refine oB (by first | (simp only [pu_val, nth_zero, nth_succ, gd_tt, gd_ff, gd_tf, gd_ft, gd_no, pickA_true, pickA_false, un_not, c1, c2, c3, c4]; first | done | (with_reducible exact rfl) | (with_reducible exact ⟨rfl, rfl⟩)) | (with_reducible exact rfl)) ?_
        | refine lB (by first | (simp only [pu_val, nth_zero, nth_succ, gd_tt, gd_ff, gd_tf, gd_ft, gd_no, pickA_true, pickA_false, un_not, c1, c2, c3, c4]; first | done | (with_reducible exact rfl) | (with_reducible exact ⟨rfl, rfl⟩)) | (with_reducible exact rfl)) ?_
        | refine oT ?_
        | refine oN ?_
        | refine oX ?_
        | refine oXn ?_
        | refine oXr ?_
        | exact oF (finV_bool ..)
        | apply oK
        | refine lT ?_
        | refine lN ?_
        | refine lX ?_
        | refine lXn ?_
        | refine lXr ?_
        | apply lK
        | refine oI ?_
        | refine oJ rfl ?_
        | refine lI ?_
        | refine lJ rfl ?_
        | (with_reducible exact rfl)
    · repeat first
        | refine oB (by first | (simp only [pu_val, nth_zero, nth_succ, gd_tt, gd_ff, gd_tf, gd_ft, gd_no, pickA_true, pickA_false, un_not, c1, c2, c3, c4]; first | done | (with_reducible exact rfl) | (with_reducible exact ⟨rfl, rfl⟩)) | (with_reducible exact rfl)) ?_
        | refine lB (by first | (simp only [pu_val, nth_zero, nth_succ, gd_tt, gd_ff, gd_tf, gd_ft, gd_no, pickA_true, pickA_false, un_not, c1, c2, c3, c4]; first | done | (with_reducible exact rfl) | (with_reducible exact ⟨rfl, rfl⟩)) | (with_reducible exact rfl)) ?_
        | refine oT ?_
        | refine oN ?_
        | refine oX ?_
        | refine oXn ?_
        | refine oXr ?_
        | exact oF (finV_bool ..)
        | apply oK
        | refine lT ?_
        | refine lN ?_
        | refine lX ?_
        | refine lXn ?_
        | refine lXr ?_
        | apply lK
        | refine oI ?_
        | refine oJ rfl ?_
        | refine lI ?_
        | refine lJ rfl ?_
        | (with_reducible exact rfl)
  simp only [decide_eq_true h4] at c4
  have c5 : bin Tryd.prog .add 3 false (.int .i64 lo) (.int .i64 hi) = some (.int .i64 (lo + hi)) := by rw [bin_add, wrap_of_i64 (by omega) (by omega)]
  have c6 : bin Tryd.prog .gtr 3 true (.int .i64 (lo + hi)) (.int .i64 0) = some (.bool (decide (0 < lo + hi))) := by rw [bin_gtr]
  have c7 : bin Tryd.prog .gtr 3 true (.int .i64 lo) (.int .i64 0) = some (.bool (decide (0 < lo))) := by rw [bin_gtr]
  have c8 : bin Tryd.prog .gtr 3 true (.int .i64 hi) (.int .i64 0) = some (.bool (decide (0 < hi))) := by rw [bin_gtr]
  refine ⟨decide (0 < lo + hi), ⟨fun h => ⟨h1, h2, h3, h4, of_decide_eq_true h⟩, fun h => decide_eq_true h.2.2.2.2⟩, ?_, ?_⟩
  · generalize decide (0 < lo + hi) = q at *
    repeat first
      | refine oB (by first | (simp only [pu_val, nth_zero, nth_succ, gd_tt, gd_ff, gd_tf, gd_ft, gd_no, pickA_true, pickA_false, un_not, c1, c2, c3, c4, c5, c6]; first | done | (with_reducible exact rfl) | (with_reducible exact ⟨rfl, rfl⟩)) | (with_reducible exact rfl)) ?_
      | refine lB (by first | (simp only [pu_val, nth_zero, nth_succ, gd_tt, gd_ff, gd_tf, gd_ft, gd_no, pickA_true, pickA_false, un_not, c1, c2, c3, c4, c5, c6]; first | done | (with_reducible exact rfl) | (with_reducible exact ⟨rfl, rfl⟩)) | (with_reducible exact rfl)) ?_
      | refine oT ?_
      | refine oN ?_
      | refine oX ?_
      | refine oXn ?_
      | refine oXr ?_
      | exact oF (finV_bool ..)
      | apply oK
      | refine lT ?_
      | refine lN ?_
      | refine lX ?_
      | refine lXn ?_
      | refine lXr ?_
      | apply lK
      | refine oI ?_
      | refine oJ rfl ?_
      | refine lI ?_
      | refine lJ rfl ?_
      | (with_reducible exact rfl)
  · by_cases h5 : 0 < lo
    · have e : decide (0 < lo + hi) = true := decide_eq_true (by omega)
      simp only [decide_eq_true h5] at c7
      rw [e]
      repeat first
        | refine oB (by first | (simp only [pu_val, nth_zero, nth_succ, gd_tt, gd_ff, gd_tf, gd_ft, gd_no, pickA_true, pickA_false, un_not, c1, c2, c3, c4, c7]; first | done | (with_reducible exact rfl) | (with_reducible exact ⟨rfl, rfl⟩)) | (with_reducible exact rfl)) ?_
        | refine lB (by first | (simp only [pu_val, nth_zero, nth_succ, gd_tt, gd_ff, gd_tf, gd_ft, gd_no, pickA_true, pickA_false, un_not, c1, c2, c3, c4, c7]; first | done | (with_reducible exact rfl) | (with_reducible exact ⟨rfl, rfl⟩)) | (with_reducible exact rfl)) ?_
        | refine oT ?_
        | refine oN ?_
        | refine oX ?_
        | refine oXn ?_
        | refine oXr ?_
        | exact oF (finV_bool ..)
        | apply oK
        | refine lT ?_
        | refine lN ?_
        | refine lX ?_
        | refine lXn ?_
        | refine lXr ?_
        | apply lK
        | refine oI ?_
        | refine oJ rfl ?_
        | refine lI ?_
        | refine lJ rfl ?_
        | (with_reducible exact rfl)
    · have e : decide (0 < lo + hi) = decide (0 < hi) := decide_eq_decide.2 (by omega)
      simp only [decide_eq_false h5] at c7
      rw [e]
      generalize decide (0 < hi) = q at *
      repeat first
        | refine oB (by first | (simp only [pu_val, nth_zero, nth_succ, gd_tt, gd_ff, gd_tf, gd_ft, gd_no, pickA_true, pickA_false, un_not, c1, c2, c3, c4, c7, c8]; first | done | (with_reducible exact rfl) | (with_reducible exact ⟨rfl, rfl⟩)) | (with_reducible exact rfl)) ?_
        | refine lB (by first | (simp only [pu_val, nth_zero, nth_succ, gd_tt, gd_ff, gd_tf, gd_ft, gd_no, pickA_true, pickA_false, un_not, c1, c2, c3, c4, c7, c8]; first | done | (with_reducible exact rfl) | (with_reducible exact ⟨rfl, rfl⟩)) | (with_reducible exact rfl)) ?_
        | refine oT ?_
        | refine oN ?_
        | refine oX ?_
        | refine oXn ?_
        | refine oXr ?_
        | exact oF (finV_bool ..)
        | apply oK
        | refine lT ?_
        | refine lN ?_
        | refine lX ?_
        | refine lXn ?_
        | refine lXr ?_
        | apply lK
        | refine oI ?_
        | refine oJ rfl ?_
        | refine lI ?_
        | refine lJ rfl ?_
        | (with_reducible exact rfl)

theorem signed_gen (G : Globs) (k : Nat) (lo hi : Int) (hf : Fair lo hi) (bor : Bool) (a : List Int) (hall : a.length ≤ 1000) (hk : 6000 ≤ k)
    (hr : ∀ x ∈ a, -lo ≤ x ∧ x ≤ hi) (l : List Nat) (E : AV) (hE : belowB 0 E = true) (hEc : cleanB E = true) (hbits : pack_Bits.f G k [Nn (bl (lo + hi).toNat), .ro true (intsV (down hi a))] [] = some (.tup [.ro false (bytesV l), E], [])) :
    pack_Signed.f G (k + 1) [.int .i64 lo, .int .i64 hi, .ro bor (intsV a)] [] = some (.tup [.ro false (bytesV l), E], []) := by
  obtain ⟨f1, f2, f3, f4, f5⟩ := hf
  have h1 : 0 ≤ lo ∧ lo ≤ 8388608 := ⟨f1, f2⟩
  have h2 : 0 ≤ hi ∧ hi ≤ 8388608 := ⟨f3, f4⟩
  have r1 : ∀ H, pureCall (pack_fair.f G k) [.int .i64 lo, .int .i64 hi] H = some (.bool true, H) := fun H => by
    obtain ⟨j, rfl⟩ : ∃ j, k = j + 1 := ⟨k - 1, by omega⟩
    exact pureCall_of (fair_true G j lo hi h1 h2 f5) rfl rfl
  have c1 : lenSl (.ro bor (intsV a)) = some (Nn a.length) := by simp [lenSl, intsV_len]
  have c2 := makeSlN a.length (by omega)
  have e := s5_good G k (pack_Signed.f G k) lo hi h1 h2 bor a (by omega) hr a.length 0 k (by omega) (by omega)
  rw [stS5_zero, hpS_zero, hpS_end] at e
  have c3 : bin Tryd.prog .add 3 false (.int .i64 lo) (.int .i64 hi) = some (.int .i64 (lo + hi)) := by rw [bin_add, wrap_of_i64 (by omega) (by omega)]
  have r2 : ∀ H, pureCall (pack_Width.f G k) [.int .i64 (lo + hi)] H = some (Nn (bl (lo + hi).toNat), H) := fun H => by
    obtain ⟨j, rfl⟩ : ∃ j, k = j + 3 := ⟨k - 3, by omega⟩
    exact pureCall_of (width G j (lo + hi) (by omega)) rfl rfl
  have hdl : (down hi a).length = a.length := by simp [down]
  have r3 : pureCall (pack_Bits.f G k) [Nn (bl (lo + hi).toNat), .sl 0 a.length 0 a.length 1] [⟨3, 1, intsV (down hi a)⟩] = some (.tup [.ro false (bytesV l), E], [⟨3, 1, intsV (down hi a)⟩]) :=
    pureCall_as (snapL_cons snap_int (snapL_cons (snap_sl (e := 3) rfl (by rw [intsV_len, hdl]) ints_of) snapL_nil)) hbits (by simp [cleanB, cleanL, clean_ints bytes_of, hEc])
  have ex0 : ∀ x y : AV, extractA (.tup [x, y]) 0 = some x := fun _ _ => rfl
  have ex1 : ∀ x y : AV, extractA (.tup [x, y]) 1 = some y := fun _ _ => rfl
  generalize bl (lo + hi).toNat = d at *
  rw [pack_Signed.step]
  unfold pack_Signed.c
  repeat first
    | refine oB (by first | (simp only [pu_val, nth_zero, nth_succ, gd_tt, gd_ff, gd_tf, gd_ft, gd_no, pickA_true, pickA_false, un_not, r1, c1, c2, Bool.not_true]; first | done | (with_reducible exact rfl) | (with_reducible exact ⟨rfl, rfl⟩)) | (with_reducible exact rfl)) ?_
    | refine lB (by first | (simp only [pu_val, nth_zero, nth_succ, gd_tt, gd_ff, gd_tf, gd_ft, gd_no, pickA_true, pickA_false, un_not, r1, c1, c2, Bool.not_true]; first | done | (with_reducible exact rfl) | (with_reducible exact ⟨rfl, rfl⟩)) | (with_reducible exact rfl)) ?_
    | refine oT ?_
    | refine oN ?_
    | refine oX ?_
    | refine oXn ?_
    | refine oXr ?_
    | exact oF (finV_bool ..)
    | apply oK
    | refine lT ?_
    | refine lN ?_
    | refine lX ?_
    | refine lXn ?_
    | refine lXr ?_
    | apply lK
    | refine oI ?_
    | refine oJ rfl ?_
    | refine lI ?_
    | refine lJ rfl ?_
    | (with_reducible exact rfl)
  exact e
  unfold stS5
  repeat first
    | refine oB (by first | (simp only [pu_val, nth_zero, nth_succ, gd_tt, gd_ff, gd_tf, gd_ft, gd_no, pickA_true, pickA_false, un_not, c3, r2, r3, ex0, ex1]; first | done | (with_reducible exact rfl) | (with_reducible exact ⟨rfl, rfl⟩)) | (with_reducible exact rfl)) ?_
    | refine lB (by first | (simp only [pu_val, nth_zero, nth_succ, gd_tt, gd_ff, gd_tf, gd_ft, gd_no, pickA_true, pickA_false, un_not, c3, r2, r3, ex0, ex1]; first | done | (with_reducible exact rfl) | (with_reducible exact ⟨rfl, rfl⟩)) | (with_reducible exact rfl)) ?_
    | refine oT ?_
    | refine oN ?_
    | refine oX ?_
    | refine oXn ?_
    | refine oXr ?_
    | exact oF (finV_bool ..)
    | apply oK
    | refine lT ?_
    | refine lN ?_
    | refine lX ?_
    | refine lXn ?_
    | refine lXr ?_
    | apply lK
    | refine oI ?_
    | refine oJ rfl ?_
    | refine lI ?_
    | refine lJ rfl ?_
    | (with_reducible exact rfl)
  refine oF (finV_two ?_ hE _)
  simp [belowB, bytesV_below]

theorem signed_unfair (G : Globs) (k : Nat) (lo hi : Int) (x : AV) (hf : pack_fair.f G k [.int .i64 lo, .int .i64 hi] [] = some (.bool false, [])) (he : alembicref4_ends.f G k [.int .i64 lo, .int .i64 hi] [] = some (.bool false, [])) (hG : G 0 = some E0) :
    pack_Signed.f G (k + 1) [.int .i64 lo, .int .i64 hi, x] [] = some (.tup [.ro false [], E0], []) ∧ alembicref4_Signed.f G (k + 1) [.int .i64 lo, .int .i64 hi, x] [] = some (.tup [.ro false [], .int .i64 101], []) := by
  have cG : ∀ H, loadV G false 1 (.gl 0) H = some E0 := fun H => by simp [loadV, hG]
  have r1 : ∀ H, pureCall (pack_fair.f G k) [.int .i64 lo, .int .i64 hi] H = _ := fun H => pureCall_of (H := H) hf rfl rfl
  have r2 : ∀ H, pureCall (alembicref4_ends.f G k) [.int .i64 lo, .int .i64 hi] H = _ := fun H => pureCall_of (H := H) he rfl rfl
  rw [pack_Signed.step, alembicref4_Signed.step]
  unfold pack_Signed.c alembicref4_Signed.c
  constructor
  · repeat first
      | refine oB (by first | (simp only [pu_val, nth_zero, nth_succ, gd_tt, gd_ff, gd_tf, gd_ft, gd_no, pickA_true, pickA_false, un_not, r1, cG, Bool.not_false]; first | done | (with_reducible exact rfl) | (with_reducible exact ⟨rfl, rfl⟩)) | (with_reducible exact rfl)) ?_
      | refine lB (by first | (simp only [pu_val, nth_zero, nth_succ, gd_tt, gd_ff, gd_tf, gd_ft, gd_no, pickA_true, pickA_false, un_not, r1, cG, Bool.not_false]; first | done | (with_reducible exact rfl) | (with_reducible exact ⟨rfl, rfl⟩)) | (with_reducible exact rfl)) ?_
      | refine oT ?_
      | refine oN ?_
      | refine oX ?_
      | refine oXn ?_
      | refine oXr ?_
      | exact oF (finV_bool ..)
      | apply oK
      | refine lT ?_
      | refine lN ?_
      | refine lX ?_
      | refine lXn ?_
      | refine lXr ?_
      | apply lK
      | refine oI ?_
      | refine oJ rfl ?_
      | refine lI ?_
      | refine lJ rfl ?_
      | (with_reducible exact rfl)
    exact oF (finV_two rfl rfl _)
  · repeat first
      | refine oB (by first | (simp only [pu_val, nth_zero, nth_succ, gd_tt, gd_ff, gd_tf, gd_ft, gd_no, pickA_true, pickA_false, un_not, r2, Bool.not_false]; first | done | (with_reducible exact rfl) | (with_reducible exact ⟨rfl, rfl⟩)) | (with_reducible exact rfl)) ?_
      | refine lB (by first | (simp only [pu_val, nth_zero, nth_succ, gd_tt, gd_ff, gd_tf, gd_ft, gd_no, pickA_true, pickA_false, un_not, r2, Bool.not_false]; first | done | (with_reducible exact rfl) | (with_reducible exact ⟨rfl, rfl⟩)) | (with_reducible exact rfl)) ?_
      | refine oT ?_
      | refine oN ?_
      | refine oX ?_
      | refine oXn ?_
      | refine oXr ?_
      | exact oF (finV_bool ..)
      | apply oK
      | refine lT ?_
      | refine lN ?_
      | refine lX ?_
      | refine lXn ?_
      | refine lXr ?_
      | apply lK
      | refine oI ?_
      | refine oJ rfl ?_
      | refine lI ?_
      | refine lJ rfl ?_
      | (with_reducible exact rfl)
    exact oF (finV_two rfl rfl _)
theorem opens_unfair (G : Globs) (k : Nat) (lo hi : Int) (x y : AV) (hf : pack_fair.f G k [.int .i64 lo, .int .i64 hi] [] = some (.bool false, [])) (he : alembicref4_ends.f G k [.int .i64 lo, .int .i64 hi] [] = some (.bool false, [])) (hG : G 0 = some E0) :
    pack_OpenSigned.f G (k + 1) [.int .i64 lo, .int .i64 hi, x, y] [] = some (.tup [.ro false [], E0], []) ∧ alembicref4_OpenSigned.f G (k + 1) [.int .i64 lo, .int .i64 hi, x, y] [] = some (.tup [.ro false [], .int .i64 101], []) := by
  have cG : ∀ H, loadV G false 1 (.gl 0) H = some E0 := fun H => by simp [loadV, hG]
  have r1 : ∀ H, pureCall (pack_fair.f G k) [.int .i64 lo, .int .i64 hi] H = _ := fun H => pureCall_of (H := H) hf rfl rfl
  have r2 : ∀ H, pureCall (alembicref4_ends.f G k) [.int .i64 lo, .int .i64 hi] H = _ := fun H => pureCall_of (H := H) he rfl rfl
  rw [pack_OpenSigned.step, alembicref4_OpenSigned.step]
  unfold pack_OpenSigned.c alembicref4_OpenSigned.c
  constructor
  · repeat first
      | refine oB (by first | (simp only [pu_val, nth_zero, nth_succ, gd_tt, gd_ff, gd_tf, gd_ft, gd_no, pickA_true, pickA_false, un_not, r1, cG, Bool.not_false]; first | done | (with_reducible exact rfl) | (with_reducible exact ⟨rfl, rfl⟩)) | (with_reducible exact rfl)) ?_
      | refine lB (by first | (simp only [pu_val, nth_zero, nth_succ, gd_tt, gd_ff, gd_tf, gd_ft, gd_no, pickA_true, pickA_false, un_not, r1, cG, Bool.not_false]; first | done | (with_reducible exact rfl) | (with_reducible exact ⟨rfl, rfl⟩)) | (with_reducible exact rfl)) ?_
      | refine oT ?_
      | refine oN ?_
      | refine oX ?_
      | refine oXn ?_
      | refine oXr ?_
      | exact oF (finV_bool ..)
      | apply oK
      | refine lT ?_
      | refine lN ?_
      | refine lX ?_
      | refine lXn ?_
      | refine lXr ?_
      | apply lK
      | refine oI ?_
      | refine oJ rfl ?_
      | refine lI ?_
      | refine lJ rfl ?_
      | (with_reducible exact rfl)
    exact oF (finV_two rfl rfl _)
  · repeat first
      | refine oB (by first | (simp only [pu_val, nth_zero, nth_succ, gd_tt, gd_ff, gd_tf, gd_ft, gd_no, pickA_true, pickA_false, un_not, r2, Bool.not_false]; first | done | (with_reducible exact rfl) | (with_reducible exact ⟨rfl, rfl⟩)) | (with_reducible exact rfl)) ?_
      | refine lB (by first | (simp only [pu_val, nth_zero, nth_succ, gd_tt, gd_ff, gd_tf, gd_ft, gd_no, pickA_true, pickA_false, un_not, r2, Bool.not_false]; first | done | (with_reducible exact rfl) | (with_reducible exact ⟨rfl, rfl⟩)) | (with_reducible exact rfl)) ?_
      | refine oT ?_
      | refine oN ?_
      | refine oX ?_
      | refine oXn ?_
      | refine oXr ?_
      | exact oF (finV_bool ..)
      | apply oK
      | refine lT ?_
      | refine lN ?_
      | refine lX ?_
      | refine lXn ?_
      | refine lXr ?_
      | apply lK
      | refine oI ?_
      | refine oJ rfl ?_
      | refine lI ?_
      | refine lJ rfl ?_
      | (with_reducible exact rfl)
    exact oF (fin_sl (e := 3) (xs := []) rfl rfl (by simp) rfl)
end Go.Proofs.YtemkaggjbhpbbaaDoor.Mir
