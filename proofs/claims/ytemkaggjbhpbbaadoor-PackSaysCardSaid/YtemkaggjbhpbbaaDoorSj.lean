/- Both packings with signs, both openings with signs. -/
import Derived.Test.YtemkaggjbhpbbaaDoorSi
namespace Go.Proofs.YtemkaggjbhpbbaaDoor.Mir
open Go
set_option linter.unusedVariables false
set_option linter.unusedSimpArgs false

def stT (lo hi : Int) (bor : Bool) (a : List Int) (i : Nat) : List AV := [.int .i64 lo, .int .i64 hi, .ro bor (intsV a), .ro false [], .int .i64 0, .sl 0 i 0 i 1, Nn i]
def hpT (hi : Int) (a : List Int) (i : Nat) : AHeap := [⟨3, 1, intsV (down hi (a.take i))⟩]
theorem cutT {lo hi : Int} {bor : Bool} {a : List Int} {i : Nat} : cutH 1 (stT lo hi bor a i) (hpT hi a i) = some (hpT hi a i) :=
  cutH_of (by simp [stT, belowL, belowB, intsV_below]) (by simp [hpT, heapBelow, intsV_below]) rfl
theorem down_len (hi : Int) (l : List Int) : (down hi l).length = l.length := by simp [down]

theorem t5_step (G : Globs) (k : Nat) (self : Den) (lp : LoopF) (lo hi : Int) (h1 : 0 ≤ lo ∧ lo ≤ 8388608) (h2 : 0 ≤ hi ∧ hi ≤ 8388608) (bor : Bool) (a : List Int) (ha : a.length ≤ 1000) (i : Nat) (hil : i < a.length) (hx : -lo ≤ a[i] ∧ a[i] ≤ hi) :
    alembicref4_Signed.l5 G k 1 self lp (stT lo hi bor a i) (hpT hi a i) = lp (stT lo hi bor a (i + 1)) (hpT hi a (i + 1)) := by
  have c0 : lenSl (.ro bor (intsV a)) = some (Nn a.length) := by simp [lenSl, intsV_len]
  have c1 : bin Tryd.prog .lss 3 false (Nn i) (Nn a.length) = some (.bool true) := by rw [bin_lss, decide_eq_true (by omega)]
  have c2 := idx_ints bor a i a[i] (by simp)
  have c3 : un .neg (.int .i64 lo) = some (.int .i64 (-lo)) := by simp only [un]; rw [wrap_of_i64 (by omega) (by omega)]; congr 2; omega
  have c4 : bin Tryd.prog .lss 3 false (.int .i64 a[i]) (.int .i64 (-lo)) = some (.bool false) := by rw [bin_lss, decide_eq_false (by omega)]
  have c5 : bin Tryd.prog .gtr 3 false (.int .i64 a[i]) (.int .i64 hi) = some (.bool false) := by rw [bin_gtr, decide_eq_false (by omega)]
  have c6 : bin Tryd.prog .sub 3 false (.int .i64 hi) (.int .i64 a[i]) = some (.int .i64 (hi - a[i])) := by rw [bin_sub, wrap_of_i64 (by omega) (by omega)]
  have c7 : appendV 3 1 (.sl 0 i 0 i 1) (.ro false [.int .i64 (hi - a[i])]) (hpT hi a i) = some (.sl 0 (i + 1) 0 (i + 1) 1, hpT hi a (i + 1)) := by
    have e1 := appendV_one (e := 3) (b := 0) (L := i) (bor := false) (y := .int .i64 (hi - a[i])) (H := hpT hi a i) (xs := intsV (down hi (a.take i))) rfl (by simp [intsV_len, down_len]; omega) (by omega) rfl
    rw [e1]
    have e2 : intsV (down hi (a.take i)) ++ [AV.int .i64 (hi - a[i])] = intsV (down hi (a.take (i + 1))) := by
      unfold down; rw [List.take_add_one, List.map_append]; simp [intsV, hil]
    rw [e2]; rfl
  have c9 : bin Tryd.prog .add 3 true (Nn i) (.int .i64 1) = some (Nn (i + 1)) := by
    rw [bin_add, wrap_of_i64 (by omega) (by omega)]; congr 2
  obtain ⟨y, hy⟩ : ∃ y, y = hi - a[i] := ⟨_, rfl⟩
  obtain ⟨z, hz⟩ : ∃ z, z = a[i] := ⟨_, rfl⟩
  rw [← hy] at c6 c7
  rw [← hz] at c2 c4 c5 c6
  clear hy hz
  rw [alembicref4_Signed.l5]
  refine lC cutT ?_
  unfold stT
  repeat first
    | refine oB (by first | (simp only [pu_val, nth_zero, nth_succ, gd_tt, gd_ff, gd_tf, gd_ft, gd_no, pickA_true, pickA_false, un_not, c0, c1, c2, c3, c4, c5, load_int]; first | done | (with_reducible exact rfl) | (with_reducible exact ⟨rfl, rfl⟩)) | (with_reducible exact rfl)) ?_
    | refine lB (by first | (simp only [pu_val, nth_zero, nth_succ, gd_tt, gd_ff, gd_tf, gd_ft, gd_no, pickA_true, pickA_false, un_not, c0, c1, c2, c3, c4, c5, load_int]; first | done | (with_reducible exact rfl) | (with_reducible exact ⟨rfl, rfl⟩)) | (with_reducible exact rfl)) ?_
    | refine oT ?_
    | refine oN ?_
    | refine oX ?_
    | refine oXn ?_
    | refine oXr ?_
    | exact oF (finV_bool ..)
    | apply oK
    | refine lT ?_
    | refine lN ?_
    | refine lX ?_
    | refine lXn ?_
    | refine lXr ?_
    | apply lK
    | refine oI ?_
    | refine oJ rfl ?_
    | refine lI ?_
    | refine lJ rfl ?_
    | (with_reducible exact rfl)
  refine lB ((congrArg (pu _) c6).trans (pu_val _ _)) ?_
  refine lB (buildRo_int ..) ?_
  refine lB c7 ?_
  refine lB ((congrArg (pu _) c9).trans (pu_val _ _)) ?_
  rfl
theorem t5_bad (G : Globs) (k : Nat) (self : Den) (lp : LoopF) (lo hi : Int) (h1 : 0 ≤ lo ∧ lo ≤ 8388608) (h2 : 0 ≤ hi ∧ hi ≤ 8388608) (bor : Bool) (a : List Int) (i : Nat) (hil : i < a.length) (hx : ¬ (-lo ≤ a[i] ∧ a[i] ≤ hi)) :
    ∃ zs, alembicref4_Signed.l5 G k 1 self lp (stT lo hi bor a i) (hpT hi a i) = some (.ret, .int .i64 lo :: .int .i64 hi :: .ro bor (intsV a) :: .ro false [] :: .int .i64 101 :: zs, hpT hi a i) := by
  have c0 : lenSl (.ro bor (intsV a)) = some (Nn a.length) := by simp [lenSl, intsV_len]
  have c1 : bin Tryd.prog .lss 3 false (Nn i) (Nn a.length) = some (.bool true) := by rw [bin_lss, decide_eq_true (by omega)]
  have c2 := idx_ints bor a i a[i] (by simp)
  have c3 : un .neg (.int .i64 lo) = some (.int .i64 (-lo)) := by simp only [un]; rw [wrap_of_i64 (by omega) (by omega)]; congr 2; omega
  refine ⟨(stT lo hi bor a i).drop 5, ?_⟩
  rw [alembicref4_Signed.l5]
  refine lC cutT ?_
  unfold stT
  by_cases h0 : a[i] < -lo
  · have c4 : bin Tryd.prog .lss 3 false (.int .i64 a[i]) (.int .i64 (-lo)) = some (.bool true) := by rw [bin_lss, decide_eq_true h0]
    repeat first
      | refine oB (by first | (simp only [pu_val, nth_zero, nth_succ, gd_tt, gd_ff, gd_tf, gd_ft, gd_no, pickA_true, pickA_false, un_not, c0, c1, c2, c3, c4, load_int]; first | done | (with_reducible exact rfl) | (with_reducible exact ⟨rfl, rfl⟩)) | (with_reducible exact rfl)) ?_
      | refine lB (by first | (simp only [pu_val, nth_zero, nth_succ, gd_tt, gd_ff, gd_tf, gd_ft, gd_no, pickA_true, pickA_false, un_not, c0, c1, c2, c3, c4, load_int]; first | done | (with_reducible exact rfl) | (with_reducible exact ⟨rfl, rfl⟩)) | (with_reducible exact rfl)) ?_
      | refine oT ?_
      | refine oN ?_
      | refine oX ?_
      | refine oXn ?_
      | refine oXr ?_
      | exact oF (finV_bool ..)
      | apply oK
      | refine lT ?_
      | refine lN ?_
      | refine lX ?_
      | refine lXn ?_
      | refine lXr ?_
      | apply lK
      | refine oI ?_
      | refine oJ rfl ?_
      | refine lI ?_
      | refine lJ rfl ?_
      | (with_reducible exact rfl)
    rfl
  · have c4 : bin Tryd.prog .lss 3 false (.int .i64 a[i]) (.int .i64 (-lo)) = some (.bool false) := by rw [bin_lss, decide_eq_false h0]
    have c5 : bin Tryd.prog .gtr 3 false (.int .i64 a[i]) (.int .i64 hi) = some (.bool true) := by rw [bin_gtr, decide_eq_true (by omega)]
    repeat first
      | refine oB (by first | (simp only [pu_val, nth_zero, nth_succ, gd_tt, gd_ff, gd_tf, gd_ft, gd_no, pickA_true, pickA_false, un_not, c0, c1, c2, c3, c4, c5, load_int]; first | done | (with_reducible exact rfl) | (with_reducible exact ⟨rfl, rfl⟩)) | (with_reducible exact rfl)) ?_
      | refine lB (by first | (simp only [pu_val, nth_zero, nth_succ, gd_tt, gd_ff, gd_tf, gd_ft, gd_no, pickA_true, pickA_false, un_not, c0, c1, c2, c3, c4, c5, load_int]; first | done | (with_reducible exact rfl) | (with_reducible exact ⟨rfl, rfl⟩)) | (with_reducible exact rfl)) ?_
      | refine oT ?_
      | refine oN ?_
      | refine oX ?_
      | refine oXn ?_
      | refine oXr ?_
      | exact oF (finV_bool ..)
      | apply oK
      | refine lT ?_
      | refine lN ?_
      | refine lX ?_
      | refine lXn ?_
      | refine lXr ?_
      | apply lK
      | refine oI ?_
      | refine oJ rfl ?_
      | refine lI ?_
      | refine lJ rfl ?_
      | (with_reducible exact rfl)
    rfl
theorem t5_loop (G : Globs) (k : Nat) (self : Den) (lo hi : Int) (h1 : 0 ≤ lo ∧ lo ≤ 8388608) (h2 : 0 ≤ hi ∧ hi ≤ 8388608) (bor : Bool) (a : List Int) (ha : a.length ≤ 1000) :
    ∀ (r i f : Nat), i + r = a.length → r < f →
      ((∀ x ∈ a.drop i, -lo ≤ x ∧ x ≤ hi) → loopN (alembicref4_Signed.l5 G k 1 self) f (stT lo hi bor a i) (hpT hi a i) = some (.exit 0, stT lo hi bor a a.length, hpT hi a a.length)) ∧
      (¬ (∀ x ∈ a.drop i, -lo ≤ x ∧ x ≤ hi) → ∃ zs j, loopN (alembicref4_Signed.l5 G k 1 self) f (stT lo hi bor a i) (hpT hi a i) = some (.ret, .int .i64 lo :: .int .i64 hi :: .ro bor (intsV a) :: .ro false [] :: .int .i64 101 :: zs, hpT hi a j))
  | _, _, 0, _, h => by omega
  | 0, i, f + 1, hi', h => by
    have : i = a.length := by omega
    subst this
    refine ⟨fun _ => ?_, fun hb => absurd (fun x hx => by rw [List.drop_of_length_le (Nat.le_refl _)] at hx; simp at hx) hb⟩
    have c0 : lenSl (.ro bor (intsV a)) = some (Nn a.length) := by simp [lenSl, intsV_len]
    have c1 : bin Tryd.prog .lss 3 false (Nn a.length) (Nn a.length) = some (.bool false) := by rw [bin_lss, decide_eq_false (by omega)]
    rw [loopN_succ, alembicref4_Signed.l5]
    refine lC cutT ?_
    unfold stT
    repeat first
      | refine oB (by first | (simp only [pu_val, nth_zero, nth_succ, gd_tt, gd_ff, gd_tf, gd_ft, gd_no, pickA_true, pickA_false, un_not, c0, c1]; first | done | (with_reducible exact rfl) | (with_reducible exact ⟨rfl, rfl⟩)) | (with_reducible exact rfl)) ?_
      | refine lB (by first | (simp only [pu_val, nth_zero, nth_succ, gd_tt, gd_ff, gd_tf, gd_ft, gd_no, pickA_true, pickA_false, un_not, c0, c1]; first | done | (with_reducible exact rfl) | (with_reducible exact ⟨rfl, rfl⟩)) | (with_reducible exact rfl)) ?_
      | refine oT ?_
      | refine oN ?_
      | refine oX ?_
      | refine oXn ?_
      | refine oXr ?_
      | exact oF (finV_bool ..)
      | apply oK
      | refine lT ?_
      | refine lN ?_
      | refine lX ?_
      | refine lXn ?_
      | refine lXr ?_
      | apply lK
      | refine oI ?_
      | refine oJ rfl ?_
      | refine lI ?_
      | refine lJ rfl ?_
      | (with_reducible exact rfl)
    rfl
  | r + 1, i, f + 1, hi', h => by
    have hil : i < a.length := by omega
    have ih := t5_loop G k self lo hi h1 h2 bor a ha r (i + 1) f (by omega) (by omega)
    rw [loopN_succ, List.drop_eq_getElem_cons hil]
    by_cases hx : -lo ≤ a[i] ∧ a[i] ≤ hi
    · rw [t5_step G k self _ lo hi h1 h2 bor a ha i hil hx]
      refine ⟨fun hc => ih.1 (fun x hx' => hc x (List.mem_cons_of_mem _ hx')), fun hc => ih.2 (fun h' => hc (fun x hx' => ?_))⟩
      rcases List.mem_cons.1 hx' with rfl | hx'
      · exact hx
      · exact h' x hx'
    · refine ⟨fun hc => absurd (hc _ (List.mem_cons_self ..)) hx, fun _ => ?_⟩
      obtain ⟨zs, e⟩ := t5_bad G k self (loopN (alembicref4_Signed.l5 G k 1 self) f) lo hi h1 h2 bor a i hil hx
      exact ⟨zs, i, e⟩

theorem signed_pair (G : Globs) (k : Nat) (lo hi : Int) (hl : -9223372036854775808 ≤ lo ∧ lo < 9223372036854775808) (hh : -9223372036854775808 ≤ hi ∧ hi < 9223372036854775808) (bor : Bool) (a : List Int) (ha : a.length ≤ 1000) (hk : 6000 ≤ k) (hG0 : G 0 = some E0) (hG1 : G 1 = some E1) :
    ∃ (l : List Nat) (c : Nat), okC c ∧ l.length ≤ 3000 ∧ pack_Signed.f G (k + 1) [.int .i64 lo, .int .i64 hi, .ro bor (intsV a)] [] = some (.tup [.ro false (bytesV l), errV c], []) ∧
      alembicref4_Signed.f G (k + 1) [.int .i64 lo, .int .i64 hi, .ro bor (intsV a)] [] = some (.tup [.ro false (bytesV l), Nn c], []) := by
  obtain ⟨j, rfl⟩ : ∃ j, k = j + 1 := ⟨k - 1, by omega⟩
  obtain ⟨p, hp, f1, f2⟩ := fair_pair G j lo hi hl hh
  cases p
  · obtain ⟨e1, e2⟩ := signed_unfair G (j + 1) lo hi (.ro bor (intsV a)) f1 f2 hG0
    exact ⟨[], 101, .inr (.inl rfl), by simp, e1, e2⟩
  have hf := hp.1 rfl
  have h1 : 0 ≤ lo ∧ lo ≤ 8388608 := ⟨hf.1, hf.2.1⟩
  have h2 : 0 ≤ hi ∧ hi ≤ 8388608 := ⟨hf.2.2.1, hf.2.2.2.1⟩
  have r2 : ∀ H, pureCall (alembicref4_ends.f G (j + 1)) [.int .i64 lo, .int .i64 hi] H = _ := fun H => pureCall_of (H := H) f2 rfl rfl
  have lp := t5_loop G (j + 1) (alembicref4_Signed.f G (j + 1)) lo hi h1 h2 bor a ha a.length 0 (j + 1) (by omega) (by omega)
  have z1 : stT lo hi bor a 0 = [.int .i64 lo, .int .i64 hi, .ro bor (intsV a), .ro false [], .int .i64 0, .sl 0 0 0 0 1, .int .i64 0] := rfl
  have z2 : hpT hi a 0 = [⟨3, 1, []⟩] := rfl
  rw [z1, z2, List.drop_zero] at lp
  by_cases hr : ∀ x ∈ a, -lo ≤ x ∧ x ≤ hi
  case neg =>
    obtain ⟨zs, i, e⟩ := lp.2 hr
    refine ⟨[], 101, .inr (.inl rfl), by simp, signed_fail G (j + 1) lo hi h1 h2 hf.2.2.2.2 bor a (by omega) (by omega) hr E0 rfl hG0, ?_⟩
    rw [alembicref4_Signed.step]
    unfold alembicref4_Signed.c
    repeat first
      | refine oB (by first | (simp only [pu_val, nth_zero, nth_succ, gd_tt, gd_ff, gd_tf, gd_ft, gd_no, pickA_true, pickA_false, un_not, r2, Bool.not_true]; first | done | (with_reducible exact rfl) | (with_reducible exact ⟨rfl, rfl⟩)) | (with_reducible exact rfl)) ?_
      | refine lB (by first | (simp only [pu_val, nth_zero, nth_succ, gd_tt, gd_ff, gd_tf, gd_ft, gd_no, pickA_true, pickA_false, un_not, r2, Bool.not_true]; first | done | (with_reducible exact rfl) | (with_reducible exact ⟨rfl, rfl⟩)) | (with_reducible exact rfl)) ?_
      | refine oT ?_
      | refine oN ?_
      | refine oX ?_
      | refine oXn ?_
      | refine oXr ?_
      | exact oF (finV_bool ..)
      | apply oK
      | refine lT ?_
      | refine lN ?_
      | refine lX ?_
      | refine lXn ?_
      | refine lXr ?_
      | apply lK
      | refine oI ?_
      | refine oJ rfl ?_
      | refine lI ?_
      | refine lJ rfl ?_
      | (with_reducible exact rfl)
    exact e
    repeat first
      | refine oB (by first | (simp only [pu_val, nth_zero, nth_succ, gd_tt, gd_ff, gd_tf, gd_ft, gd_no, pickA_true, pickA_false, un_not]; first | done | (with_reducible exact rfl) | (with_reducible exact ⟨rfl, rfl⟩)) | (with_reducible exact rfl)) ?_
      | refine lB (by first | (simp only [pu_val, nth_zero, nth_succ, gd_tt, gd_ff, gd_tf, gd_ft, gd_no, pickA_true, pickA_false, un_not]; first | done | (with_reducible exact rfl) | (with_reducible exact ⟨rfl, rfl⟩)) | (with_reducible exact rfl)) ?_
      | refine oT ?_
      | refine oN ?_
      | refine oX ?_
      | refine oXn ?_
      | refine oXr ?_
      | exact oF (finV_bool ..)
      | apply oK
      | refine lT ?_
      | refine lN ?_
      | refine lX ?_
      | refine lXn ?_
      | refine lXr ?_
      | apply lK
      | refine oI ?_
      | refine oJ rfl ?_
      | refine lI ?_
      | refine lJ rfl ?_
      | (with_reducible exact rfl)
    exact oF (finV_two rfl rfl _)
  have e := lp.1 hr
  have z3 : hpT hi a a.length = [⟨3, 1, intsV (down hi a)⟩] := by simp [hpT]
  rw [z3] at e
  have hbl := bl_le (lo + hi).toNat (by omega)
  obtain ⟨l, c, hc, hll, b1, b2⟩ := bits_pair G j (bl (lo + hi).toNat : Nat) (by omega) true (down hi a) (by rw [down_len]; exact ha) (by rw [down_len]; omega) hG0 hG1
  refine ⟨l, c, hc, hll, signed_gen G (j + 1) lo hi hf bor a ha (by omega) hr l (errV c) (errV_below c) (errV_clean c) b1, ?_⟩
  have c3 : bin Tryd.prog .add 3 false (.int .i64 lo) (.int .i64 hi) = some (.int .i64 (lo + hi)) := by rw [bin_add, wrap_of_i64 (by omega) (by omega)]
  have r3 : ∀ H, pureCall (alembicref4_Width.f G (j + 1)) [.int .i64 (lo + hi)] H = some (Nn (bl (lo + hi).toNat), H) := fun H =>
    pureCall_of (rwidth G j (by omega) (lo + hi) (by omega) (by omega)) rfl rfl
  have r4 : pureCall (alembicref4_Bits.f G (j + 1)) [Nn (bl (lo + hi).toNat), .sl 0 a.length 0 a.length 1] [⟨3, 1, intsV (down hi a)⟩] = some (.tup [.ro false (bytesV l), Nn c], [⟨3, 1, intsV (down hi a)⟩]) :=
    pureCall_as (snapL_cons snap_int (snapL_cons (snap_sl (e := 3) rfl (by rw [intsV_len, down_len]) ints_of) snapL_nil)) b2 (by simp [cleanB, cleanL, clean_ints bytes_of])
  have ex0 : ∀ x y : AV, extractA (.tup [x, y]) 0 = some x := fun _ _ => rfl
  have ex1 : ∀ x y : AV, extractA (.tup [x, y]) 1 = some y := fun _ _ => rfl
  generalize bl (lo + hi).toNat = d at *
  unfold stT at e
  rw [alembicref4_Signed.step]
  unfold alembicref4_Signed.c
  repeat first
    | refine oB (by first | (simp only [pu_val, nth_zero, nth_succ, gd_tt, gd_ff, gd_tf, gd_ft, gd_no, pickA_true, pickA_false, un_not, r2, Bool.not_true]; first | done | (with_reducible exact rfl) | (with_reducible exact ⟨rfl, rfl⟩)) | (with_reducible exact rfl)) ?_
    | refine lB (by first | (simp only [pu_val, nth_zero, nth_succ, gd_tt, gd_ff, gd_tf, gd_ft, gd_no, pickA_true, pickA_false, un_not, r2, Bool.not_true]; first | done | (with_reducible exact rfl) | (with_reducible exact ⟨rfl, rfl⟩)) | (with_reducible exact rfl)) ?_
    | refine oT ?_
    | refine oN ?_
    | refine oX ?_
    | refine oXn ?_
    | refine oXr ?_
    | exact oF (finV_bool ..)
    | apply oK
    | refine lT ?_
    | refine lN ?_
    | refine lX ?_
    | refine lXn ?_
    | refine lXr ?_
    | apply lK
    | refine oI ?_
    | refine oJ rfl ?_
    | refine lI ?_
    | refine lJ rfl ?_
    | (with_reducible exact rfl)
  exact e
  repeat first
    | refine oB (by first | (simp only [pu_val, nth_zero, nth_succ, gd_tt, gd_ff, gd_tf, gd_ft, gd_no, pickA_true, pickA_false, un_not, c3, r3, r4, ex0, ex1]; first | done | (with_reducible exact rfl) | (with_reducible exact ⟨rfl, rfl⟩)) | (with_reducible exact rfl)) ?_
    | refine lB (by first | (simp only [pu_val, nth_zero, nth_succ, gd_tt, gd_ff, gd_tf, gd_ft, gd_no, pickA_true, pickA_false, un_not, c3, r3, r4, ex0, ex1]; first | done | (with_reducible exact rfl) | (with_reducible exact ⟨rfl, rfl⟩)) | (with_reducible exact rfl)) ?_
    | refine oT ?_
    | refine oN ?_
    | refine oX ?_
    | refine oXn ?_
    | refine oXr ?_
    | exact oF (finV_bool ..)
    | apply oK
    | refine lT ?_
    | refine lN ?_
    | refine lX ?_
    | refine lXn ?_
    | refine lXr ?_
    | apply lK
    | refine oI ?_
    | refine oJ rfl ?_
    | refine lI ?_
    | refine lJ rfl ?_
    | (with_reducible exact rfl)
  refine oF (finV_two ?_ rfl _)
  simp [belowB, bytesV_below]

/-! opened -/
theorem o7_bad (G : Globs) (k : Nat) (self : Den) (lp : LoopF) (lo hi : Int) (h1 : 0 ≤ lo ∧ lo ≤ 8388608) (h2 : 0 ≤ hi ∧ hi ≤ 8388608) (p : List Nat) (hp : p.length ≤ 1000000) (i : Nat) (hil : i < p.length) (hx : ¬ (p[i] : Int) ≤ lo + hi) (hx2 : p[i] < 2 ^ 24) (hG : G 0 = some E0) :
    ∃ zs, pack_OpenSigned.l7 G k 2 self lp (stO7 lo hi p i) (hpO7 hi p i) = some (.ret, .int .i64 lo :: .int .i64 hi :: .ro false [] :: E0 :: zs, hpO7 hi p (i + 1)) := by
  have c1 : bin Tryd.prog .lss 3 false (Nn i) (Nn p.length) = some (.bool true) := by rw [bin_lss, decide_eq_true (by omega)]
  have c2 := idx_sl 1 p.length i hil
  have c3 : loadV G false 1 (.ptr 1 p.length i 0) (hpO7 hi p i) = some (.int .i64 (p[i] : Int)) := load_at G (e := 3) (xs := curO hi p i) rfl (curO_len hi p i (by omega)) (curO_get hi p i hil)
  have c4 : bin Tryd.prog .sub 3 false (.int .i64 hi) (.int .i64 (p[i] : Int)) = some (.int .i64 (hi - (p[i] : Int))) := by rw [bin_sub, wrap_of_i64 (by omega) (by omega)]
  have c5 : stS (storeV 1 (.ptr 1 p.length i 0) (.int .i64 (hi - (p[i] : Int))) (hpO7 hi p i)) = some (.tup [], hpO7 hi p (i + 1)) := by
    rw [store_at (e := 3) (xs := curO hi p i) rfl (curO_len hi p i (by omega)) (curO_get hi p i hil) ⟨_, _, rfl⟩ ⟨_, _, rfl⟩, curO_set hi p i hil]; rfl
  have c6 : loadV G false 1 (.ptr 1 p.length i 0) (hpO7 hi p (i + 1)) = some (.int .i64 (hi - (p[i] : Int))) := load_at G (e := 3) (xs := curO hi p (i + 1)) rfl (curO_len hi p (i + 1) (by omega)) (curO_get' hi p i hil)
  have c7 : un .neg (.int .i64 lo) = some (.int .i64 (-lo)) := by simp only [un]; rw [wrap_of_i64 (by omega) (by omega)]; congr 2; omega
  have c8 : bin Tryd.prog .lss 3 false (.int .i64 (hi - (p[i] : Int))) (.int .i64 (-lo)) = some (.bool true) := by rw [bin_lss, decide_eq_true (by omega)]
  have cG : ∀ H, loadV G false 1 (.gl 0) H = some E0 := fun H => by simp [loadV, hG]
  obtain ⟨y, hy⟩ : ∃ y, y = hi - (p[i] : Int) := ⟨_, rfl⟩
  obtain ⟨z, hz⟩ : ∃ z, z = (p[i] : Int) := ⟨_, rfl⟩
  rw [← hy] at c4 c5 c6 c8
  rw [← hz] at c3 c4
  clear hy hz
  refine ⟨(stO7 lo hi p i).drop 4, ?_⟩
  rw [pack_OpenSigned.l7]
  refine lC cutO7 ?_
  unfold stO7
  repeat first
    | refine oB (by first | (simp only [pu_val, nth_zero, nth_succ, gd_tt, gd_ff, gd_tf, gd_ft, gd_no, pickA_true, pickA_false, un_not, c1, c2, c3, c4, c5, c6, c7, c8, cG]; first | done | (with_reducible exact rfl) | (with_reducible exact ⟨rfl, rfl⟩)) | (with_reducible exact rfl)) ?_
    | refine lB (by first | (simp only [pu_val, nth_zero, nth_succ, gd_tt, gd_ff, gd_tf, gd_ft, gd_no, pickA_true, pickA_false, un_not, c1, c2, c3, c4, c5, c6, c7, c8, cG]; first | done | (with_reducible exact rfl) | (with_reducible exact ⟨rfl, rfl⟩)) | (with_reducible exact rfl)) ?_
    | refine oT ?_
    | refine oN ?_
    | refine oX ?_
    | refine oXn ?_
    | refine oXr ?_
    | exact oF (finV_bool ..)
    | apply oK
    | refine lT ?_
    | refine lN ?_
    | refine lX ?_
    | refine lXn ?_
    | refine lXr ?_
    | apply lK
    | refine oI ?_
    | refine oJ rfl ?_
    | refine lI ?_
    | refine lJ rfl ?_
    | (with_reducible exact rfl)
  rfl
theorem o7_loop (G : Globs) (k : Nat) (self : Den) (lo hi : Int) (h1 : 0 ≤ lo ∧ lo ≤ 8388608) (h2 : 0 ≤ hi ∧ hi ≤ 8388608) (p : List Nat) (hp : p.length ≤ 1000000) (hx2 : ∀ x ∈ p, x < 2 ^ 24) (hG : G 0 = some E0) :
    ∀ (r i f : Nat), i + r = p.length → r < f → ¬ (∀ x ∈ p.drop i, (x : Int) ≤ lo + hi) → ∃ zs j, loopN (pack_OpenSigned.l7 G k 2 self) f (stO7 lo hi p i) (hpO7 hi p i) = some (.ret, .int .i64 lo :: .int .i64 hi :: .ro false [] :: E0 :: zs, hpO7 hi p j)
  | _, _, 0, _, h, _ => by omega
  | 0, i, f + 1, hi', h, hb => absurd (fun x hx => by rw [List.drop_of_length_le (by omega)] at hx; simp at hx) hb
  | r + 1, i, f + 1, hi', h, hb => by
    have hil : i < p.length := by omega
    rw [loopN_succ]
    by_cases hx : (p[i] : Int) ≤ lo + hi
    · rw [o7_step G k self _ lo hi h1 h2 p hp i hil hx]
      exact o7_loop G k self lo hi h1 h2 p hp hx2 hG r (i + 1) f (by omega) (by omega) (fun hc => hb (fun x hx' => by
        rw [List.drop_eq_getElem_cons hil] at hx'
        rcases List.mem_cons.1 hx' with rfl | hx'
        · exact hx
        · exact hc x hx'))
    · obtain ⟨zs, e⟩ := o7_bad G k self (loopN (pack_OpenSigned.l7 G k 2 self) f) lo hi h1 h2 p hp i hil hx (hx2 _ (List.getElem_mem _)) hG
      exact ⟨zs, i + 1, e⟩

def stU (lo hi : Int) (p : List Nat) (i : Nat) : List AV := [.int .i64 lo, .int .i64 hi, .sl 0 0 0 0 1, .int .i64 0, .ro false (natsV p), .sl 1 i 0 i 1, Nn i]
def hpU (hi : Int) (p : List Nat) (i : Nat) : AHeap := [⟨3, 1, []⟩, ⟨3, 1, intsV (down hi ((p.take i).map fun (x : Nat) => (x : Int)))⟩]
theorem cutU {lo hi : Int} {p : List Nat} {i : Nat} : cutH 2 (stU lo hi p i) (hpU hi p i) = some (hpU hi p i) :=
  cutH_of (by simp [stU, belowL, belowB, natsV_below]) (by simp [hpU, heapBelow, belowL, intsV_below]) rfl
theorem idx_nats (p : List Nat) (i : Nat) (h : i < p.length) : idxAddrSl 1 (.ro false (natsV p)) (Nn i) = some (.rp false (.int .i64 (p[i] : Int)) 0) := by
  rw [nats_ints]; exact idx_ints false _ i _ (by simp [h])
theorem u8_loop (G : Globs) (k : Nat) (self : Den) (lo hi : Int) (h1 : 0 ≤ lo ∧ lo ≤ 8388608) (h2 : 0 ≤ hi ∧ hi ≤ 8388608) (p : List Nat) (hp : p.length ≤ 1000000) (hx2 : ∀ x ∈ p, x < 2 ^ 24) :
    ∀ (r i f : Nat), i + r = p.length → r < f →
      ((∀ x ∈ p.drop i, (x : Int) ≤ lo + hi) → loopN (alembicref4_OpenSigned.l8 G k 2 self) f (stU lo hi p i) (hpU hi p i) = some (.exit 0, stU lo hi p p.length, hpU hi p p.length)) ∧
      (¬ (∀ x ∈ p.drop i, (x : Int) ≤ lo + hi) → ∃ zs y, loopN (alembicref4_OpenSigned.l8 G k 2 self) f (stU lo hi p i) (hpU hi p i) = some (.ret, .int .i64 lo :: .int .i64 hi :: .sl 2 0 0 0 1 :: .int .i64 101 :: zs, [⟨3, 1, []⟩, y, ⟨3, 1, []⟩]))
  | _, _, 0, _, h => by omega
  | 0, i, f + 1, hi', h => by
    have : i = p.length := by omega
    subst this
    refine ⟨fun _ => ?_, fun hb => absurd (fun x hx => by rw [List.drop_of_length_le (Nat.le_refl _)] at hx; simp at hx) hb⟩
    have c0 : lenSl (.ro false (natsV p)) = some (Nn p.length) := by simp [lenSl, natsV_len]
    have c1 : bin Tryd.prog .lss 3 false (Nn p.length) (Nn p.length) = some (.bool false) := by rw [bin_lss, decide_eq_false (by omega)]
    rw [loopN_succ, alembicref4_OpenSigned.l8]
    refine lC cutU ?_
    unfold stU
    repeat first
      | refine oB (by first | (simp only [pu_val, nth_zero, nth_succ, gd_tt, gd_ff, gd_tf, gd_ft, gd_no, pickA_true, pickA_false, un_not, c0, c1]; first | done | (with_reducible exact rfl) | (with_reducible exact ⟨rfl, rfl⟩)) | (with_reducible exact rfl)) ?_
      | refine lB (by first | (simp only [pu_val, nth_zero, nth_succ, gd_tt, gd_ff, gd_tf, gd_ft, gd_no, pickA_true, pickA_false, un_not, c0, c1]; first | done | (with_reducible exact rfl) | (with_reducible exact ⟨rfl, rfl⟩)) | (with_reducible exact rfl)) ?_
      | refine oT ?_
      | refine oN ?_
      | refine oX ?_
      | refine oXn ?_
      | refine oXr ?_
      | exact oF (finV_bool ..)
      | apply oK
      | refine lT ?_
      | refine lN ?_
      | refine lX ?_
      | refine lXn ?_
      | refine lXr ?_
      | apply lK
      | refine oI ?_
      | refine oJ rfl ?_
      | refine lI ?_
      | refine lJ rfl ?_
      | (with_reducible exact rfl)
    rfl
  | r + 1, i, f + 1, hi', h => by
    have hil : i < p.length := by omega
    have hp24 := hx2 _ (List.getElem_mem hil)
    have ih := u8_loop G k self lo hi h1 h2 p hp hx2 r (i + 1) f (by omega) (by omega)
    have c0 : lenSl (.ro false (natsV p)) = some (Nn p.length) := by simp [lenSl, natsV_len]
    have c1 : bin Tryd.prog .lss 3 false (Nn i) (Nn p.length) = some (.bool true) := by rw [bin_lss, decide_eq_true (by omega)]
    have c2 := idx_nats p i hil
    have c4 : bin Tryd.prog .sub 3 false (.int .i64 hi) (.int .i64 (p[i] : Int)) = some (.int .i64 (hi - (p[i] : Int))) := by rw [bin_sub, wrap_of_i64 (by omega) (by omega)]
    have c7 : un .neg (.int .i64 lo) = some (.int .i64 (-lo)) := by simp only [un]; rw [wrap_of_i64 (by omega) (by omega)]; congr 2; omega
    have c8 : bin Tryd.prog .lss 3 false (.int .i64 (hi - (p[i] : Int))) (.int .i64 (-lo)) = some (.bool (decide (hi - (p[i] : Int) < -lo))) := by rw [bin_lss]
    have c9 : appendV 3 1 (.sl 1 i 0 i 1) (.ro false [.int .i64 (hi - (p[i] : Int))]) (hpU hi p i) = some (.sl 1 (i + 1) 0 (i + 1) 1, hpU hi p (i + 1)) := by
      have e1 := appendV_one (e := 3) (b := 1) (L := i) (bor := false) (y := .int .i64 (hi - (p[i] : Int))) (H := hpU hi p i) (xs := intsV (down hi ((p.take i).map fun (x : Nat) => (x : Int)))) rfl (by simp [intsV_len, down_len]; omega) (by omega) rfl
      rw [e1]
      have e2 : intsV (down hi ((p.take i).map fun (x : Nat) => (x : Int))) ++ [AV.int .i64 (hi - (p[i] : Int))] = intsV (down hi ((p.take (i + 1)).map fun (x : Nat) => (x : Int))) := by
        unfold down; rw [List.take_add_one, List.map_append, List.map_append]; simp [intsV, hil]
      rw [e2]; rfl
    have c10 : bin Tryd.prog .add 3 true (Nn i) (.int .i64 1) = some (Nn (i + 1)) := by
      rw [bin_add, wrap_of_i64 (by omega) (by omega)]; congr 2
    rw [loopN_succ, List.drop_eq_getElem_cons hil, alembicref4_OpenSigned.l8]
    by_cases hx : (p[i] : Int) ≤ lo + hi
    · simp only [decide_eq_false (show ¬ hi - (p[i] : Int) < -lo by omega)] at c8
      have go : ∀ r', loopN (alembicref4_OpenSigned.l8 G k 2 self) f (stU lo hi p (i + 1)) (hpU hi p (i + 1)) = r' → alembicref4_OpenSigned.l8 G k 2 self (loopN (alembicref4_OpenSigned.l8 G k 2 self) f) (stU lo hi p i) (hpU hi p i) = r' := by
        intro r' hr
        obtain ⟨y, hy⟩ : ∃ y, y = hi - (p[i] : Int) := ⟨_, rfl⟩
        obtain ⟨z, hz⟩ : ∃ z, z = (p[i] : Int) := ⟨_, rfl⟩
        rw [← hy] at c4 c8 c9
        rw [← hz] at c2 c4
        clear hy hz
        rw [alembicref4_OpenSigned.l8]
        refine lC cutU ?_
        unfold stU
        repeat first
          | refine oB (by first | (simp only [pu_val, nth_zero, nth_succ, gd_tt, gd_ff, gd_tf, gd_ft, gd_no, pickA_true, pickA_false, un_not, c0, c1, c2, c4, c7, c8, load_int]; first | done | (with_reducible exact rfl) | (with_reducible exact ⟨rfl, rfl⟩)) | (with_reducible exact rfl)) ?_
          | refine lB (by first | (simp only [pu_val, nth_zero, nth_succ, gd_tt, gd_ff, gd_tf, gd_ft, gd_no, pickA_true, pickA_false, un_not, c0, c1, c2, c4, c7, c8, load_int]; first | done | (with_reducible exact rfl) | (with_reducible exact ⟨rfl, rfl⟩)) | (with_reducible exact rfl)) ?_
          | refine oT ?_
          | refine oN ?_
          | refine oX ?_
          | refine oXn ?_
          | refine oXr ?_
          | exact oF (finV_bool ..)
          | apply oK
          | refine lT ?_
          | refine lN ?_
          | refine lX ?_
          | refine lXn ?_
          | refine lXr ?_
          | apply lK
          | refine oI ?_
          | refine oJ rfl ?_
          | refine lI ?_
          | refine lJ rfl ?_
          | (with_reducible exact rfl)
        refine lB (buildRo_int ..) ?_
        refine lB c9 ?_
        refine lB ((congrArg (pu _) c10).trans (pu_val _ _)) ?_
        exact hr
      rw [alembicref4_OpenSigned.l8] at go
      refine ⟨fun hc => go _ (ih.1 (fun x hx' => hc x (List.mem_cons_of_mem _ hx'))), fun hc => ?_⟩
      obtain ⟨zs, y, e⟩ := ih.2 (fun h' => hc (fun x hx' => by
        rcases List.mem_cons.1 hx' with rfl | hx'
        · exact hx
        · exact h' x hx'))
      exact ⟨zs, y, go _ e⟩
    · simp only [decide_eq_true (show hi - (p[i] : Int) < -lo by omega)] at c8
      refine ⟨fun hc => absurd (hc _ (List.mem_cons_self ..)) hx, fun _ => ⟨(stU lo hi p i).drop 4, ⟨3, 1, intsV (down hi ((p.take i).map fun (x : Nat) => (x : Int)))⟩, ?_⟩⟩
      obtain ⟨y, hy⟩ : ∃ y, y = hi - (p[i] : Int) := ⟨_, rfl⟩
      obtain ⟨z, hz⟩ : ∃ z, z = (p[i] : Int) := ⟨_, rfl⟩
      rw [← hy] at c4 c8
      rw [← hz] at c2 c4
      clear hy hz
      refine lC cutU ?_
      unfold stU
      repeat first
        | refine oB (by first | (simp only [pu_val, nth_zero, nth_succ, gd_tt, gd_ff, gd_tf, gd_ft, gd_no, pickA_true, pickA_false, un_not, c0, c1, c2, c4, c7, c8, load_int]; first | done | (with_reducible exact rfl) | (with_reducible exact ⟨rfl, rfl⟩)) | (with_reducible exact rfl)) ?_
        | refine lB (by first | (simp only [pu_val, nth_zero, nth_succ, gd_tt, gd_ff, gd_tf, gd_ft, gd_no, pickA_true, pickA_false, un_not, c0, c1, c2, c4, c7, c8, load_int]; first | done | (with_reducible exact rfl) | (with_reducible exact ⟨rfl, rfl⟩)) | (with_reducible exact rfl)) ?_
        | refine oT ?_
        | refine oN ?_
        | refine oX ?_
        | refine oXn ?_
        | refine oXr ?_
        | exact oF (finV_bool ..)
        | apply oK
        | refine lT ?_
        | refine lN ?_
        | refine lX ?_
        | refine lXn ?_
        | refine lXr ?_
        | apply lK
        | refine oI ?_
        | refine oJ rfl ?_
        | refine lI ?_
        | refine lJ rfl ?_
        | (with_reducible exact rfl)
      rfl

theorem opens_pair (G : Globs) (k : Nat) (lo hi n : Int) (hl : -9223372036854775808 ≤ lo ∧ lo < 9223372036854775808) (hh : -9223372036854775808 ≤ hi ∧ hi < 9223372036854775808) (bor : Bool) (b : List Nat) (hb : ∀ x ∈ b, x < 256) (hbl : b.length ≤ 1000) (hk : 7000 ≤ k) (hG0 : G 0 = some E0) (hG1 : G 1 = some E1) :
    ∃ (l : List Int) (c : Nat), okC c ∧ l.length ≤ 4096 ∧ pack_OpenSigned.f G (k + 1) [.int .i64 lo, .int .i64 hi, .int .i64 n, .ro bor (bytesV b)] [] = some (.tup [.ro false (intsV l), errV c], []) ∧
      alembicref4_OpenSigned.f G (k + 1) [.int .i64 lo, .int .i64 hi, .int .i64 n, .ro bor (bytesV b)] [] = some (.tup [.ro false (intsV l), Nn c], []) := by
  obtain ⟨j, rfl⟩ : ∃ j, k = j + 1 := ⟨k - 1, by omega⟩
  obtain ⟨q, hq, f1, f2⟩ := fair_pair G j lo hi hl hh
  cases q
  · obtain ⟨e1, e2⟩ := opens_unfair G (j + 1) lo hi (.int .i64 n) (.ro bor (bytesV b)) f1 f2 hG0
    exact ⟨[], 101, .inr (.inl rfl), by simp, e1, e2⟩
  have hf := hq.1 rfl
  have h1 : 0 ≤ lo ∧ lo ≤ 8388608 := ⟨hf.1, hf.2.1⟩
  have h2 : 0 ≤ hi ∧ hi ≤ 8388608 := ⟨hf.2.2.1, hf.2.2.2.1⟩
  have r1 : ∀ H, pureCall (pack_fair.f G (j + 1)) [.int .i64 lo, .int .i64 hi] H = _ := fun H => pureCall_of (H := H) f1 rfl rfl
  have r2 : ∀ H, pureCall (alembicref4_ends.f G (j + 1)) [.int .i64 lo, .int .i64 hi] H = _ := fun H => pureCall_of (H := H) f2 rfl rfl
  have c3 : bin Tryd.prog .add 3 false (.int .i64 lo) (.int .i64 hi) = some (.int .i64 (lo + hi)) := by rw [bin_add, wrap_of_i64 (by omega) (by omega)]
  have r3 : ∀ H, pureCall (alembicref4_Width.f G (j + 1)) [.int .i64 (lo + hi)] H = some (Nn (bl (lo + hi).toNat), H) := fun H =>
    pureCall_of (rwidth G j (by omega) (lo + hi) (by omega) (by omega)) rfl rfl
  have r4 : ∀ H, pureCall (pack_Width.f G (j + 1)) [.int .i64 (lo + hi)] H = some (Nn (bl (lo + hi).toNat), H) := fun H => by
    obtain ⟨i, rfl⟩ : ∃ i, j = i + 2 := ⟨j - 2, by omega⟩
    exact pureCall_of (width G i (lo + hi) (by omega)) rfl rfl
  obtain ⟨p, c, H', hc, hpl, hp0, hp24, rfl, o1, o2⟩ := open_pair G j (bl (lo + hi).toNat : Nat) n bor b hb hbl (by omega) hG0 hG1
  have o1' : heapCall (pack_Open.f G (j + 1)) [Nn (bl (lo + hi).toNat), .int .i64 n, .ro bor (bytesV b)] [] = some (.tup [.sl 1 p.length 0 p.length 1, errV c], [⟨3, 1, []⟩, ⟨3, 1, natsV p⟩]) := by
    unfold heapCall; rw [o1]; rfl
  have o2' : ∀ H, pureCall (alembicref4_Open.f G (j + 1)) [Nn (bl (lo + hi).toNat), .int .i64 n, .ro bor (bytesV b)] H = some (.tup [.ro false (natsV p), Nn c], H) := fun H =>
    pureCall_of o2 (by simp [plainL, plainB, plain_ints bytes_of]) (by simp [cleanB, cleanL, clean_ints nats_of])
  have ex0 : ∀ x y : AV, extractA (.tup [x, y]) 0 = some x := fun _ _ => rfl
  have ex1 : ∀ x y : AV, extractA (.tup [x, y]) 1 = some y := fun _ _ => rfl
  generalize bl (lo + hi).toNat = d at *
  rw [pack_OpenSigned.step, alembicref4_OpenSigned.step]
  unfold pack_OpenSigned.c alembicref4_OpenSigned.c
  by_cases hc0 : c = 0
  case neg =>
    have hpe := hp0 hc0
    subst hpe
    have n1 : bin Tryd.prog .neq 30 true (errV c) .nili = some (.bool true) := by
      rcases hc with rfl | rfl | rfl
      · exact absurd rfl hc0
      · kernel_rfl
      · kernel_rfl
    have n2 : bin Tryd.prog .neq 3 true (Nn c) (.int .i64 0) = some (.bool true) := by rw [bin_neq, decide_eq_true (by omega)]
    refine ⟨[], c, hc, by simp, ?_, ?_⟩
    · repeat first
        | refine oB (by first | (simp only [pu_val, nth_zero, nth_succ, gd_tt, gd_ff, gd_tf, gd_ft, gd_no, pickA_true, pickA_false, un_not, r1, c3, r4, o1', ex0, ex1, n1, Bool.not_true]; first | done | (with_reducible exact rfl) | (with_reducible exact ⟨rfl, rfl⟩)) | (with_reducible exact rfl)) ?_
        | refine lB (by first | (simp only [pu_val, nth_zero, nth_succ, gd_tt, gd_ff, gd_tf, gd_ft, gd_no, pickA_true, pickA_false, un_not, r1, c3, r4, o1', ex0, ex1, n1, Bool.not_true]; first | done | (with_reducible exact rfl) | (with_reducible exact ⟨rfl, rfl⟩)) | (with_reducible exact rfl)) ?_
        | refine oT ?_
        | refine oN ?_
        | refine oX ?_
        | refine oXn ?_
        | refine oXr ?_
        | exact oF (finV_bool ..)
        | apply oK
        | refine lT ?_
        | refine lN ?_
        | refine lX ?_
        | refine lXn ?_
        | refine lXr ?_
        | apply lK
        | refine oI ?_
        | refine oJ rfl ?_
        | refine lI ?_
        | refine lJ rfl ?_
        | (with_reducible exact rfl)
      exact oF (finV_two rfl (errV_below c) _)
    · repeat first
        | refine oB (by first | (simp only [pu_val, nth_zero, nth_succ, gd_tt, gd_ff, gd_tf, gd_ft, gd_no, pickA_true, pickA_false, un_not, r2, c3, r3, o2', ex0, ex1, n2, Bool.not_true]; first | done | (with_reducible exact rfl) | (with_reducible exact ⟨rfl, rfl⟩)) | (with_reducible exact rfl)) ?_
        | refine lB (by first | (simp only [pu_val, nth_zero, nth_succ, gd_tt, gd_ff, gd_tf, gd_ft, gd_no, pickA_true, pickA_false, un_not, r2, c3, r3, o2', ex0, ex1, n2, Bool.not_true]; first | done | (with_reducible exact rfl) | (with_reducible exact ⟨rfl, rfl⟩)) | (with_reducible exact rfl)) ?_
        | refine oT ?_
        | refine oN ?_
        | refine oX ?_
        | refine oXn ?_
        | refine oXr ?_
        | exact oF (finV_bool ..)
        | apply oK
        | refine lT ?_
        | refine lN ?_
        | refine lX ?_
        | refine lXn ?_
        | refine lXr ?_
        | apply lK
        | refine oI ?_
        | refine oJ rfl ?_
        | refine lI ?_
        | refine lJ rfl ?_
        | (with_reducible exact rfl)
      exact oF (fin_sl (e := 3) (xs := []) rfl rfl (by simp) rfl)
  subst hc0
  have n1 : bin Tryd.prog .neq 30 true (errV 0) .nili = some (.bool false) := by kernel_rfl
  have n2 : bin Tryd.prog .neq 3 true (Nn 0) (.int .i64 0) = some (.bool false) := rfl
  have c5 : lenSl (.sl 1 p.length 0 p.length 1) = some (Nn p.length) := rfl
  have z1 : stO7 lo hi p 0 = [.int .i64 lo, .int .i64 hi, .ro false [], .nili, .sl 1 p.length 0 p.length 1, .sl 1 p.length 0 p.length 1, Nn p.length, .int .i64 0] := rfl
  have z2 : hpO7 hi p 0 = [⟨3, 1, []⟩, ⟨3, 1, natsV p⟩] := by simp [hpO7, curO, down, nats_ints]
  have z3 : stU lo hi p 0 = [.int .i64 lo, .int .i64 hi, .sl 0 0 0 0 1, .int .i64 0, .ro false (natsV p), .sl 1 0 0 0 1, .int .i64 0] := rfl
  have z4 : hpU hi p 0 = [⟨3, 1, []⟩, ⟨3, 1, []⟩] := rfl
  have lu := u8_loop G (j + 1) (alembicref4_OpenSigned.f G (j + 1)) lo hi h1 h2 p (by omega) hp24 p.length 0 (j + 1) (by omega) (by omega)
  rw [z3, z4, List.drop_zero] at lu
  by_cases hr : ∀ x ∈ p, (x : Int) ≤ lo + hi
  · have e := o7_good G (j + 1) (pack_OpenSigned.f G (j + 1)) lo hi h1 h2 p (by omega) hr p.length 0 (j + 1) (by omega) (by omega)
    have eu := lu.1 hr
    have z5 : hpO7 hi p p.length = [⟨3, 1, []⟩, ⟨3, 1, intsV (down hi (p.map fun (x : Nat) => (x : Int)))⟩] := by simp [hpO7, curO]
    have z6 : hpU hi p p.length = [⟨3, 1, []⟩, ⟨3, 1, intsV (down hi (p.map fun (x : Nat) => (x : Int)))⟩] := by simp [hpU]
    rw [z1, z2, z5] at e
    rw [z6] at eu
    refine ⟨down hi (p.map fun (x : Nat) => (x : Int)), 0, .inl rfl, by simp [down]; omega, ?_, ?_⟩
    · repeat first
        | refine oB (by first | (simp only [pu_val, nth_zero, nth_succ, gd_tt, gd_ff, gd_tf, gd_ft, gd_no, pickA_true, pickA_false, un_not, r1, c3, r4, o1', ex0, ex1, n1, c5, Bool.not_true]; first | done | (with_reducible exact rfl) | (with_reducible exact ⟨rfl, rfl⟩)) | (with_reducible exact rfl)) ?_
        | refine lB (by first | (simp only [pu_val, nth_zero, nth_succ, gd_tt, gd_ff, gd_tf, gd_ft, gd_no, pickA_true, pickA_false, un_not, r1, c3, r4, o1', ex0, ex1, n1, c5, Bool.not_true]; first | done | (with_reducible exact rfl) | (with_reducible exact ⟨rfl, rfl⟩)) | (with_reducible exact rfl)) ?_
        | refine oT ?_
        | refine oN ?_
        | refine oX ?_
        | refine oXn ?_
        | refine oXr ?_
        | exact oF (finV_bool ..)
        | apply oK
        | refine lT ?_
        | refine lN ?_
        | refine lX ?_
        | refine lXn ?_
        | refine lXr ?_
        | apply lK
        | refine oI ?_
        | refine oJ rfl ?_
        | refine lI ?_
        | refine lJ rfl ?_
        | (with_reducible exact rfl)
      exact e
      repeat first
        | refine oB (by first | (simp only [pu_val, nth_zero, nth_succ, gd_tt, gd_ff, gd_tf, gd_ft, gd_no, pickA_true, pickA_false, un_not]; first | done | (with_reducible exact rfl) | (with_reducible exact ⟨rfl, rfl⟩)) | (with_reducible exact rfl)) ?_
        | refine lB (by first | (simp only [pu_val, nth_zero, nth_succ, gd_tt, gd_ff, gd_tf, gd_ft, gd_no, pickA_true, pickA_false, un_not]; first | done | (with_reducible exact rfl) | (with_reducible exact ⟨rfl, rfl⟩)) | (with_reducible exact rfl)) ?_
        | refine oT ?_
        | refine oN ?_
        | refine oX ?_
        | refine oXn ?_
        | refine oXr ?_
        | exact oF (finV_bool ..)
        | apply oK
        | refine lT ?_
        | refine lN ?_
        | refine lX ?_
        | refine lXn ?_
        | refine lXr ?_
        | apply lK
        | refine oI ?_
        | refine oJ rfl ?_
        | refine lI ?_
        | refine lJ rfl ?_
        | (with_reducible exact rfl)
      unfold stO7
      exact oF (fin_sl (e := 3) rfl (by rw [intsV_len]; simp [down]) ints_of rfl)
    · repeat first
        | refine oB (by first | (simp only [pu_val, nth_zero, nth_succ, gd_tt, gd_ff, gd_tf, gd_ft, gd_no, pickA_true, pickA_false, un_not, r2, c3, r3, o2', ex0, ex1, n2, Bool.not_true]; first | done | (with_reducible exact rfl) | (with_reducible exact ⟨rfl, rfl⟩)) | (with_reducible exact rfl)) ?_
        | refine lB (by first | (simp only [pu_val, nth_zero, nth_succ, gd_tt, gd_ff, gd_tf, gd_ft, gd_no, pickA_true, pickA_false, un_not, r2, c3, r3, o2', ex0, ex1, n2, Bool.not_true]; first | done | (with_reducible exact rfl) | (with_reducible exact ⟨rfl, rfl⟩)) | (with_reducible exact rfl)) ?_
        | refine oT ?_
        | refine oN ?_
        | refine oX ?_
        | refine oXn ?_
        | refine oXr ?_
        | exact oF (finV_bool ..)
        | apply oK
        | refine lT ?_
        | refine lN ?_
        | refine lX ?_
        | refine lXn ?_
        | refine lXr ?_
        | apply lK
        | refine oI ?_
        | refine oJ rfl ?_
        | refine lI ?_
        | refine lJ rfl ?_
        | (with_reducible exact rfl)
      exact eu
      repeat first
        | refine oB (by first | (simp only [pu_val, nth_zero, nth_succ, gd_tt, gd_ff, gd_tf, gd_ft, gd_no, pickA_true, pickA_false, un_not]; first | done | (with_reducible exact rfl) | (with_reducible exact ⟨rfl, rfl⟩)) | (with_reducible exact rfl)) ?_
        | refine lB (by first | (simp only [pu_val, nth_zero, nth_succ, gd_tt, gd_ff, gd_tf, gd_ft, gd_no, pickA_true, pickA_false, un_not]; first | done | (with_reducible exact rfl) | (with_reducible exact ⟨rfl, rfl⟩)) | (with_reducible exact rfl)) ?_
        | refine oT ?_
        | refine oN ?_
        | refine oX ?_
        | refine oXn ?_
        | refine oXr ?_
        | exact oF (finV_bool ..)
        | apply oK
        | refine lT ?_
        | refine lN ?_
        | refine lX ?_
        | refine lXn ?_
        | refine lXr ?_
        | apply lK
        | refine oI ?_
        | refine oJ rfl ?_
        | refine lI ?_
        | refine lJ rfl ?_
        | (with_reducible exact rfl)
      unfold stU
      exact oF (fin_sl (e := 3) rfl (by rw [intsV_len]; simp [down]) ints_of rfl)
  · obtain ⟨zs, i, e⟩ := o7_loop G (j + 1) (pack_OpenSigned.f G (j + 1)) lo hi h1 h2 p (by omega) hp24 hG0 p.length 0 (j + 1) (by omega) (by omega) (by simpa using hr)
    obtain ⟨ys, y, eu⟩ := lu.2 hr
    rw [z1, z2] at e
    refine ⟨[], 101, .inr (.inl rfl), by simp, ?_, ?_⟩
    · repeat first
        | refine oB (by first | (simp only [pu_val, nth_zero, nth_succ, gd_tt, gd_ff, gd_tf, gd_ft, gd_no, pickA_true, pickA_false, un_not, r1, c3, r4, o1', ex0, ex1, n1, c5, Bool.not_true]; first | done | (with_reducible exact rfl) | (with_reducible exact ⟨rfl, rfl⟩)) | (with_reducible exact rfl)) ?_
        | refine lB (by first | (simp only [pu_val, nth_zero, nth_succ, gd_tt, gd_ff, gd_tf, gd_ft, gd_no, pickA_true, pickA_false, un_not, r1, c3, r4, o1', ex0, ex1, n1, c5, Bool.not_true]; first | done | (with_reducible exact rfl) | (with_reducible exact ⟨rfl, rfl⟩)) | (with_reducible exact rfl)) ?_
        | refine oT ?_
        | refine oN ?_
        | refine oX ?_
        | refine oXn ?_
        | refine oXr ?_
        | exact oF (finV_bool ..)
        | apply oK
        | refine lT ?_
        | refine lN ?_
        | refine lX ?_
        | refine lXn ?_
        | refine lXr ?_
        | apply lK
        | refine oI ?_
        | refine oJ rfl ?_
        | refine lI ?_
        | refine lJ rfl ?_
        | (with_reducible exact rfl)
      exact e
      repeat first
        | refine oB (by first | (simp only [pu_val, nth_zero, nth_succ, gd_tt, gd_ff, gd_tf, gd_ft, gd_no, pickA_true, pickA_false, un_not]; first | done | (with_reducible exact rfl) | (with_reducible exact ⟨rfl, rfl⟩)) | (with_reducible exact rfl)) ?_
        | refine lB (by first | (simp only [pu_val, nth_zero, nth_succ, gd_tt, gd_ff, gd_tf, gd_ft, gd_no, pickA_true, pickA_false, un_not]; first | done | (with_reducible exact rfl) | (with_reducible exact ⟨rfl, rfl⟩)) | (with_reducible exact rfl)) ?_
        | refine oT ?_
        | refine oN ?_
        | refine oX ?_
        | refine oXn ?_
        | refine oXr ?_
        | exact oF (finV_bool ..)
        | apply oK
        | refine lT ?_
        | refine lN ?_
        | refine lX ?_
        | refine lXn ?_
        | refine lXr ?_
        | apply lK
        | refine oI ?_
        | refine oJ rfl ?_
        | refine lI ?_
        | refine lJ rfl ?_
        | (with_reducible exact rfl)
      exact oF (finV_two rfl rfl _)
    · repeat first
        | refine oB (by first | (simp only [pu_val, nth_zero, nth_succ, gd_tt, gd_ff, gd_tf, gd_ft, gd_no, pickA_true, pickA_false, un_not, r2, c3, r3, o2', ex0, ex1, n2, Bool.not_true]; first | done | (with_reducible exact rfl) | (with_reducible exact ⟨rfl, rfl⟩)) | (with_reducible exact rfl)) ?_
        | refine lB (by first | (simp only [pu_val, nth_zero, nth_succ, gd_tt, gd_ff, gd_tf, gd_ft, gd_no, pickA_true, pickA_false, un_not, r2, c3, r3, o2', ex0, ex1, n2, Bool.not_true]; first | done | (with_reducible exact rfl) | (with_reducible exact ⟨rfl, rfl⟩)) | (with_reducible exact rfl)) ?_
        | refine oT ?_
        | refine oN ?_
        | refine oX ?_
        | refine oXn ?_
        | refine oXr ?_
        | exact oF (finV_bool ..)
        | apply oK
        | refine lT ?_
        | refine lN ?_
        | refine lX ?_
        | refine lXn ?_
        | refine lXr ?_
        | apply lK
        | refine oI ?_
        | refine oJ rfl ?_
        | refine lI ?_
        | refine lJ rfl ?_
        | (with_reducible exact rfl)
      exact eu
      repeat first
        | refine oB (by first | (simp only [pu_val, nth_zero, nth_succ, gd_tt, gd_ff, gd_tf, gd_ft, gd_no, pickA_true, pickA_false, un_not]; first | done | (with_reducible exact rfl) | (with_reducible exact ⟨rfl, rfl⟩)) | (with_reducible exact rfl)) ?_
        | refine lB (by first | (simp only [pu_val, nth_zero, nth_succ, gd_tt, gd_ff, gd_tf, gd_ft, gd_no, pickA_true, pickA_false, un_not]; first | done | (with_reducible exact rfl) | (with_reducible exact ⟨rfl, rfl⟩)) | (with_reducible exact rfl)) ?_
        | refine oT ?_
        | refine oN ?_
        | refine oX ?_
        | refine oXn ?_
        | refine oXr ?_
        | exact oF (finV_bool ..)
        | apply oK
        | refine lT ?_
        | refine lN ?_
        | refine lX ?_
        | refine lXn ?_
        | refine lXr ?_
        | apply lK
        | refine oI ?_
        | refine oJ rfl ?_
        | refine lI ?_
        | refine lJ rfl ?_
        | (with_reducible exact rfl)
      exact oF (fin_sl (e := 3) (xs := []) rfl rfl (by simp) rfl)
end Go.Proofs.YtemkaggjbhpbbaaDoor.Mir
