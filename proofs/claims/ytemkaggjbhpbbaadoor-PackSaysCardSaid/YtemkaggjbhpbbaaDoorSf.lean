/- What pack.Signed, pack.OpenSigned give. -/
import Derived.Test.YtemkaggjbhpbbaaDoorSe
namespace Go.Proofs.YtemkaggjbhpbbaaDoor.Mir
open Go
set_option linter.unusedVariables false
set_option linter.unusedSimpArgs false

theorem fair_true (G : Globs) (k : Nat) (lo hi : Int) (h1 : 0 ≤ lo ∧ lo ≤ 8388608) (h2 : 0 ≤ hi ∧ hi ≤ 8388608) (h3 : 0 < lo + hi) : pack_fair.f G (k + 1) [.int .i64 lo, .int .i64 hi] [] = some (.bool true, []) := by
  have c1 : bin Tryd.prog .geq 3 true (.int .i64 lo) (.int .i64 0) = some (.bool true) := by rw [bin_geq, decide_eq_true h1.1]
  have c2 : bin Tryd.prog .leq 3 true (.int .i64 lo) (.int .i64 8388608) = some (.bool true) := by rw [bin_leq, decide_eq_true h1.2]
  have c3 : bin Tryd.prog .geq 3 true (.int .i64 hi) (.int .i64 0) = some (.bool true) := by rw [bin_geq, decide_eq_true h2.1]
  have c4 : bin Tryd.prog .leq 3 true (.int .i64 hi) (.int .i64 8388608) = some (.bool true) := by rw [bin_leq, decide_eq_true h2.2]
  have c5 : bin Tryd.prog .add 3 false (.int .i64 lo) (.int .i64 hi) = some (.int .i64 (lo + hi)) := by rw [bin_add, wrap_of_i64 (by omega) (by omega)]
  have c6 : bin Tryd.prog .gtr 3 true (.int .i64 (lo + hi)) (.int .i64 0) = some (.bool true) := by rw [bin_gtr, decide_eq_true h3]
  rw [pack_fair.step]
  unfold pack_fair.c
  repeat first
    | refine oB (by first | (simp only [pu_val, nth_zero, nth_succ, gd_tt, gd_ff, gd_tf, gd_ft, gd_no, pickA_true, pickA_false, un_not, c1, c2, c3, c4, c5, c6]; first | done | (with_reducible exact rfl) | (with_reducible exact ⟨rfl, rfl⟩)) | (with_reducible exact rfl)) ?_
    | refine lB (by first | (simp only [pu_val, nth_zero, nth_succ, gd_tt, gd_ff, gd_tf, gd_ft, gd_no, pickA_true, pickA_false, un_not, c1, c2, c3, c4, c5, c6]; first | done | (with_reducible exact rfl) | (with_reducible exact ⟨rfl, rfl⟩)) | (with_reducible exact rfl)) ?_
    | refine oT ?_
    | refine oN ?_
    | refine oX ?_
    | refine oXn ?_
    | refine oXr ?_
    | exact oF (finV_bool ..)
    | apply oK
    | refine lT ?_
    | refine lN ?_
    | refine lX ?_
    | refine lXn ?_
    | refine lXr ?_
    | apply lK
    | refine oI ?_
    | refine oJ rfl ?_
    | refine lI ?_
    | refine lJ rfl ?_
    | (with_reducible exact rfl)

/-! The numbers as how far they are below the bound. -/
def down (hi : Int) (l : List Int) : List Int := l.map fun x => hi - x
def curS (hi : Int) (a : List Int) (i : Nat) : List AV := intsV (down hi (a.take i) ++ List.replicate (a.length - i) 0)
def stS5 (lo hi : Int) (bor : Bool) (a : List Int) (i : Nat) : List AV := [.int .i64 lo, .int .i64 hi, .ro false [], .nili, .sl 0 a.length 0 a.length 1, .ro bor (intsV a), Nn a.length, Nn i]
def hpS (hi : Int) (a : List Int) (i : Nat) : AHeap := [⟨3, 1, curS hi a i⟩]
theorem curS_len (hi : Int) (a : List Int) (i : Nat) (h : i ≤ a.length) : (curS hi a i).length = a.length := by
  simp [curS, intsV, down]; omega
theorem cutS {lo hi : Int} {bor : Bool} {a : List Int} {i : Nat} : cutH 1 (stS5 lo hi bor a i) (hpS hi a i) = some (hpS hi a i) :=
  cutH_of (by simp [stS5, belowL, belowB, intsV_below]) (by simp [hpS, curS, heapBelow, intsV_below]) rfl
theorem idx_sl (b L i : Nat) (h : i < L) : idxAddrSl 1 (.sl b L 0 L 1) (Nn i) = some (.ptr b L i 0) := by
  have : ((0 : Int) ≤ (i : Int) ∧ (i : Int) < ((L : Nat) : Int)) := by omega
  show (if 0 ≤ (i : Int) ∧ (i : Int) < ((L : Nat) : Int) then (if 1 = 1 then some (AV.ptr b L (0 + ((i : Int)).toNat) 0) else none) else none) = _
  rw [if_pos this, if_pos rfl, Int.toNat_natCast, Nat.zero_add]
theorem store_at {b L i e : Nat} {H : AHeap} {xs : List AV} {y z : AV} (hb : H[b]? = some ⟨e, 1, xs⟩) (hL : xs.length = L) (hy : xs[i]? = some y) (hyc : ∃ k n, y = .int k n) (hz : ∃ k n, z = .int k n) :
    stS (storeV 1 (.ptr b L i 0) z H) = some (.tup [], H.set b ⟨e, 1, xs.set i z⟩) := by
  obtain ⟨k, n, rfl⟩ := hyc
  obtain ⟨k', n', rfl⟩ := hz
  simp [storeV, hb, hL, hy, storable, AV.cells, recell, putC, stS]
theorem load_at (G : Globs) {b L i e : Nat} {H : AHeap} {xs : List AV} {k : IntKind} {n : Int} (hb : H[b]? = some ⟨e, 1, xs⟩) (hL : xs.length = L) (hy : xs[i]? = some (.int k n)) : loadV G false 1 (.ptr b L i 0) H = some (.int k n) := by
  simp [loadV, hb, hL, hy, loadC, AV.cells]

theorem curS_get (hi : Int) (a : List Int) (i : Nat) (h : i < a.length) : (curS hi a i)[i]? = some (.int .i64 0) := by
  have hl : (down hi (a.take i)).length = i := by simp [down]; omega
  unfold curS intsV
  rw [List.getElem?_map, List.getElem?_append_right (by omega), hl, List.getElem?_replicate]
  simp; omega
theorem curS_set (hi : Int) (a : List Int) (i : Nat) (h : i < a.length) : (curS hi a i).set i (.int .i64 (hi - a[i])) = curS hi a (i + 1) := by
  have hl : (down hi (a.take i)).length = i := by simp [down]; omega
  have e1 : List.replicate (a.length - i) (0 : Int) = 0 :: List.replicate (a.length - (i + 1)) 0 := by
    rw [show a.length - i = (a.length - (i + 1)) + 1 by omega, List.replicate_succ]
  have e2 : down hi (a.take (i + 1)) = down hi (a.take i) ++ [hi - a[i]] := by
    unfold down; rw [List.take_add_one, List.map_append]; simp [h]
  unfold curS intsV
  rw [e2, e1, ← List.map_set, List.set_append_right _ _ (by omega), hl]
  simp

theorem s5_step (G : Globs) (k : Nat) (self : Den) (lp : LoopF) (lo hi : Int) (h1 : 0 ≤ lo ∧ lo ≤ 8388608) (h2 : 0 ≤ hi ∧ hi ≤ 8388608) (bor : Bool) (a : List Int) (ha : a.length ≤ 1000000) (i : Nat) (hil : i < a.length) (hx : -lo ≤ a[i] ∧ a[i] ≤ hi) :
    pack_Signed.l5 G k 1 self lp (stS5 lo hi bor a i) (hpS hi a i) = lp (stS5 lo hi bor a (i + 1)) (hpS hi a (i + 1)) := by
  have c1 : bin Tryd.prog .lss 3 false (Nn i) (Nn a.length) = some (.bool true) := by rw [bin_lss, decide_eq_true (by omega)]
  have c2 := idx_ints bor a i a[i] (by simp)
  have c3 : un .neg (.int .i64 lo) = some (.int .i64 (-lo)) := by simp only [un]; rw [wrap_of_i64 (by omega) (by omega)]; congr 2; omega
  have c4 : bin Tryd.prog .lss 3 false (.int .i64 a[i]) (.int .i64 (-lo)) = some (.bool false) := by rw [bin_lss, decide_eq_false (by omega)]
  have c5 : bin Tryd.prog .gtr 3 false (.int .i64 a[i]) (.int .i64 hi) = some (.bool false) := by rw [bin_gtr, decide_eq_false (by omega)]
  have c6 : bin Tryd.prog .sub 3 false (.int .i64 hi) (.int .i64 a[i]) = some (.int .i64 (hi - a[i])) := by rw [bin_sub, wrap_of_i64 (by omega) (by omega)]
  have c7 := idx_sl 0 a.length i hil
  have c8 : stS (storeV 1 (.ptr 0 a.length i 0) (.int .i64 (hi - a[i])) (hpS hi a i)) = some (.tup [], hpS hi a (i + 1)) := by
    rw [store_at (e := 3) (xs := curS hi a i) rfl (curS_len hi a i (by omega)) (curS_get hi a i hil) ⟨_, _, rfl⟩ ⟨_, _, rfl⟩, curS_set hi a i hil]; rfl
  have c9 : bin Tryd.prog .add 3 true (Nn i) (.int .i64 1) = some (Nn (i + 1)) := by
    rw [bin_add, wrap_of_i64 (by omega) (by omega)]; congr 2
  obtain ⟨y, hy⟩ : ∃ y, y = hi - a[i] := ⟨_, rfl⟩
  obtain ⟨z, hz⟩ : ∃ z, z = a[i] := ⟨_, rfl⟩
  rw [← hy] at c6 c8
  rw [← hz] at c2 c4 c5 c6
  clear hy hz
  rw [pack_Signed.l5]
  refine lC cutS ?_
  unfold stS5
  repeat first
    | refine oB (by first | (simp only [pu_val, nth_zero, nth_succ, gd_tt, gd_ff, gd_tf, gd_ft, gd_no, pickA_true, pickA_false, un_not, c1, c2, c3, c4, c5, load_int]; first | done | (with_reducible exact rfl) | (with_reducible exact ⟨rfl, rfl⟩)) | (with_reducible exact rfl)) ?_
    | refine lB (by first | (simp only [pu_val, nth_zero, nth_succ, gd_tt, gd_ff, gd_tf, gd_ft, gd_no, pickA_true, pickA_false, un_not, c1, c2, c3, c4, c5, load_int]; first | done | (with_reducible exact rfl) | (with_reducible exact ⟨rfl, rfl⟩)) | (with_reducible exact rfl)) ?_
    | refine oT ?_
    | refine oN ?_
    | refine oX ?_
    | refine oXn ?_
    | refine oXr ?_
    | exact oF (finV_bool ..)
    | apply oK
    | refine lT ?_
    | refine lN ?_
    | refine lX ?_
    | refine lXn ?_
    | refine lXr ?_
    | apply lK
    | refine oI ?_
    | refine oJ rfl ?_
    | refine lI ?_
    | refine lJ rfl ?_
    | (with_reducible exact rfl)
  refine lB ((congrArg (pu (hpS hi a i)) c6).trans (pu_val _ _)) ?_
  refine lB ((congrArg (pu (hpS hi a i)) c7).trans (pu_val _ _)) ?_
  refine lB c8 ?_
  refine lB ((congrArg (pu (hpS hi a (i + 1))) c9).trans (pu_val _ _)) ?_
  rfl
theorem s5_bad (G : Globs) (k : Nat) (self : Den) (lp : LoopF) (lo hi : Int) (h1 : 0 ≤ lo ∧ lo ≤ 8388608) (h2 : 0 ≤ hi ∧ hi ≤ 8388608) (bor : Bool) (a : List Int) (ha : a.length ≤ 1000000) (i : Nat) (hil : i < a.length) (hx : ¬ (-lo ≤ a[i] ∧ a[i] ≤ hi)) (E0 : AV) (hG : G 0 = some E0) :
    ∃ zs, pack_Signed.l5 G k 1 self lp (stS5 lo hi bor a i) (hpS hi a i) = some (.ret, .int .i64 lo :: .int .i64 hi :: .ro false [] :: E0 :: zs, hpS hi a i) := by
  have c1 : bin Tryd.prog .lss 3 false (Nn i) (Nn a.length) = some (.bool true) := by rw [bin_lss, decide_eq_true (by omega)]
  have c2 := idx_ints bor a i a[i] (by simp)
  have c3 : un .neg (.int .i64 lo) = some (.int .i64 (-lo)) := by simp only [un]; rw [wrap_of_i64 (by omega) (by omega)]; congr 2; omega
  have cG : ∀ H, loadV G false 1 (.gl 0) H = some E0 := fun H => by simp [loadV, hG]
  refine ⟨(stS5 lo hi bor a i).drop 4, ?_⟩
  rw [pack_Signed.l5]
  refine lC cutS ?_
  unfold stS5
  by_cases h0 : a[i] < -lo
  · have c4 : bin Tryd.prog .lss 3 false (.int .i64 a[i]) (.int .i64 (-lo)) = some (.bool true) := by rw [bin_lss, decide_eq_true h0]
    repeat first
      | refine oB (by first | (simp only [pu_val, nth_zero, nth_succ, gd_tt, gd_ff, gd_tf, gd_ft, gd_no, pickA_true, pickA_false, un_not, c1, c2, c3, c4, load_int, cG]; first | done | (with_reducible exact rfl) | (with_reducible exact ⟨rfl, rfl⟩)) | (with_reducible exact rfl)) ?_
      | refine lB (by first | (simp only [pu_val, nth_zero, nth_succ, gd_tt, gd_ff, gd_tf, gd_ft, gd_no, pickA_true, pickA_false, un_not, c1, c2, c3, c4, load_int, cG]; first | done | (with_reducible exact rfl) | (with_reducible exact ⟨rfl, rfl⟩)) | (with_reducible exact rfl)) ?_
      | refine oT ?_
      | refine oN ?_
      | refine oX ?_
      | refine oXn ?_
      | refine oXr ?_
      | exact oF (finV_bool ..)
      | apply oK
      | refine lT ?_
      | refine lN ?_
      | refine lX ?_
      | refine lXn ?_
      | refine lXr ?_
      | apply lK
      | refine oI ?_
      | refine oJ rfl ?_
      | refine lI ?_
      | refine lJ rfl ?_
      | (with_reducible exact rfl)
    rfl
  · have c4 : bin Tryd.prog .lss 3 false (.int .i64 a[i]) (.int .i64 (-lo)) = some (.bool false) := by rw [bin_lss, decide_eq_false h0]
    have c5 : bin Tryd.prog .gtr 3 false (.int .i64 a[i]) (.int .i64 hi) = some (.bool true) := by rw [bin_gtr, decide_eq_true (by omega)]
    repeat first
      | refine oB (by first | (simp only [pu_val, nth_zero, nth_succ, gd_tt, gd_ff, gd_tf, gd_ft, gd_no, pickA_true, pickA_false, un_not, c1, c2, c3, c4, c5, load_int, cG]; first | done | (with_reducible exact rfl) | (with_reducible exact ⟨rfl, rfl⟩)) | (with_reducible exact rfl)) ?_
      | refine lB (by first | (simp only [pu_val, nth_zero, nth_succ, gd_tt, gd_ff, gd_tf, gd_ft, gd_no, pickA_true, pickA_false, un_not, c1, c2, c3, c4, c5, load_int, cG]; first | done | (with_reducible exact rfl) | (with_reducible exact ⟨rfl, rfl⟩)) | (with_reducible exact rfl)) ?_
      | refine oT ?_
      | refine oN ?_
      | refine oX ?_
      | refine oXn ?_
      | refine oXr ?_
      | exact oF (finV_bool ..)
      | apply oK
      | refine lT ?_
      | refine lN ?_
      | refine lX ?_
      | refine lXn ?_
      | refine lXr ?_
      | apply lK
      | refine oI ?_
      | refine oJ rfl ?_
      | refine lI ?_
      | refine lJ rfl ?_
      | (with_reducible exact rfl)
    rfl
theorem s5_end (G : Globs) (k : Nat) (self : Den) (lp : LoopF) (lo hi : Int) (bor : Bool) (a : List Int) :
    pack_Signed.l5 G k 1 self lp (stS5 lo hi bor a a.length) (hpS hi a a.length) = some (.exit 0, stS5 lo hi bor a a.length, hpS hi a a.length) := by
  have c1 : bin Tryd.prog .lss 3 false (Nn a.length) (Nn a.length) = some (.bool false) := by rw [bin_lss, decide_eq_false (by omega)]
  rw [pack_Signed.l5]
  refine lC cutS ?_
  unfold stS5
  repeat first
    | refine oB (by first | (simp only [pu_val, nth_zero, nth_succ, gd_tt, gd_ff, gd_tf, gd_ft, gd_no, pickA_true, pickA_false, un_not, c1]; first | done | (with_reducible exact rfl) | (with_reducible exact ⟨rfl, rfl⟩)) | (with_reducible exact rfl)) ?_
    | refine lB (by first | (simp only [pu_val, nth_zero, nth_succ, gd_tt, gd_ff, gd_tf, gd_ft, gd_no, pickA_true, pickA_false, un_not, c1]; first | done | (with_reducible exact rfl) | (with_reducible exact ⟨rfl, rfl⟩)) | (with_reducible exact rfl)) ?_
    | refine oT ?_
    | refine oN ?_
    | refine oX ?_
    | refine oXn ?_
    | refine oXr ?_
    | exact oF (finV_bool ..)
    | apply oK
    | refine lT ?_
    | refine lN ?_
    | refine lX ?_
    | refine lXn ?_
    | refine lXr ?_
    | apply lK
    | refine oI ?_
    | refine oJ rfl ?_
    | refine lI ?_
    | refine lJ rfl ?_
    | (with_reducible exact rfl)
  rfl

theorem s5_good (G : Globs) (k : Nat) (self : Den) (lo hi : Int) (h1 : 0 ≤ lo ∧ lo ≤ 8388608) (h2 : 0 ≤ hi ∧ hi ≤ 8388608) (bor : Bool) (a : List Int) (ha : a.length ≤ 1000000) (hr : ∀ x ∈ a, -lo ≤ x ∧ x ≤ hi) :
    ∀ (r i f : Nat), i + r = a.length → r < f → loopN (pack_Signed.l5 G k 1 self) f (stS5 lo hi bor a i) (hpS hi a i) = some (.exit 0, stS5 lo hi bor a a.length, hpS hi a a.length)
  | _, _, 0, _, h => by omega
  | 0, i, f + 1, hi', h => by
    have : i = a.length := by omega
    subst this
    rw [loopN_succ]; exact s5_end G k self _ lo hi bor a
  | r + 1, i, f + 1, hi', h => by
    rw [loopN_succ]
    exact (s5_step G k self _ lo hi h1 h2 bor a ha i (by omega) (hr _ (List.getElem_mem _))).trans (s5_good G k self lo hi h1 h2 bor a ha hr r (i + 1) f (by omega) (by omega))
theorem s5_fail (G : Globs) (k : Nat) (self : Den) (lo hi : Int) (h1 : 0 ≤ lo ∧ lo ≤ 8388608) (h2 : 0 ≤ hi ∧ hi ≤ 8388608) (bor : Bool) (a : List Int) (ha : a.length ≤ 1000000) (E0 : AV) (hG : G 0 = some E0) :
    ∀ (r i f : Nat), i + r = a.length → r < f → ¬ (∀ x ∈ a.drop i, -lo ≤ x ∧ x ≤ hi) → ∃ zs j, loopN (pack_Signed.l5 G k 1 self) f (stS5 lo hi bor a i) (hpS hi a i) = some (.ret, .int .i64 lo :: .int .i64 hi :: .ro false [] :: E0 :: zs, hpS hi a j)
  | _, _, 0, _, h, _ => by omega
  | 0, i, f + 1, hi', h, hb => by
    exact absurd (fun x hx => by rw [List.drop_of_length_le (by omega)] at hx; simp at hx) hb
  | r + 1, i, f + 1, hi', h, hb => by
    have hil : i < a.length := by omega
    rw [loopN_succ]
    by_cases hx : -lo ≤ a[i] ∧ a[i] ≤ hi
    · obtain ⟨zs, j, e⟩ := s5_fail G k self lo hi h1 h2 bor a ha E0 hG r (i + 1) f (by omega) (by omega) (fun hc => hb (fun x hx' => by
        rw [List.drop_eq_getElem_cons hil] at hx'
        rcases List.mem_cons.1 hx' with rfl | hx'
        · exact hx
        · exact hc x hx'))
      exact ⟨zs, j, (s5_step G k self _ lo hi h1 h2 bor a ha i hil hx).trans e⟩
    · obtain ⟨zs, e⟩ := s5_bad G k self (loopN (pack_Signed.l5 G k 1 self) f) lo hi h1 h2 bor a ha i hil hx E0 hG
      exact ⟨zs, i, e⟩

theorem stS5_zero (lo hi : Int) (bor : Bool) (a : List Int) : stS5 lo hi bor a 0 = [.int .i64 lo, .int .i64 hi, .ro false [], .nili, .sl 0 a.length 0 a.length 1, .ro bor (intsV a), Nn a.length, .int .i64 0] := rfl
theorem hpS_zero (hi : Int) (a : List Int) : hpS hi a 0 = [⟨3, 1, List.replicate a.length (.int .i64 0)⟩] := by simp [hpS, curS, down, intsV]
theorem hpS_end (hi : Int) (a : List Int) : hpS hi a a.length = [⟨3, 1, intsV (down hi a)⟩] := by simp [hpS, curS]
theorem makeSlN (n : Nat) (hn : n ≤ 1099511627776) : makeSliceV 3 1 (.int .i64 0) (Nn n) (Nn n) [] = some (.sl 0 n 0 n 1, [⟨3, 1, List.replicate n (.int .i64 0)⟩]) := by
  have h1 : ((n : Int) ≤ 1099511627776) := by omega
  have h2 : (0 : Int) ≤ (n : Int) := by omega
  simp [makeSliceV, h1]

theorem blz (lo hi : Int) (h1 : 0 ≤ lo) (h2 : 0 ≤ hi) (h3 : 0 < lo + hi) (h4 : lo + hi < 16777216) : 1 ≤ bl (lo + hi).toNat ∧ bl (lo + hi).toNat ≤ 24 ∧ (lo + hi).toNat < 2 ^ bl (lo + hi).toNat := by
  refine ⟨?_, ?_, bl_spec _⟩
  · unfold bl; rw [if_neg (by omega)]; omega
  · have hx : (lo + hi).toNat ≠ 0 := by omega
    have := bl_low _ hx
    have h5 : 2 ^ (bl (lo + hi).toNat - 1) < 2 ^ 24 := by omega
    have := (Nat.pow_lt_pow_iff_right (by decide : 1 < 2)).1 h5
    omega

theorem signed_ok (G : Globs) (k : Nat) (lo hi : Int) (h1 : 0 ≤ lo ∧ lo ≤ 8388608) (h2 : 0 ≤ hi ∧ hi ≤ 8388608) (h3 : 0 < lo + hi) (h4 : lo + hi < 16777216) (bor : Bool) (a : List Int) (hall : a.length ≤ 1000000) (hk : a.length + 60 ≤ k)
    (d : Nat) (hd : d = bl (lo + hi).toNat) (h8 : d * (a.length % 8) % 8 = 0) (hr : ∀ x ∈ a, -lo ≤ x ∧ x ≤ hi) :
    pack_Signed.f G (k + 1) [.int .i64 lo, .int .i64 hi, .ro bor (intsV a)] [] = some (.tup [.ro false (bytesV (digs 256 (Lb d (down hi a)) (Vb d (down hi a)))), .nili], []) := by
  obtain ⟨z1, z2, z3⟩ := blz lo hi h1.1 h2.1 h3 h4
  rw [← hd] at z1 z2 z3
  have r1 : ∀ H, pureCall (pack_fair.f G k) [.int .i64 lo, .int .i64 hi] H = some (.bool true, H) := fun H => by
    obtain ⟨j, rfl⟩ : ∃ j, k = j + 1 := ⟨k - 1, by omega⟩
    exact pureCall_of (fair_true G j lo hi h1 h2 h3) rfl rfl
  have c1 : lenSl (.ro bor (intsV a)) = some (Nn a.length) := by simp [lenSl, intsV_len]
  have c2 := makeSlN a.length (by omega)
  have e := s5_good G k (pack_Signed.f G k) lo hi h1 h2 bor a hall hr a.length 0 k (by omega) (by omega)
  rw [stS5_zero, hpS_zero, hpS_end] at e
  have c3 : bin Tryd.prog .add 3 false (.int .i64 lo) (.int .i64 hi) = some (.int .i64 (lo + hi)) := by rw [bin_add, wrap_of_i64 (by omega) (by omega)]
  have r2 : ∀ H, pureCall (pack_Width.f G k) [.int .i64 (lo + hi)] H = some (Nn d, H) := fun H => by
    obtain ⟨j, rfl⟩ : ∃ j, k = j + 3 := ⟨k - 3, by omega⟩
    rw [hd]; exact pureCall_of (width G j (lo + hi) (by omega)) rfl rfl
  have hdl : (down hi a).length = a.length := by simp [down]
  have r3 : pureCall (pack_Bits.f G k) [Nn d, .sl 0 a.length 0 a.length 1] [⟨3, 1, intsV (down hi a)⟩] = some (.tup [.ro false (bytesV (digs 256 (Lb d (down hi a)) (Vb d (down hi a)))), .nili], [⟨3, 1, intsV (down hi a)⟩]) := by
    obtain ⟨j, rfl⟩ : ∃ j, k = j + 1 := ⟨k - 1, by omega⟩
    refine pureCall_as (snapL_cons snap_int (snapL_cons (snap_sl (e := 3) rfl (by rw [intsV_len, hdl]) ints_of) snapL_nil)) (bits_ok G j d ⟨z1, z2⟩ true (down hi a) (by omega) (by omega) (by rw [hdl]; exact h8) (fun x hx => ?_)) (by simp [cleanB, cleanL, clean_ints bytes_of])
    obtain ⟨y, hy, rfl⟩ := List.mem_map.1 hx
    have := hr y hy
    omega
  have ex0 : ∀ x y : AV, extractA (.tup [x, y]) 0 = some x := fun _ _ => rfl
  have ex1 : ∀ x y : AV, extractA (.tup [x, y]) 1 = some y := fun _ _ => rfl
  rw [pack_Signed.step]
  unfold pack_Signed.c
  repeat first
    | refine oB (by first | (simp only [pu_val, nth_zero, nth_succ, gd_tt, gd_ff, gd_tf, gd_ft, gd_no, pickA_true, pickA_false, un_not, r1, c1, c2, Bool.not_true]; first | done | (with_reducible exact rfl) | (with_reducible exact ⟨rfl, rfl⟩)) | (with_reducible exact rfl)) ?_
    | refine lB (by first | (simp only [pu_val, nth_zero, nth_succ, gd_tt, gd_ff, gd_tf, gd_ft, gd_no, pickA_true, pickA_false, un_not, r1, c1, c2, Bool.not_true]; first | done | (with_reducible exact rfl) | (with_reducible exact ⟨rfl, rfl⟩)) | (with_reducible exact rfl)) ?_
    | refine oT ?_
    | refine oN ?_
    | refine oX ?_
    | refine oXn ?_
    | refine oXr ?_
    | exact oF (finV_bool ..)
    | apply oK
    | refine lT ?_
    | refine lN ?_
    | refine lX ?_
    | refine lXn ?_
    | refine lXr ?_
    | apply lK
    | refine oI ?_
    | refine oJ rfl ?_
    | refine lI ?_
    | refine lJ rfl ?_
    | (with_reducible exact rfl)
  exact e
  unfold stS5
  repeat first
    | refine oB (by first | (simp only [pu_val, nth_zero, nth_succ, gd_tt, gd_ff, gd_tf, gd_ft, gd_no, pickA_true, pickA_false, un_not, c3, r2, r3, ex0, ex1]; first | done | (with_reducible exact rfl) | (with_reducible exact ⟨rfl, rfl⟩)) | (with_reducible exact rfl)) ?_
    | refine lB (by first | (simp only [pu_val, nth_zero, nth_succ, gd_tt, gd_ff, gd_tf, gd_ft, gd_no, pickA_true, pickA_false, un_not, c3, r2, r3, ex0, ex1]; first | done | (with_reducible exact rfl) | (with_reducible exact ⟨rfl, rfl⟩)) | (with_reducible exact rfl)) ?_
    | refine oT ?_
    | refine oN ?_
    | refine oX ?_
    | refine oXn ?_
    | refine oXr ?_
    | exact oF (finV_bool ..)
    | apply oK
    | refine lT ?_
    | refine lN ?_
    | refine lX ?_
    | refine lXn ?_
    | refine lXr ?_
    | apply lK
    | refine oI ?_
    | refine oJ rfl ?_
    | refine lI ?_
    | refine lJ rfl ?_
    | (with_reducible exact rfl)
  refine oF (finV_two ?_ rfl _)
  simp [belowB, bytesV_below]

theorem signed_fail (G : Globs) (k : Nat) (lo hi : Int) (h1 : 0 ≤ lo ∧ lo ≤ 8388608) (h2 : 0 ≤ hi ∧ hi ≤ 8388608) (h3 : 0 < lo + hi) (bor : Bool) (a : List Int) (hall : a.length ≤ 1000000) (hk : a.length + 60 ≤ k) (hr : ¬ ∀ x ∈ a, -lo ≤ x ∧ x ≤ hi) (E0 : AV) (hE : belowB 0 E0 = true) (hG : G 0 = some E0) :
    pack_Signed.f G (k + 1) [.int .i64 lo, .int .i64 hi, .ro bor (intsV a)] [] = some (.tup [.ro false [], E0], []) := by
  have r1 : ∀ H, pureCall (pack_fair.f G k) [.int .i64 lo, .int .i64 hi] H = some (.bool true, H) := fun H => by
    obtain ⟨j, rfl⟩ : ∃ j, k = j + 1 := ⟨k - 1, by omega⟩
    exact pureCall_of (fair_true G j lo hi h1 h2 h3) rfl rfl
  have c1 : lenSl (.ro bor (intsV a)) = some (Nn a.length) := by simp [lenSl, intsV_len]
  have c2 := makeSlN a.length (by omega)
  obtain ⟨zs, j, e⟩ := s5_fail G k (pack_Signed.f G k) lo hi h1 h2 bor a hall E0 hG a.length 0 k (by omega) (by omega) (by simpa using hr)
  rw [stS5_zero, hpS_zero] at e
  rw [pack_Signed.step]
  unfold pack_Signed.c
  repeat first
    | refine oB (by first | (simp only [pu_val, nth_zero, nth_succ, gd_tt, gd_ff, gd_tf, gd_ft, gd_no, pickA_true, pickA_false, un_not, r1, c1, c2, Bool.not_true]; first | done | (with_reducible exact rfl) | (with_reducible exact ⟨rfl, rfl⟩)) | (with_reducible exact rfl)) ?_
    | refine lB (by first | (simp only [pu_val, nth_zero, nth_succ, gd_tt, gd_ff, gd_tf, gd_ft, gd_no, pickA_true, pickA_false, un_not, r1, c1, c2, Bool.not_true]; first | done | (with_reducible exact rfl) | (with_reducible exact ⟨rfl, rfl⟩)) | (with_reducible exact rfl)) ?_
    | refine oT ?_
    | refine oN ?_
    | refine oX ?_
    | refine oXn ?_
    | refine oXr ?_
    | exact oF (finV_bool ..)
    | apply oK
    | refine lT ?_
    | refine lN ?_
    | refine lX ?_
    | refine lXn ?_
    | refine lXr ?_
    | apply lK
    | refine oI ?_
    | refine oJ rfl ?_
    | refine lI ?_
    | refine lJ rfl ?_
    | (with_reducible exact rfl)
  exact e
  repeat first
    | refine oB (by first | (simp only [pu_val, nth_zero, nth_succ, gd_tt, gd_ff, gd_tf, gd_ft, gd_no, pickA_true, pickA_false, un_not]; first | done | (with_reducible exact rfl) | (with_reducible exact ⟨rfl, rfl⟩)) | (with_reducible exact rfl)) ?_
    | refine lB (by first | (simp only [pu_val, nth_zero, nth_succ, gd_tt, gd_ff, gd_tf, gd_ft, gd_no, pickA_true, pickA_false, un_not]; first | done | (with_reducible exact rfl) | (with_reducible exact ⟨rfl, rfl⟩)) | (with_reducible exact rfl)) ?_
    | refine oT ?_
    | refine oN ?_
    | refine oX ?_
    | refine oXn ?_
    | refine oXr ?_
    | exact oF (finV_bool ..)
    | apply oK
    | refine lT ?_
    | refine lN ?_
    | refine lX ?_
    | refine lXn ?_
    | refine lXr ?_
    | apply lK
    | refine oI ?_
    | refine oJ rfl ?_
    | refine lI ?_
    | refine lJ rfl ?_
    | (with_reducible exact rfl)
  exact oF (finV_two rfl hE _)

/-! Opened: in place. -/
def curO (hi : Int) (p : List Nat) (i : Nat) : List AV := intsV (down hi ((p.take i).map fun (x : Nat) => (x : Int)) ++ ((p.drop i).map fun (x : Nat) => (x : Int)))
def stO7 (lo hi : Int) (p : List Nat) (i : Nat) : List AV := [.int .i64 lo, .int .i64 hi, .ro false [], .nili, .sl 1 p.length 0 p.length 1, .sl 1 p.length 0 p.length 1, Nn p.length, Nn i]
def hpO7 (hi : Int) (p : List Nat) (i : Nat) : AHeap := [⟨3, 1, []⟩, ⟨3, 1, curO hi p i⟩]
theorem curO_len (hi : Int) (p : List Nat) (i : Nat) (h : i ≤ p.length) : (curO hi p i).length = p.length := by
  simp [curO, intsV, down]; omega
theorem cutO7 {lo hi : Int} {p : List Nat} {i : Nat} : cutH 2 (stO7 lo hi p i) (hpO7 hi p i) = some (hpO7 hi p i) :=
  cutH_of (by simp [stO7, belowL, belowB]) (by simp [hpO7, curO, heapBelow, belowL, intsV_below]) rfl
theorem curO_get (hi : Int) (p : List Nat) (i : Nat) (h : i < p.length) : (curO hi p i)[i]? = some (.int .i64 (p[i] : Int)) := by
  have hl : (down hi ((p.take i).map fun (x : Nat) => (x : Int))).length = i := by simp [down]; omega
  unfold curO intsV
  rw [List.getElem?_map, List.getElem?_append_right (by omega), hl, List.getElem?_map, List.getElem?_drop]
  simp [h]
theorem curO_set (hi : Int) (p : List Nat) (i : Nat) (h : i < p.length) : (curO hi p i).set i (.int .i64 (hi - (p[i] : Int))) = curO hi p (i + 1) := by
  have hl : (down hi ((p.take i).map fun (x : Nat) => (x : Int))).length = i := by simp [down]; omega
  have e1 : (p.drop i).map (fun (x : Nat) => (x : Int)) = (p[i] : Int) :: (p.drop (i + 1)).map (fun (x : Nat) => (x : Int)) := by
    rw [List.drop_eq_getElem_cons h]; rfl
  have e2 : down hi ((p.take (i + 1)).map fun (x : Nat) => (x : Int)) = down hi ((p.take i).map fun (x : Nat) => (x : Int)) ++ [hi - (p[i] : Int)] := by
    unfold down; rw [List.take_add_one, List.map_append, List.map_append]; simp [h]
  unfold curO intsV
  rw [e2, e1, ← List.map_set, List.set_append_right _ _ (by omega), hl]
  simp
theorem curO_get' (hi : Int) (p : List Nat) (i : Nat) (h : i < p.length) : (curO hi p (i + 1))[i]? = some (.int .i64 (hi - (p[i] : Int))) := by
  rw [← curO_set hi p i h, List.getElem?_set_self (by rw [curO_len hi p i (by omega)]; exact h)]

theorem o7_step (G : Globs) (k : Nat) (self : Den) (lp : LoopF) (lo hi : Int) (h1 : 0 ≤ lo ∧ lo ≤ 8388608) (h2 : 0 ≤ hi ∧ hi ≤ 8388608) (p : List Nat) (hp : p.length ≤ 1000000) (i : Nat) (hil : i < p.length) (hx : (p[i] : Int) ≤ lo + hi) :
    pack_OpenSigned.l7 G k 2 self lp (stO7 lo hi p i) (hpO7 hi p i) = lp (stO7 lo hi p (i + 1)) (hpO7 hi p (i + 1)) := by
  have c1 : bin Tryd.prog .lss 3 false (Nn i) (Nn p.length) = some (.bool true) := by rw [bin_lss, decide_eq_true (by omega)]
  have c2 := idx_sl 1 p.length i hil
  have c3 : loadV G false 1 (.ptr 1 p.length i 0) (hpO7 hi p i) = some (.int .i64 (p[i] : Int)) := load_at G (e := 3) (xs := curO hi p i) rfl (curO_len hi p i (by omega)) (curO_get hi p i hil)
  have c4 : bin Tryd.prog .sub 3 false (.int .i64 hi) (.int .i64 (p[i] : Int)) = some (.int .i64 (hi - (p[i] : Int))) := by rw [bin_sub, wrap_of_i64 (by omega) (by omega)]
  have c5 : stS (storeV 1 (.ptr 1 p.length i 0) (.int .i64 (hi - (p[i] : Int))) (hpO7 hi p i)) = some (.tup [], hpO7 hi p (i + 1)) := by
    rw [store_at (e := 3) (xs := curO hi p i) rfl (curO_len hi p i (by omega)) (curO_get hi p i hil) ⟨_, _, rfl⟩ ⟨_, _, rfl⟩, curO_set hi p i hil]; rfl
  have c6 : loadV G false 1 (.ptr 1 p.length i 0) (hpO7 hi p (i + 1)) = some (.int .i64 (hi - (p[i] : Int))) := load_at G (e := 3) (xs := curO hi p (i + 1)) rfl (curO_len hi p (i + 1) (by omega)) (curO_get' hi p i hil)
  have c7 : un .neg (.int .i64 lo) = some (.int .i64 (-lo)) := by simp only [un]; rw [wrap_of_i64 (by omega) (by omega)]; congr 2; omega
  have c8 : bin Tryd.prog .lss 3 false (.int .i64 (hi - (p[i] : Int))) (.int .i64 (-lo)) = some (.bool false) := by rw [bin_lss, decide_eq_false (by omega)]
  have c9 : bin Tryd.prog .add 3 true (Nn i) (.int .i64 1) = some (Nn (i + 1)) := by
    rw [bin_add, wrap_of_i64 (by omega) (by omega)]; congr 2
  obtain ⟨y, hy⟩ : ∃ y, y = hi - (p[i] : Int) := ⟨_, rfl⟩
  obtain ⟨z, hz⟩ : ∃ z, z = (p[i] : Int) := ⟨_, rfl⟩
  rw [← hy] at c4 c5 c6 c8
  rw [← hz] at c3 c4
  clear hy hz
  rw [pack_OpenSigned.l7]
  refine lC cutO7 ?_
  unfold stO7
  repeat first
    | refine oB (by first | (simp only [pu_val, nth_zero, nth_succ, gd_tt, gd_ff, gd_tf, gd_ft, gd_no, pickA_true, pickA_false, un_not, c1, c2, c3, c4, c5, c6, c7, c8, c9]; first | done | (with_reducible exact rfl) | (with_reducible exact ⟨rfl, rfl⟩)) | (with_reducible exact rfl)) ?_
    | refine lB (by first | (simp only [pu_val, nth_zero, nth_succ, gd_tt, gd_ff, gd_tf, gd_ft, gd_no, pickA_true, pickA_false, un_not, c1, c2, c3, c4, c5, c6, c7, c8, c9]; first | done | (with_reducible exact rfl) | (with_reducible exact ⟨rfl, rfl⟩)) | (with_reducible exact rfl)) ?_
    | refine oT ?_
    | refine oN ?_
    | refine oX ?_
    | refine oXn ?_
    | refine oXr ?_
    | exact oF (finV_bool ..)
    | apply oK
    | refine lT ?_
    | refine lN ?_
    | refine lX ?_
    | refine lXn ?_
    | refine lXr ?_
    | apply lK
    | refine oI ?_
    | refine oJ rfl ?_
    | refine lI ?_
    | refine lJ rfl ?_
    | (with_reducible exact rfl)
  rfl
theorem o7_end (G : Globs) (k : Nat) (self : Den) (lp : LoopF) (lo hi : Int) (p : List Nat) :
    pack_OpenSigned.l7 G k 2 self lp (stO7 lo hi p p.length) (hpO7 hi p p.length) = some (.exit 0, stO7 lo hi p p.length, hpO7 hi p p.length) := by
  have c1 : bin Tryd.prog .lss 3 false (Nn p.length) (Nn p.length) = some (.bool false) := by rw [bin_lss, decide_eq_false (by omega)]
  rw [pack_OpenSigned.l7]
  refine lC cutO7 ?_
  unfold stO7
  repeat first
    | refine oB (by first | (simp only [pu_val, nth_zero, nth_succ, gd_tt, gd_ff, gd_tf, gd_ft, gd_no, pickA_true, pickA_false, un_not, c1]; first | done | (with_reducible exact rfl) | (with_reducible exact ⟨rfl, rfl⟩)) | (with_reducible exact rfl)) ?_
    | refine lB (by first | (simp only [pu_val, nth_zero, nth_succ, gd_tt, gd_ff, gd_tf, gd_ft, gd_no, pickA_true, pickA_false, un_not, c1]; first | done | (with_reducible exact rfl) | (with_reducible exact ⟨rfl, rfl⟩)) | (with_reducible exact rfl)) ?_
    | refine oT ?_
    | refine oN ?_
    | refine oX ?_
    | refine oXn ?_
    | refine oXr ?_
    | exact oF (finV_bool ..)
    | apply oK
    | refine lT ?_
    | refine lN ?_
    | refine lX ?_
    | refine lXn ?_
    | refine lXr ?_
    | apply lK
    | refine oI ?_
    | refine oJ rfl ?_
    | refine lI ?_
    | refine lJ rfl ?_
    | (with_reducible exact rfl)
  rfl
theorem o7_good (G : Globs) (k : Nat) (self : Den) (lo hi : Int) (h1 : 0 ≤ lo ∧ lo ≤ 8388608) (h2 : 0 ≤ hi ∧ hi ≤ 8388608) (p : List Nat) (hp : p.length ≤ 1000000) (hr : ∀ x ∈ p, (x : Int) ≤ lo + hi) :
    ∀ (r i f : Nat), i + r = p.length → r < f → loopN (pack_OpenSigned.l7 G k 2 self) f (stO7 lo hi p i) (hpO7 hi p i) = some (.exit 0, stO7 lo hi p p.length, hpO7 hi p p.length)
  | _, _, 0, _, h => by omega
  | 0, i, f + 1, hi', h => by
    have : i = p.length := by omega
    subst this
    rw [loopN_succ]; exact o7_end G k self _ lo hi p
  | r + 1, i, f + 1, hi', h => by
    rw [loopN_succ]
    exact (o7_step G k self _ lo hi h1 h2 p hp i (by omega) (hr _ (List.getElem_mem _))).trans (o7_good G k self lo hi h1 h2 p hp hr r (i + 1) f (by omega) (by omega))

theorem opens_ok (G : Globs) (k : Nat) (lo hi : Int) (h1 : 0 ≤ lo ∧ lo ≤ 8388608) (h2 : 0 ≤ hi ∧ hi ≤ 8388608) (h3 : 0 < lo + hi) (h4 : lo + hi < 16777216) (n : Nat) (hn : n ≤ 4096) (bor : Bool) (all : List Nat) (hk : all.length + n + 60 ≤ k)
    (d : Nat) (hd : d = bl (lo + hi).toNat) (h8 : d * n % 8 = 0) (hl : all.length = d * n / 8) (hr : ∀ x ∈ all, x < 256) (hx : ∀ x ∈ digs (2 ^ d) n (val 256 all), (x : Int) ≤ lo + hi) :
    pack_OpenSigned.f G (k + 1) [.int .i64 lo, .int .i64 hi, Nn n, .ro bor (bytesV all)] [] = some (.tup [.ro false (intsV (down hi ((digs (2 ^ d) n (val 256 all)).map fun (x : Nat) => (x : Int)))), .nili], []) := by
  obtain ⟨z1, z2, z3⟩ := blz lo hi h1.1 h2.1 h3 h4
  rw [← hd] at z1 z2 z3
  have r1 : ∀ H, pureCall (pack_fair.f G k) [.int .i64 lo, .int .i64 hi] H = some (.bool true, H) := fun H => by
    obtain ⟨j, rfl⟩ : ∃ j, k = j + 1 := ⟨k - 1, by omega⟩
    exact pureCall_of (fair_true G j lo hi h1 h2 h3) rfl rfl
  have c3 : bin Tryd.prog .add 3 false (.int .i64 lo) (.int .i64 hi) = some (.int .i64 (lo + hi)) := by rw [bin_add, wrap_of_i64 (by omega) (by omega)]
  have r2 : ∀ H, pureCall (pack_Width.f G k) [.int .i64 (lo + hi)] H = some (Nn d, H) := fun H => by
    obtain ⟨j, rfl⟩ : ∃ j, k = j + 3 := ⟨k - 3, by omega⟩
    rw [hd]; exact pureCall_of (width G j (lo + hi) (by omega)) rfl rfl
  obtain ⟨p, hp⟩ : ∃ p, p = digs (2 ^ d) n (val 256 all) := ⟨_, rfl⟩
  have hpl : p.length = n := by rw [hp, digs_length]
  have r3 : heapCall (pack_Open.f G k) [Nn d, Nn n, .ro bor (bytesV all)] [] = some (.tup [.sl 1 n 0 n 1, .nili], [⟨3, 1, []⟩, ⟨3, 1, natsV p⟩]) := by
    obtain ⟨j, rfl⟩ : ∃ j, k = j + 1 := ⟨k - 1, by omega⟩
    unfold heapCall
    rw [open_ok G j d n ⟨z1, z2⟩ hn bor all (by omega) h8 hl hr, hp]; rfl
  have n1 : bin Tryd.prog .neq 30 true .nili .nili = some (.bool false) := by kernel_rfl
  rw [← hp] at hx ⊢
  have e := o7_good G k (pack_OpenSigned.f G k) lo hi h1 h2 p (by omega) hx p.length 0 k (by omega) (by omega)
  have e0 : hpO7 hi p 0 = [⟨3, 1, []⟩, ⟨3, 1, natsV p⟩] := by simp [hpO7, curO, down, nats_ints]
  have e1 : hpO7 hi p p.length = [⟨3, 1, []⟩, ⟨3, 1, intsV (down hi (p.map fun (x : Nat) => (x : Int)))⟩] := by simp [hpO7, curO]
  rw [e0, e1] at e
  unfold stO7 at e
  rw [hpl] at e
  have ex0 : ∀ x y : AV, extractA (.tup [x, y]) 0 = some x := fun _ _ => rfl
  have ex1 : ∀ x y : AV, extractA (.tup [x, y]) 1 = some y := fun _ _ => rfl
  have c5 : lenSl (.sl 1 n 0 n 1) = some (Nn n) := rfl
  rw [pack_OpenSigned.step]
  unfold pack_OpenSigned.c
  repeat first
    | refine oB (by first | (simp only [pu_val, nth_zero, nth_succ, gd_tt, gd_ff, gd_tf, gd_ft, gd_no, pickA_true, pickA_false, un_not, r1, c3, r2, r3, ex0, ex1, n1, c5, Bool.not_true]; first | done | (with_reducible exact rfl) | (with_reducible exact ⟨rfl, rfl⟩)) | (with_reducible exact rfl)) ?_
    | refine lB (by first | (simp only [pu_val, nth_zero, nth_succ, gd_tt, gd_ff, gd_tf, gd_ft, gd_no, pickA_true, pickA_false, un_not, r1, c3, r2, r3, ex0, ex1, n1, c5, Bool.not_true]; first | done | (with_reducible exact rfl) | (with_reducible exact ⟨rfl, rfl⟩)) | (with_reducible exact rfl)) ?_
    | refine oT ?_
    | refine oN ?_
    | refine oX ?_
    | refine oXn ?_
    | refine oXr ?_
    | exact oF (finV_bool ..)
    | apply oK
    | refine lT ?_
    | refine lN ?_
    | refine lX ?_
    | refine lXn ?_
    | refine lXr ?_
    | apply lK
    | refine oI ?_
    | refine oJ rfl ?_
    | refine lI ?_
    | refine lJ rfl ?_
    | (with_reducible exact rfl)
  exact e
  repeat first
    | refine oB (by first | (simp only [pu_val, nth_zero, nth_succ, gd_tt, gd_ff, gd_tf, gd_ft, gd_no, pickA_true, pickA_false, un_not]; first | done | (with_reducible exact rfl) | (with_reducible exact ⟨rfl, rfl⟩)) | (with_reducible exact rfl)) ?_
    | refine lB (by first | (simp only [pu_val, nth_zero, nth_succ, gd_tt, gd_ff, gd_tf, gd_ft, gd_no, pickA_true, pickA_false, un_not]; first | done | (with_reducible exact rfl) | (with_reducible exact ⟨rfl, rfl⟩)) | (with_reducible exact rfl)) ?_
    | refine oT ?_
    | refine oN ?_
    | refine oX ?_
    | refine oXn ?_
    | refine oXr ?_
    | exact oF (finV_bool ..)
    | apply oK
    | refine lT ?_
    | refine lN ?_
    | refine lX ?_
    | refine lXn ?_
    | refine lXr ?_
    | apply lK
    | refine oI ?_
    | refine oJ rfl ?_
    | refine lI ?_
    | refine lJ rfl ?_
    | (with_reducible exact rfl)
  exact oF (fin_sl (e := 3) rfl (by rw [intsV_len]; simp [down, hpl]) ints_of rfl)
end Go.Proofs.YtemkaggjbhpbbaaDoor.Mir
