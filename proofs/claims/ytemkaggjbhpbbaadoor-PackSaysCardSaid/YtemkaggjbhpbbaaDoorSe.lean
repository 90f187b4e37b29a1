/- Lists compared, lists handed to calls. -/
import Derived.Test.YtemkaggjbhpbbaaDoorSd
namespace Go.Proofs.YtemkaggjbhpbbaaDoor.Mir
open Go
set_option linter.unusedVariables false
set_option linter.unusedSimpArgs false

theorem plain_ints {xs : List AV} (h : ∀ x ∈ xs, ∃ k n, x = AV.int k n) : plainL xs = true := by
  induction xs with
  | nil => rfl
  | cons x xs ih =>
    obtain ⟨k, n, rfl⟩ := h x (List.mem_cons_self ..)
    simp [plainL, plainB, ih (fun y hy => h y (List.mem_cons_of_mem _ hy))]
theorem clean_ints {xs : List AV} (h : ∀ x ∈ xs, ∃ k n, x = AV.int k n) : cleanL xs = true := by
  induction xs with
  | nil => rfl
  | cons x xs ih =>
    obtain ⟨k, n, rfl⟩ := h x (List.mem_cons_self ..)
    simp [cleanL, cleanB, ih (fun y hy => h y (List.mem_cons_of_mem _ hy))]
theorem snap_ro {H : AHeap} {b : Bool} {xs : List AV} (h : ∀ x ∈ xs, ∃ k n, x = AV.int k n) : snap H (.ro b xs) = some (.ro b xs) :=
  snap_plain (by simp [plainB, plain_ints h])
theorem snap_sl {H : AHeap} {b e n : Nat} {xs : List AV} (hb : H[b]? = some ⟨e, 1, xs⟩) (hl : xs.length = n) (h : ∀ x ∈ xs, ∃ k n, x = AV.int k n) : snap H (.sl b n 0 n 1) = some (.ro true xs) := by
  subst hl
  simp [snap, snap1, elemsOf, hb, plain_ints h, allSz_ints h]
theorem pureCall_as {g : Den} {args bs : List AV} {r : AV} {H : AHeap} (ha : snapL H args = some bs) (hg : g bs [] = some (r, [])) (hr : cleanB r = true) : pureCall g args H = some (r, H) := by
  simp [pureCall, ha, hg, hr]
theorem snapL_cons {H : AHeap} {x y : AV} {xs ys : List AV} (h : snap H x = some y) (hs : snapL H xs = some ys) : snapL H (x :: xs) = some (y :: ys) := by
  simp [snapL, h, hs]
theorem snapL_nil {H : AHeap} : snapL H [] = some [] := rfl
theorem snap_int {H : AHeap} {k : IntKind} {n : Int} : snap H (.int k n) = some (.int k n) := rfl
theorem snap_bool {H : AHeap} {b : Bool} : snap H (.bool b) = some (.bool b) := rfl

theorem nats_ints (l : List Nat) : natsV l = intsV (l.map fun (x : Nat) => (x : Int)) := by simp [natsV, intsV]

theorem SameInts_loop (G : Globs) (k : Nat) (self : Den) (p q : Bool) (a b : List Int) (hla : a.length ≤ 1000000) : ∀ (sa sb pre : List Int) (f : Nat), a = pre ++ sa → b = pre ++ sb → sa.length = sb.length → sa.length < f →
    ∃ z, loopN (alembicref_SameInts.l4 G k 0 self) f [.ro p (intsV a), .ro q (intsV b), .bool false, Nn pre.length] [] = some (if sa = sb then .exit 0 else .ret, [.ro p (intsV a), .ro q (intsV b), .bool false, z], [])
  | _, _, _, 0, _, _, _, h => by omega
  | [], sb, pre, f + 1, ha, hb, hs, h => by
    have : sb = [] := by cases sb with | nil => rfl | cons _ _ => simp at hs
    subst this
    have c0 : lenSl (.ro p (intsV a)) = some (Nn a.length) := by simp [lenSl, intsV_len]
    have c1 : bin Tryd.prog .lss 3 false (Nn pre.length) (Nn a.length) = some (.bool false) := by
      rw [bin_lss, decide_eq_false (by rw [ha]; simp)]
    refine ⟨Nn pre.length, ?_⟩
    rw [loopN_succ, alembicref_SameInts.l4]
    refine lC (cutH_of (by simp [belowL, belowB, intsV_below]) rfl rfl) ?_
    repeat first
      | refine oB (by first | (with_reducible exact rfl) | (simp only [pu_val, nth_zero, nth_succ, gd_tt, gd_ff, gd_tf, gd_ft, gd_no, pickA_true, pickA_false, un_not, c0, c1]; first | done | (with_reducible exact rfl) | (with_reducible exact ⟨rfl, rfl⟩))) ?_
      | refine lB (by first | (with_reducible exact rfl) | (simp only [pu_val, nth_zero, nth_succ, gd_tt, gd_ff, gd_tf, gd_ft, gd_no, pickA_true, pickA_false, un_not, c0, c1]; first | done | (with_reducible exact rfl) | (with_reducible exact ⟨rfl, rfl⟩))) ?_
      | refine oT ?_
      | refine oN ?_
      | refine oX ?_
      | refine oXn ?_
      | refine oXr ?_
      | exact oF (finV_bool ..)
      | apply oK
      | refine lT ?_
      | refine lN ?_
      | refine lX ?_
      | refine lXn ?_
      | refine lXr ?_
      | apply lK
      | refine oI ?_
      | refine oJ rfl ?_
      | refine lI ?_
      | refine lJ rfl ?_
      | (with_reducible exact rfl)
    rfl
  | x :: sa, [], pre, f + 1, ha, hb, hs, h => by simp at hs
  | x :: sa, y :: sb, pre, f + 1, ha, hb, hs, h => by
    have c0 : lenSl (.ro p (intsV a)) = some (Nn a.length) := by simp [lenSl, intsV_len]
    have hlen : a.length = pre.length + sa.length + 1 := by rw [ha]; simp; omega
    have c1 : bin Tryd.prog .lss 3 false (Nn pre.length) (Nn a.length) = some (.bool true) := by
      rw [bin_lss, decide_eq_true (by omega)]
    have c2 := idx_ints p a pre.length x (by rw [ha]; simp)
    have c3 := idx_ints q b pre.length y (by rw [hb]; simp)
    have c4 : bin Tryd.prog .eql 3 false (.int .i64 (x : Int)) (.int .i64 (y : Int)) = some (.bool (decide (x = y))) := by rw [bin_eql]
    have c5 : bin Tryd.prog .add 3 true (Nn pre.length) (.int .i64 1) = some (Nn (pre.length + 1)) := by
      rw [bin_add, wrap_of_i64 (by omega) (by omega)]; congr 2
    rw [loopN_succ, alembicref_SameInts.l4]
    by_cases hxy : x = y
    · subst hxy
      obtain ⟨z, ih⟩ := SameInts_loop G k self p q a b hla sa sb (pre ++ [x]) f (by rw [ha]; simp) (by rw [hb]; simp) (by simpa using hs) (by simpa using h)
      refine ⟨z, ?_⟩
      have h1 : (x :: sa = x :: sb) ↔ (sa = sb) := by simp
      simp only [h1]
      refine lC (cutH_of (by simp [belowL, belowB, intsV_below]) rfl rfl) ?_
      simp only [decide_true] at c4
      repeat first
        | refine oB (by first | (with_reducible exact rfl) | (simp only [pu_val, nth_zero, nth_succ, gd_tt, gd_ff, gd_tf, gd_ft, gd_no, pickA_true, pickA_false, un_not, c0, c1, c2, c3, c4, c5, load_int, Bool.not_true]; first | done | (with_reducible exact rfl) | (with_reducible exact ⟨rfl, rfl⟩))) ?_
        | refine lB (by first | (with_reducible exact rfl) | (simp only [pu_val, nth_zero, nth_succ, gd_tt, gd_ff, gd_tf, gd_ft, gd_no, pickA_true, pickA_false, un_not, c0, c1, c2, c3, c4, c5, load_int, Bool.not_true]; first | done | (with_reducible exact rfl) | (with_reducible exact ⟨rfl, rfl⟩))) ?_
        | refine oT ?_
        | refine oN ?_
        | refine oX ?_
        | refine oXn ?_
        | refine oXr ?_
        | exact oF (finV_bool ..)
        | apply oK
        | refine lT ?_
        | refine lN ?_
        | refine lX ?_
        | refine lXn ?_
        | refine lXr ?_
        | apply lK
        | refine oI ?_
        | refine oJ rfl ?_
        | refine lI ?_
        | refine lJ rfl ?_
        | (with_reducible exact rfl)
      rw [List.length_append] at ih
      exact ih
    · refine ⟨Nn pre.length, ?_⟩
      have h1 : ¬ (x :: sa = y :: sb) := by simp [hxy]
      rw [if_neg h1]
      refine lC (cutH_of (by simp [belowL, belowB, intsV_below]) rfl rfl) ?_
      simp only [decide_eq_false hxy] at c4
      repeat first
        | refine oB (by first | (with_reducible exact rfl) | (simp only [pu_val, nth_zero, nth_succ, gd_tt, gd_ff, gd_tf, gd_ft, gd_no, pickA_true, pickA_false, un_not, c0, c1, c2, c3, c4, c5, load_int, Bool.not_false]; first | done | (with_reducible exact rfl) | (with_reducible exact ⟨rfl, rfl⟩))) ?_
        | refine lB (by first | (with_reducible exact rfl) | (simp only [pu_val, nth_zero, nth_succ, gd_tt, gd_ff, gd_tf, gd_ft, gd_no, pickA_true, pickA_false, un_not, c0, c1, c2, c3, c4, c5, load_int, Bool.not_false]; first | done | (with_reducible exact rfl) | (with_reducible exact ⟨rfl, rfl⟩))) ?_
        | refine oT ?_
        | refine oN ?_
        | refine oX ?_
        | refine oXn ?_
        | refine oXr ?_
        | exact oF (finV_bool ..)
        | apply oK
        | refine lT ?_
        | refine lN ?_
        | refine lX ?_
        | refine lXn ?_
        | refine lXr ?_
        | apply lK
        | refine oI ?_
        | refine oJ rfl ?_
        | refine lI ?_
        | refine lJ rfl ?_
        | (with_reducible exact rfl)
      rfl

theorem SameInts_spec (G : Globs) (k : Nat) (p q : Bool) (a b : List Int) (hla : a.length ≤ 1000000) (hlb : b.length ≤ 1000000) (hk : a.length < k) :
    alembicref_SameInts.f G (k + 1) [.ro p (intsV a), .ro q (intsV b)] [] = some (.bool (decide (a = b)), []) := by
  have c0 : lenSl (.ro p (intsV a)) = some (Nn a.length) := by simp [lenSl, intsV_len]
  have c1 : lenSl (.ro q (intsV b)) = some (Nn b.length) := by simp [lenSl, intsV_len]
  rw [alembicref_SameInts.step]
  unfold alembicref_SameInts.c
  by_cases h : a.length = b.length
  · have c2 : bin Tryd.prog .neq 3 false (Nn a.length) (Nn b.length) = some (.bool false) := by rw [bin_neq, h]; simp
    obtain ⟨z, hl⟩ := SameInts_loop G k (alembicref_SameInts.f G k) p q a b hla a b [] k rfl rfl h hk
    by_cases hab : a = b
    · rw [if_pos hab] at hl
      rw [decide_eq_true hab]
      repeat first
        | refine oB (by first | (with_reducible exact rfl) | (simp only [pu_val, nth_zero, nth_succ, gd_tt, gd_ff, gd_tf, gd_ft, gd_no, pickA_true, pickA_false, un_not, c0, c1, c2]; first | done | (with_reducible exact rfl) | (with_reducible exact ⟨rfl, rfl⟩))) ?_
        | refine lB (by first | (with_reducible exact rfl) | (simp only [pu_val, nth_zero, nth_succ, gd_tt, gd_ff, gd_tf, gd_ft, gd_no, pickA_true, pickA_false, un_not, c0, c1, c2]; first | done | (with_reducible exact rfl) | (with_reducible exact ⟨rfl, rfl⟩))) ?_
        | refine oT ?_
        | refine oN ?_
        | refine oX ?_
        | refine oXn ?_
        | refine oXr ?_
        | exact oF (finV_bool ..)
        | apply oK
        | refine lT ?_
        | refine lN ?_
        | refine lX ?_
        | refine lXn ?_
        | refine lXr ?_
        | apply lK
        | refine oI ?_
        | refine oJ rfl ?_
        | refine lI ?_
        | refine lJ rfl ?_
        | (with_reducible exact rfl)
      exact hl
      repeat first
        | refine oB (by first | (with_reducible exact rfl) | (simp only [pu_val, nth_zero, nth_succ, gd_tt, gd_ff, gd_tf, gd_ft, gd_no, pickA_true, pickA_false, un_not]; first | done | (with_reducible exact rfl) | (with_reducible exact ⟨rfl, rfl⟩))) ?_
        | refine lB (by first | (with_reducible exact rfl) | (simp only [pu_val, nth_zero, nth_succ, gd_tt, gd_ff, gd_tf, gd_ft, gd_no, pickA_true, pickA_false, un_not]; first | done | (with_reducible exact rfl) | (with_reducible exact ⟨rfl, rfl⟩))) ?_
        | refine oT ?_
        | refine oN ?_
        | refine oX ?_
        | refine oXn ?_
        | refine oXr ?_
        | exact oF (finV_bool ..)
        | apply oK
        | refine lT ?_
        | refine lN ?_
        | refine lX ?_
        | refine lXn ?_
        | refine lXr ?_
        | apply lK
        | refine oI ?_
        | refine oJ rfl ?_
        | refine lI ?_
        | refine lJ rfl ?_
        | (with_reducible exact rfl)
    · rw [if_neg hab] at hl
      rw [decide_eq_false hab]
      repeat first
        | refine oB (by first | (with_reducible exact rfl) | (simp only [pu_val, nth_zero, nth_succ, gd_tt, gd_ff, gd_tf, gd_ft, gd_no, pickA_true, pickA_false, un_not, c0, c1, c2]; first | done | (with_reducible exact rfl) | (with_reducible exact ⟨rfl, rfl⟩))) ?_
        | refine lB (by first | (with_reducible exact rfl) | (simp only [pu_val, nth_zero, nth_succ, gd_tt, gd_ff, gd_tf, gd_ft, gd_no, pickA_true, pickA_false, un_not, c0, c1, c2]; first | done | (with_reducible exact rfl) | (with_reducible exact ⟨rfl, rfl⟩))) ?_
        | refine oT ?_
        | refine oN ?_
        | refine oX ?_
        | refine oXn ?_
        | refine oXr ?_
        | exact oF (finV_bool ..)
        | apply oK
        | refine lT ?_
        | refine lN ?_
        | refine lX ?_
        | refine lXn ?_
        | refine lXr ?_
        | apply lK
        | refine oI ?_
        | refine oJ rfl ?_
        | refine lI ?_
        | refine lJ rfl ?_
        | (with_reducible exact rfl)
      exact hl
      repeat first
        | refine oB (by first | (with_reducible exact rfl) | (simp only [pu_val, nth_zero, nth_succ, gd_tt, gd_ff, gd_tf, gd_ft, gd_no, pickA_true, pickA_false, un_not]; first | done | (with_reducible exact rfl) | (with_reducible exact ⟨rfl, rfl⟩))) ?_
        | refine lB (by first | (with_reducible exact rfl) | (simp only [pu_val, nth_zero, nth_succ, gd_tt, gd_ff, gd_tf, gd_ft, gd_no, pickA_true, pickA_false, un_not]; first | done | (with_reducible exact rfl) | (with_reducible exact ⟨rfl, rfl⟩))) ?_
        | refine oT ?_
        | refine oN ?_
        | refine oX ?_
        | refine oXn ?_
        | refine oXr ?_
        | exact oF (finV_bool ..)
        | apply oK
        | refine lT ?_
        | refine lN ?_
        | refine lX ?_
        | refine lXn ?_
        | refine lXr ?_
        | apply lK
        | refine oI ?_
        | refine oJ rfl ?_
        | refine lI ?_
        | refine lJ rfl ?_
        | (with_reducible exact rfl)
  · have c2 : bin Tryd.prog .neq 3 false (Nn a.length) (Nn b.length) = some (.bool true) := by rw [bin_neq, decide_eq_true (by omega)]
    have : ¬ a = b := fun e => h (by rw [e])
    rw [decide_eq_false this]
    repeat first
      | refine oB (by first | (with_reducible exact rfl) | (simp only [pu_val, nth_zero, nth_succ, gd_tt, gd_ff, gd_tf, gd_ft, gd_no, pickA_true, pickA_false, un_not, c0, c1, c2]; first | done | (with_reducible exact rfl) | (with_reducible exact ⟨rfl, rfl⟩))) ?_
      | refine lB (by first | (with_reducible exact rfl) | (simp only [pu_val, nth_zero, nth_succ, gd_tt, gd_ff, gd_tf, gd_ft, gd_no, pickA_true, pickA_false, un_not, c0, c1, c2]; first | done | (with_reducible exact rfl) | (with_reducible exact ⟨rfl, rfl⟩))) ?_
      | refine oT ?_
      | refine oN ?_
      | refine oX ?_
      | refine oXn ?_
      | refine oXr ?_
      | exact oF (finV_bool ..)
      | apply oK
      | refine lT ?_
      | refine lN ?_
      | refine lX ?_
      | refine lXn ?_
      | refine lXr ?_
      | apply lK
      | refine oI ?_
      | refine oJ rfl ?_
      | refine lI ?_
      | refine lJ rfl ?_
      | (with_reducible exact rfl)

theorem SameBytes_loop (G : Globs) (k : Nat) (self : Den) (p q : Bool) (a b : List Nat) (hla : a.length ≤ 1000000) : ∀ (sa sb pre : List Nat) (f : Nat), a = pre ++ sa → b = pre ++ sb → sa.length = sb.length → sa.length < f →
    ∃ z, loopN (alembicref_SameBytes.l4 G k 0 self) f [.ro p (bytesV a), .ro q (bytesV b), .bool false, Nn pre.length] [] = some (if sa = sb then .exit 0 else .ret, [.ro p (bytesV a), .ro q (bytesV b), .bool false, z], [])
  | _, _, _, 0, _, _, _, h => by omega
  | [], sb, pre, f + 1, ha, hb, hs, h => by
    have : sb = [] := by cases sb with | nil => rfl | cons _ _ => simp at hs
    subst this
    have c0 : lenSl (.ro p (bytesV a)) = some (Nn a.length) := by simp [lenSl, bytesV_len]
    have c1 : bin Tryd.prog .lss 3 false (Nn pre.length) (Nn a.length) = some (.bool false) := by
      rw [bin_lss, decide_eq_false (by rw [ha]; simp)]
    refine ⟨Nn pre.length, ?_⟩
    rw [loopN_succ, alembicref_SameBytes.l4]
    refine lC (cutH_of (by simp [belowL, belowB, bytesV_below]) rfl rfl) ?_
    repeat first
      | refine oB (by first | (with_reducible exact rfl) | (simp only [pu_val, nth_zero, nth_succ, gd_tt, gd_ff, gd_tf, gd_ft, gd_no, pickA_true, pickA_false, un_not, c0, c1]; first | done | (with_reducible exact rfl) | (with_reducible exact ⟨rfl, rfl⟩))) ?_
      | refine lB (by first | (with_reducible exact rfl) | (simp only [pu_val, nth_zero, nth_succ, gd_tt, gd_ff, gd_tf, gd_ft, gd_no, pickA_true, pickA_false, un_not, c0, c1]; first | done | (with_reducible exact rfl) | (with_reducible exact ⟨rfl, rfl⟩))) ?_
      | refine oT ?_
      | refine oN ?_
      | refine oX ?_
      | refine oXn ?_
      | refine oXr ?_
      | exact oF (finV_bool ..)
      | apply oK
      | refine lT ?_
      | refine lN ?_
      | refine lX ?_
      | refine lXn ?_
      | refine lXr ?_
      | apply lK
      | refine oI ?_
      | refine oJ rfl ?_
      | refine lI ?_
      | refine lJ rfl ?_
      | (with_reducible exact rfl)
    rfl
  | x :: sa, [], pre, f + 1, ha, hb, hs, h => by simp at hs
  | x :: sa, y :: sb, pre, f + 1, ha, hb, hs, h => by
    have c0 : lenSl (.ro p (bytesV a)) = some (Nn a.length) := by simp [lenSl, bytesV_len]
    have hlen : a.length = pre.length + sa.length + 1 := by rw [ha]; simp; omega
    have c1 : bin Tryd.prog .lss 3 false (Nn pre.length) (Nn a.length) = some (.bool true) := by
      rw [bin_lss, decide_eq_true (by omega)]
    have c2 := idx_bytes p a pre.length x (by rw [ha]; simp)
    have c3 := idx_bytes q b pre.length y (by rw [hb]; simp)
    have c4 : bin Tryd.prog .eql 5 false (.int .u8 (x : Int)) (.int .u8 (y : Int)) = some (.bool (decide (x = y))) := by rw [bin_eql]; congr 2; exact decide_eq_decide.2 (by omega)
    have c5 : bin Tryd.prog .add 3 true (Nn pre.length) (.int .i64 1) = some (Nn (pre.length + 1)) := by
      rw [bin_add, wrap_of_i64 (by omega) (by omega)]; congr 2
    rw [loopN_succ, alembicref_SameBytes.l4]
    by_cases hxy : x = y
    · subst hxy
      obtain ⟨z, ih⟩ := SameBytes_loop G k self p q a b hla sa sb (pre ++ [x]) f (by rw [ha]; simp) (by rw [hb]; simp) (by simpa using hs) (by simpa using h)
      refine ⟨z, ?_⟩
      have h1 : (x :: sa = x :: sb) ↔ (sa = sb) := by simp
      simp only [h1]
      refine lC (cutH_of (by simp [belowL, belowB, bytesV_below]) rfl rfl) ?_
      simp only [decide_true] at c4
      repeat first
        | refine oB (by first | (with_reducible exact rfl) | (simp only [pu_val, nth_zero, nth_succ, gd_tt, gd_ff, gd_tf, gd_ft, gd_no, pickA_true, pickA_false, un_not, c0, c1, c2, c3, c4, c5, load_int, Bool.not_true]; first | done | (with_reducible exact rfl) | (with_reducible exact ⟨rfl, rfl⟩))) ?_
        | refine lB (by first | (with_reducible exact rfl) | (simp only [pu_val, nth_zero, nth_succ, gd_tt, gd_ff, gd_tf, gd_ft, gd_no, pickA_true, pickA_false, un_not, c0, c1, c2, c3, c4, c5, load_int, Bool.not_true]; first | done | (with_reducible exact rfl) | (with_reducible exact ⟨rfl, rfl⟩))) ?_
        | refine oT ?_
        | refine oN ?_
        | refine oX ?_
        | refine oXn ?_
        | refine oXr ?_
        | exact oF (finV_bool ..)
        | apply oK
        | refine lT ?_
        | refine lN ?_
        | refine lX ?_
        | refine lXn ?_
        | refine lXr ?_
        | apply lK
        | refine oI ?_
        | refine oJ rfl ?_
        | refine lI ?_
        | refine lJ rfl ?_
        | (with_reducible exact rfl)
      rw [List.length_append] at ih
      exact ih
    · refine ⟨Nn pre.length, ?_⟩
      have h1 : ¬ (x :: sa = y :: sb) := by simp [hxy]
      rw [if_neg h1]
      refine lC (cutH_of (by simp [belowL, belowB, bytesV_below]) rfl rfl) ?_
      simp only [decide_eq_false hxy] at c4
      repeat first
        | refine oB (by first | (with_reducible exact rfl) | (simp only [pu_val, nth_zero, nth_succ, gd_tt, gd_ff, gd_tf, gd_ft, gd_no, pickA_true, pickA_false, un_not, c0, c1, c2, c3, c4, c5, load_int, Bool.not_false]; first | done | (with_reducible exact rfl) | (with_reducible exact ⟨rfl, rfl⟩))) ?_
        | refine lB (by first | (with_reducible exact rfl) | (simp only [pu_val, nth_zero, nth_succ, gd_tt, gd_ff, gd_tf, gd_ft, gd_no, pickA_true, pickA_false, un_not, c0, c1, c2, c3, c4, c5, load_int, Bool.not_false]; first | done | (with_reducible exact rfl) | (with_reducible exact ⟨rfl, rfl⟩))) ?_
        | refine oT ?_
        | refine oN ?_
        | refine oX ?_
        | refine oXn ?_
        | refine oXr ?_
        | exact oF (finV_bool ..)
        | apply oK
        | refine lT ?_
        | refine lN ?_
        | refine lX ?_
        | refine lXn ?_
        | refine lXr ?_
        | apply lK
        | refine oI ?_
        | refine oJ rfl ?_
        | refine lI ?_
        | refine lJ rfl ?_
        | (with_reducible exact rfl)
      rfl

theorem SameBytes_spec (G : Globs) (k : Nat) (p q : Bool) (a b : List Nat) (hla : a.length ≤ 1000000) (hlb : b.length ≤ 1000000) (hk : a.length < k) :
    alembicref_SameBytes.f G (k + 1) [.ro p (bytesV a), .ro q (bytesV b)] [] = some (.bool (decide (a = b)), []) := by
  have c0 : lenSl (.ro p (bytesV a)) = some (Nn a.length) := by simp [lenSl, bytesV_len]
  have c1 : lenSl (.ro q (bytesV b)) = some (Nn b.length) := by simp [lenSl, bytesV_len]
  rw [alembicref_SameBytes.step]
  unfold alembicref_SameBytes.c
  by_cases h : a.length = b.length
  · have c2 : bin Tryd.prog .neq 3 false (Nn a.length) (Nn b.length) = some (.bool false) := by rw [bin_neq, h]; simp
    obtain ⟨z, hl⟩ := SameBytes_loop G k (alembicref_SameBytes.f G k) p q a b hla a b [] k rfl rfl h hk
    by_cases hab : a = b
    · rw [if_pos hab] at hl
      rw [decide_eq_true hab]
      repeat first
        | refine oB (by first | (with_reducible exact rfl) | (simp only [pu_val, nth_zero, nth_succ, gd_tt, gd_ff, gd_tf, gd_ft, gd_no, pickA_true, pickA_false, un_not, c0, c1, c2]; first | done | (with_reducible exact rfl) | (with_reducible exact ⟨rfl, rfl⟩))) ?_
        | refine lB (by first | (with_reducible exact rfl) | (simp only [pu_val, nth_zero, nth_succ, gd_tt, gd_ff, gd_tf, gd_ft, gd_no, pickA_true, pickA_false, un_not, c0, c1, c2]; first | done | (with_reducible exact rfl) | (with_reducible exact ⟨rfl, rfl⟩))) ?_
        | refine oT ?_
        | refine oN ?_
        | refine oX ?_
        | refine oXn ?_
        | refine oXr ?_
        | exact oF (finV_bool ..)
        | apply oK
        | refine lT ?_
        | refine lN ?_
        | refine lX ?_
        | refine lXn ?_
        | refine lXr ?_
        | apply lK
        | refine oI ?_
        | refine oJ rfl ?_
        | refine lI ?_
        | refine lJ rfl ?_
        | (with_reducible exact rfl)
      exact hl
      repeat first
        | refine oB (by first | (with_reducible exact rfl) | (simp only [pu_val, nth_zero, nth_succ, gd_tt, gd_ff, gd_tf, gd_ft, gd_no, pickA_true, pickA_false, un_not]; first | done | (with_reducible exact rfl) | (with_reducible exact ⟨rfl, rfl⟩))) ?_
        | refine lB (by first | (with_reducible exact rfl) | (simp only [pu_val, nth_zero, nth_succ, gd_tt, gd_ff, gd_tf, gd_ft, gd_no, pickA_true, pickA_false, un_not]; first | done | (with_reducible exact rfl) | (with_reducible exact ⟨rfl, rfl⟩))) ?_
        | refine oT ?_
        | refine oN ?_
        | refine oX ?_
        | refine oXn ?_
        | refine oXr ?_
        | exact oF (finV_bool ..)
        | apply oK
        | refine lT ?_
        | refine lN ?_
        | refine lX ?_
        | refine lXn ?_
        | refine lXr ?_
        | apply lK
        | refine oI ?_
        | refine oJ rfl ?_
        | refine lI ?_
        | refine lJ rfl ?_
        | (with_reducible exact rfl)
    · rw [if_neg hab] at hl
      rw [decide_eq_false hab]
      repeat first
        | refine oB (by first | (with_reducible exact rfl) | (simp only [pu_val, nth_zero, nth_succ, gd_tt, gd_ff, gd_tf, gd_ft, gd_no, pickA_true, pickA_false, un_not, c0, c1, c2]; first | done | (with_reducible exact rfl) | (with_reducible exact ⟨rfl, rfl⟩))) ?_
        | refine lB (by first | (with_reducible exact rfl) | (simp only [pu_val, nth_zero, nth_succ, gd_tt, gd_ff, gd_tf, gd_ft, gd_no, pickA_true, pickA_false, un_not, c0, c1, c2]; first | done | (with_reducible exact rfl) | (with_reducible exact ⟨rfl, rfl⟩))) ?_
        | refine oT ?_
        | refine oN ?_
        | refine oX ?_
        | refine oXn ?_
        | refine oXr ?_
        | exact oF (finV_bool ..)
        | apply oK
        | refine lT ?_
        | refine lN ?_
        | refine lX ?_
        | refine lXn ?_
        | refine lXr ?_
        | apply lK
        | refine oI ?_
        | refine oJ rfl ?_
        | refine lI ?_
        | refine lJ rfl ?_
        | (with_reducible exact rfl)
      exact hl
      repeat first
        | refine oB (by first | (with_reducible exact rfl) | (simp only [pu_val, nth_zero, nth_succ, gd_tt, gd_ff, gd_tf, gd_ft, gd_no, pickA_true, pickA_false, un_not]; first | done | (with_reducible exact rfl) | (with_reducible exact ⟨rfl, rfl⟩))) ?_
        | refine lB (by first | (with_reducible exact rfl) | (simp only [pu_val, nth_zero, nth_succ, gd_tt, gd_ff, gd_tf, gd_ft, gd_no, pickA_true, pickA_false, un_not]; first | done | (with_reducible exact rfl) | (with_reducible exact ⟨rfl, rfl⟩))) ?_
        | refine oT ?_
        | refine oN ?_
        | refine oX ?_
        | refine oXn ?_
        | refine oXr ?_
        | exact oF (finV_bool ..)
        | apply oK
        | refine lT ?_
        | refine lN ?_
        | refine lX ?_
        | refine lXn ?_
        | refine lXr ?_
        | apply lK
        | refine oI ?_
        | refine oJ rfl ?_
        | refine lI ?_
        | refine lJ rfl ?_
        | (with_reducible exact rfl)
  · have c2 : bin Tryd.prog .neq 3 false (Nn a.length) (Nn b.length) = some (.bool true) := by rw [bin_neq, decide_eq_true (by omega)]
    have : ¬ a = b := fun e => h (by rw [e])
    rw [decide_eq_false this]
    repeat first
      | refine oB (by first | (with_reducible exact rfl) | (simp only [pu_val, nth_zero, nth_succ, gd_tt, gd_ff, gd_tf, gd_ft, gd_no, pickA_true, pickA_false, un_not, c0, c1, c2]; first | done | (with_reducible exact rfl) | (with_reducible exact ⟨rfl, rfl⟩))) ?_
      | refine lB (by first | (with_reducible exact rfl) | (simp only [pu_val, nth_zero, nth_succ, gd_tt, gd_ff, gd_tf, gd_ft, gd_no, pickA_true, pickA_false, un_not, c0, c1, c2]; first | done | (with_reducible exact rfl) | (with_reducible exact ⟨rfl, rfl⟩))) ?_
      | refine oT ?_
      | refine oN ?_
      | refine oX ?_
      | refine oXn ?_
      | refine oXr ?_
      | exact oF (finV_bool ..)
      | apply oK
      | refine lT ?_
      | refine lN ?_
      | refine lX ?_
      | refine lXn ?_
      | refine lXr ?_
      | apply lK
      | refine oI ?_
      | refine oJ rfl ?_
      | refine lI ?_
      | refine lJ rfl ?_
      | (with_reducible exact rfl)

end Go.Proofs.YtemkaggjbhpbbaaDoor.Mir
