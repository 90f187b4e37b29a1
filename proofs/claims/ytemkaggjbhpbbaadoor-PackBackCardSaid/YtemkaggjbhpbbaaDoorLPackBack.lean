/- The law of PackBack, in plain Lean. -/
import Derived.Test.YtemkaggjbhpbbaaDoorMirY
import Derived.Test.YtemkaggjbhpbbaaDoorPe
namespace Go.Proofs.YtemkaggjbhpbbaaDoor
open Go Mir
set_option linter.unusedVariables false
set_option linter.unusedSimpArgs false

theorem of_bytes {x : AV} {t e : TypeId} (hu : Tryd.prog.underlying t = some (.slice e)) (he : Tryd.prog.underlying e = some (.int .u8)) (h : IsT Tryd.prog t x) :
    ∃ l : List Nat, x = .ro false (bytesV l) ∧ (∀ n ∈ l, n < 256) := by
  obtain ⟨l, rfl, hw, hl⟩ := h.of_ints hu he
  refine ⟨l.map Int.toNat, ?_, ?_⟩
  · unfold bytesV
    rw [List.map_map]
    congr 1
    apply List.map_congr_left
    intro n hn
    obtain ⟨h1, h2⟩ := wf_u8 (hw n hn)
    simp only [Function.comp]
    rw [Int.toNat_of_nonneg h1]
  · intro n hn
    obtain ⟨z, hz, rfl⟩ := List.mem_map.1 hn
    have := wf_u8 (hw z hz)
    omega

theorem of_nums {x : AV} {t e : TypeId} (hu : Tryd.prog.underlying t = some (.slice e)) (he : Tryd.prog.underlying e = some (.int .i64)) (h : IsT Tryd.prog t x) :
    ∃ l : List Int, x = .ro false (intsV l) ∧ (∀ n ∈ l, (Lit.int .i64 n).wf = true) ∧ l.length ≤ maxLen := h.of_ints hu he

def q (d : Nat) (x : Int) : Nat := (x % ((2 ^ d : Nat) : Int)).toNat
theorem q_lt (d : Nat) (x : Int) : q d x < 2 ^ d := by
  have h := Nat.two_pow_pos d
  have h1 := Int.emod_lt_of_pos x (show (0 : Int) < ((2 ^ d : Nat) : Int) by omega)
  have h2 := Int.emod_nonneg x (show ((2 ^ d : Nat) : Int) ≠ 0 by omega)
  unfold q; omega
theorem q_eq (d : Nat) (x : Int) : (q d x : Int) = x % ((2 ^ d : Nat) : Int) := by
  have h := Nat.two_pow_pos d
  have h2 := Int.emod_nonneg x (show ((2 ^ d : Nat) : Int) ≠ 0 by omega)
  unfold q; omega

def stL (d : Nat) (a : List Int) (B : AV) (i : Nat) : List AV := [Nn d, .ro false (intsV a), B, .bool true, .sl 0 i 0 i 1, Nn i]
def hpL (d : Nat) (a : List Int) (i : Nat) : AHeap := [⟨3, 1, natsV ((a.take i).map (q d))⟩]

theorem l9_loop (G : Globs) (k : Nat) (self : Den) (d : Nat) (hd : 1 ≤ d ∧ d ≤ 24) (a : List Int) (ha : a.length ≤ 200) (hr : ∀ x ∈ a, -9223372036854775808 ≤ x ∧ x < 9223372036854775808) (B : AV) (hB : belowB 1 B = true) : ∀ (r i f : Nat), i + r = a.length / 8 * 8 → r < f →
    loopN (alembiclaw6_PackBack.l9 G (k + 1) 1 self) f (stL d a B i) (hpL d a i) = some (.exit 0, stL d a B (a.length / 8 * 8), hpL d a (a.length / 8 * 8))
  | _, _, 0, _, h => by omega
  | r, i, f + 1, hi, h => by
    have c1 : lenSl (.ro false (intsV a)) = some (Nn a.length) := by simp [lenSl, intsV_len]
    have c2 : bin Tryd.prog .quo 3 true (Nn a.length) (.int .i64 8) = some (Nn (a.length / 8)) := by
      have e : ((a.length : Int).tdiv 8) = ((a.length / 8 : Nat) : Int) := rfl
      rw [bin_quo _ _ _ _ _ _ (by decide), e, wrap_of_i64 (by omega) (by omega)]
    have c3 : bin Tryd.prog .mul 3 true (Nn (a.length / 8)) (.int .i64 8) = some (Nn (a.length / 8 * 8)) := by
      rw [bin_mul, wrap_of_i64 (by omega) (by omega)]; congr 2
    have hcut : cutH 1 (stL d a B i) (hpL d a i) = some (hpL d a i) := cutH_of (by simp [stL, belowL, belowB, intsV_below, hB]) (by simp [hpL, heapBelow, natsV_below]) rfl
    rw [loopN_succ, alembiclaw6_PackBack.l9]
    refine lC hcut ?_
    unfold stL
    cases r with
    | zero =>
      have c4 : bin Tryd.prog .lss 3 false (Nn i) (Nn (a.length / 8 * 8)) = some (.bool false) := by rw [bin_lss, decide_eq_false (by omega)]
      have hi' : i = a.length / 8 * 8 := by omega
      repeat first
        | refine oB (by first | (with_reducible exact rfl) | (simp only [pu_val, nth_zero, nth_succ, gd_tt, gd_ff, gd_tf, gd_ft, gd_no, pickA_true, pickA_false, un_not, c1, c2, c3, c4]; first | done | (with_reducible exact rfl) | (with_reducible exact ⟨rfl, rfl⟩))) ?_
        | refine lB (by first | (with_reducible exact rfl) | (simp only [pu_val, nth_zero, nth_succ, gd_tt, gd_ff, gd_tf, gd_ft, gd_no, pickA_true, pickA_false, un_not, c1, c2, c3, c4]; first | done | (with_reducible exact rfl) | (with_reducible exact ⟨rfl, rfl⟩))) ?_
        | refine oT ?_
        | refine oN ?_
        | refine oX ?_
        | refine oXn ?_
        | refine oXr ?_
        | exact oF (finV_bool ..)
        | apply oK
        | refine lT ?_
        | refine lN ?_
        | refine lX ?_
        | refine lXn ?_
        | refine lXr ?_
        | apply lK
        | refine oI ?_
        | refine oJ rfl ?_
        | refine lI ?_
        | refine lJ rfl ?_
        | (with_reducible exact rfl)
      rw [hi']; rfl
    | succ r =>
      have c4 : bin Tryd.prog .lss 3 false (Nn i) (Nn (a.length / 8 * 8)) = some (.bool true) := by rw [bin_lss, decide_eq_true (by omega)]
      have hil : i < a.length := by omega
      have c5 := idx_ints false a i a[i] (by simp)
      have c6 : convInt .u64 (Nn d) = some (.int .u64 (d : Int)) := by rw [convInt_int, wrap_of_u64 (by omega) (by omega)]
      have c7 : bin Tryd.prog .shl 3 true (.int .i64 1) (.int .u64 (d : Int)) = some (Nn (2 ^ d)) := by
        rw [bin_shl _ _ _ _ _ _ _ (Int.natCast_nonneg d), pow_i64 d (by omega)]
      have hpow : 2 ^ d ≤ 2 ^ 24 := Nat.pow_le_pow_right (by decide) hd.2
      have hpos := Nat.two_pow_pos d
      have hx := hr a[i] (by simp)
      have c8 : ∀ H, pureCall (alembicworld_Number.f G (k + 1)) [.int .i64 a[i], Nn (2 ^ d)] H = some (Nn (q d a[i]), H) := fun H => by
        have e : (Nn (q d a[i])) = .int .i64 (a[i] % ((2 ^ d : Nat) : Int)) := by rw [← q_eq]
        rw [e]; exact pureCall_of (number G k a[i] ((2 ^ d : Nat) : Int) (by omega) (by omega) hx.1 hx.2) rfl rfl
      have c9 : bin Tryd.prog .add 3 true (Nn i) (.int .i64 1) = some (Nn (i + 1)) := by
        rw [bin_add, wrap_of_i64 (by omega) (by omega)]; congr 2
      have c10 : appendV 3 1 (.sl 0 i 0 i 1) (.ro false [Nn (q d a[i])]) (hpL d a i) = some (.sl 0 (i + 1) 0 (i + 1) 1, hpL d a (i + 1)) := by
        have h1 := appendV_one (e := 3) (b := 0) (L := i) (bor := false) (y := Nn (q d a[i])) (H := hpL d a i) (xs := natsV ((a.take i).map (q d))) rfl (by simp [natsV_len]; omega) (by omega) rfl
        rw [h1, natsV_snoc]
        have e : (a.take i).map (q d) ++ [q d a[i]] = (a.take (i + 1)).map (q d) := by
          rw [List.take_add_one, List.map_append]; simp [hil]
        rw [e]; rfl
      repeat first
        | refine oB (by first | (with_reducible exact rfl) | (simp only [pu_val, nth_zero, nth_succ, gd_tt, gd_ff, gd_tf, gd_ft, gd_no, pickA_true, pickA_false, un_not, c1, c2, c3, c4, c5, c6, c7, c8, c9, c10, load_int, buildRo_int]; first | done | (with_reducible exact rfl) | (with_reducible exact ⟨rfl, rfl⟩))) ?_
        | refine lB (by first | (with_reducible exact rfl) | (simp only [pu_val, nth_zero, nth_succ, gd_tt, gd_ff, gd_tf, gd_ft, gd_no, pickA_true, pickA_false, un_not, c1, c2, c3, c4, c5, c6, c7, c8, c9, c10, load_int, buildRo_int]; first | done | (with_reducible exact rfl) | (with_reducible exact ⟨rfl, rfl⟩))) ?_
        | refine oT ?_
        | refine oN ?_
        | refine oX ?_
        | refine oXn ?_
        | refine oXr ?_
        | exact oF (finV_bool ..)
        | apply oK
        | refine lT ?_
        | refine lN ?_
        | refine lX ?_
        | refine lXn ?_
        | refine lXr ?_
        | apply lK
        | refine oI ?_
        | refine oJ rfl ?_
        | refine lI ?_
        | refine lJ rfl ?_
        | (with_reducible exact rfl)
      exact l9_loop G k self d hd a ha hr B hB r (i + 1) f (by omega) (by omega)

theorem stL_zero (d : Nat) (a : List Int) (B : AV) : stL d a B 0 = [Nn d, .ro false (intsV a), B, .bool true, .sl 0 0 0 0 1, .int .i64 0] := rfl
theorem hpL_zero (d : Nat) (a : List Int) : hpL d a 0 = [⟨3, 1, []⟩] := rfl

set_option maxRecDepth 100000 in
theorem LPackBack.law (xs : List AV) (h : IsTs Tryd.prog [3, 27, 28] xs) : ∃ k, alembiclaw6_PackBack.f (sentG 72 [0, 1]) k xs [] = some (.bool true, []) := by
  obtain ⟨x, _, rfl, hx, h⟩ := h.uncons
  obtain ⟨y, _, rfl, hy, h⟩ := h.uncons
  obtain ⟨z, _, rfl, hz, h⟩ := h.uncons
  obtain rfl := h.unnil
  obtain ⟨d0, rfl, hd0⟩ := hx.of_int Tryd.underlying3
  obtain ⟨a, rfl, ha, _⟩ := of_nums Tryd.underlying27 Tryd.underlying3 hy
  obtain ⟨b, rfl, hb⟩ := of_bytes Tryd.underlying28 Tryd.underlying5 hz
  have hd0' := wf_i64 hd0
  refine ⟨3001, ?_⟩
  generalize sentG 72 [0, 1] = G
  have rf : ∀ H, pureCall (alembiclaw6_first.f G 3000) [] H = _ := fun H => pureCall_of (H := H) (first_ok G 2970) rfl rfl
  have c1 : lenSl (.ro false (intsV a)) = some (Nn a.length) := by simp [lenSl, intsV_len]
  have c2 : lenSl (.ro false (bytesV b)) = some (Nn b.length) := by simp [lenSl, bytesV_len]
  have c3 : bin Tryd.prog .gtr 3 true (Nn a.length) (.int .i64 200) = some (.bool (decide (200 < a.length))) := by
    rw [bin_gtr]; congr 2; exact decide_eq_decide.2 (by omega)
  have c4 : bin Tryd.prog .gtr 3 true (Nn b.length) (.int .i64 300) = some (.bool (decide (300 < b.length))) := by
    rw [bin_gtr]; congr 2; exact decide_eq_decide.2 (by omega)
  rw [alembiclaw6_PackBack.step]
  unfold alembiclaw6_PackBack.c
  by_cases hla : 200 < a.length
  · simp only [decide_eq_true hla] at c3
    repeat first
      | refine oB (by first | (with_reducible exact rfl) | (simp only [pu_val, nth_zero, nth_succ, gd_tt, gd_ff, gd_tf, gd_ft, gd_no, pickA_true, pickA_false, un_not, rf, c1, c3, Bool.not_true]; first | done | (with_reducible exact rfl) | (with_reducible exact ⟨rfl, rfl⟩))) ?_
      | refine lB (by first | (with_reducible exact rfl) | (simp only [pu_val, nth_zero, nth_succ, gd_tt, gd_ff, gd_tf, gd_ft, gd_no, pickA_true, pickA_false, un_not, rf, c1, c3, Bool.not_true]; first | done | (with_reducible exact rfl) | (with_reducible exact ⟨rfl, rfl⟩))) ?_
      | refine oT ?_
      | refine oN ?_
      | refine oX ?_
      | refine oXn ?_
      | refine oXr ?_
      | exact oF (finV_bool ..)
      | apply oK
      | refine lT ?_
      | refine lN ?_
      | refine lX ?_
      | refine lXn ?_
      | refine lXr ?_
      | apply lK
      | refine oI ?_
      | refine oJ rfl ?_
      | refine lI ?_
      | refine lJ rfl ?_
      | (with_reducible exact rfl)
  simp only [decide_eq_false hla] at c3
  by_cases hlb : 300 < b.length
  · simp only [decide_eq_true hlb] at c4
    repeat first
      | refine oB (by first | (with_reducible exact rfl) | (simp only [pu_val, nth_zero, nth_succ, gd_tt, gd_ff, gd_tf, gd_ft, gd_no, pickA_true, pickA_false, un_not, rf, c1, c2, c3, c4, Bool.not_true]; first | done | (with_reducible exact rfl) | (with_reducible exact ⟨rfl, rfl⟩))) ?_
      | refine lB (by first | (with_reducible exact rfl) | (simp only [pu_val, nth_zero, nth_succ, gd_tt, gd_ff, gd_tf, gd_ft, gd_no, pickA_true, pickA_false, un_not, rf, c1, c2, c3, c4, Bool.not_true]; first | done | (with_reducible exact rfl) | (with_reducible exact ⟨rfl, rfl⟩))) ?_
      | refine oT ?_
      | refine oN ?_
      | refine oX ?_
      | refine oXn ?_
      | refine oXr ?_
      | exact oF (finV_bool ..)
      | apply oK
      | refine lT ?_
      | refine lN ?_
      | refine lX ?_
      | refine lXn ?_
      | refine lXr ?_
      | apply lK
      | refine oI ?_
      | refine oJ rfl ?_
      | refine lI ?_
      | refine lJ rfl ?_
      | (with_reducible exact rfl)
  simp only [decide_eq_false hlb] at c4
  obtain ⟨d, hd, hdd⟩ : ∃ d : Nat, (1 ≤ d ∧ d ≤ 24) ∧ (d0 % 24 + 1 = (d : Int)) := ⟨(d0 % 24 + 1).toNat, by omega, by omega⟩
  have c5 : ∀ H, pureCall (alembicworld_Number.f G 3000) [.int .i64 d0, .int .i64 24] H = some (.int .i64 (d0 % 24), H) := fun H =>
    pureCall_of (number G 2999 d0 24 (by decide) (by decide) hd0'.1 hd0'.2) rfl rfl
  have c6 : bin Tryd.prog .add 3 true (.int .i64 (d0 % 24)) (.int .i64 1) = some (Nn d) := by
    rw [bin_add, wrap_of_i64 (by omega) (by omega), hdd]
  obtain ⟨m, hm⟩ : ∃ m, m = a.length / 8 := ⟨_, rfl⟩
  have hm' : a.length / 8 * 8 = 8 * m := by omega
  have hl9 := l9_loop G 2999 (alembiclaw6_PackBack.f G 3000) d hd a (by omega) (fun x hx => wf_i64 (ha x hx)) (.ro false (bytesV b)) (bytesV_below 1 b) (a.length / 8 * 8) 0 3000 (by omega) (by omega)
  rw [stL_zero, hpL_zero, hm'] at hl9
  -- the numbers
  obtain ⟨ls, hls⟩ : ∃ ls, ls = (a.take (8 * m)).map (q d) := ⟨_, rfl⟩
  have hll : ls.length = 8 * m := by rw [hls]; simp; omega
  have hlt : ∀ x ∈ ls, x < 2 ^ d := fun x hx => by
    rw [hls] at hx; obtain ⟨w, _, rfl⟩ := List.mem_map.1 hx; exact q_lt d w
  have hst : stL d a (.ro false (bytesV b)) (8 * m) = [Nn d, .ro false (intsV a), .ro false (bytesV b), .bool true, .sl 0 (8 * m) 0 (8 * m) 1, Nn (8 * m)] := rfl
  have hhp : hpL d a (8 * m) = [⟨3, 1, natsV ls⟩] := by rw [hls]; rfl
  rw [hst, hhp] at hl9
  have hsl : ∀ (n : Nat), n = 8 * m → snap [⟨3, 1, natsV ls⟩] (.sl 0 n 0 n 1) = some (.ro true (natsV ls)) := fun n hn =>
    snap_sl (e := 3) rfl (by rw [natsV_len, hll, hn]) nats_of
  -- bits of numbers
  have bits : ∀ (p : Bool) (l : List Nat) (n : Nat), l.length = 8 * n → 8 * n ≤ 2400 → (∀ x ∈ l, x < 2 ^ d) → pack_Bits.f G 3000 [Nn d, .ro p (natsV l)] [] = some (.tup [.ro false (bytesV (digs 256 (d * n) (val (2 ^ d) l))), .nili], []) := fun p l n hl hn hx => by
    have hlen : (l.map fun (x : Nat) => (x : Int)).length = 8 * n := by simp [hl]
    have h1 := bits_ok G 2999 d hd p (l.map fun (x : Nat) => (x : Int)) (by omega) (by omega) (by rw [hlen]; simp) (fun x hx' => by
      obtain ⟨w, hw, rfl⟩ := List.mem_map.1 hx'
      have := hx w hw; omega)
    rw [← nats_ints] at h1
    have e1 : Lb d (l.map fun (x : Nat) => (x : Int)) = d * n := by
      unfold Lb; rw [hlen, Nat.mul_left_comm, Nat.mul_div_cancel_left _ (by decide)]
    have e2 : Vb d (l.map fun (x : Nat) => (x : Int)) = val (2 ^ d) l := by
      unfold Vb; rw [List.map_map]; congr 1
      exact (List.map_congr_left (fun x _ => by simp)).trans (List.map_id l)
    rw [e1, e2] at h1
    exact h1
  have hdm : d * m ≤ 24 * 25 := Nat.mul_le_mul hd.2 (by omega)
  have b1 : ∀ H, snapL H [Nn d, .sl 0 (8 * m) 0 (8 * m) 1] = some [Nn d, .ro true (natsV ls)] → pureCall (pack_Bits.f G 3000) [Nn d, .sl 0 (8 * m) 0 (8 * m) 1] H = some (.tup [.ro false (bytesV (digs 256 (d * m) (val (2 ^ d) ls))), .nili], H) := fun H hs =>
    pureCall_as hs (bits true ls m hll (by omega) hlt) (by simp [cleanB, cleanL, clean_ints bytes_of])
  have b1' := b1 [⟨3, 1, natsV ls⟩] (snapL_cons snap_int (snapL_cons (hsl _ rfl) snapL_nil))
  have c7 : lenSl (.sl 0 (8 * m) 0 (8 * m) 1) = some (Nn (8 * m)) := rfl
  have o1 : ∀ H, pureCall (pack_Open.f G 3000) [Nn d, Nn (8 * m), .ro false (bytesV (digs 256 (d * m) (val (2 ^ d) ls)))] H = some (.tup [.ro false (natsV ls), .nili], H) := fun H => by
    have h1 := open_ok G 2999 d (8 * m) hd (by omega) false (digs 256 (d * m) (val (2 ^ d) ls)) (by rw [digs_length]; omega) (by rw [Nat.mul_left_comm]; simp) (by rw [digs_length, Nat.mul_left_comm, Nat.mul_div_cancel_left _ (by decide)]) (digs_lt 256 (by decide) _ _)
    rw [digs_back d (8 * m) (d * m) (by rw [Nat.mul_left_comm]) ls hll hlt] at h1
    exact pureCall_of h1 (by simp [plainL, plainB, plain_ints bytes_of]) (by simp [cleanB, cleanL, clean_ints nats_of])
  have n1 : bin Tryd.prog .neq 30 true .nili .nili = some (.bool false) := by kernel_rfl
  have n2 : bin Tryd.prog .eql 30 true .nili .nili = some (.bool true) := by kernel_rfl
  have c8 : lenSl (.ro false (bytesV (digs 256 (d * m) (val (2 ^ d) ls)))) = some (Nn (d * m)) := by simp [lenSl, bytesV_len, digs_length]
  have c9 : bin Tryd.prog .mul 3 false (Nn d) (Nn (8 * m)) = some (Nn (8 * (d * m))) := by
    rw [bin_mul, ← Int.natCast_mul, Nat.mul_left_comm, wrap_of_i64 (by omega) (by omega)]
  have c10 : bin Tryd.prog .quo 3 true (Nn (8 * (d * m))) (.int .i64 8) = some (Nn (d * m)) := by
    have e : (((8 * (d * m) : Nat) : Int).tdiv 8) = ((8 * (d * m) / 8 : Nat) : Int) := rfl
    rw [bin_quo _ _ _ _ _ _ (by decide), e, Nat.mul_div_cancel_left _ (by decide), wrap_of_i64 (by omega) (by omega)]
  have c11 : bin Tryd.prog .neq 3 false (Nn (d * m)) (Nn (d * m)) = some (.bool false) := by rw [bin_neq]; simp
  have s1 : pureCall (alembicref_SameInts.f G 3000) [.ro false (natsV ls), .sl 0 (8 * m) 0 (8 * m) 1] [⟨3, 1, natsV ls⟩] = some (.bool true, [⟨3, 1, natsV ls⟩]) := by
    refine pureCall_as (snapL_cons (snap_ro nats_of) (snapL_cons (hsl _ rfl) snapL_nil)) ?_ rfl
    have := SameInts_spec G 2999 false true (ls.map fun (x : Nat) => (x : Int)) (ls.map fun (x : Nat) => (x : Int)) (by simp; omega) (by simp; omega) (by simp; omega)
    rw [← nats_ints] at this
    rw [this]; simp
  -- bytes
  obtain ⟨n, hn⟩ : ∃ n, n = b.length / d := ⟨_, rfl⟩
  have hnb : n ≤ b.length := by rw [hn]; exact Nat.div_le_self _ _
  have hdn : d * n ≤ b.length := by rw [hn]; exact Nat.mul_div_le _ _
  have c12 : bin Tryd.prog .quo 3 false (Nn b.length) (Nn d) = some (Nn n) := by
    have e : ((b.length : Int).tdiv (d : Int)) = ((b.length / d : Nat) : Int) := rfl
    rw [bin_quo _ _ _ _ _ _ (by omega), e, ← hn, wrap_of_i64 (by omega) (by omega)]
  have c13 : bin Tryd.prog .mul 3 true (Nn n) (.int .i64 8) = some (Nn (8 * n)) := by
    rw [bin_mul, wrap_of_i64 (by omega) (by omega)]; congr 2; omega
  have c14 : bin Tryd.prog .mul 3 false (Nn (8 * n)) (Nn d) = some (Nn (8 * (d * n))) := by
    rw [bin_mul, ← Int.natCast_mul, Nat.mul_assoc, Nat.mul_comm n, wrap_of_i64 (by omega) (by omega)]
  have c15 : bin Tryd.prog .quo 3 true (Nn (8 * (d * n))) (.int .i64 8) = some (Nn (d * n)) := by
    have e : (((8 * (d * n) : Nat) : Int).tdiv 8) = ((8 * (d * n) / 8 : Nat) : Int) := rfl
    rw [bin_quo _ _ _ _ _ _ (by decide), e, Nat.mul_div_cancel_left _ (by decide), wrap_of_i64 (by omega) (by omega)]
  obtain ⟨c, hc⟩ : ∃ c, c = b.take (d * n) := ⟨_, rfl⟩
  have hcl : c.length = d * n := by rw [hc, List.length_take]; omega
  have hcb : ∀ x ∈ c, x < 256 := fun x hx => hb x (by rw [hc] at hx; exact List.mem_of_mem_take hx)
  have c16 : sliceSl 1 (.ro false (bytesV b)) none (some (Nn (d * n))) = some (.ro false (bytesV c)) := by
    have e : bytesV c = (bytesV b).take (d * n) := by rw [hc]; simp [bytesV]
    have h0 : ((0 : Int) ≤ ((d * n : Nat) : Int)) := by omega
    have h1 : (((d * n : Nat) : Int)).toNat = d * n := by omega
    simp only [sliceSl, boundA, h0, h1, if_true]
    rw [if_pos ⟨Nat.zero_le _, by rw [bytesV_len]; exact hdn, allSz_ints bytes_of⟩, e]
    rfl
  obtain ⟨ps, hps⟩ : ∃ ps, ps = digs (2 ^ d) (8 * n) (val 256 c) := ⟨_, rfl⟩
  have hpl : ps.length = 8 * n := by rw [hps, digs_length]
  have o2 : ∀ H, pureCall (pack_Open.f G 3000) [Nn d, Nn (8 * n), .ro false (bytesV c)] H = some (.tup [.ro false (natsV ps), .nili], H) := fun H => by
    have h1 := open_ok G 2999 d (8 * n) hd (by omega) false c (by omega) (by rw [Nat.mul_left_comm]; simp) (by rw [hcl, Nat.mul_left_comm, Nat.mul_div_cancel_left _ (by decide)]) hcb
    rw [← hps] at h1
    exact pureCall_of h1 (by simp [plainL, plainB, plain_ints bytes_of]) (by simp [cleanB, cleanL, clean_ints nats_of])
  have b2 : ∀ H, pureCall (pack_Bits.f G 3000) [Nn d, .ro false (natsV ps)] H = some (.tup [.ro false (bytesV c), .nili], H) := fun H => by
    have h1 := bits false ps n hpl (by omega) (by rw [hps]; exact digs_lt _ (Nat.two_pow_pos d) _ _)
    rw [hps, digs_back' d (8 * n) (d * n) (by rw [Nat.mul_left_comm]) c hcl hcb, ← hps] at h1
    exact pureCall_of h1 (by simp [plainL, plainB, plain_ints nats_of]) (by simp [cleanB, cleanL, clean_ints bytes_of])
  have s2 : ∀ H, pureCall (alembicref_SameBytes.f G 3000) [.ro false (bytesV c), .ro false (bytesV c)] H = some (.bool true, H) := fun H => by
    have := SameBytes_spec G 2999 false false c c (by omega) (by omega) (by omega)
    simp only [decide_true] at this
    exact pureCall_of this (by simp [plainL, plainB, plain_ints bytes_of]) rfl
  have ex0 : ∀ x y : AV, extractA (.tup [x, y]) 0 = some x := fun _ _ => rfl
  have ex1 : ∀ x y : AV, extractA (.tup [x, y]) 1 = some y := fun _ _ => rfl
  repeat first
    | refine oB (by first | (with_reducible exact rfl) | (simp only [pu_val, nth_zero, nth_succ, gd_tt, gd_ff, gd_tf, gd_ft, gd_no, pickA_true, pickA_false, un_not, rf, c1, c2, c3, c4, c5, c6, Bool.not_true]; first | done | (with_reducible exact rfl) | (with_reducible exact ⟨rfl, rfl⟩))) ?_
    | refine lB (by first | (with_reducible exact rfl) | (simp only [pu_val, nth_zero, nth_succ, gd_tt, gd_ff, gd_tf, gd_ft, gd_no, pickA_true, pickA_false, un_not, rf, c1, c2, c3, c4, c5, c6, Bool.not_true]; first | done | (with_reducible exact rfl) | (with_reducible exact ⟨rfl, rfl⟩))) ?_
    | refine oT ?_
    | refine oN ?_
    | refine oX ?_
    | refine oXn ?_
    | refine oXr ?_
    | exact oF (finV_bool ..)
    | apply oK
    | refine lT ?_
    | refine lN ?_
    | refine lX ?_
    | refine lXn ?_
    | refine lXr ?_
    | apply lK
    | refine oI ?_
    | refine oJ rfl ?_
    | refine lI ?_
    | refine lJ rfl ?_
    | (with_reducible exact rfl)
  exact hl9
  repeat first
    | refine oB (by first | (with_reducible exact rfl) | (simp only [pu_val, nth_zero, nth_succ, gd_tt, gd_ff, gd_tf, gd_ft, gd_no, pickA_true, pickA_false, un_not, b1', ex0, ex1, c7, o1, n1, n2, c8, c9, c10, c11, s1, c2, c12, c13, c14, c15, c16, o2, b2, s2, Bool.not_true]; first | done | (with_reducible exact rfl) | (with_reducible exact ⟨rfl, rfl⟩))) ?_
    | refine lB (by first | (with_reducible exact rfl) | (simp only [pu_val, nth_zero, nth_succ, gd_tt, gd_ff, gd_tf, gd_ft, gd_no, pickA_true, pickA_false, un_not, b1', ex0, ex1, c7, o1, n1, n2, c8, c9, c10, c11, s1, c2, c12, c13, c14, c15, c16, o2, b2, s2, Bool.not_true]; first | done | (with_reducible exact rfl) | (with_reducible exact ⟨rfl, rfl⟩))) ?_
    | refine oT ?_
    | refine oN ?_
    | refine oX ?_
    | refine oXn ?_
    | refine oXr ?_
    | exact oF (finV_bool ..)
    | apply oK
    | refine lT ?_
    | refine lN ?_
    | refine lX ?_
    | refine lXn ?_
    | refine lXr ?_
    | apply lK
    | refine oI ?_
    | refine oJ rfl ?_
    | refine lI ?_
    | refine lJ rfl ?_
    | (with_reducible exact rfl)
end Go.Proofs.YtemkaggjbhpbbaaDoor
