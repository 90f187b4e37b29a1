/- What pack.Open gives. -/
import Derived.Test.YtemkaggjbhpbbaaDoorSc
namespace Go.Proofs.YtemkaggjbhpbbaaDoor.Mir
open Go
set_option linter.unusedVariables false
set_option linter.unusedSimpArgs false

theorem u64_i64 (r : Nat) (h : r < 9223372036854775808) : convInt .i64 (.int .u64 (r : Int)) = some (Nn r) := by
  rw [convInt_int, wrap_of_i64 (by omega) (by omega)]
theorem shr_u64 (c : Bool) (r d : Nat) (h : d ≤ 64) : bin Tryd.prog .shr 51 c (.int .u64 (r : Int)) (Nn d) = some (.int .u64 ((r / 2 ^ d : Nat) : Int)) := by
  rw [bin_shr _ _ _ _ _ _ _ (Int.natCast_nonneg d)]
  have e : min ((d : Int)).toNat IntKind.u64.bits = d := by rw [Int.toNat_natCast]; exact Nat.min_eq_left h
  rw [e, fdiv_pow_nat]

theorem l12_loop (G : Globs) (k : Nat) (self : Den) (d : Nat) (hd : 1 ≤ d ∧ d ≤ 24) (A B C : AV) (hA : belowB 2 A = true) (hB : belowB 2 B = true) (hC : belowB 2 C = true) : ∀ (f n r : Nat) (out : List Nat), n / d < f → n < 100 → r < 2 ^ 62 → out.length + n ≤ 1099511627776 →
    loopN (pack_Open.l12 G k 2 self) f [Nn d, .sl 1 out.length 0 out.length 1, .int .u64 (r : Int), Nn n, A, B, C] [⟨3, 1, []⟩, ⟨3, 1, natsV out⟩] =
      some (.exit 3, [Nn d, .sl 1 (out.length + n / d) 0 (out.length + n / d) 1, .int .u64 ((r / (2 ^ d) ^ (n / d) : Nat) : Int), Nn (n % d), A, B, C], [⟨3, 1, []⟩, ⟨3, 1, natsV (out ++ digs (2 ^ d) (n / d) r)⟩])
  | 0, n, r, out, h, _, _, _ => by exact absurd h (Nat.not_lt_zero _)
  | f + 1, n, r, out, h, hn, hr, ho => by
    rw [loopN_succ, pack_Open.l12]
    refine lC (cutH_of (by simp [belowL, belowB, hA, hB, hC]) (by simp [heapBelow, belowL, natsV_below]) rfl) ?_
    by_cases h8 : d ≤ n
    · have hpow : 2 ^ d ≤ 2 ^ 24 := Nat.pow_le_pow_right (by decide) hd.2
      have hpos := Nat.two_pow_pos d
      have c1 : bin Tryd.prog .geq 3 false (Nn n) (Nn d) = some (.bool true) := by
        rw [bin_geq]; congr 2; exact decide_eq_true (by omega)
      have c2 : bin Tryd.prog .shl 51 true (.int .u64 1) (Nn d) = some (.int .u64 ((2 ^ d : Nat) : Int)) := by
        have := shl_u64 true 1 d 0 (by omega) (by omega)
        rw [Nat.one_mul] at this; exact this
      have c3 : bin Tryd.prog .sub 51 true (.int .u64 ((2 ^ d : Nat) : Int)) (.int .u64 1) = some (.int .u64 ((2 ^ d - 1 : Nat) : Int)) := by
        rw [bin_sub, wrap_of_u64 (by omega) (by omega)]; congr 2; omega
      have c4 : bin Tryd.prog .and 51 false (.int .u64 (r : Int)) (.int .u64 ((2 ^ d - 1 : Nat) : Int)) = some (.int .u64 ((r % 2 ^ d : Nat) : Int)) := by
        rw [bin_and, u64_and_nat _ _ (by omega) (by omega), Nat.and_two_pow_sub_one_eq_mod]
      have hlt : r % 2 ^ d < 2 ^ d := Nat.mod_lt _ hpos
      have c5 := u64_i64 (r % 2 ^ d) (by omega)
      have c6 := shr_u64 false r d (by omega)
      have c7 : bin Tryd.prog .sub 3 false (Nn n) (Nn d) = some (Nn (n - d)) := by
        rw [bin_sub, wrap_of_i64 (by omega) (by omega)]; congr 2; omega
      have c8 := appendV_one (e := 3) (b := 1) (bor := false) (y := Nn (r % 2 ^ d)) (H := [⟨3, 1, []⟩, ⟨3, 1, natsV out⟩]) (xs := natsV out) rfl (natsV_len out) (by omega) rfl
      repeat first
        | refine oB (by first | (with_reducible exact rfl) | (simp only [pu_val, nth_zero, nth_succ, gd_tt, gd_ff, gd_tf, gd_ft, gd_no, pickA_true, pickA_false, un_not, c1, c2, c3, c4, c5, c6, c7, c8, buildRo_int]; first | done | (with_reducible exact rfl) | (with_reducible exact ⟨rfl, rfl⟩))) ?_
        | refine lB (by first | (with_reducible exact rfl) | (simp only [pu_val, nth_zero, nth_succ, gd_tt, gd_ff, gd_tf, gd_ft, gd_no, pickA_true, pickA_false, un_not, c1, c2, c3, c4, c5, c6, c7, c8, buildRo_int]; first | done | (with_reducible exact rfl) | (with_reducible exact ⟨rfl, rfl⟩))) ?_
        | refine oT ?_
        | refine oN ?_
        | refine oX ?_
        | refine oXn ?_
        | refine oXr ?_
        | exact oF (finV_bool ..)
        | apply oK
        | refine lT ?_
        | refine lN ?_
        | refine lX ?_
        | refine lXn ?_
        | refine lXr ?_
        | apply lK
        | refine oI ?_
        | refine oJ rfl ?_
        | refine lI ?_
        | refine lJ rfl ?_
        | (with_reducible exact rfl)
      have e : n / d = (n - d) / d + 1 := Nat.div_eq_sub_div (by omega) h8
      have e2 : n % d = (n - d) % d := Nat.mod_eq_sub_mod h8
      have hq : (n - d) / d < f := by rw [e] at h; exact Nat.lt_of_succ_lt_succ h
      have hr2 : r / 2 ^ d < 2 ^ 62 := Nat.lt_of_le_of_lt (Nat.div_le_self _ _) hr
      have ih := l12_loop G k self d hd A B C hA hB hC f (n - d) (r / 2 ^ d) (out ++ [r % 2 ^ d]) hq (by omega) hr2 (by simp; omega)
      rw [natsV_snoc]
      simp only [List.length_append, List.length_cons, List.length_nil] at ih
      refine ih.trans ?_
      rw [e, e2, Nat.add_assoc, Nat.add_comm (0 + 1), Nat.div_div_eq_div_mul, Nat.pow_succ, Nat.mul_comm (2 ^ d)]
      simp [digs]
    · have c1 : bin Tryd.prog .geq 3 false (Nn n) (Nn d) = some (.bool false) := by
        rw [bin_geq]; congr 2; exact decide_eq_false (by omega)
      repeat first
        | refine oB (by first | (with_reducible exact rfl) | (simp only [pu_val, nth_zero, nth_succ, gd_tt, gd_ff, gd_tf, gd_ft, gd_no, pickA_true, pickA_false, un_not, c1]; first | done | (with_reducible exact rfl) | (with_reducible exact ⟨rfl, rfl⟩))) ?_
        | refine lB (by first | (with_reducible exact rfl) | (simp only [pu_val, nth_zero, nth_succ, gd_tt, gd_ff, gd_tf, gd_ft, gd_no, pickA_true, pickA_false, un_not, c1]; first | done | (with_reducible exact rfl) | (with_reducible exact ⟨rfl, rfl⟩))) ?_
        | refine oT ?_
        | refine oN ?_
        | refine oX ?_
        | refine oXn ?_
        | refine oXr ?_
        | exact oF (finV_bool ..)
        | apply oK
        | refine lT ?_
        | refine lN ?_
        | refine lX ?_
        | refine lXn ?_
        | refine lXr ?_
        | apply lK
        | refine oI ?_
        | refine oJ rfl ?_
        | refine lI ?_
        | refine lJ rfl ?_
        | (with_reducible exact rfl)
      rw [Nat.div_eq_of_lt (by omega), Nat.mod_eq_of_lt (by omega)]
      simp [digs]

def Lo (d : Nat) (pre : List Nat) : Nat := 8 * pre.length / d
def stO (d : Nat) (bor : Bool) (all pre : List Nat) : List AV :=
  [Nn d, .sl 1 (Lo d pre) 0 (Lo d pre) 1, .int .u64 ((val 256 pre / (2 ^ d) ^ Lo d pre : Nat) : Int), Nn (8 * pre.length % d), .ro bor (bytesV all), Nn all.length, Nn pre.length]
def hpO (d : Nat) (pre : List Nat) : AHeap := [⟨3, 1, []⟩, ⟨3, 1, natsV (digs (2 ^ d) (Lo d pre) (val 256 pre))⟩]
theorem cutO {d : Nat} {bor : Bool} {all pre : List Nat} : cutH 2 (stO d bor all pre) (hpO d pre) = some (hpO d pre) :=
  cutH_of (by simp [stO, belowL, belowB, bytesV_below]) (by simp [hpO, heapBelow, belowL, natsV_below]) rfl

theorem o8_step (G : Globs) (k : Nat) (hk : 40 ≤ k) (self : Den) (d : Nat) (hd : 1 ≤ d ∧ d ≤ 24) (bor : Bool) (all pre suf : List Nat) (hall : all.length ≤ 1000000) (y : Nat) (ha : all = pre ++ y :: suf) (hy : y < 2 ^ 8) (hp : ∀ x ∈ pre, x < 256) (lp : LoopF) :
    pack_Open.l8 G k 2 self lp (stO d bor all pre) (hpO d pre) = lp (stO d bor all (pre ++ [y])) (hpO d (pre ++ [y])) := by
  have hlen : all.length = pre.length + suf.length + 1 := by rw [ha]; simp; omega
  have c1 : bin Tryd.prog .lss 3 false (Nn pre.length) (Nn all.length) = some (.bool true) := by
    rw [bin_lss]; congr 2; exact decide_eq_true (by omega)
  have c2 := idx_bytes bor all pre.length y (by rw [ha]; simp)
  have c7 : convInt .u64 (.int .u8 (y : Int)) = some (.int .u64 (y : Int)) := by rw [convInt_int, wrap_of_u64 (by omega) (by omega)]
  have hV : val 256 pre < 2 ^ (8 * pre.length) := by
    have := val_lt 256 pre hp
    rw [show (256 : Nat) = 2 ^ 8 from rfl, ← Nat.pow_mul] at this; exact this
  obtain ⟨g1, g2, g3, g4, g5, g6, g7⟩ := digs_next d (2 ^ d) 8 pre.length (val 256 pre) y (by omega) rfl hy hV
  have hn8 : 8 * pre.length % d < d := Nat.mod_lt _ (by omega)
  have h1 : 2 ^ (8 * pre.length % d) ≤ 2 ^ 24 := Nat.pow_le_pow_right (by decide) (by omega)
  have hsm : y * 2 ^ (8 * pre.length % d) < 2 ^ 8 * 2 ^ 24 :=
    calc y * 2 ^ (8 * pre.length % d) ≤ y * 2 ^ 24 := Nat.mul_le_mul_left _ h1
      _ < 2 ^ 8 * 2 ^ 24 := Nat.mul_lt_mul_of_pos_right hy (by decide)
  have g3' : val 256 pre / (2 ^ d) ^ Lo d pre < 2 ^ (8 * pre.length % d) := g3
  have hr : val 256 pre / (2 ^ d) ^ Lo d pre < 2 ^ 24 := Nat.lt_of_lt_of_le g3' h1
  have c8 := shl_u64 false y (8 * pre.length % d) 0 (by omega) (by omega)
  have c9 : bin Tryd.prog .or 51 false (.int .u64 ((val 256 pre / (2 ^ d) ^ Lo d pre : Nat) : Int)) (.int .u64 ((y * 2 ^ (8 * pre.length % d) : Nat) : Int)) = some (.int .u64 ((val 256 pre / (2 ^ d) ^ Lo d pre + y * 2 ^ (8 * pre.length % d) : Nat) : Int)) := by
    rw [bin_or, u64_or_nat _ _ (by omega) (by omega), or_shift _ _ _ g3']
  have c10 : bin Tryd.prog .add 3 true (Nn (8 * pre.length % d)) (.int .i64 8) = some (Nn (8 * pre.length % d + 8)) := by
    rw [bin_add, wrap_of_i64 (by omega) (by omega)]; congr 2
  have c11 : bin Tryd.prog .add 3 true (Nn pre.length) (.int .i64 1) = some (Nn (pre.length + 1)) := by
    rw [bin_add, wrap_of_i64 (by omega) (by omega)]; congr 2
  have hLo : Lo d pre ≤ 8 * pre.length := Nat.div_le_self _ _
  have hq : (8 * pre.length % d + 8) / d ≤ 8 * pre.length % d + 8 := Nat.div_le_self _ _
  have hlp := l12_loop G k self d hd (.ro bor (bytesV all)) (Nn all.length) (Nn pre.length) (bytesV_below 2 all) rfl rfl k (8 * pre.length % d + 8) (val 256 pre / (2 ^ d) ^ Lo d pre + y * 2 ^ (8 * pre.length % d)) (digs (2 ^ d) (Lo d pre) (val 256 pre)) (Nat.lt_of_le_of_lt hq (by omega)) (by omega) (by omega) (by rw [digs_length]; omega)
  rw [digs_length] at hlp
  have e1 : Lo d (pre ++ [y]) = Lo d pre + (8 * pre.length % d + 8) / d := by unfold Lo; rw [List.length_append]; exact g1
  have e2 : val 256 (pre ++ [y]) = val 256 pre + 2 ^ (8 * pre.length) * y := by
    rw [val_snoc, show (256 : Nat) = 2 ^ 8 from rfl, ← Nat.pow_mul]
  have e3 : 8 * (pre ++ [y]).length % d = (8 * pre.length % d + 8) % d := by rw [List.length_append]; exact g2
  have e4 : hpO d (pre ++ [y]) = [⟨3, 1, []⟩, ⟨3, 1, natsV (digs (2 ^ d) (Lo d pre) (val 256 pre) ++ digs (2 ^ d) ((8 * pre.length % d + 8) / d) (val 256 pre / (2 ^ d) ^ Lo d pre + y * 2 ^ (8 * pre.length % d)))⟩] := by
    unfold hpO; rw [e2]; unfold Lo; rw [List.length_append]; exact congrArg (fun l => [(⟨3, 1, []⟩ : ABlk), ⟨3, 1, natsV l⟩]) g6
  have e5 : val 256 (pre ++ [y]) / (2 ^ d) ^ Lo d (pre ++ [y]) = (val 256 pre / (2 ^ d) ^ Lo d pre + y * 2 ^ (8 * pre.length % d)) / (2 ^ d) ^ ((8 * pre.length % d + 8) / d) := by
    rw [e2]; unfold Lo; rw [List.length_append]; exact g7
  have e6 : stO d bor all (pre ++ [y]) = [Nn d, .sl 1 (Lo d pre + (8 * pre.length % d + 8) / d) 0 (Lo d pre + (8 * pre.length % d + 8) / d) 1, .int .u64 (((val 256 pre / (2 ^ d) ^ Lo d pre + y * 2 ^ (8 * pre.length % d)) / (2 ^ d) ^ ((8 * pre.length % d + 8) / d) : Nat) : Int), Nn ((8 * pre.length % d + 8) % d), .ro bor (bytesV all), Nn all.length, Nn (pre.length + 1)] := by
    unfold stO; rw [e5, e3, e1, List.length_append]; rfl
  rw [e6, e4]
  rw [pack_Open.l8]
  refine lC cutO ?_
  unfold stO
  repeat first
    | refine oB (by first | (with_reducible exact rfl) | (simp only [pu_val, nth_zero, nth_succ, gd_tt, gd_ff, gd_tf, gd_ft, gd_no, pickA_true, pickA_false, un_not, c1, c2, c7, c8, c9, c10, load_int]; first | done | (with_reducible exact rfl) | (with_reducible exact ⟨rfl, rfl⟩))) ?_
    | refine lB (by first | (with_reducible exact rfl) | (simp only [pu_val, nth_zero, nth_succ, gd_tt, gd_ff, gd_tf, gd_ft, gd_no, pickA_true, pickA_false, un_not, c1, c2, c7, c8, c9, c10, load_int]; first | done | (with_reducible exact rfl) | (with_reducible exact ⟨rfl, rfl⟩))) ?_
    | refine oT ?_
    | refine oN ?_
    | refine oX ?_
    | refine oXn ?_
    | refine oXr ?_
    | exact oF (finV_bool ..)
    | apply oK
    | refine lT ?_
    | refine lN ?_
    | refine lX ?_
    | refine lXn ?_
    | refine lXr ?_
    | apply lK
    | refine oI ?_
    | refine oJ rfl ?_
    | refine lI ?_
    | refine lJ rfl ?_
    | (with_reducible exact rfl)
  exact hlp
  repeat first
    | refine oB (by first | (with_reducible exact rfl) | (simp only [pu_val, nth_zero, nth_succ, gd_tt, gd_ff, gd_tf, gd_ft, gd_no, pickA_true, pickA_false, un_not, c11]; first | done | (with_reducible exact rfl) | (with_reducible exact ⟨rfl, rfl⟩))) ?_
    | refine lB (by first | (with_reducible exact rfl) | (simp only [pu_val, nth_zero, nth_succ, gd_tt, gd_ff, gd_tf, gd_ft, gd_no, pickA_true, pickA_false, un_not, c11]; first | done | (with_reducible exact rfl) | (with_reducible exact ⟨rfl, rfl⟩))) ?_
    | refine oT ?_
    | refine oN ?_
    | refine oX ?_
    | refine oXn ?_
    | refine oXr ?_
    | exact oF (finV_bool ..)
    | apply oK
    | refine lT ?_
    | refine lN ?_
    | refine lX ?_
    | refine lXn ?_
    | refine lXr ?_
    | apply lK
    | refine oI ?_
    | refine oJ rfl ?_
    | refine lI ?_
    | refine lJ rfl ?_
    | (with_reducible exact rfl)
  rfl

theorem o8_end (G : Globs) (k : Nat) (self : Den) (d : Nat) (bor : Bool) (all : List Nat) (lp : LoopF) :
    pack_Open.l8 G k 2 self lp (stO d bor all all) (hpO d all) = some (.exit 1, stO d bor all all, hpO d all) := by
  rw [pack_Open.l8]
  refine lC cutO ?_
  have c1 : bin Tryd.prog .lss 3 false (Nn all.length) (Nn all.length) = some (.bool false) := by
    rw [bin_lss]; congr 2; exact decide_eq_false (by omega)
  unfold stO
  repeat first
    | refine oB (by first | (with_reducible exact rfl) | (simp only [pu_val, nth_zero, nth_succ, gd_tt, gd_ff, gd_tf, gd_ft, gd_no, pickA_true, pickA_false, un_not, c1]; first | done | (with_reducible exact rfl) | (with_reducible exact ⟨rfl, rfl⟩))) ?_
    | refine lB (by first | (with_reducible exact rfl) | (simp only [pu_val, nth_zero, nth_succ, gd_tt, gd_ff, gd_tf, gd_ft, gd_no, pickA_true, pickA_false, un_not, c1]; first | done | (with_reducible exact rfl) | (with_reducible exact ⟨rfl, rfl⟩))) ?_
    | refine oT ?_
    | refine oN ?_
    | refine oX ?_
    | refine oXn ?_
    | refine oXr ?_
    | exact oF (finV_bool ..)
    | apply oK
    | refine lT ?_
    | refine lN ?_
    | refine lX ?_
    | refine lXn ?_
    | refine lXr ?_
    | apply lK
    | refine oI ?_
    | refine oJ rfl ?_
    | refine lI ?_
    | refine lJ rfl ?_
    | (with_reducible exact rfl)
  rfl

theorem o8_good (G : Globs) (k : Nat) (hk : 40 ≤ k) (self : Den) (d : Nat) (hd : 1 ≤ d ∧ d ≤ 24) (bor : Bool) (all : List Nat) (hall : all.length ≤ 1000000) (hr : ∀ x ∈ all, x < 256) :
    ∀ (suf pre : List Nat) (f : Nat), all = pre ++ suf → suf.length < f →
      loopN (pack_Open.l8 G k 2 self) f (stO d bor all pre) (hpO d pre) = some (.exit 1, stO d bor all all, hpO d all)
  | _, _, 0, _, h => by omega
  | [], pre, f + 1, ha, h => by
    rw [List.append_nil] at ha
    subst ha
    rw [loopN_succ]; exact o8_end G k self d bor all _
  | y :: suf, pre, f + 1, ha, h => by
    have hy := hr y (by rw [ha]; simp)
    rw [loopN_succ]
    exact (o8_step G k hk self d hd bor all pre suf hall y ha hy (fun z hz => hr z (by rw [ha]; simp [hz])) _).trans
      (o8_good G k hk self d hd bor all hall hr suf (pre ++ [y]) f (by rw [ha]; simp) (by simpa using h))

theorem stO_nil (d : Nat) (bor : Bool) (all : List Nat) : stO d bor all [] = [Nn d, .sl 1 0 0 0 1, .int .u64 0, .int .i64 0, .ro bor (bytesV all), Nn all.length, .int .i64 0] := by
  simp [stO, Lo, val]
theorem hpO_nil (d : Nat) : hpO d [] = [⟨3, 1, []⟩, ⟨3, 1, []⟩] := by simp [hpO, Lo, digs, natsV]

theorem open_ok (G : Globs) (k : Nat) (d n : Nat) (hd : 1 ≤ d ∧ d ≤ 24) (hn : n ≤ 4096) (bor : Bool) (all : List Nat) (hk : all.length + 50 ≤ k) (h8 : d * n % 8 = 0) (hl : all.length = d * n / 8) (hr : ∀ x ∈ all, x < 256) :
    pack_Open.f G (k + 1) [Nn d, Nn n, .ro bor (bytesV all)] [] = some (.tup [.sl 1 n 0 n 1, .nili], [⟨3, 1, []⟩, ⟨3, 1, natsV (digs (2 ^ d) n (val 256 all))⟩]) := by
  have hm : d * n ≤ 24 * 4096 := Nat.mul_le_mul hd.2 hn
  have e := o8_good G k (by omega) (pack_Open.f G k) d hd bor all (by omega) hr all [] k rfl (by omega)
  have hLo : Lo d all = n := by
    unfold Lo
    have : 8 * all.length = d * n := by omega
    rw [this, Nat.mul_div_cancel_left _ (by omega)]
  rw [pack_Open.step]
  unfold pack_Open.c
  have c1 : bin Tryd.prog .lss 3 true (Nn d) (.int .i64 1) = some (.bool false) := by rw [bin_lss, decide_eq_false (by omega)]
  have c2 : bin Tryd.prog .gtr 3 true (Nn d) (.int .i64 24) = some (.bool false) := by rw [bin_gtr, decide_eq_false (by omega)]
  have c3 : bin Tryd.prog .lss 3 true (Nn n) (.int .i64 0) = some (.bool false) := by rw [bin_lss, decide_eq_false (by omega)]
  have c4 : bin Tryd.prog .gtr 3 true (Nn n) (.int .i64 4096) = some (.bool false) := by rw [bin_gtr, decide_eq_false (by omega)]
  have c5 : bin Tryd.prog .mul 3 false (Nn d) (Nn n) = some (Nn (d * n)) := by
    rw [bin_mul, ← Int.natCast_mul, wrap_of_i64 (by omega) (by omega)]
  have c6 : bin Tryd.prog .rem 3 true (Nn (d * n)) (.int .i64 8) = some (Nn 0) := by
    rw [bin_rem _ _ _ _ _ _ (by decide)]; congr 2
    rw [← h8]; rfl
  have c7 : bin Tryd.prog .neq 3 true (Nn 0) (.int .i64 0) = some (.bool false) := rfl
  have c8 : lenSl (.ro bor (bytesV all)) = some (Nn all.length) := by simp [lenSl, bytesV_len]
  have c9 : bin Tryd.prog .quo 3 true (Nn (d * n)) (.int .i64 8) = some (Nn (d * n / 8)) := by
    have e : (((d * n : Nat) : Int).tdiv 8) = ((d * n / 8 : Nat) : Int) := rfl
    rw [bin_quo _ _ _ _ _ _ (by decide), e, wrap_of_i64 (by omega) (by omega)]
  have c10 : bin Tryd.prog .neq 3 false (Nn all.length) (Nn (d * n / 8)) = some (.bool false) := by
    rw [bin_neq, hl]; simp
  have c11 := makeSl 3 .i64 n (by omega)
  rw [stO_nil, hpO_nil] at e
  repeat first
    | refine oB (by first | (with_reducible exact rfl) | (simp only [pu_val, nth_zero, nth_succ, gd_tt, gd_ff, gd_tf, gd_ft, gd_no, pickA_true, pickA_false, un_not, c1, c2, c3, c4, c5, c6, c7, c8, c9, c10, c11]; first | done | (with_reducible exact rfl) | (with_reducible exact ⟨rfl, rfl⟩))) ?_
    | refine lB (by first | (with_reducible exact rfl) | (simp only [pu_val, nth_zero, nth_succ, gd_tt, gd_ff, gd_tf, gd_ft, gd_no, pickA_true, pickA_false, un_not, c1, c2, c3, c4, c5, c6, c7, c8, c9, c10, c11]; first | done | (with_reducible exact rfl) | (with_reducible exact ⟨rfl, rfl⟩))) ?_
    | refine oT ?_
    | refine oN ?_
    | refine oX ?_
    | refine oXn ?_
    | refine oXr ?_
    | exact oF (finV_bool ..)
    | apply oK
    | refine lT ?_
    | refine lN ?_
    | refine lX ?_
    | refine lXn ?_
    | refine lXr ?_
    | apply lK
    | refine oI ?_
    | refine oJ rfl ?_
    | refine lI ?_
    | refine lJ rfl ?_
    | (with_reducible exact rfl)
  exact e
  repeat first
    | refine oB (by first | (with_reducible exact rfl) | (simp only [pu_val, nth_zero, nth_succ, gd_tt, gd_ff, gd_tf, gd_ft, gd_no, pickA_true, pickA_false, un_not]; first | done | (with_reducible exact rfl) | (with_reducible exact ⟨rfl, rfl⟩))) ?_
    | refine lB (by first | (with_reducible exact rfl) | (simp only [pu_val, nth_zero, nth_succ, gd_tt, gd_ff, gd_tf, gd_ft, gd_no, pickA_true, pickA_false, un_not]; first | done | (with_reducible exact rfl) | (with_reducible exact ⟨rfl, rfl⟩))) ?_
    | refine oT ?_
    | refine oN ?_
    | refine oX ?_
    | refine oXn ?_
    | refine oXr ?_
    | exact oF (finV_bool ..)
    | apply oK
    | refine lT ?_
    | refine lN ?_
    | refine lX ?_
    | refine lXn ?_
    | refine lXr ?_
    | apply lK
    | refine oI ?_
    | refine oJ rfl ?_
    | refine lI ?_
    | refine lJ rfl ?_
    | (with_reducible exact rfl)
  unfold stO hpO
  rw [hLo]
  rfl
end Go.Proofs.YtemkaggjbhpbbaaDoor.Mir
