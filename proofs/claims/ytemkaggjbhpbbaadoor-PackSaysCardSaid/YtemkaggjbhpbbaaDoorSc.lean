/- What pack.Bits gives. -/
import Derived.Test.YtemkaggjbhpbbaaDoorSb
namespace Go.Proofs.YtemkaggjbhpbbaaDoor.Mir
open Go
set_option linter.unusedVariables false
set_option linter.unusedSimpArgs false

theorem idx_ints (bor : Bool) (l : List Int) (i : Nat) (x : Int) (h : l[i]? = some x) : idxAddrSl 1 (.ro bor (intsV l)) (Nn i) = some (.rp bor (.int .i64 x) 0) := by
  have e : (intsV l)[i]? = some (.int .i64 x) := by simp [intsV, h]
  simp [idxAddrSl, e, AV.cells]
theorem idx_bytes (bor : Bool) (l : List Nat) (i x : Nat) (h : l[i]? = some x) : idxAddrSl 1 (.ro bor (bytesV l)) (Nn i) = some (.rp bor (.int .u8 (x : Int)) 0) := by
  have e : (bytesV l)[i]? = some (.int .u8 (x : Int)) := by simp [bytesV, h]
  simp [idxAddrSl, e, AV.cells]
theorem load_int (G : Globs) (bor : Bool) (k : IntKind) (n : Int) (H : AHeap) : loadV G false 1 (.rp bor (.int k n) 0) H = some (.int k n) := by
  simp [loadV, loadC, AV.cells]
theorem pow_i64 (d : Nat) (h : d ≤ 62) : IntKind.i64.wrap ((1 : Int) * 2 ^ min ((d : Int)).toNat IntKind.i64.bits) = ((2 ^ d : Nat) : Int) := by
  have h40 : 2 ^ d ≤ 2 ^ 62 := Nat.pow_le_pow_right (by decide) h
  have e : min ((d : Int)).toNat IntKind.i64.bits = d := by rw [Int.toNat_natCast]; exact Nat.min_eq_left (Nat.le_trans h (by decide))
  have e2 : (1 * 2 ^ d : Int) = ((2 ^ d : Nat) : Int) := by rw [Int.one_mul]; push_cast; rfl
  rw [e, e2]
  generalize 2 ^ d = q at h40
  exact wrap_of_i64 (by omega) (by omega)
theorem shl_i64 (c : Bool) (d : Nat) (h : d ≤ 62) : bin Tryd.prog .shl 3 c (.int .i64 1) (Nn d) = some (Nn (2 ^ d)) := by
  rw [bin_shl _ _ _ _ _ _ _ (Int.natCast_nonneg d), pow_i64 d h]
theorem shl_u64 (c : Bool) (x n b : Nat) (h : n ≤ 62) (hx : x * 2 ^ n < 18446744073709551616) : bin Tryd.prog .shl 51 c (.int .u64 (x : Int)) (Nn n) = some (.int .u64 ((x * 2 ^ n : Nat) : Int)) := by
  rw [bin_shl _ _ _ _ _ _ _ (Int.natCast_nonneg n)]
  have e : min ((n : Int)).toNat IntKind.u64.bits = n := by rw [Int.toNat_natCast]; exact Nat.min_eq_left (Nat.le_trans h (by decide))
  have e2 : ((x : Int) * 2 ^ n : Int) = ((x * 2 ^ n : Nat) : Int) := by push_cast; rfl
  rw [e, e2]
  generalize x * 2 ^ n = q at hx
  rw [wrap_of_u64 (by omega) (by omega)]

/-- May they be handed to pack.Bits? -/
def inR (d : Nat) (l : List Int) : Prop := ∀ x ∈ l, 0 ≤ x ∧ x < ((2 ^ d : Nat) : Int)

def Lb (d : Nat) (pre : List Int) : Nat := d * pre.length / 8
def Vb (d : Nat) (pre : List Int) : Nat := val (2 ^ d) (pre.map Int.toNat)
def stB (d : Nat) (bor : Bool) (all pre : List Int) (Xa Xb : AV) : List AV :=
  [Nn d, Xa, Xb, .sl 1 (Lb d pre) 0 (Lb d pre) 1, .int .u64 ((Vb d pre / 256 ^ Lb d pre : Nat) : Int), Nn (d * pre.length % 8), .ro bor (intsV all), Nn all.length, Nn pre.length]
def hpB (d : Nat) (pre : List Int) : AHeap := [⟨5, 1, []⟩, ⟨5, 1, bytesV (digs 256 (Lb d pre) (Vb d pre))⟩]

theorem cutB {d : Nat} {bor : Bool} {all pre : List Int} {Xa Xb : AV} (hXa : belowB 2 Xa = true) (hXb : belowB 2 Xb = true) : cutH 2 (stB d bor all pre Xa Xb) (hpB d pre) = some (hpB d pre) :=
  cutH_of (by simp [stB, belowL, belowB, intsV_below, hXa, hXb]) (by simp [hpB, heapBelow, belowL, bytesV_below]) rfl

theorem l8_end (G : Globs) (k : Nat) (self : Den) (d : Nat) (bor : Bool) (all : List Int) (Xa Xb : AV) (hXa : belowB 2 Xa = true) (hXb : belowB 2 Xb = true) (lp : LoopF) :
    pack_Bits.l8 G k 2 self lp (stB d bor all all Xa Xb) (hpB d all) = some (.exit 1, stB d bor all all Xa Xb, hpB d all) := by
  rw [pack_Bits.l8]
  refine lC (cutB hXa hXb) ?_
  have c1 : bin Tryd.prog .lss 3 false (Nn all.length) (Nn all.length) = some (.bool false) := by
    rw [bin_lss]; congr 2; exact decide_eq_false (by omega)
  unfold stB
  repeat first
    | refine oB (by first | (with_reducible exact rfl) | (simp only [pu_val, nth_zero, nth_succ, gd_tt, gd_ff, gd_tf, gd_ft, gd_no, pickA_true, pickA_false, un_not, c1]; first | done | (with_reducible exact rfl) | (with_reducible exact ⟨rfl, rfl⟩))) ?_
    | refine lB (by first | (with_reducible exact rfl) | (simp only [pu_val, nth_zero, nth_succ, gd_tt, gd_ff, gd_tf, gd_ft, gd_no, pickA_true, pickA_false, un_not, c1]; first | done | (with_reducible exact rfl) | (with_reducible exact ⟨rfl, rfl⟩))) ?_
    | refine oT ?_
    | refine oN ?_
    | refine oX ?_
    | refine oXn ?_
    | refine oXr ?_
    | exact oF (finV_bool ..)
    | apply oK
    | refine lT ?_
    | refine lN ?_
    | refine lX ?_
    | refine lXn ?_
    | refine lXr ?_
    | apply lK
    | refine oI ?_
    | refine oJ rfl ?_
    | refine lI ?_
    | refine lJ rfl ?_
    | (with_reducible exact rfl)
  rfl

theorem l8_bad (G : Globs) (k : Nat) (self : Den) (d : Nat) (hd : 1 ≤ d ∧ d ≤ 24) (bor : Bool) (all pre suf : List Int) (x : Int) (ha : all = pre ++ x :: suf) (hx : ¬ (0 ≤ x ∧ x < ((2 ^ d : Nat) : Int))) (Xa Xb : AV) (hXa : belowB 2 Xa = true) (hXb : belowB 2 Xb = true) (lp : LoopF) (E0 : AV) (hG : G 0 = some E0) :
    ∃ zs y, pack_Bits.l8 G k 2 self lp (stB d bor all pre Xa Xb) (hpB d pre) = some (.ret, Nn d :: .sl 2 0 0 0 1 :: E0 :: zs, [⟨5, 1, []⟩, y, ⟨5, 1, []⟩]) := by
  have hlen : all.length = pre.length + suf.length + 1 := by rw [ha]; simp; omega
  have c1 : bin Tryd.prog .lss 3 false (Nn pre.length) (Nn all.length) = some (.bool true) := by
    rw [bin_lss]; congr 2; exact decide_eq_true (by omega)
  have c2 := idx_ints bor all pre.length x (by rw [ha]; simp)
  have c5 := shl_i64 true d (by omega)
  have cG : ∀ H, loadV G false 1 (.gl 0) H = some E0 := fun H => by simp [loadV, hG]
  refine ⟨(stB d bor all pre Xa Xb).drop 3, ⟨5, 1, bytesV (digs 256 (Lb d pre) (Vb d pre))⟩, ?_⟩
  rw [pack_Bits.l8]
  refine lC (cutB hXa hXb) ?_
  unfold stB
  by_cases h0 : x < 0
  · have c4 : bin Tryd.prog .lss 3 true (.int .i64 x) (.int .i64 0) = some (.bool true) := by rw [bin_lss, decide_eq_true h0]
    repeat first
      | refine oB (by first | (with_reducible exact rfl) | (simp only [pu_val, nth_zero, nth_succ, gd_tt, gd_ff, gd_tf, gd_ft, gd_no, pickA_true, pickA_false, un_not, c1, c2, c4, load_int, cG]; first | done | (with_reducible exact rfl) | (with_reducible exact ⟨rfl, rfl⟩))) ?_
      | refine lB (by first | (with_reducible exact rfl) | (simp only [pu_val, nth_zero, nth_succ, gd_tt, gd_ff, gd_tf, gd_ft, gd_no, pickA_true, pickA_false, un_not, c1, c2, c4, load_int, cG]; first | done | (with_reducible exact rfl) | (with_reducible exact ⟨rfl, rfl⟩))) ?_
      | refine oT ?_
      | refine oN ?_
      | refine oX ?_
      | refine oXn ?_
      | refine oXr ?_
      | exact oF (finV_bool ..)
      | apply oK
      | refine lT ?_
      | refine lN ?_
      | refine lX ?_
      | refine lXn ?_
      | refine lXr ?_
      | apply lK
      | refine oI ?_
      | refine oJ rfl ?_
      | refine lI ?_
      | refine lJ rfl ?_
      | (with_reducible exact rfl)
    rfl
  · have c4 : bin Tryd.prog .lss 3 true (.int .i64 x) (.int .i64 0) = some (.bool false) := by rw [bin_lss, decide_eq_false h0]
    have c6 : bin Tryd.prog .geq 3 false (.int .i64 x) (Nn (2 ^ d)) = some (.bool true) := by rw [bin_geq]; congr 2; exact decide_eq_true (by omega)
    repeat first
      | refine oB (by first | (with_reducible exact rfl) | (simp only [pu_val, nth_zero, nth_succ, gd_tt, gd_ff, gd_tf, gd_ft, gd_no, pickA_true, pickA_false, un_not, c1, c2, c4, c5, c6, load_int, cG]; first | done | (with_reducible exact rfl) | (with_reducible exact ⟨rfl, rfl⟩))) ?_
      | refine lB (by first | (with_reducible exact rfl) | (simp only [pu_val, nth_zero, nth_succ, gd_tt, gd_ff, gd_tf, gd_ft, gd_no, pickA_true, pickA_false, un_not, c1, c2, c4, c5, c6, load_int, cG]; first | done | (with_reducible exact rfl) | (with_reducible exact ⟨rfl, rfl⟩))) ?_
      | refine oT ?_
      | refine oN ?_
      | refine oX ?_
      | refine oXn ?_
      | refine oXr ?_
      | exact oF (finV_bool ..)
      | apply oK
      | refine lT ?_
      | refine lN ?_
      | refine lX ?_
      | refine lXn ?_
      | refine lXr ?_
      | apply lK
      | refine oI ?_
      | refine oJ rfl ?_
      | refine lI ?_
      | refine lJ rfl ?_
      | (with_reducible exact rfl)
    rfl

theorem l8_step (G : Globs) (k : Nat) (hk : 8 ≤ k) (self : Den) (d : Nat) (hd : 1 ≤ d ∧ d ≤ 24) (bor : Bool) (all pre suf : List Int) (hall : all.length ≤ 1000000) (y : Nat) (ha : all = pre ++ (y : Int) :: suf) (hy : y < 2 ^ d) (hp : ∀ x ∈ pre, 0 ≤ x ∧ x < ((2 ^ d : Nat) : Int)) (Xa Xb : AV) (hXa : belowB 2 Xa = true) (hXb : belowB 2 Xb = true) (lp : LoopF) :
    pack_Bits.l8 G k 2 self lp (stB d bor all pre Xa Xb) (hpB d pre) = lp (stB d bor all (pre ++ [(y : Int)]) .undef .undef) (hpB d (pre ++ [(y : Int)])) := by
  have hlen : all.length = pre.length + suf.length + 1 := by rw [ha]; simp; omega
  have c1 : bin Tryd.prog .lss 3 false (Nn pre.length) (Nn all.length) = some (.bool true) := by
    rw [bin_lss]; congr 2; exact decide_eq_true (by omega)
  have c2 := idx_ints bor all pre.length y (by rw [ha]; simp)
  have c4 : bin Tryd.prog .lss 3 true (.int .i64 (y : Int)) (.int .i64 0) = some (.bool false) := by rw [bin_lss, decide_eq_false (by omega)]
  have c5 := shl_i64 true d (by omega)
  have hpow : 2 ^ d ≤ 2 ^ 24 := Nat.pow_le_pow_right (by decide) hd.2
  have c6 : bin Tryd.prog .geq 3 false (.int .i64 (y : Int)) (Nn (2 ^ d)) = some (.bool false) := by rw [bin_geq]; congr 2; exact decide_eq_false (by omega)
  have c7 : convInt .u64 (.int .i64 (y : Int)) = some (.int .u64 (y : Int)) := by rw [convInt_int, wrap_of_u64 (by omega) (by omega)]
  have hV : Vb d pre < 2 ^ (d * pre.length) := by
    have := val_lt (2 ^ d) (pre.map Int.toNat) (fun x hx => by
      obtain ⟨z, hz, rfl⟩ := List.mem_map.1 hx
      have := hp z hz; omega)
    rw [← Nat.pow_mul, List.length_map] at this; exact this
  obtain ⟨g1, g2, g3, g4, g5, g6, g7⟩ := digs_next 8 256 d pre.length (Vb d pre) y (by decide) rfl hy hV
  have hn8 : d * pre.length % 8 < 8 := Nat.mod_lt _ (by decide)
  have hsm : y * 2 ^ (d * pre.length % 8) < 2 ^ 24 * 2 ^ 8 := by
    have h1 : 2 ^ (d * pre.length % 8) ≤ 2 ^ 8 := Nat.pow_le_pow_right (by decide) (by omega)
    calc y * 2 ^ (d * pre.length % 8) ≤ y * 2 ^ 8 := Nat.mul_le_mul_left _ h1
      _ < 2 ^ 24 * 2 ^ 8 := Nat.mul_lt_mul_of_pos_right (by omega) (by decide)
  have hr : Vb d pre / 256 ^ Lb d pre < 2 ^ 8 := Nat.lt_of_lt_of_le g3 (Nat.pow_le_pow_right (by decide) (by omega))
  have c8 := shl_u64 false y (d * pre.length % 8) 0 (by omega) (by omega)
  have c9 : bin Tryd.prog .or 51 false (.int .u64 ((Vb d pre / 256 ^ Lb d pre : Nat) : Int)) (.int .u64 ((y * 2 ^ (d * pre.length % 8) : Nat) : Int)) = some (.int .u64 ((Vb d pre / 256 ^ Lb d pre + y * 2 ^ (d * pre.length % 8) : Nat) : Int)) := by
    have g3' : Vb d pre / 256 ^ Lb d pre < 2 ^ (d * pre.length % 8) := g3
    rw [bin_or, u64_or_nat _ _ (by omega) (by omega), or_shift _ _ _ g3']
  have c10 : bin Tryd.prog .add 3 false (Nn (d * pre.length % 8)) (Nn d) = some (Nn (d * pre.length % 8 + d)) := by
    rw [bin_add, wrap_of_i64 (by omega) (by omega)]; congr 2
  have c11 : bin Tryd.prog .add 3 true (Nn pre.length) (.int .i64 1) = some (Nn (pre.length + 1)) := by
    rw [bin_add, wrap_of_i64 (by omega) (by omega)]; congr 2
  have hmul : d * pre.length ≤ 24 * 1000000 := Nat.mul_le_mul hd.2 (by omega)
  have hlp := l14_loop G k self (Nn d) (.ro bor (intsV all)) (Nn all.length) (Nn pre.length) rfl (intsV_below 2 all) rfl rfl k (d * pre.length % 8 + d) (Vb d pre / 256 ^ Lb d pre + y * 2 ^ (d * pre.length % 8)) (digs 256 (Lb d pre) (Vb d pre)) (by omega) (by omega) (by rw [digs_length]; unfold Lb; omega)
  rw [digs_length] at hlp
  have e1 : Lb d (pre ++ [(y : Int)]) = Lb d pre + (d * pre.length % 8 + d) / 8 := by unfold Lb; rw [List.length_append]; exact g1
  have e2 : Vb d (pre ++ [(y : Int)]) = Vb d pre + 2 ^ (d * pre.length) * y := by
    unfold Vb; rw [List.map_append, List.map_cons, List.map_nil, val_snoc, List.length_map, ← Nat.pow_mul]; simp
  have e3 : d * (pre ++ [(y : Int)]).length % 8 = (d * pre.length % 8 + d) % 8 := by rw [List.length_append]; exact g2
  have e4 : hpB d (pre ++ [(y : Int)]) = [⟨5, 1, []⟩, ⟨5, 1, bytesV (digs 256 (Lb d pre) (Vb d pre) ++ digs 256 ((d * pre.length % 8 + d) / 8) (Vb d pre / 256 ^ Lb d pre + y * 2 ^ (d * pre.length % 8)))⟩] := by
    unfold hpB; rw [e2]; unfold Lb; rw [List.length_append]; exact congrArg (fun l => [(⟨5, 1, []⟩ : ABlk), ⟨5, 1, bytesV l⟩]) g6
  have e5 : Vb d (pre ++ [(y : Int)]) / 256 ^ Lb d (pre ++ [(y : Int)]) = (Vb d pre / 256 ^ Lb d pre + y * 2 ^ (d * pre.length % 8)) / 256 ^ ((d * pre.length % 8 + d) / 8) := by
    rw [e2]; unfold Lb; rw [List.length_append]; exact g7
  have e6 : stB d bor all (pre ++ [(y : Int)]) .undef .undef = [Nn d, .undef, .undef, .sl 1 (Lb d pre + (d * pre.length % 8 + d) / 8) 0 (Lb d pre + (d * pre.length % 8 + d) / 8) 1, .int .u64 (((Vb d pre / 256 ^ Lb d pre + y * 2 ^ (d * pre.length % 8)) / 256 ^ ((d * pre.length % 8 + d) / 8) : Nat) : Int), Nn ((d * pre.length % 8 + d) % 8), .ro bor (intsV all), Nn all.length, Nn (pre.length + 1)] := by
    unfold stB; rw [e5, e3, e1, List.length_append]; rfl
  rw [e6, e4]
  rw [pack_Bits.l8]
  refine lC (cutB hXa hXb) ?_
  unfold stB
  repeat first
    | refine oB (by first | (with_reducible exact rfl) | (simp only [pu_val, nth_zero, nth_succ, gd_tt, gd_ff, gd_tf, gd_ft, gd_no, pickA_true, pickA_false, un_not, c1, c2, c4, c5, c6, c7, c8, c9, c10, load_int]; first | done | (with_reducible exact rfl) | (with_reducible exact ⟨rfl, rfl⟩))) ?_
    | refine lB (by first | (with_reducible exact rfl) | (simp only [pu_val, nth_zero, nth_succ, gd_tt, gd_ff, gd_tf, gd_ft, gd_no, pickA_true, pickA_false, un_not, c1, c2, c4, c5, c6, c7, c8, c9, c10, load_int]; first | done | (with_reducible exact rfl) | (with_reducible exact ⟨rfl, rfl⟩))) ?_
    | refine oT ?_
    | refine oN ?_
    | refine oX ?_
    | refine oXn ?_
    | refine oXr ?_
    | exact oF (finV_bool ..)
    | apply oK
    | refine lT ?_
    | refine lN ?_
    | refine lX ?_
    | refine lXn ?_
    | refine lXr ?_
    | apply lK
    | refine oI ?_
    | refine oJ rfl ?_
    | refine lI ?_
    | refine lJ rfl ?_
    | (with_reducible exact rfl)
  exact hlp
  repeat first
    | refine oB (by first | (with_reducible exact rfl) | (simp only [pu_val, nth_zero, nth_succ, gd_tt, gd_ff, gd_tf, gd_ft, gd_no, pickA_true, pickA_false, un_not, c11]; first | done | (with_reducible exact rfl) | (with_reducible exact ⟨rfl, rfl⟩))) ?_
    | refine lB (by first | (with_reducible exact rfl) | (simp only [pu_val, nth_zero, nth_succ, gd_tt, gd_ff, gd_tf, gd_ft, gd_no, pickA_true, pickA_false, un_not, c11]; first | done | (with_reducible exact rfl) | (with_reducible exact ⟨rfl, rfl⟩))) ?_
    | refine oT ?_
    | refine oN ?_
    | refine oX ?_
    | refine oXn ?_
    | refine oXr ?_
    | exact oF (finV_bool ..)
    | apply oK
    | refine lT ?_
    | refine lN ?_
    | refine lX ?_
    | refine lXn ?_
    | refine lXr ?_
    | apply lK
    | refine oI ?_
    | refine oJ rfl ?_
    | refine lI ?_
    | refine lJ rfl ?_
    | (with_reducible exact rfl)
  rfl

theorem l8_good (G : Globs) (k : Nat) (hk : 8 ≤ k) (self : Den) (d : Nat) (hd : 1 ≤ d ∧ d ≤ 24) (bor : Bool) (all : List Int) (hall : all.length ≤ 1000000) (hr : inR d all) :
    ∀ (suf pre : List Int) (f : Nat) (Xa Xb : AV), all = pre ++ suf → suf.length < f → belowB 2 Xa = true → belowB 2 Xb = true →
      ∃ Ya Yb, loopN (pack_Bits.l8 G k 2 self) f (stB d bor all pre Xa Xb) (hpB d pre) = some (.exit 1, stB d bor all all Ya Yb, hpB d all)
  | _, _, 0, _, _, _, h, _, _ => by omega
  | [], pre, f + 1, Xa, Xb, ha, h, hXa, hXb => by
    rw [List.append_nil] at ha
    subst ha
    exact ⟨Xa, Xb, by rw [loopN_succ]; exact l8_end G k self d bor all Xa Xb hXa hXb _⟩
  | x :: suf, pre, f + 1, Xa, Xb, ha, h, hXa, hXb => by
    have hx := hr x (by rw [ha]; simp)
    obtain ⟨y, rfl⟩ := Int.eq_ofNat_of_zero_le hx.1
    have hp : ∀ x ∈ pre, 0 ≤ x ∧ x < ((2 ^ d : Nat) : Int) := fun z hz => hr z (by rw [ha]; simp [hz])
    obtain ⟨Ya, Yb, e⟩ := l8_good G k hk self d hd bor all hall hr suf (pre ++ [(y : Int)]) f .undef .undef (by rw [ha]; simp) (by simpa using h) rfl rfl
    refine ⟨Ya, Yb, ?_⟩
    rw [loopN_succ]
    exact (l8_step G k hk self d hd bor all pre suf hall y ha (by have := hx.2; omega) hp Xa Xb hXa hXb _).trans e

theorem l8_fail (G : Globs) (k : Nat) (hk : 8 ≤ k) (self : Den) (d : Nat) (hd : 1 ≤ d ∧ d ≤ 24) (bor : Bool) (all : List Int) (hall : all.length ≤ 1000000) (E0 : AV) (hG : G 0 = some E0) :
    ∀ (suf pre : List Int) (f : Nat) (Xa Xb : AV), all = pre ++ suf → inR d pre → ¬ inR d suf → suf.length < f → belowB 2 Xa = true → belowB 2 Xb = true →
      ∃ zs y, loopN (pack_Bits.l8 G k 2 self) f (stB d bor all pre Xa Xb) (hpB d pre) = some (.ret, Nn d :: .sl 2 0 0 0 1 :: E0 :: zs, [⟨5, 1, []⟩, y, ⟨5, 1, []⟩])
  | _, _, 0, _, _, _, _, _, h, _, _ => by omega
  | [], pre, f + 1, Xa, Xb, ha, hp, hr, h, hXa, hXb => absurd (fun x hx => by simp at hx) hr
  | x :: suf, pre, f + 1, Xa, Xb, ha, hp, hr, h, hXa, hXb => by
    by_cases hx : 0 ≤ x ∧ x < ((2 ^ d : Nat) : Int)
    · obtain ⟨y, rfl⟩ := Int.eq_ofNat_of_zero_le hx.1
      obtain ⟨zs, z, e⟩ := l8_fail G k hk self d hd bor all hall E0 hG suf (pre ++ [(y : Int)]) f .undef .undef (by rw [ha]; simp) (fun z hz => by
          rcases List.mem_append.1 hz with hz | hz
          · exact hp z hz
          · simp at hz; subst hz; exact hx) (fun hc => hr (fun z hz => by
          rcases List.mem_cons.1 hz with rfl | hz
          · exact hx
          · exact hc z hz)) (by simpa using h) rfl rfl
      refine ⟨zs, z, ?_⟩
      rw [loopN_succ]
      exact (l8_step G k hk self d hd bor all pre suf hall y ha (by have := hx.2; omega) hp Xa Xb hXa hXb _).trans e
    · obtain ⟨zs, y, e⟩ := l8_bad G k self d hd bor all pre suf x ha hx Xa Xb hXa hXb (loopN (pack_Bits.l8 G k 2 self) f) E0 hG
      exact ⟨zs, y, by rw [loopN_succ]; exact e⟩

theorem stB_nil (d : Nat) (bor : Bool) (all : List Int) (Xa Xb : AV) : stB d bor all [] Xa Xb = [Nn d, Xa, Xb, .sl 1 0 0 0 1, .int .u64 0, .int .i64 0, .ro bor (intsV all), Nn all.length, .int .i64 0] := by
  simp [stB, Lb, Vb, val]
theorem hpB_nil (d : Nat) : hpB d [] = [⟨5, 1, []⟩, ⟨5, 1, []⟩] := by simp [hpB, Lb, digs, bytesV]
theorem mapO_id {f : AV → Option AV} : ∀ {xs : List AV}, (∀ x ∈ xs, f x = some x) → mapO f xs = some xs
  | [], _ => rfl
  | x :: xs, h => by
    have h1 := h x (List.mem_cons_self ..)
    have h2 := mapO_id (f := f) (xs := xs) (fun y hy => h y (List.mem_cons_of_mem _ hy))
    simp [mapO, h1, h2]
theorem allSz_ints {xs : List AV} (hx : ∀ x ∈ xs, ∃ k n, x = AV.int k n) : allSz 1 xs = true := by
  simp only [allSz, List.all_eq_true]
  intro x h
  obtain ⟨k, n, rfl⟩ := hx x h
  rfl
theorem frz_ints {H : AHeap} {b e n0 d n : Nat} {xs : List AV} (hb : H[b]? = some ⟨e, 1, xs⟩) (hn : n0 ≤ b) (hl : xs.length = n) (hx : ∀ x ∈ xs, ∃ k n, x = AV.int k n) :
    frz H n0 (d + 1) (.sl b n 0 n 1) = some (.ro false xs) := by
  subst hl
  have h1 : belowB n0 (.sl b xs.length 0 xs.length 1) = false := by simp [belowB]; omega
  have h2 : mapO (elemF (frz H n0 d)) xs = some xs := mapO_id fun x h => by
    obtain ⟨k, n, rfl⟩ := hx x h
    exact frz_low (by rfl) d
  simp [frz, h1, elemsOf, hb, allSz_ints hx, h2]
theorem ints_of {l : List Int} : ∀ x ∈ intsV l, ∃ k n, x = AV.int k n := fun x h => by
  obtain ⟨n, _, rfl⟩ := List.mem_map.1 h; exact ⟨_, _, rfl⟩
theorem bytes_of {l : List Nat} : ∀ x ∈ bytesV l, ∃ k n, x = AV.int k n := fun x h => by
  obtain ⟨n, _, rfl⟩ := List.mem_map.1 h; exact ⟨_, _, rfl⟩
theorem nats_of {l : List Nat} : ∀ x ∈ natsV l, ∃ k n, x = AV.int k n := fun x h => by
  obtain ⟨n, _, rfl⟩ := List.mem_map.1 h; exact ⟨_, _, rfl⟩
/-- A slice that was made here, and an error, handed back. -/
theorem fin_sl {H : AHeap} {b e n : Nat} {xs : List AV} {E : AV} (hb : H[b]? = some ⟨e, 1, xs⟩) (hl : xs.length = n) (hx : ∀ x ∈ xs, ∃ k n, x = AV.int k n) (hE : belowB 0 E = true) :
    finV [.sl b n 0 n 1, E] 0 H = some (.ret, [.tup [.ro false xs, E]], []) := by
  have h1 : belowB 0 (.tup [.sl b n 0 n 1, E]) = false := by simp [belowB, belowL]
  have h2 := frz_ints (d := 4) hb (Nat.zero_le b) hl hx
  have h3 : frz H 0 5 E = some E := frz_low hE 5
  have h4 : frz H 0 6 (.tup [.sl b n 0 n 1, E]) = some (.tup [.ro false xs, E]) := by
    unfold frz; rw [h1]; simp only [mapO]; rw [h2, h3]
  unfold finV; rw [packR, h4, cutH_zero]
  simp

theorem makeSl (t : Nat) (k : IntKind) (c : Nat) (hc : c ≤ 1099511627776) (H : AHeap) : makeSliceV t 1 (.int k 0) (.int .i64 0) (Nn c) H = some (.sl H.length 0 0 0 1, H ++ [⟨t, 1, []⟩]) := by
  have : ((c : Int) ≤ 1099511627776) := by omega
  simp [makeSliceV, this]

/-- What pack.Bits gives. -/
def bitsR (E0 E1 : AV) (d : Nat) (all : List Int) : AV :=
  if d * (all.length % 8) % 8 ≠ 0 then .tup [.ro false [], E1] else .tup [.ro false (bytesV (digs 256 (Lb d all) (Vb d all))), .nili]

theorem bits_ok (G : Globs) (k : Nat) (d : Nat) (hd : 1 ≤ d ∧ d ≤ 24) (bor : Bool) (all : List Int) (hall : all.length ≤ 1000000) (hk : all.length + 8 ≤ k) (h8 : d * (all.length % 8) % 8 = 0) (hr : inR d all) :
    pack_Bits.f G (k + 1) [Nn d, .ro bor (intsV all)] [] = some (.tup [.ro false (bytesV (digs 256 (Lb d all) (Vb d all))), .nili], []) := by
  obtain ⟨Ya, Yb, e⟩ := l8_good G k (by omega) (pack_Bits.f G k) d hd bor all hall hr all [] k (.sl 0 0 0 0 1) .nili rfl (by omega) rfl rfl
  rw [pack_Bits.step]
  unfold pack_Bits.c
  have c1 : bin Tryd.prog .lss 3 true (Nn d) (.int .i64 1) = some (.bool false) := by rw [bin_lss, decide_eq_false (by omega)]
  have c2 : bin Tryd.prog .gtr 3 true (Nn d) (.int .i64 24) = some (.bool false) := by rw [bin_gtr, decide_eq_false (by omega)]
  have c3 : lenSl (.ro bor (intsV all)) = some (Nn all.length) := by simp [lenSl, intsV_len]
  have c4 : bin Tryd.prog .rem 3 true (Nn all.length) (.int .i64 8) = some (Nn (all.length % 8)) := by
    rw [bin_rem _ _ _ _ _ _ (by decide)]; congr 2
  have c5 : bin Tryd.prog .mul 3 false (Nn d) (Nn (all.length % 8)) = some (Nn (d * (all.length % 8))) := by
    have : d * (all.length % 8) ≤ 24 * 8 := Nat.mul_le_mul hd.2 (by omega)
    rw [bin_mul, ← Int.natCast_mul, wrap_of_i64 (by omega) (by omega)]
  have c6 : bin Tryd.prog .rem 3 true (Nn (d * (all.length % 8))) (.int .i64 8) = some (Nn 0) := by
    rw [bin_rem _ _ _ _ _ _ (by decide)]; congr 2
    rw [← h8]; rfl
  have c7 : bin Tryd.prog .neq 3 true (Nn 0) (.int .i64 0) = some (.bool false) := rfl
  have c8 : bin Tryd.prog .quo 3 true (Nn all.length) (.int .i64 8) = some (Nn (all.length / 8)) := by
    have e : ((all.length : Int).tdiv 8) = ((all.length / 8 : Nat) : Int) := rfl
    rw [bin_quo _ _ _ _ _ _ (by decide), e, wrap_of_i64 (by omega) (by omega)]
  have hm : all.length / 8 * d ≤ 1000000 * 24 := Nat.mul_le_mul (by omega) hd.2
  have c9 : bin Tryd.prog .mul 3 false (Nn (all.length / 8)) (Nn d) = some (Nn (all.length / 8 * d)) := by
    rw [bin_mul, ← Int.natCast_mul, wrap_of_i64 (by omega) (by omega)]
  have c10 : bin Tryd.prog .add 3 false (Nn (all.length / 8 * d)) (Nn d) = some (Nn (all.length / 8 * d + d)) := by
    rw [bin_add, wrap_of_i64 (by omega) (by omega)]; congr 2
  have c11 := makeSl 5 .u8 (all.length / 8 * d + d) (by omega)
  rw [stB_nil, hpB_nil] at e
  repeat first
    | refine oB (by first | (with_reducible exact rfl) | (simp only [pu_val, nth_zero, nth_succ, gd_tt, gd_ff, gd_tf, gd_ft, gd_no, pickA_true, pickA_false, un_not, c1, c2, c3, c4, c5, c6, c7, c8, c9, c10, c11]; first | done | (with_reducible exact rfl) | (with_reducible exact ⟨rfl, rfl⟩))) ?_
    | refine lB (by first | (with_reducible exact rfl) | (simp only [pu_val, nth_zero, nth_succ, gd_tt, gd_ff, gd_tf, gd_ft, gd_no, pickA_true, pickA_false, un_not, c1, c2, c3, c4, c5, c6, c7, c8, c9, c10, c11]; first | done | (with_reducible exact rfl) | (with_reducible exact ⟨rfl, rfl⟩))) ?_
    | refine oT ?_
    | refine oN ?_
    | refine oX ?_
    | refine oXn ?_
    | refine oXr ?_
    | exact oF (finV_bool ..)
    | apply oK
    | refine lT ?_
    | refine lN ?_
    | refine lX ?_
    | refine lXn ?_
    | refine lXr ?_
    | apply lK
    | refine oI ?_
    | refine oJ rfl ?_
    | refine lI ?_
    | refine lJ rfl ?_
    | (with_reducible exact rfl)
  exact e
  repeat first
    | refine oB (by first | (with_reducible exact rfl) | (simp only [pu_val, nth_zero, nth_succ, gd_tt, gd_ff, gd_tf, gd_ft, gd_no, pickA_true, pickA_false, un_not]; first | done | (with_reducible exact rfl) | (with_reducible exact ⟨rfl, rfl⟩))) ?_
    | refine lB (by first | (with_reducible exact rfl) | (simp only [pu_val, nth_zero, nth_succ, gd_tt, gd_ff, gd_tf, gd_ft, gd_no, pickA_true, pickA_false, un_not]; first | done | (with_reducible exact rfl) | (with_reducible exact ⟨rfl, rfl⟩))) ?_
    | refine oT ?_
    | refine oN ?_
    | refine oX ?_
    | refine oXn ?_
    | refine oXr ?_
    | exact oF (finV_bool ..)
    | apply oK
    | refine lT ?_
    | refine lN ?_
    | refine lX ?_
    | refine lXn ?_
    | refine lXr ?_
    | apply lK
    | refine oI ?_
    | refine oJ rfl ?_
    | refine lI ?_
    | refine lJ rfl ?_
    | (with_reducible exact rfl)
  exact oF (fin_sl (e := 5) rfl (by rw [bytesV_len, digs_length]) bytes_of rfl)

theorem bits_len (G : Globs) (k : Nat) (d : Nat) (hd : 1 ≤ d ∧ d ≤ 24) (bor : Bool) (all : List Int) (hall : all.length ≤ 1000000) (h8 : d * (all.length % 8) % 8 ≠ 0) (E1 : AV) (hE : belowB 0 E1 = true) (hG : G 1 = some E1) :
    pack_Bits.f G (k + 1) [Nn d, .ro bor (intsV all)] [] = some (.tup [.ro false [], E1], []) := by
  rw [pack_Bits.step]
  unfold pack_Bits.c
  have c1 : bin Tryd.prog .lss 3 true (Nn d) (.int .i64 1) = some (.bool false) := by rw [bin_lss, decide_eq_false (by omega)]
  have c2 : bin Tryd.prog .gtr 3 true (Nn d) (.int .i64 24) = some (.bool false) := by rw [bin_gtr, decide_eq_false (by omega)]
  have c3 : lenSl (.ro bor (intsV all)) = some (Nn all.length) := by simp [lenSl, intsV_len]
  have c4 : bin Tryd.prog .rem 3 true (Nn all.length) (.int .i64 8) = some (Nn (all.length % 8)) := by
    rw [bin_rem _ _ _ _ _ _ (by decide)]; congr 2
  have c5 : bin Tryd.prog .mul 3 false (Nn d) (Nn (all.length % 8)) = some (Nn (d * (all.length % 8))) := by
    have : d * (all.length % 8) ≤ 24 * 8 := Nat.mul_le_mul hd.2 (by omega)
    rw [bin_mul, ← Int.natCast_mul, wrap_of_i64 (by omega) (by omega)]
  have c6 : bin Tryd.prog .rem 3 true (Nn (d * (all.length % 8))) (.int .i64 8) = some (Nn (d * (all.length % 8) % 8)) := by
    rw [bin_rem _ _ _ _ _ _ (by decide)]; congr 2
  have c7 : bin Tryd.prog .neq 3 true (Nn (d * (all.length % 8) % 8)) (.int .i64 0) = some (.bool true) := by
    rw [bin_neq, decide_eq_true (by omega)]
  have cG : ∀ H, loadV G false 1 (.gl 1) H = some E1 := fun H => by simp [loadV, hG]
  repeat first
    | refine oB (by first | (with_reducible exact rfl) | (simp only [pu_val, nth_zero, nth_succ, gd_tt, gd_ff, gd_tf, gd_ft, gd_no, pickA_true, pickA_false, un_not, c1, c2, c3, c4, c5, c6, c7, cG]; first | done | (with_reducible exact rfl) | (with_reducible exact ⟨rfl, rfl⟩))) ?_
    | refine lB (by first | (with_reducible exact rfl) | (simp only [pu_val, nth_zero, nth_succ, gd_tt, gd_ff, gd_tf, gd_ft, gd_no, pickA_true, pickA_false, un_not, c1, c2, c3, c4, c5, c6, c7, cG]; first | done | (with_reducible exact rfl) | (with_reducible exact ⟨rfl, rfl⟩))) ?_
    | refine oT ?_
    | refine oN ?_
    | refine oX ?_
    | refine oXn ?_
    | refine oXr ?_
    | exact oF (finV_bool ..)
    | apply oK
    | refine lT ?_
    | refine lN ?_
    | refine lX ?_
    | refine lXn ?_
    | refine lXr ?_
    | apply lK
    | refine oI ?_
    | refine oJ rfl ?_
    | refine lI ?_
    | refine lJ rfl ?_
    | (with_reducible exact rfl)
  exact oF (fin_sl (e := 5) (xs := []) rfl rfl (by simp) hE)

theorem bits_fail (G : Globs) (k : Nat) (d : Nat) (hd : 1 ≤ d ∧ d ≤ 24) (bor : Bool) (all : List Int) (hall : all.length ≤ 1000000) (hk : all.length + 8 ≤ k) (h8 : d * (all.length % 8) % 8 = 0) (hr : ¬ inR d all) (E0 : AV) (hE : belowB 0 E0 = true) (hG : G 0 = some E0) :
    pack_Bits.f G (k + 1) [Nn d, .ro bor (intsV all)] [] = some (.tup [.ro false [], E0], []) := by
  obtain ⟨zs, y, e⟩ := l8_fail G k (by omega) (pack_Bits.f G k) d hd bor all hall E0 hG all [] k (.sl 0 0 0 0 1) .nili rfl (fun x hx => by simp at hx) hr (by omega) rfl rfl
  rw [pack_Bits.step]
  unfold pack_Bits.c
  have c1 : bin Tryd.prog .lss 3 true (Nn d) (.int .i64 1) = some (.bool false) := by rw [bin_lss, decide_eq_false (by omega)]
  have c2 : bin Tryd.prog .gtr 3 true (Nn d) (.int .i64 24) = some (.bool false) := by rw [bin_gtr, decide_eq_false (by omega)]
  have c3 : lenSl (.ro bor (intsV all)) = some (Nn all.length) := by simp [lenSl, intsV_len]
  have c4 : bin Tryd.prog .rem 3 true (Nn all.length) (.int .i64 8) = some (Nn (all.length % 8)) := by
    rw [bin_rem _ _ _ _ _ _ (by decide)]; congr 2
  have c5 : bin Tryd.prog .mul 3 false (Nn d) (Nn (all.length % 8)) = some (Nn (d * (all.length % 8))) := by
    have : d * (all.length % 8) ≤ 24 * 8 := Nat.mul_le_mul hd.2 (by omega)
    rw [bin_mul, ← Int.natCast_mul, wrap_of_i64 (by omega) (by omega)]
  have c6 : bin Tryd.prog .rem 3 true (Nn (d * (all.length % 8))) (.int .i64 8) = some (Nn 0) := by
    rw [bin_rem _ _ _ _ _ _ (by decide)]; congr 2
    rw [← h8]; rfl
  have c7 : bin Tryd.prog .neq 3 true (Nn 0) (.int .i64 0) = some (.bool false) := rfl
  have c8 : bin Tryd.prog .quo 3 true (Nn all.length) (.int .i64 8) = some (Nn (all.length / 8)) := by
    have e : ((all.length : Int).tdiv 8) = ((all.length / 8 : Nat) : Int) := rfl
    rw [bin_quo _ _ _ _ _ _ (by decide), e, wrap_of_i64 (by omega) (by omega)]
  have hm : all.length / 8 * d ≤ 1000000 * 24 := Nat.mul_le_mul (by omega) hd.2
  have c9 : bin Tryd.prog .mul 3 false (Nn (all.length / 8)) (Nn d) = some (Nn (all.length / 8 * d)) := by
    rw [bin_mul, ← Int.natCast_mul, wrap_of_i64 (by omega) (by omega)]
  have c10 : bin Tryd.prog .add 3 false (Nn (all.length / 8 * d)) (Nn d) = some (Nn (all.length / 8 * d + d)) := by
    rw [bin_add, wrap_of_i64 (by omega) (by omega)]; congr 2
  have c11 := makeSl 5 .u8 (all.length / 8 * d + d) (by omega)
  rw [stB_nil, hpB_nil] at e
  repeat first
    | refine oB (by first | (with_reducible exact rfl) | (simp only [pu_val, nth_zero, nth_succ, gd_tt, gd_ff, gd_tf, gd_ft, gd_no, pickA_true, pickA_false, un_not, c1, c2, c3, c4, c5, c6, c7, c8, c9, c10, c11]; first | done | (with_reducible exact rfl) | (with_reducible exact ⟨rfl, rfl⟩))) ?_
    | refine lB (by first | (with_reducible exact rfl) | (simp only [pu_val, nth_zero, nth_succ, gd_tt, gd_ff, gd_tf, gd_ft, gd_no, pickA_true, pickA_false, un_not, c1, c2, c3, c4, c5, c6, c7, c8, c9, c10, c11]; first | done | (with_reducible exact rfl) | (with_reducible exact ⟨rfl, rfl⟩))) ?_
    | refine oT ?_
    | refine oN ?_
    | refine oX ?_
    | refine oXn ?_
    | refine oXr ?_
    | exact oF (finV_bool ..)
    | apply oK
    | refine lT ?_
    | refine lN ?_
    | refine lX ?_
    | refine lXn ?_
    | refine lXr ?_
    | apply lK
    | refine oI ?_
    | refine oJ rfl ?_
    | refine lI ?_
    | refine lJ rfl ?_
    | (with_reducible exact rfl)
  exact e
  repeat first
    | refine oB (by first | (with_reducible exact rfl) | (simp only [pu_val, nth_zero, nth_succ, gd_tt, gd_ff, gd_tf, gd_ft, gd_no, pickA_true, pickA_false, un_not]; first | done | (with_reducible exact rfl) | (with_reducible exact ⟨rfl, rfl⟩))) ?_
    | refine lB (by first | (with_reducible exact rfl) | (simp only [pu_val, nth_zero, nth_succ, gd_tt, gd_ff, gd_tf, gd_ft, gd_no, pickA_true, pickA_false, un_not]; first | done | (with_reducible exact rfl) | (with_reducible exact ⟨rfl, rfl⟩))) ?_
    | refine oT ?_
    | refine oN ?_
    | refine oX ?_
    | refine oXn ?_
    | refine oXr ?_
    | exact oF (finV_bool ..)
    | apply oK
    | refine lT ?_
    | refine lN ?_
    | refine lX ?_
    | refine lXn ?_
    | refine lXr ?_
    | apply lK
    | refine oI ?_
    | refine oJ rfl ?_
    | refine lI ?_
    | refine lJ rfl ?_
    | (with_reducible exact rfl)
  exact oF (fin_sl (e := 5) (xs := []) rfl rfl (by simp) hE)
end Go.Proofs.YtemkaggjbhpbbaaDoor.Mir
