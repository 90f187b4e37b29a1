/- What pack.Bits gives: bytes of the number whose digits were handed in. -/
import Derived.Test.YtemkaggjbhpbbaaDoorSa
import Derived.Test.YtemkaggjbhpbbaaDoorDg
import Derived.Laws.BitsAllLaws
namespace Go.Proofs.YtemkaggjbhpbbaaDoor.Mir
open Go
set_option linter.unusedVariables false
set_option linter.unusedSimpArgs false

abbrev Nn (n : Nat) : AV := .int .i64 (n : Int)
def bytesV (l : List Nat) : List AV := l.map fun (x : Nat) => AV.int .u8 (x : Int)
def natsV (l : List Nat) : List AV := l.map fun (x : Nat) => AV.int .i64 (x : Int)
def intsV (l : List Int) : List AV := l.map fun (x : Int) => AV.int .i64 x

theorem bytesV_len (l : List Nat) : (bytesV l).length = l.length := by simp [bytesV]
theorem natsV_len (l : List Nat) : (natsV l).length = l.length := by simp [natsV]
theorem intsV_len (l : List Int) : (intsV l).length = l.length := by simp [intsV]
theorem bytesV_snoc (l : List Nat) (x : Nat) : bytesV l ++ [.int .u8 (x : Int)] = bytesV (l ++ [x]) := by simp [bytesV]
theorem natsV_snoc (l : List Nat) (x : Nat) : natsV l ++ [.int .i64 (x : Int)] = natsV (l ++ [x]) := by simp [natsV]
theorem bytesV_below (n : Nat) (l : List Nat) : belowL n (bytesV l) = true := belowL_map n _ (fun _ => rfl) l
theorem natsV_below (n : Nat) (l : List Nat) : belowL n (natsV l) = true := belowL_map n _ (fun _ => rfl) l
theorem intsV_below (n : Nat) (l : List Int) : belowL n (intsV l) = true := belowL_map n _ (fun _ => rfl) l

theorem cutH_of {n : Nat} {xs : List AV} {H : AHeap} (h1 : belowL n xs = true) (h2 : heapBelow n H = true) (h3 : H.length = n) : cutH n xs H = some H := by
  have e : H.take n = H := List.take_of_length_le (by omega)
  unfold cutH; rw [e, h1, h2]; rfl
theorem buildRo_int (z : AV) (k : IntKind) (n : Int) (H : AHeap) : buildRo 1 1 z [(0, .int k n)] H = some (.ro false [.int k n], H) := by
  simp [buildRo, fillE, storable, AV.cells]
theorem appendV_one {e b L : Nat} {bor : Bool} {y : AV} {H : AHeap} {xs : List AV} (hb : H[b]? = some ⟨e, 1, xs⟩) (hL : xs.length = L) (hm : L + 1 ≤ 1099511627776) (hy : y.cells.length = 1) :
    appendV e 1 (.sl b L 0 L 1) (.ro bor [y]) H = some (.sl b (L + 1) 0 (L + 1) 1, H.set b ⟨e, 1, xs ++ [y]⟩) := by
  subst hL
  simp [appendV, hb, elemsOf, allSz, hy, hm, List.drop_of_length_le]

theorem u8_of (r : Nat) : convInt .u8 (.int .u64 (r : Int)) = some (.int .u8 ((r % 256 : Nat) : Int)) := by
  rw [convInt_int, wrap_u8_eq]; rfl

theorem l14_loop (G : Globs) (k : Nat) (self : Den) (d A B C : AV) (hd : belowB 2 d = true) (hA : belowB 2 A = true) (hB : belowB 2 B = true) (hC : belowB 2 C = true) : ∀ (f n r : Nat) (out : List Nat), n / 8 < f → n < 100 → out.length + n ≤ 1099511627776 →
    loopN (pack_Bits.l14 G k 2 self) f [d, .sl 1 out.length 0 out.length 1, .int .u64 (r : Int), Nn n, A, B, C] [⟨5, 1, []⟩, ⟨5, 1, bytesV out⟩] =
      some (.exit 3, [d, .sl 1 (out.length + n / 8) 0 (out.length + n / 8) 1, .int .u64 ((r / 256 ^ (n / 8) : Nat) : Int), Nn (n % 8), A, B, C], [⟨5, 1, []⟩, ⟨5, 1, bytesV (out ++ digs 256 (n / 8) r)⟩])
  | 0, n, r, out, h, _, _ => by omega
  | f + 1, n, r, out, h, hn, ho => by
    rw [loopN_succ, pack_Bits.l14]
    refine lC (cutH_of (by simp [belowL, belowB, hd, hA, hB, hC]) (by simp [heapBelow, belowL, bytesV_below]) rfl) ?_
    by_cases h8 : 8 ≤ n
    · have c1 : bin Tryd.prog .geq 3 true (.int .i64 (n : Int)) (.int .i64 8) = some (.bool true) := by
        rw [bin_geq]; congr 2; exact decide_eq_true (by omega)
      have c2 : bin Tryd.prog .shr 51 true (.int .u64 (r : Int)) (.int .u64 8) = some (.int .u64 ((r / 256 : Nat) : Int)) := bin_shr_lit _ _ _ _ _ r 8 (by decide)
      have c3 : bin Tryd.prog .sub 3 true (.int .i64 (n : Int)) (.int .i64 8) = some (Nn (n - 8)) := by
        rw [bin_sub, wrap_of_i64 (by omega) (by omega)]; congr 2; omega
      have c4 := appendV_one (e := 5) (b := 1) (bor := false) (y := .int .u8 ((r % 256 : Nat) : Int)) (H := [⟨5, 1, []⟩, ⟨5, 1, bytesV out⟩]) (xs := bytesV out) rfl (bytesV_len out) (by omega) rfl
      repeat first
        | refine oB (by first | (with_reducible exact rfl) | (simp only [pu_val, nth_zero, nth_succ, gd_tt, gd_ff, gd_tf, gd_ft, gd_no, pickA_true, pickA_false, un_not, c1, c2, c3, c4, u8_of, buildRo_int, nth_zero, nth_succ]; first | done | (with_reducible exact rfl) | (with_reducible exact ⟨rfl, rfl⟩))) ?_
        | refine lB (by first | (with_reducible exact rfl) | (simp only [pu_val, nth_zero, nth_succ, gd_tt, gd_ff, gd_tf, gd_ft, gd_no, pickA_true, pickA_false, un_not, c1, c2, c3, c4, u8_of, buildRo_int, nth_zero, nth_succ]; first | done | (with_reducible exact rfl) | (with_reducible exact ⟨rfl, rfl⟩))) ?_
        | refine oT ?_
        | refine oN ?_
        | refine oX ?_
        | refine oXn ?_
        | refine oXr ?_
        | exact oF (finV_bool ..)
        | apply oK
        | refine lT ?_
        | refine lN ?_
        | refine lX ?_
        | refine lXn ?_
        | refine lXr ?_
        | apply lK
        | refine oI ?_
        | refine oJ rfl ?_
        | refine lI ?_
        | refine lJ rfl ?_
        | (with_reducible exact rfl)
      have e : n / 8 = (n - 8) / 8 + 1 := by omega
      have e2 : n % 8 = (n - 8) % 8 := by omega
      have ih := l14_loop G k self d A B C hd hA hB hC f (n - 8) (r / 256) (out ++ [r % 256]) (by omega) (by omega) (by simp; omega)
      rw [bytesV_snoc]
      simp only [List.length_append, List.length_cons, List.length_nil] at ih
      refine ih.trans ?_
      rw [e, e2, Nat.add_assoc, Nat.add_comm 1, Nat.div_div_eq_div_mul, Nat.pow_succ, Nat.mul_comm 256]
      simp [digs]
    · have c1 : bin Tryd.prog .geq 3 true (.int .i64 (n : Int)) (.int .i64 8) = some (.bool false) := by
        rw [bin_geq]; congr 2; exact decide_eq_false (by omega)
      repeat first
        | refine oB (by first | (with_reducible exact rfl) | (simp only [pu_val, nth_zero, nth_succ, gd_tt, gd_ff, gd_tf, gd_ft, gd_no, pickA_true, pickA_false, un_not, c1, nth_zero, nth_succ]; first | done | (with_reducible exact rfl) | (with_reducible exact ⟨rfl, rfl⟩))) ?_
        | refine lB (by first | (with_reducible exact rfl) | (simp only [pu_val, nth_zero, nth_succ, gd_tt, gd_ff, gd_tf, gd_ft, gd_no, pickA_true, pickA_false, un_not, c1, nth_zero, nth_succ]; first | done | (with_reducible exact rfl) | (with_reducible exact ⟨rfl, rfl⟩))) ?_
        | refine oT ?_
        | refine oN ?_
        | refine oX ?_
        | refine oXn ?_
        | refine oXr ?_
        | exact oF (finV_bool ..)
        | apply oK
        | refine lT ?_
        | refine lN ?_
        | refine lX ?_
        | refine lXn ?_
        | refine lXr ?_
        | apply lK
        | refine oI ?_
        | refine oJ rfl ?_
        | refine lI ?_
        | refine lJ rfl ?_
        | (with_reducible exact rfl)
      rw [Nat.div_eq_of_lt (by omega), Nat.mod_eq_of_lt (by omega)]
      simp [digs]
end Go.Proofs.YtemkaggjbhpbbaaDoor.Mir
