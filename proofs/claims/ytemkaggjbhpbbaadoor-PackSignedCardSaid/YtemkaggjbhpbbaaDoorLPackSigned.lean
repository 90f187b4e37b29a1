/- The law of PackSigned, in plain Lean. -/
import Derived.Test.YtemkaggjbhpbbaaDoorMirY
import Derived.Test.YtemkaggjbhpbbaaDoorSf
namespace Go.Proofs.YtemkaggjbhpbbaaDoor
open Go Mir
set_option linter.unusedVariables false
set_option linter.unusedSimpArgs false

theorem of_nums {x : AV} {t e : TypeId} (hu : Tryd.prog.underlying t = some (.slice e)) (he : Tryd.prog.underlying e = some (.int .i64)) (h : IsT Tryd.prog t x) :
    ∃ l : List Int, x = .ro false (intsV l) ∧ (∀ n ∈ l, (Lit.int .i64 n).wf = true) ∧ l.length ≤ maxLen := h.of_ints hu he

def qv (lo hi x : Int) : Int := x % (lo + hi + 1) - lo
theorem qv_in (lo hi x : Int) (h1 : 0 ≤ lo) (h2 : 0 ≤ hi) : -lo ≤ qv lo hi x ∧ qv lo hi x ≤ hi := by
  have a := Int.emod_lt_of_pos x (show (0 : Int) < lo + hi + 1 by omega)
  have b := Int.emod_nonneg x (show lo + hi + 1 ≠ 0 by omega)
  unfold qv; omega
def stG (lo hi : Int) (a : List Int) (i : Nat) : List AV := [.int .i64 lo, .int .i64 hi, .ro false (intsV a), .bool true, .sl 0 i 0 i 1, Nn i]
def hpG (lo hi : Int) (a : List Int) (i : Nat) : AHeap := [⟨3, 1, intsV ((a.take i).map (qv lo hi))⟩]

theorem l10_loop (G : Globs) (k : Nat) (self : Den) (lo hi : Int) (h1 : 0 ≤ lo ∧ lo < 5000) (h2 : 1 ≤ hi ∧ hi ≤ 5000) (a : List Int) (ha : a.length ≤ 200) (hr : ∀ x ∈ a, -9223372036854775808 ≤ x ∧ x < 9223372036854775808) : ∀ (r i f : Nat), i + r = a.length / 8 * 8 → r < f →
    loopN (alembiclaw6_PackSigned.l10 G (k + 1) 1 self) f (stG lo hi a i) (hpG lo hi a i) = some (.exit 0, stG lo hi a (a.length / 8 * 8), hpG lo hi a (a.length / 8 * 8))
  | _, _, 0, _, h => by omega
  | r, i, f + 1, hi', h => by
    have c1 : lenSl (.ro false (intsV a)) = some (Nn a.length) := by simp [lenSl, intsV_len]
    have c2 : bin Tryd.prog .quo 3 true (Nn a.length) (.int .i64 8) = some (Nn (a.length / 8)) := by
      have e : ((a.length : Int).tdiv 8) = ((a.length / 8 : Nat) : Int) := rfl
      rw [bin_quo _ _ _ _ _ _ (by decide), e, wrap_of_i64 (by omega) (by omega)]
    have c3 : bin Tryd.prog .mul 3 true (Nn (a.length / 8)) (.int .i64 8) = some (Nn (a.length / 8 * 8)) := by
      rw [bin_mul, wrap_of_i64 (by omega) (by omega)]; congr 2
    have hcut : cutH 1 (stG lo hi a i) (hpG lo hi a i) = some (hpG lo hi a i) := cutH_of (by simp [stG, belowL, belowB, intsV_below]) (by simp [hpG, heapBelow, intsV_below]) rfl
    rw [loopN_succ, alembiclaw6_PackSigned.l10]
    refine lC hcut ?_
    unfold stG
    cases r with
    | zero =>
      have c4 : bin Tryd.prog .lss 3 false (Nn i) (Nn (a.length / 8 * 8)) = some (.bool false) := by rw [bin_lss, decide_eq_false (by omega)]
      have hi2 : i = a.length / 8 * 8 := by omega
      repeat first
        | refine oB (by first | (simp only [pu_val, nth_zero, nth_succ, gd_tt, gd_ff, gd_tf, gd_ft, gd_no, pickA_true, pickA_false, un_not, c1, c2, c3, c4]; first | done | (with_reducible exact rfl) | (with_reducible exact ⟨rfl, rfl⟩)) | (with_reducible exact rfl)) ?_
        | refine lB (by first | (simp only [pu_val, nth_zero, nth_succ, gd_tt, gd_ff, gd_tf, gd_ft, gd_no, pickA_true, pickA_false, un_not, c1, c2, c3, c4]; first | done | (with_reducible exact rfl) | (with_reducible exact ⟨rfl, rfl⟩)) | (with_reducible exact rfl)) ?_
        | refine oT ?_
        | refine oN ?_
        | refine oX ?_
        | refine oXn ?_
        | refine oXr ?_
        | exact oF (finV_bool ..)
        | apply oK
        | refine lT ?_
        | refine lN ?_
        | refine lX ?_
        | refine lXn ?_
        | refine lXr ?_
        | apply lK
        | refine oI ?_
        | refine oJ rfl ?_
        | refine lI ?_
        | refine lJ rfl ?_
        | (with_reducible exact rfl)
      rw [hi2]; rfl
    | succ r =>
      have c4 : bin Tryd.prog .lss 3 false (Nn i) (Nn (a.length / 8 * 8)) = some (.bool true) := by rw [bin_lss, decide_eq_true (by omega)]
      have hil : i < a.length := by omega
      have c5 := idx_ints false a i a[i] (by simp)
      have c6 : bin Tryd.prog .add 3 false (.int .i64 lo) (.int .i64 hi) = some (.int .i64 (lo + hi)) := by rw [bin_add, wrap_of_i64 (by omega) (by omega)]
      have c7 : bin Tryd.prog .add 3 true (.int .i64 (lo + hi)) (.int .i64 1) = some (.int .i64 (lo + hi + 1)) := by rw [bin_add, wrap_of_i64 (by omega) (by omega)]
      have hx := hr a[i] (by simp)
      have c8 : ∀ H, pureCall (alembicworld_Number.f G (k + 1)) [.int .i64 a[i], .int .i64 (lo + hi + 1)] H = some (.int .i64 (a[i] % (lo + hi + 1)), H) := fun H =>
        pureCall_of (number G k a[i] (lo + hi + 1) (by omega) (by omega) hx.1 hx.2) rfl rfl
      have b1 := Int.emod_lt_of_pos a[i] (show (0 : Int) < lo + hi + 1 by omega)
      have b2 := Int.emod_nonneg a[i] (show lo + hi + 1 ≠ 0 by omega)
      have c9 : bin Tryd.prog .sub 3 false (.int .i64 (a[i] % (lo + hi + 1))) (.int .i64 lo) = some (.int .i64 (qv lo hi a[i])) := by
        rw [bin_sub, wrap_of_i64 (by omega) (by omega)]; rfl
      have c10 : bin Tryd.prog .add 3 true (Nn i) (.int .i64 1) = some (Nn (i + 1)) := by
        rw [bin_add, wrap_of_i64 (by omega) (by omega)]; congr 2
      have c11 : appendV 3 1 (.sl 0 i 0 i 1) (.ro false [.int .i64 (qv lo hi a[i])]) (hpG lo hi a i) = some (.sl 0 (i + 1) 0 (i + 1) 1, hpG lo hi a (i + 1)) := by
        have e1 := appendV_one (e := 3) (b := 0) (L := i) (bor := false) (y := .int .i64 (qv lo hi a[i])) (H := hpG lo hi a i) (xs := intsV ((a.take i).map (qv lo hi))) rfl (by simp [intsV_len]; omega) (by omega) rfl
        rw [e1]
        have e : (a.take i).map (qv lo hi) ++ [qv lo hi a[i]] = (a.take (i + 1)).map (qv lo hi) := by
          rw [List.take_add_one, List.map_append]; simp [hil]
        have e2 : intsV ((a.take i).map (qv lo hi)) ++ [AV.int .i64 (qv lo hi a[i])] = intsV ((a.take (i + 1)).map (qv lo hi)) := by rw [← e]; simp [intsV]
        rw [e2]; rfl
      obtain ⟨w, hw⟩ : ∃ w, w = qv lo hi a[i] := ⟨_, rfl⟩
      obtain ⟨u, hu⟩ : ∃ u, u = a[i] % (lo + hi + 1) := ⟨_, rfl⟩
      obtain ⟨z, hz⟩ : ∃ z, z = a[i] := ⟨_, rfl⟩
      rw [← hw] at c9 c11
      rw [← hu] at c9
      simp only [← hu] at c8
      rw [← hz] at c5
      simp only [← hz] at c8
      clear hw hu hz
      repeat first
        | refine oB (by first | (simp only [pu_val, nth_zero, nth_succ, gd_tt, gd_ff, gd_tf, gd_ft, gd_no, pickA_true, pickA_false, un_not, c1, c2, c3, c4, c5, c6, c7, c8, load_int]; first | done | (with_reducible exact rfl) | (with_reducible exact ⟨rfl, rfl⟩)) | (with_reducible exact rfl)) ?_
        | refine lB (by first | (simp only [pu_val, nth_zero, nth_succ, gd_tt, gd_ff, gd_tf, gd_ft, gd_no, pickA_true, pickA_false, un_not, c1, c2, c3, c4, c5, c6, c7, c8, load_int]; first | done | (with_reducible exact rfl) | (with_reducible exact ⟨rfl, rfl⟩)) | (with_reducible exact rfl)) ?_
        | refine oT ?_
        | refine oN ?_
        | refine oX ?_
        | refine oXn ?_
        | refine oXr ?_
        | exact oF (finV_bool ..)
        | apply oK
        | refine lT ?_
        | refine lN ?_
        | refine lX ?_
        | refine lXn ?_
        | refine lXr ?_
        | apply lK
        | refine oI ?_
        | refine oJ rfl ?_
        | refine lI ?_
        | refine lJ rfl ?_
        | (with_reducible exact rfl)
      refine lB ((congrArg (pu _) c9).trans (pu_val _ _)) ?_
      refine lB (buildRo_int ..) ?_
      refine lB c11 ?_
      refine lB ((congrArg (pu _) c10).trans (pu_val _ _)) ?_
      exact l10_loop G k self lo hi h1 h2 a ha hr r (i + 1) f (by omega) (by omega)

theorem stG_zero (lo hi : Int) (a : List Int) : stG lo hi a 0 = [.int .i64 lo, .int .i64 hi, .ro false (intsV a), .bool true, .sl 0 0 0 0 1, .int .i64 0] := rfl
theorem hpG_zero (lo hi : Int) (a : List Int) : hpG lo hi a 0 = [⟨3, 1, []⟩] := rfl

abbrev GS : Globs := sentG 72 [0, 1, 2, 3, 4, 5, 6, 7, 8, 9, 10, 11, 12, 13]
abbrev E0 : AV := .iface 72 (.gp 0)
theorem is0 (k : Nat) : alembicsee_Is.f GS (k + 40) [E0, .int .i64 101] [] = some (.bool true, []) := by kernel_rfl

set_option maxRecDepth 100000 in
theorem LPackSigned.law (xs : List AV) (h : IsTs Tryd.prog [3, 3, 27] xs) : ∃ k, alembiclaw6_PackSigned.f (sentG 72 [0, 1, 2, 3, 4, 5, 6, 7, 8, 9, 10, 11, 12, 13]) k xs [] = some (.bool true, []) := by
  obtain ⟨x, _, rfl, hx, h⟩ := h.uncons
  obtain ⟨y, _, rfl, hy, h⟩ := h.uncons
  obtain ⟨z, _, rfl, hz, h⟩ := h.uncons
  obtain rfl := h.unnil
  obtain ⟨l0, rfl, hl0⟩ := hx.of_int Tryd.underlying3
  obtain ⟨g0, rfl, hg0⟩ := hy.of_int Tryd.underlying3
  obtain ⟨a, rfl, ha, _⟩ := of_nums Tryd.underlying27 Tryd.underlying3 hz
  have hl0' := wf_i64 hl0
  have hg0' := wf_i64 hg0
  have har := fun x hx => wf_i64 (ha x hx)
  clear h hx hy hz hl0 hg0 ha
  refine ⟨3001, ?_⟩
  have rf : ∀ H, pureCall (alembiclaw6_first.f GS 3000) [] H = _ := fun H => pureCall_of (H := H) (first_ok GS 2970) rfl rfl
  have hG0 : GS 0 = some E0 := rfl
  have i0 : ∀ H, pureCall (alembicsee_Is.f GS 3000) [E0, .int .i64 101] H = _ := fun H => pureCall_of (H := H) (is0 2960) rfl rfl
  change alembiclaw6_PackSigned.f GS 3001 _ _ = _
  generalize GS = G at *
  have c1 : lenSl (.ro false (intsV a)) = some (Nn a.length) := by simp [lenSl, intsV_len]
  have c3 : bin Tryd.prog .gtr 3 true (Nn a.length) (.int .i64 200) = some (.bool (decide (200 < a.length))) := by
    rw [bin_gtr]; congr 2; exact decide_eq_decide.2 (by omega)
  rw [alembiclaw6_PackSigned.step]
  unfold alembiclaw6_PackSigned.c
  by_cases hla : 200 < a.length
  · simp only [decide_eq_true hla] at c3
    repeat first
      | refine oB (by first | (simp only [pu_val, nth_zero, nth_succ, gd_tt, gd_ff, gd_tf, gd_ft, gd_no, pickA_true, pickA_false, un_not, rf, c1, c3, Bool.not_true]; first | done | (with_reducible exact rfl) | (with_reducible exact ⟨rfl, rfl⟩)) | (with_reducible exact rfl)) ?_
      | refine lB (by first | (simp only [pu_val, nth_zero, nth_succ, gd_tt, gd_ff, gd_tf, gd_ft, gd_no, pickA_true, pickA_false, un_not, rf, c1, c3, Bool.not_true]; first | done | (with_reducible exact rfl) | (with_reducible exact ⟨rfl, rfl⟩)) | (with_reducible exact rfl)) ?_
      | refine oT ?_
      | refine oN ?_
      | refine oX ?_
      | refine oXn ?_
      | refine oXr ?_
      | exact oF (finV_bool ..)
      | apply oK
      | refine lT ?_
      | refine lN ?_
      | refine lX ?_
      | refine lXn ?_
      | refine lXr ?_
      | apply lK
      | refine oI ?_
      | refine oJ rfl ?_
      | refine lI ?_
      | refine lJ rfl ?_
      | (with_reducible exact rfl)
  simp only [decide_eq_false hla] at c3
  obtain ⟨lo, hlo⟩ : ∃ lo, lo = l0 % 5000 := ⟨_, rfl⟩
  obtain ⟨hi, hhi⟩ : ∃ hi, hi = g0 % 5000 + 1 := ⟨_, rfl⟩
  have h1 : 0 ≤ lo ∧ lo < 5000 := by omega
  have h2 : 1 ≤ hi ∧ hi ≤ 5000 := by omega
  have k1 : 0 ≤ lo ∧ lo ≤ 8388608 := by omega
  have k2 : 0 ≤ hi ∧ hi ≤ 8388608 := by omega
  have k3 : 0 < lo + hi := by omega
  have k4 : lo + hi < 16777216 := by omega
  have c4 : ∀ H, pureCall (alembicworld_Number.f G 3000) [.int .i64 l0, .int .i64 5000] H = some (.int .i64 lo, H) := fun H => by
    rw [hlo]; exact pureCall_of (number G 2999 l0 5000 (by decide) (by decide) hl0'.1 hl0'.2) rfl rfl
  have c5 : ∀ H, pureCall (alembicworld_Number.f G 3000) [.int .i64 g0, .int .i64 5000] H = some (.int .i64 (g0 % 5000), H) := fun H =>
    pureCall_of (number G 2999 g0 5000 (by decide) (by decide) hg0'.1 hg0'.2) rfl rfl
  have c6 : bin Tryd.prog .add 3 true (.int .i64 (g0 % 5000)) (.int .i64 1) = some (.int .i64 hi) := by
    rw [bin_add, wrap_of_i64 (by omega) (by omega), hhi]
  obtain ⟨d, hd⟩ : ∃ d, d = bl (lo + hi).toNat := ⟨_, rfl⟩
  obtain ⟨z1, z2, z3⟩ := blz lo hi k1.1 k2.1 k3 k4
  rw [← hd] at z1 z2 z3
  clear hlo hhi
  obtain ⟨m, hm⟩ : ∃ m, m = a.length / 8 := ⟨_, rfl⟩
  have hm' : a.length / 8 * 8 = 8 * m := by omega
  have hl := l10_loop G 2999 (alembiclaw6_PackSigned.f G 3000) lo hi h1 h2 a (by omega) har (a.length / 8 * 8) 0 3000 (by omega) (by omega)
  rw [stG_zero, hpG_zero, hm'] at hl
  obtain ⟨ls, hls⟩ : ∃ ls, ls = (a.take (8 * m)).map (qv lo hi) := ⟨_, rfl⟩
  have hll : ls.length = 8 * m := by rw [hls]; simp; omega
  have hlr : ∀ x ∈ ls, -lo ≤ x ∧ x ≤ hi := fun x hx => by
    rw [hls] at hx; obtain ⟨w, _, rfl⟩ := List.mem_map.1 hx; exact qv_in lo hi w (by omega) (by omega)
  have hst : stG lo hi a (8 * m) = [.int .i64 lo, .int .i64 hi, .ro false (intsV a), .bool true, .sl 0 (8 * m) 0 (8 * m) 1, Nn (8 * m)] := rfl
  have hhp : hpG lo hi a (8 * m) = [⟨3, 1, intsV ls⟩] := by rw [hls]; rfl
  rw [hst, hhp] at hl
  have hsn : ∀ H : AHeap, H[0]? = some ⟨3, 1, intsV ls⟩ → snap H (.sl 0 (8 * m) 0 (8 * m) 1) = some (.ro true (intsV ls)) := fun H hH =>
    snap_sl hH (by rw [intsV_len, hll]) ints_of
  -- the bytes
  have hdl : (down hi ls).length = 8 * m := by simp [down, hll]
  have eL : Lb d (down hi ls) = d * m := by unfold Lb; rw [hdl, Nat.mul_left_comm, Nat.mul_div_cancel_left _ (by decide)]
  obtain ⟨ds, hds⟩ : ∃ ds, ds = (down hi ls).map Int.toNat := ⟨_, rfl⟩
  have hdsl : ds.length = 8 * m := by rw [hds]; simp [hdl]
  have hdr : ∀ x ∈ down hi ls, 0 ≤ x ∧ x ≤ lo + hi := fun x hx => by
    obtain ⟨y, hy, rfl⟩ := List.mem_map.1 hx
    have := hlr y hy; omega
  have hdx : ∀ x ∈ ds, x < 2 ^ d := fun x hx => by
    rw [hds] at hx; obtain ⟨y, hy, rfl⟩ := List.mem_map.1 hx
    have := hdr y hy; omega
  have hdc : ds.map (fun (x : Nat) => (x : Int)) = down hi ls := by
    rw [hds, List.map_map]
    exact (List.map_congr_left (fun x hx => by have := hdr x hx; simp; omega)).trans (List.map_id _)
  have eV : Vb d (down hi ls) = val (2 ^ d) ds := by unfold Vb; rw [hds]
  obtain ⟨bs, hbs⟩ : ∃ bs, bs = digs 256 (d * m) (val (2 ^ d) ds) := ⟨_, rfl⟩
  have hbl : bs.length = d * m := by rw [hbs, digs_length]
  have hdm : d * m ≤ 24 * 25 := Nat.mul_le_mul z2 (by omega)
  have s1 : ∀ H : AHeap, H[0]? = some ⟨3, 1, intsV ls⟩ → pureCall (pack_Signed.f G 3000) [.int .i64 lo, .int .i64 hi, .sl 0 (8 * m) 0 (8 * m) 1] H = some (.tup [.ro false (bytesV bs), .nili], H) := fun H hH => by
    have e := signed_ok G 2999 lo hi k1 k2 k3 k4 true ls (by omega) (by omega) d hd (by rw [hll]; simp) hlr
    rw [eL, eV, ← hbs] at e
    exact pureCall_as (snapL_cons snap_int (snapL_cons snap_int (snapL_cons (hsn H hH) snapL_nil))) e (by simp [cleanB, cleanL, clean_ints bytes_of])
  have s1' := s1 [⟨3, 1, intsV ls⟩] rfl
  have s2 : ∀ H, pureCall (pack_OpenSigned.f G 3000) [.int .i64 lo, .int .i64 hi, Nn (8 * m), .ro false (bytesV bs)] H = some (.tup [.ro false (intsV ls), .nili], H) := fun H => by
    have hback : digs (2 ^ d) (8 * m) (val 256 bs) = ds := by rw [hbs]; exact digs_back d (8 * m) (d * m) (by rw [Nat.mul_left_comm]) ds hdsl hdx
    have e := opens_ok G 2999 lo hi k1 k2 k3 k4 (8 * m) (by omega) false bs (by omega) d hd (by rw [Nat.mul_left_comm]; simp) (by rw [hbl, Nat.mul_left_comm, Nat.mul_div_cancel_left _ (by decide)]) (by rw [hbs]; exact digs_lt 256 (by decide) _ _) (fun x hx => by
      rw [hback, hds] at hx; obtain ⟨y, hy, rfl⟩ := List.mem_map.1 hx
      have := hdr y hy; omega)
    rw [hback, hdc] at e
    have e2 : down hi (down hi ls) = ls := by
      unfold down; rw [List.map_map]
      exact (List.map_congr_left (fun x hx => by simp; omega)).trans (List.map_id _)
    rw [e2] at e
    exact pureCall_of e (by simp [plainL, plainB, plain_ints bytes_of]) (by simp [cleanB, cleanL, clean_ints ints_of])
  have ex0 : ∀ x y : AV, extractA (.tup [x, y]) 0 = some x := fun _ _ => rfl
  have ex1 : ∀ x y : AV, extractA (.tup [x, y]) 1 = some y := fun _ _ => rfl
  have c7 : lenSl (.sl 0 (8 * m) 0 (8 * m) 1) = some (Nn (8 * m)) := rfl
  have c8 : un .neg (.int .i64 lo) = some (.int .i64 (-lo)) := by simp only [un]; rw [wrap_of_i64 (by omega) (by omega)]; congr 2; omega
  obtain ⟨nl, hnl⟩ : ∃ nl : Int, nl = -lo := ⟨_, rfl⟩
  rw [← hnl] at c8
  -- the edges
  have mk : buildOwn 3 1 8 (.int .i64 0) [(0, .int .i64 nl), (1, .int .i64 hi), (2, .int .i64 nl), (3, .int .i64 hi), (4, .int .i64 nl), (5, .int .i64 hi), (6, .int .i64 nl), (7, .int .i64 hi)] [⟨3, 1, intsV ls⟩] =
      some (.sl 1 8 0 8 1, [⟨3, 1, intsV ls⟩, ⟨3, 1, intsV [nl, hi, nl, hi, nl, hi, nl, hi]⟩]) := rfl
  have sE : ∀ (es : List Int), es.length = 8 → snapL [⟨3, 1, intsV ls⟩, ⟨3, 1, intsV es⟩] [.int .i64 lo, .int .i64 hi, .sl 1 8 0 8 1] = some [.int .i64 lo, .int .i64 hi, .ro true (intsV es)] := fun es hes =>
    snapL_cons snap_int (snapL_cons snap_int (snapL_cons (snap_sl (e := 3) rfl (by rw [intsV_len, hes]) ints_of) snapL_nil))
  obtain ⟨bb, t1⟩ : ∃ bb, pureCall (pack_Signed.f G 3000) [.int .i64 lo, .int .i64 hi, .sl 1 8 0 8 1] [⟨3, 1, intsV ls⟩, ⟨3, 1, intsV [nl, hi, nl, hi, nl, hi, nl, hi]⟩] = some (.tup [.ro false (bytesV bb), .nili], [⟨3, 1, intsV ls⟩, ⟨3, 1, intsV [nl, hi, nl, hi, nl, hi, nl, hi]⟩]) := by
    have e := signed_ok G 2999 lo hi k1 k2 k3 k4 true [nl, hi, nl, hi, nl, hi, nl, hi] (by simp) (by simp) d hd (by simp) (fun x hx => by
      simp only [List.mem_cons, List.not_mem_nil, or_false] at hx
      rcases hx with rfl | rfl | rfl | rfl | rfl | rfl | rfl | rfl <;> omega)
    exact ⟨_, pureCall_as (sE _ rfl) e (by simp [cleanB, cleanL, clean_ints bytes_of])⟩
  have c9 : bin Tryd.prog .add 3 true (.int .i64 hi) (.int .i64 1) = some (.int .i64 (hi + 1)) := by rw [bin_add, wrap_of_i64 (by omega) (by omega)]
  have c10 : idxAddrSl 1 (.sl 1 8 0 8 1) (.int .i64 3) = some (.ptr 1 8 3 0) := rfl
  obtain ⟨h', hh'⟩ : ∃ h' : Int, h' = hi + 1 := ⟨_, rfl⟩
  rw [← hh'] at c9
  have c11 : stS (storeV 1 (.ptr 1 8 3 0) (.int .i64 h') [⟨3, 1, intsV ls⟩, ⟨3, 1, intsV [nl, hi, nl, hi, nl, hi, nl, hi]⟩]) = some (.tup [], [⟨3, 1, intsV ls⟩, ⟨3, 1, intsV [nl, hi, nl, h', nl, hi, nl, hi]⟩]) := rfl
  have t2 : pureCall (pack_Signed.f G 3000) [.int .i64 lo, .int .i64 hi, .sl 1 8 0 8 1] [⟨3, 1, intsV ls⟩, ⟨3, 1, intsV [nl, hi, nl, h', nl, hi, nl, hi]⟩] = some (.tup [.ro false [], E0], [⟨3, 1, intsV ls⟩, ⟨3, 1, intsV [nl, hi, nl, h', nl, hi, nl, hi]⟩]) := by
    have e := signed_fail G 2999 lo hi k1 k2 k3 true [nl, hi, nl, h', nl, hi, nl, hi] (by simp) (by simp) (fun hc => by have := hc h' (by simp); omega) E0 rfl hG0
    exact pureCall_as (sE _ rfl) e rfl
  have c12 : bin Tryd.prog .sub 3 true (.int .i64 nl) (.int .i64 1) = some (.int .i64 (nl - 1)) := by rw [bin_sub, wrap_of_i64 (by omega) (by omega)]
  obtain ⟨n', hn'⟩ : ∃ n' : Int, n' = nl - 1 := ⟨_, rfl⟩
  rw [← hn'] at c12
  have c13 : stS (storeV 1 (.ptr 1 8 3 0) (.int .i64 n') [⟨3, 1, intsV ls⟩, ⟨3, 1, intsV [nl, hi, nl, h', nl, hi, nl, hi]⟩]) = some (.tup [], [⟨3, 1, intsV ls⟩, ⟨3, 1, intsV [nl, hi, nl, n', nl, hi, nl, hi]⟩]) := rfl
  have t3 : pureCall (pack_Signed.f G 3000) [.int .i64 lo, .int .i64 hi, .sl 1 8 0 8 1] [⟨3, 1, intsV ls⟩, ⟨3, 1, intsV [nl, hi, nl, n', nl, hi, nl, hi]⟩] = some (.tup [.ro false [], E0], [⟨3, 1, intsV ls⟩, ⟨3, 1, intsV [nl, hi, nl, n', nl, hi, nl, hi]⟩]) := by
    have e := signed_fail G 2999 lo hi k1 k2 k3 true [nl, hi, nl, n', nl, hi, nl, hi] (by simp) (by simp) (fun hc => by have := hc n' (by simp); omega) E0 rfl hG0
    exact pureCall_as (sE _ rfl) e rfl
  have n2 : bin Tryd.prog .eql 30 true .nili .nili = some (.bool true) := by kernel_rfl
  have s3 : ∀ (X : ABlk), pureCall (alembicref_SameInts.f G 3000) [.ro false (intsV ls), .sl 0 (8 * m) 0 (8 * m) 1] [⟨3, 1, intsV ls⟩, X] = some (.bool true, [⟨3, 1, intsV ls⟩, X]) := fun X => by
    refine pureCall_as (snapL_cons (snap_ro ints_of) (snapL_cons (hsn _ rfl) snapL_nil)) ?_ rfl
    have := SameInts_spec G 2999 false true ls ls (by omega) (by omega) (by omega)
    rw [this]; simp
  have c14 : lenSl (.ro false (bytesV bs)) = some (Nn (d * m)) := by simp [lenSl, bytesV_len, hbl]
  have c15 : bin Tryd.prog .add 3 false (.int .i64 lo) (.int .i64 hi) = some (.int .i64 (lo + hi)) := by rw [bin_add, wrap_of_i64 (by omega) (by omega)]
  have c16 : ∀ H, pureCall (pack_Width.f G 3000) [.int .i64 (lo + hi)] H = some (Nn d, H) := fun H => by
    rw [hd]; exact pureCall_of (width G 2997 (lo + hi) (by omega)) rfl rfl
  have c17 : bin Tryd.prog .mul 3 false (Nn d) (Nn (8 * m)) = some (Nn (8 * (d * m))) := by
    rw [bin_mul, ← Int.natCast_mul, Nat.mul_left_comm, wrap_of_i64 (by omega) (by omega)]
  have c18 : bin Tryd.prog .quo 3 true (Nn (8 * (d * m))) (.int .i64 8) = some (Nn (d * m)) := by
    have e : (((8 * (d * m) : Nat) : Int).tdiv 8) = ((8 * (d * m) / 8 : Nat) : Int) := rfl
    rw [bin_quo _ _ _ _ _ _ (by decide), e, Nat.mul_div_cancel_left _ (by decide), wrap_of_i64 (by omega) (by omega)]
  have c19 : bin Tryd.prog .eql 3 false (Nn (d * m)) (Nn (d * m)) = some (.bool true) := by rw [bin_eql]; simp
  clear hnl hh' hn' hbs hds hls
  repeat first
    | refine oB (by first | (simp only [pu_val, nth_zero, nth_succ, gd_tt, gd_ff, gd_tf, gd_ft, gd_no, pickA_true, pickA_false, un_not, rf, c1, c3, c4, c5, c6, Bool.not_true]; first | done | (with_reducible exact rfl) | (with_reducible exact ⟨rfl, rfl⟩)) | (with_reducible exact rfl)) ?_
    | refine lB (by first | (simp only [pu_val, nth_zero, nth_succ, gd_tt, gd_ff, gd_tf, gd_ft, gd_no, pickA_true, pickA_false, un_not, rf, c1, c3, c4, c5, c6, Bool.not_true]; first | done | (with_reducible exact rfl) | (with_reducible exact ⟨rfl, rfl⟩)) | (with_reducible exact rfl)) ?_
    | refine oT ?_
    | refine oN ?_
    | refine oX ?_
    | refine oXn ?_
    | refine oXr ?_
    | exact oF (finV_bool ..)
    | apply oK
    | refine lT ?_
    | refine lN ?_
    | refine lX ?_
    | refine lXn ?_
    | refine lXr ?_
    | apply lK
    | refine oI ?_
    | refine oJ rfl ?_
    | refine lI ?_
    | refine lJ rfl ?_
    | (with_reducible exact rfl)
  exact hl
  repeat first
    | refine oB (by first | (simp only [pu_val, nth_zero, nth_succ, gd_tt, gd_ff, gd_tf, gd_ft, gd_no, pickA_true, pickA_false, un_not, s1', ex0, ex1, c7, s2, c8, mk, t1, c9, c10, c11, t2, c12, c13, t3, n2, s3, c14, c15, c16, c17, c18, c19, i0]; first | done | (with_reducible exact rfl) | (with_reducible exact ⟨rfl, rfl⟩)) | (with_reducible exact rfl)) ?_
    | refine lB (by first | (simp only [pu_val, nth_zero, nth_succ, gd_tt, gd_ff, gd_tf, gd_ft, gd_no, pickA_true, pickA_false, un_not, s1', ex0, ex1, c7, s2, c8, mk, t1, c9, c10, c11, t2, c12, c13, t3, n2, s3, c14, c15, c16, c17, c18, c19, i0]; first | done | (with_reducible exact rfl) | (with_reducible exact ⟨rfl, rfl⟩)) | (with_reducible exact rfl)) ?_
    | refine oT ?_
    | refine oN ?_
    | refine oX ?_
    | refine oXn ?_
    | refine oXr ?_
    | exact oF (finV_bool ..)
    | apply oK
    | refine lT ?_
    | refine lN ?_
    | refine lX ?_
    | refine lXn ?_
    | refine lXr ?_
    | apply lK
    | refine oI ?_
    | refine oJ rfl ?_
    | refine lI ?_
    | refine lJ rfl ?_
    | (with_reducible exact rfl)
end Go.Proofs.YtemkaggjbhpbbaaDoor
