/- The law of PackSays, in plain Lean. -/
import Derived.Test.YtemkaggjbhpbbaaDoorMirY
import Derived.Test.YtemkaggjbhpbbaaDoorSj
namespace Go.Proofs.YtemkaggjbhpbbaaDoor
open Go Mir
set_option linter.unusedVariables false
set_option linter.unusedSimpArgs false

theorem of_nums' {x : AV} {t e : TypeId} (hu : Tryd.prog.underlying t = some (.slice e)) (he : Tryd.prog.underlying e = some (.int .i64)) (h : IsT Tryd.prog t x) :
    ∃ l : List Int, x = .ro false (intsV l) ∧ (∀ n ∈ l, (Lit.int .i64 n).wf = true) ∧ l.length ≤ maxLen := h.of_ints hu he
theorem of_bytes' {x : AV} {t e : TypeId} (hu : Tryd.prog.underlying t = some (.slice e)) (he : Tryd.prog.underlying e = some (.int .u8)) (h : IsT Tryd.prog t x) :
    ∃ l : List Nat, x = .ro false (bytesV l) ∧ (∀ n ∈ l, n < 256) := by
  obtain ⟨l, rfl, hw, hl⟩ := h.of_ints hu he
  refine ⟨l.map Int.toNat, ?_, ?_⟩
  · unfold bytesV
    rw [List.map_map]
    congr 1
    apply List.map_congr_left
    intro n hn
    obtain ⟨h1, h2⟩ := wf_u8 (hw n hn)
    simp only [Function.comp]
    rw [Int.toNat_of_nonneg h1]
  · intro n hn
    obtain ⟨z, hz, rfl⟩ := List.mem_map.1 hn
    have := wf_u8 (hw z hz)
    omega

abbrev GT : Globs := sentG 72 [0, 1, 2, 3, 4, 5, 6, 7, 8, 9, 10, 11, 12, 13]
theorem is_0 (k : Nat) : alembicsee_Is.f GT (k + 40) [errV 0, .int .i64 ((0 : Nat) : Int)] [] = some (.bool true, []) := by kernel_rfl
theorem is_101 (k : Nat) : alembicsee_Is.f GT (k + 40) [errV 101, .int .i64 ((101 : Nat) : Int)] [] = some (.bool true, []) := by kernel_rfl
theorem is_102 (k : Nat) : alembicsee_Is.f GT (k + 40) [errV 102, .int .i64 ((102 : Nat) : Int)] [] = some (.bool true, []) := by kernel_rfl
theorem errV_plain (c : Nat) : plainB (errV c) = true := by unfold errV; split <;> (try split) <;> rfl

set_option maxRecDepth 100000 in
theorem LPackSays.law (xs : List AV) (h : IsTs Tryd.prog [3, 3, 3, 3, 27, 28] xs) : ∃ k, alembiclaw6_PackSays.f (sentG 72 [0, 1, 2, 3, 4, 5, 6, 7, 8, 9, 10, 11, 12, 13]) k xs [] = some (.bool true, []) := by
  obtain ⟨x1, _, rfl, hx1, h⟩ := h.uncons
  obtain ⟨x2, _, rfl, hx2, h⟩ := h.uncons
  obtain ⟨x3, _, rfl, hx3, h⟩ := h.uncons
  obtain ⟨x4, _, rfl, hx4, h⟩ := h.uncons
  obtain ⟨x5, _, rfl, hx5, h⟩ := h.uncons
  obtain ⟨x6, _, rfl, hx6, h⟩ := h.uncons
  obtain rfl := h.unnil
  obtain ⟨d, rfl, hd⟩ := hx1.of_int Tryd.underlying3
  obtain ⟨n, rfl, hn⟩ := hx2.of_int Tryd.underlying3
  obtain ⟨lo, rfl, hlo⟩ := hx3.of_int Tryd.underlying3
  obtain ⟨hi, rfl, hhi⟩ := hx4.of_int Tryd.underlying3
  obtain ⟨a, rfl, ha, _⟩ := of_nums' Tryd.underlying27 Tryd.underlying3 hx5
  obtain ⟨b, rfl, hb⟩ := of_bytes' Tryd.underlying28 Tryd.underlying5 hx6
  replace hd := wf_i64 hd
  replace hn := wf_i64 hn
  replace hlo := wf_i64 hlo
  replace hhi := wf_i64 hhi
  clear h hx1 hx2 hx3 hx4 hx5 hx6 ha
  refine ⟨8001, ?_⟩
  have rf : ∀ H, pureCall (alembiclaw6_first.f GT 8000) [] H = _ := fun H => pureCall_of (H := H) (first_ok GT 7970) rfl rfl
  have hG0 : GT 0 = some E0 := rfl
  have hG1 : GT 1 = some E1 := rfl
  have is : ∀ c, okC c → ∀ H, pureCall (alembicsee_Is.f GT 8000) [errV c, Nn c] H = some (.bool true, H) := fun c hc H => by
    have hp : plainL [errV c, Nn c] = true := by simp [plainL, errV_plain, plainB]
    rcases hc with rfl | rfl | rfl
    · exact pureCall_of (is_0 7960) hp rfl
    · exact pureCall_of (is_101 7960) hp rfl
    · exact pureCall_of (is_102 7960) hp rfl
  change alembiclaw6_PackSays.f GT 8001 _ _ = _
  generalize GT = G at *
  have c1 : lenSl (.ro false (intsV a)) = some (Nn a.length) := by simp [lenSl, intsV_len]
  have c2 : lenSl (.ro false (bytesV b)) = some (Nn b.length) := by simp [lenSl, bytesV_len]
  have c3 : bin Tryd.prog .gtr 3 true (Nn a.length) (.int .i64 300) = some (.bool (decide (300 < a.length))) := by
    rw [bin_gtr]; congr 2; exact decide_eq_decide.2 (by omega)
  have c4 : bin Tryd.prog .gtr 3 true (Nn b.length) (.int .i64 600) = some (.bool (decide (600 < b.length))) := by
    rw [bin_gtr]; congr 2; exact decide_eq_decide.2 (by omega)
  rw [alembiclaw6_PackSays.step]
  unfold alembiclaw6_PackSays.c
  by_cases hla : 300 < a.length
  · simp only [decide_eq_true hla] at c3
    repeat first
      | refine oB (by first | (simp only [pu_val, nth_zero, nth_succ, gd_tt, gd_ff, gd_tf, gd_ft, gd_no, pickA_true, pickA_false, un_not, rf, c1, c3, Bool.not_true]; first | done | (with_reducible exact rfl) | (with_reducible exact ⟨rfl, rfl⟩)) | (with_reducible exact rfl)) ?_
      | refine lB (by first | (simp only [pu_val, nth_zero, nth_succ, gd_tt, gd_ff, gd_tf, gd_ft, gd_no, pickA_true, pickA_false, un_not, rf, c1, c3, Bool.not_true]; first | done | (with_reducible exact rfl) | (with_reducible exact ⟨rfl, rfl⟩)) | (with_reducible exact rfl)) ?_
      | refine oT ?_
      | refine oN ?_
      | refine oX ?_
      | refine oXn ?_
      | refine oXr ?_
      | exact oF (finV_bool ..)
      | apply oK
      | refine lT ?_
      | refine lN ?_
      | refine lX ?_
      | refine lXn ?_
      | refine lXr ?_
      | apply lK
      | refine oI ?_
      | refine oJ rfl ?_
      | refine lI ?_
      | refine lJ rfl ?_
      | (with_reducible exact rfl)
  simp only [decide_eq_false hla] at c3
  by_cases hlb : 600 < b.length
  · simp only [decide_eq_true hlb] at c4
    repeat first
      | refine oB (by first | (simp only [pu_val, nth_zero, nth_succ, gd_tt, gd_ff, gd_tf, gd_ft, gd_no, pickA_true, pickA_false, un_not, rf, c1, c2, c3, c4, Bool.not_true]; first | done | (with_reducible exact rfl) | (with_reducible exact ⟨rfl, rfl⟩)) | (with_reducible exact rfl)) ?_
      | refine lB (by first | (simp only [pu_val, nth_zero, nth_succ, gd_tt, gd_ff, gd_tf, gd_ft, gd_no, pickA_true, pickA_false, un_not, rf, c1, c2, c3, c4, Bool.not_true]; first | done | (with_reducible exact rfl) | (with_reducible exact ⟨rfl, rfl⟩)) | (with_reducible exact rfl)) ?_
      | refine oT ?_
      | refine oN ?_
      | refine oX ?_
      | refine oXn ?_
      | refine oXr ?_
      | exact oF (finV_bool ..)
      | apply oK
      | refine lT ?_
      | refine lN ?_
      | refine lX ?_
      | refine lXn ?_
      | refine lXr ?_
      | apply lK
      | refine oI ?_
      | refine oJ rfl ?_
      | refine lI ?_
      | refine lJ rfl ?_
      | (with_reducible exact rfl)
  simp only [decide_eq_false hlb] at c4
  obtain ⟨l1, e1, k1, w1, b1, b2⟩ := bits_pair G 7999 d hd false a (by omega) (by omega) hG0 hG1
  obtain ⟨p, e2, H', k2, w2, _, _, hH, o1, o2⟩ := open_pair G 7999 d n false b hb (by omega) (by omega) hG0 hG1
  obtain ⟨l3, e3, k3, w3, s1, s2⟩ := signed_pair G 7999 lo hi hlo hhi false a (by omega) (by omega) hG0 hG1
  obtain ⟨l4, e4, k4, w4, t1, t2⟩ := opens_pair G 7999 lo hi n hlo hhi false b hb (by omega) (by omega) hG0 hG1
  have pa : plainL (intsV a) = true := plain_ints ints_of
  have pb : plainL (bytesV b) = true := plain_ints bytes_of
  have cb : ∀ (l : List Nat) (x : AV), cleanB x = true → cleanB (.tup [.ro false (bytesV l), x]) = true := fun l x hx => by simp [cleanB, cleanL, clean_ints bytes_of, hx]
  have ci : ∀ (l : List Int) (x : AV), cleanB x = true → cleanB (.tup [.ro false (intsV l), x]) = true := fun l x hx => by simp [cleanB, cleanL, clean_ints ints_of, hx]
  have cn : ∀ (l : List Nat) (x : AV), cleanB x = true → cleanB (.tup [.ro false (natsV l), x]) = true := fun l x hx => by simp [cleanB, cleanL, clean_ints nats_of, hx]
  have r1 : ∀ H, pureCall (pack_Bits.f G 8000) [.int .i64 d, .ro false (intsV a)] H = _ := fun H => pureCall_of (H := H) b1 (by simp [plainL, plainB, pa]) (cb _ _ (errV_clean e1))
  have r2 : ∀ H, pureCall (alembicref4_Bits.f G 8000) [.int .i64 d, .ro false (intsV a)] H = _ := fun H => pureCall_of (H := H) b2 (by simp [plainL, plainB, pa]) (cb _ _ rfl)
  have r3 : heapCall (pack_Open.f G 8000) [.int .i64 d, .int .i64 n, .ro false (bytesV b)] [] = some (.tup [.sl 1 p.length 0 p.length 1, errV e2], H') := by
    unfold heapCall; rw [o1, hH]; rfl
  have r4 : ∀ H, pureCall (alembicref4_Open.f G 8000) [.int .i64 d, .int .i64 n, .ro false (bytesV b)] H = _ := fun H => pureCall_of (H := H) o2 (by simp [plainL, plainB, pb]) (cn _ _ rfl)
  have r5 : ∀ H, pureCall (pack_Signed.f G 8000) [.int .i64 lo, .int .i64 hi, .ro false (intsV a)] H = _ := fun H => pureCall_of (H := H) s1 (by simp [plainL, plainB, pa]) (cb _ _ (errV_clean e3))
  have r6 : ∀ H, pureCall (alembicref4_Signed.f G 8000) [.int .i64 lo, .int .i64 hi, .ro false (intsV a)] H = _ := fun H => pureCall_of (H := H) s2 (by simp [plainL, plainB, pa]) (cb _ _ rfl)
  have r7 : ∀ H, pureCall (pack_OpenSigned.f G 8000) [.int .i64 lo, .int .i64 hi, .int .i64 n, .ro false (bytesV b)] H = _ := fun H => pureCall_of (H := H) t1 (by simp [plainL, plainB, pb]) (ci _ _ (errV_clean e4))
  have r8 : ∀ H, pureCall (alembicref4_OpenSigned.f G 8000) [.int .i64 lo, .int .i64 hi, .int .i64 n, .ro false (bytesV b)] H = _ := fun H => pureCall_of (H := H) t2 (by simp [plainL, plainB, pb]) (ci _ _ rfl)
  have q1 : ∀ (l : List Nat), l.length ≤ 3000 → ∀ H, l.length < 7999 → pureCall (alembicref_SameBytes.f G 8000) [.ro false (bytesV l), .ro false (bytesV l)] H = some (.bool true, H) := fun l hl H hk => by
    have := SameBytes_spec G 7999 false false l l (by omega) (by omega) hk
    simp only [decide_true] at this
    exact pureCall_of this (by simp [plainL, plainB, plain_ints bytes_of]) rfl
  have q2 : pureCall (alembicref_SameInts.f G 8000) [.sl 1 p.length 0 p.length 1, .ro false (natsV p)] H' = some (.bool true, H') := by
    have := SameInts_spec G 7999 true false (p.map fun (x : Nat) => (x : Int)) (p.map fun (x : Nat) => (x : Int)) (by simp; omega) (by simp; omega) (by simp; omega)
    rw [← nats_ints] at this
    refine pureCall_as (snapL_cons (snap_sl (e := 3) (by rw [hH]; rfl) (natsV_len p) nats_of) (snapL_cons (snap_ro nats_of) snapL_nil)) (this.trans (by simp)) rfl
  have q3 : ∀ H, pureCall (alembicref_SameInts.f G 8000) [.ro false (intsV l4), .ro false (intsV l4)] H = some (.bool true, H) := fun H => by
    have := SameInts_spec G 7999 false false l4 l4 (by omega) (by omega) (by omega)
    simp only [decide_true] at this
    exact pureCall_of this (by simp [plainL, plainB, plain_ints ints_of]) rfl
  have v1 : ∀ H, pureCall (pack_Width.f G 8000) [.int .i64 n] H = some (Nn (bl n.toNat), H) := fun H => pureCall_of (width G 7997 n (by omega)) rfl rfl
  have v2 : ∀ H, pureCall (alembicref4_Width.f G 8000) [.int .i64 n] H = some (Nn (bl n.toNat), H) := fun H => pureCall_of (rwidth G 7999 (by omega) n hn.1 hn.2) rfl rfl
  have v3 : bin Tryd.prog .neq 3 false (Nn (bl n.toNat)) (Nn (bl n.toNat)) = some (.bool false) := by rw [bin_neq]; simp
  have ex0 : ∀ x y : AV, extractA (.tup [x, y]) 0 = some x := fun _ _ => rfl
  have ex1 : ∀ x y : AV, extractA (.tup [x, y]) 1 = some y := fun _ _ => rfl
  have m1 : l1.length < 7999 := by omega
  have m3 : l3.length < 7999 := by omega
  have u1 := fun H => q1 l1 w1 H m1
  have u3 := fun H => q1 l3 w3 H m3
  have i1 := is e1 k1
  have i2 := is e2 k2
  have i3 := is e3 k3
  have i4 := is e4 k4
  clear hH o1
  generalize bl n.toNat = B at *
  repeat first
    | refine oB (by first | (simp only [pu_val, nth_zero, nth_succ, gd_tt, gd_ff, gd_tf, gd_ft, gd_no, pickA_true, pickA_false, un_not, rf, c1, c2, c3, c4, r1, r2, r3, r4, r5, r6, r7, r8, u1, u3, q2, q3, i1, i2, i3, i4, v1, v2, v3, ex0, ex1, Bool.not_true, Bool.not_false]; first | done | (with_reducible exact rfl) | (with_reducible exact ⟨rfl, rfl⟩)) | (with_reducible exact rfl)) ?_
    | refine lB (by first | (simp only [pu_val, nth_zero, nth_succ, gd_tt, gd_ff, gd_tf, gd_ft, gd_no, pickA_true, pickA_false, un_not, rf, c1, c2, c3, c4, r1, r2, r3, r4, r5, r6, r7, r8, u1, u3, q2, q3, i1, i2, i3, i4, v1, v2, v3, ex0, ex1, Bool.not_true, Bool.not_false]; first | done | (with_reducible exact rfl) | (with_reducible exact ⟨rfl, rfl⟩)) | (with_reducible exact rfl)) ?_
    | refine oT ?_
    | refine oN ?_
    | refine oX ?_
    | refine oXn ?_
    | refine oXr ?_
    | exact oF (finV_bool ..)
    | apply oK
    | refine lT ?_
    | refine lN ?_
    | refine lX ?_
    | refine lXn ?_
    | refine lXr ?_
    | apply lK
    | refine oI ?_
    | refine oJ rfl ?_
    | refine lI ?_
    | refine lJ rfl ?_
    | (with_reducible exact rfl)
end Go.Proofs.YtemkaggjbhpbbaaDoor
