/- The law of MachOne, in plain Lean. -/
import Derived.Test.YtdfglgnflldkpaaDoorMe
import Derived.Test.YtdfglgnflldkpaaDoorMf
import Derived.Test.YtdfglgnflldkpaaDoorMirX
import Derived.Test.YtdfglgnflldkpaaDoorMirY
namespace Go.Proofs.YtdfglgnflldkpaaDoor
open Go Mir
set_option linter.unusedVariables false
set_option linter.unusedSimpArgs false
set_option maxHeartbeats 8000000
set_option maxRecDepth 20000

theorem of_instr {x : AV} (h : IsT Tryd.prog 57 x) : ∃ i : MI, x = i.v := by
  obtain ⟨cs, rfl, hf⟩ := h.of_struct Tryd.underlying57
  cases hf with
  | cons h1 hf =>
  cases hf with
  | cons h2 hf =>
  cases hf with
  | cons h3 hf =>
  cases hf with
  | cons h4 hf =>
  cases hf with
  | cons h5 hf =>
  cases hf with
  | cons h6 hf =>
  cases hf with
  | nil =>
  obtain ⟨a, rfl, _⟩ := h1.of_int (k := .i64) Tryd.underlying3
  obtain ⟨b, rfl, _⟩ := h2.of_int (k := .i64) Tryd.underlying3
  obtain ⟨c, rfl, _⟩ := h3.of_int (k := .i64) Tryd.underlying3
  obtain ⟨d, rfl, _⟩ := h4.of_int (k := .i64) Tryd.underlying3
  obtain ⟨e, rfl, _⟩ := h5.of_int (k := .i64) Tryd.underlying3
  obtain ⟨f, rfl, hw⟩ := h6.of_int (k := .i64) Tryd.underlying3
  exact ⟨⟨a, b, c, d, e, f⟩, rfl⟩
theorem of_arU : ∀ (n : Nat) (cs : List AV), IsAr Tryd.prog 43 n cs → ∃ l : List Nat, cs = natsU l ∧ l.length = n ∧ ∀ x ∈ l, x < 18446744073709551616
  | 0, cs, h => by
    cases h
    exact ⟨[], rfl, rfl, fun x h => by cases h⟩
  | n + 1, cs, h => by
    cases h with
    | cons hx h =>
    obtain ⟨l, rfl, h1, h2⟩ := of_arU n _ h
    obtain ⟨z, rfl, hw⟩ := hx.of_int (k := .u64) Tryd.underlying43
    have hz := wf_u64 hw
    refine ⟨z.toNat :: l, ?_, by simp [h1], fun x hx => ?_⟩
    · show [AV.int .u64 z] ++ natsU l = Un z.toNat :: natsU l
      obtain ⟨y, rfl⟩ : ∃ y : Nat, z = (y : Int) := ⟨z.toNat, by omega⟩
      rfl
    · rcases List.mem_cons.1 hx with rfl | hx
      · omega
      · exact h2 x hx
theorem of_regs {x : AV} (h : IsT Tryd.prog 44 x) : ∃ r : List Nat, x = rgV r ∧ RgOk r := by
  obtain ⟨cs, rfl, hf⟩ := h.of_array Tryd.underlying44
  obtain ⟨l, rfl, h1, h2⟩ := of_arU _ _ hf
  exact ⟨l, rfl, ⟨h1, h2⟩⟩
theorem of_flags {x : AV} (h : IsT Tryd.prog 53 x) : ∃ f : FL, x = f.a := by
  obtain ⟨cs, rfl, hf⟩ := h.of_array Tryd.underlying53
  cases hf with
  | cons h1 hf =>
  cases hf with
  | cons h2 hf =>
  cases hf with
  | cons h3 hf =>
  cases hf with
  | cons h4 hf =>
  cases hf with
  | nil =>
  obtain ⟨a, rfl⟩ := h1.of_bool Tryd.underlying4
  obtain ⟨b, rfl⟩ := h2.of_bool Tryd.underlying4
  obtain ⟨c, rfl⟩ := h3.of_bool Tryd.underlying4
  obtain ⟨d, rfl⟩ := h4.of_bool Tryd.underlying4
  exact ⟨⟨a, b, c, d⟩, rfl⟩

def hpM (q : List Nat) (g : FL) : AHeap := [⟨44, 31, [rgV q]⟩, ⟨53, 4, [g.a]⟩, ⟨44, 31, [rgV q]⟩, ⟨53, 4, [g.a]⟩]
def xsM (c : Int) (f : FL) (b : Bool) (j : Int) : List AV := [I6 c, .rp false f.a 0, .bool true, .ptr 0 1 0 0, .ptr 1 1 0 0, .bool b, .ptr 2 1 0 0, .ptr 3 1 0 0, .bool b, .bool true, I6 j]

theorem mo_loop (G : Globs) (k : Nat) (self : Den) (c : Int) (f : FL) (b : Bool) (q : List Nat) (g : FL) : ∀ (d : Nat) (j : Int) (n : Nat), j + (d : Int) = 4 → 0 ≤ j → d < n →
    loopN (alembiclaw23_MachOne.l8 G k 4 self) n (xsM c f b j) (hpM q g) = some (.exit 0, xsM c f b 4, hpM q g)
  | d, j, 0, h, _, hf => by omega
  | 0, j, n + 1, h, _, hf => by
    rw [loopN_succ, alembiclaw23_MachOne.l8]
    have hc : cutH 4 (xsM c f b j) (hpM q g) = some (hpM q g) := by simp [cutH, xsM, hpM, belowL, belowB, heapBelow, natsU_below, FL.a]
    have e : j = 4 := by omega
    subst e
    refine e_id ?_
    refine eC hc ?_
    unfold xsM
    repeat' first
      | (with_reducible first | refine eT ?_ | refine eN ?_ | refine eS ?_ | refine eXn ?_ | refine eXr ?_ | refine eX ?_ | refine eI ?_ | refine eK ?_ | refine eV0 ?_ | refine eGr0 ?_ | refine eGtt ?_ | refine eGff ?_ | refine eGtf ?_ | refine eGft ?_ | refine eGno ?_)
      | ((with_reducible apply eCn); (simp only [nth_zero, nth_succ]; first | done | (with_reducible exact rfl)))
      | ((with_reducible apply eJ); (rfl))
      | ((with_reducible apply eGr1); (first | rfl | (simp only [nth_zero, nth_succ]; rfl)))
      | ((with_reducible apply eB); (first | (with_reducible exact rfl) | (simp (disch := omega) only [qa, putC, AV.cells, storable, buildSt, fillA, buildRo, buildOwn, fillE, Nat.reduceLeDiff, Nat.reduceLT, Nat.reduceAdd, ↓reduceIte]; first | done | (with_reducible exact rfl) | (with_reducible exact ⟨rfl, rfl⟩))))
      | ((with_reducible apply eR); (simp only [nth_zero, nth_succ]; (with_reducible exact rfl)))
      | ((with_reducible first | refine sEql ?_ ?_ | refine sNeq ?_ ?_ | refine sLss ?_ ?_ | refine sLeq ?_ ?_ | refine sGtr ?_ ?_ | refine sGeq ?_ ?_ | refine sNot ?_ ?_ | refine sPick ?_ ?_ | refine sGd ?_ ?_ | refine eBool ?_ ?_) <;> intro hq <;> try subst hq)
    refine e_out ?_; rfl
  | d + 1, j, n + 1, h, h0, hf => by
    rw [loopN_succ, alembiclaw23_MachOne.l8]
    have hc : cutH 4 (xsM c f b j) (hpM q g) = some (hpM q g) := by simp [cutH, xsM, hpM, belowL, belowB, heapBelow, natsU_below, FL.a]
    have ih := mo_loop G k self c f b q g d (j + 1) n (by omega) (by omega) (by omega)
    have e4 : ∀ x : Bool, bin Tryd.prog .eql 4 false (.bool x) (.bool x) = some (.bool true) := fun x => by rw [bin_eql_bool Tryd.underlying4]; simp
    have hj : j = 0 ∨ j = 1 ∨ j = 2 ∨ j = 3 := by omega
    obtain ⟨x, l1, l2⟩ : ∃ x : Bool, loadV G false 1 (.ptr 1 1 0 j.toNat) (hpM q g) = some (.bool x) ∧ loadV G false 1 (.ptr 3 1 0 j.toNat) (hpM q g) = some (.bool x) := by
      rcases hj with rfl | rfl | rfl | rfl
      · exact ⟨g.n, rfl, rfl⟩
      · exact ⟨g.z, rfl, rfl⟩
      · exact ⟨g.c, rfl, rfl⟩
      · exact ⟨g.v, rfl, rfl⟩
    have i1 : idxAddrArr 4 1 (.ptr 1 1 0 0) (I6 j) = some (.ptr 1 1 0 j.toNat) := by
      unfold idxAddrArr
      simp only
      rw [if_pos ⟨h0, by omega⟩, Nat.zero_add, Nat.mul_one]
    have i2 : idxAddrArr 4 1 (.ptr 3 1 0 0) (I6 j) = some (.ptr 3 1 0 j.toNat) := by
      unfold idxAddrArr
      simp only
      rw [if_pos ⟨h0, by omega⟩, Nat.zero_add, Nat.mul_one]
    have q1 : bin Tryd.prog .lss 3 true (I6 j) (.int .i64 4) = some (.bool true) := q_lss_t (by omega)
    have q2 : bin Tryd.prog .add 3 true (I6 j) (.int .i64 1) = some (I6 (j + 1)) := q_add (by omega) (by omega)
    clear hj h hf
    refine e_id ?_
    refine eC hc ?_
    unfold xsM at *
    repeat' first
      | (with_reducible first | refine eT ?_ | refine eN ?_ | refine eS ?_ | refine eXn ?_ | refine eXr ?_ | refine eX ?_ | refine eI ?_ | refine eK ?_ | refine eV0 ?_ | refine eGr0 ?_ | refine eGtt ?_ | refine eGff ?_ | refine eGtf ?_ | refine eGft ?_ | refine eGno ?_)
      | ((with_reducible apply eCn); (simp only [nth_zero, nth_succ]; first | done | (with_reducible exact rfl)))
      | ((with_reducible apply eJ); (rfl))
      | ((with_reducible apply eGr1); (first | rfl | (simp only [nth_zero, nth_succ]; rfl)))
      | ((with_reducible apply eB); (first | (with_reducible exact rfl) | (simp (disch := omega) only [qf, l1, l2, i1, i2, q1, q2, e4]; first | done | (with_reducible exact rfl) | (with_reducible exact ⟨rfl, rfl⟩)) | (simp (disch := omega) only [qa, putC, AV.cells, storable, buildSt, fillA, buildRo, buildOwn, fillE, Nat.reduceLeDiff, Nat.reduceLT, Nat.reduceAdd, ↓reduceIte, l1, l2, i1, i2, q1, q2, e4]; first | done | (with_reducible exact rfl) | (with_reducible exact ⟨rfl, rfl⟩))))
      | ((with_reducible apply eR); (simp only [nth_zero, nth_succ]; (with_reducible exact rfl)))
      | ((with_reducible first | refine sEql ?_ ?_ | refine sNeq ?_ ?_ | refine sLss ?_ ?_ | refine sLeq ?_ ?_ | refine sGtr ?_ ?_ | refine sGeq ?_ ?_ | refine sNot ?_ ?_ | refine sPick ?_ ?_ | refine sGd ?_ ?_ | refine eBool ?_ ?_) <;> intro hq <;> try subst hq)
    exact ih

theorem LMachOne.law (xs : List AV) (h : IsTs Tryd.prog [57, 44, 53, 3] xs) : ∃ k, alembiclaw23_MachOne.f (sentG 180 [1, 0]) k xs [] = some (.bool true, []) := by
  obtain ⟨x1, xs, rfl, hx1, h⟩ := h.uncons
  obtain ⟨x2, xs, rfl, hx2, h⟩ := h.uncons
  obtain ⟨x3, xs, rfl, hx3, h⟩ := h.uncons
  obtain ⟨x4, xs, rfl, hx4, h⟩ := h.uncons
  cases h.unnil
  obtain ⟨i, rfl⟩ := of_instr hx1
  obtain ⟨r, rfl, hr⟩ := of_regs hx2
  obtain ⟨f, rfl⟩ := of_flags hx3
  obtain ⟨c, rfl, _⟩ := hx4.of_int (k := .i64) Tryd.underlying3
  refine ⟨101, ?_⟩
  generalize sentG 180 [1, 0] = G
  rw [alembiclaw23_MachOne.step]
  unfold alembiclaw23_MachOne.c
  rw [zeroRg]
  have rf : ∀ H, pureCall (alembiclaw23_first.f G 100) [] H = _ := fun H => pureCall_of (H := H) (first23 G 40) rfl rfl
  have pl : plainL [i.v, rgV r, f.a] = true := by simp [plainL, plainB, plainU, MI.v, FL.a]
  have cl : cleanB (oneV (oneF i r f)) = true := by simp [cleanB, cleanL, cleanU, FL.a]
  have r1 : ∀ H, pureCall (mach_One.f G 100) [i.v, rgV r, f.a] H = _ := fun H => pureCall_of (H := H) (One_spec G 94 i r hr f) pl cl
  have r2 : ∀ H, pureCall (alembicref17_One.f G 100) [i.v, rgV r, f.a] H = _ := fun H => pureCall_of (H := H) (rOne_spec G 93 i r hr f) pl cl
  have hq : (oneF i r f).1.length = 31 := by
    unfold oneF
    split
    · exact (doesF_ok i hr f).len
    · rfl
  obtain ⟨q, g, b, ho⟩ : ∃ q g b, oneF i r f = (q, g, b) := ⟨_, _, _, rfl⟩
  rw [ho] at r1 r2 hq
  unfold oneV at r1 r2
  simp only at r1 r2 hq
  have r3 : ∀ H, pureCall (alembiclaw23_regs.f G 100) [rgV q, rgV q] H = _ := fun H => pureCall_of (H := H) (regs_self G 60 q hq) (by simp [plainL, plainB, plainU]) rfl
  have r4 : ∀ H, pureCall (mach_Holds.f G 100) [I6 c, f.a] H = _ := fun H => pureCall_of (H := H) (holds_spec G 99 c f) (by simp [plainL, plainB, FL.a]) rfl
  have r5 : ∀ H, pureCall (alembicref17_Holds.f G 100) [I6 c, f.a] H = _ := fun H => pureCall_of (H := H) (rholds_spec G 99 c f) (by simp [plainL, plainB, FL.a]) rfl
  have c0 : ∀ H, boxRoA (rgV r) H = some (.rp false (rgV r) 0, H) := fun H => rfl
  have c1 : ∀ H, boxRoA f.a H = some (.rp false f.a 0, H) := fun H => rfl
  have c2 : ∀ H, boxRoA i.v H = some (.rp false i.v 0, H) := fun H => rfl
  have l0 : ∀ H, loadV G true 31 (.rp false (rgV r) 0) H = some (rgV r) := fun H => by
    rw [q_ldrpT, if_pos (by rw [natsU_len, hr.len]; exact Nat.le_refl _), List.drop_zero, List.take_of_length_le (by rw [natsU_len, hr.len]; exact Nat.le_refl _)]
  have l1 : ∀ H, loadV G true 4 (.rp false f.a 0) H = some f.a := fun H => rfl
  have l2 : ∀ H, loadV G true 6 (.rp false i.v 0) H = some i.v := fun H => rfl
  have hZ : (List.replicate 31 0 : List Nat).length = 31 := rfl
  generalize List.replicate 31 0 = Z at *
  have b1 : boxA 44 (rgV Z) [] = some (.ptr 0 1 0 0, [⟨44, 31, [rgV Z]⟩]) := boxRg Z hZ []
  have b2 : boxA 53 (.agg [.bool false, .bool false, .bool false, .bool false]) [⟨44, 31, [rgV Z]⟩] = some (.ptr 1 1 0 0, hp2 Z f00) := rfl
  have s1 : stS (storeV 31 (.ptr 0 1 0 0) (rgV q) (hp2 Z f00)) = some (.tup [], hp2 q f00) := stRgA hq hZ rfl
  have s2 : stS (storeV 4 (.ptr 1 1 0 0) g.a (hp2 q f00)) = some (.tup [], hp2 q g) := rfl
  have b3 : boxA 44 (rgV Z) (hp2 q g) = some (.ptr 2 1 0 0, [⟨44, 31, [rgV q]⟩, ⟨53, 4, [g.a]⟩, ⟨44, 31, [rgV Z]⟩]) := boxRg Z hZ _
  have b4 : boxA 53 (.agg [.bool false, .bool false, .bool false, .bool false]) [⟨44, 31, [rgV q]⟩, ⟨53, 4, [g.a]⟩, ⟨44, 31, [rgV Z]⟩] = some (.ptr 3 1 0 0, [⟨44, 31, [rgV q]⟩, ⟨53, 4, [g.a]⟩, ⟨44, 31, [rgV Z]⟩, ⟨53, 4, [f00.a]⟩]) := rfl
  have s3 : stS (storeV 31 (.ptr 2 1 0 0) (rgV q) [⟨44, 31, [rgV q]⟩, ⟨53, 4, [g.a]⟩, ⟨44, 31, [rgV Z]⟩, ⟨53, 4, [f00.a]⟩]) = some (.tup [], [⟨44, 31, [rgV q]⟩, ⟨53, 4, [g.a]⟩, ⟨44, 31, [rgV q]⟩, ⟨53, 4, [f00.a]⟩]) := stRgA hq hZ rfl
  have s4 : stS (storeV 4 (.ptr 3 1 0 0) g.a [⟨44, 31, [rgV q]⟩, ⟨53, 4, [g.a]⟩, ⟨44, 31, [rgV q]⟩, ⟨53, 4, [f00.a]⟩]) = some (.tup [], hpM q g) := rfl
  have lp : loopN (alembiclaw23_MachOne.l8 G 100 4 (alembiclaw23_MachOne.f G 100)) 100 [I6 c, .rp false f.a 0, .bool true, .ptr 0 1 0 0, .ptr 1 1 0 0, .bool b, .ptr 2 1 0 0, .ptr 3 1 0 0, .bool b, .bool true, .int .i64 0] (hpM q g) = _ := mo_loop G 100 (alembiclaw23_MachOne.f G 100) c f b q g 4 0 100 (by decide) (by decide) (by decide)
  have hl : (hpM q g).length = 4 := rfl
  have l3 : loadV G true 31 (.ptr 0 1 0 0) (hpM q g) = some (rgV q) := ldRg G hq rfl
  have l4 : loadV G true 31 (.ptr 2 1 0 0) (hpM q g) = some (rgV q) := ldRg G hq rfl
  have e4 : ∀ x : Bool, bin Tryd.prog .eql 4 false (.bool x) (.bool x) = some (.bool true) := fun x => by rw [bin_eql_bool Tryd.underlying4]; simp
  unfold xsM at lp
  generalize holdsF c f = hh at *
  generalize i.v = iv at *
  refine e_in ?_
  repeat first
    | (with_reducible first | refine eT ?_ | refine eN ?_ | refine eS ?_ | refine eXn ?_ | refine eXr ?_ | refine eX ?_ | refine eI ?_ | refine eK ?_ | refine eV0 ?_ | refine eGr0 ?_ | refine eGtt ?_ | refine eGff ?_ | refine eGtf ?_ | refine eGft ?_ | refine eGno ?_)
    | ((with_reducible apply eCn); (simp only [nth_zero, nth_succ]; first | done | (with_reducible exact rfl)))
    | ((with_reducible apply eJ); (rfl))
    | ((with_reducible apply eGr1); (first | rfl | (simp only [nth_zero, nth_succ]; rfl)))
    | ((with_reducible apply eL); (first | exact lp))
    | ((with_reducible apply eB); (first | (with_reducible exact rfl) | (simp (disch := omega) only [qf, rf, r1, r2, r3, r4, r5, c0, c1, c2, l0, l1, l2, b1, b2, s1, s2, b3, b4, s3, s4, hl, l3, l4, e4]; first | done | (with_reducible exact rfl) | (with_reducible exact ⟨rfl, rfl⟩)) | (simp (disch := omega) only [qa, putC, AV.cells, storable, buildSt, fillA, buildRo, buildOwn, fillE, Nat.reduceLeDiff, Nat.reduceLT, Nat.reduceAdd, ↓reduceIte, rf, r1, r2, r3, r4, r5, c0, c1, c2, l0, l1, l2, b1, b2, s1, s2, b3, b4, s3, s4, hl, l3, l4, e4]; first | done | (with_reducible exact rfl) | (with_reducible exact ⟨rfl, rfl⟩))))
    | ((with_reducible apply eR); (simp only [nth_zero, nth_succ]; (with_reducible exact rfl)))
  all_goals first | omega | exact w1b rfl
end Go.Proofs.YtdfglgnflldkpaaDoor
