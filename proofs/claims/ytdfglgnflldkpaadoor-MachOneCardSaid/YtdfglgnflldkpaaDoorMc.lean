/- The machine's one instruction: the program's. -/
import Derived.Test.YtdfglgnflldkpaaDoorMb
namespace Go.Proofs.YtdfglgnflldkpaaDoor.Mir
open Go
set_option linter.unusedVariables false
set_option linter.unusedSimpArgs false
set_option maxHeartbeats 8000000
set_option maxRecDepth 20000

theorem finV_three {x y z : AV} (hx : belowB 0 x = true) (hy : belowB 0 y = true) (hz : belowB 0 z = true) (H : AHeap) : finV [x, y, z] 0 H = some (.ret, [.tup [x, y, z]], []) := by
  have : belowB 0 (.tup [x, y, z]) = true := by simp [belowB, belowL, hx, hy, hz]
  simp [finV, packR, frz_low this, cutH_zero]

theorem less_spec (G : Globs) (k : Nat) (a b : Nat) (ha : a < 18446744073709551616) (hb : b < 18446744073709551616) : mach_less.f G (k + 1) [Un a, Un b] [] = some ((lessF a b).a, []) := by
  rw [mach_less.step]
  unfold mach_less.c lessF
  have k1 := u64_sub Tryd.prog 43 false a b hb
  obtain ⟨x, hx⟩ : ∃ x, x = (a + 18446744073709551616 - b) % 18446744073709551616 := ⟨_, rfl⟩
  have hxl : x < 18446744073709551616 := by omega
  rw [← hx] at k1 ⊢
  unfold lessX
  have k2 : bin Tryd.prog .shr 43 true (Un x) (.int .u64 63) = some (Un (x / 2 ^ 63)) := u64_shr Tryd.prog 43 true .u64 x 63 (by omega)
  have k3 : bin Tryd.prog .eql 43 true (Un (x / 2 ^ 63)) (.int .u64 1) = some (.bool (decide (x / 2 ^ 63 = 1))) := by rw [bin_eql]; congr 2; simp only [decide_eq_decide]; omega
  have k4 : bin Tryd.prog .eql 43 true (Un x) (.int .u64 0) = some (.bool (decide (x = 0))) := by rw [bin_eql]; congr 2; simp only [decide_eq_decide]; omega
  have k5 : bin Tryd.prog .geq 43 false (Un a) (Un b) = some (.bool (decide (b ≤ a))) := by rw [bin_geq]; congr 2; simp only [decide_eq_decide]; omega
  have k6 : bin Tryd.prog .xor 43 false (Un a) (Un b) = some (Un (a ^^^ b)) := by rw [bin_xor, u64_xor a b ha hb]
  have k7 : bin Tryd.prog .xor 43 false (Un a) (Un x) = some (Un (a ^^^ x)) := by rw [bin_xor, u64_xor a x ha hxl]
  have l6 : a ^^^ b < 2 ^ 64 := Nat.xor_lt_two_pow ha hb
  have l7 : a ^^^ x < 2 ^ 64 := Nat.xor_lt_two_pow ha hxl
  obtain ⟨y, hy⟩ : ∃ y, y = (a ^^^ b) &&& (a ^^^ x) := ⟨_, rfl⟩
  have k8 : bin Tryd.prog .and 43 false (Un (a ^^^ b)) (Un (a ^^^ x)) = some (Un y) := by rw [bin_and, u64_and _ _ (by omega) (by omega), hy]
  rw [← hy]
  have k9 : bin Tryd.prog .shr 43 true (Un y) (.int .u64 63) = some (Un (y / 2 ^ 63)) := u64_shr Tryd.prog 43 true .u64 y 63 (by omega)
  have k10 : bin Tryd.prog .eql 43 true (Un (y / 2 ^ 63)) (.int .u64 1) = some (.bool (decide (y / 2 ^ 63 = 1))) := by rw [bin_eql]; congr 2; simp only [decide_eq_decide]; omega
  have x1 : boxA 53 (.agg [.bool false, .bool false, .bool false, .bool false]) [] = some (.ptr 0 1 0 0, [⟨53, 4, [f00.a]⟩]) := rfl
  have x2 : ∀ p q r s, buildArr 1 [.bool false, .bool false, .bool false, .bool false] [(0, .bool p), (1, .bool q), (2, .bool r), (3, .bool s)] = some (FL.a ⟨p, q, r, s⟩) := fun p q r s => rfl
  have x3 : ∀ f : FL, stS (storeV 4 (.ptr 0 1 0 0) f.a [⟨53, 4, [f00.a]⟩]) = some (.tup [], [⟨53, 4, [f.a]⟩]) := fun f => rfl
  clear hx hy l6 l7 hxl
  generalize a ^^^ b = z1 at *
  generalize a ^^^ x = z2 at *
  generalize decide (x / 2 ^ 63 = 1) = g1 at *
  generalize decide (x = 0) = g2 at *
  generalize decide (b ≤ a) = g3 at *
  generalize decide (y / 2 ^ 63 = 1) = g4 at *
  generalize x / 2 ^ 63 = z3 at *
  generalize y / 2 ^ 63 = z4 at *
  refine e_in ?_
  repeat first
    | (with_reducible first | refine eT ?_ | refine eN ?_ | refine eS ?_ | refine eXn ?_ | refine eXr ?_ | refine eX ?_ | refine eI ?_ | refine eK ?_ | refine eV0 ?_ | refine eGr0 ?_ | refine eGtt ?_ | refine eGff ?_ | refine eGtf ?_ | refine eGft ?_ | refine eGno ?_)
    | ((with_reducible apply eCn); (simp only [nth_zero, nth_succ]; first | done | (with_reducible exact rfl)))
    | ((with_reducible apply eJ); (rfl))
    | ((with_reducible apply eGr1); (first | rfl | (simp only [nth_zero, nth_succ]; rfl)))
    | ((with_reducible apply eB); (first | (with_reducible exact rfl) | (simp (disch := omega) only [qf, k1, k2, k3, k4, k5, k6, k7, k8, k9, k10, x1, x2, x3]; first | done | (with_reducible exact rfl) | (with_reducible exact ⟨rfl, rfl⟩)) | (simp (disch := omega) only [qa, putC, AV.cells, storable, buildSt, fillA, buildRo, buildOwn, fillE, Nat.reduceLeDiff, Nat.reduceLT, Nat.reduceAdd, ↓reduceIte, k1, k2, k3, k4, k5, k6, k7, k8, k9, k10, x1, x2, x3]; first | done | (with_reducible exact rfl) | (with_reducible exact ⟨rfl, rfl⟩))))
    | ((with_reducible apply eR); (simp only [nth_zero, nth_succ]; (with_reducible exact rfl)))
  have e : loadV G true 4 (.ptr 0 1 0 0) [⟨53, 4, [FL.a ⟨g1, g2, g3, g4⟩]⟩] = some (FL.a ⟨g1, g2, g3, g4⟩) := rfl
  refine oF ?_
  unfold finL
  rw [e]
  exact finV_zero (x := FL.a ⟨g1, g2, g3, g4⟩) rfl _

section
variable (G : Globs) (k : Nat)

/-- The blocks of one instruction. -/
def hp4 (r : List Nat) (f : FL) (r2 : List Nat) (f2 : FL) : AHeap := [⟨44, 31, [rgV r]⟩, ⟨53, 4, [f.a]⟩, ⟨44, 31, [rgV r2]⟩, ⟨53, 4, [f2.a]⟩]
theorem hp4_below (n : Nat) (r : List Nat) (f : FL) (r2 : List Nat) (f2 : FL) : heapBelow n (hp4 r f r2 f2) = true := by
  simp [hp4, heapBelow, belowL, belowB, natsU_below, FL.a]
theorem hp4_fin (r : List Nat) (f : FL) (r2 : List Nat) (f2 : FL) : finV [] 4 (hp4 r f r2 f2) = some (.ret, [.tup []], hp4 r f r2 f2) := by
  have e : (hp4 r f r2 f2).take 4 = hp4 r f r2 f2 := rfl
  have h := hp4_below 4 r f r2 f2
  unfold finV cutH
  rw [e, h]; rfl

theorem set_spec (r : List Nat) (hr : r.length = 31) (f : FL) (r2 : List Nat) (f2 : FL) (j : Int) (h0 : 0 ≤ j) (h1 : j ≤ 31) (x : Nat) :
    mach_set.f G (k + 1) [.ptr 0 1 0 0, I6 j, Un x] (hp4 r f r2 f2) = some (.tup [], hp4 (setF r j x) f r2 f2) := by
  rw [mach_set.step]
  unfold mach_set.c setF
  have hl : (hp4 r f r2 f2).length = 4 := rfl
  rw [hl]
  refine e_in ?_
  by_cases h : j = 31
  · rw [if_pos h]
    repeat' first
      | (with_reducible first | refine eT ?_ | refine eN ?_ | refine eS ?_ | refine eXn ?_ | refine eXr ?_ | refine eX ?_ | refine eI ?_ | refine eK ?_ | refine eV0 ?_ | refine eGr0 ?_ | refine eGtt ?_ | refine eGff ?_ | refine eGtf ?_ | refine eGft ?_ | refine eGno ?_)
      | ((with_reducible apply eCn); (simp only [nth_zero, nth_succ]; first | done | (with_reducible exact rfl)))
      | ((with_reducible apply eJ); (rfl))
      | ((with_reducible apply eGr1); (first | rfl | (simp only [nth_zero, nth_succ]; rfl)))
      | ((with_reducible apply eB); (first | (with_reducible exact rfl) | (simp (disch := omega) only [qa, putC, AV.cells, storable, buildSt, fillA, buildRo, buildOwn, fillE, Nat.reduceLeDiff, Nat.reduceLT, Nat.reduceAdd, ↓reduceIte]; first | done | (with_reducible exact rfl) | (with_reducible exact ⟨rfl, rfl⟩))))
      | ((with_reducible apply eR); (simp only [nth_zero, nth_succ]; (with_reducible exact rfl)))
      | ((with_reducible first | refine sEql ?_ ?_ | refine sNeq ?_ ?_ | refine sLss ?_ ?_ | refine sLeq ?_ ?_ | refine sGtr ?_ ?_ | refine sGeq ?_ ?_ | refine sNot ?_ ?_ | refine sPick ?_ ?_ | refine sGd ?_ ?_ | refine eBool ?_ ?_) <;> intro hq <;> try subst hq)
    exact oF (hp4_fin ..)
  · rw [if_neg h]
    have i1 : idxAddrArr 31 1 (.ptr 0 1 0 0) (I6 j) = some (.ptr 0 1 0 j.toNat) := by
      unfold idxAddrArr
      simp only
      rw [if_pos ⟨h0, by omega⟩, Nat.zero_add, Nat.mul_one]
    have s1 : stS (storeV 1 (.ptr 0 1 0 j.toNat) (Un x) (hp4 r f r2 f2)) = some (.tup [], hp4 (r.set j.toNat x) f r2 f2) := by
      have e : (hp4 r f r2 f2)[0]? = some ⟨44, 31, [rgV r]⟩ := rfl
      have e2 : putC (natsU r) j.toNat [Un x] = natsU (r.set j.toNat x) := by
        rw [natsU_set, List.set_eq_take_append_cons_drop, if_pos (by rw [natsU_len]; omega)]
        rfl
      unfold storeV
      simp only [e, AV.cells, natsU_len, hr, List.length_singleton, storable, List.getElem?_cons_zero]
      rw [if_pos (by simp), if_pos (by omega), e2]
      rfl
    repeat' first
      | (with_reducible first | refine eT ?_ | refine eN ?_ | refine eS ?_ | refine eXn ?_ | refine eXr ?_ | refine eX ?_ | refine eI ?_ | refine eK ?_ | refine eV0 ?_ | refine eGr0 ?_ | refine eGtt ?_ | refine eGff ?_ | refine eGtf ?_ | refine eGft ?_ | refine eGno ?_)
      | ((with_reducible apply eCn); (simp only [nth_zero, nth_succ]; first | done | (with_reducible exact rfl)))
      | ((with_reducible apply eJ); (rfl))
      | ((with_reducible apply eGr1); (first | rfl | (simp only [nth_zero, nth_succ]; rfl)))
      | ((with_reducible apply eB); (first | (with_reducible exact rfl) | (simp (disch := omega) only [qf, i1, s1]; first | done | (with_reducible exact rfl) | (with_reducible exact ⟨rfl, rfl⟩)) | (simp (disch := omega) only [qa, putC, AV.cells, storable, buildSt, fillA, buildRo, buildOwn, fillE, Nat.reduceLeDiff, Nat.reduceLT, Nat.reduceAdd, ↓reduceIte, i1, s1]; first | done | (with_reducible exact rfl) | (with_reducible exact ⟨rfl, rfl⟩))))
      | ((with_reducible apply eR); (simp only [nth_zero, nth_succ]; (with_reducible exact rfl)))
      | ((with_reducible first | refine sEql ?_ ?_ | refine sNeq ?_ ?_ | refine sLss ?_ ?_ | refine sLeq ?_ ?_ | refine sGtr ?_ ?_ | refine sGeq ?_ ?_ | refine sNot ?_ ?_ | refine sPick ?_ ?_ | refine sGd ?_ ?_ | refine eBool ?_ ?_) <;> intro hq <;> try subst hq)
    exact oF (hp4_fin ..)

/-- What an instruction does, of one that makes something. -/
def doesF (i : MI) (r : List Nat) (f : FL) : List Nat × FL :=
  if i.op = 15 then (r, lessF (getF r i.n) (getF r i.m))
  else if i.op = 16 ∨ i.op = 17 then (setF r i.d (madeF i.op i.a i.imm (getF r i.d) (getF r i.n) (getF r i.m) 0 (holdsF i.a f)), f)
  else if i.op = 8 then (setF r i.d (madeF i.op i.a i.imm (getF r i.d) (getF r i.n) (getF r i.m) (getF r i.a) false), f)
  else (setF r i.d (madeF i.op i.a i.imm (getF r i.d) (getF r i.n) (getF r i.m) 0 false), f)

/-- What an instruction that may be is like. -/
structure MI.Ok (i : MI) : Prop where
  d : 0 ≤ i.d ∧ i.d ≤ 31
  n : 0 ≤ i.n ∧ i.n ≤ 31
  m : 0 ≤ i.m ∧ i.m ≤ 31
  a : 0 ≤ i.a ∧ i.a ≤ 31
  fits : fits i.op i.a i.imm

structure RgOk (r : List Nat) : Prop where
  len : r.length = 31
  lt : ∀ x ∈ r, x < 18446744073709551616
theorem RgOk.get {r : List Nat} (h : RgOk r) (j : Int) : getF r j < 18446744073709551616 := by
  unfold getF
  split
  · decide
  · rw [List.getD_eq_getElem?_getD]
    cases hq : r[j.toNat]? with
    | none => decide
    | some x => exact h.lt x (List.mem_of_getElem? hq)

theorem snap_ptr0 (r : List Nat) (f : FL) (r2 : List Nat) (f2 : FL) : snap (hp4 r f r2 f2) (.ptr 0 1 0 0) = some (.rp true (rgV r) 0) := by
  have e : (hp4 r f r2 f2)[0]? = some ⟨44, 31, [rgV r]⟩ := rfl
  have hp : plainB (rgV r) = true := by simp [plainB, plainU]
  unfold snap snap1
  simp only [e, List.getElem?_cons_zero, hp]
  rfl

theorem does_spec (i : MI) (hop : 1 ≤ i.op ∧ i.op ≤ 17) (hi : i.Ok) (r : List Nat) (hr : RgOk r) (f : FL) (r2 : List Nat) (f2 : FL) :
    mach_does.f G (k + 3) [i.v, .ptr 0 1 0 0, .ptr 1 1 0 0] (hp4 r f r2 f2) = some (.tup [], hp4 (doesF i r f).1 (doesF i r f).2 r2 f2) := by
  obtain ⟨op, d, n, m, a, imm⟩ := i
  obtain ⟨hd, hn, hm, ha, hf⟩ := hi
  simp only at hop hd hn hm ha hf
  show mach_does.f G (k + 3) [mV op d n m a imm, .ptr 0 1 0 0, .ptr 1 1 0 0] (hp4 r f r2 f2) = _
  rw [mach_does.step]
  unfold mach_does.c doesF
  have hl : (hp4 r f r2 f2).length = 4 := rfl
  rw [hl]
  have g : ∀ j, 0 ≤ j → j ≤ 31 → pureCall (mach_get.f G (k + 2)) [.ptr 0 1 0 0, I6 j] (hp4 r f r2 f2) = some (Un (getF r j), hp4 r f r2 f2) := fun j h0 h1 =>
    pureCall_at (snapL_c (snap_ptr0 r f r2 f2) (snapL_c (snap_plain rfl) snapL_n)) (get_spec G (k + 1) true r hr.len j h0 h1) rfl
  have g1 := g d hd.1 hd.2
  have g2 := g n hn.1 hn.2
  have g3 := g m hm.1 hm.2
  have g4 := g a ha.1 ha.2
  have ld := hr.get d
  have ln := hr.get n
  have lm := hr.get m
  have la := hr.get a
  have st : ∀ x, heapCall (mach_set.f G (k + 2)) [.ptr 0 1 0 0, I6 d, Un x] (hp4 r f r2 f2) = some (.tup [], hp4 (setF r d x) f r2 f2) := fun x => heapCall_of (set_spec G (k + 1) r hr.len f r2 f2 d hd.1 hd.2 x) (Nat.le_refl _)
  have n1 : nilA (.ptr 1 1 0 0) = some (.ptr 1 1 0 0) := rfl
  simp only
  generalize getF r d = rd at *
  generalize getF r n = rn at *
  generalize getF r m = rm at *
  generalize getF r a = ra at *
  by_cases h15 : op = 15
  · rw [if_pos h15]
    have r1 : ∀ H, pureCall (mach_less.f G (k + 2)) [Un rn, Un rm] H = _ := fun H => pureCall_of (H := H) (less_spec G (k + 1) rn rm ln lm) rfl rfl
    have s1 : ∀ q : FL, stS (storeV 4 (.ptr 1 1 0 0) q.a (hp4 r f r2 f2)) = some (.tup [], hp4 r q r2 f2) := fun q => rfl
    refine e_in ?_
    repeat' first
      | (with_reducible first | refine eT ?_ | refine eN ?_ | refine eS ?_ | refine eXn ?_ | refine eXr ?_ | refine eX ?_ | refine eI ?_ | refine eK ?_ | refine eV0 ?_ | refine eGr0 ?_ | refine eGtt ?_ | refine eGff ?_ | refine eGtf ?_ | refine eGft ?_ | refine eGno ?_)
      | ((with_reducible apply eCn); (simp only [nth_zero, nth_succ]; first | done | (with_reducible exact rfl)))
      | ((with_reducible apply eJ); (rfl))
      | ((with_reducible apply eGr1); (first | rfl | (simp only [nth_zero, nth_succ]; rfl)))
      | ((with_reducible apply eB); (first | (with_reducible exact rfl) | (simp (disch := omega) only [qf, g1, g2, g3, r1, n1, s1]; first | done | (with_reducible exact rfl) | (with_reducible exact ⟨rfl, rfl⟩)) | (simp (disch := omega) only [qa, putC, AV.cells, storable, buildSt, fillA, buildRo, buildOwn, fillE, Nat.reduceLeDiff, Nat.reduceLT, Nat.reduceAdd, ↓reduceIte, g1, g2, g3, r1, n1, s1]; first | done | (with_reducible exact rfl) | (with_reducible exact ⟨rfl, rfl⟩))))
      | ((with_reducible apply eR); (simp only [nth_zero, nth_succ]; (with_reducible exact rfl)))
      | ((with_reducible first | refine sEql ?_ ?_ | refine sNeq ?_ ?_ | refine sLss ?_ ?_ | refine sLeq ?_ ?_ | refine sGtr ?_ ?_ | refine sGeq ?_ ?_ | refine sNot ?_ ?_ | refine sPick ?_ ?_ | refine sGd ?_ ?_ | refine eBool ?_ ?_) <;> intro hq <;> try subst hq)
    exact oF (hp4_fin ..)
  rw [if_neg h15]
  by_cases h16 : op = 16 ∨ op = 17
  · rw [if_pos h16]
    have l1 : loadV G true 4 (.ptr 1 1 0 0) (hp4 r f r2 f2) = some f.a := rfl
    have r1 : ∀ H, pureCall (mach_Holds.f G (k + 2)) [I6 a, f.a] H = _ := fun H => pureCall_of (H := H) (holds_spec G (k + 1) a f) rfl rfl
    have r2_ : ∀ h H, pureCall (mach_made.f G (k + 2)) [mV op d n m a imm, Un rd, Un rn, Un rm, .int .u64 0, .bool h] H = _ := fun h H => pureCall_of (H := H) (made_spec G k op d n m a imm rd rn rm 0 h (by omega) hf ld ln lm (by omega)) rfl rfl
    have r3 := r2_ (holdsF a f)
    have st' := st (madeF op a imm rd rn rm 0 (holdsF a f))
    refine e_in ?_
    generalize holdsF a f = hh at *
    generalize madeF op a imm rd rn rm 0 hh = zz at *
    repeat' first
      | (with_reducible first | refine eT ?_ | refine eN ?_ | refine eS ?_ | refine eXn ?_ | refine eXr ?_ | refine eX ?_ | refine eI ?_ | refine eK ?_ | refine eV0 ?_ | refine eGr0 ?_ | refine eGtt ?_ | refine eGff ?_ | refine eGtf ?_ | refine eGft ?_ | refine eGno ?_)
      | ((with_reducible apply eCn); (simp only [nth_zero, nth_succ]; first | done | (with_reducible exact rfl)))
      | ((with_reducible apply eJ); (rfl))
      | ((with_reducible apply eGr1); (first | rfl | (simp only [nth_zero, nth_succ]; rfl)))
      | ((with_reducible apply eB); (first | (with_reducible exact rfl) | (simp (disch := omega) only [qf, g1, g2, g3, l1, n1, r1, r3, st']; first | done | (with_reducible exact rfl) | (with_reducible exact ⟨rfl, rfl⟩)) | (simp (disch := omega) only [qa, putC, AV.cells, storable, buildSt, fillA, buildRo, buildOwn, fillE, Nat.reduceLeDiff, Nat.reduceLT, Nat.reduceAdd, ↓reduceIte, g1, g2, g3, l1, n1, r1, r3, st']; first | done | (with_reducible exact rfl) | (with_reducible exact ⟨rfl, rfl⟩))))
      | ((with_reducible apply eR); (simp only [nth_zero, nth_succ]; (with_reducible exact rfl)))
      | ((with_reducible first | refine sEql ?_ ?_ | refine sNeq ?_ ?_ | refine sLss ?_ ?_ | refine sLeq ?_ ?_ | refine sGtr ?_ ?_ | refine sGeq ?_ ?_ | refine sNot ?_ ?_ | refine sPick ?_ ?_ | refine sGd ?_ ?_ | refine eBool ?_ ?_) <;> intro hq <;> try subst hq)
    all_goals first | omega | exact oF (hp4_fin ..)
  rw [if_neg h16]
  by_cases h8 : op = 8
  · rw [if_pos h8]
    have r3 : ∀ H, pureCall (mach_made.f G (k + 2)) [mV op d n m a imm, Un rd, Un rn, Un rm, Un ra, .bool false] H = _ := fun H => pureCall_of (H := H) (made_spec G k op d n m a imm rd rn rm ra false (by omega) hf ld ln lm la) rfl rfl
    have st' := st (madeF op a imm rd rn rm ra false)
    refine e_in ?_
    generalize madeF op a imm rd rn rm ra false = zz at *
    repeat' first
      | (with_reducible first | refine eT ?_ | refine eN ?_ | refine eS ?_ | refine eXn ?_ | refine eXr ?_ | refine eX ?_ | refine eI ?_ | refine eK ?_ | refine eV0 ?_ | refine eGr0 ?_ | refine eGtt ?_ | refine eGff ?_ | refine eGtf ?_ | refine eGft ?_ | refine eGno ?_)
      | ((with_reducible apply eCn); (simp only [nth_zero, nth_succ]; first | done | (with_reducible exact rfl)))
      | ((with_reducible apply eJ); (rfl))
      | ((with_reducible apply eGr1); (first | rfl | (simp only [nth_zero, nth_succ]; rfl)))
      | ((with_reducible apply eB); (first | (with_reducible exact rfl) | (simp (disch := omega) only [qf, g1, g2, g3, g4, r3, st']; first | done | (with_reducible exact rfl) | (with_reducible exact ⟨rfl, rfl⟩)) | (simp (disch := omega) only [qa, putC, AV.cells, storable, buildSt, fillA, buildRo, buildOwn, fillE, Nat.reduceLeDiff, Nat.reduceLT, Nat.reduceAdd, ↓reduceIte, g1, g2, g3, g4, r3, st']; first | done | (with_reducible exact rfl) | (with_reducible exact ⟨rfl, rfl⟩))))
      | ((with_reducible apply eR); (simp only [nth_zero, nth_succ]; (with_reducible exact rfl)))
      | ((with_reducible first | refine sEql ?_ ?_ | refine sNeq ?_ ?_ | refine sLss ?_ ?_ | refine sLeq ?_ ?_ | refine sGtr ?_ ?_ | refine sGeq ?_ ?_ | refine sNot ?_ ?_ | refine sPick ?_ ?_ | refine sGd ?_ ?_ | refine eBool ?_ ?_) <;> intro hq <;> try subst hq)
    all_goals first | omega | exact oF (hp4_fin ..)
  rw [if_neg h8]
  have r3 : ∀ H, pureCall (mach_made.f G (k + 2)) [mV op d n m a imm, Un rd, Un rn, Un rm, .int .u64 0, .bool false] H = _ := fun H => pureCall_of (H := H) (made_spec G k op d n m a imm rd rn rm 0 false (by omega) hf ld ln lm (by omega)) rfl rfl
  have st' := st (madeF op a imm rd rn rm 0 false)
  refine e_in ?_
  generalize madeF op a imm rd rn rm 0 false = zz at *
  repeat' first
    | (with_reducible first | refine eT ?_ | refine eN ?_ | refine eS ?_ | refine eXn ?_ | refine eXr ?_ | refine eX ?_ | refine eI ?_ | refine eK ?_ | refine eV0 ?_ | refine eGr0 ?_ | refine eGtt ?_ | refine eGff ?_ | refine eGtf ?_ | refine eGft ?_ | refine eGno ?_)
    | ((with_reducible apply eCn); (simp only [nth_zero, nth_succ]; first | done | (with_reducible exact rfl)))
    | ((with_reducible apply eJ); (rfl))
    | ((with_reducible apply eGr1); (first | rfl | (simp only [nth_zero, nth_succ]; rfl)))
    | ((with_reducible apply eB); (first | (with_reducible exact rfl) | (simp (disch := omega) only [qf, g1, g2, g3, g4, r3, st']; first | done | (with_reducible exact rfl) | (with_reducible exact ⟨rfl, rfl⟩)) | (simp (disch := omega) only [qa, putC, AV.cells, storable, buildSt, fillA, buildRo, buildOwn, fillE, Nat.reduceLeDiff, Nat.reduceLT, Nat.reduceAdd, ↓reduceIte, g1, g2, g3, g4, r3, st']; first | done | (with_reducible exact rfl) | (with_reducible exact ⟨rfl, rfl⟩))))
    | ((with_reducible apply eR); (simp only [nth_zero, nth_succ]; (with_reducible exact rfl)))
    | ((with_reducible first | refine sEql ?_ ?_ | refine sNeq ?_ ?_ | refine sLss ?_ ?_ | refine sLeq ?_ ?_ | refine sGtr ?_ ?_ | refine sGeq ?_ ?_ | refine sNot ?_ ?_ | refine sPick ?_ ?_ | refine sGd ?_ ?_ | refine eBool ?_ ?_) <;> intro hq <;> try subst hq)
  all_goals first | omega | exact oF (hp4_fin ..)

theorem right_ok {i : MI} (h : rightB i = true) : (1 ≤ i.op ∧ i.op ≤ 24) ∧ i.Ok := by
  obtain ⟨op, d, n, m, a, imm⟩ := i
  unfold rightB at h
  rw [Bool.and_eq_true] at h
  have h24 : 1 ≤ op ∧ op ≤ 24 := of_decide_eq_true h.1
  refine ⟨h24, ?_⟩
  obtain ⟨_, h⟩ := h
  rcases op24 h24 with rfl | rfl | rfl | rfl | rfl | rfl | rfl | rfl | rfl | rfl | rfl | rfl | rfl | rfl | rfl | rfl | rfl | rfl | rfl | rfl | rfl | rfl | rfl | rfl
  all_goals (
    simp [formF, fairB, regB, extraB, immB, halfI, stackB] at h
    constructor <;> simp [fits] <;> omega)

/-- An instruction, alone. -/
def oneF (i : MI) (r : List Nat) (f : FL) : List Nat × FL × Bool :=
  if rightB i = true ∧ i.op ≤ 17 then ((doesF i r f).1, (doesF i r f).2, true) else (List.replicate 31 0, f00, false)
abbrev oneV (q : List Nat × FL × Bool) : AV := .tup [rgV q.1, q.2.1.a, .bool q.2.2]

theorem ldRg {j : Nat} {H : AHeap} {r : List Nat} (hr : r.length = 31) (e : H[j]? = some ⟨44, 31, [rgV r]⟩) : loadV G true 31 (.ptr j 1 0 0) H = some (rgV r) := by
  unfold loadV
  simp only [e, List.length_singleton, if_true, List.getElem?_cons_zero, AV.cells, loadC]
  show (if 0 + 31 ≤ (natsU r).length then some (AV.agg (List.take 31 (List.drop 0 (natsU r)))) else none) = _
  rw [if_pos (by rw [natsU_len, hr]; omega), List.drop_zero, List.take_of_length_le (by rw [natsU_len, hr]; omega)]
theorem stRg {r r2 : List Nat} {f f2 : FL} {q : List Nat} (hq : q.length = 31) (hr : r2.length = 31) : stS (storeV 31 (.ptr 2 1 0 0) (rgV q) (hp4 r f r2 f2)) = some (.tup [], hp4 r f q f2) := by
  have e : (hp4 r f r2 f2)[2]? = some ⟨44, 31, [rgV r2]⟩ := rfl
  have e2 : putC (natsU r2) 0 (natsU q) = natsU q := by
    unfold putC
    rw [List.take_zero, List.nil_append, List.drop_of_length_le (by rw [natsU_len, natsU_len]; omega), List.append_nil]
  unfold storeV
  simp only [e, AV.cells, natsU_len, hq, List.length_singleton, storable, List.getElem?_cons_zero]
  rw [if_pos (by simp), if_pos (by omega), e2]
  rfl
theorem one_fin (r : List Nat) (f : FL) (r2 : List Nat) (hr : r2.length = 31) (f2 : FL) (b : Bool) : finL [loadV G true 31 (.ptr 2 1 0 0) (hp4 r f r2 f2), loadV G true 4 (.ptr 3 1 0 0) (hp4 r f r2 f2), some (.bool b)] 0 (hp4 r f r2 f2) = some (.ret, [oneV (r2, f2, b)], []) := by
  have e1 := ldRg G (j := 2) (H := hp4 r f r2 f2) hr rfl
  have e2 : loadV G true 4 (.ptr 3 1 0 0) (hp4 r f r2 f2) = some f2.a := rfl
  unfold finL
  rw [e1, e2]
  exact finV_three (by simp [belowB, natsU_below]) rfl rfl _

theorem setF_ok {r : List Nat} (h : RgOk r) (j : Int) (x : Nat) (hx : x < 18446744073709551616) : RgOk (setF r j x) := by
  unfold setF
  split
  · exact h
  · refine ⟨by simp [h.len], fun y hy => ?_⟩
    rcases List.mem_or_eq_of_mem_set hy with h1 | rfl
    · exact h.lt y h1
    · exact hx
theorem madeF_lt (op a imm : Int) (d n m x : Nat) (h : Bool) (hd : d < 18446744073709551616) (hn : n < 18446744073709551616) (hm : m < 18446744073709551616) : madeF op a imm d n m x h < 18446744073709551616 := by
  have hM : ∀ n : Nat, n % 18446744073709551616 < 18446744073709551616 := fun n => Nat.mod_lt _ (by decide)
  unfold madeF
  by_cases e1 : op = 1
  · rw [if_pos e1]; exact hM _
  rw [if_neg e1]
  by_cases e2 : op = 2
  · rw [if_pos e2]; exact u64_lt _
  rw [if_neg e2]
  by_cases e3 : op = 3
  · rw [if_pos e3]; exact hM _
  rw [if_neg e3]
  by_cases e4 : op = 4
  · rw [if_pos e4]; exact hM _
  rw [if_neg e4]
  by_cases e5 : op = 5
  · rw [if_pos e5]; exact Nat.lt_of_le_of_lt Nat.and_le_left hn
  rw [if_neg e5]
  by_cases e6 : op = 6
  · rw [if_pos e6]; exact Nat.or_lt_two_pow (n := 64) hn hm
  rw [if_neg e6]
  by_cases e7 : op = 7
  · rw [if_pos e7]; exact Nat.xor_lt_two_pow (n := 64) hn hm
  rw [if_neg e7]
  by_cases e8 : op = 8
  · rw [if_pos e8]; exact hM _
  rw [if_neg e8]
  by_cases e9 : op = 9
  · rw [if_pos e9]; exact Nat.div_lt_of_lt_mul (Nat.mul_lt_mul'' hn hm)
  rw [if_neg e9]
  by_cases e10 : op = 10
  · rw [if_pos e10]; exact hM _
  rw [if_neg e10]
  by_cases e11 : op = 11
  · rw [if_pos e11]; exact hM _
  rw [if_neg e11]
  by_cases e12 : op = 12
  · rw [if_pos e12]; exact hM _
  rw [if_neg e12]
  by_cases e13 : op = 13
  · rw [if_pos e13]; exact Nat.lt_of_le_of_lt (Nat.div_le_self _ _) hn
  rw [if_neg e13]
  by_cases e14 : op = 14
  · rw [if_pos e14]; exact u64_lt _
  rw [if_neg e14]
  by_cases e16 : op = 16
  · rw [if_pos e16]; cases h
    · exact hm
    · exact hn
  rw [if_neg e16]; cases h <;> decide
theorem doesF_ok (i : MI) {r : List Nat} (h : RgOk r) (f : FL) : RgOk (doesF i r f).1 := by
  have m := fun x hh => madeF_lt i.op i.a i.imm (getF r i.d) (getF r i.n) (getF r i.m) x hh (h.get _) (h.get _) (h.get _)
  unfold doesF
  split
  · exact h
  · split
    · exact setF_ok h _ _ (m _ _)
    · split
      · exact setF_ok h _ _ (m _ _)
      · exact setF_ok h _ _ (m _ _)

theorem One_spec (i : MI) (r : List Nat) (hr : RgOk r) (f : FL) : mach_One.f G (k + 6) [i.v, rgV r, f.a] [] = some (oneV (oneF i r f), []) := by
  rw [mach_One.step]
  unfold mach_One.c
  obtain ⟨w, hw⟩ := word_some G k i
  have r1 : ∀ H, pureCall (isa_Word.f G (k + 5)) [i.v] H = _ := fun H => pureCall_of (H := H) hw rfl rfl
  have b1 : boxA 44 (rgV r) [] = some (.ptr 0 1 0 0, [⟨44, 31, [rgV r]⟩]) := by
    simp [boxA, storable, AV.cells, natsU_len, hr.len]
  have b2 : boxA 53 f.a [⟨44, 31, [rgV r]⟩] = some (.ptr 1 1 0 0, [⟨44, 31, [rgV r]⟩, ⟨53, 4, [f.a]⟩]) := rfl
  have b3 : boxA 44 (rgV (List.replicate 31 0)) [⟨44, 31, [rgV r]⟩, ⟨53, 4, [f.a]⟩] = some (.ptr 2 1 0 0, [⟨44, 31, [rgV r]⟩, ⟨53, 4, [f.a]⟩, ⟨44, 31, [rgV (List.replicate 31 0)]⟩]) := rfl
  have b4 : boxA 53 (.agg [.bool false, .bool false, .bool false, .bool false]) [⟨44, 31, [rgV r]⟩, ⟨53, 4, [f.a]⟩, ⟨44, 31, [rgV (List.replicate 31 0)]⟩] = some (.ptr 3 1 0 0, hp4 r f (List.replicate 31 0) f00) := rfl
  have z1 : buildArr 1 (natsU (List.replicate 31 0)) [] = some (rgV (List.replicate 31 0)) := rfl
  have z2 : buildArr 1 [.bool false, .bool false, .bool false, .bool false] [] = some f00.a := rfl
  have c0 : ∀ H, boxRoA i.v H = some (.rp false i.v 0, H) := fun H => rfl
  have c1 : ∀ H, loadV G true 6 (.rp false i.v 0) H = some i.v := fun H => rfl
  have c2 : ∀ H, loadV G false 1 (.rp false i.v 0) H = some (I6 i.op) := fun H => rfl
  have zz : (AV.agg [(.int .u64 0), (.int .u64 0), (.int .u64 0), (.int .u64 0), (.int .u64 0), (.int .u64 0), (.int .u64 0), (.int .u64 0), (.int .u64 0), (.int .u64 0), (.int .u64 0), (.int .u64 0), (.int .u64 0), (.int .u64 0), (.int .u64 0), (.int .u64 0), (.int .u64 0), (.int .u64 0), (.int .u64 0), (.int .u64 0), (.int .u64 0), (.int .u64 0), (.int .u64 0), (.int .u64 0), (.int .u64 0), (.int .u64 0), (.int .u64 0), (.int .u64 0), (.int .u64 0), (.int .u64 0), (.int .u64 0)]) = rgV (List.replicate 31 0) := rfl
  have zz2 : [(AV.int .u64 0), (.int .u64 0), (.int .u64 0), (.int .u64 0), (.int .u64 0), (.int .u64 0), (.int .u64 0), (.int .u64 0), (.int .u64 0), (.int .u64 0), (.int .u64 0), (.int .u64 0), (.int .u64 0), (.int .u64 0), (.int .u64 0), (.int .u64 0), (.int .u64 0), (.int .u64 0), (.int .u64 0), (.int .u64 0), (.int .u64 0), (.int .u64 0), (.int .u64 0), (.int .u64 0), (.int .u64 0), (.int .u64 0), (.int .u64 0), (.int .u64 0), (.int .u64 0), (.int .u64 0), (.int .u64 0)] = natsU (List.replicate 31 0) := rfl
  rw [zz, zz2]
  have hZ : (List.replicate 31 0 : List Nat).length = 31 := rfl
  have s0 := stRg (r := r) (r2 := List.replicate 31 0) (f := f) (f2 := f00) (q := List.replicate 31 0) hZ hZ
  have s0' : stS (storeV 4 (.ptr 3 1 0 0) f00.a (hp4 r f (List.replicate 31 0) f00)) = some (.tup [], hp4 r f (List.replicate 31 0) f00) := rfl
  have hl : ([] : AHeap).length = 0 := rfl
  unfold oneF
  cases hright : rightB i
  · rw [hright] at r1
    rw [if_neg (by simp)]
    clear zz zz2
    generalize List.replicate 31 0 = Z at *
    generalize i.v = iv at *
    refine e_in ?_
    repeat first
      | (with_reducible first | refine eT ?_ | refine eN ?_ | refine eS ?_ | refine eXn ?_ | refine eXr ?_ | refine eX ?_ | refine eI ?_ | refine eK ?_ | refine eV0 ?_ | refine eGr0 ?_ | refine eGtt ?_ | refine eGff ?_ | refine eGtf ?_ | refine eGft ?_ | refine eGno ?_)
      | ((with_reducible apply eCn); (simp only [nth_zero, nth_succ]; first | done | (with_reducible exact rfl)))
      | ((with_reducible apply eJ); (rfl))
      | ((with_reducible apply eGr1); (first | rfl | (simp only [nth_zero, nth_succ]; rfl)))
      | ((with_reducible apply eB); (first | (with_reducible exact rfl) | (simp (disch := omega) only [qf, r1, b1, b2, b3, b4, c0, c1, c2, z1, z2, s0, s0']; first | done | (with_reducible exact rfl) | (with_reducible exact ⟨rfl, rfl⟩)) | (simp (disch := omega) only [qa, putC, AV.cells, storable, buildSt, fillA, buildRo, buildOwn, fillE, Nat.reduceLeDiff, Nat.reduceLT, Nat.reduceAdd, ↓reduceIte, r1, b1, b2, b3, b4, c0, c1, c2, z1, z2, s0, s0']; first | done | (with_reducible exact rfl) | (with_reducible exact ⟨rfl, rfl⟩))))
      | ((with_reducible apply eR); (simp only [nth_zero, nth_succ]; (with_reducible exact rfl)))
    exact oF (one_fin G r f Z hZ f00 false)
  · rw [hright] at r1
    obtain ⟨h24, hok⟩ := right_ok hright
    by_cases h17 : i.op ≤ 17
    · rw [if_pos ⟨rfl, h17⟩]
      have d1 : heapCall (mach_does.f G (k + 5)) [i.v, .ptr 0 1 0 0, .ptr 1 1 0 0] (hp4 r f (List.replicate 31 0) f00) = _ := heapCall_of (does_spec G (k + 2) i ⟨h24.1, h17⟩ hok r hr f (List.replicate 31 0) f00) (Nat.le_refl _)
      have hr' := doesF_ok i hr f
      obtain ⟨r', f', hd⟩ : ∃ r' f', doesF i r f = (r', f') := ⟨_, _, rfl⟩
      rw [hd] at d1 hr' ⊢
      simp only at d1 hr' ⊢
      have l1 := ldRg G (j := 0) (H := hp4 r' f' (List.replicate 31 0) f00) hr'.len rfl
      have l2 : loadV G true 4 (.ptr 1 1 0 0) (hp4 r' f' (List.replicate 31 0) f00) = some f'.a := rfl
      have s1 := stRg (r := r') (r2 := List.replicate 31 0) (f := f') (f2 := f00) (q := r') hr'.len hZ
      have s2 : stS (storeV 4 (.ptr 3 1 0 0) f'.a (hp4 r' f' r' f00)) = some (.tup [], hp4 r' f' r' f') := rfl
      clear zz zz2 hd
      generalize List.replicate 31 0 = Z at *
      generalize i.v = iv at *
      generalize i.op = op at *
      refine e_in ?_
      repeat' first
        | (with_reducible first | refine eT ?_ | refine eN ?_ | refine eS ?_ | refine eXn ?_ | refine eXr ?_ | refine eX ?_ | refine eI ?_ | refine eK ?_ | refine eV0 ?_ | refine eGr0 ?_ | refine eGtt ?_ | refine eGff ?_ | refine eGtf ?_ | refine eGft ?_ | refine eGno ?_)
        | ((with_reducible apply eCn); (simp only [nth_zero, nth_succ]; first | done | (with_reducible exact rfl)))
        | ((with_reducible apply eJ); (rfl))
        | ((with_reducible apply eGr1); (first | rfl | (simp only [nth_zero, nth_succ]; rfl)))
        | ((with_reducible apply eB); (first | (with_reducible exact rfl) | (simp (disch := omega) only [qf, r1, b1, b2, b3, b4, c0, c1, c2, z1, z2, l1, l2, s1, s2, d1]; first | done | (with_reducible exact rfl) | (with_reducible exact ⟨rfl, rfl⟩)) | (simp (disch := omega) only [qa, putC, AV.cells, storable, buildSt, fillA, buildRo, buildOwn, fillE, Nat.reduceLeDiff, Nat.reduceLT, Nat.reduceAdd, ↓reduceIte, r1, b1, b2, b3, b4, c0, c1, c2, z1, z2, l1, l2, s1, s2, d1]; first | done | (with_reducible exact rfl) | (with_reducible exact ⟨rfl, rfl⟩))))
        | ((with_reducible apply eR); (simp only [nth_zero, nth_succ]; (with_reducible exact rfl)))
        | ((with_reducible first | refine sEql ?_ ?_ | refine sNeq ?_ ?_ | refine sLss ?_ ?_ | refine sLeq ?_ ?_ | refine sGtr ?_ ?_ | refine sGeq ?_ ?_ | refine sNot ?_ ?_ | refine sPick ?_ ?_ | refine sGd ?_ ?_ | refine eBool ?_ ?_) <;> intro hq <;> try subst hq)
      all_goals first | omega | exact oF (one_fin G r' f' r' hr'.len f' true)
    · rw [if_neg (by simp [h17])]
      clear zz zz2
      generalize List.replicate 31 0 = Z at *
      generalize i.v = iv at *
      generalize i.op = op at *
      refine e_in ?_
      repeat' first
        | (with_reducible first | refine eT ?_ | refine eN ?_ | refine eS ?_ | refine eXn ?_ | refine eXr ?_ | refine eX ?_ | refine eI ?_ | refine eK ?_ | refine eV0 ?_ | refine eGr0 ?_ | refine eGtt ?_ | refine eGff ?_ | refine eGtf ?_ | refine eGft ?_ | refine eGno ?_)
        | ((with_reducible apply eCn); (simp only [nth_zero, nth_succ]; first | done | (with_reducible exact rfl)))
        | ((with_reducible apply eJ); (rfl))
        | ((with_reducible apply eGr1); (first | rfl | (simp only [nth_zero, nth_succ]; rfl)))
        | ((with_reducible apply eB); (first | (with_reducible exact rfl) | (simp (disch := omega) only [qf, r1, b1, b2, b3, b4, c0, c1, c2, z1, z2, s0, s0']; first | done | (with_reducible exact rfl) | (with_reducible exact ⟨rfl, rfl⟩)) | (simp (disch := omega) only [qa, putC, AV.cells, storable, buildSt, fillA, buildRo, buildOwn, fillE, Nat.reduceLeDiff, Nat.reduceLT, Nat.reduceAdd, ↓reduceIte, r1, b1, b2, b3, b4, c0, c1, c2, z1, z2, s0, s0']; first | done | (with_reducible exact rfl) | (with_reducible exact ⟨rfl, rfl⟩))))
        | ((with_reducible apply eR); (simp only [nth_zero, nth_succ]; (with_reducible exact rfl)))
        | ((with_reducible first | refine sEql ?_ ?_ | refine sNeq ?_ ?_ | refine sLss ?_ ?_ | refine sLeq ?_ ?_ | refine sGtr ?_ ?_ | refine sGeq ?_ ?_ | refine sNot ?_ ?_ | refine sPick ?_ ?_ | refine sGd ?_ ?_ | refine eBool ?_ ?_) <;> intro hq <;> try subst hq)
      all_goals first | omega | exact oF (one_fin G r f Z hZ f00 false)
end
end Go.Proofs.YtdfglgnflldkpaaDoor.Mir
