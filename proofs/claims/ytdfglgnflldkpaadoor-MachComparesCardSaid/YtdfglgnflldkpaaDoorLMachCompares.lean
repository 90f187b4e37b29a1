/- The law of MachCompares, in plain Lean. -/
import Derived.Test.YtdfglgnflldkpaaDoorLMachConsts
namespace Go.Proofs.YtdfglgnflldkpaaDoor
open Go Mir
set_option linter.unusedVariables false
set_option linter.unusedSimpArgs false
set_option maxHeartbeats 8000000
set_option maxRecDepth 20000

def fTT : FL := ⟨true, true, true, true⟩
abbrev condsV : AV := .ro false [.int .i64 0, .int .i64 1, .int .i64 2, .int .i64 3, .int .i64 8, .int .i64 9]
abbrev wantV (w : List Bool) : AV := .ro false (w.map .bool)
def xsP (a b : Nat) (y : AV) (w : List Bool) (i : Int) : List AV := [Un a, Un b, y, .bool true, .ptr 0 1 0 0, .ptr 2 1 0 0, .bool true, wantV w, condsV, I6 i]
def hF7 (r : List Nat) (f : FL) (q : List Nat) (f1 : FL) (q2 : List Nat) (f2 : FL) : AHeap := [⟨44, 31, [rgV r]⟩, ⟨44, 31, [rgV r]⟩, ⟨53, 4, [f.a]⟩, ⟨44, 31, [rgV q]⟩, ⟨53, 4, [f1.a]⟩, ⟨44, 31, [rgV q2]⟩, ⟨53, 4, [f2.a]⟩]

theorem boolsV_below (n : Nat) (w : List Bool) : belowL n (w.map AV.bool) = true := belowL_map n _ (fun _ => rfl) w

theorem sel_one (c : Int) (hc : c = 0 ∨ c = 1 ∨ c = 2 ∨ c = 3 ∨ c = 8 ∨ c = 9) (r : List Nat) (f : FL) :
    oneF ⟨16, 3, 1, 2, c, 0⟩ r f = (r.set 3 (if holdsF c f = true then getF r 1 else getF r 2), f, true) ∧ oneF ⟨17, 3, 0, 0, c, 0⟩ r f = (r.set 3 (if holdsF c f = true then 1 else 0), f, true) := by
  have k1 : rightB ⟨16, 3, 1, 2, c, 0⟩ = true := by rcases hc with rfl | rfl | rfl | rfl | rfl | rfl <;> kernel_rfl
  have k2 : rightB ⟨17, 3, 0, 0, c, 0⟩ = true := by rcases hc with rfl | rfl | rfl | rfl | rfl | rfl <;> kernel_rfl
  constructor
  · unfold oneF
    rw [if_pos ⟨k1, by simp only; omega⟩]
    unfold doesF
    simp only
    rw [if_neg (by omega), if_pos (Or.inl trivial)]
    unfold setF madeF
    simp (disch := omega) only [if_pos, if_neg]
    rfl
  · unfold oneF
    rw [if_pos ⟨k2, by simp only; omega⟩]
    unfold doesF
    simp only
    rw [if_neg (by omega), if_pos (Or.inr trivial)]
    unfold setF madeF
    simp (disch := omega) only [if_pos, if_neg]
    rfl

section
variable (G : Globs) (k : Nat) (self : Den)

/-- A condition. -/
theorem mp_round (lp : LoopF) (a b : Nat) (y : AV) (hy : belowB 3 y = true) (w : List Bool) (i c : Int) (wb : Bool) (r : List Nat) (hr : RgOk r) (f : FL) (H : AHeap) (hH : H.take 3 = hD r r f) (hi : 0 ≤ i ∧ i < 6)
    (hc : c = 0 ∨ c = 1 ∨ c = 2 ∨ c = 3 ∨ c = 8 ∨ c = 9) (d1 : idxAddrSl 1 condsV (I6 i) = some (.rp false (I6 c) 0)) (d2 : idxAddrSl 1 (wantV w) (I6 i) = some (.rp false (.bool wb) 0)) (hw : holdsF c f = wb)
    (ga : getF r 1 = a) (gb : getF r 2 = b) :
    ∃ T, alembiclaw23_MachCompares.l13 G (k + 6) 3 self lp (xsP a b y w i) H = lp (xsP a b .undef w (i + 1)) (⟨44, 31, [rgV r]⟩ :: ⟨44, 31, [rgV r]⟩ :: ⟨53, 4, [f.a]⟩ :: T) := by
  rw [alembiclaw23_MachCompares.l13, zz31]
  have hcut : cutH 3 (xsP a b y w i) H = some (hD r r f) := by
    have h2 : heapBelow 3 (hD r r f) = true := by simp [hD, heapBelow, belowL, belowB, natsU_below, FL.a]
    unfold cutH
    rw [hH, h2]
    simp [xsP, belowL, belowB, hy, boolsV_below]
  obtain ⟨e1, e2⟩ := sel_one c hc r f
  rw [hw, ga, gb] at e1
  rw [hw] at e2
  obtain ⟨n, hn⟩ : ∃ n, n = if wb = true then a else b := ⟨_, rfl⟩
  obtain ⟨o, ho⟩ : ∃ o : Nat, o = if wb = true then 1 else 0 := ⟨_, rfl⟩
  rw [← hn] at e1
  rw [← ho] at e2
  have c1 : ∀ H, pureCall (mach_One.f G (k + 6)) [mV 16 3 1 2 c 0, rgV r, f.a] H = _ := fun H => pureCall_of (H := H) (One_spec G k ⟨16, 3, 1, 2, c, 0⟩ r hr f) (by simp [plainL, plainB, plainU, FL.a]) (by simp [cleanB, cleanL, cleanU, FL.a])
  have c2 : ∀ H, pureCall (mach_One.f G (k + 6)) [mV 17 3 0 0 c 0, rgV r, f.a] H = _ := fun H => pureCall_of (H := H) (One_spec G k ⟨17, 3, 0, 0, c, 0⟩ r hr f) (by simp [plainL, plainB, plainU, FL.a]) (by simp [cleanB, cleanL, cleanU, FL.a])
  rw [e1] at c1
  rw [e2] at c2
  unfold oneV at c1 c2
  simp only at c1 c2
  have r3 : ∀ x, (r.set 3 x).length = 31 := fun x => by simp [hr.len]
  have t3 : ∀ x, (r.set 3 x).getD 3 0 = x := fun x => by
    rw [List.getD_eq_getElem?_getD, List.getElem?_set_self (by rw [hr.len]; omega)]; rfl
  have hq1 := r3 n
  have hq2 := r3 o
  have t1 := t3 n
  have t2 := t3 o
  generalize r.set 3 n = q1 at *
  generalize r.set 3 o = q2 at *
  have m1 : buildSt [(0, 1), (1, 1), (2, 1), (3, 1), (4, 1), (5, 1)] [(.int .i64 0), (.int .i64 0), (.int .i64 0), (.int .i64 0), (.int .i64 0), (.int .i64 0)] [(0, (.int .i64 16)), (1, (.int .i64 3)), (2, (.int .i64 1)), (3, (.int .i64 2)), (4, I6 c)] = some (mV 16 3 1 2 c 0) := rfl
  have m2 : buildSt [(0, 1), (1, 1), (2, 1), (3, 1), (4, 1), (5, 1)] [(.int .i64 0), (.int .i64 0), (.int .i64 0), (.int .i64 0), (.int .i64 0), (.int .i64 0)] [(0, (.int .i64 17)), (1, (.int .i64 3)), (4, I6 c)] = some (mV 17 3 0 0 c 0) := rfl
  have x1 : ∀ H, loadV G false 1 (.rp false (I6 c) 0) H = some (I6 c) := fun H => rfl
  have x2 : ∀ H, loadV G false 1 (.rp false (.bool wb) 0) H = some (.bool wb) := fun H => rfl
  have l0 := ldRg G (j := 0) (H := hD r r f) hr.len rfl
  have l1 : loadV G true 4 (.ptr 2 1 0 0) (hD r r f) = some f.a := rfl
  have b1 : boxA 44 (rgV Z31) (hD r r f) = some (.ptr 3 1 0 0, [⟨44, 31, [rgV r]⟩, ⟨44, 31, [rgV r]⟩, ⟨53, 4, [f.a]⟩, ⟨44, 31, [rgV Z31]⟩]) := rfl
  have b2 : boxA 53 (.agg [.bool false, .bool false, .bool false, .bool false]) [⟨44, 31, [rgV r]⟩, ⟨44, 31, [rgV r]⟩, ⟨53, 4, [f.a]⟩, ⟨44, 31, [rgV Z31]⟩] = some (.ptr 4 1 0 0, hE5 r r f Z31 f00) := rfl
  have s1 : stS (storeV 31 (.ptr 3 1 0 0) (rgV q1) (hE5 r r f Z31 f00)) = some (.tup [], hE5 r r f q1 f00) := stRgAt (H := hE5 r r f Z31 f00) (j := 3) hq1 rfl rfl
  have s2 : stS (storeV 4 (.ptr 4 1 0 0) f.a (hE5 r r f q1 f00)) = some (.tup [], hE5 r r f q1 f) := rfl
  have l2 := ldRg G (j := 0) (H := hE5 r r f q1 f) hr.len rfl
  have l3 : loadV G true 4 (.ptr 2 1 0 0) (hE5 r r f q1 f) = some f.a := rfl
  have b3 : boxA 44 (rgV Z31) (hE5 r r f q1 f) = some (.ptr 5 1 0 0, [⟨44, 31, [rgV r]⟩, ⟨44, 31, [rgV r]⟩, ⟨53, 4, [f.a]⟩, ⟨44, 31, [rgV q1]⟩, ⟨53, 4, [f.a]⟩, ⟨44, 31, [rgV Z31]⟩]) := rfl
  have b4 : boxA 53 (.agg [.bool false, .bool false, .bool false, .bool false]) [⟨44, 31, [rgV r]⟩, ⟨44, 31, [rgV r]⟩, ⟨53, 4, [f.a]⟩, ⟨44, 31, [rgV q1]⟩, ⟨53, 4, [f.a]⟩, ⟨44, 31, [rgV Z31]⟩] = some (.ptr 6 1 0 0, hF7 r f q1 f Z31 f00) := rfl
  have s3 : stS (storeV 31 (.ptr 5 1 0 0) (rgV q2) (hF7 r f q1 f Z31 f00)) = some (.tup [], hF7 r f q1 f q2 f00) := stRgAt (H := hF7 r f q1 f Z31 f00) (j := 5) hq2 rfl rfl
  have s4 : stS (storeV 4 (.ptr 6 1 0 0) f.a (hF7 r f q1 f q2 f00)) = some (.tup [], hF7 r f q1 f q2 f) := rfl
  have l4 : loadV G true 4 (.ptr 2 1 0 0) (hF7 r f q1 f q2 f) = some f.a := rfl
  have i3 : ∀ b, idxAddrArr 31 1 (.ptr b 1 0 0) (.int .i64 3) = some (.ptr b 1 0 3) := fun b => rfl
  have l5 := ldReg (G := G) (j := 3) (i := 3) (H := hF7 r f q1 f q2 f) hq1 (by omega) rfl
  have l6 := ldReg (G := G) (j := 5) (i := 3) (H := hF7 r f q1 f q2 f) hq2 (by omega) rfl
  rw [t1] at l5
  rw [t2] at l6
  have hh : ∀ H, pureCall (mach_Holds.f G (k + 6)) [I6 c, f.a] H = _ := fun H => pureCall_of (H := H) (holds_spec G (k + 5) c f) (by simp [plainL, plainB, FL.a]) rfl
  rw [hw] at hh
  have q1_ : bin Tryd.prog .neq 4 false (.bool wb) (.bool wb) = some (.bool false) := by rw [bin_neq_bool Tryd.underlying4]; simp
  have q2_ : bin Tryd.prog .neq 43 false (Un n) (Un n) = some (.bool false) := q_neq_f rfl
  have q3_ : bin Tryd.prog .neq 43 false (Un o) (Un o) = some (.bool false) := q_neq_f rfl
  have q4_ : bin Tryd.prog .add 3 true (I6 i) (.int .i64 1) = some (I6 (i + 1)) := q_add (by omega) (by omega)
  have q5_ : bin Tryd.prog .lss 3 true (I6 i) (.int .i64 6) = some (.bool true) := q_lss_t hi.2
  refine ⟨[⟨44, 31, [rgV q1]⟩, ⟨53, 4, [f.a]⟩, ⟨44, 31, [rgV q2]⟩, ⟨53, 4, [f.a]⟩], ?_⟩
  unfold xsP at *
  clear e1 e2 t1 t2 t3 r3 hw ga gb
  cases wb
  · rw [if_neg (by simp)] at hn ho
    subst hn ho
    refine e_id ?_
    refine eC hcut ?_
    repeat' first
      | (with_reducible first | refine eT ?_ | refine eN ?_ | refine eS ?_ | refine eXn ?_ | refine eXr ?_ | refine eX ?_ | refine eI ?_ | refine eK ?_ | refine eV0 ?_ | refine eGr0 ?_ | refine eGtt ?_ | refine eGff ?_ | refine eGtf ?_ | refine eGft ?_ | refine eGno ?_)
      | ((with_reducible apply eCn); (simp only [nth_zero, nth_succ]; first | done | (with_reducible exact rfl)))
      | ((with_reducible apply eJ); (rfl))
      | ((with_reducible apply eGr1); (first | rfl | (simp only [nth_zero, nth_succ]; rfl)))
      | ((with_reducible apply eB); (first | (with_reducible exact rfl) | (simp (disch := omega) only [qf, d1, d2, x1, x2, m1, m2, c1, c2, l0, l1, b1, b2, s1, s2, l2, l3, b3, b4, s3, s4, l4, i3, l5, l6, hh, q1_, q2_, q3_, q4_, q5_]; first | done | (with_reducible exact rfl) | (with_reducible exact ⟨rfl, rfl⟩)) | (simp (disch := omega) only [qa, putC, AV.cells, storable, buildSt, fillA, buildRo, buildOwn, fillE, Nat.reduceLeDiff, Nat.reduceLT, Nat.reduceAdd, ↓reduceIte, d1, d2, x1, x2, m1, m2, c1, c2, l0, l1, b1, b2, s1, s2, l2, l3, b3, b4, s3, s4, l4, i3, l5, l6, hh, q1_, q2_, q3_, q4_, q5_]; first | done | (with_reducible exact rfl) | (with_reducible exact ⟨rfl, rfl⟩))))
      | ((with_reducible apply eR); (simp only [nth_zero, nth_succ]; (with_reducible exact rfl)))
      | ((with_reducible first | refine sEql ?_ ?_ | refine sNeq ?_ ?_ | refine sLss ?_ ?_ | refine sLeq ?_ ?_ | refine sGtr ?_ ?_ | refine sGeq ?_ ?_ | refine sNot ?_ ?_ | refine sPick ?_ ?_ | refine sGd ?_ ?_ | refine eBool ?_ ?_) <;> intro hq <;> try subst hq)
    all_goals first | omega | (refine e_out ?_; rfl)
  · rw [if_pos rfl] at hn ho
    subst hn ho
    refine e_id ?_
    refine eC hcut ?_
    repeat' first
      | (with_reducible first | refine eT ?_ | refine eN ?_ | refine eS ?_ | refine eXn ?_ | refine eXr ?_ | refine eX ?_ | refine eI ?_ | refine eK ?_ | refine eV0 ?_ | refine eGr0 ?_ | refine eGtt ?_ | refine eGff ?_ | refine eGtf ?_ | refine eGft ?_ | refine eGno ?_)
      | ((with_reducible apply eCn); (simp only [nth_zero, nth_succ]; first | done | (with_reducible exact rfl)))
      | ((with_reducible apply eJ); (rfl))
      | ((with_reducible apply eGr1); (first | rfl | (simp only [nth_zero, nth_succ]; rfl)))
      | ((with_reducible apply eB); (first | (with_reducible exact rfl) | (simp (disch := omega) only [qf, d1, d2, x1, x2, m1, m2, c1, c2, l0, l1, b1, b2, s1, s2, l2, l3, b3, b4, s3, s4, l4, i3, l5, l6, hh, q1_, q2_, q3_, q4_, q5_]; first | done | (with_reducible exact rfl) | (with_reducible exact ⟨rfl, rfl⟩)) | (simp (disch := omega) only [qa, putC, AV.cells, storable, buildSt, fillA, buildRo, buildOwn, fillE, Nat.reduceLeDiff, Nat.reduceLT, Nat.reduceAdd, ↓reduceIte, d1, d2, x1, x2, m1, m2, c1, c2, l0, l1, b1, b2, s1, s2, l2, l3, b3, b4, s3, s4, l4, i3, l5, l6, hh, q1_, q2_, q3_, q4_, q5_]; first | done | (with_reducible exact rfl) | (with_reducible exact ⟨rfl, rfl⟩))))
      | ((with_reducible apply eR); (simp only [nth_zero, nth_succ]; (with_reducible exact rfl)))
      | ((with_reducible first | refine sEql ?_ ?_ | refine sNeq ?_ ?_ | refine sLss ?_ ?_ | refine sLeq ?_ ?_ | refine sGtr ?_ ?_ | refine sGeq ?_ ?_ | refine sNot ?_ ?_ | refine sPick ?_ ?_ | refine sGd ?_ ?_ | refine eBool ?_ ?_) <;> intro hq <;> try subst hq)
    all_goals first | omega | (refine e_out ?_; rfl)

/-- What the conditions are to say. -/
def wantL (a b : Nat) : List Bool := [decide (a = b), decide (a ≠ b), decide (b ≤ a), decide (a < b), decide (b < a), decide (a ≤ b)]
theorem less_z (a b : Nat) (ha : a < 18446744073709551616) (hb : b < 18446744073709551616) : (lessF a b).z = decide (a = b) := by
  unfold lessF lessX
  simp only
  rw [decide_eq_decide]; omega
theorem less_c (a b : Nat) : (lessF a b).c = decide (b ≤ a) := by unfold lessF lessX; rfl
theorem hold0 (a b : Nat) (ha : a < 18446744073709551616) (hb : b < 18446744073709551616) : holdsF 0 (lessF a b) = decide (a = b) := by
  unfold holdsF
  rw [if_pos rfl, less_z a b ha hb]
theorem hold1 (a b : Nat) (ha : a < 18446744073709551616) (hb : b < 18446744073709551616) : holdsF 1 (lessF a b) = decide (a ≠ b) := by
  have : holdsF 1 (lessF a b) = !(lessF a b).z := by unfold holdsF; rw [if_neg (by decide), if_pos rfl]
  rw [this, less_z a b ha hb]; simp
theorem hold2 (a b : Nat) (ha : a < 18446744073709551616) (hb : b < 18446744073709551616) : holdsF 2 (lessF a b) = decide (b ≤ a) := by
  unfold holdsF; rw [if_neg (by decide), if_neg (by decide), if_pos rfl]; exact less_c a b
theorem hold3 (a b : Nat) (ha : a < 18446744073709551616) (hb : b < 18446744073709551616) : holdsF 3 (lessF a b) = decide (a < b) := by
  have : holdsF 3 (lessF a b) = !decide (b ≤ a) := by
    unfold holdsF; rw [if_neg (by decide), if_neg (by decide), if_neg (by decide), if_pos rfl, less_c]
  rw [this, ← decide_not, decide_eq_decide]; omega
theorem hold8 (a b : Nat) (ha : a < 18446744073709551616) (hb : b < 18446744073709551616) : holdsF 8 (lessF a b) = decide (b < a) := by
  have : holdsF 8 (lessF a b) = (decide (b ≤ a) && !(lessF a b).z) := by
    unfold holdsF; rw [if_neg (by decide), if_neg (by decide), if_neg (by decide), if_neg (by decide), if_pos rfl, less_c]
  rw [this, less_z a b ha hb, ← decide_not, ← Bool.decide_and, decide_eq_decide]; omega
theorem hold9 (a b : Nat) (ha : a < 18446744073709551616) (hb : b < 18446744073709551616) : holdsF 9 (lessF a b) = decide (a ≤ b) := by
  have : holdsF 9 (lessF a b) = (!decide (b ≤ a) || (lessF a b).z) := by
    unfold holdsF; rw [if_neg (by decide), if_neg (by decide), if_neg (by decide), if_neg (by decide), if_neg (by decide), if_pos rfl, less_c]
  rw [this, less_z a b ha hb, ← decide_not, ← Bool.decide_or, decide_eq_decide]; omega

theorem mp_loop (f : Nat) (a b : Nat) (ha : a < 18446744073709551616) (hb : b < 18446744073709551616) (y : AV) (hy : belowB 3 y = true) (r : List Nat) (hr : RgOk r) (ga : getF r 1 = a) (gb : getF r 2 = b) :
    loopN (alembiclaw23_MachCompares.l13 G (k + 6) 3 self) (f + 7) (xsP a b y (wantL a b) 0) (hD r r (lessF a b)) = some (.exit 0, xsP a b .undef (wantL a b) 6, hD r r (lessF a b)) := by
  obtain ⟨T1, e1⟩ := mp_round G k self (loopN (alembiclaw23_MachCompares.l13 G (k + 6) 3 self) (f + 6)) a b y hy (wantL a b) 0 0 _ r hr (lessF a b) (hD r r (lessF a b)) rfl (by omega) (by omega) rfl rfl (hold0 a b ha hb) ga gb
  obtain ⟨T2, e2⟩ := mp_round G k self (loopN (alembiclaw23_MachCompares.l13 G (k + 6) 3 self) (f + 5)) a b .undef rfl (wantL a b) 1 1 _ r hr (lessF a b) (⟨44, 31, [rgV r]⟩ :: ⟨44, 31, [rgV r]⟩ :: ⟨53, 4, [(lessF a b).a]⟩ :: T1) rfl (by omega) (by omega) rfl rfl (hold1 a b ha hb) ga gb
  obtain ⟨T3, e3⟩ := mp_round G k self (loopN (alembiclaw23_MachCompares.l13 G (k + 6) 3 self) (f + 4)) a b .undef rfl (wantL a b) 2 2 _ r hr (lessF a b) (⟨44, 31, [rgV r]⟩ :: ⟨44, 31, [rgV r]⟩ :: ⟨53, 4, [(lessF a b).a]⟩ :: T2) rfl (by omega) (by omega) rfl rfl (hold2 a b ha hb) ga gb
  obtain ⟨T4, e4⟩ := mp_round G k self (loopN (alembiclaw23_MachCompares.l13 G (k + 6) 3 self) (f + 3)) a b .undef rfl (wantL a b) 3 3 _ r hr (lessF a b) (⟨44, 31, [rgV r]⟩ :: ⟨44, 31, [rgV r]⟩ :: ⟨53, 4, [(lessF a b).a]⟩ :: T3) rfl (by omega) (by omega) rfl rfl (hold3 a b ha hb) ga gb
  obtain ⟨T5, e5⟩ := mp_round G k self (loopN (alembiclaw23_MachCompares.l13 G (k + 6) 3 self) (f + 2)) a b .undef rfl (wantL a b) 4 8 _ r hr (lessF a b) (⟨44, 31, [rgV r]⟩ :: ⟨44, 31, [rgV r]⟩ :: ⟨53, 4, [(lessF a b).a]⟩ :: T4) rfl (by omega) (by omega) rfl rfl (hold8 a b ha hb) ga gb
  obtain ⟨T6, e6⟩ := mp_round G k self (loopN (alembiclaw23_MachCompares.l13 G (k + 6) 3 self) (f + 1)) a b .undef rfl (wantL a b) 5 9 _ r hr (lessF a b) (⟨44, 31, [rgV r]⟩ :: ⟨44, 31, [rgV r]⟩ :: ⟨53, 4, [(lessF a b).a]⟩ :: T5) rfl (by omega) (by omega) rfl rfl (hold9 a b ha hb) ga gb
  rw [loopN_succ, e1]
  rw [loopN_succ]
  show alembiclaw23_MachCompares.l13 G (k + 6) 3 self (loopN (alembiclaw23_MachCompares.l13 G (k + 6) 3 self) (f + 5)) (xsP a b .undef (wantL a b) 1) _ = _
  rw [e2]
  rw [loopN_succ]
  show alembiclaw23_MachCompares.l13 G (k + 6) 3 self (loopN (alembiclaw23_MachCompares.l13 G (k + 6) 3 self) (f + 4)) (xsP a b .undef (wantL a b) 2) _ = _
  rw [e3]
  rw [loopN_succ]
  show alembiclaw23_MachCompares.l13 G (k + 6) 3 self (loopN (alembiclaw23_MachCompares.l13 G (k + 6) 3 self) (f + 3)) (xsP a b .undef (wantL a b) 3) _ = _
  rw [e4]
  rw [loopN_succ]
  show alembiclaw23_MachCompares.l13 G (k + 6) 3 self (loopN (alembiclaw23_MachCompares.l13 G (k + 6) 3 self) (f + 2)) (xsP a b .undef (wantL a b) 4) _ = _
  rw [e5]
  rw [loopN_succ]
  show alembiclaw23_MachCompares.l13 G (k + 6) 3 self (loopN (alembiclaw23_MachCompares.l13 G (k + 6) 3 self) (f + 1)) (xsP a b .undef (wantL a b) 5) _ = _
  rw [e6]
  rw [loopN_succ, alembiclaw23_MachCompares.l13]
  have hc : cutH 3 (xsP a b .undef (wantL a b) (5 + 1)) (⟨44, 31, [rgV r]⟩ :: ⟨44, 31, [rgV r]⟩ :: ⟨53, 4, [(lessF a b).a]⟩ :: T6) = some (hD r r (lessF a b)) := by
    have h2 : heapBelow 3 (hD r r (lessF a b)) = true := by simp [hD, heapBelow, belowL, belowB, natsU_below, FL.a]
    have h3 : (⟨44, 31, [rgV r]⟩ :: ⟨44, 31, [rgV r]⟩ :: ⟨53, 4, [(lessF a b).a]⟩ :: T6 : AHeap).take 3 = hD r r (lessF a b) := rfl
    unfold cutH
    rw [h3, h2]
    simp [xsP, belowL, belowB, boolsV_below]
  have q : bin Tryd.prog .lss 3 true (I6 (5 + 1)) (.int .i64 6) = some (.bool false) := by kernel_rfl
  unfold xsP at *
  refine e_id ?_
  refine eC hc ?_
  repeat' first
    | (with_reducible first | refine eT ?_ | refine eN ?_ | refine eS ?_ | refine eXn ?_ | refine eXr ?_ | refine eX ?_ | refine eI ?_ | refine eK ?_ | refine eV0 ?_ | refine eGr0 ?_ | refine eGtt ?_ | refine eGff ?_ | refine eGtf ?_ | refine eGft ?_ | refine eGno ?_)
    | ((with_reducible apply eCn); (simp only [nth_zero, nth_succ]; first | done | (with_reducible exact rfl)))
    | ((with_reducible apply eJ); (rfl))
    | ((with_reducible apply eGr1); (first | rfl | (simp only [nth_zero, nth_succ]; rfl)))
    | ((with_reducible apply eB); (first | (with_reducible exact rfl) | (simp (disch := omega) only [qf, q]; first | done | (with_reducible exact rfl) | (with_reducible exact ⟨rfl, rfl⟩)) | (simp (disch := omega) only [qa, putC, AV.cells, storable, buildSt, fillA, buildRo, buildOwn, fillE, Nat.reduceLeDiff, Nat.reduceLT, Nat.reduceAdd, ↓reduceIte, q]; first | done | (with_reducible exact rfl) | (with_reducible exact ⟨rfl, rfl⟩))))
    | ((with_reducible apply eR); (simp only [nth_zero, nth_succ]; (with_reducible exact rfl)))
    | ((with_reducible first | refine sEql ?_ ?_ | refine sNeq ?_ ?_ | refine sLss ?_ ?_ | refine sLeq ?_ ?_ | refine sGtr ?_ ?_ | refine sGeq ?_ ?_ | refine sNot ?_ ?_ | refine sPick ?_ ?_ | refine sGd ?_ ?_ | refine eBool ?_ ?_) <;> intro hq <;> try subst hq)
  refine e_out ?_; rfl
end

theorem LMachCompares.law (xs : List AV) (h : IsTs Tryd.prog [43, 43, 4] xs) : ∃ k, alembiclaw23_MachCompares.f (sentG 180 [1, 0]) k xs [] = some (.bool true, []) := by
  obtain ⟨x1, _, rfl, hx1, h⟩ := h.uncons
  obtain ⟨x2, _, rfl, hx2, h⟩ := h.uncons
  obtain ⟨x3, _, rfl, hx3, h⟩ := h.uncons
  obtain rfl := h.unnil
  obtain ⟨a', rfl, ha'⟩ := hx1.of_int (k := .u64) Tryd.underlying43
  obtain ⟨b', rfl, hb'⟩ := hx2.of_int (k := .u64) Tryd.underlying43
  obtain ⟨near, rfl⟩ := hx3.of_bool Tryd.underlying4
  replace ha' := wf_u64 ha'
  replace hb' := wf_u64 hb'
  obtain ⟨a, rfl⟩ : ∃ w : Nat, a' = (w : Int) := ⟨a'.toNat, by omega⟩
  obtain ⟨b, rfl⟩ : ∃ w : Nat, b' = (w : Int) := ⟨b'.toNat, by omega⟩
  have ha : a < 18446744073709551616 := by omega
  have hb : b < 18446744073709551616 := by omega
  clear h hx1 hx2 hx3
  generalize sentG 180 [1, 0] = G
  refine ⟨8001, ?_⟩
  have rf : ∀ H, pureCall (alembiclaw23_first.f G 8000) [] H = _ := fun H => pureCall_of (H := H) (first23 G 7940) rfl rfl
  have n1 : bin Tryd.prog .rem 43 true (Un b) (.int .u64 3) = some (Un (b % 3)) := by
    rw [bin_rem _ _ _ _ _ _ (by decide)]; congr 2
  have n2 := u64_add Tryd.prog 43 false a (b % 3)
  have n3 : bin Tryd.prog .sub 43 true (Un ((a + b % 3) % 18446744073709551616)) (.int .u64 1) = some (Un (((a + b % 3) % 18446744073709551616 + 18446744073709551616 - 1) % 18446744073709551616)) := u64_sub Tryd.prog 43 true _ 1 (by decide)
  obtain ⟨c, hc, hcase⟩ : ∃ c, c < 18446744073709551616 ∧ c = (if near = true then ((a + b % 3) % 18446744073709551616 + 18446744073709551616 - 1) % 18446744073709551616 else b) := ⟨_, by split <;> omega, rfl⟩
  have hz : RgOk Z31 := ⟨rfl, fun x hx => by have := (List.mem_replicate.1 hx).2; omega⟩
  have hr1 := setF_ok hz 1 a ha
  have hr2 := setF_ok hr1 2 c hc
  obtain ⟨r, hr⟩ : ∃ r, r = setF (setF Z31 1 a) 2 c := ⟨_, rfl⟩
  rw [← hr] at hr2
  have ga : getF r 1 = a := by rw [hr]; rfl
  have gb : getF r 2 = c := by rw [hr]; rfl
  have hlp := mp_loop G 7994 (alembiclaw23_MachCompares.f G 8000) 7993 a c ha hc .undef rfl r hr2 ga gb
  rw [alembiclaw23_MachCompares.step]
  unfold alembiclaw23_MachCompares.c
  rw [zz31]
  have b0 : boxA 44 (rgV Z31) [] = some (.ptr 0 1 0 0, hC Z31) := rfl
  have i1 : idxAddrArr 31 1 (.ptr 0 1 0 0) (.int .i64 1) = some (.ptr 0 1 0 1) := rfl
  have i2 : idxAddrArr 31 1 (.ptr 0 1 0 0) (.int .i64 2) = some (.ptr 0 1 0 2) := rfl
  have s0 : stS (storeV 1 (.ptr 0 1 0 1) (Un a) (hC Z31)) = some (.tup [], hC (setF Z31 1 a)) := rfl
  have s1 : stS (storeV 1 (.ptr 0 1 0 2) (Un c) (hC (setF Z31 1 a))) = some (.tup [], hC r) := by rw [hr]; rfl
  have m1 : buildSt [(0, 1), (1, 1), (2, 1), (3, 1), (4, 1), (5, 1)] [(.int .i64 0), (.int .i64 0), (.int .i64 0), (.int .i64 0), (.int .i64 0), (.int .i64 0)] [(0, (.int .i64 15)), (2, (.int .i64 1)), (3, (.int .i64 2))] = some (mV 15 0 1 2 0 0) := rfl
  have z2 : buildArr 1 [.bool false, .bool false, .bool false, .bool false] [(0, .bool true), (1, .bool true), (2, .bool true), (3, .bool true)] = some fTT.a := rfl
  have l0 := ldRg G (j := 0) (H := hC r) hr2.len rfl
  have c1 : ∀ H, pureCall (mach_One.f G 8000) [mV 15 0 1 2 0 0, rgV r, fTT.a] H = _ := fun H => pureCall_of (H := H) (One_spec G 7994 ⟨15, 0, 1, 2, 0, 0⟩ r hr2 fTT) (by simp [plainL, plainB, plainU, FL.a]) (by simp [cleanB, cleanL, cleanU, FL.a])
  have k1 : rightB ⟨15, 0, 1, 2, 0, 0⟩ = true := by kernel_rfl
  have o1 : oneF ⟨15, 0, 1, 2, 0, 0⟩ r fTT = (r, lessF a c, true) := by
    unfold oneF
    rw [if_pos ⟨k1, by simp only; omega⟩]
    unfold doesF
    simp only [if_true]
    rw [ga, gb]
  rw [o1] at c1
  unfold oneV at c1
  simp only at c1
  obtain ⟨f, hf⟩ : ∃ f, f = lessF a c := ⟨_, rfl⟩
  have fn : f.n = decide (((a + 18446744073709551616 - c) % 18446744073709551616) / 2 ^ 63 = 1) := by rw [hf]; unfold lessF lessX; rfl
  have h4 : holdsF 4 f = false := by unfold holdsF; rw [if_neg (by decide), if_neg (by decide), if_neg (by decide), if_neg (by decide), if_neg (by decide), if_neg (by decide)]
  rw [← hf] at c1 hlp
  have b1 : boxA 44 (rgV Z31) (hC r) = some (.ptr 1 1 0 0, [⟨44, 31, [rgV r]⟩, ⟨44, 31, [rgV Z31]⟩]) := rfl
  have b2 : boxA 53 (.agg [.bool false, .bool false, .bool false, .bool false]) [⟨44, 31, [rgV r]⟩, ⟨44, 31, [rgV Z31]⟩] = some (.ptr 2 1 0 0, hD r Z31 f00) := rfl
  have s2 : stS (storeV 31 (.ptr 1 1 0 0) (rgV r) (hD r Z31 f00)) = some (.tup [], hD r r f00) := stRgAt (H := hD r Z31 f00) (j := 1) hr2.len rfl rfl
  have s3 : stS (storeV 4 (.ptr 2 1 0 0) f.a (hD r r f00)) = some (.tup [], hD r r f) := rfl
  have w0 : bin Tryd.prog .eql 43 false (Un a) (Un c) = some (.bool (decide (a = c))) := by rw [bin_eql]; congr 2; simp only [decide_eq_decide]; omega
  have w1_ : bin Tryd.prog .neq 43 false (Un a) (Un c) = some (.bool (decide (a ≠ c))) := by rw [bin_neq]; congr 2; simp only [decide_eq_decide]; omega
  have w2_ : bin Tryd.prog .geq 43 false (Un a) (Un c) = some (.bool (decide (c ≤ a))) := by rw [bin_geq]; congr 2; simp only [decide_eq_decide]; omega
  have w3 : bin Tryd.prog .lss 43 false (Un a) (Un c) = some (.bool (decide (a < c))) := by rw [bin_lss]; congr 2; simp only [decide_eq_decide]; omega
  have w4 : bin Tryd.prog .gtr 43 false (Un a) (Un c) = some (.bool (decide (c < a))) := by rw [bin_gtr]; congr 2; simp only [decide_eq_decide]; omega
  have w5 : bin Tryd.prog .leq 43 false (Un a) (Un c) = some (.bool (decide (a ≤ c))) := by rw [bin_leq]; congr 2; simp only [decide_eq_decide]; omega
  have v0 : ∀ H, buildRo 1 6 (.bool false) [(0, .bool (decide (a = c))), (1, .bool (decide (a ≠ c))), (2, .bool (decide (c ≤ a))), (3, .bool (decide (a < c))), (4, .bool (decide (c < a))), (5, .bool (decide (a ≤ c)))] H = some (wantV (wantL a c), H) := fun H => rfl
  have v1 : ∀ H, buildRo 1 6 (.int .i64 0) [(0, (.int .i64 0)), (1, (.int .i64 1)), (2, (.int .i64 2)), (3, (.int .i64 3)), (4, (.int .i64 8)), (5, (.int .i64 9))] H = some (condsV, H) := fun H => rfl
  have hlen : (hD r r f).length = 3 := rfl
  have l4 : loadV G true 4 (.ptr 2 1 0 0) (hD r r f) = some f.a := rfl
  have i4 : idxAddrArr 4 1 (.ptr 2 1 0 0) (.int .i64 0) = some (.ptr 2 1 0 0) := rfl
  have l5 : loadV G false 1 (.ptr 2 1 0 0) (hD r r f) = some (.bool f.n) := rfl
  have hh : ∀ H, pureCall (mach_Holds.f G 8000) [.int .i64 4, f.a] H = _ := fun H => pureCall_of (H := H) (holds_spec G 7999 4 f) (by simp [plainL, plainB, FL.a]) rfl
  rw [h4] at hh
  have e1 := u64_sub Tryd.prog 43 false a c hc
  have e2 := conv_i64 ((a + 18446744073709551616 - c) % 18446744073709551616) (Nat.mod_lt _ (by decide))
  have e3 : bin Tryd.prog .lss 2 true (I6 (s64 ((a + 18446744073709551616 - c) % 18446744073709551616))) (.int .i64 0) = some (.bool f.n) := by
    rw [bin_lss, fn]; congr 2; rw [decide_eq_decide]; unfold s64; split <;> omega
  have e4 : bin Tryd.prog .eql 4 false (.bool f.n) (.bool f.n) = some (.bool true) := by rw [bin_eql_bool Tryd.underlying4]; simp
  unfold xsP at hlp
  clear fn h4 hf o1 k1 hz hr1 ga gb
  generalize (a + 18446744073709551616 - c) % 18446744073709551616 = x at *
  generalize s64 x = sx at *
  generalize f.n = fn at *
  generalize wantV (wantL a c) = wv at *
  generalize decide (a = c) = g0 at *
  generalize decide (a ≠ c) = g1 at *
  generalize decide (c ≤ a) = g2 at *
  generalize decide (a < c) = g3 at *
  generalize decide (c < a) = g4 at *
  generalize decide (a ≤ c) = g5 at *
  refine e_in ?_
  cases near
  · rw [if_neg (by simp)] at hcase
    subst hcase
    repeat' first
      | (with_reducible first | refine eT ?_ | refine eN ?_ | refine eS ?_ | refine eXn ?_ | refine eXr ?_ | refine eX ?_ | refine eI ?_ | refine eK ?_ | refine eV0 ?_ | refine eGr0 ?_ | refine eGtt ?_ | refine eGff ?_ | refine eGtf ?_ | refine eGft ?_ | refine eGno ?_)
      | ((with_reducible apply eCn); (simp only [nth_zero, nth_succ]; first | done | (with_reducible exact rfl)))
      | ((with_reducible apply eJ); (rfl))
      | ((with_reducible apply eGr1); (first | rfl | (simp only [nth_zero, nth_succ]; rfl)))
      | ((with_reducible apply eL); (first | exact hlp))
      | ((with_reducible apply eB); (first | (with_reducible exact rfl) | (simp (disch := omega) only [qf, rf, b0, i1, i2, s0, s1, m1, z2, l0, c1, b1, b2, s2, s3, w0, w1_, w2_, w3, w4, w5, v0, v1, hlen, l4, i4, l5, hh, e1, e2, e3, e4]; first | done | (with_reducible exact rfl) | (with_reducible exact ⟨rfl, rfl⟩)) | (simp (disch := omega) only [qa, putC, AV.cells, storable, buildSt, fillA, buildRo, buildOwn, fillE, Nat.reduceLeDiff, Nat.reduceLT, Nat.reduceAdd, ↓reduceIte, rf, b0, i1, i2, s0, s1, m1, z2, l0, c1, b1, b2, s2, s3, w0, w1_, w2_, w3, w4, w5, v0, v1, hlen, l4, i4, l5, hh, e1, e2, e3, e4]; first | done | (with_reducible exact rfl) | (with_reducible exact ⟨rfl, rfl⟩))))
      | ((with_reducible apply eR); (simp only [nth_zero, nth_succ]; (with_reducible exact rfl)))
      | ((with_reducible first | refine sEql ?_ ?_ | refine sNeq ?_ ?_ | refine sLss ?_ ?_ | refine sLeq ?_ ?_ | refine sGtr ?_ ?_ | refine sGeq ?_ ?_ | refine sNot ?_ ?_ | refine sPick ?_ ?_ | refine sGd ?_ ?_ | refine eBool ?_ ?_) <;> intro hq <;> try subst hq)
    all_goals first | omega | exact w1b rfl
  · rw [if_pos rfl] at hcase
    rw [← hcase] at n3
    repeat' first
      | (with_reducible first | refine eT ?_ | refine eN ?_ | refine eS ?_ | refine eXn ?_ | refine eXr ?_ | refine eX ?_ | refine eI ?_ | refine eK ?_ | refine eV0 ?_ | refine eGr0 ?_ | refine eGtt ?_ | refine eGff ?_ | refine eGtf ?_ | refine eGft ?_ | refine eGno ?_)
      | ((with_reducible apply eCn); (simp only [nth_zero, nth_succ]; first | done | (with_reducible exact rfl)))
      | ((with_reducible apply eJ); (rfl))
      | ((with_reducible apply eGr1); (first | rfl | (simp only [nth_zero, nth_succ]; rfl)))
      | ((with_reducible apply eL); (first | exact hlp))
      | ((with_reducible apply eB); (first | (with_reducible exact rfl) | (simp (disch := omega) only [qf, rf, n1, n2, n3, b0, i1, i2, s0, s1, m1, z2, l0, c1, b1, b2, s2, s3, w0, w1_, w2_, w3, w4, w5, v0, v1, hlen, l4, i4, l5, hh, e1, e2, e3, e4]; first | done | (with_reducible exact rfl) | (with_reducible exact ⟨rfl, rfl⟩)) | (simp (disch := omega) only [qa, putC, AV.cells, storable, buildSt, fillA, buildRo, buildOwn, fillE, Nat.reduceLeDiff, Nat.reduceLT, Nat.reduceAdd, ↓reduceIte, rf, n1, n2, n3, b0, i1, i2, s0, s1, m1, z2, l0, c1, b1, b2, s2, s3, w0, w1_, w2_, w3, w4, w5, v0, v1, hlen, l4, i4, l5, hh, e1, e2, e3, e4]; first | done | (with_reducible exact rfl) | (with_reducible exact ⟨rfl, rfl⟩))))
      | ((with_reducible apply eR); (simp only [nth_zero, nth_succ]; (with_reducible exact rfl)))
      | ((with_reducible first | refine sEql ?_ ?_ | refine sNeq ?_ ?_ | refine sLss ?_ ?_ | refine sLeq ?_ ?_ | refine sGtr ?_ ?_ | refine sGeq ?_ ?_ | refine sNot ?_ ?_ | refine sPick ?_ ?_ | refine sGd ?_ ?_ | refine eBool ?_ ?_) <;> intro hq <;> try subst hq)
    all_goals first | omega | exact w1b rfl
end Go.Proofs.YtdfglgnflldkpaaDoor
