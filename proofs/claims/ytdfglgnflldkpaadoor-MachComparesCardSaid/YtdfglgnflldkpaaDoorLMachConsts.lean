/- The law of MachConsts, in plain Lean. -/
import Derived.Test.YtdfglgnflldkpaaDoorMe
import Derived.Test.YtdfglgnflldkpaaDoorMirX
import Derived.Test.YtdfglgnflldkpaaDoorMirY
namespace Go.Proofs.YtdfglgnflldkpaaDoor
open Go Mir
set_option linter.unusedVariables false
set_option linter.unusedSimpArgs false
set_option maxHeartbeats 8000000
set_option maxRecDepth 20000

abbrev Z31 : List Nat := List.replicate 31 0
def hC (r : List Nat) : AHeap := [⟨44, 31, [rgV r]⟩]
def hD (r q : List Nat) (f : FL) : AHeap := [⟨44, 31, [rgV r]⟩, ⟨44, 31, [rgV q]⟩, ⟨53, 4, [f.a]⟩]
def hE5 (r q : List Nat) (f : FL) (q2 : List Nat) (f2 : FL) : AHeap := [⟨44, 31, [rgV r]⟩, ⟨44, 31, [rgV q]⟩, ⟨53, 4, [f.a]⟩, ⟨44, 31, [rgV q2]⟩, ⟨53, 4, [f2.a]⟩]
def xsC (w : Nat) (o : Int) (y : AV) (j : Int) : List AV := [Un w, I6 o, y, .bool true, .ptr 0 1 0 0, I6 j]
theorem zz31 : (AV.agg [(.int .u64 0), (.int .u64 0), (.int .u64 0), (.int .u64 0), (.int .u64 0), (.int .u64 0), (.int .u64 0), (.int .u64 0), (.int .u64 0), (.int .u64 0), (.int .u64 0), (.int .u64 0), (.int .u64 0), (.int .u64 0), (.int .u64 0), (.int .u64 0), (.int .u64 0), (.int .u64 0), (.int .u64 0), (.int .u64 0), (.int .u64 0), (.int .u64 0), (.int .u64 0), (.int .u64 0), (.int .u64 0), (.int .u64 0), (.int .u64 0), (.int .u64 0), (.int .u64 0), (.int .u64 0), (.int .u64 0)]) = rgV Z31 := rfl

theorem mov_right (op a n : Int) (h : op = 1 ∨ op = 2) (ha : 0 ≤ a ∧ a ≤ 3) (hn : 0 ≤ n ∧ n < 65536) : rightB ⟨op, 5, 0, 0, a, n⟩ = true := by
  rcases h with rfl | rfl
  all_goals (simp [rightB, isOp, formF, fairB, regB, extraB, immB, halfI, stackB]; omega)

section
variable (G : Globs) (k : Nat) (self : Den)

/-- A round: sixteen bits are laid. -/
theorem mc_round (lp : LoopF) (w : Nat) (hw : w < 18446744073709551616) (o : Int) (y : AV) (hy : belowB 1 y = true) (j s a : Int) (r : List Nat) (hr : RgOk r) (H : AHeap) (hH : H.take 1 = hC r) (hj : 0 ≤ j ∧ j < 4)
    (ha : 0 ≤ a ∧ a ≤ 3) (q1 : bin Tryd.prog .add 3 false (I6 o) (I6 j) = some (I6 s)) (q2 : bin Tryd.prog .rem 3 true (I6 s) (.int .i64 4) = some (I6 a)) (op : Int) (hop : (j = 0 ∧ op = 1) ∨ (j ≠ 0 ∧ op = 2)) :
    ∃ T, alembiclaw23_MachConsts.l8 G (k + 6) 1 self lp (xsC w o y j) H = lp (xsC w o .undef (j + 1)) (⟨44, 31, [rgV (r.set 5 (madeF op a (partF w (16 * a.toNat) : Nat) (getF r 5) (getF r 0) (getF r 0) 0 false))]⟩ :: T) := by
  rw [alembiclaw23_MachConsts.l8, zz31]
  have hc : cutH 1 (xsC w o y j) H = some (hC r) := by
    have h2 : heapBelow 1 (hC r) = true := by simp [hC, heapBelow, belowL, belowB, natsU_below]
    unfold cutH
    rw [hH, h2]
    simp [xsC, belowL, belowB, hy]
  obtain ⟨b, hb⟩ : ∃ b : Nat, (b : Int) = 16 * a := ⟨(16 * a).toNat, by omega⟩
  have eb : 16 * a.toNat = b := by omega
  rw [eb]
  have q3 : bin Tryd.prog .mul 3 true (.int .i64 16) (I6 a) = some (Nn b) := by rw [bin_mul, wrap_of_i64 (by omega) (by omega), ← hb]
  have q4 : convInt .u64 (Nn b) = some (Un b) := by rw [conv_u64, u64_nat _ (by omega)]
  have q5 := u64_shr Tryd.prog 43 false .u64 w b (by omega)
  have hwl : w / 2 ^ b < 18446744073709551616 := Nat.lt_of_le_of_lt (Nat.div_le_self _ _) hw
  have q6 : bin Tryd.prog .and 43 true (Un (w / 2 ^ b)) (.int .u64 65535) = some (Un (partF w b)) := by
    rw [bin_and]
    have := u64_and (w / 2 ^ b) 65535 hwl (by omega)
    rw [show (w / 2 ^ b) &&& 65535 = w / 2 ^ b % 65536 from Nat.and_two_pow_sub_one_eq_mod _ 16] at this
    exact congrArg (fun z => some (AV.int .u64 z)) this
  have hpl := part_lt w b
  have q7 : convInt .i64 (Un (partF w b)) = some (Nn (partF w b)) := by rw [convInt_int, wrap_of_i64 (by omega) (by omega)]
  have hright : rightB ⟨op, 5, 0, 0, a, (partF w b : Nat)⟩ = true := mov_right op a _ (by omega) ha (by omega)
  have hone : oneF ⟨op, 5, 0, 0, a, (partF w b : Nat)⟩ r f00 = (r.set 5 (madeF op a (partF w b : Nat) (getF r 5) (getF r 0) (getF r 0) 0 false), f00, true) := by
    unfold oneF
    rw [if_pos ⟨hright, by simp only; omega⟩]
    unfold doesF
    simp only
    rw [if_neg (by omega), if_neg (by omega), if_neg (by omega)]
    unfold setF
    rw [if_neg (by omega)]
    rfl
  have r1 : ∀ H, pureCall (mach_One.f G (k + 6)) [mV op 5 0 0 a (partF w b : Nat), rgV r, f00.a] H = _ := fun H => pureCall_of (H := H) (One_spec G k ⟨op, 5, 0, 0, a, (partF w b : Nat)⟩ r hr f00) (by simp [plainL, plainB, plainU, FL.a]) (by simp [cleanB, cleanL, cleanU, FL.a])
  rw [hone] at r1
  have hr' : (r.set 5 (madeF op a (partF w b : Nat) (getF r 5) (getF r 0) (getF r 0) 0 false)).length = 31 := by simp [hr.len]
  generalize r.set 5 (madeF op a (partF w b : Nat) (getF r 5) (getF r 0) (getF r 0) 0 false) = r' at *
  unfold oneV at r1
  simp only at r1
  have l1 := ldRg G (j := 0) (H := hC r) hr.len rfl
  have z2 : buildArr 1 [.bool false, .bool false, .bool false, .bool false] [] = some f00.a := rfl
  have b1 : boxA 44 (rgV Z31) (hC r) = some (.ptr 1 1 0 0, [⟨44, 31, [rgV r]⟩, ⟨44, 31, [rgV Z31]⟩]) := rfl
  have b2 : boxA 53 (.agg [.bool false, .bool false, .bool false, .bool false]) [⟨44, 31, [rgV r]⟩, ⟨44, 31, [rgV Z31]⟩] = some (.ptr 2 1 0 0, hD r Z31 f00) := rfl
  have s1 : stS (storeV 31 (.ptr 1 1 0 0) (rgV r') (hD r Z31 f00)) = some (.tup [], hD r r' f00) := stRgAt (H := hD r Z31 f00) (j := 1) hr' rfl rfl
  have s2 : stS (storeV 4 (.ptr 2 1 0 0) f00.a (hD r r' f00)) = some (.tup [], hD r r' f00) := rfl
  have l2 := ldRg G (j := 1) (H := hD r r' f00) hr' rfl
  have s3 : stS (storeV 31 (.ptr 0 1 0 0) (rgV r') (hD r r' f00)) = some (.tup [], hD r' r' f00) := stRgAt (H := hD r r' f00) (j := 0) hr' hr.len rfl
  have q8 : bin Tryd.prog .add 3 true (I6 j) (.int .i64 1) = some (I6 (j + 1)) := q_add (by omega) (by omega)
  have q9 : ∀ o5, buildSt [(0, 1), (1, 1), (2, 1), (3, 1), (4, 1), (5, 1)] [(.int .i64 0), (.int .i64 0), (.int .i64 0), (.int .i64 0), (.int .i64 0), (.int .i64 0)] [(0, I6 o5), (1, (.int .i64 5)), (4, I6 a), (5, Nn (partF w b))] = some (mV o5 5 0 0 a (partF w b : Nat)) := fun o5 => rfl
  clear hone hright hpl hwl eb
  generalize partF w b = pp at *
  generalize w / 2 ^ b = ww at *
  refine ⟨[⟨44, 31, [rgV r']⟩, ⟨53, 4, [f00.a]⟩], ?_⟩
  unfold xsC at *
  refine e_id ?_
  refine eC hc ?_
  rcases hop with ⟨h0, rfl⟩ | ⟨h0, rfl⟩
  · have q10 := q9 1
    repeat' first
      | (with_reducible first | refine eT ?_ | refine eN ?_ | refine eS ?_ | refine eXn ?_ | refine eXr ?_ | refine eX ?_ | refine eI ?_ | refine eK ?_ | refine eV0 ?_ | refine eGr0 ?_ | refine eGtt ?_ | refine eGff ?_ | refine eGtf ?_ | refine eGft ?_ | refine eGno ?_)
      | ((with_reducible apply eCn); (simp only [nth_zero, nth_succ]; first | done | (with_reducible exact rfl)))
      | ((with_reducible apply eJ); (rfl))
      | ((with_reducible apply eGr1); (first | rfl | (simp only [nth_zero, nth_succ]; rfl)))
      | ((with_reducible apply eB); (first | (with_reducible exact rfl) | (simp (disch := omega) only [qf, q1, q2, q3, q4, q5, q6, q7, q8, q10, r1, l1, z2, b1, b2, s1, s2, l2, s3]; first | done | (with_reducible exact rfl) | (with_reducible exact ⟨rfl, rfl⟩)) | (simp (disch := omega) only [qa, putC, AV.cells, storable, buildSt, fillA, buildRo, buildOwn, fillE, Nat.reduceLeDiff, Nat.reduceLT, Nat.reduceAdd, ↓reduceIte, q1, q2, q3, q4, q5, q6, q7, q8, q10, r1, l1, z2, b1, b2, s1, s2, l2, s3]; first | done | (with_reducible exact rfl) | (with_reducible exact ⟨rfl, rfl⟩))))
      | ((with_reducible apply eR); (simp only [nth_zero, nth_succ]; (with_reducible exact rfl)))
      | ((with_reducible first | refine sEql ?_ ?_ | refine sNeq ?_ ?_ | refine sLss ?_ ?_ | refine sLeq ?_ ?_ | refine sGtr ?_ ?_ | refine sGeq ?_ ?_ | refine sNot ?_ ?_ | refine sPick ?_ ?_ | refine sGd ?_ ?_ | refine eBool ?_ ?_) <;> intro hq <;> try subst hq)
    all_goals first | omega | (refine e_out ?_; rfl)
  · have q10 := q9 2
    repeat' first
      | (with_reducible first | refine eT ?_ | refine eN ?_ | refine eS ?_ | refine eXn ?_ | refine eXr ?_ | refine eX ?_ | refine eI ?_ | refine eK ?_ | refine eV0 ?_ | refine eGr0 ?_ | refine eGtt ?_ | refine eGff ?_ | refine eGtf ?_ | refine eGft ?_ | refine eGno ?_)
      | ((with_reducible apply eCn); (simp only [nth_zero, nth_succ]; first | done | (with_reducible exact rfl)))
      | ((with_reducible apply eJ); (rfl))
      | ((with_reducible apply eGr1); (first | rfl | (simp only [nth_zero, nth_succ]; rfl)))
      | ((with_reducible apply eB); (first | (with_reducible exact rfl) | (simp (disch := omega) only [qf, q1, q2, q3, q4, q5, q6, q7, q8, q10, r1, l1, z2, b1, b2, s1, s2, l2, s3]; first | done | (with_reducible exact rfl) | (with_reducible exact ⟨rfl, rfl⟩)) | (simp (disch := omega) only [qa, putC, AV.cells, storable, buildSt, fillA, buildRo, buildOwn, fillE, Nat.reduceLeDiff, Nat.reduceLT, Nat.reduceAdd, ↓reduceIte, q1, q2, q3, q4, q5, q6, q7, q8, q10, r1, l1, z2, b1, b2, s1, s2, l2, s3]; first | done | (with_reducible exact rfl) | (with_reducible exact ⟨rfl, rfl⟩))))
      | ((with_reducible apply eR); (simp only [nth_zero, nth_succ]; (with_reducible exact rfl)))
      | ((with_reducible first | refine sEql ?_ ?_ | refine sNeq ?_ ?_ | refine sLss ?_ ?_ | refine sLeq ?_ ?_ | refine sGtr ?_ ?_ | refine sGeq ?_ ?_ | refine sNot ?_ ?_ | refine sPick ?_ ?_ | refine sGd ?_ ?_ | refine eBool ?_ ?_) <;> intro hq <;> try subst hq)
    all_goals first | omega | (refine e_out ?_; rfl)

theorem mc_end (f : Nat) (w : Nat) (o : Int) (r : List Nat) (T : AHeap) : loopN (alembiclaw23_MachConsts.l8 G (k + 6) 1 self) (f + 1) (xsC w o .undef (3 + 1)) (⟨44, 31, [rgV r]⟩ :: T) = some (.exit 0, xsC w o .undef 4, hC r) := by
  rw [loopN_succ, alembiclaw23_MachConsts.l8]
  have hc : cutH 1 (xsC w o .undef (3 + 1)) (⟨44, 31, [rgV r]⟩ :: T) = some (hC r) := by
    have h2 : heapBelow 1 (hC r) = true := by simp [hC, heapBelow, belowL, belowB, natsU_below]
    have h3 : (⟨44, 31, [rgV r]⟩ :: T : AHeap).take 1 = hC r := rfl
    unfold cutH
    rw [h3, h2]
    simp [xsC, belowL, belowB]
  have q : bin Tryd.prog .lss 3 true (I6 (3 + 1)) (.int .i64 4) = some (.bool false) := by kernel_rfl
  unfold xsC at *
  refine e_id ?_
  refine eC hc ?_
  repeat' first
    | (with_reducible first | refine eT ?_ | refine eN ?_ | refine eS ?_ | refine eXn ?_ | refine eXr ?_ | refine eX ?_ | refine eI ?_ | refine eK ?_ | refine eV0 ?_ | refine eGr0 ?_ | refine eGtt ?_ | refine eGff ?_ | refine eGtf ?_ | refine eGft ?_ | refine eGno ?_)
    | ((with_reducible apply eCn); (simp only [nth_zero, nth_succ]; first | done | (with_reducible exact rfl)))
    | ((with_reducible apply eJ); (rfl))
    | ((with_reducible apply eGr1); (first | rfl | (simp only [nth_zero, nth_succ]; rfl)))
    | ((with_reducible apply eB); (first | (with_reducible exact rfl) | (simp (disch := omega) only [qf, q]; first | done | (with_reducible exact rfl) | (with_reducible exact ⟨rfl, rfl⟩)) | (simp (disch := omega) only [qa, putC, AV.cells, storable, buildSt, fillA, buildRo, buildOwn, fillE, Nat.reduceLeDiff, Nat.reduceLT, Nat.reduceAdd, ↓reduceIte, q]; first | done | (with_reducible exact rfl) | (with_reducible exact ⟨rfl, rfl⟩))))
    | ((with_reducible apply eR); (simp only [nth_zero, nth_succ]; (with_reducible exact rfl)))
    | ((with_reducible first | refine sEql ?_ ?_ | refine sNeq ?_ ?_ | refine sLss ?_ ?_ | refine sLeq ?_ ?_ | refine sGtr ?_ ?_ | refine sGeq ?_ ?_ | refine sNot ?_ ?_ | refine sPick ?_ ?_ | refine sGd ?_ ?_ | refine eBool ?_ ?_) <;> intro hq <;> try subst hq)
  refine e_out ?_; rfl

theorem set5 {r : List Nat} (h : RgOk r) (x : Nat) (hx : x < 18446744073709551616) : RgOk (r.set 5 x) := by
  have := setF_ok h 5 x hx
  unfold setF at this
  rwa [if_neg (by omega)] at this
theorem get5 {r : List Nat} (h : RgOk r) {x : Nat} : getF (r.set 5 x) 5 = x := by
  unfold getF
  rw [if_neg (by omega), List.getD_eq_getElem?_getD]
  have : (5 : Int).toNat = 5 := rfl
  rw [this, List.getElem?_set_self (by rw [h.len]; omega)]
  rfl
theorem made1 {a n : Int} {d p m x : Nat} {h : Bool} : madeF 1 a n d p m x h = u64 n * 2 ^ (16 * a).toNat % 18446744073709551616 := by unfold madeF; rw [if_pos rfl]
theorem made2 {a n : Int} {d p m x : Nat} {h : Bool} : madeF 2 a n d p m x h = movkF d (u64 n) (16 * a).toNat := by unfold madeF; rw [if_neg (by omega), if_pos rfl]

/-- All four of them. -/
theorem mc_loop (f : Nat) (w : Nat) (hw : w < 18446744073709551616) (o : Int) (ho : o = 0 ∨ o = 1 ∨ o = 2 ∨ o = 3) (r0 : List Nat) (h0 : RgOk r0) :
    ∃ r4, RgOk r4 ∧ getF r4 5 = w ∧ loopN (alembiclaw23_MachConsts.l8 G (k + 6) 1 self) (f + 5) (xsC w o (.bool false) 0) (hC r0) = some (.exit 0, xsC w o .undef 4, hC r4) := by
  rcases ho with rfl | rfl | rfl | rfl
  · obtain ⟨T1, e1⟩ := mc_round G k self (loopN (alembiclaw23_MachConsts.l8 G (k + 6) 1 self) (f + 4)) w hw 0 (.bool false) rfl 0 0 0 r0 h0 (hC r0) rfl (by omega) (by omega) (by kernel_rfl) (by kernel_rfl) 1 (by omega)
    have h1 := set5 h0 _ (madeF_lt 1 0 (partF w (16 * (0 : Int).toNat) : Nat) (getF r0 5) (getF r0 0) (getF r0 0) 0 false (h0.get _) (h0.get _) (h0.get _))
    obtain ⟨r1, hr1⟩ : ∃ r, r = r0.set 5 (madeF 1 0 (partF w (16 * (0 : Int).toNat) : Nat) (getF r0 5) (getF r0 0) (getF r0 0) 0 false) := ⟨_, rfl⟩
    rw [← hr1] at e1 h1
    have g1 : getF r1 5 = partF w 0 * 2 ^ 0 % 18446744073709551616 := by rw [hr1, get5 h0, made1]; rw [u64_nat _ (by have := part_lt w 0; exact Nat.lt_of_lt_of_le this (by decide))]; rfl
    obtain ⟨T2, e2⟩ := mc_round G k self (loopN (alembiclaw23_MachConsts.l8 G (k + 6) 1 self) (f + 3)) w hw 0 .undef rfl 1 1 1 r1 h1 (⟨44, 31, [rgV r1]⟩ :: T1) rfl (by omega) (by omega) (by kernel_rfl) (by kernel_rfl) 2 (by omega)
    have h2 := set5 h1 _ (madeF_lt 2 1 (partF w (16 * (1 : Int).toNat) : Nat) (getF r1 5) (getF r1 0) (getF r1 0) 0 false (h1.get _) (h1.get _) (h1.get _))
    obtain ⟨r2, hr2⟩ : ∃ r, r = r1.set 5 (madeF 2 1 (partF w (16 * (1 : Int).toNat) : Nat) (getF r1 5) (getF r1 0) (getF r1 0) 0 false) := ⟨_, rfl⟩
    rw [← hr2] at e2 h2
    have g2 : getF r2 5 = movkF (getF r1 5) (partF w 16) 16 := by rw [hr2, get5 h1, made2]; rw [u64_nat _ (by have := part_lt w 16; exact Nat.lt_of_lt_of_le this (by decide))]; rfl
    obtain ⟨T3, e3⟩ := mc_round G k self (loopN (alembiclaw23_MachConsts.l8 G (k + 6) 1 self) (f + 2)) w hw 0 .undef rfl 2 2 2 r2 h2 (⟨44, 31, [rgV r2]⟩ :: T2) rfl (by omega) (by omega) (by kernel_rfl) (by kernel_rfl) 2 (by omega)
    have h3 := set5 h2 _ (madeF_lt 2 2 (partF w (16 * (2 : Int).toNat) : Nat) (getF r2 5) (getF r2 0) (getF r2 0) 0 false (h2.get _) (h2.get _) (h2.get _))
    obtain ⟨r3, hr3⟩ : ∃ r, r = r2.set 5 (madeF 2 2 (partF w (16 * (2 : Int).toNat) : Nat) (getF r2 5) (getF r2 0) (getF r2 0) 0 false) := ⟨_, rfl⟩
    rw [← hr3] at e3 h3
    have g3 : getF r3 5 = movkF (getF r2 5) (partF w 32) 32 := by rw [hr3, get5 h2, made2]; rw [u64_nat _ (by have := part_lt w 32; exact Nat.lt_of_lt_of_le this (by decide))]; rfl
    obtain ⟨T4, e4⟩ := mc_round G k self (loopN (alembiclaw23_MachConsts.l8 G (k + 6) 1 self) (f + 1)) w hw 0 .undef rfl 3 3 3 r3 h3 (⟨44, 31, [rgV r3]⟩ :: T3) rfl (by omega) (by omega) (by kernel_rfl) (by kernel_rfl) 2 (by omega)
    have h4 := set5 h3 _ (madeF_lt 2 3 (partF w (16 * (3 : Int).toNat) : Nat) (getF r3 5) (getF r3 0) (getF r3 0) 0 false (h3.get _) (h3.get _) (h3.get _))
    obtain ⟨r4, hr4⟩ : ∃ r, r = r3.set 5 (madeF 2 3 (partF w (16 * (3 : Int).toNat) : Nat) (getF r3 5) (getF r3 0) (getF r3 0) 0 false) := ⟨_, rfl⟩
    rw [← hr4] at e4 h4
    have g4 : getF r4 5 = movkF (getF r3 5) (partF w 48) 48 := by rw [hr4, get5 h3, made2]; rw [u64_nat _ (by have := part_lt w 48; exact Nat.lt_of_lt_of_le this (by decide))]; rfl
    refine ⟨r4, h4, by rw [g4, g3, g2, g1]; exact four w hw 0 16 32 48 (by omega), ?_⟩
    rw [loopN_succ, e1, loopN_succ]
    show alembiclaw23_MachConsts.l8 G (k + 6) 1 self (loopN (alembiclaw23_MachConsts.l8 G (k + 6) 1 self) (f + 3)) (xsC w 0 .undef 1) _ = _
    rw [e2, loopN_succ]
    show alembiclaw23_MachConsts.l8 G (k + 6) 1 self (loopN (alembiclaw23_MachConsts.l8 G (k + 6) 1 self) (f + 2)) (xsC w 0 .undef 2) _ = _
    rw [e3, loopN_succ]
    show alembiclaw23_MachConsts.l8 G (k + 6) 1 self (loopN (alembiclaw23_MachConsts.l8 G (k + 6) 1 self) (f + 1)) (xsC w 0 .undef 3) _ = _
    rw [e4]
    exact mc_end G k self f w 0 r4 T4
  · obtain ⟨T1, e1⟩ := mc_round G k self (loopN (alembiclaw23_MachConsts.l8 G (k + 6) 1 self) (f + 4)) w hw 1 (.bool false) rfl 0 1 1 r0 h0 (hC r0) rfl (by omega) (by omega) (by kernel_rfl) (by kernel_rfl) 1 (by omega)
    have h1 := set5 h0 _ (madeF_lt 1 1 (partF w (16 * (1 : Int).toNat) : Nat) (getF r0 5) (getF r0 0) (getF r0 0) 0 false (h0.get _) (h0.get _) (h0.get _))
    obtain ⟨r1, hr1⟩ : ∃ r, r = r0.set 5 (madeF 1 1 (partF w (16 * (1 : Int).toNat) : Nat) (getF r0 5) (getF r0 0) (getF r0 0) 0 false) := ⟨_, rfl⟩
    rw [← hr1] at e1 h1
    have g1 : getF r1 5 = partF w 16 * 2 ^ 16 % 18446744073709551616 := by rw [hr1, get5 h0, made1]; rw [u64_nat _ (by have := part_lt w 16; exact Nat.lt_of_lt_of_le this (by decide))]; rfl
    obtain ⟨T2, e2⟩ := mc_round G k self (loopN (alembiclaw23_MachConsts.l8 G (k + 6) 1 self) (f + 3)) w hw 1 .undef rfl 1 2 2 r1 h1 (⟨44, 31, [rgV r1]⟩ :: T1) rfl (by omega) (by omega) (by kernel_rfl) (by kernel_rfl) 2 (by omega)
    have h2 := set5 h1 _ (madeF_lt 2 2 (partF w (16 * (2 : Int).toNat) : Nat) (getF r1 5) (getF r1 0) (getF r1 0) 0 false (h1.get _) (h1.get _) (h1.get _))
    obtain ⟨r2, hr2⟩ : ∃ r, r = r1.set 5 (madeF 2 2 (partF w (16 * (2 : Int).toNat) : Nat) (getF r1 5) (getF r1 0) (getF r1 0) 0 false) := ⟨_, rfl⟩
    rw [← hr2] at e2 h2
    have g2 : getF r2 5 = movkF (getF r1 5) (partF w 32) 32 := by rw [hr2, get5 h1, made2]; rw [u64_nat _ (by have := part_lt w 32; exact Nat.lt_of_lt_of_le this (by decide))]; rfl
    obtain ⟨T3, e3⟩ := mc_round G k self (loopN (alembiclaw23_MachConsts.l8 G (k + 6) 1 self) (f + 2)) w hw 1 .undef rfl 2 3 3 r2 h2 (⟨44, 31, [rgV r2]⟩ :: T2) rfl (by omega) (by omega) (by kernel_rfl) (by kernel_rfl) 2 (by omega)
    have h3 := set5 h2 _ (madeF_lt 2 3 (partF w (16 * (3 : Int).toNat) : Nat) (getF r2 5) (getF r2 0) (getF r2 0) 0 false (h2.get _) (h2.get _) (h2.get _))
    obtain ⟨r3, hr3⟩ : ∃ r, r = r2.set 5 (madeF 2 3 (partF w (16 * (3 : Int).toNat) : Nat) (getF r2 5) (getF r2 0) (getF r2 0) 0 false) := ⟨_, rfl⟩
    rw [← hr3] at e3 h3
    have g3 : getF r3 5 = movkF (getF r2 5) (partF w 48) 48 := by rw [hr3, get5 h2, made2]; rw [u64_nat _ (by have := part_lt w 48; exact Nat.lt_of_lt_of_le this (by decide))]; rfl
    obtain ⟨T4, e4⟩ := mc_round G k self (loopN (alembiclaw23_MachConsts.l8 G (k + 6) 1 self) (f + 1)) w hw 1 .undef rfl 3 4 0 r3 h3 (⟨44, 31, [rgV r3]⟩ :: T3) rfl (by omega) (by omega) (by kernel_rfl) (by kernel_rfl) 2 (by omega)
    have h4 := set5 h3 _ (madeF_lt 2 0 (partF w (16 * (0 : Int).toNat) : Nat) (getF r3 5) (getF r3 0) (getF r3 0) 0 false (h3.get _) (h3.get _) (h3.get _))
    obtain ⟨r4, hr4⟩ : ∃ r, r = r3.set 5 (madeF 2 0 (partF w (16 * (0 : Int).toNat) : Nat) (getF r3 5) (getF r3 0) (getF r3 0) 0 false) := ⟨_, rfl⟩
    rw [← hr4] at e4 h4
    have g4 : getF r4 5 = movkF (getF r3 5) (partF w 0) 0 := by rw [hr4, get5 h3, made2]; rw [u64_nat _ (by have := part_lt w 0; exact Nat.lt_of_lt_of_le this (by decide))]; rfl
    refine ⟨r4, h4, by rw [g4, g3, g2, g1]; exact four w hw 16 32 48 0 (by omega), ?_⟩
    rw [loopN_succ, e1, loopN_succ]
    show alembiclaw23_MachConsts.l8 G (k + 6) 1 self (loopN (alembiclaw23_MachConsts.l8 G (k + 6) 1 self) (f + 3)) (xsC w 1 .undef 1) _ = _
    rw [e2, loopN_succ]
    show alembiclaw23_MachConsts.l8 G (k + 6) 1 self (loopN (alembiclaw23_MachConsts.l8 G (k + 6) 1 self) (f + 2)) (xsC w 1 .undef 2) _ = _
    rw [e3, loopN_succ]
    show alembiclaw23_MachConsts.l8 G (k + 6) 1 self (loopN (alembiclaw23_MachConsts.l8 G (k + 6) 1 self) (f + 1)) (xsC w 1 .undef 3) _ = _
    rw [e4]
    exact mc_end G k self f w 1 r4 T4
  · obtain ⟨T1, e1⟩ := mc_round G k self (loopN (alembiclaw23_MachConsts.l8 G (k + 6) 1 self) (f + 4)) w hw 2 (.bool false) rfl 0 2 2 r0 h0 (hC r0) rfl (by omega) (by omega) (by kernel_rfl) (by kernel_rfl) 1 (by omega)
    have h1 := set5 h0 _ (madeF_lt 1 2 (partF w (16 * (2 : Int).toNat) : Nat) (getF r0 5) (getF r0 0) (getF r0 0) 0 false (h0.get _) (h0.get _) (h0.get _))
    obtain ⟨r1, hr1⟩ : ∃ r, r = r0.set 5 (madeF 1 2 (partF w (16 * (2 : Int).toNat) : Nat) (getF r0 5) (getF r0 0) (getF r0 0) 0 false) := ⟨_, rfl⟩
    rw [← hr1] at e1 h1
    have g1 : getF r1 5 = partF w 32 * 2 ^ 32 % 18446744073709551616 := by rw [hr1, get5 h0, made1]; rw [u64_nat _ (by have := part_lt w 32; exact Nat.lt_of_lt_of_le this (by decide))]; rfl
    obtain ⟨T2, e2⟩ := mc_round G k self (loopN (alembiclaw23_MachConsts.l8 G (k + 6) 1 self) (f + 3)) w hw 2 .undef rfl 1 3 3 r1 h1 (⟨44, 31, [rgV r1]⟩ :: T1) rfl (by omega) (by omega) (by kernel_rfl) (by kernel_rfl) 2 (by omega)
    have h2 := set5 h1 _ (madeF_lt 2 3 (partF w (16 * (3 : Int).toNat) : Nat) (getF r1 5) (getF r1 0) (getF r1 0) 0 false (h1.get _) (h1.get _) (h1.get _))
    obtain ⟨r2, hr2⟩ : ∃ r, r = r1.set 5 (madeF 2 3 (partF w (16 * (3 : Int).toNat) : Nat) (getF r1 5) (getF r1 0) (getF r1 0) 0 false) := ⟨_, rfl⟩
    rw [← hr2] at e2 h2
    have g2 : getF r2 5 = movkF (getF r1 5) (partF w 48) 48 := by rw [hr2, get5 h1, made2]; rw [u64_nat _ (by have := part_lt w 48; exact Nat.lt_of_lt_of_le this (by decide))]; rfl
    obtain ⟨T3, e3⟩ := mc_round G k self (loopN (alembiclaw23_MachConsts.l8 G (k + 6) 1 self) (f + 2)) w hw 2 .undef rfl 2 4 0 r2 h2 (⟨44, 31, [rgV r2]⟩ :: T2) rfl (by omega) (by omega) (by kernel_rfl) (by kernel_rfl) 2 (by omega)
    have h3 := set5 h2 _ (madeF_lt 2 0 (partF w (16 * (0 : Int).toNat) : Nat) (getF r2 5) (getF r2 0) (getF r2 0) 0 false (h2.get _) (h2.get _) (h2.get _))
    obtain ⟨r3, hr3⟩ : ∃ r, r = r2.set 5 (madeF 2 0 (partF w (16 * (0 : Int).toNat) : Nat) (getF r2 5) (getF r2 0) (getF r2 0) 0 false) := ⟨_, rfl⟩
    rw [← hr3] at e3 h3
    have g3 : getF r3 5 = movkF (getF r2 5) (partF w 0) 0 := by rw [hr3, get5 h2, made2]; rw [u64_nat _ (by have := part_lt w 0; exact Nat.lt_of_lt_of_le this (by decide))]; rfl
    obtain ⟨T4, e4⟩ := mc_round G k self (loopN (alembiclaw23_MachConsts.l8 G (k + 6) 1 self) (f + 1)) w hw 2 .undef rfl 3 5 1 r3 h3 (⟨44, 31, [rgV r3]⟩ :: T3) rfl (by omega) (by omega) (by kernel_rfl) (by kernel_rfl) 2 (by omega)
    have h4 := set5 h3 _ (madeF_lt 2 1 (partF w (16 * (1 : Int).toNat) : Nat) (getF r3 5) (getF r3 0) (getF r3 0) 0 false (h3.get _) (h3.get _) (h3.get _))
    obtain ⟨r4, hr4⟩ : ∃ r, r = r3.set 5 (madeF 2 1 (partF w (16 * (1 : Int).toNat) : Nat) (getF r3 5) (getF r3 0) (getF r3 0) 0 false) := ⟨_, rfl⟩
    rw [← hr4] at e4 h4
    have g4 : getF r4 5 = movkF (getF r3 5) (partF w 16) 16 := by rw [hr4, get5 h3, made2]; rw [u64_nat _ (by have := part_lt w 16; exact Nat.lt_of_lt_of_le this (by decide))]; rfl
    refine ⟨r4, h4, by rw [g4, g3, g2, g1]; exact four w hw 32 48 0 16 (by omega), ?_⟩
    rw [loopN_succ, e1, loopN_succ]
    show alembiclaw23_MachConsts.l8 G (k + 6) 1 self (loopN (alembiclaw23_MachConsts.l8 G (k + 6) 1 self) (f + 3)) (xsC w 2 .undef 1) _ = _
    rw [e2, loopN_succ]
    show alembiclaw23_MachConsts.l8 G (k + 6) 1 self (loopN (alembiclaw23_MachConsts.l8 G (k + 6) 1 self) (f + 2)) (xsC w 2 .undef 2) _ = _
    rw [e3, loopN_succ]
    show alembiclaw23_MachConsts.l8 G (k + 6) 1 self (loopN (alembiclaw23_MachConsts.l8 G (k + 6) 1 self) (f + 1)) (xsC w 2 .undef 3) _ = _
    rw [e4]
    exact mc_end G k self f w 2 r4 T4
  · obtain ⟨T1, e1⟩ := mc_round G k self (loopN (alembiclaw23_MachConsts.l8 G (k + 6) 1 self) (f + 4)) w hw 3 (.bool false) rfl 0 3 3 r0 h0 (hC r0) rfl (by omega) (by omega) (by kernel_rfl) (by kernel_rfl) 1 (by omega)
    have h1 := set5 h0 _ (madeF_lt 1 3 (partF w (16 * (3 : Int).toNat) : Nat) (getF r0 5) (getF r0 0) (getF r0 0) 0 false (h0.get _) (h0.get _) (h0.get _))
    obtain ⟨r1, hr1⟩ : ∃ r, r = r0.set 5 (madeF 1 3 (partF w (16 * (3 : Int).toNat) : Nat) (getF r0 5) (getF r0 0) (getF r0 0) 0 false) := ⟨_, rfl⟩
    rw [← hr1] at e1 h1
    have g1 : getF r1 5 = partF w 48 * 2 ^ 48 % 18446744073709551616 := by rw [hr1, get5 h0, made1]; rw [u64_nat _ (by have := part_lt w 48; exact Nat.lt_of_lt_of_le this (by decide))]; rfl
    obtain ⟨T2, e2⟩ := mc_round G k self (loopN (alembiclaw23_MachConsts.l8 G (k + 6) 1 self) (f + 3)) w hw 3 .undef rfl 1 4 0 r1 h1 (⟨44, 31, [rgV r1]⟩ :: T1) rfl (by omega) (by omega) (by kernel_rfl) (by kernel_rfl) 2 (by omega)
    have h2 := set5 h1 _ (madeF_lt 2 0 (partF w (16 * (0 : Int).toNat) : Nat) (getF r1 5) (getF r1 0) (getF r1 0) 0 false (h1.get _) (h1.get _) (h1.get _))
    obtain ⟨r2, hr2⟩ : ∃ r, r = r1.set 5 (madeF 2 0 (partF w (16 * (0 : Int).toNat) : Nat) (getF r1 5) (getF r1 0) (getF r1 0) 0 false) := ⟨_, rfl⟩
    rw [← hr2] at e2 h2
    have g2 : getF r2 5 = movkF (getF r1 5) (partF w 0) 0 := by rw [hr2, get5 h1, made2]; rw [u64_nat _ (by have := part_lt w 0; exact Nat.lt_of_lt_of_le this (by decide))]; rfl
    obtain ⟨T3, e3⟩ := mc_round G k self (loopN (alembiclaw23_MachConsts.l8 G (k + 6) 1 self) (f + 2)) w hw 3 .undef rfl 2 5 1 r2 h2 (⟨44, 31, [rgV r2]⟩ :: T2) rfl (by omega) (by omega) (by kernel_rfl) (by kernel_rfl) 2 (by omega)
    have h3 := set5 h2 _ (madeF_lt 2 1 (partF w (16 * (1 : Int).toNat) : Nat) (getF r2 5) (getF r2 0) (getF r2 0) 0 false (h2.get _) (h2.get _) (h2.get _))
    obtain ⟨r3, hr3⟩ : ∃ r, r = r2.set 5 (madeF 2 1 (partF w (16 * (1 : Int).toNat) : Nat) (getF r2 5) (getF r2 0) (getF r2 0) 0 false) := ⟨_, rfl⟩
    rw [← hr3] at e3 h3
    have g3 : getF r3 5 = movkF (getF r2 5) (partF w 16) 16 := by rw [hr3, get5 h2, made2]; rw [u64_nat _ (by have := part_lt w 16; exact Nat.lt_of_lt_of_le this (by decide))]; rfl
    obtain ⟨T4, e4⟩ := mc_round G k self (loopN (alembiclaw23_MachConsts.l8 G (k + 6) 1 self) (f + 1)) w hw 3 .undef rfl 3 6 2 r3 h3 (⟨44, 31, [rgV r3]⟩ :: T3) rfl (by omega) (by omega) (by kernel_rfl) (by kernel_rfl) 2 (by omega)
    have h4 := set5 h3 _ (madeF_lt 2 2 (partF w (16 * (2 : Int).toNat) : Nat) (getF r3 5) (getF r3 0) (getF r3 0) 0 false (h3.get _) (h3.get _) (h3.get _))
    obtain ⟨r4, hr4⟩ : ∃ r, r = r3.set 5 (madeF 2 2 (partF w (16 * (2 : Int).toNat) : Nat) (getF r3 5) (getF r3 0) (getF r3 0) 0 false) := ⟨_, rfl⟩
    rw [← hr4] at e4 h4
    have g4 : getF r4 5 = movkF (getF r3 5) (partF w 32) 32 := by rw [hr4, get5 h3, made2]; rw [u64_nat _ (by have := part_lt w 32; exact Nat.lt_of_lt_of_le this (by decide))]; rfl
    refine ⟨r4, h4, by rw [g4, g3, g2, g1]; exact four w hw 48 0 16 32 (by omega), ?_⟩
    rw [loopN_succ, e1, loopN_succ]
    show alembiclaw23_MachConsts.l8 G (k + 6) 1 self (loopN (alembiclaw23_MachConsts.l8 G (k + 6) 1 self) (f + 3)) (xsC w 3 .undef 1) _ = _
    rw [e2, loopN_succ]
    show alembiclaw23_MachConsts.l8 G (k + 6) 1 self (loopN (alembiclaw23_MachConsts.l8 G (k + 6) 1 self) (f + 2)) (xsC w 3 .undef 2) _ = _
    rw [e3, loopN_succ]
    show alembiclaw23_MachConsts.l8 G (k + 6) 1 self (loopN (alembiclaw23_MachConsts.l8 G (k + 6) 1 self) (f + 1)) (xsC w 3 .undef 3) _ = _
    rw [e4]
    exact mc_end G k self f w 3 r4 T4
end

theorem LMachConsts.law (xs : List AV) (h : IsTs Tryd.prog [43, 3] xs) : ∃ k, alembiclaw23_MachConsts.f (sentG 180 [1, 0]) k xs [] = some (.bool true, []) := by
  obtain ⟨x1, _, rfl, hx1, h⟩ := h.uncons
  obtain ⟨x2, _, rfl, hx2, h⟩ := h.uncons
  obtain rfl := h.unnil
  obtain ⟨w', rfl, hw'⟩ := hx1.of_int (k := .u64) Tryd.underlying43
  obtain ⟨o', rfl, ho'⟩ := hx2.of_int (k := .i64) Tryd.underlying3
  replace hw' := wf_u64 hw'
  replace ho' := wf_i64 ho'
  obtain ⟨w, rfl⟩ : ∃ w : Nat, w' = (w : Int) := ⟨w'.toNat, by omega⟩
  have hw : w < 18446744073709551616 := by omega
  clear h hx1 hx2
  generalize sentG 180 [1, 0] = G
  refine ⟨8001, ?_⟩
  have rf : ∀ H, pureCall (alembiclaw23_first.f G 8000) [] H = _ := fun H => pureCall_of (H := H) (first23 G 7940) rfl rfl
  have rn : ∀ H, pureCall (alembicworld_Number.f G 8000) [I6 o', .int .i64 4] H = _ := fun H => pureCall_of (H := H) (number G 7999 o' 4 (by omega) (by omega) ho'.1 ho'.2) rfl rfl
  obtain ⟨o, ho⟩ : ∃ o, o = o' % 4 := ⟨_, rfl⟩
  have ho4 : o = 0 ∨ o = 1 ∨ o = 2 ∨ o = 3 := by omega
  rw [← ho] at rn
  clear ho
  have hz : RgOk Z31 := ⟨rfl, fun x hx => by have := (List.mem_replicate.1 hx).2; omega⟩
  obtain ⟨r, hr, hr5, hlp⟩ := mc_loop G 7994 (alembiclaw23_MachConsts.f G 8000) 7995 w hw o ho4 (Z31.set 5 12345) (set5 hz 12345 (by omega))
  rw [alembiclaw23_MachConsts.step]
  unfold alembiclaw23_MachConsts.c
  rw [zz31]
  have hg5 : r.getD 5 0 = w := by unfold getF at hr5; rw [if_neg (by omega)] at hr5; exact hr5
  have b0 : boxA 44 (rgV Z31) [] = some (.ptr 0 1 0 0, hC Z31) := rfl
  have i0 : ∀ b, idxAddrArr 31 1 (.ptr b 1 0 0) (.int .i64 5) = some (.ptr b 1 0 5) := fun b => rfl
  have i6 : ∀ b, idxAddrArr 31 1 (.ptr b 1 0 0) (.int .i64 6) = some (.ptr b 1 0 6) := fun b => rfl
  have s0 : stS (storeV 1 (.ptr 0 1 0 5) (.int .u64 12345) (hC Z31)) = some (.tup [], hC (Z31.set 5 12345)) := rfl
  have hlen : (hC (Z31.set 5 12345)).length = 1 := rfl
  -- the first instruction
  have m1 : buildSt [(0, 1), (1, 1), (2, 1), (3, 1), (4, 1), (5, 1)] [(.int .i64 0), (.int .i64 0), (.int .i64 0), (.int .i64 0), (.int .i64 0), (.int .i64 0)] [(0, (.int .i64 3)), (1, (.int .i64 31)), (2, (.int .i64 5)), (3, (.int .i64 5))] = some (mV 3 31 5 5 0 0) := rfl
  have m2 : buildSt [(0, 1), (1, 1), (2, 1), (3, 1), (4, 1), (5, 1)] [(.int .i64 0), (.int .i64 0), (.int .i64 0), (.int .i64 0), (.int .i64 0), (.int .i64 0)] [(0, (.int .i64 4)), (1, (.int .i64 6)), (2, (.int .i64 31)), (3, (.int .i64 5))] = some (mV 4 6 31 5 0 0) := rfl
  have z2 : buildArr 1 [.bool false, .bool false, .bool false, .bool false] [] = some f00.a := rfl
  have l0 := ldRg G (j := 0) (H := hC r) hr.len rfl
  have c1 : ∀ H, pureCall (mach_One.f G 8000) [mV 3 31 5 5 0 0, rgV r, f00.a] H = _ := fun H => pureCall_of (H := H) (One_spec G 7994 ⟨3, 31, 5, 5, 0, 0⟩ r hr f00) (by simp [plainL, plainB, plainU, FL.a]) (by simp [cleanB, cleanL, cleanU, FL.a])
  have c2 : ∀ H, pureCall (mach_One.f G 8000) [mV 4 6 31 5 0 0, rgV r, f00.a] H = _ := fun H => pureCall_of (H := H) (One_spec G 7994 ⟨4, 6, 31, 5, 0, 0⟩ r hr f00) (by simp [plainL, plainB, plainU, FL.a]) (by simp [cleanB, cleanL, cleanU, FL.a])
  have k1 : rightB ⟨3, 31, 5, 5, 0, 0⟩ = true := by kernel_rfl
  have k2 : rightB ⟨4, 6, 31, 5, 0, 0⟩ = true := by kernel_rfl
  have o1 : oneF ⟨3, 31, 5, 5, 0, 0⟩ r f00 = (r, f00, true) := by
    unfold oneF
    rw [if_pos ⟨k1, by simp only; omega⟩]
    unfold doesF
    simp only
    rw [if_neg (by omega), if_neg (by omega), if_neg (by omega)]
    unfold setF
    rw [if_pos rfl]
  obtain ⟨z, hzz⟩ : ∃ z, z = (0 + 18446744073709551616 - w) % 18446744073709551616 := ⟨_, rfl⟩
  have o2 : oneF ⟨4, 6, 31, 5, 0, 0⟩ r f00 = (r.set 6 z, f00, true) := by
    unfold oneF
    rw [if_pos ⟨k2, by simp only; omega⟩]
    unfold doesF
    simp only
    rw [if_neg (by omega), if_neg (by omega), if_neg (by omega)]
    unfold setF
    rw [if_neg (by omega)]
    have e1 : getF r 31 = 0 := by unfold getF; rw [if_pos rfl]
    rw [hr5, e1]
    unfold madeF
    rw [if_neg (by omega), if_neg (by omega), if_neg (by omega), if_pos rfl, ← hzz]
    rfl
  rw [o1] at c1
  rw [o2] at c2
  unfold oneV at c1 c2
  simp only at c1 c2
  have hr6 : (r.set 6 z).length = 31 := by simp [hr.len]
  have g6 : (r.set 6 z).getD 6 0 = z := by
    rw [List.getD_eq_getElem?_getD, List.getElem?_set_self (by rw [hr.len]; omega)]; rfl
  have b1 : boxA 44 (rgV Z31) (hC r) = some (.ptr 1 1 0 0, [⟨44, 31, [rgV r]⟩, ⟨44, 31, [rgV Z31]⟩]) := rfl
  have b2 : boxA 53 (.agg [.bool false, .bool false, .bool false, .bool false]) [⟨44, 31, [rgV r]⟩, ⟨44, 31, [rgV Z31]⟩] = some (.ptr 2 1 0 0, hD r Z31 f00) := rfl
  have s1 : stS (storeV 31 (.ptr 1 1 0 0) (rgV r) (hD r Z31 f00)) = some (.tup [], hD r r f00) := stRgAt (H := hD r Z31 f00) (j := 1) hr.len rfl rfl
  have s2 : stS (storeV 4 (.ptr 2 1 0 0) f00.a (hD r r f00)) = some (.tup [], hD r r f00) := rfl
  have l1 := ldRg G (j := 0) (H := hD r r f00) hr.len rfl
  have b3 : boxA 44 (rgV Z31) (hD r r f00) = some (.ptr 3 1 0 0, [⟨44, 31, [rgV r]⟩, ⟨44, 31, [rgV r]⟩, ⟨53, 4, [f00.a]⟩, ⟨44, 31, [rgV Z31]⟩]) := rfl
  have b4 : boxA 53 (.agg [.bool false, .bool false, .bool false, .bool false]) [⟨44, 31, [rgV r]⟩, ⟨44, 31, [rgV r]⟩, ⟨53, 4, [f00.a]⟩, ⟨44, 31, [rgV Z31]⟩] = some (.ptr 4 1 0 0, hE5 r r f00 Z31 f00) := rfl
  have s3 : stS (storeV 31 (.ptr 3 1 0 0) (rgV (r.set 6 z)) (hE5 r r f00 Z31 f00)) = some (.tup [], hE5 r r f00 (r.set 6 z) f00) := stRgAt (H := hE5 r r f00 Z31 f00) (j := 3) hr6 rfl rfl
  have s4 : stS (storeV 4 (.ptr 4 1 0 0) f00.a (hE5 r r f00 (r.set 6 z) f00)) = some (.tup [], hE5 r r f00 (r.set 6 z) f00) := rfl
  have l2 := ldReg (G := G) (j := 0) (i := 5) (H := hE5 r r f00 (r.set 6 z) f00) hr.len (by omega) rfl
  rw [hg5] at l2
  have l3 := ldRg G (j := 1) (H := hE5 r r f00 (r.set 6 z) f00) hr.len rfl
  have l4 := ldRg G (j := 0) (H := hE5 r r f00 (r.set 6 z) f00) hr.len rfl
  have l5 := ldReg (G := G) (j := 3) (i := 6) (H := hE5 r r f00 (r.set 6 z) f00) hr6 (by omega) rfl
  rw [g6] at l5
  have rr : ∀ H, pureCall (alembiclaw23_regs.f G 8000) [rgV r, rgV r] H = _ := fun H => pureCall_of (H := H) (regs_self G 7960 r hr.len) (by simp [plainL, plainB, plainU]) rfl
  have n1 : un .neg (Un w) = some (Un z) := by
    have : un .neg (Un w) = some (.int .u64 (IntKind.u64.wrap (0 - (w : Int)))) := rfl
    rw [this, wrap_u64_eq]; congr 2; omega
  have q1 : bin Tryd.prog .eql 43 false (Un w) (Un w) = some (.bool true) := q_eql_t rfl
  have q2 : bin Tryd.prog .eql 43 false (Un z) (Un z) = some (.bool true) := q_eql_t rfl
  unfold xsC at hlp
  clear hz k1 k2 o1 o2 hzz hr5 hg5 g6
  generalize r.set 6 z = r6 at *
  refine e_in ?_
  repeat' first
    | (with_reducible first | refine eT ?_ | refine eN ?_ | refine eS ?_ | refine eXn ?_ | refine eXr ?_ | refine eX ?_ | refine eI ?_ | refine eK ?_ | refine eV0 ?_ | refine eGr0 ?_ | refine eGtt ?_ | refine eGff ?_ | refine eGtf ?_ | refine eGft ?_ | refine eGno ?_)
    | ((with_reducible apply eCn); (simp only [nth_zero, nth_succ]; first | done | (with_reducible exact rfl)))
    | ((with_reducible apply eJ); (rfl))
    | ((with_reducible apply eGr1); (first | rfl | (simp only [nth_zero, nth_succ]; rfl)))
    | ((with_reducible apply eL); (first | exact hlp))
    | ((with_reducible apply eB); (first | (with_reducible exact rfl) | (simp (disch := omega) only [qf, rf, rn, b0, i0, i6, s0, m1, m2, z2, l0, c1, c2, b1, b2, s1, s2, l1, b3, b4, s3, s4, l2, l3, l4, l5, rr, n1, q1, q2, hlen]; first | done | (with_reducible exact rfl) | (with_reducible exact ⟨rfl, rfl⟩)) | (simp (disch := omega) only [qa, putC, AV.cells, storable, buildSt, fillA, buildRo, buildOwn, fillE, Nat.reduceLeDiff, Nat.reduceLT, Nat.reduceAdd, ↓reduceIte, rf, rn, b0, i0, i6, s0, m1, m2, z2, l0, c1, c2, b1, b2, s1, s2, l1, b3, b4, s3, s4, l2, l3, l4, l5, rr, n1, q1, q2, hlen]; first | done | (with_reducible exact rfl) | (with_reducible exact ⟨rfl, rfl⟩))))
    | ((with_reducible apply eR); (simp only [nth_zero, nth_succ]; (with_reducible exact rfl)))
    | ((with_reducible first | refine sEql ?_ ?_ | refine sNeq ?_ ?_ | refine sLss ?_ ?_ | refine sLeq ?_ ?_ | refine sGtr ?_ ?_ | refine sGeq ?_ ?_ | refine sNot ?_ ?_ | refine sPick ?_ ?_ | refine sGd ?_ ?_ | refine eBool ?_ ?_) <;> intro hq <;> try subst hq)
  all_goals first | omega | exact w1b rfl
end Go.Proofs.YtdfglgnflldkpaaDoor
