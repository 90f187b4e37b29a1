/- A round of the document's run, with spans. Printed by yj.py out of Wm. -/
import Derived.Test.YtcmblhedhgiofaaDoorYh
import Derived.Test.YtcmblhedhgiofaaDoorWm
namespace Go.Proofs.YtcmblhedhgiofaaDoor.Mir.B3
open Go
set_option linter.unusedVariables false
set_option linter.unusedSimpArgs false
set_option maxHeartbeats 8000000
set_option maxRecDepth 20000

def xsW (sp : AV) (fuel : Int) (bc bor : Bool) (cs : List Ins) (R : Nat) (M : Int) (x : AV) : List AV :=
  [sp, I6 fuel, .rp bc (.agg [.ro bor (codeV cs), I6 R, I6 M]) 0, .ptr 0 1 0 0, .ptr 3 1 0 0, .sl 4 (R + 1) 0 (R + 1) 1, x]
theorem askedB_no {op : Int} (h : ¬ (op = 3 ∨ op = 4 ∨ op = 5 ∨ op = 10)) (sp : List (Int × Int)) (s : MS) (i : Ins) (hi : i.op = op) : ¬ wrongB sp s i = true := by
  have : askedB i.op = false := decide_eq_false (by rw [hi]; exact h)
  unfold wrongB; rw [this]; simp

section
variable (G : Globs) (k : Nat) (self : Den) (fuel : Int) (bc bor b2 : Bool) (sp : List (Int × Int)) (cs : List Ins) (R : Nat) (s : MS)

/-- A round, up to what an instruction does. -/
theorem rq_round (hsp : sp.length = cs.length) (lp : LoopF) (i : Ins) (H : AHeap) (hH : H.take 7 = hpQ s (-1)) (hs : s.Ok R) (hi : i.Ok2 R cs.length) (hcl : cs.length ≤ 100000) (hat : s.at_ < cs.length) (hci : cs.getD s.at_ default = i)
    (hst : (s.steps : Int) < fuel) (hst2 : s.steps ≤ 99998) (M : Int) (hM : M = s.mem.length) :
    alembicref17_Run.l4 G (k + 11) 7 self lp (xsQ (.ro b2 (leaksV sp)) fuel bc bor cs R M s.at_) H =
      if wrongB sp s i = true then some (.ret, xsW (.ro b2 (leaksV sp)) fuel bc bor cs R M .undef, hpQE s.tick s.at_ [⟨52, 6, [i.v]⟩]) else
      match s.tick.step i with
      | (s', true) => lp (xsQ (.ro b2 (leaksV sp)) fuel bc bor cs R M s'.at_) (hpR s' (-1) i.v)
      | (s', false) => some (.ret, xsQ (.ro b2 (leaksV sp)) fuel bc bor cs R M s.at_, hpQE s' (-1) [⟨52, 6, [i.v]⟩]) := by
  rw [alembicref17_Run.l4]
  have hc := rq_cut fuel bc bor cs R s (-1) (.ro b2 (leaksV sp)) (by simp [belowB, leaksV_below]) M s.at_ H hH
  unfold xsQ at *
  have hll : s.leaks.length ≤ 999990 := by have := hs.leaks; omega
  refine e_id ?_
  refine eC hc ?_
  have lc : lenSl (.ro bor (codeV cs)) = some (I6 cs.length) := by simp [lenSl, codeV_len]
  have q1 : bin Tryd.prog .geq 3 false (Nn s.at_) (I6 cs.length) = some (.bool false) := by rw [bin_geq, decide_eq_false (by omega)]
  have q2 : bin Tryd.prog .geq 2 false (Nn s.steps) (I6 fuel) = some (.bool false) := by rw [bin_geq, decide_eq_false (by omega)]
  have q3 : bin Tryd.prog .add 2 true (Nn s.steps) (.int .i64 1) = some (Nn (s.steps + 1)) := by
    rw [bin_add, wrap_of_i64 (by omega) (by omega)]; congr 2
  have q4 : bin Tryd.prog .add 3 true (Nn s.at_) (.int .i64 1) = some (Nn (s.at_ + 1)) := by
    rw [bin_add, wrap_of_i64 (by omega) (by omega)]; congr 2
  have d1 := insAt bor cs s.at_ hat
  rw [hci] at d1
  have d2 : ∀ H, loadV G true 6 (.rp bor i.v 0) H = some i.v := fun H => rfl
  have p1 := qSteps G s (-1)
  have p2 := qBox s (-1)
  have p3 := rIns s (-1) i
  have p4 := rSteps G s (-1) i.v
  have p5 := rStSteps s (-1) i.v (s.steps + 1)
  obtain ⟨s1, hs1⟩ : ∃ s1 : MS, s1 = { s with steps := s.steps + 1 } := ⟨_, rfl⟩
  have hl1 : s1.leaks.length = s.leaks.length := by rw [hs1]
  rw [← hs1] at p5
  have p6 := rLeaks G s1 (-1) i.v
  have p7 : appendV 96 2 (.sl 6 s1.leaks.length 0 s1.leaks.length 2) (.ro false [.agg [.int .i64 1, Nn s.at_]]) (hpR s1 (-1) i.v) = _ := rApp s1 (-1) i.v (1, s.at_) (by omega)
  have p8 := rStL s1 (-1) i.v (1, s.at_)
  have ht : s1.leak 1 s.at_ = s.tick := by rw [hs1]; rfl
  simp only [ht] at p8
  obtain ⟨t, htt⟩ : ∃ t, t = s.tick := ⟨_, rfl⟩
  have tok : t.Ok R := by
    rw [htt]; exact ⟨hs.len, hs.regs, hs.mem, by have := hs.leaks; simp [MS.tick, MS.leak]; omega, hs.big, by simp [MS.tick, MS.leak]; omega⟩
  have tat : t.at_ = s.at_ := by rw [htt]; rfl
  have tll : t.leaks.length ≤ 999991 := by rw [htt]; simp [MS.tick, MS.leak]; omega
  have tmem : t.mem = s.mem := by rw [htt]; rfl
  have trg : ∀ j, s.rg j = t.rg j := fun j => by rw [htt]; rfl
  rw [← htt] at p8 ⊢
  clear htt ht hs1 hH hc
  have tR := tok.len
  obtain ⟨a0, a1⟩ := hi.ha
  obtain ⟨b0, b1⟩ := hi.hb
  have r2 := rI2 G t (-1) i
  have r3 := rI3 G t (-1) i
  have r0 := rI0 G t (-1) i
  have i2 := idR R i.a a0 a1
  have i3 := idR R i.b b0 b1
  have l2 := rReg G t (-1) i.v R i.a a0 a1 tR
  have l3 := rReg G t (-1) i.v R i.b b0 b1 tR
  have r5 := rI5 G t (-1) i
  repeat first
    | (with_reducible first | refine eT ?_ | refine eN ?_ | refine eS ?_ | refine eXn ?_ | refine eXr ?_ | refine eX ?_ | refine eI ?_ | refine eK ?_ | refine eV0 ?_ | refine eGtt ?_ | refine eGff ?_ | refine eGtf ?_ | refine eGft ?_ | refine eGno ?_)
    | ((with_reducible apply eCn); (simp only [nth_zero, nth_succ]; first | done | (with_reducible exact rfl)))
    | ((with_reducible apply eJ); (rfl))
    | ((with_reducible apply eB); (first | (with_reducible exact rfl) | (simp (disch := omega) only [qf, lc, q1, q2, q3, q4, d1, d2, p1, p2, p3, p4, p5, p6, p7, p8, r0, r2, r3, i2, i3, l2, l3]; first | done | (with_reducible exact rfl) | (with_reducible exact ⟨rfl, rfl⟩)) | (simp (disch := omega) only [qa, putC, AV.cells, storable, buildSt, fillA, buildRo, buildOwn, fillE, Nat.reduceLeDiff, Nat.reduceLT, Nat.reduceAdd, ↓reduceIte, lc, q1, q2, q3, q4, d1, d2, p1, p2, p3, p4, p5, p6, p7, p8, r0, r2, r3, i2, i3, l2, l3]; first | done | (with_reducible exact rfl) | (with_reducible exact ⟨rfl, rfl⟩))))
    | ((with_reducible apply eR); (simp only [nth_zero, nth_succ]; (with_reducible exact rfl)))
  clear lc q1 q2 q3 d1 d2 p1 p2 p3 p4 p5 p6 p7 p8 i2 i3 l2 l3 hci
  have e0 : t.step i = (let u : MS := { t with at_ := t.at_ + 1 };
    if i.op = 15 ∨ i.op = 16 then u.touch i
    else if i.op = 17 ∨ i.op = 18 ∨ i.op = 19 then (u.branch i, true)
    else if i.op = 20 then ({ u with code := i.k }, false)
    else if (valF i.op i.k (t.rg i.a) (t.rg i.b) (t.rg i.c)).2 = true then (u.set i.d (valF i.op i.k (t.rg i.a) (t.rg i.b) (t.rg i.c)).1, true)
    else (u, true)) := rfl
  have eat : t.at_ + 1 = s.at_ + 1 := by rw [tat]
  have hop := hi.ok.op
  subst hM
  have ewr : wrongB sp s i = (askedB i.op && !((exF i.op i.k (t.rg i.a) (t.rg i.b)).2 && hasB (sp.getD s.at_ (0, 0)) (exF i.op i.k (t.rg i.a) (t.rg i.b)).1)) := by
    unfold wrongB
    rw [trg, trg]
  by_cases h1 : i.op = 15 ∨ i.op = 16
  · rw [if_neg (askedB_no (op := i.op) (by omega) sp s i rfl)]
    obtain ⟨ad, had⟩ : ∃ z, z = (t.rg i.a + u64 i.k) % 18446744073709551616 := ⟨_, rfl⟩
    have hadl : ad < 18446744073709551616 := by rw [had]; exact Nat.mod_lt _ (by decide)
    have c1 : convInt .u64 (I6 i.k) = some (Un (u64 i.k)) := conv_u64 ..
    have c2 := u64_add Tryd.prog 48 false (t.rg i.a) (u64 i.k)
    rw [← had] at c2
    have c3 := conv_i64 ad hadl
    have p6 := rLeaks G t (-1) i.v
    have p7 : appendV 96 2 (.sl 6 t.leaks.length 0 t.leaks.length 2) (.ro false [.agg [.int .i64 3, I6 (s64 ad)]]) (hpR t (-1) i.v) = _ := rApp t (-1) i.v (3, s64 ad) (by omega)
    have p8 := rStL t (-1) i.v (3, s64 ad)
    have e1 : t.step i = (if t.mem.length ≤ ad then ({ (({ t with at_ := t.at_ + 1 } : MS).leak 3 (s64 ad)) with code := 3 }, false) else if i.op = 15 then (({ t with at_ := t.at_ + 1 } : MS).leak 3 (s64 ad) |>.set i.d (t.mem.getD ad 0), true) else ({ (({ t with at_ := t.at_ + 1 } : MS).leak 3 (s64 ad)) with mem := t.mem.set ad (t.rg i.b) }, true)) := by
      rw [e0]
      simp only
      rw [if_pos h1]
      unfold MS.touch
      simp only
      rw [had]; rfl
    rw [e1]
    clear e0 e1 had
    have hml : t.mem.length = s.mem.length := by rw [tmem]
    have hbig := hs.big
    obtain ⟨t1, ht1⟩ : ∃ t1, t1 = t.leak 3 (s64 ad) := ⟨_, rfl⟩
    have t1m : t1.mem = t.mem := by rw [ht1]; rfl
    have t1r : t1.regs = t.regs := by rw [ht1]; rfl
    simp only [← ht1] at p8
    have r0' := rI0 G t1 (-1) i
    have r1' := rI1 G t1 (-1) i
    have cM : convInt .u64 (I6 (s.mem.length : Int)) = some (Un s.mem.length) := by rw [conv_u64, u64_nat _ (by omega)]
    have bcM : ∀ H, loadV G false 1 (.rp bc (.agg [.ro bor (codeV cs), I6 R, I6 (s.mem.length : Int)]) 2) H = some (I6 (s.mem.length : Int)) := fun H => rfl
    by_cases hin : t.mem.length ≤ ad
    · rw [if_pos hin]
      have q5 : bin Tryd.prog .geq 48 false (Un ad) (Un s.mem.length) = some (.bool true) := by rw [bin_geq, decide_eq_true (by omega)]
      have z1 := rCode t1 (-1) i.v 3
      have z2 := rAll G { t1 with code := 3 } (-1) i.v
      have z3 := rRes { t1 with code := 3 } (-1) i.v
      repeat' first
        | (with_reducible first | refine eT ?_ | refine eN ?_ | refine eS ?_ | refine eXn ?_ | refine eXr ?_ | refine eX ?_ | refine eI ?_ | refine eK ?_ | refine eV0 ?_ | refine eGtt ?_ | refine eGff ?_ | refine eGtf ?_ | refine eGft ?_ | refine eGno ?_)
        | ((with_reducible apply eCn); (simp only [nth_zero, nth_succ]; first | done | (with_reducible exact rfl)))
        | ((with_reducible apply eJ); (rfl))
        | ((with_reducible apply eB); (first | (with_reducible exact rfl) | (simp (disch := omega) only [qf, r5, c1, c2, c3, p6, p7, p8, cM, bcM, q5, z1, z2, z3]; first | done | (with_reducible exact rfl) | (with_reducible exact ⟨rfl, rfl⟩)) | (simp (disch := omega) only [qa, putC, AV.cells, storable, buildSt, fillA, buildRo, buildOwn, fillE, Nat.reduceLeDiff, Nat.reduceLT, Nat.reduceAdd, ↓reduceIte, r5, c1, c2, c3, p6, p7, p8, cM, bcM, q5, z1, z2, z3]; first | done | (with_reducible exact rfl) | (with_reducible exact ⟨rfl, rfl⟩))))
        | ((with_reducible apply eR); (simp only [nth_zero, nth_succ]; (with_reducible exact rfl)))
        | ((with_reducible first | refine sEql ?_ ?_ | refine sNeq ?_ ?_ | refine sLss ?_ ?_ | refine sLeq ?_ ?_ | refine sGtr ?_ ?_ | refine sGeq ?_ ?_ | refine sNot ?_ ?_ | refine sPick ?_ ?_ | refine sGd ?_ ?_ | refine eBool ?_ ?_) <;> intro hq <;> try subst hq)
      all_goals (rw [ht1]; refine e_out ?_; rfl)
    · rw [if_neg hin]
      have q5 : bin Tryd.prog .geq 48 false (Un ad) (Un s.mem.length) = some (.bool false) := by rw [bin_geq, decide_eq_false (by omega)]
      have m1 := rMem G t1 (-1) i.v
      have m2 := rIdM t1 ad (by rw [t1m]; omega)
      have m3 := rLdM G t1 (-1) i.v ad (by rw [t1m]; omega)
      by_cases h15 : i.op = 15
      · rw [if_pos h15]
        have q6 : bin Tryd.prog .eql 3 true (I6 i.op) (.int .i64 15) = some (.bool true) := by rw [bin_eql, decide_eq_true h15]
        obtain ⟨d0, dR⟩ := hi.ok.d (by omega)
        have m4 := idR R i.d d0 (by omega)
        have m5 := rStR t1 (-1) i.v R i.d (t1.mem.getD ad 0) d0 dR (by rw [t1r]; exact tR)
        repeat' first
          | (with_reducible first | refine eT ?_ | refine eN ?_ | refine eS ?_ | refine eXn ?_ | refine eXr ?_ | refine eX ?_ | refine eI ?_ | refine eK ?_ | refine eV0 ?_ | refine eGtt ?_ | refine eGff ?_ | refine eGtf ?_ | refine eGft ?_ | refine eGno ?_)
          | ((with_reducible apply eCn); (simp only [nth_zero, nth_succ]; first | done | (with_reducible exact rfl)))
          | ((with_reducible apply eJ); (rfl))
          | ((with_reducible apply eB); (first | (with_reducible exact rfl) | (simp (disch := omega) only [qf, r5, c1, c2, c3, p6, p7, p8, cM, bcM, q5, q6, r0', r1', m1, m2, m3, m4, m5]; first | done | (with_reducible exact rfl) | (with_reducible exact ⟨rfl, rfl⟩)) | (simp (disch := omega) only [qa, putC, AV.cells, storable, buildSt, fillA, buildRo, buildOwn, fillE, Nat.reduceLeDiff, Nat.reduceLT, Nat.reduceAdd, ↓reduceIte, r5, c1, c2, c3, p6, p7, p8, cM, bcM, q5, q6, r0', r1', m1, m2, m3, m4, m5]; first | done | (with_reducible exact rfl) | (with_reducible exact ⟨rfl, rfl⟩))))
          | ((with_reducible apply eR); (simp only [nth_zero, nth_succ]; (with_reducible exact rfl)))
          | ((with_reducible first | refine sEql ?_ ?_ | refine sNeq ?_ ?_ | refine sLss ?_ ?_ | refine sLeq ?_ ?_ | refine sGtr ?_ ?_ | refine sGeq ?_ ?_ | refine sNot ?_ ?_ | refine sPick ?_ ?_ | refine sGd ?_ ?_ | refine eBool ?_ ?_) <;> intro hq <;> try subst hq)
        rw [t1m, ht1, ← eat]; refine e_out ?_; rfl
      · rw [if_neg h15]
        have q6 : bin Tryd.prog .eql 3 true (I6 i.op) (.int .i64 15) = some (.bool false) := by rw [bin_eql, decide_eq_false h15]
        have m5 := rStM t1 (-1) i.v ad (t.rg i.b) (by rw [t1m]; omega)
        repeat' first
          | (with_reducible first | refine eT ?_ | refine eN ?_ | refine eS ?_ | refine eXn ?_ | refine eXr ?_ | refine eX ?_ | refine eI ?_ | refine eK ?_ | refine eV0 ?_ | refine eGtt ?_ | refine eGff ?_ | refine eGtf ?_ | refine eGft ?_ | refine eGno ?_)
          | ((with_reducible apply eCn); (simp only [nth_zero, nth_succ]; first | done | (with_reducible exact rfl)))
          | ((with_reducible apply eJ); (rfl))
          | ((with_reducible apply eB); (first | (with_reducible exact rfl) | (simp (disch := omega) only [qf, r5, c1, c2, c3, p6, p7, p8, cM, bcM, q5, q6, r0', r1', m1, m2, m3, m5]; first | done | (with_reducible exact rfl) | (with_reducible exact ⟨rfl, rfl⟩)) | (simp (disch := omega) only [qa, putC, AV.cells, storable, buildSt, fillA, buildRo, buildOwn, fillE, Nat.reduceLeDiff, Nat.reduceLT, Nat.reduceAdd, ↓reduceIte, r5, c1, c2, c3, p6, p7, p8, cM, bcM, q5, q6, r0', r1', m1, m2, m3, m5]; first | done | (with_reducible exact rfl) | (with_reducible exact ⟨rfl, rfl⟩))))
          | ((with_reducible apply eR); (simp only [nth_zero, nth_succ]; (with_reducible exact rfl)))
          | ((with_reducible first | refine sEql ?_ ?_ | refine sNeq ?_ ?_ | refine sLss ?_ ?_ | refine sLeq ?_ ?_ | refine sGtr ?_ ?_ | refine sGeq ?_ ?_ | refine sNot ?_ ?_ | refine sPick ?_ ?_ | refine sGd ?_ ?_ | refine eBool ?_ ?_) <;> intro hq <;> try subst hq)
        rw [t1m, ht1, ← eat]; refine e_out ?_; rfl
  by_cases h2 : i.op = 17 ∨ i.op = 18 ∨ i.op = 19
  · rw [if_neg (askedB_no (op := i.op) (by omega) sp s i rfl)]
    have hk := hi.ok.k (by omega) (by omega)
    have nk : I6 i.k = Nn i.k.toNat := by show AV.int .i64 i.k = .int .i64 _; congr 1; omega
    rw [nk] at r5
    have e1 : t.step i = (({ t with at_ := t.at_ + 1 } : MS).branch i, true) := by
      rw [e0]
      simp only
      rw [if_neg h1, if_pos h2]
    rw [e1]
    clear e0 e1
    by_cases h17 : i.op = 17
    · unfold MS.branch
      rw [if_pos h17]
      repeat' first
        | (with_reducible first | refine eT ?_ | refine eN ?_ | refine eS ?_ | refine eXn ?_ | refine eXr ?_ | refine eX ?_ | refine eI ?_ | refine eK ?_ | refine eV0 ?_ | refine eGtt ?_ | refine eGff ?_ | refine eGtf ?_ | refine eGft ?_ | refine eGno ?_)
        | ((with_reducible apply eCn); (simp only [nth_zero, nth_succ]; first | done | (with_reducible exact rfl)))
        | ((with_reducible apply eJ); (rfl))
        | ((with_reducible apply eB); (first | (with_reducible exact rfl) | (simp (disch := omega) only [qf, r0, r5]; first | done | (with_reducible exact rfl) | (with_reducible exact ⟨rfl, rfl⟩)) | (simp (disch := omega) only [qa, putC, AV.cells, storable, buildSt, fillA, buildRo, buildOwn, fillE, Nat.reduceLeDiff, Nat.reduceLT, Nat.reduceAdd, ↓reduceIte, r0, r5]; first | done | (with_reducible exact rfl) | (with_reducible exact ⟨rfl, rfl⟩))))
        | ((with_reducible apply eR); (simp only [nth_zero, nth_succ]; (with_reducible exact rfl)))
        | ((with_reducible first | refine sEql ?_ ?_ | refine sNeq ?_ ?_ | refine sLss ?_ ?_ | refine sLeq ?_ ?_ | refine sGtr ?_ ?_ | refine sGeq ?_ ?_ | refine sNot ?_ ?_ | refine sPick ?_ ?_ | refine sGd ?_ ?_ | refine eBool ?_ ?_) <;> intro hq <;> try subst hq)
      refine e_out ?_; rfl
    · unfold MS.branch
      rw [if_neg h17]
      have p6 := rLeaks G t (-1) i.v
      have z0 : bin Tryd.prog .eql 48 true (Un (t.rg i.a)) (.int .u64 0) = some (.bool (decide (t.rg i.a = 0))) := by
        rw [bin_eql]; congr 2; simp only [decide_eq_decide]; omega
      have z1 : bin Tryd.prog .eql 3 true (I6 i.op) (.int .i64 18) = some (.bool (decide (i.op = 18))) := bin_eql ..
      have z2 : bin Tryd.prog .eql 4 false (.bool (decide (t.rg i.a = 0))) (.bool (decide (i.op = 18))) = some (.bool (decide (t.rg i.a = 0) == decide (i.op = 18))) := bin_eql_bool Tryd.underlying4 ..
      have z3 : ∀ b H, pureCall (alembicref17_one.f G (k + 11)) [.bool b] H = _ := fun b H => pureCall_of (H := H) (rone_spec G (k + 10) b) rfl rfl
      have rgu : (({ t with at_ := t.at_ + 1 } : MS).rg i.a) = t.rg i.a := rfl
      rw [rgu]
      by_cases hg : (decide (t.rg i.a = 0) == decide (i.op = 18)) = true
      · rw [if_pos hg]
        rw [hg] at z2
        have z3' := z3 true
        rw [if_pos rfl] at z3'
        have p7 : appendV 96 2 (.sl 6 t.leaks.length 0 t.leaks.length 2) (.ro false [.agg [.int .i64 2, .int .i64 1]]) (hpR t (-1) i.v) = _ := rApp t (-1) i.v (2, 1) (by omega)
        have p8 := rStL t (-1) i.v (2, 1)
        have r5' : ∀ y, loadV G false 1 (.ptr 7 1 0 5) (hpR (t.leak 2 y) (-1) i.v) = some (Nn i.k.toNat) := fun y => by rw [rI5, nk]
        clear z3
        have w18 : bin Tryd.prog .eql 3 true (I6 i.op) (.int .i64 17) = some (.bool false) := by rw [bin_eql, decide_eq_false h17]
        generalize decide (t.rg i.a = 0) = g1 at *
        generalize hg2 : decide (i.op = 18) = g2 at *
        have w19 : g2 = false → bin Tryd.prog .eql 3 true (I6 i.op) (.int .i64 19) = some (.bool true) := fun h => by
          subst h; simp at hg2; rw [bin_eql, decide_eq_true (by omega)]
        cases hgg : g2
        · rw [hgg] at z1 z2
          have w19 := w19 hgg
          repeat' first
            | (with_reducible first | refine eT ?_ | refine eN ?_ | refine eS ?_ | refine eXn ?_ | refine eXr ?_ | refine eX ?_ | refine eI ?_ | refine eK ?_ | refine eV0 ?_ | refine eGtt ?_ | refine eGff ?_ | refine eGtf ?_ | refine eGft ?_ | refine eGno ?_)
            | ((with_reducible apply eCn); (simp only [nth_zero, nth_succ]; first | done | (with_reducible exact rfl)))
            | ((with_reducible apply eJ); (rfl))
            | ((with_reducible apply eB); (first | (with_reducible exact rfl) | (simp (disch := omega) only [qf, r0, r5', p6, p7, p8, z0, z1, z2, z3', w18, w19]; first | done | (with_reducible exact rfl) | (with_reducible exact ⟨rfl, rfl⟩)) | (simp (disch := omega) only [qa, putC, AV.cells, storable, buildSt, fillA, buildRo, buildOwn, fillE, Nat.reduceLeDiff, Nat.reduceLT, Nat.reduceAdd, ↓reduceIte, r0, r5', p6, p7, p8, z0, z1, z2, z3', w18, w19]; first | done | (with_reducible exact rfl) | (with_reducible exact ⟨rfl, rfl⟩))))
            | ((with_reducible apply eR); (simp only [nth_zero, nth_succ]; (with_reducible exact rfl)))
            | ((with_reducible first | refine sEql ?_ ?_ | refine sNeq ?_ ?_ | refine sLss ?_ ?_ | refine sLeq ?_ ?_ | refine sGtr ?_ ?_ | refine sGeq ?_ ?_ | refine sNot ?_ ?_ | refine sPick ?_ ?_ | refine sGd ?_ ?_ | refine eBool ?_ ?_) <;> intro hq <;> try subst hq)
          refine e_out ?_; rfl
        · rw [hgg] at z1 z2
          repeat' first
            | (with_reducible first | refine eT ?_ | refine eN ?_ | refine eS ?_ | refine eXn ?_ | refine eXr ?_ | refine eX ?_ | refine eI ?_ | refine eK ?_ | refine eV0 ?_ | refine eGtt ?_ | refine eGff ?_ | refine eGtf ?_ | refine eGft ?_ | refine eGno ?_)
            | ((with_reducible apply eCn); (simp only [nth_zero, nth_succ]; first | done | (with_reducible exact rfl)))
            | ((with_reducible apply eJ); (rfl))
            | ((with_reducible apply eB); (first | (with_reducible exact rfl) | (simp (disch := omega) only [qf, r0, r5', p6, p7, p8, z0, z1, z2, z3', w18]; first | done | (with_reducible exact rfl) | (with_reducible exact ⟨rfl, rfl⟩)) | (simp (disch := omega) only [qa, putC, AV.cells, storable, buildSt, fillA, buildRo, buildOwn, fillE, Nat.reduceLeDiff, Nat.reduceLT, Nat.reduceAdd, ↓reduceIte, r0, r5', p6, p7, p8, z0, z1, z2, z3', w18]; first | done | (with_reducible exact rfl) | (with_reducible exact ⟨rfl, rfl⟩))))
            | ((with_reducible apply eR); (simp only [nth_zero, nth_succ]; (with_reducible exact rfl)))
            | ((with_reducible first | refine sEql ?_ ?_ | refine sNeq ?_ ?_ | refine sLss ?_ ?_ | refine sLeq ?_ ?_ | refine sGtr ?_ ?_ | refine sGeq ?_ ?_ | refine sNot ?_ ?_ | refine sPick ?_ ?_ | refine sGd ?_ ?_ | refine eBool ?_ ?_) <;> intro hq <;> try subst hq)
          refine e_out ?_; rfl
      · rw [if_neg hg]
        rw [Bool.not_eq_true] at hg
        rw [hg] at z2
        have z3' := z3 false
        rw [if_neg (by decide)] at z3'
        have p7 : appendV 96 2 (.sl 6 t.leaks.length 0 t.leaks.length 2) (.ro false [.agg [.int .i64 2, .int .i64 0]]) (hpR t (-1) i.v) = _ := rApp t (-1) i.v (2, 0) (by omega)
        have p8 := rStL t (-1) i.v (2, 0)
        clear z3
        have w18 : bin Tryd.prog .eql 3 true (I6 i.op) (.int .i64 17) = some (.bool false) := by rw [bin_eql, decide_eq_false h17]
        generalize decide (t.rg i.a = 0) = g1 at *
        generalize hg2 : decide (i.op = 18) = g2 at *
        have w19 : g2 = false → bin Tryd.prog .eql 3 true (I6 i.op) (.int .i64 19) = some (.bool true) := fun h => by
          subst h; simp at hg2; rw [bin_eql, decide_eq_true (by omega)]
        cases hgg : g2
        · rw [hgg] at z1 z2
          have w19 := w19 hgg
          repeat' first
            | (with_reducible first | refine eT ?_ | refine eN ?_ | refine eS ?_ | refine eXn ?_ | refine eXr ?_ | refine eX ?_ | refine eI ?_ | refine eK ?_ | refine eV0 ?_ | refine eGtt ?_ | refine eGff ?_ | refine eGtf ?_ | refine eGft ?_ | refine eGno ?_)
            | ((with_reducible apply eCn); (simp only [nth_zero, nth_succ]; first | done | (with_reducible exact rfl)))
            | ((with_reducible apply eJ); (rfl))
            | ((with_reducible apply eB); (first | (with_reducible exact rfl) | (simp (disch := omega) only [qf, r0, p6, p7, p8, z0, z1, z2, z3', w18, w19]; first | done | (with_reducible exact rfl) | (with_reducible exact ⟨rfl, rfl⟩)) | (simp (disch := omega) only [qa, putC, AV.cells, storable, buildSt, fillA, buildRo, buildOwn, fillE, Nat.reduceLeDiff, Nat.reduceLT, Nat.reduceAdd, ↓reduceIte, r0, p6, p7, p8, z0, z1, z2, z3', w18, w19]; first | done | (with_reducible exact rfl) | (with_reducible exact ⟨rfl, rfl⟩))))
            | ((with_reducible apply eR); (simp only [nth_zero, nth_succ]; (with_reducible exact rfl)))
            | ((with_reducible first | refine sEql ?_ ?_ | refine sNeq ?_ ?_ | refine sLss ?_ ?_ | refine sLeq ?_ ?_ | refine sGtr ?_ ?_ | refine sGeq ?_ ?_ | refine sNot ?_ ?_ | refine sPick ?_ ?_ | refine sGd ?_ ?_ | refine eBool ?_ ?_) <;> intro hq <;> try subst hq)
          rw [← eat]; refine e_out ?_; rfl
        · rw [hgg] at z1 z2
          repeat' first
            | (with_reducible first | refine eT ?_ | refine eN ?_ | refine eS ?_ | refine eXn ?_ | refine eXr ?_ | refine eX ?_ | refine eI ?_ | refine eK ?_ | refine eV0 ?_ | refine eGtt ?_ | refine eGff ?_ | refine eGtf ?_ | refine eGft ?_ | refine eGno ?_)
            | ((with_reducible apply eCn); (simp only [nth_zero, nth_succ]; first | done | (with_reducible exact rfl)))
            | ((with_reducible apply eJ); (rfl))
            | ((with_reducible apply eB); (first | (with_reducible exact rfl) | (simp (disch := omega) only [qf, r0, p6, p7, p8, z0, z1, z2, z3', w18]; first | done | (with_reducible exact rfl) | (with_reducible exact ⟨rfl, rfl⟩)) | (simp (disch := omega) only [qa, putC, AV.cells, storable, buildSt, fillA, buildRo, buildOwn, fillE, Nat.reduceLeDiff, Nat.reduceLT, Nat.reduceAdd, ↓reduceIte, r0, p6, p7, p8, z0, z1, z2, z3', w18]; first | done | (with_reducible exact rfl) | (with_reducible exact ⟨rfl, rfl⟩))))
            | ((with_reducible apply eR); (simp only [nth_zero, nth_succ]; (with_reducible exact rfl)))
            | ((with_reducible first | refine sEql ?_ ?_ | refine sNeq ?_ ?_ | refine sLss ?_ ?_ | refine sLeq ?_ ?_ | refine sGtr ?_ ?_ | refine sGeq ?_ ?_ | refine sNot ?_ ?_ | refine sPick ?_ ?_ | refine sGd ?_ ?_ | refine eBool ?_ ?_) <;> intro hq <;> try subst hq)
          rw [← eat]; refine e_out ?_; rfl
  by_cases h3 : i.op = 20
  · rw [if_neg (askedB_no (op := i.op) (by omega) sp s i rfl)]
    have e1 : t.step i = ({ ({ t with at_ := t.at_ + 1 } : MS) with code := i.k }, false) := by
      rw [e0]
      simp only
      rw [if_neg h1, if_neg h2, if_pos h3]
    rw [e1]
    clear e0 e1
    have z1 := rCode t (-1) i.v i.k
    have z2 := rAll G { t with code := i.k } (-1) i.v
    have z3 := rRes { t with code := i.k } (-1) i.v
    repeat' first
      | (with_reducible first | refine eT ?_ | refine eN ?_ | refine eS ?_ | refine eXn ?_ | refine eXr ?_ | refine eX ?_ | refine eI ?_ | refine eK ?_ | refine eV0 ?_ | refine eGtt ?_ | refine eGff ?_ | refine eGtf ?_ | refine eGft ?_ | refine eGno ?_)
      | ((with_reducible apply eCn); (simp only [nth_zero, nth_succ]; first | done | (with_reducible exact rfl)))
      | ((with_reducible apply eJ); (rfl))
      | ((with_reducible apply eB); (first | (with_reducible exact rfl) | (simp (disch := omega) only [qf, r0, r5, z1, z2, z3]; first | done | (with_reducible exact rfl) | (with_reducible exact ⟨rfl, rfl⟩)) | (simp (disch := omega) only [qa, putC, AV.cells, storable, buildSt, fillA, buildRo, buildOwn, fillE, Nat.reduceLeDiff, Nat.reduceLT, Nat.reduceAdd, ↓reduceIte, r0, r5, z1, z2, z3]; first | done | (with_reducible exact rfl) | (with_reducible exact ⟨rfl, rfl⟩))))
      | ((with_reducible apply eR); (simp only [nth_zero, nth_succ]; (with_reducible exact rfl)))
      | ((with_reducible first | refine sEql ?_ ?_ | refine sNeq ?_ ?_ | refine sLss ?_ ?_ | refine sLeq ?_ ?_ | refine sGtr ?_ ?_ | refine sGeq ?_ ?_ | refine sNot ?_ ?_ | refine sPick ?_ ?_ | refine sGd ?_ ?_ | refine eBool ?_ ?_) <;> intro hq <;> try subst hq)
    refine e_out ?_; rfl
  · have hv := valF_is (n := i.k) (a := t.rg i.a) (b := t.rg i.b) (c := t.rg i.c) (show 1 ≤ i.op ∧ i.op ≤ 14 by omega) hi.sh
    have e1 : t.step i = (({ t with at_ := t.at_ + 1 } : MS).set i.d (valF i.op i.k (t.rg i.a) (t.rg i.b) (t.rg i.c)).1, true) := by
      rw [e0]
      simp only
      rw [if_neg h1, if_neg h2, if_neg h3, if_pos hv]
    rw [e1]
    clear e0 e1
    obtain ⟨d0, dR⟩ := hi.ok.d (by omega)
    obtain ⟨c0, cR⟩ := hi.ok.c (by omega)
    have z1 := rI6 G t (-1) i
    have z2 := rI4 G t (-1) i
    have z3 := idR R i.c c0 (by omega)
    have z4 := rReg G t (-1) i.v R i.c c0 (by omega) tR
    have z5 : ∀ H, pureCall (alembicref17_Value.f G (k + 11)) [i.v, Un (t.rg i.a), Un (t.rg i.b), Un (t.rg i.c)] H = _ := fun H => pureCall_of (H := H) (rvalue_spec G (k + 9) i.op i.d i.a i.b i.c i.k _ _ _ (tok.rg _) (tok.rg _) (tok.rg _)) rfl rfl
    have z6 := rI1 G t (-1) i
    have z7 := idR R i.d d0 (by omega)
    have z8 := rStR t (-1) i.v R i.d (valF i.op i.k (t.rg i.a) (t.rg i.b) (t.rg i.c)).1 d0 dR tR
    rw [hv] at z5
    have y1 : lenSl (.ro b2 (leaksV sp)) = some (I6 sp.length) := by simp [lenSl, leaksV_len]
    have y2 : bin Tryd.prog .gtr 3 true (I6 sp.length) (.int .i64 0) = some (.bool true) := q_gtr_t (by omega)
    have y3 := rLdWrong G t (-1) i.v
    have y4 : ∀ H, pureCall (alembicref17_Exact.f G (k + 11)) [i.v, Un (t.rg i.a), Un (t.rg i.b)] H = _ := fun H => pureCall_of (H := H) (rexact_spec G k i.op i.d i.a i.b i.c i.k _ _ (tok.rg _) (tok.rg _)) rfl rfl
    have y5 := idSp sp b2 s.at_ (by omega)
    have y6 : ∀ p H, loadV G false 1 (.rp b2 (leakV p) 0) H = some (I6 p.1) := fun p H => rfl
    have y7 : ∀ p H, loadV G false 1 (.rp b2 (leakV p) 1) H = some (I6 p.2) := fun p H => rfl
    have y8 := rWrong t (-1) i.v s.at_
    have y9 := rAll G t s.at_ i.v
    have y10 := rRes t s.at_ i.v
    obtain ⟨p, hp⟩ : ∃ p, p = exF i.op i.k (t.rg i.a) (t.rg i.b) := ⟨_, rfl⟩
    rw [← hp] at y4 ewr
    obtain ⟨n, is⟩ := p
    unfold exV at y4
    obtain ⟨q, hq⟩ : ∃ q, q = sp.getD s.at_ (0, 0) := ⟨_, rfl⟩
    rw [← hq] at y5 ewr
    simp only at y4 ewr
    clear hp hq
    generalize (valF i.op i.k (t.rg i.a) (t.rg i.b) (t.rg i.c)).1 = v at *
    generalize t.rg i.a = ra at *
    generalize t.rg i.b = rb at *
    generalize t.rg i.c = rc at *
    by_cases ha : i.op = 3 ∨ i.op = 4 ∨ i.op = 5 ∨ i.op = 10
    · have ea : askedB i.op = true := decide_eq_true ha
      rw [ewr, ea]
      have y11 : ∀ x : AV, pickA (.bool true) (.bool true) x = some (.bool true) := fun x => rfl
      cases is
      · rw [if_pos (show (true && !(false && hasB q n)) = true from rfl)]
        clear z5 z8
        repeat' first
          | (with_reducible first | refine eT ?_ | refine eN ?_ | refine eS ?_ | refine eXn ?_ | refine eXr ?_ | refine eX ?_ | refine eI ?_ | refine eK ?_ | refine eV0 ?_ | refine eGtt ?_ | refine eGff ?_ | refine eGtf ?_ | refine eGft ?_ | refine eGno ?_)
          | ((with_reducible apply eCn); (simp only [nth_zero, nth_succ]; first | done | (with_reducible exact rfl)))
          | ((with_reducible apply eJ); (rfl))
          | ((with_reducible apply eB); (first | (with_reducible exact rfl) | (simp (disch := omega) only [qf, r0, z1, z2, y1, y2, y3, y4, y5, y6, y7, y8, y9, y10]; first | done | (with_reducible exact rfl) | (with_reducible exact ⟨rfl, rfl⟩)) | (simp (disch := omega) only [qa, putC, AV.cells, storable, buildSt, fillA, buildRo, buildOwn, fillE, Nat.reduceLeDiff, Nat.reduceLT, Nat.reduceAdd, ↓reduceIte, r0, z1, z2, y1, y2, y3, y4, y5, y6, y7, y8, y9, y10]; first | done | (with_reducible exact rfl) | (with_reducible exact ⟨rfl, rfl⟩))))
          | ((with_reducible apply eR); (simp only [nth_zero, nth_succ]; (with_reducible exact rfl)))
          | ((with_reducible first | refine sEql ?_ ?_ | refine sNeq ?_ ?_ | refine sLss ?_ ?_ | refine sLeq ?_ ?_ | refine sGtr ?_ ?_ | refine sGeq ?_ ?_ | refine sNot ?_ ?_ | refine sPick ?_ ?_ | refine sGd ?_ ?_ | refine eBool ?_ ?_) <;> intro hq <;> try subst hq)
        all_goals first | omega | (refine e_out ?_; rfl)
      · by_cases hh : q.1 ≤ n ∧ n ≤ q.2
        · have eh : hasB q n = true := decide_eq_true hh
          rw [if_neg (by rw [eh]; simp)]
          repeat' first
            | (with_reducible first | refine eT ?_ | refine eN ?_ | refine eS ?_ | refine eXn ?_ | refine eXr ?_ | refine eX ?_ | refine eI ?_ | refine eK ?_ | refine eV0 ?_ | refine eGtt ?_ | refine eGff ?_ | refine eGtf ?_ | refine eGft ?_ | refine eGno ?_)
            | ((with_reducible apply eCn); (simp only [nth_zero, nth_succ]; first | done | (with_reducible exact rfl)))
            | ((with_reducible apply eJ); (rfl))
            | ((with_reducible apply eB); (first | (with_reducible exact rfl) | (simp (disch := omega) only [qf, r0, z1, z2, z3, z4, z5, z6, z7, z8, y1, y2, y3, y4, y5, y6, y7, y8, y9, y10]; first | done | (with_reducible exact rfl) | (with_reducible exact ⟨rfl, rfl⟩)) | (simp (disch := omega) only [qa, putC, AV.cells, storable, buildSt, fillA, buildRo, buildOwn, fillE, Nat.reduceLeDiff, Nat.reduceLT, Nat.reduceAdd, ↓reduceIte, r0, z1, z2, z3, z4, z5, z6, z7, z8, y1, y2, y3, y4, y5, y6, y7, y8, y9, y10]; first | done | (with_reducible exact rfl) | (with_reducible exact ⟨rfl, rfl⟩))))
            | ((with_reducible apply eR); (simp only [nth_zero, nth_succ]; (with_reducible exact rfl)))
            | ((with_reducible first | refine sEql ?_ ?_ | refine sNeq ?_ ?_ | refine sLss ?_ ?_ | refine sLeq ?_ ?_ | refine sGtr ?_ ?_ | refine sGeq ?_ ?_ | refine sNot ?_ ?_ | refine sPick ?_ ?_ | refine sGd ?_ ?_ | refine eBool ?_ ?_) <;> intro hq <;> try subst hq)
          all_goals first | omega | (rw [← eat]; refine e_out ?_; rfl)
        · have eh : hasB q n = false := decide_eq_false hh
          rw [if_pos (by rw [eh]; rfl)]
          repeat' first
            | (with_reducible first | refine eT ?_ | refine eN ?_ | refine eS ?_ | refine eXn ?_ | refine eXr ?_ | refine eX ?_ | refine eI ?_ | refine eK ?_ | refine eV0 ?_ | refine eGtt ?_ | refine eGff ?_ | refine eGtf ?_ | refine eGft ?_ | refine eGno ?_)
            | ((with_reducible apply eCn); (simp only [nth_zero, nth_succ]; first | done | (with_reducible exact rfl)))
            | ((with_reducible apply eJ); (rfl))
            | ((with_reducible apply eB); (first | (with_reducible exact rfl) | (simp (disch := omega) only [qf, r0, z1, z2, z3, z4, z5, z6, z7, z8, y1, y2, y3, y4, y5, y6, y7, y8, y9, y10]; first | done | (with_reducible exact rfl) | (with_reducible exact ⟨rfl, rfl⟩)) | (simp (disch := omega) only [qa, putC, AV.cells, storable, buildSt, fillA, buildRo, buildOwn, fillE, Nat.reduceLeDiff, Nat.reduceLT, Nat.reduceAdd, ↓reduceIte, r0, z1, z2, z3, z4, z5, z6, z7, z8, y1, y2, y3, y4, y5, y6, y7, y8, y9, y10]; first | done | (with_reducible exact rfl) | (with_reducible exact ⟨rfl, rfl⟩))))
            | ((with_reducible apply eR); (simp only [nth_zero, nth_succ]; (with_reducible exact rfl)))
            | ((with_reducible first | refine sEql ?_ ?_ | refine sNeq ?_ ?_ | refine sLss ?_ ?_ | refine sLeq ?_ ?_ | refine sGtr ?_ ?_ | refine sGeq ?_ ?_ | refine sNot ?_ ?_ | refine sPick ?_ ?_ | refine sGd ?_ ?_ | refine eBool ?_ ?_) <;> intro hq <;> try subst hq)
          all_goals first | omega | (refine e_out ?_; rfl)
    · have ea : askedB i.op = false := decide_eq_false ha
      rw [ewr, ea, if_neg (by simp)]
      repeat' first
        | (with_reducible first | refine eT ?_ | refine eN ?_ | refine eS ?_ | refine eXn ?_ | refine eXr ?_ | refine eX ?_ | refine eI ?_ | refine eK ?_ | refine eV0 ?_ | refine eGtt ?_ | refine eGff ?_ | refine eGtf ?_ | refine eGft ?_ | refine eGno ?_)
        | ((with_reducible apply eCn); (simp only [nth_zero, nth_succ]; first | done | (with_reducible exact rfl)))
        | ((with_reducible apply eJ); (rfl))
        | ((with_reducible apply eB); (first | (with_reducible exact rfl) | (simp (disch := omega) only [qf, r0, z1, z2, z3, z4, z5, z6, z7, z8, y1, y2, y3, y4, y5, y6, y7]; first | done | (with_reducible exact rfl) | (with_reducible exact ⟨rfl, rfl⟩)) | (simp (disch := omega) only [qa, putC, AV.cells, storable, buildSt, fillA, buildRo, buildOwn, fillE, Nat.reduceLeDiff, Nat.reduceLT, Nat.reduceAdd, ↓reduceIte, r0, z1, z2, z3, z4, z5, z6, z7, z8, y1, y2, y3, y4, y5, y6, y7]; first | done | (with_reducible exact rfl) | (with_reducible exact ⟨rfl, rfl⟩))))
        | ((with_reducible apply eR); (simp only [nth_zero, nth_succ]; (with_reducible exact rfl)))
        | ((with_reducible first | refine sEql ?_ ?_ | refine sNeq ?_ ?_ | refine sLss ?_ ?_ | refine sLeq ?_ ?_ | refine sGtr ?_ ?_ | refine sGeq ?_ ?_ | refine sNot ?_ ?_ | refine sPick ?_ ?_ | refine sGd ?_ ?_ | refine eBool ?_ ?_) <;> intro hq <;> try subst hq)
      all_goals first | omega | (rw [← eat]; refine e_out ?_; rfl)
end
end Go.Proofs.YtcmblhedhgiofaaDoor.Mir.B3
