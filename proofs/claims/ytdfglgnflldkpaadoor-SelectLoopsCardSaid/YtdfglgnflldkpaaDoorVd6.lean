/- Printed by rowgen.py: the row of SelectLoops, out of its law in plain Lean. -/
import Derived.Test.YtdfglgnflldkpaaDoorVd5
import Derived.KernelRfl
import Derived.Test.YtdfglgnflldkpaaDoorTie
import Derived.Test.YtdfglgnflldkpaaDoorCards
import Derived.SevenTiedAt
namespace Go.Proofs.YtdfglgnflldkpaaDoor.Mir
open Go
set_option linter.unusedVariables false
set_option linter.unusedSimpArgs false
set_option maxHeartbeats 8000000
set_option maxRecDepth 20000
theorem idxRo {b : Bool} {xs : List AV} {j : Nat} {k : IntKind} {n : Int} (h : xs[j]? = some (.int k n)) : idxAddrSl 1 (.ro b xs) (Nn j) = some (.rp b (.int k n) 0) := by
  have h0 : (0 : Int) ≤ (j : Int) := by omega
  unfold idxAddrSl
  simp only [Int.toNat_natCast, h]
  rw [if_pos h0]
  rfl
abbrev bZ : ABlk := ⟨46, 35, [.agg (I6 0 :: .nils :: (natsU (List.replicate 31 0) ++ [.nils, .int .i64 0]))]⟩
theorem bZ_below (n : Nat) : belowL n bZ.elems = true := by simp [bZ, belowL, belowB, belowL_app, natsU_below]
def hpW (l : List Nat) : AHeap := [bZ, ⟨43, 1, []⟩, ⟨43, 1, natsU l⟩]
theorem words_loop (G : Globs) (k : Nat) (self : Den) (b : Bool) (mem : List Nat) (hml : mem.length ≤ 1000000) : ∀ (suf pre : List Nat) (f : Nat), mem = pre ++ suf → suf.length < f →
    loopN (alembicref_Words.l3 G k 3 self) f [.ro b (natsU mem), .sl 2 pre.length 0 pre.length 1, Nn pre.length] (hpW pre) = some (.exit 0, [.ro b (natsU mem), .sl 2 mem.length 0 mem.length 1, Nn mem.length], hpW mem)
  | suf, pre, 0, hm, hf => by omega
  | [], pre, f + 1, hm, hf => by
    rw [loopN_succ, alembicref_Words.l3]
    have hl : mem = pre := by rw [hm]; simp
    have hc : cutH 3 [.ro b (natsU mem), .sl 2 pre.length 0 pre.length 1, Nn pre.length] (hpW pre) = some (hpW pre) := by
      have hz := bZ_below 3; simp only [bZ] at hz; simp [cutH, hpW, belowL, belowB, heapBelow, natsU_below, belowL_app]
    have lc : lenSl (.ro b (natsU mem)) = some (I6 mem.length) := by simp [lenSl, natsU_len]
    have q : bin Tryd.prog .lss 3 false (Nn pre.length) (Nn mem.length) = some (.bool false) := by rw [bin_lss, decide_eq_false (by rw [hl]; omega)]
    refine e_id ?_
    refine eC hc ?_
    have fx := And.intro lc <| q
    refine wkA ?_
    rw [hl]
    refine e_out ?_; rfl
  | a :: suf, pre, f + 1, hm, hf => by
    rw [loopN_succ, alembicref_Words.l3]
    have hl : mem.length = pre.length + (suf.length + 1) := by rw [hm]; simp
    have hc : cutH 3 [.ro b (natsU mem), .sl 2 pre.length 0 pre.length 1, Nn pre.length] (hpW pre) = some (hpW pre) := by
      have hz := bZ_below 3; simp only [bZ] at hz; simp [cutH, hpW, belowL, belowB, heapBelow, natsU_below, belowL_app]
    have lc : lenSl (.ro b (natsU mem)) = some (I6 mem.length) := by simp [lenSl, natsU_len]
    have q : bin Tryd.prog .lss 3 false (Nn pre.length) (Nn mem.length) = some (.bool true) := by rw [bin_lss, decide_eq_true (by omega)]
    have ha : mem.getD pre.length 0 = a := by rw [hm]; simp [List.getD]
    have d1 : idxAddrSl 1 (.ro b (natsU mem)) (Nn pre.length) = some (.rp b (Un a) 0) := by
      have := natsU_get mem pre.length (by omega)
      rw [ha] at this
      exact idxRo this
    have d2 : ∀ H, loadV G false 1 (.rp b (Un a) 0) H = some (Un a) := fun H => rfl
    have d3 : appendV 43 1 (.sl 2 pre.length 0 pre.length 1) (.ro false [Un a]) (hpW pre) = some (.sl 2 (pre ++ [a]).length 0 (pre ++ [a]).length 1, hpW (pre ++ [a])) := by
      have e : (hpW pre)[2]? = some ⟨43, 1, natsU pre⟩ := rfl
      unfold appendV
      simp only [e, elemsOf, natsU_len, List.length_singleton]
      rw [if_pos (by refine ⟨?_, ?_, ?_, ?_, ?_⟩ <;> first | trivial | rfl | omega)]
      have e2 : (natsU pre).take pre.length = natsU pre := List.take_of_length_le (by rw [natsU_len]; exact Nat.le_refl _)
      have e3 : (natsU pre).drop (pre.length + 1) = [] := List.drop_of_length_le (by rw [natsU_len]; omega)
      rw [e2, e3, List.append_nil]
      have e4 : natsU pre ++ [Un a] = natsU (pre ++ [a]) := by simp [natsU]
      rw [e4, natsU_len]; simp [hpW]
    have d4 : bin Tryd.prog .add 3 true (Nn pre.length) (.int .i64 1) = some (Nn (pre ++ [a]).length) := by
      rw [bin_add, wrap_of_i64 (by omega) (by omega)]; congr 2; simp
    have ih := words_loop G k self b mem hml suf (pre ++ [a]) f (by rw [hm]; simp) (by simp at hf; omega)
    refine e_id ?_
    refine eC hc ?_
    have fx := And.intro lc <| And.intro q <| And.intro d1 <| And.intro d2 <| And.intro d3 <| d4
    refine wkA ?_
    exact ih
theorem words_spec (G : Globs) (k : Nat) (b : Bool) (mem : List Nat) (hml : mem.length ≤ 1000000) (hk : mem.length < k) : alembicref_Words.f G (k + 1) [.ro b (natsU mem)] [bZ] = some (.sl 2 mem.length 0 mem.length 1, hpW mem) := by
  rw [alembicref_Words.step]
  unfold alembicref_Words.c
  have lc : lenSl (.ro b (natsU mem)) = some (I6 mem.length) := by simp [lenSl, natsU_len]
  have ms : makeSliceV 43 1 (.int .u64 0) (.int .i64 0) (I6 mem.length) [bZ, ⟨43, 1, []⟩] = some (.sl 2 0 0 0 1, hpW []) := by
    unfold makeSliceV
    simp only
    rw [if_pos (by omega)]
    rfl
  have lp : loopN (alembicref_Words.l3 G k 3 (alembicref_Words.f G k)) k [.ro b (natsU mem), .sl 2 0 0 0 1, .int .i64 0] (hpW []) = _ := words_loop G k (alembicref_Words.f G k) b mem hml mem [] k rfl hk
  refine e_in ?_
  have fx := And.intro lc <| ms
  have lx1 := lp
  refine wkA ?_
  refine e_out ?_; rfl
theorem rone_spec (G : Globs) (k : Nat) (b : Bool) : alembicref17_one.f G (k + 1) [.bool b] [] = some (I6 (if b = true then 1 else 0), []) := by
  rw [alembicref17_one.step]
  unfold alembicref17_one.c
  refine e_in ?_
  cases b
  · have fx := True.intro
    refine wkA ?_
    exact w1i rfl
  · have fx := True.intro
    refine wkA ?_
    exact w1i rfl
def xsR (fuel : Int) (bor : Bool) (cs : List Int) (pc : Int) : List AV := [.ro bor (codeW cs), I6 fuel, .ptr 0 1 0 0, RX, .ptr 4 1 0 0, I6 pc]
theorem xsR_below (fuel : Int) (bor : Bool) (cs : List Int) (pc : Int) : belowL 7 (xsR fuel bor cs pc) = true := by simp [xsR, belowL, belowB, codeW_below]
section
variable (G : Globs) (k : Nat) (self : Den) (z : List AV) (hz : z.length = 35) (hzb : belowL 7 z = true) (bor : Bool) (cs : List Int) (fuel : Int) (lp : LoopF)
/-- An instruction's cells. -/
theorem t7v (b0 : ABlk) (i : MI) (l : AHeap) (t : QS) : loadV G true 6 (.ptr 7 1 0 0) (hpR b0 (⟨57, 6, [i.v]⟩ :: l) t) = some i.v := rfl
theorem t70 (b0 : ABlk) (i : MI) (l : AHeap) (t : QS) : loadV G false 1 (.ptr 7 1 0 0) (hpR b0 (⟨57, 6, [i.v]⟩ :: l) t) = some (I6 i.op) := rfl
theorem t71 (b0 : ABlk) (i : MI) (l : AHeap) (t : QS) : loadV G false 1 (.ptr 7 1 0 1) (hpR b0 (⟨57, 6, [i.v]⟩ :: l) t) = some (I6 i.d) := rfl
theorem t72 (b0 : ABlk) (i : MI) (l : AHeap) (t : QS) : loadV G false 1 (.ptr 7 1 0 2) (hpR b0 (⟨57, 6, [i.v]⟩ :: l) t) = some (I6 i.n) := rfl
theorem t74 (b0 : ABlk) (i : MI) (l : AHeap) (t : QS) : loadV G false 1 (.ptr 7 1 0 4) (hpR b0 (⟨57, 6, [i.v]⟩ :: l) t) = some (I6 i.a) := rfl
theorem t75 (b0 : ABlk) (i : MI) (l : AHeap) (t : QS) : loadV G false 1 (.ptr 7 1 0 5) (hpR b0 (⟨57, 6, [i.v]⟩ :: l) t) = some (I6 i.imm) := rfl
/-- What a round does, as an equation: it goes on, or it ends. -/
def roundR (lp : LoopF) (z : List AV) (fuel : Int) (bor : Bool) (cs : List Int) (q : QS × Bool) (m : Option Outc) : Prop :=
  if q.2 = true then ∃ T, m = lp (xsR fuel bor cs q.1.at_) (hpR (bR 46 z) T q.1)
  else ∃ T xs, m = some (.ret, xs, hpR (bR 46 q.1.cellsR) T q.1) ∧ nth xs 2 = .ptr 0 1 0 0
include hz hzb in
theorem round_spec (T0 : AHeap) (s : QS) (hs : s.Ok) (hc : s.code = 3) (h1 : 0 ≤ s.at_) (h2 : s.at_ < cs.length) (h3 : (s.steps : Int) < fuel) (hf : fuel ≤ 99999) (hcl : cs.length ≤ 100000) (w0 : 0 ≤ cs.getD s.at_.toNat 0 ∧ cs.getD s.at_.toNat 0 < 4294967296) :
    roundR lp z fuel bor cs (s.tick.step (cs.getD s.at_.toNat 0)) (alembicref17_RunMach.l4 G (k + 41) 7 self lp (xsR fuel bor cs s.at_) (hpR (bR 46 z) T0 s)) := by
  have few := hs.few
  have lks := hs.leaks
  have hr := hs.rg.len
  have hb : belowL 7 (bR 46 z).elems = true := by simp [bR, belowL, belowB, hzb]
  have hcut := rcut7 (bR 46 z) T0 s hb _ (xsR_below fuel bor cs s.at_)
  rw [alembicref17_RunMach.l4, zeroRg]
  have hZ : (List.replicate 31 0 : List Nat).length = 31 := rfl
  generalize List.replicate 31 0 = Z at *
  have c2 : lenSl (.ro bor (codeW cs)) = some (Nn cs.length) := by simp [lenSl, codeW_len]
  have n0 : bin Tryd.prog .lss 3 true (I6 s.at_) (.int .i64 0) = some (.bool false) := q_lss_f (by omega)
  have n1 : bin Tryd.prog .geq 3 false (I6 s.at_) (Nn cs.length) = some (.bool false) := q_geq_f (by omega)
  have n2 : bin Tryd.prog .geq 2 false (Nn s.steps) (I6 fuel) = some (.bool false) := q_geq_f (by omega)
  have n3 : bin Tryd.prog .add 2 true (Nn s.steps) (.int .i64 1) = some (Nn (s.steps + 1)) := by
    rw [bin_add, wrap_of_i64 (by omega) (by omega)]; congr 2
  have f0 : fieldAddrV 0 RX = some RX := rfl
  have f1 : fieldAddrV 1 RX = some (.ptr 3 1 0 1) := rfl
  have f2 : fieldAddrV 2 RX = some (.ptr 3 1 0 2) := rfl
  have f33 : fieldAddrV 33 RX = some (.ptr 3 1 0 33) := rfl
  have f34 : fieldAddrV 34 RX = some (.ptr 3 1 0 34) := rfl
  have c3 := rld34 G (bR 46 z) [] s hr
  have c4 := rst34 (bR 46 z) [] s (s.steps + 1) hr
  have c5 := rld33 G (bR 46 z) [] { s with steps := s.steps + 1 } hr
  have ll : s.leaks.length ≤ 999990 := by omega
  have c6 := rapL (bR 46 z) [] { s with steps := s.steps + 1 } (1, s.at_) (by simp only; omega)
  have c7 := rstL (bR 46 z) [] { s with steps := s.steps + 1 } (1, s.at_) hr
  have bl : ∀ a b : Int, buildSt [(0, 1), (1, 1)] [(.int .i64 0), (.int .i64 0)] [(0, I6 a), (1, I6 b)] = some (leakV (a, b)) := fun a b => rfl
  have br : ∀ (a b : Int) H, buildRo 2 1 (.agg [(.int .i64 0), (.int .i64 0)]) [(0, leakV (a, b))] H = some (.ro false [leakV (a, b)], H) := fun a b H => rfl
  have bl1 : buildSt [(0, 1), (1, 1)] [(.int .i64 0), (.int .i64 0)] [(0, (.int .i64 1)), (1, I6 s.at_)] = some (leakV (1, s.at_)) := rfl
  have br1 := br 1 s.at_
  have et : (({ s with steps := s.steps + 1 } : QS).leak 1 s.at_) = s.tick := rfl
  simp only at c5 c6 c7
  rw [et] at c7
  have c8 := wAt bor cs s.at_ h1 h2
  have c9 : ∀ w H, loadV G false 1 (.rp bor (W32 w) 0) H = some (W32 w) := fun w H => rfl
  have okt : s.tick.Ok := ⟨hs.rg, hs.mem, by simp [QS.tick, QS.leak]; omega, hs.big, by simp [QS.tick, QS.leak]; omega⟩
  have tll : s.tick.leaks.length ≤ 999995 := by simp [QS.tick, QS.leak]; omega
  have tc : s.tick.code = 3 := hc
  have tat : s.tick.at_ = s.at_ := rfl
  generalize cs.getD s.at_.toNat 0 = w at *
  obtain ⟨t, ht⟩ : ∃ t, t = s.tick := ⟨_, rfl⟩
  rw [← ht] at c7 okt tll tc tat ⊢
  have tr := okt.rg.len
  have of : ∀ H, pureCall (alembicref17_Of.f G (k + 41)) [W32 w] H = some (ofV (ofF w), H) := fun H => pureCall_of (H := H) (rOf_spec G (k + 1) w w0.1 w0.2) rfl (by unfold ofV; split <;> rfl)
  have bx0 : boxA 57 (.agg [.int .i64 0, .int .i64 0, .int .i64 0, .int .i64 0, .int .i64 0, .int .i64 0]) (hpR (bR 46 z) [] t) = some (.ptr 7 1 0 0, hpR (bR 46 z) (TB ⟨0, 0, 0, 0, 0, 0⟩) t) := rfl
  have s7 : ∀ y : MI, stS (storeV 6 (.ptr 7 1 0 0) y.v (hpR (bR 46 z) (TB ⟨0, 0, 0, 0, 0, 0⟩) t)) = some (.tup [], hpR (bR 46 z) (TB y) t) := fun y => rfl
  have rAll : ∀ (T : AHeap) (q : QS), q.regs.length = 31 → loadV G true 35 RX (hpR (bR 46 z) T q) = some (.agg q.cellsR) := fun T q hq => rldAll G (bR 46 z) T q hq
  have sAll : ∀ (T : AHeap) (q : QS), q.regs.length = 31 → stS (storeV 35 (.ptr 0 1 0 0) (.agg q.cellsR) (hpR (bR 46 z) T q)) = some (.tup [], hpR (bR 46 q.cellsR) T q) := fun T q hq => rstRes T q 46 z _ hz (rcells_len q hq)
  unfold roundR QS.step
  cases ho : ofF w with
  | none =>
    have e3 : ({ t with code := 3 } : QS) = t := by rw [← tc]
    simp only
    rw [if_neg (by simp), e3]
    rw [ho] at of
    unfold ofV at of
    simp only at of
    have s7' := s7 ⟨0, 0, 0, 0, 0, 0⟩
    have z2 : (⟨0, 0, 0, 0, 0, 0⟩ : MI).v = mV 0 0 0 0 0 0 := rfl
    rw [z2] at s7'
    have l1 := rAll (TB ⟨0, 0, 0, 0, 0, 0⟩) t tr
    have l2 := sAll (TB ⟨0, 0, 0, 0, 0, 0⟩) t tr
    clear s7 rAll sAll z2
    refine ⟨TB ⟨0, 0, 0, 0, 0, 0⟩, [.ro bor (codeW cs), I6 fuel, .ptr 0 1 0 0, RX, .ptr 4 1 0 0, I6 s.at_], ?_, rfl⟩
    refine e_id ?_
    refine eC hcut ?_
    unfold xsR
    generalize TB ⟨0, 0, 0, 0, 0, 0⟩ = tb at *
    generalize t.cellsR = tcs at *
    generalize leakV (1, s.at_) = lv at *
    have fx := And.intro f0 <| And.intro f1 <| And.intro f2 <| And.intro f33 <| And.intro f34 <| And.intro c2 <| And.intro n0 <| And.intro n1 <| And.intro c3 <| And.intro n2 <| And.intro n3 <| And.intro c4 <| And.intro c5 <| And.intro bl1 <| And.intro br1 <| And.intro c6 <| And.intro c7 <| And.intro c8 <| And.intro c9 <| And.intro of <| And.intro bx0 <| And.intro s7' <| And.intro l1 <| l2
    refine wkB ?_
    refine e_out ?_; rfl
  | some i =>
    have hri := (of_some ho).1
    have h24 := right24 hri
    have hok := (right_ok hri).2
    have him := imm_small hri
    rw [ho] at of
    unfold ofV at of
    simp only at of ⊢
    have s7' := s7 i
    have a70 : fieldAddrV 0 (.ptr 7 1 0 0) = some (.ptr 7 1 0 0) := rfl
    have a71 : fieldAddrV 1 (.ptr 7 1 0 0) = some (.ptr 7 1 0 1) := rfl
    have a72 : fieldAddrV 2 (.ptr 7 1 0 0) = some (.ptr 7 1 0 2) := rfl
    have a74 : fieldAddrV 4 (.ptr 7 1 0 0) = some (.ptr 7 1 0 4) := rfl
    have a75 : fieldAddrV 5 (.ptr 7 1 0 0) = some (.ptr 7 1 0 5) := rfl
    have l70 := fun l t => t70 G (bR 46 z) i l t
    have l71 := fun l t => t71 G (bR 46 z) i l t
    have l72 := fun l t => t72 G (bR 46 z) i l t
    have l74 := fun l t => t74 G (bR 46 z) i l t
    have l75 := fun l t => t75 G (bR 46 z) i l t
    have l7v := fun l t => t7v G (bR 46 z) i l t
    have pc1 : bin Tryd.prog .add 3 true (I6 s.at_) (.int .i64 1) = some (I6 (s.at_ + 1)) := q_add (by omega) (by omega)
    have g : ∀ j, 0 ≤ j → j ≤ 31 → ∀ H, pureCall (alembicref17_get.f G (k + 41)) [rgV t.regs, I6 j] H = some (Un (getF t.regs j), H) := fun j h0 h1 H => pureCall_of (H := H) (rget_spec G (k + 40) t.regs tr j h0 h1) (by simp [plainL, plainB, plainU]) rfl
    have gn := g i.n hok.n.1 hok.n.2
    have gd_ := g i.d hok.d.1 hok.d.2
    clear g s7
    have atn : t.next.at_ = s.at_ + 1 := by rw [← tat]; rfl
    unfold QS.act
    by_cases t1 : i.op = 18 ∨ i.op = 19
    · rw [if_pos t1]
      have rg := rldRg G (bR 46 z) (TB i) t tr
      have d10 : convInt .u64 (I6 i.imm) = some (Un (u64 i.imm)) := conv_u64 ..
      have d11 : bin Tryd.prog .mul 43 true (.int .u64 8) (Un (u64 i.imm)) = some (Un (8 * u64 i.imm % 18446744073709551616)) := u64_mul Tryd.prog 43 true 8 (u64 i.imm)
      have ea : t.next.addr i = t.addr i := rfl
      have d12 : bin Tryd.prog .add 43 false (Un (getF t.regs i.n)) (Un (8 * u64 i.imm % 18446744073709551616)) = some (Un (t.addr i)) := u64_add ..
      have hal : t.addr i < 18446744073709551616 := by unfold QS.addr; exact Nat.mod_lt _ (by decide)
      unfold QS.touch
      rw [ea]
      generalize t.addr i = ad at *
      have d13 := conv_i64 ad hal
      have x33 := rld33 G (bR 46 z) (TB i) t tr
      have x6 := rapL (bR 46 z) (TB i) t (3, s64 ad) (by omega)
      have x7 := rstL (bR 46 z) (TB i) t (3, s64 ad) tr
      have bl3 : buildSt [(0, 1), (1, 1)] [(.int .i64 0), (.int .i64 0)] [(0, (.int .i64 3)), (1, I6 (s64 ad))] = some (leakV (3, s64 ad)) := rfl
      have br3 := br 3 (s64 ad)
      obtain ⟨t2, ht2⟩ : ∃ t2, t2 = t.leak 3 (s64 ad) := ⟨_, rfl⟩
      simp only at x7
      rw [← ht2] at x7
      have hm1 : t2.mem = t.mem := by rw [ht2]; rfl
      have hr1 : t2.regs = t.regs := by rw [ht2]; rfl
      have tr2 : t2.regs.length = 31 := by rw [hr1]; exact tr
      have d15 := u64_rem8 Tryd.prog 43 true ad
      have d16 := u64_quo8 Tryd.prog 43 true ad hal
      have d17 := rld1 G (bR 46 z) (TB i) t2
      have d18 : lenSl (.sl 2 t2.mem.length 0 t2.mem.length 1) = some (Nn t2.mem.length) := rfl
      have tb := okt.big
      have d19 : convInt .u64 (Nn t2.mem.length) = some (Un t2.mem.length) := by rw [convInt_int, wrap_of_u64 (by omega) (by rw [hm1]; omega)]
      have d20 : bin Tryd.prog .neq 43 true (Un (ad % 8)) (.int .u64 0) = some (.bool (decide (ad % 8 ≠ 0))) := by rw [bin_neq]; congr 2; simp only [decide_eq_decide]; omega
      have d21 : bin Tryd.prog .geq 43 false (Un (ad / 8)) (Un t2.mem.length) = some (.bool (decide (t.mem.length ≤ ad / 8))) := by rw [bin_geq, hm1]; congr 2; simp only [decide_eq_decide]; omega
      have nm : t.next.mem = t.mem := rfl
      have nr : t.next.regs = t.regs := rfl
      by_cases hbad : ad % 8 ≠ 0 ∨ t.mem.length ≤ ad / 8
      · rw [nm, if_pos hbad]
        simp only [Bool.false_eq_true, if_false]
        have e4 : ({ t.next.leak 3 (s64 ad) with code := 3 } : QS) = { t2 with at_ := s.at_ + 1 } := by
          rw [ht2, ← tc, ← tat]; rfl
        rw [e4]
        have l1 := rAll (TB i) t2 tr2
        have l2 := sAll (TB i) t2 tr2
        have e5 : ({ t2 with at_ := s.at_ + 1 } : QS).cellsR = t2.cellsR := rfl
        rw [e5]
        clear ht2 e4 e5 ea rAll sAll hm1 hr1 atn
        refine ⟨TB i, [.ro bor (codeW cs), I6 fuel, .ptr 0 1 0 0, RX, .ptr 4 1 0 0, I6 s.at_], ?_, rfl⟩
        show _ = some (Ex.ret, _, hpR (bR 46 t2.cellsR) (TB i) t2)
        refine e_id ?_
        refine eC hcut ?_
        unfold xsR
        generalize t2.cellsR = tcs at *
        generalize leakV (1, s.at_) = lv at *
        generalize leakV (3, s64 ad) = lv3 at *
        generalize 8 * u64 i.imm % 18446744073709551616 = u8i at *
        by_cases hx : ad % 8 ≠ 0
        · rw [decide_eq_true hx] at d20
          have fx := And.intro f0 <| And.intro f1 <| And.intro f2 <| And.intro f33 <| And.intro f34 <| And.intro c2 <| And.intro n0 <| And.intro n1 <| And.intro c3 <| And.intro n2 <| And.intro n3 <| And.intro c4 <| And.intro c5 <| And.intro bl1 <| And.intro br1 <| And.intro c6 <| And.intro c7 <| And.intro c8 <| And.intro c9 <| And.intro of <| And.intro bx0 <| And.intro s7' <| And.intro a70 <| And.intro a71 <| And.intro a72 <| And.intro a74 <| And.intro a75 <| And.intro l70 <| And.intro pc1 <| And.intro l72 <| And.intro l75 <| And.intro rg <| And.intro gn <| And.intro d10 <| And.intro d11 <| And.intro d12 <| And.intro d13 <| And.intro x33 <| And.intro x6 <| And.intro x7 <| And.intro bl3 <| And.intro br3 <| And.intro d15 <| And.intro d16 <| And.intro d17 <| And.intro d18 <| And.intro d19 <| And.intro d20 <| And.intro d21 <| And.intro l1 <| l2
          refine wkA ?_
          all_goals first | omega | (refine e_out ?_; rfl)
        · rw [decide_eq_false hx] at d20
          rw [decide_eq_true (by rcases hbad with h | h; exact absurd h hx; exact h)] at d21
          have fx := And.intro f0 <| And.intro f1 <| And.intro f2 <| And.intro f33 <| And.intro f34 <| And.intro c2 <| And.intro n0 <| And.intro n1 <| And.intro c3 <| And.intro n2 <| And.intro n3 <| And.intro c4 <| And.intro c5 <| And.intro bl1 <| And.intro br1 <| And.intro c6 <| And.intro c7 <| And.intro c8 <| And.intro c9 <| And.intro of <| And.intro bx0 <| And.intro s7' <| And.intro a70 <| And.intro a71 <| And.intro a72 <| And.intro a74 <| And.intro a75 <| And.intro l70 <| And.intro pc1 <| And.intro l72 <| And.intro l75 <| And.intro rg <| And.intro gn <| And.intro d10 <| And.intro d11 <| And.intro d12 <| And.intro d13 <| And.intro x33 <| And.intro x6 <| And.intro x7 <| And.intro bl3 <| And.intro br3 <| And.intro d15 <| And.intro d16 <| And.intro d17 <| And.intro d18 <| And.intro d19 <| And.intro d20 <| And.intro d21 <| And.intro l1 <| l2
          refine wkA ?_
          all_goals first | omega | (refine e_out ?_; rfl)
      rw [nm, if_neg hbad]
      have hb1 : ¬ (ad % 8 ≠ 0) := fun h => hbad (.inl h)
      have hb2 : ¬ (t.mem.length ≤ ad / 8) := fun h => hbad (.inr h)
      rw [decide_eq_false hb1] at d20
      rw [decide_eq_false hb2] at d21
      have d37 := rldMem t2 (ad / 8)
      rw [if_pos (by rw [hm1]; omega)] at d37
      have rg2 := rldRg G (bR 46 z) (TB i) t2 tr2
      rw [hr1] at rg2
      by_cases h18 : i.op = 18
      · rw [if_pos h18]
        simp only [if_true]
        have d38 := rldM G (bR 46 z) (TB i) t2 (ad / 8) (by rw [hm1]; omega)
        have em : t2.mem.getD (ad / 8) 0 = t.mem.getD (ad / 8) 0 := by rw [hm1]
        rw [em] at d38
        have st : ∀ H, pureCall (alembicref17_set.f G (k + 41)) [rgV t.regs, I6 i.d, Un (t.mem.getD (ad / 8) 0)] H = some (rgV (setF t.regs i.d (t.mem.getD (ad / 8) 0)), H) := fun H => pureCall_of (H := H) (rset_spec G (k + 40) t.regs tr i.d hok.d.1 hok.d.2 _) (by simp [plainL, plainB, plainU]) (by simp [cleanB, cleanU])
        have d40 := rstRg (bR 46 z) (TB i) t2 (setF t.regs i.d (t.mem.getD (ad / 8) 0)) (setF_len _ tr _ _) tr2
        refine ⟨TB i, ?_⟩
        have e6 : hpR (bR 46 z) (TB i) { t.next.leak 3 (s64 ad) with regs := setF t.next.regs i.d (t.mem.getD (ad / 8) 0) } = hpR (bR 46 z) (TB i) { t2 with regs := setF t.regs i.d (t.mem.getD (ad / 8) 0) } := by
          rw [ht2]; rfl
        have e7 : (t.next.leak 3 (s64 ad)).at_ = s.at_ + 1 := atn
        rw [e6, e7]
        clear ht2 e6 e7 ea rAll sAll hm1 hr1 atn em
        refine e_id ?_
        refine eC hcut ?_
        unfold xsR
        generalize leakV (1, s.at_) = lv at *
        generalize leakV (3, s64 ad) = lv3 at *
        generalize 8 * u64 i.imm % 18446744073709551616 = u8i at *
        generalize t.mem.getD (ad / 8) 0 = mv at *
        generalize setF t.regs i.d mv = rq at *
        have fx := And.intro f0 <| And.intro f1 <| And.intro f2 <| And.intro f33 <| And.intro f34 <| And.intro c2 <| And.intro n0 <| And.intro n1 <| And.intro c3 <| And.intro n2 <| And.intro n3 <| And.intro c4 <| And.intro c5 <| And.intro bl1 <| And.intro br1 <| And.intro c6 <| And.intro c7 <| And.intro c8 <| And.intro c9 <| And.intro of <| And.intro bx0 <| And.intro s7' <| And.intro a70 <| And.intro a71 <| And.intro a72 <| And.intro a74 <| And.intro a75 <| And.intro l70 <| And.intro pc1 <| And.intro l71 <| And.intro l72 <| And.intro l75 <| And.intro rg <| And.intro rg2 <| And.intro gn <| And.intro d10 <| And.intro d11 <| And.intro d12 <| And.intro d13 <| And.intro x33 <| And.intro x6 <| And.intro x7 <| And.intro bl3 <| And.intro br3 <| And.intro d15 <| And.intro d16 <| And.intro d17 <| And.intro d18 <| And.intro d19 <| And.intro d20 <| And.intro d21 <| And.intro d37 <| And.intro d38 <| And.intro st <| d40
        refine wkA ?_
        all_goals first | omega | (refine e_out ?_; rfl)
      · rw [if_neg h18]
        simp only [if_true]
        have d40 := rstM (bR 46 z) (TB i) t2 (ad / 8) (getF t.regs i.d) (by rw [hm1]; omega)
        refine ⟨TB i, ?_⟩
        have e6 : hpR (bR 46 z) (TB i) { t.next.leak 3 (s64 ad) with mem := t.mem.set (ad / 8) (getF t.next.regs i.d) } = hpR (bR 46 z) (TB i) { t2 with mem := t2.mem.set (ad / 8) (getF t.regs i.d) } := by
          rw [ht2]; rfl
        have e7 : (t.next.leak 3 (s64 ad)).at_ = s.at_ + 1 := atn
        rw [e6, e7]
        clear ht2 e6 e7 ea rAll sAll hm1 hr1 atn
        refine e_id ?_
        refine eC hcut ?_
        unfold xsR
        generalize leakV (1, s.at_) = lv at *
        generalize leakV (3, s64 ad) = lv3 at *
        generalize 8 * u64 i.imm % 18446744073709551616 = u8i at *
        generalize getF t.regs i.d = rd at *
        have fx := And.intro f0 <| And.intro f1 <| And.intro f2 <| And.intro f33 <| And.intro f34 <| And.intro c2 <| And.intro n0 <| And.intro n1 <| And.intro c3 <| And.intro n2 <| And.intro n3 <| And.intro c4 <| And.intro c5 <| And.intro bl1 <| And.intro br1 <| And.intro c6 <| And.intro c7 <| And.intro c8 <| And.intro c9 <| And.intro of <| And.intro bx0 <| And.intro s7' <| And.intro a70 <| And.intro a71 <| And.intro a72 <| And.intro a74 <| And.intro a75 <| And.intro l70 <| And.intro pc1 <| And.intro l71 <| And.intro l72 <| And.intro l75 <| And.intro rg <| And.intro rg2 <| And.intro gn <| And.intro gd_ <| And.intro d10 <| And.intro d11 <| And.intro d12 <| And.intro d13 <| And.intro x33 <| And.intro x6 <| And.intro x7 <| And.intro bl3 <| And.intro br3 <| And.intro d15 <| And.intro d16 <| And.intro d17 <| And.intro d18 <| And.intro d19 <| And.intro d20 <| And.intro d21 <| And.intro d37 <| d40
        refine wkA ?_
        all_goals first | omega | (refine e_out ?_; rfl)
    rw [if_neg t1]
    by_cases t2 : i.op = 20 ∨ i.op = 21 ∨ i.op = 22 ∨ i.op = 23
    · rw [if_pos t2]
      simp only [if_true]
      unfold QS.branch
      have jp : bin Tryd.prog .add 3 false (I6 s.at_) (I6 i.imm) = some (I6 (s.at_ + i.imm)) := q_add (by omega) (by omega)
      have eat : t.next.at_ + (i.imm - 1) = s.at_ + i.imm := by rw [atn]; omega
      by_cases h20 : i.op = 20
      · rw [if_pos h20]
        refine ⟨TB i, ?_⟩
        simp only
        rw [eat]
        show _ = lp _ (hpR (bR 46 z) (TB i) t)
        clear rAll sAll ht
        refine e_id ?_
        refine eC hcut ?_
        unfold xsR
        generalize leakV (1, s.at_) = lv at *
        generalize s.at_ + i.imm = at2 at *
        have fx := And.intro f0 <| And.intro f1 <| And.intro f2 <| And.intro f33 <| And.intro f34 <| And.intro c2 <| And.intro n0 <| And.intro n1 <| And.intro c3 <| And.intro n2 <| And.intro n3 <| And.intro c4 <| And.intro c5 <| And.intro bl1 <| And.intro br1 <| And.intro c6 <| And.intro c7 <| And.intro c8 <| And.intro c9 <| And.intro of <| And.intro bx0 <| And.intro s7' <| And.intro a70 <| And.intro a71 <| And.intro a72 <| And.intro a74 <| And.intro a75 <| And.intro l70 <| And.intro pc1 <| And.intro l75 <| jp
        refine wkA ?_
        all_goals first | omega | (refine e_out ?_; rfl)
      rw [if_neg h20]
      have fl := rldFl G (bR 46 z) (TB i) t
      have rg := rldRg G (bR 46 z) (TB i) t tr
      have hh : ∀ H, pureCall (alembicref17_Holds.f G (k + 41)) [I6 i.a, t.flags.a] H = _ := fun H => pureCall_of (H := H) (rholds_spec G (k + 40) i.a t.flags) (by simp [plainL, plainB, FL.a]) rfl
      have e1 : bin Tryd.prog .eql 43 true (Un (getF t.regs i.d)) (.int .u64 0) = some (.bool (decide (getF t.regs i.d = 0))) := by rw [bin_eql]; congr 2; simp only [decide_eq_decide]; omega
      have e22 : bin Tryd.prog .eql 3 true (I6 i.op) (.int .i64 22) = some (.bool (decide (i.op = 22))) := bin_eql ..
      have eb : bin Tryd.prog .eql 4 false (.bool (decide (getF t.regs i.d = 0))) (.bool (decide (i.op = 22))) = some (.bool (decide (getF t.regs i.d = 0) == decide (i.op = 22))) := bin_eql_bool Tryd.underlying4 ..
      have n21 : bin Tryd.prog .neq 3 true (I6 i.op) (.int .i64 21) = some (.bool (decide (i.op ≠ 21))) := bin_neq ..
      have gg : t.next.goes i = if i.op = 21 then holdsF i.a t.flags else (decide (getF t.regs i.d = 0) == decide (i.op = 22)) := by
        unfold QS.goes
        have q1 : t.next.flags = t.flags := rfl
        have q2 : t.next.regs = t.regs := rfl
        rw [q1, q2]
        by_cases h21 : i.op = 21
        · rw [if_pos h21, if_pos h21]
        rw [if_neg h21, if_neg h21]
        by_cases h22 : i.op = 22
        · rw [if_pos h22, decide_eq_true h22]; simp
        · rw [if_neg h22, decide_eq_false h22]; by_cases h : getF t.regs i.d = 0 <;> simp [h]
      have x33 := rld33 G (bR 46 z) (TB i) t tr
      have one : ∀ b H, pureCall (alembicref17_one.f G (k + 41)) [.bool b] H = some (I6 (if b = true then 1 else 0), H) := fun b H => pureCall_of (H := H) (rone_spec G (k + 40) b) rfl rfl
      cases hg : t.next.goes i
      · have x6 := rapL (bR 46 z) (TB i) t (2, 0) (by omega)
        have x7 := rstL (bR 46 z) (TB i) t (2, 0) tr
        have bl3 : buildSt [(0, 1), (1, 1)] [(.int .i64 0), (.int .i64 0)] [(0, (.int .i64 2)), (1, .int .i64 0)] = some (leakV (2, 0)) := rfl
        have br3 := br 2 0
        have ob : ∀ H, pureCall (alembicref17_one.f G (k + 41)) [.bool false] H = some (.int .i64 0, H) := fun H => one false H
        simp only at x7
        simp only [Bool.false_eq_true, if_false]
        rw [hg] at gg
        refine ⟨TB i, ?_⟩
        have ez : (t.next.leak 2 0).at_ = s.at_ + 1 := atn
        rw [ez]
        show _ = lp _ (hpR (bR 46 z) (TB i) (t.leak 2 0))
        clear rAll sAll ht one br bl hg
        refine e_id ?_
        refine eC hcut ?_
        unfold xsR
        generalize leakV (1, s.at_) = lv at *
        generalize t.leak 2 0 = tl at *
        generalize leakV (2, 0) = lv2 at *
        skip
        generalize holdsF i.a t.flags = hhh at *
        generalize decide (getF t.regs i.d = 0) = gz1 at *
        generalize getF t.regs i.d = rd at *
        by_cases h21 : i.op = 21
        · rw [if_pos h21] at gg
          rw [← gg] at hh
          rw [decide_eq_false (fun h => h h21)] at n21
          have fx := And.intro f0 <| And.intro f1 <| And.intro f2 <| And.intro f33 <| And.intro f34 <| And.intro c2 <| And.intro n0 <| And.intro n1 <| And.intro c3 <| And.intro n2 <| And.intro n3 <| And.intro c4 <| And.intro c5 <| And.intro bl1 <| And.intro br1 <| And.intro c6 <| And.intro c7 <| And.intro c8 <| And.intro c9 <| And.intro of <| And.intro bx0 <| And.intro s7' <| And.intro a70 <| And.intro a71 <| And.intro a72 <| And.intro a74 <| And.intro a75 <| And.intro l70 <| And.intro pc1 <| And.intro l71 <| And.intro l74 <| And.intro l75 <| And.intro fl <| And.intro rg <| And.intro hh <| And.intro gd_ <| And.intro e1 <| And.intro e22 <| And.intro eb <| And.intro n21 <| And.intro x33 <| And.intro ob <| And.intro x6 <| And.intro x7 <| And.intro bl3 <| And.intro br3 <| jp
          refine wkA ?_
          all_goals first | omega | (refine e_out ?_; rfl)
        · rw [if_neg h21] at gg
          rw [← gg] at eb
          rw [decide_eq_true h21] at n21
          by_cases h22 : i.op = 22
          · rw [decide_eq_true h22] at e22 eb
            have fx := And.intro f0 <| And.intro f1 <| And.intro f2 <| And.intro f33 <| And.intro f34 <| And.intro c2 <| And.intro n0 <| And.intro n1 <| And.intro c3 <| And.intro n2 <| And.intro n3 <| And.intro c4 <| And.intro c5 <| And.intro bl1 <| And.intro br1 <| And.intro c6 <| And.intro c7 <| And.intro c8 <| And.intro c9 <| And.intro of <| And.intro bx0 <| And.intro s7' <| And.intro a70 <| And.intro a71 <| And.intro a72 <| And.intro a74 <| And.intro a75 <| And.intro l70 <| And.intro pc1 <| And.intro l71 <| And.intro l74 <| And.intro l75 <| And.intro fl <| And.intro rg <| And.intro hh <| And.intro gd_ <| And.intro e1 <| And.intro e22 <| And.intro eb <| And.intro n21 <| And.intro x33 <| And.intro ob <| And.intro x6 <| And.intro x7 <| And.intro bl3 <| And.intro br3 <| jp
            refine wkA ?_
            all_goals first | omega | (refine e_out ?_; rfl)
          · rw [decide_eq_false h22] at e22 eb
            have fx := And.intro f0 <| And.intro f1 <| And.intro f2 <| And.intro f33 <| And.intro f34 <| And.intro c2 <| And.intro n0 <| And.intro n1 <| And.intro c3 <| And.intro n2 <| And.intro n3 <| And.intro c4 <| And.intro c5 <| And.intro bl1 <| And.intro br1 <| And.intro c6 <| And.intro c7 <| And.intro c8 <| And.intro c9 <| And.intro of <| And.intro bx0 <| And.intro s7' <| And.intro a70 <| And.intro a71 <| And.intro a72 <| And.intro a74 <| And.intro a75 <| And.intro l70 <| And.intro pc1 <| And.intro l71 <| And.intro l74 <| And.intro l75 <| And.intro fl <| And.intro rg <| And.intro hh <| And.intro gd_ <| And.intro e1 <| And.intro e22 <| And.intro eb <| And.intro n21 <| And.intro x33 <| And.intro ob <| And.intro x6 <| And.intro x7 <| And.intro bl3 <| And.intro br3 <| jp
            refine wkA ?_
            all_goals first | omega | (refine e_out ?_; rfl)
      · have x6 := rapL (bR 46 z) (TB i) t (2, 1) (by omega)
        have x7 := rstL (bR 46 z) (TB i) t (2, 1) tr
        have bl3 : buildSt [(0, 1), (1, 1)] [(.int .i64 0), (.int .i64 0)] [(0, (.int .i64 2)), (1, .int .i64 1)] = some (leakV (2, 1)) := rfl
        have br3 := br 2 1
        have ob : ∀ H, pureCall (alembicref17_one.f G (k + 41)) [.bool true] H = some (.int .i64 1, H) := fun H => one true H
        simp only at x7
        simp only [if_true]
        rw [hg] at gg
        refine ⟨TB i, ?_⟩
        rw [eat]
        show _ = lp _ (hpR (bR 46 z) (TB i) (t.leak 2 1))
        skip
        clear rAll sAll ht one br bl hg
        refine e_id ?_
        refine eC hcut ?_
        unfold xsR
        generalize leakV (1, s.at_) = lv at *
        generalize t.leak 2 1 = tl at *
        generalize leakV (2, 1) = lv2 at *
        generalize s.at_ + i.imm = at2 at *
        generalize holdsF i.a t.flags = hhh at *
        generalize decide (getF t.regs i.d = 0) = gz1 at *
        generalize getF t.regs i.d = rd at *
        by_cases h21 : i.op = 21
        · rw [if_pos h21] at gg
          rw [← gg] at hh
          rw [decide_eq_false (fun h => h h21)] at n21
          have fx := And.intro f0 <| And.intro f1 <| And.intro f2 <| And.intro f33 <| And.intro f34 <| And.intro c2 <| And.intro n0 <| And.intro n1 <| And.intro c3 <| And.intro n2 <| And.intro n3 <| And.intro c4 <| And.intro c5 <| And.intro bl1 <| And.intro br1 <| And.intro c6 <| And.intro c7 <| And.intro c8 <| And.intro c9 <| And.intro of <| And.intro bx0 <| And.intro s7' <| And.intro a70 <| And.intro a71 <| And.intro a72 <| And.intro a74 <| And.intro a75 <| And.intro l70 <| And.intro pc1 <| And.intro l71 <| And.intro l74 <| And.intro l75 <| And.intro fl <| And.intro rg <| And.intro hh <| And.intro gd_ <| And.intro e1 <| And.intro e22 <| And.intro eb <| And.intro n21 <| And.intro x33 <| And.intro ob <| And.intro x6 <| And.intro x7 <| And.intro bl3 <| And.intro br3 <| jp
          refine wkA ?_
          all_goals first | omega | (refine e_out ?_; rfl)
        · rw [if_neg h21] at gg
          rw [← gg] at eb
          rw [decide_eq_true h21] at n21
          by_cases h22 : i.op = 22
          · rw [decide_eq_true h22] at e22 eb
            have fx := And.intro f0 <| And.intro f1 <| And.intro f2 <| And.intro f33 <| And.intro f34 <| And.intro c2 <| And.intro n0 <| And.intro n1 <| And.intro c3 <| And.intro n2 <| And.intro n3 <| And.intro c4 <| And.intro c5 <| And.intro bl1 <| And.intro br1 <| And.intro c6 <| And.intro c7 <| And.intro c8 <| And.intro c9 <| And.intro of <| And.intro bx0 <| And.intro s7' <| And.intro a70 <| And.intro a71 <| And.intro a72 <| And.intro a74 <| And.intro a75 <| And.intro l70 <| And.intro pc1 <| And.intro l71 <| And.intro l74 <| And.intro l75 <| And.intro fl <| And.intro rg <| And.intro hh <| And.intro gd_ <| And.intro e1 <| And.intro e22 <| And.intro eb <| And.intro n21 <| And.intro x33 <| And.intro ob <| And.intro x6 <| And.intro x7 <| And.intro bl3 <| And.intro br3 <| jp
            refine wkA ?_
            all_goals first | omega | (refine e_out ?_; rfl)
          · rw [decide_eq_false h22] at e22 eb
            have fx := And.intro f0 <| And.intro f1 <| And.intro f2 <| And.intro f33 <| And.intro f34 <| And.intro c2 <| And.intro n0 <| And.intro n1 <| And.intro c3 <| And.intro n2 <| And.intro n3 <| And.intro c4 <| And.intro c5 <| And.intro bl1 <| And.intro br1 <| And.intro c6 <| And.intro c7 <| And.intro c8 <| And.intro c9 <| And.intro of <| And.intro bx0 <| And.intro s7' <| And.intro a70 <| And.intro a71 <| And.intro a72 <| And.intro a74 <| And.intro a75 <| And.intro l70 <| And.intro pc1 <| And.intro l71 <| And.intro l74 <| And.intro l75 <| And.intro fl <| And.intro rg <| And.intro hh <| And.intro gd_ <| And.intro e1 <| And.intro e22 <| And.intro eb <| And.intro n21 <| And.intro x33 <| And.intro ob <| And.intro x6 <| And.intro x7 <| And.intro bl3 <| And.intro br3 <| jp
            refine wkA ?_
            all_goals first | omega | (refine e_out ?_; rfl)
    rw [if_neg t2]
    by_cases t3 : i.op = 24
    · rw [if_pos t3]
      simp only [Bool.false_eq_true, if_false]
      by_cases t4 : i.imm ≤ 2
      · rw [if_pos t4]
        have q4 : bin Tryd.prog .leq 3 true (I6 i.imm) (.int .i64 2) = some (.bool true) := q_leq_t t4
        have x0 := rst0 (bR 46 z) (TB i) t i.imm tr
        have l1 := rAll (TB i) { t with code := i.imm } tr
        have l2 := sAll (TB i) { t with code := i.imm } tr
        refine ⟨TB i, [.ro bor (codeW cs), I6 fuel, .ptr 0 1 0 0, RX, .ptr 4 1 0 0, I6 s.at_], ?_, rfl⟩
        show _ = some (Ex.ret, _, hpR (bR 46 (QS.cellsR { t with code := i.imm })) (TB i) { t with code := i.imm })
        clear rAll sAll ht br bl
        refine e_id ?_
        refine eC hcut ?_
        unfold xsR
        generalize leakV (1, s.at_) = lv at *
        generalize (QS.cellsR { t with code := i.imm }) = tcs at *
        have fx := And.intro f0 <| And.intro f1 <| And.intro f2 <| And.intro f33 <| And.intro f34 <| And.intro c2 <| And.intro n0 <| And.intro n1 <| And.intro c3 <| And.intro n2 <| And.intro n3 <| And.intro c4 <| And.intro c5 <| And.intro bl1 <| And.intro br1 <| And.intro c6 <| And.intro c7 <| And.intro c8 <| And.intro c9 <| And.intro of <| And.intro bx0 <| And.intro s7' <| And.intro a70 <| And.intro a71 <| And.intro a72 <| And.intro a74 <| And.intro a75 <| And.intro l70 <| And.intro pc1 <| And.intro l75 <| And.intro q4 <| And.intro x0 <| And.intro l1 <| l2
        refine wkA ?_
        all_goals first | omega | (refine e_out ?_; rfl)
      · rw [if_neg t4]
        have q4 : bin Tryd.prog .leq 3 true (I6 i.imm) (.int .i64 2) = some (.bool false) := q_leq_f (by omega)
        have l1 := rAll (TB i) t tr
        have l2 := sAll (TB i) t tr
        have e5 : ({ t.next with code := 3 } : QS) = { t with at_ := s.at_ + 1 } := by rw [← tc, ← tat]; rfl
        rw [e5]
        refine ⟨TB i, [.ro bor (codeW cs), I6 fuel, .ptr 0 1 0 0, RX, .ptr 4 1 0 0, I6 s.at_], ?_, rfl⟩
        show _ = some (Ex.ret, _, hpR (bR 46 t.cellsR) (TB i) t)
        clear rAll sAll ht br bl e5
        refine e_id ?_
        refine eC hcut ?_
        unfold xsR
        generalize leakV (1, s.at_) = lv at *
        generalize t.cellsR = tcs at *
        have fx := And.intro f0 <| And.intro f1 <| And.intro f2 <| And.intro f33 <| And.intro f34 <| And.intro c2 <| And.intro n0 <| And.intro n1 <| And.intro c3 <| And.intro n2 <| And.intro n3 <| And.intro c4 <| And.intro c5 <| And.intro bl1 <| And.intro br1 <| And.intro c6 <| And.intro c7 <| And.intro c8 <| And.intro c9 <| And.intro of <| And.intro bx0 <| And.intro s7' <| And.intro a70 <| And.intro a71 <| And.intro a72 <| And.intro a74 <| And.intro a75 <| And.intro l70 <| And.intro pc1 <| And.intro l75 <| And.intro q4 <| And.intro l1 <| l2
        refine wkA ?_
        all_goals first | omega | (refine e_out ?_; rfl)
    rw [if_neg t3]
    simp only [if_true]
    have h17 : i.op ≤ 17 := by omega
    have rg := rldRg G (bR 46 z) (TB i) t tr
    have fl := rldFl G (bR 46 z) (TB i) t
    have pl : plainL [i.v, rgV t.regs, t.flags.a] = true := by simp [plainL, plainB, plainU, MI.v, FL.a]
    have cl : cleanB (oneV (oneF i t.regs t.flags)) = true := by simp [cleanB, cleanL, cleanU, FL.a]
    have on : ∀ H, pureCall (alembicref17_One.f G (k + 41)) [i.v, rgV t.regs, t.flags.a] H = _ := fun H => pureCall_of (H := H) (rOne_spec G (k + 34) i t.regs okt.rg t.flags) pl cl
    have eo : oneF i t.regs t.flags = ((doesF i t.regs t.flags).1, (doesF i t.regs t.flags).2, true) := by
      unfold oneF; rw [if_pos ⟨hri, h17⟩]
    have hq := (doesF_ok i okt.rg t.flags).len
    have nr : t.next.regs = t.regs := rfl
    have nf : t.next.flags = t.flags := rfl
    rw [nr, nf]
    rw [eo] at on
    unfold oneV at on
    simp only at on
    generalize doesF i t.regs t.flags = dd at *
    obtain ⟨q, f⟩ := dd
    simp only at hq on ⊢
    have b44 : boxA 44 (rgV Z) (hpR (bR 46 z) (TB i) t) = some (.ptr 8 1 0 0, hpR (bR 46 z) [⟨57, 6, [i.v]⟩, ⟨44, 31, [rgV Z]⟩] t) := boxRg Z hZ _
    have b53 : boxA 53 (.agg [.bool false, .bool false, .bool false, .bool false]) (hpR (bR 46 z) [⟨57, 6, [i.v]⟩, ⟨44, 31, [rgV Z]⟩] t) = some (.ptr 9 1 0 0, hpR (bR 46 z) [⟨57, 6, [i.v]⟩, ⟨44, 31, [rgV Z]⟩, ⟨53, 4, [f00.a]⟩] t) := rfl
    have s44 : stS (storeV 31 (.ptr 8 1 0 0) (rgV q) (hpR (bR 46 z) [⟨57, 6, [i.v]⟩, ⟨44, 31, [rgV Z]⟩, ⟨53, 4, [f00.a]⟩] t)) = some (.tup [], hpR (bR 46 z) [⟨57, 6, [i.v]⟩, ⟨44, 31, [rgV q]⟩, ⟨53, 4, [f00.a]⟩] t) := stRgA hq hZ rfl
    have s53 : stS (storeV 4 (.ptr 9 1 0 0) f.a (hpR (bR 46 z) [⟨57, 6, [i.v]⟩, ⟨44, 31, [rgV q]⟩, ⟨53, 4, [f00.a]⟩] t)) = some (.tup [], hpR (bR 46 z) [⟨57, 6, [i.v]⟩, ⟨44, 31, [rgV q]⟩, ⟨53, 4, [f.a]⟩] t) := rfl
    have l44 : loadV G true 31 (.ptr 8 1 0 0) (hpR (bR 46 z) [⟨57, 6, [i.v]⟩, ⟨44, 31, [rgV q]⟩, ⟨53, 4, [f.a]⟩] t) = some (rgV q) := ldRg G hq rfl
    have w44 := rstRg (bR 46 z) [⟨57, 6, [i.v]⟩, ⟨44, 31, [rgV q]⟩, ⟨53, 4, [f.a]⟩] t q hq tr
    have l53 : loadV G true 4 (.ptr 9 1 0 0) (hpR (bR 46 z) [⟨57, 6, [i.v]⟩, ⟨44, 31, [rgV q]⟩, ⟨53, 4, [f.a]⟩] { t with regs := q }) = some f.a := rfl
    have w53 := rstFl (bR 46 z) [⟨57, 6, [i.v]⟩, ⟨44, 31, [rgV q]⟩, ⟨53, 4, [f.a]⟩] { t with regs := q } f
    refine ⟨[⟨57, 6, [i.v]⟩, ⟨44, 31, [rgV q]⟩, ⟨53, 4, [f.a]⟩], ?_⟩
    show _ = lp (xsR fuel bor cs t.next.at_) (hpR (bR 46 z) [⟨57, 6, [i.v]⟩, ⟨44, 31, [rgV q]⟩, ⟨53, 4, [f.a]⟩] { t with regs := q, flags := f })
    rw [atn]
    clear rAll sAll ht br bl nr nf eo
    refine e_id ?_
    refine eC hcut ?_
    unfold xsR
    generalize leakV (1, s.at_) = lv at *
    have fx := And.intro f0 <| And.intro f1 <| And.intro f2 <| And.intro f33 <| And.intro f34 <| And.intro c2 <| And.intro n0 <| And.intro n1 <| And.intro c3 <| And.intro n2 <| And.intro n3 <| And.intro c4 <| And.intro c5 <| And.intro bl1 <| And.intro br1 <| And.intro c6 <| And.intro c7 <| And.intro c8 <| And.intro c9 <| And.intro of <| And.intro bx0 <| And.intro s7' <| And.intro a70 <| And.intro a71 <| And.intro a72 <| And.intro a74 <| And.intro a75 <| And.intro l70 <| And.intro pc1 <| And.intro l7v <| And.intro rg <| And.intro fl <| And.intro on <| And.intro b44 <| And.intro b53 <| And.intro s44 <| And.intro s53 <| And.intro l44 <| And.intro w44 <| And.intro l53 <| w53
    refine wkA ?_
    all_goals first | omega | (refine e_out ?_; rfl)
end
end Go.Proofs.YtdfglgnflldkpaaDoor.Mir
namespace Go.Proofs.YtdfglgnflldkpaaDoor.Mir
open Go
set_option linter.unusedVariables false
set_option linter.unusedSimpArgs false
set_option maxHeartbeats 8000000
set_option maxRecDepth 20000
theorem step_on {s s' : QS} {w : Int} (h : s.step w = (s', true)) : s'.code = s.code := by
  unfold QS.step at h
  cases ho : ofF w with
  | none => rw [ho] at h; simp at h
  | some i =>
    rw [ho] at h
    simp only at h
    unfold QS.act at h
    by_cases h1 : i.op = 18 ∨ i.op = 19
    · rw [if_pos h1] at h
      unfold QS.touch at h
      generalize s.next.addr i = ad at h
      by_cases h2 : ad % 8 ≠ 0 ∨ s.next.mem.length ≤ ad / 8
      · simp only [if_pos h2] at h; simp at h
      · simp only [if_neg h2] at h
        by_cases h3 : i.op = 18
        · simp only [if_pos h3] at h; simp only [Prod.mk.injEq] at h; rw [← h.1]; rfl
        · simp only [if_neg h3] at h; simp only [Prod.mk.injEq] at h; rw [← h.1]; rfl
    rw [if_neg h1] at h
    by_cases h2 : i.op = 20 ∨ i.op = 21 ∨ i.op = 22 ∨ i.op = 23
    · rw [if_pos h2] at h
      simp only [Prod.mk.injEq] at h
      rw [← h.1]
      unfold QS.branch
      by_cases h3 : i.op = 20
      · rw [if_pos h3]; rfl
      · rw [if_neg h3]
        cases s.next.goes i <;> rfl
    rw [if_neg h2] at h
    by_cases h3 : i.op = 24
    · rw [if_pos h3] at h; simp at h
    · rw [if_neg h3] at h
      simp only [Prod.mk.injEq] at h
      rw [← h.1]; rfl
section
variable (G : Globs) (k : Nat) (self : Den) (z : List AV) (hz : z.length = 35) (hzb : belowL 7 z = true) (bor : Bool) (cs : List Int) (fuel : Int)
include hz hzb in
theorem rrun_loop (hf : fuel ≤ 99999) (hcl : cs.length ≤ 100000) (hcs : ∀ w ∈ cs, 0 ≤ w ∧ w < 4294967296) : ∀ (f : Nat) (T0 : AHeap) (s s' : QS), runQ cs fuel f s = some s' → s.Ok → s.code = 3 → (s.steps : Int) ≤ fuel →
    s'.regs.length = 31 ∧ ∃ T xs, loopN (alembicref17_RunMach.l4 G (k + 41) 7 self) f (xsR fuel bor cs s.at_) (hpR (bR 46 z) T0 s) = some (.ret, xs, hpR (bR 46 s'.cellsR) T s') ∧ nth xs 2 = .ptr 0 1 0 0
  | 0, T0, s, s', h, _, _, _ => by simp [runQ] at h
  | f + 1, T0, s, s', h, hs, hc, hst => by
    have few := hs.few
    have lks := hs.leaks
    have hr := hs.rg.len
    have hb : belowL 7 (bR 46 z).elems = true := by simp [bR, belowL, belowB, hzb]
    have hcut := rcut7 (bR 46 z) T0 s hb _ (xsR_below fuel bor cs s.at_)
    rw [loopN_succ]
    simp only [runQ] at h
    by_cases h1 : s.at_ < 0 ∨ (cs.length : Int) ≤ s.at_
    · rw [if_pos h1] at h
      simp only [Option.some.injEq] at h
      have e3 : ({ s with code := 3 } : QS) = s := by rw [← hc]
      rw [e3] at h
      subst h
      have c2 : lenSl (.ro bor (codeW cs)) = some (Nn cs.length) := by simp [lenSl, codeW_len]
      have l1 := rldAll G (bR 46 z) [] s hr
      have l2 := rstRes [] s 46 z _ hz (rcells_len s hr)
      refine ⟨hr, [], [.ro bor (codeW cs), I6 fuel, .ptr 0 1 0 0, RX, .ptr 4 1 0 0, I6 s.at_], ?_, rfl⟩
      rw [alembicref17_RunMach.l4]
      refine e_id ?_
      refine eC hcut ?_
      unfold xsR
      generalize s.cellsR = tcs at *
      have fx := And.intro c2 <| And.intro l1 <| l2
      refine wkA ?_
      all_goals first | omega | (refine e_out ?_; rfl)
    rw [if_neg h1] at h
    by_cases h2 : (s.steps : Int) = fuel
    · rw [if_pos h2] at h
      simp only [Option.some.injEq] at h
      subst h
      have c2 : lenSl (.ro bor (codeW cs)) = some (Nn cs.length) := by simp [lenSl, codeW_len]
      have n0 : bin Tryd.prog .lss 3 true (I6 s.at_) (.int .i64 0) = some (.bool false) := q_lss_f (by omega)
      have n1 : bin Tryd.prog .geq 3 false (I6 s.at_) (Nn cs.length) = some (.bool false) := q_geq_f (by omega)
      have n2 : bin Tryd.prog .geq 2 false (Nn s.steps) (I6 fuel) = some (.bool true) := q_geq_t (by omega)
      have f0 : fieldAddrV 0 RX = some RX := rfl
      have f34 : fieldAddrV 34 RX = some (.ptr 3 1 0 34) := rfl
      have c3 := rld34 G (bR 46 z) [] s hr
      have c4 := rst0 (bR 46 z) [] s 4 hr
      have l1 := rldAll G (bR 46 z) [] { s with code := 4 } hr
      have l2 := rstRes [] { s with code := 4 } 46 z _ hz (rcells_len { s with code := 4 } hr)
      refine ⟨hr, [], [.ro bor (codeW cs), I6 fuel, .ptr 0 1 0 0, RX, .ptr 4 1 0 0, I6 s.at_], ?_, rfl⟩
      rw [alembicref17_RunMach.l4]
      refine e_id ?_
      refine eC hcut ?_
      unfold xsR
      generalize (QS.cellsR { s with code := 4 }) = tcs at *
      have fx := And.intro f0 <| And.intro f34 <| And.intro c2 <| And.intro n0 <| And.intro n1 <| And.intro n2 <| And.intro c3 <| And.intro c4 <| And.intro l1 <| l2
      refine wkB ?_
      refine e_out ?_; rfl
    rw [if_neg h2] at h
    have hw := hcs (cs.getD s.at_.toNat 0) (by
      have : s.at_.toNat < cs.length := by omega
      rw [List.getD_eq_getElem?_getD, List.getElem?_eq_getElem this]
      exact List.getElem_mem this)
    have rd := round_spec G k self z hz hzb bor cs fuel (loopN (alembicref17_RunMach.l4 G (k + 41) 7 self) f) T0 s hs hc (by omega) (by omega) (by omega) hf hcl hw
    have okt : s.tick.Ok := ⟨hs.rg, hs.mem, by simp [QS.tick, QS.leak]; omega, hs.big, by simp [QS.tick, QS.leak]; omega⟩
    obtain ⟨o1, o2, o3⟩ := QS.step_ok okt (cs.getD s.at_.toNat 0) (by simp [QS.tick, QS.leak]; omega)
    have hst2 : s.tick.steps = s.steps + 1 := rfl
    generalize cs.getD s.at_.toNat 0 = w at *
    obtain ⟨s2, b, hsb⟩ : ∃ s2 b, s.tick.step w = (s2, b) := ⟨_, _, rfl⟩
    rw [hsb] at h rd o1 o2
    simp only at h o1 o2
    unfold roundR at rd
    cases b
    · simp only [Bool.false_eq_true, if_false] at rd
      simp only [Option.some.injEq] at h
      subst h
      exact ⟨o1.rg.len, rd⟩
    · simp only [if_true] at rd
      simp only at h
      obtain ⟨T, hT⟩ := rd
      have hc2 : s2.code = 3 := by rw [step_on hsb]; exact hc
      rw [hT]
      exact rrun_loop hf hcl hcs f T s2 s' h o1 hc2 (by rw [o2, hst2]; omega)
theorem rfrz (b0 : ABlk) (T : AHeap) (s : QS) : frz (hpR b0 T s) 0 6 (.agg s.cellsR) = some (endQ s) := by
  have f1 := frz_sl (H := hpR b0 T s) (b := 2) (n0 := 0) (d := 4) (ty := 43) rfl (by omega) (natsU_len s.mem) (allSz_U _) (natsU_below 0 _)
  have f2 := frz_sl (H := hpR b0 T s) (b := 6) (n0 := 0) (d := 4) (ty := 107) rfl (by omega) (leaksV_len s.leaks) (allSz_L _) (leaksV_below 0 _)
  have f3 : mapO (frz (hpR b0 T s) 0 5) (natsU s.regs) = some (natsU s.regs) := mapO_low fun x hx => frz_low (belowL_mem (natsU_below 0 s.regs) x hx) 5
  exact frz_agg (by simp [QS.cellsR, belowL, belowB]) (mapO_cons (frz_low rfl 5) (mapO_cons f1 (mapO_app f3 (mapO_cons f2 (mapO_cons (frz_low rfl 5) mapO_nil)))))
theorem RunMach_spec (bm : Bool) (mem : List Nat) (hm : ∀ x ∈ mem, x < 18446744073709551616) (hml : mem.length ≤ 60000) (h0 : 0 ≤ fuel) (hf : fuel ≤ 99999) (hk : mem.length < k + 40) (hcl : cs.length ≤ 100000) (hcs : ∀ w ∈ cs, 0 ≤ w ∧ w < 4294967296)
    (s' : QS) (hrun : runQ cs fuel (k + 41) (q0 3 mem) = some s') :
    alembicref17_RunMach.f G (k + 42) [.ro bor (codeW cs), .ro bm (natsU mem), I6 fuel] [] = some (endQ s', []) := by
  rw [alembicref17_RunMach.step]
  unfold alembicref17_RunMach.c
  have hzl : zR.length = 35 := rfl
  have hzb : belowL 7 zR = true := rfl
  obtain ⟨hr', T, xs, lp, hx⟩ := rrun_loop G k (alembicref17_RunMach.f G (k + 41)) zR hzl hzb bor cs fuel hf hcl hcs (k + 41) [] (q0 3 mem) s' hrun (q0_ok 3 mem hm (by omega)) rfl (by simp only [q0]; omega)
  have w1_ : heapCall (alembicref_Words.f G (k + 41)) [.ro bm (natsU mem)] [bZ] = some (.sl 2 mem.length 0 mem.length 1, hpW mem) := heapCall_of (words_spec G (k + 40) bm mem (by omega) hk) (by simp [hpW])
  have zz : (AV.agg [.int .i64 0, .nils, .int .u64 0, .int .u64 0, .int .u64 0, .int .u64 0, .int .u64 0, .int .u64 0, .int .u64 0, .int .u64 0, .int .u64 0, .int .u64 0, .int .u64 0, .int .u64 0, .int .u64 0, .int .u64 0, .int .u64 0, .int .u64 0, .int .u64 0, .int .u64 0, .int .u64 0, .int .u64 0, .int .u64 0, .int .u64 0, .int .u64 0, .int .u64 0, .int .u64 0, .int .u64 0, .int .u64 0, .int .u64 0, .int .u64 0, .int .u64 0, .int .u64 0, .nils, .int .i64 0]) = .agg (I6 0 :: .nils :: (natsU (List.replicate 31 0) ++ [.nils, .int .i64 0])) := rfl
  have zb : buildSt [(0, 1), (1, 1), (2, 31), (33, 1), (34, 1)] [.int .i64 0, .nils, .int .u64 0, .int .u64 0, .int .u64 0, .int .u64 0, .int .u64 0, .int .u64 0, .int .u64 0, .int .u64 0, .int .u64 0, .int .u64 0, .int .u64 0, .int .u64 0, .int .u64 0, .int .u64 0, .int .u64 0, .int .u64 0, .int .u64 0, .int .u64 0, .int .u64 0, .int .u64 0, .int .u64 0, .int .u64 0, .int .u64 0, .int .u64 0, .int .u64 0, .int .u64 0, .int .u64 0, .int .u64 0, .int .u64 0, .int .u64 0, .int .u64 0, .nils, .int .i64 0] [(1, .sl 2 mem.length 0 mem.length 1), (0, .int .i64 3)] =
      some (.agg (I6 3 :: .sl 2 mem.length 0 mem.length 1 :: (natsU (List.replicate 31 0) ++ [.nils, .int .i64 0]))) := rfl
  have b1 : boxA 46 (.agg (I6 0 :: .nils :: (natsU (List.replicate 31 0) ++ [.nils, .int .i64 0]))) [] = some (.ptr 0 1 0 0, [bZ]) := rfl
  have b2 : boxA 46 (.agg (I6 0 :: .nils :: (natsU (List.replicate 31 0) ++ [.nils, .int .i64 0]))) (hpW mem) = some (.ptr 3 1 0 0, hpW mem ++ [bZ]) := rfl
  have s2 : stS (storeV 35 (.ptr 3 1 0 0) (.agg (I6 3 :: .sl 2 mem.length 0 mem.length 1 :: (natsU (List.replicate 31 0) ++ [.nils, .int .i64 0]))) (hpW mem ++ [bZ])) = some (.tup [], hpW mem ++ [⟨46, 35, [.agg (I6 3 :: .sl 2 mem.length 0 mem.length 1 :: (natsU (List.replicate 31 0) ++ [.nils, .int .i64 0]))]⟩]) := rfl
  have b3 : boxA 53 (.agg [.bool false, .bool false, .bool false, .bool false]) (hpW mem ++ [⟨46, 35, [.agg (I6 3 :: .sl 2 mem.length 0 mem.length 1 :: (natsU (List.replicate 31 0) ++ [.nils, .int .i64 0]))]⟩]) = some (.ptr 4 1 0 0, hpW mem ++ [⟨46, 35, [.agg (I6 3 :: .sl 2 mem.length 0 mem.length 1 :: (natsU (List.replicate 31 0) ++ [.nils, .int .i64 0]))]⟩, ⟨53, 4, [f00.a]⟩]) := rfl
  have v1 : ∀ m : Nat, virt1 (.ptr 0 1 0 0, 33, 107, 2) (hpW mem ++ [⟨46, 35, [.agg (I6 3 :: .sl 2 m 0 m 1 :: (natsU (List.replicate 31 0) ++ [.nils, .int .i64 0]))]⟩, ⟨53, 4, [f00.a]⟩]) =
     [bR 46 zR, ⟨43, 1, []⟩, ⟨43, 1, natsU mem⟩, ⟨46, 35, [.agg (I6 3 :: .sl 2 m 0 m 1 :: (natsU (List.replicate 31 0) ++ [.nils, .int .i64 0]))]⟩, ⟨53, 4, [f00.a]⟩, ⟨107, 2, []⟩] := fun m => rfl
  have v2 : virt1 (.ptr 3 1 0 0, 33, 107, 2) [bR 46 zR, ⟨43, 1, []⟩, ⟨43, 1, natsU mem⟩, ⟨46, 35, [.agg (I6 3 :: .sl 2 mem.length 0 mem.length 1 :: (natsU (List.replicate 31 0) ++ [.nils, .int .i64 0]))]⟩, ⟨53, 4, [f00.a]⟩, ⟨107, 2, []⟩] =
     hpR (bR 46 zR) [] (q0 3 mem) := by
    simp only [hpR, q0, QS.cellsR, QS.tailR]
    rfl
  have v1' := v1 mem.length
  have hl7 : (hpR (bR 46 zR) [] (q0 3 mem)).length = 7 := rfl
  have ldE : loadV G true 35 (.ptr 0 1 0 0) (hpR (bR 46 s'.cellsR) T s') = some (.agg s'.cellsR) := by
    have hrl := rcells_len s' hr'
    generalize s'.cellsR = rl at *
    show (if 0 + 35 ≤ rl.length then some (AV.agg ((rl.drop 0).take 35)) else none) = _
    rw [if_pos (by omega), List.drop_zero, List.take_of_length_le (by omega)]
  have fin : finL [loadV G true 35 (.ptr 0 1 0 0) (hpR (bR 46 s'.cellsR) T s')] 0 (hpR (bR 46 s'.cellsR) T s') = some (.ret, [endQ s'], []) := by
    have f3 := rfrz (bR 46 s'.cellsR) T s'
    unfold finL
    rw [ldE]
    simp only [allSome]
    unfold finV packR
    simp only [f3, cutH_zero]
  rw [zz]
  unfold xsR at lp
  clear zz v1 hcs hm
  refine e_in ?_
  generalize s'.cellsR = rl at *
  generalize hpR (bR 46 zR) [] (q0 3 mem) = hq at *
  generalize natsU (List.replicate 31 0) = NZ at *
  generalize hpW mem = HW at *
  have fx := And.intro b1 <| And.intro w1_ <| And.intro zb <| And.intro b2 <| And.intro s2 <| b3
  refine wkB ?_
  refine eV1 v1' ?_
  refine eV1 v2 ?_
  refine eV0 ?_
  rw [hl7]
  refine eK ?_
  refine eL lp ?_
  have fx := True.intro
  refine wkB ?_
  rw [hx]
  exact oF fin
end
theorem runQ_ok (cs : List Int) (fuel : Int) (hf : fuel ≤ 99999) : ∀ (f : Nat) (s s' : QS), runQ cs fuel f s = some s' → s.Ok → (s.steps : Int) ≤ fuel → s'.Ok ∧ s'.mem.length = s.mem.length
  | 0, s, s', h, _, _ => by simp [runQ] at h
  | f + 1, s, s', h, hs, hst => by
    have few := hs.few
    have lks := hs.leaks
    simp only [runQ] at h
    by_cases h1 : s.at_ < 0 ∨ (cs.length : Int) ≤ s.at_
    · rw [if_pos h1] at h
      simp only [Option.some.injEq] at h
      subst h
      exact ⟨⟨hs.rg, hs.mem, hs.leaks, hs.big, hs.few⟩, rfl⟩
    rw [if_neg h1] at h
    by_cases h2 : (s.steps : Int) = fuel
    · rw [if_pos h2] at h
      simp only [Option.some.injEq] at h
      subst h
      exact ⟨⟨hs.rg, hs.mem, hs.leaks, hs.big, hs.few⟩, rfl⟩
    rw [if_neg h2] at h
    have okt : s.tick.Ok := ⟨hs.rg, hs.mem, by simp [QS.tick, QS.leak]; omega, hs.big, by simp [QS.tick, QS.leak]; omega⟩
    obtain ⟨o1, o2, o3⟩ := QS.step_ok okt (cs.getD s.at_.toNat 0) (by simp [QS.tick, QS.leak]; omega)
    have hst2 : s.tick.steps = s.steps + 1 := rfl
    have tm : s.tick.mem = s.mem := rfl
    obtain ⟨s2, b, hsb⟩ : ∃ s2 b, s.tick.step (cs.getD s.at_.toNat 0) = (s2, b) := ⟨_, _, rfl⟩
    rw [hsb] at h o1 o2 o3
    simp only at h o1 o2 o3
    cases b
    · simp only [Option.some.injEq] at h
      subst h
      exact ⟨o1, by rw [o3, tm]⟩
    · simp only at h
      obtain ⟨p1, p2⟩ := runQ_ok cs fuel hf f s2 s' h o1 (by rw [o2, hst2]; omega)
      exact ⟨p1, by rw [p2, o3, tm]⟩
end Go.Proofs.YtdfglgnflldkpaaDoor.Mir
namespace Go.Proofs.YtdfglgnflldkpaaDoor.Mir
open Go
set_option linter.unusedVariables false
set_option linter.unusedSimpArgs false
set_option maxHeartbeats 8000000
set_option maxRecDepth 20000
section
variable {cs : List Int} {fuel : Int} {f : Nat} {s s2 s' : QS} {i : MI}
theorem runQ_on (h1 : 0 ≤ s.at_ ∧ s.at_ < cs.length) (h2 : (s.steps : Int) ≠ fuel) (ho : ofF (cs.getD s.at_.toNat 0) = some i) (ha : s.tick.next.act i = (s2, true)) : runQ cs fuel (f + 1) s = runQ cs fuel f s2 := by
  simp only [runQ]
  rw [if_neg (by omega), if_neg h2]
  have e : s.tick.step (cs.getD s.at_.toNat 0) = (s2, true) := by unfold QS.step; rw [ho]; exact ha
  rw [e]
theorem runQ_off (h1 : 0 ≤ s.at_ ∧ s.at_ < cs.length) (h2 : (s.steps : Int) ≠ fuel) (ho : ofF (cs.getD s.at_.toNat 0) = some i) (ha : s.tick.next.act i = (s2, false)) : runQ cs fuel (f + 1) s = some s2 := by
  simp only [runQ]
  rw [if_neg (by omega), if_neg h2]
  have e : s.tick.step (cs.getD s.at_.toNat 0) = (s2, false) := by unfold QS.step; rw [ho]; exact ha
  rw [e]
end
end Go.Proofs.YtdfglgnflldkpaaDoor.Mir
namespace Go.Proofs.YtdfglgnflldkpaaDoor.Mir
open Go
set_option linter.unusedVariables false
set_option linter.unusedSimpArgs false
set_option maxHeartbeats 8000000
set_option maxRecDepth 20000
def instsS (n : Nat) : List AV := [mV 1 2 0 0 0 1, mV 1 3 0 0 0 n, mV 13 5 0 3 0 0, mV 18 0 5 0 0 8, mV 15 4 0 0 0 0, mV 3 1 1 4 0 0, mV 3 0 0 2 0 0, mV 17 0 0 0 0 2, mV 16 0 0 1 0 0, mV 20 0 0 0 0 1]
def codeS (n m : Nat) : AV := .agg [.ro false (instsS n), I6 6, Nn m]
def loopI (n : Nat) : List MI := [⟨1, 2, 0, 0, 0, 1⟩, ⟨1, 3, 0, 0, 0, n⟩, ⟨15, 0, 0, 3, 0, 0⟩, ⟨17, 5, 0, 0, 3, 0⟩, ⟨22, 5, 0, 0, 0, 9⟩,
  ⟨10, 28, 0, 0, 0, 0⟩, ⟨13, 29, 28, 0, 0, 16⟩, ⟨23, 29, 0, 0, 0, 12⟩, ⟨12, 28, 28, 0, 0, 3⟩, ⟨18, 4, 28, 0, 0, 0⟩, ⟨3, 1, 1, 4, 0, 0⟩, ⟨3, 0, 0, 2, 0, 0⟩, ⟨20, 0, 0, 0, 0, -10⟩,
  ⟨10, 28, 0, 0, 0, 0⟩, ⟨13, 29, 28, 0, 0, 16⟩, ⟨23, 29, 0, 0, 0, 4⟩, ⟨12, 28, 28, 0, 0, 3⟩, ⟨19, 1, 28, 0, 0, 0⟩, ⟨24, 0, 0, 0, 0, 1⟩]
def loopS (n : Nat) : List Int := (loopI n).map wordF
end Go.Proofs.YtdfglgnflldkpaaDoor.Mir
namespace Go.Proofs.YtdfglgnflldkpaaDoor.Mir
open Go
set_option linter.unusedVariables false
set_option maxHeartbeats 8000000
set_option maxRecDepth 20000
theorem sel_l0 (G : Globs) (k : Nat) : sel_Select.f G (k + 80) [codeS 0 1] [] = some (.tup [.ro false (codeW (loopS 0)), .nili], []) := by kernel_rfl
theorem sel_l1 (G : Globs) (k : Nat) : sel_Select.f G (k + 80) [codeS 1 2] [] = some (.tup [.ro false (codeW (loopS 1)), .nili], []) := by kernel_rfl
theorem sel_l2 (G : Globs) (k : Nat) : sel_Select.f G (k + 80) [codeS 2 3] [] = some (.tup [.ro false (codeW (loopS 2)), .nili], []) := by kernel_rfl
theorem sel_l3 (G : Globs) (k : Nat) : sel_Select.f G (k + 80) [codeS 3 4] [] = some (.tup [.ro false (codeW (loopS 3)), .nili], []) := by kernel_rfl
theorem sel_l4 (G : Globs) (k : Nat) : sel_Select.f G (k + 80) [codeS 4 5] [] = some (.tup [.ro false (codeW (loopS 4)), .nili], []) := by kernel_rfl
theorem sel_l5 (G : Globs) (k : Nat) : sel_Select.f G (k + 80) [codeS 5 6] [] = some (.tup [.ro false (codeW (loopS 5)), .nili], []) := by kernel_rfl
theorem sel_l6 (G : Globs) (k : Nat) : sel_Select.f G (k + 80) [codeS 6 7] [] = some (.tup [.ro false (codeW (loopS 6)), .nili], []) := by kernel_rfl
theorem sel_l7 (G : Globs) (k : Nat) : sel_Select.f G (k + 80) [codeS 7 8] [] = some (.tup [.ro false (codeW (loopS 7)), .nili], []) := by kernel_rfl
theorem sel_l8 (G : Globs) (k : Nat) : sel_Select.f G (k + 80) [codeS 8 9] [] = some (.tup [.ro false (codeW (loopS 8)), .nili], []) := by kernel_rfl
theorem sel_l9 (G : Globs) (k : Nat) : sel_Select.f G (k + 80) [codeS 9 10] [] = some (.tup [.ro false (codeW (loopS 9)), .nili], []) := by kernel_rfl
theorem sel_l10 (G : Globs) (k : Nat) : sel_Select.f G (k + 80) [codeS 10 11] [] = some (.tup [.ro false (codeW (loopS 10)), .nili], []) := by kernel_rfl
theorem sel_l11 (G : Globs) (k : Nat) : sel_Select.f G (k + 80) [codeS 11 12] [] = some (.tup [.ro false (codeW (loopS 11)), .nili], []) := by kernel_rfl
theorem sel_l12 (G : Globs) (k : Nat) : sel_Select.f G (k + 80) [codeS 12 13] [] = some (.tup [.ro false (codeW (loopS 12)), .nili], []) := by kernel_rfl
theorem sel_l13 (G : Globs) (k : Nat) : sel_Select.f G (k + 80) [codeS 13 14] [] = some (.tup [.ro false (codeW (loopS 13)), .nili], []) := by kernel_rfl
theorem sel_l14 (G : Globs) (k : Nat) : sel_Select.f G (k + 80) [codeS 14 15] [] = some (.tup [.ro false (codeW (loopS 14)), .nili], []) := by kernel_rfl
theorem sel_l15 (G : Globs) (k : Nat) : sel_Select.f G (k + 80) [codeS 15 16] [] = some (.tup [.ro false (codeW (loopS 15)), .nili], []) := by kernel_rfl
theorem sel_l16 (G : Globs) (k : Nat) : sel_Select.f G (k + 80) [codeS 16 17] [] = some (.tup [.ro false (codeW (loopS 16)), .nili], []) := by kernel_rfl
theorem sel_l17 (G : Globs) (k : Nat) : sel_Select.f G (k + 80) [codeS 17 18] [] = some (.tup [.ro false (codeW (loopS 17)), .nili], []) := by kernel_rfl
theorem sel_l18 (G : Globs) (k : Nat) : sel_Select.f G (k + 80) [codeS 18 19] [] = some (.tup [.ro false (codeW (loopS 18)), .nili], []) := by kernel_rfl
theorem sel_l19 (G : Globs) (k : Nat) : sel_Select.f G (k + 80) [codeS 19 20] [] = some (.tup [.ro false (codeW (loopS 19)), .nili], []) := by kernel_rfl
theorem sel_l20 (G : Globs) (k : Nat) : sel_Select.f G (k + 80) [codeS 20 21] [] = some (.tup [.ro false (codeW (loopS 20)), .nili], []) := by kernel_rfl
theorem sel_l21 (G : Globs) (k : Nat) : sel_Select.f G (k + 80) [codeS 21 22] [] = some (.tup [.ro false (codeW (loopS 21)), .nili], []) := by kernel_rfl
theorem sel_l22 (G : Globs) (k : Nat) : sel_Select.f G (k + 80) [codeS 22 23] [] = some (.tup [.ro false (codeW (loopS 22)), .nili], []) := by kernel_rfl
theorem sel_l23 (G : Globs) (k : Nat) : sel_Select.f G (k + 80) [codeS 23 24] [] = some (.tup [.ro false (codeW (loopS 23)), .nili], []) := by kernel_rfl
theorem sel_l24 (G : Globs) (k : Nat) : sel_Select.f G (k + 80) [codeS 24 25] [] = some (.tup [.ro false (codeW (loopS 24)), .nili], []) := by kernel_rfl
theorem sel_l25 (G : Globs) (k : Nat) : sel_Select.f G (k + 80) [codeS 25 26] [] = some (.tup [.ro false (codeW (loopS 25)), .nili], []) := by kernel_rfl
theorem sel_l26 (G : Globs) (k : Nat) : sel_Select.f G (k + 80) [codeS 26 27] [] = some (.tup [.ro false (codeW (loopS 26)), .nili], []) := by kernel_rfl
theorem sel_l27 (G : Globs) (k : Nat) : sel_Select.f G (k + 80) [codeS 27 28] [] = some (.tup [.ro false (codeW (loopS 27)), .nili], []) := by kernel_rfl
theorem sel_l28 (G : Globs) (k : Nat) : sel_Select.f G (k + 80) [codeS 28 29] [] = some (.tup [.ro false (codeW (loopS 28)), .nili], []) := by kernel_rfl
theorem sel_l29 (G : Globs) (k : Nat) : sel_Select.f G (k + 80) [codeS 29 30] [] = some (.tup [.ro false (codeW (loopS 29)), .nili], []) := by kernel_rfl
theorem sel_l30 (G : Globs) (k : Nat) : sel_Select.f G (k + 80) [codeS 30 31] [] = some (.tup [.ro false (codeW (loopS 30)), .nili], []) := by kernel_rfl
theorem sel_l31 (G : Globs) (k : Nat) : sel_Select.f G (k + 80) [codeS 31 32] [] = some (.tup [.ro false (codeW (loopS 31)), .nili], []) := by kernel_rfl
theorem sel_l32 (G : Globs) (k : Nat) : sel_Select.f G (k + 80) [codeS 32 33] [] = some (.tup [.ro false (codeW (loopS 32)), .nili], []) := by kernel_rfl
theorem sel_l33 (G : Globs) (k : Nat) : sel_Select.f G (k + 80) [codeS 33 34] [] = some (.tup [.ro false (codeW (loopS 33)), .nili], []) := by kernel_rfl
theorem sel_l34 (G : Globs) (k : Nat) : sel_Select.f G (k + 80) [codeS 34 35] [] = some (.tup [.ro false (codeW (loopS 34)), .nili], []) := by kernel_rfl
theorem sel_l35 (G : Globs) (k : Nat) : sel_Select.f G (k + 80) [codeS 35 36] [] = some (.tup [.ro false (codeW (loopS 35)), .nili], []) := by kernel_rfl
theorem sel_l36 (G : Globs) (k : Nat) : sel_Select.f G (k + 80) [codeS 36 37] [] = some (.tup [.ro false (codeW (loopS 36)), .nili], []) := by kernel_rfl
theorem sel_l37 (G : Globs) (k : Nat) : sel_Select.f G (k + 80) [codeS 37 38] [] = some (.tup [.ro false (codeW (loopS 37)), .nili], []) := by kernel_rfl
theorem sel_l38 (G : Globs) (k : Nat) : sel_Select.f G (k + 80) [codeS 38 39] [] = some (.tup [.ro false (codeW (loopS 38)), .nili], []) := by kernel_rfl
theorem sel_l39 (G : Globs) (k : Nat) : sel_Select.f G (k + 80) [codeS 39 40] [] = some (.tup [.ro false (codeW (loopS 39)), .nili], []) := by kernel_rfl
theorem sel_l40 (G : Globs) (k : Nat) : sel_Select.f G (k + 80) [codeS 40 41] [] = some (.tup [.ro false (codeW (loopS 40)), .nili], []) := by kernel_rfl
theorem sel_loop (G : Globs) (k : Nat) : ∀ n : Nat, n ≤ 40 → sel_Select.f G (k + 80) [codeS n (n + 1)] [] = some (.tup [.ro false (codeW (loopS n)), .nili], [])
  | 0, _ => sel_l0 G k
  | 1, _ => sel_l1 G k
  | 2, _ => sel_l2 G k
  | 3, _ => sel_l3 G k
  | 4, _ => sel_l4 G k
  | 5, _ => sel_l5 G k
  | 6, _ => sel_l6 G k
  | 7, _ => sel_l7 G k
  | 8, _ => sel_l8 G k
  | 9, _ => sel_l9 G k
  | 10, _ => sel_l10 G k
  | 11, _ => sel_l11 G k
  | 12, _ => sel_l12 G k
  | 13, _ => sel_l13 G k
  | 14, _ => sel_l14 G k
  | 15, _ => sel_l15 G k
  | 16, _ => sel_l16 G k
  | 17, _ => sel_l17 G k
  | 18, _ => sel_l18 G k
  | 19, _ => sel_l19 G k
  | 20, _ => sel_l20 G k
  | 21, _ => sel_l21 G k
  | 22, _ => sel_l22 G k
  | 23, _ => sel_l23 G k
  | 24, _ => sel_l24 G k
  | 25, _ => sel_l25 G k
  | 26, _ => sel_l26 G k
  | 27, _ => sel_l27 G k
  | 28, _ => sel_l28 G k
  | 29, _ => sel_l29 G k
  | 30, _ => sel_l30 G k
  | 31, _ => sel_l31 G k
  | 32, _ => sel_l32 G k
  | 33, _ => sel_l33 G k
  | 34, _ => sel_l34 G k
  | 35, _ => sel_l35 G k
  | 36, _ => sel_l36 G k
  | 37, _ => sel_l37 G k
  | 38, _ => sel_l38 G k
  | 39, _ => sel_l39 G k
  | 40, _ => sel_l40 G k
  | n + 41, h => by omega
end Go.Proofs.YtdfglgnflldkpaaDoor.Mir
namespace Go.Proofs.YtdfglgnflldkpaaDoor.Mir
open Go
set_option linter.unusedVariables false
set_option linter.unusedSimpArgs false
set_option maxHeartbeats 8000000
set_option maxRecDepth 20000
/-- The registers. -/
def rgq (x0 x1 x2 x3 x4 x5 y z : Nat) : List Nat := [x0, x1, x2, x3, x4, x5, 0, 0, 0, 0, 0, 0, 0, 0, 0, 0, 0, 0, 0, 0, 0, 0, 0, 0, 0, 0, 0, 0, y, z, 0]
theorem len19 (n : Nat) : ((loopS n).length : Int) = 19 := rfl
theorem r0 : rightB ⟨1, 2, 0, 0, 0, 1⟩ = true := by kernel_rfl
theorem o0 (n : Nat) : ofF ((loopS n).getD (0 : Int).toNat 0) = some ⟨1, 2, 0, 0, 0, 1⟩ := by
  have e : (loopS n).getD (0 : Int).toNat 0 = wordF ⟨1, 2, 0, 0, 0, 1⟩ := rfl
  rw [e]
  exact of_word r0 (by simp)
theorem o1 (n : Nat) (h : n ≤ 40) : ofF ((loopS n).getD (1 : Int).toNat 0) = some ⟨1, 3, 0, 0, 0, n⟩ := by
  have e : (loopS n).getD (1 : Int).toNat 0 = wordF ⟨1, 3, 0, 0, 0, n⟩ := rfl
  rw [e]
  exact of_word (by simp [rightB, isOp, fairB, formF, regB, extraB, immB, halfI, stackB]; omega) (by simp)
theorem r2 : rightB ⟨15, 0, 0, 3, 0, 0⟩ = true := by kernel_rfl
theorem o2 (n : Nat) : ofF ((loopS n).getD (2 : Int).toNat 0) = some ⟨15, 0, 0, 3, 0, 0⟩ := by
  have e : (loopS n).getD (2 : Int).toNat 0 = wordF ⟨15, 0, 0, 3, 0, 0⟩ := rfl
  rw [e]
  exact of_word r2 (by simp)
theorem r3 : rightB ⟨17, 5, 0, 0, 3, 0⟩ = true := by kernel_rfl
theorem o3 (n : Nat) : ofF ((loopS n).getD (3 : Int).toNat 0) = some ⟨17, 5, 0, 0, 3, 0⟩ := by
  have e : (loopS n).getD (3 : Int).toNat 0 = wordF ⟨17, 5, 0, 0, 3, 0⟩ := rfl
  rw [e]
  exact of_word r3 (by simp)
theorem r4 : rightB ⟨22, 5, 0, 0, 0, 9⟩ = true := by kernel_rfl
theorem o4 (n : Nat) : ofF ((loopS n).getD (4 : Int).toNat 0) = some ⟨22, 5, 0, 0, 0, 9⟩ := by
  have e : (loopS n).getD (4 : Int).toNat 0 = wordF ⟨22, 5, 0, 0, 0, 9⟩ := rfl
  rw [e]
  exact of_word r4 (by simp)
theorem r5 : rightB ⟨10, 28, 0, 0, 0, 0⟩ = true := by kernel_rfl
theorem o5 (n : Nat) : ofF ((loopS n).getD (5 : Int).toNat 0) = some ⟨10, 28, 0, 0, 0, 0⟩ := by
  have e : (loopS n).getD (5 : Int).toNat 0 = wordF ⟨10, 28, 0, 0, 0, 0⟩ := rfl
  rw [e]
  exact of_word r5 (by simp)
theorem r6 : rightB ⟨13, 29, 28, 0, 0, 16⟩ = true := by kernel_rfl
theorem o6 (n : Nat) : ofF ((loopS n).getD (6 : Int).toNat 0) = some ⟨13, 29, 28, 0, 0, 16⟩ := by
  have e : (loopS n).getD (6 : Int).toNat 0 = wordF ⟨13, 29, 28, 0, 0, 16⟩ := rfl
  rw [e]
  exact of_word r6 (by simp)
theorem r7 : rightB ⟨23, 29, 0, 0, 0, 12⟩ = true := by kernel_rfl
theorem o7 (n : Nat) : ofF ((loopS n).getD (7 : Int).toNat 0) = some ⟨23, 29, 0, 0, 0, 12⟩ := by
  have e : (loopS n).getD (7 : Int).toNat 0 = wordF ⟨23, 29, 0, 0, 0, 12⟩ := rfl
  rw [e]
  exact of_word r7 (by simp)
theorem r8 : rightB ⟨12, 28, 28, 0, 0, 3⟩ = true := by kernel_rfl
theorem o8 (n : Nat) : ofF ((loopS n).getD (8 : Int).toNat 0) = some ⟨12, 28, 28, 0, 0, 3⟩ := by
  have e : (loopS n).getD (8 : Int).toNat 0 = wordF ⟨12, 28, 28, 0, 0, 3⟩ := rfl
  rw [e]
  exact of_word r8 (by simp)
theorem r9 : rightB ⟨18, 4, 28, 0, 0, 0⟩ = true := by kernel_rfl
theorem o9 (n : Nat) : ofF ((loopS n).getD (9 : Int).toNat 0) = some ⟨18, 4, 28, 0, 0, 0⟩ := by
  have e : (loopS n).getD (9 : Int).toNat 0 = wordF ⟨18, 4, 28, 0, 0, 0⟩ := rfl
  rw [e]
  exact of_word r9 (by simp)
theorem r10 : rightB ⟨3, 1, 1, 4, 0, 0⟩ = true := by kernel_rfl
theorem o10 (n : Nat) : ofF ((loopS n).getD (10 : Int).toNat 0) = some ⟨3, 1, 1, 4, 0, 0⟩ := by
  have e : (loopS n).getD (10 : Int).toNat 0 = wordF ⟨3, 1, 1, 4, 0, 0⟩ := rfl
  rw [e]
  exact of_word r10 (by simp)
theorem r11 : rightB ⟨3, 0, 0, 2, 0, 0⟩ = true := by kernel_rfl
theorem o11 (n : Nat) : ofF ((loopS n).getD (11 : Int).toNat 0) = some ⟨3, 0, 0, 2, 0, 0⟩ := by
  have e : (loopS n).getD (11 : Int).toNat 0 = wordF ⟨3, 0, 0, 2, 0, 0⟩ := rfl
  rw [e]
  exact of_word r11 (by simp)
theorem r12 : rightB ⟨20, 0, 0, 0, 0, -10⟩ = true := by kernel_rfl
theorem o12 (n : Nat) : ofF ((loopS n).getD (12 : Int).toNat 0) = some ⟨20, 0, 0, 0, 0, -10⟩ := by
  have e : (loopS n).getD (12 : Int).toNat 0 = wordF ⟨20, 0, 0, 0, 0, -10⟩ := rfl
  rw [e]
  exact of_word r12 (by simp)
theorem r13 : rightB ⟨10, 28, 0, 0, 0, 0⟩ = true := by kernel_rfl
theorem o13 (n : Nat) : ofF ((loopS n).getD (13 : Int).toNat 0) = some ⟨10, 28, 0, 0, 0, 0⟩ := by
  have e : (loopS n).getD (13 : Int).toNat 0 = wordF ⟨10, 28, 0, 0, 0, 0⟩ := rfl
  rw [e]
  exact of_word r13 (by simp)
theorem r14 : rightB ⟨13, 29, 28, 0, 0, 16⟩ = true := by kernel_rfl
theorem o14 (n : Nat) : ofF ((loopS n).getD (14 : Int).toNat 0) = some ⟨13, 29, 28, 0, 0, 16⟩ := by
  have e : (loopS n).getD (14 : Int).toNat 0 = wordF ⟨13, 29, 28, 0, 0, 16⟩ := rfl
  rw [e]
  exact of_word r14 (by simp)
theorem r15 : rightB ⟨23, 29, 0, 0, 0, 4⟩ = true := by kernel_rfl
theorem o15 (n : Nat) : ofF ((loopS n).getD (15 : Int).toNat 0) = some ⟨23, 29, 0, 0, 0, 4⟩ := by
  have e : (loopS n).getD (15 : Int).toNat 0 = wordF ⟨23, 29, 0, 0, 0, 4⟩ := rfl
  rw [e]
  exact of_word r15 (by simp)
theorem r16 : rightB ⟨12, 28, 28, 0, 0, 3⟩ = true := by kernel_rfl
theorem o16 (n : Nat) : ofF ((loopS n).getD (16 : Int).toNat 0) = some ⟨12, 28, 28, 0, 0, 3⟩ := by
  have e : (loopS n).getD (16 : Int).toNat 0 = wordF ⟨12, 28, 28, 0, 0, 3⟩ := rfl
  rw [e]
  exact of_word r16 (by simp)
theorem r17 : rightB ⟨19, 1, 28, 0, 0, 0⟩ = true := by kernel_rfl
theorem o17 (n : Nat) : ofF ((loopS n).getD (17 : Int).toNat 0) = some ⟨19, 1, 28, 0, 0, 0⟩ := by
  have e : (loopS n).getD (17 : Int).toNat 0 = wordF ⟨19, 1, 28, 0, 0, 0⟩ := rfl
  rw [e]
  exact of_word r17 (by simp)
theorem r18 : rightB ⟨24, 0, 0, 0, 0, 1⟩ = true := by kernel_rfl
theorem o18 (n : Nat) : ofF ((loopS n).getD (18 : Int).toNat 0) = some ⟨24, 0, 0, 0, 0, 1⟩ := by
  have e : (loopS n).getD (18 : Int).toNat 0 = wordF ⟨24, 0, 0, 0, 0, 1⟩ := rfl
  rw [e]
  exact of_word r18 (by simp)
section
variable {n : Nat} {fuel : Int} {f : Nat} {cd : Int} {mem : List Nat} {x0 x1 x2 x3 x4 x5 y z : Nat} {lk : List (Int × Int)} {st : Nat} {fl : FL}
theorem q_0 (hs : (st : Int) ≠ fuel) : runQ (loopS n) fuel (f + 1) ⟨cd, mem, rgq x0 x1 x2 x3 x4 x5 y z, lk, st, fl, 0⟩ = runQ (loopS n) fuel f ⟨cd, mem, rgq x0 x1 1 x3 x4 x5 y z, lk ++ [(1, 0)], (st + 1), fl, 1⟩ := by
  exact runQ_on (cs := loopS n) ⟨(by decide : (0 : Int) ≤ 0), by rw [len19]; show (0 : Int) < 19; decide⟩ hs (o0 n) rfl
theorem q_1 (hn : n ≤ 40) (hs : (st : Int) ≠ fuel) : runQ (loopS n) fuel (f + 1) ⟨cd, mem, rgq x0 x1 x2 x3 x4 x5 y z, lk, st, fl, 1⟩ = runQ (loopS n) fuel f ⟨cd, mem, rgq x0 x1 x2 n x4 x5 y z, lk ++ [(1, 1)], (st + 1), fl, 2⟩ := by
  have e : u64 (n : Int) * 2 ^ (16 * (0 : Int)).toNat % 18446744073709551616 = n := by
    have : (16 * (0 : Int)).toNat = 0 := rfl
    rw [this]; unfold u64; omega
  have ha : (QS.next (QS.tick ⟨cd, mem, rgq x0 x1 x2 x3 x4 x5 y z, lk, st, fl, 1⟩)).act ⟨1, 3, 0, 0, 0, n⟩ = (⟨cd, mem, rgq x0 x1 x2 (u64 (n : Int) * 2 ^ (16 * (0 : Int)).toNat % 18446744073709551616) x4 x5 y z, lk ++ [(1, 1)], (st + 1), fl, 2⟩, true) := rfl
  rw [e] at ha
  exact runQ_on (cs := loopS n) ⟨(by decide : (0 : Int) ≤ 1), by rw [len19]; show (1 : Int) < 19; decide⟩ hs (o1 n hn) ha
theorem q_2 (hs : (st : Int) ≠ fuel) : runQ (loopS n) fuel (f + 1) ⟨cd, mem, rgq x0 x1 x2 x3 x4 x5 y z, lk, st, fl, 2⟩ = runQ (loopS n) fuel f ⟨cd, mem, rgq x0 x1 x2 x3 x4 x5 y z, lk ++ [(1, 2)], (st + 1), lessF x0 x3, 3⟩ := by
  exact runQ_on (cs := loopS n) ⟨(by decide : (0 : Int) ≤ 2), by rw [len19]; show (2 : Int) < 19; decide⟩ hs (o2 n) rfl
theorem q_3t (hc : fl.c = false) (hs : (st : Int) ≠ fuel) : runQ (loopS n) fuel (f + 1) ⟨cd, mem, rgq x0 x1 x2 x3 x4 x5 y z, lk, st, fl, 3⟩ = runQ (loopS n) fuel f ⟨cd, mem, rgq x0 x1 x2 x3 x4 1 y z, lk ++ [(1, 3)], (st + 1), fl, 4⟩ := by
  obtain ⟨fn, fz, fc, fv⟩ := fl
  simp only at hc
  subst hc
  exact runQ_on (cs := loopS n) ⟨(by decide : (0 : Int) ≤ 3), by rw [len19]; show (3 : Int) < 19; decide⟩ hs (o3 n) rfl
theorem q_3f (hc : fl.c = true) (hs : (st : Int) ≠ fuel) : runQ (loopS n) fuel (f + 1) ⟨cd, mem, rgq x0 x1 x2 x3 x4 x5 y z, lk, st, fl, 3⟩ = runQ (loopS n) fuel f ⟨cd, mem, rgq x0 x1 x2 x3 x4 0 y z, lk ++ [(1, 3)], (st + 1), fl, 4⟩ := by
  obtain ⟨fn, fz, fc, fv⟩ := fl
  simp only at hc
  subst hc
  exact runQ_on (cs := loopS n) ⟨(by decide : (0 : Int) ≤ 3), by rw [len19]; show (3 : Int) < 19; decide⟩ hs (o3 n) rfl
theorem q_4t (hs : (st : Int) ≠ fuel) : runQ (loopS n) fuel (f + 1) ⟨cd, mem, rgq x0 x1 x2 x3 x4 0 y z, lk, st, fl, 4⟩ = runQ (loopS n) fuel f ⟨cd, mem, rgq x0 x1 x2 x3 x4 0 y z, lk ++ [(1, 4)] ++ [(2, 1)], (st + 1), fl, 13⟩ := by
  exact runQ_on (cs := loopS n) ⟨(by decide : (0 : Int) ≤ 4), by rw [len19]; show (4 : Int) < 19; decide⟩ hs (o4 n) rfl
theorem q_4f (hs : (st : Int) ≠ fuel) : runQ (loopS n) fuel (f + 1) ⟨cd, mem, rgq x0 x1 x2 x3 x4 1 y z, lk, st, fl, 4⟩ = runQ (loopS n) fuel f ⟨cd, mem, rgq x0 x1 x2 x3 x4 1 y z, lk ++ [(1, 4)] ++ [(2, 0)], (st + 1), fl, 5⟩ := by
  exact runQ_on (cs := loopS n) ⟨(by decide : (0 : Int) ≤ 4), by rw [len19]; show (4 : Int) < 19; decide⟩ hs (o4 n) rfl
theorem q_5 (hx : x0 < 1000) (hs : (st : Int) ≠ fuel) : runQ (loopS n) fuel (f + 1) ⟨cd, mem, rgq x0 x1 x2 x3 x4 x5 y z, lk, st, fl, 5⟩ = runQ (loopS n) fuel f ⟨cd, mem, rgq x0 x1 x2 x3 x4 x5 x0 z, lk ++ [(1, 5)], (st + 1), fl, 6⟩ := by
  have e : (x0 + u64 0) % 18446744073709551616 = x0 := by
    have : u64 0 = 0 := rfl
    rw [this]; omega
  have ha : (QS.next (QS.tick ⟨cd, mem, rgq x0 x1 x2 x3 x4 x5 y z, lk, st, fl, 5⟩)).act ⟨10, 28, 0, 0, 0, 0⟩ = (⟨cd, mem, rgq x0 x1 x2 x3 x4 x5 ((x0 + u64 0) % 18446744073709551616) z, lk ++ [(1, 5)], (st + 1), fl, 6⟩, true) := rfl
  rw [e] at ha
  exact runQ_on (cs := loopS n) ⟨(by decide : (0 : Int) ≤ 5), by rw [len19]; show (5 : Int) < 19; decide⟩ hs (o5 n) ha
theorem q_6 (hx : y < 1000) (hs : (st : Int) ≠ fuel) : runQ (loopS n) fuel (f + 1) ⟨cd, mem, rgq x0 x1 x2 x3 x4 x5 y z, lk, st, fl, 6⟩ = runQ (loopS n) fuel f ⟨cd, mem, rgq x0 x1 x2 x3 x4 x5 y 0, lk ++ [(1, 6)], (st + 1), fl, 7⟩ := by
  have e : y / 2 ^ (u64 16) = 0 := by
    have : u64 16 = 16 := rfl
    rw [this]; omega
  have ha : (QS.next (QS.tick ⟨cd, mem, rgq x0 x1 x2 x3 x4 x5 y z, lk, st, fl, 6⟩)).act ⟨13, 29, 28, 0, 0, 16⟩ = (⟨cd, mem, rgq x0 x1 x2 x3 x4 x5 y (y / 2 ^ (u64 16)), lk ++ [(1, 6)], (st + 1), fl, 7⟩, true) := rfl
  rw [e] at ha
  exact runQ_on (cs := loopS n) ⟨(by decide : (0 : Int) ≤ 6), by rw [len19]; show (6 : Int) < 19; decide⟩ hs (o6 n) ha
theorem q_7 (hs : (st : Int) ≠ fuel) : runQ (loopS n) fuel (f + 1) ⟨cd, mem, rgq x0 x1 x2 x3 x4 x5 y 0, lk, st, fl, 7⟩ = runQ (loopS n) fuel f ⟨cd, mem, rgq x0 x1 x2 x3 x4 x5 y 0, lk ++ [(1, 7)] ++ [(2, 0)], (st + 1), fl, 8⟩ := by
  exact runQ_on (cs := loopS n) ⟨(by decide : (0 : Int) ≤ 7), by rw [len19]; show (7 : Int) < 19; decide⟩ hs (o7 n) rfl
theorem q_8 (hx : y < 1000) (hs : (st : Int) ≠ fuel) : runQ (loopS n) fuel (f + 1) ⟨cd, mem, rgq x0 x1 x2 x3 x4 x5 y z, lk, st, fl, 8⟩ = runQ (loopS n) fuel f ⟨cd, mem, rgq x0 x1 x2 x3 x4 x5 (8 * y) z, lk ++ [(1, 8)], (st + 1), fl, 9⟩ := by
  have e : y * 2 ^ (u64 3) % 18446744073709551616 = 8 * y := by
    have : u64 3 = 3 := rfl
    rw [this]; omega
  have ha : (QS.next (QS.tick ⟨cd, mem, rgq x0 x1 x2 x3 x4 x5 y z, lk, st, fl, 8⟩)).act ⟨12, 28, 28, 0, 0, 3⟩ = (⟨cd, mem, rgq x0 x1 x2 x3 x4 x5 (y * 2 ^ (u64 3) % 18446744073709551616) z, lk ++ [(1, 8)], (st + 1), fl, 9⟩, true) := rfl
  rw [e] at ha
  exact runQ_on (cs := loopS n) ⟨(by decide : (0 : Int) ≤ 8), by rw [len19]; show (8 : Int) < 19; decide⟩ hs (o8 n) ha
theorem q_9 (hx : y < 1000) (hy : y < mem.length) (hs : (st : Int) ≠ fuel) : runQ (loopS n) fuel (f + 1) ⟨cd, mem, rgq x0 x1 x2 x3 x4 x5 (8 * y) z, lk, st, fl, 9⟩ = runQ (loopS n) fuel f ⟨cd, mem, rgq x0 x1 x2 x3 (mem.getD y 0) x5 (8 * y) z, lk ++ [(1, 9)] ++ [(3, s64 (8 * y))], (st + 1), fl, 10⟩ := by
  have ea : (QS.next (QS.tick ⟨cd, mem, rgq x0 x1 x2 x3 x4 x5 (8 * y) z, lk, st, fl, 9⟩)).addr ⟨18, 4, 28, 0, 0, 0⟩ = 8 * y := by
    unfold QS.addr
    show (8 * y + 8 * 0 % 18446744073709551616) % 18446744073709551616 = 8 * y
    omega
  have ha : (QS.next (QS.tick ⟨cd, mem, rgq x0 x1 x2 x3 x4 x5 (8 * y) z, lk, st, fl, 9⟩)).act ⟨18, 4, 28, 0, 0, 0⟩ = (⟨cd, mem, rgq x0 x1 x2 x3 (mem.getD y 0) x5 (8 * y) z, lk ++ [(1, 9)] ++ [(3, s64 (8 * y))], (st + 1), fl, 10⟩, true) := by
    unfold QS.act
    rw [if_pos (Or.inl rfl)]
    unfold QS.touch
    rw [ea]
    have hm : (QS.next (QS.tick ⟨cd, mem, rgq x0 x1 x2 x3 x4 x5 (8 * y) z, lk, st, fl, 9⟩)).mem = mem := rfl
    rw [hm]
    have hb : ¬ (8 * y % 8 ≠ 0 ∨ mem.length ≤ 8 * y / 8) := by omega
    have e8 : 8 * y / 8 = y := by omega
    simp only
    rw [if_neg hb, if_pos trivial, e8]
    rfl
  exact runQ_on (cs := loopS n) ⟨(by decide : (0 : Int) ≤ 9), by rw [len19]; show (9 : Int) < 19; decide⟩ hs (o9 n) ha
theorem q_13 (hx : x0 < 1000) (hs : (st : Int) ≠ fuel) : runQ (loopS n) fuel (f + 1) ⟨cd, mem, rgq x0 x1 x2 x3 x4 x5 y z, lk, st, fl, 13⟩ = runQ (loopS n) fuel f ⟨cd, mem, rgq x0 x1 x2 x3 x4 x5 x0 z, lk ++ [(1, 13)], (st + 1), fl, 14⟩ := by
  have e : (x0 + u64 0) % 18446744073709551616 = x0 := by
    have : u64 0 = 0 := rfl
    rw [this]; omega
  have ha : (QS.next (QS.tick ⟨cd, mem, rgq x0 x1 x2 x3 x4 x5 y z, lk, st, fl, 13⟩)).act ⟨10, 28, 0, 0, 0, 0⟩ = (⟨cd, mem, rgq x0 x1 x2 x3 x4 x5 ((x0 + u64 0) % 18446744073709551616) z, lk ++ [(1, 13)], (st + 1), fl, 14⟩, true) := rfl
  rw [e] at ha
  exact runQ_on (cs := loopS n) ⟨(by decide : (0 : Int) ≤ 13), by rw [len19]; show (13 : Int) < 19; decide⟩ hs (o13 n) ha
theorem q_14 (hx : y < 1000) (hs : (st : Int) ≠ fuel) : runQ (loopS n) fuel (f + 1) ⟨cd, mem, rgq x0 x1 x2 x3 x4 x5 y z, lk, st, fl, 14⟩ = runQ (loopS n) fuel f ⟨cd, mem, rgq x0 x1 x2 x3 x4 x5 y 0, lk ++ [(1, 14)], (st + 1), fl, 15⟩ := by
  have e : y / 2 ^ (u64 16) = 0 := by
    have : u64 16 = 16 := rfl
    rw [this]; omega
  have ha : (QS.next (QS.tick ⟨cd, mem, rgq x0 x1 x2 x3 x4 x5 y z, lk, st, fl, 14⟩)).act ⟨13, 29, 28, 0, 0, 16⟩ = (⟨cd, mem, rgq x0 x1 x2 x3 x4 x5 y (y / 2 ^ (u64 16)), lk ++ [(1, 14)], (st + 1), fl, 15⟩, true) := rfl
  rw [e] at ha
  exact runQ_on (cs := loopS n) ⟨(by decide : (0 : Int) ≤ 14), by rw [len19]; show (14 : Int) < 19; decide⟩ hs (o14 n) ha
theorem q_15 (hs : (st : Int) ≠ fuel) : runQ (loopS n) fuel (f + 1) ⟨cd, mem, rgq x0 x1 x2 x3 x4 x5 y 0, lk, st, fl, 15⟩ = runQ (loopS n) fuel f ⟨cd, mem, rgq x0 x1 x2 x3 x4 x5 y 0, lk ++ [(1, 15)] ++ [(2, 0)], (st + 1), fl, 16⟩ := by
  exact runQ_on (cs := loopS n) ⟨(by decide : (0 : Int) ≤ 15), by rw [len19]; show (15 : Int) < 19; decide⟩ hs (o15 n) rfl
theorem q_16 (hx : y < 1000) (hs : (st : Int) ≠ fuel) : runQ (loopS n) fuel (f + 1) ⟨cd, mem, rgq x0 x1 x2 x3 x4 x5 y z, lk, st, fl, 16⟩ = runQ (loopS n) fuel f ⟨cd, mem, rgq x0 x1 x2 x3 x4 x5 (8 * y) z, lk ++ [(1, 16)], (st + 1), fl, 17⟩ := by
  have e : y * 2 ^ (u64 3) % 18446744073709551616 = 8 * y := by
    have : u64 3 = 3 := rfl
    rw [this]; omega
  have ha : (QS.next (QS.tick ⟨cd, mem, rgq x0 x1 x2 x3 x4 x5 y z, lk, st, fl, 16⟩)).act ⟨12, 28, 28, 0, 0, 3⟩ = (⟨cd, mem, rgq x0 x1 x2 x3 x4 x5 (y * 2 ^ (u64 3) % 18446744073709551616) z, lk ++ [(1, 16)], (st + 1), fl, 17⟩, true) := rfl
  rw [e] at ha
  exact runQ_on (cs := loopS n) ⟨(by decide : (0 : Int) ≤ 16), by rw [len19]; show (16 : Int) < 19; decide⟩ hs (o16 n) ha
theorem q_17 (hx : y < 1000) (hy : y < mem.length) (hs : (st : Int) ≠ fuel) : runQ (loopS n) fuel (f + 1) ⟨cd, mem, rgq x0 x1 x2 x3 x4 x5 (8 * y) z, lk, st, fl, 17⟩ = runQ (loopS n) fuel f ⟨cd, mem.set y x1, rgq x0 x1 x2 x3 x4 x5 (8 * y) z, lk ++ [(1, 17)] ++ [(3, s64 (8 * y))], (st + 1), fl, 18⟩ := by
  have ea : (QS.next (QS.tick ⟨cd, mem, rgq x0 x1 x2 x3 x4 x5 (8 * y) z, lk, st, fl, 17⟩)).addr ⟨19, 1, 28, 0, 0, 0⟩ = 8 * y := by
    unfold QS.addr
    show (8 * y + 8 * 0 % 18446744073709551616) % 18446744073709551616 = 8 * y
    omega
  have ha : (QS.next (QS.tick ⟨cd, mem, rgq x0 x1 x2 x3 x4 x5 (8 * y) z, lk, st, fl, 17⟩)).act ⟨19, 1, 28, 0, 0, 0⟩ = (⟨cd, mem.set y x1, rgq x0 x1 x2 x3 x4 x5 (8 * y) z, lk ++ [(1, 17)] ++ [(3, s64 (8 * y))], (st + 1), fl, 18⟩, true) := by
    unfold QS.act
    rw [if_pos (Or.inr rfl)]
    unfold QS.touch
    rw [ea]
    have hm : (QS.next (QS.tick ⟨cd, mem, rgq x0 x1 x2 x3 x4 x5 (8 * y) z, lk, st, fl, 17⟩)).mem = mem := rfl
    rw [hm]
    have hb : ¬ (8 * y % 8 ≠ 0 ∨ mem.length ≤ 8 * y / 8) := by omega
    have e8 : 8 * y / 8 = y := by omega
    simp only
    rw [if_neg hb, if_neg (by decide), e8]
    rfl
  exact runQ_on (cs := loopS n) ⟨(by decide : (0 : Int) ≤ 17), by rw [len19]; show (17 : Int) < 19; decide⟩ hs (o17 n) ha
theorem q_10 (hs : (st : Int) ≠ fuel) : runQ (loopS n) fuel (f + 1) ⟨cd, mem, rgq x0 x1 x2 x3 x4 x5 y z, lk, st, fl, 10⟩ = runQ (loopS n) fuel f ⟨cd, mem, rgq x0 ((x1 + x4) % 18446744073709551616) x2 x3 x4 x5 y z, lk ++ [(1, 10)], (st + 1), fl, 11⟩ := by
  exact runQ_on (cs := loopS n) ⟨(by decide : (0 : Int) ≤ 10), by rw [len19]; show (10 : Int) < 19; decide⟩ hs (o10 n) rfl
theorem q_11 (hx : x0 < 1000) (hs : (st : Int) ≠ fuel) : runQ (loopS n) fuel (f + 1) ⟨cd, mem, rgq x0 x1 1 x3 x4 x5 y z, lk, st, fl, 11⟩ = runQ (loopS n) fuel f ⟨cd, mem, rgq (x0 + 1) x1 1 x3 x4 x5 y z, lk ++ [(1, 11)], (st + 1), fl, 12⟩ := by
  have e : (x0 + 1) % 18446744073709551616 = x0 + 1 := by omega
  have ha : (QS.next (QS.tick ⟨cd, mem, rgq x0 x1 1 x3 x4 x5 y z, lk, st, fl, 11⟩)).act ⟨3, 0, 0, 2, 0, 0⟩ = (⟨cd, mem, rgq ((x0 + 1) % 18446744073709551616) x1 1 x3 x4 x5 y z, lk ++ [(1, 11)], (st + 1), fl, 12⟩, true) := rfl
  rw [e] at ha
  exact runQ_on (cs := loopS n) ⟨(by decide : (0 : Int) ≤ 11), by rw [len19]; show (11 : Int) < 19; decide⟩ hs (o11 n) ha
theorem q_12 (hs : (st : Int) ≠ fuel) : runQ (loopS n) fuel (f + 1) ⟨cd, mem, rgq x0 x1 x2 x3 x4 x5 y z, lk, st, fl, 12⟩ = runQ (loopS n) fuel f ⟨cd, mem, rgq x0 x1 x2 x3 x4 x5 y z, lk ++ [(1, 12)], (st + 1), fl, 2⟩ := by
  exact runQ_on (cs := loopS n) ⟨(by decide : (0 : Int) ≤ 12), by rw [len19]; show (12 : Int) < 19; decide⟩ hs (o12 n) rfl
theorem q_18 (hs : (st : Int) ≠ fuel) : runQ (loopS n) fuel (f + 1) ⟨cd, mem, rgq x0 x1 x2 x3 x4 x5 y z, lk, st, fl, 18⟩ = some ⟨1, mem, rgq x0 x1 x2 x3 x4 x5 y z, lk ++ [(1, 18)], (st + 1), fl, 19⟩ := by
  exact runQ_off (cs := loopS n) ⟨(by decide : (0 : Int) ≤ 18), by rw [len19]; show (18 : Int) < 19; decide⟩ hs (o18 n) rfl
end
end Go.Proofs.YtdfglgnflldkpaaDoor.Mir
namespace Go.Proofs.YtdfglgnflldkpaaDoor.Mir
open Go
set_option linter.unusedVariables false
set_option linter.unusedSimpArgs false
set_option maxHeartbeats 8000000
set_option maxRecDepth 20000
def j1 (n : Nat) : MI := ⟨1, 3, 0, 0, 0, (8 * n : Nat)⟩
def j2 : MI := ⟨15, 0, 1, 3, 0, 0⟩
def j3 : MI := ⟨21, 0, 0, 0, 2, 5⟩
def j4 : MI := ⟨18, 4, 1, 0, 0, 0⟩
def j5 : MI := ⟨3, 2, 2, 4, 0, 0⟩
def j6 : MI := ⟨10, 1, 1, 0, 0, 8⟩
def j7 : MI := ⟨20, 0, 0, 0, 0, -5⟩
def j8 : MI := ⟨19, 2, 1, 0, 0, 0⟩
def j9 (c : Int) : MI := ⟨24, 0, 0, 0, 0, c⟩
def loopC (n : Nat) (c : Int) : List Int := [wordF (j1 n), wordF j2, wordF j3, wordF j4, wordF j5, wordF j6, wordF j7, wordF j8, wordF (j9 c)]
theorem rj2 : rightB j2 = true := by kernel_rfl
theorem rj3 : rightB j3 = true := by kernel_rfl
theorem rj4 : rightB j4 = true := by kernel_rfl
theorem rj5 : rightB j5 = true := by kernel_rfl
theorem rj6 : rightB j6 = true := by kernel_rfl
theorem rj7 : rightB j7 = true := by kernel_rfl
def rgs (x1 x2 x3 x4 : Nat) : List Nat := [0, x1, x2, x3, x4, 0, 0, 0, 0, 0, 0, 0, 0, 0, 0, 0, 0, 0, 0, 0, 0, 0, 0, 0, 0, 0, 0, 0, 0, 0, 0]
def sumF (l : List Nat) : Nat → Nat
  | 0 => 0
  | j + 1 => (sumF l j + l.getD j 0) % 18446744073709551616
section
variable {n : Nat} {c fuel : Int} {f : Nat} {mem : List Nat} {x1 x2 x3 x4 : Nat} {lk : List (Int × Int)} {st : Nat} {fl : FL} {cd : Int}
theorem len9 : ((loopC n c).length : Int) = 9 := rfl
theorem st2 (hs : (st : Int) ≠ fuel) : runQ (loopC n c) fuel (f + 1) ⟨cd, mem, rgs x1 x2 x3 x4, lk, st, fl, 1⟩ = runQ (loopC n c) fuel f ⟨cd, mem, rgs x1 x2 x3 x4, lk ++ [(1, 1)], st + 1, lessF x1 x3, 2⟩ :=
  runQ_on (cs := loopC n c) ⟨(by decide : (0 : Int) ≤ 1), by rw [len9]; show (1 : Int) < 9; decide⟩ hs (of_word rj2 (by simp [j2])) rfl
theorem st3 (hs : (st : Int) ≠ fuel) : runQ (loopC n c) fuel (f + 1) ⟨cd, mem, rgs x1 x2 x3 x4, lk, st, fl, 2⟩ = runQ (loopC n c) fuel f (if fl.c = true then ⟨cd, mem, rgs x1 x2 x3 x4, lk ++ [(1, 2)] ++ [(2, 1)], st + 1, fl, 7⟩ else ⟨cd, mem, rgs x1 x2 x3 x4, lk ++ [(1, 2)] ++ [(2, 0)], st + 1, fl, 3⟩) := by
  refine runQ_on (cs := loopC n c) (i := j3) ⟨(by decide : (0 : Int) ≤ 2), by rw [len9]; show (2 : Int) < 9; decide⟩ hs (of_word rj3 (by simp [j3])) ?_
  obtain ⟨fn, fz, fc, fv⟩ := fl
  cases fc <;> rfl
theorem ad0 (hx : x1 < 18446744073709551616) (st : Nat) (at_ : Int) (i : MI) (h1 : i.n = 1) (h2 : i.imm = 0) : (QS.next (QS.tick ⟨cd, mem, rgs x1 x2 x3 x4, lk, st, fl, at_⟩)).addr i = x1 := by
  unfold QS.addr
  rw [h1, h2]
  show (x1 + 8 * 0 % 18446744073709551616) % 18446744073709551616 = x1
  omega
theorem st4 (j : Nat) (hj : j < mem.length) (hx : 8 * j < 18446744073709551616) (hs : (st : Int) ≠ fuel) : runQ (loopC n c) fuel (f + 1) ⟨cd, mem, rgs (8 * j) x2 x3 x4, lk, st, fl, 3⟩ = runQ (loopC n c) fuel f ⟨cd, mem, rgs (8 * j) x2 x3 (mem.getD j 0), lk ++ [(1, 3)] ++ [(3, s64 (8 * j))], st + 1, fl, 4⟩ := by
  refine runQ_on (cs := loopC n c) (i := j4) ⟨(by decide : (0 : Int) ≤ 3), by rw [len9]; show (3 : Int) < 9; decide⟩ hs (of_word rj4 (by simp [j4])) ?_
  unfold QS.act
  rw [if_pos (show j4.op = 18 ∨ j4.op = 19 from Or.inl rfl)]
  unfold QS.touch
  rw [ad0 hx st 3 j4 rfl rfl]
  have hm : (QS.next (QS.tick ⟨cd, mem, rgs (8 * j) x2 x3 x4, lk, st, fl, 3⟩)).mem = mem := rfl
  rw [hm]
  have hb : ¬ (8 * j % 8 ≠ 0 ∨ mem.length ≤ 8 * j / 8) := by omega
  have e8 : 8 * j / 8 = j := by omega
  simp only
  rw [if_neg hb, if_pos (show j4.op = 18 from rfl), e8]
  rfl
theorem st5 (hs : (st : Int) ≠ fuel) : runQ (loopC n c) fuel (f + 1) ⟨cd, mem, rgs x1 x2 x3 x4, lk, st, fl, 4⟩ = runQ (loopC n c) fuel f ⟨cd, mem, rgs x1 ((x2 + x4) % 18446744073709551616) x3 x4, lk ++ [(1, 4)], st + 1, fl, 5⟩ :=
  runQ_on (cs := loopC n c) ⟨(by decide : (0 : Int) ≤ 4), by rw [len9]; show (4 : Int) < 9; decide⟩ hs (of_word rj5 (by simp [j5])) rfl
theorem st6 (j : Nat) (hx : 8 * j < 10000) (hs : (st : Int) ≠ fuel) : runQ (loopC n c) fuel (f + 1) ⟨cd, mem, rgs (8 * j) x2 x3 x4, lk, st, fl, 5⟩ = runQ (loopC n c) fuel f ⟨cd, mem, rgs (8 * (j + 1)) x2 x3 x4, lk ++ [(1, 5)], st + 1, fl, 6⟩ := by
  have e : (8 * j + u64 8) % 18446744073709551616 = 8 * (j + 1) := by
    have : u64 8 = 8 := rfl
    rw [this]; omega
  have ha : (QS.next (QS.tick ⟨cd, mem, rgs (8 * j) x2 x3 x4, lk, st, fl, 5⟩)).act j6 = (⟨cd, mem, rgs ((8 * j + u64 8) % 18446744073709551616) x2 x3 x4, lk ++ [(1, 5)], st + 1, fl, 6⟩, true) := rfl
  rw [e] at ha
  exact runQ_on (cs := loopC n c) ⟨(by decide : (0 : Int) ≤ 5), by rw [len9]; show (5 : Int) < 9; decide⟩ hs (of_word rj6 (by simp [j6])) ha
theorem st7 (hs : (st : Int) ≠ fuel) : runQ (loopC n c) fuel (f + 1) ⟨cd, mem, rgs x1 x2 x3 x4, lk, st, fl, 6⟩ = runQ (loopC n c) fuel f ⟨cd, mem, rgs x1 x2 x3 x4, lk ++ [(1, 6)], st + 1, fl, 1⟩ :=
  runQ_on (cs := loopC n c) ⟨(by decide : (0 : Int) ≤ 6), by rw [len9]; show (6 : Int) < 9; decide⟩ hs (of_word rj7 (by simp [j7])) rfl
end
theorem lessC (a b : Nat) : (lessF a b).c = decide (b ≤ a) := rfl
/-- The rounds of the loop. -/
theorem rounds (n : Nat) (hn : n ≤ 40) (c fuel : Int) (mem : List Nat) (hm : n < mem.length) : ∀ (d j : Nat), j + d = n → ∀ (f : Nat) (x4 : Nat) (lk : List (Int × Int)) (fl : FL), (1 + 6 * n : Int) ≤ fuel →
    ∃ x4' lk' fl', lk'.length = lk.length + 8 * d ∧ runQ (loopC n c) fuel (f + 6 * d) ⟨0, mem, rgs (8 * j) (sumF mem j) (8 * n) x4, lk, 1 + 6 * j, fl, 1⟩ = runQ (loopC n c) fuel f ⟨0, mem, rgs (8 * n) (sumF mem n) (8 * n) x4', lk', 1 + 6 * n, fl', 1⟩
  | 0, j, h, f, x4, lk, fl, hf => by
    have : j = n := by omega
    subst this
    exact ⟨x4, lk, fl, rfl, rfl⟩
  | d + 1, j, h, f, x4, lk, fl, hf => by
    have hc : (lessF (8 * j) (8 * n)).c = false := by rw [lessC]; exact decide_eq_false (by omega)
    have e : f + 6 * (d + 1) = f + 6 * d + 1 + 1 + 1 + 1 + 1 + 1 := by omega
    rw [e, st2 (by omega), st3 (by omega), hc, if_neg (by decide), st4 j (by omega) (by omega) (by omega), st5 (by omega), st6 j (by omega) (by omega), st7 (by omega)]
    obtain ⟨x4', lk', fl', h1, h2⟩ := rounds n hn c fuel mem hm d (j + 1) (by omega) f (mem.getD j 0) (lk ++ [(1, 1)] ++ [(1, 2)] ++ [(2, 0)] ++ [(1, 3)] ++ [(3, s64 (8 * j))] ++ [(1, 4)] ++ [(1, 5)] ++ [(1, 6)]) (lessF (8 * j) (8 * n)) hf
    refine ⟨x4', lk', fl', ?_, ?_⟩
    · rw [h1]; simp only [List.length_append, List.length_singleton]; omega
    · rw [← h2]
      have e2 : 1 + 6 * j + 1 + 1 + 1 + 1 + 1 + 1 = 1 + 6 * (j + 1) := by omega
      rw [e2]
      rfl
end Go.Proofs.YtdfglgnflldkpaaDoor.Mir
namespace Go.Proofs.YtdfglgnflldkpaaDoor.Mir
open Go
set_option linter.unusedVariables false
set_option linter.unusedSimpArgs false
set_option maxHeartbeats 8000000
set_option maxRecDepth 20000
/-- The rounds of the loop. -/
theorem q_rounds (n : Nat) (hn : n ≤ 40) (fuel cd : Int) (mem : List Nat) (hm : n < mem.length) : ∀ (d j : Nat), j + d = n → ∀ (f : Nat) (x4 x5 y z : Nat) (lk : List (Int × Int)) (st : Nat) (fl : FL), (st : Int) + 11 * d ≤ fuel →
    ∃ x4' x5' y' z' lk' fl', runQ (loopS n) fuel (f + 11 * d) ⟨cd, mem, rgq j (sumF mem j) 1 n x4 x5 y z, lk, st, fl, 2⟩ = runQ (loopS n) fuel f ⟨cd, mem, rgq n (sumF mem n) 1 n x4' x5' y' z', lk', st + 11 * d, fl', 2⟩
  | 0, j, h, f, x4, x5, y, z, lk, st, fl, hf => by
    have : j = n := by omega
    subst this
    exact ⟨x4, x5, y, z, lk, fl, rfl⟩
  | d + 1, j, h, f, x4, x5, y, z, lk, st, fl, hf => by
    have hc : (lessF j n).c = false := by rw [lessC]; exact decide_eq_false (by omega)
    have e : f + 11 * (d + 1) = f + 11 * d + 1 + 1 + 1 + 1 + 1 + 1 + 1 + 1 + 1 + 1 + 1 := by omega
    rw [e, q_2 (by omega), q_3t hc (by omega), q_4f (by omega), q_5 (by omega) (by omega), q_6 (by omega) (by omega), q_7 (by omega), q_8 (by omega) (by omega), q_9 (by omega) (by omega) (by omega), q_10 (by omega), q_11 (by omega) (by omega), q_12 (by omega)]
    have e2 : sumF mem (j + 1) = (sumF mem j + mem.getD j 0) % 18446744073709551616 := rfl
    rw [← e2]
    obtain ⟨a, b, c, u, v, w, h2⟩ := q_rounds n hn fuel cd mem hm d (j + 1) (by omega) f _ _ _ _ _ (st + 1 + 1 + 1 + 1 + 1 + 1 + 1 + 1 + 1 + 1 + 1) _ (by omega)
    refine ⟨a, b, c, u, v, w, h2.trans ?_⟩
    have e3 : st + 1 + 1 + 1 + 1 + 1 + 1 + 1 + 1 + 1 + 1 + 1 + 11 * d = st + 11 * (d + 1) := by omega
    rw [e3]
/-- The whole of it. -/
theorem q_end (n : Nat) (hn : n ≤ 40) (fuel : Int) (hf : 11 * n + 11 ≤ fuel) (mem : List Nat) (hm : n < mem.length) (f : Nat) :
    ∃ s, runQ (loopS n) fuel (f + 11 * n + 11) (q0 3 mem) = some s ∧ s.code = 1 ∧ s.mem = mem.set n (sumF mem n) := by
  have e0 : q0 3 mem = ⟨3, mem, rgq 0 (sumF mem 0) 0 0 0 0 0 0, [], 0, f00, 0⟩ := rfl
  have hc : (lessF n n).c = true := by rw [lessC]; exact decide_eq_true (by omega)
  have e : f + 11 * n + 11 = f + 1 + 1 + 1 + 1 + 1 + 1 + 1 + 1 + 1 + 11 * n + 1 + 1 := by omega
  obtain ⟨a, b, c, u, v, w, h2⟩ := q_rounds n hn fuel 3 mem hm n 0 (by omega) (f + 1 + 1 + 1 + 1 + 1 + 1 + 1 + 1 + 1) 0 0 0 0 ([] ++ [(1, 0)] ++ [(1, 1)]) (0 + 1 + 1) f00 (by omega)
  rw [e, e0, q_0 (by omega), q_1 hn (by omega), h2]
  rw [q_2 (by omega), q_3f hc (by omega), q_4t (by omega), q_13 (by omega) (by omega), q_14 (by omega) (by omega), q_15 (by omega), q_16 (by omega) (by omega), q_17 (by omega) hm (by omega), q_18 (by omega)]
  exact ⟨_, rfl, rfl, rfl⟩
end Go.Proofs.YtdfglgnflldkpaaDoor.Mir
namespace Go.Proofs.YtdfglgnflldkpaaDoor
open Go Mir
set_option linter.unusedVariables false
set_option linter.unusedSimpArgs false
set_option maxHeartbeats 8000000
set_option maxRecDepth 20000
theorem of_words {x : AV} {t e : TypeId} (hu : Tryd.prog.underlying t = some (.slice e)) (he : Tryd.prog.underlying e = some (.int .u64)) (h : IsT Tryd.prog t x) :
    ∃ l : List Nat, x = .ro false (natsU l) ∧ (∀ n ∈ l, n < 18446744073709551616) := by
  obtain ⟨l, rfl, hw, hl⟩ := h.of_ints hu he
  refine ⟨l.map Int.toNat, ?_, ?_⟩
  · unfold natsU
    rw [List.map_map]
    congr 1
    apply List.map_congr_left
    intro n hn
    obtain ⟨h1, h2⟩ := wf_u64 (hw n hn)
    show AV.int .u64 n = AV.int .u64 ((n.toNat : Nat) : Int)
    rw [Int.toNat_of_nonneg h1]
  · intro n hn
    obtain ⟨z, hz, rfl⟩ := List.mem_map.1 hn
    have := wf_u64 (hw z hz)
    omega
theorem w_lt {i : MI} (h : rightB i = true) : 0 ≤ wordF i ∧ wordF i < 4294967296 := ⟨(word_all h).1, (word_all h).2.1⟩
theorem sum_app (l : List Nat) (x : Nat) : ∀ j, j ≤ l.length → sumF (l ++ [x]) j = sumF l j
  | 0, _ => rfl
  | j + 1, h => by
    have e : (l ++ [x]).getD j 0 = l.getD j 0 := by
      rw [List.getD_eq_getElem?_getD, List.getD_eq_getElem?_getD, List.getElem?_append_left (by omega)]
    simp only [sumF, sum_app l x j (by omega), e]
theorem stRs (T : Nat) (j : Nat) (H : AHeap) (z cs : List AV) (hz : z.length = 35) (hc : cs.length = 35) (e : H[j]? = some ⟨T, 35, [.agg z]⟩) : stS (storeV 35 (.ptr j 1 0 0) (.agg cs) H) = some (.tup [], H.set j ⟨T, 35, [.agg cs]⟩) := by
  have e2 : putC z 0 cs = cs := by
    unfold putC
    rw [List.take_zero, List.nil_append, List.drop_of_length_le (by omega), List.append_nil]
  have e3 : (AV.agg cs).cells = cs := rfl
  have e4 : (AV.agg z).cells = z := rfl
  have hs : storable (.agg cs) = true := rfl
  unfold storeV
  simp only [e, List.length_singleton, hs, List.getElem?_cons_zero, e3]
  rw [if_pos (by refine ⟨?_, ?_, ?_⟩ <;> first | trivial | exact hc), e4, if_pos (by omega), e2]
  rfl
theorem first24 (G : Globs) (k : Nat) : alembiclaw24_first.f G (k + 80) [] [] = some (.bool true, []) := by kernel_rfl
/-- The blocks of the law. -/
def hpT (C : AV) (mem : List Nat) : AHeap := [⟨24, 3, [C]⟩, ⟨43, 1, natsU mem⟩]
def xsT (l : List Nat) (s : Nat) (j : Nat) : List AV := [.ro false (natsU l), .bool true, Nn l.length, .ptr 0 1 0 0, .sl 1 (l.length + 1) 0 (l.length + 1) 1, Un s, Nn j]
theorem sl_loop (G : Globs) (k : Nat) (self : Den) (l : List Nat) (hl : l.length ≤ 40) (C : AV) (hC : belowB 2 C = true) (mem : List Nat) : ∀ (d j n : Nat), j + d = l.length → d < n →
    loopN (alembiclaw24_SelectLoops.l12 G k 2 self) n (xsT l (sumF l j) j) (hpT C mem) = some (.exit 0, xsT l (sumF l l.length) l.length, hpT C mem)
  | d, j, 0, h, hf => by omega
  | 0, j, n + 1, h, hf => by
    have hj : j = l.length := by omega
    subst hj
    rw [loopN_succ, alembiclaw24_SelectLoops.l12]
    have hc : cutH 2 (xsT l (sumF l l.length) l.length) (hpT C mem) = some (hpT C mem) := by simp [cutH, xsT, hpT, belowL, belowB, heapBelow, natsU_below, hC]
    refine e_id ?_
    refine eC hc ?_
    unfold xsT
    have fx := True.intro
    refine wkA ?_
    refine e_out ?_; rfl
  | d + 1, j, n + 1, h, hf => by
    rw [loopN_succ, alembiclaw24_SelectLoops.l12]
    have hc : cutH 2 (xsT l (sumF l j) j) (hpT C mem) = some (hpT C mem) := by simp [cutH, xsT, hpT, belowL, belowB, heapBelow, natsU_below, hC]
    have ih := sl_loop G k self l hl C hC mem d (j + 1) n (by omega) (by omega)
    have q1 : bin Tryd.prog .lss 3 false (Nn j) (Nn l.length) = some (.bool true) := q_lss_t (by omega)
    have d1 : idxAddrSl 1 (.ro false (natsU l)) (Nn j) = some (.rp false (Un (l.getD j 0)) 0) := idxRo (natsU_get l j (by omega))
    have d2 : ∀ (x : Nat) H, loadV G false 1 (.rp false (Un x) 0) H = some (Un x) := fun x H => rfl
    have d3 := u64_add Tryd.prog 43 false (sumF l j) (l.getD j 0)
    have d4 : bin Tryd.prog .add 3 true (Nn j) (.int .i64 1) = some (Nn (j + 1)) := by
      rw [bin_add, wrap_of_i64 (by omega) (by omega)]; congr 2
    have e : sumF l (j + 1) = (sumF l j + l.getD j 0) % 18446744073709551616 := rfl
    rw [← e] at d3
    refine e_id ?_
    refine eC hc ?_
    unfold xsT at ih ⊢
    generalize sumF l (j + 1) = z at *
    generalize l.getD j 0 = y at *
    generalize sumF l j = x at *
    have fx := And.intro q1 <| And.intro d1 <| And.intro d2 <| And.intro d3 <| d4
    refine wkB ?_
    exact ih
theorem LSelectLoops.law (xs : List AV) (h : IsTs Tryd.prog [25] xs) : ∃ k, alembiclaw24_SelectLoops.f (sentG 180 [1, 0, 3, 2, 4]) k xs [] = some (.bool true, []) := by
  obtain ⟨x1, _, rfl, hx1, h⟩ := h.uncons
  obtain rfl := h.unnil
  obtain ⟨l, rfl, hm⟩ := of_words Tryd.underlying25 Tryd.underlying43 hx1
  clear h hx1
  refine ⟨8001, ?_⟩
  generalize sentG 180 [1, 0, 3, 2, 4] = G
  have rf : ∀ H, pureCall (alembiclaw24_first.f G 8000) [] H = _ := fun H => pureCall_of (H := H) (first24 G 7920) rfl rfl
  have lc : lenSl (.ro false (natsU l)) = some (Nn l.length) := by simp [lenSl, natsU_len]
  rw [alembiclaw24_SelectLoops.step]
  unfold alembiclaw24_SelectLoops.c
  by_cases hl : l.length > 40
  · have g : bin Tryd.prog .gtr 3 true (Nn l.length) (.int .i64 40) = some (.bool true) := q_gtr_t (by omega)
    refine e_in ?_
    have fx := And.intro rf <| And.intro lc <| g
    refine wkB ?_
    exact w1b rfl
  have g1 : bin Tryd.prog .gtr 3 true (Nn l.length) (.int .i64 40) = some (.bool false) := q_gtr_f (by omega)
  obtain ⟨n, hn⟩ : ∃ n, n = l.length := ⟨_, rfl⟩
  have hn40 : n ≤ 40 := by omega
  have n1 : bin Tryd.prog .add 3 true (Nn n) (.int .i64 1) = some (Nn (n + 1)) := by
    rw [bin_add, wrap_of_i64 (by omega) (by omega)]; congr 2
  have bs : ∀ x : AV, ∀ H : AHeap, buildRo 6 10 (.agg [(.int .i64 0), (.int .i64 0), (.int .i64 0), (.int .i64 0), (.int .i64 0), (.int .i64 0)]) [(0, mV 1 2 0 0 0 1), (1, mV 1 3 0 0 0 n), (2, mV 13 5 0 3 0 0), (3, mV 18 0 5 0 0 8), (4, mV 15 4 0 0 0 0), (5, mV 3 1 1 4 0 0), (6, mV 3 0 0 2 0 0), (7, mV 17 0 0 0 0 2), (8, mV 16 0 0 1 0 0), (9, mV 20 0 0 0 0 1)] H = some (.ro false (instsS n), H) := fun x H => rfl
  have bs := bs .nils
  have b0 : boxA 24 (.agg [.nils, (.int .i64 0), (.int .i64 0)]) [] = some (.ptr 0 1 0 0, [⟨24, 3, [.agg [.nils, (.int .i64 0), (.int .i64 0)]]⟩]) := rfl
  have b1 : stS (storeV 3 (.ptr 0 1 0 0) (.agg [.nils, I6 6, Nn (n + 1)]) [⟨24, 3, [.agg [.nils, (.int .i64 0), (.int .i64 0)]]⟩]) = some (.tup [], [⟨24, 3, [.agg [.nils, I6 6, Nn (n + 1)]]⟩]) := rfl
  have b2 : stS (storeV 1 (.ptr 0 1 0 0) (.ro false (instsS n)) [⟨24, 3, [.agg [.nils, I6 6, Nn (n + 1)]]⟩]) = some (.tup [], [⟨24, 3, [codeS n (n + 1)]⟩]) := rfl
  have b3 : buildOwn 43 1 0 (.int .u64 0) [] [⟨24, 3, [codeS n (n + 1)]⟩] = some (.sl 1 0 0 0 1, hpT (codeS n (n + 1)) []) := rfl
  have a1 : appendV 43 1 (.sl 1 0 0 0 1) (.ro false (natsU l)) (hpT (codeS n (n + 1)) []) = some (.sl 1 n 0 n 1, hpT (codeS n (n + 1)) l) := by
    unfold appendV
    simp only [hpT, List.getElem?_cons_zero, List.getElem?_cons_succ, elemsOf, allSz_U, natsU_len]
    rw [if_pos (by refine ⟨rfl, ?_, ?_, ?_, ?_⟩ <;> first | trivial | rfl | (simp; omega) | omega)]
    simp [hn, natsU_len, natsU]
  have a2 : appendV 43 1 (.sl 1 n 0 n 1) (.ro false [.int .u64 0]) (hpT (codeS n (n + 1)) l) = some (.sl 1 (n + 1) 0 (n + 1) 1, hpT (codeS n (n + 1)) (l ++ [0])) := by
    unfold appendV
    simp only [hpT, List.getElem?_cons_zero, List.getElem?_cons_succ, elemsOf, natsU_len, List.length_singleton]
    rw [if_pos (by refine ⟨?_, ?_, ?_, ?_, ?_⟩ <;> first | trivial | rfl | omega)]
    have e2 : (natsU l).take n = natsU l := List.take_of_length_le (by rw [natsU_len]; omega)
    have e3 : (natsU l).drop (n + 1) = [] := List.drop_of_length_le (by rw [natsU_len]; omega)
    rw [e2, e3, List.append_nil]
    have e4 : natsU l ++ [AV.int .u64 0] = natsU (l ++ [0]) := by simp [natsU]
    rw [e4, natsU_len]; simp [hn]
  have hC : ∀ m, belowB m (codeS n (n + 1)) = true := fun m => by simp [codeS, instsS, belowB, belowL]
  have lp : loopN (alembiclaw24_SelectLoops.l12 G 8000 2 (alembiclaw24_SelectLoops.f G 8000)) 8000 [.ro false (natsU l), .bool true, Nn l.length, .ptr 0 1 0 0, .sl 1 (l.length + 1) 0 (l.length + 1) 1, .int .u64 0, .int .i64 0] (hpT (codeS n (n + 1)) (l ++ [0])) = _ := sl_loop G 8000 (alembiclaw24_SelectLoops.f G 8000) l (by omega) (codeS n (n + 1)) (hC 2) (l ++ [0]) l.length 0 8000 (by omega) (by omega)
  -- the choice of words
  have plW : plainL (codeW (loopS n)) = true := plainL_map _ (fun _ => rfl) (loopS n)
  have clW : cleanL (codeW (loopS n)) = true := cleanL_map _ (fun _ => rfl) (loopS n)
  have sc : ∀ H, pureCall (sel_Select.f G 8000) [codeS n (n + 1)] H = _ := fun H => pureCall_of (H := H) (sel_loop G 7920 n hn40) (by simp [codeS, instsS, plainL, plainB]) (by simp [cleanB, cleanL, clW])
  -- the run
  have hmm : ∀ x ∈ l ++ [0], x < 18446744073709551616 := by
    intro x hx
    rcases List.mem_append.1 hx with h | h
    · exact hm x h
    · simp at h; omega
  have hml : (l ++ [0]).length = n + 1 := by simp [hn]
  obtain ⟨fu, hfu⟩ : ∃ fu : Int, fu = ((16 * (6 * n + 6) + 64 : Nat) : Int) := ⟨_, rfl⟩
  obtain ⟨f, hf⟩ : ∃ f, 7958 + 41 = f + 11 * n + 11 := ⟨7988 - 11 * n, by omega⟩
  obtain ⟨s, hs, e1, e2⟩ := q_end n hn40 fu (by omega) (l ++ [0]) (by omega) f
  rw [← hf] at hs
  have hww : ∀ w ∈ loopS n, 0 ≤ w ∧ w < 4294967296 := by
    intro w hw
    unfold loopS at hw
    obtain ⟨i, hi, rfl⟩ := List.mem_map.1 hw
    have hr : rightB i = true := by
      unfold loopI at hi
      simp only [List.mem_cons, List.not_mem_nil, or_false] at hi
      rcases hi with rfl | rfl | rfl | rfl | rfl | rfl | rfl | rfl | rfl | rfl | rfl | rfl | rfl | rfl | rfl | rfl | rfl | rfl | rfl
      · exact r0
      · simp [rightB, isOp, fairB, formF, regB, extraB, immB, halfI, stackB]; omega
      · exact r2
      · exact r3
      · exact r4
      · exact r5
      · exact r6
      · exact r7
      · exact r8
      · exact r9
      · exact r10
      · exact r11
      · exact r12
      · exact r13
      · exact r14
      · exact r15
      · exact r16
      · exact r17
      · exact r18
    exact w_lt hr
  have rl : s.regs.length = 31 := ((runQ_ok (loopS n) fu (by omega) _ _ _ hs (q0_ok 3 (l ++ [0]) hmm (by omega)) (by simp only [q0]; omega)).1).rg.len
  have rc0 := RunMach_spec (G := G) (k := 7958) (bor := false) (cs := loopS n) (fuel := fu) true (l ++ [0]) hmm (by omega) (by omega) (by omega) (by omega) (by show 19 ≤ 100000; decide) hww s hs
  have rc : pureCall (alembicref17_RunMach.f G 8000) [.ro false (codeW (loopS n)), .sl 1 (n + 1) 0 (n + 1) 1, I6 fu] (hpT (codeS n (n + 1)) (l ++ [0])) = some (endQ s, hpT (codeS n (n + 1)) (l ++ [0])) :=
    pureCall_at (snapL_c (snap_plain (by simp [plainB, plW])) (snapL_c (snap_own (ty := 43) (xs := natsU (l ++ [0])) rfl (by rw [natsU_len, hml]) (allSz_U _) (plainU _)) (snapL_c (snap_plain rfl) snapL_n))) rc0 (endQ_clean s)
  obtain ⟨Z, hZ, hZl⟩ : ∃ Z, Z = rsL .nils .nils (q0 0 []) ∧ Z.length = 35 := ⟨_, rfl, rfl⟩
  have hRl := rsL_len (.ro false (natsU s.mem)) (.ro false (leaksV s.leaks)) s rl
  obtain ⟨R, hR⟩ : ∃ R, R = rsL (.ro false (natsU s.mem)) (.ro false (leaksV s.leaks)) s := ⟨_, rfl⟩
  rw [← hR] at hRl
  unfold endQ at rc
  rw [← hR] at rc
  have esum : sumF (l ++ [0]) n = sumF l n := sum_app l 0 n (by omega)
  rw [esum] at e2
  have z0 : R[0]? = some (I6 s.code) := by rw [hR]; rfl
  have z1 : R[1]? = some (.ro false (natsU s.mem)) := by rw [hR]; rfl
  rw [e1] at z0
  have hmg : s.mem.getD n 0 = sumF l n := by
    rw [e2, List.getD_eq_getElem?_getD, List.getElem?_set_self (by omega)]; rfl
  have hmlen : s.mem.length = n + 1 := by rw [e2, List.length_set, hml]
  have im : idxAddrSl 1 (.ro false (natsU s.mem)) (Nn n) = some (.rp false (Un (sumF l n)) 0) := by
    have := idxRo (b := false) (natsU_get s.mem n (by omega))
    rw [hmg] at this; exact this
  have lm : ∀ (x : Nat) H, loadV G false 1 (.rp false (Un x) 0) H = some (Un x) := fun x H => rfl
  have ll : lenSl (.ro false (natsU s.mem)) = some (Nn (n + 1)) := by simp [lenSl, natsU_len, hmlen]
  have zz : (AV.agg [.int .i64 0, .nils, .int .u64 0, .int .u64 0, .int .u64 0, .int .u64 0, .int .u64 0, .int .u64 0, .int .u64 0, .int .u64 0, .int .u64 0, .int .u64 0, .int .u64 0, .int .u64 0, .int .u64 0, .int .u64 0, .int .u64 0, .int .u64 0, .int .u64 0, .int .u64 0, .int .u64 0, .int .u64 0, .int .u64 0, .int .u64 0, .int .u64 0, .int .u64 0, .int .u64 0, .int .u64 0, .int .u64 0, .int .u64 0, .int .u64 0, .int .u64 0, .int .u64 0, .nils, .int .i64 0]) = .agg (rsL .nils .nils (q0 0 [])) := rfl
  rw [zz, ← hZ]
  have bx : boxA 46 (.agg Z) (hpT (codeS n (n + 1)) (l ++ [0])) = some (.ptr 2 1 0 0, [⟨24, 3, [codeS n (n + 1)]⟩, ⟨43, 1, natsU (l ++ [0])⟩, ⟨46, 35, [.agg Z]⟩]) := by rw [hZ]; rfl
  have sx : stS (storeV 35 (.ptr 2 1 0 0) (.agg R) [⟨24, 3, [codeS n (n + 1)]⟩, ⟨43, 1, natsU (l ++ [0])⟩, ⟨46, 35, [.agg Z]⟩]) = some (.tup [], [⟨24, 3, [codeS n (n + 1)]⟩, ⟨43, 1, natsU (l ++ [0])⟩, ⟨46, 35, [.agg R]⟩]) := stRs 46 2 [⟨24, 3, [codeS n (n + 1)]⟩, ⟨43, 1, natsU (l ++ [0])⟩, ⟨46, 35, [.agg Z]⟩] Z R hZl hRl rfl
  have ldA : ∀ o, loadV G false 1 (.ptr 2 1 0 o) [⟨24, 3, [codeS n (n + 1)]⟩, ⟨43, 1, natsU (l ++ [0])⟩, ⟨46, 35, [.agg R]⟩] = R[o]? := fun o => rfl
  have y0 := (ldA 0).trans z0
  have y1 := (ldA 1).trans z1
  have lC : loadV G true 3 (.ptr 0 1 0 0) (hpT (codeS n (n + 1)) (l ++ [0])) = some (codeS n (n + 1)) := rfl
  have k0 : ∀ b, fieldAddrV 0 (.ptr b 1 0 0) = some (.ptr b 1 0 0) := fun b => rfl
  have k1 : ∀ b, fieldAddrV 1 (.ptr b 1 0 0) = some (.ptr b 1 0 1) := fun b => rfl
  have q1 : bin Tryd.prog .eql 30 true .nili .nili = some (.bool true) := by kernel_rfl
  have m1 : bin Tryd.prog .mul 3 true (.int .i64 6) (Nn n) = some (I6 ((6 * n : Nat) : Int)) := by
    rw [bin_mul, wrap_of_i64 (by omega) (by omega)]; congr 2
  have m2 : bin Tryd.prog .add 3 true (I6 ((6 * n : Nat) : Int)) (.int .i64 6) = some (I6 ((6 * n + 6 : Nat) : Int)) := by
    rw [bin_add, wrap_of_i64 (by omega) (by omega)]; congr 2
  have m3 : bin Tryd.prog .mul 3 true (.int .i64 16) (I6 ((6 * n + 6 : Nat) : Int)) = some (I6 ((16 * (6 * n + 6) : Nat) : Int)) := by
    rw [bin_mul, wrap_of_i64 (by omega) (by omega)]; congr 2
  have m4 : bin Tryd.prog .add 3 true (I6 ((16 * (6 * n + 6) : Nat) : Int)) (.int .i64 64) = some (I6 fu) := by
    rw [hfu, bin_add, wrap_of_i64 (by omega) (by omega)]; congr 2
  have p1 : bin Tryd.prog .eql 3 false (Nn (n + 1)) (Nn (n + 1)) = some (.bool true) := q_eql_t rfl
  have p0 : bin Tryd.prog .eql 3 true (I6 1) (.int .i64 1) = some (.bool true) := q_eql_t rfl
  have p3 : ∀ x : Nat, bin Tryd.prog .eql 43 false (Un x) (Un x) = some (.bool true) := fun x => q_eql_t rfl
  have hl1 : (hpT (codeS n (n + 1)) (l ++ [0])).length = 2 := rfl
  unfold xsT at lp
  rw [← hn] at lp lc g1
  clear ldA hR hZ z0 z1 hRl hZl zz hs hmm hww hml e1 e2 esum rl hf hmg hmlen rc0 hC hm
  obtain ⟨C, hCe⟩ : ∃ C, C = codeS n (n + 1) := ⟨_, rfl⟩
  rw [← hCe] at *
  generalize hpT C (l ++ [0]) = hl_ at *
  generalize natsU (l ++ [0]) = ml at *
  generalize natsU s.mem = sm at *
  generalize codeW (loopS n) = cw at *
  generalize sumF l n = su at *
  generalize ((6 * n : Nat) : Int) = f0 at *
  generalize ((6 * n + 6 : Nat) : Int) = f1 at *
  generalize ((16 * (6 * n + 6) : Nat) : Int) = f2 at *
  refine e_in ?_
  have fx := And.intro rf <| And.intro lc <| And.intro g1 <| And.intro n1 <| And.intro bs <| And.intro b0 <| And.intro b1 <| And.intro b2 <| And.intro b3 <| And.intro a1 <| a2
  refine wkB ?_
  rw [hl1]
  have fx := And.intro rf <| And.intro lc <| And.intro g1 <| And.intro n1 <| And.intro bs <| And.intro b0 <| And.intro b1 <| And.intro b2 <| And.intro b3 <| And.intro a1 <| And.intro a2 <| And.intro hl1 <| And.intro lC <| And.intro sc <| And.intro m1 <| And.intro m2 <| And.intro m3 <| And.intro m4 <| And.intro rc <| And.intro bx <| And.intro sx <| And.intro y0 <| And.intro y1 <| And.intro k0 <| And.intro k1 <| And.intro q1 <| And.intro im <| And.intro lm <| And.intro ll <| And.intro p0 <| And.intro p1 <| p3
  have lx1 := lp
  refine wkB ?_
  exact w1b rfl
end Go.Proofs.YtdfglgnflldkpaaDoor
namespace Go.Proofs.YtdfglgnflldkpaaDoor
open Go Go.ChangeShapes Go.WideShapes Go.RowKit Mir
set_option linter.unusedVariables false
set_option linter.unusedSimpArgs false
namespace RSelectLoops
noncomputable def laidWorld (os : Os) : World :=
  let w0 := World.holding Tryd.prog os ⟨#[.cells #[.string ⟨#[97, 32, 110, 117, 109, 98, 101, 114, 32, 111, 117, 116, 32, 111, 102, 32, 105, 116, 115, 32, 114, 97, 110, 103, 101]⟩] 197, .cells #[.string ⟨#[116, 111, 111, 32, 109, 97, 110, 121]⟩] 197, .cells #[.string ⟨#[110, 111, 116, 32, 97, 115, 32, 105, 116, 32, 104, 97, 115, 32, 116, 111, 32, 98, 101]⟩] 197, .cells #[.string ⟨#[110, 111, 32, 115, 117, 99, 104, 32, 116, 104, 105, 110, 103, 32, 116, 111, 32, 100, 111]⟩] 197, .cells #[.string ⟨#[110, 111, 32, 115, 117, 99, 104, 32, 112, 108, 97, 99, 101]⟩] 197], #[], []⟩
  { w0 with heap := w0.heap
    |>.modify 1 (fun
      | .cells _ t frozen => .cells #[.iface 180 (.pointer (some ⟨Rk.low, 0, none⟩))] t frozen
      | o => o)
    |>.modify 0 (fun
      | .cells _ t frozen => .cells #[.iface 180 (.pointer (some ⟨Rk.low + 1, 0, none⟩))] t frozen
      | o => o)
    |>.modify 3 (fun
      | .cells _ t frozen => .cells #[.iface 180 (.pointer (some ⟨Rk.low + 2, 0, none⟩))] t frozen
      | o => o)
    |>.modify 2 (fun
      | .cells _ t frozen => .cells #[.iface 180 (.pointer (some ⟨Rk.low + 3, 0, none⟩))] t frozen
      | o => o)
    |>.modify 4 (fun
      | .cells _ t frozen => .cells #[.iface 180 (.pointer (some ⟨Rk.low + 4, 0, none⟩))] t frozen
      | o => o) }
theorem laidWorld_met (os : Os) (args : Array Value) : laidMetH Tryd.prog ([("alembic/api.ErrRange", Rows.laid_alembic_api_ErrRange), ("alembic/api.ErrMany", Rows.laid_alembic_api_ErrMany), ("alembic/api.ErrShape", Rows.laid_alembic_api_ErrShape), ("alembic/api.ErrOp", Rows.laid_alembic_api_ErrOp), ("alembic/api.ErrLabel", Rows.laid_alembic_api_ErrLabel)] : List (String × DataW Unit)) ((laidWorld os).forCall (fun _ _ => 0) ⟨#[], args, []⟩).memory :=
  laidMet_of_run (ps := [.cell 1 0, .cell (Rk.low) 0, .cell 0 0, .cell (Rk.low + 1) 0, .cell 3 0, .cell (Rk.low + 2) 0, .cell 2 0, .cell (Rk.low + 3) 0, .cell 4 0, .cell (Rk.low + 4) 0]) 8 (by kernel_rfl) (by kernel_rfl) (by kernel_rfl)
theorem sentL : SentL Tryd.prog 30 [("alembic/api.ErrRange", Rows.laid_alembic_api_ErrRange), ("alembic/api.ErrMany", Rows.laid_alembic_api_ErrMany), ("alembic/api.ErrShape", Rows.laid_alembic_api_ErrShape), ("alembic/api.ErrOp", Rows.laid_alembic_api_ErrOp), ("alembic/api.ErrLabel", Rows.laid_alembic_api_ErrLabel)] [1, 0, 3, 2, 4] := ⟨by kernel_rfl, by kernel_rfl, ⟨_, rfl⟩, by kernel_rfl, by kernel_rfl, ⟨_, rfl⟩, by kernel_rfl, by kernel_rfl, ⟨_, rfl⟩, by kernel_rfl, by kernel_rfl, ⟨_, rfl⟩, by kernel_rfl, by kernel_rfl, ⟨_, rfl⟩, trivial⟩
theorem sent {W : World} (h : laidMetH Tryd.prog ([("alembic/api.ErrRange", Rows.laid_alembic_api_ErrRange), ("alembic/api.ErrMany", Rows.laid_alembic_api_ErrMany), ("alembic/api.ErrShape", Rows.laid_alembic_api_ErrShape), ("alembic/api.ErrOp", Rows.laid_alembic_api_ErrOp), ("alembic/api.ErrLabel", Rows.laid_alembic_api_ErrLabel)] : List (String × DataW Unit)) W) : ∃ S, SentS W 180 [1, 0, 3, 2, 4] S :=
  sent_of_laid Tryd.underlying30 Rk.row Tryd.underlying180 Tryd.underlying197 rfl rfl Tryd.underlying9 (by kernel_rfl) (by kernel_rfl) sentL (by decide) h
theorem plainTs : ∀ t ∈ ([25, 43] : List Nat), plainT Tryd.prog [25, 43] t = true := List.all_eq_true.1 (by kernel_rfl)
set_option maxRecDepth 100000 in
theorem lifted (os : Os) (started : os.Started) (H : Type) (enc : TypeId × Value → H) :
    ReturnsInHanded {} Tryd.checked os 6 .any (fun w args => (Rows.selectLoopsSpec.pre enc Tryd.prog Tryd.f6 [] false w args ∧ laidMetH Tryd.prog ([("alembic/api.ErrRange", Rows.laid_alembic_api_ErrRange), ("alembic/api.ErrMany", Rows.laid_alembic_api_ErrMany), ("alembic/api.ErrShape", Rows.laid_alembic_api_ErrShape), ("alembic/api.ErrOp", Rows.laid_alembic_api_ErrOp), ("alembic/api.ErrLabel", Rows.laid_alembic_api_ErrLabel)] : List (String × DataW Unit)) w) ∧ sizedMet enc Tryd.prog Tryd.f6 (OpenSpec.ofChange Rows.selectLoopsSpec) false w args)
      (Rows.selectLoopsSpec.post enc Tryd.prog Tryd.f6 false true false false) := by
  refine returnsInHanded_of_change_and (C := Tryd.checked) (X := fun w _ => laidMetH Tryd.prog ([("alembic/api.ErrRange", Rows.laid_alembic_api_ErrRange), ("alembic/api.ErrMany", Rows.laid_alembic_api_ErrMany), ("alembic/api.ErrShape", Rows.laid_alembic_api_ErrShape), ("alembic/api.ErrOp", Rows.laid_alembic_api_ErrOp), ("alembic/api.ErrLabel", Rows.laid_alembic_api_ErrLabel)] : List (String × DataW Unit)) w) (fun _ _ _ hh h => h.of_heap hh) Rk.own started (by kernel_rfl) Tryd.func6
    (ChangeSpec.witness_at (enc := enc) (C := Tryd.checked) (os := os) (X := fun w _ => laidMetH Tryd.prog ([("alembic/api.ErrRange", Rows.laid_alembic_api_ErrRange), ("alembic/api.ErrMany", Rows.laid_alembic_api_ErrMany), ("alembic/api.ErrShape", Rows.laid_alembic_api_ErrShape), ("alembic/api.ErrOp", Rows.laid_alembic_api_ErrOp), ("alembic/api.ErrLabel", Rows.laid_alembic_api_ErrLabel)] : List (String × DataW Unit)) w) false (laidWorld os) #[.slice none 0 0] 8 rfl (by kernel_rfl) (by kernel_rfl) (by kernel_rfl) (by kernel_rfl) (by kernel_rfl) (laidWorld_met os _)) ?_
  intro W base args ds gs before hval0 hW _ _ hL _
  obtain ⟨S, hS⟩ := sent hL
  have hval : ∀ (j : Nat) t v, Tryd.f6.params.toList[j]? = some t → args.toList[j]? = some v → Value.okWide Tryd.prog W .any base t v := fun j t v h1 h2 => hval0 j t v (by simpa using h1) (by simpa using h2)
  have hW' := hW
  obtain ⟨p, q, hA, _, _, _, _⟩ := hW
  have hpar : Tryd.f6.params.toList = [25] := by rw [Tryd.params6]
  rw [hpar] at hval
  replace hA : DataW.TrodAll enc Tryd.prog W 0 (fun _ => true) true Tryd.f6.params.toList args.toList ds p := hA
  rw [hpar] at hA
  obtain ⟨xs, h1, h2⟩ := read_args plainTs (by decide) hval hA
  obtain ⟨k, hk⟩ := LSelectLoops.law xs h1
  have hc := calls_top (Mir.alembiclaw24_SelectLoops.sound (sentG_plain _ _) k) hk (good_top hS) h2
  rw [Array.toArray_toList] at hc
  refine hc.mono fun e W' ⟨he, hb⟩ => ⟨_, he, ?_⟩
  exact post_top rfl hpar (by kernel_rfl) Tryd.underlying4 (fun ds hd => by
    obtain ⟨d0, rfl⟩ : ∃ d0, ds = [d0] := by
      match ds, hd with
      | [d0], _ => exact ⟨d0, rfl⟩
    rfl) Rk.laidOut (by kernel_rfl) hW' hb
theorem holds : Rows.SelectLoopsSaid :=
  OpenClaim.holds_of_wide 6 Tryd.f6 rfl rfl rfl rfl rfl rfl rfl ⟨rfl, rfl, rfl, rfl, rfl⟩ rfl rfl rfl rfl rfl (by kernel_rfl) Tryd.func6 (by kernel_rfl)
    (of_decide_eq_true (by kernel_rfl)) (by unfold Func.isWrapper; first | (rw [if_pos (by decide +kernel)]; kernel_rfl) | (rw [if_neg (by decide +kernel)]; exact ⟨rfl, rfl⟩))
    (fun os started H enc _ => lifted os started H enc)
theorem cardHolds : Rows.SelectLoopsCardSaid :=
  Claim7.holds_tied_plain_at .later [] [.sentinel, .sentinel, .sentinel, .sentinel, .sentinel] true (true, "92292b04e853d01d8cf3885d4f753a51952eaef99bf2156408a64e96f17010d7") true
    holds (fun _ h => by cases h) (by kernel_rfl) (fun _ h => by cases h) selectLoops_row_tie rfl ⟨rfl, rfl⟩ (by kernel_rfl) rfl
    (fun f fn hf hfn => by
      obtain rfl : f = 6 := Option.some.inj ((show Tryd.prog.funcNamed "alembic/alembiclaw24.SelectLoops" = some 6 by kernel_rfl).symm.trans hf) |>.symm
      obtain rfl : fn = Tryd.f6 := (Option.some.inj (Tryd.func6.symm.trans hfn)).symm
      exact ⟨by kernel_rfl, fun j t ht => by
        have hm : t ∈ ([25] : List Nat) := by
          have := List.mem_of_getElem? (l := Tryd.f6.params.toList) (i := j) (by simpa using ht)
          rw [Tryd.params6] at this
          exact this
        have := List.all_eq_true.1 (show ([25] : List Nat).all (fun t => !Tryd.prog.wantsStandIn t) = true by kernel_rfl) t hm
        exact (by simpa using this : Tryd.prog.wantsStandIn t = false)⟩)
    (by kernel_rfl)
end RSelectLoops
end Go.Proofs.YtdfglgnflldkpaaDoor
