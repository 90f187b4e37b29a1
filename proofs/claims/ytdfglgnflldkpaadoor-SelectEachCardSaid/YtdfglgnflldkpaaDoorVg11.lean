/- Part 11 of the proof: what these functions do. -/
import Derived.Test.YtdfglgnflldkpaaDoorVg10
import Derived.KernelRfl
namespace Go.Proofs.YtdfglgnflldkpaaDoor.Mir
open Go
set_option linter.unusedSimpArgs false
set_option linter.unusedVariables false
set_option maxHeartbeats 8000000
set_option maxRecDepth 20000
theorem aKd {s s' : QS} {w : Int} (h : s.step w = (s', true)) : s'.code = s.code := by
 unfold QS.step at h
 cases ho : ofF w with
 | none => rw [ho] at h; simp at h
 | some i =>
  rw [ho] at h
  simp only at h
  unfold QS.act at h
  by_cases h1 : i.op = 18 ∨ i.op = 19
  ·rw [if_pos h1] at h
   unfold QS.touch at h
   generalize s.next.addr i = ad at h
   by_cases h2 : ad % 8 ≠ 0 ∨ s.next.mem.length ≤ ad / 8
   ·simp only [if_pos h2] at h; simp at h
   ·simp only [if_neg h2] at h
    by_cases h3 : i.op = 18
    ·simp only [if_pos h3] at h; simp only [Prod.mk.injEq] at h; rw [← h.1]; rfl
    ·simp only [if_neg h3] at h; simp only [Prod.mk.injEq] at h; rw [← h.1]; rfl
  rw [if_neg h1] at h
  by_cases h2 : i.op = 20 ∨ i.op = 21 ∨ i.op = 22 ∨ i.op = 23
  ·rw [if_pos h2] at h
   simp only [Prod.mk.injEq] at h
   rw [← h.1]
   unfold QS.branch
   by_cases h3 : i.op = 20
   ·rw [if_pos h3]; rfl
   ·rw [if_neg h3]
    cases s.next.goes i <;> rfl
  rw [if_neg h2] at h
  by_cases h3 : i.op = 24
  ·rw [if_pos h3] at h; simp at h
  ·rw [if_neg h3] at h
   simp only [Prod.mk.injEq] at h
   rw [← h.1]; rfl
section
variable (G : aI) (k : Nat) (self : dE) (z : List AV) (hz : z.length = 35) (hzb : cS 7 z = true) (bor : Bool) (cs : List Int) (fuel : Int)
include hz hzb in
theorem aBd (hf : fuel ≤ 99999) (hcl : cs.length ≤ 100000) (hcs : ∀ w ∈ cs, 0 ≤ w ∧ w < 4294967296) : ∀ (f : Nat) (T0 : aF) (s s' : QS), pT cs fuel f s = some s' → s.Ok → s.code = 3 → (s.steps : Int) ≤ fuel →
  s'.regs.length = 31 ∧ ∃ T xs, gH (aW.l4 G (k + 41) 7 self) f (xsR fuel bor cs s.at_) (jJ (bR 46 z) T0 s) = some (.ret, xs, jJ (bR 46 s'.cellsR) T s') ∧ aH xs 2 = .ptr 0 1 0 0
 | 0, T0, s, s', h, _, _, _ => by simp [pT] at h
 | f + 1, T0, s, s', h, hs, hc, hst => by
  have few := hs.few
  have lks := hs.leaks
  have hr := hs.rg.len
  have hb : cS 7 (bR 46 z).elems = true := by simp [bR, cS, cK, hzb]
  have hcut := aKV (bR 46 z) T0 s hb _ (aBo fuel bor cs s.at_)
  rw [fJ]
  simp only [pT] at h
  by_cases h1 : s.at_ < 0 ∨ (cs.length : Int) ≤ s.at_
  ·rw [if_pos h1] at h
   simp only [Option.some.injEq] at h
   have e3 : ({ s with code := 3 } : QS) = s := by rw [← hc]
   rw [e3] at h
   subst h
   have c2 : dV (.ro bor (iI cs)) = some (Nn cs.length) := by simp [dV, uR]
   have l1 := aEE G (bR 46 z) [] s hr
   have l2 := aEI [] s 46 z _ hz (jT s hr)
   refine ⟨hr, [], [.ro bor (iI cs), I6 fuel, .ptr 0 1 0 0, RX, .ptr 4 1 0 0, I6 s.at_], ?_, rfl⟩
   rw [aW.l4]
   refine jU ?_
   refine eC hcut ?_
   unfold xsR
   generalize s.cellsR = tcs at *
   have fx := aOO c2 <| aOO l1 <| l2
   refine gC ?_
   all_goals first | omega | (refine iA ?_; rfl)
  rw [if_neg h1] at h
  by_cases h2 : (s.steps : Int) = fuel
  ·rw [if_pos h2] at h
   simp only [Option.some.injEq] at h
   subst h
   have c2 : dV (.ro bor (iI cs)) = some (Nn cs.length) := by simp [dV, uR]
   have n0 : aQ Tryd.prog .lss 3 true (I6 s.at_) (.int .i64 0) = some (.bool false) := rO (by omega)
   have n1 : aQ Tryd.prog .geq 3 false (I6 s.at_) (Nn cs.length) = some (.bool false) := tY (by omega)
   have n2 : aQ Tryd.prog .geq 2 false (Nn s.steps) (I6 fuel) = some (.bool true) := aBX (by omega)
   have f0 : aA 0 RX = some RX := rfl
   have f34 : aA 34 RX = some (.ptr 3 1 0 34) := rfl
   have c3 := aKX G (bR 46 z) [] s hr
   have c4 := aNx (bR 46 z) [] s 4 hr
   have l1 := aEE G (bR 46 z) [] { s with code := 4 } hr
   have l2 := aEI [] { s with code := 4 } 46 z _ hz (jT { s with code := 4 } hr)
   refine ⟨hr, [], [.ro bor (iI cs), I6 fuel, .ptr 0 1 0 0, RX, .ptr 4 1 0 0, I6 s.at_], ?_, rfl⟩
   rw [aW.l4]
   refine jU ?_
   refine eC hcut ?_
   unfold xsR
   generalize (QS.cellsR { s with code := 4 }) = tcs at *
   have fx := aOO f0 <| aOO f34 <| aOO c2 <| aOO n0 <| aOO n1 <| aOO n2 <| aOO c3 <| aOO c4 <| aOO l1 <| l2
   refine jL ?_
   refine iA ?_; rfl
  rw [if_neg h2] at h
  have hw := hcs (cs.getD s.at_.toNat 0) (by
   have : s.at_.toNat < cs.length := by omega
   rw [List.getD_eq_getElem?_getD, List.getElem?_eq_getElem this]
   exact List.getElem_mem this)
  have rd := aEG G k self z hz hzb bor cs fuel (gH (aW.l4 G (k + 41) 7 self) f) T0 s hs hc (by omega) (by omega) (by omega) hf hcl hw
  have okt : s.tick.Ok := ⟨hs.rg, hs.mem, by simp [QS.tick, QS.leak]; omega, hs.big, by simp [QS.tick, QS.leak]; omega⟩
  obtain ⟨o1, o2, o3⟩ := QS.step_ok okt (cs.getD s.at_.toNat 0) (by simp [QS.tick, QS.leak]; omega)
  have hst2 : s.tick.steps = s.steps + 1 := rfl
  generalize cs.getD s.at_.toNat 0 = w at *
  obtain ⟨s2, b, hsb⟩ : ∃ s2 b, s.tick.step w = (s2, b) := ⟨_, _, rfl⟩
  rw [hsb] at h rd o1 o2
  simp only at h o1 o2
  unfold aEF at rd
  cases b
  ·simp only [Bool.false_eq_true, if_false] at rd
   simp only [Option.some.injEq] at h
   subst h
   exact ⟨o1.rg.len, rd⟩
  ·simp only [if_true] at rd
   simp only at h
   obtain ⟨T, hT⟩ := rd
   have hc2 : s2.code = 3 := by rw [aKd hsb]; exact hc
   rw [hT]
   exact aBd hf hcl hcs f T s2 s' h o1 hc2 (by rw [o2, hst2]; omega)
theorem aOd (b0 : ABlk) (T : aF) (s : QS) : uV (jJ b0 T s) 0 6 (.agg s.cellsR) = some (aGf s) := by
 have f1 := yQ (H := jJ b0 T s) (b := 2) (n0 := 0) (d := 4) (ty := 43) rfl (by omega) (bJ s.mem) (aFa _) (gT 0 _)
 have f2 := yQ (H := jJ b0 T s) (b := 6) (n0 := 0) (d := 4) (ty := 107) rfl (by omega) (jR s.leaks) (aEZ _) (nF 0 _)
 have f3 : mQ (uV (jJ b0 T s) 0 5) (bY s.regs) = some (bY s.regs) := tO fun x hx => lR (pF (gT 0 s.regs) x hx) 5
 exact aFq (by simp [QS.cellsR, cS, cK]) (kA (lR rfl 5) (kA f1 (aDg f3 (kA f2 (kA (lR rfl 5) yX)))))
theorem aBp (bm : Bool) (mem : List Nat) (hm : ∀ x ∈ mem, x < 18446744073709551616) (hml : mem.length ≤ 60000) (h0 : 0 ≤ fuel) (hf : fuel ≤ 99999) (hk : mem.length < k + 40) (hcl : cs.length ≤ 100000) (hcs : ∀ w ∈ cs, 0 ≤ w ∧ w < 4294967296)
  (s' : QS) (hrun : pT cs fuel (k + 41) (q0 3 mem) = some s') :
  aW.f G (k + 42) [.ro bor (iI cs), .ro bm (bY mem), I6 fuel] [] = some (aGf s', []) := by
 rw [aW.step]
 unfold aW.c
 have hzl : zR.length = 35 := rfl
 have hzb : cS 7 zR = true := rfl
 obtain ⟨hr', T, xs, lp, hx⟩ := aBd G k (aW.f G (k + 41)) zR hzl hzb bor cs fuel hf hcl hcs (k + 41) [] (q0 3 mem) s' hrun (aKM 3 mem hm (by omega)) rfl (by simp only [q0]; omega)
 have w1_ : bF (aX.f G (k + 41)) [.ro bm (bY mem)] [bZ] = some (.sl 2 mem.length 0 mem.length 1, xC mem) := qO (aEV G (k + 40) bm mem (by omega) hk) (by simp [xC])
 have zz : (AV.agg [.int .i64 0, .nils, .int .u64 0, .int .u64 0, .int .u64 0, .int .u64 0, .int .u64 0, .int .u64 0, .int .u64 0, .int .u64 0, .int .u64 0, .int .u64 0, .int .u64 0, .int .u64 0, .int .u64 0, .int .u64 0, .int .u64 0, .int .u64 0, .int .u64 0, .int .u64 0, .int .u64 0, .int .u64 0, .int .u64 0, .int .u64 0, .int .u64 0, .int .u64 0, .int .u64 0, .int .u64 0, .int .u64 0, .int .u64 0, .int .u64 0, .int .u64 0, .int .u64 0, .nils, .int .i64 0]) = .agg (I6 0 :: .nils :: (bY (List.replicate 31 0) ++ [.nils, .int .i64 0])) := rfl
 have zb : aZ [(0, 1), (1, 1), (2, 31), (33, 1), (34, 1)] [.int .i64 0, .nils, .int .u64 0, .int .u64 0, .int .u64 0, .int .u64 0, .int .u64 0, .int .u64 0, .int .u64 0, .int .u64 0, .int .u64 0, .int .u64 0, .int .u64 0, .int .u64 0, .int .u64 0, .int .u64 0, .int .u64 0, .int .u64 0, .int .u64 0, .int .u64 0, .int .u64 0, .int .u64 0, .int .u64 0, .int .u64 0, .int .u64 0, .int .u64 0, .int .u64 0, .int .u64 0, .int .u64 0, .int .u64 0, .int .u64 0, .int .u64 0, .int .u64 0, .nils, .int .i64 0] [(1, .sl 2 mem.length 0 mem.length 1), (0, .int .i64 3)] =
   some (.agg (I6 3 :: .sl 2 mem.length 0 mem.length 1 :: (bY (List.replicate 31 0) ++ [.nils, .int .i64 0]))) := rfl
 have b1 : eY 46 (.agg (I6 0 :: .nils :: (bY (List.replicate 31 0) ++ [.nils, .int .i64 0]))) [] = some (.ptr 0 1 0 0, [bZ]) := rfl
 have b2 : eY 46 (.agg (I6 0 :: .nils :: (bY (List.replicate 31 0) ++ [.nils, .int .i64 0]))) (xC mem) = some (.ptr 3 1 0 0, xC mem ++ [bZ]) := rfl
 have s2 : eH (aO 35 (.ptr 3 1 0 0) (.agg (I6 3 :: .sl 2 mem.length 0 mem.length 1 :: (bY (List.replicate 31 0) ++ [.nils, .int .i64 0]))) (xC mem ++ [bZ])) = some (.tup [], xC mem ++ [⟨46, 35, [.agg (I6 3 :: .sl 2 mem.length 0 mem.length 1 :: (bY (List.replicate 31 0) ++ [.nils, .int .i64 0]))]⟩]) := rfl
 have b3 : eY 53 (.agg [.bool false, .bool false, .bool false, .bool false]) (xC mem ++ [⟨46, 35, [.agg (I6 3 :: .sl 2 mem.length 0 mem.length 1 :: (bY (List.replicate 31 0) ++ [.nils, .int .i64 0]))]⟩]) = some (.ptr 4 1 0 0, xC mem ++ [⟨46, 35, [.agg (I6 3 :: .sl 2 mem.length 0 mem.length 1 :: (bY (List.replicate 31 0) ++ [.nils, .int .i64 0]))]⟩, ⟨53, 4, [iV.a]⟩]) := rfl
 have v1 : ∀ m : Nat, nT (.ptr 0 1 0 0, 33, 107, 2) (xC mem ++ [⟨46, 35, [.agg (I6 3 :: .sl 2 m 0 m 1 :: (bY (List.replicate 31 0) ++ [.nils, .int .i64 0]))]⟩, ⟨53, 4, [iV.a]⟩]) =
   [bR 46 zR, ⟨43, 1, []⟩, ⟨43, 1, bY mem⟩, ⟨46, 35, [.agg (I6 3 :: .sl 2 m 0 m 1 :: (bY (List.replicate 31 0) ++ [.nils, .int .i64 0]))]⟩, ⟨53, 4, [iV.a]⟩, ⟨107, 2, []⟩] := fun m => rfl
 have v2 : nT (.ptr 3 1 0 0, 33, 107, 2) [bR 46 zR, ⟨43, 1, []⟩, ⟨43, 1, bY mem⟩, ⟨46, 35, [.agg (I6 3 :: .sl 2 mem.length 0 mem.length 1 :: (bY (List.replicate 31 0) ++ [.nils, .int .i64 0]))]⟩, ⟨53, 4, [iV.a]⟩, ⟨107, 2, []⟩] =
   jJ (bR 46 zR) [] (q0 3 mem) := by
  simp only [jJ, q0, QS.cellsR, QS.tailR]
  rfl
 have v1' := v1 mem.length
 have hl7 : (jJ (bR 46 zR) [] (q0 3 mem)).length = 7 := rfl
 have ldE : aC G true 35 (.ptr 0 1 0 0) (jJ (bR 46 s'.cellsR) T s') = some (.agg s'.cellsR) := by
  have hrl := jT s' hr'
  generalize s'.cellsR = rl at *
  show (if 0 + 35 ≤ rl.length then some (AV.agg ((rl.drop 0).take 35)) else none) = _
  rw [if_pos (by omega), List.drop_zero, List.take_of_length_le (by omega)]
 have fin : fX [aC G true 35 (.ptr 0 1 0 0) (jJ (bR 46 s'.cellsR) T s')] 0 (jJ (bR 46 s'.cellsR) T s') = some (.ret, [aGf s'], []) := by
  have f3 := aOd (bR 46 s'.cellsR) T s'
  unfold fX
  rw [ldE]
  simp only [xH]
  unfold bK pZ
  simp only [f3, rF]
 rw [zz]
 unfold xsR at lp
 clear zz v1 hcs hm
 refine dX ?_
 generalize s'.cellsR = rl at *
 generalize jJ (bR 46 zR) [] (q0 3 mem) = hq at *
 generalize bY (List.replicate 31 0) = NZ at *
 generalize xC mem = HW at *
 have fx := aOO b1 <| aOO w1_ <| aOO zb <| aOO b2 <| aOO s2 <| b3
 refine jL ?_
 refine eV1 v1' ?_
 refine eV1 v2 ?_
 refine eV0 ?_
 rw [hl7]
 refine eK ?_
 refine eL lp ?_
 have fx := True.intro
 refine jL ?_
 rw [hx]
 exact oF fin
end
theorem aFO (cs : List Int) (fuel : Int) (hf : fuel ≤ 99999) : ∀ (f : Nat) (s s' : QS), pT cs fuel f s = some s' → s.Ok → (s.steps : Int) ≤ fuel → s'.Ok ∧ s'.mem.length = s.mem.length
 | 0, s, s', h, _, _ => by simp [pT] at h
 | f + 1, s, s', h, hs, hst => by
  have few := hs.few
  have lks := hs.leaks
  simp only [pT] at h
  by_cases h1 : s.at_ < 0 ∨ (cs.length : Int) ≤ s.at_
  ·rw [if_pos h1] at h
   simp only [Option.some.injEq] at h
   subst h
   exact ⟨⟨hs.rg, hs.mem, hs.leaks, hs.big, hs.few⟩, rfl⟩
  rw [if_neg h1] at h
  by_cases h2 : (s.steps : Int) = fuel
  ·rw [if_pos h2] at h
   simp only [Option.some.injEq] at h
   subst h
   exact ⟨⟨hs.rg, hs.mem, hs.leaks, hs.big, hs.few⟩, rfl⟩
  rw [if_neg h2] at h
  have okt : s.tick.Ok := ⟨hs.rg, hs.mem, by simp [QS.tick, QS.leak]; omega, hs.big, by simp [QS.tick, QS.leak]; omega⟩
  obtain ⟨o1, o2, o3⟩ := QS.step_ok okt (cs.getD s.at_.toNat 0) (by simp [QS.tick, QS.leak]; omega)
  have hst2 : s.tick.steps = s.steps + 1 := rfl
  have tm : s.tick.mem = s.mem := rfl
  obtain ⟨s2, b, hsb⟩ : ∃ s2 b, s.tick.step (cs.getD s.at_.toNat 0) = (s2, b) := ⟨_, _, rfl⟩
  rw [hsb] at h o1 o2 o3
  simp only at h o1 o2 o3
  cases b
  ·simp only [Option.some.injEq] at h
   subst h
   exact ⟨o1, by rw [o3, tm]⟩
  ·simp only at h
   obtain ⟨p1, p2⟩ := aFO cs fuel hf f s2 s' h o1 (by rw [o2, hst2]; omega)
   exact ⟨p1, by rw [p2, o3, tm]⟩
theorem vE (n : Nat) : BitVec.ofInt 64 (n : Int) = BitVec.ofNat 64 n := by
 apply BitVec.eq_of_toNat_eq
 rw [BitVec.toNat_ofInt, BitVec.toNat_ofNat]; omega
theorem aLf (x : BitVec 64) : IntKind.u64.wrap (x.toNat : Int) = (x.toNat : Int) := by
 have := x.isLt
 rw [mS]; omega
theorem ofB (x : BitVec 64) : BitVec.ofInt 64 (x.toNat : Int) = x := by rw [vE]; simp
theorem aJr (d k s : Nat) : nP d k s = ((BitVec.ofNat 64 d &&& ~~~ BitVec.ofNat 64 (65535 * 2 ^ s % 18446744073709551616)) ||| BitVec.ofNat 64 (k * 2 ^ s % 18446744073709551616)).toNat := by
 have h1 : bits .andNot .u64 (d : Int) ((65535 * 2 ^ s % 18446744073709551616 : Nat) : Int) = (((BitVec.ofNat 64 d &&& ~~~ BitVec.ofNat 64 (65535 * 2 ^ s % 18446744073709551616)).toNat : Nat) : Int) := by
  show IntKind.u64.wrap ((BitVec.ofInt 64 (d : Int) &&& ~~~ BitVec.ofInt 64 ((65535 * 2 ^ s % 18446744073709551616 : Nat) : Int)).toNat : Int) = _
  rw [aLf, vE, vE]
 unfold nP
 rw [h1]
 have h2 : ∀ x y : BitVec 64, bits .or .u64 (x.toNat : Int) (y.toNat : Int) = (((x ||| y).toNat : Nat) : Int) := fun x y => by
  show IntKind.u64.wrap ((BitVec.ofInt 64 (x.toNat : Int) ||| BitVec.ofInt 64 (y.toNat : Int)).toNat : Int) = _
  rw [ofB, ofB, aLf]
 have h3 : ((k * 2 ^ s % 18446744073709551616 : Nat) : Int) = ((BitVec.ofNat 64 (k * 2 ^ s % 18446744073709551616)).toNat : Int) := by
  rw [BitVec.toNat_ofNat]; omega
 rw [h3, h2]
 have := ((BitVec.ofNat 64 d &&& ~~~ BitVec.ofNat 64 (65535 * 2 ^ s % 18446744073709551616)) ||| BitVec.ofNat 64 (k * 2 ^ s % 18446744073709551616)).isLt
 generalize ((BitVec.ofNat 64 d &&& ~~~ BitVec.ofNat 64 (65535 * 2 ^ s % 18446744073709551616)) ||| BitVec.ofNat 64 (k * 2 ^ s % 18446744073709551616)).toNat = q at *
 unfold u64
 omega
theorem aGR (k s i : Nat) (hi : i < 64) : (k * 2 ^ s % 18446744073709551616).testBit i = (decide (s ≤ i) && k.testBit (i - s)) := by
 rw [show (18446744073709551616 : Nat) = 2 ^ 64 from rfl, Nat.testBit_mod_two_pow, Nat.testBit_mul_two_pow]
 simp [hi]
theorem aMZ (n : Nat) : (65535 : Nat).testBit n = decide (n < 16) := by
 rw [show (65535 : Nat) = 2 ^ 16 - 1 from rfl, Nat.testBit_two_pow_sub_one]
theorem tP (d k s : Nat) (i : Nat) (hi : i < 64) (hk : k < 65536) : (nP d k s).testBit i = if s ≤ i ∧ i < s + 16 then k.testBit (i - s) else d.testBit i := by
 rw [aJr]
 have e : ∀ x : BitVec 64, x.toNat.testBit i = x.getLsbD i := fun x => rfl
 rw [e]
 simp only [BitVec.getLsbD_or, BitVec.getLsbD_and, BitVec.getLsbD_not, BitVec.getLsbD_ofNat, hi, decide_true, Bool.true_and]
 rw [aGR _ _ _ hi, aGR _ _ _ hi, aMZ]
 have hkb : ∀ j, 16 ≤ j → k.testBit j = false := fun j hj => Nat.testBit_lt_two_pow (Nat.lt_of_lt_of_le (show k < 2 ^ 16 from hk) (Nat.pow_le_pow_right (by omega) hj))
 by_cases h1 : s ≤ i
 ·by_cases h2 : i < s + 16
  ·rw [if_pos ⟨h1, h2⟩]
   simp [h1, show i - s < 16 by omega]
  ·rw [if_neg (by omega), hkb (i - s) (by omega)]
   simp [h1, show ¬ (i - s < 16) by omega]
 ·rw [if_neg (by omega)]
  simp [h1]
def jG (w s : Nat) : Nat := w / 2 ^ s % 65536
theorem rM (w s : Nat) : jG w s < 65536 := Nat.mod_lt _ (by decide)
theorem aDq (w s i : Nat) : (jG w s).testBit i = (decide (i < 16) && w.testBit (s + i)) := by
 unfold jG
 rw [show (65536 : Nat) = 2 ^ 16 from rfl, Nat.testBit_mod_two_pow, Nat.testBit_div_two_pow]
 rw [Nat.add_comm]
theorem aOw (w : Nat) (hw : w < 18446744073709551616) (a b c e : Nat) (hp : (a = 0 ∧ b = 16 ∧ c = 32 ∧ e = 48) ∨ (a = 16 ∧ b = 32 ∧ c = 48 ∧ e = 0) ∨ (a = 32 ∧ b = 48 ∧ c = 0 ∧ e = 16) ∨ (a = 48 ∧ b = 0 ∧ c = 16 ∧ e = 32)) :
  nP (nP (nP (jG w a * 2 ^ a % 18446744073709551616) (jG w b) b) (jG w c) c) (jG w e) e = w := by
 apply Nat.eq_of_testBit_eq
 intro i
 by_cases hi : i < 64
 ·have fin : ∀ s, s ≤ i ∧ i < s + 16 → (jG w s).testBit (i - s) = w.testBit i := fun s h => by
   rw [aDq, show s + (i - s) = i by omega]
   simp; omega
  rw [tP _ _ _ _ hi (rM _ _), tP _ _ _ _ hi (rM _ _), tP _ _ _ _ hi (rM _ _), aGR _ _ _ hi]
  split
  ·rename_i h; exact fin _ h
  split
  ·rename_i h; exact fin _ h
  split
  ·rename_i h; exact fin _ h
  have ha : a ≤ i ∧ i < a + 16 := by omega
  rw [decide_eq_true ha.1, Bool.true_and]
  exact fin _ ha
 ·have hlt : ∀ x, x < 18446744073709551616 → x.testBit i = false := fun x hx => Nat.testBit_lt_two_pow (Nat.lt_of_lt_of_le (show x < 2 ^ 64 from hx) (Nat.pow_le_pow_right (by omega) (by omega)))
  rw [hlt w hw]
  exact hlt _ (by unfold nP; exact iJ _)
theorem aIQ (l : List MI) : oU 6 (cQ l) = true := rD 6 _ (fun _ => rfl) l
theorem aEo (l : List MI) (i : MI) : cQ l ++ [i.v] = cQ (l ++ [i]) := by simp [cQ]
def tC (d : Int) (u : Nat) (out : List MI) (a : Nat) : List MI :=
 if jG u (16 * a) = 0 then out else out ++ [⟨if out.length = 0 then 1 else 2, d, 0, 0, (a : Int), (jG u (16 * a) : Int)⟩]
def iQ (d : Int) (u : Nat) : Nat → List MI
 | 0 => []
 | a + 1 => tC d u (iQ d u a) a
def iB (d : Int) (u : Nat) : List MI := if (iQ d u 4).length = 0 then [⟨1, d, 0, 0, 0, 0⟩] else iQ d u 4
theorem pI (d : Int) (u : Nat) : ∀ a, (iQ d u a).length ≤ a
 | 0 => Nat.le_refl _
 | a + 1 => by
  have := pI d u a
  unfold iQ tC
  split
  ·omega
  ·simp; omega
theorem jP (d : Int) (u : Nat) : 1 ≤ (iB d u).length ∧ (iB d u).length ≤ 4 := by
 unfold iB
 split
 ·simp
 ·exact ⟨by omega, pI d u 4⟩
section
variable (G : aI) (k : Nat) (self : dE)
def vY (H : aF) (l : List MI) : aF := H ++ [⟨57, 6, []⟩, ⟨57, 6, cQ l⟩]
theorem xP (H : aF) (l : List MI) : (vY H l).length = H.length + 2 := by simp [vY]
theorem aJj (H : aF) (l : List MI) : (vY H l)[H.length + 1]? = some ⟨57, 6, cQ l⟩ := by
 unfold vY
 rw [List.getElem?_append_right (by omega)]; simp
theorem aHg (H : aF) (l : List MI) (i : MI) (hl : l.length ≤ 10) : eQ 57 6 (.sl (H.length + 1) l.length 0 l.length 6) (.ro false [i.v]) (vY H l) = some (.sl (H.length + 1) (l ++ [i]).length 0 (l ++ [i]).length 6, vY H (l ++ [i])) := by
 unfold eQ
 simp only [aJj, iK, iE, List.length_singleton]
 rw [if_pos (by refine ⟨?_, ?_, ?_, ?_, ?_⟩ <;> first | trivial | rfl | omega)]
 have e2 : (cQ l).take l.length = cQ l := List.take_of_length_le (by rw [iE]; exact Nat.le_refl _)
 have e3 : (cQ l).drop (l.length + 1) = [] := List.drop_of_length_le (by rw [iE]; omega)
 rw [e2, e3, List.append_nil, aEo, iE, List.length_append, List.length_singleton]
 congr 2
 unfold vY
 rw [List.set_append_right _ _ (by omega)]
 simp
theorem mH (n : Nat) : ∀ A B : aF, dL n A = true → dL n B = true → dL n (A ++ B) = true
 | [], B, _, h => h
 | a :: A, B, h1, h2 => by
  simp only [dL, Bool.and_eq_true] at h1
  simp [dL, h1.1, mH n A B h1.2 h2]
def xsK (d kk : Int) (H : aF) (l : List MI) (a : Nat) : List AV := [I6 d, I6 kk, .sl (H.length + 1) l.length 0 l.length 6, Nn a]
theorem yJ (d kk : Int) (H : aF) (hH : dL (H.length + 2) H = true) (u : Nat) (hu : u = u64 kk) : ∀ (c a f : Nat), a + c = 4 → c < f →
  gH (cE.l3 G k (H.length + 2) self) f (xsK d kk H (iQ d u a) a) (vY H (iQ d u a)) = some (.exit 0, xsK d kk H (iQ d u 4) 4, vY H (iQ d u 4))
 | c, a, 0, h, hf => by omega
 | 0, a, f + 1, h, hf => by
  have ha : a = 4 := by omega
  subst ha
  rw [fJ, cE.l3]
  have hc : iL (H.length + 2) (xsK d kk H (iQ d u 4) 4) (vY H (iQ d u 4)) = some (vY H (iQ d u 4)) := by
   have e : (vY H (iQ d u 4)).take (H.length + 2) = vY H (iQ d u 4) := List.take_of_length_le (by rw [xP]; exact Nat.le_refl _)
   have hb : dL (H.length + 2) (vY H (iQ d u 4)) = true := mH _ _ _ hH (by simp [dL, cS, lU])
   unfold iL
   rw [e, hb]
   simp [xsK, cS, cK]
  refine jU ?_
  refine eC hc ?_
  unfold xsK
  generalize vY H (iQ d u 4) = hh at *
  have fx := True.intro
  refine gC ?_
  refine iA ?_; rfl
 | c + 1, a, f + 1, h, hf => by
  rw [fJ, cE.l3]
  have ih := yJ d kk H hH u hu c (a + 1) f (by omega) (by omega)
  have hlen := pI d u a
  obtain ⟨l, hl⟩ : ∃ l, l = iQ d u a := ⟨_, rfl⟩
  have hs : iQ d u (a + 1) = tC d u l a := by rw [hl]; rfl
  rw [hs] at ih
  rw [← hl] at hlen ⊢
  have hc : iL (H.length + 2) (xsK d kk H l a) (vY H l) = some (vY H l) := by
   have e : (vY H l).take (H.length + 2) = vY H l := List.take_of_length_le (by rw [xP]; exact Nat.le_refl _)
   have hb : dL (H.length + 2) (vY H l) = true := mH _ _ _ hH (by simp [dL, cS, lU])
   unfold iL
   rw [e, hb]
   simp [xsK, cS, cK]
  have hul : u < 18446744073709551616 := by rw [hu]; exact iJ _
  have hp := rM u (16 * a)
  have c1 : aJ .u64 (I6 kk) = some (Un u) := by rw [gL, hu]
  have c2 : aQ Tryd.prog .mul 3 true (.int .i64 16) (Nn a) = some (Nn (16 * a)) := by
   rw [xJ, fD (by omega) (by omega)]; congr 2
  have c3 := rQ Tryd.prog 43 false .i64 u (16 * a) (by omega)
  have dl : u / 2 ^ (16 * a) < 18446744073709551616 := Nat.lt_of_le_of_lt (Nat.div_le_self _ _) hul
  have c4 : aQ Tryd.prog .and 43 true (Un (u / 2 ^ (16 * a))) (.int .u64 65535) = some (Un (jG u (16 * a))) := by
   have := uI (u / 2 ^ (16 * a)) 65535 dl (by decide)
   rw [nC]
   show some (AV.int .u64 (bits .and .u64 ((u / 2 ^ (16 * a) : Nat) : Int) ((65535 : Nat) : Int))) = _
   rw [this, show (65535 : Nat) = 2 ^ 16 - 1 from rfl, Nat.and_two_pow_sub_one_eq_mod]
   rfl
  have c5 : aJ .i64 (Un (jG u (16 * a))) = some (I6 (jG u (16 * a) : Int)) := aHL (by omega) (by omega)
  have c6 : aQ Tryd.prog .add 3 true (Nn a) (.int .i64 1) = some (Nn (a + 1)) := by
   rw [kH, fD (by omega) (by omega)]; congr 2
  have q0 : aQ Tryd.prog .lss 3 true (Nn a) (.int .i64 4) = some (.bool true) := pR (by omega)
  by_cases hz : jG u (16 * a) = 0
  ·have e : tC d u l a = l := by unfold tC; rw [if_pos hz]
   rw [e] at ih
   rw [hz] at c4 c5
   have q1 : aQ Tryd.prog .eql 3 true (I6 ((0 : Nat) : Int)) (.int .i64 0) = some (.bool true) := jX rfl
   unfold xsK at ih ⊢
   clear hs hl hul dl
   generalize vY H l = hh at *
   generalize u / 2 ^ (16 * a) = z at *
   generalize 16 * a = a16 at *
   refine jU ?_
   refine eC hc ?_
   have fx := aOO q0 <| aOO c1 <| aOO c2 <| aOO c3 <| aOO c4 <| aOO c5 <| aOO c6 <| q1
   refine jL ?_
   exact ih
  ·have e : tC d u l a = l ++ [⟨if l.length = 0 then 1 else 2, d, 0, 0, (a : Int), (jG u (16 * a) : Int)⟩] := by unfold tC; rw [if_neg hz]
   rw [e] at ih
   have q1 : aQ Tryd.prog .eql 3 true (I6 (jG u (16 * a) : Int)) (.int .i64 0) = some (.bool false) := gU (by omega)
   have lc : dV (.sl (H.length + 1) l.length 0 l.length 6) = some (Nn l.length) := rfl
   have ap := aHg H l ⟨if l.length = 0 then 1 else 2, d, 0, 0, (a : Int), (jG u (16 * a) : Int)⟩ (by omega)
   have br : ∀ (i : MI) HH, eP 6 1 (.agg [(.int .i64 0), (.int .i64 0), (.int .i64 0), (.int .i64 0), (.int .i64 0), (.int .i64 0)]) [(0, i.v)] HH = some (.ro false [i.v], HH) := fun i HH => rfl
   have br' := br ⟨if l.length = 0 then 1 else 2, d, 0, 0, (a : Int), (jG u (16 * a) : Int)⟩
   unfold xsK at ih ⊢
   clear hs hl hul dl br
   generalize u / 2 ^ (16 * a) = z at *
   generalize jG u (16 * a) = pp at *
   generalize 16 * a = a16 at *
   by_cases h0 : l.length = 0
   ·rw [if_pos h0] at ap ih br'
    have q2 : aQ Tryd.prog .eql 3 true (Nn l.length) (.int .i64 0) = some (.bool true) := jX (by omega)
    have bs : aZ [(0, 1), (1, 1), (2, 1), (3, 1), (4, 1), (5, 1)] [(.int .i64 0), (.int .i64 0), (.int .i64 0), (.int .i64 0), (.int .i64 0), (.int .i64 0)] [(0, .int .i64 1), (1, I6 d), (4, Nn a), (5, I6 (pp : Int))] = some (MI.v ⟨1, d, 0, 0, (a : Int), (pp : Int)⟩) := rfl
    generalize (⟨1, d, 0, 0, (a : Int), (pp : Int)⟩ : MI) = i at *
    refine jU ?_
    refine eC hc ?_
    have fx := aOO q0 <| aOO c1 <| aOO c2 <| aOO c3 <| aOO c4 <| aOO c5 <| aOO c6 <| aOO q1 <| aOO lc <| aOO q2 <| aOO bs <| aOO br' <| ap
    refine jL ?_
    exact ih
   ·rw [if_neg h0] at ap ih br'
    have q2 : aQ Tryd.prog .eql 3 true (Nn l.length) (.int .i64 0) = some (.bool false) := gU (by omega)
    have bs : aZ [(0, 1), (1, 1), (2, 1), (3, 1), (4, 1), (5, 1)] [(.int .i64 0), (.int .i64 0), (.int .i64 0), (.int .i64 0), (.int .i64 0), (.int .i64 0)] [(0, .int .i64 2), (1, I6 d), (4, Nn a), (5, I6 (pp : Int))] = some (MI.v ⟨2, d, 0, 0, (a : Int), (pp : Int)⟩) := rfl
    generalize (⟨2, d, 0, 0, (a : Int), (pp : Int)⟩ : MI) = i at *
    refine jU ?_
    refine eC hc ?_
    have fx := aOO q0 <| aOO c1 <| aOO c2 <| aOO c3 <| aOO c4 <| aOO c5 <| aOO c6 <| aOO q1 <| aOO lc <| aOO q2 <| aOO bs <| aOO br' <| ap
    refine jL ?_
    exact ih
theorem aAu (d kk : Int) (H : aF) (hH : dL (H.length + 2) H = true) (hk : 5 < k) :
  bF (cE.f G (k + 1)) [I6 d, I6 kk] H = some (.sl (H.length + 1) (iB d (u64 kk)).length 0 (iB d (u64 kk)).length 6, vY H (iB d (u64 kk))) := by
 refine qO ?_ (by rw [xP]; omega)
 rw [cE.step]
 unfold cE.c
 obtain ⟨u, hu⟩ : ∃ u, u = u64 kk := ⟨_, rfl⟩
 rw [← hu]
 have lp : gH (cE.l3 G k (H.length + 2) (cE.f G k)) k [I6 d, I6 kk, .sl (H.length + 1) 0 0 0 6, .int .i64 0] (vY H []) = _ := yJ G k (cE.f G k) d kk H hH u hu 4 0 k rfl (by omega)
 have e1 : (H ++ [⟨57, 6, []⟩] : aF).length = H.length + 1 := by simp
 have e2 : (H ++ [⟨57, 6, []⟩] ++ [⟨57, 6, []⟩] : aF) = vY H [] := by simp [vY, cQ]
 have hlen := pI d u 4
 unfold iB
 unfold xsK at lp
 generalize iQ d u 4 = l at *
 have lc : dV (.sl (H.length + 1) l.length 0 l.length 6) = some (Nn l.length) := rfl
 have hl := xP H []
 refine dX ?_
 by_cases h0 : l.length = 0
 ·rw [if_pos h0]
  have hl0 : l = [] := List.eq_nil_of_length_eq_zero h0
  subst hl0
  have ap := aHg H [] ⟨1, d, 0, 0, 0, 0⟩ (by simp)
  have br : ∀ HH, eP 6 1 (.agg [(.int .i64 0), (.int .i64 0), (.int .i64 0), (.int .i64 0), (.int .i64 0), (.int .i64 0)]) [(0, MI.v ⟨1, d, 0, 0, 0, 0⟩)] HH = some (.ro false [MI.v ⟨1, d, 0, 0, 0, 0⟩], HH) := fun HH => rfl
  have bs : aZ [(0, 1), (1, 1), (2, 1), (3, 1), (4, 1), (5, 1)] [(.int .i64 0), (.int .i64 0), (.int .i64 0), (.int .i64 0), (.int .i64 0), (.int .i64 0)] [(0, .int .i64 1), (1, I6 d)] = some (MI.v ⟨1, d, 0, 0, 0, 0⟩) := rfl
  have q2 : aQ Tryd.prog .eql 3 true (Nn ([] : List MI).length) (.int .i64 0) = some (.bool true) := jX rfl
  have fx := True.intro
  refine jL ?_
  simp only [e1, e2]
  rw [hl]
  have fx := aOO lc <| aOO q2 <| aOO bs <| aOO br <| ap
  have lx1 := lp
  refine jL ?_
  refine iA ?_; rfl
 ·rw [if_neg h0]
  have q2 : aQ Tryd.prog .eql 3 true (Nn l.length) (.int .i64 0) = some (.bool false) := gU (by omega)
  have fx := True.intro
  refine jL ?_
  simp only [e1, e2]
  rw [hl]
  have fx := aOO lc <| q2
  have lx1 := lp
  refine jL ?_
  refine iA ?_; rfl
end
theorem aHu (u s : Nat) (hs : s + 16 ≤ 64) (h0 : u % 2 ^ s = 0) : jG u s * 2 ^ s % 18446744073709551616 = u % 2 ^ (s + 16) := by
 have e : u % 2 ^ (s + 16) = u % 2 ^ s + 2 ^ s * (u / 2 ^ s % 2 ^ 16) := by rw [Nat.pow_add, Nat.mod_mul]
 have hlt : u % 2 ^ (s + 16) < 2 ^ (s + 16) := Nat.mod_lt _ (Nat.two_pow_pos _)
 have hle : 2 ^ (s + 16) ≤ 2 ^ 64 := Nat.pow_le_pow_right (by decide) hs
 rw [h0, Nat.zero_add] at e
 have e2 : jG u s * 2 ^ s = u % 2 ^ (s + 16) := by rw [e, Nat.mul_comm]; rfl
 rw [e2, Nat.mod_eq_of_lt (by omega)]
theorem aHt (u s : Nat) (hs : s + 16 ≤ 64) : nP (u % 2 ^ s) (jG u s) s = u % 2 ^ (s + 16) := by
 have hlt : u % 2 ^ (s + 16) < 2 ^ (s + 16) := Nat.mod_lt _ (Nat.two_pow_pos _)
 have hle : 2 ^ (s + 16) ≤ 2 ^ 64 := Nat.pow_le_pow_right (by decide) hs
 apply Nat.eq_of_testBit_eq
 intro i
 by_cases hi : i < 64
 ·rw [tP _ _ _ _ hi (rM _ _), Nat.testBit_mod_two_pow, Nat.testBit_mod_two_pow]
  by_cases h1 : s ≤ i ∧ i < s + 16
  ·rw [if_pos h1, aDq, show s + (i - s) = i by omega]
   simp [show i - s < 16 by omega, h1.2]
  ·rw [if_neg h1]
   by_cases h2 : i < s
   ·simp [h2, show i < s + 16 by omega]
   ·simp [h2, show ¬ i < s + 16 by omega]
 ·have z : ∀ x, x < 18446744073709551616 → x.testBit i = false := fun x hx => Nat.testBit_lt_two_pow (Nat.lt_of_lt_of_le (show x < 2 ^ 64 from hx) (Nat.pow_le_pow_right (by omega) (by omega)))
  rw [z _ (by unfold nP; exact iJ _), z _ (by omega)]
def aCc (f : FL) (l : List MI) (r : List Nat) : List Nat := l.foldl (fun r i => (cP i r f).1) r
theorem aIh (f : FL) (l : List MI) (i : MI) (r : List Nat) : aCc f (l ++ [i]) r = (cP i (aCc f l r) f).1 := by simp [aCc]
def isC (d : Int) (i : MI) : Prop := aT i = true ∧ (i.op = 1 ∨ i.op = 2)
theorem aAH (d : Int) (hd : 0 ≤ d ∧ d ≤ 30) (u : Nat) (f : FL) : ∀ a, a ≤ 4 → (∀ i ∈ iQ d u a, isC d i) ∧ ((iQ d u a = [] ∧ u % 2 ^ (16 * a) = 0) ∨ (iQ d u a ≠ [] ∧ ∀ r : List Nat, r.length = 31 → aCc f (iQ d u a) r = r.set d.toNat (u % 2 ^ (16 * a))))
 | 0, _ => ⟨fun i h => (by cases h), Or.inl ⟨rfl, by simp [Nat.mod_one]⟩⟩
 | a + 1, ha => by
  obtain ⟨h1, h2⟩ := aAH d hd u f a (by omega)
  have hs : iQ d u (a + 1) = tC d u (iQ d u a) a := rfl
  rw [hs]
  have e16 : 16 * (a + 1) = 16 * a + 16 := by omega
  have hp := rM u (16 * a)
  generalize iQ d u a = l at *
  unfold tC
  by_cases hz : jG u (16 * a) = 0
  ·rw [if_pos hz]
   have em : u % 2 ^ (16 * (a + 1)) = u % 2 ^ (16 * a) := by
    rw [e16, Nat.pow_add, Nat.mod_mul]
    have : u / 2 ^ (16 * a) % 2 ^ 16 = 0 := hz
    rw [this]; simp
   rw [em]
   exact ⟨h1, h2⟩
  rw [if_neg hz]
  have rt : ∀ op : Int, (op = 1 ∨ op = 2) → aT ⟨op, d, 0, 0, (a : Int), (jG u (16 * a) : Int)⟩ = true := fun op ho => by
   rcases ho with rfl | rfl <;> (simp [aT, jQ, dS, aN, fP, dA, fW, dU, dB]; omega)
  have e64 : u64 ((jG u (16 * a) : Nat) : Int) = jG u (16 * a) := by unfold u64; omega
  have ea : (16 * (a : Int)).toNat = 16 * a := by omega
  refine ⟨fun i hi => ?_, .inr ⟨by simp, fun r hr => ?_⟩⟩
  ·rcases List.mem_append.1 hi with h | h
   ·exact h1 i h
   ·obtain rfl := List.mem_singleton.1 h
    refine ⟨rt _ (by split <;> simp), ?_⟩
    show (if l.length = 0 then (1 : Int) else 2) = 1 ∨ (if l.length = 0 then (1 : Int) else 2) = 2
    split <;> simp
  ·rw [aIh, e16]
   rcases h2 with ⟨h2, h3⟩ | ⟨h2, h3⟩
   ·subst h2
    have e : (cP ⟨1, d, 0, 0, (a : Int), (jG u (16 * a) : Int)⟩ (aCc f [] r) f).1 = fE r d (u64 ((jG u (16 * a) : Nat) : Int) * 2 ^ (16 * (a : Int)).toNat % 18446744073709551616) := rfl
    show (cP ⟨1, d, 0, 0, (a : Int), (jG u (16 * a) : Int)⟩ (aCc f [] r) f).1 = _
    rw [e, e64, ea, aHu u (16 * a) (by omega) h3]
    unfold fE
    rw [if_neg (by omega)]
   ·have hl : l.length ≠ 0 := fun h => h2 (List.eq_nil_of_length_eq_zero h)
    rw [if_neg hl, h3 r hr]
    have e : ∀ q : List Nat, (cP ⟨2, d, 0, 0, (a : Int), (jG u (16 * a) : Int)⟩ q f).1 = fE q d (nP (cC q d) (u64 ((jG u (16 * a) : Nat) : Int)) (16 * (a : Int)).toNat) := fun q => rfl
    have hdl : d.toNat < r.length := by omega
    rw [e, e64, ea]
    unfold fE cC
    rw [if_neg (by omega), if_neg (by omega), List.set_set, List.getD_eq_getElem?_getD, List.getElem?_set_self hdl, Option.getD_some, aHt u (16 * a) (by omega)]
theorem sZ (d : Int) (hd : 0 ≤ d ∧ d ≤ 30) (u : Nat) (hu : u < 18446744073709551616) (f : FL) : (∀ i ∈ iB d u, isC d i) ∧ ∀ r : List Nat, r.length = 31 → aCc f (iB d u) r = r.set d.toNat u := by
 obtain ⟨h1, h2⟩ := aAH d hd u f 4 (Nat.le_refl _)
 have eu : u % 2 ^ (16 * 4) = u := Nat.mod_eq_of_lt hu
 rw [eu] at h2
 unfold iB
 rcases h2 with ⟨h2, h3⟩ | ⟨h2, h3⟩
 ·rw [h2, if_pos (show ([] : List MI).length = 0 from rfl)]
  refine ⟨fun i hi => ?_, fun r hr => ?_⟩
  ·simp at hi; subst hi
   exact ⟨by simp [aT, jQ, dS, aN, fP, dA, fW, dU, dB]; omega, .inl rfl⟩
  ·have e : aCc f [⟨1, d, 0, 0, 0, 0⟩] r = fE r d (u64 0 * 2 ^ (16 * (0 : Int)).toNat % 18446744073709551616) := rfl
   rw [e, h3]
   unfold fE
   rw [if_neg (by omega)]
   rfl
 ·rw [if_neg (fun h => h2 (List.eq_nil_of_length_eq_zero h))]
  exact ⟨h1, h3⟩
structure WI where
 op : Int
 d : Int
 a : Int
 b : Int
 c : Int
 k : Int
def WI.v (i : WI) : AV := .agg [I6 i.op, I6 i.d, I6 i.a, I6 i.b, I6 i.c, I6 i.k]
instance : Inhabited WI := ⟨⟨0, 0, 0, 0, 0, 0⟩⟩
structure KS where
 out : List MI
 place : List Nat
 jumps : List (Nat × Int)
def kE (l : List Nat) : List AV := l.map fun n => Nn n
def pN (p : Nat × Int) : AV := .agg [Nn p.1, I6 p.2]
def mP (l : List (Nat × Int)) : List AV := l.map pN
theorem kW (l : List Nat) : (kE l).length = l.length := by simp [kE]
theorem pB (l : List (Nat × Int)) : (mP l).length = l.length := by simp [mP]
theorem aDi (n : Nat) (l : List Nat) : cS n (kE l) = true := kR n _ (fun _ => rfl) l
theorem aCZ (n : Nat) (l : List (Nat × Int)) : cS n (mP l) = true := kR n _ (fun _ => rfl) l
def KS.put (s : KS) (l : List MI) : KS := { s with out := s.out ++ l }
def KS.jump (s : KS) (i : MI) (to : Int) : KS := ({ s with jumps := s.jumps ++ [(s.out.length, to)] } : KS).put [i]
def KS.touch (s : KS) (op r : Int) (i : WI) (e : Int) : KS :=
 let s1 := if i.k ≤ 4095 then s.put [⟨10, 28, i.a, 0, 0, i.k⟩] else (s.put (iB 28 (u64 i.k))).put [⟨3, 28, i.a, 28, 0, 0⟩]
 ((s1.put [⟨13, 29, 28, 0, 0, 16⟩]).jump ⟨23, 29, 0, 0, 0, 0⟩ e).put [⟨12, 28, 28, 0, 0, 3⟩, ⟨op, r, 28, 0, 0, 0⟩]
def KS.one (s : KS) (i : WI) (e : Int) : KS :=
 if i.op = 1 then s.put (iB i.d (u64 i.k))
 else if i.op = 2 then s.put [⟨6, i.d, i.a, 31, 0, 0⟩]
 else if i.op = 3 then s.put [⟨3, i.d, i.a, i.b, 0, 0⟩]
 else if i.op = 4 then s.put [⟨4, i.d, i.a, i.b, 0, 0⟩]
 else if i.op = 5 then s.put [⟨8, i.d, i.a, i.b, 31, 0⟩]
 else if i.op = 6 then s.put [⟨9, i.d, i.a, i.b, 0, 0⟩]
 else if i.op = 7 then s.put [⟨5, i.d, i.a, i.b, 0, 0⟩]
 else if i.op = 8 then s.put [⟨6, i.d, i.a, i.b, 0, 0⟩]
 else if i.op = 9 then s.put [⟨7, i.d, i.a, i.b, 0, 0⟩]
 else if i.op = 10 then s.put [⟨12, i.d, i.a, 0, 0, i.k⟩]
 else if i.op = 11 then s.put [⟨13, i.d, i.a, 0, 0, i.k⟩]
 else if i.op = 12 then s.put [⟨14, i.d, i.a, 0, 0, i.k⟩]
 else if i.op = 13 then s.put [⟨15, 0, i.a, i.b, 0, 0⟩, ⟨17, i.d, 0, 0, 3, 0⟩]
 else if i.op = 14 then s.put [⟨15, 0, i.a, 31, 0, 0⟩, ⟨16, i.d, i.b, i.c, 1, 0⟩]
 else if i.op = 15 then s.touch 18 i.d i e
 else if i.op = 16 then s.touch 19 i.b i e
 else if i.op = 17 then s.jump ⟨20, 0, 0, 0, 0, 0⟩ i.k
 else if i.op = 18 then s.jump ⟨22, i.a, 0, 0, 0, 0⟩ i.k
 else if i.op = 19 then s.jump ⟨23, i.a, 0, 0, 0, 0⟩ i.k
 else if i.op = 20 then s.put [⟨24, 0, 0, 0, 0, i.k⟩]
 else s
def KS.box (s : KS) : AV := .agg [.sl 2 s.out.length 0 s.out.length 6, .sl 3 s.place.length 0 s.place.length 1, .sl 4 s.jumps.length 0 s.jumps.length 2]
def fB (s : KS) (T : aF) : aF := ⟨71, 1, []⟩ :: ⟨90, 3, [s.box]⟩ :: ⟨57, 6, cQ s.out⟩ :: ⟨3, 1, kE s.place⟩ :: ⟨93, 2, mP s.jumps⟩ :: T
abbrev BX : AV := .ptr 1 1 0 0
def Pl (T : aF) : Prop := ∀ n, dL n T = true
theorem uP {A B : aF} (hA : Pl A) (hB : Pl B) : Pl (A ++ B) := fun n => mH n A B (hA n) (hB n)
theorem aGM (l : List MI) : Pl [⟨57, 6, cQ l⟩] := fun n => by simp [dL, lU]
theorem gN (s : KS) (T : aF) : (fB s T).length = T.length + 5 := rfl
theorem aAQ (s : KS) (T : aF) (hT : Pl T) (n : Nat) (hn : 5 ≤ n) : dL n (fB s T) = true := by
 have h2 : decide (2 < n) = true := decide_eq_true (by omega)
 have h3 : decide (3 < n) = true := decide_eq_true (by omega)
 have h4 : decide (4 < n) = true := decide_eq_true (by omega)
 simp only [fB, KS.box, dL, cS, cK, lU, aDi, aCZ, hT n, h2, h3, h4, Bool.and_self]
theorem pL (s : KS) (T X : aF) (hT : Pl T) (xs : List AV) (hx : cS (T.length + 5) xs = true) : iL (T.length + 5) xs (fB s (T ++ X)) = some (fB s T) := by
 have e : (fB s (T ++ X)).take (T.length + 5) = fB s T := by
  unfold fB
  simp only [List.take_succ_cons]
  rw [List.take_append_of_le_length (Nat.le_refl _), List.take_length]
 unfold iL
 rw [e, hx, aAQ s T hT _ (by omega)]; rfl
theorem xB (s : KS) (T X : aF) (hT : Pl T) : bK [] (T.length + 5) (fB s (T ++ X)) = some (.ret, [.tup []], fB s T) := by
 unfold bK
 rw [pL s T X hT [] rfl]; rfl
theorem nM (s : KS) (T : aF) (hT : Pl T) : bK [] (T.length + 5) (fB s T) = some (.ret, [.tup []], fB s T) := by
 have := xB s T [] hT
 rwa [List.append_nil] at this
theorem iX {s s' : KS} {T : aF} {g : dE} {args : List AV} {r : AV} (h : g args (fB s T) = some (r, fB s' T)) : bF g args (fB s T) = some (r, fB s' T) := by
 unfold bF; rw [h]; simp only [gN, Nat.le_refl, if_true]
section
variable (G : aI) (k : Nat) (s : KS) (T : aF)
theorem zC : kL BX = some BX := rfl
theorem bf0 : aA 0 BX = some BX := rfl
theorem bf1 : aA 1 BX = some (.ptr 1 1 0 1) := rfl
theorem bf2 : aA 2 BX = some (.ptr 1 1 0 2) := rfl
theorem bl0 : aC G false 1 BX (fB s T) = some (.sl 2 s.out.length 0 s.out.length 6) := rfl
theorem bl1 : aC G false 1 (.ptr 1 1 0 1) (fB s T) = some (.sl 3 s.place.length 0 s.place.length 1) := rfl
theorem bl2 : aC G false 1 (.ptr 1 1 0 2) (fB s T) = some (.sl 4 s.jumps.length 0 s.jumps.length 2) := rfl
theorem zK (hT : Pl T) (x : AV) (l : List MI) (hx : iK x (fB s T) = some (cQ l)) (hs : s.out.length ≤ 1000000) (hl : l.length ≤ 1000) :
  bF (bD.f G (k + 1)) [BX, x] (fB s T) = some (.tup [], fB (s.put l) T) := by
 apply iX
 rw [bD.step]
 unfold bD.c
 rw [gN]
 have a1 : eQ 57 6 (.sl 2 s.out.length 0 s.out.length 6) x (fB s T) = some (.sl 2 (s.put l).out.length 0 (s.put l).out.length 6, (fB s T).set 2 ⟨57, 6, cQ (s.put l).out⟩) := by
  have e : (fB s T)[2]? = some ⟨57, 6, cQ s.out⟩ := rfl
  unfold eQ
  simp only [e, hx, iE, aIQ]
  rw [if_pos (by refine ⟨?_, ?_, ?_, ?_, ?_⟩ <;> first | trivial | rfl | omega)]
  have e2 : (cQ s.out).take s.out.length = cQ s.out := List.take_of_length_le (by rw [iE]; exact Nat.le_refl _)
  have e3 : (cQ s.out).drop (s.out.length + l.length) = [] := List.drop_of_length_le (by rw [iE]; omega)
  have e4 : cQ s.out ++ cQ l = cQ (s.out ++ l) := by simp [cQ]
  rw [e2, e3, List.append_nil, e4, iE]
  simp [KS.put]
 have s1 : eH (aO 1 BX (.sl 2 (s.put l).out.length 0 (s.put l).out.length 6) ((fB s T).set 2 ⟨57, 6, cQ (s.put l).out⟩)) = some (.tup [], fB (s.put l) T) := rfl
 have l0 := bl0 G s T
 have fin := nM (s.put l) T hT
 generalize (fB s T).set 2 ⟨57, 6, cQ (s.put l).out⟩ = hm at *
 refine dX ?_
 have fx := aOO zC <| aOO bf0 <| aOO l0 <| aOO a1 <| s1
 refine jL ?_
 exact oF fin
theorem aAI (l : List MI) : iK (.sl (T.length + 5) l.length 0 l.length 6) (fB s (T ++ [⟨57, 6, cQ l⟩])) = some (cQ l) := by
 have e : (fB s (T ++ [⟨57, 6, cQ l⟩]))[T.length + 5]? = some ⟨57, 6, cQ l⟩ := by
  unfold fB
  simp only [List.getElem?_cons_succ]
  rw [List.getElem?_append_right (Nat.le_refl _)]; simp
 simp only [iK, e, iE, if_true, List.drop_zero]
 rw [List.take_of_length_le (by rw [iE]; exact Nat.le_refl _)]
theorem pG (i : MI) : fN 57 6 1 (.agg [.int .i64 0, .int .i64 0, .int .i64 0, .int .i64 0, .int .i64 0, .int .i64 0]) [(0, i.v)] (fB s T) = some (.sl (T.length + 5) 1 0 1 6, fB s (T ++ [⟨57, 6, cQ [i]⟩])) := rfl
theorem aEa (i j : MI) : fN 57 6 2 (.agg [.int .i64 0, .int .i64 0, .int .i64 0, .int .i64 0, .int .i64 0, .int .i64 0]) [(0, i.v), (1, j.v)] (fB s T) = some (.sl (T.length + 5) 2 0 2 6, fB s (T ++ [⟨57, 6, cQ [i, j]⟩])) := rfl
theorem aBW (hT : Pl T) (i : MI) (hs : s.out.length ≤ 1000000) : bF (bD.f G (k + 1)) [BX, .sl (T.length + 5) 1 0 1 6] (fB s (T ++ [⟨57, 6, cQ [i]⟩])) = some (.tup [], fB (s.put [i]) (T ++ [⟨57, 6, cQ [i]⟩])) :=
 zK G k s (T ++ [⟨57, 6, cQ [i]⟩]) (uP hT (aGM [i])) _ [i] (aAI s T [i]) hs (by show 1 ≤ 1000; decide)
theorem aMb (hT : Pl T) (i j : MI) (hs : s.out.length ≤ 1000000) : bF (bD.f G (k + 1)) [BX, .sl (T.length + 5) 2 0 2 6] (fB s (T ++ [⟨57, 6, cQ [i, j]⟩])) = some (.tup [], fB (s.put [i, j]) (T ++ [⟨57, 6, cQ [i, j]⟩])) :=
 zK G k s (T ++ [⟨57, 6, cQ [i, j]⟩]) (uP hT (aGM [i, j])) _ [i, j] (aAI s T [i, j]) hs (by show 2 ≤ 1000; decide)
theorem wx (i : WI) (H : aF) : dH i.v H = some (.rp false i.v 0, H) := rfl
theorem wl0 (i : WI) (H : aF) : aC G false 1 (.rp false i.v 0) H = some (I6 i.op) := rfl
theorem wl1 (i : WI) (H : aF) : aC G false 1 (.rp false i.v 1) H = some (I6 i.d) := rfl
theorem wl2 (i : WI) (H : aF) : aC G false 1 (.rp false i.v 2) H = some (I6 i.a) := rfl
theorem wl3 (i : WI) (H : aF) : aC G false 1 (.rp false i.v 3) H = some (I6 i.b) := rfl
theorem wl4 (i : WI) (H : aF) : aC G false 1 (.rp false i.v 4) H = some (I6 i.c) := rfl
theorem wl5 (i : WI) (H : aF) : aC G false 1 (.rp false i.v 5) H = some (I6 i.k) := rfl
theorem wl6 (i : WI) (H : aF) : aC G true 6 (.rp false i.v 0) H = some i.v := rfl
theorem mF (hT : Pl T) (op : Int) (i : WI) (hs : s.out.length ≤ 1000000) : bF (bL.f G (k + 2)) [BX, I6 op, i.v] (fB s T) = some (.tup [], fB (s.put [⟨op, i.d, i.a, i.b, 0, 0⟩]) T) := by
 apply iX
 rw [bL.step]
 unfold bL.c
 rw [gN]
 have b0 := wx i
 have l1 := wl1 G i
 have l2 := wl2 G i
 have l3 := wl3 G i
 have bs : aZ [(0, 1), (1, 1), (2, 1), (3, 1), (4, 1), (5, 1)] [(.int .i64 0), (.int .i64 0), (.int .i64 0), (.int .i64 0), (.int .i64 0), (.int .i64 0)] [(0, I6 op), (1, I6 i.d), (2, I6 i.a), (3, I6 i.b)] = some (MI.v ⟨op, i.d, i.a, i.b, 0, 0⟩) := rfl
 have b1 := pG s T ⟨op, i.d, i.a, i.b, 0, 0⟩
 have p1 := aBW G k s T hT ⟨op, i.d, i.a, i.b, 0, 0⟩ hs
 have fin := xB (s.put [⟨op, i.d, i.a, i.b, 0, 0⟩]) T [⟨57, 6, cQ [⟨op, i.d, i.a, i.b, 0, 0⟩]⟩] hT
 generalize (⟨op, i.d, i.a, i.b, 0, 0⟩ : MI) = j at *
 generalize T ++ [⟨57, 6, cQ [j]⟩] = T1 at *
 refine dX ?_
 have fx := aOO b0 <| aOO l1 <| aOO l2 <| aOO l3 <| aOO bs <| aOO b1 <| p1
 refine jL ?_
 exact oF fin
theorem sL (hT : Pl T) (op : Int) (i : WI) (hs : s.out.length ≤ 1000000) : bF (cF.f G (k + 2)) [BX, I6 op, i.v] (fB s T) = some (.tup [], fB (s.put [⟨op, i.d, i.a, 0, 0, i.k⟩]) T) := by
 apply iX
 rw [cF.step]
 unfold cF.c
 rw [gN]
 have b0 := wx i
 have l1 := wl1 G i
 have l2 := wl2 G i
 have l5 := wl5 G i
 have bs : aZ [(0, 1), (1, 1), (2, 1), (3, 1), (4, 1), (5, 1)] [(.int .i64 0), (.int .i64 0), (.int .i64 0), (.int .i64 0), (.int .i64 0), (.int .i64 0)] [(0, I6 op), (1, I6 i.d), (2, I6 i.a), (5, I6 i.k)] = some (MI.v ⟨op, i.d, i.a, 0, 0, i.k⟩) := rfl
 have b1 := pG s T ⟨op, i.d, i.a, 0, 0, i.k⟩
 have p1 := aBW G k s T hT ⟨op, i.d, i.a, 0, 0, i.k⟩ hs
 have fin := xB (s.put [⟨op, i.d, i.a, 0, 0, i.k⟩]) T [⟨57, 6, cQ [⟨op, i.d, i.a, 0, 0, i.k⟩]⟩] hT
 generalize (⟨op, i.d, i.a, 0, 0, i.k⟩ : MI) = j at *
 generalize T ++ [⟨57, 6, cQ [j]⟩] = T1 at *
 refine dX ?_
 have fx := aOO b0 <| aOO l1 <| aOO l2 <| aOO l5 <| aOO bs <| aOO b1 <| p1
 refine jL ?_
 exact oF fin
theorem rJ (hT : Pl T) (i : MI) (to : Int) (hs : s.out.length ≤ 1000000) (hj : s.jumps.length ≤ 1000000) : bF (bX.f G (k + 2)) [BX, i.v, I6 to] (fB s T) = some (.tup [], fB (s.jump i to) T) := by
 apply iX
 rw [bX.step]
 unfold bX.c
 rw [gN]
 have b0 : ∀ H, dH i.v H = some (.rp false i.v 0, H) := fun H => rfl
 have l6 : ∀ H, aC G true 6 (.rp false i.v 0) H = some i.v := fun H => rfl
 have l0 := bl0 G s T
 have l2 := bl2 G s T
 have lc : dV (.sl 2 s.out.length 0 s.out.length 6) = some (Nn s.out.length) := rfl
 have bs : aZ [(0, 1), (1, 1)] [(.int .i64 0), (.int .i64 0)] [(0, Nn s.out.length), (1, I6 to)] = some (pN (s.out.length, to)) := rfl
 have br : ∀ H, eP 2 1 (.agg [(.int .i64 0), (.int .i64 0)]) [(0, pN (s.out.length, to))] H = some (.ro false [pN (s.out.length, to)], H) := fun H => rfl
 obtain ⟨s1, hs1⟩ : ∃ s1 : KS, s1 = { s with jumps := s.jumps ++ [(s.out.length, to)] } := ⟨_, rfl⟩
 have hj1 : s.jump i to = s1.put [i] := by rw [hs1]; rfl
 have a1 : eQ 93 2 (.sl 4 s.jumps.length 0 s.jumps.length 2) (.ro false [pN (s.out.length, to)]) (fB s T) = some (.sl 4 s1.jumps.length 0 s1.jumps.length 2, (fB s T).set 4 ⟨93, 2, mP s1.jumps⟩) := by
  have e : (fB s T)[4]? = some ⟨93, 2, mP s.jumps⟩ := rfl
  unfold eQ
  simp only [e, iK, pB, List.length_singleton]
  rw [if_pos (by refine ⟨?_, ?_, ?_, ?_, ?_⟩ <;> first | trivial | rfl | omega)]
  have e2 : (mP s.jumps).take s.jumps.length = mP s.jumps := List.take_of_length_le (by rw [pB]; exact Nat.le_refl _)
  have e3 : (mP s.jumps).drop (s.jumps.length + 1) = [] := List.drop_of_length_le (by rw [pB]; omega)
  have e4 : mP s.jumps ++ [pN (s.out.length, to)] = mP (s.jumps ++ [(s.out.length, to)]) := by simp [mP]
  rw [e2, e3, List.append_nil, e4, pB, hs1]
  simp
 have s1_ : eH (aO 1 (.ptr 1 1 0 2) (.sl 4 s1.jumps.length 0 s1.jumps.length 2) ((fB s T).set 4 ⟨93, 2, mP s1.jumps⟩)) = some (.tup [], fB s1 T) := by rw [hs1]; rfl
 have ho : s1.out.length ≤ 1000000 := by rw [hs1]; exact hs
 rw [hj1]
 have b1 := pG s1 T i
 have p1 := aBW G k s1 T hT i ho
 have fin := xB (s1.put [i]) T [⟨57, 6, cQ [i]⟩] hT
 clear hs1 hj1
 generalize T ++ [⟨57, 6, cQ [i]⟩] = T1 at *
 generalize (fB s T).set 4 ⟨93, 2, mP s1.jumps⟩ = hm at *
 generalize pN (s.out.length, to) = jv at *
 generalize i.v = iv at *
 refine dX ?_
 have fx := aOO zC <| aOO bf0 <| aOO bf2 <| aOO b0 <| aOO l6 <| aOO l0 <| aOO l2 <| aOO lc <| aOO bs <| aOO br <| aOO a1 <| aOO s1_ <| aOO b1 <| p1
 refine jL ?_
 exact oF fin
end
section
variable (G : aI) (k : Nat) (s : KS) (T : aF)
theorem aAG (hT : Pl T) (d kk : Int) (hs : s.out.length ≤ 1000000) :
  bF (cE.f G (k + 9)) [I6 d, I6 kk] (fB s T) = some (.sl (T.length + 6) (iB d (u64 kk)).length 0 (iB d (u64 kk)).length 6, fB s (T ++ [⟨57, 6, []⟩, ⟨57, 6, cQ (iB d (u64 kk))⟩])) ∧
  bF (bD.f G (k + 9)) [BX, .sl (T.length + 6) (iB d (u64 kk)).length 0 (iB d (u64 kk)).length 6] (fB s (T ++ [⟨57, 6, []⟩, ⟨57, 6, cQ (iB d (u64 kk))⟩])) = some (.tup [], fB (s.put (iB d (u64 kk))) (T ++ [⟨57, 6, []⟩, ⟨57, 6, cQ (iB d (u64 kk))⟩])) ∧
  Pl (T ++ [⟨57, 6, []⟩, ⟨57, 6, cQ (iB d (u64 kk))⟩]) := by
 have hlen := (jP d (u64 kk)).2
 have h1 := aAu G (k + 8) d kk (fB s T) (aAQ s T hT _ (by rw [gN]; omega)) (by omega)
 generalize iB d (u64 kk) = L at *
 have e1 : vY (fB s T) L = fB s (T ++ [⟨57, 6, []⟩, ⟨57, 6, cQ L⟩]) := rfl
 rw [gN, e1] at h1
 have hp : Pl (T ++ [⟨57, 6, []⟩, ⟨57, 6, cQ L⟩]) := uP hT (fun n => by simp [dL, cS, lU])
 refine ⟨h1, zK G (k + 8) s _ hp _ L ?_ hs (by omega), hp⟩
 have e : (fB s (T ++ [⟨57, 6, []⟩, ⟨57, 6, cQ L⟩]))[T.length + 6]? = some ⟨57, 6, cQ L⟩ := by
  unfold fB
  simp only [List.getElem?_cons_succ]
  rw [List.getElem?_append_right (by omega)]; simp
 simp only [iK, e, iE, if_true, List.drop_zero]
 rw [List.take_of_length_le (by rw [iE]; exact Nat.le_refl _)]
theorem aAi (hT : Pl T) (op r : Int) (i : WI) (e : Int) (hs : s.out.length ≤ 900000) (hj : s.jumps.length ≤ 900000) :
  bF (cO.f G (k + 10)) [BX, I6 op, I6 r, i.v, I6 e] (fB s T) = some (.tup [], fB (s.touch op r i e) T) := by
 apply iX
 rw [cO.step]
 unfold cO.c
 rw [gN]
 have b0 := wx i
 have w2 := wl2 G i
 have w5 := wl5 G i
 have q13 : aZ [(0, 1), (1, 1), (2, 1), (3, 1), (4, 1), (5, 1)] [(.int .i64 0), (.int .i64 0), (.int .i64 0), (.int .i64 0), (.int .i64 0), (.int .i64 0)] [(0, .int .i64 13), (1, .int .i64 29), (2, .int .i64 28), (5, .int .i64 16)] = some (MI.v ⟨13, 29, 28, 0, 0, 16⟩) := rfl
 have q23 : aZ [(0, 1), (1, 1), (2, 1), (3, 1), (4, 1), (5, 1)] [(.int .i64 0), (.int .i64 0), (.int .i64 0), (.int .i64 0), (.int .i64 0), (.int .i64 0)] [(0, .int .i64 23), (1, .int .i64 29)] = some (MI.v ⟨23, 29, 0, 0, 0, 0⟩) := rfl
 have q12 : aZ [(0, 1), (1, 1), (2, 1), (3, 1), (4, 1), (5, 1)] [(.int .i64 0), (.int .i64 0), (.int .i64 0), (.int .i64 0), (.int .i64 0), (.int .i64 0)] [(0, .int .i64 12), (1, .int .i64 28), (2, .int .i64 28), (5, .int .i64 3)] = some (MI.v ⟨12, 28, 28, 0, 0, 3⟩) := rfl
 have qop : aZ [(0, 1), (1, 1), (2, 1), (3, 1), (4, 1), (5, 1)] [(.int .i64 0), (.int .i64 0), (.int .i64 0), (.int .i64 0), (.int .i64 0), (.int .i64 0)] [(0, I6 op), (1, I6 r), (2, .int .i64 28)] = some (MI.v ⟨op, r, 28, 0, 0, 0⟩) := rfl
 have rest : ∀ (s1 : KS) (T1 : aF), Pl T1 → s1.out.length ≤ 900010 → s1.jumps.length ≤ 900000 →
   ∃ b1 b2 : ABlk, fN 57 6 1 (.agg [.int .i64 0, .int .i64 0, .int .i64 0, .int .i64 0, .int .i64 0, .int .i64 0]) [(0, MI.v ⟨13, 29, 28, 0, 0, 16⟩)] (fB s1 T1) = some (.sl (T1.length + 5) 1 0 1 6, fB s1 (T1 ++ [b1])) ∧
    bF (bD.f G (k + 9)) [BX, .sl (T1.length + 5) 1 0 1 6] (fB s1 (T1 ++ [b1])) = some (.tup [], fB (s1.put [⟨13, 29, 28, 0, 0, 16⟩]) (T1 ++ [b1])) ∧
    bF (bX.f G (k + 9)) [BX, MI.v ⟨23, 29, 0, 0, 0, 0⟩, I6 e] (fB (s1.put [⟨13, 29, 28, 0, 0, 16⟩]) (T1 ++ [b1])) = some (.tup [], fB ((s1.put [⟨13, 29, 28, 0, 0, 16⟩]).jump ⟨23, 29, 0, 0, 0, 0⟩ e) (T1 ++ [b1])) ∧
    fN 57 6 2 (.agg [.int .i64 0, .int .i64 0, .int .i64 0, .int .i64 0, .int .i64 0, .int .i64 0]) [(0, MI.v ⟨12, 28, 28, 0, 0, 3⟩), (1, MI.v ⟨op, r, 28, 0, 0, 0⟩)] (fB ((s1.put [⟨13, 29, 28, 0, 0, 16⟩]).jump ⟨23, 29, 0, 0, 0, 0⟩ e) (T1 ++ [b1])) = some (.sl ((T1 ++ [b1]).length + 5) 2 0 2 6, fB ((s1.put [⟨13, 29, 28, 0, 0, 16⟩]).jump ⟨23, 29, 0, 0, 0, 0⟩ e) (T1 ++ [b1] ++ [b2])) ∧
    bF (bD.f G (k + 9)) [BX, .sl ((T1 ++ [b1]).length + 5) 2 0 2 6] (fB ((s1.put [⟨13, 29, 28, 0, 0, 16⟩]).jump ⟨23, 29, 0, 0, 0, 0⟩ e) (T1 ++ [b1] ++ [b2])) = some (.tup [], fB (((s1.put [⟨13, 29, 28, 0, 0, 16⟩]).jump ⟨23, 29, 0, 0, 0, 0⟩ e).put [⟨12, 28, 28, 0, 0, 3⟩, ⟨op, r, 28, 0, 0, 0⟩]) (T1 ++ [b1] ++ [b2])) := by
  intro s1 T1 hT1 h1 h2
  have hp1 : Pl (T1 ++ [⟨57, 6, cQ [⟨13, 29, 28, 0, 0, 16⟩]⟩]) := uP hT1 (aGM _)
  refine ⟨⟨57, 6, cQ [⟨13, 29, 28, 0, 0, 16⟩]⟩, ⟨57, 6, cQ [⟨12, 28, 28, 0, 0, 3⟩, ⟨op, r, 28, 0, 0, 0⟩]⟩, pG s1 T1 _, aBW G (k + 8) s1 T1 hT1 _ (by omega), rJ G (k + 7) _ _ hp1 _ e ?_ ?_, aEa _ _ _ _, aMb G (k + 8) _ _ hp1 _ _ ?_⟩
  ·simp [KS.put]; omega
  ·simp [KS.put]; omega
  ·simp [KS.put, KS.jump]; omega
 unfold KS.touch
 by_cases hk : i.k ≤ 4095
 ·rw [if_pos hk]
  have q10 : aZ [(0, 1), (1, 1), (2, 1), (3, 1), (4, 1), (5, 1)] [(.int .i64 0), (.int .i64 0), (.int .i64 0), (.int .i64 0), (.int .i64 0), (.int .i64 0)] [(0, .int .i64 10), (1, .int .i64 28), (2, I6 i.a), (5, I6 i.k)] = some (MI.v ⟨10, 28, i.a, 0, 0, i.k⟩) := rfl
  have c1 := pG s T ⟨10, 28, i.a, 0, 0, i.k⟩
  have c2 := aBW G (k + 8) s T hT ⟨10, 28, i.a, 0, 0, i.k⟩ (by omega)
  have hp : Pl (T ++ [⟨57, 6, cQ [⟨10, 28, i.a, 0, 0, i.k⟩]⟩]) := uP hT (aGM _)
  obtain ⟨b1, b2, r1, r2, r3, r4, r5⟩ := rest (s.put [⟨10, 28, i.a, 0, 0, i.k⟩]) (T ++ [⟨57, 6, cQ [⟨10, 28, i.a, 0, 0, i.k⟩]⟩]) hp (by simp [KS.put]; omega) (by simp [KS.put]; omega)
  obtain ⟨sE, hE⟩ : ∃ sE, sE = (((s.put [⟨10, 28, i.a, 0, 0, i.k⟩]).put [⟨13, 29, 28, 0, 0, 16⟩]).jump ⟨23, 29, 0, 0, 0, 0⟩ e).put [⟨12, 28, 28, 0, 0, 3⟩, ⟨op, r, 28, 0, 0, 0⟩] := ⟨_, rfl⟩
  have eA : T ++ [⟨57, 6, cQ [⟨10, 28, i.a, 0, 0, i.k⟩]⟩] ++ [b1] ++ [b2] = T ++ [⟨57, 6, cQ [⟨10, 28, i.a, 0, 0, i.k⟩]⟩, b1, b2] := by simp
  have fin := xB sE T [⟨57, 6, cQ [⟨10, 28, i.a, 0, 0, i.k⟩]⟩, b1, b2] hT
  rw [← eA] at fin
  simp only
  rw [← hE] at r5 ⊢
  have g1 : aQ Tryd.prog .leq 2 true (I6 i.k) (.int .i64 4095) = some (.bool true) := uA hk
  clear rest hE eA
  generalize (⟨10, 28, i.a, 0, 0, i.k⟩ : MI) = m10 at *
  generalize (s.put [m10]).put [⟨13, 29, 28, 0, 0, 16⟩] = sB at *
  generalize sB.jump ⟨23, 29, 0, 0, 0, 0⟩ e = sC at *
  generalize s.put [m10] = sA at *
  generalize T ++ [⟨57, 6, cQ [m10]⟩] ++ [b1] ++ [b2] = T3 at *
  generalize T ++ [⟨57, 6, cQ [m10]⟩] ++ [b1] = T2 at *
  generalize T ++ [⟨57, 6, cQ [m10]⟩] = T1 at *
  generalize MI.v ⟨13, 29, 28, 0, 0, 16⟩ = v13 at *
  generalize MI.v ⟨23, 29, 0, 0, 0, 0⟩ = v23 at *
  generalize MI.v ⟨12, 28, 28, 0, 0, 3⟩ = v12 at *
  generalize MI.v ⟨op, r, 28, 0, 0, 0⟩ = vop at *
  refine dX ?_
  have fx := aOO b0 <| aOO w2 <| aOO w5 <| aOO g1 <| aOO q10 <| aOO c1 <| aOO c2 <| aOO q13 <| aOO r1 <| aOO r2 <| aOO q23 <| aOO r3 <| aOO q12 <| aOO qop <| aOO r4 <| r5
  refine jL ?_
  exact oF fin
 ·rw [if_neg hk]
  obtain ⟨c1, c2, hp⟩ := aAG G k s T hT 28 i.k (by omega)
  have hlen := (jP 28 (u64 i.k)).2
  have q3 : aZ [(0, 1), (1, 1), (2, 1), (3, 1), (4, 1), (5, 1)] [(.int .i64 0), (.int .i64 0), (.int .i64 0), (.int .i64 0), (.int .i64 0), (.int .i64 0)] [(0, .int .i64 3), (1, .int .i64 28), (2, I6 i.a), (3, .int .i64 28)] = some (MI.v ⟨3, 28, i.a, 28, 0, 0⟩) := rfl
  generalize iB 28 (u64 i.k) = L at *
  obtain ⟨T1, hT1⟩ : ∃ T1, T1 = T ++ [⟨57, 6, []⟩, ⟨57, 6, cQ L⟩] := ⟨_, rfl⟩
  rw [← hT1] at c1 c2 hp
  have c3 := pG (s.put L) T1 ⟨3, 28, i.a, 28, 0, 0⟩
  have c4 := aBW G (k + 8) (s.put L) T1 hp ⟨3, 28, i.a, 28, 0, 0⟩ (by simp [KS.put]; omega)
  have jE : Pl (T1 ++ [⟨57, 6, cQ [⟨3, 28, i.a, 28, 0, 0⟩]⟩]) := uP hp (aGM _)
  obtain ⟨b1, b2, r1, r2, r3, r4, r5⟩ := rest ((s.put L).put [⟨3, 28, i.a, 28, 0, 0⟩]) (T1 ++ [⟨57, 6, cQ [⟨3, 28, i.a, 28, 0, 0⟩]⟩]) jE (by simp [KS.put]; omega) (by simp [KS.put]; omega)
  obtain ⟨sE, hE⟩ : ∃ sE, sE = ((((s.put L).put [⟨3, 28, i.a, 28, 0, 0⟩]).put [⟨13, 29, 28, 0, 0, 16⟩]).jump ⟨23, 29, 0, 0, 0, 0⟩ e).put [⟨12, 28, 28, 0, 0, 3⟩, ⟨op, r, 28, 0, 0, 0⟩] := ⟨_, rfl⟩
  have eA : T1 ++ [⟨57, 6, cQ [⟨3, 28, i.a, 28, 0, 0⟩]⟩] ++ [b1] ++ [b2] = T ++ [⟨57, 6, []⟩, ⟨57, 6, cQ L⟩, ⟨57, 6, cQ [⟨3, 28, i.a, 28, 0, 0⟩]⟩, b1, b2] := by rw [hT1]; simp
  have fin := xB sE T [⟨57, 6, []⟩, ⟨57, 6, cQ L⟩, ⟨57, 6, cQ [⟨3, 28, i.a, 28, 0, 0⟩]⟩, b1, b2] hT
  rw [← eA] at fin
  simp only
  rw [← hE] at r5 ⊢
  have g1 : aQ Tryd.prog .leq 2 true (I6 i.k) (.int .i64 4095) = some (.bool false) := xT (by omega)
  clear rest hE eA hT1
  generalize (⟨3, 28, i.a, 28, 0, 0⟩ : MI) = m3 at *
  generalize ((s.put L).put [m3]).put [⟨13, 29, 28, 0, 0, 16⟩] = sB at *
  generalize sB.jump ⟨23, 29, 0, 0, 0, 0⟩ e = sC at *
  generalize (s.put L).put [m3] = sA at *
  generalize T1 ++ [⟨57, 6, cQ [m3]⟩] ++ [b1] ++ [b2] = T4 at *
  generalize T1 ++ [⟨57, 6, cQ [m3]⟩] ++ [b1] = T3 at *
  generalize T1 ++ [⟨57, 6, cQ [m3]⟩] = T2 at *
  generalize MI.v ⟨13, 29, 28, 0, 0, 16⟩ = v13 at *
  generalize MI.v ⟨23, 29, 0, 0, 0, 0⟩ = v23 at *
  generalize MI.v ⟨12, 28, 28, 0, 0, 3⟩ = v12 at *
  generalize MI.v ⟨op, r, 28, 0, 0, 0⟩ = vop at *
  refine dX ?_
  have fx := aOO b0 <| aOO w2 <| aOO w5 <| aOO g1 <| aOO c1 <| aOO c2 <| aOO q3 <| aOO c3 <| aOO c4 <| aOO q13 <| aOO r1 <| aOO r2 <| aOO q23 <| aOO r3 <| aOO q12 <| aOO qop <| aOO r4 <| r5
  refine jL ?_
  exact oF fin
end
theorem aNj (G : aI) (k : Nat) (s : KS) (T : aF) (hT : Pl T) (d a b c kk e : Int) (hs : s.out.length ≤ 900000) (hj : s.jumps.length ≤ 900000) : bF (aR.f G (k + 11)) [BX, WI.v ⟨1, d, a, b, c, kk⟩, I6 e] (fB s T) = some (.tup [], fB (s.one ⟨1, d, a, b, c, kk⟩ e) T) := by
 apply iX
 rw [aR.step]
 unfold aR.c
 rw [gN]
 have b0 := wx (⟨1, d, a, b, c, kk⟩ : WI)
 have l0 : ∀ H, aC G false 1 (.rp false (WI.v ⟨1, d, a, b, c, kk⟩) 0) H = some (.int .i64 1) := wl0 G (⟨1, d, a, b, c, kk⟩ : WI)
 have l1 : ∀ H, aC G false 1 (.rp false (WI.v ⟨1, d, a, b, c, kk⟩) 1) H = some (I6 d) := wl1 G (⟨1, d, a, b, c, kk⟩ : WI)
 have l2 : ∀ H, aC G false 1 (.rp false (WI.v ⟨1, d, a, b, c, kk⟩) 2) H = some (I6 a) := wl2 G (⟨1, d, a, b, c, kk⟩ : WI)
 have l3 : ∀ H, aC G false 1 (.rp false (WI.v ⟨1, d, a, b, c, kk⟩) 3) H = some (I6 b) := wl3 G (⟨1, d, a, b, c, kk⟩ : WI)
 have l4 : ∀ H, aC G false 1 (.rp false (WI.v ⟨1, d, a, b, c, kk⟩) 4) H = some (I6 c) := wl4 G (⟨1, d, a, b, c, kk⟩ : WI)
 have l5 : ∀ H, aC G false 1 (.rp false (WI.v ⟨1, d, a, b, c, kk⟩) 5) H = some (I6 kk) := wl5 G (⟨1, d, a, b, c, kk⟩ : WI)
 have l6 := wl6 G (⟨1, d, a, b, c, kk⟩ : WI)
 obtain ⟨c1, c2, hp⟩ := aAG G (k + 1) s T hT d kk (by omega)
 have es : s.one ⟨1, d, a, b, c, kk⟩ e = s.put (iB d (u64 kk)) := rfl
 rw [es]
 generalize iB d (u64 kk) = L at *
 have fin := xB (s.put L) T [⟨57, 6, []⟩, ⟨57, 6, cQ L⟩] hT
 generalize T ++ [⟨57, 6, []⟩, ⟨57, 6, cQ L⟩] = T1 at *
 generalize WI.v ⟨1, d, a, b, c, kk⟩ = wv at *
 refine dX ?_
 have fx := aOO b0 <| aOO l0 <| aOO l1 <| aOO l2 <| aOO l3 <| aOO l4 <| aOO l5 <| aOO l6 <| aOO c1 <| c2
 refine jL ?_
 exact oF fin
theorem aNk (G : aI) (k : Nat) (s : KS) (T : aF) (hT : Pl T) (d a b c kk e : Int) (hs : s.out.length ≤ 900000) (hj : s.jumps.length ≤ 900000) : bF (aR.f G (k + 11)) [BX, WI.v ⟨2, d, a, b, c, kk⟩, I6 e] (fB s T) = some (.tup [], fB (s.one ⟨2, d, a, b, c, kk⟩ e) T) := by
 apply iX
 rw [aR.step]
 unfold aR.c
 rw [gN]
 have b0 := wx (⟨2, d, a, b, c, kk⟩ : WI)
 have l0 : ∀ H, aC G false 1 (.rp false (WI.v ⟨2, d, a, b, c, kk⟩) 0) H = some (.int .i64 2) := wl0 G (⟨2, d, a, b, c, kk⟩ : WI)
 have l1 : ∀ H, aC G false 1 (.rp false (WI.v ⟨2, d, a, b, c, kk⟩) 1) H = some (I6 d) := wl1 G (⟨2, d, a, b, c, kk⟩ : WI)
 have l2 : ∀ H, aC G false 1 (.rp false (WI.v ⟨2, d, a, b, c, kk⟩) 2) H = some (I6 a) := wl2 G (⟨2, d, a, b, c, kk⟩ : WI)
 have l3 : ∀ H, aC G false 1 (.rp false (WI.v ⟨2, d, a, b, c, kk⟩) 3) H = some (I6 b) := wl3 G (⟨2, d, a, b, c, kk⟩ : WI)
 have l4 : ∀ H, aC G false 1 (.rp false (WI.v ⟨2, d, a, b, c, kk⟩) 4) H = some (I6 c) := wl4 G (⟨2, d, a, b, c, kk⟩ : WI)
 have l5 : ∀ H, aC G false 1 (.rp false (WI.v ⟨2, d, a, b, c, kk⟩) 5) H = some (I6 kk) := wl5 G (⟨2, d, a, b, c, kk⟩ : WI)
 have l6 := wl6 G (⟨2, d, a, b, c, kk⟩ : WI)
 have q1 : aZ [(0, 1), (1, 1), (2, 1), (3, 1), (4, 1), (5, 1)] [(.int .i64 0), (.int .i64 0), (.int .i64 0), (.int .i64 0), (.int .i64 0), (.int .i64 0)] [(0, .int .i64 6), (1, I6 d), (2, I6 a), (3, .int .i64 31)] = some (MI.v ⟨6, d, a, 31, 0, 0⟩) := rfl
 have c1 := pG s T ⟨6, d, a, 31, 0, 0⟩
 have c2 := aBW G (k + 9) s T hT ⟨6, d, a, 31, 0, 0⟩ (by omega)
 have es : s.one ⟨2, d, a, b, c, kk⟩ e = s.put [⟨6, d, a, 31, 0, 0⟩] := rfl
 rw [es]
 have fin := xB (s.put [⟨6, d, a, 31, 0, 0⟩]) T [⟨57, 6, cQ [⟨6, d, a, 31, 0, 0⟩]⟩] hT
 generalize (⟨6, d, a, 31, 0, 0⟩ : MI) = mi at *
 generalize T ++ [⟨57, 6, cQ [mi]⟩] = T1 at *
 generalize WI.v ⟨2, d, a, b, c, kk⟩ = wv at *
 refine dX ?_
 have fx := aOO b0 <| aOO l0 <| aOO l1 <| aOO l2 <| aOO l3 <| aOO l4 <| aOO l5 <| aOO l6 <| aOO q1 <| aOO c1 <| c2
 refine jL ?_
 exact oF fin
theorem aNl (G : aI) (k : Nat) (s : KS) (T : aF) (hT : Pl T) (d a b c kk e : Int) (hs : s.out.length ≤ 900000) (hj : s.jumps.length ≤ 900000) : bF (aR.f G (k + 11)) [BX, WI.v ⟨3, d, a, b, c, kk⟩, I6 e] (fB s T) = some (.tup [], fB (s.one ⟨3, d, a, b, c, kk⟩ e) T) := by
 apply iX
 rw [aR.step]
 unfold aR.c
 rw [gN]
 have b0 := wx (⟨3, d, a, b, c, kk⟩ : WI)
 have l0 : ∀ H, aC G false 1 (.rp false (WI.v ⟨3, d, a, b, c, kk⟩) 0) H = some (.int .i64 3) := wl0 G (⟨3, d, a, b, c, kk⟩ : WI)
 have l1 : ∀ H, aC G false 1 (.rp false (WI.v ⟨3, d, a, b, c, kk⟩) 1) H = some (I6 d) := wl1 G (⟨3, d, a, b, c, kk⟩ : WI)
 have l2 : ∀ H, aC G false 1 (.rp false (WI.v ⟨3, d, a, b, c, kk⟩) 2) H = some (I6 a) := wl2 G (⟨3, d, a, b, c, kk⟩ : WI)
 have l3 : ∀ H, aC G false 1 (.rp false (WI.v ⟨3, d, a, b, c, kk⟩) 3) H = some (I6 b) := wl3 G (⟨3, d, a, b, c, kk⟩ : WI)
 have l4 : ∀ H, aC G false 1 (.rp false (WI.v ⟨3, d, a, b, c, kk⟩) 4) H = some (I6 c) := wl4 G (⟨3, d, a, b, c, kk⟩ : WI)
 have l5 : ∀ H, aC G false 1 (.rp false (WI.v ⟨3, d, a, b, c, kk⟩) 5) H = some (I6 kk) := wl5 G (⟨3, d, a, b, c, kk⟩ : WI)
 have l6 := wl6 G (⟨3, d, a, b, c, kk⟩ : WI)
 have c1 : bF (bL.f G (k + 10)) [BX, .int .i64 3, WI.v ⟨3, d, a, b, c, kk⟩] (fB s T) = some (.tup [], fB (s.one ⟨3, d, a, b, c, kk⟩ e) T) := mF G (k + 8) s T hT 3 (⟨3, d, a, b, c, kk⟩ : WI) (by omega)
 have fin := nM (s.one ⟨3, d, a, b, c, kk⟩ e) T hT
 generalize WI.v ⟨3, d, a, b, c, kk⟩ = wv at *
 refine dX ?_
 have fx := aOO b0 <| aOO l0 <| aOO l1 <| aOO l2 <| aOO l3 <| aOO l4 <| aOO l5 <| aOO l6 <| c1
 refine jL ?_
 exact oF fin
theorem aNm (G : aI) (k : Nat) (s : KS) (T : aF) (hT : Pl T) (d a b c kk e : Int) (hs : s.out.length ≤ 900000) (hj : s.jumps.length ≤ 900000) : bF (aR.f G (k + 11)) [BX, WI.v ⟨4, d, a, b, c, kk⟩, I6 e] (fB s T) = some (.tup [], fB (s.one ⟨4, d, a, b, c, kk⟩ e) T) := by
 apply iX
 rw [aR.step]
 unfold aR.c
 rw [gN]
 have b0 := wx (⟨4, d, a, b, c, kk⟩ : WI)
 have l0 : ∀ H, aC G false 1 (.rp false (WI.v ⟨4, d, a, b, c, kk⟩) 0) H = some (.int .i64 4) := wl0 G (⟨4, d, a, b, c, kk⟩ : WI)
 have l1 : ∀ H, aC G false 1 (.rp false (WI.v ⟨4, d, a, b, c, kk⟩) 1) H = some (I6 d) := wl1 G (⟨4, d, a, b, c, kk⟩ : WI)
 have l2 : ∀ H, aC G false 1 (.rp false (WI.v ⟨4, d, a, b, c, kk⟩) 2) H = some (I6 a) := wl2 G (⟨4, d, a, b, c, kk⟩ : WI)
 have l3 : ∀ H, aC G false 1 (.rp false (WI.v ⟨4, d, a, b, c, kk⟩) 3) H = some (I6 b) := wl3 G (⟨4, d, a, b, c, kk⟩ : WI)
 have l4 : ∀ H, aC G false 1 (.rp false (WI.v ⟨4, d, a, b, c, kk⟩) 4) H = some (I6 c) := wl4 G (⟨4, d, a, b, c, kk⟩ : WI)
 have l5 : ∀ H, aC G false 1 (.rp false (WI.v ⟨4, d, a, b, c, kk⟩) 5) H = some (I6 kk) := wl5 G (⟨4, d, a, b, c, kk⟩ : WI)
 have l6 := wl6 G (⟨4, d, a, b, c, kk⟩ : WI)
 have c1 : bF (bL.f G (k + 10)) [BX, .int .i64 4, WI.v ⟨4, d, a, b, c, kk⟩] (fB s T) = some (.tup [], fB (s.one ⟨4, d, a, b, c, kk⟩ e) T) := mF G (k + 8) s T hT 4 (⟨4, d, a, b, c, kk⟩ : WI) (by omega)
 have fin := nM (s.one ⟨4, d, a, b, c, kk⟩ e) T hT
 generalize WI.v ⟨4, d, a, b, c, kk⟩ = wv at *
 refine dX ?_
 have fx := aOO b0 <| aOO l0 <| aOO l1 <| aOO l2 <| aOO l3 <| aOO l4 <| aOO l5 <| aOO l6 <| c1
 refine jL ?_
 exact oF fin
theorem aNn (G : aI) (k : Nat) (s : KS) (T : aF) (hT : Pl T) (d a b c kk e : Int) (hs : s.out.length ≤ 900000) (hj : s.jumps.length ≤ 900000) : bF (aR.f G (k + 11)) [BX, WI.v ⟨5, d, a, b, c, kk⟩, I6 e] (fB s T) = some (.tup [], fB (s.one ⟨5, d, a, b, c, kk⟩ e) T) := by
 apply iX
 rw [aR.step]
 unfold aR.c
 rw [gN]
 have b0 := wx (⟨5, d, a, b, c, kk⟩ : WI)
 have l0 : ∀ H, aC G false 1 (.rp false (WI.v ⟨5, d, a, b, c, kk⟩) 0) H = some (.int .i64 5) := wl0 G (⟨5, d, a, b, c, kk⟩ : WI)
 have l1 : ∀ H, aC G false 1 (.rp false (WI.v ⟨5, d, a, b, c, kk⟩) 1) H = some (I6 d) := wl1 G (⟨5, d, a, b, c, kk⟩ : WI)
 have l2 : ∀ H, aC G false 1 (.rp false (WI.v ⟨5, d, a, b, c, kk⟩) 2) H = some (I6 a) := wl2 G (⟨5, d, a, b, c, kk⟩ : WI)
 have l3 : ∀ H, aC G false 1 (.rp false (WI.v ⟨5, d, a, b, c, kk⟩) 3) H = some (I6 b) := wl3 G (⟨5, d, a, b, c, kk⟩ : WI)
 have l4 : ∀ H, aC G false 1 (.rp false (WI.v ⟨5, d, a, b, c, kk⟩) 4) H = some (I6 c) := wl4 G (⟨5, d, a, b, c, kk⟩ : WI)
 have l5 : ∀ H, aC G false 1 (.rp false (WI.v ⟨5, d, a, b, c, kk⟩) 5) H = some (I6 kk) := wl5 G (⟨5, d, a, b, c, kk⟩ : WI)
 have l6 := wl6 G (⟨5, d, a, b, c, kk⟩ : WI)
 have q1 : aZ [(0, 1), (1, 1), (2, 1), (3, 1), (4, 1), (5, 1)] [(.int .i64 0), (.int .i64 0), (.int .i64 0), (.int .i64 0), (.int .i64 0), (.int .i64 0)] [(0, .int .i64 8), (1, I6 d), (2, I6 a), (3, I6 b), (4, .int .i64 31)] = some (MI.v ⟨8, d, a, b, 31, 0⟩) := rfl
 have c1 := pG s T ⟨8, d, a, b, 31, 0⟩
 have c2 := aBW G (k + 9) s T hT ⟨8, d, a, b, 31, 0⟩ (by omega)
 have es : s.one ⟨5, d, a, b, c, kk⟩ e = s.put [⟨8, d, a, b, 31, 0⟩] := rfl
 rw [es]
 have fin := xB (s.put [⟨8, d, a, b, 31, 0⟩]) T [⟨57, 6, cQ [⟨8, d, a, b, 31, 0⟩]⟩] hT
 generalize (⟨8, d, a, b, 31, 0⟩ : MI) = mi at *
 generalize T ++ [⟨57, 6, cQ [mi]⟩] = T1 at *
 generalize WI.v ⟨5, d, a, b, c, kk⟩ = wv at *
 refine dX ?_
 have fx := aOO b0 <| aOO l0 <| aOO l1 <| aOO l2 <| aOO l3 <| aOO l4 <| aOO l5 <| aOO l6 <| aOO q1 <| aOO c1 <| c2
 refine jL ?_
 exact oF fin
theorem aNo (G : aI) (k : Nat) (s : KS) (T : aF) (hT : Pl T) (d a b c kk e : Int) (hs : s.out.length ≤ 900000) (hj : s.jumps.length ≤ 900000) : bF (aR.f G (k + 11)) [BX, WI.v ⟨6, d, a, b, c, kk⟩, I6 e] (fB s T) = some (.tup [], fB (s.one ⟨6, d, a, b, c, kk⟩ e) T) := by
 apply iX
 rw [aR.step]
 unfold aR.c
 rw [gN]
 have b0 := wx (⟨6, d, a, b, c, kk⟩ : WI)
 have l0 : ∀ H, aC G false 1 (.rp false (WI.v ⟨6, d, a, b, c, kk⟩) 0) H = some (.int .i64 6) := wl0 G (⟨6, d, a, b, c, kk⟩ : WI)
 have l1 : ∀ H, aC G false 1 (.rp false (WI.v ⟨6, d, a, b, c, kk⟩) 1) H = some (I6 d) := wl1 G (⟨6, d, a, b, c, kk⟩ : WI)
 have l2 : ∀ H, aC G false 1 (.rp false (WI.v ⟨6, d, a, b, c, kk⟩) 2) H = some (I6 a) := wl2 G (⟨6, d, a, b, c, kk⟩ : WI)
 have l3 : ∀ H, aC G false 1 (.rp false (WI.v ⟨6, d, a, b, c, kk⟩) 3) H = some (I6 b) := wl3 G (⟨6, d, a, b, c, kk⟩ : WI)
 have l4 : ∀ H, aC G false 1 (.rp false (WI.v ⟨6, d, a, b, c, kk⟩) 4) H = some (I6 c) := wl4 G (⟨6, d, a, b, c, kk⟩ : WI)
 have l5 : ∀ H, aC G false 1 (.rp false (WI.v ⟨6, d, a, b, c, kk⟩) 5) H = some (I6 kk) := wl5 G (⟨6, d, a, b, c, kk⟩ : WI)
 have l6 := wl6 G (⟨6, d, a, b, c, kk⟩ : WI)
 have c1 : bF (bL.f G (k + 10)) [BX, .int .i64 9, WI.v ⟨6, d, a, b, c, kk⟩] (fB s T) = some (.tup [], fB (s.one ⟨6, d, a, b, c, kk⟩ e) T) := mF G (k + 8) s T hT 9 (⟨6, d, a, b, c, kk⟩ : WI) (by omega)
 have fin := nM (s.one ⟨6, d, a, b, c, kk⟩ e) T hT
 generalize WI.v ⟨6, d, a, b, c, kk⟩ = wv at *
 refine dX ?_
 have fx := aOO b0 <| aOO l0 <| aOO l1 <| aOO l2 <| aOO l3 <| aOO l4 <| aOO l5 <| aOO l6 <| c1
 refine jL ?_
 exact oF fin
theorem aNp (G : aI) (k : Nat) (s : KS) (T : aF) (hT : Pl T) (d a b c kk e : Int) (hs : s.out.length ≤ 900000) (hj : s.jumps.length ≤ 900000) : bF (aR.f G (k + 11)) [BX, WI.v ⟨7, d, a, b, c, kk⟩, I6 e] (fB s T) = some (.tup [], fB (s.one ⟨7, d, a, b, c, kk⟩ e) T) := by
 apply iX
 rw [aR.step]
 unfold aR.c
 rw [gN]
 have b0 := wx (⟨7, d, a, b, c, kk⟩ : WI)
 have l0 : ∀ H, aC G false 1 (.rp false (WI.v ⟨7, d, a, b, c, kk⟩) 0) H = some (.int .i64 7) := wl0 G (⟨7, d, a, b, c, kk⟩ : WI)
 have l1 : ∀ H, aC G false 1 (.rp false (WI.v ⟨7, d, a, b, c, kk⟩) 1) H = some (I6 d) := wl1 G (⟨7, d, a, b, c, kk⟩ : WI)
 have l2 : ∀ H, aC G false 1 (.rp false (WI.v ⟨7, d, a, b, c, kk⟩) 2) H = some (I6 a) := wl2 G (⟨7, d, a, b, c, kk⟩ : WI)
 have l3 : ∀ H, aC G false 1 (.rp false (WI.v ⟨7, d, a, b, c, kk⟩) 3) H = some (I6 b) := wl3 G (⟨7, d, a, b, c, kk⟩ : WI)
 have l4 : ∀ H, aC G false 1 (.rp false (WI.v ⟨7, d, a, b, c, kk⟩) 4) H = some (I6 c) := wl4 G (⟨7, d, a, b, c, kk⟩ : WI)
 have l5 : ∀ H, aC G false 1 (.rp false (WI.v ⟨7, d, a, b, c, kk⟩) 5) H = some (I6 kk) := wl5 G (⟨7, d, a, b, c, kk⟩ : WI)
 have l6 := wl6 G (⟨7, d, a, b, c, kk⟩ : WI)
 have c1 : bF (bL.f G (k + 10)) [BX, .int .i64 5, WI.v ⟨7, d, a, b, c, kk⟩] (fB s T) = some (.tup [], fB (s.one ⟨7, d, a, b, c, kk⟩ e) T) := mF G (k + 8) s T hT 5 (⟨7, d, a, b, c, kk⟩ : WI) (by omega)
 have fin := nM (s.one ⟨7, d, a, b, c, kk⟩ e) T hT
 generalize WI.v ⟨7, d, a, b, c, kk⟩ = wv at *
 refine dX ?_
 have fx := aOO b0 <| aOO l0 <| aOO l1 <| aOO l2 <| aOO l3 <| aOO l4 <| aOO l5 <| aOO l6 <| c1
 refine jL ?_
 exact oF fin
theorem aNq (G : aI) (k : Nat) (s : KS) (T : aF) (hT : Pl T) (d a b c kk e : Int) (hs : s.out.length ≤ 900000) (hj : s.jumps.length ≤ 900000) : bF (aR.f G (k + 11)) [BX, WI.v ⟨8, d, a, b, c, kk⟩, I6 e] (fB s T) = some (.tup [], fB (s.one ⟨8, d, a, b, c, kk⟩ e) T) := by
 apply iX
 rw [aR.step]
 unfold aR.c
 rw [gN]
 have b0 := wx (⟨8, d, a, b, c, kk⟩ : WI)
 have l0 : ∀ H, aC G false 1 (.rp false (WI.v ⟨8, d, a, b, c, kk⟩) 0) H = some (.int .i64 8) := wl0 G (⟨8, d, a, b, c, kk⟩ : WI)
 have l1 : ∀ H, aC G false 1 (.rp false (WI.v ⟨8, d, a, b, c, kk⟩) 1) H = some (I6 d) := wl1 G (⟨8, d, a, b, c, kk⟩ : WI)
 have l2 : ∀ H, aC G false 1 (.rp false (WI.v ⟨8, d, a, b, c, kk⟩) 2) H = some (I6 a) := wl2 G (⟨8, d, a, b, c, kk⟩ : WI)
 have l3 : ∀ H, aC G false 1 (.rp false (WI.v ⟨8, d, a, b, c, kk⟩) 3) H = some (I6 b) := wl3 G (⟨8, d, a, b, c, kk⟩ : WI)
 have l4 : ∀ H, aC G false 1 (.rp false (WI.v ⟨8, d, a, b, c, kk⟩) 4) H = some (I6 c) := wl4 G (⟨8, d, a, b, c, kk⟩ : WI)
 have l5 : ∀ H, aC G false 1 (.rp false (WI.v ⟨8, d, a, b, c, kk⟩) 5) H = some (I6 kk) := wl5 G (⟨8, d, a, b, c, kk⟩ : WI)
 have l6 := wl6 G (⟨8, d, a, b, c, kk⟩ : WI)
 have c1 : bF (bL.f G (k + 10)) [BX, .int .i64 6, WI.v ⟨8, d, a, b, c, kk⟩] (fB s T) = some (.tup [], fB (s.one ⟨8, d, a, b, c, kk⟩ e) T) := mF G (k + 8) s T hT 6 (⟨8, d, a, b, c, kk⟩ : WI) (by omega)
 have fin := nM (s.one ⟨8, d, a, b, c, kk⟩ e) T hT
 generalize WI.v ⟨8, d, a, b, c, kk⟩ = wv at *
 refine dX ?_
 have fx := aOO b0 <| aOO l0 <| aOO l1 <| aOO l2 <| aOO l3 <| aOO l4 <| aOO l5 <| aOO l6 <| c1
 refine jL ?_
 exact oF fin
theorem aNr (G : aI) (k : Nat) (s : KS) (T : aF) (hT : Pl T) (d a b c kk e : Int) (hs : s.out.length ≤ 900000) (hj : s.jumps.length ≤ 900000) : bF (aR.f G (k + 11)) [BX, WI.v ⟨9, d, a, b, c, kk⟩, I6 e] (fB s T) = some (.tup [], fB (s.one ⟨9, d, a, b, c, kk⟩ e) T) := by
 apply iX
 rw [aR.step]
 unfold aR.c
 rw [gN]
 have b0 := wx (⟨9, d, a, b, c, kk⟩ : WI)
 have l0 : ∀ H, aC G false 1 (.rp false (WI.v ⟨9, d, a, b, c, kk⟩) 0) H = some (.int .i64 9) := wl0 G (⟨9, d, a, b, c, kk⟩ : WI)
 have l1 : ∀ H, aC G false 1 (.rp false (WI.v ⟨9, d, a, b, c, kk⟩) 1) H = some (I6 d) := wl1 G (⟨9, d, a, b, c, kk⟩ : WI)
 have l2 : ∀ H, aC G false 1 (.rp false (WI.v ⟨9, d, a, b, c, kk⟩) 2) H = some (I6 a) := wl2 G (⟨9, d, a, b, c, kk⟩ : WI)
 have l3 : ∀ H, aC G false 1 (.rp false (WI.v ⟨9, d, a, b, c, kk⟩) 3) H = some (I6 b) := wl3 G (⟨9, d, a, b, c, kk⟩ : WI)
 have l4 : ∀ H, aC G false 1 (.rp false (WI.v ⟨9, d, a, b, c, kk⟩) 4) H = some (I6 c) := wl4 G (⟨9, d, a, b, c, kk⟩ : WI)
 have l5 : ∀ H, aC G false 1 (.rp false (WI.v ⟨9, d, a, b, c, kk⟩) 5) H = some (I6 kk) := wl5 G (⟨9, d, a, b, c, kk⟩ : WI)
 have l6 := wl6 G (⟨9, d, a, b, c, kk⟩ : WI)
 have c1 : bF (bL.f G (k + 10)) [BX, .int .i64 7, WI.v ⟨9, d, a, b, c, kk⟩] (fB s T) = some (.tup [], fB (s.one ⟨9, d, a, b, c, kk⟩ e) T) := mF G (k + 8) s T hT 7 (⟨9, d, a, b, c, kk⟩ : WI) (by omega)
 have fin := nM (s.one ⟨9, d, a, b, c, kk⟩ e) T hT
 generalize WI.v ⟨9, d, a, b, c, kk⟩ = wv at *
 refine dX ?_
 have fx := aOO b0 <| aOO l0 <| aOO l1 <| aOO l2 <| aOO l3 <| aOO l4 <| aOO l5 <| aOO l6 <| c1
 refine jL ?_
 exact oF fin
theorem aLO (G : aI) (k : Nat) (s : KS) (T : aF) (hT : Pl T) (d a b c kk e : Int) (hs : s.out.length ≤ 900000) (hj : s.jumps.length ≤ 900000) : bF (aR.f G (k + 11)) [BX, WI.v ⟨10, d, a, b, c, kk⟩, I6 e] (fB s T) = some (.tup [], fB (s.one ⟨10, d, a, b, c, kk⟩ e) T) := by
 apply iX
 rw [aR.step]
 unfold aR.c
 rw [gN]
 have b0 := wx (⟨10, d, a, b, c, kk⟩ : WI)
 have l0 : ∀ H, aC G false 1 (.rp false (WI.v ⟨10, d, a, b, c, kk⟩) 0) H = some (.int .i64 10) := wl0 G (⟨10, d, a, b, c, kk⟩ : WI)
 have l1 : ∀ H, aC G false 1 (.rp false (WI.v ⟨10, d, a, b, c, kk⟩) 1) H = some (I6 d) := wl1 G (⟨10, d, a, b, c, kk⟩ : WI)
 have l2 : ∀ H, aC G false 1 (.rp false (WI.v ⟨10, d, a, b, c, kk⟩) 2) H = some (I6 a) := wl2 G (⟨10, d, a, b, c, kk⟩ : WI)
 have l3 : ∀ H, aC G false 1 (.rp false (WI.v ⟨10, d, a, b, c, kk⟩) 3) H = some (I6 b) := wl3 G (⟨10, d, a, b, c, kk⟩ : WI)
 have l4 : ∀ H, aC G false 1 (.rp false (WI.v ⟨10, d, a, b, c, kk⟩) 4) H = some (I6 c) := wl4 G (⟨10, d, a, b, c, kk⟩ : WI)
 have l5 : ∀ H, aC G false 1 (.rp false (WI.v ⟨10, d, a, b, c, kk⟩) 5) H = some (I6 kk) := wl5 G (⟨10, d, a, b, c, kk⟩ : WI)
 have l6 := wl6 G (⟨10, d, a, b, c, kk⟩ : WI)
 have c1 : bF (cF.f G (k + 10)) [BX, .int .i64 12, WI.v ⟨10, d, a, b, c, kk⟩] (fB s T) = some (.tup [], fB (s.one ⟨10, d, a, b, c, kk⟩ e) T) := sL G (k + 8) s T hT 12 (⟨10, d, a, b, c, kk⟩ : WI) (by omega)
 have fin := nM (s.one ⟨10, d, a, b, c, kk⟩ e) T hT
 generalize WI.v ⟨10, d, a, b, c, kk⟩ = wv at *
 refine dX ?_
 have fx := aOO b0 <| aOO l0 <| aOO l1 <| aOO l2 <| aOO l3 <| aOO l4 <| aOO l5 <| aOO l6 <| c1
 refine jL ?_
 exact oF fin
theorem aLP (G : aI) (k : Nat) (s : KS) (T : aF) (hT : Pl T) (d a b c kk e : Int) (hs : s.out.length ≤ 900000) (hj : s.jumps.length ≤ 900000) : bF (aR.f G (k + 11)) [BX, WI.v ⟨11, d, a, b, c, kk⟩, I6 e] (fB s T) = some (.tup [], fB (s.one ⟨11, d, a, b, c, kk⟩ e) T) := by
 apply iX
 rw [aR.step]
 unfold aR.c
 rw [gN]
 have b0 := wx (⟨11, d, a, b, c, kk⟩ : WI)
 have l0 : ∀ H, aC G false 1 (.rp false (WI.v ⟨11, d, a, b, c, kk⟩) 0) H = some (.int .i64 11) := wl0 G (⟨11, d, a, b, c, kk⟩ : WI)
 have l1 : ∀ H, aC G false 1 (.rp false (WI.v ⟨11, d, a, b, c, kk⟩) 1) H = some (I6 d) := wl1 G (⟨11, d, a, b, c, kk⟩ : WI)
 have l2 : ∀ H, aC G false 1 (.rp false (WI.v ⟨11, d, a, b, c, kk⟩) 2) H = some (I6 a) := wl2 G (⟨11, d, a, b, c, kk⟩ : WI)
 have l3 : ∀ H, aC G false 1 (.rp false (WI.v ⟨11, d, a, b, c, kk⟩) 3) H = some (I6 b) := wl3 G (⟨11, d, a, b, c, kk⟩ : WI)
 have l4 : ∀ H, aC G false 1 (.rp false (WI.v ⟨11, d, a, b, c, kk⟩) 4) H = some (I6 c) := wl4 G (⟨11, d, a, b, c, kk⟩ : WI)
 have l5 : ∀ H, aC G false 1 (.rp false (WI.v ⟨11, d, a, b, c, kk⟩) 5) H = some (I6 kk) := wl5 G (⟨11, d, a, b, c, kk⟩ : WI)
 have l6 := wl6 G (⟨11, d, a, b, c, kk⟩ : WI)
 have c1 : bF (cF.f G (k + 10)) [BX, .int .i64 13, WI.v ⟨11, d, a, b, c, kk⟩] (fB s T) = some (.tup [], fB (s.one ⟨11, d, a, b, c, kk⟩ e) T) := sL G (k + 8) s T hT 13 (⟨11, d, a, b, c, kk⟩ : WI) (by omega)
 have fin := nM (s.one ⟨11, d, a, b, c, kk⟩ e) T hT
 generalize WI.v ⟨11, d, a, b, c, kk⟩ = wv at *
 refine dX ?_
 have fx := aOO b0 <| aOO l0 <| aOO l1 <| aOO l2 <| aOO l3 <| aOO l4 <| aOO l5 <| aOO l6 <| c1
 refine jL ?_
 exact oF fin
theorem aLQ (G : aI) (k : Nat) (s : KS) (T : aF) (hT : Pl T) (d a b c kk e : Int) (hs : s.out.length ≤ 900000) (hj : s.jumps.length ≤ 900000) : bF (aR.f G (k + 11)) [BX, WI.v ⟨12, d, a, b, c, kk⟩, I6 e] (fB s T) = some (.tup [], fB (s.one ⟨12, d, a, b, c, kk⟩ e) T) := by
 apply iX
 rw [aR.step]
 unfold aR.c
 rw [gN]
 have b0 := wx (⟨12, d, a, b, c, kk⟩ : WI)
 have l0 : ∀ H, aC G false 1 (.rp false (WI.v ⟨12, d, a, b, c, kk⟩) 0) H = some (.int .i64 12) := wl0 G (⟨12, d, a, b, c, kk⟩ : WI)
 have l1 : ∀ H, aC G false 1 (.rp false (WI.v ⟨12, d, a, b, c, kk⟩) 1) H = some (I6 d) := wl1 G (⟨12, d, a, b, c, kk⟩ : WI)
 have l2 : ∀ H, aC G false 1 (.rp false (WI.v ⟨12, d, a, b, c, kk⟩) 2) H = some (I6 a) := wl2 G (⟨12, d, a, b, c, kk⟩ : WI)
 have l3 : ∀ H, aC G false 1 (.rp false (WI.v ⟨12, d, a, b, c, kk⟩) 3) H = some (I6 b) := wl3 G (⟨12, d, a, b, c, kk⟩ : WI)
 have l4 : ∀ H, aC G false 1 (.rp false (WI.v ⟨12, d, a, b, c, kk⟩) 4) H = some (I6 c) := wl4 G (⟨12, d, a, b, c, kk⟩ : WI)
 have l5 : ∀ H, aC G false 1 (.rp false (WI.v ⟨12, d, a, b, c, kk⟩) 5) H = some (I6 kk) := wl5 G (⟨12, d, a, b, c, kk⟩ : WI)
 have l6 := wl6 G (⟨12, d, a, b, c, kk⟩ : WI)
 have c1 : bF (cF.f G (k + 10)) [BX, .int .i64 14, WI.v ⟨12, d, a, b, c, kk⟩] (fB s T) = some (.tup [], fB (s.one ⟨12, d, a, b, c, kk⟩ e) T) := sL G (k + 8) s T hT 14 (⟨12, d, a, b, c, kk⟩ : WI) (by omega)
 have fin := nM (s.one ⟨12, d, a, b, c, kk⟩ e) T hT
 generalize WI.v ⟨12, d, a, b, c, kk⟩ = wv at *
 refine dX ?_
 have fx := aOO b0 <| aOO l0 <| aOO l1 <| aOO l2 <| aOO l3 <| aOO l4 <| aOO l5 <| aOO l6 <| c1
 refine jL ?_
 exact oF fin
theorem aLR (G : aI) (k : Nat) (s : KS) (T : aF) (hT : Pl T) (d a b c kk e : Int) (hs : s.out.length ≤ 900000) (hj : s.jumps.length ≤ 900000) : bF (aR.f G (k + 11)) [BX, WI.v ⟨13, d, a, b, c, kk⟩, I6 e] (fB s T) = some (.tup [], fB (s.one ⟨13, d, a, b, c, kk⟩ e) T) := by
 apply iX
 rw [aR.step]
 unfold aR.c
 rw [gN]
 have b0 := wx (⟨13, d, a, b, c, kk⟩ : WI)
 have l0 : ∀ H, aC G false 1 (.rp false (WI.v ⟨13, d, a, b, c, kk⟩) 0) H = some (.int .i64 13) := wl0 G (⟨13, d, a, b, c, kk⟩ : WI)
 have l1 : ∀ H, aC G false 1 (.rp false (WI.v ⟨13, d, a, b, c, kk⟩) 1) H = some (I6 d) := wl1 G (⟨13, d, a, b, c, kk⟩ : WI)
 have l2 : ∀ H, aC G false 1 (.rp false (WI.v ⟨13, d, a, b, c, kk⟩) 2) H = some (I6 a) := wl2 G (⟨13, d, a, b, c, kk⟩ : WI)
 have l3 : ∀ H, aC G false 1 (.rp false (WI.v ⟨13, d, a, b, c, kk⟩) 3) H = some (I6 b) := wl3 G (⟨13, d, a, b, c, kk⟩ : WI)
 have l4 : ∀ H, aC G false 1 (.rp false (WI.v ⟨13, d, a, b, c, kk⟩) 4) H = some (I6 c) := wl4 G (⟨13, d, a, b, c, kk⟩ : WI)
 have l5 : ∀ H, aC G false 1 (.rp false (WI.v ⟨13, d, a, b, c, kk⟩) 5) H = some (I6 kk) := wl5 G (⟨13, d, a, b, c, kk⟩ : WI)
 have l6 := wl6 G (⟨13, d, a, b, c, kk⟩ : WI)
 have q1 : aZ [(0, 1), (1, 1), (2, 1), (3, 1), (4, 1), (5, 1)] [(.int .i64 0), (.int .i64 0), (.int .i64 0), (.int .i64 0), (.int .i64 0), (.int .i64 0)] [(0, .int .i64 15), (2, I6 a), (3, I6 b)] = some (MI.v ⟨15, 0, a, b, 0, 0⟩) := rfl
 have q2 : aZ [(0, 1), (1, 1), (2, 1), (3, 1), (4, 1), (5, 1)] [(.int .i64 0), (.int .i64 0), (.int .i64 0), (.int .i64 0), (.int .i64 0), (.int .i64 0)] [(0, .int .i64 17), (1, I6 d), (4, .int .i64 3)] = some (MI.v ⟨17, d, 0, 0, 3, 0⟩) := rfl
 have c1 := aEa s T ⟨15, 0, a, b, 0, 0⟩ ⟨17, d, 0, 0, 3, 0⟩
 have c2 := aMb G (k + 9) s T hT ⟨15, 0, a, b, 0, 0⟩ ⟨17, d, 0, 0, 3, 0⟩ (by omega)
 have es : s.one ⟨13, d, a, b, c, kk⟩ e = s.put [⟨15, 0, a, b, 0, 0⟩, ⟨17, d, 0, 0, 3, 0⟩] := rfl
 rw [es]
 have fin := xB (s.put [⟨15, 0, a, b, 0, 0⟩, ⟨17, d, 0, 0, 3, 0⟩]) T [⟨57, 6, cQ [⟨15, 0, a, b, 0, 0⟩, ⟨17, d, 0, 0, 3, 0⟩]⟩] hT
 generalize (⟨15, 0, a, b, 0, 0⟩ : MI) = mi at *
 generalize (⟨17, d, 0, 0, 3, 0⟩ : MI) = mj at *
 generalize T ++ [⟨57, 6, cQ [mi, mj]⟩] = T1 at *
 generalize WI.v ⟨13, d, a, b, c, kk⟩ = wv at *
 refine dX ?_
 have fx := aOO b0 <| aOO l0 <| aOO l1 <| aOO l2 <| aOO l3 <| aOO l4 <| aOO l5 <| aOO l6 <| aOO q1 <| aOO q2 <| aOO c1 <| c2
 refine jL ?_
 exact oF fin
theorem aLS (G : aI) (k : Nat) (s : KS) (T : aF) (hT : Pl T) (d a b c kk e : Int) (hs : s.out.length ≤ 900000) (hj : s.jumps.length ≤ 900000) : bF (aR.f G (k + 11)) [BX, WI.v ⟨14, d, a, b, c, kk⟩, I6 e] (fB s T) = some (.tup [], fB (s.one ⟨14, d, a, b, c, kk⟩ e) T) := by
 apply iX
 rw [aR.step]
 unfold aR.c
 rw [gN]
 have b0 := wx (⟨14, d, a, b, c, kk⟩ : WI)
 have l0 : ∀ H, aC G false 1 (.rp false (WI.v ⟨14, d, a, b, c, kk⟩) 0) H = some (.int .i64 14) := wl0 G (⟨14, d, a, b, c, kk⟩ : WI)
 have l1 : ∀ H, aC G false 1 (.rp false (WI.v ⟨14, d, a, b, c, kk⟩) 1) H = some (I6 d) := wl1 G (⟨14, d, a, b, c, kk⟩ : WI)
 have l2 : ∀ H, aC G false 1 (.rp false (WI.v ⟨14, d, a, b, c, kk⟩) 2) H = some (I6 a) := wl2 G (⟨14, d, a, b, c, kk⟩ : WI)
 have l3 : ∀ H, aC G false 1 (.rp false (WI.v ⟨14, d, a, b, c, kk⟩) 3) H = some (I6 b) := wl3 G (⟨14, d, a, b, c, kk⟩ : WI)
 have l4 : ∀ H, aC G false 1 (.rp false (WI.v ⟨14, d, a, b, c, kk⟩) 4) H = some (I6 c) := wl4 G (⟨14, d, a, b, c, kk⟩ : WI)
 have l5 : ∀ H, aC G false 1 (.rp false (WI.v ⟨14, d, a, b, c, kk⟩) 5) H = some (I6 kk) := wl5 G (⟨14, d, a, b, c, kk⟩ : WI)
 have l6 := wl6 G (⟨14, d, a, b, c, kk⟩ : WI)
 have q1 : aZ [(0, 1), (1, 1), (2, 1), (3, 1), (4, 1), (5, 1)] [(.int .i64 0), (.int .i64 0), (.int .i64 0), (.int .i64 0), (.int .i64 0), (.int .i64 0)] [(0, .int .i64 15), (2, I6 a), (3, .int .i64 31)] = some (MI.v ⟨15, 0, a, 31, 0, 0⟩) := rfl
 have q2 : aZ [(0, 1), (1, 1), (2, 1), (3, 1), (4, 1), (5, 1)] [(.int .i64 0), (.int .i64 0), (.int .i64 0), (.int .i64 0), (.int .i64 0), (.int .i64 0)] [(0, .int .i64 16), (1, I6 d), (2, I6 b), (3, I6 c), (4, .int .i64 1)] = some (MI.v ⟨16, d, b, c, 1, 0⟩) := rfl
 have c1 := aEa s T ⟨15, 0, a, 31, 0, 0⟩ ⟨16, d, b, c, 1, 0⟩
 have c2 := aMb G (k + 9) s T hT ⟨15, 0, a, 31, 0, 0⟩ ⟨16, d, b, c, 1, 0⟩ (by omega)
 have es : s.one ⟨14, d, a, b, c, kk⟩ e = s.put [⟨15, 0, a, 31, 0, 0⟩, ⟨16, d, b, c, 1, 0⟩] := rfl
 rw [es]
 have fin := xB (s.put [⟨15, 0, a, 31, 0, 0⟩, ⟨16, d, b, c, 1, 0⟩]) T [⟨57, 6, cQ [⟨15, 0, a, 31, 0, 0⟩, ⟨16, d, b, c, 1, 0⟩]⟩] hT
 generalize (⟨15, 0, a, 31, 0, 0⟩ : MI) = mi at *
 generalize (⟨16, d, b, c, 1, 0⟩ : MI) = mj at *
 generalize T ++ [⟨57, 6, cQ [mi, mj]⟩] = T1 at *
 generalize WI.v ⟨14, d, a, b, c, kk⟩ = wv at *
 refine dX ?_
 have fx := aOO b0 <| aOO l0 <| aOO l1 <| aOO l2 <| aOO l3 <| aOO l4 <| aOO l5 <| aOO l6 <| aOO q1 <| aOO q2 <| aOO c1 <| c2
 refine jL ?_
 exact oF fin
theorem aLT (G : aI) (k : Nat) (s : KS) (T : aF) (hT : Pl T) (d a b c kk e : Int) (hs : s.out.length ≤ 900000) (hj : s.jumps.length ≤ 900000) : bF (aR.f G (k + 11)) [BX, WI.v ⟨15, d, a, b, c, kk⟩, I6 e] (fB s T) = some (.tup [], fB (s.one ⟨15, d, a, b, c, kk⟩ e) T) := by
 apply iX
 rw [aR.step]
 unfold aR.c
 rw [gN]
 have b0 := wx (⟨15, d, a, b, c, kk⟩ : WI)
 have l0 : ∀ H, aC G false 1 (.rp false (WI.v ⟨15, d, a, b, c, kk⟩) 0) H = some (.int .i64 15) := wl0 G (⟨15, d, a, b, c, kk⟩ : WI)
 have l1 : ∀ H, aC G false 1 (.rp false (WI.v ⟨15, d, a, b, c, kk⟩) 1) H = some (I6 d) := wl1 G (⟨15, d, a, b, c, kk⟩ : WI)
 have l2 : ∀ H, aC G false 1 (.rp false (WI.v ⟨15, d, a, b, c, kk⟩) 2) H = some (I6 a) := wl2 G (⟨15, d, a, b, c, kk⟩ : WI)
 have l3 : ∀ H, aC G false 1 (.rp false (WI.v ⟨15, d, a, b, c, kk⟩) 3) H = some (I6 b) := wl3 G (⟨15, d, a, b, c, kk⟩ : WI)
 have l4 : ∀ H, aC G false 1 (.rp false (WI.v ⟨15, d, a, b, c, kk⟩) 4) H = some (I6 c) := wl4 G (⟨15, d, a, b, c, kk⟩ : WI)
 have l5 : ∀ H, aC G false 1 (.rp false (WI.v ⟨15, d, a, b, c, kk⟩) 5) H = some (I6 kk) := wl5 G (⟨15, d, a, b, c, kk⟩ : WI)
 have l6 := wl6 G (⟨15, d, a, b, c, kk⟩ : WI)
 have c1 : bF (cO.f G (k + 10)) [BX, .int .i64 18, I6 d, WI.v ⟨15, d, a, b, c, kk⟩, I6 e] (fB s T) = some (.tup [], fB (s.one ⟨15, d, a, b, c, kk⟩ e) T) := aAi G k s T hT 18 d (⟨15, d, a, b, c, kk⟩ : WI) e hs hj
 have fin := nM (s.one ⟨15, d, a, b, c, kk⟩ e) T hT
 generalize WI.v ⟨15, d, a, b, c, kk⟩ = wv at *
 refine dX ?_
 have fx := aOO b0 <| aOO l0 <| aOO l1 <| aOO l2 <| aOO l3 <| aOO l4 <| aOO l5 <| aOO l6 <| c1
 refine jL ?_
 exact oF fin
theorem aLU (G : aI) (k : Nat) (s : KS) (T : aF) (hT : Pl T) (d a b c kk e : Int) (hs : s.out.length ≤ 900000) (hj : s.jumps.length ≤ 900000) : bF (aR.f G (k + 11)) [BX, WI.v ⟨16, d, a, b, c, kk⟩, I6 e] (fB s T) = some (.tup [], fB (s.one ⟨16, d, a, b, c, kk⟩ e) T) := by
 apply iX
 rw [aR.step]
 unfold aR.c
 rw [gN]
 have b0 := wx (⟨16, d, a, b, c, kk⟩ : WI)
 have l0 : ∀ H, aC G false 1 (.rp false (WI.v ⟨16, d, a, b, c, kk⟩) 0) H = some (.int .i64 16) := wl0 G (⟨16, d, a, b, c, kk⟩ : WI)
 have l1 : ∀ H, aC G false 1 (.rp false (WI.v ⟨16, d, a, b, c, kk⟩) 1) H = some (I6 d) := wl1 G (⟨16, d, a, b, c, kk⟩ : WI)
 have l2 : ∀ H, aC G false 1 (.rp false (WI.v ⟨16, d, a, b, c, kk⟩) 2) H = some (I6 a) := wl2 G (⟨16, d, a, b, c, kk⟩ : WI)
 have l3 : ∀ H, aC G false 1 (.rp false (WI.v ⟨16, d, a, b, c, kk⟩) 3) H = some (I6 b) := wl3 G (⟨16, d, a, b, c, kk⟩ : WI)
 have l4 : ∀ H, aC G false 1 (.rp false (WI.v ⟨16, d, a, b, c, kk⟩) 4) H = some (I6 c) := wl4 G (⟨16, d, a, b, c, kk⟩ : WI)
 have l5 : ∀ H, aC G false 1 (.rp false (WI.v ⟨16, d, a, b, c, kk⟩) 5) H = some (I6 kk) := wl5 G (⟨16, d, a, b, c, kk⟩ : WI)
 have l6 := wl6 G (⟨16, d, a, b, c, kk⟩ : WI)
 have c1 : bF (cO.f G (k + 10)) [BX, .int .i64 19, I6 b, WI.v ⟨16, d, a, b, c, kk⟩, I6 e] (fB s T) = some (.tup [], fB (s.one ⟨16, d, a, b, c, kk⟩ e) T) := aAi G k s T hT 19 b (⟨16, d, a, b, c, kk⟩ : WI) e hs hj
 have fin := nM (s.one ⟨16, d, a, b, c, kk⟩ e) T hT
 generalize WI.v ⟨16, d, a, b, c, kk⟩ = wv at *
 refine dX ?_
 have fx := aOO b0 <| aOO l0 <| aOO l1 <| aOO l2 <| aOO l3 <| aOO l4 <| aOO l5 <| aOO l6 <| c1
 refine jL ?_
 exact oF fin
theorem aLV (G : aI) (k : Nat) (s : KS) (T : aF) (hT : Pl T) (d a b c kk e : Int) (hs : s.out.length ≤ 900000) (hj : s.jumps.length ≤ 900000) : bF (aR.f G (k + 11)) [BX, WI.v ⟨17, d, a, b, c, kk⟩, I6 e] (fB s T) = some (.tup [], fB (s.one ⟨17, d, a, b, c, kk⟩ e) T) := by
 apply iX
 rw [aR.step]
 unfold aR.c
 rw [gN]
 have b0 := wx (⟨17, d, a, b, c, kk⟩ : WI)
 have l0 : ∀ H, aC G false 1 (.rp false (WI.v ⟨17, d, a, b, c, kk⟩) 0) H = some (.int .i64 17) := wl0 G (⟨17, d, a, b, c, kk⟩ : WI)
 have l1 : ∀ H, aC G false 1 (.rp false (WI.v ⟨17, d, a, b, c, kk⟩) 1) H = some (I6 d) := wl1 G (⟨17, d, a, b, c, kk⟩ : WI)
 have l2 : ∀ H, aC G false 1 (.rp false (WI.v ⟨17, d, a, b, c, kk⟩) 2) H = some (I6 a) := wl2 G (⟨17, d, a, b, c, kk⟩ : WI)
 have l3 : ∀ H, aC G false 1 (.rp false (WI.v ⟨17, d, a, b, c, kk⟩) 3) H = some (I6 b) := wl3 G (⟨17, d, a, b, c, kk⟩ : WI)
 have l4 : ∀ H, aC G false 1 (.rp false (WI.v ⟨17, d, a, b, c, kk⟩) 4) H = some (I6 c) := wl4 G (⟨17, d, a, b, c, kk⟩ : WI)
 have l5 : ∀ H, aC G false 1 (.rp false (WI.v ⟨17, d, a, b, c, kk⟩) 5) H = some (I6 kk) := wl5 G (⟨17, d, a, b, c, kk⟩ : WI)
 have l6 := wl6 G (⟨17, d, a, b, c, kk⟩ : WI)
 have q1 : aZ [(0, 1), (1, 1), (2, 1), (3, 1), (4, 1), (5, 1)] [(.int .i64 0), (.int .i64 0), (.int .i64 0), (.int .i64 0), (.int .i64 0), (.int .i64 0)] [(0, .int .i64 20)] = some (MI.v ⟨20, 0, 0, 0, 0, 0⟩) := rfl
 have c1 : bF (bX.f G (k + 10)) [BX, MI.v ⟨20, 0, 0, 0, 0, 0⟩, I6 kk] (fB s T) = some (.tup [], fB (s.one ⟨17, d, a, b, c, kk⟩ e) T) := rJ G (k + 8) s T hT ⟨20, 0, 0, 0, 0, 0⟩ kk (by omega) (by omega)
 have fin := nM (s.one ⟨17, d, a, b, c, kk⟩ e) T hT
 generalize MI.v ⟨20, 0, 0, 0, 0, 0⟩ = mv at *
 generalize WI.v ⟨17, d, a, b, c, kk⟩ = wv at *
 refine dX ?_
 have fx := aOO b0 <| aOO l0 <| aOO l1 <| aOO l2 <| aOO l3 <| aOO l4 <| aOO l5 <| aOO l6 <| aOO q1 <| c1
 refine jL ?_
 exact oF fin
theorem aLW (G : aI) (k : Nat) (s : KS) (T : aF) (hT : Pl T) (d a b c kk e : Int) (hs : s.out.length ≤ 900000) (hj : s.jumps.length ≤ 900000) : bF (aR.f G (k + 11)) [BX, WI.v ⟨18, d, a, b, c, kk⟩, I6 e] (fB s T) = some (.tup [], fB (s.one ⟨18, d, a, b, c, kk⟩ e) T) := by
 apply iX
 rw [aR.step]
 unfold aR.c
 rw [gN]
 have b0 := wx (⟨18, d, a, b, c, kk⟩ : WI)
 have l0 : ∀ H, aC G false 1 (.rp false (WI.v ⟨18, d, a, b, c, kk⟩) 0) H = some (.int .i64 18) := wl0 G (⟨18, d, a, b, c, kk⟩ : WI)
 have l1 : ∀ H, aC G false 1 (.rp false (WI.v ⟨18, d, a, b, c, kk⟩) 1) H = some (I6 d) := wl1 G (⟨18, d, a, b, c, kk⟩ : WI)
 have l2 : ∀ H, aC G false 1 (.rp false (WI.v ⟨18, d, a, b, c, kk⟩) 2) H = some (I6 a) := wl2 G (⟨18, d, a, b, c, kk⟩ : WI)
 have l3 : ∀ H, aC G false 1 (.rp false (WI.v ⟨18, d, a, b, c, kk⟩) 3) H = some (I6 b) := wl3 G (⟨18, d, a, b, c, kk⟩ : WI)
 have l4 : ∀ H, aC G false 1 (.rp false (WI.v ⟨18, d, a, b, c, kk⟩) 4) H = some (I6 c) := wl4 G (⟨18, d, a, b, c, kk⟩ : WI)
 have l5 : ∀ H, aC G false 1 (.rp false (WI.v ⟨18, d, a, b, c, kk⟩) 5) H = some (I6 kk) := wl5 G (⟨18, d, a, b, c, kk⟩ : WI)
 have l6 := wl6 G (⟨18, d, a, b, c, kk⟩ : WI)
 have q1 : aZ [(0, 1), (1, 1), (2, 1), (3, 1), (4, 1), (5, 1)] [(.int .i64 0), (.int .i64 0), (.int .i64 0), (.int .i64 0), (.int .i64 0), (.int .i64 0)] [(0, .int .i64 22), (1, I6 a)] = some (MI.v ⟨22, a, 0, 0, 0, 0⟩) := rfl
 have c1 : bF (bX.f G (k + 10)) [BX, MI.v ⟨22, a, 0, 0, 0, 0⟩, I6 kk] (fB s T) = some (.tup [], fB (s.one ⟨18, d, a, b, c, kk⟩ e) T) := rJ G (k + 8) s T hT ⟨22, a, 0, 0, 0, 0⟩ kk (by omega) (by omega)
 have fin := nM (s.one ⟨18, d, a, b, c, kk⟩ e) T hT
 generalize MI.v ⟨22, a, 0, 0, 0, 0⟩ = mv at *
 generalize WI.v ⟨18, d, a, b, c, kk⟩ = wv at *
 refine dX ?_
 have fx := aOO b0 <| aOO l0 <| aOO l1 <| aOO l2 <| aOO l3 <| aOO l4 <| aOO l5 <| aOO l6 <| aOO q1 <| c1
 refine jL ?_
 exact oF fin
theorem aLX (G : aI) (k : Nat) (s : KS) (T : aF) (hT : Pl T) (d a b c kk e : Int) (hs : s.out.length ≤ 900000) (hj : s.jumps.length ≤ 900000) : bF (aR.f G (k + 11)) [BX, WI.v ⟨19, d, a, b, c, kk⟩, I6 e] (fB s T) = some (.tup [], fB (s.one ⟨19, d, a, b, c, kk⟩ e) T) := by
 apply iX
 rw [aR.step]
 unfold aR.c
 rw [gN]
 have b0 := wx (⟨19, d, a, b, c, kk⟩ : WI)
 have l0 : ∀ H, aC G false 1 (.rp false (WI.v ⟨19, d, a, b, c, kk⟩) 0) H = some (.int .i64 19) := wl0 G (⟨19, d, a, b, c, kk⟩ : WI)
 have l1 : ∀ H, aC G false 1 (.rp false (WI.v ⟨19, d, a, b, c, kk⟩) 1) H = some (I6 d) := wl1 G (⟨19, d, a, b, c, kk⟩ : WI)
 have l2 : ∀ H, aC G false 1 (.rp false (WI.v ⟨19, d, a, b, c, kk⟩) 2) H = some (I6 a) := wl2 G (⟨19, d, a, b, c, kk⟩ : WI)
 have l3 : ∀ H, aC G false 1 (.rp false (WI.v ⟨19, d, a, b, c, kk⟩) 3) H = some (I6 b) := wl3 G (⟨19, d, a, b, c, kk⟩ : WI)
 have l4 : ∀ H, aC G false 1 (.rp false (WI.v ⟨19, d, a, b, c, kk⟩) 4) H = some (I6 c) := wl4 G (⟨19, d, a, b, c, kk⟩ : WI)
 have l5 : ∀ H, aC G false 1 (.rp false (WI.v ⟨19, d, a, b, c, kk⟩) 5) H = some (I6 kk) := wl5 G (⟨19, d, a, b, c, kk⟩ : WI)
 have l6 := wl6 G (⟨19, d, a, b, c, kk⟩ : WI)
 have q1 : aZ [(0, 1), (1, 1), (2, 1), (3, 1), (4, 1), (5, 1)] [(.int .i64 0), (.int .i64 0), (.int .i64 0), (.int .i64 0), (.int .i64 0), (.int .i64 0)] [(0, .int .i64 23), (1, I6 a)] = some (MI.v ⟨23, a, 0, 0, 0, 0⟩) := rfl
 have c1 : bF (bX.f G (k + 10)) [BX, MI.v ⟨23, a, 0, 0, 0, 0⟩, I6 kk] (fB s T) = some (.tup [], fB (s.one ⟨19, d, a, b, c, kk⟩ e) T) := rJ G (k + 8) s T hT ⟨23, a, 0, 0, 0, 0⟩ kk (by omega) (by omega)
 have fin := nM (s.one ⟨19, d, a, b, c, kk⟩ e) T hT
 generalize MI.v ⟨23, a, 0, 0, 0, 0⟩ = mv at *
 generalize WI.v ⟨19, d, a, b, c, kk⟩ = wv at *
 refine dX ?_
 have fx := aOO b0 <| aOO l0 <| aOO l1 <| aOO l2 <| aOO l3 <| aOO l4 <| aOO l5 <| aOO l6 <| aOO q1 <| c1
 refine jL ?_
 exact oF fin
theorem aLY (G : aI) (k : Nat) (s : KS) (T : aF) (hT : Pl T) (d a b c kk e : Int) (hs : s.out.length ≤ 900000) (hj : s.jumps.length ≤ 900000) : bF (aR.f G (k + 11)) [BX, WI.v ⟨20, d, a, b, c, kk⟩, I6 e] (fB s T) = some (.tup [], fB (s.one ⟨20, d, a, b, c, kk⟩ e) T) := by
 apply iX
 rw [aR.step]
 unfold aR.c
 rw [gN]
 have b0 := wx (⟨20, d, a, b, c, kk⟩ : WI)
 have l0 : ∀ H, aC G false 1 (.rp false (WI.v ⟨20, d, a, b, c, kk⟩) 0) H = some (.int .i64 20) := wl0 G (⟨20, d, a, b, c, kk⟩ : WI)
 have l1 : ∀ H, aC G false 1 (.rp false (WI.v ⟨20, d, a, b, c, kk⟩) 1) H = some (I6 d) := wl1 G (⟨20, d, a, b, c, kk⟩ : WI)
 have l2 : ∀ H, aC G false 1 (.rp false (WI.v ⟨20, d, a, b, c, kk⟩) 2) H = some (I6 a) := wl2 G (⟨20, d, a, b, c, kk⟩ : WI)
 have l3 : ∀ H, aC G false 1 (.rp false (WI.v ⟨20, d, a, b, c, kk⟩) 3) H = some (I6 b) := wl3 G (⟨20, d, a, b, c, kk⟩ : WI)
 have l4 : ∀ H, aC G false 1 (.rp false (WI.v ⟨20, d, a, b, c, kk⟩) 4) H = some (I6 c) := wl4 G (⟨20, d, a, b, c, kk⟩ : WI)
 have l5 : ∀ H, aC G false 1 (.rp false (WI.v ⟨20, d, a, b, c, kk⟩) 5) H = some (I6 kk) := wl5 G (⟨20, d, a, b, c, kk⟩ : WI)
 have l6 := wl6 G (⟨20, d, a, b, c, kk⟩ : WI)
 have q1 : aZ [(0, 1), (1, 1), (2, 1), (3, 1), (4, 1), (5, 1)] [(.int .i64 0), (.int .i64 0), (.int .i64 0), (.int .i64 0), (.int .i64 0), (.int .i64 0)] [(0, .int .i64 24), (5, I6 kk)] = some (MI.v ⟨24, 0, 0, 0, 0, kk⟩) := rfl
 have c1 := pG s T ⟨24, 0, 0, 0, 0, kk⟩
 have c2 := aBW G (k + 9) s T hT ⟨24, 0, 0, 0, 0, kk⟩ (by omega)
 have es : s.one ⟨20, d, a, b, c, kk⟩ e = s.put [⟨24, 0, 0, 0, 0, kk⟩] := rfl
 rw [es]
 have fin := xB (s.put [⟨24, 0, 0, 0, 0, kk⟩]) T [⟨57, 6, cQ [⟨24, 0, 0, 0, 0, kk⟩]⟩] hT
 generalize (⟨24, 0, 0, 0, 0, kk⟩ : MI) = mi at *
 generalize T ++ [⟨57, 6, cQ [mi]⟩] = T1 at *
 generalize WI.v ⟨20, d, a, b, c, kk⟩ = wv at *
 refine dX ?_
 have fx := aOO b0 <| aOO l0 <| aOO l1 <| aOO l2 <| aOO l3 <| aOO l4 <| aOO l5 <| aOO l6 <| aOO q1 <| aOO c1 <| c2
 refine jL ?_
 exact oF fin
theorem aHB (G : aI) (k : Nat) (s : KS) (T : aF) (hT : Pl T) (i : WI) (ho : 1 ≤ i.op ∧ i.op ≤ 20) (e : Int) (hs : s.out.length ≤ 900000) (hj : s.jumps.length ≤ 900000) : bF (aR.f G (k + 11)) [BX, i.v, I6 e] (fB s T) = some (.tup [], fB (s.one i e) T) := by
 obtain ⟨op, d, a, b, c, kk⟩ := i
 simp only at ho
 have h : op = 1 ∨ op = 2 ∨ op = 3 ∨ op = 4 ∨ op = 5 ∨ op = 6 ∨ op = 7 ∨ op = 8 ∨ op = 9 ∨ op = 10 ∨ op = 11 ∨ op = 12 ∨ op = 13 ∨ op = 14 ∨ op = 15 ∨ op = 16 ∨ op = 17 ∨ op = 18 ∨ op = 19 ∨ op = 20 := by omega
 rcases h with rfl | rfl | rfl | rfl | rfl | rfl | rfl | rfl | rfl | rfl | rfl | rfl | rfl | rfl | rfl | rfl | rfl | rfl | rfl | rfl
 ·exact aNj G k s T hT d a b c kk e hs hj
 ·exact aNk G k s T hT d a b c kk e hs hj
 ·exact aNl G k s T hT d a b c kk e hs hj
 ·exact aNm G k s T hT d a b c kk e hs hj
 ·exact aNn G k s T hT d a b c kk e hs hj
 ·exact aNo G k s T hT d a b c kk e hs hj
 ·exact aNp G k s T hT d a b c kk e hs hj
 ·exact aNq G k s T hT d a b c kk e hs hj
 ·exact aNr G k s T hT d a b c kk e hs hj
 ·exact aLO G k s T hT d a b c kk e hs hj
 ·exact aLP G k s T hT d a b c kk e hs hj
 ·exact aLQ G k s T hT d a b c kk e hs hj
 ·exact aLR G k s T hT d a b c kk e hs hj
 ·exact aLS G k s T hT d a b c kk e hs hj
 ·exact aLT G k s T hT d a b c kk e hs hj
 ·exact aLU G k s T hT d a b c kk e hs hj
 ·exact aLV G k s T hT d a b c kk e hs hj
 ·exact aLW G k s T hT d a b c kk e hs hj
 ·exact aLX G k s T hT d a b c kk e hs hj
 ·exact aLY G k s T hT d a b c kk e hs hj
def gQ (ws : List WI) : List AV := ws.map WI.v
theorem lG (ws : List WI) : (gQ ws).length = ws.length := by simp [gQ]
theorem aEQ (ws : List WI) (j : Nat) (h : j < ws.length) : (gQ ws)[j]? = some (ws.getD j default).v := by
 unfold gQ
 rw [List.getElem?_map, List.getElem?_eq_getElem h, List.getD_eq_getElem?_getD, List.getElem?_eq_getElem h]; rfl
def KS.mark (s : KS) : KS := { s with place := s.place ++ [s.out.length] }
def KS.run (e : Int) : List WI → KS → KS
 | [], s => s
 | w :: ws, s => KS.run e ws (s.mark.one w e)
theorem aBg (s : KS) (op r : Int) (i : WI) (e : Int) : (s.touch op r i e).out.length ≤ s.out.length + 10 ∧ (s.touch op r i e).jumps.length ≤ s.jumps.length + 1 ∧ (s.touch op r i e).place = s.place := by
 unfold KS.touch
 have := (jP 28 (u64 i.k)).2
 by_cases h : i.k ≤ 4095
 ·simp only [if_pos h]
  simp [KS.jump, KS.put]
 ·simp only [if_neg h]
  simp [KS.jump, KS.put]; omega
def wT (s t : KS) : Prop := t.out.length ≤ s.out.length + 10 ∧ t.jumps.length ≤ s.jumps.length + 1 ∧ t.place = s.place
theorem aHv {s a b : KS} {c : Prop} [Decidable c] (ha : wT s a) (hb : wT s b) : wT s (if c then a else b) := by
 by_cases h : c
 ·rw [if_pos h]; exact ha
 ·rw [if_neg h]; exact hb
theorem aGt (s : KS) : wT s s := by unfold wT; simp
theorem aHw (s : KS) (l : List MI) (h : l.length ≤ 10) : wT s (s.put l) := by unfold wT; simp [KS.put]; omega
theorem aGs (s : KS) (i : MI) (t : Int) : wT s (s.jump i t) := by unfold wT; simp [KS.jump, KS.put]
theorem aHA (s : KS) (i : WI) (e : Int) : wT s (s.one i e) := by
 have hc := (jP i.d (u64 i.k)).2
 have ht : wT s (s.touch 18 i.d i e) := aBg s 18 i.d i e
 have ht2 : wT s (s.touch 19 i.b i e) := aBg s 19 i.b i e
 unfold KS.one
 repeat' first | exact ht | exact ht2 | exact aGt s | exact aGs s _ _ | refine aHv ?_ ?_ | exact aHw s _ (by first | (show 1 ≤ 10; decide) | (show 2 ≤ 10; decide) | omega)
theorem aJx (s : KS) (i : WI) (e : Int) : (s.one i e).out.length ≤ s.out.length + 10 ∧ (s.one i e).jumps.length ≤ s.jumps.length + 1 ∧ (s.one i e).place = s.place := aHA s i e
section
variable (G : aI) (k : Nat) (self : dE) (bor : Bool) (ws : List WI) (r m : Int)
def cV (bor : Bool) (ws : List WI) (r m : Int) : AV := .agg [.ro bor (gQ ws), I6 r, I6 m]
def xs8 (bor : Bool) (ws : List WI) (r m : Int) (j : Nat) : List AV := [.rp false (cV bor ws r m) 0, BX, .ro bor (gQ ws), Nn ws.length, Nn j]
theorem kX (n : Nat) (l : List WI) : cS n (gQ l) = true := kR n _ (fun _ => rfl) l
theorem aBn (j : Nat) : cS 5 (xs8 bor ws r m j) = true := by simp [xs8, cV, cS, cK, kX]
theorem aFs (hw : ∀ w ∈ ws, 1 ≤ w.op ∧ w.op ≤ 20) (hl : ws.length ≤ 10000) : ∀ (d j n : Nat) (s : KS) (X : aF), j + d = ws.length → d < n → s.out.length + 10 * d ≤ 800000 → s.jumps.length + d ≤ 800000 → s.place.length + d ≤ 800000 →
  gH (bU.l8 G (k + 11) 5 self) n (xs8 bor ws r m j) (fB s X) = some (.exit 0, xs8 bor ws r m ws.length, fB (s.run ws.length (ws.drop j)) [])
 | d, j, 0, s, X, h, hf, _, _, _ => by omega
 | 0, j, n + 1, s, X, h, hf, _, _, _ => by
  have hj : j = ws.length := by omega
  subst hj
  have hc : iL 5 (xs8 bor ws r m ws.length) (fB s X) = some (fB s []) := pL s [] X (fun _ => rfl) _ (aBn bor ws r m _)
  rw [fJ, bU.l8]
  rw [List.drop_length]
  refine jU ?_
  refine eC hc ?_
  unfold xs8 KS.run
  have fx := True.intro
  refine gC ?_
  refine iA ?_; rfl
 | d + 1, j, n + 1, s, X, h, hf, h1, h2, h3 => by
  obtain ⟨w, hwj⟩ : ∃ w, w = ws.getD j default := ⟨_, rfl⟩
  have hget := aEQ ws j (by omega)
  rw [← hwj] at hget
  have hmem : w ∈ ws := by
   rw [hwj, List.getD_eq_getElem?_getD, List.getElem?_eq_getElem (by omega)]
   exact List.getElem_mem _
  have hdrop : ws.drop j = w :: ws.drop (j + 1) := by
   rw [hwj, List.getD_eq_getElem?_getD, List.getElem?_eq_getElem (by omega)]
   exact List.drop_eq_getElem_cons (by omega)
  have hlen := aJx s.mark w ws.length
  have hm1 : s.mark.out = s.out := rfl
  have hm2 : s.mark.jumps = s.jumps := rfl
  have hm3 : s.mark.place.length = s.place.length + 1 := by simp [KS.mark]
  have ih := aFs hw hl d (j + 1) n (s.mark.one w ws.length) [⟨60, 6, [w.v]⟩] (by omega) (by omega) (by rw [hm1] at hlen; omega) (by rw [hm2] at hlen; omega) (by rw [hlen.2.2, hm3]; omega)
  rw [hdrop]
  have er : KS.run ws.length (w :: ws.drop (j + 1)) s = KS.run ws.length (ws.drop (j + 1)) (s.mark.one w ws.length) := rfl
  rw [er]
  generalize KS.run ws.length (ws.drop (j + 1)) (s.mark.one w ws.length) = sE at *
  have hc : iL 5 (xs8 bor ws r m j) (fB s X) = some (fB s []) := pL s [] X (fun _ => rfl) _ (aBn bor ws r m _)
  have q1 : aQ Tryd.prog .lss 3 false (Nn j) (Nn ws.length) = some (.bool true) := pR (by omega)
  have q2 : aQ Tryd.prog .add 3 true (Nn j) (.int .i64 1) = some (Nn (j + 1)) := by
   rw [kH, fD (by omega) (by omega)]; congr 2
  have d1 : cB 6 (.ro bor (gQ ws)) (Nn j) = some (.rp bor w.v 0) := by
   unfold cB
   simp only [Int.toNat_natCast, hget]
   rw [if_pos (by omega)]
   rfl
  have d2 : ∀ H, aC G true 6 (.rp bor w.v 0) H = some w.v := fun H => rfl
  have b1 : eY 60 (.agg [(.int .i64 0), (.int .i64 0), (.int .i64 0), (.int .i64 0), (.int .i64 0), (.int .i64 0)]) (fB s []) = some (.ptr 5 1 0 0, fB s [⟨60, 6, [.agg [(.int .i64 0), (.int .i64 0), (.int .i64 0), (.int .i64 0), (.int .i64 0), (.int .i64 0)]]⟩]) := rfl
  have b2 : eH (aO 6 (.ptr 5 1 0 0) w.v (fB s [⟨60, 6, [.agg [(.int .i64 0), (.int .i64 0), (.int .i64 0), (.int .i64 0), (.int .i64 0), (.int .i64 0)]]⟩])) = some (.tup [], fB s [⟨60, 6, [w.v]⟩]) := rfl
  have l0 := bl0 G s [⟨60, 6, [w.v]⟩]
  have l1 := bl1 G s [⟨60, 6, [w.v]⟩]
  have lc : dV (.sl 2 s.out.length 0 s.out.length 6) = some (Nn s.out.length) := rfl
  have br : ∀ H, eP 1 1 (.int .i64 0) [(0, Nn s.out.length)] H = some (.ro false [Nn s.out.length], H) := fun H => rfl
  have a1 : eQ 3 1 (.sl 3 s.place.length 0 s.place.length 1) (.ro false [Nn s.out.length]) (fB s [⟨60, 6, [w.v]⟩]) = some (.sl 3 s.mark.place.length 0 s.mark.place.length 1, (fB s [⟨60, 6, [w.v]⟩]).set 3 ⟨3, 1, kE s.mark.place⟩) := by
   have e : (fB s [⟨60, 6, [w.v]⟩])[3]? = some ⟨3, 1, kE s.place⟩ := rfl
   unfold eQ
   simp only [e, iK, kW, List.length_singleton]
   rw [if_pos (by refine ⟨?_, ?_, ?_, ?_, ?_⟩ <;> first | trivial | rfl | omega)]
   have e2 : (kE s.place).take s.place.length = kE s.place := List.take_of_length_le (by rw [kW]; exact Nat.le_refl _)
   have e3 : (kE s.place).drop (s.place.length + 1) = [] := List.drop_of_length_le (by rw [kW]; omega)
   have e4 : kE s.place ++ [Nn s.out.length] = kE s.mark.place := by simp [kE, KS.mark]
   rw [e2, e3, List.append_nil, e4, kW, hm3]
  have s1 : eH (aO 1 (.ptr 1 1 0 1) (.sl 3 s.mark.place.length 0 s.mark.place.length 1) ((fB s [⟨60, 6, [w.v]⟩]).set 3 ⟨3, 1, kE s.mark.place⟩)) = some (.tup [], fB s.mark [⟨60, 6, [w.v]⟩]) := rfl
  have l6 : aC G true 6 (.ptr 5 1 0 0) (fB s.mark [⟨60, 6, [w.v]⟩]) = some w.v := rfl
  have c0 : ∀ H, aC G false 1 (.rp false (cV bor ws r m) 0) H = some (.ro bor (gQ ws)) := fun H => rfl
  have cf : aA 0 (.rp false (cV bor ws r m) 0) = some (.rp false (cV bor ws r m) 0) := rfl
  have lw : dV (.ro bor (gQ ws)) = some (Nn ws.length) := by simp [dV, lG]
  have o1 := aHB G k s.mark [⟨60, 6, [w.v]⟩] (fun n => by simp [dL, cS, cK, WI.v]) w (hw w hmem) ws.length (by rw [hm1]; omega) (by rw [hm2]; omega)
  rw [fJ, bU.l8]
  refine jU ?_
  refine eC hc ?_
  unfold xs8 at ih ⊢
  generalize w.v = wv at *
  generalize (fB s [⟨60, 6, [wv]⟩]).set 3 ⟨3, 1, kE s.mark.place⟩ = hm_ at *
  have fx := aOO q1 <| aOO q2 <| aOO d1 <| aOO d2 <| aOO b1 <| aOO b2 <| aOO zC <| aOO bf0 <| aOO bf1 <| aOO l0 <| aOO l1 <| aOO lc <| aOO br <| aOO a1 <| aOO s1 <| aOO l6 <| aOO c0 <| aOO cf <| aOO lw <| o1
  refine jL ?_
  exact ih
end
def aLx (s : KS) (p : Nat × Int) : MI := { s.out.getD p.1 default with imm := (s.place.getD p.2.toNat 0 : Int) - p.1 }
def KS.fix (s : KS) (p : Nat × Int) : KS := { s with out := s.out.set p.1 (aLx s p) }
def KS.fixes : List (Nat × Int) → KS → KS
 | [], s => s
 | p :: l, s => KS.fixes l (s.fix p)
section
variable (G : aI) (k : Nat) (self : dE)
def aCp (J j : Nat) : List AV := [BX, .sl 4 J 0 J 2, Nn J, Nn j]
theorem aAn (J j : Nat) : cS 5 (aCp J j) = true := by simp [aCp, cS, cK]
theorem aLE (s : KS) (T : aF) (j : Nat) (p : Nat × Int) (hp : s.jumps[j]? = some p) : aC G true 2 (.ptr 4 s.jumps.length j 0) (fB s T) = some (pN p) := by
 have e : (fB s T)[4]? = some ⟨93, 2, mP s.jumps⟩ := rfl
 have e2 : (mP s.jumps)[j]? = some (pN p) := by unfold mP; rw [List.getElem?_map, hp]; rfl
 unfold aC
 simp only [e, pB, if_true, e2]
 rfl
theorem aJn (s : KS) (T : aF) (j : Nat) (hp : j < s.place.length) : aC G false 1 (.ptr 3 s.place.length j 0) (fB s T) = some (Nn (s.place.getD j 0)) := by
 have e : (fB s T)[3]? = some ⟨3, 1, kE s.place⟩ := rfl
 have e2 : (kE s.place)[j]? = some (Nn (s.place.getD j 0)) := by
  unfold kE
  rw [List.getElem?_map, List.getElem?_eq_getElem hp, List.getD_eq_getElem?_getD, List.getElem?_eq_getElem hp]; rfl
 unfold aC
 simp only [e, kW, if_true, e2]
 rfl
theorem aNG (s : KS) (T : aF) (p : Nat × Int) (hp : p.1 < s.out.length) : eH (aO 1 (.ptr 2 s.out.length p.1 5) (I6 ((s.place.getD p.2.toNat 0 : Int) - p.1)) (fB s T)) = some (.tup [], fB (s.fix p) T) := by
 have e : (fB s T)[2]? = some ⟨57, 6, cQ s.out⟩ := rfl
 have e2 : (cQ s.out)[p.1]? = some (s.out.getD p.1 default).v := by
  unfold cQ
  rw [List.getElem?_map, List.getElem?_eq_getElem hp, List.getD_eq_getElem?_getD, List.getElem?_eq_getElem hp]; rfl
 have e3 : (cQ s.out).set p.1 (aLx s p).v = cQ (s.fix p).out := by
  unfold cQ KS.fix
  rw [List.map_set]
 have e4 : (s.fix p).out.length = s.out.length := by simp [KS.fix]
 have e5 : (fB s T).set 2 ⟨57, 6, cQ (s.fix p).out⟩ = fB (s.fix p) T := by
  unfold fB KS.box
  rw [e4]; rfl
 unfold aO
 simp only [e, iE, e2]
 rw [if_pos ⟨trivial, rfl, rfl⟩, if_pos (by show 5 + 1 ≤ 6; decide)]
 rw [← e5, ← e3]
 rfl
theorem aDa : ∀ (d j n : Nat) (s : KS) (X : aF), j + d = s.jumps.length → d < n → s.jumps.length ≤ 900000 → (∀ p ∈ s.jumps, p.1 < s.out.length ∧ 0 ≤ p.2 ∧ p.2 < s.place.length) → (∀ q ∈ s.place, q ≤ 900000) → s.out.length ≤ 900000 →
  gH (bU.l15 G k 5 self) n (aCp s.jumps.length j) (fB s X) = some (.exit 2, aCp s.jumps.length s.jumps.length, fB (KS.fixes (s.jumps.drop j) s) [])
 | d, j, 0, s, X, h, hf, _, _, _, _ => by omega
 | 0, j, n + 1, s, X, h, hf, _, _, _, _ => by
  have hj : j = s.jumps.length := by omega
  subst hj
  have hc : iL 5 (aCp s.jumps.length s.jumps.length) (fB s X) = some (fB s []) := pL s [] X (fun _ => rfl) _ (aAn _ _)
  rw [fJ, bU.l15]
  rw [List.drop_length]
  refine jU ?_
  refine eC hc ?_
  unfold aCp KS.fixes
  have fx := True.intro
  refine gC ?_
  refine iA ?_; rfl
 | d + 1, j, n + 1, s, X, h, hf, hJ, hp, hq, hO => by
  obtain ⟨p, hpj⟩ : ∃ p, p = s.jumps[j]'(by omega) := ⟨_, rfl⟩
  have hget : s.jumps[j]? = some p := by rw [List.getElem?_eq_getElem (by omega), hpj]
  have hmem : p ∈ s.jumps := by rw [hpj]; exact List.getElem_mem _
  have hdrop : s.jumps.drop j = p :: s.jumps.drop (j + 1) := by rw [hpj]; exact List.drop_eq_getElem_cons (by omega)
  obtain ⟨p1, p2, p3⟩ := hp p hmem
  have pq : s.place.getD p.2.toNat 0 ≤ 900000 := by
   rw [List.getD_eq_getElem?_getD, List.getElem?_eq_getElem (by omega)]
   exact hq _ (List.getElem_mem _)
  have f1 : (s.fix p).jumps = s.jumps := rfl
  have f2 : (s.fix p).place = s.place := rfl
  have f3 : (s.fix p).out.length = s.out.length := by simp [KS.fix]
  have ih := aDa d (j + 1) n (s.fix p) [⟨93, 2, [pN p]⟩] (by rw [f1]; omega) (by omega) (by rw [f1]; exact hJ) (by rw [f1, f2, f3]; exact hp) (by rw [f2]; exact hq) (by rw [f3]; exact hO)
  rw [f1] at ih
  rw [hdrop]
  have er : KS.fixes (p :: s.jumps.drop (j + 1)) s = KS.fixes (s.jumps.drop (j + 1)) (s.fix p) := rfl
  rw [er]
  generalize KS.fixes (s.jumps.drop (j + 1)) (s.fix p) = sE at *
  have hc : iL 5 (aCp s.jumps.length j) (fB s X) = some (fB s []) := pL s [] X (fun _ => rfl) _ (aAn _ _)
  have q1 : aQ Tryd.prog .lss 3 false (Nn j) (Nn s.jumps.length) = some (.bool true) := pR (by omega)
  have q2 : aQ Tryd.prog .add 3 true (Nn j) (.int .i64 1) = some (Nn (j + 1)) := by
   rw [kH, fD (by omega) (by omega)]; congr 2
  have d1 : cB 2 (.sl 4 s.jumps.length 0 s.jumps.length 2) (Nn j) = some (.ptr 4 s.jumps.length j 0) := by
   rw [rN (by omega) (by omega), Nat.zero_add, Int.toNat_natCast]
  have d2 := aLE G s [] j p hget
  have b1 : eY 93 (.agg [(.int .i64 0), (.int .i64 0)]) (fB s []) = some (.ptr 5 1 0 0, fB s [⟨93, 2, [.agg [(.int .i64 0), (.int .i64 0)]]⟩]) := rfl
  have b2 : eH (aO 2 (.ptr 5 1 0 0) (pN p) (fB s [⟨93, 2, [.agg [(.int .i64 0), (.int .i64 0)]]⟩])) = some (.tup [], fB s [⟨93, 2, [pN p]⟩]) := rfl
  have l0 := bl0 G s [⟨93, 2, [pN p]⟩]
  have l1 := bl1 G s [⟨93, 2, [pN p]⟩]
  have k0 : aA 0 (.ptr 5 1 0 0) = some (.ptr 5 1 0 0) := rfl
  have k1 : aA 1 (.ptr 5 1 0 0) = some (.ptr 5 1 0 1) := rfl
  have j0 : aC G false 1 (.ptr 5 1 0 0) (fB s [⟨93, 2, [pN p]⟩]) = some (Nn p.1) := rfl
  have j1 : aC G false 1 (.ptr 5 1 0 1) (fB s [⟨93, 2, [pN p]⟩]) = some (I6 p.2) := rfl
  have d3 : cB 1 (.sl 3 s.place.length 0 s.place.length 1) (I6 p.2) = some (.ptr 3 s.place.length p.2.toNat 0) := by
   rw [rN p2 p3, Nat.zero_add]
  have d4 := aJn G s [⟨93, 2, [pN p]⟩] p.2.toNat (by omega)
  have d5 : aQ Tryd.prog .sub 3 false (Nn (s.place.getD p.2.toNat 0)) (Nn p.1) = some (I6 ((s.place.getD p.2.toNat 0 : Int) - p.1)) := by
   rw [xM, fD (by omega) (by omega)]
  have d6 : cB 6 (.sl 2 s.out.length 0 s.out.length 6) (Nn p.1) = some (.ptr 2 s.out.length p.1 0) := by
   rw [rN (by omega) (by omega), Nat.zero_add, Int.toNat_natCast]
  have k5 : aA 5 (.ptr 2 s.out.length p.1 0) = some (.ptr 2 s.out.length p.1 5) := rfl
  have s1 := aNG s [⟨93, 2, [pN p]⟩] p p1
  rw [fJ, bU.l15]
  refine jU ?_
  refine eC hc ?_
  unfold aCp at ih ⊢
  generalize pN p = pv at *
  generalize s.place.getD p.2.toNat 0 = y at *
  generalize (y : Int) - p.1 = z at *
  have fx := aOO q1 <| aOO q2 <| aOO d1 <| aOO d2 <| aOO b1 <| aOO b2 <| aOO zC <| aOO bf0 <| aOO bf1 <| aOO l0 <| aOO l1 <| aOO k0 <| aOO k1 <| aOO j0 <| aOO j1 <| aOO d3 <| aOO d4 <| aOO d5 <| aOO d6 <| aOO k5 <| s1
  refine jL ?_
  exact ih
end
section
variable (G : aI) (k : Nat) (self : dE)
def aCq (O c j : Nat) : List AV := [.undef, .undef, .sl 5 c 0 c 1, .sl 2 O 0 O 6, Nn O, Nn j]
theorem aAo (O c j : Nat) : cS 6 (aCq O c j) = true := by simp [aCq, cS, cK]
abbrev bW (ws : List Int) : ABlk := ⟨71, 1, iI ws⟩
theorem PlW (ws : List Int) : Pl [bW ws] := fun n => by simp [dL, qI]
theorem aNg (s : KS) (T : aF) (j : Nat) (i : MI) (hp : s.out[j]? = some i) : aC G true 6 (.ptr 2 s.out.length j 0) (fB s T) = some i.v := by
 have e : (fB s T)[2]? = some ⟨57, 6, cQ s.out⟩ := rfl
 have e2 : (cQ s.out)[j]? = some i.v := by unfold cQ; rw [List.getElem?_map, hp]; rfl
 unfold aC
 simp only [e, iE, if_true, e2]
 rfl
theorem apW (s : KS) (ws : List Int) (X : aF) (w : Int) (hl : ws.length ≤ 900000) : eQ 71 1 (.sl 5 ws.length 0 ws.length 1) (.ro false [cX w]) (fB s (bW ws :: X)) = some (.sl 5 (ws ++ [w]).length 0 (ws ++ [w]).length 1, fB s (bW (ws ++ [w]) :: X)) := by
 have e : (fB s (bW ws :: X))[5]? = some (bW ws) := rfl
 have hcl : (iI ws).length = ws.length := by simp [iI]
 unfold eQ
 simp only [e, iK, hcl, List.length_singleton]
 rw [if_pos (by refine ⟨?_, ?_, ?_, ?_, ?_⟩ <;> first | trivial | rfl | omega)]
 have e2 : (iI ws).take ws.length = iI ws := List.take_of_length_le (by rw [hcl]; exact Nat.le_refl _)
 have e3 : (iI ws).drop (ws.length + 1) = [] := List.drop_of_length_le (by rw [hcl]; omega)
 have e4 : iI ws ++ [cX w] = iI (ws ++ [w]) := by simp [iI]
 have e5 : (iI (ws ++ [w])).length = ws.length + 1 := by simp [iI]
 rw [e2, e3, List.append_nil, e4, e5]
 simp only [List.length_append, List.length_singleton]
 rfl
theorem aDb (s : KS) (hO : s.out.length ≤ 900000) (hr : ∀ i ∈ s.out, aT i = true) : ∀ (d j n : Nat) (ws : List Int) (X : aF), j + d = s.out.length → d < n → ws.length = j →
  gH (bU.l23 G (k + 5) 6 self) n (aCq s.out.length ws.length j) (fB s (bW ws :: X)) = some (.exit 4, aCq s.out.length s.out.length s.out.length, fB s [bW (ws ++ (s.out.drop j).map cI)])
 | d, j, 0, ws, X, h, hf, _ => by omega
 | 0, j, n + 1, ws, X, h, hf, hw => by
  have hj : j = s.out.length := by omega
  subst hj
  have hc : iL 6 (aCq s.out.length ws.length s.out.length) (fB s (bW ws :: X)) = some (fB s [bW ws]) := pL s [bW ws] X (PlW ws) _ (aAo _ _ _)
  rw [fJ, bU.l23]
  rw [List.drop_length, List.map_nil, List.append_nil]
  refine jU ?_
  refine eC hc ?_
  rw [hw]
  unfold aCq
  have fx := True.intro
  refine gC ?_
  refine iA ?_; rfl
 | d + 1, j, n + 1, ws, X, h, hf, hw => by
  obtain ⟨i, hij⟩ : ∃ i, i = s.out[j]'(by omega) := ⟨_, rfl⟩
  have hget : s.out[j]? = some i := by rw [List.getElem?_eq_getElem (by omega), hij]
  have hmem : i ∈ s.out := by rw [hij]; exact List.getElem_mem _
  have hdrop : s.out.drop j = i :: s.out.drop (j + 1) := by rw [hij]; exact List.drop_eq_getElem_cons (by omega)
  have hri := hr i hmem
  have ih := aDb s hO hr d (j + 1) n (ws ++ [cI i]) [⟨57, 6, [i.v]⟩] (by omega) (by omega) (by simp [hw])
  have e : ws ++ [cI i] ++ (s.out.drop (j + 1)).map cI = ws ++ (s.out.drop j).map cI := by rw [hdrop]; simp
  rw [e] at ih
  generalize ws ++ (s.out.drop j).map cI = wE at *
  have hc : iL 6 (aCq s.out.length ws.length j) (fB s (bW ws :: X)) = some (fB s [bW ws]) := pL s [bW ws] X (PlW ws) _ (aAo _ _ _)
  have q1 : aQ Tryd.prog .lss 3 false (Nn j) (Nn s.out.length) = some (.bool true) := pR (by omega)
  have q2 : aQ Tryd.prog .add 3 true (Nn j) (.int .i64 1) = some (Nn (j + 1)) := by
   rw [kH, fD (by omega) (by omega)]; congr 2
  have d1 : cB 6 (.sl 2 s.out.length 0 s.out.length 6) (Nn j) = some (.ptr 2 s.out.length j 0) := by
   rw [rN (by omega) (by omega), Nat.zero_add, Int.toNat_natCast]
  have d2 := aNg G s [bW ws] j i hget
  have b1 : eY 57 (.agg [(.int .i64 0), (.int .i64 0), (.int .i64 0), (.int .i64 0), (.int .i64 0), (.int .i64 0)]) (fB s [bW ws]) = some (.ptr 6 1 0 0, fB s [bW ws, ⟨57, 6, [mV 0 0 0 0 0 0]⟩]) := rfl
  have b2 : eH (aO 6 (.ptr 6 1 0 0) i.v (fB s [bW ws, ⟨57, 6, [mV 0 0 0 0 0 0]⟩])) = some (.tup [], fB s [bW ws, ⟨57, 6, [i.v]⟩]) := rfl
  have b3 : aC G true 6 (.ptr 6 1 0 0) (fB s [bW ws, ⟨57, 6, [i.v]⟩]) = some i.v := rfl
  have w1_ : ∀ H, aE (bA.f G (k + 5)) [i.v] H = some (.tup [cX (cI i), .bool true], H) := fun H => by
   have := aGI G k i
   rw [hri] at this
   have e2 : nV i = cI i := by unfold nV; rw [if_pos hri]
   rw [e2] at this
   exact aD (H := H) this rfl rfl
  have br : ∀ H, eP 1 1 (.int .u32 0) [(0, cX (cI i))] H = some (.ro false [cX (cI i)], H) := fun H => rfl
  have a1 := apW s ws [⟨57, 6, [i.v]⟩] (cI i) (by omega)
  rw [fJ, bU.l23]
  refine jU ?_
  refine eC hc ?_
  unfold aCq at ih ⊢
  generalize i.v = iv at *
  generalize cI i = wi at *
  have fx := aOO q1 <| aOO q2 <| aOO d1 <| aOO d2 <| aOO b1 <| aOO b2 <| aOO b3 <| aOO w1_ <| aOO br <| a1
  refine jL ?_
  exact ih
end
theorem aJc {x y z : AV} {H : aF} (h : uV H 0 6 (.tup [x, y]) = some z) : bK [x, y] 0 H = some (.ret, [z], []) := by
 have hc : iL 0 [] H = some [] := by
  unfold iL
  rw [List.take_zero]; rfl
 unfold bK pZ
 simp only [h, hc]
def k00 : KS := ⟨[], [], []⟩
theorem aAM : ∀ (l : List (Nat × Int)) (s : KS), (KS.fixes l s).out.length = s.out.length
 | [], s => rfl
 | p :: l, s => by
  have : (s.fix p).out.length = s.out.length := by simp [KS.fix]
  rw [← this]; exact aAM l (s.fix p)
theorem aFX (G : aI) (k : Nat) (ws : List WI) (r m : Int) (hv : dF.f G (k + 11) [cV false ws r m] [] = some (.nili, [])) (hr : r ≤ 28) (hw : ∀ w ∈ ws, 1 ≤ w.op ∧ w.op ≤ 20) (hl : ws.length ≤ 10000) (hlk : ws.length < k)
  (s0 : KS) (hs0 : s0 = (KS.run ws.length ws k00).mark) (s1 : KS) (hs1 : s1 = KS.fixes s0.jumps s0)
  (hJ : s0.jumps.length ≤ 900000) (hJk : s0.jumps.length < k) (hp : ∀ p ∈ s0.jumps, p.1 < s0.out.length ∧ 0 ≤ p.2 ∧ p.2 < s0.place.length) (hq : ∀ q ∈ s0.place, q ≤ 900000) (hP : s0.place.length ≤ 900000) (hO : s0.out.length ≤ 262144) (hOk : s0.out.length < k) (hright : ∀ i ∈ s1.out, aT i = true) :
  bU.f G (k + 12) [cV false ws r m] [] = some (.tup [.ro false (iI (s1.out.map cI)), .nili], []) := by
 rw [bU.step]
 unfold bU.c
 have plC : dQ (gQ ws) = true := nQ _ (fun _ => rfl) ws
 have c0 : ∀ H, dH (cV false ws r m) H = some (.rp false (cV false ws r m) 0, H) := fun H => rfl
 have c1 : ∀ H, aC G true 3 (.rp false (cV false ws r m) 0) H = some (cV false ws r m) := fun H => rfl
 have v0 : ∀ H, aE (dF.f G (k + 11)) [cV false ws r m] H = _ := fun H => aD (H := H) hv (by simp [cV, dQ, bG, plC]) rfl
 have e1 : aQ Tryd.prog .neq 30 true .nili .nili = some (.bool false) := by kernel_rfl
 have c2 : aA 1 (.rp false (cV false ws r m) 0) = some (.rp false (cV false ws r m) 1) := rfl
 have c3 : ∀ H, aC G false 1 (.rp false (cV false ws r m) 1) H = some (I6 r) := fun H => rfl
 have c4 : ∀ H, aC G false 1 (.rp false (cV false ws r m) 0) H = some (.ro false (gQ ws)) := fun H => rfl
 have cf : aA 0 (.rp false (cV false ws r m) 0) = some (.rp false (cV false ws r m) 0) := rfl
 have e2 : aQ Tryd.prog .gtr 3 true (I6 r) (.int .i64 28) = some (.bool false) := tZ (by omega)
 have lw : dV (.ro false (gQ ws)) = some (Nn ws.length) := by simp [dV, lG]
 have bx : eY 90 (.agg [.nils, .nils, .nils]) [⟨71, 1, []⟩] = some (.ptr 1 1 0 0, [⟨71, 1, []⟩, ⟨90, 3, [.agg [.nils, .nils, .nils]]⟩]) := rfl
 have v1 : nT (.ptr 1 1 0 0, 0, 57, 6) [⟨71, 1, []⟩, ⟨90, 3, [.agg [.nils, .nils, .nils]]⟩] = [⟨71, 1, []⟩, ⟨90, 3, [.agg [.sl 2 0 0 0 6, .nils, .nils]]⟩, ⟨57, 6, []⟩] := rfl
 have v2 : nT (.ptr 1 1 0 0, 1, 3, 1) [⟨71, 1, []⟩, ⟨90, 3, [.agg [.sl 2 0 0 0 6, .nils, .nils]]⟩, ⟨57, 6, []⟩] = [⟨71, 1, []⟩, ⟨90, 3, [.agg [.sl 2 0 0 0 6, .sl 3 0 0 0 1, .nils]]⟩, ⟨57, 6, []⟩, ⟨3, 1, []⟩] := rfl
 have v3 : nT (.ptr 1 1 0 0, 2, 93, 2) [⟨71, 1, []⟩, ⟨90, 3, [.agg [.sl 2 0 0 0 6, .sl 3 0 0 0 1, .nils]]⟩, ⟨57, 6, []⟩, ⟨3, 1, []⟩] = fB k00 [] := rfl
 have lp1 := aFs G k (bU.f G (k + 11)) false ws r m hw hl ws.length 0 (k + 11) k00 [] (by omega) (by omega) (by show 0 + 10 * ws.length ≤ 800000; omega) (by show 0 + ws.length ≤ 800000; omega) (by show 0 + ws.length ≤ 800000; omega)
 rw [List.drop_zero] at lp1
 obtain ⟨s, hs⟩ : ∃ s, s = KS.run ws.length ws k00 := ⟨_, rfl⟩
 rw [← hs] at lp1 hs0
 have hm3 : s0.place.length = s.place.length + 1 := by rw [hs0]; simp [KS.mark]
 have hmo : s0.out = s.out := by rw [hs0]; rfl
 have l0 := bl0 G s []
 have l1 := bl1 G s []
 have lc : dV (.sl 2 s.out.length 0 s.out.length 6) = some (Nn s.out.length) := rfl
 have br : ∀ H, eP 1 1 (.int .i64 0) [(0, Nn s.out.length)] H = some (.ro false [Nn s.out.length], H) := fun H => rfl
 have a1 : eQ 3 1 (.sl 3 s.place.length 0 s.place.length 1) (.ro false [Nn s.out.length]) (fB s []) = some (.sl 3 s0.place.length 0 s0.place.length 1, (fB s []).set 3 ⟨3, 1, kE s0.place⟩) := by
  have e : (fB s [])[3]? = some ⟨3, 1, kE s.place⟩ := rfl
  unfold eQ
  simp only [e, iK, kW, List.length_singleton]
  rw [if_pos (by refine ⟨?_, ?_, ?_, ?_, ?_⟩ <;> first | trivial | rfl | omega)]
  have e2 : (kE s.place).take s.place.length = kE s.place := List.take_of_length_le (by rw [kW]; exact Nat.le_refl _)
  have e3 : (kE s.place).drop (s.place.length + 1) = [] := List.drop_of_length_le (by rw [kW]; omega)
  have e4 : kE s.place ++ [Nn s.out.length] = kE s0.place := by rw [hs0]; simp [kE, KS.mark]
  rw [e2, e3, List.append_nil, e4, kW, hm3]
 have s1_ : eH (aO 1 (.ptr 1 1 0 1) (.sl 3 s0.place.length 0 s0.place.length 1) ((fB s []).set 3 ⟨3, 1, kE s0.place⟩)) = some (.tup [], fB s0 []) := by
  rw [hs0]; rfl
 have l2 := bl2 G s0 []
 have lj : dV (.sl 4 s0.jumps.length 0 s0.jumps.length 2) = some (Nn s0.jumps.length) := rfl
 have lp2 := aDa G (k + 11) (bU.f G (k + 11)) s0.jumps.length 0 (k + 11) s0 [] (by omega) (by omega) hJ hp hq (by omega)
 rw [List.drop_zero, ← hs1] at lp2
 have ho1 : s1.out.length = s0.out.length := by rw [hs1]; exact aAM _ _
 have m0 := bl0 G s1 []
 have m0' := bl0 G s1 [bW []]
 have lo : dV (.sl 2 s1.out.length 0 s1.out.length 6) = some (Nn s1.out.length) := rfl
 have g1 : aQ Tryd.prog .gtr 3 true (Nn s1.out.length) (.int .i64 262144) = some (.bool false) := tZ (by omega)
 have ap : fB s1 [] ++ [⟨71, 1, []⟩] = fB s1 [bW []] := rfl
 have lp3 := aDb G (k + 6) (bU.f G (k + 11)) s1 (by omega) hright s1.out.length 0 (k + 11) [] [] (by omega) (by omega) rfl
 rw [List.drop_zero, List.nil_append] at lp3
 have hcl : (iI (s1.out.map cI)).length = s1.out.length := by simp [iI]
 have fin : bK [.sl 5 s1.out.length 0 s1.out.length 1, .nili] 0 (fB s1 [bW (s1.out.map cI)]) = some (.ret, [.tup [.ro false (iI (s1.out.map cI)), .nili]], []) := by
  refine aJc ?_
  refine aJh rfl ?_
  exact kA (yQ (ty := 71) (xs := iI (s1.out.map cI)) rfl (by omega) hcl (rD 1 _ (fun _ => rfl) _) (qI _ _)) (kA rfl yX)
 have h5 : ∀ s : KS, (fB s []).length = 5 := fun s => rfl
 have h6 : (fB s1 [bW []]).length = 6 := rfl
 unfold xs8 at lp1
 unfold aCp at lp2
 unfold aCq at lp3
 clear hp hq hv hw hright ho1 hcl hmo hm3 hs hs0 hs1 plC
 generalize cV false ws r m = C at *
 generalize gQ ws = wi at *
 refine dX ?_
 have fx := aOO c0 <| aOO c1 <| aOO v0 <| aOO e1 <| aOO c2 <| aOO c3 <| aOO c4 <| aOO cf <| aOO e2 <| aOO lw <| bx
 refine jL ?_
 refine eV1 v1 ?_
 refine eV1 v2 ?_
 refine eV1 v3 ?_
 refine eV0 ?_
 rw [h5]
 refine eK ?_
 refine eL lp1 ?_
 have fx := aOO zC <| aOO bf0 <| aOO bf1 <| aOO bf2 <| aOO l0 <| aOO l1 <| aOO lc <| aOO br <| aOO a1 <| aOO s1_ <| aOO l2 <| lj
 refine jL ?_
 refine eV1 (show nT _ _ = fB s0 [] from rfl) ?_
 refine eV1 (show nT _ _ = fB s0 [] from rfl) ?_
 refine eV1 (show nT _ _ = fB s0 [] from rfl) ?_
 refine eV0 ?_
 rw [h5]
 refine eK ?_
 refine eL lp2 ?_
 have fx := aOO zC <| aOO bf0 <| aOO m0 <| aOO m0' <| aOO lo <| g1
 refine jL ?_
 rw [h5, ap]
 have fx := aOO zC <| aOO bf0 <| aOO m0 <| aOO m0' <| aOO lo <| g1
 refine jL ?_
 rw [h6]
 refine eL lp3 ?_
 have fx := True.intro
 refine jL ?_
 exact oF fin
def pU (op k : Int) (a : Nat) : Nat × Bool :=
 if k < 0 ∨ 63 < k then (0, false)
 else if op = 10 then (a * 2 ^ k.toNat % 18446744073709551616, true)
 else if op = 11 then (a / 2 ^ k.toNat, true)
 else (aCf a k.toNat, true)
def iS (op k : Int) (a b c : Nat) : Nat × Bool :=
 if op = 1 then (u64 k, true)
 else if op = 2 then (a, true)
 else if op = 3 then ((a + b) % 18446744073709551616, true)
 else if op = 4 then ((a + 18446744073709551616 - b) % 18446744073709551616, true)
 else if op = 5 then (a * b % 18446744073709551616, true)
 else if op = 6 then (a * b / 18446744073709551616, true)
 else if op = 7 then (a &&& b, true)
 else if op = 8 then (a ||| b, true)
 else if op = 9 then (a ^^^ b, true)
 else if op = 10 ∨ op = 11 ∨ op = 12 then pU op k a
 else if op = 13 then (if a < b then 1 else 0, true)
 else if op = 14 then (if a ≠ 0 then b else c, true)
 else (0, false)
structure MS where
 regs : List Nat
 at_ : Nat
 code : Int
 mem : List Nat
 leaks : List (Int × Int)
 steps : Nat
def MS.leak (s : MS) (kind at_ : Int) : MS := { s with leaks := s.leaks ++ [(kind, at_)] }
def MS.rg (s : MS) (i : Int) : Nat := s.regs.getD i.toNat 0
def MS.set (s : MS) (i : Int) (n : Nat) : MS := { s with regs := s.regs.set i.toNat n }
def MS.touch (s : MS) (i : WI) : MS × Bool :=
 let ad := (s.rg i.a + u64 i.k) % 18446744073709551616
 let s1 := s.leak 3 (lV ad)
 if s.mem.length ≤ ad then ({ s1 with code := 3 }, false)
 else if i.op = 15 then (s1.set i.d (s.mem.getD ad 0), true)
 else ({ s1 with mem := s.mem.set ad (s.rg i.b) }, true)
def MS.branch (s : MS) (i : WI) : MS :=
 if i.op = 17 then { s with at_ := i.k.toNat }
 else if (decide (s.rg i.a = 0) == decide (i.op = 18)) = true then { s.leak 2 1 with at_ := i.k.toNat }
 else s.leak 2 0
def MS.step (s : MS) (i : WI) : MS × Bool :=
 let s := { s with at_ := s.at_ + 1 }
 if i.op = 15 ∨ i.op = 16 then s.touch i
 else if i.op = 17 ∨ i.op = 18 ∨ i.op = 19 then (s.branch i, true)
 else if i.op = 20 then ({ s with code := i.k }, false)
 else if (iS i.op i.k (s.rg i.a) (s.rg i.b) (s.rg i.c)).2 = true then (s.set i.d (iS i.op i.k (s.rg i.a) (s.rg i.b) (s.rg i.c)).1, true)
 else (s, true)
structure MS.Ok (s : MS) (R : Nat) : Prop where
 len : s.regs.length = R
 regs : ∀ x ∈ s.regs, x < 18446744073709551616
 mem : ∀ x ∈ s.mem, x < 18446744073709551616
 leaks : s.leaks.length ≤ 3 * s.steps
 big : s.mem.length ≤ 1000000
 few : s.steps ≤ 100000
theorem MS.Ok.rg {s : MS} {R : Nat} (h : s.Ok R) (i : Int) : s.rg i < 18446744073709551616 := by
 unfold MS.rg
 rw [List.getD_eq_getElem?_getD]
 cases hq : s.regs[i.toNat]? with
 | none => decide
 | some x => exact h.regs x (List.mem_of_getElem? hq)
theorem MS.Ok.mg {s : MS} {R : Nat} (h : s.Ok R) (i : Nat) : s.mem.getD i 0 < 18446744073709551616 := by
 rw [List.getD_eq_getElem?_getD]
 cases hq : s.mem[i]? with
 | none => decide
 | some x => exact h.mem x (List.mem_of_getElem? hq)
structure WI.Ok (i : WI) (R n : Nat) : Prop where
 op : 1 ≤ i.op ∧ i.op ≤ 20
 a : i.op ≠ 17 → i.op ≠ 20 → 0 ≤ i.a ∧ i.a < R
 d : i.op ≤ 16 → 0 ≤ i.d ∧ i.d < R
 b : i.op ≤ 16 → 0 ≤ i.b ∧ i.b < R
 c : i.op ≤ 16 → 0 ≤ i.c ∧ i.c < R
 k : 17 ≤ i.op → i.op ≤ 19 → 0 ≤ i.k ∧ i.k ≤ n
section
variable (G : aI) (i : WI)
end
theorem aKk (op k : Int) (a b c : Nat) (ha : a < 18446744073709551616) (hb : b < 18446744073709551616) (hc : c < 18446744073709551616) : (iS op k a b c).1 < 18446744073709551616 := by
 have hm : ∀ n : Nat, n % 18446744073709551616 < 18446744073709551616 := fun n => Nat.mod_lt _ (by decide)
 have hs : (pU op k a).1 < 18446744073709551616 := by
  unfold pU
  split
  ·decide
  ·split
   ·exact hm _
   ·split
    ·exact Nat.lt_of_le_of_lt (Nat.div_le_self _ _) ha
    ·exact iJ _
 unfold iS
 by_cases e0 : op = 1
 ·rw [if_pos e0]; exact iJ _
 rw [if_neg e0]
 by_cases e1 : op = 2
 ·rw [if_pos e1]; exact ha
 rw [if_neg e1]
 by_cases e2 : op = 3
 ·rw [if_pos e2]; exact hm _
 rw [if_neg e2]
 by_cases e3 : op = 4
 ·rw [if_pos e3]; exact hm _
 rw [if_neg e3]
 by_cases e4 : op = 5
 ·rw [if_pos e4]; exact hm _
 rw [if_neg e4]
 by_cases e5 : op = 6
 ·rw [if_pos e5]; exact Nat.div_lt_of_lt_mul (Nat.mul_lt_mul'' ha hb)
 rw [if_neg e5]
 by_cases e6 : op = 7
 ·rw [if_pos e6]; exact Nat.lt_of_le_of_lt Nat.and_le_left ha
 rw [if_neg e6]
 by_cases e7 : op = 8
 ·rw [if_pos e7]; exact Nat.or_lt_two_pow (n := 64) ha hb
 rw [if_neg e7]
 by_cases e8 : op = 9
 ·rw [if_pos e8]; exact Nat.xor_lt_two_pow (n := 64) ha hb
 rw [if_neg e8]
 by_cases e9 : op = 10 ∨ op = 11 ∨ op = 12
 ·rw [if_pos e9]; exact hs
 rw [if_neg e9]
 by_cases e10 : op = 13
 ·rw [if_pos e10]; show (if a < b then 1 else 0) < 18446744073709551616; by_cases q : a < b
  ·rw [if_pos q]; decide
  ·rw [if_neg q]; decide
 rw [if_neg e10]
 by_cases e11 : op = 14
 ·rw [if_pos e11]; show (if a ≠ 0 then b else c) < 18446744073709551616; by_cases q : a ≠ 0
  ·rw [if_pos q]; exact hb
  ·rw [if_neg q]; exact hc
 rw [if_neg e11]
 decide
theorem MS.step_ok {s : MS} {R n : Nat} {i : WI} (h : s.Ok R) (hi : i.Ok R n) (hl : s.leaks.length + 1 ≤ 3 * s.steps) (hn : s.at_ < n) : (s.step i).1.Ok R ∧ (s.step i).1.at_ ≤ n ∧ (s.step i).1.steps = s.steps ∧ (s.step i).1.mem.length = s.mem.length := by
 have ok1 : ({ s with at_ := s.at_ + 1 } : MS).Ok R := ⟨h.len, h.regs, h.mem, h.leaks, h.big, h.few⟩
 unfold MS.step
 simp only
 split
 ·unfold MS.touch
  simp only [MS.leak, MS.set]
  split
  ·exact ⟨⟨h.len, h.regs, h.mem, by simpa using hl, h.big, h.few⟩, hn, rfl, rfl⟩
  ·split
   ·exact ⟨⟨by simpa using h.len, xR h.regs (h.mg _), h.mem, by simpa using hl, h.big, h.few⟩, hn, rfl, rfl⟩
   ·exact ⟨⟨h.len, h.regs, xR h.mem (ok1.rg _), by simpa using hl, by simpa using h.big, h.few⟩, hn, rfl, by simp⟩
 ·split
  ·rename_i h2
   have hk := hi.k (by omega) (by omega)
   unfold MS.branch
   split
   ·exact ⟨⟨h.len, h.regs, h.mem, h.leaks, h.big, h.few⟩, by simp only; omega, rfl, rfl⟩
   ·split
    ·exact ⟨⟨h.len, h.regs, h.mem, by simpa [MS.leak] using hl, h.big, h.few⟩, by simp only; omega, rfl, rfl⟩
    ·exact ⟨⟨h.len, h.regs, h.mem, by simpa [MS.leak] using hl, h.big, h.few⟩, hn, rfl, rfl⟩
  ·split
   ·exact ⟨⟨h.len, h.regs, h.mem, h.leaks, h.big, h.few⟩, hn, rfl, rfl⟩
   ·split
    ·exact ⟨⟨by simpa [MS.set] using h.len, xR h.regs (aKk _ _ _ _ _ (ok1.rg _) (ok1.rg _) (ok1.rg _)), h.mem, h.leaks, h.big, h.few⟩, hn, rfl, rfl⟩
    ·exact ⟨ok1, hn, rfl, rfl⟩
def MS.tick (s : MS) : MS := ({ s with steps := s.steps + 1 } : MS).leak 1 s.at_
def oA (cs : List WI) (fuel : Int) : Nat → MS → Option MS
 | 0, _ => none
 | f + 1, s =>
  if cs.length ≤ s.at_ then some { s with code := 3 }
  else if (s.steps : Int) = fuel then some { s with code := 4 }
  else match s.tick.step (cs.getD s.at_ default) with
   | (s', true) => oA cs fuel f s'
   | (s', false) => some s'
section
variable (G : aI) (bor : Bool) (cs : List WI)
theorem aKH (j : Nat) (h : j < cs.length) : cB 6 (.ro bor (gQ cs)) (Nn j) = some (.rp bor (cs.getD j default).v 0) := by
 have h0 : (0 : Int) ≤ (j : Int) := by omega
 have e : (gQ cs)[(j : Int).toNat]? = some (cs.getD j default).v := by
  rw [Int.toNat_natCast]
  simp [gQ, List.getElem?_map, List.getD, List.getElem?_eq_getElem h]
 unfold cB
 simp only [e]
 rw [if_pos h0]
 rfl
end
def s0 (R : Nat) (mem : List Nat) : MS := ⟨List.replicate R 0, 0, 0, mem, [], 0⟩
theorem aIB (R : Nat) (mem : List Nat) (hm : ∀ x ∈ mem, x < 18446744073709551616) (hl : mem.length ≤ 1000000) : (s0 R mem).Ok R :=
 ⟨by simp [s0], fun x hx => by simp [s0] at hx; omega, hm, by simp [s0], hl, by simp [s0]⟩
theorem aHD (l : List WI) : dQ (gQ l) = true := nQ _ (fun _ => rfl) l
theorem aLo (l : List WI) : iW (gQ l) = true := nL _ (fun _ => rfl) l
section
variable {cs : List WI} {fuel : Int} {f : Nat} {s s2 : MS} {i : WI}
theorem aCd (h1 : s.at_ < cs.length) (h2 : (s.steps : Int) ≠ fuel) (hi : cs.getD s.at_ default = i) (h : s.tick.step i = (s2, true)) : oA cs fuel (f + 1) s = oA cs fuel f s2 := by
 simp only [oA]
 rw [if_neg (by omega), if_neg h2, hi, h]
theorem aIi (h1 : s.at_ < cs.length) (h2 : (s.steps : Int) ≠ fuel) (hi : cs.getD s.at_ default = i) (h : s.tick.step i = (s2, false)) : oA cs fuel (f + 1) s = some s2 := by
 simp only [oA]
 rw [if_neg (by omega), if_neg h2, hi, h]
end
end Go.Proofs.YtdfglgnflldkpaaDoor.Mir
