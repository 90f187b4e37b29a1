/- Part 11 of the proof: what these functions do. -/
import Derived.Test.YtdfglgnflldkpaaDoorVe10
import Derived.KernelRfl
namespace Go.Proofs.YtdfglgnflldkpaaDoor.Mir
open Go
set_option linter.unusedSimpArgs false
set_option linter.unusedVariables false
set_option maxHeartbeats 8000000
set_option maxRecDepth 20000
theorem aLc {s s' : QS} {w : Int} (h : s.step w = (s', true)) : s'.code = s.code := by
 unfold QS.step at h
 cases ho : ofF w with
 | none => rw [ho] at h; simp at h
 | some i =>
  rw [ho] at h
  simp only at h
  unfold QS.act at h
  by_cases h1 : i.op = 18 ∨ i.op = 19
  ·rw [if_pos h1] at h
   unfold QS.touch at h
   generalize s.next.addr i = ad at h
   by_cases h2 : ad % 8 ≠ 0 ∨ s.next.mem.length ≤ ad / 8
   ·simp only [if_pos h2] at h; simp at h
   ·simp only [if_neg h2] at h
    by_cases h3 : i.op = 18
    ·simp only [if_pos h3] at h; simp only [Prod.mk.injEq] at h; rw [← h.1]; rfl
    ·simp only [if_neg h3] at h; simp only [Prod.mk.injEq] at h; rw [← h.1]; rfl
  rw [if_neg h1] at h
  by_cases h2 : i.op = 20 ∨ i.op = 21 ∨ i.op = 22 ∨ i.op = 23
  ·rw [if_pos h2] at h
   simp only [Prod.mk.injEq] at h
   rw [← h.1]
   unfold QS.branch
   by_cases h3 : i.op = 20
   ·rw [if_pos h3]; rfl
   ·rw [if_neg h3]
    cases s.next.goes i <;> rfl
  rw [if_neg h2] at h
  by_cases h3 : i.op = 24
  ·rw [if_pos h3] at h; simp at h
  ·rw [if_neg h3] at h
   simp only [Prod.mk.injEq] at h
   rw [← h.1]; rfl
section
variable (G : aG) (k : Nat) (self : cN) (z : List AV) (hz : z.length = 35) (hzb : dH 7 z = true) (bor : Bool) (cs : List Int) (fuel : Int)
include hz hzb in
theorem aBZ (hf : fuel ≤ 99999) (hcl : cs.length ≤ 100000) (hcs : ∀ w ∈ cs, 0 ≤ w ∧ w < 4294967296) : ∀ (f : Nat) (T0 : aF) (s s' : QS), pR cs fuel f s = some s' → s.Ok → s.code = 3 → (s.steps : Int) ≤ fuel →
  s'.regs.length = 31 ∧ ∃ T xs, gV (aW.l4 G (k + 41) 7 self) f (xsR fuel bor cs s.at_) (kH (bR 46 z) T0 s) = some (.ret, xs, kH (bR 46 s'.cellsR) T s') ∧ aH xs 2 = .ptr 0 1 0 0
 | 0, T0, s, s', h, _, _, _ => by simp [pR] at h
 | f + 1, T0, s, s', h, hs, hc, hst => by
  have few := hs.few
  have lks := hs.leaks
  have hr := hs.rg.len
  have hb : dH 7 (bR 46 z).elems = true := by simp [bR, dH, cG, hzb]
  have hcut := aLS (bR 46 z) T0 s hb _ (aBS fuel bor cs s.at_)
  rw [fJ]
  simp only [pR] at h
  by_cases h1 : s.at_ < 0 ∨ (cs.length : Int) ≤ s.at_
  ·rw [if_pos h1] at h
   simp only [Option.some.injEq] at h
   have e3 : ({ s with code := 3 } : QS) = s := by rw [← hc]
   rw [e3] at h
   subst h
   have c2 : dQ (.ro bor (iC cs)) = some (Nn cs.length) := by simp [dQ, qA]
   have l1 := aFC G (bR 46 z) [] s hr
   have l2 := aFs [] s 46 z _ hz (kN s hr)
   refine ⟨hr, [], [.ro bor (iC cs), I6 fuel, .ptr 0 1 0 0, RX, .ptr 4 1 0 0, I6 s.at_], ?_, rfl⟩
   rw [aW.l4]
   refine jT ?_
   refine eC hcut ?_
   unfold xsR
   generalize s.cellsR = tcs at *
   have fx := aPQ c2 <| aPQ l1 <| l2
   refine gM ?_
   all_goals first | omega | (refine iA ?_; rfl)
  rw [if_neg h1] at h
  by_cases h2 : (s.steps : Int) = fuel
  ·rw [if_pos h2] at h
   simp only [Option.some.injEq] at h
   subst h
   have c2 : dQ (.ro bor (iC cs)) = some (Nn cs.length) := by simp [dQ, qA]
   have n0 : aQ Tryd.prog .lss 3 true (I6 s.at_) (.int .i64 0) = some (.bool false) := zG (by omega)
   have n1 : aQ Tryd.prog .geq 3 false (I6 s.at_) (Nn cs.length) = some (.bool false) := vP (by omega)
   have n2 : aQ Tryd.prog .geq 2 false (Nn s.steps) (I6 fuel) = some (.bool true) := aCX (by omega)
   have f0 : aA 0 RX = some RX := rfl
   have f34 : aA 34 RX = some (.ptr 3 1 0 34) := rfl
   have c3 := aLJ G (bR 46 z) [] s hr
   have c4 := aOa (bR 46 z) [] s 4 hr
   have l1 := aFC G (bR 46 z) [] { s with code := 4 } hr
   have l2 := aFs [] { s with code := 4 } 46 z _ hz (kN { s with code := 4 } hr)
   refine ⟨hr, [], [.ro bor (iC cs), I6 fuel, .ptr 0 1 0 0, RX, .ptr 4 1 0 0, I6 s.at_], ?_, rfl⟩
   rw [aW.l4]
   refine jT ?_
   refine eC hcut ?_
   unfold xsR
   generalize (QS.cellsR { s with code := 4 }) = tcs at *
   have fx := aPQ f0 <| aPQ f34 <| aPQ c2 <| aPQ n0 <| aPQ n1 <| aPQ n2 <| aPQ c3 <| aPQ c4 <| aPQ l1 <| l2
   refine kM ?_
   refine iA ?_; rfl
  rw [if_neg h2] at h
  have hw := hcs (cs.getD s.at_.toNat 0) (by
   have : s.at_.toNat < cs.length := by omega
   rw [List.getD_eq_getElem?_getD, List.getElem?_eq_getElem this]
   exact List.getElem_mem this)
  have rd := aFv G k self z hz hzb bor cs fuel (gV (aW.l4 G (k + 41) 7 self) f) T0 s hs hc (by omega) (by omega) (by omega) hf hcl hw
  have okt : s.tick.Ok := ⟨hs.rg, hs.mem, by simp [QS.tick, QS.leak]; omega, hs.big, by simp [QS.tick, QS.leak]; omega⟩
  obtain ⟨o1, o2, o3⟩ := QS.step_ok okt (cs.getD s.at_.toNat 0) (by simp [QS.tick, QS.leak]; omega)
  have hst2 : s.tick.steps = s.steps + 1 := rfl
  generalize cs.getD s.at_.toNat 0 = w at *
  obtain ⟨s2, b, hsb⟩ : ∃ s2 b, s.tick.step w = (s2, b) := ⟨_, _, rfl⟩
  rw [hsb] at h rd o1 o2
  simp only at h o1 o2
  unfold aFG at rd
  cases b
  ·simp only [Bool.false_eq_true, if_false] at rd
   simp only [Option.some.injEq] at h
   subst h
   exact ⟨o1.rg.len, rd⟩
  ·simp only [if_true] at rd
   simp only at h
   obtain ⟨T, hT⟩ := rd
   have hc2 : s2.code = 3 := by rw [aLc hsb]; exact hc
   rw [hT]
   exact aBZ hf hcl hcs f T s2 s' h o1 hc2 (by rw [o2, hst2]; omega)
theorem aPa (b0 : ABlk) (T : aF) (s : QS) : xD (kH b0 T s) 0 6 (.agg s.cellsR) = some (aHa s) := by
 have f1 := wZ (H := kH b0 T s) (b := 2) (n0 := 0) (d := 4) (ty := 43) rfl (by omega) (bN s.mem) (aGC _) (gY 0 _)
 have f2 := wZ (H := kH b0 T s) (b := 6) (n0 := 0) (d := 4) (ty := 107) rfl (by omega) (kO s.leaks) (aGR _) (oH 0 _)
 have f3 : nP (xD (kH b0 T s) 0 5) (bT s.regs) = some (bT s.regs) := vI fun x hx => mI (qP (gY 0 s.regs) x hx) 5
 exact aGm (by simp [QS.cellsR, dH, cG]) (jZ (mI rfl 5) (jZ f1 (aEC f3 (jZ f2 (jZ (mI rfl 5) vU)))))
theorem aCL (bm : Bool) (mem : List Nat) (hm : ∀ x ∈ mem, x < 18446744073709551616) (hml : mem.length ≤ 60000) (h0 : 0 ≤ fuel) (hf : fuel ≤ 99999) (hk : mem.length < k + 40) (hcl : cs.length ≤ 100000) (hcs : ∀ w ∈ cs, 0 ≤ w ∧ w < 4294967296)
  (s' : QS) (hrun : pR cs fuel (k + 41) (q0 3 mem) = some s') :
  aW.f G (k + 42) [.ro bor (iC cs), .ro bm (bT mem), I6 fuel] [] = some (aHa s', []) := by
 rw [aW.step]
 unfold aW.c
 have hzl : zR.length = 35 := rfl
 have hzb : dH 7 zR = true := rfl
 obtain ⟨hr', T, xs, lp, hx⟩ := aBZ G k (aW.f G (k + 41)) zR hzl hzb bor cs fuel hf hcl hcs (k + 41) [] (q0 3 mem) s' hrun (aLO 3 mem hm (by omega)) rfl (by simp only [q0]; omega)
 have w1_ : bM (aX.f G (k + 41)) [.ro bm (bT mem)] [bZ] = some (.sl 2 mem.length 0 mem.length 1, yU mem) := rW (aFK G (k + 40) bm mem (by omega) hk) (by simp [yU])
 have zz : (AV.agg [.int .i64 0, .nils, .int .u64 0, .int .u64 0, .int .u64 0, .int .u64 0, .int .u64 0, .int .u64 0, .int .u64 0, .int .u64 0, .int .u64 0, .int .u64 0, .int .u64 0, .int .u64 0, .int .u64 0, .int .u64 0, .int .u64 0, .int .u64 0, .int .u64 0, .int .u64 0, .int .u64 0, .int .u64 0, .int .u64 0, .int .u64 0, .int .u64 0, .int .u64 0, .int .u64 0, .int .u64 0, .int .u64 0, .int .u64 0, .int .u64 0, .int .u64 0, .int .u64 0, .nils, .int .i64 0]) = .agg (I6 0 :: .nils :: (bT (List.replicate 31 0) ++ [.nils, .int .i64 0])) := rfl
 have zb : aY [(0, 1), (1, 1), (2, 31), (33, 1), (34, 1)] [.int .i64 0, .nils, .int .u64 0, .int .u64 0, .int .u64 0, .int .u64 0, .int .u64 0, .int .u64 0, .int .u64 0, .int .u64 0, .int .u64 0, .int .u64 0, .int .u64 0, .int .u64 0, .int .u64 0, .int .u64 0, .int .u64 0, .int .u64 0, .int .u64 0, .int .u64 0, .int .u64 0, .int .u64 0, .int .u64 0, .int .u64 0, .int .u64 0, .int .u64 0, .int .u64 0, .int .u64 0, .int .u64 0, .int .u64 0, .int .u64 0, .int .u64 0, .int .u64 0, .nils, .int .i64 0] [(1, .sl 2 mem.length 0 mem.length 1), (0, .int .i64 3)] =
   some (.agg (I6 3 :: .sl 2 mem.length 0 mem.length 1 :: (bT (List.replicate 31 0) ++ [.nils, .int .i64 0]))) := rfl
 have b1 : fI 46 (.agg (I6 0 :: .nils :: (bT (List.replicate 31 0) ++ [.nils, .int .i64 0]))) [] = some (.ptr 0 1 0 0, [bZ]) := rfl
 have b2 : fI 46 (.agg (I6 0 :: .nils :: (bT (List.replicate 31 0) ++ [.nils, .int .i64 0]))) (yU mem) = some (.ptr 3 1 0 0, yU mem ++ [bZ]) := rfl
 have s2 : fB (aL 35 (.ptr 3 1 0 0) (.agg (I6 3 :: .sl 2 mem.length 0 mem.length 1 :: (bT (List.replicate 31 0) ++ [.nils, .int .i64 0]))) (yU mem ++ [bZ])) = some (.tup [], yU mem ++ [⟨46, 35, [.agg (I6 3 :: .sl 2 mem.length 0 mem.length 1 :: (bT (List.replicate 31 0) ++ [.nils, .int .i64 0]))]⟩]) := rfl
 have b3 : fI 53 (.agg [.bool false, .bool false, .bool false, .bool false]) (yU mem ++ [⟨46, 35, [.agg (I6 3 :: .sl 2 mem.length 0 mem.length 1 :: (bT (List.replicate 31 0) ++ [.nils, .int .i64 0]))]⟩]) = some (.ptr 4 1 0 0, yU mem ++ [⟨46, 35, [.agg (I6 3 :: .sl 2 mem.length 0 mem.length 1 :: (bT (List.replicate 31 0) ++ [.nils, .int .i64 0]))]⟩, ⟨53, 4, [jO.a]⟩]) := rfl
 have v1 : ∀ m : Nat, oP (.ptr 0 1 0 0, 33, 107, 2) (yU mem ++ [⟨46, 35, [.agg (I6 3 :: .sl 2 m 0 m 1 :: (bT (List.replicate 31 0) ++ [.nils, .int .i64 0]))]⟩, ⟨53, 4, [jO.a]⟩]) =
   [bR 46 zR, ⟨43, 1, []⟩, ⟨43, 1, bT mem⟩, ⟨46, 35, [.agg (I6 3 :: .sl 2 m 0 m 1 :: (bT (List.replicate 31 0) ++ [.nils, .int .i64 0]))]⟩, ⟨53, 4, [jO.a]⟩, ⟨107, 2, []⟩] := fun m => rfl
 have v2 : oP (.ptr 3 1 0 0, 33, 107, 2) [bR 46 zR, ⟨43, 1, []⟩, ⟨43, 1, bT mem⟩, ⟨46, 35, [.agg (I6 3 :: .sl 2 mem.length 0 mem.length 1 :: (bT (List.replicate 31 0) ++ [.nils, .int .i64 0]))]⟩, ⟨53, 4, [jO.a]⟩, ⟨107, 2, []⟩] =
   kH (bR 46 zR) [] (q0 3 mem) := by
  simp only [kH, q0, QS.cellsR, QS.tailR]
  rfl
 have v1' := v1 mem.length
 have hl7 : (kH (bR 46 zR) [] (q0 3 mem)).length = 7 := rfl
 have ldE : aC G true 35 (.ptr 0 1 0 0) (kH (bR 46 s'.cellsR) T s') = some (.agg s'.cellsR) := by
  have hrl := kN s' hr'
  generalize s'.cellsR = rl at *
  show (if 0 + 35 ≤ rl.length then some (AV.agg ((rl.drop 0).take 35)) else none) = _
  rw [if_pos (by omega), List.drop_zero, List.take_of_length_le (by omega)]
 have fin : fK [aC G true 35 (.ptr 0 1 0 0) (kH (bR 46 s'.cellsR) T s')] 0 (kH (bR 46 s'.cellsR) T s') = some (.ret, [aHa s'], []) := by
  have f3 := aPa (bR 46 s'.cellsR) T s'
  unfold fK
  rw [ldE]
  simp only [vJ]
  unfold bH rC
  simp only [f3, sR]
 rw [zz]
 unfold xsR at lp
 clear zz v1 hcs hm
 refine eZ ?_
 generalize s'.cellsR = rl at *
 generalize kH (bR 46 zR) [] (q0 3 mem) = hq at *
 generalize bT (List.replicate 31 0) = NZ at *
 generalize yU mem = HW at *
 have fx := aPQ b1 <| aPQ w1_ <| aPQ zb <| aPQ b2 <| aPQ s2 <| b3
 refine kM ?_
 refine eV1 v1' ?_
 refine eV1 v2 ?_
 refine eV0 ?_
 rw [hl7]
 refine eK ?_
 refine eL lp ?_
 have fx := True.intro
 refine kM ?_
 rw [hx]
 exact oF fin
end
theorem aGH (cs : List Int) (fuel : Int) (hf : fuel ≤ 99999) : ∀ (f : Nat) (s s' : QS), pR cs fuel f s = some s' → s.Ok → (s.steps : Int) ≤ fuel → s'.Ok ∧ s'.mem.length = s.mem.length
 | 0, s, s', h, _, _ => by simp [pR] at h
 | f + 1, s, s', h, hs, hst => by
  have few := hs.few
  have lks := hs.leaks
  simp only [pR] at h
  by_cases h1 : s.at_ < 0 ∨ (cs.length : Int) ≤ s.at_
  ·rw [if_pos h1] at h
   simp only [Option.some.injEq] at h
   subst h
   exact ⟨⟨hs.rg, hs.mem, hs.leaks, hs.big, hs.few⟩, rfl⟩
  rw [if_neg h1] at h
  by_cases h2 : (s.steps : Int) = fuel
  ·rw [if_pos h2] at h
   simp only [Option.some.injEq] at h
   subst h
   exact ⟨⟨hs.rg, hs.mem, hs.leaks, hs.big, hs.few⟩, rfl⟩
  rw [if_neg h2] at h
  have okt : s.tick.Ok := ⟨hs.rg, hs.mem, by simp [QS.tick, QS.leak]; omega, hs.big, by simp [QS.tick, QS.leak]; omega⟩
  obtain ⟨o1, o2, o3⟩ := QS.step_ok okt (cs.getD s.at_.toNat 0) (by simp [QS.tick, QS.leak]; omega)
  have hst2 : s.tick.steps = s.steps + 1 := rfl
  have tm : s.tick.mem = s.mem := rfl
  obtain ⟨s2, b, hsb⟩ : ∃ s2 b, s.tick.step (cs.getD s.at_.toNat 0) = (s2, b) := ⟨_, _, rfl⟩
  rw [hsb] at h o1 o2 o3
  simp only at h o1 o2 o3
  cases b
  ·simp only [Option.some.injEq] at h
   subst h
   exact ⟨o1, by rw [o3, tm]⟩
  ·simp only at h
   obtain ⟨p1, p2⟩ := aGH cs fuel hf f s2 s' h o1 (by rw [o2, hst2]; omega)
   exact ⟨p1, by rw [p2, o3, tm]⟩
theorem wV (n : Nat) : BitVec.ofInt 64 (n : Int) = BitVec.ofNat 64 n := by
 apply BitVec.eq_of_toNat_eq
 rw [BitVec.toNat_ofInt, BitVec.toNat_ofNat]; omega
theorem aMf (x : BitVec 64) : IntKind.u64.wrap (x.toNat : Int) = (x.toNat : Int) := by
 have := x.isLt
 rw [nS]; omega
theorem ofB (x : BitVec 64) : BitVec.ofInt 64 (x.toNat : Int) = x := by rw [wV]; simp
theorem aKf (d k s : Nat) : pC d k s = ((BitVec.ofNat 64 d &&& ~~~ BitVec.ofNat 64 (65535 * 2 ^ s % 18446744073709551616)) ||| BitVec.ofNat 64 (k * 2 ^ s % 18446744073709551616)).toNat := by
 have h1 : bits .andNot .u64 (d : Int) ((65535 * 2 ^ s % 18446744073709551616 : Nat) : Int) = (((BitVec.ofNat 64 d &&& ~~~ BitVec.ofNat 64 (65535 * 2 ^ s % 18446744073709551616)).toNat : Nat) : Int) := by
  show IntKind.u64.wrap ((BitVec.ofInt 64 (d : Int) &&& ~~~ BitVec.ofInt 64 ((65535 * 2 ^ s % 18446744073709551616 : Nat) : Int)).toNat : Int) = _
  rw [aMf, wV, wV]
 unfold pC
 rw [h1]
 have h2 : ∀ x y : BitVec 64, bits .or .u64 (x.toNat : Int) (y.toNat : Int) = (((x ||| y).toNat : Nat) : Int) := fun x y => by
  show IntKind.u64.wrap ((BitVec.ofInt 64 (x.toNat : Int) ||| BitVec.ofInt 64 (y.toNat : Int)).toNat : Int) = _
  rw [ofB, ofB, aMf]
 have h3 : ((k * 2 ^ s % 18446744073709551616 : Nat) : Int) = ((BitVec.ofNat 64 (k * 2 ^ s % 18446744073709551616)).toNat : Int) := by
  rw [BitVec.toNat_ofNat]; omega
 rw [h3, h2]
 have := ((BitVec.ofNat 64 d &&& ~~~ BitVec.ofNat 64 (65535 * 2 ^ s % 18446744073709551616)) ||| BitVec.ofNat 64 (k * 2 ^ s % 18446744073709551616)).isLt
 generalize ((BitVec.ofNat 64 d &&& ~~~ BitVec.ofNat 64 (65535 * 2 ^ s % 18446744073709551616)) ||| BitVec.ofNat 64 (k * 2 ^ s % 18446744073709551616)).toNat = q at *
 unfold u64
 omega
theorem aIB (k s i : Nat) (hi : i < 64) : (k * 2 ^ s % 18446744073709551616).testBit i = (decide (s ≤ i) && k.testBit (i - s)) := by
 rw [show (18446744073709551616 : Nat) = 2 ^ 64 from rfl, Nat.testBit_mod_two_pow, Nat.testBit_mul_two_pow]
 simp [hi]
theorem aOP (n : Nat) : (65535 : Nat).testBit n = decide (n < 16) := by
 rw [show (65535 : Nat) = 2 ^ 16 - 1 from rfl, Nat.testBit_two_pow_sub_one]
theorem uX (d k s : Nat) (i : Nat) (hi : i < 64) (hk : k < 65536) : (pC d k s).testBit i = if s ≤ i ∧ i < s + 16 then k.testBit (i - s) else d.testBit i := by
 rw [aKf]
 have e : ∀ x : BitVec 64, x.toNat.testBit i = x.getLsbD i := fun x => rfl
 rw [e]
 simp only [BitVec.getLsbD_or, BitVec.getLsbD_and, BitVec.getLsbD_not, BitVec.getLsbD_ofNat, hi, decide_true, Bool.true_and]
 rw [aIB _ _ _ hi, aIB _ _ _ hi, aOP]
 have hkb : ∀ j, 16 ≤ j → k.testBit j = false := fun j hj => Nat.testBit_lt_two_pow (Nat.lt_of_lt_of_le (show k < 2 ^ 16 from hk) (Nat.pow_le_pow_right (by omega) hj))
 by_cases h1 : s ≤ i
 ·by_cases h2 : i < s + 16
  ·rw [if_pos ⟨h1, h2⟩]
   simp [h1, show i - s < 16 by omega]
  ·rw [if_neg (by omega), hkb (i - s) (by omega)]
   simp [h1, show ¬ (i - s < 16) by omega]
 ·rw [if_neg (by omega)]
  simp [h1]
def kD (w s : Nat) : Nat := w / 2 ^ s % 65536
theorem sS (w s : Nat) : kD w s < 65536 := Nat.mod_lt _ (by decide)
theorem aDM (w s i : Nat) : (kD w s).testBit i = (decide (i < 16) && w.testBit (s + i)) := by
 unfold kD
 rw [show (65536 : Nat) = 2 ^ 16 from rfl, Nat.testBit_mod_two_pow, Nat.testBit_div_two_pow]
 rw [Nat.add_comm]
theorem aPM (w : Nat) (hw : w < 18446744073709551616) (a b c e : Nat) (hp : (a = 0 ∧ b = 16 ∧ c = 32 ∧ e = 48) ∨ (a = 16 ∧ b = 32 ∧ c = 48 ∧ e = 0) ∨ (a = 32 ∧ b = 48 ∧ c = 0 ∧ e = 16) ∨ (a = 48 ∧ b = 0 ∧ c = 16 ∧ e = 32)) :
  pC (pC (pC (kD w a * 2 ^ a % 18446744073709551616) (kD w b) b) (kD w c) c) (kD w e) e = w := by
 apply Nat.eq_of_testBit_eq
 intro i
 by_cases hi : i < 64
 ·have fin : ∀ s, s ≤ i ∧ i < s + 16 → (kD w s).testBit (i - s) = w.testBit i := fun s h => by
   rw [aDM, show s + (i - s) = i by omega]
   simp; omega
  rw [uX _ _ _ _ hi (sS _ _), uX _ _ _ _ hi (sS _ _), uX _ _ _ _ hi (sS _ _), aIB _ _ _ hi]
  split
  ·rename_i h; exact fin _ h
  split
  ·rename_i h; exact fin _ h
  split
  ·rename_i h; exact fin _ h
  have ha : a ≤ i ∧ i < a + 16 := by omega
  rw [decide_eq_true ha.1, Bool.true_and]
  exact fin _ ha
 ·have hlt : ∀ x, x < 18446744073709551616 → x.testBit i = false := fun x hx => Nat.testBit_lt_two_pow (Nat.lt_of_lt_of_le (show x < 2 ^ 64 from hx) (Nat.pow_le_pow_right (by omega) (by omega)))
  rw [hlt w hw]
  exact hlt _ (by unfold pC; exact jD _)
theorem aLz (l : List MI) : pV 6 (dE l) = true := sK 6 _ (fun _ => rfl) l
theorem aFF (l : List MI) (i : MI) : dE l ++ [i.v] = dE (l ++ [i]) := by simp [dE]
def uR (d : Int) (u : Nat) (out : List MI) (a : Nat) : List MI :=
 if kD u (16 * a) = 0 then out else out ++ [⟨if out.length = 0 then 1 else 2, d, 0, 0, (a : Int), (kD u (16 * a) : Int)⟩]
def jM (d : Int) (u : Nat) : Nat → List MI
 | 0 => []
 | a + 1 => uR d u (jM d u a) a
def iY (d : Int) (u : Nat) : List MI := if (jM d u 4).length = 0 then [⟨1, d, 0, 0, 0, 0⟩] else jM d u 4
theorem qU (d : Int) (u : Nat) : ∀ a, (jM d u a).length ≤ a
 | 0 => Nat.le_refl _
 | a + 1 => by
  have := qU d u a
  unfold jM uR
  split
  ·omega
  ·simp; omega
theorem kQ (d : Int) (u : Nat) : 1 ≤ (iY d u).length ∧ (iY d u).length ≤ 4 := by
 unfold iY
 split
 ·simp
 ·exact ⟨by omega, qU d u 4⟩
section
variable (G : aG) (k : Nat) (self : cN)
def xU (H : aF) (l : List MI) : aF := H ++ [⟨57, 6, []⟩, ⟨57, 6, dE l⟩]
theorem zN (H : aF) (l : List MI) : (xU H l).length = H.length + 2 := by simp [xU]
theorem aLB (H : aF) (l : List MI) : (xU H l)[H.length + 1]? = some ⟨57, 6, dE l⟩ := by
 unfold xU
 rw [List.getElem?_append_right (by omega)]; simp
theorem aJi (H : aF) (l : List MI) (i : MI) (hl : l.length ≤ 10) : fS 57 6 (.sl (H.length + 1) l.length 0 l.length 6) (.ro false [i.v]) (xU H l) = some (.sl (H.length + 1) (l ++ [i]).length 0 (l ++ [i]).length 6, xU H (l ++ [i])) := by
 unfold fS
 simp only [aLB, jF, jA, List.length_singleton]
 rw [if_pos (by refine ⟨?_, ?_, ?_, ?_, ?_⟩ <;> first | trivial | rfl | omega)]
 have e2 : (dE l).take l.length = dE l := List.take_of_length_le (by rw [jA]; exact Nat.le_refl _)
 have e3 : (dE l).drop (l.length + 1) = [] := List.drop_of_length_le (by rw [jA]; omega)
 rw [e2, e3, List.append_nil, aFF, jA, List.length_append, List.length_singleton]
 congr 2
 unfold xU
 rw [List.set_append_right _ _ (by omega)]
 simp
theorem nG (n : Nat) : ∀ A B : aF, dY n A = true → dY n B = true → dY n (A ++ B) = true
 | [], B, _, h => h
 | a :: A, B, h1, h2 => by
  simp only [dY, Bool.and_eq_true] at h1
  simp [dY, h1.1, nG n A B h1.2 h2]
def xsK (d kk : Int) (H : aF) (l : List MI) (a : Nat) : List AV := [I6 d, I6 kk, .sl (H.length + 1) l.length 0 l.length 6, Nn a]
theorem aAy (d kk : Int) (H : aF) (hH : dY (H.length + 2) H = true) (u : Nat) (hu : u = u64 kk) : ∀ (c a f : Nat), a + c = 4 → c < f →
  gV (cP.l3 G k (H.length + 2) self) f (xsK d kk H (jM d u a) a) (xU H (jM d u a)) = some (.exit 0, xsK d kk H (jM d u 4) 4, xU H (jM d u 4))
 | c, a, 0, h, hf => by omega
 | 0, a, f + 1, h, hf => by
  have ha : a = 4 := by omega
  subst ha
  rw [fJ, cP.l3]
  have hc : iR (H.length + 2) (xsK d kk H (jM d u 4) 4) (xU H (jM d u 4)) = some (xU H (jM d u 4)) := by
   have e : (xU H (jM d u 4)).take (H.length + 2) = xU H (jM d u 4) := List.take_of_length_le (by rw [zN]; exact Nat.le_refl _)
   have hb : dY (H.length + 2) (xU H (jM d u 4)) = true := nG _ _ _ hH (by simp [dY, dH, mR])
   unfold iR
   rw [e, hb]
   simp [xsK, dH, cG]
  refine jT ?_
  refine eC hc ?_
  unfold xsK
  generalize xU H (jM d u 4) = hh at *
  have fx := True.intro
  refine gM ?_
  refine iA ?_; rfl
 | c + 1, a, f + 1, h, hf => by
  rw [fJ, cP.l3]
  have ih := aAy d kk H hH u hu c (a + 1) f (by omega) (by omega)
  have hlen := qU d u a
  obtain ⟨l, hl⟩ : ∃ l, l = jM d u a := ⟨_, rfl⟩
  have hs : jM d u (a + 1) = uR d u l a := by rw [hl]; rfl
  rw [hs] at ih
  rw [← hl] at hlen ⊢
  have hc : iR (H.length + 2) (xsK d kk H l a) (xU H l) = some (xU H l) := by
   have e : (xU H l).take (H.length + 2) = xU H l := List.take_of_length_le (by rw [zN]; exact Nat.le_refl _)
   have hb : dY (H.length + 2) (xU H l) = true := nG _ _ _ hH (by simp [dY, dH, mR])
   unfold iR
   rw [e, hb]
   simp [xsK, dH, cG]
  have hul : u < 18446744073709551616 := by rw [hu]; exact jD _
  have hp := sS u (16 * a)
  have c1 : aJ .u64 (I6 kk) = some (Un u) := by rw [iG, hu]
  have c2 : aQ Tryd.prog .mul 3 true (.int .i64 16) (Nn a) = some (Nn (16 * a)) := by
   rw [zO, fW (by omega) (by omega)]; congr 2
  have c3 := sM Tryd.prog 43 false .i64 u (16 * a) (by omega)
  have dl : u / 2 ^ (16 * a) < 18446744073709551616 := Nat.lt_of_le_of_lt (Nat.div_le_self _ _) hul
  have c4 : aQ Tryd.prog .and 43 true (Un (u / 2 ^ (16 * a))) (.int .u64 65535) = some (Un (kD u (16 * a))) := by
   have := uO (u / 2 ^ (16 * a)) 65535 dl (by decide)
   rw [pJ]
   show some (AV.int .u64 (bits .and .u64 ((u / 2 ^ (16 * a) : Nat) : Int) ((65535 : Nat) : Int))) = _
   rw [this, show (65535 : Nat) = 2 ^ 16 - 1 from rfl, Nat.and_two_pow_sub_one_eq_mod]
   rfl
  have c5 : aJ .i64 (Un (kD u (16 * a))) = some (I6 (kD u (16 * a) : Int)) := aGi (by omega) (by omega)
  have c6 : aQ Tryd.prog .add 3 true (Nn a) (.int .i64 1) = some (Nn (a + 1)) := by
   rw [kL, fW (by omega) (by omega)]; congr 2
  have q0 : aQ Tryd.prog .lss 3 true (Nn a) (.int .i64 4) = some (.bool true) := qM (by omega)
  by_cases hz : kD u (16 * a) = 0
  ·have e : uR d u l a = l := by unfold uR; rw [if_pos hz]
   rw [e] at ih
   rw [hz] at c4 c5
   have q1 : aQ Tryd.prog .eql 3 true (I6 ((0 : Nat) : Int)) (.int .i64 0) = some (.bool true) := oE rfl
   unfold xsK at ih ⊢
   clear hs hl hul dl
   generalize xU H l = hh at *
   generalize u / 2 ^ (16 * a) = z at *
   generalize 16 * a = a16 at *
   refine jT ?_
   refine eC hc ?_
   have fx := aPQ q0 <| aPQ c1 <| aPQ c2 <| aPQ c3 <| aPQ c4 <| aPQ c5 <| aPQ c6 <| q1
   refine kM ?_
   exact ih
  ·have e : uR d u l a = l ++ [⟨if l.length = 0 then 1 else 2, d, 0, 0, (a : Int), (kD u (16 * a) : Int)⟩] := by unfold uR; rw [if_neg hz]
   rw [e] at ih
   have q1 : aQ Tryd.prog .eql 3 true (I6 (kD u (16 * a) : Int)) (.int .i64 0) = some (.bool false) := pP (by omega)
   have lc : dQ (.sl (H.length + 1) l.length 0 l.length 6) = some (Nn l.length) := rfl
   have ap := aJi H l ⟨if l.length = 0 then 1 else 2, d, 0, 0, (a : Int), (kD u (16 * a) : Int)⟩ (by omega)
   have br : ∀ (i : MI) HH, fR 6 1 (.agg [(.int .i64 0), (.int .i64 0), (.int .i64 0), (.int .i64 0), (.int .i64 0), (.int .i64 0)]) [(0, i.v)] HH = some (.ro false [i.v], HH) := fun i HH => rfl
   have br' := br ⟨if l.length = 0 then 1 else 2, d, 0, 0, (a : Int), (kD u (16 * a) : Int)⟩
   unfold xsK at ih ⊢
   clear hs hl hul dl br
   generalize u / 2 ^ (16 * a) = z at *
   generalize kD u (16 * a) = pp at *
   generalize 16 * a = a16 at *
   by_cases h0 : l.length = 0
   ·rw [if_pos h0] at ap ih br'
    have q2 : aQ Tryd.prog .eql 3 true (Nn l.length) (.int .i64 0) = some (.bool true) := oE (by omega)
    have bs : aY [(0, 1), (1, 1), (2, 1), (3, 1), (4, 1), (5, 1)] [(.int .i64 0), (.int .i64 0), (.int .i64 0), (.int .i64 0), (.int .i64 0), (.int .i64 0)] [(0, .int .i64 1), (1, I6 d), (4, Nn a), (5, I6 (pp : Int))] = some (MI.v ⟨1, d, 0, 0, (a : Int), (pp : Int)⟩) := rfl
    generalize (⟨1, d, 0, 0, (a : Int), (pp : Int)⟩ : MI) = i at *
    refine jT ?_
    refine eC hc ?_
    have fx := aPQ q0 <| aPQ c1 <| aPQ c2 <| aPQ c3 <| aPQ c4 <| aPQ c5 <| aPQ c6 <| aPQ q1 <| aPQ lc <| aPQ q2 <| aPQ bs <| aPQ br' <| ap
    refine kM ?_
    exact ih
   ·rw [if_neg h0] at ap ih br'
    have q2 : aQ Tryd.prog .eql 3 true (Nn l.length) (.int .i64 0) = some (.bool false) := pP (by omega)
    have bs : aY [(0, 1), (1, 1), (2, 1), (3, 1), (4, 1), (5, 1)] [(.int .i64 0), (.int .i64 0), (.int .i64 0), (.int .i64 0), (.int .i64 0), (.int .i64 0)] [(0, .int .i64 2), (1, I6 d), (4, Nn a), (5, I6 (pp : Int))] = some (MI.v ⟨2, d, 0, 0, (a : Int), (pp : Int)⟩) := rfl
    generalize (⟨2, d, 0, 0, (a : Int), (pp : Int)⟩ : MI) = i at *
    refine jT ?_
    refine eC hc ?_
    have fx := aPQ q0 <| aPQ c1 <| aPQ c2 <| aPQ c3 <| aPQ c4 <| aPQ c5 <| aPQ c6 <| aPQ q1 <| aPQ lc <| aPQ q2 <| aPQ bs <| aPQ br' <| ap
    refine kM ?_
    exact ih
theorem aBf (d kk : Int) (H : aF) (hH : dY (H.length + 2) H = true) (hk : 5 < k) :
  bM (cP.f G (k + 1)) [I6 d, I6 kk] H = some (.sl (H.length + 1) (iY d (u64 kk)).length 0 (iY d (u64 kk)).length 6, xU H (iY d (u64 kk))) := by
 refine rW ?_ (by rw [zN]; omega)
 rw [cP.step]
 unfold cP.c
 obtain ⟨u, hu⟩ : ∃ u, u = u64 kk := ⟨_, rfl⟩
 rw [← hu]
 have lp : gV (cP.l3 G k (H.length + 2) (cP.f G k)) k [I6 d, I6 kk, .sl (H.length + 1) 0 0 0 6, .int .i64 0] (xU H []) = _ := aAy G k (cP.f G k) d kk H hH u hu 4 0 k rfl (by omega)
 have e1 : (H ++ [⟨57, 6, []⟩] : aF).length = H.length + 1 := by simp
 have e2 : (H ++ [⟨57, 6, []⟩] ++ [⟨57, 6, []⟩] : aF) = xU H [] := by simp [xU, dE]
 have hlen := qU d u 4
 unfold iY
 unfold xsK at lp
 generalize jM d u 4 = l at *
 have lc : dQ (.sl (H.length + 1) l.length 0 l.length 6) = some (Nn l.length) := rfl
 have hl := zN H []
 refine eZ ?_
 by_cases h0 : l.length = 0
 ·rw [if_pos h0]
  have hl0 : l = [] := List.eq_nil_of_length_eq_zero h0
  subst hl0
  have ap := aJi H [] ⟨1, d, 0, 0, 0, 0⟩ (by simp)
  have br : ∀ HH, fR 6 1 (.agg [(.int .i64 0), (.int .i64 0), (.int .i64 0), (.int .i64 0), (.int .i64 0), (.int .i64 0)]) [(0, MI.v ⟨1, d, 0, 0, 0, 0⟩)] HH = some (.ro false [MI.v ⟨1, d, 0, 0, 0, 0⟩], HH) := fun HH => rfl
  have bs : aY [(0, 1), (1, 1), (2, 1), (3, 1), (4, 1), (5, 1)] [(.int .i64 0), (.int .i64 0), (.int .i64 0), (.int .i64 0), (.int .i64 0), (.int .i64 0)] [(0, .int .i64 1), (1, I6 d)] = some (MI.v ⟨1, d, 0, 0, 0, 0⟩) := rfl
  have q2 : aQ Tryd.prog .eql 3 true (Nn ([] : List MI).length) (.int .i64 0) = some (.bool true) := oE rfl
  have fx := True.intro
  refine kM ?_
  simp only [e1, e2]
  rw [hl]
  have fx := aPQ lc <| aPQ q2 <| aPQ bs <| aPQ br <| ap
  have lx1 := lp
  refine kM ?_
  refine iA ?_; rfl
 ·rw [if_neg h0]
  have q2 : aQ Tryd.prog .eql 3 true (Nn l.length) (.int .i64 0) = some (.bool false) := pP (by omega)
  have fx := True.intro
  refine kM ?_
  simp only [e1, e2]
  rw [hl]
  have fx := aPQ lc <| q2
  have lx1 := lp
  refine kM ?_
  refine iA ?_; rfl
end
theorem aIZ (u s : Nat) (hs : s + 16 ≤ 64) (h0 : u % 2 ^ s = 0) : kD u s * 2 ^ s % 18446744073709551616 = u % 2 ^ (s + 16) := by
 have e : u % 2 ^ (s + 16) = u % 2 ^ s + 2 ^ s * (u / 2 ^ s % 2 ^ 16) := by rw [Nat.pow_add, Nat.mod_mul]
 have hlt : u % 2 ^ (s + 16) < 2 ^ (s + 16) := Nat.mod_lt _ (Nat.two_pow_pos _)
 have hle : 2 ^ (s + 16) ≤ 2 ^ 64 := Nat.pow_le_pow_right (by decide) hs
 rw [h0, Nat.zero_add] at e
 have e2 : kD u s * 2 ^ s = u % 2 ^ (s + 16) := by rw [e, Nat.mul_comm]; rfl
 rw [e2, Nat.mod_eq_of_lt (by omega)]
theorem aJI (u s : Nat) (hs : s + 16 ≤ 64) : pC (u % 2 ^ s) (kD u s) s = u % 2 ^ (s + 16) := by
 have hlt : u % 2 ^ (s + 16) < 2 ^ (s + 16) := Nat.mod_lt _ (Nat.two_pow_pos _)
 have hle : 2 ^ (s + 16) ≤ 2 ^ 64 := Nat.pow_le_pow_right (by decide) hs
 apply Nat.eq_of_testBit_eq
 intro i
 by_cases hi : i < 64
 ·rw [uX _ _ _ _ hi (sS _ _), Nat.testBit_mod_two_pow, Nat.testBit_mod_two_pow]
  by_cases h1 : s ≤ i ∧ i < s + 16
  ·rw [if_pos h1, aDM, show s + (i - s) = i by omega]
   simp [show i - s < 16 by omega, h1.2]
  ·rw [if_neg h1]
   by_cases h2 : i < s
   ·simp [h2, show i < s + 16 by omega]
   ·simp [h2, show ¬ i < s + 16 by omega]
 ·have z : ∀ x, x < 18446744073709551616 → x.testBit i = false := fun x hx => Nat.testBit_lt_two_pow (Nat.lt_of_lt_of_le (show x < 2 ^ 64 from hx) (Nat.pow_le_pow_right (by omega) (by omega)))
  rw [z _ (by unfold pC; exact jD _), z _ (by omega)]
def aCM (f : FL) (l : List MI) (r : List Nat) : List Nat := l.foldl (fun r i => (dD i r f).1) r
theorem aJv (f : FL) (l : List MI) (i : MI) (r : List Nat) : aCM f (l ++ [i]) r = (dD i (aCM f l r) f).1 := by simp [aCM]
def isC (d : Int) (i : MI) : Prop := aT i = true ∧ (i.op = 1 ∨ i.op = 2)
theorem aBK (d : Int) (hd : 0 ≤ d ∧ d ≤ 30) (u : Nat) (f : FL) : ∀ a, a ≤ 4 → (∀ i ∈ jM d u a, isC d i) ∧ ((jM d u a = [] ∧ u % 2 ^ (16 * a) = 0) ∨ (jM d u a ≠ [] ∧ ∀ r : List Nat, r.length = 31 → aCM f (jM d u a) r = r.set d.toNat (u % 2 ^ (16 * a))))
 | 0, _ => ⟨fun i h => (by cases h), Or.inl ⟨rfl, by simp [Nat.mod_one]⟩⟩
 | a + 1, ha => by
  obtain ⟨h1, h2⟩ := aBK d hd u f a (by omega)
  have hs : jM d u (a + 1) = uR d u (jM d u a) a := rfl
  rw [hs]
  have e16 : 16 * (a + 1) = 16 * a + 16 := by omega
  have hp := sS u (16 * a)
  generalize jM d u a = l at *
  unfold uR
  by_cases hz : kD u (16 * a) = 0
  ·rw [if_pos hz]
   have em : u % 2 ^ (16 * (a + 1)) = u % 2 ^ (16 * a) := by
    rw [e16, Nat.pow_add, Nat.mod_mul]
    have : u / 2 ^ (16 * a) % 2 ^ 16 = 0 := hz
    rw [this]; simp
   rw [em]
   exact ⟨h1, h2⟩
  rw [if_neg hz]
  have rt : ∀ op : Int, (op = 1 ∨ op = 2) → aT ⟨op, d, 0, 0, (a : Int), (kD u (16 * a) : Int)⟩ = true := fun op ho => by
   rcases ho with rfl | rfl <;> (simp [aT, kK, fD, aO, gI, dU, gS, fC, dS]; omega)
  have e64 : u64 ((kD u (16 * a) : Nat) : Int) = kD u (16 * a) := by unfold u64; omega
  have ea : (16 * (a : Int)).toNat = 16 * a := by omega
  refine ⟨fun i hi => ?_, .inr ⟨by simp, fun r hr => ?_⟩⟩
  ·rcases List.mem_append.1 hi with h | h
   ·exact h1 i h
   ·obtain rfl := List.mem_singleton.1 h
    refine ⟨rt _ (by split <;> simp), ?_⟩
    show (if l.length = 0 then (1 : Int) else 2) = 1 ∨ (if l.length = 0 then (1 : Int) else 2) = 2
    split <;> simp
  ·rw [aJv, e16]
   rcases h2 with ⟨h2, h3⟩ | ⟨h2, h3⟩
   ·subst h2
    have e : (dD ⟨1, d, 0, 0, (a : Int), (kD u (16 * a) : Int)⟩ (aCM f [] r) f).1 = gC r d (u64 ((kD u (16 * a) : Nat) : Int) * 2 ^ (16 * (a : Int)).toNat % 18446744073709551616) := rfl
    show (dD ⟨1, d, 0, 0, (a : Int), (kD u (16 * a) : Int)⟩ (aCM f [] r) f).1 = _
    rw [e, e64, ea, aIZ u (16 * a) (by omega) h3]
    unfold gC
    rw [if_neg (by omega)]
   ·have hl : l.length ≠ 0 := fun h => h2 (List.eq_nil_of_length_eq_zero h)
    rw [if_neg hl, h3 r hr]
    have e : ∀ q : List Nat, (dD ⟨2, d, 0, 0, (a : Int), (kD u (16 * a) : Int)⟩ q f).1 = gC q d (pC (cO q d) (u64 ((kD u (16 * a) : Nat) : Int)) (16 * (a : Int)).toNat) := fun q => rfl
    have hdl : d.toNat < r.length := by omega
    rw [e, e64, ea]
    unfold gC cO
    rw [if_neg (by omega), if_neg (by omega), List.set_set, List.getD_eq_getElem?_getD, List.getElem?_set_self hdl, Option.getD_some, aJI u (16 * a) (by omega)]
theorem wJ (d : Int) (hd : 0 ≤ d ∧ d ≤ 30) (u : Nat) (hu : u < 18446744073709551616) (f : FL) : (∀ i ∈ iY d u, isC d i) ∧ ∀ r : List Nat, r.length = 31 → aCM f (iY d u) r = r.set d.toNat u := by
 obtain ⟨h1, h2⟩ := aBK d hd u f 4 (Nat.le_refl _)
 have eu : u % 2 ^ (16 * 4) = u := Nat.mod_eq_of_lt hu
 rw [eu] at h2
 unfold iY
 rcases h2 with ⟨h2, h3⟩ | ⟨h2, h3⟩
 ·rw [h2, if_pos (show ([] : List MI).length = 0 from rfl)]
  refine ⟨fun i hi => ?_, fun r hr => ?_⟩
  ·simp at hi; subst hi
   exact ⟨by simp [aT, kK, fD, aO, gI, dU, gS, fC, dS]; omega, .inl rfl⟩
  ·have e : aCM f [⟨1, d, 0, 0, 0, 0⟩] r = gC r d (u64 0 * 2 ^ (16 * (0 : Int)).toNat % 18446744073709551616) := rfl
   rw [e, h3]
   unfold gC
   rw [if_neg (by omega)]
   rfl
 ·rw [if_neg (fun h => h2 (List.eq_nil_of_length_eq_zero h))]
  exact ⟨h1, h3⟩
structure WI where
 op : Int
 d : Int
 a : Int
 b : Int
 c : Int
 k : Int
def WI.v (i : WI) : AV := .agg [I6 i.op, I6 i.d, I6 i.a, I6 i.b, I6 i.c, I6 i.k]
instance : Inhabited WI := ⟨⟨0, 0, 0, 0, 0, 0⟩⟩
structure KS where
 out : List MI
 place : List Nat
 jumps : List (Nat × Int)
def lD (l : List Nat) : List AV := l.map fun n => Nn n
def qY (p : Nat × Int) : AV := .agg [Nn p.1, I6 p.2]
def nO (l : List (Nat × Int)) : List AV := l.map qY
theorem lZ (l : List Nat) : (lD l).length = l.length := by simp [lD]
theorem pW (l : List (Nat × Int)) : (nO l).length = l.length := by simp [nO]
theorem aEq (n : Nat) (l : List Nat) : dH n (lD l) = true := lV n _ (fun _ => rfl) l
theorem aEn (n : Nat) (l : List (Nat × Int)) : dH n (nO l) = true := lV n _ (fun _ => rfl) l
def KS.put (s : KS) (l : List MI) : KS := { s with out := s.out ++ l }
def KS.jump (s : KS) (i : MI) (to : Int) : KS := ({ s with jumps := s.jumps ++ [(s.out.length, to)] } : KS).put [i]
def KS.touch (s : KS) (op r : Int) (i : WI) (e : Int) : KS :=
 let s1 := if i.k ≤ 4095 then s.put [⟨10, 28, i.a, 0, 0, i.k⟩] else (s.put (iY 28 (u64 i.k))).put [⟨3, 28, i.a, 28, 0, 0⟩]
 ((s1.put [⟨13, 29, 28, 0, 0, 16⟩]).jump ⟨23, 29, 0, 0, 0, 0⟩ e).put [⟨12, 28, 28, 0, 0, 3⟩, ⟨op, r, 28, 0, 0, 0⟩]
def KS.one (s : KS) (i : WI) (e : Int) : KS :=
 if i.op = 1 then s.put (iY i.d (u64 i.k))
 else if i.op = 2 then s.put [⟨6, i.d, i.a, 31, 0, 0⟩]
 else if i.op = 3 then s.put [⟨3, i.d, i.a, i.b, 0, 0⟩]
 else if i.op = 4 then s.put [⟨4, i.d, i.a, i.b, 0, 0⟩]
 else if i.op = 5 then s.put [⟨8, i.d, i.a, i.b, 31, 0⟩]
 else if i.op = 6 then s.put [⟨9, i.d, i.a, i.b, 0, 0⟩]
 else if i.op = 7 then s.put [⟨5, i.d, i.a, i.b, 0, 0⟩]
 else if i.op = 8 then s.put [⟨6, i.d, i.a, i.b, 0, 0⟩]
 else if i.op = 9 then s.put [⟨7, i.d, i.a, i.b, 0, 0⟩]
 else if i.op = 10 then s.put [⟨12, i.d, i.a, 0, 0, i.k⟩]
 else if i.op = 11 then s.put [⟨13, i.d, i.a, 0, 0, i.k⟩]
 else if i.op = 12 then s.put [⟨14, i.d, i.a, 0, 0, i.k⟩]
 else if i.op = 13 then s.put [⟨15, 0, i.a, i.b, 0, 0⟩, ⟨17, i.d, 0, 0, 3, 0⟩]
 else if i.op = 14 then s.put [⟨15, 0, i.a, 31, 0, 0⟩, ⟨16, i.d, i.b, i.c, 1, 0⟩]
 else if i.op = 15 then s.touch 18 i.d i e
 else if i.op = 16 then s.touch 19 i.b i e
 else if i.op = 17 then s.jump ⟨20, 0, 0, 0, 0, 0⟩ i.k
 else if i.op = 18 then s.jump ⟨22, i.a, 0, 0, 0, 0⟩ i.k
 else if i.op = 19 then s.jump ⟨23, i.a, 0, 0, 0, 0⟩ i.k
 else if i.op = 20 then s.put [⟨24, 0, 0, 0, 0, i.k⟩]
 else s
def KS.box (s : KS) : AV := .agg [.sl 2 s.out.length 0 s.out.length 6, .sl 3 s.place.length 0 s.place.length 1, .sl 4 s.jumps.length 0 s.jumps.length 2]
def fY (s : KS) (T : aF) : aF := ⟨71, 1, []⟩ :: ⟨90, 3, [s.box]⟩ :: ⟨57, 6, dE s.out⟩ :: ⟨3, 1, lD s.place⟩ :: ⟨93, 2, nO s.jumps⟩ :: T
abbrev BX : AV := .ptr 1 1 0 0
def Pl (T : aF) : Prop := ∀ n, dY n T = true
theorem xC {A B : aF} (hA : Pl A) (hB : Pl B) : Pl (A ++ B) := fun n => nG n A B (hA n) (hB n)
theorem aJf (l : List MI) : Pl [⟨57, 6, dE l⟩] := fun n => by simp [dY, mR]
theorem iK (s : KS) (T : aF) : (fY s T).length = T.length + 5 := rfl
theorem aBo (s : KS) (T : aF) (hT : Pl T) (n : Nat) (hn : 5 ≤ n) : dY n (fY s T) = true := by
 have h2 : decide (2 < n) = true := decide_eq_true (by omega)
 have h3 : decide (3 < n) = true := decide_eq_true (by omega)
 have h4 : decide (4 < n) = true := decide_eq_true (by omega)
 simp only [fY, KS.box, dY, dH, cG, mR, aEq, aEn, hT n, h2, h3, h4, Bool.and_self]
theorem qQ (s : KS) (T X : aF) (hT : Pl T) (xs : List AV) (hx : dH (T.length + 5) xs = true) : iR (T.length + 5) xs (fY s (T ++ X)) = some (fY s T) := by
 have e : (fY s (T ++ X)).take (T.length + 5) = fY s T := by
  unfold fY
  simp only [List.take_succ_cons]
  rw [List.take_append_of_le_length (Nat.le_refl _), List.take_length]
 unfold iR
 rw [e, hx, aBo s T hT _ (by omega)]; rfl
theorem yV (s : KS) (T X : aF) (hT : Pl T) : bH [] (T.length + 5) (fY s (T ++ X)) = some (.ret, [.tup []], fY s T) := by
 unfold bH
 rw [qQ s T X hT [] rfl]; rfl
theorem oW (s : KS) (T : aF) (hT : Pl T) : bH [] (T.length + 5) (fY s T) = some (.ret, [.tup []], fY s T) := by
 have := yV s T [] hT
 rwa [List.append_nil] at this
theorem jQ {s s' : KS} {T : aF} {g : cN} {args : List AV} {r : AV} (h : g args (fY s T) = some (r, fY s' T)) : bM g args (fY s T) = some (r, fY s' T) := by
 unfold bM; rw [h]; simp only [iK, Nat.le_refl, if_true]
section
variable (G : aG) (k : Nat) (s : KS) (T : aF)
theorem zQ : kY BX = some BX := rfl
theorem bf0 : aA 0 BX = some BX := rfl
theorem bf1 : aA 1 BX = some (.ptr 1 1 0 1) := rfl
theorem bf2 : aA 2 BX = some (.ptr 1 1 0 2) := rfl
theorem bl0 : aC G false 1 BX (fY s T) = some (.sl 2 s.out.length 0 s.out.length 6) := rfl
theorem bl1 : aC G false 1 (.ptr 1 1 0 1) (fY s T) = some (.sl 3 s.place.length 0 s.place.length 1) := rfl
theorem bl2 : aC G false 1 (.ptr 1 1 0 2) (fY s T) = some (.sl 4 s.jumps.length 0 s.jumps.length 2) := rfl
theorem aAf (hT : Pl T) (x : AV) (l : List MI) (hx : jF x (fY s T) = some (dE l)) (hs : s.out.length ≤ 1000000) (hl : l.length ≤ 1000) :
  bM (bG.f G (k + 1)) [BX, x] (fY s T) = some (.tup [], fY (s.put l) T) := by
 apply jQ
 rw [bG.step]
 unfold bG.c
 rw [iK]
 have a1 : fS 57 6 (.sl 2 s.out.length 0 s.out.length 6) x (fY s T) = some (.sl 2 (s.put l).out.length 0 (s.put l).out.length 6, (fY s T).set 2 ⟨57, 6, dE (s.put l).out⟩) := by
  have e : (fY s T)[2]? = some ⟨57, 6, dE s.out⟩ := rfl
  unfold fS
  simp only [e, hx, jA, aLz]
  rw [if_pos (by refine ⟨?_, ?_, ?_, ?_, ?_⟩ <;> first | trivial | rfl | omega)]
  have e2 : (dE s.out).take s.out.length = dE s.out := List.take_of_length_le (by rw [jA]; exact Nat.le_refl _)
  have e3 : (dE s.out).drop (s.out.length + l.length) = [] := List.drop_of_length_le (by rw [jA]; omega)
  have e4 : dE s.out ++ dE l = dE (s.out ++ l) := by simp [dE]
  rw [e2, e3, List.append_nil, e4, jA]
  simp [KS.put]
 have s1 : fB (aL 1 BX (.sl 2 (s.put l).out.length 0 (s.put l).out.length 6) ((fY s T).set 2 ⟨57, 6, dE (s.put l).out⟩)) = some (.tup [], fY (s.put l) T) := rfl
 have l0 := bl0 G s T
 have fin := oW (s.put l) T hT
 generalize (fY s T).set 2 ⟨57, 6, dE (s.put l).out⟩ = hm at *
 refine eZ ?_
 have fx := aPQ zQ <| aPQ bf0 <| aPQ l0 <| aPQ a1 <| s1
 refine kM ?_
 exact oF fin
theorem aBU (l : List MI) : jF (.sl (T.length + 5) l.length 0 l.length 6) (fY s (T ++ [⟨57, 6, dE l⟩])) = some (dE l) := by
 have e : (fY s (T ++ [⟨57, 6, dE l⟩]))[T.length + 5]? = some ⟨57, 6, dE l⟩ := by
  unfold fY
  simp only [List.getElem?_cons_succ]
  rw [List.getElem?_append_right (Nat.le_refl _)]; simp
 simp only [jF, e, jA, if_true, List.drop_zero]
 rw [List.take_of_length_le (by rw [jA]; exact Nat.le_refl _)]
theorem qL (i : MI) : fX 57 6 1 (.agg [.int .i64 0, .int .i64 0, .int .i64 0, .int .i64 0, .int .i64 0, .int .i64 0]) [(0, i.v)] (fY s T) = some (.sl (T.length + 5) 1 0 1 6, fY s (T ++ [⟨57, 6, dE [i]⟩])) := rfl
theorem aFy (i j : MI) : fX 57 6 2 (.agg [.int .i64 0, .int .i64 0, .int .i64 0, .int .i64 0, .int .i64 0, .int .i64 0]) [(0, i.v), (1, j.v)] (fY s T) = some (.sl (T.length + 5) 2 0 2 6, fY s (T ++ [⟨57, 6, dE [i, j]⟩])) := rfl
theorem aCY (hT : Pl T) (i : MI) (hs : s.out.length ≤ 1000000) : bM (bG.f G (k + 1)) [BX, .sl (T.length + 5) 1 0 1 6] (fY s (T ++ [⟨57, 6, dE [i]⟩])) = some (.tup [], fY (s.put [i]) (T ++ [⟨57, 6, dE [i]⟩])) :=
 aAf G k s (T ++ [⟨57, 6, dE [i]⟩]) (xC hT (aJf [i])) _ [i] (aBU s T [i]) hs (by show 1 ≤ 1000; decide)
theorem aNj (hT : Pl T) (i j : MI) (hs : s.out.length ≤ 1000000) : bM (bG.f G (k + 1)) [BX, .sl (T.length + 5) 2 0 2 6] (fY s (T ++ [⟨57, 6, dE [i, j]⟩])) = some (.tup [], fY (s.put [i, j]) (T ++ [⟨57, 6, dE [i, j]⟩])) :=
 aAf G k s (T ++ [⟨57, 6, dE [i, j]⟩]) (xC hT (aJf [i, j])) _ [i, j] (aBU s T [i, j]) hs (by show 2 ≤ 1000; decide)
theorem wx (i : WI) (H : aF) : dV i.v H = some (.rp false i.v 0, H) := rfl
theorem wl0 (i : WI) (H : aF) : aC G false 1 (.rp false i.v 0) H = some (I6 i.op) := rfl
theorem wl1 (i : WI) (H : aF) : aC G false 1 (.rp false i.v 1) H = some (I6 i.d) := rfl
theorem wl2 (i : WI) (H : aF) : aC G false 1 (.rp false i.v 2) H = some (I6 i.a) := rfl
theorem wl3 (i : WI) (H : aF) : aC G false 1 (.rp false i.v 3) H = some (I6 i.b) := rfl
theorem wl4 (i : WI) (H : aF) : aC G false 1 (.rp false i.v 4) H = some (I6 i.c) := rfl
theorem wl5 (i : WI) (H : aF) : aC G false 1 (.rp false i.v 5) H = some (I6 i.k) := rfl
theorem wl6 (i : WI) (H : aF) : aC G true 6 (.rp false i.v 0) H = some i.v := rfl
theorem nE (hT : Pl T) (op : Int) (i : WI) (hs : s.out.length ≤ 1000000) : bM (bV.f G (k + 2)) [BX, I6 op, i.v] (fY s T) = some (.tup [], fY (s.put [⟨op, i.d, i.a, i.b, 0, 0⟩]) T) := by
 apply jQ
 rw [bV.step]
 unfold bV.c
 rw [iK]
 have b0 := wx i
 have l1 := wl1 G i
 have l2 := wl2 G i
 have l3 := wl3 G i
 have bs : aY [(0, 1), (1, 1), (2, 1), (3, 1), (4, 1), (5, 1)] [(.int .i64 0), (.int .i64 0), (.int .i64 0), (.int .i64 0), (.int .i64 0), (.int .i64 0)] [(0, I6 op), (1, I6 i.d), (2, I6 i.a), (3, I6 i.b)] = some (MI.v ⟨op, i.d, i.a, i.b, 0, 0⟩) := rfl
 have b1 := qL s T ⟨op, i.d, i.a, i.b, 0, 0⟩
 have p1 := aCY G k s T hT ⟨op, i.d, i.a, i.b, 0, 0⟩ hs
 have fin := yV (s.put [⟨op, i.d, i.a, i.b, 0, 0⟩]) T [⟨57, 6, dE [⟨op, i.d, i.a, i.b, 0, 0⟩]⟩] hT
 generalize (⟨op, i.d, i.a, i.b, 0, 0⟩ : MI) = j at *
 generalize T ++ [⟨57, 6, dE [j]⟩] = T1 at *
 refine eZ ?_
 have fx := aPQ b0 <| aPQ l1 <| aPQ l2 <| aPQ l3 <| aPQ bs <| aPQ b1 <| p1
 refine kM ?_
 exact oF fin
theorem uC (hT : Pl T) (op : Int) (i : WI) (hs : s.out.length ≤ 1000000) : bM (cQ.f G (k + 2)) [BX, I6 op, i.v] (fY s T) = some (.tup [], fY (s.put [⟨op, i.d, i.a, 0, 0, i.k⟩]) T) := by
 apply jQ
 rw [cQ.step]
 unfold cQ.c
 rw [iK]
 have b0 := wx i
 have l1 := wl1 G i
 have l2 := wl2 G i
 have l5 := wl5 G i
 have bs : aY [(0, 1), (1, 1), (2, 1), (3, 1), (4, 1), (5, 1)] [(.int .i64 0), (.int .i64 0), (.int .i64 0), (.int .i64 0), (.int .i64 0), (.int .i64 0)] [(0, I6 op), (1, I6 i.d), (2, I6 i.a), (5, I6 i.k)] = some (MI.v ⟨op, i.d, i.a, 0, 0, i.k⟩) := rfl
 have b1 := qL s T ⟨op, i.d, i.a, 0, 0, i.k⟩
 have p1 := aCY G k s T hT ⟨op, i.d, i.a, 0, 0, i.k⟩ hs
 have fin := yV (s.put [⟨op, i.d, i.a, 0, 0, i.k⟩]) T [⟨57, 6, dE [⟨op, i.d, i.a, 0, 0, i.k⟩]⟩] hT
 generalize (⟨op, i.d, i.a, 0, 0, i.k⟩ : MI) = j at *
 generalize T ++ [⟨57, 6, dE [j]⟩] = T1 at *
 refine eZ ?_
 have fx := aPQ b0 <| aPQ l1 <| aPQ l2 <| aPQ l5 <| aPQ bs <| aPQ b1 <| p1
 refine kM ?_
 exact oF fin
theorem sP (hT : Pl T) (i : MI) (to : Int) (hs : s.out.length ≤ 1000000) (hj : s.jumps.length ≤ 1000000) : bM (cK.f G (k + 2)) [BX, i.v, I6 to] (fY s T) = some (.tup [], fY (s.jump i to) T) := by
 apply jQ
 rw [cK.step]
 unfold cK.c
 rw [iK]
 have b0 : ∀ H, dV i.v H = some (.rp false i.v 0, H) := fun H => rfl
 have l6 : ∀ H, aC G true 6 (.rp false i.v 0) H = some i.v := fun H => rfl
 have l0 := bl0 G s T
 have l2 := bl2 G s T
 have lc : dQ (.sl 2 s.out.length 0 s.out.length 6) = some (Nn s.out.length) := rfl
 have bs : aY [(0, 1), (1, 1)] [(.int .i64 0), (.int .i64 0)] [(0, Nn s.out.length), (1, I6 to)] = some (qY (s.out.length, to)) := rfl
 have br : ∀ H, fR 2 1 (.agg [(.int .i64 0), (.int .i64 0)]) [(0, qY (s.out.length, to))] H = some (.ro false [qY (s.out.length, to)], H) := fun H => rfl
 obtain ⟨s1, hs1⟩ : ∃ s1 : KS, s1 = { s with jumps := s.jumps ++ [(s.out.length, to)] } := ⟨_, rfl⟩
 have hj1 : s.jump i to = s1.put [i] := by rw [hs1]; rfl
 have a1 : fS 93 2 (.sl 4 s.jumps.length 0 s.jumps.length 2) (.ro false [qY (s.out.length, to)]) (fY s T) = some (.sl 4 s1.jumps.length 0 s1.jumps.length 2, (fY s T).set 4 ⟨93, 2, nO s1.jumps⟩) := by
  have e : (fY s T)[4]? = some ⟨93, 2, nO s.jumps⟩ := rfl
  unfold fS
  simp only [e, jF, pW, List.length_singleton]
  rw [if_pos (by refine ⟨?_, ?_, ?_, ?_, ?_⟩ <;> first | trivial | rfl | omega)]
  have e2 : (nO s.jumps).take s.jumps.length = nO s.jumps := List.take_of_length_le (by rw [pW]; exact Nat.le_refl _)
  have e3 : (nO s.jumps).drop (s.jumps.length + 1) = [] := List.drop_of_length_le (by rw [pW]; omega)
  have e4 : nO s.jumps ++ [qY (s.out.length, to)] = nO (s.jumps ++ [(s.out.length, to)]) := by simp [nO]
  rw [e2, e3, List.append_nil, e4, pW, hs1]
  simp
 have s1_ : fB (aL 1 (.ptr 1 1 0 2) (.sl 4 s1.jumps.length 0 s1.jumps.length 2) ((fY s T).set 4 ⟨93, 2, nO s1.jumps⟩)) = some (.tup [], fY s1 T) := by rw [hs1]; rfl
 have ho : s1.out.length ≤ 1000000 := by rw [hs1]; exact hs
 rw [hj1]
 have b1 := qL s1 T i
 have p1 := aCY G k s1 T hT i ho
 have fin := yV (s1.put [i]) T [⟨57, 6, dE [i]⟩] hT
 clear hs1 hj1
 generalize T ++ [⟨57, 6, dE [i]⟩] = T1 at *
 generalize (fY s T).set 4 ⟨93, 2, nO s1.jumps⟩ = hm at *
 generalize qY (s.out.length, to) = jv at *
 generalize i.v = iv at *
 refine eZ ?_
 have fx := aPQ zQ <| aPQ bf0 <| aPQ bf2 <| aPQ b0 <| aPQ l6 <| aPQ l0 <| aPQ l2 <| aPQ lc <| aPQ bs <| aPQ br <| aPQ a1 <| aPQ s1_ <| aPQ b1 <| p1
 refine kM ?_
 exact oF fin
end
section
variable (G : aG) (k : Nat) (s : KS) (T : aF)
theorem aBT (hT : Pl T) (d kk : Int) (hs : s.out.length ≤ 1000000) :
  bM (cP.f G (k + 9)) [I6 d, I6 kk] (fY s T) = some (.sl (T.length + 6) (iY d (u64 kk)).length 0 (iY d (u64 kk)).length 6, fY s (T ++ [⟨57, 6, []⟩, ⟨57, 6, dE (iY d (u64 kk))⟩])) ∧
  bM (bG.f G (k + 9)) [BX, .sl (T.length + 6) (iY d (u64 kk)).length 0 (iY d (u64 kk)).length 6] (fY s (T ++ [⟨57, 6, []⟩, ⟨57, 6, dE (iY d (u64 kk))⟩])) = some (.tup [], fY (s.put (iY d (u64 kk))) (T ++ [⟨57, 6, []⟩, ⟨57, 6, dE (iY d (u64 kk))⟩])) ∧
  Pl (T ++ [⟨57, 6, []⟩, ⟨57, 6, dE (iY d (u64 kk))⟩]) := by
 have hlen := (kQ d (u64 kk)).2
 have h1 := aBf G (k + 8) d kk (fY s T) (aBo s T hT _ (by rw [iK]; omega)) (by omega)
 generalize iY d (u64 kk) = L at *
 have e1 : xU (fY s T) L = fY s (T ++ [⟨57, 6, []⟩, ⟨57, 6, dE L⟩]) := rfl
 rw [iK, e1] at h1
 have hp : Pl (T ++ [⟨57, 6, []⟩, ⟨57, 6, dE L⟩]) := xC hT (fun n => by simp [dY, dH, mR])
 refine ⟨h1, aAf G (k + 8) s _ hp _ L ?_ hs (by omega), hp⟩
 have e : (fY s (T ++ [⟨57, 6, []⟩, ⟨57, 6, dE L⟩]))[T.length + 6]? = some ⟨57, 6, dE L⟩ := by
  unfold fY
  simp only [List.getElem?_cons_succ]
  rw [List.getElem?_append_right (by omega)]; simp
 simp only [jF, e, jA, if_true, List.drop_zero]
 rw [List.take_of_length_le (by rw [jA]; exact Nat.le_refl _)]
theorem aAD (hT : Pl T) (op r : Int) (i : WI) (e : Int) (hs : s.out.length ≤ 900000) (hj : s.jumps.length ≤ 900000) :
  bM (dC.f G (k + 10)) [BX, I6 op, I6 r, i.v, I6 e] (fY s T) = some (.tup [], fY (s.touch op r i e) T) := by
 apply jQ
 rw [dC.step]
 unfold dC.c
 rw [iK]
 have b0 := wx i
 have w2 := wl2 G i
 have w5 := wl5 G i
 have q13 : aY [(0, 1), (1, 1), (2, 1), (3, 1), (4, 1), (5, 1)] [(.int .i64 0), (.int .i64 0), (.int .i64 0), (.int .i64 0), (.int .i64 0), (.int .i64 0)] [(0, .int .i64 13), (1, .int .i64 29), (2, .int .i64 28), (5, .int .i64 16)] = some (MI.v ⟨13, 29, 28, 0, 0, 16⟩) := rfl
 have q23 : aY [(0, 1), (1, 1), (2, 1), (3, 1), (4, 1), (5, 1)] [(.int .i64 0), (.int .i64 0), (.int .i64 0), (.int .i64 0), (.int .i64 0), (.int .i64 0)] [(0, .int .i64 23), (1, .int .i64 29)] = some (MI.v ⟨23, 29, 0, 0, 0, 0⟩) := rfl
 have q12 : aY [(0, 1), (1, 1), (2, 1), (3, 1), (4, 1), (5, 1)] [(.int .i64 0), (.int .i64 0), (.int .i64 0), (.int .i64 0), (.int .i64 0), (.int .i64 0)] [(0, .int .i64 12), (1, .int .i64 28), (2, .int .i64 28), (5, .int .i64 3)] = some (MI.v ⟨12, 28, 28, 0, 0, 3⟩) := rfl
 have qop : aY [(0, 1), (1, 1), (2, 1), (3, 1), (4, 1), (5, 1)] [(.int .i64 0), (.int .i64 0), (.int .i64 0), (.int .i64 0), (.int .i64 0), (.int .i64 0)] [(0, I6 op), (1, I6 r), (2, .int .i64 28)] = some (MI.v ⟨op, r, 28, 0, 0, 0⟩) := rfl
 have rest : ∀ (s1 : KS) (T1 : aF), Pl T1 → s1.out.length ≤ 900010 → s1.jumps.length ≤ 900000 →
   ∃ b1 b2 : ABlk, fX 57 6 1 (.agg [.int .i64 0, .int .i64 0, .int .i64 0, .int .i64 0, .int .i64 0, .int .i64 0]) [(0, MI.v ⟨13, 29, 28, 0, 0, 16⟩)] (fY s1 T1) = some (.sl (T1.length + 5) 1 0 1 6, fY s1 (T1 ++ [b1])) ∧
    bM (bG.f G (k + 9)) [BX, .sl (T1.length + 5) 1 0 1 6] (fY s1 (T1 ++ [b1])) = some (.tup [], fY (s1.put [⟨13, 29, 28, 0, 0, 16⟩]) (T1 ++ [b1])) ∧
    bM (cK.f G (k + 9)) [BX, MI.v ⟨23, 29, 0, 0, 0, 0⟩, I6 e] (fY (s1.put [⟨13, 29, 28, 0, 0, 16⟩]) (T1 ++ [b1])) = some (.tup [], fY ((s1.put [⟨13, 29, 28, 0, 0, 16⟩]).jump ⟨23, 29, 0, 0, 0, 0⟩ e) (T1 ++ [b1])) ∧
    fX 57 6 2 (.agg [.int .i64 0, .int .i64 0, .int .i64 0, .int .i64 0, .int .i64 0, .int .i64 0]) [(0, MI.v ⟨12, 28, 28, 0, 0, 3⟩), (1, MI.v ⟨op, r, 28, 0, 0, 0⟩)] (fY ((s1.put [⟨13, 29, 28, 0, 0, 16⟩]).jump ⟨23, 29, 0, 0, 0, 0⟩ e) (T1 ++ [b1])) = some (.sl ((T1 ++ [b1]).length + 5) 2 0 2 6, fY ((s1.put [⟨13, 29, 28, 0, 0, 16⟩]).jump ⟨23, 29, 0, 0, 0, 0⟩ e) (T1 ++ [b1] ++ [b2])) ∧
    bM (bG.f G (k + 9)) [BX, .sl ((T1 ++ [b1]).length + 5) 2 0 2 6] (fY ((s1.put [⟨13, 29, 28, 0, 0, 16⟩]).jump ⟨23, 29, 0, 0, 0, 0⟩ e) (T1 ++ [b1] ++ [b2])) = some (.tup [], fY (((s1.put [⟨13, 29, 28, 0, 0, 16⟩]).jump ⟨23, 29, 0, 0, 0, 0⟩ e).put [⟨12, 28, 28, 0, 0, 3⟩, ⟨op, r, 28, 0, 0, 0⟩]) (T1 ++ [b1] ++ [b2])) := by
  intro s1 T1 hT1 h1 h2
  have hp1 : Pl (T1 ++ [⟨57, 6, dE [⟨13, 29, 28, 0, 0, 16⟩]⟩]) := xC hT1 (aJf _)
  refine ⟨⟨57, 6, dE [⟨13, 29, 28, 0, 0, 16⟩]⟩, ⟨57, 6, dE [⟨12, 28, 28, 0, 0, 3⟩, ⟨op, r, 28, 0, 0, 0⟩]⟩, qL s1 T1 _, aCY G (k + 8) s1 T1 hT1 _ (by omega), sP G (k + 7) _ _ hp1 _ e ?_ ?_, aFy _ _ _ _, aNj G (k + 8) _ _ hp1 _ _ ?_⟩
  ·simp [KS.put]; omega
  ·simp [KS.put]; omega
  ·simp [KS.put, KS.jump]; omega
 unfold KS.touch
 by_cases hk : i.k ≤ 4095
 ·rw [if_pos hk]
  have q10 : aY [(0, 1), (1, 1), (2, 1), (3, 1), (4, 1), (5, 1)] [(.int .i64 0), (.int .i64 0), (.int .i64 0), (.int .i64 0), (.int .i64 0), (.int .i64 0)] [(0, .int .i64 10), (1, .int .i64 28), (2, I6 i.a), (5, I6 i.k)] = some (MI.v ⟨10, 28, i.a, 0, 0, i.k⟩) := rfl
  have c1 := qL s T ⟨10, 28, i.a, 0, 0, i.k⟩
  have c2 := aCY G (k + 8) s T hT ⟨10, 28, i.a, 0, 0, i.k⟩ (by omega)
  have hp : Pl (T ++ [⟨57, 6, dE [⟨10, 28, i.a, 0, 0, i.k⟩]⟩]) := xC hT (aJf _)
  obtain ⟨b1, b2, r1, r2, r3, r4, r5⟩ := rest (s.put [⟨10, 28, i.a, 0, 0, i.k⟩]) (T ++ [⟨57, 6, dE [⟨10, 28, i.a, 0, 0, i.k⟩]⟩]) hp (by simp [KS.put]; omega) (by simp [KS.put]; omega)
  obtain ⟨sE, hE⟩ : ∃ sE, sE = (((s.put [⟨10, 28, i.a, 0, 0, i.k⟩]).put [⟨13, 29, 28, 0, 0, 16⟩]).jump ⟨23, 29, 0, 0, 0, 0⟩ e).put [⟨12, 28, 28, 0, 0, 3⟩, ⟨op, r, 28, 0, 0, 0⟩] := ⟨_, rfl⟩
  have eA : T ++ [⟨57, 6, dE [⟨10, 28, i.a, 0, 0, i.k⟩]⟩] ++ [b1] ++ [b2] = T ++ [⟨57, 6, dE [⟨10, 28, i.a, 0, 0, i.k⟩]⟩, b1, b2] := by simp
  have fin := yV sE T [⟨57, 6, dE [⟨10, 28, i.a, 0, 0, i.k⟩]⟩, b1, b2] hT
  rw [← eA] at fin
  simp only
  rw [← hE] at r5 ⊢
  have g1 : aQ Tryd.prog .leq 2 true (I6 i.k) (.int .i64 4095) = some (.bool true) := sO hk
  clear rest hE eA
  generalize (⟨10, 28, i.a, 0, 0, i.k⟩ : MI) = m10 at *
  generalize (s.put [m10]).put [⟨13, 29, 28, 0, 0, 16⟩] = sB at *
  generalize sB.jump ⟨23, 29, 0, 0, 0, 0⟩ e = sC at *
  generalize s.put [m10] = sA at *
  generalize T ++ [⟨57, 6, dE [m10]⟩] ++ [b1] ++ [b2] = T3 at *
  generalize T ++ [⟨57, 6, dE [m10]⟩] ++ [b1] = T2 at *
  generalize T ++ [⟨57, 6, dE [m10]⟩] = T1 at *
  generalize MI.v ⟨13, 29, 28, 0, 0, 16⟩ = v13 at *
  generalize MI.v ⟨23, 29, 0, 0, 0, 0⟩ = v23 at *
  generalize MI.v ⟨12, 28, 28, 0, 0, 3⟩ = v12 at *
  generalize MI.v ⟨op, r, 28, 0, 0, 0⟩ = vop at *
  refine eZ ?_
  have fx := aPQ b0 <| aPQ w2 <| aPQ w5 <| aPQ g1 <| aPQ q10 <| aPQ c1 <| aPQ c2 <| aPQ q13 <| aPQ r1 <| aPQ r2 <| aPQ q23 <| aPQ r3 <| aPQ q12 <| aPQ qop <| aPQ r4 <| r5
  refine kM ?_
  exact oF fin
 ·rw [if_neg hk]
  obtain ⟨c1, c2, hp⟩ := aBT G k s T hT 28 i.k (by omega)
  have hlen := (kQ 28 (u64 i.k)).2
  have q3 : aY [(0, 1), (1, 1), (2, 1), (3, 1), (4, 1), (5, 1)] [(.int .i64 0), (.int .i64 0), (.int .i64 0), (.int .i64 0), (.int .i64 0), (.int .i64 0)] [(0, .int .i64 3), (1, .int .i64 28), (2, I6 i.a), (3, .int .i64 28)] = some (MI.v ⟨3, 28, i.a, 28, 0, 0⟩) := rfl
  generalize iY 28 (u64 i.k) = L at *
  obtain ⟨T1, hT1⟩ : ∃ T1, T1 = T ++ [⟨57, 6, []⟩, ⟨57, 6, dE L⟩] := ⟨_, rfl⟩
  rw [← hT1] at c1 c2 hp
  have c3 := qL (s.put L) T1 ⟨3, 28, i.a, 28, 0, 0⟩
  have c4 := aCY G (k + 8) (s.put L) T1 hp ⟨3, 28, i.a, 28, 0, 0⟩ (by simp [KS.put]; omega)
  have kA : Pl (T1 ++ [⟨57, 6, dE [⟨3, 28, i.a, 28, 0, 0⟩]⟩]) := xC hp (aJf _)
  obtain ⟨b1, b2, r1, r2, r3, r4, r5⟩ := rest ((s.put L).put [⟨3, 28, i.a, 28, 0, 0⟩]) (T1 ++ [⟨57, 6, dE [⟨3, 28, i.a, 28, 0, 0⟩]⟩]) kA (by simp [KS.put]; omega) (by simp [KS.put]; omega)
  obtain ⟨sE, hE⟩ : ∃ sE, sE = ((((s.put L).put [⟨3, 28, i.a, 28, 0, 0⟩]).put [⟨13, 29, 28, 0, 0, 16⟩]).jump ⟨23, 29, 0, 0, 0, 0⟩ e).put [⟨12, 28, 28, 0, 0, 3⟩, ⟨op, r, 28, 0, 0, 0⟩] := ⟨_, rfl⟩
  have eA : T1 ++ [⟨57, 6, dE [⟨3, 28, i.a, 28, 0, 0⟩]⟩] ++ [b1] ++ [b2] = T ++ [⟨57, 6, []⟩, ⟨57, 6, dE L⟩, ⟨57, 6, dE [⟨3, 28, i.a, 28, 0, 0⟩]⟩, b1, b2] := by rw [hT1]; simp
  have fin := yV sE T [⟨57, 6, []⟩, ⟨57, 6, dE L⟩, ⟨57, 6, dE [⟨3, 28, i.a, 28, 0, 0⟩]⟩, b1, b2] hT
  rw [← eA] at fin
  simp only
  rw [← hE] at r5 ⊢
  have g1 : aQ Tryd.prog .leq 2 true (I6 i.k) (.int .i64 4095) = some (.bool false) := zK (by omega)
  clear rest hE eA hT1
  generalize (⟨3, 28, i.a, 28, 0, 0⟩ : MI) = m3 at *
  generalize ((s.put L).put [m3]).put [⟨13, 29, 28, 0, 0, 16⟩] = sB at *
  generalize sB.jump ⟨23, 29, 0, 0, 0, 0⟩ e = sC at *
  generalize (s.put L).put [m3] = sA at *
  generalize T1 ++ [⟨57, 6, dE [m3]⟩] ++ [b1] ++ [b2] = T4 at *
  generalize T1 ++ [⟨57, 6, dE [m3]⟩] ++ [b1] = T3 at *
  generalize T1 ++ [⟨57, 6, dE [m3]⟩] = T2 at *
  generalize MI.v ⟨13, 29, 28, 0, 0, 16⟩ = v13 at *
  generalize MI.v ⟨23, 29, 0, 0, 0, 0⟩ = v23 at *
  generalize MI.v ⟨12, 28, 28, 0, 0, 3⟩ = v12 at *
  generalize MI.v ⟨op, r, 28, 0, 0, 0⟩ = vop at *
  refine eZ ?_
  have fx := aPQ b0 <| aPQ w2 <| aPQ w5 <| aPQ g1 <| aPQ c1 <| aPQ c2 <| aPQ q3 <| aPQ c3 <| aPQ c4 <| aPQ q13 <| aPQ r1 <| aPQ r2 <| aPQ q23 <| aPQ r3 <| aPQ q12 <| aPQ qop <| aPQ r4 <| r5
  refine kM ?_
  exact oF fin
end
theorem aOl (G : aG) (k : Nat) (s : KS) (T : aF) (hT : Pl T) (d a b c kk e : Int) (hs : s.out.length ≤ 900000) (hj : s.jumps.length ≤ 900000) : bM (aR.f G (k + 11)) [BX, WI.v ⟨1, d, a, b, c, kk⟩, I6 e] (fY s T) = some (.tup [], fY (s.one ⟨1, d, a, b, c, kk⟩ e) T) := by
 apply jQ
 rw [aR.step]
 unfold aR.c
 rw [iK]
 have b0 := wx (⟨1, d, a, b, c, kk⟩ : WI)
 have l0 : ∀ H, aC G false 1 (.rp false (WI.v ⟨1, d, a, b, c, kk⟩) 0) H = some (.int .i64 1) := wl0 G (⟨1, d, a, b, c, kk⟩ : WI)
 have l1 : ∀ H, aC G false 1 (.rp false (WI.v ⟨1, d, a, b, c, kk⟩) 1) H = some (I6 d) := wl1 G (⟨1, d, a, b, c, kk⟩ : WI)
 have l2 : ∀ H, aC G false 1 (.rp false (WI.v ⟨1, d, a, b, c, kk⟩) 2) H = some (I6 a) := wl2 G (⟨1, d, a, b, c, kk⟩ : WI)
 have l3 : ∀ H, aC G false 1 (.rp false (WI.v ⟨1, d, a, b, c, kk⟩) 3) H = some (I6 b) := wl3 G (⟨1, d, a, b, c, kk⟩ : WI)
 have l4 : ∀ H, aC G false 1 (.rp false (WI.v ⟨1, d, a, b, c, kk⟩) 4) H = some (I6 c) := wl4 G (⟨1, d, a, b, c, kk⟩ : WI)
 have l5 : ∀ H, aC G false 1 (.rp false (WI.v ⟨1, d, a, b, c, kk⟩) 5) H = some (I6 kk) := wl5 G (⟨1, d, a, b, c, kk⟩ : WI)
 have l6 := wl6 G (⟨1, d, a, b, c, kk⟩ : WI)
 obtain ⟨c1, c2, hp⟩ := aBT G (k + 1) s T hT d kk (by omega)
 have es : s.one ⟨1, d, a, b, c, kk⟩ e = s.put (iY d (u64 kk)) := rfl
 rw [es]
 generalize iY d (u64 kk) = L at *
 have fin := yV (s.put L) T [⟨57, 6, []⟩, ⟨57, 6, dE L⟩] hT
 generalize T ++ [⟨57, 6, []⟩, ⟨57, 6, dE L⟩] = T1 at *
 generalize WI.v ⟨1, d, a, b, c, kk⟩ = wv at *
 refine eZ ?_
 have fx := aPQ b0 <| aPQ l0 <| aPQ l1 <| aPQ l2 <| aPQ l3 <| aPQ l4 <| aPQ l5 <| aPQ l6 <| aPQ c1 <| c2
 refine kM ?_
 exact oF fin
theorem aNZ (G : aG) (k : Nat) (s : KS) (T : aF) (hT : Pl T) (d a b c kk e : Int) (hs : s.out.length ≤ 900000) (hj : s.jumps.length ≤ 900000) : bM (aR.f G (k + 11)) [BX, WI.v ⟨2, d, a, b, c, kk⟩, I6 e] (fY s T) = some (.tup [], fY (s.one ⟨2, d, a, b, c, kk⟩ e) T) := by
 apply jQ
 rw [aR.step]
 unfold aR.c
 rw [iK]
 have b0 := wx (⟨2, d, a, b, c, kk⟩ : WI)
 have l0 : ∀ H, aC G false 1 (.rp false (WI.v ⟨2, d, a, b, c, kk⟩) 0) H = some (.int .i64 2) := wl0 G (⟨2, d, a, b, c, kk⟩ : WI)
 have l1 : ∀ H, aC G false 1 (.rp false (WI.v ⟨2, d, a, b, c, kk⟩) 1) H = some (I6 d) := wl1 G (⟨2, d, a, b, c, kk⟩ : WI)
 have l2 : ∀ H, aC G false 1 (.rp false (WI.v ⟨2, d, a, b, c, kk⟩) 2) H = some (I6 a) := wl2 G (⟨2, d, a, b, c, kk⟩ : WI)
 have l3 : ∀ H, aC G false 1 (.rp false (WI.v ⟨2, d, a, b, c, kk⟩) 3) H = some (I6 b) := wl3 G (⟨2, d, a, b, c, kk⟩ : WI)
 have l4 : ∀ H, aC G false 1 (.rp false (WI.v ⟨2, d, a, b, c, kk⟩) 4) H = some (I6 c) := wl4 G (⟨2, d, a, b, c, kk⟩ : WI)
 have l5 : ∀ H, aC G false 1 (.rp false (WI.v ⟨2, d, a, b, c, kk⟩) 5) H = some (I6 kk) := wl5 G (⟨2, d, a, b, c, kk⟩ : WI)
 have l6 := wl6 G (⟨2, d, a, b, c, kk⟩ : WI)
 have q1 : aY [(0, 1), (1, 1), (2, 1), (3, 1), (4, 1), (5, 1)] [(.int .i64 0), (.int .i64 0), (.int .i64 0), (.int .i64 0), (.int .i64 0), (.int .i64 0)] [(0, .int .i64 6), (1, I6 d), (2, I6 a), (3, .int .i64 31)] = some (MI.v ⟨6, d, a, 31, 0, 0⟩) := rfl
 have c1 := qL s T ⟨6, d, a, 31, 0, 0⟩
 have c2 := aCY G (k + 9) s T hT ⟨6, d, a, 31, 0, 0⟩ (by omega)
 have es : s.one ⟨2, d, a, b, c, kk⟩ e = s.put [⟨6, d, a, 31, 0, 0⟩] := rfl
 rw [es]
 have fin := yV (s.put [⟨6, d, a, 31, 0, 0⟩]) T [⟨57, 6, dE [⟨6, d, a, 31, 0, 0⟩]⟩] hT
 generalize (⟨6, d, a, 31, 0, 0⟩ : MI) = mi at *
 generalize T ++ [⟨57, 6, dE [mi]⟩] = T1 at *
 generalize WI.v ⟨2, d, a, b, c, kk⟩ = wv at *
 refine eZ ?_
 have fx := aPQ b0 <| aPQ l0 <| aPQ l1 <| aPQ l2 <| aPQ l3 <| aPQ l4 <| aPQ l5 <| aPQ l6 <| aPQ q1 <| aPQ c1 <| c2
 refine kM ?_
 exact oF fin
theorem aNY (G : aG) (k : Nat) (s : KS) (T : aF) (hT : Pl T) (d a b c kk e : Int) (hs : s.out.length ≤ 900000) (hj : s.jumps.length ≤ 900000) : bM (aR.f G (k + 11)) [BX, WI.v ⟨3, d, a, b, c, kk⟩, I6 e] (fY s T) = some (.tup [], fY (s.one ⟨3, d, a, b, c, kk⟩ e) T) := by
 apply jQ
 rw [aR.step]
 unfold aR.c
 rw [iK]
 have b0 := wx (⟨3, d, a, b, c, kk⟩ : WI)
 have l0 : ∀ H, aC G false 1 (.rp false (WI.v ⟨3, d, a, b, c, kk⟩) 0) H = some (.int .i64 3) := wl0 G (⟨3, d, a, b, c, kk⟩ : WI)
 have l1 : ∀ H, aC G false 1 (.rp false (WI.v ⟨3, d, a, b, c, kk⟩) 1) H = some (I6 d) := wl1 G (⟨3, d, a, b, c, kk⟩ : WI)
 have l2 : ∀ H, aC G false 1 (.rp false (WI.v ⟨3, d, a, b, c, kk⟩) 2) H = some (I6 a) := wl2 G (⟨3, d, a, b, c, kk⟩ : WI)
 have l3 : ∀ H, aC G false 1 (.rp false (WI.v ⟨3, d, a, b, c, kk⟩) 3) H = some (I6 b) := wl3 G (⟨3, d, a, b, c, kk⟩ : WI)
 have l4 : ∀ H, aC G false 1 (.rp false (WI.v ⟨3, d, a, b, c, kk⟩) 4) H = some (I6 c) := wl4 G (⟨3, d, a, b, c, kk⟩ : WI)
 have l5 : ∀ H, aC G false 1 (.rp false (WI.v ⟨3, d, a, b, c, kk⟩) 5) H = some (I6 kk) := wl5 G (⟨3, d, a, b, c, kk⟩ : WI)
 have l6 := wl6 G (⟨3, d, a, b, c, kk⟩ : WI)
 have c1 : bM (bV.f G (k + 10)) [BX, .int .i64 3, WI.v ⟨3, d, a, b, c, kk⟩] (fY s T) = some (.tup [], fY (s.one ⟨3, d, a, b, c, kk⟩ e) T) := nE G (k + 8) s T hT 3 (⟨3, d, a, b, c, kk⟩ : WI) (by omega)
 have fin := oW (s.one ⟨3, d, a, b, c, kk⟩ e) T hT
 generalize WI.v ⟨3, d, a, b, c, kk⟩ = wv at *
 refine eZ ?_
 have fx := aPQ b0 <| aPQ l0 <| aPQ l1 <| aPQ l2 <| aPQ l3 <| aPQ l4 <| aPQ l5 <| aPQ l6 <| c1
 refine kM ?_
 exact oF fin
theorem aOg (G : aG) (k : Nat) (s : KS) (T : aF) (hT : Pl T) (d a b c kk e : Int) (hs : s.out.length ≤ 900000) (hj : s.jumps.length ≤ 900000) : bM (aR.f G (k + 11)) [BX, WI.v ⟨4, d, a, b, c, kk⟩, I6 e] (fY s T) = some (.tup [], fY (s.one ⟨4, d, a, b, c, kk⟩ e) T) := by
 apply jQ
 rw [aR.step]
 unfold aR.c
 rw [iK]
 have b0 := wx (⟨4, d, a, b, c, kk⟩ : WI)
 have l0 : ∀ H, aC G false 1 (.rp false (WI.v ⟨4, d, a, b, c, kk⟩) 0) H = some (.int .i64 4) := wl0 G (⟨4, d, a, b, c, kk⟩ : WI)
 have l1 : ∀ H, aC G false 1 (.rp false (WI.v ⟨4, d, a, b, c, kk⟩) 1) H = some (I6 d) := wl1 G (⟨4, d, a, b, c, kk⟩ : WI)
 have l2 : ∀ H, aC G false 1 (.rp false (WI.v ⟨4, d, a, b, c, kk⟩) 2) H = some (I6 a) := wl2 G (⟨4, d, a, b, c, kk⟩ : WI)
 have l3 : ∀ H, aC G false 1 (.rp false (WI.v ⟨4, d, a, b, c, kk⟩) 3) H = some (I6 b) := wl3 G (⟨4, d, a, b, c, kk⟩ : WI)
 have l4 : ∀ H, aC G false 1 (.rp false (WI.v ⟨4, d, a, b, c, kk⟩) 4) H = some (I6 c) := wl4 G (⟨4, d, a, b, c, kk⟩ : WI)
 have l5 : ∀ H, aC G false 1 (.rp false (WI.v ⟨4, d, a, b, c, kk⟩) 5) H = some (I6 kk) := wl5 G (⟨4, d, a, b, c, kk⟩ : WI)
 have l6 := wl6 G (⟨4, d, a, b, c, kk⟩ : WI)
 have c1 : bM (bV.f G (k + 10)) [BX, .int .i64 4, WI.v ⟨4, d, a, b, c, kk⟩] (fY s T) = some (.tup [], fY (s.one ⟨4, d, a, b, c, kk⟩ e) T) := nE G (k + 8) s T hT 4 (⟨4, d, a, b, c, kk⟩ : WI) (by omega)
 have fin := oW (s.one ⟨4, d, a, b, c, kk⟩ e) T hT
 generalize WI.v ⟨4, d, a, b, c, kk⟩ = wv at *
 refine eZ ?_
 have fx := aPQ b0 <| aPQ l0 <| aPQ l1 <| aPQ l2 <| aPQ l3 <| aPQ l4 <| aPQ l5 <| aPQ l6 <| c1
 refine kM ?_
 exact oF fin
theorem aOt (G : aG) (k : Nat) (s : KS) (T : aF) (hT : Pl T) (d a b c kk e : Int) (hs : s.out.length ≤ 900000) (hj : s.jumps.length ≤ 900000) : bM (aR.f G (k + 11)) [BX, WI.v ⟨5, d, a, b, c, kk⟩, I6 e] (fY s T) = some (.tup [], fY (s.one ⟨5, d, a, b, c, kk⟩ e) T) := by
 apply jQ
 rw [aR.step]
 unfold aR.c
 rw [iK]
 have b0 := wx (⟨5, d, a, b, c, kk⟩ : WI)
 have l0 : ∀ H, aC G false 1 (.rp false (WI.v ⟨5, d, a, b, c, kk⟩) 0) H = some (.int .i64 5) := wl0 G (⟨5, d, a, b, c, kk⟩ : WI)
 have l1 : ∀ H, aC G false 1 (.rp false (WI.v ⟨5, d, a, b, c, kk⟩) 1) H = some (I6 d) := wl1 G (⟨5, d, a, b, c, kk⟩ : WI)
 have l2 : ∀ H, aC G false 1 (.rp false (WI.v ⟨5, d, a, b, c, kk⟩) 2) H = some (I6 a) := wl2 G (⟨5, d, a, b, c, kk⟩ : WI)
 have l3 : ∀ H, aC G false 1 (.rp false (WI.v ⟨5, d, a, b, c, kk⟩) 3) H = some (I6 b) := wl3 G (⟨5, d, a, b, c, kk⟩ : WI)
 have l4 : ∀ H, aC G false 1 (.rp false (WI.v ⟨5, d, a, b, c, kk⟩) 4) H = some (I6 c) := wl4 G (⟨5, d, a, b, c, kk⟩ : WI)
 have l5 : ∀ H, aC G false 1 (.rp false (WI.v ⟨5, d, a, b, c, kk⟩) 5) H = some (I6 kk) := wl5 G (⟨5, d, a, b, c, kk⟩ : WI)
 have l6 := wl6 G (⟨5, d, a, b, c, kk⟩ : WI)
 have q1 : aY [(0, 1), (1, 1), (2, 1), (3, 1), (4, 1), (5, 1)] [(.int .i64 0), (.int .i64 0), (.int .i64 0), (.int .i64 0), (.int .i64 0), (.int .i64 0)] [(0, .int .i64 8), (1, I6 d), (2, I6 a), (3, I6 b), (4, .int .i64 31)] = some (MI.v ⟨8, d, a, b, 31, 0⟩) := rfl
 have c1 := qL s T ⟨8, d, a, b, 31, 0⟩
 have c2 := aCY G (k + 9) s T hT ⟨8, d, a, b, 31, 0⟩ (by omega)
 have es : s.one ⟨5, d, a, b, c, kk⟩ e = s.put [⟨8, d, a, b, 31, 0⟩] := rfl
 rw [es]
 have fin := yV (s.put [⟨8, d, a, b, 31, 0⟩]) T [⟨57, 6, dE [⟨8, d, a, b, 31, 0⟩]⟩] hT
 generalize (⟨8, d, a, b, 31, 0⟩ : MI) = mi at *
 generalize T ++ [⟨57, 6, dE [mi]⟩] = T1 at *
 generalize WI.v ⟨5, d, a, b, c, kk⟩ = wv at *
 refine eZ ?_
 have fx := aPQ b0 <| aPQ l0 <| aPQ l1 <| aPQ l2 <| aPQ l3 <| aPQ l4 <| aPQ l5 <| aPQ l6 <| aPQ q1 <| aPQ c1 <| c2
 refine kM ?_
 exact oF fin
theorem aOC (G : aG) (k : Nat) (s : KS) (T : aF) (hT : Pl T) (d a b c kk e : Int) (hs : s.out.length ≤ 900000) (hj : s.jumps.length ≤ 900000) : bM (aR.f G (k + 11)) [BX, WI.v ⟨6, d, a, b, c, kk⟩, I6 e] (fY s T) = some (.tup [], fY (s.one ⟨6, d, a, b, c, kk⟩ e) T) := by
 apply jQ
 rw [aR.step]
 unfold aR.c
 rw [iK]
 have b0 := wx (⟨6, d, a, b, c, kk⟩ : WI)
 have l0 : ∀ H, aC G false 1 (.rp false (WI.v ⟨6, d, a, b, c, kk⟩) 0) H = some (.int .i64 6) := wl0 G (⟨6, d, a, b, c, kk⟩ : WI)
 have l1 : ∀ H, aC G false 1 (.rp false (WI.v ⟨6, d, a, b, c, kk⟩) 1) H = some (I6 d) := wl1 G (⟨6, d, a, b, c, kk⟩ : WI)
 have l2 : ∀ H, aC G false 1 (.rp false (WI.v ⟨6, d, a, b, c, kk⟩) 2) H = some (I6 a) := wl2 G (⟨6, d, a, b, c, kk⟩ : WI)
 have l3 : ∀ H, aC G false 1 (.rp false (WI.v ⟨6, d, a, b, c, kk⟩) 3) H = some (I6 b) := wl3 G (⟨6, d, a, b, c, kk⟩ : WI)
 have l4 : ∀ H, aC G false 1 (.rp false (WI.v ⟨6, d, a, b, c, kk⟩) 4) H = some (I6 c) := wl4 G (⟨6, d, a, b, c, kk⟩ : WI)
 have l5 : ∀ H, aC G false 1 (.rp false (WI.v ⟨6, d, a, b, c, kk⟩) 5) H = some (I6 kk) := wl5 G (⟨6, d, a, b, c, kk⟩ : WI)
 have l6 := wl6 G (⟨6, d, a, b, c, kk⟩ : WI)
 have c1 : bM (bV.f G (k + 10)) [BX, .int .i64 9, WI.v ⟨6, d, a, b, c, kk⟩] (fY s T) = some (.tup [], fY (s.one ⟨6, d, a, b, c, kk⟩ e) T) := nE G (k + 8) s T hT 9 (⟨6, d, a, b, c, kk⟩ : WI) (by omega)
 have fin := oW (s.one ⟨6, d, a, b, c, kk⟩ e) T hT
 generalize WI.v ⟨6, d, a, b, c, kk⟩ = wv at *
 refine eZ ?_
 have fx := aPQ b0 <| aPQ l0 <| aPQ l1 <| aPQ l2 <| aPQ l3 <| aPQ l4 <| aPQ l5 <| aPQ l6 <| c1
 refine kM ?_
 exact oF fin
theorem aOr (G : aG) (k : Nat) (s : KS) (T : aF) (hT : Pl T) (d a b c kk e : Int) (hs : s.out.length ≤ 900000) (hj : s.jumps.length ≤ 900000) : bM (aR.f G (k + 11)) [BX, WI.v ⟨7, d, a, b, c, kk⟩, I6 e] (fY s T) = some (.tup [], fY (s.one ⟨7, d, a, b, c, kk⟩ e) T) := by
 apply jQ
 rw [aR.step]
 unfold aR.c
 rw [iK]
 have b0 := wx (⟨7, d, a, b, c, kk⟩ : WI)
 have l0 : ∀ H, aC G false 1 (.rp false (WI.v ⟨7, d, a, b, c, kk⟩) 0) H = some (.int .i64 7) := wl0 G (⟨7, d, a, b, c, kk⟩ : WI)
 have l1 : ∀ H, aC G false 1 (.rp false (WI.v ⟨7, d, a, b, c, kk⟩) 1) H = some (I6 d) := wl1 G (⟨7, d, a, b, c, kk⟩ : WI)
 have l2 : ∀ H, aC G false 1 (.rp false (WI.v ⟨7, d, a, b, c, kk⟩) 2) H = some (I6 a) := wl2 G (⟨7, d, a, b, c, kk⟩ : WI)
 have l3 : ∀ H, aC G false 1 (.rp false (WI.v ⟨7, d, a, b, c, kk⟩) 3) H = some (I6 b) := wl3 G (⟨7, d, a, b, c, kk⟩ : WI)
 have l4 : ∀ H, aC G false 1 (.rp false (WI.v ⟨7, d, a, b, c, kk⟩) 4) H = some (I6 c) := wl4 G (⟨7, d, a, b, c, kk⟩ : WI)
 have l5 : ∀ H, aC G false 1 (.rp false (WI.v ⟨7, d, a, b, c, kk⟩) 5) H = some (I6 kk) := wl5 G (⟨7, d, a, b, c, kk⟩ : WI)
 have l6 := wl6 G (⟨7, d, a, b, c, kk⟩ : WI)
 have c1 : bM (bV.f G (k + 10)) [BX, .int .i64 5, WI.v ⟨7, d, a, b, c, kk⟩] (fY s T) = some (.tup [], fY (s.one ⟨7, d, a, b, c, kk⟩ e) T) := nE G (k + 8) s T hT 5 (⟨7, d, a, b, c, kk⟩ : WI) (by omega)
 have fin := oW (s.one ⟨7, d, a, b, c, kk⟩ e) T hT
 generalize WI.v ⟨7, d, a, b, c, kk⟩ = wv at *
 refine eZ ?_
 have fx := aPQ b0 <| aPQ l0 <| aPQ l1 <| aPQ l2 <| aPQ l3 <| aPQ l4 <| aPQ l5 <| aPQ l6 <| c1
 refine kM ?_
 exact oF fin
theorem aOG (G : aG) (k : Nat) (s : KS) (T : aF) (hT : Pl T) (d a b c kk e : Int) (hs : s.out.length ≤ 900000) (hj : s.jumps.length ≤ 900000) : bM (aR.f G (k + 11)) [BX, WI.v ⟨8, d, a, b, c, kk⟩, I6 e] (fY s T) = some (.tup [], fY (s.one ⟨8, d, a, b, c, kk⟩ e) T) := by
 apply jQ
 rw [aR.step]
 unfold aR.c
 rw [iK]
 have b0 := wx (⟨8, d, a, b, c, kk⟩ : WI)
 have l0 : ∀ H, aC G false 1 (.rp false (WI.v ⟨8, d, a, b, c, kk⟩) 0) H = some (.int .i64 8) := wl0 G (⟨8, d, a, b, c, kk⟩ : WI)
 have l1 : ∀ H, aC G false 1 (.rp false (WI.v ⟨8, d, a, b, c, kk⟩) 1) H = some (I6 d) := wl1 G (⟨8, d, a, b, c, kk⟩ : WI)
 have l2 : ∀ H, aC G false 1 (.rp false (WI.v ⟨8, d, a, b, c, kk⟩) 2) H = some (I6 a) := wl2 G (⟨8, d, a, b, c, kk⟩ : WI)
 have l3 : ∀ H, aC G false 1 (.rp false (WI.v ⟨8, d, a, b, c, kk⟩) 3) H = some (I6 b) := wl3 G (⟨8, d, a, b, c, kk⟩ : WI)
 have l4 : ∀ H, aC G false 1 (.rp false (WI.v ⟨8, d, a, b, c, kk⟩) 4) H = some (I6 c) := wl4 G (⟨8, d, a, b, c, kk⟩ : WI)
 have l5 : ∀ H, aC G false 1 (.rp false (WI.v ⟨8, d, a, b, c, kk⟩) 5) H = some (I6 kk) := wl5 G (⟨8, d, a, b, c, kk⟩ : WI)
 have l6 := wl6 G (⟨8, d, a, b, c, kk⟩ : WI)
 have c1 : bM (bV.f G (k + 10)) [BX, .int .i64 6, WI.v ⟨8, d, a, b, c, kk⟩] (fY s T) = some (.tup [], fY (s.one ⟨8, d, a, b, c, kk⟩ e) T) := nE G (k + 8) s T hT 6 (⟨8, d, a, b, c, kk⟩ : WI) (by omega)
 have fin := oW (s.one ⟨8, d, a, b, c, kk⟩ e) T hT
 generalize WI.v ⟨8, d, a, b, c, kk⟩ = wv at *
 refine eZ ?_
 have fx := aPQ b0 <| aPQ l0 <| aPQ l1 <| aPQ l2 <| aPQ l3 <| aPQ l4 <| aPQ l5 <| aPQ l6 <| c1
 refine kM ?_
 exact oF fin
theorem aOA (G : aG) (k : Nat) (s : KS) (T : aF) (hT : Pl T) (d a b c kk e : Int) (hs : s.out.length ≤ 900000) (hj : s.jumps.length ≤ 900000) : bM (aR.f G (k + 11)) [BX, WI.v ⟨9, d, a, b, c, kk⟩, I6 e] (fY s T) = some (.tup [], fY (s.one ⟨9, d, a, b, c, kk⟩ e) T) := by
 apply jQ
 rw [aR.step]
 unfold aR.c
 rw [iK]
 have b0 := wx (⟨9, d, a, b, c, kk⟩ : WI)
 have l0 : ∀ H, aC G false 1 (.rp false (WI.v ⟨9, d, a, b, c, kk⟩) 0) H = some (.int .i64 9) := wl0 G (⟨9, d, a, b, c, kk⟩ : WI)
 have l1 : ∀ H, aC G false 1 (.rp false (WI.v ⟨9, d, a, b, c, kk⟩) 1) H = some (I6 d) := wl1 G (⟨9, d, a, b, c, kk⟩ : WI)
 have l2 : ∀ H, aC G false 1 (.rp false (WI.v ⟨9, d, a, b, c, kk⟩) 2) H = some (I6 a) := wl2 G (⟨9, d, a, b, c, kk⟩ : WI)
 have l3 : ∀ H, aC G false 1 (.rp false (WI.v ⟨9, d, a, b, c, kk⟩) 3) H = some (I6 b) := wl3 G (⟨9, d, a, b, c, kk⟩ : WI)
 have l4 : ∀ H, aC G false 1 (.rp false (WI.v ⟨9, d, a, b, c, kk⟩) 4) H = some (I6 c) := wl4 G (⟨9, d, a, b, c, kk⟩ : WI)
 have l5 : ∀ H, aC G false 1 (.rp false (WI.v ⟨9, d, a, b, c, kk⟩) 5) H = some (I6 kk) := wl5 G (⟨9, d, a, b, c, kk⟩ : WI)
 have l6 := wl6 G (⟨9, d, a, b, c, kk⟩ : WI)
 have c1 : bM (bV.f G (k + 10)) [BX, .int .i64 7, WI.v ⟨9, d, a, b, c, kk⟩] (fY s T) = some (.tup [], fY (s.one ⟨9, d, a, b, c, kk⟩ e) T) := nE G (k + 8) s T hT 7 (⟨9, d, a, b, c, kk⟩ : WI) (by omega)
 have fin := oW (s.one ⟨9, d, a, b, c, kk⟩ e) T hT
 generalize WI.v ⟨9, d, a, b, c, kk⟩ = wv at *
 refine eZ ?_
 have fx := aPQ b0 <| aPQ l0 <| aPQ l1 <| aPQ l2 <| aPQ l3 <| aPQ l4 <| aPQ l5 <| aPQ l6 <| c1
 refine kM ?_
 exact oF fin
theorem aNk (G : aG) (k : Nat) (s : KS) (T : aF) (hT : Pl T) (d a b c kk e : Int) (hs : s.out.length ≤ 900000) (hj : s.jumps.length ≤ 900000) : bM (aR.f G (k + 11)) [BX, WI.v ⟨10, d, a, b, c, kk⟩, I6 e] (fY s T) = some (.tup [], fY (s.one ⟨10, d, a, b, c, kk⟩ e) T) := by
 apply jQ
 rw [aR.step]
 unfold aR.c
 rw [iK]
 have b0 := wx (⟨10, d, a, b, c, kk⟩ : WI)
 have l0 : ∀ H, aC G false 1 (.rp false (WI.v ⟨10, d, a, b, c, kk⟩) 0) H = some (.int .i64 10) := wl0 G (⟨10, d, a, b, c, kk⟩ : WI)
 have l1 : ∀ H, aC G false 1 (.rp false (WI.v ⟨10, d, a, b, c, kk⟩) 1) H = some (I6 d) := wl1 G (⟨10, d, a, b, c, kk⟩ : WI)
 have l2 : ∀ H, aC G false 1 (.rp false (WI.v ⟨10, d, a, b, c, kk⟩) 2) H = some (I6 a) := wl2 G (⟨10, d, a, b, c, kk⟩ : WI)
 have l3 : ∀ H, aC G false 1 (.rp false (WI.v ⟨10, d, a, b, c, kk⟩) 3) H = some (I6 b) := wl3 G (⟨10, d, a, b, c, kk⟩ : WI)
 have l4 : ∀ H, aC G false 1 (.rp false (WI.v ⟨10, d, a, b, c, kk⟩) 4) H = some (I6 c) := wl4 G (⟨10, d, a, b, c, kk⟩ : WI)
 have l5 : ∀ H, aC G false 1 (.rp false (WI.v ⟨10, d, a, b, c, kk⟩) 5) H = some (I6 kk) := wl5 G (⟨10, d, a, b, c, kk⟩ : WI)
 have l6 := wl6 G (⟨10, d, a, b, c, kk⟩ : WI)
 have c1 : bM (cQ.f G (k + 10)) [BX, .int .i64 12, WI.v ⟨10, d, a, b, c, kk⟩] (fY s T) = some (.tup [], fY (s.one ⟨10, d, a, b, c, kk⟩ e) T) := uC G (k + 8) s T hT 12 (⟨10, d, a, b, c, kk⟩ : WI) (by omega)
 have fin := oW (s.one ⟨10, d, a, b, c, kk⟩ e) T hT
 generalize WI.v ⟨10, d, a, b, c, kk⟩ = wv at *
 refine eZ ?_
 have fx := aPQ b0 <| aPQ l0 <| aPQ l1 <| aPQ l2 <| aPQ l3 <| aPQ l4 <| aPQ l5 <| aPQ l6 <| c1
 refine kM ?_
 exact oF fin
theorem aMN (G : aG) (k : Nat) (s : KS) (T : aF) (hT : Pl T) (d a b c kk e : Int) (hs : s.out.length ≤ 900000) (hj : s.jumps.length ≤ 900000) : bM (aR.f G (k + 11)) [BX, WI.v ⟨11, d, a, b, c, kk⟩, I6 e] (fY s T) = some (.tup [], fY (s.one ⟨11, d, a, b, c, kk⟩ e) T) := by
 apply jQ
 rw [aR.step]
 unfold aR.c
 rw [iK]
 have b0 := wx (⟨11, d, a, b, c, kk⟩ : WI)
 have l0 : ∀ H, aC G false 1 (.rp false (WI.v ⟨11, d, a, b, c, kk⟩) 0) H = some (.int .i64 11) := wl0 G (⟨11, d, a, b, c, kk⟩ : WI)
 have l1 : ∀ H, aC G false 1 (.rp false (WI.v ⟨11, d, a, b, c, kk⟩) 1) H = some (I6 d) := wl1 G (⟨11, d, a, b, c, kk⟩ : WI)
 have l2 : ∀ H, aC G false 1 (.rp false (WI.v ⟨11, d, a, b, c, kk⟩) 2) H = some (I6 a) := wl2 G (⟨11, d, a, b, c, kk⟩ : WI)
 have l3 : ∀ H, aC G false 1 (.rp false (WI.v ⟨11, d, a, b, c, kk⟩) 3) H = some (I6 b) := wl3 G (⟨11, d, a, b, c, kk⟩ : WI)
 have l4 : ∀ H, aC G false 1 (.rp false (WI.v ⟨11, d, a, b, c, kk⟩) 4) H = some (I6 c) := wl4 G (⟨11, d, a, b, c, kk⟩ : WI)
 have l5 : ∀ H, aC G false 1 (.rp false (WI.v ⟨11, d, a, b, c, kk⟩) 5) H = some (I6 kk) := wl5 G (⟨11, d, a, b, c, kk⟩ : WI)
 have l6 := wl6 G (⟨11, d, a, b, c, kk⟩ : WI)
 have c1 : bM (cQ.f G (k + 10)) [BX, .int .i64 13, WI.v ⟨11, d, a, b, c, kk⟩] (fY s T) = some (.tup [], fY (s.one ⟨11, d, a, b, c, kk⟩ e) T) := uC G (k + 8) s T hT 13 (⟨11, d, a, b, c, kk⟩ : WI) (by omega)
 have fin := oW (s.one ⟨11, d, a, b, c, kk⟩ e) T hT
 generalize WI.v ⟨11, d, a, b, c, kk⟩ = wv at *
 refine eZ ?_
 have fx := aPQ b0 <| aPQ l0 <| aPQ l1 <| aPQ l2 <| aPQ l3 <| aPQ l4 <| aPQ l5 <| aPQ l6 <| c1
 refine kM ?_
 exact oF fin
theorem aNu (G : aG) (k : Nat) (s : KS) (T : aF) (hT : Pl T) (d a b c kk e : Int) (hs : s.out.length ≤ 900000) (hj : s.jumps.length ≤ 900000) : bM (aR.f G (k + 11)) [BX, WI.v ⟨12, d, a, b, c, kk⟩, I6 e] (fY s T) = some (.tup [], fY (s.one ⟨12, d, a, b, c, kk⟩ e) T) := by
 apply jQ
 rw [aR.step]
 unfold aR.c
 rw [iK]
 have b0 := wx (⟨12, d, a, b, c, kk⟩ : WI)
 have l0 : ∀ H, aC G false 1 (.rp false (WI.v ⟨12, d, a, b, c, kk⟩) 0) H = some (.int .i64 12) := wl0 G (⟨12, d, a, b, c, kk⟩ : WI)
 have l1 : ∀ H, aC G false 1 (.rp false (WI.v ⟨12, d, a, b, c, kk⟩) 1) H = some (I6 d) := wl1 G (⟨12, d, a, b, c, kk⟩ : WI)
 have l2 : ∀ H, aC G false 1 (.rp false (WI.v ⟨12, d, a, b, c, kk⟩) 2) H = some (I6 a) := wl2 G (⟨12, d, a, b, c, kk⟩ : WI)
 have l3 : ∀ H, aC G false 1 (.rp false (WI.v ⟨12, d, a, b, c, kk⟩) 3) H = some (I6 b) := wl3 G (⟨12, d, a, b, c, kk⟩ : WI)
 have l4 : ∀ H, aC G false 1 (.rp false (WI.v ⟨12, d, a, b, c, kk⟩) 4) H = some (I6 c) := wl4 G (⟨12, d, a, b, c, kk⟩ : WI)
 have l5 : ∀ H, aC G false 1 (.rp false (WI.v ⟨12, d, a, b, c, kk⟩) 5) H = some (I6 kk) := wl5 G (⟨12, d, a, b, c, kk⟩ : WI)
 have l6 := wl6 G (⟨12, d, a, b, c, kk⟩ : WI)
 have c1 : bM (cQ.f G (k + 10)) [BX, .int .i64 14, WI.v ⟨12, d, a, b, c, kk⟩] (fY s T) = some (.tup [], fY (s.one ⟨12, d, a, b, c, kk⟩ e) T) := uC G (k + 8) s T hT 14 (⟨12, d, a, b, c, kk⟩ : WI) (by omega)
 have fin := oW (s.one ⟨12, d, a, b, c, kk⟩ e) T hT
 generalize WI.v ⟨12, d, a, b, c, kk⟩ = wv at *
 refine eZ ?_
 have fx := aPQ b0 <| aPQ l0 <| aPQ l1 <| aPQ l2 <| aPQ l3 <| aPQ l4 <| aPQ l5 <| aPQ l6 <| c1
 refine kM ?_
 exact oF fin
theorem aNP (G : aG) (k : Nat) (s : KS) (T : aF) (hT : Pl T) (d a b c kk e : Int) (hs : s.out.length ≤ 900000) (hj : s.jumps.length ≤ 900000) : bM (aR.f G (k + 11)) [BX, WI.v ⟨13, d, a, b, c, kk⟩, I6 e] (fY s T) = some (.tup [], fY (s.one ⟨13, d, a, b, c, kk⟩ e) T) := by
 apply jQ
 rw [aR.step]
 unfold aR.c
 rw [iK]
 have b0 := wx (⟨13, d, a, b, c, kk⟩ : WI)
 have l0 : ∀ H, aC G false 1 (.rp false (WI.v ⟨13, d, a, b, c, kk⟩) 0) H = some (.int .i64 13) := wl0 G (⟨13, d, a, b, c, kk⟩ : WI)
 have l1 : ∀ H, aC G false 1 (.rp false (WI.v ⟨13, d, a, b, c, kk⟩) 1) H = some (I6 d) := wl1 G (⟨13, d, a, b, c, kk⟩ : WI)
 have l2 : ∀ H, aC G false 1 (.rp false (WI.v ⟨13, d, a, b, c, kk⟩) 2) H = some (I6 a) := wl2 G (⟨13, d, a, b, c, kk⟩ : WI)
 have l3 : ∀ H, aC G false 1 (.rp false (WI.v ⟨13, d, a, b, c, kk⟩) 3) H = some (I6 b) := wl3 G (⟨13, d, a, b, c, kk⟩ : WI)
 have l4 : ∀ H, aC G false 1 (.rp false (WI.v ⟨13, d, a, b, c, kk⟩) 4) H = some (I6 c) := wl4 G (⟨13, d, a, b, c, kk⟩ : WI)
 have l5 : ∀ H, aC G false 1 (.rp false (WI.v ⟨13, d, a, b, c, kk⟩) 5) H = some (I6 kk) := wl5 G (⟨13, d, a, b, c, kk⟩ : WI)
 have l6 := wl6 G (⟨13, d, a, b, c, kk⟩ : WI)
 have q1 : aY [(0, 1), (1, 1), (2, 1), (3, 1), (4, 1), (5, 1)] [(.int .i64 0), (.int .i64 0), (.int .i64 0), (.int .i64 0), (.int .i64 0), (.int .i64 0)] [(0, .int .i64 15), (2, I6 a), (3, I6 b)] = some (MI.v ⟨15, 0, a, b, 0, 0⟩) := rfl
 have q2 : aY [(0, 1), (1, 1), (2, 1), (3, 1), (4, 1), (5, 1)] [(.int .i64 0), (.int .i64 0), (.int .i64 0), (.int .i64 0), (.int .i64 0), (.int .i64 0)] [(0, .int .i64 17), (1, I6 d), (4, .int .i64 3)] = some (MI.v ⟨17, d, 0, 0, 3, 0⟩) := rfl
 have c1 := aFy s T ⟨15, 0, a, b, 0, 0⟩ ⟨17, d, 0, 0, 3, 0⟩
 have c2 := aNj G (k + 9) s T hT ⟨15, 0, a, b, 0, 0⟩ ⟨17, d, 0, 0, 3, 0⟩ (by omega)
 have es : s.one ⟨13, d, a, b, c, kk⟩ e = s.put [⟨15, 0, a, b, 0, 0⟩, ⟨17, d, 0, 0, 3, 0⟩] := rfl
 rw [es]
 have fin := yV (s.put [⟨15, 0, a, b, 0, 0⟩, ⟨17, d, 0, 0, 3, 0⟩]) T [⟨57, 6, dE [⟨15, 0, a, b, 0, 0⟩, ⟨17, d, 0, 0, 3, 0⟩]⟩] hT
 generalize (⟨15, 0, a, b, 0, 0⟩ : MI) = mi at *
 generalize (⟨17, d, 0, 0, 3, 0⟩ : MI) = mj at *
 generalize T ++ [⟨57, 6, dE [mi, mj]⟩] = T1 at *
 generalize WI.v ⟨13, d, a, b, c, kk⟩ = wv at *
 refine eZ ?_
 have fx := aPQ b0 <| aPQ l0 <| aPQ l1 <| aPQ l2 <| aPQ l3 <| aPQ l4 <| aPQ l5 <| aPQ l6 <| aPQ q1 <| aPQ q2 <| aPQ c1 <| c2
 refine kM ?_
 exact oF fin
theorem aMs (G : aG) (k : Nat) (s : KS) (T : aF) (hT : Pl T) (d a b c kk e : Int) (hs : s.out.length ≤ 900000) (hj : s.jumps.length ≤ 900000) : bM (aR.f G (k + 11)) [BX, WI.v ⟨14, d, a, b, c, kk⟩, I6 e] (fY s T) = some (.tup [], fY (s.one ⟨14, d, a, b, c, kk⟩ e) T) := by
 apply jQ
 rw [aR.step]
 unfold aR.c
 rw [iK]
 have b0 := wx (⟨14, d, a, b, c, kk⟩ : WI)
 have l0 : ∀ H, aC G false 1 (.rp false (WI.v ⟨14, d, a, b, c, kk⟩) 0) H = some (.int .i64 14) := wl0 G (⟨14, d, a, b, c, kk⟩ : WI)
 have l1 : ∀ H, aC G false 1 (.rp false (WI.v ⟨14, d, a, b, c, kk⟩) 1) H = some (I6 d) := wl1 G (⟨14, d, a, b, c, kk⟩ : WI)
 have l2 : ∀ H, aC G false 1 (.rp false (WI.v ⟨14, d, a, b, c, kk⟩) 2) H = some (I6 a) := wl2 G (⟨14, d, a, b, c, kk⟩ : WI)
 have l3 : ∀ H, aC G false 1 (.rp false (WI.v ⟨14, d, a, b, c, kk⟩) 3) H = some (I6 b) := wl3 G (⟨14, d, a, b, c, kk⟩ : WI)
 have l4 : ∀ H, aC G false 1 (.rp false (WI.v ⟨14, d, a, b, c, kk⟩) 4) H = some (I6 c) := wl4 G (⟨14, d, a, b, c, kk⟩ : WI)
 have l5 : ∀ H, aC G false 1 (.rp false (WI.v ⟨14, d, a, b, c, kk⟩) 5) H = some (I6 kk) := wl5 G (⟨14, d, a, b, c, kk⟩ : WI)
 have l6 := wl6 G (⟨14, d, a, b, c, kk⟩ : WI)
 have q1 : aY [(0, 1), (1, 1), (2, 1), (3, 1), (4, 1), (5, 1)] [(.int .i64 0), (.int .i64 0), (.int .i64 0), (.int .i64 0), (.int .i64 0), (.int .i64 0)] [(0, .int .i64 15), (2, I6 a), (3, .int .i64 31)] = some (MI.v ⟨15, 0, a, 31, 0, 0⟩) := rfl
 have q2 : aY [(0, 1), (1, 1), (2, 1), (3, 1), (4, 1), (5, 1)] [(.int .i64 0), (.int .i64 0), (.int .i64 0), (.int .i64 0), (.int .i64 0), (.int .i64 0)] [(0, .int .i64 16), (1, I6 d), (2, I6 b), (3, I6 c), (4, .int .i64 1)] = some (MI.v ⟨16, d, b, c, 1, 0⟩) := rfl
 have c1 := aFy s T ⟨15, 0, a, 31, 0, 0⟩ ⟨16, d, b, c, 1, 0⟩
 have c2 := aNj G (k + 9) s T hT ⟨15, 0, a, 31, 0, 0⟩ ⟨16, d, b, c, 1, 0⟩ (by omega)
 have es : s.one ⟨14, d, a, b, c, kk⟩ e = s.put [⟨15, 0, a, 31, 0, 0⟩, ⟨16, d, b, c, 1, 0⟩] := rfl
 rw [es]
 have fin := yV (s.put [⟨15, 0, a, 31, 0, 0⟩, ⟨16, d, b, c, 1, 0⟩]) T [⟨57, 6, dE [⟨15, 0, a, 31, 0, 0⟩, ⟨16, d, b, c, 1, 0⟩]⟩] hT
 generalize (⟨15, 0, a, 31, 0, 0⟩ : MI) = mi at *
 generalize (⟨16, d, b, c, 1, 0⟩ : MI) = mj at *
 generalize T ++ [⟨57, 6, dE [mi, mj]⟩] = T1 at *
 generalize WI.v ⟨14, d, a, b, c, kk⟩ = wv at *
 refine eZ ?_
 have fx := aPQ b0 <| aPQ l0 <| aPQ l1 <| aPQ l2 <| aPQ l3 <| aPQ l4 <| aPQ l5 <| aPQ l6 <| aPQ q1 <| aPQ q2 <| aPQ c1 <| c2
 refine kM ?_
 exact oF fin
theorem aNJ (G : aG) (k : Nat) (s : KS) (T : aF) (hT : Pl T) (d a b c kk e : Int) (hs : s.out.length ≤ 900000) (hj : s.jumps.length ≤ 900000) : bM (aR.f G (k + 11)) [BX, WI.v ⟨15, d, a, b, c, kk⟩, I6 e] (fY s T) = some (.tup [], fY (s.one ⟨15, d, a, b, c, kk⟩ e) T) := by
 apply jQ
 rw [aR.step]
 unfold aR.c
 rw [iK]
 have b0 := wx (⟨15, d, a, b, c, kk⟩ : WI)
 have l0 : ∀ H, aC G false 1 (.rp false (WI.v ⟨15, d, a, b, c, kk⟩) 0) H = some (.int .i64 15) := wl0 G (⟨15, d, a, b, c, kk⟩ : WI)
 have l1 : ∀ H, aC G false 1 (.rp false (WI.v ⟨15, d, a, b, c, kk⟩) 1) H = some (I6 d) := wl1 G (⟨15, d, a, b, c, kk⟩ : WI)
 have l2 : ∀ H, aC G false 1 (.rp false (WI.v ⟨15, d, a, b, c, kk⟩) 2) H = some (I6 a) := wl2 G (⟨15, d, a, b, c, kk⟩ : WI)
 have l3 : ∀ H, aC G false 1 (.rp false (WI.v ⟨15, d, a, b, c, kk⟩) 3) H = some (I6 b) := wl3 G (⟨15, d, a, b, c, kk⟩ : WI)
 have l4 : ∀ H, aC G false 1 (.rp false (WI.v ⟨15, d, a, b, c, kk⟩) 4) H = some (I6 c) := wl4 G (⟨15, d, a, b, c, kk⟩ : WI)
 have l5 : ∀ H, aC G false 1 (.rp false (WI.v ⟨15, d, a, b, c, kk⟩) 5) H = some (I6 kk) := wl5 G (⟨15, d, a, b, c, kk⟩ : WI)
 have l6 := wl6 G (⟨15, d, a, b, c, kk⟩ : WI)
 have c1 : bM (dC.f G (k + 10)) [BX, .int .i64 18, I6 d, WI.v ⟨15, d, a, b, c, kk⟩, I6 e] (fY s T) = some (.tup [], fY (s.one ⟨15, d, a, b, c, kk⟩ e) T) := aAD G k s T hT 18 d (⟨15, d, a, b, c, kk⟩ : WI) e hs hj
 have fin := oW (s.one ⟨15, d, a, b, c, kk⟩ e) T hT
 generalize WI.v ⟨15, d, a, b, c, kk⟩ = wv at *
 refine eZ ?_
 have fx := aPQ b0 <| aPQ l0 <| aPQ l1 <| aPQ l2 <| aPQ l3 <| aPQ l4 <| aPQ l5 <| aPQ l6 <| c1
 refine kM ?_
 exact oF fin
theorem aNa (G : aG) (k : Nat) (s : KS) (T : aF) (hT : Pl T) (d a b c kk e : Int) (hs : s.out.length ≤ 900000) (hj : s.jumps.length ≤ 900000) : bM (aR.f G (k + 11)) [BX, WI.v ⟨16, d, a, b, c, kk⟩, I6 e] (fY s T) = some (.tup [], fY (s.one ⟨16, d, a, b, c, kk⟩ e) T) := by
 apply jQ
 rw [aR.step]
 unfold aR.c
 rw [iK]
 have b0 := wx (⟨16, d, a, b, c, kk⟩ : WI)
 have l0 : ∀ H, aC G false 1 (.rp false (WI.v ⟨16, d, a, b, c, kk⟩) 0) H = some (.int .i64 16) := wl0 G (⟨16, d, a, b, c, kk⟩ : WI)
 have l1 : ∀ H, aC G false 1 (.rp false (WI.v ⟨16, d, a, b, c, kk⟩) 1) H = some (I6 d) := wl1 G (⟨16, d, a, b, c, kk⟩ : WI)
 have l2 : ∀ H, aC G false 1 (.rp false (WI.v ⟨16, d, a, b, c, kk⟩) 2) H = some (I6 a) := wl2 G (⟨16, d, a, b, c, kk⟩ : WI)
 have l3 : ∀ H, aC G false 1 (.rp false (WI.v ⟨16, d, a, b, c, kk⟩) 3) H = some (I6 b) := wl3 G (⟨16, d, a, b, c, kk⟩ : WI)
 have l4 : ∀ H, aC G false 1 (.rp false (WI.v ⟨16, d, a, b, c, kk⟩) 4) H = some (I6 c) := wl4 G (⟨16, d, a, b, c, kk⟩ : WI)
 have l5 : ∀ H, aC G false 1 (.rp false (WI.v ⟨16, d, a, b, c, kk⟩) 5) H = some (I6 kk) := wl5 G (⟨16, d, a, b, c, kk⟩ : WI)
 have l6 := wl6 G (⟨16, d, a, b, c, kk⟩ : WI)
 have c1 : bM (dC.f G (k + 10)) [BX, .int .i64 19, I6 b, WI.v ⟨16, d, a, b, c, kk⟩, I6 e] (fY s T) = some (.tup [], fY (s.one ⟨16, d, a, b, c, kk⟩ e) T) := aAD G k s T hT 19 b (⟨16, d, a, b, c, kk⟩ : WI) e hs hj
 have fin := oW (s.one ⟨16, d, a, b, c, kk⟩ e) T hT
 generalize WI.v ⟨16, d, a, b, c, kk⟩ = wv at *
 refine eZ ?_
 have fx := aPQ b0 <| aPQ l0 <| aPQ l1 <| aPQ l2 <| aPQ l3 <| aPQ l4 <| aPQ l5 <| aPQ l6 <| c1
 refine kM ?_
 exact oF fin
theorem aNN (G : aG) (k : Nat) (s : KS) (T : aF) (hT : Pl T) (d a b c kk e : Int) (hs : s.out.length ≤ 900000) (hj : s.jumps.length ≤ 900000) : bM (aR.f G (k + 11)) [BX, WI.v ⟨17, d, a, b, c, kk⟩, I6 e] (fY s T) = some (.tup [], fY (s.one ⟨17, d, a, b, c, kk⟩ e) T) := by
 apply jQ
 rw [aR.step]
 unfold aR.c
 rw [iK]
 have b0 := wx (⟨17, d, a, b, c, kk⟩ : WI)
 have l0 : ∀ H, aC G false 1 (.rp false (WI.v ⟨17, d, a, b, c, kk⟩) 0) H = some (.int .i64 17) := wl0 G (⟨17, d, a, b, c, kk⟩ : WI)
 have l1 : ∀ H, aC G false 1 (.rp false (WI.v ⟨17, d, a, b, c, kk⟩) 1) H = some (I6 d) := wl1 G (⟨17, d, a, b, c, kk⟩ : WI)
 have l2 : ∀ H, aC G false 1 (.rp false (WI.v ⟨17, d, a, b, c, kk⟩) 2) H = some (I6 a) := wl2 G (⟨17, d, a, b, c, kk⟩ : WI)
 have l3 : ∀ H, aC G false 1 (.rp false (WI.v ⟨17, d, a, b, c, kk⟩) 3) H = some (I6 b) := wl3 G (⟨17, d, a, b, c, kk⟩ : WI)
 have l4 : ∀ H, aC G false 1 (.rp false (WI.v ⟨17, d, a, b, c, kk⟩) 4) H = some (I6 c) := wl4 G (⟨17, d, a, b, c, kk⟩ : WI)
 have l5 : ∀ H, aC G false 1 (.rp false (WI.v ⟨17, d, a, b, c, kk⟩) 5) H = some (I6 kk) := wl5 G (⟨17, d, a, b, c, kk⟩ : WI)
 have l6 := wl6 G (⟨17, d, a, b, c, kk⟩ : WI)
 have q1 : aY [(0, 1), (1, 1), (2, 1), (3, 1), (4, 1), (5, 1)] [(.int .i64 0), (.int .i64 0), (.int .i64 0), (.int .i64 0), (.int .i64 0), (.int .i64 0)] [(0, .int .i64 20)] = some (MI.v ⟨20, 0, 0, 0, 0, 0⟩) := rfl
 have c1 : bM (cK.f G (k + 10)) [BX, MI.v ⟨20, 0, 0, 0, 0, 0⟩, I6 kk] (fY s T) = some (.tup [], fY (s.one ⟨17, d, a, b, c, kk⟩ e) T) := sP G (k + 8) s T hT ⟨20, 0, 0, 0, 0, 0⟩ kk (by omega) (by omega)
 have fin := oW (s.one ⟨17, d, a, b, c, kk⟩ e) T hT
 generalize MI.v ⟨20, 0, 0, 0, 0, 0⟩ = mv at *
 generalize WI.v ⟨17, d, a, b, c, kk⟩ = wv at *
 refine eZ ?_
 have fx := aPQ b0 <| aPQ l0 <| aPQ l1 <| aPQ l2 <| aPQ l3 <| aPQ l4 <| aPQ l5 <| aPQ l6 <| aPQ q1 <| c1
 refine kM ?_
 exact oF fin
theorem aMG (G : aG) (k : Nat) (s : KS) (T : aF) (hT : Pl T) (d a b c kk e : Int) (hs : s.out.length ≤ 900000) (hj : s.jumps.length ≤ 900000) : bM (aR.f G (k + 11)) [BX, WI.v ⟨18, d, a, b, c, kk⟩, I6 e] (fY s T) = some (.tup [], fY (s.one ⟨18, d, a, b, c, kk⟩ e) T) := by
 apply jQ
 rw [aR.step]
 unfold aR.c
 rw [iK]
 have b0 := wx (⟨18, d, a, b, c, kk⟩ : WI)
 have l0 : ∀ H, aC G false 1 (.rp false (WI.v ⟨18, d, a, b, c, kk⟩) 0) H = some (.int .i64 18) := wl0 G (⟨18, d, a, b, c, kk⟩ : WI)
 have l1 : ∀ H, aC G false 1 (.rp false (WI.v ⟨18, d, a, b, c, kk⟩) 1) H = some (I6 d) := wl1 G (⟨18, d, a, b, c, kk⟩ : WI)
 have l2 : ∀ H, aC G false 1 (.rp false (WI.v ⟨18, d, a, b, c, kk⟩) 2) H = some (I6 a) := wl2 G (⟨18, d, a, b, c, kk⟩ : WI)
 have l3 : ∀ H, aC G false 1 (.rp false (WI.v ⟨18, d, a, b, c, kk⟩) 3) H = some (I6 b) := wl3 G (⟨18, d, a, b, c, kk⟩ : WI)
 have l4 : ∀ H, aC G false 1 (.rp false (WI.v ⟨18, d, a, b, c, kk⟩) 4) H = some (I6 c) := wl4 G (⟨18, d, a, b, c, kk⟩ : WI)
 have l5 : ∀ H, aC G false 1 (.rp false (WI.v ⟨18, d, a, b, c, kk⟩) 5) H = some (I6 kk) := wl5 G (⟨18, d, a, b, c, kk⟩ : WI)
 have l6 := wl6 G (⟨18, d, a, b, c, kk⟩ : WI)
 have q1 : aY [(0, 1), (1, 1), (2, 1), (3, 1), (4, 1), (5, 1)] [(.int .i64 0), (.int .i64 0), (.int .i64 0), (.int .i64 0), (.int .i64 0), (.int .i64 0)] [(0, .int .i64 22), (1, I6 a)] = some (MI.v ⟨22, a, 0, 0, 0, 0⟩) := rfl
 have c1 : bM (cK.f G (k + 10)) [BX, MI.v ⟨22, a, 0, 0, 0, 0⟩, I6 kk] (fY s T) = some (.tup [], fY (s.one ⟨18, d, a, b, c, kk⟩ e) T) := sP G (k + 8) s T hT ⟨22, a, 0, 0, 0, 0⟩ kk (by omega) (by omega)
 have fin := oW (s.one ⟨18, d, a, b, c, kk⟩ e) T hT
 generalize MI.v ⟨22, a, 0, 0, 0, 0⟩ = mv at *
 generalize WI.v ⟨18, d, a, b, c, kk⟩ = wv at *
 refine eZ ?_
 have fx := aPQ b0 <| aPQ l0 <| aPQ l1 <| aPQ l2 <| aPQ l3 <| aPQ l4 <| aPQ l5 <| aPQ l6 <| aPQ q1 <| c1
 refine kM ?_
 exact oF fin
theorem aMt (G : aG) (k : Nat) (s : KS) (T : aF) (hT : Pl T) (d a b c kk e : Int) (hs : s.out.length ≤ 900000) (hj : s.jumps.length ≤ 900000) : bM (aR.f G (k + 11)) [BX, WI.v ⟨19, d, a, b, c, kk⟩, I6 e] (fY s T) = some (.tup [], fY (s.one ⟨19, d, a, b, c, kk⟩ e) T) := by
 apply jQ
 rw [aR.step]
 unfold aR.c
 rw [iK]
 have b0 := wx (⟨19, d, a, b, c, kk⟩ : WI)
 have l0 : ∀ H, aC G false 1 (.rp false (WI.v ⟨19, d, a, b, c, kk⟩) 0) H = some (.int .i64 19) := wl0 G (⟨19, d, a, b, c, kk⟩ : WI)
 have l1 : ∀ H, aC G false 1 (.rp false (WI.v ⟨19, d, a, b, c, kk⟩) 1) H = some (I6 d) := wl1 G (⟨19, d, a, b, c, kk⟩ : WI)
 have l2 : ∀ H, aC G false 1 (.rp false (WI.v ⟨19, d, a, b, c, kk⟩) 2) H = some (I6 a) := wl2 G (⟨19, d, a, b, c, kk⟩ : WI)
 have l3 : ∀ H, aC G false 1 (.rp false (WI.v ⟨19, d, a, b, c, kk⟩) 3) H = some (I6 b) := wl3 G (⟨19, d, a, b, c, kk⟩ : WI)
 have l4 : ∀ H, aC G false 1 (.rp false (WI.v ⟨19, d, a, b, c, kk⟩) 4) H = some (I6 c) := wl4 G (⟨19, d, a, b, c, kk⟩ : WI)
 have l5 : ∀ H, aC G false 1 (.rp false (WI.v ⟨19, d, a, b, c, kk⟩) 5) H = some (I6 kk) := wl5 G (⟨19, d, a, b, c, kk⟩ : WI)
 have l6 := wl6 G (⟨19, d, a, b, c, kk⟩ : WI)
 have q1 : aY [(0, 1), (1, 1), (2, 1), (3, 1), (4, 1), (5, 1)] [(.int .i64 0), (.int .i64 0), (.int .i64 0), (.int .i64 0), (.int .i64 0), (.int .i64 0)] [(0, .int .i64 23), (1, I6 a)] = some (MI.v ⟨23, a, 0, 0, 0, 0⟩) := rfl
 have c1 : bM (cK.f G (k + 10)) [BX, MI.v ⟨23, a, 0, 0, 0, 0⟩, I6 kk] (fY s T) = some (.tup [], fY (s.one ⟨19, d, a, b, c, kk⟩ e) T) := sP G (k + 8) s T hT ⟨23, a, 0, 0, 0, 0⟩ kk (by omega) (by omega)
 have fin := oW (s.one ⟨19, d, a, b, c, kk⟩ e) T hT
 generalize MI.v ⟨23, a, 0, 0, 0, 0⟩ = mv at *
 generalize WI.v ⟨19, d, a, b, c, kk⟩ = wv at *
 refine eZ ?_
 have fx := aPQ b0 <| aPQ l0 <| aPQ l1 <| aPQ l2 <| aPQ l3 <| aPQ l4 <| aPQ l5 <| aPQ l6 <| aPQ q1 <| c1
 refine kM ?_
 exact oF fin
theorem aMn (G : aG) (k : Nat) (s : KS) (T : aF) (hT : Pl T) (d a b c kk e : Int) (hs : s.out.length ≤ 900000) (hj : s.jumps.length ≤ 900000) : bM (aR.f G (k + 11)) [BX, WI.v ⟨20, d, a, b, c, kk⟩, I6 e] (fY s T) = some (.tup [], fY (s.one ⟨20, d, a, b, c, kk⟩ e) T) := by
 apply jQ
 rw [aR.step]
 unfold aR.c
 rw [iK]
 have b0 := wx (⟨20, d, a, b, c, kk⟩ : WI)
 have l0 : ∀ H, aC G false 1 (.rp false (WI.v ⟨20, d, a, b, c, kk⟩) 0) H = some (.int .i64 20) := wl0 G (⟨20, d, a, b, c, kk⟩ : WI)
 have l1 : ∀ H, aC G false 1 (.rp false (WI.v ⟨20, d, a, b, c, kk⟩) 1) H = some (I6 d) := wl1 G (⟨20, d, a, b, c, kk⟩ : WI)
 have l2 : ∀ H, aC G false 1 (.rp false (WI.v ⟨20, d, a, b, c, kk⟩) 2) H = some (I6 a) := wl2 G (⟨20, d, a, b, c, kk⟩ : WI)
 have l3 : ∀ H, aC G false 1 (.rp false (WI.v ⟨20, d, a, b, c, kk⟩) 3) H = some (I6 b) := wl3 G (⟨20, d, a, b, c, kk⟩ : WI)
 have l4 : ∀ H, aC G false 1 (.rp false (WI.v ⟨20, d, a, b, c, kk⟩) 4) H = some (I6 c) := wl4 G (⟨20, d, a, b, c, kk⟩ : WI)
 have l5 : ∀ H, aC G false 1 (.rp false (WI.v ⟨20, d, a, b, c, kk⟩) 5) H = some (I6 kk) := wl5 G (⟨20, d, a, b, c, kk⟩ : WI)
 have l6 := wl6 G (⟨20, d, a, b, c, kk⟩ : WI)
 have q1 : aY [(0, 1), (1, 1), (2, 1), (3, 1), (4, 1), (5, 1)] [(.int .i64 0), (.int .i64 0), (.int .i64 0), (.int .i64 0), (.int .i64 0), (.int .i64 0)] [(0, .int .i64 24), (5, I6 kk)] = some (MI.v ⟨24, 0, 0, 0, 0, kk⟩) := rfl
 have c1 := qL s T ⟨24, 0, 0, 0, 0, kk⟩
 have c2 := aCY G (k + 9) s T hT ⟨24, 0, 0, 0, 0, kk⟩ (by omega)
 have es : s.one ⟨20, d, a, b, c, kk⟩ e = s.put [⟨24, 0, 0, 0, 0, kk⟩] := rfl
 rw [es]
 have fin := yV (s.put [⟨24, 0, 0, 0, 0, kk⟩]) T [⟨57, 6, dE [⟨24, 0, 0, 0, 0, kk⟩]⟩] hT
 generalize (⟨24, 0, 0, 0, 0, kk⟩ : MI) = mi at *
 generalize T ++ [⟨57, 6, dE [mi]⟩] = T1 at *
 generalize WI.v ⟨20, d, a, b, c, kk⟩ = wv at *
 refine eZ ?_
 have fx := aPQ b0 <| aPQ l0 <| aPQ l1 <| aPQ l2 <| aPQ l3 <| aPQ l4 <| aPQ l5 <| aPQ l6 <| aPQ q1 <| aPQ c1 <| c2
 refine kM ?_
 exact oF fin
theorem aIz (G : aG) (k : Nat) (s : KS) (T : aF) (hT : Pl T) (i : WI) (ho : 1 ≤ i.op ∧ i.op ≤ 20) (e : Int) (hs : s.out.length ≤ 900000) (hj : s.jumps.length ≤ 900000) : bM (aR.f G (k + 11)) [BX, i.v, I6 e] (fY s T) = some (.tup [], fY (s.one i e) T) := by
 obtain ⟨op, d, a, b, c, kk⟩ := i
 simp only at ho
 have h : op = 1 ∨ op = 2 ∨ op = 3 ∨ op = 4 ∨ op = 5 ∨ op = 6 ∨ op = 7 ∨ op = 8 ∨ op = 9 ∨ op = 10 ∨ op = 11 ∨ op = 12 ∨ op = 13 ∨ op = 14 ∨ op = 15 ∨ op = 16 ∨ op = 17 ∨ op = 18 ∨ op = 19 ∨ op = 20 := by omega
 rcases h with rfl | rfl | rfl | rfl | rfl | rfl | rfl | rfl | rfl | rfl | rfl | rfl | rfl | rfl | rfl | rfl | rfl | rfl | rfl | rfl
 ·exact aOl G k s T hT d a b c kk e hs hj
 ·exact aNZ G k s T hT d a b c kk e hs hj
 ·exact aNY G k s T hT d a b c kk e hs hj
 ·exact aOg G k s T hT d a b c kk e hs hj
 ·exact aOt G k s T hT d a b c kk e hs hj
 ·exact aOC G k s T hT d a b c kk e hs hj
 ·exact aOr G k s T hT d a b c kk e hs hj
 ·exact aOG G k s T hT d a b c kk e hs hj
 ·exact aOA G k s T hT d a b c kk e hs hj
 ·exact aNk G k s T hT d a b c kk e hs hj
 ·exact aMN G k s T hT d a b c kk e hs hj
 ·exact aNu G k s T hT d a b c kk e hs hj
 ·exact aNP G k s T hT d a b c kk e hs hj
 ·exact aMs G k s T hT d a b c kk e hs hj
 ·exact aNJ G k s T hT d a b c kk e hs hj
 ·exact aNa G k s T hT d a b c kk e hs hj
 ·exact aNN G k s T hT d a b c kk e hs hj
 ·exact aMG G k s T hT d a b c kk e hs hj
 ·exact aMt G k s T hT d a b c kk e hs hj
 ·exact aMn G k s T hT d a b c kk e hs hj
def iE (ws : List WI) : List AV := ws.map WI.v
theorem kE (ws : List WI) : (iE ws).length = ws.length := by simp [iE]
theorem aFe (ws : List WI) (j : Nat) (h : j < ws.length) : (iE ws)[j]? = some (ws.getD j default).v := by
 unfold iE
 rw [List.getElem?_map, List.getElem?_eq_getElem h, List.getD_eq_getElem?_getD, List.getElem?_eq_getElem h]; rfl
def KS.mark (s : KS) : KS := { s with place := s.place ++ [s.out.length] }
def KS.run (e : Int) : List WI → KS → KS
 | [], s => s
 | w :: ws, s => KS.run e ws (s.mark.one w e)
theorem aBy (s : KS) (op r : Int) (i : WI) (e : Int) : (s.touch op r i e).out.length ≤ s.out.length + 10 ∧ (s.touch op r i e).jumps.length ≤ s.jumps.length + 1 ∧ (s.touch op r i e).place = s.place := by
 unfold KS.touch
 have := (kQ 28 (u64 i.k)).2
 by_cases h : i.k ≤ 4095
 ·simp only [if_pos h]
  simp [KS.jump, KS.put]
 ·simp only [if_neg h]
  simp [KS.jump, KS.put]; omega
def yW (s t : KS) : Prop := t.out.length ≤ s.out.length + 10 ∧ t.jumps.length ≤ s.jumps.length + 1 ∧ t.place = s.place
theorem aJq {s a b : KS} {c : Prop} [Decidable c] (ha : yW s a) (hb : yW s b) : yW s (if c then a else b) := by
 by_cases h : c
 ·rw [if_pos h]; exact ha
 ·rw [if_neg h]; exact hb
theorem aGW (s : KS) : yW s s := by unfold yW; simp
theorem aJw (s : KS) (l : List MI) (h : l.length ≤ 10) : yW s (s.put l) := by unfold yW; simp [KS.put]; omega
theorem aHB (s : KS) (i : MI) (t : Int) : yW s (s.jump i t) := by unfold yW; simp [KS.jump, KS.put]
theorem aIQ (s : KS) (i : WI) (e : Int) : yW s (s.one i e) := by
 have hc := (kQ i.d (u64 i.k)).2
 have ht : yW s (s.touch 18 i.d i e) := aBy s 18 i.d i e
 have ht2 : yW s (s.touch 19 i.b i e) := aBy s 19 i.b i e
 unfold KS.one
 repeat' first | exact ht | exact ht2 | exact aGW s | exact aHB s _ _ | refine aJq ?_ ?_ | exact aJw s _ (by first | (show 1 ≤ 10; decide) | (show 2 ≤ 10; decide) | omega)
theorem aLd (s : KS) (i : WI) (e : Int) : (s.one i e).out.length ≤ s.out.length + 10 ∧ (s.one i e).jumps.length ≤ s.jumps.length + 1 ∧ (s.one i e).place = s.place := aIQ s i e
section
variable (G : aG) (k : Nat) (self : cN) (bor : Bool) (ws : List WI) (r m : Int)
def cV (bor : Bool) (ws : List WI) (r m : Int) : AV := .agg [.ro bor (iE ws), I6 r, I6 m]
def xs8 (bor : Bool) (ws : List WI) (r m : Int) (j : Nat) : List AV := [.rp false (cV bor ws r m) 0, BX, .ro bor (iE ws), Nn ws.length, Nn j]
theorem jV (n : Nat) (l : List WI) : dH n (iE l) = true := lV n _ (fun _ => rfl) l
theorem aBI (j : Nat) : dH 5 (xs8 bor ws r m j) = true := by simp [xs8, cV, dH, cG, jV]
theorem aGB (hw : ∀ w ∈ ws, 1 ≤ w.op ∧ w.op ≤ 20) (hl : ws.length ≤ 10000) : ∀ (d j n : Nat) (s : KS) (X : aF), j + d = ws.length → d < n → s.out.length + 10 * d ≤ 800000 → s.jumps.length + d ≤ 800000 → s.place.length + d ≤ 800000 →
  gV (bX.l8 G (k + 11) 5 self) n (xs8 bor ws r m j) (fY s X) = some (.exit 0, xs8 bor ws r m ws.length, fY (s.run ws.length (ws.drop j)) [])
 | d, j, 0, s, X, h, hf, _, _, _ => by omega
 | 0, j, n + 1, s, X, h, hf, _, _, _ => by
  have hj : j = ws.length := by omega
  subst hj
  have hc : iR 5 (xs8 bor ws r m ws.length) (fY s X) = some (fY s []) := qQ s [] X (fun _ => rfl) _ (aBI bor ws r m _)
  rw [fJ, bX.l8]
  rw [List.drop_length]
  refine jT ?_
  refine eC hc ?_
  unfold xs8 KS.run
  have fx := True.intro
  refine gM ?_
  refine iA ?_; rfl
 | d + 1, j, n + 1, s, X, h, hf, h1, h2, h3 => by
  obtain ⟨w, hwj⟩ : ∃ w, w = ws.getD j default := ⟨_, rfl⟩
  have hget := aFe ws j (by omega)
  rw [← hwj] at hget
  have hmem : w ∈ ws := by
   rw [hwj, List.getD_eq_getElem?_getD, List.getElem?_eq_getElem (by omega)]
   exact List.getElem_mem _
  have hdrop : ws.drop j = w :: ws.drop (j + 1) := by
   rw [hwj, List.getD_eq_getElem?_getD, List.getElem?_eq_getElem (by omega)]
   exact List.drop_eq_getElem_cons (by omega)
  have hlen := aLd s.mark w ws.length
  have hm1 : s.mark.out = s.out := rfl
  have hm2 : s.mark.jumps = s.jumps := rfl
  have hm3 : s.mark.place.length = s.place.length + 1 := by simp [KS.mark]
  have ih := aGB hw hl d (j + 1) n (s.mark.one w ws.length) [⟨60, 6, [w.v]⟩] (by omega) (by omega) (by rw [hm1] at hlen; omega) (by rw [hm2] at hlen; omega) (by rw [hlen.2.2, hm3]; omega)
  rw [hdrop]
  have er : KS.run ws.length (w :: ws.drop (j + 1)) s = KS.run ws.length (ws.drop (j + 1)) (s.mark.one w ws.length) := rfl
  rw [er]
  generalize KS.run ws.length (ws.drop (j + 1)) (s.mark.one w ws.length) = sE at *
  have hc : iR 5 (xs8 bor ws r m j) (fY s X) = some (fY s []) := qQ s [] X (fun _ => rfl) _ (aBI bor ws r m _)
  have q1 : aQ Tryd.prog .lss 3 false (Nn j) (Nn ws.length) = some (.bool true) := qM (by omega)
  have q2 : aQ Tryd.prog .add 3 true (Nn j) (.int .i64 1) = some (Nn (j + 1)) := by
   rw [kL, fW (by omega) (by omega)]; congr 2
  have d1 : cJ 6 (.ro bor (iE ws)) (Nn j) = some (.rp bor w.v 0) := by
   unfold cJ
   simp only [Int.toNat_natCast, hget]
   rw [if_pos (by omega)]
   rfl
  have d2 : ∀ H, aC G true 6 (.rp bor w.v 0) H = some w.v := fun H => rfl
  have b1 : fI 60 (.agg [(.int .i64 0), (.int .i64 0), (.int .i64 0), (.int .i64 0), (.int .i64 0), (.int .i64 0)]) (fY s []) = some (.ptr 5 1 0 0, fY s [⟨60, 6, [.agg [(.int .i64 0), (.int .i64 0), (.int .i64 0), (.int .i64 0), (.int .i64 0), (.int .i64 0)]]⟩]) := rfl
  have b2 : fB (aL 6 (.ptr 5 1 0 0) w.v (fY s [⟨60, 6, [.agg [(.int .i64 0), (.int .i64 0), (.int .i64 0), (.int .i64 0), (.int .i64 0), (.int .i64 0)]]⟩])) = some (.tup [], fY s [⟨60, 6, [w.v]⟩]) := rfl
  have l0 := bl0 G s [⟨60, 6, [w.v]⟩]
  have l1 := bl1 G s [⟨60, 6, [w.v]⟩]
  have lc : dQ (.sl 2 s.out.length 0 s.out.length 6) = some (Nn s.out.length) := rfl
  have br : ∀ H, fR 1 1 (.int .i64 0) [(0, Nn s.out.length)] H = some (.ro false [Nn s.out.length], H) := fun H => rfl
  have a1 : fS 3 1 (.sl 3 s.place.length 0 s.place.length 1) (.ro false [Nn s.out.length]) (fY s [⟨60, 6, [w.v]⟩]) = some (.sl 3 s.mark.place.length 0 s.mark.place.length 1, (fY s [⟨60, 6, [w.v]⟩]).set 3 ⟨3, 1, lD s.mark.place⟩) := by
   have e : (fY s [⟨60, 6, [w.v]⟩])[3]? = some ⟨3, 1, lD s.place⟩ := rfl
   unfold fS
   simp only [e, jF, lZ, List.length_singleton]
   rw [if_pos (by refine ⟨?_, ?_, ?_, ?_, ?_⟩ <;> first | trivial | rfl | omega)]
   have e2 : (lD s.place).take s.place.length = lD s.place := List.take_of_length_le (by rw [lZ]; exact Nat.le_refl _)
   have e3 : (lD s.place).drop (s.place.length + 1) = [] := List.drop_of_length_le (by rw [lZ]; omega)
   have e4 : lD s.place ++ [Nn s.out.length] = lD s.mark.place := by simp [lD, KS.mark]
   rw [e2, e3, List.append_nil, e4, lZ, hm3]
  have s1 : fB (aL 1 (.ptr 1 1 0 1) (.sl 3 s.mark.place.length 0 s.mark.place.length 1) ((fY s [⟨60, 6, [w.v]⟩]).set 3 ⟨3, 1, lD s.mark.place⟩)) = some (.tup [], fY s.mark [⟨60, 6, [w.v]⟩]) := rfl
  have l6 : aC G true 6 (.ptr 5 1 0 0) (fY s.mark [⟨60, 6, [w.v]⟩]) = some w.v := rfl
  have c0 : ∀ H, aC G false 1 (.rp false (cV bor ws r m) 0) H = some (.ro bor (iE ws)) := fun H => rfl
  have cf : aA 0 (.rp false (cV bor ws r m) 0) = some (.rp false (cV bor ws r m) 0) := rfl
  have lw : dQ (.ro bor (iE ws)) = some (Nn ws.length) := by simp [dQ, kE]
  have o1 := aIz G k s.mark [⟨60, 6, [w.v]⟩] (fun n => by simp [dY, dH, cG, WI.v]) w (hw w hmem) ws.length (by rw [hm1]; omega) (by rw [hm2]; omega)
  rw [fJ, bX.l8]
  refine jT ?_
  refine eC hc ?_
  unfold xs8 at ih ⊢
  generalize w.v = wv at *
  generalize (fY s [⟨60, 6, [wv]⟩]).set 3 ⟨3, 1, lD s.mark.place⟩ = hm_ at *
  have fx := aPQ q1 <| aPQ q2 <| aPQ d1 <| aPQ d2 <| aPQ b1 <| aPQ b2 <| aPQ zQ <| aPQ bf0 <| aPQ bf1 <| aPQ l0 <| aPQ l1 <| aPQ lc <| aPQ br <| aPQ a1 <| aPQ s1 <| aPQ l6 <| aPQ c0 <| aPQ cf <| aPQ lw <| o1
  refine kM ?_
  exact ih
end
def aMA (s : KS) (p : Nat × Int) : MI := { s.out.getD p.1 default with imm := (s.place.getD p.2.toNat 0 : Int) - p.1 }
def KS.fix (s : KS) (p : Nat × Int) : KS := { s with out := s.out.set p.1 (aMA s p) }
def KS.fixes : List (Nat × Int) → KS → KS
 | [], s => s
 | p :: l, s => KS.fixes l (s.fix p)
section
variable (G : aG) (k : Nat) (self : cN)
def aCF (J j : Nat) : List AV := [BX, .sl 4 J 0 J 2, Nn J, Nn j]
theorem aAR (J j : Nat) : dH 5 (aCF J j) = true := by simp [aCF, dH, cG]
theorem aNq (s : KS) (T : aF) (j : Nat) (p : Nat × Int) (hp : s.jumps[j]? = some p) : aC G true 2 (.ptr 4 s.jumps.length j 0) (fY s T) = some (qY p) := by
 have e : (fY s T)[4]? = some ⟨93, 2, nO s.jumps⟩ := rfl
 have e2 : (nO s.jumps)[j]? = some (qY p) := by unfold nO; rw [List.getElem?_map, hp]; rfl
 unfold aC
 simp only [e, pW, if_true, e2]
 rfl
theorem aJV (s : KS) (T : aF) (j : Nat) (hp : j < s.place.length) : aC G false 1 (.ptr 3 s.place.length j 0) (fY s T) = some (Nn (s.place.getD j 0)) := by
 have e : (fY s T)[3]? = some ⟨3, 1, lD s.place⟩ := rfl
 have e2 : (lD s.place)[j]? = some (Nn (s.place.getD j 0)) := by
  unfold lD
  rw [List.getElem?_map, List.getElem?_eq_getElem hp, List.getD_eq_getElem?_getD, List.getElem?_eq_getElem hp]; rfl
 unfold aC
 simp only [e, lZ, if_true, e2]
 rfl
theorem aOm (s : KS) (T : aF) (p : Nat × Int) (hp : p.1 < s.out.length) : fB (aL 1 (.ptr 2 s.out.length p.1 5) (I6 ((s.place.getD p.2.toNat 0 : Int) - p.1)) (fY s T)) = some (.tup [], fY (s.fix p) T) := by
 have e : (fY s T)[2]? = some ⟨57, 6, dE s.out⟩ := rfl
 have e2 : (dE s.out)[p.1]? = some (s.out.getD p.1 default).v := by
  unfold dE
  rw [List.getElem?_map, List.getElem?_eq_getElem hp, List.getD_eq_getElem?_getD, List.getElem?_eq_getElem hp]; rfl
 have e3 : (dE s.out).set p.1 (aMA s p).v = dE (s.fix p).out := by
  unfold dE KS.fix
  rw [List.map_set]
 have e4 : (s.fix p).out.length = s.out.length := by simp [KS.fix]
 have e5 : (fY s T).set 2 ⟨57, 6, dE (s.fix p).out⟩ = fY (s.fix p) T := by
  unfold fY KS.box
  rw [e4]; rfl
 unfold aL
 simp only [e, jA, e2]
 rw [if_pos ⟨trivial, rfl, rfl⟩, if_pos (by show 5 + 1 ≤ 6; decide)]
 rw [← e5, ← e3]
 rfl
theorem aDo : ∀ (d j n : Nat) (s : KS) (X : aF), j + d = s.jumps.length → d < n → s.jumps.length ≤ 900000 → (∀ p ∈ s.jumps, p.1 < s.out.length ∧ 0 ≤ p.2 ∧ p.2 < s.place.length) → (∀ q ∈ s.place, q ≤ 900000) → s.out.length ≤ 900000 →
  gV (bX.l15 G k 5 self) n (aCF s.jumps.length j) (fY s X) = some (.exit 2, aCF s.jumps.length s.jumps.length, fY (KS.fixes (s.jumps.drop j) s) [])
 | d, j, 0, s, X, h, hf, _, _, _, _ => by omega
 | 0, j, n + 1, s, X, h, hf, _, _, _, _ => by
  have hj : j = s.jumps.length := by omega
  subst hj
  have hc : iR 5 (aCF s.jumps.length s.jumps.length) (fY s X) = some (fY s []) := qQ s [] X (fun _ => rfl) _ (aAR _ _)
  rw [fJ, bX.l15]
  rw [List.drop_length]
  refine jT ?_
  refine eC hc ?_
  unfold aCF KS.fixes
  have fx := True.intro
  refine gM ?_
  refine iA ?_; rfl
 | d + 1, j, n + 1, s, X, h, hf, hJ, hp, hq, hO => by
  obtain ⟨p, hpj⟩ : ∃ p, p = s.jumps[j]'(by omega) := ⟨_, rfl⟩
  have hget : s.jumps[j]? = some p := by rw [List.getElem?_eq_getElem (by omega), hpj]
  have hmem : p ∈ s.jumps := by rw [hpj]; exact List.getElem_mem _
  have hdrop : s.jumps.drop j = p :: s.jumps.drop (j + 1) := by rw [hpj]; exact List.drop_eq_getElem_cons (by omega)
  obtain ⟨p1, p2, p3⟩ := hp p hmem
  have pq : s.place.getD p.2.toNat 0 ≤ 900000 := by
   rw [List.getD_eq_getElem?_getD, List.getElem?_eq_getElem (by omega)]
   exact hq _ (List.getElem_mem _)
  have f1 : (s.fix p).jumps = s.jumps := rfl
  have f2 : (s.fix p).place = s.place := rfl
  have f3 : (s.fix p).out.length = s.out.length := by simp [KS.fix]
  have ih := aDo d (j + 1) n (s.fix p) [⟨93, 2, [qY p]⟩] (by rw [f1]; omega) (by omega) (by rw [f1]; exact hJ) (by rw [f1, f2, f3]; exact hp) (by rw [f2]; exact hq) (by rw [f3]; exact hO)
  rw [f1] at ih
  rw [hdrop]
  have er : KS.fixes (p :: s.jumps.drop (j + 1)) s = KS.fixes (s.jumps.drop (j + 1)) (s.fix p) := rfl
  rw [er]
  generalize KS.fixes (s.jumps.drop (j + 1)) (s.fix p) = sE at *
  have hc : iR 5 (aCF s.jumps.length j) (fY s X) = some (fY s []) := qQ s [] X (fun _ => rfl) _ (aAR _ _)
  have q1 : aQ Tryd.prog .lss 3 false (Nn j) (Nn s.jumps.length) = some (.bool true) := qM (by omega)
  have q2 : aQ Tryd.prog .add 3 true (Nn j) (.int .i64 1) = some (Nn (j + 1)) := by
   rw [kL, fW (by omega) (by omega)]; congr 2
  have d1 : cJ 2 (.sl 4 s.jumps.length 0 s.jumps.length 2) (Nn j) = some (.ptr 4 s.jumps.length j 0) := by
   rw [sG (by omega) (by omega), Nat.zero_add, Int.toNat_natCast]
  have d2 := aNq G s [] j p hget
  have b1 : fI 93 (.agg [(.int .i64 0), (.int .i64 0)]) (fY s []) = some (.ptr 5 1 0 0, fY s [⟨93, 2, [.agg [(.int .i64 0), (.int .i64 0)]]⟩]) := rfl
  have b2 : fB (aL 2 (.ptr 5 1 0 0) (qY p) (fY s [⟨93, 2, [.agg [(.int .i64 0), (.int .i64 0)]]⟩])) = some (.tup [], fY s [⟨93, 2, [qY p]⟩]) := rfl
  have l0 := bl0 G s [⟨93, 2, [qY p]⟩]
  have l1 := bl1 G s [⟨93, 2, [qY p]⟩]
  have k0 : aA 0 (.ptr 5 1 0 0) = some (.ptr 5 1 0 0) := rfl
  have k1 : aA 1 (.ptr 5 1 0 0) = some (.ptr 5 1 0 1) := rfl
  have j0 : aC G false 1 (.ptr 5 1 0 0) (fY s [⟨93, 2, [qY p]⟩]) = some (Nn p.1) := rfl
  have j1 : aC G false 1 (.ptr 5 1 0 1) (fY s [⟨93, 2, [qY p]⟩]) = some (I6 p.2) := rfl
  have d3 : cJ 1 (.sl 3 s.place.length 0 s.place.length 1) (I6 p.2) = some (.ptr 3 s.place.length p.2.toNat 0) := by
   rw [sG p2 p3, Nat.zero_add]
  have d4 := aJV G s [⟨93, 2, [qY p]⟩] p.2.toNat (by omega)
  have d5 : aQ Tryd.prog .sub 3 false (Nn (s.place.getD p.2.toNat 0)) (Nn p.1) = some (I6 ((s.place.getD p.2.toNat 0 : Int) - p.1)) := by
   rw [zJ, fW (by omega) (by omega)]
  have d6 : cJ 6 (.sl 2 s.out.length 0 s.out.length 6) (Nn p.1) = some (.ptr 2 s.out.length p.1 0) := by
   rw [sG (by omega) (by omega), Nat.zero_add, Int.toNat_natCast]
  have k5 : aA 5 (.ptr 2 s.out.length p.1 0) = some (.ptr 2 s.out.length p.1 5) := rfl
  have s1 := aOm s [⟨93, 2, [qY p]⟩] p p1
  rw [fJ, bX.l15]
  refine jT ?_
  refine eC hc ?_
  unfold aCF at ih ⊢
  generalize qY p = pv at *
  generalize s.place.getD p.2.toNat 0 = y at *
  generalize (y : Int) - p.1 = z at *
  have fx := aPQ q1 <| aPQ q2 <| aPQ d1 <| aPQ d2 <| aPQ b1 <| aPQ b2 <| aPQ zQ <| aPQ bf0 <| aPQ bf1 <| aPQ l0 <| aPQ l1 <| aPQ k0 <| aPQ k1 <| aPQ j0 <| aPQ j1 <| aPQ d3 <| aPQ d4 <| aPQ d5 <| aPQ d6 <| aPQ k5 <| s1
  refine kM ?_
  exact ih
end
section
variable (G : aG) (k : Nat) (self : cN)
def aCu (O c j : Nat) : List AV := [.undef, .undef, .sl 5 c 0 c 1, .sl 2 O 0 O 6, Nn O, Nn j]
theorem aAi (O c j : Nat) : dH 6 (aCu O c j) = true := by simp [aCu, dH, cG]
abbrev bW (ws : List Int) : ABlk := ⟨71, 1, iC ws⟩
theorem PlW (ws : List Int) : Pl [bW ws] := fun n => by simp [dY, nL]
theorem aOf (s : KS) (T : aF) (j : Nat) (i : MI) (hp : s.out[j]? = some i) : aC G true 6 (.ptr 2 s.out.length j 0) (fY s T) = some i.v := by
 have e : (fY s T)[2]? = some ⟨57, 6, dE s.out⟩ := rfl
 have e2 : (dE s.out)[j]? = some i.v := by unfold dE; rw [List.getElem?_map, hp]; rfl
 unfold aC
 simp only [e, jA, if_true, e2]
 rfl
theorem apW (s : KS) (ws : List Int) (X : aF) (w : Int) (hl : ws.length ≤ 900000) : fS 71 1 (.sl 5 ws.length 0 ws.length 1) (.ro false [cX w]) (fY s (bW ws :: X)) = some (.sl 5 (ws ++ [w]).length 0 (ws ++ [w]).length 1, fY s (bW (ws ++ [w]) :: X)) := by
 have e : (fY s (bW ws :: X))[5]? = some (bW ws) := rfl
 have hcl : (iC ws).length = ws.length := by simp [iC]
 unfold fS
 simp only [e, jF, hcl, List.length_singleton]
 rw [if_pos (by refine ⟨?_, ?_, ?_, ?_, ?_⟩ <;> first | trivial | rfl | omega)]
 have e2 : (iC ws).take ws.length = iC ws := List.take_of_length_le (by rw [hcl]; exact Nat.le_refl _)
 have e3 : (iC ws).drop (ws.length + 1) = [] := List.drop_of_length_le (by rw [hcl]; omega)
 have e4 : iC ws ++ [cX w] = iC (ws ++ [w]) := by simp [iC]
 have e5 : (iC (ws ++ [w])).length = ws.length + 1 := by simp [iC]
 rw [e2, e3, List.append_nil, e4, e5]
 simp only [List.length_append, List.length_singleton]
 rfl
theorem aDZ (s : KS) (hO : s.out.length ≤ 900000) (hr : ∀ i ∈ s.out, aT i = true) : ∀ (d j n : Nat) (ws : List Int) (X : aF), j + d = s.out.length → d < n → ws.length = j →
  gV (bX.l23 G (k + 5) 6 self) n (aCu s.out.length ws.length j) (fY s (bW ws :: X)) = some (.exit 4, aCu s.out.length s.out.length s.out.length, fY s [bW (ws ++ (s.out.drop j).map cS)])
 | d, j, 0, ws, X, h, hf, _ => by omega
 | 0, j, n + 1, ws, X, h, hf, hw => by
  have hj : j = s.out.length := by omega
  subst hj
  have hc : iR 6 (aCu s.out.length ws.length s.out.length) (fY s (bW ws :: X)) = some (fY s [bW ws]) := qQ s [bW ws] X (PlW ws) _ (aAi _ _ _)
  rw [fJ, bX.l23]
  rw [List.drop_length, List.map_nil, List.append_nil]
  refine jT ?_
  refine eC hc ?_
  rw [hw]
  unfold aCu
  have fx := True.intro
  refine gM ?_
  refine iA ?_; rfl
 | d + 1, j, n + 1, ws, X, h, hf, hw => by
  obtain ⟨i, hij⟩ : ∃ i, i = s.out[j]'(by omega) := ⟨_, rfl⟩
  have hget : s.out[j]? = some i := by rw [List.getElem?_eq_getElem (by omega), hij]
  have hmem : i ∈ s.out := by rw [hij]; exact List.getElem_mem _
  have hdrop : s.out.drop j = i :: s.out.drop (j + 1) := by rw [hij]; exact List.drop_eq_getElem_cons (by omega)
  have hri := hr i hmem
  have ih := aDZ s hO hr d (j + 1) n (ws ++ [cS i]) [⟨57, 6, [i.v]⟩] (by omega) (by omega) (by simp [hw])
  have e : ws ++ [cS i] ++ (s.out.drop (j + 1)).map cS = ws ++ (s.out.drop j).map cS := by rw [hdrop]; simp
  rw [e] at ih
  generalize ws ++ (s.out.drop j).map cS = wE at *
  have hc : iR 6 (aCu s.out.length ws.length j) (fY s (bW ws :: X)) = some (fY s [bW ws]) := qQ s [bW ws] X (PlW ws) _ (aAi _ _ _)
  have q1 : aQ Tryd.prog .lss 3 false (Nn j) (Nn s.out.length) = some (.bool true) := qM (by omega)
  have q2 : aQ Tryd.prog .add 3 true (Nn j) (.int .i64 1) = some (Nn (j + 1)) := by
   rw [kL, fW (by omega) (by omega)]; congr 2
  have d1 : cJ 6 (.sl 2 s.out.length 0 s.out.length 6) (Nn j) = some (.ptr 2 s.out.length j 0) := by
   rw [sG (by omega) (by omega), Nat.zero_add, Int.toNat_natCast]
  have d2 := aOf G s [bW ws] j i hget
  have b1 : fI 57 (.agg [(.int .i64 0), (.int .i64 0), (.int .i64 0), (.int .i64 0), (.int .i64 0), (.int .i64 0)]) (fY s [bW ws]) = some (.ptr 6 1 0 0, fY s [bW ws, ⟨57, 6, [mV 0 0 0 0 0 0]⟩]) := rfl
  have b2 : fB (aL 6 (.ptr 6 1 0 0) i.v (fY s [bW ws, ⟨57, 6, [mV 0 0 0 0 0 0]⟩])) = some (.tup [], fY s [bW ws, ⟨57, 6, [i.v]⟩]) := rfl
  have b3 : aC G true 6 (.ptr 6 1 0 0) (fY s [bW ws, ⟨57, 6, [i.v]⟩]) = some i.v := rfl
  have w1_ : ∀ H, aD (bD.f G (k + 5)) [i.v] H = some (.tup [cX (cS i), .bool true], H) := fun H => by
   have := aBA G k i
   rw [hri] at this
   have e2 : mX i = cS i := by unfold mX; rw [if_pos hri]
   rw [e2] at this
   exact aE (H := H) this rfl rfl
  have br : ∀ H, fR 1 1 (.int .u32 0) [(0, cX (cS i))] H = some (.ro false [cX (cS i)], H) := fun H => rfl
  have a1 := apW s ws [⟨57, 6, [i.v]⟩] (cS i) (by omega)
  rw [fJ, bX.l23]
  refine jT ?_
  refine eC hc ?_
  unfold aCu at ih ⊢
  generalize i.v = iv at *
  generalize cS i = wi at *
  have fx := aPQ q1 <| aPQ q2 <| aPQ d1 <| aPQ d2 <| aPQ b1 <| aPQ b2 <| aPQ b3 <| aPQ w1_ <| aPQ br <| a1
  refine kM ?_
  exact ih
end
theorem aGj {x y z : AV} {H : aF} (h : xD H 0 6 (.tup [x, y]) = some z) : bH [x, y] 0 H = some (.ret, [z], []) := by
 have hc : iR 0 [] H = some [] := by
  unfold iR
  rw [List.take_zero]; rfl
 unfold bH rC
 simp only [h, hc]
def k00 : KS := ⟨[], [], []⟩
theorem aBu : ∀ (l : List (Nat × Int)) (s : KS), (KS.fixes l s).out.length = s.out.length
 | [], s => rfl
 | p :: l, s => by
  have : (s.fix p).out.length = s.out.length := by simp [KS.fix]
  rw [← this]; exact aBu l (s.fix p)
theorem aHm (G : aG) (k : Nat) (ws : List WI) (r m : Int) (hv : dX.f G (k + 11) [cV false ws r m] [] = some (.nili, [])) (hr : r ≤ 28) (hw : ∀ w ∈ ws, 1 ≤ w.op ∧ w.op ≤ 20) (hl : ws.length ≤ 10000) (hlk : ws.length < k)
  (s0 : KS) (hs0 : s0 = (KS.run ws.length ws k00).mark) (s1 : KS) (hs1 : s1 = KS.fixes s0.jumps s0)
  (hJ : s0.jumps.length ≤ 900000) (hJk : s0.jumps.length < k) (hp : ∀ p ∈ s0.jumps, p.1 < s0.out.length ∧ 0 ≤ p.2 ∧ p.2 < s0.place.length) (hq : ∀ q ∈ s0.place, q ≤ 900000) (hP : s0.place.length ≤ 900000) (hO : s0.out.length ≤ 262144) (hOk : s0.out.length < k) (hright : ∀ i ∈ s1.out, aT i = true) :
  bX.f G (k + 12) [cV false ws r m] [] = some (.tup [.ro false (iC (s1.out.map cS)), .nili], []) := by
 rw [bX.step]
 unfold bX.c
 have plC : eO (iE ws) = true := oV _ (fun _ => rfl) ws
 have c0 : ∀ H, dV (cV false ws r m) H = some (.rp false (cV false ws r m) 0, H) := fun H => rfl
 have c1 : ∀ H, aC G true 3 (.rp false (cV false ws r m) 0) H = some (cV false ws r m) := fun H => rfl
 have v0 : ∀ H, aD (dX.f G (k + 11)) [cV false ws r m] H = _ := fun H => aE (H := H) hv (by simp [cV, eO, bC, plC]) rfl
 have e1 : aQ Tryd.prog .neq 30 true .nili .nili = some (.bool false) := by kernel_rfl
 have c2 : aA 1 (.rp false (cV false ws r m) 0) = some (.rp false (cV false ws r m) 1) := rfl
 have c3 : ∀ H, aC G false 1 (.rp false (cV false ws r m) 1) H = some (I6 r) := fun H => rfl
 have c4 : ∀ H, aC G false 1 (.rp false (cV false ws r m) 0) H = some (.ro false (iE ws)) := fun H => rfl
 have cf : aA 0 (.rp false (cV false ws r m) 0) = some (.rp false (cV false ws r m) 0) := rfl
 have e2 : aQ Tryd.prog .gtr 3 true (I6 r) (.int .i64 28) = some (.bool false) := vD (by omega)
 have lw : dQ (.ro false (iE ws)) = some (Nn ws.length) := by simp [dQ, kE]
 have bx : fI 90 (.agg [.nils, .nils, .nils]) [⟨71, 1, []⟩] = some (.ptr 1 1 0 0, [⟨71, 1, []⟩, ⟨90, 3, [.agg [.nils, .nils, .nils]]⟩]) := rfl
 have v1 : oP (.ptr 1 1 0 0, 0, 57, 6) [⟨71, 1, []⟩, ⟨90, 3, [.agg [.nils, .nils, .nils]]⟩] = [⟨71, 1, []⟩, ⟨90, 3, [.agg [.sl 2 0 0 0 6, .nils, .nils]]⟩, ⟨57, 6, []⟩] := rfl
 have v2 : oP (.ptr 1 1 0 0, 1, 3, 1) [⟨71, 1, []⟩, ⟨90, 3, [.agg [.sl 2 0 0 0 6, .nils, .nils]]⟩, ⟨57, 6, []⟩] = [⟨71, 1, []⟩, ⟨90, 3, [.agg [.sl 2 0 0 0 6, .sl 3 0 0 0 1, .nils]]⟩, ⟨57, 6, []⟩, ⟨3, 1, []⟩] := rfl
 have v3 : oP (.ptr 1 1 0 0, 2, 93, 2) [⟨71, 1, []⟩, ⟨90, 3, [.agg [.sl 2 0 0 0 6, .sl 3 0 0 0 1, .nils]]⟩, ⟨57, 6, []⟩, ⟨3, 1, []⟩] = fY k00 [] := rfl
 have lp1 := aGB G k (bX.f G (k + 11)) false ws r m hw hl ws.length 0 (k + 11) k00 [] (by omega) (by omega) (by show 0 + 10 * ws.length ≤ 800000; omega) (by show 0 + ws.length ≤ 800000; omega) (by show 0 + ws.length ≤ 800000; omega)
 rw [List.drop_zero] at lp1
 obtain ⟨s, hs⟩ : ∃ s, s = KS.run ws.length ws k00 := ⟨_, rfl⟩
 rw [← hs] at lp1 hs0
 have hm3 : s0.place.length = s.place.length + 1 := by rw [hs0]; simp [KS.mark]
 have hmo : s0.out = s.out := by rw [hs0]; rfl
 have l0 := bl0 G s []
 have l1 := bl1 G s []
 have lc : dQ (.sl 2 s.out.length 0 s.out.length 6) = some (Nn s.out.length) := rfl
 have br : ∀ H, fR 1 1 (.int .i64 0) [(0, Nn s.out.length)] H = some (.ro false [Nn s.out.length], H) := fun H => rfl
 have a1 : fS 3 1 (.sl 3 s.place.length 0 s.place.length 1) (.ro false [Nn s.out.length]) (fY s []) = some (.sl 3 s0.place.length 0 s0.place.length 1, (fY s []).set 3 ⟨3, 1, lD s0.place⟩) := by
  have e : (fY s [])[3]? = some ⟨3, 1, lD s.place⟩ := rfl
  unfold fS
  simp only [e, jF, lZ, List.length_singleton]
  rw [if_pos (by refine ⟨?_, ?_, ?_, ?_, ?_⟩ <;> first | trivial | rfl | omega)]
  have e2 : (lD s.place).take s.place.length = lD s.place := List.take_of_length_le (by rw [lZ]; exact Nat.le_refl _)
  have e3 : (lD s.place).drop (s.place.length + 1) = [] := List.drop_of_length_le (by rw [lZ]; omega)
  have e4 : lD s.place ++ [Nn s.out.length] = lD s0.place := by rw [hs0]; simp [lD, KS.mark]
  rw [e2, e3, List.append_nil, e4, lZ, hm3]
 have s1_ : fB (aL 1 (.ptr 1 1 0 1) (.sl 3 s0.place.length 0 s0.place.length 1) ((fY s []).set 3 ⟨3, 1, lD s0.place⟩)) = some (.tup [], fY s0 []) := by
  rw [hs0]; rfl
 have l2 := bl2 G s0 []
 have lj : dQ (.sl 4 s0.jumps.length 0 s0.jumps.length 2) = some (Nn s0.jumps.length) := rfl
 have lp2 := aDo G (k + 11) (bX.f G (k + 11)) s0.jumps.length 0 (k + 11) s0 [] (by omega) (by omega) hJ hp hq (by omega)
 rw [List.drop_zero, ← hs1] at lp2
 have ho1 : s1.out.length = s0.out.length := by rw [hs1]; exact aBu _ _
 have m0 := bl0 G s1 []
 have m0' := bl0 G s1 [bW []]
 have lo : dQ (.sl 2 s1.out.length 0 s1.out.length 6) = some (Nn s1.out.length) := rfl
 have g1 : aQ Tryd.prog .gtr 3 true (Nn s1.out.length) (.int .i64 262144) = some (.bool false) := vD (by omega)
 have ap : fY s1 [] ++ [⟨71, 1, []⟩] = fY s1 [bW []] := rfl
 have lp3 := aDZ G (k + 6) (bX.f G (k + 11)) s1 (by omega) hright s1.out.length 0 (k + 11) [] [] (by omega) (by omega) rfl
 rw [List.drop_zero, List.nil_append] at lp3
 have hcl : (iC (s1.out.map cS)).length = s1.out.length := by simp [iC]
 have fin : bH [.sl 5 s1.out.length 0 s1.out.length 1, .nili] 0 (fY s1 [bW (s1.out.map cS)]) = some (.ret, [.tup [.ro false (iC (s1.out.map cS)), .nili]], []) := by
  refine aGj ?_
  refine aGv rfl ?_
  exact jZ (wZ (ty := 71) (xs := iC (s1.out.map cS)) rfl (by omega) hcl (sK 1 _ (fun _ => rfl) _) (nL _ _)) (jZ rfl vU)
 have h5 : ∀ s : KS, (fY s []).length = 5 := fun s => rfl
 have h6 : (fY s1 [bW []]).length = 6 := rfl
 unfold xs8 at lp1
 unfold aCF at lp2
 unfold aCu at lp3
 clear hp hq hv hw hright ho1 hcl hmo hm3 hs hs0 hs1 plC
 generalize cV false ws r m = C at *
 generalize iE ws = wi at *
 refine eZ ?_
 have fx := aPQ c0 <| aPQ c1 <| aPQ v0 <| aPQ e1 <| aPQ c2 <| aPQ c3 <| aPQ c4 <| aPQ cf <| aPQ e2 <| aPQ lw <| bx
 refine kM ?_
 refine eV1 v1 ?_
 refine eV1 v2 ?_
 refine eV1 v3 ?_
 refine eV0 ?_
 rw [h5]
 refine eK ?_
 refine eL lp1 ?_
 have fx := aPQ zQ <| aPQ bf0 <| aPQ bf1 <| aPQ bf2 <| aPQ l0 <| aPQ l1 <| aPQ lc <| aPQ br <| aPQ a1 <| aPQ s1_ <| aPQ l2 <| lj
 refine kM ?_
 refine eV1 (show oP _ _ = fY s0 [] from rfl) ?_
 refine eV1 (show oP _ _ = fY s0 [] from rfl) ?_
 refine eV1 (show oP _ _ = fY s0 [] from rfl) ?_
 refine eV0 ?_
 rw [h5]
 refine eK ?_
 refine eL lp2 ?_
 have fx := aPQ zQ <| aPQ bf0 <| aPQ m0 <| aPQ m0' <| aPQ lo <| g1
 refine kM ?_
 rw [h5, ap]
 have fx := aPQ zQ <| aPQ bf0 <| aPQ m0 <| aPQ m0' <| aPQ lo <| g1
 refine kM ?_
 rw [h6]
 refine eL lp3 ?_
 have fx := True.intro
 refine kM ?_
 exact oF fin
def qW (op k : Int) (a : Nat) : Nat × Bool :=
 if k < 0 ∨ 63 < k then (0, false)
 else if op = 10 then (a * 2 ^ k.toNat % 18446744073709551616, true)
 else if op = 11 then (a / 2 ^ k.toNat, true)
 else (aCw a k.toNat, true)
def jW (op k : Int) (a b c : Nat) : Nat × Bool :=
 if op = 1 then (u64 k, true)
 else if op = 2 then (a, true)
 else if op = 3 then ((a + b) % 18446744073709551616, true)
 else if op = 4 then ((a + 18446744073709551616 - b) % 18446744073709551616, true)
 else if op = 5 then (a * b % 18446744073709551616, true)
 else if op = 6 then (a * b / 18446744073709551616, true)
 else if op = 7 then (a &&& b, true)
 else if op = 8 then (a ||| b, true)
 else if op = 9 then (a ^^^ b, true)
 else if op = 10 ∨ op = 11 ∨ op = 12 then qW op k a
 else if op = 13 then (if a < b then 1 else 0, true)
 else if op = 14 then (if a ≠ 0 then b else c, true)
 else (0, false)
structure MS where
 regs : List Nat
 at_ : Nat
 code : Int
 mem : List Nat
 leaks : List (Int × Int)
 steps : Nat
def MS.leak (s : MS) (kind at_ : Int) : MS := { s with leaks := s.leaks ++ [(kind, at_)] }
def MS.rg (s : MS) (i : Int) : Nat := s.regs.getD i.toNat 0
def MS.set (s : MS) (i : Int) (n : Nat) : MS := { s with regs := s.regs.set i.toNat n }
def MS.touch (s : MS) (i : WI) : MS × Bool :=
 let ad := (s.rg i.a + u64 i.k) % 18446744073709551616
 let s1 := s.leak 3 (mT ad)
 if s.mem.length ≤ ad then ({ s1 with code := 3 }, false)
 else if i.op = 15 then (s1.set i.d (s.mem.getD ad 0), true)
 else ({ s1 with mem := s.mem.set ad (s.rg i.b) }, true)
def MS.branch (s : MS) (i : WI) : MS :=
 if i.op = 17 then { s with at_ := i.k.toNat }
 else if (decide (s.rg i.a = 0) == decide (i.op = 18)) = true then { s.leak 2 1 with at_ := i.k.toNat }
 else s.leak 2 0
def MS.step (s : MS) (i : WI) : MS × Bool :=
 let s := { s with at_ := s.at_ + 1 }
 if i.op = 15 ∨ i.op = 16 then s.touch i
 else if i.op = 17 ∨ i.op = 18 ∨ i.op = 19 then (s.branch i, true)
 else if i.op = 20 then ({ s with code := i.k }, false)
 else if (jW i.op i.k (s.rg i.a) (s.rg i.b) (s.rg i.c)).2 = true then (s.set i.d (jW i.op i.k (s.rg i.a) (s.rg i.b) (s.rg i.c)).1, true)
 else (s, true)
structure MS.Ok (s : MS) (R : Nat) : Prop where
 len : s.regs.length = R
 regs : ∀ x ∈ s.regs, x < 18446744073709551616
 mem : ∀ x ∈ s.mem, x < 18446744073709551616
 leaks : s.leaks.length ≤ 3 * s.steps
 big : s.mem.length ≤ 1000000
 few : s.steps ≤ 100000
theorem MS.Ok.rg {s : MS} {R : Nat} (h : s.Ok R) (i : Int) : s.rg i < 18446744073709551616 := by
 unfold MS.rg
 rw [List.getD_eq_getElem?_getD]
 cases hq : s.regs[i.toNat]? with
 | none => decide
 | some x => exact h.regs x (List.mem_of_getElem? hq)
theorem MS.Ok.mg {s : MS} {R : Nat} (h : s.Ok R) (i : Nat) : s.mem.getD i 0 < 18446744073709551616 := by
 rw [List.getD_eq_getElem?_getD]
 cases hq : s.mem[i]? with
 | none => decide
 | some x => exact h.mem x (List.mem_of_getElem? hq)
structure WI.Ok (i : WI) (R n : Nat) : Prop where
 op : 1 ≤ i.op ∧ i.op ≤ 20
 a : i.op ≠ 17 → i.op ≠ 20 → 0 ≤ i.a ∧ i.a < R
 d : i.op ≤ 16 → 0 ≤ i.d ∧ i.d < R
 b : i.op ≤ 16 → 0 ≤ i.b ∧ i.b < R
 c : i.op ≤ 16 → 0 ≤ i.c ∧ i.c < R
 k : 17 ≤ i.op → i.op ≤ 19 → 0 ≤ i.k ∧ i.k ≤ n
section
variable (G : aG) (i : WI)
end
theorem aKi (op k : Int) (a b c : Nat) (ha : a < 18446744073709551616) (hb : b < 18446744073709551616) (hc : c < 18446744073709551616) : (jW op k a b c).1 < 18446744073709551616 := by
 have hm : ∀ n : Nat, n % 18446744073709551616 < 18446744073709551616 := fun n => Nat.mod_lt _ (by decide)
 have hs : (qW op k a).1 < 18446744073709551616 := by
  unfold qW
  split
  ·decide
  ·split
   ·exact hm _
   ·split
    ·exact Nat.lt_of_le_of_lt (Nat.div_le_self _ _) ha
    ·exact jD _
 unfold jW
 by_cases e0 : op = 1
 ·rw [if_pos e0]; exact jD _
 rw [if_neg e0]
 by_cases e1 : op = 2
 ·rw [if_pos e1]; exact ha
 rw [if_neg e1]
 by_cases e2 : op = 3
 ·rw [if_pos e2]; exact hm _
 rw [if_neg e2]
 by_cases e3 : op = 4
 ·rw [if_pos e3]; exact hm _
 rw [if_neg e3]
 by_cases e4 : op = 5
 ·rw [if_pos e4]; exact hm _
 rw [if_neg e4]
 by_cases e5 : op = 6
 ·rw [if_pos e5]; exact Nat.div_lt_of_lt_mul (Nat.mul_lt_mul'' ha hb)
 rw [if_neg e5]
 by_cases e6 : op = 7
 ·rw [if_pos e6]; exact Nat.lt_of_le_of_lt Nat.and_le_left ha
 rw [if_neg e6]
 by_cases e7 : op = 8
 ·rw [if_pos e7]; exact Nat.or_lt_two_pow (n := 64) ha hb
 rw [if_neg e7]
 by_cases e8 : op = 9
 ·rw [if_pos e8]; exact Nat.xor_lt_two_pow (n := 64) ha hb
 rw [if_neg e8]
 by_cases e9 : op = 10 ∨ op = 11 ∨ op = 12
 ·rw [if_pos e9]; exact hs
 rw [if_neg e9]
 by_cases e10 : op = 13
 ·rw [if_pos e10]; show (if a < b then 1 else 0) < 18446744073709551616; by_cases q : a < b
  ·rw [if_pos q]; decide
  ·rw [if_neg q]; decide
 rw [if_neg e10]
 by_cases e11 : op = 14
 ·rw [if_pos e11]; show (if a ≠ 0 then b else c) < 18446744073709551616; by_cases q : a ≠ 0
  ·rw [if_pos q]; exact hb
  ·rw [if_neg q]; exact hc
 rw [if_neg e11]
 decide
theorem MS.step_ok {s : MS} {R n : Nat} {i : WI} (h : s.Ok R) (hi : i.Ok R n) (hl : s.leaks.length + 1 ≤ 3 * s.steps) (hn : s.at_ < n) : (s.step i).1.Ok R ∧ (s.step i).1.at_ ≤ n ∧ (s.step i).1.steps = s.steps ∧ (s.step i).1.mem.length = s.mem.length := by
 have ok1 : ({ s with at_ := s.at_ + 1 } : MS).Ok R := ⟨h.len, h.regs, h.mem, h.leaks, h.big, h.few⟩
 unfold MS.step
 simp only
 split
 ·unfold MS.touch
  simp only [MS.leak, MS.set]
  split
  ·exact ⟨⟨h.len, h.regs, h.mem, by simpa using hl, h.big, h.few⟩, hn, rfl, rfl⟩
  ·split
   ·exact ⟨⟨by simpa using h.len, zC h.regs (h.mg _), h.mem, by simpa using hl, h.big, h.few⟩, hn, rfl, rfl⟩
   ·exact ⟨⟨h.len, h.regs, zC h.mem (ok1.rg _), by simpa using hl, by simpa using h.big, h.few⟩, hn, rfl, by simp⟩
 ·split
  ·rename_i h2
   have hk := hi.k (by omega) (by omega)
   unfold MS.branch
   split
   ·exact ⟨⟨h.len, h.regs, h.mem, h.leaks, h.big, h.few⟩, by simp only; omega, rfl, rfl⟩
   ·split
    ·exact ⟨⟨h.len, h.regs, h.mem, by simpa [MS.leak] using hl, h.big, h.few⟩, by simp only; omega, rfl, rfl⟩
    ·exact ⟨⟨h.len, h.regs, h.mem, by simpa [MS.leak] using hl, h.big, h.few⟩, hn, rfl, rfl⟩
  ·split
   ·exact ⟨⟨h.len, h.regs, h.mem, h.leaks, h.big, h.few⟩, hn, rfl, rfl⟩
   ·split
    ·exact ⟨⟨by simpa [MS.set] using h.len, zC h.regs (aKi _ _ _ _ _ (ok1.rg _) (ok1.rg _) (ok1.rg _)), h.mem, h.leaks, h.big, h.few⟩, hn, rfl, rfl⟩
    ·exact ⟨ok1, hn, rfl, rfl⟩
def MS.tick (s : MS) : MS := ({ s with steps := s.steps + 1 } : MS).leak 1 s.at_
def uK (cs : List WI) (fuel : Int) : Nat → MS → Option MS
 | 0, _ => none
 | f + 1, s =>
  if cs.length ≤ s.at_ then some { s with code := 3 }
  else if (s.steps : Int) = fuel then some { s with code := 4 }
  else match s.tick.step (cs.getD s.at_ default) with
   | (s', true) => uK cs fuel f s'
   | (s', false) => some s'
section
variable (G : aG) (bor : Bool) (cs : List WI)
theorem aIG (j : Nat) (h : j < cs.length) : cJ 6 (.ro bor (iE cs)) (Nn j) = some (.rp bor (cs.getD j default).v 0) := by
 have h0 : (0 : Int) ≤ (j : Int) := by omega
 have e : (iE cs)[(j : Int).toNat]? = some (cs.getD j default).v := by
  rw [Int.toNat_natCast]
  simp [iE, List.getElem?_map, List.getD, List.getElem?_eq_getElem h]
 unfold cJ
 simp only [e]
 rw [if_pos h0]
 rfl
end
theorem aBx (cs : List WI) (fuel : Int) : ∀ (f : Nat) (s : MS), (s.steps : Int) ≤ fuel → fuel - s.steps < f → ∃ s', uK cs fuel f s = some s'
 | 0, s, h, h2 => by omega
 | f + 1, s, h, h2 => by
  simp only [uK]
  by_cases h1 : cs.length ≤ s.at_
  ·rw [if_pos h1]; exact ⟨_, rfl⟩
  rw [if_neg h1]
  by_cases h3 : (s.steps : Int) = fuel
  ·rw [if_pos h3]; exact ⟨_, rfl⟩
  rw [if_neg h3]
  have e : ∀ i, (s.tick.step i).1.steps = s.steps + 1 := fun i => by
   unfold MS.step MS.touch MS.branch
   simp only
   repeat' split
   all_goals rfl
  have e' := e (cs.getD s.at_ default)
  obtain ⟨s2, b, hsb⟩ : ∃ s2 b, s.tick.step (cs.getD s.at_ default) = (s2, b) := ⟨_, _, rfl⟩
  rw [hsb] at e' ⊢
  cases b
  ·exact ⟨_, rfl⟩
  ·exact aBx cs fuel f s2 (by simp only at e'; omega) (by simp only at e'; omega)
def s0 (R : Nat) (mem : List Nat) : MS := ⟨List.replicate R 0, 0, 0, mem, [], 0⟩
theorem aIF (R : Nat) (mem : List Nat) (hm : ∀ x ∈ mem, x < 18446744073709551616) (hl : mem.length ≤ 1000000) : (s0 R mem).Ok R :=
 ⟨by simp [s0], fun x hx => by simp [s0] at hx; omega, hm, by simp [s0], hl, by simp [s0]⟩
theorem aIW (l : List WI) : eO (iE l) = true := oV _ (fun _ => rfl) l
theorem aNF (l : List WI) : jH (iE l) = true := pD _ (fun _ => rfl) l
section
variable {cs : List WI} {fuel : Int} {f : Nat} {s s2 : MS} {i : WI}
end
end Go.Proofs.YtdfglgnflldkpaaDoor.Mir
