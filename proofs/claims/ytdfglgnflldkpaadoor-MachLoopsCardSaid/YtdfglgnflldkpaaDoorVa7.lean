/- Printed by rowgen.py: the row of MachLoops, out of its law in plain Lean. -/
import Derived.Test.YtdfglgnflldkpaaDoorVa6
import Derived.Test.YtdfglgnflldkpaaDoorTie
import Derived.Test.YtdfglgnflldkpaaDoorCards
import Derived.SevenTiedAt
namespace Go.Proofs.YtdfglgnflldkpaaDoor
open Go Mir
set_option linter.unusedVariables false
set_option linter.unusedSimpArgs false
set_option maxHeartbeats 8000000
set_option maxRecDepth 20000
theorem of_words {x : AV} {t e : TypeId} (hu : Tryd.prog.underlying t = some (.slice e)) (he : Tryd.prog.underlying e = some (.int .u64)) (h : IsT Tryd.prog t x) :
    ∃ l : List Nat, x = .ro false (natsU l) ∧ (∀ n ∈ l, n < 18446744073709551616) := by
  obtain ⟨l, rfl, hw, hl⟩ := h.of_ints hu he
  refine ⟨l.map Int.toNat, ?_, ?_⟩
  · unfold natsU
    rw [List.map_map]
    congr 1
    apply List.map_congr_left
    intro n hn
    obtain ⟨h1, h2⟩ := wf_u64 (hw n hn)
    show AV.int .u64 n = AV.int .u64 ((n.toNat : Nat) : Int)
    rw [Int.toNat_of_nonneg h1]
  · intro n hn
    obtain ⟨z, hz, rfl⟩ := List.mem_map.1 hn
    have := wf_u64 (hw z hz)
    omega
theorem w_lt {i : MI} (h : rightB i = true) : 0 ≤ wordF i ∧ wordF i < 4294967296 := ⟨(word_all h).1, (word_all h).2.1⟩
theorem sum_app (l : List Nat) (x : Nat) : ∀ j, j ≤ l.length → sumF (l ++ [x]) j = sumF l j
  | 0, _ => rfl
  | j + 1, h => by
    have e : (l ++ [x]).getD j 0 = l.getD j 0 := by
      rw [List.getD_eq_getElem?_getD, List.getD_eq_getElem?_getD, List.getElem?_append_left (by omega)]
    simp only [sumF, sum_app l x j (by omega), e]
/-- The blocks of the law. -/
def hpL (mem : List Nat) : AHeap := [⟨43, 1, natsU mem⟩]
def xsL (l : List Nat) (c : Int) (w : List Int) (s : Nat) (j : Nat) : List AV := [.ro false (natsU l), I6 c, .bool true, Nn l.length, .ro false (codeW w), .sl 0 (l.length + 1) 0 (l.length + 1) 1, Un s, Nn j]
theorem ml_loop (G : Globs) (k : Nat) (self : Den) (l : List Nat) (hl : l.length ≤ 40) (c : Int) (w : List Int) (mem : List Nat) : ∀ (d j n : Nat), j + d = l.length → d < n →
    loopN (alembiclaw23_MachLoops.l12 G k 1 self) n (xsL l c w (sumF l j) j) (hpL mem) = some (.exit 0, xsL l c w (sumF l l.length) l.length, hpL mem)
  | d, j, 0, h, hf => by omega
  | 0, j, n + 1, h, hf => by
    have hj : j = l.length := by omega
    subst hj
    rw [loopN_succ, alembiclaw23_MachLoops.l12]
    have hc : cutH 1 (xsL l c w (sumF l l.length) l.length) (hpL mem) = some (hpL mem) := by simp [cutH, xsL, hpL, belowL, belowB, heapBelow, natsU_below, codeW_below]
    refine e_id ?_
    refine eC hc ?_
    unfold xsL
    have fx := True.intro
    refine wkA ?_
    refine e_out ?_; rfl
  | d + 1, j, n + 1, h, hf => by
    rw [loopN_succ, alembiclaw23_MachLoops.l12]
    have hc : cutH 1 (xsL l c w (sumF l j) j) (hpL mem) = some (hpL mem) := by simp [cutH, xsL, hpL, belowL, belowB, heapBelow, natsU_below, codeW_below]
    have ih := ml_loop G k self l hl c w mem d (j + 1) n (by omega) (by omega)
    have q1 : bin Tryd.prog .lss 3 false (Nn j) (Nn l.length) = some (.bool true) := q_lss_t (by omega)
    have d1 : idxAddrSl 1 (.ro false (natsU l)) (Nn j) = some (.rp false (Un (l.getD j 0)) 0) := idxRo (natsU_get l j (by omega))
    have d2 : ∀ (x : Nat) H, loadV G false 1 (.rp false (Un x) 0) H = some (Un x) := fun x H => rfl
    have d3 := u64_add Tryd.prog 43 false (sumF l j) (l.getD j 0)
    have d4 : bin Tryd.prog .add 3 true (Nn j) (.int .i64 1) = some (Nn (j + 1)) := by
      rw [bin_add, wrap_of_i64 (by omega) (by omega)]; congr 2
    have e : sumF l (j + 1) = (sumF l j + l.getD j 0) % 18446744073709551616 := rfl
    rw [← e] at d3
    refine e_id ?_
    refine eC hc ?_
    unfold xsL at ih ⊢
    generalize sumF l (j + 1) = z at *
    generalize l.getD j 0 = y at *
    generalize sumF l j = x at *
    have fx := And.intro q1 <| And.intro d1 <| And.intro d2 <| And.intro d3 <| d4
    refine wkB ?_
    exact ih
theorem rs33 (m l : AV) (s : QS) (hr : s.regs.length = 31) : (rsL m l s)[33]? = some l := by
  unfold rsL
  rw [show 33 = 31 + 1 + 1 from rfl, List.getElem?_cons_succ, List.getElem?_cons_succ, List.getElem?_append_right (by rw [natsU_len]; omega), natsU_len, hr]; rfl
theorem rs34 (m l : AV) (s : QS) (hr : s.regs.length = 31) : (rsL m l s)[34]? = some (Nn s.steps) := by
  unfold rsL
  rw [show 34 = 32 + 1 + 1 from rfl, List.getElem?_cons_succ, List.getElem?_cons_succ, List.getElem?_append_right (by rw [natsU_len]; omega), natsU_len, hr]; rfl
theorem rsR (m l : AV) (s : QS) (hr : s.regs.length = 31) (j : Nat) (hj : j < 31) : (rsL m l s)[2 + j]? = some (Un (s.regs.getD j 0)) := by
  unfold rsL
  rw [show 2 + j = j + 1 + 1 by omega, List.getElem?_cons_succ, List.getElem?_cons_succ, List.getElem?_append_left (by rw [natsU_len]; omega), natsU_get _ _ (by omega)]
theorem stRs (T : Nat) (j : Nat) (H : AHeap) (z cs : List AV) (hz : z.length = 35) (hc : cs.length = 35) (e : H[j]? = some ⟨T, 35, [.agg z]⟩) : stS (storeV 35 (.ptr j 1 0 0) (.agg cs) H) = some (.tup [], H.set j ⟨T, 35, [.agg cs]⟩) := by
  have e2 : putC z 0 cs = cs := by
    unfold putC
    rw [List.take_zero, List.nil_append, List.drop_of_length_le (by omega), List.append_nil]
  have e3 : (AV.agg cs).cells = cs := rfl
  have e4 : (AV.agg z).cells = z := rfl
  have hs : storable (.agg cs) = true := rfl
  unfold storeV
  simp only [e, List.length_singleton, hs, List.getElem?_cons_zero, e3]
  rw [if_pos (by refine ⟨?_, ?_, ?_⟩ <;> first | trivial | exact hc), e4, if_pos (by omega), e2]
  rfl
/-- The program's run, as the law calls it. -/
theorem run_call (G : Globs) (k : Nat) (w : List Int) (hwl : w.length ≤ 100) (hw : ∀ x ∈ w, 0 ≤ x ∧ x < 4294967296) (mem : List Nat) (hm : ∀ x ∈ mem, x < 18446744073709551616) (hml : mem.length ≤ 100) (fuel : Int) (h0 : 0 ≤ fuel) (h1 : fuel ≤ 1000) (hk : 2000 < k) (T : AHeap) (s : QS) (hs : runQ w fuel (k + 41) (q0 0 mem) = some s) :
    s.regs.length = 31 ∧ pureCall (mach_Run.f G (k + 42)) [.ro false (codeW w), .sl 0 mem.length 0 mem.length 1, I6 fuel] (⟨43, 1, natsU mem⟩ :: T) = some (.tup [endQ s, .nili], ⟨43, 1, natsU mem⟩ :: T) := by
  obtain ⟨s', hs', hr', h2⟩ := Run_spec G k false true w fuel mem hm (by omega) h0 (by omega) (by omega) (by omega) hw
  rw [hs] at hs'
  simp only [Option.some.injEq] at hs'
  subst hs'
  have plW : plainL (codeW w) = true := plainL_map _ (fun _ => rfl) w
  exact ⟨hr', pureCall_at (snapL_c (snap_plain (by simp [plainB, plW])) (snapL_c (snap_own (ty := 43) (xs := natsU mem) rfl (natsU_len mem) (allSz_U mem) (plainU mem)) (snapL_c (snap_plain rfl) snapL_n))) h2 (by simp [cleanB, cleanL]; exact endQ_clean s)⟩
theorem LMachLoops.law (xs : List AV) (h : IsTs Tryd.prog [25, 3] xs) : ∃ k, alembiclaw23_MachLoops.f (sentG 180 [1, 0]) k xs [] = some (.bool true, []) := by
  obtain ⟨x1, _, rfl, hx1, h⟩ := h.uncons
  obtain ⟨x2, _, rfl, hx2, h⟩ := h.uncons
  obtain rfl := h.unnil
  obtain ⟨l, rfl, hm⟩ := of_words Tryd.underlying25 Tryd.underlying43 hx1
  obtain ⟨c0, rfl, hcw⟩ := hx2.of_int (k := .i64) Tryd.underlying3
  have hc1 := wf_i64 hcw
  clear h hx1 hx2 hcw
  refine ⟨8001, ?_⟩
  generalize sentG 180 [1, 0] = G
  have rf : ∀ H, pureCall (alembiclaw23_first.f G 8000) [] H = _ := fun H => pureCall_of (H := H) (first23 G 7940) rfl rfl
  have lc : lenSl (.ro false (natsU l)) = some (Nn l.length) := by simp [lenSl, natsU_len]
  rw [alembiclaw23_MachLoops.step]
  unfold alembiclaw23_MachLoops.c
  by_cases hl : l.length > 40
  · have g : bin Tryd.prog .gtr 3 true (Nn l.length) (.int .i64 40) = some (.bool true) := q_gtr_t (by omega)
    refine e_in ?_
    have fx := And.intro rf <| And.intro lc <| g
    refine wkB ?_
    exact w1b rfl
  have g1 : bin Tryd.prog .gtr 3 true (Nn l.length) (.int .i64 40) = some (.bool false) := q_gtr_f (by omega)
  have nu : ∀ H, pureCall (alembicworld_Number.f G 8000) [I6 c0, .int .i64 5] H = _ := fun H => pureCall_of (H := H) (number G 7999 c0 5 (by decide) (by decide) hc1.1 hc1.2) rfl rfl
  obtain ⟨c, hc, h0, h5⟩ : ∃ c, c = c0 % 5 ∧ 0 ≤ c ∧ c ≤ 5 := ⟨_, rfl, by omega, by omega⟩
  rw [← hc] at nu
  clear hc hc1
  obtain ⟨n, hn⟩ : ∃ n, n = l.length := ⟨_, rfl⟩
  have hn40 : n ≤ 40 := by omega
  have wd : ∀ i : MI, rightB i = true → ∀ H, pureCall (alembiclaw23_word.f G 8000) [i.v] H = some (W32 (wordF i), H) := fun i hi H => pureCall_of (H := H) (lword_spec G 7993 i hi) rfl rfl
  have w1_ : ∀ H, pureCall (alembiclaw23_word.f G 8000) [mV 1 3 0 0 0 ((8 * n : Nat) : Int)] H = _ := wd (j1 n) (rj1 n hn40)
  have w2_ : ∀ H, pureCall (alembiclaw23_word.f G 8000) [mV 15 0 1 3 0 0] H = _ := wd j2 rj2
  have w3_ : ∀ H, pureCall (alembiclaw23_word.f G 8000) [mV 21 0 0 0 2 5] H = _ := wd j3 rj3
  have w4_ : ∀ H, pureCall (alembiclaw23_word.f G 8000) [mV 18 4 1 0 0 0] H = _ := wd j4 rj4
  have w5_ : ∀ H, pureCall (alembiclaw23_word.f G 8000) [mV 3 2 2 4 0 0] H = _ := wd j5 rj5
  have w6_ : ∀ H, pureCall (alembiclaw23_word.f G 8000) [mV 10 1 1 0 0 8] H = _ := wd j6 rj6
  have w7_ : ∀ H, pureCall (alembiclaw23_word.f G 8000) [mV 20 0 0 0 0 (-5)] H = _ := wd j7 rj7
  have w8_ : ∀ H, pureCall (alembiclaw23_word.f G 8000) [mV 19 2 1 0 0 0] H = _ := wd j8 rj8
  have w9_ : ∀ H, pureCall (alembiclaw23_word.f G 8000) [mV 24 0 0 0 0 c] H = _ := wd (j9 c) (rj9 c h0 h5)
  have hww : ∀ x ∈ loopC n c, 0 ≤ x ∧ x < 4294967296 := by
    intro x hx
    unfold loopC at hx
    simp only [List.mem_cons, List.not_mem_nil, or_false] at hx
    rcases hx with rfl | rfl | rfl | rfl | rfl | rfl | rfl | rfl | rfl
    · exact w_lt (rj1 n hn40)
    · exact w_lt rj2
    · exact w_lt rj3
    · exact w_lt rj4
    · exact w_lt rj5
    · exact w_lt rj6
    · exact w_lt rj7
    · exact w_lt rj8
    · exact w_lt (rj9 c h0 h5)
  have bro : ∀ a1 a2 a3 a4 a5 a6 a7 a8 a9 : Int, ∀ H, buildRo 1 9 (.int .u32 0) [(0, W32 a1), (1, W32 a2), (2, W32 a3), (3, W32 a4), (4, W32 a5), (5, W32 a6), (6, W32 a7), (7, W32 a8), (8, W32 a9)] H = some (.ro false (codeW [a1, a2, a3, a4, a5, a6, a7, a8, a9]), H) := fun a1 a2 a3 a4 a5 a6 a7 a8 a9 H => rfl
  have bro' := bro (wordF (j1 n)) (wordF j2) (wordF j3) (wordF j4) (wordF j5) (wordF j6) (wordF j7) (wordF j8) (wordF (j9 c))
  have elC : codeW [wordF (j1 n), wordF j2, wordF j3, wordF j4, wordF j5, wordF j6, wordF j7, wordF j8, wordF (j9 c)] = codeW (loopC n c) := rfl
  rw [elC] at bro'
  have bo : buildOwn 43 1 0 (.int .u64 0) [] [] = some (.sl 0 0 0 0 1, hpL []) := rfl
  have a1 : appendV 43 1 (.sl 0 0 0 0 1) (.ro false (natsU l)) (hpL []) = some (.sl 0 n 0 n 1, hpL l) := by
    unfold appendV
    simp only [hpL, List.getElem?_cons_zero, elemsOf, allSz_U, natsU_len]
    rw [if_pos (by refine ⟨rfl, ?_, ?_, ?_, ?_⟩ <;> first | trivial | rfl | (simp; omega) | omega)]
    simp [hn, natsU_len, natsU]
  have a2 : appendV 43 1 (.sl 0 n 0 n 1) (.ro false [.int .u64 0]) (hpL l) = some (.sl 0 (n + 1) 0 (n + 1) 1, hpL (l ++ [0])) := by
    unfold appendV
    simp only [hpL, List.getElem?_cons_zero, elemsOf, natsU_len, List.length_singleton]
    rw [if_pos (by refine ⟨?_, ?_, ?_, ?_, ?_⟩ <;> first | trivial | rfl | omega)]
    have e2 : (natsU l).take n = natsU l := List.take_of_length_le (by rw [natsU_len]; omega)
    have e3 : (natsU l).drop (n + 1) = [] := List.drop_of_length_le (by rw [natsU_len]; omega)
    rw [e2, e3, List.append_nil]
    have e4 : natsU l ++ [AV.int .u64 0] = natsU (l ++ [0]) := by simp [natsU]
    rw [e4, natsU_len]; simp [hn]
  have m8 : bin Tryd.prog .mul 3 true (.int .i64 8) (Nn l.length) = some (I6 ((8 * n : Nat) : Int)) := by
    rw [bin_mul, wrap_of_i64 (by omega) (by omega)]; congr 2; omega
  have lp : loopN (alembiclaw23_MachLoops.l12 G 8000 1 (alembiclaw23_MachLoops.f G 8000)) 8000 [.ro false (natsU l), I6 c, .bool true, Nn l.length, .ro false (codeW (loopC n c)), .sl 0 (l.length + 1) 0 (l.length + 1) 1, .int .u64 0, .int .i64 0] (hpL (l ++ [0])) = _ := ml_loop G 8000 (alembiclaw23_MachLoops.f G 8000) l (by omega) c (loopC n c) (l ++ [0]) l.length 0 8000 (by omega) (by omega)
  -- the runs
  have hmm : ∀ x ∈ l ++ [0], x < 18446744073709551616 := by
    intro x hx
    rcases List.mem_append.1 hx with h | h
    · exact hm x h
    · simp at h; omega
  have hml : (l ++ [0]).length = n + 1 := by simp [hn]
  obtain ⟨f, hf⟩ : ∃ f, 7958 + 41 = f + 6 * n + 5 := ⟨7994 - 6 * n, by omega⟩
  obtain ⟨⟨s, hs, e1, e2, e3, e4, e5⟩, ⟨t, ht, e6⟩⟩ := loop_end n hn40 c h0 h5 (l ++ [0]) (by omega) f
  rw [← hf] at hs ht
  obtain ⟨rl, rc⟩ := run_call G 7958 (loopC n c) (by show 9 ≤ 100; decide) hww (l ++ [0]) hmm (by omega) (6 * n + 5 : Nat) (by omega) (by omega) (by decide) [] s hs
  obtain ⟨Z, hZ, hZl⟩ : ∃ Z, Z = rsL .nils .nils (q0 0 []) ∧ Z.length = 35 := ⟨_, rfl, rfl⟩
  have hRl := rsL_len (.ro false (natsU s.mem)) (.ro false (leaksV s.leaks)) s rl
  obtain ⟨R, hR⟩ : ∃ R, R = rsL (.ro false (natsU s.mem)) (.ro false (leaksV s.leaks)) s := ⟨_, rfl⟩
  rw [← hR] at hRl
  obtain ⟨tl, tc⟩ := run_call G 7958 (loopC n c) (by show 9 ≤ 100; decide) hww (l ++ [0]) hmm (by omega) (6 * n + 4 : Nat) (by omega) (by omega) (by decide) [⟨65, 35, [.agg R]⟩] t ht
  have hTl := rsL_len (.ro false (natsU t.mem)) (.ro false (leaksV t.leaks)) t tl
  obtain ⟨Q, hQ⟩ : ∃ Q, Q = rsL (.ro false (natsU t.mem)) (.ro false (leaksV t.leaks)) t := ⟨_, rfl⟩
  rw [← hQ] at hTl
  unfold endQ at rc tc
  rw [← hR] at rc
  rw [← hQ] at tc
  rw [hml] at rc tc
  rw [show 7958 + 42 = 8000 from rfl] at rc tc
  have esum : sumF (l ++ [0]) n = sumF l n := sum_app l 0 n (by omega)
  rw [esum] at e3 e4
  have z0 : R[0]? = some (I6 s.code) := by rw [hR]; rfl
  have z1 : R[1]? = some (.ro false (natsU s.mem)) := by rw [hR]; rfl
  have z33 : R[33]? = some (.ro false (leaksV s.leaks)) := by rw [hR]; exact rs33 _ _ s rl
  have z34 : R[34]? = some (Nn s.steps) := by rw [hR]; exact rs34 _ _ s rl
  have z4 : R[4]? = some (Un (s.regs.getD 2 0)) := by rw [hR]; exact rsR _ _ s rl 2 (by decide)
  have y0 : Q[0]? = some (I6 t.code) := by rw [hQ]; rfl
  have eg : s.regs.getD 2 0 = sumF l n := e4
  rw [eg] at z4
  rw [e1] at z0
  rw [e6] at y0
  rw [e2] at z34
  have lk : lenSl (.ro false (leaksV s.leaks)) = some (Nn (8 * n + 7)) := by simp [lenSl, leaksV_len, e5]
  have hmg : s.mem.getD n 0 = sumF l n := by
    rw [e3, List.getD_eq_getElem?_getD, List.getElem?_set_self (by omega)]; rfl
  have hmlen : s.mem.length = n + 1 := by rw [e3, List.length_set, hml]
  have im : idxAddrSl 1 (.ro false (natsU s.mem)) (Nn n) = some (.rp false (Un (sumF l n)) 0) := by
    have := idxRo (b := false) (natsU_get s.mem n (by omega))
    rw [hmg] at this; exact this
  have lm : ∀ (x : Nat) H, loadV G false 1 (.rp false (Un x) 0) H = some (Un x) := fun x H => rfl
  have zz : (AV.agg [.int .i64 0, .nils, .int .u64 0, .int .u64 0, .int .u64 0, .int .u64 0, .int .u64 0, .int .u64 0, .int .u64 0, .int .u64 0, .int .u64 0, .int .u64 0, .int .u64 0, .int .u64 0, .int .u64 0, .int .u64 0, .int .u64 0, .int .u64 0, .int .u64 0, .int .u64 0, .int .u64 0, .int .u64 0, .int .u64 0, .int .u64 0, .int .u64 0, .int .u64 0, .int .u64 0, .int .u64 0, .int .u64 0, .int .u64 0, .int .u64 0, .int .u64 0, .int .u64 0, .nils, .int .i64 0]) = .agg (rsL .nils .nils (q0 0 [])) := rfl
  rw [zz, ← hZ]
  have bx : boxA 65 (.agg Z) (hpL (l ++ [0])) = some (.ptr 1 1 0 0, [⟨43, 1, natsU (l ++ [0])⟩, ⟨65, 35, [.agg Z]⟩]) := by rw [hZ]; rfl
  have sx : stS (storeV 35 (.ptr 1 1 0 0) (.agg R) [⟨43, 1, natsU (l ++ [0])⟩, ⟨65, 35, [.agg Z]⟩]) = some (.tup [], [⟨43, 1, natsU (l ++ [0])⟩, ⟨65, 35, [.agg R]⟩]) := stRs 65 1 [⟨43, 1, natsU (l ++ [0])⟩, ⟨65, 35, [.agg Z]⟩] Z R hZl hRl rfl
  have bx2 : boxA 65 (.agg Z) [⟨43, 1, natsU (l ++ [0])⟩, ⟨65, 35, [.agg R]⟩] = some (.ptr 2 1 0 0, [⟨43, 1, natsU (l ++ [0])⟩, ⟨65, 35, [.agg R]⟩, ⟨65, 35, [.agg Z]⟩]) := by rw [hZ]; rfl
  have sx2 : stS (storeV 35 (.ptr 2 1 0 0) (.agg Q) [⟨43, 1, natsU (l ++ [0])⟩, ⟨65, 35, [.agg R]⟩, ⟨65, 35, [.agg Z]⟩]) = some (.tup [], [⟨43, 1, natsU (l ++ [0])⟩, ⟨65, 35, [.agg R]⟩, ⟨65, 35, [.agg Q]⟩]) := stRs 65 2 [⟨43, 1, natsU (l ++ [0])⟩, ⟨65, 35, [.agg R]⟩, ⟨65, 35, [.agg Z]⟩] Z Q hZl hTl rfl
  have ldA : ∀ o, loadV G false 1 (.ptr 1 1 0 o) [⟨43, 1, natsU (l ++ [0])⟩, ⟨65, 35, [.agg R]⟩, ⟨65, 35, [.agg Q]⟩] = R[o]? := fun o => rfl
  have ldB : ∀ o, loadV G false 1 (.ptr 2 1 0 o) [⟨43, 1, natsU (l ++ [0])⟩, ⟨65, 35, [.agg R]⟩, ⟨65, 35, [.agg Q]⟩] = Q[o]? := fun o => rfl
  have a0 := (ldA 0).trans z0
  have a1' := (ldA 1).trans z1
  have a33 := (ldA 33).trans z33
  have a34 := (ldA 34).trans z34
  have a4 := (ldA 4).trans z4
  have b0 := (ldB 0).trans y0
  have k0 : ∀ b, fieldAddrV 0 (.ptr b 1 0 0) = some (.ptr b 1 0 0) := fun b => rfl
  have k1 : ∀ b, fieldAddrV 1 (.ptr b 1 0 0) = some (.ptr b 1 0 1) := fun b => rfl
  have k2 : ∀ b, fieldAddrV 2 (.ptr b 1 0 0) = some (.ptr b 1 0 2) := fun b => rfl
  have k33 : ∀ b, fieldAddrV 33 (.ptr b 1 0 0) = some (.ptr b 1 0 33) := fun b => rfl
  have k34 : ∀ b, fieldAddrV 34 (.ptr b 1 0 0) = some (.ptr b 1 0 34) := fun b => rfl
  have ix2 : idxAddrArr 31 1 (.ptr 1 1 0 2) (.int .i64 2) = some (.ptr 1 1 0 4) := rfl
  have q1 : bin Tryd.prog .eql 30 true .nili .nili = some (.bool true) := by kernel_rfl
  have m6 : bin Tryd.prog .mul 3 true (.int .i64 6) (Nn n) = some (I6 ((6 * n : Nat) : Int)) := by
    rw [bin_mul, wrap_of_i64 (by omega) (by omega)]; congr 2
  have m65 : bin Tryd.prog .add 3 true (I6 ((6 * n : Nat) : Int)) (.int .i64 5) = some (I6 ((6 * n + 5 : Nat) : Int)) := by
    rw [bin_add, wrap_of_i64 (by omega) (by omega)]; congr 2
  have m64 : bin Tryd.prog .sub 2 true (I6 ((6 * n + 5 : Nat) : Int)) (.int .i64 1) = some (I6 ((6 * n + 4 : Nat) : Int)) := by
    rw [bin_sub, wrap_of_i64 (by omega) (by omega)]; congr 2; omega
  have m71 : bin Tryd.prog .add 3 false (I6 ((6 * n + 5 : Nat) : Int)) (Nn n) = some (I6 ((7 * n + 5 : Nat) : Int)) := by
    rw [bin_add, wrap_of_i64 (by omega) (by omega)]; congr 2; omega
  have m72 : bin Tryd.prog .add 3 true (I6 ((7 * n + 5 : Nat) : Int)) (.int .i64 1) = some (I6 ((7 * n + 6 : Nat) : Int)) := by
    rw [bin_add, wrap_of_i64 (by omega) (by omega)]; congr 2
  have m73 : bin Tryd.prog .add 3 false (I6 ((7 * n + 6 : Nat) : Int)) (Nn n) = some (I6 ((8 * n + 6 : Nat) : Int)) := by
    rw [bin_add, wrap_of_i64 (by omega) (by omega)]; congr 2; omega
  have m74 : bin Tryd.prog .add 3 true (I6 ((8 * n + 6 : Nat) : Int)) (.int .i64 1) = some (Nn (8 * n + 7)) := by
    rw [bin_add, wrap_of_i64 (by omega) (by omega)]; congr 2
  have p1 : bin Tryd.prog .eql 3 false (Nn (8 * n + 7)) (Nn (8 * n + 7)) = some (.bool true) := q_eql_t rfl
  have p2 : bin Tryd.prog .eql 2 false (Nn (6 * n + 5)) (I6 ((6 * n + 5 : Nat) : Int)) = some (.bool true) := q_eql_t rfl
  have p3 : ∀ x : Nat, bin Tryd.prog .eql 43 false (Un x) (Un x) = some (.bool true) := fun x => q_eql_t rfl
  have hl1 : (hpL (l ++ [0])).length = 1 := rfl
  unfold xsL at lp
  rw [← hn] at lp lc m8 g1
  have tch : (⟨43, 1, natsU (l ++ [0])⟩ :: [] : AHeap) = hpL (l ++ [0]) := rfl
  rw [tch] at rc
  clear ldA ldB hR hQ hZ z0 z1 z33 z34 z4 y0 hRl hTl hZl zz hs ht hm hmm hww hml e1 e2 e3 e4 e5 e6 esum eg wd bro elC rl tl hf tch hmg hmlen
  generalize natsU (l ++ [0]) = ml at *
  generalize hpL (l ++ [0]) = hl_ at *
  generalize natsU s.mem = sm at *
  generalize leaksV s.leaks = ll at *
  generalize codeW (loopC n c) = cw at *
  generalize wordF (j1 n) = u1 at *
  generalize wordF (j9 c) = u9 at *
  generalize sumF l n = su at *
  generalize natsU l = nl at *
  generalize ((6 * n + 5 : Nat) : Int) = f5 at *
  generalize ((6 * n + 4 : Nat) : Int) = f4 at *
  generalize ((6 * n : Nat) : Int) = f0 at *
  generalize ((7 * n + 5 : Nat) : Int) = g5 at *
  generalize ((7 * n + 6 : Nat) : Int) = g6 at *
  generalize ((8 * n + 6 : Nat) : Int) = h6 at *
  generalize ((8 * n + 7 : Nat) : Int) = h7 at *
  generalize ((8 * n : Nat) : Int) = n8 at *
  refine e_in ?_
  by_cases hc2 : c ≤ 2
  · rw [if_pos hc2] at a0
    have gc : bin Tryd.prog .gtr 3 true (I6 c) (.int .i64 2) = some (.bool false) := q_gtr_f (by omega)
    have pc : bin Tryd.prog .eql 3 false (I6 c) (I6 c) = some (.bool true) := q_eql_t rfl
    have fx := And.intro rf <| And.intro lc <| And.intro g1 <| And.intro nu <| And.intro m8 <| And.intro w1_ <| And.intro w2_ <| And.intro w3_ <| And.intro w4_ <| And.intro w5_ <| And.intro w6_ <| And.intro w7_ <| And.intro w8_ <| And.intro w9_ <| And.intro bro' <| And.intro bo <| And.intro a1 <| a2
    refine wkB ?_
    rw [hl1]
    have fx := And.intro rf <| And.intro lc <| And.intro g1 <| And.intro nu <| And.intro m8 <| And.intro w1_ <| And.intro w2_ <| And.intro w3_ <| And.intro w4_ <| And.intro w5_ <| And.intro w6_ <| And.intro w7_ <| And.intro w8_ <| And.intro w9_ <| And.intro bro' <| And.intro bo <| And.intro a1 <| And.intro a2 <| And.intro hl1 <| And.intro m6 <| And.intro m65 <| And.intro m64 <| And.intro m71 <| And.intro m72 <| And.intro m73 <| And.intro m74 <| And.intro rc <| And.intro tc <| And.intro bx <| And.intro sx <| And.intro bx2 <| And.intro sx2 <| And.intro gc <| And.intro pc <| And.intro a0 <| And.intro a1' <| And.intro a33 <| And.intro a34 <| And.intro a4 <| And.intro b0 <| And.intro k0 <| And.intro k1 <| And.intro k2 <| And.intro k33 <| And.intro k34 <| And.intro ix2 <| And.intro q1 <| And.intro lk <| And.intro im <| And.intro lm <| And.intro p1 <| And.intro p2 <| p3
    have lx1 := lp
    refine wkB ?_
    exact w1b rfl
  · rw [if_neg hc2] at a0
    have gc : bin Tryd.prog .gtr 3 true (I6 c) (.int .i64 2) = some (.bool true) := q_gtr_t (by omega)
    have fx := And.intro rf <| And.intro lc <| And.intro g1 <| And.intro nu <| And.intro m8 <| And.intro w1_ <| And.intro w2_ <| And.intro w3_ <| And.intro w4_ <| And.intro w5_ <| And.intro w6_ <| And.intro w7_ <| And.intro w8_ <| And.intro w9_ <| And.intro bro' <| And.intro bo <| And.intro a1 <| a2
    refine wkB ?_
    rw [hl1]
    have fx := And.intro rf <| And.intro lc <| And.intro g1 <| And.intro nu <| And.intro m8 <| And.intro w1_ <| And.intro w2_ <| And.intro w3_ <| And.intro w4_ <| And.intro w5_ <| And.intro w6_ <| And.intro w7_ <| And.intro w8_ <| And.intro w9_ <| And.intro bro' <| And.intro bo <| And.intro a1 <| And.intro a2 <| And.intro hl1 <| And.intro m6 <| And.intro m65 <| And.intro m64 <| And.intro m71 <| And.intro m72 <| And.intro m73 <| And.intro m74 <| And.intro rc <| And.intro tc <| And.intro bx <| And.intro sx <| And.intro bx2 <| And.intro sx2 <| And.intro gc <| And.intro a0 <| And.intro a1' <| And.intro a33 <| And.intro a34 <| And.intro a4 <| And.intro b0 <| And.intro k0 <| And.intro k1 <| And.intro k2 <| And.intro k33 <| And.intro k34 <| And.intro ix2 <| And.intro q1 <| And.intro lk <| And.intro im <| And.intro lm <| And.intro p1 <| And.intro p2 <| p3
    have lx1 := lp
    refine wkB ?_
    exact w1b rfl
end Go.Proofs.YtdfglgnflldkpaaDoor
namespace Go.Proofs.YtdfglgnflldkpaaDoor
open Go Go.ChangeShapes Go.WideShapes Go.RowKit Mir
set_option linter.unusedVariables false
set_option linter.unusedSimpArgs false
namespace RMachLoops
noncomputable def laidWorld (os : Os) : World :=
  let w0 := World.holding Tryd.prog os ⟨#[.cells #[.string ⟨#[97, 32, 110, 117, 109, 98, 101, 114, 32, 111, 117, 116, 32, 111, 102, 32, 105, 116, 115, 32, 114, 97, 110, 103, 101]⟩] 197, .cells #[.string ⟨#[116, 111, 111, 32, 109, 97, 110, 121]⟩] 197], #[], []⟩
  { w0 with heap := w0.heap
    |>.modify 1 (fun
      | .cells _ t frozen => .cells #[.iface 180 (.pointer (some ⟨Rk.low, 0, none⟩))] t frozen
      | o => o)
    |>.modify 0 (fun
      | .cells _ t frozen => .cells #[.iface 180 (.pointer (some ⟨Rk.low + 1, 0, none⟩))] t frozen
      | o => o) }
theorem laidWorld_met (os : Os) (args : Array Value) : laidMetH Tryd.prog ([("alembic/api.ErrRange", Rows.laid_alembic_api_ErrRange), ("alembic/api.ErrMany", Rows.laid_alembic_api_ErrMany)] : List (String × DataW Unit)) ((laidWorld os).forCall (fun _ _ => 0) ⟨#[], args, []⟩).memory :=
  laidMet_of_run (ps := [.cell 1 0, .cell (Rk.low) 0, .cell 0 0, .cell (Rk.low + 1) 0]) 8 (by kernel_rfl) (by kernel_rfl) (by kernel_rfl)
theorem sentL : SentL Tryd.prog 30 [("alembic/api.ErrRange", Rows.laid_alembic_api_ErrRange), ("alembic/api.ErrMany", Rows.laid_alembic_api_ErrMany)] [1, 0] := ⟨by kernel_rfl, by kernel_rfl, ⟨_, rfl⟩, by kernel_rfl, by kernel_rfl, ⟨_, rfl⟩, trivial⟩
theorem sent {W : World} (h : laidMetH Tryd.prog ([("alembic/api.ErrRange", Rows.laid_alembic_api_ErrRange), ("alembic/api.ErrMany", Rows.laid_alembic_api_ErrMany)] : List (String × DataW Unit)) W) : ∃ S, SentS W 180 [1, 0] S :=
  sent_of_laid Tryd.underlying30 Rk.row Tryd.underlying180 Tryd.underlying197 rfl rfl Tryd.underlying9 (by kernel_rfl) (by kernel_rfl) sentL (by decide) h
theorem plainTs : ∀ t ∈ ([25, 43, 3] : List Nat), plainT Tryd.prog [25, 43, 3] t = true := List.all_eq_true.1 (by kernel_rfl)
set_option maxRecDepth 100000 in
theorem lifted (os : Os) (started : os.Started) (H : Type) (enc : TypeId × Value → H) :
    ReturnsInHanded {} Tryd.checked os 9 .any (fun w args => (Rows.machLoopsSpec.pre enc Tryd.prog Tryd.f9 [] false w args ∧ laidMetH Tryd.prog ([("alembic/api.ErrRange", Rows.laid_alembic_api_ErrRange), ("alembic/api.ErrMany", Rows.laid_alembic_api_ErrMany)] : List (String × DataW Unit)) w) ∧ sizedMet enc Tryd.prog Tryd.f9 (OpenSpec.ofChange Rows.machLoopsSpec) false w args)
      (Rows.machLoopsSpec.post enc Tryd.prog Tryd.f9 false true false false) := by
  refine returnsInHanded_of_change_and (C := Tryd.checked) (X := fun w _ => laidMetH Tryd.prog ([("alembic/api.ErrRange", Rows.laid_alembic_api_ErrRange), ("alembic/api.ErrMany", Rows.laid_alembic_api_ErrMany)] : List (String × DataW Unit)) w) (fun _ _ _ hh h => h.of_heap hh) Rk.own started (by kernel_rfl) Tryd.func9
    (ChangeSpec.witness_at (enc := enc) (C := Tryd.checked) (os := os) (X := fun w _ => laidMetH Tryd.prog ([("alembic/api.ErrRange", Rows.laid_alembic_api_ErrRange), ("alembic/api.ErrMany", Rows.laid_alembic_api_ErrMany)] : List (String × DataW Unit)) w) false (laidWorld os) #[.slice none 0 0, .int .i64 0] 8 rfl (by kernel_rfl) (by kernel_rfl) (by kernel_rfl) (by kernel_rfl) (by kernel_rfl) (laidWorld_met os _)) ?_
  intro W base args ds gs before hval0 hW _ _ hL _
  obtain ⟨S, hS⟩ := sent hL
  have hval : ∀ (j : Nat) t v, Tryd.f9.params.toList[j]? = some t → args.toList[j]? = some v → Value.okWide Tryd.prog W .any base t v := fun j t v h1 h2 => hval0 j t v (by simpa using h1) (by simpa using h2)
  have hW' := hW
  obtain ⟨p, q, hA, _, _, _, _⟩ := hW
  have hpar : Tryd.f9.params.toList = [25, 3] := by rw [Tryd.params9]
  rw [hpar] at hval
  replace hA : DataW.TrodAll enc Tryd.prog W 0 (fun _ => true) true Tryd.f9.params.toList args.toList ds p := hA
  rw [hpar] at hA
  obtain ⟨xs, h1, h2⟩ := read_args plainTs (by decide) hval hA
  obtain ⟨k, hk⟩ := LMachLoops.law xs h1
  have hc := calls_top (Mir.alembiclaw23_MachLoops.sound (sentG_plain _ _) k) hk (good_top hS) h2
  rw [Array.toArray_toList] at hc
  refine hc.mono fun e W' ⟨he, hb⟩ => ⟨_, he, ?_⟩
  exact post_top rfl hpar (by kernel_rfl) Tryd.underlying4 (fun ds hd => by
    obtain ⟨d0, d1, rfl⟩ : ∃ d0 d1, ds = [d0, d1] := by
      match ds, hd with
      | [d0, d1], _ => exact ⟨d0, d1, rfl⟩
    rfl) Rk.laidOut (by kernel_rfl) hW' hb
theorem holds : Rows.MachLoopsSaid :=
  OpenClaim.holds_of_wide 9 Tryd.f9 rfl rfl rfl rfl rfl rfl rfl ⟨rfl, rfl, rfl, rfl, rfl⟩ rfl rfl rfl rfl rfl (by kernel_rfl) Tryd.func9 (by kernel_rfl)
    (of_decide_eq_true (by kernel_rfl)) (by unfold Func.isWrapper; first | (rw [if_pos (by decide +kernel)]; kernel_rfl) | (rw [if_neg (by decide +kernel)]; exact ⟨rfl, rfl⟩))
    (fun os started H enc _ => lifted os started H enc)
theorem cardHolds : Rows.MachLoopsCardSaid :=
  Claim7.holds_tied_plain_at .later [] [.sentinel, .sentinel] true (true, "92292b04e853d01d8cf3885d4f753a51952eaef99bf2156408a64e96f17010d7") true
    holds (fun _ h => by cases h) (by kernel_rfl) (fun _ h => by cases h) machLoops_row_tie rfl ⟨rfl, rfl⟩ (by kernel_rfl) rfl
    (fun f fn hf hfn => by
      obtain rfl : f = 9 := Option.some.inj ((show Tryd.prog.funcNamed "alembic/alembiclaw23.MachLoops" = some 9 by kernel_rfl).symm.trans hf) |>.symm
      obtain rfl : fn = Tryd.f9 := (Option.some.inj (Tryd.func9.symm.trans hfn)).symm
      exact ⟨by kernel_rfl, fun j t ht => by
        have hm : t ∈ ([25, 3] : List Nat) := by
          have := List.mem_of_getElem? (l := Tryd.f9.params.toList) (i := j) (by simpa using ht)
          rw [Tryd.params9] at this
          exact this
        have := List.all_eq_true.1 (show ([25, 3] : List Nat).all (fun t => !Tryd.prog.wantsStandIn t) = true by kernel_rfl) t hm
        exact (by simpa using this : Tryd.prog.wantsStandIn t = false)⟩)
    (by kernel_rfl)
end RMachLoops
end Go.Proofs.YtdfglgnflldkpaaDoor
