/- The law of BoundChecks, in plain Lean. -/
import Derived.Test.YtcmblhedhgiofaaDoorYk
namespace Go.Proofs.YtcmblhedhgiofaaDoor
open Go Mir
set_option linter.unusedVariables false
set_option linter.unusedSimpArgs false
set_option maxHeartbeats 8000000
set_option maxRecDepth 20000

theorem first18 (G : Globs) (k : Nat) : alembiclaw18_first.f G (k + 60) [] [] = some (.bool true, []) := by kernel_rfl

theorem of_words {x : AV} {t e : TypeId} (hu : Tryd.prog.underlying t = some (.slice e)) (he : Tryd.prog.underlying e = some (.int .u64)) (h : IsT Tryd.prog t x) :
    ∃ l : List Nat, x = .ro false (natsU l) ∧ (∀ n ∈ l, n < 18446744073709551616) := by
  obtain ⟨l, rfl, hw, hl⟩ := h.of_ints hu he
  refine ⟨l.map Int.toNat, ?_, ?_⟩
  · unfold natsU
    rw [List.map_map]
    congr 1
    apply List.map_congr_left
    intro n hn
    obtain ⟨h1, h2⟩ := wf_u64 (hw n hn)
    show AV.int .u64 n = AV.int .u64 ((n.toNat : Nat) : Int)
    rw [Int.toNat_of_nonneg h1]
  · intro n hn
    obtain ⟨z, hz, rfl⟩ := List.mem_map.1 hn
    have := wf_u64 (hw z hz)
    omega

theorem of_ins {x : AV} (h : IsT Tryd.prog 52 x) : ∃ i : Ins, x = i.v ∧ (-9223372036854775808 ≤ i.k ∧ i.k < 9223372036854775808) := by
  obtain ⟨cs, rfl, hf⟩ := h.of_struct Tryd.underlying52
  cases hf with
  | cons h1 hf =>
  cases hf with
  | cons h2 hf =>
  cases hf with
  | cons h3 hf =>
  cases hf with
  | cons h4 hf =>
  cases hf with
  | cons h5 hf =>
  cases hf with
  | cons h6 hf =>
  cases hf with
  | nil =>
  obtain ⟨a, rfl, _⟩ := h1.of_int (k := .i64) Tryd.underlying3
  obtain ⟨b, rfl, _⟩ := h2.of_int (k := .i64) Tryd.underlying3
  obtain ⟨c, rfl, _⟩ := h3.of_int (k := .i64) Tryd.underlying3
  obtain ⟨d, rfl, _⟩ := h4.of_int (k := .i64) Tryd.underlying3
  obtain ⟨e, rfl, _⟩ := h5.of_int (k := .i64) Tryd.underlying3
  obtain ⟨f, rfl, hw⟩ := h6.of_int (k := .i64) Tryd.underlying2
  exact ⟨⟨a, b, c, d, e, f⟩, rfl, wf_i64 hw⟩

theorem of_list {α : Type} {P : AV → Prop} {e : α → AV} {Q : α → Prop} (h : ∀ x, P x → ∃ a, x = e a ∧ Q a) : ∀ xs : List AV, (∀ x ∈ xs, P x) → ∃ l : List α, xs = l.map e ∧ ∀ a ∈ l, Q a
  | [], _ => ⟨[], rfl, fun a h => by cases h⟩
  | x :: xs, hx => by
    obtain ⟨a, rfl, ha⟩ := h x (hx x (by simp))
    obtain ⟨l, rfl, hl⟩ := of_list h xs (fun y hy => hx y (by simp [hy]))
    refine ⟨a :: l, rfl, fun b hb => ?_⟩
    rcases List.mem_cons.1 hb with rfl | hb
    · exact ha
    · exact hl b hb

theorem of_code {x : AV} (h : IsT Tryd.prog 24 x) : ∃ (cs : List Ins) (R M : Int), x = cdV false cs R M ∧ (-9223372036854775808 ≤ R ∧ R < 9223372036854775808) ∧ (-9223372036854775808 ≤ M ∧ M < 9223372036854775808) := by
  obtain ⟨cs, rfl, hf⟩ := h.of_struct Tryd.underlying24
  cases hf with
  | cons h1 hf =>
  cases hf with
  | cons h2 hf =>
  cases hf with
  | cons h3 hf =>
  cases hf with
  | nil =>
  obtain ⟨xs, rfl, hx, _⟩ := h1.of_slice Tryd.underlying22
  obtain ⟨l, rfl, _⟩ := of_list (e := Ins.v) (fun x hx => of_ins hx) xs hx
  obtain ⟨R, rfl, hR⟩ := h2.of_int (k := .i64) Tryd.underlying3
  obtain ⟨M, rfl, hM⟩ := h3.of_int (k := .i64) Tryd.underlying3
  exact ⟨l, R, M, rfl, wf_i64 hR, wf_i64 hM⟩

theorem codE_ne (e : Nat) : codE e ≠ 0 := by unfold codE; repeat' split <;> try omega

theorem badF_ok2 {R n : Int} (hR : 0 ≤ R) : ∀ {l : List Ins} {j : Nat}, badF R n l j = .ok → ∀ i ∈ l, i.Ok2 R.toNat n.toNat
  | [], _, _, i, hi => by cases hi
  | x :: l, j, h, i, hi => by
    unfold badF at h
    split at h
    · cases h
    · rename_i ho
      rcases List.mem_cons.1 hi with rfl | hi
      · exact oneF_ok2 ho hR
      · exact badF_ok2 hR h i hi
theorem validF_ok2 {cs : List Ins} {R M : Int} (h : validF cs R M = .ok) : ∀ j, j < cs.length → (cs.getD j default).Ok2 R.toNat cs.length := by
  obtain ⟨⟨hR0, _⟩, _⟩ := validF_ok h
  unfold validF at h
  by_cases h1 : 262144 < cs.length
  · rw [if_pos h1] at h; cases h
  rw [if_neg h1] at h
  by_cases h2 : R < 0 ∨ 65536 < R ∨ M < 0 ∨ 65536 < M
  · rw [if_pos h2] at h; cases h
  rw [if_neg h2] at h
  intro j hj
  have := badF_ok2 (by omega) h (cs.getD j default) (by simp [List.getD, List.getElem?_eq_getElem hj])
  rwa [Int.toNat_natCast] at this


theorem of_span {x : AV} (h : IsT Tryd.prog 71 x) : ∃ p : Int × Int, x = leakV p ∧ True := by
  obtain ⟨cs, rfl, hf⟩ := h.of_struct Tryd.underlying71
  cases hf with
  | cons h1 hf =>
  cases hf with
  | cons h2 hf =>
  cases hf with
  | nil =>
  obtain ⟨a, rfl, _⟩ := h1.of_int (k := .i64) Tryd.underlying2
  obtain ⟨b, rfl, _⟩ := h2.of_int (k := .i64) Tryd.underlying2
  exact ⟨(a, b), rfl, trivial⟩
theorem of_spans {x : AV} (h : IsT Tryd.prog 60 x) : ∃ l : List (Int × Int), x = .ro false (leaksV l) := by
  obtain ⟨xs, rfl, hx, _⟩ := h.of_slice Tryd.underlying60
  obtain ⟨l, rfl, _⟩ := of_list (e := leakV) (fun x hx => of_span hx) xs hx
  exact ⟨l, rfl⟩
theorem of_u64 {x : AV} (h : IsT Tryd.prog 48 x) : ∃ n : Nat, x = Un n ∧ n < 18446744073709551616 := by
  obtain ⟨a, rfl, hw⟩ := h.of_int (k := .u64) Tryd.underlying48
  obtain ⟨h1, h2⟩ := wf_u64 hw
  refine ⟨a.toNat, ?_, by omega⟩
  show AV.int .u64 a = AV.int .u64 ((a.toNat : Nat) : Int)
  rw [Int.toNat_of_nonneg h1]

theorem other18 (G : Globs) (k : Nat) (cs : List Ins) (R M : Int) : alembiclaw18_other.f G (k + 1) [cdV false cs R M] [] = some (cdV false cs R M, []) := by
  rw [alembiclaw18_other.step]
  unfold alembiclaw18_other.c cdV
  refine e_in ?_
  repeat' first
    | (with_reducible first | refine eT ?_ | refine eN ?_ | refine eS ?_ | refine eXn ?_ | refine eXr ?_ | refine eX ?_ | refine eI ?_ | refine eK ?_ | refine eV0 ?_ | refine eGtt ?_ | refine eGff ?_ | refine eGtf ?_ | refine eGft ?_ | refine eGno ?_)
    | ((with_reducible apply eCn); (simp only [nth_zero, nth_succ]; first | done | (with_reducible exact rfl)))
    | ((with_reducible apply eJ); (rfl))
    | ((with_reducible apply eB); (first | (with_reducible exact rfl) | (simp (disch := omega) only [qa, putC, AV.cells, storable, buildSt, fillA, buildRo, buildOwn, fillE, Nat.reduceLeDiff, Nat.reduceLT, Nat.reduceAdd, ↓reduceIte]; first | done | (with_reducible exact rfl) | (with_reducible exact ⟨rfl, rfl⟩))))
    | ((with_reducible apply eR); (simp only [nth_zero, nth_succ]; (with_reducible exact rfl)))
    | ((with_reducible first | refine sEql ?_ ?_ | refine sNeq ?_ ?_ | refine sLss ?_ ?_ | refine sLeq ?_ ?_ | refine sGtr ?_ ?_ | refine sGeq ?_ ?_ | refine sNot ?_ ?_ | refine sPick ?_ ?_ | refine sGd ?_ ?_ | refine eBool ?_ ?_) <;> intro hq <;> try subst hq)
  refine oF ?_
  unfold finL
  exact finV_zero (by simp [belowB, belowL, codeV_below, AV.cells]) _

theorem runB_more (sp : List (Int × Int)) (cs : List Ins) (fuel : Int) : ∀ (f : Nat) (s : MS) (o : MS × Int), B3.runB sp cs fuel f s = some o → ∀ d, B3.runB sp cs fuel (f + d) s = some o
  | 0, s, o, h, d => by simp [B3.runB] at h
  | f + 1, s, o, h, d => by
    rw [show f + 1 + d = (f + d) + 1 by omega]
    simp only [B3.runB] at h ⊢
    by_cases h1 : cs.length ≤ s.at_
    · rw [if_pos h1] at h ⊢; exact h
    rw [if_neg h1] at h ⊢
    by_cases h2 : (s.steps : Int) = fuel
    · rw [if_pos h2] at h ⊢; exact h
    rw [if_neg h2] at h ⊢
    by_cases h3 : B3.wrongB sp s (cs.getD s.at_ default) = true
    · rw [if_pos h3] at h ⊢; exact h
    rw [if_neg h3] at h ⊢
    obtain ⟨s2, b, hsb⟩ : ∃ s2 b, s.tick.step (cs.getD s.at_ default) = (s2, b) := ⟨_, _, rfl⟩
    rw [hsb] at h ⊢
    cases b
    · exact h
    · exact runB_more sp cs fuel f s2 o h d

def light18 (n : Nat) (R M : Int) (m p : Nat) (fuel : Int) : Prop := n ≤ 80 ∧ R ≤ 100 ∧ M ≤ 200 ∧ m ≤ 220 ∧ p ≤ 90 ∧ (fuel ≤ 2000 ∨ 1073741824 < fuel)

theorem LBoundChecks.law (xs : List AV) (h : IsTs Tryd.prog [24, 60, 25, 2, 52, 48, 48] xs) : ∃ k, alembiclaw18_BoundChecks.f (sentG 154 [2, 1, 0, 3, 6, 4, 7, 8, 5, 9, 10, 11, 12, 13]) k xs [] = some (.bool true, []) := by
  obtain ⟨x1, _, rfl, hx1, h⟩ := h.uncons
  obtain ⟨x2, _, rfl, hx2, h⟩ := h.uncons
  obtain ⟨x3, _, rfl, hx3, h⟩ := h.uncons
  obtain ⟨x4, _, rfl, hx4, h⟩ := h.uncons
  obtain ⟨x5, _, rfl, hx5, h⟩ := h.uncons
  obtain ⟨x6, _, rfl, hx6, h⟩ := h.uncons
  obtain ⟨x7, _, rfl, hx7, h⟩ := h.uncons
  obtain rfl := h.unnil
  obtain ⟨cs, R, M, rfl, hR, hM⟩ := of_code hx1
  obtain ⟨sp, rfl⟩ := of_spans hx2
  obtain ⟨mem, rfl, hm⟩ := of_words Tryd.underlying25 Tryd.underlying48 hx3
  obtain ⟨fuel, rfl, hfu⟩ := hx4.of_int (k := .i64) Tryd.underlying2
  obtain ⟨i, rfl, hik⟩ := of_ins hx5
  obtain ⟨a, rfl, ha⟩ := of_u64 hx6
  obtain ⟨b, rfl, hb⟩ := of_u64 hx7
  replace hfu := wf_i64 hfu
  clear h hx1 hx2 hx3 hx4 hx5 hx6 hx7
  refine ⟨8001, ?_⟩
  have hG := GA_ok
  have rf : ∀ H, pureCall (alembiclaw18_first.f GA 8000) [] H = _ := fun H => pureCall_of (H := H) (first18 GA 7940) rfl rfl
  have pc : plainB (cdV false cs R M) = true := by simp [plainB, plainL, plainC, cdV]
  have pm : plainB (.ro false (natsU mem)) = true := by simp [plainB, plainU]
  have ps : plainB (.ro false (leaksV sp)) = true := by simp [plainB, plainLk]
  have b1 : ∀ H, boxRoA (cdV false cs R M) H = some (.rp false (cdV false cs R M) 0, H) := fun H => rfl
  have b2 : ∀ H, boxRoA i.v H = some (.rp false i.v 0, H) := fun H => rfl
  have d0 : ∀ H, loadV GA false 1 (.rp false (cdV false cs R M) 0) H = some (.ro false (codeV cs)) := fun H => rfl
  have d1 : ∀ H, loadV GA true 3 (.rp false (cdV false cs R M) 0) H = some (cdV false cs R M) := fun H => rfl
  have d2 : ∀ H, loadV GA false 1 (.rp false (cdV false cs R M) 1) H = some (I6 R) := fun H => rfl
  have d3 : ∀ H, loadV GA false 1 (.rp false (cdV false cs R M) 2) H = some (I6 M) := fun H => rfl
  have d4 : ∀ H, loadV GA true 6 (.rp false i.v 0) H = some i.v := fun H => rfl
  have lm : lenSl (.ro false (natsU mem)) = some (I6 mem.length) := by simp [lenSl, natsU_len]
  have ls : lenSl (.ro false (leaksV sp)) = some (I6 sp.length) := by simp [lenSl, leaksV_len]
  have lc : lenSl (.ro false (codeV cs)) = some (I6 cs.length) := by simp [lenSl, codeV_len]
  have ro_ : ∀ H, pureCall (alembiclaw18_other.f GA 8000) [cdV false cs R M] H = _ := fun H => pureCall_of (H := H) (other18 GA 7999 cs R M) (by simp [plainL, pc]) (by simp [cdV, cleanB, cleanL, cleanC])
  have rx : ∀ H, pureCall (bound_Exact.f GA 8000) [i.v, Un a, Un b] H = _ := fun H => pureCall_of (H := H) (exact_gen GA 7998 i.op i.d i.a i.b i.c i.k a b ha hb) rfl rfl
  have ry : ∀ H, pureCall (alembicref17_Exact.f GA 8000) [i.v, Un a, Un b] H = _ := fun H => pureCall_of (H := H) (rexact_spec GA 7989 i.op i.d i.a i.b i.c i.k a b ha hb) rfl rfl
  unfold exV at rx ry
  obtain ⟨px, hpx⟩ : ∃ p, p = exF i.op i.k a b := ⟨_, rfl⟩
  rw [← hpx] at rx ry
  clear hpx
  obtain ⟨ex, eis⟩ := px
  simp only at rx ry
  have e1 : bin Tryd.prog .neq 4 false (.bool eis) (.bool eis) = some (.bool false) := by rw [bin_neq_bool Tryd.underlying4]; simp
  have e2 : bin Tryd.prog .neq 2 false (I6 ex) (I6 ex) = some (.bool false) := q_neq_f rfl
  change alembiclaw18_BoundChecks.f GA 8001 _ _ = _
  rw [alembiclaw18_BoundChecks.step]
  unfold alembiclaw18_BoundChecks.c
  refine e_in ?_
  by_cases hl : ¬ light18 cs.length R M mem.length sp.length fuel
  · unfold light18 at hl
    repeat' first
      | (with_reducible first | refine eT ?_ | refine eN ?_ | refine eS ?_ | refine eXn ?_ | refine eXr ?_ | refine eX ?_ | refine eI ?_ | refine eK ?_ | refine eV0 ?_ | refine eGtt ?_ | refine eGff ?_ | refine eGtf ?_ | refine eGft ?_ | refine eGno ?_)
      | ((with_reducible apply eCn); (simp only [nth_zero, nth_succ]; first | done | (with_reducible exact rfl)))
      | ((with_reducible apply eJ); (rfl))
      | ((with_reducible apply eB); (first | (with_reducible exact rfl) | (simp (disch := omega) only [qf, rf, b1, b2, d0, d2, d3, lm, ls, lc]; first | done | (with_reducible exact rfl) | (with_reducible exact ⟨rfl, rfl⟩)) | (simp (disch := omega) only [qa, putC, AV.cells, storable, buildSt, fillA, buildRo, buildOwn, fillE, Nat.reduceLeDiff, Nat.reduceLT, Nat.reduceAdd, ↓reduceIte, rf, b1, b2, d0, d2, d3, lm, ls, lc]; first | done | (with_reducible exact rfl) | (with_reducible exact ⟨rfl, rfl⟩))))
      | ((with_reducible apply eR); (simp only [nth_zero, nth_succ]; (with_reducible exact rfl)))
      | ((with_reducible first | refine sEql ?_ ?_ | refine sNeq ?_ ?_ | refine sLss ?_ ?_ | refine sLeq ?_ ?_ | refine sGtr ?_ ?_ | refine sGeq ?_ ?_ | refine sNot ?_ ?_ | refine sPick ?_ ?_ | refine sGd ?_ ?_ | refine eBool ?_ ?_) <;> intro hq <;> try subst hq)
    all_goals first | omega | exact w1b rfl
  replace hl := Classical.not_not.1 hl
  unfold light18 at hl
  have rv : ∀ H, pureCall (alembicref17_Valid.f GA 8000) [cdV false cs R M] H = _ := fun H => pureCall_of (H := H) (rValid_spec GA 7997 cs R M (by omega) (by omega)) (by simp [plainL, pc]) (ftO_clean _)
  have rs : ∀ v, v.low → ∀ H, pureCall (alembicsee_Same.f GA 8000) [veV v, ftO v] H = _ := fun v hv H => pureCall_of (H := H) (see_same 7959 v hv) (by simp [plainL, veV_plain, ftO_plain]) rfl
  have rb : ∀ c H, pureCall (alembicref_Bare.f GA 8000) [I6 c] H = _ := fun c H => pureCall_of (H := H) (Bare_spec GA 7999 c) rfl rfl
  have st : ∀ v, stS (storeV 3 (.ptr 0 1 0 0) (ftO v) [⟨29, 3, [.agg [.int .i64 0, .bool false, .int .i64 0]]⟩]) = some (.tup [], [⟨29, 3, [ftO v]⟩]) := fun v => by cases v <;> rfl
  have ld : ∀ v l, loadV GA true 3 (.ptr 0 1 0 0) (⟨29, 3, [ftO v]⟩ :: l) = some (ftO v) := fun v l => by cases v <;> rfl
  have hlow := validF_low cs R M
  by_cases hk : B3.checkF cs R M sp.length mem.length fuel = .ok
  · have hv : validF cs R M = .ok := by
      by_cases hv : validF cs R M ≠ .ok
      · rw [B3.checkF_bad hv] at hk; exact hk
      · exact Classical.not_not.1 hv
    have hn : sp.length = cs.length := by
      rw [B3.checkF_ok hv] at hk
      by_cases hn : sp.length ≠ cs.length
      · rw [if_pos hn] at hk; cases hk
      · exact Classical.not_not.1 hn
    have hg : givenF M mem.length fuel = .ok := by
      rwa [B3.checkF_ok hv, if_neg (by simp [hn])] at hk
    have hgv : (mem.length : Int) = M ∧ 0 ≤ fuel ∧ fuel ≤ 1073741824 := by
      unfold givenF at hg
      split at hg
      · cases hg
      · split at hg
        · cases hg
        · omega
    obtain ⟨⟨hR0, hR1, hM0, hM1, hcl2⟩, hok⟩ := validF_ok hv
    have hok2 := validF_ok2 hv
    have hRn : ((R.toNat : Nat) : Int) = R := Int.toNat_of_nonneg hR0
    obtain ⟨s', w, h1, h2⟩ := B3.Check_ok GA hG 7991 cs sp R M false false false mem fuel (by omega) (by omega) hk hm (by omega) (by omega)
    have rc : ∀ H, pureCall (bound_Check.f GA 8000) [cdV false cs R M, .ro false (leaksV sp), .ro false (natsU mem), I6 fuel] H = _ := fun H => pureCall_of (H := H) h2 (by simp [plainL, pc, plainU, plainLk, plainB]) rfl
    obtain ⟨s'', h3⟩ := B3.rRun_spec GA 7988 fuel false false sp cs R.toNat M mem false hn (by omega) hm (by omega) (by omega) (by omega) (by omega) (by omega) hok2 (by omega) s' w (runB_more sp cs fuel _ _ _ h1 1)
    rw [hRn] at h3
    have ra : ∀ H, pureCall (alembicref17_Run.f GA 8000) [cdV false cs R M, .ro false (leaksV sp), .ro false (natsU mem), I6 fuel] H = _ := fun H => pureCall_of (H := H) h3 (by simp [plainL, pc, plainU, plainLk, plainB]) (endQ_clean _ _)
    have rs0 := rs .ok trivial
    have sv := st .ok
    have lv := ld .ok
    have fl2 : fieldV false 1 4 (endQ s'' w) = some (I6 w) := rfl
    rw [hv] at rv
    clear hok hok2 h1 h2 h3 hv hg hk hRn
    simp only [ftO, veV] at *
    unfold ftV at *
    generalize endQ s'' w = ee at *
    have e3 : bin Tryd.prog .eql 3 false (I6 w) (I6 w) = some (.bool true) := q_eql_t rfl
    repeat' first
      | (with_reducible first | refine eT ?_ | refine eN ?_ | refine eS ?_ | refine eXn ?_ | refine eXr ?_ | refine eX ?_ | refine eI ?_ | refine eK ?_ | refine eV0 ?_ | refine eGtt ?_ | refine eGff ?_ | refine eGtf ?_ | refine eGft ?_ | refine eGno ?_)
      | ((with_reducible apply eCn); (simp only [nth_zero, nth_succ]; first | done | (with_reducible exact rfl)))
      | ((with_reducible apply eJ); (rfl))
      | ((with_reducible apply eB); (first | (with_reducible exact rfl) | (simp (disch := omega) only [qf, rf, b1, b2, d0, d1, d2, d3, d4, lm, ls, lc, ro_, rx, ry, e1, e2, e3, rv, rs0, sv, lv, rc, ra, fl2]; first | done | (with_reducible exact rfl) | (with_reducible exact ⟨rfl, rfl⟩)) | (simp (disch := omega) only [qa, putC, AV.cells, storable, buildSt, fillA, buildRo, buildOwn, fillE, Nat.reduceLeDiff, Nat.reduceLT, Nat.reduceAdd, ↓reduceIte, rf, b1, b2, d0, d1, d2, d3, d4, lm, ls, lc, ro_, rx, ry, e1, e2, e3, rv, rs0, sv, lv, rc, ra, fl2]; first | done | (with_reducible exact rfl) | (with_reducible exact ⟨rfl, rfl⟩))))
      | ((with_reducible apply eR); (simp only [nth_zero, nth_succ]; (with_reducible exact rfl)))
      | ((with_reducible first | refine sEql ?_ ?_ | refine sNeq ?_ ?_ | refine sLss ?_ ?_ | refine sLeq ?_ ?_ | refine sGtr ?_ ?_ | refine sGeq ?_ ?_ | refine sNot ?_ ?_ | refine sPick ?_ ?_ | refine sGd ?_ ?_ | refine eBool ?_ ?_) <;> intro hq <;> try subst hq)
    all_goals first | omega | exact w1b rfl
  · have rc : ∀ H, pureCall (bound_Check.f GA 8000) [cdV false cs R M, .ro false (leaksV sp), .ro false (natsU mem), I6 fuel] H = _ := fun H => pureCall_of (H := H) (B3.Check_bad GA hG 7991 cs sp R M false false false mem fuel (by omega) (by omega) hk) (by simp [plainL, pc, plainU, plainLk, plainB]) (by simp [cleanB, cleanL, veV_clean])
    have sv1 : ∀ c, stS (storeV 3 (.ptr 0 1 0 0) (ftV c false 0) [⟨29, 3, [ftV 0 false 0]⟩]) = some (.tup [], [⟨29, 3, [ftV c false 0]⟩]) := fun c => rfl
    have ld1 : ∀ c l, loadV GA true 3 (.ptr 0 1 0 0) (⟨29, 3, [ftV c false 0]⟩ :: l) = some (ftV c false 0) := fun c l => rfl
    have x1 : codE 1 = 102 := rfl
    have x2 : codE 2 = 101 := rfl
    have rs1 := rs (.bare 1) (show 1 < 6 by omega)
    have rs2 := rs (.bare 2) (show 2 < 6 by omega)
    have rs0 := rs .ok trivial
    cases hv : validF cs R M with
    | bare e =>
      rw [B3.checkF_bad (by rw [hv]; simp), hv] at rc
      rw [hv] at rv hlow
      have rs' := rs _ hlow
      have sv := st (.bare e)
      have lv := ld (.bare e)
      have ne := codE_ne e
      clear hk rs1 rs2 rs0
      simp only [ftO, veV, ftV] at *
      generalize codE e = c at *
      repeat' first
        | (with_reducible first | refine eT ?_ | refine eN ?_ | refine eS ?_ | refine eXn ?_ | refine eXr ?_ | refine eX ?_ | refine eI ?_ | refine eK ?_ | refine eV0 ?_ | refine eGtt ?_ | refine eGff ?_ | refine eGtf ?_ | refine eGft ?_ | refine eGno ?_)
        | ((with_reducible apply eCn); (simp only [nth_zero, nth_succ]; first | done | (with_reducible exact rfl)))
        | ((with_reducible apply eJ); (rfl))
        | ((with_reducible apply eB); (first | (with_reducible exact rfl) | (simp (disch := omega) only [qf, rf, b1, b2, d0, d1, d2, d3, d4, lm, ls, lc, ro_, rx, ry, e1, e2, rv, rs', sv, lv, rc]; first | done | (with_reducible exact rfl) | (with_reducible exact ⟨rfl, rfl⟩)) | (simp (disch := omega) only [qa, putC, AV.cells, storable, buildSt, fillA, buildRo, buildOwn, fillE, Nat.reduceLeDiff, Nat.reduceLT, Nat.reduceAdd, ↓reduceIte, rf, b1, b2, d0, d1, d2, d3, d4, lm, ls, lc, ro_, rx, ry, e1, e2, rv, rs', sv, lv, rc]; first | done | (with_reducible exact rfl) | (with_reducible exact ⟨rfl, rfl⟩))))
        | ((with_reducible apply eR); (simp only [nth_zero, nth_succ]; (with_reducible exact rfl)))
        | ((with_reducible first | refine sEql ?_ ?_ | refine sNeq ?_ ?_ | refine sLss ?_ ?_ | refine sLeq ?_ ?_ | refine sGtr ?_ ?_ | refine sGeq ?_ ?_ | refine sNot ?_ ?_ | refine sPick ?_ ?_ | refine sGd ?_ ?_ | refine eBool ?_ ?_) <;> intro hq <;> try subst hq)
      all_goals first | omega | exact w1b rfl
    | at_ j e =>
      rw [B3.checkF_bad (by rw [hv]; simp), hv] at rc
      rw [hv] at rv hlow
      have rs' := rs _ hlow
      have sv := st (.at_ j e)
      have lv := ld (.at_ j e)
      have ne := codE_ne e
      clear hk rs1 rs2 rs0
      simp only [ftO, veV, ftV] at *
      generalize codE e = c at *
      repeat' first
        | (with_reducible first | refine eT ?_ | refine eN ?_ | refine eS ?_ | refine eXn ?_ | refine eXr ?_ | refine eX ?_ | refine eI ?_ | refine eK ?_ | refine eV0 ?_ | refine eGtt ?_ | refine eGff ?_ | refine eGtf ?_ | refine eGft ?_ | refine eGno ?_)
        | ((with_reducible apply eCn); (simp only [nth_zero, nth_succ]; first | done | (with_reducible exact rfl)))
        | ((with_reducible apply eJ); (rfl))
        | ((with_reducible apply eB); (first | (with_reducible exact rfl) | (simp (disch := omega) only [qf, rf, b1, b2, d0, d1, d2, d3, d4, lm, ls, lc, ro_, rx, ry, e1, e2, rv, rs', sv, lv, rc]; first | done | (with_reducible exact rfl) | (with_reducible exact ⟨rfl, rfl⟩)) | (simp (disch := omega) only [qa, putC, AV.cells, storable, buildSt, fillA, buildRo, buildOwn, fillE, Nat.reduceLeDiff, Nat.reduceLT, Nat.reduceAdd, ↓reduceIte, rf, b1, b2, d0, d1, d2, d3, d4, lm, ls, lc, ro_, rx, ry, e1, e2, rv, rs', sv, lv, rc]; first | done | (with_reducible exact rfl) | (with_reducible exact ⟨rfl, rfl⟩))))
        | ((with_reducible apply eR); (simp only [nth_zero, nth_succ]; (with_reducible exact rfl)))
        | ((with_reducible first | refine sEql ?_ ?_ | refine sNeq ?_ ?_ | refine sLss ?_ ?_ | refine sLeq ?_ ?_ | refine sGtr ?_ ?_ | refine sGeq ?_ ?_ | refine sNot ?_ ?_ | refine sPick ?_ ?_ | refine sGd ?_ ?_ | refine eBool ?_ ?_) <;> intro hq <;> try subst hq)
      all_goals first | omega | exact w1b rfl
    | ok =>
      rw [hv] at rv
      rw [B3.checkF_ok hv] at rc hk
      have sv := st .ok
      have lv := ld .ok
      unfold givenF at rc hk
      by_cases hn : sp.length ≠ cs.length
      · rw [if_pos hn] at rc
        clear hk rs
        simp only [ftO, veV, x1, x2] at *
        unfold ftV at *
        repeat' first
          | (with_reducible first | refine eT ?_ | refine eN ?_ | refine eS ?_ | refine eXn ?_ | refine eXr ?_ | refine eX ?_ | refine eI ?_ | refine eK ?_ | refine eV0 ?_ | refine eGtt ?_ | refine eGff ?_ | refine eGtf ?_ | refine eGft ?_ | refine eGno ?_)
          | ((with_reducible apply eCn); (simp only [nth_zero, nth_succ]; first | done | (with_reducible exact rfl)))
          | ((with_reducible apply eJ); (rfl))
          | ((with_reducible apply eB); (first | (with_reducible exact rfl) | (simp (disch := omega) only [qf, rf, b1, b2, d0, d1, d2, d3, d4, lm, ls, lc, ro_, rx, ry, e1, e2, rv, rs1, rb, sv, sv1, lv, ld1, rc]; first | done | (with_reducible exact rfl) | (with_reducible exact ⟨rfl, rfl⟩)) | (simp (disch := omega) only [qa, putC, AV.cells, storable, buildSt, fillA, buildRo, buildOwn, fillE, Nat.reduceLeDiff, Nat.reduceLT, Nat.reduceAdd, ↓reduceIte, rf, b1, b2, d0, d1, d2, d3, d4, lm, ls, lc, ro_, rx, ry, e1, e2, rv, rs1, rb, sv, sv1, lv, ld1, rc]; first | done | (with_reducible exact rfl) | (with_reducible exact ⟨rfl, rfl⟩))))
          | ((with_reducible apply eR); (simp only [nth_zero, nth_succ]; (with_reducible exact rfl)))
          | ((with_reducible first | refine sEql ?_ ?_ | refine sNeq ?_ ?_ | refine sLss ?_ ?_ | refine sLeq ?_ ?_ | refine sGtr ?_ ?_ | refine sGeq ?_ ?_ | refine sNot ?_ ?_ | refine sPick ?_ ?_ | refine sGd ?_ ?_ | refine eBool ?_ ?_) <;> intro hq <;> try subst hq)
        all_goals first | omega | exact w1b rfl
      · rw [if_neg hn] at rc hk
        by_cases hM2 : (mem.length : Int) ≠ M
        · rw [if_pos hM2] at rc
          clear hk rs
          simp only [ftO, veV, x1, x2] at *
          unfold ftV at *
          repeat' first
            | (with_reducible first | refine eT ?_ | refine eN ?_ | refine eS ?_ | refine eXn ?_ | refine eXr ?_ | refine eX ?_ | refine eI ?_ | refine eK ?_ | refine eV0 ?_ | refine eGtt ?_ | refine eGff ?_ | refine eGtf ?_ | refine eGft ?_ | refine eGno ?_)
            | ((with_reducible apply eCn); (simp only [nth_zero, nth_succ]; first | done | (with_reducible exact rfl)))
            | ((with_reducible apply eJ); (rfl))
            | ((with_reducible apply eB); (first | (with_reducible exact rfl) | (simp (disch := omega) only [qf, rf, b1, b2, d0, d1, d2, d3, d4, lm, ls, lc, ro_, rx, ry, e1, e2, rv, rs1, rb, sv, sv1, lv, ld1, rc]; first | done | (with_reducible exact rfl) | (with_reducible exact ⟨rfl, rfl⟩)) | (simp (disch := omega) only [qa, putC, AV.cells, storable, buildSt, fillA, buildRo, buildOwn, fillE, Nat.reduceLeDiff, Nat.reduceLT, Nat.reduceAdd, ↓reduceIte, rf, b1, b2, d0, d1, d2, d3, d4, lm, ls, lc, ro_, rx, ry, e1, e2, rv, rs1, rb, sv, sv1, lv, ld1, rc]; first | done | (with_reducible exact rfl) | (with_reducible exact ⟨rfl, rfl⟩))))
            | ((with_reducible apply eR); (simp only [nth_zero, nth_succ]; (with_reducible exact rfl)))
            | ((with_reducible first | refine sEql ?_ ?_ | refine sNeq ?_ ?_ | refine sLss ?_ ?_ | refine sLeq ?_ ?_ | refine sGtr ?_ ?_ | refine sGeq ?_ ?_ | refine sNot ?_ ?_ | refine sPick ?_ ?_ | refine sGd ?_ ?_ | refine eBool ?_ ?_) <;> intro hq <;> try subst hq)
          all_goals first | omega | exact w1b rfl
        · rw [if_neg hM2] at rc hk
          by_cases hF : fuel < 0 ∨ 1073741824 < fuel
          · rw [if_pos hF] at rc
            clear hk rs
            simp only [ftO, veV, x1, x2] at *
            unfold ftV at *
            repeat' first
              | (with_reducible first | refine eT ?_ | refine eN ?_ | refine eS ?_ | refine eXn ?_ | refine eXr ?_ | refine eX ?_ | refine eI ?_ | refine eK ?_ | refine eV0 ?_ | refine eGtt ?_ | refine eGff ?_ | refine eGtf ?_ | refine eGft ?_ | refine eGno ?_)
              | ((with_reducible apply eCn); (simp only [nth_zero, nth_succ]; first | done | (with_reducible exact rfl)))
              | ((with_reducible apply eJ); (rfl))
              | ((with_reducible apply eB); (first | (with_reducible exact rfl) | (simp (disch := omega) only [qf, rf, b1, b2, d0, d1, d2, d3, d4, lm, ls, lc, ro_, rx, ry, e1, e2, rv, rs2, rb, sv, sv1, lv, ld1, rc]; first | done | (with_reducible exact rfl) | (with_reducible exact ⟨rfl, rfl⟩)) | (simp (disch := omega) only [qa, putC, AV.cells, storable, buildSt, fillA, buildRo, buildOwn, fillE, Nat.reduceLeDiff, Nat.reduceLT, Nat.reduceAdd, ↓reduceIte, rf, b1, b2, d0, d1, d2, d3, d4, lm, ls, lc, ro_, rx, ry, e1, e2, rv, rs2, rb, sv, sv1, lv, ld1, rc]; first | done | (with_reducible exact rfl) | (with_reducible exact ⟨rfl, rfl⟩))))
              | ((with_reducible apply eR); (simp only [nth_zero, nth_succ]; (with_reducible exact rfl)))
              | ((with_reducible first | refine sEql ?_ ?_ | refine sNeq ?_ ?_ | refine sLss ?_ ?_ | refine sLeq ?_ ?_ | refine sGtr ?_ ?_ | refine sGeq ?_ ?_ | refine sNot ?_ ?_ | refine sPick ?_ ?_ | refine sGd ?_ ?_ | refine eBool ?_ ?_) <;> intro hq <;> try subst hq)
            all_goals first | omega | exact w1b rfl
          · exfalso; apply hk; rw [if_neg hF]
end Go.Proofs.YtcmblhedhgiofaaDoor
