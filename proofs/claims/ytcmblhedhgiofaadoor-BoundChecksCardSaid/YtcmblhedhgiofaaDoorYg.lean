/- A run that is watched: its rounds, and where it first leaves its spans. -/
import Derived.Test.YtcmblhedhgiofaaDoorYf
namespace Go.Proofs.YtcmblhedhgiofaaDoor.Mir.B3
open Go
set_option linter.unusedVariables false
set_option linter.unusedSimpArgs false
set_option maxHeartbeats 8000000
set_option maxRecDepth 20000

/-- The rounds of a run that is watched: where it ends, and where it first left a span. -/
def runB (sp : List (Int × Int)) (cs : List Ins) (fuel : Int) : Nat → MS → Option (MS × Int)
  | 0, _ => none
  | f + 1, s =>
    if cs.length ≤ s.at_ then some ({ s with code := 3 }, -1)
    else if (s.steps : Int) = fuel then some ({ s with code := 4 }, -1)
    else if wrongB sp s (cs.getD s.at_ default) = true then some (s, s.at_)
    else match s.tick.step (cs.getD s.at_ default) with
      | (s', true) => runB sp cs fuel f s'
      | (s', false) => some (s', -1)

theorem runB_some (sp : List (Int × Int)) (cs : List Ins) (fuel : Int) : ∀ (f : Nat) (s : MS), (s.steps : Int) ≤ fuel → fuel - s.steps < f → ∃ o, runB sp cs fuel f s = some o
  | 0, s, h, h2 => by omega
  | f + 1, s, h, h2 => by
    simp only [runB]
    by_cases h1 : cs.length ≤ s.at_
    · rw [if_pos h1]; exact ⟨_, rfl⟩
    rw [if_neg h1]
    by_cases h3 : (s.steps : Int) = fuel
    · rw [if_pos h3]; exact ⟨_, rfl⟩
    rw [if_neg h3]
    by_cases h4 : wrongB sp s (cs.getD s.at_ default) = true
    · rw [if_pos h4]; exact ⟨_, rfl⟩
    rw [if_neg h4]
    have e : ∀ i, (s.tick.step i).1.steps = s.steps + 1 := fun i => by
      unfold MS.step MS.touch MS.branch
      simp only
      repeat' split
      all_goals rfl
    have e' := e (cs.getD s.at_ default)
    obtain ⟨s2, b, hsb⟩ : ∃ s2 b, s.tick.step (cs.getD s.at_ default) = (s2, b) := ⟨_, _, rfl⟩
    rw [hsb] at e' ⊢
    cases b
    · exact ⟨_, rfl⟩
    · exact runB_some sp cs fuel f s2 (by simp only at e'; omega) (by simp only at e'; omega)

def resV (s : MS) : AV := .agg [I6 s.code, .sl 7 s.mem.length 0 s.mem.length 1, .sl 8 s.leaks.length 0 s.leaks.length 2, Nn s.steps]
abbrev LK : AV := .fn 60 [.ptr 0 1 0 0, .ptr 1 1 0 0, .ptr 2 1 0 0]
def xsM (fuel : Int) (bor bb : Bool) (cs : List Ins) (R M : Int) : List AV := [I6 fuel, LK, .rp bb (.agg [.ro bor (codeV cs), I6 R, I6 M]) 0, .ptr 3 1 0 0, PX]

section
variable (G : Globs) (bor b2 b3 bb : Bool) (cs : List Ins) (sp : List (Int × Int)) (R : Nat) (M : Int) (fuel : Int) (self : Den) (k : Nat)

abbrev hpT (w : Int) (s : MS) : AHeap := hpM (b0 bor cs R M) (b1 b2 sp) (bw w) b3 cs R M s
def hpE (w : Int) (s : MS) : AHeap := (hpT bor b2 b3 cs sp R M w s).set 3 ⟨40, 4, [resV s]⟩

theorem ldRes (w : Int) (s : MS) : loadV G true 4 (.ptr 5 1 0 5) (hpT bor b2 b3 cs sp R M w s) = some (resV s) := rfl
theorem stRes (w : Int) (s : MS) : stS (storeV 4 (.ptr 3 1 0 0) (resV s) (hpT bor b2 b3 cs sp R M w s)) = some (.tup [], hpE bor b2 b3 cs sp R M w s) := rfl
theorem xs_below : belowL 9 (xsM fuel b3 bb cs R M) = true := by simp [xsM, belowL, belowB, codeV_below]

theorem watch_loop (hf : fuel ≤ 99999) (hcl : cs.length ≤ 100000) (hsp : sp.length = cs.length) (hcs : ∀ j, j < cs.length → (cs.getD j default).Ok R cs.length) : ∀ (f : Nat) (s s' : MS) (w : Int), runB sp cs fuel f s = some (s', w) → s.Ok R → s.at_ ≤ cs.length → (s.steps : Int) ≤ fuel →
    loopN (words_Watch.l3 G (k + 4) 9 self) f (xsM fuel b3 bb cs R M) (hpT bor b2 b3 cs sp R M (-1) s) = some (.ret, xsM fuel b3 bb cs R M, hpE bor b2 b3 cs sp R M w s')
  | 0, s, s', w, h, _, _, _ => by simp [runB] at h
  | f + 1, s, s', w, h, hs, hat, hst => by
    have few := hs.few
    have lks := hs.leaks
    have hp := bbel bor b2 cs sp R M (-1)
    rw [loopN_succ, words_Watch.l3]
    refine e_id ?_
    refine eC (hp_cut (b0 bor cs R M) (b1 b2 sp) (bw (-1)) b3 cs R M s hp _ (xs_below b3 bb cs R M fuel)) ?_
    have c16 := ld4 G (b0 bor cs R M) (b1 b2 sp) (bw (-1)) b3 cs R M s
    have c18 : ∀ H, loadV G false 1 (.rp bb (.agg [.ro b3 (codeV cs), I6 R, I6 M]) 0) H = some (.ro b3 (codeV cs)) := fun H => rfl
    have c19 : lenSl (.ro b3 (codeV cs)) = some (Nn cs.length) := by simp [lenSl, codeV_len]
    have c31 := ld8 G (b0 bor cs R M) (b1 b2 sp) (bw (-1)) b3 cs R M s
    have q2 : bin Tryd.prog .neq 107 true LK .nilf = some (.bool true) := by kernel_rfl
    have c3 := ld3 G (b0 bor cs R M) (b1 b2 sp) (bw (-1)) b3 cs R M s
    simp only [runB] at h
    unfold xsM
    by_cases h1 : cs.length ≤ s.at_
    · rw [if_pos h1] at h
      simp only [Option.some.injEq, Prod.mk.injEq] at h
      obtain ⟨h, rfl⟩ := h
      have c20 : bin Tryd.prog .geq 3 false (Nn s.at_) (Nn cs.length) = some (.bool true) := by rw [bin_geq, decide_eq_true (by omega)]
      have c24 := st5 (b0 bor cs R M) (b1 b2 sp) (bw (-1)) b3 cs R M s 3
      rw [h] at c24
      have c27 := ldRes G bor b2 b3 cs sp R M (-1) s'
      have c28 := stRes bor b2 b3 cs sp R M (-1) s'
      repeat first
        | (with_reducible first | refine eT ?_ | refine eN ?_ | refine eS ?_ | refine eXn ?_ | refine eXr ?_ | refine eX ?_ | refine eI ?_ | refine eK ?_ | refine eV0 ?_ | refine eGtt ?_ | refine eGff ?_ | refine eGtf ?_ | refine eGft ?_ | refine eGno ?_)
        | ((with_reducible apply eCn); (simp only [nth_zero, nth_succ]; first | done | (with_reducible exact rfl)))
        | ((with_reducible apply eJ); (rfl))
        | ((with_reducible apply eB); (first | (with_reducible exact rfl) | (simp (disch := omega) only [qf, c16, c18, c19, c20, c24, c27, c28]; first | done | (with_reducible exact rfl) | (with_reducible exact ⟨rfl, rfl⟩)) | (simp (disch := omega) only [qa, putC, AV.cells, storable, buildSt, fillA, buildRo, buildOwn, fillE, Nat.reduceLeDiff, Nat.reduceLT, Nat.reduceAdd, ↓reduceIte, c16, c18, c19, c20, c24, c27, c28]; first | done | (with_reducible exact rfl) | (with_reducible exact ⟨rfl, rfl⟩))))
        | ((with_reducible apply eR); (simp only [nth_zero, nth_succ]; (with_reducible exact rfl)))
      refine e_out ?_; rfl
    rw [if_neg h1] at h
    have c20 : bin Tryd.prog .geq 3 false (Nn s.at_) (Nn cs.length) = some (.bool false) := by rw [bin_geq, decide_eq_false (by omega)]
    by_cases h2 : (s.steps : Int) = fuel
    · rw [if_pos h2] at h
      simp only [Option.some.injEq, Prod.mk.injEq] at h
      obtain ⟨h, rfl⟩ := h
      have c33 : bin Tryd.prog .eql 2 false (Nn s.steps) (I6 fuel) = some (.bool true) := by rw [bin_eql, decide_eq_true h2]
      have c24 := st5 (b0 bor cs R M) (b1 b2 sp) (bw (-1)) b3 cs R M s 4
      rw [h] at c24
      have c27 := ldRes G bor b2 b3 cs sp R M (-1) s'
      have c28 := stRes bor b2 b3 cs sp R M (-1) s'
      repeat first
        | (with_reducible first | refine eT ?_ | refine eN ?_ | refine eS ?_ | refine eXn ?_ | refine eXr ?_ | refine eX ?_ | refine eI ?_ | refine eK ?_ | refine eV0 ?_ | refine eGtt ?_ | refine eGff ?_ | refine eGtf ?_ | refine eGft ?_ | refine eGno ?_)
        | ((with_reducible apply eCn); (simp only [nth_zero, nth_succ]; first | done | (with_reducible exact rfl)))
        | ((with_reducible apply eJ); (rfl))
        | ((with_reducible apply eB); (first | (with_reducible exact rfl) | (simp (disch := omega) only [qf, c16, c18, c19, c20, c24, c27, c28, c31, c33]; first | done | (with_reducible exact rfl) | (with_reducible exact ⟨rfl, rfl⟩)) | (simp (disch := omega) only [qa, putC, AV.cells, storable, buildSt, fillA, buildRo, buildOwn, fillE, Nat.reduceLeDiff, Nat.reduceLT, Nat.reduceAdd, ↓reduceIte, c16, c18, c19, c20, c24, c27, c28, c31, c33]; first | done | (with_reducible exact rfl) | (with_reducible exact ⟨rfl, rfl⟩))))
        | ((with_reducible apply eR); (simp only [nth_zero, nth_succ]; (with_reducible exact rfl)))
      refine e_out ?_; rfl
    rw [if_neg h2] at h
    have c33 : bin Tryd.prog .eql 2 false (Nn s.steps) (I6 fuel) = some (.bool false) := by rw [bin_eql, decide_eq_false h2]
    have hi := hcs s.at_ (by omega)
    obtain ⟨i, hii⟩ : ∃ i, cs.getD s.at_ default = i := ⟨_, rfl⟩
    have c40 : callV (envL (words_Watch.env G (k + 4) self)) LK [Nn s.at_, .sl 4 s.regs.length 0 s.regs.length 1] (hpT bor b2 b3 cs sp R M (-1) s) = _ :=
      heapCall_of (check1_spec G bor b2 b3 cs sp R M s (k + 1) i hs hsp (by omega) hii (by rw [← hii]; exact hi) (-1) (by omega)) (by simp [hpM])
    rw [hii] at h hi
    by_cases h3 : wrongB sp s i = true
    · rw [if_pos h3] at h
      simp only [Option.some.injEq, Prod.mk.injEq] at h
      obtain ⟨rfl, rfl⟩ := h
      rw [if_pos h3, h3] at c40
      have c27 := ldRes G bor b2 b3 cs sp R M s.at_ s
      have c28 := stRes bor b2 b3 cs sp R M s.at_ s
      repeat first
        | (with_reducible first | refine eT ?_ | refine eN ?_ | refine eS ?_ | refine eXn ?_ | refine eXr ?_ | refine eX ?_ | refine eI ?_ | refine eK ?_ | refine eV0 ?_ | refine eGtt ?_ | refine eGff ?_ | refine eGtf ?_ | refine eGft ?_ | refine eGno ?_)
        | ((with_reducible apply eCn); (simp only [nth_zero, nth_succ]; first | done | (with_reducible exact rfl)))
        | ((with_reducible apply eJ); (rfl))
        | ((with_reducible apply eB); (first | (with_reducible exact rfl) | (simp (disch := omega) only [qf, c16, c18, c19, c20, c27, c28, c31, c33, q2, c3, c40, Bool.not_true, Bool.not_false]; first | done | (with_reducible exact rfl) | (with_reducible exact ⟨rfl, rfl⟩)) | (simp (disch := omega) only [qa, putC, AV.cells, storable, buildSt, fillA, buildRo, buildOwn, fillE, Nat.reduceLeDiff, Nat.reduceLT, Nat.reduceAdd, ↓reduceIte, c16, c18, c19, c20, c27, c28, c31, c33, q2, c3, c40, Bool.not_true, Bool.not_false]; first | done | (with_reducible exact rfl) | (with_reducible exact ⟨rfl, rfl⟩))))
        | ((with_reducible apply eR); (simp only [nth_zero, nth_succ]; (with_reducible exact rfl)))
      refine e_out ?_; rfl
    rw [if_neg h3] at h
    rw [Bool.not_eq_true] at h3
    rw [if_neg (by rw [h3]; simp), h3] at c40
    have c62 : bin Tryd.prog .add 2 true (Nn s.steps) (.int .i64 1) = some (Nn (s.steps + 1)) := by
      rw [bin_add, wrap_of_i64 (by omega) (by omega)]; congr 2
    have c67 := st8 (b0 bor cs R M) (b1 b2 sp) (bw (-1)) b3 cs R M s (s.steps + 1)
    have c70 := ld4 G (b0 bor cs R M) (b1 b2 sp) (bw (-1)) b3 cs R M { s with steps := s.steps + 1 }
    have c71 := hcall (b0 bor cs R M) (b1 b2 sp) (bw (-1)) b3 cs R M { s with steps := s.steps + 1 } (leak_spec G (b0 bor cs R M) (b1 b2 sp) (bw (-1)) b3 cs R M { s with steps := s.steps + 1 } (k + 3) hp 1 s.at_ (by simp only; omega))
    have et : (({ s with steps := s.steps + 1 } : MS).leak 1 s.at_) = s.tick := rfl
    rw [et] at c71
    have okt : s.tick.Ok R := ⟨hs.len, hs.regs, hs.mem, by simp [MS.tick, MS.leak]; omega, hs.big, by simp [MS.tick, MS.leak]; omega⟩
    have c75 := ld4 G (b0 bor cs R M) (b1 b2 sp) (bw (-1)) b3 cs R M s.tick
    have eat : s.tick.at_ = s.at_ := rfl
    rw [eat] at c75
    have c77 := insAt b3 cs s.at_ (by omega)
    have tll : s.tick.leaks.length ≤ 999990 := by simp [MS.tick, MS.leak]; omega
    have c79 := hcall (b0 bor cs R M) (b1 b2 sp) (bw (-1)) b3 cs R M s.tick (step_spec G (b0 bor cs R M) (b1 b2 sp) (bw (-1)) hp b3 cs R M s.tick i okt tll cs.length k hi (by rw [eat]; omega))
    obtain ⟨o1, o2, o3, o4⟩ := MS.step_ok okt hi (by simp [MS.tick, MS.leak]; omega) (by rw [eat]; omega)
    have hst2 : s.tick.steps = s.steps + 1 := rfl
    have c78 := ldIns G b3 i
    rw [hii] at c77
    obtain ⟨s2, b, hsb⟩ : ∃ s2 b, s.tick.step i = (s2, b) := ⟨_, _, rfl⟩
    rw [hsb] at h c79 o1 o2 o3 o4
    simp only at h c79 o1 o2 o3 o4
    cases b
    · simp only [Option.some.injEq, Prod.mk.injEq] at h
      obtain ⟨rfl, rfl⟩ := h
      have c83 := ldRes G bor b2 b3 cs sp R M (-1) s2
      have c84 := stRes bor b2 b3 cs sp R M (-1) s2
      repeat first
        | (with_reducible first | refine eT ?_ | refine eN ?_ | refine eS ?_ | refine eXn ?_ | refine eXr ?_ | refine eX ?_ | refine eI ?_ | refine eK ?_ | refine eV0 ?_ | refine eGtt ?_ | refine eGff ?_ | refine eGtf ?_ | refine eGft ?_ | refine eGno ?_)
        | ((with_reducible apply eCn); (simp only [nth_zero, nth_succ]; first | done | (with_reducible exact rfl)))
        | ((with_reducible apply eJ); (rfl))
        | ((with_reducible apply eB); (first | (with_reducible exact rfl) | (simp (disch := omega) only [qf, c16, c18, c19, c20, c31, c33, q2, c3, c40, c62, c67, c70, c71, c75, c77, c78, c79, c83, c84, Bool.not_true, Bool.not_false]; first | done | (with_reducible exact rfl) | (with_reducible exact ⟨rfl, rfl⟩)) | (simp (disch := omega) only [qa, putC, AV.cells, storable, buildSt, fillA, buildRo, buildOwn, fillE, Nat.reduceLeDiff, Nat.reduceLT, Nat.reduceAdd, ↓reduceIte, c16, c18, c19, c20, c31, c33, q2, c3, c40, c62, c67, c70, c71, c75, c77, c78, c79, c83, c84, Bool.not_true, Bool.not_false]; first | done | (with_reducible exact rfl) | (with_reducible exact ⟨rfl, rfl⟩))))
        | ((with_reducible apply eR); (simp only [nth_zero, nth_succ]; (with_reducible exact rfl)))
      refine e_out ?_; rfl
    · simp only at h
      have ih := watch_loop hf hcl hsp hcs f s2 s' w h o1 o2 (by rw [o3, hst2]; omega)
      unfold xsM at ih
      repeat first
        | (with_reducible first | refine eT ?_ | refine eN ?_ | refine eS ?_ | refine eXn ?_ | refine eXr ?_ | refine eX ?_ | refine eI ?_ | refine eK ?_ | refine eV0 ?_ | refine eGtt ?_ | refine eGff ?_ | refine eGtf ?_ | refine eGft ?_ | refine eGno ?_)
        | ((with_reducible apply eCn); (simp only [nth_zero, nth_succ]; first | done | (with_reducible exact rfl)))
        | ((with_reducible apply eJ); (rfl))
        | ((with_reducible apply eB); (first | (with_reducible exact rfl) | (simp (disch := omega) only [qf, c16, c18, c19, c20, c31, c33, q2, c3, c40, c62, c67, c70, c71, c75, c77, c78, c79, Bool.not_true, Bool.not_false]; first | done | (with_reducible exact rfl) | (with_reducible exact ⟨rfl, rfl⟩)) | (simp (disch := omega) only [qa, putC, AV.cells, storable, buildSt, fillA, buildRo, buildOwn, fillE, Nat.reduceLeDiff, Nat.reduceLT, Nat.reduceAdd, ↓reduceIte, c16, c18, c19, c20, c31, c33, q2, c3, c40, c62, c67, c70, c71, c75, c77, c78, c79, Bool.not_true, Bool.not_false]; first | done | (with_reducible exact rfl) | (with_reducible exact ⟨rfl, rfl⟩))))
        | ((with_reducible apply eR); (simp only [nth_zero, nth_succ]; (with_reducible exact rfl)))
      exact ih
end
end Go.Proofs.YtcmblhedhgiofaaDoor.Mir.B3
