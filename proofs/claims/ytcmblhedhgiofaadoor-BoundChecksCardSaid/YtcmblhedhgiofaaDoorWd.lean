/- A run of words: the program's is the plain machine's. -/
import Derived.Test.YtcmblhedhgiofaaDoorWc
namespace Go.Proofs.YtcmblhedhgiofaaDoor.Mir
open Go
set_option linter.unusedVariables false
set_option linter.unusedSimpArgs false

theorem valF_lt (op k : Int) (a b c : Nat) (ha : a < 18446744073709551616) (hb : b < 18446744073709551616) (hc : c < 18446744073709551616) : (valF op k a b c).1 < 18446744073709551616 := by
  have hm : ∀ n : Nat, n % 18446744073709551616 < 18446744073709551616 := fun n => Nat.mod_lt _ (by decide)
  have hs : (shiftF op k a).1 < 18446744073709551616 := by
    unfold shiftF
    split
    · decide
    · split
      · exact hm _
      · split
        · exact Nat.lt_of_le_of_lt (Nat.div_le_self _ _) ha
        · exact u64_lt _
  unfold valF
  by_cases e0 : op = 1
  · rw [if_pos e0]; exact u64_lt _
  rw [if_neg e0]
  by_cases e1 : op = 2
  · rw [if_pos e1]; exact ha
  rw [if_neg e1]
  by_cases e2 : op = 3
  · rw [if_pos e2]; exact hm _
  rw [if_neg e2]
  by_cases e3 : op = 4
  · rw [if_pos e3]; exact hm _
  rw [if_neg e3]
  by_cases e4 : op = 5
  · rw [if_pos e4]; exact hm _
  rw [if_neg e4]
  by_cases e5 : op = 6
  · rw [if_pos e5]; exact Nat.div_lt_of_lt_mul (Nat.mul_lt_mul'' ha hb)
  rw [if_neg e5]
  by_cases e6 : op = 7
  · rw [if_pos e6]; exact Nat.lt_of_le_of_lt Nat.and_le_left ha
  rw [if_neg e6]
  by_cases e7 : op = 8
  · rw [if_pos e7]; exact Nat.or_lt_two_pow (n := 64) ha hb
  rw [if_neg e7]
  by_cases e8 : op = 9
  · rw [if_pos e8]; exact Nat.xor_lt_two_pow (n := 64) ha hb
  rw [if_neg e8]
  by_cases e9 : op = 10 ∨ op = 11 ∨ op = 12
  · rw [if_pos e9]; exact hs
  rw [if_neg e9]
  by_cases e10 : op = 13
  · rw [if_pos e10]; show (if a < b then 1 else 0) < 18446744073709551616; by_cases q : a < b
    · rw [if_pos q]; decide
    · rw [if_neg q]; decide
  rw [if_neg e10]
  by_cases e11 : op = 14
  · rw [if_pos e11]; show (if a ≠ 0 then b else c) < 18446744073709551616; by_cases q : a ≠ 0
    · rw [if_pos q]; exact hb
    · rw [if_neg q]; exact hc
  rw [if_neg e11]
  decide

theorem mem_set {l : List Nat} {j x : Nat} (h : ∀ y ∈ l, y < 18446744073709551616) (hx : x < 18446744073709551616) : ∀ y ∈ l.set j x, y < 18446744073709551616 := by
  intro y hy
  rcases List.mem_or_eq_of_mem_set hy with h1 | rfl
  · exact h y h1
  · exact hx

/-- What a step leaves of what a run needs. -/
theorem MS.step_ok {s : MS} {R n : Nat} {i : Ins} (h : s.Ok R) (hi : i.Ok R n) (hl : s.leaks.length + 1 ≤ 3 * s.steps) (hn : s.at_ < n) : (s.step i).1.Ok R ∧ (s.step i).1.at_ ≤ n ∧ (s.step i).1.steps = s.steps ∧ (s.step i).1.mem.length = s.mem.length := by
  have ok1 : ({ s with at_ := s.at_ + 1 } : MS).Ok R := ⟨h.len, h.regs, h.mem, h.leaks, h.big, h.few⟩
  unfold MS.step
  simp only
  split
  · unfold MS.touch
    simp only [MS.leak, MS.set]
    split
    · exact ⟨⟨h.len, h.regs, h.mem, by simpa using hl, h.big, h.few⟩, hn, rfl, rfl⟩
    · split
      · exact ⟨⟨by simpa using h.len, mem_set h.regs (h.mg _), h.mem, by simpa using hl, h.big, h.few⟩, hn, rfl, rfl⟩
      · exact ⟨⟨h.len, h.regs, mem_set h.mem (ok1.rg _), by simpa using hl, by simpa using h.big, h.few⟩, hn, rfl, by simp⟩
  · split
    · rename_i h2
      have hk := hi.k (by omega) (by omega)
      unfold MS.branch
      split
      · exact ⟨⟨h.len, h.regs, h.mem, h.leaks, h.big, h.few⟩, by simp only; omega, rfl, rfl⟩
      · split
        · exact ⟨⟨h.len, h.regs, h.mem, by simpa [MS.leak] using hl, h.big, h.few⟩, by simp only; omega, rfl, rfl⟩
        · exact ⟨⟨h.len, h.regs, h.mem, by simpa [MS.leak] using hl, h.big, h.few⟩, hn, rfl, rfl⟩
    · split
      · exact ⟨⟨h.len, h.regs, h.mem, h.leaks, h.big, h.few⟩, hn, rfl, rfl⟩
      · split
        · exact ⟨⟨by simpa [MS.set] using h.len, mem_set h.regs (valF_lt _ _ _ _ _ (ok1.rg _) (ok1.rg _) (ok1.rg _)), h.mem, h.leaks, h.big, h.few⟩, hn, rfl, rfl⟩
        · exact ⟨ok1, hn, rfl, rfl⟩

/-- The rounds of a run. -/
def MS.tick (s : MS) : MS := ({ s with steps := s.steps + 1 } : MS).leak 1 s.at_
def runM (cs : List Ins) (fuel : Int) : Nat → MS → Option MS
  | 0, _ => none
  | f + 1, s =>
    if cs.length ≤ s.at_ then some { s with code := 3 }
    else if (s.steps : Int) = fuel then some { s with code := 4 }
    else match s.tick.step (cs.getD s.at_ default) with
      | (s', true) => runM cs fuel f s'
      | (s', false) => some s'

/-- The blocks, with the run's end. -/
def resV (s : MS) : AV := .agg [I6 s.code, .sl 5 s.mem.length 0 s.mem.length 1, .sl 6 s.leaks.length 0 s.leaks.length 2, Nn s.steps]
def hpE (p0 : ABlk) (bor : Bool) (cs : List Ins) (R M : Int) (s : MS) : AHeap := (hpM p0 bor cs R M s).set 1 ⟨40, 4, [resV s]⟩
def xsM (fuel : Int) (bor b2 : Bool) (cs : List Ins) (R M : Int) : List AV := [I6 fuel, .nilf, .rp b2 (.agg [.ro bor (codeV cs), I6 R, I6 M]) 0, .ptr 1 1 0 0, PX]

section
variable (G : Globs) (p0 : ABlk) (hp : belowL 7 p0.elems = true) (bor b2 : Bool) (cs : List Ins) (R : Nat) (M : Int) (fuel : Int) (self : Den) (k : Nat)

theorem ldRes (s : MS) : loadV G true 4 (.ptr 3 1 0 5) (hpM p0 bor cs R M s) = some (resV s) := rfl
theorem stRes (s : MS) : stS (storeV 4 (.ptr 1 1 0 0) (resV s) (hpM p0 bor cs R M s)) = some (.tup [], hpE p0 bor cs R M s) := rfl
theorem xs_below : belowL 7 (xsM fuel bor b2 cs R M) = true := by simp [xsM, belowL, belowB, codeV_below]
theorem insAt (j : Nat) (h : j < cs.length) : idxAddrSl 6 (.ro bor (codeV cs)) (Nn j) = some (.rp bor (cs.getD j default).v 0) := by
  have h0 : (0 : Int) ≤ (j : Int) := by omega
  have e : (codeV cs)[(j : Int).toNat]? = some (cs.getD j default).v := by
    rw [Int.toNat_natCast]
    simp [codeV, List.getElem?_map, List.getD, List.getElem?_eq_getElem h]
  unfold idxAddrSl
  simp only [e]
  rw [if_pos h0]
  rfl
theorem ldIns (i : Ins) (H : AHeap) : loadV G true 6 (.rp bor i.v 0) H = some i.v := rfl

set_option maxRecDepth 20000 in
set_option maxHeartbeats 1000000 in
include hp in
theorem watch_loop (hf : fuel ≤ 99999) (hcl : cs.length ≤ 100000) (hcs : ∀ j, j < cs.length → (cs.getD j default).Ok R cs.length) : ∀ (f : Nat) (s s' : MS), runM cs fuel f s = some s' → s.Ok R → s.at_ ≤ cs.length → (s.steps : Int) ≤ fuel →
    loopN (words_Watch.l3 G (k + 4) 7 self) f (xsM fuel bor b2 cs R M) (hpM p0 bor cs R M s) = some (.ret, xsM fuel bor b2 cs R M, hpE p0 bor cs R M s')
  | 0, s, s', h, _, _, _ => by simp [runM] at h
  | f + 1, s, s', h, hs, hat, hst => by
    have few := hs.few
    have lks := hs.leaks
    rw [loopN_succ, words_Watch.l3]
    refine lC (hp_cut p0 bor cs R M s hp _ (xs_below bor b2 cs R M fuel)) ?_
    have c16 := ld4 G p0 bor cs R M s
    have c17 : fieldAddrV 0 (.rp b2 (.agg [.ro bor (codeV cs), I6 R, I6 M]) 0) = some (.rp b2 (.agg [.ro bor (codeV cs), I6 R, I6 M]) 0) := rfl
    have c18 : ∀ H, loadV G false 1 (.rp b2 (.agg [.ro bor (codeV cs), I6 R, I6 M]) 0) H = some (.ro bor (codeV cs)) := fun H => rfl
    have c19 : lenSl (.ro bor (codeV cs)) = some (Nn cs.length) := by simp [lenSl, codeV_len]
    have c31 := ld8 G p0 bor cs R M s
    have q2 : bin Tryd.prog .neq 107 true .nilf .nilf = some (.bool false) := by kernel_rfl
    simp only [runM] at h
    unfold xsM
    by_cases h1 : cs.length ≤ s.at_
    · rw [if_pos h1] at h
      simp only [Option.some.injEq] at h
      have c20 : bin Tryd.prog .geq 3 false (Nn s.at_) (Nn cs.length) = some (.bool true) := by rw [bin_geq, decide_eq_true (by omega)]
      have c24 := st5 p0 bor cs R M s 3
      rw [h] at c24
      have c27 := ldRes G p0 bor cs R M s'
      have c28 := stRes p0 bor cs R M s'
      repeat first
        | refine oB (by first | (simp only [pu_val, nth_zero, nth_succ, gd_tt, gd_ff, gd_tf, gd_ft, gd_no, pickA_true, pickA_false, un_not, nil_px, fa4, fa5, fa50, c16, c17, c18, c19, c20, c24, c27, c28]; first | done | (with_reducible exact rfl) | (with_reducible exact ⟨rfl, rfl⟩)) | (with_reducible exact rfl)) ?_
        | refine lB (by first | (simp only [pu_val, nth_zero, nth_succ, gd_tt, gd_ff, gd_tf, gd_ft, gd_no, pickA_true, pickA_false, un_not, nil_px, fa4, fa5, fa50, c16, c17, c18, c19, c20, c24, c27, c28]; first | done | (with_reducible exact rfl) | (with_reducible exact ⟨rfl, rfl⟩)) | (with_reducible exact rfl)) ?_
        | refine oT ?_
        | refine oN ?_
        | refine oX ?_
        | refine oXn ?_
        | refine oXr ?_
        | exact oF (finV_bool ..)
        | apply oK
        | refine lT ?_
        | refine lN ?_
        | refine lX ?_
        | refine lXn ?_
        | refine lXr ?_
        | apply lK
        | refine oI ?_
        | refine oJ rfl ?_
        | refine lI ?_
        | refine lJ rfl ?_
        | (with_reducible exact rfl)
      rfl
    rw [if_neg h1] at h
    have c20 : bin Tryd.prog .geq 3 false (Nn s.at_) (Nn cs.length) = some (.bool false) := by rw [bin_geq, decide_eq_false (by omega)]
    by_cases h2 : (s.steps : Int) = fuel
    · rw [if_pos h2] at h
      simp only [Option.some.injEq] at h
      have c33 : bin Tryd.prog .eql 2 false (Nn s.steps) (I6 fuel) = some (.bool true) := by rw [bin_eql, decide_eq_true h2]
      have c24 := st5 p0 bor cs R M s 4
      rw [h] at c24
      have c27 := ldRes G p0 bor cs R M s'
      have c28 := stRes p0 bor cs R M s'
      repeat first
        | refine oB (by first | (simp only [pu_val, nth_zero, nth_succ, gd_tt, gd_ff, gd_tf, gd_ft, gd_no, pickA_true, pickA_false, un_not, nil_px, fa4, fa5, fa50, fa53, c16, c17, c18, c19, c20, c24, c27, c28, c31, c33]; first | done | (with_reducible exact rfl) | (with_reducible exact ⟨rfl, rfl⟩)) | (with_reducible exact rfl)) ?_
        | refine lB (by first | (simp only [pu_val, nth_zero, nth_succ, gd_tt, gd_ff, gd_tf, gd_ft, gd_no, pickA_true, pickA_false, un_not, nil_px, fa4, fa5, fa50, fa53, c16, c17, c18, c19, c20, c24, c27, c28, c31, c33]; first | done | (with_reducible exact rfl) | (with_reducible exact ⟨rfl, rfl⟩)) | (with_reducible exact rfl)) ?_
        | refine oT ?_
        | refine oN ?_
        | refine oX ?_
        | refine oXn ?_
        | refine oXr ?_
        | exact oF (finV_bool ..)
        | apply oK
        | refine lT ?_
        | refine lN ?_
        | refine lX ?_
        | refine lXn ?_
        | refine lXr ?_
        | apply lK
        | refine oI ?_
        | refine oJ rfl ?_
        | refine lI ?_
        | refine lJ rfl ?_
        | (with_reducible exact rfl)
      rfl
    rw [if_neg h2] at h
    have c33 : bin Tryd.prog .eql 2 false (Nn s.steps) (I6 fuel) = some (.bool false) := by rw [bin_eql, decide_eq_false h2]
    have c62 : bin Tryd.prog .add 2 true (Nn s.steps) (.int .i64 1) = some (Nn (s.steps + 1)) := by
      rw [bin_add, wrap_of_i64 (by omega) (by omega)]; congr 2
    have c67 := st8 p0 bor cs R M s (s.steps + 1)
    have c70 := ld4 G p0 bor cs R M { s with steps := s.steps + 1 }
    have c71 := hcall p0 bor cs R M { s with steps := s.steps + 1 } (leak_spec G p0 bor cs R M { s with steps := s.steps + 1 } (k + 3) hp 1 s.at_ (by simp only; omega))
    have et : (({ s with steps := s.steps + 1 } : MS).leak 1 s.at_) = s.tick := rfl
    rw [et] at c71
    have okt : s.tick.Ok R := ⟨hs.len, hs.regs, hs.mem, by simp [MS.tick, MS.leak]; omega, hs.big, by simp [MS.tick, MS.leak]; omega⟩
    have c75 := ld4 G p0 bor cs R M s.tick
    have eat : s.tick.at_ = s.at_ := rfl
    rw [eat] at c75
    have c77 := insAt bor cs s.at_ (by omega)
    have hi := hcs s.at_ (by omega)
    have tll : s.tick.leaks.length ≤ 999990 := by simp [MS.tick, MS.leak]; omega
    have c79 := hcall p0 bor cs R M s.tick (step_spec G p0 hp bor cs R M s.tick (cs.getD s.at_ default) okt tll cs.length k hi (by rw [eat]; omega))
    obtain ⟨o1, o2, o3, o4⟩ := MS.step_ok okt hi (by simp [MS.tick, MS.leak]; omega) (by rw [eat]; omega)
    have hst2 : s.tick.steps = s.steps + 1 := rfl
    have c78 := ldIns G bor (cs.getD s.at_ default)
    generalize cs.getD s.at_ default = i at *
    obtain ⟨s2, b, hsb⟩ : ∃ s2 b, s.tick.step i = (s2, b) := ⟨_, _, rfl⟩
    rw [hsb] at h c79 o1 o2 o3 o4
    simp only at h c79 o1 o2 o3 o4
    cases b
    · simp only [Option.some.injEq] at h
      subst h
      have c83 := ldRes G p0 bor cs R M s2
      have c84 := stRes p0 bor cs R M s2
      repeat first
        | refine oB (by first | (simp only [pu_val, nth_zero, nth_succ, gd_tt, gd_ff, gd_tf, gd_ft, gd_no, pickA_true, pickA_false, un_not, nil_px, fa4, fa5, fa50, fa53, c16, c17, c18, c19, c20, c31, c33, q2, c62, c67, c70, c71, c75, c77, c78, c79, c83, c84, Bool.not_true, Bool.not_false]; first | done | (with_reducible exact rfl) | (with_reducible exact ⟨rfl, rfl⟩)) | (with_reducible exact rfl)) ?_
        | refine lB (by first | (simp only [pu_val, nth_zero, nth_succ, gd_tt, gd_ff, gd_tf, gd_ft, gd_no, pickA_true, pickA_false, un_not, nil_px, fa4, fa5, fa50, fa53, c16, c17, c18, c19, c20, c31, c33, q2, c62, c67, c70, c71, c75, c77, c78, c79, c83, c84, Bool.not_true, Bool.not_false]; first | done | (with_reducible exact rfl) | (with_reducible exact ⟨rfl, rfl⟩)) | (with_reducible exact rfl)) ?_
        | refine oT ?_
        | refine oN ?_
        | refine oX ?_
        | refine oXn ?_
        | refine oXr ?_
        | exact oF (finV_bool ..)
        | apply oK
        | refine lT ?_
        | refine lN ?_
        | refine lX ?_
        | refine lXn ?_
        | refine lXr ?_
        | apply lK
        | refine oI ?_
        | refine oJ rfl ?_
        | refine lI ?_
        | refine lJ rfl ?_
        | (with_reducible exact rfl)
      rfl
    · simp only at h
      have ih := watch_loop hf hcl hcs f s2 s' h o1 o2 (by rw [o3, hst2]; omega)
      unfold xsM at ih
      repeat first
        | refine oB (by first | (simp only [pu_val, nth_zero, nth_succ, gd_tt, gd_ff, gd_tf, gd_ft, gd_no, pickA_true, pickA_false, un_not, nil_px, fa4, fa5, fa50, fa53, c16, c17, c18, c19, c20, c31, c33, q2, c62, c67, c70, c71, c75, c77, c78, c79, Bool.not_true, Bool.not_false]; first | done | (with_reducible exact rfl) | (with_reducible exact ⟨rfl, rfl⟩)) | (with_reducible exact rfl)) ?_
        | refine lB (by first | (simp only [pu_val, nth_zero, nth_succ, gd_tt, gd_ff, gd_tf, gd_ft, gd_no, pickA_true, pickA_false, un_not, nil_px, fa4, fa5, fa50, fa53, c16, c17, c18, c19, c20, c31, c33, q2, c62, c67, c70, c71, c75, c77, c78, c79, Bool.not_true, Bool.not_false]; first | done | (with_reducible exact rfl) | (with_reducible exact ⟨rfl, rfl⟩)) | (with_reducible exact rfl)) ?_
        | refine oT ?_
        | refine oN ?_
        | refine oX ?_
        | refine oXn ?_
        | refine oXr ?_
        | exact oF (finV_bool ..)
        | apply oK
        | refine lT ?_
        | refine lN ?_
        | refine lX ?_
        | refine lXn ?_
        | refine lXr ?_
        | apply lK
        | refine oI ?_
        | refine oJ rfl ?_
        | refine lI ?_
        | refine lJ rfl ?_
        | (with_reducible exact rfl)
      exact ih
end
end Go.Proofs.YtcmblhedhgiofaaDoor.Mir
