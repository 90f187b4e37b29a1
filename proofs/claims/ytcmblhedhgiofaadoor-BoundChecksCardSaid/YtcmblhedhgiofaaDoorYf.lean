/- A run that is watched: what the watcher says, the rounds. -/
import Derived.Test.YtcmblhedhgiofaaDoorYc
import Derived.Test.YtcmblhedhgiofaaDoorYe
import Derived.Test.YtcmblhedhgiofaaDoorWe
namespace Go.Proofs.YtcmblhedhgiofaaDoor.Mir.B3
open Go
set_option linter.unusedVariables false
set_option linter.unusedSimpArgs false
set_option maxHeartbeats 8000000
set_option maxRecDepth 20000

def askedB (op : Int) : Bool := decide (op = 3 ∨ op = 4 ∨ op = 5 ∨ op = 10)
theorem asked_spec (G : Globs) (k : Nat) (op : Int) : bound_asked.f G (k + 1) [I6 op] [] = some (.bool (askedB op), []) := by
  rw [bound_asked.step]
  unfold bound_asked.c
  refine e_in ?_
  by_cases h : op = 3 ∨ op = 4 ∨ op = 5 ∨ op = 10
  · have e : askedB op = true := decide_eq_true h
    rw [e]
    repeat' first
      | (with_reducible first | refine eT ?_ | refine eN ?_ | refine eS ?_ | refine eXn ?_ | refine eXr ?_ | refine eX ?_ | refine eI ?_ | refine eK ?_ | refine eV0 ?_ | refine eGtt ?_ | refine eGff ?_ | refine eGtf ?_ | refine eGft ?_ | refine eGno ?_)
      | ((with_reducible apply eCn); (simp only [nth_zero, nth_succ]; first | done | (with_reducible exact rfl)))
      | ((with_reducible apply eJ); (rfl))
      | ((with_reducible apply eB); (first | (with_reducible exact rfl) | (simp (disch := omega) only [qa, putC, AV.cells, storable, buildSt, fillA, buildRo, buildOwn, fillE, Nat.reduceLeDiff, Nat.reduceLT, Nat.reduceAdd, ↓reduceIte]; first | done | (with_reducible exact rfl) | (with_reducible exact ⟨rfl, rfl⟩))))
      | ((with_reducible apply eR); (simp only [nth_zero, nth_succ]; (with_reducible exact rfl)))
      | ((with_reducible first | refine sEql ?_ ?_ | refine sNeq ?_ ?_ | refine sLss ?_ ?_ | refine sLeq ?_ ?_ | refine sGtr ?_ ?_ | refine sGeq ?_ ?_ | refine sNot ?_ ?_ | refine sPick ?_ ?_ | refine sGd ?_ ?_ | refine eBool ?_ ?_) <;> intro hq <;> try subst hq)
    all_goals first | omega | exact w1b rfl
  · have e : askedB op = false := decide_eq_false h
    rw [e]
    repeat' first
      | (with_reducible first | refine eT ?_ | refine eN ?_ | refine eS ?_ | refine eXn ?_ | refine eXr ?_ | refine eX ?_ | refine eI ?_ | refine eK ?_ | refine eV0 ?_ | refine eGtt ?_ | refine eGff ?_ | refine eGtf ?_ | refine eGft ?_ | refine eGno ?_)
      | ((with_reducible apply eCn); (simp only [nth_zero, nth_succ]; first | done | (with_reducible exact rfl)))
      | ((with_reducible apply eJ); (rfl))
      | ((with_reducible apply eB); (first | (with_reducible exact rfl) | (simp (disch := omega) only [qa, putC, AV.cells, storable, buildSt, fillA, buildRo, buildOwn, fillE, Nat.reduceLeDiff, Nat.reduceLT, Nat.reduceAdd, ↓reduceIte]; first | done | (with_reducible exact rfl) | (with_reducible exact ⟨rfl, rfl⟩))))
      | ((with_reducible apply eR); (simp only [nth_zero, nth_succ]; (with_reducible exact rfl)))
      | ((with_reducible first | refine sEql ?_ ?_ | refine sNeq ?_ ?_ | refine sLss ?_ ?_ | refine sLeq ?_ ?_ | refine sGtr ?_ ?_ | refine sGeq ?_ ?_ | refine sNot ?_ ?_ | refine sPick ?_ ?_ | refine sGd ?_ ?_ | refine eBool ?_ ?_) <;> intro hq <;> try subst hq)
    all_goals first | omega | exact w1b rfl

/-- Does a number lie in a span? -/
def hasB (p : Int × Int) (n : Int) : Bool := decide (p.1 ≤ n ∧ n ≤ p.2)
theorem has_spec (G : Globs) (k : Nat) (p : Int × Int) (n : Int) : span_Has.f G (k + 1) [leakV p, I6 n] [] = some (.bool (hasB p n), []) := by
  rw [span_Has.step]
  unfold span_Has.c leakV
  refine e_in ?_
  by_cases h : p.1 ≤ n ∧ n ≤ p.2
  · have e : hasB p n = true := decide_eq_true h
    rw [e]
    repeat' first
      | (with_reducible first | refine eT ?_ | refine eN ?_ | refine eS ?_ | refine eXn ?_ | refine eXr ?_ | refine eX ?_ | refine eI ?_ | refine eK ?_ | refine eV0 ?_ | refine eGtt ?_ | refine eGff ?_ | refine eGtf ?_ | refine eGft ?_ | refine eGno ?_)
      | ((with_reducible apply eCn); (simp only [nth_zero, nth_succ]; first | done | (with_reducible exact rfl)))
      | ((with_reducible apply eJ); (rfl))
      | ((with_reducible apply eB); (first | (with_reducible exact rfl) | (simp (disch := omega) only [qa, putC, AV.cells, storable, buildSt, fillA, buildRo, buildOwn, fillE, Nat.reduceLeDiff, Nat.reduceLT, Nat.reduceAdd, ↓reduceIte]; first | done | (with_reducible exact rfl) | (with_reducible exact ⟨rfl, rfl⟩))))
      | ((with_reducible apply eR); (simp only [nth_zero, nth_succ]; (with_reducible exact rfl)))
      | ((with_reducible first | refine sEql ?_ ?_ | refine sNeq ?_ ?_ | refine sLss ?_ ?_ | refine sLeq ?_ ?_ | refine sGtr ?_ ?_ | refine sGeq ?_ ?_ | refine sNot ?_ ?_ | refine sPick ?_ ?_ | refine sGd ?_ ?_ | refine eBool ?_ ?_) <;> intro hq <;> try subst hq)
    all_goals first | omega | exact w1b rfl
  · have e : hasB p n = false := decide_eq_false h
    rw [e]
    repeat' first
      | (with_reducible first | refine eT ?_ | refine eN ?_ | refine eS ?_ | refine eXn ?_ | refine eXr ?_ | refine eX ?_ | refine eI ?_ | refine eK ?_ | refine eV0 ?_ | refine eGtt ?_ | refine eGff ?_ | refine eGtf ?_ | refine eGft ?_ | refine eGno ?_)
      | ((with_reducible apply eCn); (simp only [nth_zero, nth_succ]; first | done | (with_reducible exact rfl)))
      | ((with_reducible apply eJ); (rfl))
      | ((with_reducible apply eB); (first | (with_reducible exact rfl) | (simp (disch := omega) only [qa, putC, AV.cells, storable, buildSt, fillA, buildRo, buildOwn, fillE, Nat.reduceLeDiff, Nat.reduceLT, Nat.reduceAdd, ↓reduceIte]; first | done | (with_reducible exact rfl) | (with_reducible exact ⟨rfl, rfl⟩))))
      | ((with_reducible apply eR); (simp only [nth_zero, nth_succ]; (with_reducible exact rfl)))
      | ((with_reducible first | refine sEql ?_ ?_ | refine sNeq ?_ ?_ | refine sLss ?_ ?_ | refine sLeq ?_ ?_ | refine sGtr ?_ ?_ | refine sGeq ?_ ?_ | refine sNot ?_ ?_ | refine sPick ?_ ?_ | refine sGd ?_ ?_ | refine eBool ?_ ?_) <;> intro hq <;> try subst hq)
    all_goals first | omega | exact w1b rfl

/-- Does what an instruction makes leave its span? -/
def wrongB (sp : List (Int × Int)) (s : MS) (i : Ins) : Bool :=
  askedB i.op && !((exF i.op i.k (s.rg i.a) (s.rg i.b)).2 && hasB (sp.getD s.at_ (0, 0)) (exF i.op i.k (s.rg i.a) (s.rg i.b)).1)

abbrev b0 (bor : Bool) (cs : List Ins) (R M : Int) : ABlk := ⟨24, 3, [cdV bor cs R M]⟩
abbrev b1 (b2 : Bool) (sp : List (Int × Int)) : ABlk := ⟨60, 1, [.ro b2 (leaksV sp)]⟩
abbrev bw (w : Int) : ABlk := ⟨3, 1, [I6 w]⟩

abbrev zI : AV := .agg [.int .i64 0, .int .i64 0, .int .i64 0, .int .i64 0, .int .i64 0, .int .i64 0]

section
variable (G : Globs) (bor b2 b3 : Bool) (cs : List Ins) (sp : List (Int × Int)) (R : Nat) (M : Int) (s : MS)
theorem bbel (w : Int) : belowL 9 (b0 bor cs R M).elems = true ∧ belowL 9 (b1 b2 sp).elems = true ∧ belowL 9 (bw w).elems = true := by
  simp [belowL, belowB, cdV, codeV_below, leaksV_below]

/-- The blocks, and an instruction. -/
def hpX (w : Int) (x : AV) : AHeap := hpM (b0 bor cs R M) (b1 b2 sp) (bw w) b3 cs R M s ++ [⟨52, 6, [x]⟩]

theorem xBox (w : Int) : boxA 52 zI (hpM (b0 bor cs R M) (b1 b2 sp) (bw w) b3 cs R M s) = some (.ptr 9 1 0 0, hpX bor b2 b3 cs sp R M s w zI) := rfl
theorem xSt (w : Int) (i : Ins) : stS (storeV 6 (.ptr 9 1 0 0) i.v (hpX bor b2 b3 cs sp R M s w zI)) = some (.tup [], hpX bor b2 b3 cs sp R M s w i.v) := rfl
theorem xI0 (w : Int) (i : Ins) : loadV G false 1 (.ptr 9 1 0 0) (hpX bor b2 b3 cs sp R M s w i.v) = some (I6 i.op) := rfl
theorem xI2 (w : Int) (i : Ins) : loadV G false 1 (.ptr 9 1 0 2) (hpX bor b2 b3 cs sp R M s w i.v) = some (I6 i.a) := rfl
theorem xI3 (w : Int) (i : Ins) : loadV G false 1 (.ptr 9 1 0 3) (hpX bor b2 b3 cs sp R M s w i.v) = some (I6 i.b) := rfl
theorem xI6 (w : Int) (i : Ins) : loadV G true 6 (.ptr 9 1 0 0) (hpX bor b2 b3 cs sp R M s w i.v) = some i.v := rfl
theorem xCode (w : Int) : loadV G false 1 (.ptr 0 1 0 0) (hpM (b0 bor cs R M) (b1 b2 sp) (bw w) b3 cs R M s) = some (.ro bor (codeV cs)) := rfl
theorem xSp (w : Int) (x : AV) : loadV G false 1 (.ptr 1 1 0 0) (hpX bor b2 b3 cs sp R M s w x) = some (.ro b2 (leaksV sp)) := rfl
theorem xOut (w : Int) (x : AV) : loadV G false 1 (.ptr 2 1 0 0) (hpX bor b2 b3 cs sp R M s w x) = some (I6 w) := rfl
theorem xStW (w n : Int) (x : AV) : stS (storeV 1 (.ptr 2 1 0 0) (I6 n) (hpX bor b2 b3 cs sp R M s w x)) = some (.tup [], hpX bor b2 b3 cs sp R M s n x) := rfl
theorem xR (w : Int) (x : AV) (j : Nat) (h : j < s.regs.length) : loadV G false 1 (.ptr 4 s.regs.length j 0) (hpX bor b2 b3 cs sp R M s w x) = some (Un (s.regs.getD j 0)) := by
  have e : (hpX bor b2 b3 cs sp R M s w x)[4]? = some ⟨48, 1, natsU s.regs⟩ := rfl
  unfold loadV
  simp only [e, natsU_len, natsU_get _ _ h, if_true]
  rfl
theorem xFin (w : Int) (x : AV) (c : Bool) : finV [.bool c] 9 (hpX bor b2 b3 cs sp R M s w x) = some (.ret, [.bool c], hpM (b0 bor cs R M) (b1 b2 sp) (bw w) b3 cs R M s) := by
  have e : (hpX bor b2 b3 cs sp R M s w x).take 9 = hpM (b0 bor cs R M) (b1 b2 sp) (bw w) b3 cs R M s := rfl
  have e2 := hp_below (b0 bor cs R M) (b1 b2 sp) (bw w) b3 cs R M s (bbel bor b2 cs sp R M w)
  exact finV_at rfl (by rw [e]; exact e2) |>.trans (by rw [e])

theorem idSp (b : Bool) (j : Nat) (h : j < sp.length) : idxAddrSl 2 (.ro b (leaksV sp)) (Nn j) = some (.rp b (leakV (sp.getD j (0, 0))) 0) := by
  have h0 : (0 : Int) ≤ (j : Int) := by omega
  have e : (leaksV sp)[(j : Int).toNat]? = some (leakV (sp.getD j (0, 0))) := by
    rw [Int.toNat_natCast]
    simp [leaksV, List.getElem?_map, List.getD, List.getElem?_eq_getElem h]
  unfold idxAddrSl
  simp only [e]
  rw [if_pos h0]
  rfl
theorem ldSp (b : Bool) (p : Int × Int) (H : AHeap) : loadV G true 2 (.rp b (leakV p) 0) H = some (leakV p) := rfl

/-- What the watcher says. -/
theorem check1_spec (k : Nat) (i : Ins) (hs : s.Ok R) (hsp : sp.length = cs.length) (hat : s.at_ < cs.length) (hci : cs.getD s.at_ default = i) (hi : i.Ok R cs.length) (w : Int) (hw : w < 0) :
    bound_Check_1.f G (k + 3) [Nn s.at_, .sl 4 s.regs.length 0 s.regs.length 1, .ptr 0 1 0 0, .ptr 1 1 0 0, .ptr 2 1 0 0] (hpM (b0 bor cs R M) (b1 b2 sp) (bw w) b3 cs R M s) =
      some (.bool (!wrongB sp s i), hpM (b0 bor cs R M) (b1 b2 sp) (bw (if wrongB sp s i = true then s.at_ else w)) b3 cs R M s) := by
  rw [bound_Check_1.step]
  unfold bound_Check_1.c
  have hR := hs.len
  have f1 := xCode G bor b2 b3 cs sp R M s w
  have f2 := insAt bor cs s.at_ hat
  rw [hci] at f2
  have f3 := fun H => ldIns G bor i H
  have f4 := xBox bor b2 b3 cs sp R M s w
  have f5 := xSt bor b2 b3 cs sp R M s w i
  have f6 := xI0 G bor b2 b3 cs sp R M s w i
  have f7 : ∀ H, pureCall (bound_asked.f G (k + 2)) [I6 i.op] H = _ := fun H => pureCall_of (H := H) (asked_spec G (k + 1) i.op) rfl rfl
  have hlen : (hpM (b0 bor cs R M) (b1 b2 sp) (bw w) b3 cs R M s).length = 9 := rfl
  rw [hlen]
  refine e_in ?_
  unfold wrongB
  cases ha : askedB i.op
  · rw [ha] at f7
    repeat' first
      | (with_reducible first | refine eT ?_ | refine eN ?_ | refine eS ?_ | refine eXn ?_ | refine eXr ?_ | refine eX ?_ | refine eI ?_ | refine eK ?_ | refine eV0 ?_ | refine eGtt ?_ | refine eGff ?_ | refine eGtf ?_ | refine eGft ?_ | refine eGno ?_)
      | ((with_reducible apply eCn); (simp only [nth_zero, nth_succ]; first | done | (with_reducible exact rfl)))
      | ((with_reducible apply eJ); (rfl))
      | ((with_reducible apply eB); (first | (with_reducible exact rfl) | (simp (disch := omega) only [qf, f1, f2, f3, f4, f5, f6, f7]; first | done | (with_reducible exact rfl) | (with_reducible exact ⟨rfl, rfl⟩)) | (simp (disch := omega) only [qa, putC, AV.cells, storable, buildSt, fillA, buildRo, buildOwn, fillE, Nat.reduceLeDiff, Nat.reduceLT, Nat.reduceAdd, ↓reduceIte, f1, f2, f3, f4, f5, f6, f7]; first | done | (with_reducible exact rfl) | (with_reducible exact ⟨rfl, rfl⟩))))
      | ((with_reducible apply eR); (simp only [nth_zero, nth_succ]; (with_reducible exact rfl)))
      | ((with_reducible first | refine sEql ?_ ?_ | refine sNeq ?_ ?_ | refine sLss ?_ ?_ | refine sLeq ?_ ?_ | refine sGtr ?_ ?_ | refine sGeq ?_ ?_ | refine sNot ?_ ?_ | refine sPick ?_ ?_ | refine sGd ?_ ?_ | refine eBool ?_ ?_) <;> intro hq <;> try subst hq)
    refine oF ?_
    rw [xFin]; rfl
  · rw [ha] at f7
    have hop : i.op = 3 ∨ i.op = 4 ∨ i.op = 5 ∨ i.op = 10 := of_decide_eq_true ha
    have a1 := hi.a (by omega) (by omega)
    have a2 := hi.b (by omega)
    have g1 := xI2 G bor b2 b3 cs sp R M s w i
    have g2 := xI3 G bor b2 b3 cs sp R M s w i
    have g3 := xI6 G bor b2 b3 cs sp R M s w i
    have g4 := ldAt s i.a a1.1
    rw [if_pos (by omega)] at g4
    have g5 := ldAt s i.b a2.1
    rw [if_pos (by omega)] at g5
    have g6 : loadV G false 1 (.ptr 4 s.regs.length i.a.toNat 0) (hpX bor b2 b3 cs sp R M s w i.v) = some (Un (s.rg i.a)) := xR G bor b2 b3 cs sp R M s w i.v i.a.toNat (by omega)
    have g7 : loadV G false 1 (.ptr 4 s.regs.length i.b.toNat 0) (hpX bor b2 b3 cs sp R M s w i.v) = some (Un (s.rg i.b)) := xR G bor b2 b3 cs sp R M s w i.v i.b.toNat (by omega)
    have g8 : ∀ H, pureCall (bound_Exact.f G (k + 2)) [i.v, Un (s.rg i.a), Un (s.rg i.b)] H = _ := fun H => pureCall_of (H := H) (exact_gen G k i.op i.d i.a i.b i.c i.k _ _ (hs.rg _) (hs.rg _)) rfl rfl
    obtain ⟨p, hp⟩ : ∃ p, p = exF i.op i.k (s.rg i.a) (s.rg i.b) := ⟨_, rfl⟩
    rw [← hp] at g8 ⊢
    obtain ⟨n, is⟩ := p
    unfold exV at g8
    simp only at g8 ⊢
    have g9 := xSp G bor b2 b3 cs sp R M s w i.v
    have g10 := idSp sp b2 s.at_ (by omega)
    have g11 := fun H => ldSp G b2 (sp.getD s.at_ (0, 0)) H
    have g12 : ∀ H, pureCall (span_Has.f G (k + 2)) [leakV (sp.getD s.at_ (0, 0)), I6 n] H = _ := fun H => pureCall_of (H := H) (has_spec G (k + 1) (sp.getD s.at_ (0, 0)) n) rfl rfl
    have g13 := xStW bor b2 b3 cs sp R M s w s.at_ i.v
    have g14 := xOut G bor b2 b3 cs sp R M s w i.v
    have g15 := xOut G bor b2 b3 cs sp R M s s.at_ i.v
    have q1 : bin Tryd.prog .lss 3 true (I6 w) (.int .i64 0) = some (.bool true) := q_lss_t hw
    have q2 : bin Tryd.prog .lss 3 true (Nn s.at_) (.int .i64 0) = some (.bool false) := q_lss_f (by omega)
    clear hp ha hop
    generalize hasB (sp.getD s.at_ (0, 0)) n = hh at *
    cases is
    · repeat' first
        | (with_reducible first | refine eT ?_ | refine eN ?_ | refine eS ?_ | refine eXn ?_ | refine eXr ?_ | refine eX ?_ | refine eI ?_ | refine eK ?_ | refine eV0 ?_ | refine eGtt ?_ | refine eGff ?_ | refine eGtf ?_ | refine eGft ?_ | refine eGno ?_)
        | ((with_reducible apply eCn); (simp only [nth_zero, nth_succ]; first | done | (with_reducible exact rfl)))
        | ((with_reducible apply eJ); (rfl))
        | ((with_reducible apply eB); (first | (with_reducible exact rfl) | (simp (disch := omega) only [qf, f1, f2, f3, f4, f5, f6, f7, g1, g2, g3, g4, g5, g6, g7, g8, g9, g10, g11, g12, g13, g14, g15, q1, q2]; first | done | (with_reducible exact rfl) | (with_reducible exact ⟨rfl, rfl⟩)) | (simp (disch := omega) only [qa, putC, AV.cells, storable, buildSt, fillA, buildRo, buildOwn, fillE, Nat.reduceLeDiff, Nat.reduceLT, Nat.reduceAdd, ↓reduceIte, f1, f2, f3, f4, f5, f6, f7, g1, g2, g3, g4, g5, g6, g7, g8, g9, g10, g11, g12, g13, g14, g15, q1, q2]; first | done | (with_reducible exact rfl) | (with_reducible exact ⟨rfl, rfl⟩))))
        | ((with_reducible apply eR); (simp only [nth_zero, nth_succ]; (with_reducible exact rfl)))
        | ((with_reducible first | refine sEql ?_ ?_ | refine sNeq ?_ ?_ | refine sLss ?_ ?_ | refine sLeq ?_ ?_ | refine sGtr ?_ ?_ | refine sGeq ?_ ?_ | refine sNot ?_ ?_ | refine sPick ?_ ?_ | refine sGd ?_ ?_ | refine eBool ?_ ?_) <;> intro hq <;> try subst hq)
      refine oF ?_
      rw [xFin]; rfl
    · cases hh
      · repeat' first
          | (with_reducible first | refine eT ?_ | refine eN ?_ | refine eS ?_ | refine eXn ?_ | refine eXr ?_ | refine eX ?_ | refine eI ?_ | refine eK ?_ | refine eV0 ?_ | refine eGtt ?_ | refine eGff ?_ | refine eGtf ?_ | refine eGft ?_ | refine eGno ?_)
          | ((with_reducible apply eCn); (simp only [nth_zero, nth_succ]; first | done | (with_reducible exact rfl)))
          | ((with_reducible apply eJ); (rfl))
          | ((with_reducible apply eB); (first | (with_reducible exact rfl) | (simp (disch := omega) only [qf, f1, f2, f3, f4, f5, f6, f7, g1, g2, g3, g4, g5, g6, g7, g8, g9, g10, g11, g12, g13, g14, g15, q1, q2]; first | done | (with_reducible exact rfl) | (with_reducible exact ⟨rfl, rfl⟩)) | (simp (disch := omega) only [qa, putC, AV.cells, storable, buildSt, fillA, buildRo, buildOwn, fillE, Nat.reduceLeDiff, Nat.reduceLT, Nat.reduceAdd, ↓reduceIte, f1, f2, f3, f4, f5, f6, f7, g1, g2, g3, g4, g5, g6, g7, g8, g9, g10, g11, g12, g13, g14, g15, q1, q2]; first | done | (with_reducible exact rfl) | (with_reducible exact ⟨rfl, rfl⟩))))
          | ((with_reducible apply eR); (simp only [nth_zero, nth_succ]; (with_reducible exact rfl)))
          | ((with_reducible first | refine sEql ?_ ?_ | refine sNeq ?_ ?_ | refine sLss ?_ ?_ | refine sLeq ?_ ?_ | refine sGtr ?_ ?_ | refine sGeq ?_ ?_ | refine sNot ?_ ?_ | refine sPick ?_ ?_ | refine sGd ?_ ?_ | refine eBool ?_ ?_) <;> intro hq <;> try subst hq)
        refine oF ?_
        rw [xFin]; rfl
      · repeat' first
          | (with_reducible first | refine eT ?_ | refine eN ?_ | refine eS ?_ | refine eXn ?_ | refine eXr ?_ | refine eX ?_ | refine eI ?_ | refine eK ?_ | refine eV0 ?_ | refine eGtt ?_ | refine eGff ?_ | refine eGtf ?_ | refine eGft ?_ | refine eGno ?_)
          | ((with_reducible apply eCn); (simp only [nth_zero, nth_succ]; first | done | (with_reducible exact rfl)))
          | ((with_reducible apply eJ); (rfl))
          | ((with_reducible apply eB); (first | (with_reducible exact rfl) | (simp (disch := omega) only [qf, f1, f2, f3, f4, f5, f6, f7, g1, g2, g3, g4, g5, g6, g7, g8, g9, g10, g11, g12, g13, g14, g15, q1, q2]; first | done | (with_reducible exact rfl) | (with_reducible exact ⟨rfl, rfl⟩)) | (simp (disch := omega) only [qa, putC, AV.cells, storable, buildSt, fillA, buildRo, buildOwn, fillE, Nat.reduceLeDiff, Nat.reduceLT, Nat.reduceAdd, ↓reduceIte, f1, f2, f3, f4, f5, f6, f7, g1, g2, g3, g4, g5, g6, g7, g8, g9, g10, g11, g12, g13, g14, g15, q1, q2]; first | done | (with_reducible exact rfl) | (with_reducible exact ⟨rfl, rfl⟩))))
          | ((with_reducible apply eR); (simp only [nth_zero, nth_succ]; (with_reducible exact rfl)))
          | ((with_reducible first | refine sEql ?_ ?_ | refine sNeq ?_ ?_ | refine sLss ?_ ?_ | refine sLeq ?_ ?_ | refine sGtr ?_ ?_ | refine sGeq ?_ ?_ | refine sNot ?_ ?_ | refine sPick ?_ ?_ | refine sGd ?_ ?_ | refine eBool ?_ ?_) <;> intro hq <;> try subst hq)
        refine oF ?_
        rw [xFin]; rfl
end
end Go.Proofs.YtcmblhedhgiofaaDoor.Mir.B3
