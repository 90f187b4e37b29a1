/- Which programs of words may be: the document's, whole; the program's errors are these. -/
import Derived.Test.YtcmblhedhgiofaaDoorWi
namespace Go.Proofs.YtcmblhedhgiofaaDoor.Mir
open Go
set_option linter.unusedVariables false
set_option linter.unusedSimpArgs false
set_option maxHeartbeats 4000000
set_option maxRecDepth 20000

def ftO (v : VE) : AV := match v with
  | .ok => ftV 0 false 0
  | .bare e => ftV (codE e) false 0
  | .at_ j e => ftV (codE e) true j
theorem ftO_clean (v : VE) : cleanB (ftO v) = true := by cases v <;> rfl
theorem ftO_plain (v : VE) : plainB (ftO v) = true := by cases v <;> rfl
theorem ftO_low (v : VE) : belowB 0 (ftO v) = true := by cases v <;> rfl

section
variable (G : Globs) (k : Nat) (self : Den) (cs : List Ins) (R M : Int)

theorem rv_loop (hcl : cs.length ≤ 1000000) : ∀ (l pre : List Ins) (f : Nat) (H : AHeap), cs = pre ++ l → l.length < f → H.take 1 = [⟨29, 3, [f0]⟩] →
    ∃ o, loopN (alembicref17_Valid.l4 G (k + 2) 1 self) f (xsR cs R M pre.length) H = some o ∧
      (match badF R cs.length l pre.length with
        | .ok => o = (.exit 0, xsR cs R M cs.length, [⟨29, 3, [f0]⟩])
        | v => ∃ j H', o = (.ret, xsR cs R M j, ⟨29, 3, [ftO v]⟩ :: H'))
  | l, pre, 0, H, hcs, hf, hH => by omega
  | [], pre, f + 1, H, hcs, hf, hH => by
    rw [loopN_succ, alembicref17_Valid.l4]
    have hl : cs.length = pre.length := by rw [hcs]; simp
    refine ⟨_, ?_, rfl⟩
    have hc : cutH 1 (xsR cs R M pre.length) H = some [⟨29, 3, [f0]⟩] := by
      unfold cutH
      rw [hH]
      simp [belowL, belowB, heapBelow, codeV_below, ftV]
    refine lC hc ?_
    refine e_id ?_
    have hge : ¬ (pre.length : Int) < (cs.length : Int) := by omega
    have q : bin Tryd.prog .lss 3 false (Nn pre.length) (Nn cs.length) = some (.bool false) := by rw [bin_lss, decide_eq_false hge]
    have lc : lenSl (.ro false (codeV cs)) = some (I6 cs.length) := by simp [lenSl, codeV_len]
    repeat' first
      | (with_reducible first | refine eT ?_ | refine eN ?_ | refine eS ?_ | refine eXn ?_ | refine eXr ?_ | refine eX ?_ | refine eI ?_ | refine eK ?_ | refine eV0 ?_ | refine eGtt ?_ | refine eGff ?_ | refine eGtf ?_ | refine eGft ?_ | refine eGno ?_)
      | ((with_reducible apply eCn); (simp only [nth_zero, nth_succ]; first | done | (with_reducible exact rfl)))
      | ((with_reducible apply eJ); (rfl))
      | ((with_reducible apply eB); (first | (with_reducible exact rfl) | (simp (disch := omega) only [qf, q, lc]; first | done | (with_reducible exact rfl) | (with_reducible exact ⟨rfl, rfl⟩)) | (simp (disch := omega) only [qa, putC, AV.cells, storable, buildSt, fillA, buildRo, buildOwn, fillE, Nat.reduceLeDiff, Nat.reduceLT, Nat.reduceAdd, ↓reduceIte, q, lc]; first | done | (with_reducible exact rfl) | (with_reducible exact ⟨rfl, rfl⟩))))
      | ((with_reducible apply eR); (simp only [nth_zero, nth_succ]; (with_reducible exact rfl)))
      | ((with_reducible first | refine sEql ?_ ?_ | refine sNeq ?_ ?_ | refine sLss ?_ ?_ | refine sLeq ?_ ?_ | refine sGtr ?_ ?_ | refine sGeq ?_ ?_ | refine sNot ?_ ?_ | refine sPick ?_ ?_ | refine sGd ?_ ?_ | refine eBool ?_ ?_) <;> intro hq <;> try subst hq)
    rw [hl]
    rfl
  | i :: l, pre, f + 1, H, hcs, hf, hH => by
    have hl : cs.length = pre.length + (l.length + 1) := by rw [hcs]; simp
    have hi : cs.getD pre.length default = i := by rw [hcs]; simp [List.getD]
    rw [loopN_succ, rv_round G k self cs R M _ i pre.length (by omega) hcl hi H hH]
    cases ho : oneF i R cs.length with
    | some e =>
      have hb : badF R cs.length (i :: l) pre.length = .at_ pre.length e := by simp only [badF, ho]
      rw [hb]
      exact ⟨_, rfl, pre.length, _, rfl⟩
    | none =>
      obtain ⟨o, h1, h2⟩ := rv_loop hcl l (pre ++ [i]) f (hp3 f0 i (frmD i.op) (kindF i.op)) (by rw [hcs]; simp) (by simp at hf; omega) rfl
      have hlen : (pre ++ [i]).length = pre.length + 1 := by simp
      rw [hlen] at h1 h2
      have hb : badF R cs.length (i :: l) pre.length = badF R cs.length l (pre.length + 1) := by simp only [badF, ho]
      rw [hb]
      exact ⟨o, h1, h2⟩

theorem rValid_spec (hk : cs.length < k + 2) (hcl : cs.length ≤ 1000000) : alembicref17_Valid.f G (k + 3) [cdV false cs R M] [] = some (ftO (validF cs R M), []) := by
  rw [alembicref17_Valid.step]
  unfold alembicref17_Valid.c cdV
  obtain ⟨o, h1, h2⟩ := rv_loop G k (alembicref17_Valid.f G (k + 2)) cs R M hcl cs [] (k + 2) [⟨29, 3, [f0]⟩] rfl hk rfl
  have lc : lenSl (.ro false (codeV cs)) = some (I6 cs.length) := by simp [lenSl, codeV_len]
  have r1 : ∀ c H, pureCall (alembicref_Bare.f G (k + 2)) [I6 c] H = _ := fun c H => pureCall_of (H := H) (Bare_spec G (k + 1) c) rfl rfl
  have r2 : ∀ H, pureCall (alembicref_None.f G (k + 2)) [] H = _ := fun H => pureCall_of (H := H) (None_spec G (k + 1)) rfl rfl
  have st : ∀ c p j x l, stS (storeV 3 (.ptr 0 1 0 0) (ftV c p j) (⟨29, 3, [.agg [x, .bool false, I6 0]]⟩ :: l)) = some (.tup [], ⟨29, 3, [ftV c p j]⟩ :: l) := fun c p j x l => rfl
  have st2 : ∀ c p j l, stS (storeV 3 (.ptr 0 1 0 0) (ftV c p j) (⟨29, 3, [f0]⟩ :: l)) = some (.tup [], ⟨29, 3, [ftV c p j]⟩ :: l) := fun c p j l => rfl
  have fin : ∀ v l, finL [loadV G true 3 (.ptr 0 1 0 0) (⟨29, 3, [ftO v]⟩ :: l)] ([] : AHeap).length (⟨29, 3, [ftO v]⟩ :: l) = some (.ret, [ftO v], []) := fun v l => by
    have : loadV G true 3 (.ptr 0 1 0 0) (⟨29, 3, [ftO v]⟩ :: l) = some (ftO v) := by cases v <;> rfl
    unfold finL
    rw [this]
    simp only [allSome]
    exact finV_zero (ftO_low v) _
  refine e_in ?_
  unfold validF
  by_cases hb : 262144 < cs.length
  · rw [if_pos hb]
    repeat' first
      | (with_reducible first | refine eT ?_ | refine eN ?_ | refine eS ?_ | refine eXn ?_ | refine eXr ?_ | refine eX ?_ | refine eI ?_ | refine eK ?_ | refine eV0 ?_ | refine eGtt ?_ | refine eGff ?_ | refine eGtf ?_ | refine eGft ?_ | refine eGno ?_)
      | ((with_reducible apply eCn); (simp only [nth_zero, nth_succ]; first | done | (with_reducible exact rfl)))
      | ((with_reducible apply eJ); (rfl))
      | ((with_reducible apply eB); (first | (with_reducible exact rfl) | (simp (disch := omega) only [qf, lc, r1, st]; first | done | (with_reducible exact rfl) | (with_reducible exact ⟨rfl, rfl⟩)) | (simp (disch := omega) only [qa, putC, AV.cells, storable, buildSt, fillA, buildRo, buildOwn, fillE, Nat.reduceLeDiff, Nat.reduceLT, Nat.reduceAdd, ↓reduceIte, lc, r1, st]; first | done | (with_reducible exact rfl) | (with_reducible exact ⟨rfl, rfl⟩))))
      | ((with_reducible apply eR); (simp only [nth_zero, nth_succ]; (with_reducible exact rfl)))
      | ((with_reducible first | refine sEql ?_ ?_ | refine sNeq ?_ ?_ | refine sLss ?_ ?_ | refine sLeq ?_ ?_ | refine sGtr ?_ ?_ | refine sGeq ?_ ?_ | refine sNot ?_ ?_ | refine sPick ?_ ?_ | refine sGd ?_ ?_ | refine eBool ?_ ?_) <;> intro hq <;> try subst hq)
    exact oF (fin (.bare 0) [])
  rw [if_neg hb]
  by_cases hr : R < 0 ∨ 65536 < R ∨ M < 0 ∨ 65536 < M
  · rw [if_pos hr]
    repeat' first
      | (with_reducible first | refine eT ?_ | refine eN ?_ | refine eS ?_ | refine eXn ?_ | refine eXr ?_ | refine eX ?_ | refine eI ?_ | refine eK ?_ | refine eV0 ?_ | refine eGtt ?_ | refine eGff ?_ | refine eGtf ?_ | refine eGft ?_ | refine eGno ?_)
      | ((with_reducible apply eCn); (simp only [nth_zero, nth_succ]; first | done | (with_reducible exact rfl)))
      | ((with_reducible apply eJ); (rfl))
      | ((with_reducible apply eB); (first | (with_reducible exact rfl) | (simp (disch := omega) only [qf, lc, r1, st]; first | done | (with_reducible exact rfl) | (with_reducible exact ⟨rfl, rfl⟩)) | (simp (disch := omega) only [qa, putC, AV.cells, storable, buildSt, fillA, buildRo, buildOwn, fillE, Nat.reduceLeDiff, Nat.reduceLT, Nat.reduceAdd, ↓reduceIte, lc, r1, st]; first | done | (with_reducible exact rfl) | (with_reducible exact ⟨rfl, rfl⟩))))
      | ((with_reducible apply eR); (simp only [nth_zero, nth_succ]; (with_reducible exact rfl)))
      | ((with_reducible first | refine sEql ?_ ?_ | refine sNeq ?_ ?_ | refine sLss ?_ ?_ | refine sLeq ?_ ?_ | refine sGtr ?_ ?_ | refine sGeq ?_ ?_ | refine sNot ?_ ?_ | refine sPick ?_ ?_ | refine sGd ?_ ?_ | refine eBool ?_ ?_) <;> intro hq <;> try subst hq)
    all_goals first | omega | exact oF (fin (.bare 0) [])
  rw [if_neg hr]
  cases hv : badF R cs.length cs 0 with
  | ok =>
    simp only [List.length_nil, hv] at h2
    rw [h2] at h1
    repeat' first
      | (with_reducible first | refine eT ?_ | refine eN ?_ | refine eS ?_ | refine eXn ?_ | refine eXr ?_ | refine eX ?_ | refine eI ?_ | refine eK ?_ | refine eV0 ?_ | refine eGtt ?_ | refine eGff ?_ | refine eGtf ?_ | refine eGft ?_ | refine eGno ?_)
      | ((with_reducible apply eCn); (simp only [nth_zero, nth_succ]; first | done | (with_reducible exact rfl)))
      | ((with_reducible apply eJ); (rfl))
      | ((with_reducible apply eL); (first | exact h1))
      | ((with_reducible apply eB); (first | (with_reducible exact rfl) | (simp (disch := omega) only [qf, lc, r2, st2]; first | done | (with_reducible exact rfl) | (with_reducible exact ⟨rfl, rfl⟩)) | (simp (disch := omega) only [qa, putC, AV.cells, storable, buildSt, fillA, buildRo, buildOwn, fillE, Nat.reduceLeDiff, Nat.reduceLT, Nat.reduceAdd, ↓reduceIte, lc, r2, st2]; first | done | (with_reducible exact rfl) | (with_reducible exact ⟨rfl, rfl⟩))))
      | ((with_reducible apply eR); (simp only [nth_zero, nth_succ]; (with_reducible exact rfl)))
      | ((with_reducible first | refine sEql ?_ ?_ | refine sNeq ?_ ?_ | refine sLss ?_ ?_ | refine sLeq ?_ ?_ | refine sGtr ?_ ?_ | refine sGeq ?_ ?_ | refine sNot ?_ ?_ | refine sPick ?_ ?_ | refine sGd ?_ ?_ | refine eBool ?_ ?_) <;> intro hq <;> try subst hq)
    all_goals first | omega | exact oF (fin .ok [])
  | bare e =>
    simp only [List.length_nil, hv] at h2
    obtain ⟨j, H', h2⟩ := h2
    rw [h2] at h1
    repeat' first
      | (with_reducible first | refine eT ?_ | refine eN ?_ | refine eS ?_ | refine eXn ?_ | refine eXr ?_ | refine eX ?_ | refine eI ?_ | refine eK ?_ | refine eV0 ?_ | refine eGtt ?_ | refine eGff ?_ | refine eGtf ?_ | refine eGft ?_ | refine eGno ?_)
      | ((with_reducible apply eCn); (simp only [nth_zero, nth_succ]; first | done | (with_reducible exact rfl)))
      | ((with_reducible apply eJ); (rfl))
      | ((with_reducible apply eL); (first | exact h1))
      | ((with_reducible apply eB); (first | (with_reducible exact rfl) | (simp (disch := omega) only [qf, lc]; first | done | (with_reducible exact rfl) | (with_reducible exact ⟨rfl, rfl⟩)) | (simp (disch := omega) only [qa, putC, AV.cells, storable, buildSt, fillA, buildRo, buildOwn, fillE, Nat.reduceLeDiff, Nat.reduceLT, Nat.reduceAdd, ↓reduceIte, lc]; first | done | (with_reducible exact rfl) | (with_reducible exact ⟨rfl, rfl⟩))))
      | ((with_reducible apply eR); (simp only [nth_zero, nth_succ]; (with_reducible exact rfl)))
      | ((with_reducible first | refine sEql ?_ ?_ | refine sNeq ?_ ?_ | refine sLss ?_ ?_ | refine sLeq ?_ ?_ | refine sGtr ?_ ?_ | refine sGeq ?_ ?_ | refine sNot ?_ ?_ | refine sPick ?_ ?_ | refine sGd ?_ ?_ | refine eBool ?_ ?_) <;> intro hq <;> try subst hq)
    all_goals first | omega | exact oF (fin (.bare e) H')
  | at_ j e =>
    simp only [List.length_nil, hv] at h2
    obtain ⟨j', H', h2⟩ := h2
    rw [h2] at h1
    repeat' first
      | (with_reducible first | refine eT ?_ | refine eN ?_ | refine eS ?_ | refine eXn ?_ | refine eXr ?_ | refine eX ?_ | refine eI ?_ | refine eK ?_ | refine eV0 ?_ | refine eGtt ?_ | refine eGff ?_ | refine eGtf ?_ | refine eGft ?_ | refine eGno ?_)
      | ((with_reducible apply eCn); (simp only [nth_zero, nth_succ]; first | done | (with_reducible exact rfl)))
      | ((with_reducible apply eJ); (rfl))
      | ((with_reducible apply eL); (first | exact h1))
      | ((with_reducible apply eB); (first | (with_reducible exact rfl) | (simp (disch := omega) only [qf, lc]; first | done | (with_reducible exact rfl) | (with_reducible exact ⟨rfl, rfl⟩)) | (simp (disch := omega) only [qa, putC, AV.cells, storable, buildSt, fillA, buildRo, buildOwn, fillE, Nat.reduceLeDiff, Nat.reduceLT, Nat.reduceAdd, ↓reduceIte, lc]; first | done | (with_reducible exact rfl) | (with_reducible exact ⟨rfl, rfl⟩))))
      | ((with_reducible apply eR); (simp only [nth_zero, nth_succ]; (with_reducible exact rfl)))
      | ((with_reducible first | refine sEql ?_ ?_ | refine sNeq ?_ ?_ | refine sLss ?_ ?_ | refine sLeq ?_ ?_ | refine sGtr ?_ ?_ | refine sGeq ?_ ?_ | refine sNot ?_ ?_ | refine sPick ?_ ?_ | refine sGd ?_ ?_ | refine eBool ?_ ?_) <;> intro hq <;> try subst hq)
    all_goals first | omega | exact oF (fin (.at_ j e) H')
end

/-- The sentinels, all of them. -/
abbrev GA : Globs := sentG 154 [2, 1, 0, 3, 6, 4, 7, 8, 5, 9, 10, 11, 12, 13]
theorem GA_ok : GOk GA := ⟨rfl, rfl, rfl, rfl, rfl, rfl⟩

theorem fault_bare (k : Nat) (e : Nat) (he : e < 6) : alembicsee_Fault.f GA (k + 40) [eV e] [] = some (ftV (codE e) false 0, []) := by
  have : e = 0 ∨ e = 1 ∨ e = 2 ∨ e = 3 ∨ e = 4 ∨ e = 5 := by omega
  clear he
  rcases this with rfl | rfl | rfl | rfl | rfl | rfl <;> (show _ = _; kernel_rfl)
theorem fault_at (k : Nat) (j e : Nat) (he : e < 6) : alembicsee_Fault.f GA (k + 40) [.iface 89 (.rp false (.agg [Nn j, eV e]) 0)] [] = some (ftV (codE e) true j, []) := by
  have : e = 0 ∨ e = 1 ∨ e = 2 ∨ e = 3 ∨ e = 4 ∨ e = 5 := by omega
  clear he
  rcases this with rfl | rfl | rfl | rfl | rfl | rfl <;> (show _ = _; kernel_rfl)
theorem fault_ok (k : Nat) : alembicsee_Fault.f GA (k + 40) [.nili] [] = some (ftV 0 false 0, []) := by kernel_rfl

def VE.low : VE → Prop
  | .ok => True
  | .bare e => e < 6
  | .at_ j e => e < 6
theorem fault_spec (k : Nat) (v : VE) (hv : v.low) : alembicsee_Fault.f GA (k + 40) [veV v] [] = some (ftO v, []) := by
  cases v with
  | ok => exact fault_ok k
  | bare e => exact fault_bare k e hv
  | at_ j e => exact fault_at k j e hv

theorem SameFault_self (G : Globs) (k : Nat) (v : VE) : alembicref_SameFault.f G (k + 1) [ftO v, ftO v] [] = some (.bool true, []) := by
  have : ∃ c p j, ftO v = ftV c p j := by cases v <;> exact ⟨_, _, _, rfl⟩
  obtain ⟨c, p, j, e⟩ := this
  rw [e]
  rw [alembicref_SameFault.step]
  unfold alembicref_SameFault.c ftV
  have q : bin Tryd.prog .eql 4 false (.bool p) (.bool p) = some (.bool true) := by rw [bin_eql_bool Tryd.underlying4]; simp
  refine e_in ?_
  repeat' first
    | (with_reducible first | refine eT ?_ | refine eN ?_ | refine eS ?_ | refine eXn ?_ | refine eXr ?_ | refine eX ?_ | refine eI ?_ | refine eK ?_ | refine eV0 ?_ | refine eGtt ?_ | refine eGff ?_ | refine eGtf ?_ | refine eGft ?_ | refine eGno ?_)
    | ((with_reducible apply eCn); (simp only [nth_zero, nth_succ]; first | done | (with_reducible exact rfl)))
    | ((with_reducible apply eJ); (rfl))
    | ((with_reducible apply eB); (first | (with_reducible exact rfl) | (simp (disch := omega) only [qf, q]; first | done | (with_reducible exact rfl) | (with_reducible exact ⟨rfl, rfl⟩)) | (simp (disch := omega) only [qa, putC, AV.cells, storable, buildSt, fillA, buildRo, buildOwn, fillE, Nat.reduceLeDiff, Nat.reduceLT, Nat.reduceAdd, ↓reduceIte, q]; first | done | (with_reducible exact rfl) | (with_reducible exact ⟨rfl, rfl⟩))))
    | ((with_reducible apply eR); (simp only [nth_zero, nth_succ]; (with_reducible exact rfl)))
    | ((with_reducible first | refine sEql ?_ ?_ | refine sNeq ?_ ?_ | refine sLss ?_ ?_ | refine sLeq ?_ ?_ | refine sGtr ?_ ?_ | refine sGeq ?_ ?_ | refine sNot ?_ ?_ | refine sPick ?_ ?_ | refine sGd ?_ ?_ | refine eBool ?_ ?_) <;> intro hq <;> try subst hq)
  exact w1b rfl

/-- The program's error is the document's. -/
theorem see_same (k : Nat) (v : VE) (hv : v.low) : alembicsee_Same.f GA (k + 41) [veV v, ftO v] [] = some (.bool true, []) := by
  rw [alembicsee_Same.step]
  unfold alembicsee_Same.c
  have r1 : ∀ H, pureCall (alembicsee_Fault.f GA (k + 40)) [veV v] H = _ := fun H => pureCall_of (H := H) (fault_spec k v hv) (by simp [plainL, veV_plain]) (ftO_clean v)
  have r2 : ∀ H, pureCall (alembicref_SameFault.f GA (k + 40)) [ftO v, ftO v] H = _ := fun H => pureCall_of (H := H) (SameFault_self GA (k + 39) v) (by simp [plainL, ftO_plain]) rfl
  have b1 : ∀ H, boxRoA (ftO v) H = some (.rp false (ftO v) 0, H) := fun H => by cases v <;> rfl
  have ld : ∀ H, loadV GA true 3 (.rp false (ftO v) 0) H = some (ftO v) := fun H => by cases v <;> rfl
  refine e_in ?_
  repeat' first
    | (with_reducible first | refine eT ?_ | refine eN ?_ | refine eS ?_ | refine eXn ?_ | refine eXr ?_ | refine eX ?_ | refine eI ?_ | refine eK ?_ | refine eV0 ?_ | refine eGtt ?_ | refine eGff ?_ | refine eGtf ?_ | refine eGft ?_ | refine eGno ?_)
    | ((with_reducible apply eCn); (simp only [nth_zero, nth_succ]; first | done | (with_reducible exact rfl)))
    | ((with_reducible apply eJ); (rfl))
    | ((with_reducible apply eB); (first | (with_reducible exact rfl) | (simp (disch := omega) only [qf, r1, r2, b1, ld]; first | done | (with_reducible exact rfl) | (with_reducible exact ⟨rfl, rfl⟩)) | (simp (disch := omega) only [qa, putC, AV.cells, storable, buildSt, fillA, buildRo, buildOwn, fillE, Nat.reduceLeDiff, Nat.reduceLT, Nat.reduceAdd, ↓reduceIte, r1, r2, b1, ld]; first | done | (with_reducible exact rfl) | (with_reducible exact ⟨rfl, rfl⟩))))
    | ((with_reducible apply eR); (simp only [nth_zero, nth_succ]; (with_reducible exact rfl)))
    | ((with_reducible first | refine sEql ?_ ?_ | refine sNeq ?_ ?_ | refine sLss ?_ ?_ | refine sLeq ?_ ?_ | refine sGtr ?_ ?_ | refine sGeq ?_ ?_ | refine sNot ?_ ?_ | refine sPick ?_ ?_ | refine sGd ?_ ?_ | refine eBool ?_ ?_) <;> intro hq <;> try subst hq)
  exact w1b rfl

theorem oneF_low {i : Ins} {R n : Int} {e : Nat} (h : oneF i R n = some e) : e < 6 := by
  unfold oneF at h
  repeat' split at h
  all_goals (first | (cases h; done) | (simp at h; omega))
theorem badF_low {R n : Int} : ∀ {l : List Ins} {j : Nat}, (badF R n l j).low
  | [], _ => trivial
  | x :: l, j => by
    unfold badF
    split
    · rename_i e ho; exact oneF_low ho
    · exact badF_low
theorem validF_low (cs : List Ins) (R M : Int) : (validF cs R M).low := by
  unfold validF
  split
  · show (0 : Nat) < 6; omega
  · split
    · show (0 : Nat) < 6; omega
    · exact badF_low
end Go.Proofs.YtcmblhedhgiofaaDoor.Mir
