/- A run of words: from its beginning to its end. -/
import Derived.Test.YtcmblhedhgiofaaDoorWd
import Derived.Test.YtcmblhedhgiofaaDoorMirZB
namespace Go.Proofs.YtcmblhedhgiofaaDoor.Mir
open Go
set_option linter.unusedVariables false
set_option linter.unusedSimpArgs false
set_option maxHeartbeats 4000000

/-- A run ends. -/
theorem runM_some (cs : List Ins) (fuel : Int) : ∀ (f : Nat) (s : MS), (s.steps : Int) ≤ fuel → fuel - s.steps < f → ∃ s', runM cs fuel f s = some s'
  | 0, s, h, h2 => by omega
  | f + 1, s, h, h2 => by
    simp only [runM]
    by_cases h1 : cs.length ≤ s.at_
    · rw [if_pos h1]; exact ⟨_, rfl⟩
    rw [if_neg h1]
    by_cases h3 : (s.steps : Int) = fuel
    · rw [if_pos h3]; exact ⟨_, rfl⟩
    rw [if_neg h3]
    have e : ∀ i, (s.tick.step i).1.steps = s.steps + 1 := fun i => by
      unfold MS.step MS.touch MS.branch
      simp only
      repeat' split
      all_goals rfl
    have e' := e (cs.getD s.at_ default)
    obtain ⟨s2, b, hsb⟩ : ∃ s2 b, s.tick.step (cs.getD s.at_ default) = (s2, b) := ⟨_, _, rfl⟩
    rw [hsb] at e' ⊢
    cases b
    · exact ⟨_, rfl⟩
    · exact runM_some cs fuel f s2 (by simp only at e'; omega) (by simp only at e'; omega)

def s0 (R : Nat) (mem : List Nat) : MS := ⟨List.replicate R 0, 0, 0, mem, [], 0⟩
theorem s0_ok (R : Nat) (mem : List Nat) (hm : ∀ x ∈ mem, x < 18446744073709551616) (hl : mem.length ≤ 1000000) : (s0 R mem).Ok R :=
  ⟨by simp [s0], fun x hx => by simp [s0] at hx; omega, hm, by simp [s0], hl, by simp [s0]⟩

theorem allSz_U (l : List Nat) : allSz 1 (natsU l) = true := allSz_map 1 _ (fun _ => rfl) l
theorem allSz_L (l : List (Int × Int)) : allSz 2 (leaksV l) = true := allSz_map 2 _ (fun _ => rfl) l
theorem allSz_C (l : List Ins) : allSz 6 (codeV l) = true := allSz_map 6 _ (fun _ => rfl) l
theorem plainU (l : List Nat) : plainL (natsU l) = true := plainL_map _ (fun _ => rfl) l
theorem plainLk (l : List (Int × Int)) : plainL (leaksV l) = true := plainL_map _ (fun _ => rfl) l
theorem plainC (l : List Ins) : plainL (codeV l) = true := plainL_map _ (fun _ => rfl) l
theorem cleanU (l : List Nat) : cleanL (natsU l) = true := cleanL_map _ (fun _ => rfl) l
theorem cleanLk (l : List (Int × Int)) : cleanL (leaksV l) = true := cleanL_map _ (fun _ => rfl) l
theorem cleanC (l : List Ins) : cleanL (codeV l) = true := cleanL_map _ (fun _ => rfl) l

/-- What a run gives. -/
def endV (s : MS) : AV := .agg [I6 s.code, .ro false (natsU s.mem), .ro false (leaksV s.leaks), Nn s.steps]
theorem endV_clean (s : MS) : cleanB (endV s) = true := by simp [endV, cleanB, cleanL, cleanU, cleanLk]

/-- A code. -/
def cdV (bor : Bool) (cs : List Ins) (R M : Int) : AV := .agg [.ro bor (codeV cs), I6 R, I6 M]

/-- The heap ahead of a clone, and behind it. -/
def hpC (p0 : ABlk) (bor : Bool) (cs : List Ins) (R : Nat) (M : Int) : AHeap :=
  [p0, ⟨40, 4, [.agg [.int .i64 0, .nils, .nils, .int .i64 0]]⟩, ⟨48, 1, natsU (List.replicate R 0)⟩,
   ⟨126, 9, [.agg [.ro bor (codeV cs), I6 R, I6 M, .sl 2 R 0 R 1, .int .i64 0, .int .i64 0, .nils, .nils, .int .i64 0]]⟩]

theorem clone_spec (G : Globs) (k : Nat) (H : AHeap) (hH : eqHp H H = true) (bm : Bool) (mem : List Nat) (hl : mem.length ≤ 1000000) :
    slices_Clone___uint64uint64_.f G (k + 1) [.ro bm (natsU mem)] H = some (.sl (H.length + 1) mem.length 0 mem.length 1, H ++ [⟨48, 1, []⟩, ⟨48, 1, natsU mem⟩]) := by
  rw [slices_Clone___uint64uint64_.step]
  unfold slices_Clone___uint64uint64_.c
  have e1 : buildOwn 48 1 0 (.int .u64 0) [] (H ++ [⟨48, 1, []⟩]) = some (.sl (H.length + 1) 0 0 0 1, H ++ [⟨48, 1, []⟩, ⟨48, 1, []⟩]) := by
    simp [buildOwn, fillE]
  have e2 : appendV 48 1 (.sl (H.length + 1) 0 0 0 1) (.ro bm (natsU mem)) (H ++ [⟨48, 1, []⟩, ⟨48, 1, []⟩]) = some (.sl (H.length + 1) mem.length 0 mem.length 1, H ++ [⟨48, 1, []⟩, ⟨48, 1, natsU mem⟩]) := by
    have g : (H ++ [⟨48, 1, []⟩, ⟨48, 1, []⟩] : AHeap)[H.length + 1]? = some ⟨48, 1, []⟩ := by
      rw [List.getElem?_append_right (by omega)]; simp
    unfold appendV
    simp only [g, elemsOf, allSz_U, natsU_len, List.length_nil, List.take_nil, List.nil_append, List.drop_nil, List.append_nil, Nat.zero_add]
    rw [if_pos (by refine ⟨?_, ?_, ?_, ?_, ?_⟩ <;> first | trivial | omega)]
    simp [List.set_append_right]
  refine e_in ?_
  cases mem with
  | nil =>
    have q : bin Tryd.prog .eql 25 true (.ro bm (natsU [])) .nils = some .anyb := by kernel_rfl
    repeat first
      | (with_reducible first | refine eT ?_ | refine eN ?_ | refine eS ?_ | refine eXn ?_ | refine eXr ?_ | refine eX ?_ | refine eI ?_ | refine eK ?_ | refine eV0 ?_ | refine eGtt ?_ | refine eGff ?_ | refine eGtf ?_ | refine eGft ?_ | refine eGno ?_)
      | ((with_reducible apply eCn); (simp only [nth_zero, nth_succ]; first | done | (with_reducible exact rfl)))
      | ((with_reducible apply eJ); (rfl))
      | ((with_reducible apply eB); (first | (with_reducible exact rfl) | (simp (disch := omega) only [qf, q]; first | done | (with_reducible exact rfl) | (with_reducible exact ⟨rfl, rfl⟩)) | (simp (disch := omega) only [qa, putC, AV.cells, storable, buildSt, fillA, buildRo, buildOwn, fillE, Nat.reduceLeDiff, Nat.reduceLT, Nat.reduceAdd, ↓reduceIte, q]; first | done | (with_reducible exact rfl) | (with_reducible exact ⟨rfl, rfl⟩))))
      | ((with_reducible apply eR); (simp only [nth_zero, nth_succ]; (with_reducible exact rfl)))
    have hh : eqHp (H ++ [⟨48, 1, []⟩, ⟨48, 1, []⟩]) (H ++ [⟨48, 1, []⟩, ⟨48, 1, []⟩]) = true := eqHp_app hH (by simp [eqHp, eqAL])
    have e3 : (H ++ [⟨48, 1, []⟩] ++ [⟨48, 1, []⟩] : AHeap) = H ++ [⟨48, 1, []⟩, ⟨48, 1, []⟩] := by simp
    have e4 : (H ++ [⟨48, 1, []⟩] : AHeap).length = H.length + 1 := by simp
    have e5 : appendV 48 1 (.sl (H.length + 1) 0 0 0 1) (.ro bm (natsU [])) (H ++ [⟨48, 1, []⟩, ⟨48, 1, []⟩]) = some (.sl (H.length + 1) 0 0 0 1, H ++ [⟨48, 1, []⟩, ⟨48, 1, []⟩]) := e2
    rw [e3, e4]
    refine eAny (e := .ret) (xs := [.sl (H.length + 1) 0 0 0 1]) rfl ?_ (by simp [eqAL, eqAV]) hh rfl
    refine e_id ?_
    repeat first
      | (with_reducible first | refine eT ?_ | refine eN ?_ | refine eS ?_ | refine eXn ?_ | refine eXr ?_ | refine eX ?_ | refine eI ?_ | refine eK ?_ | refine eV0 ?_ | refine eGtt ?_ | refine eGff ?_ | refine eGtf ?_ | refine eGft ?_ | refine eGno ?_)
      | ((with_reducible apply eCn); (simp only [nth_zero, nth_succ]; first | done | (with_reducible exact rfl)))
      | ((with_reducible apply eJ); (rfl))
      | ((with_reducible apply eB); (first | (with_reducible exact rfl) | (simp (disch := omega) only [qf, e1, e5]; first | done | (with_reducible exact rfl) | (with_reducible exact ⟨rfl, rfl⟩)) | (simp (disch := omega) only [qa, putC, AV.cells, storable, buildSt, fillA, buildRo, buildOwn, fillE, Nat.reduceLeDiff, Nat.reduceLT, Nat.reduceAdd, ↓reduceIte, e1, e5]; first | done | (with_reducible exact rfl) | (with_reducible exact ⟨rfl, rfl⟩))))
      | ((with_reducible apply eR); (simp only [nth_zero, nth_succ]; (with_reducible exact rfl)))
    rfl
  | cons a l =>
    have q : bin Tryd.prog .eql 25 true (.ro bm (natsU (a :: l))) .nils = some (.bool false) := by kernel_rfl
    repeat first
      | (with_reducible first | refine eT ?_ | refine eN ?_ | refine eS ?_ | refine eXn ?_ | refine eXr ?_ | refine eX ?_ | refine eI ?_ | refine eK ?_ | refine eV0 ?_ | refine eGtt ?_ | refine eGff ?_ | refine eGtf ?_ | refine eGft ?_ | refine eGno ?_)
      | ((with_reducible apply eCn); (simp only [nth_zero, nth_succ]; first | done | (with_reducible exact rfl)))
      | ((with_reducible apply eJ); (rfl))
      | ((with_reducible apply eB); (first | (with_reducible exact rfl) | (simp (disch := omega) only [qf, q, e1, e2]; first | done | (with_reducible exact rfl) | (with_reducible exact ⟨rfl, rfl⟩)) | (simp (disch := omega) only [qa, putC, AV.cells, storable, buildSt, fillA, buildRo, buildOwn, fillE, Nat.reduceLeDiff, Nat.reduceLT, Nat.reduceAdd, ↓reduceIte, q, e1, e2]; first | done | (with_reducible exact rfl) | (with_reducible exact ⟨rfl, rfl⟩))))
      | ((with_reducible apply eR); (simp only [nth_zero, nth_succ]; (with_reducible exact rfl)))
    rfl

theorem eqU (l : List Nat) : eqAL (natsU l) (natsU l) = true := eqAL_map _ (fun _ => by simp [eqAV]) l
theorem eqC (l : List Ins) : eqAL (codeV l) (codeV l) = true := eqAL_map _ (fun _ => by simp [Ins.v, instV, eqAV, eqAL]) l

theorem hpC_self {p0 : ABlk} (hq : eqAL p0.elems p0.elems = true) (bor : Bool) (cs : List Ins) (R : Nat) (M : Int) : eqHp (hpC p0 bor cs R M) (hpC p0 bor cs R M) = true := by
  simp [hpC, eqHp, eqAL, eqAV, hq, eqU, eqC]

/-- The run of a right program. -/
theorem watch_spec (G : Globs) (k : Nat) (p0 : ABlk) (hp : belowL 1 p0.elems = true) (hq : eqAL p0.elems p0.elems = true) (bor bm : Bool) (cs : List Ins) (R : Nat) (M : Int) (fuel : Int) (mem : List Nat)
    (hR : R ≤ 1000000) (hm : ∀ x ∈ mem, x < 18446744073709551616) (hml : mem.length ≤ 1000000) (h0 : 0 ≤ fuel) (hf : fuel ≤ 99999) (hk : fuel < k + 4) (hcl : cs.length ≤ 100000) (hcs : ∀ j, j < cs.length → (cs.getD j default).Ok R cs.length) :
    ∃ s', runM cs fuel (k + 4) (s0 R mem) = some s' ∧ words_Watch.f G (k + 5) [cdV bor cs R M, .ro bm (natsU mem), I6 fuel, .nilf] [p0] = some (endV s', [p0]) := by
  obtain ⟨s', hs⟩ := runM_some cs fuel (k + 4) (s0 R mem) (by simp only [s0]; omega) (by simp only [s0]; omega)
  refine ⟨s', hs, ?_⟩
  rw [words_Watch.step]
  unfold words_Watch.c
  have hp7 : belowL 7 p0.elems = true := belowL_mono (by omega) hp
  have loop := watch_loop G p0 hp7 bor false cs R M fuel (words_Watch.f G (k + 4)) k hf hcl hcs (k + 4) (s0 R mem) s' hs (s0_ok R mem hm hml) (by simp [s0]) (by simp only [s0]; omega)
  have c5 : makeSliceV 48 1 (.int .u64 0) (I6 R) (I6 R) [p0, ⟨40, 4, [.agg [.int .i64 0, .nils, .nils, .int .i64 0]]⟩] = some (.sl 2 R 0 R 1, [p0, ⟨40, 4, [.agg [.int .i64 0, .nils, .nils, .int .i64 0]]⟩, ⟨48, 1, natsU (List.replicate R 0)⟩]) := by
    unfold makeSliceV
    have : (0 : Int) ≤ R ∧ (R : Int) ≤ R ∧ (R : Int) ≤ 1099511627776 := by omega
    simp only [this, and_self, if_true, Int.toNat_natCast, natsU, List.map_replicate]
    rfl
  have c8 := heapCall_of (clone_spec G (k + 3) (hpC p0 bor cs R M) (hpC_self hq bor cs R M) bm mem hml) (by simp)
  have e8 : (hpC p0 bor cs R M).length + 1 = 5 := rfl
  rw [e8] at c8
  refine e_in ?_
  unfold cdV
  have e9 : (hpC p0 bor cs R M ++ [⟨48, 1, []⟩, ⟨48, 1, natsU mem⟩] : AHeap) = [p0, ⟨40, 4, [.agg [.int .i64 0, .nils, .nils, .int .i64 0]]⟩, ⟨48, 1, natsU (List.replicate R 0)⟩,
   ⟨126, 9, [.agg [.ro bor (codeV cs), I6 R, I6 M, .sl 2 R 0 R 1, .int .i64 0, .int .i64 0, .nils, .nils, .int .i64 0]]⟩, ⟨48, 1, []⟩, ⟨48, 1, natsU mem⟩] := rfl
  rw [e9] at c8
  unfold hpC at c8
  repeat first
    | (with_reducible first | refine eT ?_ | refine eN ?_ | refine eS ?_ | refine eXn ?_ | refine eXr ?_ | refine eX ?_ | refine eI ?_ | refine eK ?_ | refine eV0 ?_ | refine eGtt ?_ | refine eGff ?_ | refine eGtf ?_ | refine eGft ?_ | refine eGno ?_)
    | ((with_reducible apply eCn); (simp only [nth_zero, nth_succ]; first | done | (with_reducible exact rfl)))
    | ((with_reducible apply eJ); (rfl))
    | ((with_reducible apply eB); (first | (with_reducible exact rfl) | (simp (disch := omega) only [qf, c5, c8]; first | done | (with_reducible exact rfl) | (with_reducible exact ⟨rfl, rfl⟩)) | (simp (disch := omega) only [qa, putC, AV.cells, storable, buildSt, fillA, buildRo, buildOwn, fillE, Nat.reduceLeDiff, Nat.reduceLT, Nat.reduceAdd, ↓reduceIte, c5, c8]; first | done | (with_reducible exact rfl) | (with_reducible exact ⟨rfl, rfl⟩))))
    | ((with_reducible apply eR); (simp only [nth_zero, nth_succ]; (with_reducible exact rfl)))
  refine eV1 (H1 := hpM p0 bor cs R M (s0 R mem)) (by simp only [hpM, s0, List.length_replicate]; rfl) ?_
  have e7 : (hpM p0 bor cs (R : Int) M (s0 R mem)).length = 7 := rfl
  have hl : loadV G true 4 (.ptr 1 1 0 0) (hpE p0 bor cs R M s') = some (resV s') := rfl
  have fin : finL [loadV G true 4 (.ptr 1 1 0 0) (hpE p0 bor cs R M s')] 1 (hpE p0 bor cs R M s') = some (.ret, [endV s'], [p0]) := by
    have f1 := frz_sl (H := hpE p0 bor cs R M s') (b := 5) (n0 := 1) (d := 4) (ty := 48) rfl (by omega) (natsU_len s'.mem) (allSz_U _) (natsU_below 1 _)
    have f2 := frz_sl (H := hpE p0 bor cs R M s') (b := 6) (n0 := 1) (d := 4) (ty := 96) rfl (by omega) (leaksV_len s'.leaks) (allSz_L _) (leaksV_below 1 _)
    have f3 : frz (hpE p0 bor cs R M s') 1 6 (resV s') = some (endV s') :=
      frz_agg (by simp [belowL, belowB]) (mapO_cons (frz_low rfl 5) (mapO_cons f1 (mapO_cons f2 (mapO_cons (frz_low rfl 5) mapO_nil))))
    unfold finL
    rw [hl]
    simp only [allSome]
    exact finV_at f3 (by show heapBelow 1 [p0] = true; simp [heapBelow, hp])
  simp only [xsM] at loop
  have e1 : ([p0] : AHeap).length = 1 := rfl
  simp only [e1]
  refine eV0 ?_
  rw [e7]
  refine eK ?_
  refine eL loop ?_
  repeat first
    | (with_reducible first | refine eT ?_ | refine eN ?_ | refine eS ?_ | refine eXn ?_ | refine eXr ?_ | refine eX ?_ | refine eI ?_ | refine eK ?_ | refine eV0 ?_ | refine eGtt ?_ | refine eGff ?_ | refine eGtf ?_ | refine eGft ?_ | refine eGno ?_)
    | ((with_reducible apply eCn); (simp only [nth_zero, nth_succ]; first | done | (with_reducible exact rfl)))
    | ((with_reducible apply eJ); (rfl))
    | ((with_reducible apply eB); (first | (with_reducible exact rfl) | (simp (disch := omega) only [qf, hl]; first | done | (with_reducible exact rfl) | (with_reducible exact ⟨rfl, rfl⟩)) | (simp (disch := omega) only [qa, putC, AV.cells, storable, buildSt, fillA, buildRo, buildOwn, fillE, Nat.reduceLeDiff, Nat.reduceLT, Nat.reduceAdd, ↓reduceIte, hl]; first | done | (with_reducible exact rfl) | (with_reducible exact ⟨rfl, rfl⟩))))
    | ((with_reducible apply eR); (simp only [nth_zero, nth_succ]; (with_reducible exact rfl)))
  exact oF fin
end Go.Proofs.YtcmblhedhgiofaaDoor.Mir
