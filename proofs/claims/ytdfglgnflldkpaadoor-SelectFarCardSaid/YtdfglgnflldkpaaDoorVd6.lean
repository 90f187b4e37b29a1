/- Printed by rowgen.py: the row of SelectFar, out of its law in plain Lean. -/
import Derived.Test.YtdfglgnflldkpaaDoorVd5
import Derived.KernelRfl
import Derived.Test.YtdfglgnflldkpaaDoorTie
import Derived.Test.YtdfglgnflldkpaaDoorCards
import Derived.SevenTiedAt
namespace Go.Proofs.YtdfglgnflldkpaaDoor.Mir
open Go
set_option linter.unusedVariables false
set_option linter.unusedSimpArgs false
set_option maxHeartbeats 8000000
set_option maxRecDepth 20000
theorem fin2_at {x y z : AV} {H : AHeap} (h : frz H 0 6 (.tup [x, y]) = some z) : finV [x, y] 0 H = some (.ret, [z], []) := by
  have hc : cutH 0 [] H = some [] := by
    unfold cutH
    rw [List.take_zero]; rfl
  unfold finV packR
  simp only [h, hc]
def k00 : KS := ⟨[], [], []⟩
theorem fixes_len : ∀ (l : List (Nat × Int)) (s : KS), (KS.fixes l s).out.length = s.out.length
  | [], s => rfl
  | p :: l, s => by
    have : (s.fix p).out.length = s.out.length := by simp [KS.fix]
    rw [← this]; exact fixes_len l (s.fix p)
theorem Select_ok (G : Globs) (k : Nat) (ws : List WI) (r m : Int) (hv : words_Valid.f G (k + 11) [cV false ws r m] [] = some (.nili, [])) (hr : r ≤ 28) (hw : ∀ w ∈ ws, 1 ≤ w.op ∧ w.op ≤ 20) (hl : ws.length ≤ 10000) (hlk : ws.length < k)
    (s0 : KS) (hs0 : s0 = (KS.run ws.length ws k00).mark) (s1 : KS) (hs1 : s1 = KS.fixes s0.jumps s0)
    (hJ : s0.jumps.length ≤ 900000) (hJk : s0.jumps.length < k) (hp : ∀ p ∈ s0.jumps, p.1 < s0.out.length ∧ 0 ≤ p.2 ∧ p.2 < s0.place.length) (hq : ∀ q ∈ s0.place, q ≤ 900000) (hP : s0.place.length ≤ 900000) (hO : s0.out.length ≤ 262144) (hOk : s0.out.length < k) (hright : ∀ i ∈ s1.out, rightB i = true) :
    sel_Select.f G (k + 12) [cV false ws r m] [] = some (.tup [.ro false (codeW (s1.out.map wordF)), .nili], []) := by
  rw [sel_Select.step]
  unfold sel_Select.c
  have plC : plainL (wInsts ws) = true := plainL_map _ (fun _ => rfl) ws
  have c0 : ∀ H, boxRoA (cV false ws r m) H = some (.rp false (cV false ws r m) 0, H) := fun H => rfl
  have c1 : ∀ H, loadV G true 3 (.rp false (cV false ws r m) 0) H = some (cV false ws r m) := fun H => rfl
  have v0 : ∀ H, pureCall (words_Valid.f G (k + 11)) [cV false ws r m] H = _ := fun H => pureCall_of (H := H) hv (by simp [cV, plainL, plainB, plC]) rfl
  have e1 : bin Tryd.prog .neq 30 true .nili .nili = some (.bool false) := by kernel_rfl
  have c2 : fieldAddrV 1 (.rp false (cV false ws r m) 0) = some (.rp false (cV false ws r m) 1) := rfl
  have c3 : ∀ H, loadV G false 1 (.rp false (cV false ws r m) 1) H = some (I6 r) := fun H => rfl
  have c4 : ∀ H, loadV G false 1 (.rp false (cV false ws r m) 0) H = some (.ro false (wInsts ws)) := fun H => rfl
  have cf : fieldAddrV 0 (.rp false (cV false ws r m) 0) = some (.rp false (cV false ws r m) 0) := rfl
  have e2 : bin Tryd.prog .gtr 3 true (I6 r) (.int .i64 28) = some (.bool false) := q_gtr_f (by omega)
  have lw : lenSl (.ro false (wInsts ws)) = some (Nn ws.length) := by simp [lenSl, wInsts_len]
  have bx : boxA 90 (.agg [.nils, .nils, .nils]) [⟨71, 1, []⟩] = some (.ptr 1 1 0 0, [⟨71, 1, []⟩, ⟨90, 3, [.agg [.nils, .nils, .nils]]⟩]) := rfl
  have v1 : virt1 (.ptr 1 1 0 0, 0, 57, 6) [⟨71, 1, []⟩, ⟨90, 3, [.agg [.nils, .nils, .nils]]⟩] = [⟨71, 1, []⟩, ⟨90, 3, [.agg [.sl 2 0 0 0 6, .nils, .nils]]⟩, ⟨57, 6, []⟩] := rfl
  have v2 : virt1 (.ptr 1 1 0 0, 1, 3, 1) [⟨71, 1, []⟩, ⟨90, 3, [.agg [.sl 2 0 0 0 6, .nils, .nils]]⟩, ⟨57, 6, []⟩] = [⟨71, 1, []⟩, ⟨90, 3, [.agg [.sl 2 0 0 0 6, .sl 3 0 0 0 1, .nils]]⟩, ⟨57, 6, []⟩, ⟨3, 1, []⟩] := rfl
  have v3 : virt1 (.ptr 1 1 0 0, 2, 93, 2) [⟨71, 1, []⟩, ⟨90, 3, [.agg [.sl 2 0 0 0 6, .sl 3 0 0 0 1, .nils]]⟩, ⟨57, 6, []⟩, ⟨3, 1, []⟩] = hpB k00 [] := rfl
  have lp1 := l8_loop G k (sel_Select.f G (k + 11)) false ws r m hw hl ws.length 0 (k + 11) k00 [] (by omega) (by omega) (by show 0 + 10 * ws.length ≤ 800000; omega) (by show 0 + ws.length ≤ 800000; omega) (by show 0 + ws.length ≤ 800000; omega)
  rw [List.drop_zero] at lp1
  obtain ⟨s, hs⟩ : ∃ s, s = KS.run ws.length ws k00 := ⟨_, rfl⟩
  rw [← hs] at lp1 hs0
  have hm3 : s0.place.length = s.place.length + 1 := by rw [hs0]; simp [KS.mark]
  have hmo : s0.out = s.out := by rw [hs0]; rfl
  have l0 := bl0 G s []
  have l1 := bl1 G s []
  have lc : lenSl (.sl 2 s.out.length 0 s.out.length 6) = some (Nn s.out.length) := rfl
  have br : ∀ H, buildRo 1 1 (.int .i64 0) [(0, Nn s.out.length)] H = some (.ro false [Nn s.out.length], H) := fun H => rfl
  have a1 : appendV 3 1 (.sl 3 s.place.length 0 s.place.length 1) (.ro false [Nn s.out.length]) (hpB s []) = some (.sl 3 s0.place.length 0 s0.place.length 1, (hpB s []).set 3 ⟨3, 1, natsI s0.place⟩) := by
    have e : (hpB s [])[3]? = some ⟨3, 1, natsI s.place⟩ := rfl
    unfold appendV
    simp only [e, elemsOf, natsI_len, List.length_singleton]
    rw [if_pos (by refine ⟨?_, ?_, ?_, ?_, ?_⟩ <;> first | trivial | rfl | omega)]
    have e2 : (natsI s.place).take s.place.length = natsI s.place := List.take_of_length_le (by rw [natsI_len]; exact Nat.le_refl _)
    have e3 : (natsI s.place).drop (s.place.length + 1) = [] := List.drop_of_length_le (by rw [natsI_len]; omega)
    have e4 : natsI s.place ++ [Nn s.out.length] = natsI s0.place := by rw [hs0]; simp [natsI, KS.mark]
    rw [e2, e3, List.append_nil, e4, natsI_len, hm3]
  have s1_ : stS (storeV 1 (.ptr 1 1 0 1) (.sl 3 s0.place.length 0 s0.place.length 1) ((hpB s []).set 3 ⟨3, 1, natsI s0.place⟩)) = some (.tup [], hpB s0 []) := by
    rw [hs0]; rfl
  have l2 := bl2 G s0 []
  have lj : lenSl (.sl 4 s0.jumps.length 0 s0.jumps.length 2) = some (Nn s0.jumps.length) := rfl
  have lp2 := l15_loop G (k + 11) (sel_Select.f G (k + 11)) s0.jumps.length 0 (k + 11) s0 [] (by omega) (by omega) hJ hp hq (by omega)
  rw [List.drop_zero, ← hs1] at lp2
  have ho1 : s1.out.length = s0.out.length := by rw [hs1]; exact fixes_len _ _
  have m0 := bl0 G s1 []
  have m0' := bl0 G s1 [bW []]
  have lo : lenSl (.sl 2 s1.out.length 0 s1.out.length 6) = some (Nn s1.out.length) := rfl
  have g1 : bin Tryd.prog .gtr 3 true (Nn s1.out.length) (.int .i64 262144) = some (.bool false) := q_gtr_f (by omega)
  have ap : hpB s1 [] ++ [⟨71, 1, []⟩] = hpB s1 [bW []] := rfl
  have lp3 := l23_loop G (k + 6) (sel_Select.f G (k + 11)) s1 (by omega) hright s1.out.length 0 (k + 11) [] [] (by omega) (by omega) rfl
  rw [List.drop_zero, List.nil_append] at lp3
  have hcl : (codeW (s1.out.map wordF)).length = s1.out.length := by simp [codeW]
  have fin : finV [.sl 5 s1.out.length 0 s1.out.length 1, .nili] 0 (hpB s1 [bW (s1.out.map wordF)]) = some (.ret, [.tup [.ro false (codeW (s1.out.map wordF)), .nili]], []) := by
    refine fin2_at ?_
    refine frz_tup rfl ?_
    exact mapO_cons (frz_sl (ty := 71) (xs := codeW (s1.out.map wordF)) rfl (by omega) hcl (allSz_map 1 _ (fun _ => rfl) _) (codeW_below _ _)) (mapO_cons rfl mapO_nil)
  have h5 : ∀ s : KS, (hpB s []).length = 5 := fun s => rfl
  have h6 : (hpB s1 [bW []]).length = 6 := rfl
  unfold xs8 at lp1
  unfold xs15 at lp2
  unfold xs23 at lp3
  clear hp hq hv hw hright ho1 hcl hmo hm3 hs hs0 hs1 plC
  generalize cV false ws r m = C at *
  generalize wInsts ws = wi at *
  refine e_in ?_
  have fx := And.intro c0 <| And.intro c1 <| And.intro v0 <| And.intro e1 <| And.intro c2 <| And.intro c3 <| And.intro c4 <| And.intro cf <| And.intro e2 <| And.intro lw <| bx
  refine wkB ?_
  refine eV1 v1 ?_
  refine eV1 v2 ?_
  refine eV1 v3 ?_
  refine eV0 ?_
  rw [h5]
  refine eK ?_
  refine eL lp1 ?_
  have fx := And.intro nil_b <| And.intro bf0 <| And.intro bf1 <| And.intro bf2 <| And.intro l0 <| And.intro l1 <| And.intro lc <| And.intro br <| And.intro a1 <| And.intro s1_ <| And.intro l2 <| lj
  refine wkB ?_
  refine eV1 (show virt1 _ _ = hpB s0 [] from rfl) ?_
  refine eV1 (show virt1 _ _ = hpB s0 [] from rfl) ?_
  refine eV1 (show virt1 _ _ = hpB s0 [] from rfl) ?_
  refine eV0 ?_
  rw [h5]
  refine eK ?_
  refine eL lp2 ?_
  have fx := And.intro nil_b <| And.intro bf0 <| And.intro m0 <| And.intro m0' <| And.intro lo <| g1
  refine wkB ?_
  rw [h5, ap]
  have fx := And.intro nil_b <| And.intro bf0 <| And.intro m0 <| And.intro m0' <| And.intro lo <| g1
  refine wkB ?_
  rw [h6]
  refine eL lp3 ?_
  have fx := True.intro
  refine wkB ?_
  exact oF fin
end Go.Proofs.YtdfglgnflldkpaaDoor.Mir
namespace Go.Proofs.YtdfglgnflldkpaaDoor.Mir
open Go
set_option linter.unusedVariables false
set_option linter.unusedSimpArgs false
set_option maxHeartbeats 8000000
set_option maxRecDepth 20000
section
variable {cs : List Int} {fuel : Int} {f : Nat} {s s2 s' : QS} {i : MI}
theorem runQ_on (h1 : 0 ≤ s.at_ ∧ s.at_ < cs.length) (h2 : (s.steps : Int) ≠ fuel) (ho : ofF (cs.getD s.at_.toNat 0) = some i) (ha : s.tick.next.act i = (s2, true)) : runQ cs fuel (f + 1) s = runQ cs fuel f s2 := by
  simp only [runQ]
  rw [if_neg (by omega), if_neg h2]
  have e : s.tick.step (cs.getD s.at_.toNat 0) = (s2, true) := by unfold QS.step; rw [ho]; exact ha
  rw [e]
theorem runQ_off (h1 : 0 ≤ s.at_ ∧ s.at_ < cs.length) (h2 : (s.steps : Int) ≠ fuel) (ho : ofF (cs.getD s.at_.toNat 0) = some i) (ha : s.tick.next.act i = (s2, false)) : runQ cs fuel (f + 1) s = some s2 := by
  simp only [runQ]
  rw [if_neg (by omega), if_neg h2]
  have e : s.tick.step (cs.getD s.at_.toNat 0) = (s2, false) := by unfold QS.step; rw [ho]; exact ha
  rw [e]
theorem runQ_out (h1 : s.at_ < 0 ∨ (cs.length : Int) ≤ s.at_) : runQ cs fuel (f + 1) s = some { s with code := 3 } := by
  simp only [runQ]
  rw [if_pos h1]
end
/-- A number's instructions, run. -/
theorem run_consts {d : Int} {fuel : Int} {cd : Int} {mem : List Nat} {fl : FL} : ∀ (L : List MI) (pre post : List Int) (r : List Nat) (lk : List (Int × Int)) (st f : Nat), (∀ i ∈ L, isC d i) → (st : Int) + L.length ≤ fuel →
    ∃ lk', runQ (pre ++ (L.map wordF ++ post)) fuel (f + L.length) ⟨cd, mem, r, lk, st, fl, (pre.length : Int)⟩ = runQ (pre ++ (L.map wordF ++ post)) fuel f ⟨cd, mem, runI fl L r, lk', st + L.length, fl, (pre.length : Int) + L.length⟩
  | [], pre, post, r, lk, st, f, _, _ => ⟨lk, by simp [runI]⟩
  | i :: L, pre, post, r, lk, st, f, hL, hst => by
    obtain ⟨hr, hop⟩ := hL i (List.mem_cons_self ..)
    have h18 : ¬ (i.op = 18 ∨ i.op = 19) := by omega
    have h20 : ¬ (i.op = 20 ∨ i.op = 21 ∨ i.op = 22 ∨ i.op = 23) := by omega
    have h24 : ¬ (i.op = 24) := by omega
    have e2 : (doesF i r fl).2 = fl := by
      unfold doesF
      rw [if_neg (by omega), if_neg (by omega), if_neg (by omega)]
    simp only [List.length_cons] at hst ⊢
    obtain ⟨lk', ih⟩ := run_consts (d := d) (fuel := fuel) (cd := cd) (mem := mem) (fl := fl) L (pre ++ [wordF i]) post (doesF i r fl).1 (lk ++ [(1, (pre.length : Int))]) (st + 1) f (fun j hj => hL j (List.mem_cons_of_mem _ hj)) (by omega)
    refine ⟨lk', ?_⟩
    have ec : pre ++ [wordF i] ++ (L.map wordF ++ post) = pre ++ ((i :: L).map wordF ++ post) := by simp
    rw [ec] at ih
    have el : ((pre ++ [wordF i]).length : Int) = (pre.length : Int) + 1 := by simp
    rw [el] at ih
    have ha : (QS.next (QS.tick ⟨cd, mem, r, lk, st, fl, (pre.length : Int)⟩)).act i = (⟨cd, mem, (doesF i r fl).1, lk ++ [(1, (pre.length : Int))], st + 1, fl, (pre.length : Int) + 1⟩, true) := by
      unfold QS.act
      rw [if_neg h18, if_neg h20, if_neg h24]
      show (({ code := cd, mem := mem, regs := (doesF i r fl).1, leaks := lk ++ [(1, (pre.length : Int))], steps := st + 1, flags := (doesF i r fl).2, at_ := (pre.length : Int) + 1 } : QS), true) = _
      rw [e2]
    have ho : ofF ((pre ++ ((i :: L).map wordF ++ post)).getD ((pre.length : Int)).toNat 0) = some i := by
      have : (pre ++ ((i :: L).map wordF ++ post)).getD ((pre.length : Int)).toNat 0 = wordF i := by
        rw [Int.toNat_natCast, List.getD_eq_getElem?_getD, List.getElem?_append_right (Nat.le_refl _)]; simp
      rw [this]
      exact of_word (i := i) hr (by omega)
    have e1 : f + (L.length + 1) = f + L.length + 1 := by omega
    rw [e1]
    have hs := runQ_on (cs := pre ++ ((i :: L).map wordF ++ post)) (fuel := fuel) (f := f + L.length) (s := ⟨cd, mem, r, lk, st, fl, (pre.length : Int)⟩) ⟨by show (0 : Int) ≤ (pre.length : Int); omega, by show (pre.length : Int) < _; simp; omega⟩ (show ((st : Nat) : Int) ≠ fuel by omega) ho ha
    rw [hs, ih]
    have e3 : st + 1 + L.length = st + (L.length + 1) := by omega
    have e4 : (pre.length : Int) + 1 + L.length = (pre.length : Int) + ((L.length + 1 : Nat) : Int) := by omega
    rw [e3, e4]
    rfl
def rgF (x0 x1 y z : Nat) : List Nat := [x0, x1, 0, 0, 0, 0, 0, 0, 0, 0, 0, 0, 0, 0, 0, 0, 0, 0, 0, 0, 0, 0, 0, 0, 0, 0, 0, 0, y, z, 0]
section
variable {cs : List Int} {fuel : Int} {f : Nat} {cd : Int} {mem : List Nat} {x0 x1 y z : Nat} {lk : List (Int × Int)} {st : Nat} {fl : FL} {a : Int}
theorem fs_add (h1 : 0 ≤ a ∧ a < cs.length) (ho : ofF (cs.getD a.toNat 0) = some ⟨10, 28, 0, 0, 0, 2⟩) (hs : (st : Int) ≠ fuel) : runQ cs fuel (f + 1) ⟨cd, mem, rgF x0 x1 y z, lk, st, fl, a⟩ = runQ cs fuel f ⟨cd, mem, rgF x0 x1 ((x0 + 2) % 18446744073709551616) z, lk ++ [(1, a)], st + 1, fl, a + 1⟩ := by
  have ha : (QS.next (QS.tick ⟨cd, mem, rgF x0 x1 y z, lk, st, fl, a⟩)).act ⟨10, 28, 0, 0, 0, 2⟩ = (⟨cd, mem, rgF x0 x1 ((x0 + u64 2) % 18446744073709551616) z, lk ++ [(1, a)], st + 1, fl, a + 1⟩, true) := rfl
  have e : u64 2 = 2 := rfl
  rw [e] at ha
  exact runQ_on h1 hs ho ha
theorem fs_lsr (h1 : 0 ≤ a ∧ a < cs.length) (ho : ofF (cs.getD a.toNat 0) = some ⟨13, 29, 28, 0, 0, 16⟩) (hs : (st : Int) ≠ fuel) : runQ cs fuel (f + 1) ⟨cd, mem, rgF x0 x1 y z, lk, st, fl, a⟩ = runQ cs fuel f ⟨cd, mem, rgF x0 x1 y (y / 65536), lk ++ [(1, a)], st + 1, fl, a + 1⟩ := by
  have ha : (QS.next (QS.tick ⟨cd, mem, rgF x0 x1 y z, lk, st, fl, a⟩)).act ⟨13, 29, 28, 0, 0, 16⟩ = (⟨cd, mem, rgF x0 x1 y (y / 2 ^ (u64 16)), lk ++ [(1, a)], st + 1, fl, a + 1⟩, true) := rfl
  have e : 2 ^ (u64 16) = 65536 := rfl
  rw [e] at ha
  exact runQ_on h1 hs ho ha
theorem fs_cb0 (h1 : 0 ≤ a ∧ a < cs.length) (ho : ofF (cs.getD a.toNat 0) = some ⟨23, 29, 0, 0, 0, 4⟩) (hs : (st : Int) ≠ fuel) (hz : z = 0) : runQ cs fuel (f + 1) ⟨cd, mem, rgF x0 x1 y z, lk, st, fl, a⟩ = runQ cs fuel f ⟨cd, mem, rgF x0 x1 y z, lk ++ [(1, a)] ++ [(2, 0)], st + 1, fl, a + 1⟩ := by
  subst hz
  exact runQ_on h1 hs ho rfl
theorem fs_cb1 (h1 : 0 ≤ a ∧ a < cs.length) (ho : ofF (cs.getD a.toNat 0) = some ⟨23, 29, 0, 0, 0, 4⟩) (hs : (st : Int) ≠ fuel) (hz : z ≠ 0) : runQ cs fuel (f + 1) ⟨cd, mem, rgF x0 x1 y z, lk, st, fl, a⟩ = runQ cs fuel f ⟨cd, mem, rgF x0 x1 y z, lk ++ [(1, a)] ++ [(2, 1)], st + 1, fl, a + 1 + (4 - 1)⟩ := by
  refine runQ_on h1 hs ho ?_
  have hg : (QS.next (QS.tick ⟨cd, mem, rgF x0 x1 y z, lk, st, fl, a⟩)).goes ⟨23, 29, 0, 0, 0, 4⟩ = true := by
    show decide (z ≠ 0) = true
    exact decide_eq_true hz
  unfold QS.act
  rw [if_neg (by decide), if_pos (by decide)]
  unfold QS.branch
  rw [if_neg (by decide), if_pos hg]
  rfl
theorem fs_lsl (h1 : 0 ≤ a ∧ a < cs.length) (ho : ofF (cs.getD a.toNat 0) = some ⟨12, 28, 28, 0, 0, 3⟩) (hs : (st : Int) ≠ fuel) (hy : y < 65536) : runQ cs fuel (f + 1) ⟨cd, mem, rgF x0 x1 y z, lk, st, fl, a⟩ = runQ cs fuel f ⟨cd, mem, rgF x0 x1 (8 * y) z, lk ++ [(1, a)], st + 1, fl, a + 1⟩ := by
  have ha : (QS.next (QS.tick ⟨cd, mem, rgF x0 x1 y z, lk, st, fl, a⟩)).act ⟨12, 28, 28, 0, 0, 3⟩ = (⟨cd, mem, rgF x0 x1 (y * 2 ^ (u64 3) % 18446744073709551616) z, lk ++ [(1, a)], st + 1, fl, a + 1⟩, true) := rfl
  have e : y * 2 ^ (u64 3) % 18446744073709551616 = 8 * y := by
    have : u64 3 = 3 := rfl
    rw [this]; omega
  rw [e] at ha
  exact runQ_on h1 hs ho ha
def memI (ld : Bool) : MI := if ld then ⟨18, 1, 28, 0, 0, 0⟩ else ⟨19, 1, 28, 0, 0, 0⟩
theorem fs_addr (ld : Bool) (hy : y < 65536) : (QS.next (QS.tick ⟨cd, mem, rgF x0 x1 (8 * y) z, lk, st, fl, a⟩)).addr (memI ld) = 8 * y := by
  have : (QS.next (QS.tick ⟨cd, mem, rgF x0 x1 (8 * y) z, lk, st, fl, a⟩)).addr (memI ld) = (8 * y + 8 * 0 % 18446744073709551616) % 18446744073709551616 := by cases ld <;> rfl
  rw [this]; omega
theorem fs_mem (ld : Bool) (h1 : 0 ≤ a ∧ a < cs.length) (ho : ofF (cs.getD a.toNat 0) = some (memI ld)) (hs : (st : Int) ≠ fuel) (hy : y < 65536) (hm : y < mem.length) : ∃ s2 : QS, s2.at_ = a + 1 ∧ s2.steps = st + 1 ∧ s2.code = cd ∧ runQ cs fuel (f + 1) ⟨cd, mem, rgF x0 x1 (8 * y) z, lk, st, fl, a⟩ = runQ cs fuel f s2 := by
  have ea := fs_addr (cd := cd) (mem := mem) (x0 := x0) (x1 := x1) (z := z) (lk := lk) (st := st) (fl := fl) (a := a) ld hy
  have hmm : (QS.next (QS.tick ⟨cd, mem, rgF x0 x1 (8 * y) z, lk, st, fl, a⟩)).mem = mem := rfl
  have hb : ¬ (8 * y % 8 ≠ 0 ∨ mem.length ≤ 8 * y / 8) := by omega
  have e8 : 8 * y / 8 = y := by omega
  cases ld
  · have ha : (QS.next (QS.tick ⟨cd, mem, rgF x0 x1 (8 * y) z, lk, st, fl, a⟩)).act (memI false) = (⟨cd, mem.set y x1, rgF x0 x1 (8 * y) z, lk ++ [(1, a)] ++ [(3, s64 (8 * y))], st + 1, fl, a + 1⟩, true) := by
      unfold QS.act
      rw [if_pos (by decide)]
      unfold QS.touch
      rw [ea, hmm]
      simp only
      rw [if_neg hb, if_neg (by decide), e8]
      rfl
    exact ⟨_, rfl, rfl, rfl, runQ_on h1 hs ho ha⟩
  · have ha : (QS.next (QS.tick ⟨cd, mem, rgF x0 x1 (8 * y) z, lk, st, fl, a⟩)).act (memI true) = (⟨cd, mem, rgF x0 (mem.getD y 0) (8 * y) z, lk ++ [(1, a)] ++ [(3, s64 (8 * y))], st + 1, fl, a + 1⟩, true) := by
      unfold QS.act
      rw [if_pos (by decide)]
      unfold QS.touch
      rw [ea, hmm]
      simp only
      rw [if_neg hb, if_pos (by decide), e8]
      rfl
    exact ⟨_, rfl, rfl, rfl, runQ_on h1 hs ho ha⟩
theorem fs_out (ld : Bool) (h1 : 0 ≤ a ∧ a < cs.length) (ho : ofF (cs.getD a.toNat 0) = some (memI ld)) (hs : (st : Int) ≠ fuel) (hy : y < 65536) (hm : mem.length ≤ y) : ∃ s2 : QS, s2.code = 3 ∧ runQ cs fuel (f + 1) ⟨cd, mem, rgF x0 x1 (8 * y) z, lk, st, fl, a⟩ = some s2 := by
  have ea := fs_addr (cd := cd) (mem := mem) (x0 := x0) (x1 := x1) (z := z) (lk := lk) (st := st) (fl := fl) (a := a) ld hy
  have hmm : (QS.next (QS.tick ⟨cd, mem, rgF x0 x1 (8 * y) z, lk, st, fl, a⟩)).mem = mem := rfl
  have hb : (8 * y % 8 ≠ 0 ∨ mem.length ≤ 8 * y / 8) := by omega
  have ha : (QS.next (QS.tick ⟨cd, mem, rgF x0 x1 (8 * y) z, lk, st, fl, a⟩)).act (memI ld) = (⟨3, mem, rgF x0 x1 (8 * y) z, lk ++ [(1, a)] ++ [(3, s64 (8 * y))], st + 1, fl, a + 1⟩, false) := by
    unfold QS.act
    rw [if_pos (by cases ld <;> decide)]
    unfold QS.touch
    rw [ea, hmm]
    simp only
    rw [if_pos hb]
    rfl
  exact ⟨_, rfl, runQ_off h1 hs ho ha⟩
end
end Go.Proofs.YtdfglgnflldkpaaDoor.Mir
namespace Go.Proofs.YtdfglgnflldkpaaDoor.Mir
open Go
set_option linter.unusedVariables false
set_option linter.unusedSimpArgs false
set_option maxHeartbeats 8000000
set_option maxRecDepth 20000
def farT (ld : Bool) : List MI := [⟨10, 28, 0, 0, 0, 2⟩, ⟨13, 29, 28, 0, 0, 16⟩, ⟨23, 29, 0, 0, 0, 4⟩, ⟨12, 28, 28, 0, 0, 3⟩, memI ld, ⟨24, 0, 0, 0, 0, 0⟩]
def farO (L : List MI) (ld : Bool) : List MI := ⟨1, 1, 0, 0, 0, 77⟩ :: (L ++ farT ld)
theorem right0 : rightB ⟨1, 1, 0, 0, 0, 77⟩ = true := by kernel_rfl
theorem right1 : rightB ⟨10, 28, 0, 0, 0, 2⟩ = true := by kernel_rfl
theorem right2 : rightB ⟨13, 29, 28, 0, 0, 16⟩ = true := by kernel_rfl
theorem right3 : rightB ⟨23, 29, 0, 0, 0, 4⟩ = true := by kernel_rfl
theorem right4 : rightB ⟨12, 28, 28, 0, 0, 3⟩ = true := by kernel_rfl
theorem right5 (ld : Bool) : rightB (memI ld) = true := by cases ld <;> kernel_rfl
theorem right6 : rightB ⟨24, 0, 0, 0, 0, 0⟩ = true := by kernel_rfl
theorem farO_right (d : Int) (L : List MI) (hL : ∀ i ∈ L, isC d i) (ld : Bool) : ∀ i ∈ farO L ld, rightB i = true := by
  intro i hi
  unfold farO farT at hi
  simp only [List.mem_cons, List.mem_append, List.not_mem_nil, or_false] at hi
  rcases hi with rfl | hi | rfl | rfl | rfl | rfl | rfl | rfl
  · exact right0
  · exact (hL i hi).1
  · exact right1
  · exact right2
  · exact right3
  · exact right4
  · exact right5 ld
  · exact right6
theorem far_get (w : Int) (Lw post : List Int) (i : Nat) (a : Int) (ha : a = 1 + Lw.length + i) : ([w] ++ (Lw ++ post)).getD a.toNat 0 = post.getD i 0 := by
  have e : a.toNat = 1 + Lw.length + i := by omega
  rw [e, List.getD_eq_getElem?_getD, List.getD_eq_getElem?_getD, List.getElem?_append_right (by simp; omega), List.getElem?_append_right (by simp; omega)]
  congr 2
  simp; omega
theorem far_run (ld : Bool) (u : Nat) (hu : u < 18446744073709551616) (mem : List Nat) (hm : mem.length ≤ 50) (f : Nat) :
    ∃ s, runQ ((farO (constF 0 u) ld).map wordF) 200 (f + 20) (q0 3 mem) = some s ∧ s.code = if mem.length ≤ (u + 2) % 18446744073709551616 then 3 else 0 := by
  obtain ⟨hc, hdo⟩ := const_do 0 ⟨by decide, by decide⟩ u hu f00
  have hlen := constF_len 0 u
  generalize constF 0 u = L at *
  obtain ⟨y, hy⟩ : ∃ y, y = (u + 2) % 18446744073709551616 := ⟨_, rfl⟩
  rw [← hy]
  have ecs : (farO L ld).map wordF = [wordF ⟨1, 1, 0, 0, 0, 77⟩] ++ (L.map wordF ++ (farT ld).map wordF) := by simp [farO]
  rw [ecs]
  have hLw : (L.map wordF).length = L.length := by simp
  have gt : ∀ (i : Nat) (a : Int), a = 1 + L.length + i → ([wordF ⟨1, 1, 0, 0, 0, 77⟩] ++ (L.map wordF ++ (farT ld).map wordF)).getD a.toNat 0 = ((farT ld).map wordF).getD i 0 := fun i a ha => far_get _ _ _ i a (by rw [hLw]; exact ha)
  have hcl : (([wordF ⟨1, 1, 0, 0, 0, 77⟩] ++ (L.map wordF ++ (farT ld).map wordF)).length : Int) = L.length + 7 := by simp [farT]; omega
  have o0 : ofF (([wordF ⟨1, 1, 0, 0, 0, 77⟩] ++ (L.map wordF ++ (farT ld).map wordF)).getD (0 : Int).toNat 0) = some ⟨1, 1, 0, 0, 0, 77⟩ := of_word right0 (by simp)
  have o1 : ∀ a : Int, a = 1 + L.length + (0 : Nat) → ofF (([wordF ⟨1, 1, 0, 0, 0, 77⟩] ++ (L.map wordF ++ (farT ld).map wordF)).getD a.toNat 0) = some ⟨10, 28, 0, 0, 0, 2⟩ := fun a ha => by rw [gt 0 a ha]; exact of_word right1 (by simp)
  have o2 : ∀ a : Int, a = 1 + L.length + (1 : Nat) → ofF (([wordF ⟨1, 1, 0, 0, 0, 77⟩] ++ (L.map wordF ++ (farT ld).map wordF)).getD a.toNat 0) = some ⟨13, 29, 28, 0, 0, 16⟩ := fun a ha => by rw [gt 1 a ha]; exact of_word right2 (by simp)
  have o3 : ∀ a : Int, a = 1 + L.length + (2 : Nat) → ofF (([wordF ⟨1, 1, 0, 0, 0, 77⟩] ++ (L.map wordF ++ (farT ld).map wordF)).getD a.toNat 0) = some ⟨23, 29, 0, 0, 0, 4⟩ := fun a ha => by rw [gt 2 a ha]; exact of_word right3 (by simp)
  have o4 : ∀ a : Int, a = 1 + L.length + (3 : Nat) → ofF (([wordF ⟨1, 1, 0, 0, 0, 77⟩] ++ (L.map wordF ++ (farT ld).map wordF)).getD a.toNat 0) = some ⟨12, 28, 28, 0, 0, 3⟩ := fun a ha => by rw [gt 3 a ha]; exact of_word right4 (by simp)
  have o5 : ∀ a : Int, a = 1 + L.length + (4 : Nat) → ofF (([wordF ⟨1, 1, 0, 0, 0, 77⟩] ++ (L.map wordF ++ (farT ld).map wordF)).getD a.toNat 0) = some (memI ld) := fun a ha => by rw [gt 4 a ha]; exact of_word (right5 ld) (by cases ld <;> simp [memI])
  have o6 : ∀ a : Int, a = 1 + L.length + (5 : Nat) → ofF (([wordF ⟨1, 1, 0, 0, 0, 77⟩] ++ (L.map wordF ++ (farT ld).map wordF)).getD a.toNat 0) = some ⟨24, 0, 0, 0, 0, 0⟩ := fun a ha => by rw [gt 5 a ha]; exact of_word right6 (by simp)
  have e0 : q0 3 mem = ⟨3, mem, rgF 0 0 0 0, [], 0, f00, 0⟩ := rfl
  have ef : f + 20 = (f + 13 - L.length) + 1 + 1 + 1 + 1 + 1 + 1 + L.length + 1 := by omega
  have hrun0 := run_consts (d := 0) (fuel := 200) (cd := 3) (mem := mem) (fl := f00) L [wordF ⟨1, 1, 0, 0, 0, 77⟩] ((farT ld).map wordF) (rgF 0 77 0 0) [(1, 0)] 1 (f + 13 - L.length + 1 + 1 + 1 + 1 + 1 + 1) hc (by omega)
  obtain ⟨lk, hrun⟩ := hrun0
  have er : runI f00 L (rgF 0 77 0 0) = rgF u 77 0 0 := by rw [hdo (rgF 0 77 0 0) rfl]; rfl
  rw [er] at hrun
  generalize [wordF ⟨1, 1, 0, 0, 0, 77⟩] ++ (L.map wordF ++ (farT ld).map wordF) = cs at *
  have st0 : runQ cs 200 ((f + 13 - L.length) + 1 + 1 + 1 + 1 + 1 + 1 + L.length + 1) ⟨3, mem, rgF 0 0 0 0, [], 0, f00, 0⟩ = runQ cs 200 ((f + 13 - L.length) + 1 + 1 + 1 + 1 + 1 + 1 + L.length) ⟨3, mem, rgF 0 77 0 0, [(1, 0)], 1, f00, 1⟩ :=
    runQ_on ⟨by show (0 : Int) ≤ 0; decide, by rw [hcl]; show (0 : Int) < L.length + 7; omega⟩ (by show ((0 : Nat) : Int) ≠ 200; decide) o0 rfl
  rw [ef, e0, st0]
  have hrun : runQ cs 200 ((f + 13 - L.length) + 1 + 1 + 1 + 1 + 1 + 1 + L.length) ⟨3, mem, rgF 0 77 0 0, [(1, 0)], 1, f00, 1⟩ = _ := hrun
  rw [hrun]
  obtain ⟨a, haa⟩ : ∃ a : Int, a = 1 + L.length := ⟨_, rfl⟩
  have ea : (([wordF ⟨1, 1, 0, 0, 0, 77⟩] : List Int).length : Int) + L.length = a := by rw [haa]; rfl
  rw [ea]
  rw [fs_add ⟨by omega, by omega⟩ (o1 a (by omega)) (by omega), ← hy]
  rw [fs_lsr ⟨by omega, by omega⟩ (o2 (a + 1) (by omega)) (by omega)]
  by_cases hy2 : y < 65536
  · rw [fs_cb0 ⟨by omega, by omega⟩ (o3 (a + 1 + 1) (by omega)) (by omega) (by omega)]
    rw [fs_lsl ⟨by omega, by omega⟩ (o4 (a + 1 + 1 + 1) (by omega)) (by omega) hy2]
    by_cases hy3 : y < mem.length
    · obtain ⟨s2, k1, k2, k3, k4⟩ := fs_mem (cs := cs) (fuel := 200) (f := f + 13 - L.length + 1) (cd := 3) (mem := mem) (x0 := u) (x1 := 77) (y := y) (z := y / 65536) (lk := lk ++ [(1, a)] ++ [(1, a + 1)] ++ [(1, a + 1 + 1)] ++ [(2, 0)] ++ [(1, a + 1 + 1 + 1)]) (st := 1 + L.length + 1 + 1 + 1 + 1) (fl := f00) (a := a + 1 + 1 + 1 + 1) ld ⟨by omega, by omega⟩ (o5 _ (by omega)) (by omega) hy2 hy3
      rw [k4]
      refine ⟨_, runQ_off (i := ⟨24, 0, 0, 0, 0, 0⟩) ⟨by rw [k1]; omega, by rw [k1]; omega⟩ (by rw [k2]; omega) (by rw [k1]; exact o6 _ (by omega)) rfl, ?_⟩
      have e9 : (if mem.length ≤ y then (3 : Int) else 0) = 0 := if_neg (by omega)
      rw [e9]
      rfl
    · obtain ⟨s2, k1, k2⟩ := fs_out (cs := cs) (fuel := 200) (f := f + 13 - L.length + 1) (cd := 3) (mem := mem) (x0 := u) (x1 := 77) (y := y) (z := y / 65536) (lk := lk ++ [(1, a)] ++ [(1, a + 1)] ++ [(1, a + 1 + 1)] ++ [(2, 0)] ++ [(1, a + 1 + 1 + 1)]) (st := 1 + L.length + 1 + 1 + 1 + 1) (fl := f00) (a := a + 1 + 1 + 1 + 1) ld ⟨by omega, by omega⟩ (o5 _ (by omega)) (by omega) hy2 (by omega)
      exact ⟨s2, k2, by rw [k1, if_pos (by omega)]⟩
  · rw [fs_cb1 ⟨by omega, by omega⟩ (o3 (a + 1 + 1) (by omega)) (by omega) (by omega)]
    refine ⟨_, runQ_out (.inr ?_), ?_⟩
    · show (cs.length : Int) ≤ a + 1 + 1 + 1 + (4 - 1)
      omega
    · rw [if_pos (by omega)]
end Go.Proofs.YtdfglgnflldkpaaDoor.Mir
namespace Go.Proofs.YtdfglgnflldkpaaDoor.Mir
open Go
set_option linter.unusedVariables false
set_option linter.unusedSimpArgs false
set_option maxHeartbeats 8000000
set_option maxRecDepth 20000
def farW (ld : Bool) (K : Int) : List WI := [⟨1, 1, 0, 0, 0, 77⟩, ⟨1, 0, 0, 0, 0, K⟩, if ld then ⟨15, 1, 0, 0, 0, 2⟩ else ⟨16, 0, 0, 1, 0, 2⟩, ⟨20, 0, 0, 0, 0, 0⟩]
theorem const77 : constF 1 (u64 77) = [⟨1, 1, 0, 0, 0, 77⟩] := by kernel_rfl
theorem far_s0 (ld : Bool) (K : Int) : (KS.run 4 (farW ld K) k00).mark = ⟨[⟨1, 1, 0, 0, 0, 77⟩] ++ (constF 0 (u64 K) ++ [⟨10, 28, 0, 0, 0, 2⟩, ⟨13, 29, 28, 0, 0, 16⟩, ⟨23, 29, 0, 0, 0, 0⟩, ⟨12, 28, 28, 0, 0, 3⟩, memI ld, ⟨24, 0, 0, 0, 0, 0⟩]), [0, 1, (constF 0 (u64 K)).length + 1, (constF 0 (u64 K)).length + 6, (constF 0 (u64 K)).length + 7], [((constF 0 (u64 K)).length + 3, 4)]⟩ := by
  generalize hL : constF 0 (u64 K) = L
  cases ld
  · simp [KS.run, farW, KS.one, KS.touch, KS.put, KS.jump, KS.mark, k00, const77, hL, memI]
  · simp [KS.run, farW, KS.one, KS.touch, KS.put, KS.jump, KS.mark, k00, const77, hL, memI]
theorem far_s1 (ld : Bool) (K : Int) : (KS.fixes (KS.run 4 (farW ld K) k00).mark.jumps (KS.run 4 (farW ld K) k00).mark).out = farO (constF 0 (u64 K)) ld := by
  rw [far_s0]
  generalize constF 0 (u64 K) = L
  simp only [KS.fixes, KS.fix, fixI, farO, farT]
  have e1 : ([⟨1, 1, 0, 0, 0, 77⟩] ++ (L ++ [⟨10, 28, 0, 0, 0, 2⟩, ⟨13, 29, 28, 0, 0, 16⟩, ⟨23, 29, 0, 0, 0, 0⟩, ⟨12, 28, 28, 0, 0, 3⟩, memI ld, ⟨24, 0, 0, 0, 0, 0⟩]) : List MI).getD (L.length + 3) default = ⟨23, 29, 0, 0, 0, 0⟩ := by
    rw [List.getD_eq_getElem?_getD, List.getElem?_append_right (by simp), List.getElem?_append_right (by simp)]
    have : L.length + 3 - [(⟨1, 1, 0, 0, 0, 77⟩ : MI)].length - L.length = 2 := by show L.length + 3 - 1 - L.length = 2; omega
    rw [this]; rfl
  rw [e1]
  have e2 : ((List.getD ([0, 1, L.length + 1, L.length + 6, L.length + 7] : List Nat) (Int.toNat 4) 0 : Nat) : Int) - ((L.length + 3 : Nat) : Int) = 4 := by
    show ((L.length + 7 : Nat) : Int) - ((L.length + 3 : Nat) : Int) = 4
    omega
  rw [e2]
  rw [List.set_append_right _ _ (by simp), List.set_append_right _ _ (by simp)]
  have : L.length + 3 - [(⟨1, 1, 0, 0, 0, 77⟩ : MI)].length - L.length = 2 := by show L.length + 3 - 1 - L.length = 2; omega
  rw [this]; rfl
theorem fv_t1 (G : Globs) (k : Nat) (K : Int) : words_Valid.f G (k + 60) [cV false (farW true K) 2 1] [] = some (.nili, []) := by kernel_rfl
theorem fv_t2 (G : Globs) (k : Nat) (K : Int) : words_Valid.f G (k + 60) [cV false (farW true K) 2 2] [] = some (.nili, []) := by kernel_rfl
theorem fv_t3 (G : Globs) (k : Nat) (K : Int) : words_Valid.f G (k + 60) [cV false (farW true K) 2 3] [] = some (.nili, []) := by kernel_rfl
theorem fv_t4 (G : Globs) (k : Nat) (K : Int) : words_Valid.f G (k + 60) [cV false (farW true K) 2 4] [] = some (.nili, []) := by kernel_rfl
theorem fv_t5 (G : Globs) (k : Nat) (K : Int) : words_Valid.f G (k + 60) [cV false (farW true K) 2 5] [] = some (.nili, []) := by kernel_rfl
theorem fv_t6 (G : Globs) (k : Nat) (K : Int) : words_Valid.f G (k + 60) [cV false (farW true K) 2 6] [] = some (.nili, []) := by kernel_rfl
theorem fv_t7 (G : Globs) (k : Nat) (K : Int) : words_Valid.f G (k + 60) [cV false (farW true K) 2 7] [] = some (.nili, []) := by kernel_rfl
theorem fv_t8 (G : Globs) (k : Nat) (K : Int) : words_Valid.f G (k + 60) [cV false (farW true K) 2 8] [] = some (.nili, []) := by kernel_rfl
theorem fv_t9 (G : Globs) (k : Nat) (K : Int) : words_Valid.f G (k + 60) [cV false (farW true K) 2 9] [] = some (.nili, []) := by kernel_rfl
theorem fv_t10 (G : Globs) (k : Nat) (K : Int) : words_Valid.f G (k + 60) [cV false (farW true K) 2 10] [] = some (.nili, []) := by kernel_rfl
theorem fv_t11 (G : Globs) (k : Nat) (K : Int) : words_Valid.f G (k + 60) [cV false (farW true K) 2 11] [] = some (.nili, []) := by kernel_rfl
theorem fv_t12 (G : Globs) (k : Nat) (K : Int) : words_Valid.f G (k + 60) [cV false (farW true K) 2 12] [] = some (.nili, []) := by kernel_rfl
theorem fv_t13 (G : Globs) (k : Nat) (K : Int) : words_Valid.f G (k + 60) [cV false (farW true K) 2 13] [] = some (.nili, []) := by kernel_rfl
theorem fv_t14 (G : Globs) (k : Nat) (K : Int) : words_Valid.f G (k + 60) [cV false (farW true K) 2 14] [] = some (.nili, []) := by kernel_rfl
theorem fv_t15 (G : Globs) (k : Nat) (K : Int) : words_Valid.f G (k + 60) [cV false (farW true K) 2 15] [] = some (.nili, []) := by kernel_rfl
theorem fv_t16 (G : Globs) (k : Nat) (K : Int) : words_Valid.f G (k + 60) [cV false (farW true K) 2 16] [] = some (.nili, []) := by kernel_rfl
theorem fv_t17 (G : Globs) (k : Nat) (K : Int) : words_Valid.f G (k + 60) [cV false (farW true K) 2 17] [] = some (.nili, []) := by kernel_rfl
theorem fv_t18 (G : Globs) (k : Nat) (K : Int) : words_Valid.f G (k + 60) [cV false (farW true K) 2 18] [] = some (.nili, []) := by kernel_rfl
theorem fv_t19 (G : Globs) (k : Nat) (K : Int) : words_Valid.f G (k + 60) [cV false (farW true K) 2 19] [] = some (.nili, []) := by kernel_rfl
theorem fv_t20 (G : Globs) (k : Nat) (K : Int) : words_Valid.f G (k + 60) [cV false (farW true K) 2 20] [] = some (.nili, []) := by kernel_rfl
theorem fv_t21 (G : Globs) (k : Nat) (K : Int) : words_Valid.f G (k + 60) [cV false (farW true K) 2 21] [] = some (.nili, []) := by kernel_rfl
theorem fv_t22 (G : Globs) (k : Nat) (K : Int) : words_Valid.f G (k + 60) [cV false (farW true K) 2 22] [] = some (.nili, []) := by kernel_rfl
theorem fv_t23 (G : Globs) (k : Nat) (K : Int) : words_Valid.f G (k + 60) [cV false (farW true K) 2 23] [] = some (.nili, []) := by kernel_rfl
theorem fv_t24 (G : Globs) (k : Nat) (K : Int) : words_Valid.f G (k + 60) [cV false (farW true K) 2 24] [] = some (.nili, []) := by kernel_rfl
theorem fv_t25 (G : Globs) (k : Nat) (K : Int) : words_Valid.f G (k + 60) [cV false (farW true K) 2 25] [] = some (.nili, []) := by kernel_rfl
theorem fv_t26 (G : Globs) (k : Nat) (K : Int) : words_Valid.f G (k + 60) [cV false (farW true K) 2 26] [] = some (.nili, []) := by kernel_rfl
theorem fv_t27 (G : Globs) (k : Nat) (K : Int) : words_Valid.f G (k + 60) [cV false (farW true K) 2 27] [] = some (.nili, []) := by kernel_rfl
theorem fv_t28 (G : Globs) (k : Nat) (K : Int) : words_Valid.f G (k + 60) [cV false (farW true K) 2 28] [] = some (.nili, []) := by kernel_rfl
theorem fv_t29 (G : Globs) (k : Nat) (K : Int) : words_Valid.f G (k + 60) [cV false (farW true K) 2 29] [] = some (.nili, []) := by kernel_rfl
theorem fv_t30 (G : Globs) (k : Nat) (K : Int) : words_Valid.f G (k + 60) [cV false (farW true K) 2 30] [] = some (.nili, []) := by kernel_rfl
theorem fv_t31 (G : Globs) (k : Nat) (K : Int) : words_Valid.f G (k + 60) [cV false (farW true K) 2 31] [] = some (.nili, []) := by kernel_rfl
theorem fv_t32 (G : Globs) (k : Nat) (K : Int) : words_Valid.f G (k + 60) [cV false (farW true K) 2 32] [] = some (.nili, []) := by kernel_rfl
theorem fv_t33 (G : Globs) (k : Nat) (K : Int) : words_Valid.f G (k + 60) [cV false (farW true K) 2 33] [] = some (.nili, []) := by kernel_rfl
theorem fv_t34 (G : Globs) (k : Nat) (K : Int) : words_Valid.f G (k + 60) [cV false (farW true K) 2 34] [] = some (.nili, []) := by kernel_rfl
theorem fv_t35 (G : Globs) (k : Nat) (K : Int) : words_Valid.f G (k + 60) [cV false (farW true K) 2 35] [] = some (.nili, []) := by kernel_rfl
theorem fv_t36 (G : Globs) (k : Nat) (K : Int) : words_Valid.f G (k + 60) [cV false (farW true K) 2 36] [] = some (.nili, []) := by kernel_rfl
theorem fv_t37 (G : Globs) (k : Nat) (K : Int) : words_Valid.f G (k + 60) [cV false (farW true K) 2 37] [] = some (.nili, []) := by kernel_rfl
theorem fv_t38 (G : Globs) (k : Nat) (K : Int) : words_Valid.f G (k + 60) [cV false (farW true K) 2 38] [] = some (.nili, []) := by kernel_rfl
theorem fv_t39 (G : Globs) (k : Nat) (K : Int) : words_Valid.f G (k + 60) [cV false (farW true K) 2 39] [] = some (.nili, []) := by kernel_rfl
theorem fv_t40 (G : Globs) (k : Nat) (K : Int) : words_Valid.f G (k + 60) [cV false (farW true K) 2 40] [] = some (.nili, []) := by kernel_rfl
theorem fv_t41 (G : Globs) (k : Nat) (K : Int) : words_Valid.f G (k + 60) [cV false (farW true K) 2 41] [] = some (.nili, []) := by kernel_rfl
theorem fv_t42 (G : Globs) (k : Nat) (K : Int) : words_Valid.f G (k + 60) [cV false (farW true K) 2 42] [] = some (.nili, []) := by kernel_rfl
theorem fv_t43 (G : Globs) (k : Nat) (K : Int) : words_Valid.f G (k + 60) [cV false (farW true K) 2 43] [] = some (.nili, []) := by kernel_rfl
theorem fv_t44 (G : Globs) (k : Nat) (K : Int) : words_Valid.f G (k + 60) [cV false (farW true K) 2 44] [] = some (.nili, []) := by kernel_rfl
theorem fv_t45 (G : Globs) (k : Nat) (K : Int) : words_Valid.f G (k + 60) [cV false (farW true K) 2 45] [] = some (.nili, []) := by kernel_rfl
theorem fv_t46 (G : Globs) (k : Nat) (K : Int) : words_Valid.f G (k + 60) [cV false (farW true K) 2 46] [] = some (.nili, []) := by kernel_rfl
theorem fv_t47 (G : Globs) (k : Nat) (K : Int) : words_Valid.f G (k + 60) [cV false (farW true K) 2 47] [] = some (.nili, []) := by kernel_rfl
theorem fv_t48 (G : Globs) (k : Nat) (K : Int) : words_Valid.f G (k + 60) [cV false (farW true K) 2 48] [] = some (.nili, []) := by kernel_rfl
theorem fv_t49 (G : Globs) (k : Nat) (K : Int) : words_Valid.f G (k + 60) [cV false (farW true K) 2 49] [] = some (.nili, []) := by kernel_rfl
theorem fv_t50 (G : Globs) (k : Nat) (K : Int) : words_Valid.f G (k + 60) [cV false (farW true K) 2 50] [] = some (.nili, []) := by kernel_rfl
theorem fv_f1 (G : Globs) (k : Nat) (K : Int) : words_Valid.f G (k + 60) [cV false (farW false K) 2 1] [] = some (.nili, []) := by kernel_rfl
theorem fv_f2 (G : Globs) (k : Nat) (K : Int) : words_Valid.f G (k + 60) [cV false (farW false K) 2 2] [] = some (.nili, []) := by kernel_rfl
theorem fv_f3 (G : Globs) (k : Nat) (K : Int) : words_Valid.f G (k + 60) [cV false (farW false K) 2 3] [] = some (.nili, []) := by kernel_rfl
theorem fv_f4 (G : Globs) (k : Nat) (K : Int) : words_Valid.f G (k + 60) [cV false (farW false K) 2 4] [] = some (.nili, []) := by kernel_rfl
theorem fv_f5 (G : Globs) (k : Nat) (K : Int) : words_Valid.f G (k + 60) [cV false (farW false K) 2 5] [] = some (.nili, []) := by kernel_rfl
theorem fv_f6 (G : Globs) (k : Nat) (K : Int) : words_Valid.f G (k + 60) [cV false (farW false K) 2 6] [] = some (.nili, []) := by kernel_rfl
theorem fv_f7 (G : Globs) (k : Nat) (K : Int) : words_Valid.f G (k + 60) [cV false (farW false K) 2 7] [] = some (.nili, []) := by kernel_rfl
theorem fv_f8 (G : Globs) (k : Nat) (K : Int) : words_Valid.f G (k + 60) [cV false (farW false K) 2 8] [] = some (.nili, []) := by kernel_rfl
theorem fv_f9 (G : Globs) (k : Nat) (K : Int) : words_Valid.f G (k + 60) [cV false (farW false K) 2 9] [] = some (.nili, []) := by kernel_rfl
theorem fv_f10 (G : Globs) (k : Nat) (K : Int) : words_Valid.f G (k + 60) [cV false (farW false K) 2 10] [] = some (.nili, []) := by kernel_rfl
theorem fv_f11 (G : Globs) (k : Nat) (K : Int) : words_Valid.f G (k + 60) [cV false (farW false K) 2 11] [] = some (.nili, []) := by kernel_rfl
theorem fv_f12 (G : Globs) (k : Nat) (K : Int) : words_Valid.f G (k + 60) [cV false (farW false K) 2 12] [] = some (.nili, []) := by kernel_rfl
theorem fv_f13 (G : Globs) (k : Nat) (K : Int) : words_Valid.f G (k + 60) [cV false (farW false K) 2 13] [] = some (.nili, []) := by kernel_rfl
theorem fv_f14 (G : Globs) (k : Nat) (K : Int) : words_Valid.f G (k + 60) [cV false (farW false K) 2 14] [] = some (.nili, []) := by kernel_rfl
theorem fv_f15 (G : Globs) (k : Nat) (K : Int) : words_Valid.f G (k + 60) [cV false (farW false K) 2 15] [] = some (.nili, []) := by kernel_rfl
theorem fv_f16 (G : Globs) (k : Nat) (K : Int) : words_Valid.f G (k + 60) [cV false (farW false K) 2 16] [] = some (.nili, []) := by kernel_rfl
theorem fv_f17 (G : Globs) (k : Nat) (K : Int) : words_Valid.f G (k + 60) [cV false (farW false K) 2 17] [] = some (.nili, []) := by kernel_rfl
theorem fv_f18 (G : Globs) (k : Nat) (K : Int) : words_Valid.f G (k + 60) [cV false (farW false K) 2 18] [] = some (.nili, []) := by kernel_rfl
theorem fv_f19 (G : Globs) (k : Nat) (K : Int) : words_Valid.f G (k + 60) [cV false (farW false K) 2 19] [] = some (.nili, []) := by kernel_rfl
theorem fv_f20 (G : Globs) (k : Nat) (K : Int) : words_Valid.f G (k + 60) [cV false (farW false K) 2 20] [] = some (.nili, []) := by kernel_rfl
theorem fv_f21 (G : Globs) (k : Nat) (K : Int) : words_Valid.f G (k + 60) [cV false (farW false K) 2 21] [] = some (.nili, []) := by kernel_rfl
theorem fv_f22 (G : Globs) (k : Nat) (K : Int) : words_Valid.f G (k + 60) [cV false (farW false K) 2 22] [] = some (.nili, []) := by kernel_rfl
theorem fv_f23 (G : Globs) (k : Nat) (K : Int) : words_Valid.f G (k + 60) [cV false (farW false K) 2 23] [] = some (.nili, []) := by kernel_rfl
theorem fv_f24 (G : Globs) (k : Nat) (K : Int) : words_Valid.f G (k + 60) [cV false (farW false K) 2 24] [] = some (.nili, []) := by kernel_rfl
theorem fv_f25 (G : Globs) (k : Nat) (K : Int) : words_Valid.f G (k + 60) [cV false (farW false K) 2 25] [] = some (.nili, []) := by kernel_rfl
theorem fv_f26 (G : Globs) (k : Nat) (K : Int) : words_Valid.f G (k + 60) [cV false (farW false K) 2 26] [] = some (.nili, []) := by kernel_rfl
theorem fv_f27 (G : Globs) (k : Nat) (K : Int) : words_Valid.f G (k + 60) [cV false (farW false K) 2 27] [] = some (.nili, []) := by kernel_rfl
theorem fv_f28 (G : Globs) (k : Nat) (K : Int) : words_Valid.f G (k + 60) [cV false (farW false K) 2 28] [] = some (.nili, []) := by kernel_rfl
theorem fv_f29 (G : Globs) (k : Nat) (K : Int) : words_Valid.f G (k + 60) [cV false (farW false K) 2 29] [] = some (.nili, []) := by kernel_rfl
theorem fv_f30 (G : Globs) (k : Nat) (K : Int) : words_Valid.f G (k + 60) [cV false (farW false K) 2 30] [] = some (.nili, []) := by kernel_rfl
theorem fv_f31 (G : Globs) (k : Nat) (K : Int) : words_Valid.f G (k + 60) [cV false (farW false K) 2 31] [] = some (.nili, []) := by kernel_rfl
theorem fv_f32 (G : Globs) (k : Nat) (K : Int) : words_Valid.f G (k + 60) [cV false (farW false K) 2 32] [] = some (.nili, []) := by kernel_rfl
theorem fv_f33 (G : Globs) (k : Nat) (K : Int) : words_Valid.f G (k + 60) [cV false (farW false K) 2 33] [] = some (.nili, []) := by kernel_rfl
theorem fv_f34 (G : Globs) (k : Nat) (K : Int) : words_Valid.f G (k + 60) [cV false (farW false K) 2 34] [] = some (.nili, []) := by kernel_rfl
theorem fv_f35 (G : Globs) (k : Nat) (K : Int) : words_Valid.f G (k + 60) [cV false (farW false K) 2 35] [] = some (.nili, []) := by kernel_rfl
theorem fv_f36 (G : Globs) (k : Nat) (K : Int) : words_Valid.f G (k + 60) [cV false (farW false K) 2 36] [] = some (.nili, []) := by kernel_rfl
theorem fv_f37 (G : Globs) (k : Nat) (K : Int) : words_Valid.f G (k + 60) [cV false (farW false K) 2 37] [] = some (.nili, []) := by kernel_rfl
theorem fv_f38 (G : Globs) (k : Nat) (K : Int) : words_Valid.f G (k + 60) [cV false (farW false K) 2 38] [] = some (.nili, []) := by kernel_rfl
theorem fv_f39 (G : Globs) (k : Nat) (K : Int) : words_Valid.f G (k + 60) [cV false (farW false K) 2 39] [] = some (.nili, []) := by kernel_rfl
theorem fv_f40 (G : Globs) (k : Nat) (K : Int) : words_Valid.f G (k + 60) [cV false (farW false K) 2 40] [] = some (.nili, []) := by kernel_rfl
theorem fv_f41 (G : Globs) (k : Nat) (K : Int) : words_Valid.f G (k + 60) [cV false (farW false K) 2 41] [] = some (.nili, []) := by kernel_rfl
theorem fv_f42 (G : Globs) (k : Nat) (K : Int) : words_Valid.f G (k + 60) [cV false (farW false K) 2 42] [] = some (.nili, []) := by kernel_rfl
theorem fv_f43 (G : Globs) (k : Nat) (K : Int) : words_Valid.f G (k + 60) [cV false (farW false K) 2 43] [] = some (.nili, []) := by kernel_rfl
theorem fv_f44 (G : Globs) (k : Nat) (K : Int) : words_Valid.f G (k + 60) [cV false (farW false K) 2 44] [] = some (.nili, []) := by kernel_rfl
theorem fv_f45 (G : Globs) (k : Nat) (K : Int) : words_Valid.f G (k + 60) [cV false (farW false K) 2 45] [] = some (.nili, []) := by kernel_rfl
theorem fv_f46 (G : Globs) (k : Nat) (K : Int) : words_Valid.f G (k + 60) [cV false (farW false K) 2 46] [] = some (.nili, []) := by kernel_rfl
theorem fv_f47 (G : Globs) (k : Nat) (K : Int) : words_Valid.f G (k + 60) [cV false (farW false K) 2 47] [] = some (.nili, []) := by kernel_rfl
theorem fv_f48 (G : Globs) (k : Nat) (K : Int) : words_Valid.f G (k + 60) [cV false (farW false K) 2 48] [] = some (.nili, []) := by kernel_rfl
theorem fv_f49 (G : Globs) (k : Nat) (K : Int) : words_Valid.f G (k + 60) [cV false (farW false K) 2 49] [] = some (.nili, []) := by kernel_rfl
theorem fv_f50 (G : Globs) (k : Nat) (K : Int) : words_Valid.f G (k + 60) [cV false (farW false K) 2 50] [] = some (.nili, []) := by kernel_rfl
theorem far_vt (G : Globs) (k : Nat) (K : Int) : ∀ n : Nat, 1 ≤ n → n ≤ 50 → words_Valid.f G (k + 60) [cV false (farW true K) 2 (n : Int)] [] = some (.nili, [])
  | 0, h, _ => by omega
  | 1, _, _ => fv_t1 G k K
  | 2, _, _ => fv_t2 G k K
  | 3, _, _ => fv_t3 G k K
  | 4, _, _ => fv_t4 G k K
  | 5, _, _ => fv_t5 G k K
  | 6, _, _ => fv_t6 G k K
  | 7, _, _ => fv_t7 G k K
  | 8, _, _ => fv_t8 G k K
  | 9, _, _ => fv_t9 G k K
  | 10, _, _ => fv_t10 G k K
  | 11, _, _ => fv_t11 G k K
  | 12, _, _ => fv_t12 G k K
  | 13, _, _ => fv_t13 G k K
  | 14, _, _ => fv_t14 G k K
  | 15, _, _ => fv_t15 G k K
  | 16, _, _ => fv_t16 G k K
  | 17, _, _ => fv_t17 G k K
  | 18, _, _ => fv_t18 G k K
  | 19, _, _ => fv_t19 G k K
  | 20, _, _ => fv_t20 G k K
  | 21, _, _ => fv_t21 G k K
  | 22, _, _ => fv_t22 G k K
  | 23, _, _ => fv_t23 G k K
  | 24, _, _ => fv_t24 G k K
  | 25, _, _ => fv_t25 G k K
  | 26, _, _ => fv_t26 G k K
  | 27, _, _ => fv_t27 G k K
  | 28, _, _ => fv_t28 G k K
  | 29, _, _ => fv_t29 G k K
  | 30, _, _ => fv_t30 G k K
  | 31, _, _ => fv_t31 G k K
  | 32, _, _ => fv_t32 G k K
  | 33, _, _ => fv_t33 G k K
  | 34, _, _ => fv_t34 G k K
  | 35, _, _ => fv_t35 G k K
  | 36, _, _ => fv_t36 G k K
  | 37, _, _ => fv_t37 G k K
  | 38, _, _ => fv_t38 G k K
  | 39, _, _ => fv_t39 G k K
  | 40, _, _ => fv_t40 G k K
  | 41, _, _ => fv_t41 G k K
  | 42, _, _ => fv_t42 G k K
  | 43, _, _ => fv_t43 G k K
  | 44, _, _ => fv_t44 G k K
  | 45, _, _ => fv_t45 G k K
  | 46, _, _ => fv_t46 G k K
  | 47, _, _ => fv_t47 G k K
  | 48, _, _ => fv_t48 G k K
  | 49, _, _ => fv_t49 G k K
  | 50, _, _ => fv_t50 G k K
  | n + 51, _, h => by omega
theorem far_vf (G : Globs) (k : Nat) (K : Int) : ∀ n : Nat, 1 ≤ n → n ≤ 50 → words_Valid.f G (k + 60) [cV false (farW false K) 2 (n : Int)] [] = some (.nili, [])
  | 0, h, _ => by omega
  | 1, _, _ => fv_f1 G k K
  | 2, _, _ => fv_f2 G k K
  | 3, _, _ => fv_f3 G k K
  | 4, _, _ => fv_f4 G k K
  | 5, _, _ => fv_f5 G k K
  | 6, _, _ => fv_f6 G k K
  | 7, _, _ => fv_f7 G k K
  | 8, _, _ => fv_f8 G k K
  | 9, _, _ => fv_f9 G k K
  | 10, _, _ => fv_f10 G k K
  | 11, _, _ => fv_f11 G k K
  | 12, _, _ => fv_f12 G k K
  | 13, _, _ => fv_f13 G k K
  | 14, _, _ => fv_f14 G k K
  | 15, _, _ => fv_f15 G k K
  | 16, _, _ => fv_f16 G k K
  | 17, _, _ => fv_f17 G k K
  | 18, _, _ => fv_f18 G k K
  | 19, _, _ => fv_f19 G k K
  | 20, _, _ => fv_f20 G k K
  | 21, _, _ => fv_f21 G k K
  | 22, _, _ => fv_f22 G k K
  | 23, _, _ => fv_f23 G k K
  | 24, _, _ => fv_f24 G k K
  | 25, _, _ => fv_f25 G k K
  | 26, _, _ => fv_f26 G k K
  | 27, _, _ => fv_f27 G k K
  | 28, _, _ => fv_f28 G k K
  | 29, _, _ => fv_f29 G k K
  | 30, _, _ => fv_f30 G k K
  | 31, _, _ => fv_f31 G k K
  | 32, _, _ => fv_f32 G k K
  | 33, _, _ => fv_f33 G k K
  | 34, _, _ => fv_f34 G k K
  | 35, _, _ => fv_f35 G k K
  | 36, _, _ => fv_f36 G k K
  | 37, _, _ => fv_f37 G k K
  | 38, _, _ => fv_f38 G k K
  | 39, _, _ => fv_f39 G k K
  | 40, _, _ => fv_f40 G k K
  | 41, _, _ => fv_f41 G k K
  | 42, _, _ => fv_f42 G k K
  | 43, _, _ => fv_f43 G k K
  | 44, _, _ => fv_f44 G k K
  | 45, _, _ => fv_f45 G k K
  | 46, _, _ => fv_f46 G k K
  | 47, _, _ => fv_f47 G k K
  | 48, _, _ => fv_f48 G k K
  | 49, _, _ => fv_f49 G k K
  | 50, _, _ => fv_f50 G k K
  | n + 51, _, h => by omega
theorem far_v (G : Globs) (k : Nat) (ld : Bool) (K : Int) (n : Nat) (h1 : 1 ≤ n) (h2 : n ≤ 50) : words_Valid.f G (k + 60) [cV false (farW ld K) 2 (n : Int)] [] = some (.nili, []) := by
  cases ld
  · exact far_vf G k K n h1 h2
  · exact far_vt G k K n h1 h2
theorem far_sel (G : Globs) (k : Nat) (ld : Bool) (u : Nat) (hu : u < 18446744073709551616) (n : Nat) (h1 : 1 ≤ n) (h2 : n ≤ 50) (hk : 100 ≤ k) : sel_Select.f G (k + 12) [cV false (farW ld (s64 u)) 2 (n : Int)] [] = some (.tup [.ro false (codeW ((farO (constF 0 u) ld).map wordF)), .nili], []) := by
  have hK : u64 (s64 u) = u := u64_s64 u hu
  have hL := constF_len 0 u
  have hs0 := far_s0 ld (s64 u)
  have hs1 := far_s1 ld (s64 u)
  rw [hK] at hs0 hs1
  obtain ⟨hc, _⟩ := const_do 0 ⟨by decide, by decide⟩ u hu f00
  have ek : k + 11 = (k - 49) + 60 := by omega
  have hl4 : (farW ld (s64 u)).length = 4 := rfl
  have h := Select_ok G k (farW ld (s64 u)) 2 n (by rw [ek]; exact far_v G (k - 49) ld (s64 u) n h1 h2) (by decide)
    (by
        intro w hw
        unfold farW at hw
        simp only [List.mem_cons, List.not_mem_nil, or_false] at hw
        rcases hw with rfl | rfl | rfl | rfl
        · exact ⟨by decide, by decide⟩
        · exact ⟨by show (1 : Int) ≤ 1; decide, by show (1 : Int) ≤ 20; decide⟩
        · cases ld <;> exact ⟨by decide, by decide⟩
        · exact ⟨by decide, by decide⟩)
    (by rw [hl4]; decide) (by rw [hl4]; omega) _ rfl _ rfl
  rw [hl4] at h
  have e4 : ((4 : Nat) : Int) = 4 := rfl
  rw [e4, hs1, hs0] at h
  refine h ?_ ?_ ?_ ?_ ?_ ?_ ?_ ?_
  · simp
  · simp; omega
  · intro p hp
    simp only [List.mem_singleton] at hp
    subst hp
    refine ⟨by simp, by show (0 : Int) ≤ 4; decide, by show (4 : Int) < 5; decide⟩
  · intro q hq
    simp only [List.mem_cons, List.not_mem_nil, or_false] at hq
    omega
  · simp
  · simp; omega
  · simp; omega
  · exact farO_right 0 _ hc ld
end Go.Proofs.YtdfglgnflldkpaaDoor.Mir
namespace Go.Proofs.YtdfglgnflldkpaaDoor
open Go Mir
set_option linter.unusedVariables false
set_option linter.unusedSimpArgs false
set_option maxHeartbeats 8000000
set_option maxRecDepth 20000
theorem stRs (T : Nat) (j : Nat) (H : AHeap) (z cs : List AV) (hz : z.length = 35) (hc : cs.length = 35) (e : H[j]? = some ⟨T, 35, [.agg z]⟩) : stS (storeV 35 (.ptr j 1 0 0) (.agg cs) H) = some (.tup [], H.set j ⟨T, 35, [.agg cs]⟩) := by
  have e2 : putC z 0 cs = cs := by
    unfold putC
    rw [List.take_zero, List.nil_append, List.drop_of_length_le (by omega), List.append_nil]
  have e3 : (AV.agg cs).cells = cs := rfl
  have e4 : (AV.agg z).cells = z := rfl
  have hs : storable (.agg cs) = true := rfl
  unfold storeV
  simp only [e, List.length_singleton, hs, List.getElem?_cons_zero, e3]
  rw [if_pos (by refine ⟨?_, ?_, ?_⟩ <;> first | trivial | exact hc), e4, if_pos (by omega), e2]
  rfl
theorem first24 (G : Globs) (k : Nat) : alembiclaw24_first.f G (k + 80) [] [] = some (.bool true, []) := by kernel_rfl
theorem far_law (G : Globs) (u : Nat) (hu : u < 18446744073709551616) (m0 : Int) (hm0 : -9223372036854775808 ≤ m0 ∧ m0 < 9223372036854775808) (ld : Bool) : alembiclaw24_SelectFar.f G 8001 [Un u, I6 m0, .bool ld] [] = some (.bool true, []) := by
  obtain ⟨M, hM⟩ : ∃ M : Int, M = if m0 < 0 then -(m0 + 1) else m0 := ⟨_, rfl⟩
  have hM0 : 0 ≤ M ∧ M < 9223372036854775808 := by rw [hM]; split <;> omega
  obtain ⟨n, hn⟩ : ∃ n : Nat, (n : Int) = M % 50 + 1 := ⟨(M % 50 + 1).toNat, by omega⟩
  have h1 : 1 ≤ n := by omega
  have h2 : n ≤ 50 := by omega
  have rf : ∀ H, pureCall (alembiclaw24_first.f G 8000) [] H = _ := fun H => pureCall_of (H := H) (first24 G 7920) rfl rfl
  have r1 : bin Tryd.prog .rem 3 true (I6 M) (.int .i64 50) = some (I6 (M % 50)) := by
    have := @bin_rem Tryd.prog 3 true .i64 M 50 (by decide)
    rw [this, Int.tmod_eq_emod_of_nonneg hM0.1]
  have r2 : bin Tryd.prog .add 3 true (I6 (M % 50)) (.int .i64 1) = some (Nn n) := by
    rw [bin_add, wrap_of_i64 (by omega) (by omega), ← hn]
  have cv : convInt .i64 (Un u) = some (I6 (s64 u)) := conv_i64 u hu
  obtain ⟨L, hL⟩ : ∃ L : List Int, L = (farO (constF 0 u) ld).map wordF := ⟨_, rfl⟩
  have hLl : L.length ≤ 100 := by
    have := constF_len 0 u
    rw [hL]; simp [farO, farT]; omega
  have plW : plainL (codeW L) = true := plainL_map _ (fun _ => rfl) L
  have clW : cleanL (codeW L) = true := cleanL_map _ (fun _ => rfl) L
  have hsel := far_sel G 7988 ld u hu n h1 h2 (by decide)
  rw [← hL] at hsel
  have plC : plainL [cV false (farW ld (s64 u)) 2 (n : Int)] = true := by
    have : plainL (wInsts (farW ld (s64 u))) = true := plainL_map _ (fun _ => rfl) _
    simp [cV, plainL, plainB, this]
  have sc : ∀ H, pureCall (sel_Select.f G 8000) [cV false (farW ld (s64 u)) 2 (n : Int)] H = _ := fun H => pureCall_of (H := H) hsel plC (by simp [cleanB, cleanL, clW])
  have hww : ∀ w ∈ L, 0 ≤ w ∧ w < 4294967296 := by
    intro w hw
    rw [hL] at hw
    obtain ⟨i, hi, rfl⟩ := List.mem_map.1 hw
    have hr := farO_right 0 _ (const_do 0 ⟨by decide, by decide⟩ u hu f00).1 ld i hi
    exact ⟨(word_all hr).1, (word_all hr).2.1⟩
  obtain ⟨mem, hmem⟩ : ∃ mem : List Nat, mem = List.replicate n 0 := ⟨_, rfl⟩
  have hml : mem.length = n := by rw [hmem]; simp
  have hmm : ∀ x ∈ mem, x < 18446744073709551616 := by
    intro x hx
    rw [hmem] at hx
    have := List.eq_of_mem_replicate hx
    omega
  obtain ⟨s, hs, e1⟩ := far_run ld u hu mem (by omega) 7979
  rw [← hL] at hs
  rw [hml] at e1
  have rl : s.regs.length = 31 := ((runQ_ok L 200 (by decide) _ _ _ hs (q0_ok 3 mem hmm (by omega)) (by simp only [q0]; decide)).1).rg.len
  have rc0 := RunMach_spec (G := G) (k := 7958) (bor := false) (cs := L) (fuel := 200) true mem hmm (by omega) (by decide) (by decide) (by omega) (by omega) hww s hs
  obtain ⟨R, hR⟩ : ∃ R, R = rsL (.ro false (natsU s.mem)) (.ro false (leaksV s.leaks)) s := ⟨_, rfl⟩
  have hRl := rsL_len (.ro false (natsU s.mem)) (.ro false (leaksV s.leaks)) s rl
  rw [← hR] at hRl
  have rc : ∀ (w C : AV), pureCall (alembicref17_RunMach.f G 8000) [.ro false (codeW L), .sl 2 n 0 n 1, .int .i64 200] [⟨60, 6, [w]⟩, ⟨24, 3, [C]⟩, ⟨43, 1, natsU mem⟩] = some (.agg R, [⟨60, 6, [w]⟩, ⟨24, 3, [C]⟩, ⟨43, 1, natsU mem⟩]) := fun w C => by
    rw [hR]
    exact pureCall_at (snapL_c (snap_plain (by simp [plainB, plW])) (snapL_c (snap_own (ty := 43) (xs := natsU mem) rfl (by rw [natsU_len, hml]) (allSz_U _) (plainU _)) (snapL_c (snap_plain rfl) snapL_n))) rc0 (endQ_clean s)
  obtain ⟨Z, hZ, hZl⟩ : ∃ Z, Z = rsL .nils .nils (q0 0 []) ∧ Z.length = 35 := ⟨_, rfl, rfl⟩
  have z0 : R[0]? = some (I6 s.code) := by rw [hR]; rfl
  have zz : (AV.agg [.int .i64 0, .nils, .int .u64 0, .int .u64 0, .int .u64 0, .int .u64 0, .int .u64 0, .int .u64 0, .int .u64 0, .int .u64 0, .int .u64 0, .int .u64 0, .int .u64 0, .int .u64 0, .int .u64 0, .int .u64 0, .int .u64 0, .int .u64 0, .int .u64 0, .int .u64 0, .int .u64 0, .int .u64 0, .int .u64 0, .int .u64 0, .int .u64 0, .int .u64 0, .int .u64 0, .int .u64 0, .int .u64 0, .int .u64 0, .int .u64 0, .int .u64 0, .int .u64 0, .nils, .int .i64 0]) = .agg (rsL .nils .nils (q0 0 [])) := rfl
  have ms : ∀ (w C : AV), makeSliceV 43 1 (.int .u64 0) (Nn n) (Nn n) [⟨60, 6, [w]⟩, ⟨24, 3, [C]⟩] = some (.sl 2 n 0 n 1, [⟨60, 6, [w]⟩, ⟨24, 3, [C]⟩, ⟨43, 1, natsU mem⟩]) := fun w C => by
    unfold makeSliceV
    simp only
    rw [if_pos (by omega), hmem]
    simp [natsU]
  have bx : ∀ (w C : AV), boxA 46 (.agg Z) [⟨60, 6, [w]⟩, ⟨24, 3, [C]⟩, ⟨43, 1, natsU mem⟩] = some (.ptr 3 1 0 0, [⟨60, 6, [w]⟩, ⟨24, 3, [C]⟩, ⟨43, 1, natsU mem⟩, ⟨46, 35, [.agg Z]⟩]) := fun w C => by rw [hZ]; rfl
  have sx : ∀ (w C : AV), stS (storeV 35 (.ptr 3 1 0 0) (.agg R) [⟨60, 6, [w]⟩, ⟨24, 3, [C]⟩, ⟨43, 1, natsU mem⟩, ⟨46, 35, [.agg Z]⟩]) = some (.tup [], [⟨60, 6, [w]⟩, ⟨24, 3, [C]⟩, ⟨43, 1, natsU mem⟩, ⟨46, 35, [.agg R]⟩]) := fun w C => stRs 46 3 [⟨60, 6, [w]⟩, ⟨24, 3, [C]⟩, ⟨43, 1, natsU mem⟩, ⟨46, 35, [.agg Z]⟩] Z R hZl hRl rfl
  have y0 : ∀ (w C : AV), loadV G false 1 (.ptr 3 1 0 0) [⟨60, 6, [w]⟩, ⟨24, 3, [C]⟩, ⟨43, 1, natsU mem⟩, ⟨46, 35, [.agg R]⟩] = some (I6 s.code) := fun w C => (show _ = R[0]? from rfl).trans z0
  have kz : fieldAddrV 0 (.ptr 3 1 0 0) = some (.ptr 3 1 0 0) := rfl
  have b1 : ∀ (w C : AV), boxA 24 (.agg [.nils, (.int .i64 0), (.int .i64 0)]) [⟨60, 6, [w]⟩] = some (.ptr 1 1 0 0, [⟨60, 6, [w]⟩, ⟨24, 3, [.agg [.nils, (.int .i64 0), (.int .i64 0)]]⟩]) := fun w C => rfl
  have b1 := fun w => b1 w .nils
  have q1 : bin Tryd.prog .eql 30 true .nili .nili = some (.bool true) := by kernel_rfl
  have p1 : bin Tryd.prog .add 43 true (Un u) (.int .u64 2) = some (Un ((u + 2) % 18446744073709551616)) := u64_add Tryd.prog 43 true u 2
  have p2 : convInt .u64 (Nn n) = some (Un n) := by
    rw [conv_u64]; congr 2; unfold u64; omega
  obtain ⟨y, hy⟩ : ∃ y, y = (u + 2) % 18446744073709551616 := ⟨_, rfl⟩
  rw [← hy] at e1 p1
  rw [alembiclaw24_SelectFar.step]
  unfold alembiclaw24_SelectFar.c
  rw [zz, ← hZ]
  have hcode : ∃ g : Bool, bin Tryd.prog .geq 43 false (Un y) (Un n) = some (.bool g) ∧ s.code = if g = true then 3 else 0 := by
    by_cases hyn : n ≤ y
    · exact ⟨true, q_geq_t (by omega), by rw [e1, if_pos hyn]; rfl⟩
    · exact ⟨false, q_geq_f (by omega), by rw [e1, if_neg hyn]; rfl⟩
  obtain ⟨g, p3, hcd⟩ := hcode
  rw [hcd] at y0
  clear hcd e1 hR hZ z0 zz hs hmm hml hmem rl hRl hZl hww plW clW hL hLl hsel plC rc0 hy hn
  generalize natsU mem = NM at *
  generalize codeW L = W at *
  refine e_in ?_
  by_cases hneg : m0 < 0
  · rw [if_pos hneg] at hM
    have u0 : bin Tryd.prog .lss 3 true (I6 m0) (.int .i64 0) = some (.bool true) := q_lss_t hneg
    have u1 : bin Tryd.prog .add 3 true (I6 m0) (.int .i64 1) = some (I6 (m0 + 1)) := by rw [bin_add, wrap_of_i64 (by omega) (by omega)]
    have u2 : un .neg (I6 (m0 + 1)) = some (I6 M) := by
      rw [hM]; simp [un]; rw [wrap_of_i64 (by omega) (by omega)]
    cases ld
    · have b0 : ∀ H, buildRo 6 4 (.agg [(.int .i64 0), (.int .i64 0), (.int .i64 0), (.int .i64 0), (.int .i64 0), (.int .i64 0)]) [(0, mV 1 1 0 0 0 77), (1, mV 1 0 0 0 0 (s64 u)), (2, mV 16 0 0 1 0 2), (3, mV 20 0 0 0 0 0)] H = some (.ro false (wInsts (farW false (s64 u))), H) := fun H => rfl
      have b2 : ∀ w : AV, stS (storeV 3 (.ptr 1 1 0 0) (.agg [.ro false (wInsts (farW false (s64 u))), I6 2, Nn n]) [⟨60, 6, [w]⟩, ⟨24, 3, [.agg [.nils, (.int .i64 0), (.int .i64 0)]]⟩]) = some (.tup [], [⟨60, 6, [w]⟩, ⟨24, 3, [cV false (farW false (s64 u)) 2 (n : Int)]⟩]) := fun w => rfl
      have b3 : ∀ w : AV, loadV G true 3 (.ptr 1 1 0 0) [⟨60, 6, [w]⟩, ⟨24, 3, [cV false (farW false (s64 u)) 2 (n : Int)]⟩] = some (cV false (farW false (s64 u)) 2 (n : Int)) := fun w => rfl
      generalize cV false (farW false (s64 u)) 2 (n : Int) = C at *
      generalize wInsts (farW false (s64 u)) = wi at *
      generalize s64 u = su at *
      cases g
      · have y0 : ∀ (w C : AV), loadV G false 1 (.ptr 3 1 0 0) [⟨60, 6, [w]⟩, ⟨24, 3, [C]⟩, ⟨43, 1, NM⟩, ⟨46, 35, [.agg R]⟩] = some (I6 0) := y0
        have p4 : bin Tryd.prog .eql 3 false (I6 0) (I6 0) = some (.bool true) := q_eql_t rfl
        have fx := And.intro rf <| And.intro r1 <| And.intro r2 <| And.intro cv <| And.intro u0 <| And.intro u1 <| And.intro u2 <| And.intro b0 <| And.intro b1 <| And.intro b2 <| And.intro b3 <| And.intro sc <| And.intro ms <| And.intro rc <| And.intro bx <| And.intro sx <| And.intro y0 <| And.intro kz <| And.intro q1 <| And.intro p1 <| And.intro p2 <| And.intro p3 <| p4
        refine wkB ?_
        exact w1b rfl
      · have y0 : ∀ (w C : AV), loadV G false 1 (.ptr 3 1 0 0) [⟨60, 6, [w]⟩, ⟨24, 3, [C]⟩, ⟨43, 1, NM⟩, ⟨46, 35, [.agg R]⟩] = some (I6 3) := y0
        have p4 : bin Tryd.prog .eql 3 false (I6 3) (I6 3) = some (.bool true) := q_eql_t rfl
        have fx := And.intro rf <| And.intro r1 <| And.intro r2 <| And.intro cv <| And.intro u0 <| And.intro u1 <| And.intro u2 <| And.intro b0 <| And.intro b1 <| And.intro b2 <| And.intro b3 <| And.intro sc <| And.intro ms <| And.intro rc <| And.intro bx <| And.intro sx <| And.intro y0 <| And.intro kz <| And.intro q1 <| And.intro p1 <| And.intro p2 <| And.intro p3 <| p4
        refine wkB ?_
        exact w1b rfl
    · have b0 : ∀ H, buildRo 6 4 (.agg [(.int .i64 0), (.int .i64 0), (.int .i64 0), (.int .i64 0), (.int .i64 0), (.int .i64 0)]) [(0, mV 1 1 0 0 0 77), (1, mV 1 0 0 0 0 (s64 u)), (2, mV 15 1 0 0 0 2), (3, mV 20 0 0 0 0 0)] H = some (.ro false (wInsts (farW true (s64 u))), H) := fun H => rfl
      have b2 : ∀ w : AV, stS (storeV 3 (.ptr 1 1 0 0) (.agg [.ro false (wInsts (farW true (s64 u))), I6 2, Nn n]) [⟨60, 6, [w]⟩, ⟨24, 3, [.agg [.nils, (.int .i64 0), (.int .i64 0)]]⟩]) = some (.tup [], [⟨60, 6, [w]⟩, ⟨24, 3, [cV false (farW true (s64 u)) 2 (n : Int)]⟩]) := fun w => rfl
      have b3 : ∀ w : AV, loadV G true 3 (.ptr 1 1 0 0) [⟨60, 6, [w]⟩, ⟨24, 3, [cV false (farW true (s64 u)) 2 (n : Int)]⟩] = some (cV false (farW true (s64 u)) 2 (n : Int)) := fun w => rfl
      generalize cV false (farW true (s64 u)) 2 (n : Int) = C at *
      generalize wInsts (farW true (s64 u)) = wi at *
      generalize s64 u = su at *
      cases g
      · have y0 : ∀ (w C : AV), loadV G false 1 (.ptr 3 1 0 0) [⟨60, 6, [w]⟩, ⟨24, 3, [C]⟩, ⟨43, 1, NM⟩, ⟨46, 35, [.agg R]⟩] = some (I6 0) := y0
        have p4 : bin Tryd.prog .eql 3 false (I6 0) (I6 0) = some (.bool true) := q_eql_t rfl
        have fx := And.intro rf <| And.intro r1 <| And.intro r2 <| And.intro cv <| And.intro u0 <| And.intro u1 <| And.intro u2 <| And.intro b0 <| And.intro b1 <| And.intro b2 <| And.intro b3 <| And.intro sc <| And.intro ms <| And.intro rc <| And.intro bx <| And.intro sx <| And.intro y0 <| And.intro kz <| And.intro q1 <| And.intro p1 <| And.intro p2 <| And.intro p3 <| p4
        refine wkB ?_
        exact w1b rfl
      · have y0 : ∀ (w C : AV), loadV G false 1 (.ptr 3 1 0 0) [⟨60, 6, [w]⟩, ⟨24, 3, [C]⟩, ⟨43, 1, NM⟩, ⟨46, 35, [.agg R]⟩] = some (I6 3) := y0
        have p4 : bin Tryd.prog .eql 3 false (I6 3) (I6 3) = some (.bool true) := q_eql_t rfl
        have fx := And.intro rf <| And.intro r1 <| And.intro r2 <| And.intro cv <| And.intro u0 <| And.intro u1 <| And.intro u2 <| And.intro b0 <| And.intro b1 <| And.intro b2 <| And.intro b3 <| And.intro sc <| And.intro ms <| And.intro rc <| And.intro bx <| And.intro sx <| And.intro y0 <| And.intro kz <| And.intro q1 <| And.intro p1 <| And.intro p2 <| And.intro p3 <| p4
        refine wkB ?_
        exact w1b rfl
  · rw [if_neg hneg] at hM
    have u0 : bin Tryd.prog .lss 3 true (I6 m0) (.int .i64 0) = some (.bool false) := q_lss_f (by omega)
    subst hM
    cases ld
    · have b0 : ∀ H, buildRo 6 4 (.agg [(.int .i64 0), (.int .i64 0), (.int .i64 0), (.int .i64 0), (.int .i64 0), (.int .i64 0)]) [(0, mV 1 1 0 0 0 77), (1, mV 1 0 0 0 0 (s64 u)), (2, mV 16 0 0 1 0 2), (3, mV 20 0 0 0 0 0)] H = some (.ro false (wInsts (farW false (s64 u))), H) := fun H => rfl
      have b2 : ∀ w : AV, stS (storeV 3 (.ptr 1 1 0 0) (.agg [.ro false (wInsts (farW false (s64 u))), I6 2, Nn n]) [⟨60, 6, [w]⟩, ⟨24, 3, [.agg [.nils, (.int .i64 0), (.int .i64 0)]]⟩]) = some (.tup [], [⟨60, 6, [w]⟩, ⟨24, 3, [cV false (farW false (s64 u)) 2 (n : Int)]⟩]) := fun w => rfl
      have b3 : ∀ w : AV, loadV G true 3 (.ptr 1 1 0 0) [⟨60, 6, [w]⟩, ⟨24, 3, [cV false (farW false (s64 u)) 2 (n : Int)]⟩] = some (cV false (farW false (s64 u)) 2 (n : Int)) := fun w => rfl
      generalize cV false (farW false (s64 u)) 2 (n : Int) = C at *
      generalize wInsts (farW false (s64 u)) = wi at *
      generalize s64 u = su at *
      cases g
      · have y0 : ∀ (w C : AV), loadV G false 1 (.ptr 3 1 0 0) [⟨60, 6, [w]⟩, ⟨24, 3, [C]⟩, ⟨43, 1, NM⟩, ⟨46, 35, [.agg R]⟩] = some (I6 0) := y0
        have p4 : bin Tryd.prog .eql 3 false (I6 0) (I6 0) = some (.bool true) := q_eql_t rfl
        have fx := And.intro rf <| And.intro r1 <| And.intro r2 <| And.intro cv <| And.intro u0 <| And.intro b0 <| And.intro b1 <| And.intro b2 <| And.intro b3 <| And.intro sc <| And.intro ms <| And.intro rc <| And.intro bx <| And.intro sx <| And.intro y0 <| And.intro kz <| And.intro q1 <| And.intro p1 <| And.intro p2 <| And.intro p3 <| p4
        refine wkB ?_
        exact w1b rfl
      · have y0 : ∀ (w C : AV), loadV G false 1 (.ptr 3 1 0 0) [⟨60, 6, [w]⟩, ⟨24, 3, [C]⟩, ⟨43, 1, NM⟩, ⟨46, 35, [.agg R]⟩] = some (I6 3) := y0
        have p4 : bin Tryd.prog .eql 3 false (I6 3) (I6 3) = some (.bool true) := q_eql_t rfl
        have fx := And.intro rf <| And.intro r1 <| And.intro r2 <| And.intro cv <| And.intro u0 <| And.intro b0 <| And.intro b1 <| And.intro b2 <| And.intro b3 <| And.intro sc <| And.intro ms <| And.intro rc <| And.intro bx <| And.intro sx <| And.intro y0 <| And.intro kz <| And.intro q1 <| And.intro p1 <| And.intro p2 <| And.intro p3 <| p4
        refine wkB ?_
        exact w1b rfl
    · have b0 : ∀ H, buildRo 6 4 (.agg [(.int .i64 0), (.int .i64 0), (.int .i64 0), (.int .i64 0), (.int .i64 0), (.int .i64 0)]) [(0, mV 1 1 0 0 0 77), (1, mV 1 0 0 0 0 (s64 u)), (2, mV 15 1 0 0 0 2), (3, mV 20 0 0 0 0 0)] H = some (.ro false (wInsts (farW true (s64 u))), H) := fun H => rfl
      have b2 : ∀ w : AV, stS (storeV 3 (.ptr 1 1 0 0) (.agg [.ro false (wInsts (farW true (s64 u))), I6 2, Nn n]) [⟨60, 6, [w]⟩, ⟨24, 3, [.agg [.nils, (.int .i64 0), (.int .i64 0)]]⟩]) = some (.tup [], [⟨60, 6, [w]⟩, ⟨24, 3, [cV false (farW true (s64 u)) 2 (n : Int)]⟩]) := fun w => rfl
      have b3 : ∀ w : AV, loadV G true 3 (.ptr 1 1 0 0) [⟨60, 6, [w]⟩, ⟨24, 3, [cV false (farW true (s64 u)) 2 (n : Int)]⟩] = some (cV false (farW true (s64 u)) 2 (n : Int)) := fun w => rfl
      generalize cV false (farW true (s64 u)) 2 (n : Int) = C at *
      generalize wInsts (farW true (s64 u)) = wi at *
      generalize s64 u = su at *
      cases g
      · have y0 : ∀ (w C : AV), loadV G false 1 (.ptr 3 1 0 0) [⟨60, 6, [w]⟩, ⟨24, 3, [C]⟩, ⟨43, 1, NM⟩, ⟨46, 35, [.agg R]⟩] = some (I6 0) := y0
        have p4 : bin Tryd.prog .eql 3 false (I6 0) (I6 0) = some (.bool true) := q_eql_t rfl
        have fx := And.intro rf <| And.intro r1 <| And.intro r2 <| And.intro cv <| And.intro u0 <| And.intro b0 <| And.intro b1 <| And.intro b2 <| And.intro b3 <| And.intro sc <| And.intro ms <| And.intro rc <| And.intro bx <| And.intro sx <| And.intro y0 <| And.intro kz <| And.intro q1 <| And.intro p1 <| And.intro p2 <| And.intro p3 <| p4
        refine wkB ?_
        exact w1b rfl
      · have y0 : ∀ (w C : AV), loadV G false 1 (.ptr 3 1 0 0) [⟨60, 6, [w]⟩, ⟨24, 3, [C]⟩, ⟨43, 1, NM⟩, ⟨46, 35, [.agg R]⟩] = some (I6 3) := y0
        have p4 : bin Tryd.prog .eql 3 false (I6 3) (I6 3) = some (.bool true) := q_eql_t rfl
        have fx := And.intro rf <| And.intro r1 <| And.intro r2 <| And.intro cv <| And.intro u0 <| And.intro b0 <| And.intro b1 <| And.intro b2 <| And.intro b3 <| And.intro sc <| And.intro ms <| And.intro rc <| And.intro bx <| And.intro sx <| And.intro y0 <| And.intro kz <| And.intro q1 <| And.intro p1 <| And.intro p2 <| And.intro p3 <| p4
        refine wkB ?_
        exact w1b rfl
theorem LSelectFar.law (xs : List AV) (h : IsTs Tryd.prog [43, 3, 4] xs) : ∃ k, alembiclaw24_SelectFar.f (sentG 180 [1, 0, 3, 2, 4]) k xs [] = some (.bool true, []) := by
  obtain ⟨x1, _, rfl, hx1, h⟩ := h.uncons
  obtain ⟨x2, _, rfl, hx2, h⟩ := h.uncons
  obtain ⟨x3, _, rfl, hx3, h⟩ := h.uncons
  obtain rfl := h.unnil
  obtain ⟨z, rfl, hw⟩ := hx1.of_int (k := .u64) Tryd.underlying43
  have hz := wf_u64 hw
  obtain ⟨m0, rfl, hw2⟩ := hx2.of_int (k := .i64) Tryd.underlying3
  obtain ⟨b, rfl⟩ := hx3.of_bool Tryd.underlying4
  obtain ⟨u, rfl⟩ : ∃ u : Nat, z = (u : Int) := ⟨z.toNat, by omega⟩
  exact ⟨8001, far_law _ u (by omega) m0 (wf_i64 hw2) b⟩
end Go.Proofs.YtdfglgnflldkpaaDoor
namespace Go.Proofs.YtdfglgnflldkpaaDoor
open Go Go.ChangeShapes Go.WideShapes Go.RowKit Mir
set_option linter.unusedVariables false
set_option linter.unusedSimpArgs false
namespace RSelectFar
noncomputable def laidWorld (os : Os) : World :=
  let w0 := World.holding Tryd.prog os ⟨#[.cells #[.string ⟨#[97, 32, 110, 117, 109, 98, 101, 114, 32, 111, 117, 116, 32, 111, 102, 32, 105, 116, 115, 32, 114, 97, 110, 103, 101]⟩] 197, .cells #[.string ⟨#[116, 111, 111, 32, 109, 97, 110, 121]⟩] 197, .cells #[.string ⟨#[110, 111, 116, 32, 97, 115, 32, 105, 116, 32, 104, 97, 115, 32, 116, 111, 32, 98, 101]⟩] 197, .cells #[.string ⟨#[110, 111, 32, 115, 117, 99, 104, 32, 116, 104, 105, 110, 103, 32, 116, 111, 32, 100, 111]⟩] 197, .cells #[.string ⟨#[110, 111, 32, 115, 117, 99, 104, 32, 112, 108, 97, 99, 101]⟩] 197], #[], []⟩
  { w0 with heap := w0.heap
    |>.modify 1 (fun
      | .cells _ t frozen => .cells #[.iface 180 (.pointer (some ⟨Rk.low, 0, none⟩))] t frozen
      | o => o)
    |>.modify 0 (fun
      | .cells _ t frozen => .cells #[.iface 180 (.pointer (some ⟨Rk.low + 1, 0, none⟩))] t frozen
      | o => o)
    |>.modify 3 (fun
      | .cells _ t frozen => .cells #[.iface 180 (.pointer (some ⟨Rk.low + 2, 0, none⟩))] t frozen
      | o => o)
    |>.modify 2 (fun
      | .cells _ t frozen => .cells #[.iface 180 (.pointer (some ⟨Rk.low + 3, 0, none⟩))] t frozen
      | o => o)
    |>.modify 4 (fun
      | .cells _ t frozen => .cells #[.iface 180 (.pointer (some ⟨Rk.low + 4, 0, none⟩))] t frozen
      | o => o) }
theorem laidWorld_met (os : Os) (args : Array Value) : laidMetH Tryd.prog ([("alembic/api.ErrRange", Rows.laid_alembic_api_ErrRange), ("alembic/api.ErrMany", Rows.laid_alembic_api_ErrMany), ("alembic/api.ErrShape", Rows.laid_alembic_api_ErrShape), ("alembic/api.ErrOp", Rows.laid_alembic_api_ErrOp), ("alembic/api.ErrLabel", Rows.laid_alembic_api_ErrLabel)] : List (String × DataW Unit)) ((laidWorld os).forCall (fun _ _ => 0) ⟨#[], args, []⟩).memory :=
  laidMet_of_run (ps := [.cell 1 0, .cell (Rk.low) 0, .cell 0 0, .cell (Rk.low + 1) 0, .cell 3 0, .cell (Rk.low + 2) 0, .cell 2 0, .cell (Rk.low + 3) 0, .cell 4 0, .cell (Rk.low + 4) 0]) 8 (by kernel_rfl) (by kernel_rfl) (by kernel_rfl)
theorem sentL : SentL Tryd.prog 30 [("alembic/api.ErrRange", Rows.laid_alembic_api_ErrRange), ("alembic/api.ErrMany", Rows.laid_alembic_api_ErrMany), ("alembic/api.ErrShape", Rows.laid_alembic_api_ErrShape), ("alembic/api.ErrOp", Rows.laid_alembic_api_ErrOp), ("alembic/api.ErrLabel", Rows.laid_alembic_api_ErrLabel)] [1, 0, 3, 2, 4] := ⟨by kernel_rfl, by kernel_rfl, ⟨_, rfl⟩, by kernel_rfl, by kernel_rfl, ⟨_, rfl⟩, by kernel_rfl, by kernel_rfl, ⟨_, rfl⟩, by kernel_rfl, by kernel_rfl, ⟨_, rfl⟩, by kernel_rfl, by kernel_rfl, ⟨_, rfl⟩, trivial⟩
theorem sent {W : World} (h : laidMetH Tryd.prog ([("alembic/api.ErrRange", Rows.laid_alembic_api_ErrRange), ("alembic/api.ErrMany", Rows.laid_alembic_api_ErrMany), ("alembic/api.ErrShape", Rows.laid_alembic_api_ErrShape), ("alembic/api.ErrOp", Rows.laid_alembic_api_ErrOp), ("alembic/api.ErrLabel", Rows.laid_alembic_api_ErrLabel)] : List (String × DataW Unit)) W) : ∃ S, SentS W 180 [1, 0, 3, 2, 4] S :=
  sent_of_laid Tryd.underlying30 Rk.row Tryd.underlying180 Tryd.underlying197 rfl rfl Tryd.underlying9 (by kernel_rfl) (by kernel_rfl) sentL (by decide) h
theorem plainTs : ∀ t ∈ ([43, 3, 4] : List Nat), plainT Tryd.prog [43, 3, 4] t = true := List.all_eq_true.1 (by kernel_rfl)
set_option maxRecDepth 100000 in
theorem lifted (os : Os) (started : os.Started) (H : Type) (enc : TypeId × Value → H) :
    ReturnsInHanded {} Tryd.checked os 7 .any (fun w args => (Rows.selectFarSpec.pre enc Tryd.prog Tryd.f7 [] false w args ∧ laidMetH Tryd.prog ([("alembic/api.ErrRange", Rows.laid_alembic_api_ErrRange), ("alembic/api.ErrMany", Rows.laid_alembic_api_ErrMany), ("alembic/api.ErrShape", Rows.laid_alembic_api_ErrShape), ("alembic/api.ErrOp", Rows.laid_alembic_api_ErrOp), ("alembic/api.ErrLabel", Rows.laid_alembic_api_ErrLabel)] : List (String × DataW Unit)) w) ∧ sizedMet enc Tryd.prog Tryd.f7 (OpenSpec.ofChange Rows.selectFarSpec) false w args)
      (Rows.selectFarSpec.post enc Tryd.prog Tryd.f7 false true false false) := by
  refine returnsInHanded_of_change_and (C := Tryd.checked) (X := fun w _ => laidMetH Tryd.prog ([("alembic/api.ErrRange", Rows.laid_alembic_api_ErrRange), ("alembic/api.ErrMany", Rows.laid_alembic_api_ErrMany), ("alembic/api.ErrShape", Rows.laid_alembic_api_ErrShape), ("alembic/api.ErrOp", Rows.laid_alembic_api_ErrOp), ("alembic/api.ErrLabel", Rows.laid_alembic_api_ErrLabel)] : List (String × DataW Unit)) w) (fun _ _ _ hh h => h.of_heap hh) Rk.own started (by kernel_rfl) Tryd.func7
    (ChangeSpec.witness_at (enc := enc) (C := Tryd.checked) (os := os) (X := fun w _ => laidMetH Tryd.prog ([("alembic/api.ErrRange", Rows.laid_alembic_api_ErrRange), ("alembic/api.ErrMany", Rows.laid_alembic_api_ErrMany), ("alembic/api.ErrShape", Rows.laid_alembic_api_ErrShape), ("alembic/api.ErrOp", Rows.laid_alembic_api_ErrOp), ("alembic/api.ErrLabel", Rows.laid_alembic_api_ErrLabel)] : List (String × DataW Unit)) w) false (laidWorld os) #[.int .u64 0, .int .i64 0, .bool false] 8 rfl (by kernel_rfl) (by kernel_rfl) (by kernel_rfl) (by kernel_rfl) (by kernel_rfl) (laidWorld_met os _)) ?_
  intro W base args ds gs before hval0 hW _ _ hL _
  obtain ⟨S, hS⟩ := sent hL
  have hval : ∀ (j : Nat) t v, Tryd.f7.params.toList[j]? = some t → args.toList[j]? = some v → Value.okWide Tryd.prog W .any base t v := fun j t v h1 h2 => hval0 j t v (by simpa using h1) (by simpa using h2)
  have hW' := hW
  obtain ⟨p, q, hA, _, _, _, _⟩ := hW
  have hpar : Tryd.f7.params.toList = [43, 3, 4] := by rw [Tryd.params7]
  rw [hpar] at hval
  replace hA : DataW.TrodAll enc Tryd.prog W 0 (fun _ => true) true Tryd.f7.params.toList args.toList ds p := hA
  rw [hpar] at hA
  obtain ⟨xs, h1, h2⟩ := read_args plainTs (by decide) hval hA
  obtain ⟨k, hk⟩ := LSelectFar.law xs h1
  have hc := calls_top (Mir.alembiclaw24_SelectFar.sound (sentG_plain _ _) k) hk (good_top hS) h2
  rw [Array.toArray_toList] at hc
  refine hc.mono fun e W' ⟨he, hb⟩ => ⟨_, he, ?_⟩
  exact post_top rfl hpar (by kernel_rfl) Tryd.underlying4 (fun ds hd => by
    obtain ⟨d0, d1, d2, rfl⟩ : ∃ d0 d1 d2, ds = [d0, d1, d2] := by
      match ds, hd with
      | [d0, d1, d2], _ => exact ⟨d0, d1, d2, rfl⟩
    rfl) Rk.laidOut (by kernel_rfl) hW' hb
theorem holds : Rows.SelectFarSaid :=
  OpenClaim.holds_of_wide 7 Tryd.f7 rfl rfl rfl rfl rfl rfl rfl ⟨rfl, rfl, rfl, rfl, rfl⟩ rfl rfl rfl rfl rfl (by kernel_rfl) Tryd.func7 (by kernel_rfl)
    (of_decide_eq_true (by kernel_rfl)) (by unfold Func.isWrapper; first | (rw [if_pos (by decide +kernel)]; kernel_rfl) | (rw [if_neg (by decide +kernel)]; exact ⟨rfl, rfl⟩))
    (fun os started H enc _ => lifted os started H enc)
theorem cardHolds : Rows.SelectFarCardSaid :=
  Claim7.holds_tied_plain_at .later [] [.sentinel, .sentinel, .sentinel, .sentinel, .sentinel] true (true, "92292b04e853d01d8cf3885d4f753a51952eaef99bf2156408a64e96f17010d7") true
    holds (fun _ h => by cases h) (by kernel_rfl) (fun _ h => by cases h) selectFar_row_tie rfl ⟨rfl, rfl⟩ (by kernel_rfl) rfl
    (fun f fn hf hfn => by
      obtain rfl : f = 7 := Option.some.inj ((show Tryd.prog.funcNamed "alembic/alembiclaw24.SelectFar" = some 7 by kernel_rfl).symm.trans hf) |>.symm
      obtain rfl : fn = Tryd.f7 := (Option.some.inj (Tryd.func7.symm.trans hfn)).symm
      exact ⟨by kernel_rfl, fun j t ht => by
        have hm : t ∈ ([43, 3, 4] : List Nat) := by
          have := List.mem_of_getElem? (l := Tryd.f7.params.toList) (i := j) (by simpa using ht)
          rw [Tryd.params7] at this
          exact this
        have := List.all_eq_true.1 (show ([43, 3, 4] : List Nat).all (fun t => !Tryd.prog.wantsStandIn t) = true by kernel_rfl) t hm
        exact (by simpa using this : Tryd.prog.wantsStandIn t = false)⟩)
    (by kernel_rfl)
end RSelectFar
end Go.Proofs.YtdfglgnflldkpaaDoor
