/- Part 9 of the proof: what these functions do. -/
import Derived.Test.YtlkgkfgkiidhdaaDoorVj8
import Derived.KernelRfl
namespace Go.Proofs.YtlkgkfgkiidhdaaDoor.Mir
open Go
set_option linter.unusedSimpArgs false
set_option linter.unusedVariables false
set_option maxHeartbeats 8000000
set_option maxRecDepth 20000
section
variable (A : AX) (s : LS) (G : aG) (k : Nat)
def TT (w i : WI) (f : Frm) : aB := [⟨29, 6, [w.v]⟩, ⟨29, 6, [i.v]⟩, ⟨100, 6, [fL (cE w.op) f]⟩]
theorem hJ (w i : WI) (f : Frm) : Pl (TT w i f) := fun n => by simp [TT, dB, bX, bW, WI.v, fL]
theorem xY (w : WI) : Pl [⟨29, 6, [w.v]⟩] := fun n => by simp [dB, bX, bW, WI.v]
theorem iB (s : LS) (l : List WI) : (s.put l).out.length = s.out.length + l.length := by simp [LS.put]
theorem aLg (hW : A.W) (w : WI) {fk : Bool} (F : Frm) (hF : F = ⟨false, false, false, false, fk⟩) (hf : dC w.op = F) (hn : ¬ (w.op = 15 ∨ w.op = 16)) (ha : F.a = true → 0 ≤ w.a ∧ w.a < A.R) (hb : F.b = true → 0 ≤ w.b ∧ w.b < A.R) (hc : F.c = true → 0 ≤ w.c ∧ w.c < A.R) (hd : F.d = true → 0 ≤ w.d ∧ w.d < A.R) (hs : s.out.length ≤ 800000) :
  bB (aZ.f G (k + 10)) [BX, w.v] (A.hp s [⟨29, 6, [w.v]⟩]) = some (.tup [], A.hp (s.put (A.L.one w)) [⟨29, 6, [w.v]⟩]) := by
 apply jU
 rw [aZ.step]
 unfold aZ.c
 rw [jV]
 have r0 : ∀ H, bF (dK.f G (k + 9)) [I6 w.op] H = _ := fun H => dO (H := H) (iD G (k + 5) w.op) rfl rfl
 rw [hf] at r0
 have b1 : fW 29 w.v (A.hp s [⟨29, 6, [w.v]⟩]) = some (.ptr 11 1 0 0, A.hp s [⟨29, 6, [w.v]⟩, ⟨29, 6, [w.v]⟩]) := rfl
 have b2 : fW 100 (.agg [(.str ⟨#[]⟩), (.bool false), (.bool false), (.bool false), (.bool false), (.bool false)]) (A.hp s [⟨29, 6, [w.v]⟩, ⟨29, 6, [w.v]⟩]) = some (.ptr 12 1 0 0, A.hp s [⟨29, 6, [w.v]⟩, ⟨29, 6, [w.v]⟩, ⟨100, 6, [(.agg [(.str ⟨#[]⟩), (.bool false), (.bool false), (.bool false), (.bool false), (.bool false)])]⟩]) := rfl
 have st : fM (aV 6 (.ptr 12 1 0 0) (fL (cE w.op) F) (A.hp s [⟨29, 6, [w.v]⟩, ⟨29, 6, [w.v]⟩, ⟨100, 6, [(.agg [(.str ⟨#[]⟩), (.bool false), (.bool false), (.bool false), (.bool false), (.bool false)])]⟩])) = some (.tup [], A.hp s (TT w w F)) := rfl
 have fi0 : aA 0 (.ptr 11 1 0 0) = some (.ptr 11 1 0 0) := rfl
 have fi1 : aA 1 (.ptr 11 1 0 0) = some (.ptr 11 1 0 1) := rfl
 have fi2 : aA 2 (.ptr 11 1 0 0) = some (.ptr 11 1 0 2) := rfl
 have fi3 : aA 3 (.ptr 11 1 0 0) = some (.ptr 11 1 0 3) := rfl
 have fi4 : aA 4 (.ptr 11 1 0 0) = some (.ptr 11 1 0 4) := rfl
 have fi5 : aA 5 (.ptr 11 1 0 0) = some (.ptr 11 1 0 5) := rfl
 have ff1 : aA 1 (.ptr 12 1 0 0) = some (.ptr 12 1 0 1) := rfl
 have ff2 : aA 2 (.ptr 12 1 0 0) = some (.ptr 12 1 0 2) := rfl
 have ff3 : aA 3 (.ptr 12 1 0 0) = some (.ptr 12 1 0 3) := rfl
 have ff4 : aA 4 (.ptr 12 1 0 0) = some (.ptr 12 1 0 4) := rfl
 have l0 : aF G false 1 (.ptr 11 1 0 0) (A.hp s (TT w w F)) = some (I6 w.op) := rfl
 have l0' : aF G false 1 (.ptr 11 1 0 0) (A.hp s [⟨29, 6, [w.v]⟩, ⟨29, 6, [w.v]⟩]) = some (I6 w.op) := rfl
 have eo := pE A.L hn
 have q15 : aU Tryd.prog .eql 3 true (I6 w.op) (.int .i64 15) = some (.bool false) := gN (by omega)
 have q16 : aU Tryd.prog .eql 3 true (I6 w.op) (.int .i64 16) = some (.bool false) := gN (by omega)
 have h0 : s.out.length ≤ 800000 := hs
 have lfa : aF G false 1 (.ptr 12 1 0 2) (A.hp s (TT w w F)) = some (.bool F.a) := rfl
 have lfb : aF G false 1 (.ptr 12 1 0 3) (A.hp s (TT w w F)) = some (.bool F.b) := rfl
 have lfc : aF G false 1 (.ptr 12 1 0 4) (A.hp s (TT w w F)) = some (.bool F.c) := rfl
 have lfd : aF G false 1 (.ptr 12 1 0 1) (A.hp s (TT w w F)) = some (.bool F.d) := rfl
 have l6 : aF G true 6 (.ptr 11 1 0 0) (A.hp s (TT w w F)) = some (WI.v w) := rfl
 have pt := gU A s (TT w w F) G (k + 8) (hJ w w F) w (by omega)
 have ein : A.L.ins w = ⟨w.op, w.d, w.a, w.b, w.c, w.k⟩ := by unfold LY.ins LY.rR; rw [hf, hF]; rfl
 have erd : A.L.rds w = [] := by unfold LY.rds LY.rC; rw [hf, hF]; simp
 have ewr : A.L.wrs w = [] := by unfold LY.wrs; rw [hf, hF]; rfl
 rw [ein, erd, ewr] at eo
 obtain ⟨sp, esp⟩ : ∃ t, t = s.put [⟨w.op, w.d, w.a, w.b, w.c, w.k⟩] := ⟨_, rfl⟩
 rw [← esp] at pt
 have es : s.put (A.L.one w) = sp := by rw [eo, esp]; simp only [lG, List.append_assoc, List.nil_append, List.append_nil]
 have fin := aAz A sp [⟨29, 6, [w.v]⟩] [⟨29, 6, [WI.v w]⟩, ⟨100, 6, [fL (cE w.op) F]⟩] (xY w)
 rw [es]
 have eT : [⟨29, 6, [w.v]⟩] ++ [⟨29, 6, [WI.v w]⟩, ⟨100, 6, [fL (cE w.op) F]⟩] = TT w w F := rfl
 rw [eT] at fin
 clear es eT eo ein erd ewr esp
 have gd : F.d = false := by rw [hF]
 have ga : F.a = false := by rw [hF]
 have gb : F.b = false := by rw [hF]
 have gc : F.c = false := by rw [hF]
 rw [gd] at lfd
 rw [ga] at lfa
 rw [gb] at lfb
 rw [gc] at lfc
 clear gd ga gb gc hF ha hb hc hd
 refine gL ?_
 have fx := aMP iG <| aMP r0 <| aMP b1 <| aMP b2 <| aMP st <| aMP fi0 <| aMP fi1 <| aMP fi2 <| aMP fi3 <| aMP fi4 <| aMP fi5 <| aMP ff1 <| aMP ff2 <| aMP ff3 <| aMP ff4 <| aMP l0 <| aMP l0' <| aMP q15 <| aMP q16 <| aMP lfa <| aMP lfb <| aMP lfc <| aMP lfd <| aMP l6 <| pt
 refine gE ?_
 exact oF fin
theorem aLh (hW : A.W) (w : WI) {fk : Bool} (F : Frm) (hF : F = ⟨false, true, false, false, fk⟩) (hf : dC w.op = F) (hn : ¬ (w.op = 15 ∨ w.op = 16)) (ha : F.a = true → 0 ≤ w.a ∧ w.a < A.R) (hb : F.b = true → 0 ≤ w.b ∧ w.b < A.R) (hc : F.c = true → 0 ≤ w.c ∧ w.c < A.R) (hd : F.d = true → 0 ≤ w.d ∧ w.d < A.R) (hs : s.out.length ≤ 800000) :
  bB (aZ.f G (k + 10)) [BX, w.v] (A.hp s [⟨29, 6, [w.v]⟩]) = some (.tup [], A.hp (s.put (A.L.one w)) [⟨29, 6, [w.v]⟩]) := by
 apply jU
 rw [aZ.step]
 unfold aZ.c
 rw [jV]
 have r0 : ∀ H, bF (dK.f G (k + 9)) [I6 w.op] H = _ := fun H => dO (H := H) (iD G (k + 5) w.op) rfl rfl
 rw [hf] at r0
 have b1 : fW 29 w.v (A.hp s [⟨29, 6, [w.v]⟩]) = some (.ptr 11 1 0 0, A.hp s [⟨29, 6, [w.v]⟩, ⟨29, 6, [w.v]⟩]) := rfl
 have b2 : fW 100 (.agg [(.str ⟨#[]⟩), (.bool false), (.bool false), (.bool false), (.bool false), (.bool false)]) (A.hp s [⟨29, 6, [w.v]⟩, ⟨29, 6, [w.v]⟩]) = some (.ptr 12 1 0 0, A.hp s [⟨29, 6, [w.v]⟩, ⟨29, 6, [w.v]⟩, ⟨100, 6, [(.agg [(.str ⟨#[]⟩), (.bool false), (.bool false), (.bool false), (.bool false), (.bool false)])]⟩]) := rfl
 have st : fM (aV 6 (.ptr 12 1 0 0) (fL (cE w.op) F) (A.hp s [⟨29, 6, [w.v]⟩, ⟨29, 6, [w.v]⟩, ⟨100, 6, [(.agg [(.str ⟨#[]⟩), (.bool false), (.bool false), (.bool false), (.bool false), (.bool false)])]⟩])) = some (.tup [], A.hp s (TT w w F)) := rfl
 have fi0 : aA 0 (.ptr 11 1 0 0) = some (.ptr 11 1 0 0) := rfl
 have fi1 : aA 1 (.ptr 11 1 0 0) = some (.ptr 11 1 0 1) := rfl
 have fi2 : aA 2 (.ptr 11 1 0 0) = some (.ptr 11 1 0 2) := rfl
 have fi3 : aA 3 (.ptr 11 1 0 0) = some (.ptr 11 1 0 3) := rfl
 have fi4 : aA 4 (.ptr 11 1 0 0) = some (.ptr 11 1 0 4) := rfl
 have fi5 : aA 5 (.ptr 11 1 0 0) = some (.ptr 11 1 0 5) := rfl
 have ff1 : aA 1 (.ptr 12 1 0 0) = some (.ptr 12 1 0 1) := rfl
 have ff2 : aA 2 (.ptr 12 1 0 0) = some (.ptr 12 1 0 2) := rfl
 have ff3 : aA 3 (.ptr 12 1 0 0) = some (.ptr 12 1 0 3) := rfl
 have ff4 : aA 4 (.ptr 12 1 0 0) = some (.ptr 12 1 0 4) := rfl
 have l0 : aF G false 1 (.ptr 11 1 0 0) (A.hp s (TT w w F)) = some (I6 w.op) := rfl
 have l0' : aF G false 1 (.ptr 11 1 0 0) (A.hp s [⟨29, 6, [w.v]⟩, ⟨29, 6, [w.v]⟩]) = some (I6 w.op) := rfl
 have eo := pE A.L hn
 have q15 : aU Tryd.prog .eql 3 true (I6 w.op) (.int .i64 15) = some (.bool false) := gN (by omega)
 have q16 : aU Tryd.prog .eql 3 true (I6 w.op) (.int .i64 16) = some (.bool false) := gN (by omega)
 have h0 : s.out.length ≤ 800000 := hs
 have lfa : aF G false 1 (.ptr 12 1 0 2) (A.hp s (TT w w F)) = some (.bool F.a) := rfl
 have va := ha (by rw [hF])
 have lia : aF G false 1 (.ptr 11 1 0 2) (A.hp s (TT w w F)) = some (I6 w.a) := rfl
 have rda := iX A s (TT w w F) G (k + 7) hW (hJ w w F) w.a 1 va (by omega)
 have lna := gX A.L w.a 1
 obtain ⟨sa, esa⟩ : ∃ t, t = s.put (A.L.rdC w.a 1) := ⟨_, rfl⟩
 rw [← esa] at rda
 have hsa : sa.out.length ≤ 800001 := by rw [esa, iB]; omega
 have sta : fM (aV 1 (.ptr 11 1 0 2) (I6 (A.L.rdR w.a 1)) (A.hp sa (TT w w F))) = some (.tup [], A.hp sa (TT w ⟨w.op, w.d, (A.L.rdR w.a 1), w.b, w.c, w.k⟩ F)) := rfl
 have lfb : aF G false 1 (.ptr 12 1 0 3) (A.hp sa (TT w ⟨w.op, w.d, (A.L.rdR w.a 1), w.b, w.c, w.k⟩ F)) = some (.bool F.b) := rfl
 have lfc : aF G false 1 (.ptr 12 1 0 4) (A.hp sa (TT w ⟨w.op, w.d, (A.L.rdR w.a 1), w.b, w.c, w.k⟩ F)) = some (.bool F.c) := rfl
 have lfd : aF G false 1 (.ptr 12 1 0 1) (A.hp sa (TT w ⟨w.op, w.d, (A.L.rdR w.a 1), w.b, w.c, w.k⟩ F)) = some (.bool F.d) := rfl
 have l6 : aF G true 6 (.ptr 11 1 0 0) (A.hp sa (TT w ⟨w.op, w.d, (A.L.rdR w.a 1), w.b, w.c, w.k⟩ F)) = some (WI.v ⟨w.op, w.d, (A.L.rdR w.a 1), w.b, w.c, w.k⟩) := rfl
 have pt := gU A sa (TT w ⟨w.op, w.d, (A.L.rdR w.a 1), w.b, w.c, w.k⟩ F) G (k + 8) (hJ w ⟨w.op, w.d, (A.L.rdR w.a 1), w.b, w.c, w.k⟩ F) ⟨w.op, w.d, (A.L.rdR w.a 1), w.b, w.c, w.k⟩ (by omega)
 have ein : A.L.ins w = ⟨w.op, w.d, (A.L.rdR w.a 1), w.b, w.c, w.k⟩ := by unfold LY.ins LY.rR; rw [hf, hF]; rfl
 have erd : A.L.rds w = A.L.rdC w.a 1 := by unfold LY.rds LY.rC; rw [hf, hF]; simp
 have ewr : A.L.wrs w = [] := by unfold LY.wrs; rw [hf, hF]; rfl
 rw [ein, erd, ewr] at eo
 obtain ⟨sp, esp⟩ : ∃ t, t = sa.put [⟨w.op, w.d, (A.L.rdR w.a 1), w.b, w.c, w.k⟩] := ⟨_, rfl⟩
 rw [← esp] at pt
 have es : s.put (A.L.one w) = sp := by rw [eo, esp, esa]; simp only [lG, List.append_assoc, List.nil_append, List.append_nil]
 have fin := aAz A sp [⟨29, 6, [w.v]⟩] [⟨29, 6, [WI.v ⟨w.op, w.d, (A.L.rdR w.a 1), w.b, w.c, w.k⟩]⟩, ⟨100, 6, [fL (cE w.op) F]⟩] (xY w)
 rw [es]
 have eT : [⟨29, 6, [w.v]⟩] ++ [⟨29, 6, [WI.v ⟨w.op, w.d, (A.L.rdR w.a 1), w.b, w.c, w.k⟩]⟩, ⟨100, 6, [fL (cE w.op) F]⟩] = TT w ⟨w.op, w.d, (A.L.rdR w.a 1), w.b, w.c, w.k⟩ F := rfl
 rw [eT] at fin
 clear es eT eo ein erd ewr esp esa
 have gd : F.d = false := by rw [hF]
 have ga : F.a = true := by rw [hF]
 have gb : F.b = false := by rw [hF]
 have gc : F.c = false := by rw [hF]
 rw [gd] at lfd
 rw [ga] at lfa
 rw [gb] at lfb
 rw [gc] at lfc
 clear gd ga gb gc hF ha hb hc hd
 refine gL ?_
 have fx := aMP iG <| aMP r0 <| aMP b1 <| aMP b2 <| aMP st <| aMP fi0 <| aMP fi1 <| aMP fi2 <| aMP fi3 <| aMP fi4 <| aMP fi5 <| aMP ff1 <| aMP ff2 <| aMP ff3 <| aMP ff4 <| aMP l0 <| aMP l0' <| aMP q15 <| aMP q16 <| aMP lfa <| aMP lia <| aMP rda <| aMP sta <| aMP lfb <| aMP lfc <| aMP lfd <| aMP l6 <| pt
 refine gE ?_
 exact oF fin
theorem aLi (hW : A.W) (w : WI) {fk : Bool} (F : Frm) (hF : F = ⟨true, false, false, false, fk⟩) (hf : dC w.op = F) (hn : ¬ (w.op = 15 ∨ w.op = 16)) (ha : F.a = true → 0 ≤ w.a ∧ w.a < A.R) (hb : F.b = true → 0 ≤ w.b ∧ w.b < A.R) (hc : F.c = true → 0 ≤ w.c ∧ w.c < A.R) (hd : F.d = true → 0 ≤ w.d ∧ w.d < A.R) (hs : s.out.length ≤ 800000) :
  bB (aZ.f G (k + 10)) [BX, w.v] (A.hp s [⟨29, 6, [w.v]⟩]) = some (.tup [], A.hp (s.put (A.L.one w)) [⟨29, 6, [w.v]⟩]) := by
 apply jU
 rw [aZ.step]
 unfold aZ.c
 rw [jV]
 have r0 : ∀ H, bF (dK.f G (k + 9)) [I6 w.op] H = _ := fun H => dO (H := H) (iD G (k + 5) w.op) rfl rfl
 rw [hf] at r0
 have b1 : fW 29 w.v (A.hp s [⟨29, 6, [w.v]⟩]) = some (.ptr 11 1 0 0, A.hp s [⟨29, 6, [w.v]⟩, ⟨29, 6, [w.v]⟩]) := rfl
 have b2 : fW 100 (.agg [(.str ⟨#[]⟩), (.bool false), (.bool false), (.bool false), (.bool false), (.bool false)]) (A.hp s [⟨29, 6, [w.v]⟩, ⟨29, 6, [w.v]⟩]) = some (.ptr 12 1 0 0, A.hp s [⟨29, 6, [w.v]⟩, ⟨29, 6, [w.v]⟩, ⟨100, 6, [(.agg [(.str ⟨#[]⟩), (.bool false), (.bool false), (.bool false), (.bool false), (.bool false)])]⟩]) := rfl
 have st : fM (aV 6 (.ptr 12 1 0 0) (fL (cE w.op) F) (A.hp s [⟨29, 6, [w.v]⟩, ⟨29, 6, [w.v]⟩, ⟨100, 6, [(.agg [(.str ⟨#[]⟩), (.bool false), (.bool false), (.bool false), (.bool false), (.bool false)])]⟩])) = some (.tup [], A.hp s (TT w w F)) := rfl
 have fi0 : aA 0 (.ptr 11 1 0 0) = some (.ptr 11 1 0 0) := rfl
 have fi1 : aA 1 (.ptr 11 1 0 0) = some (.ptr 11 1 0 1) := rfl
 have fi2 : aA 2 (.ptr 11 1 0 0) = some (.ptr 11 1 0 2) := rfl
 have fi3 : aA 3 (.ptr 11 1 0 0) = some (.ptr 11 1 0 3) := rfl
 have fi4 : aA 4 (.ptr 11 1 0 0) = some (.ptr 11 1 0 4) := rfl
 have fi5 : aA 5 (.ptr 11 1 0 0) = some (.ptr 11 1 0 5) := rfl
 have ff1 : aA 1 (.ptr 12 1 0 0) = some (.ptr 12 1 0 1) := rfl
 have ff2 : aA 2 (.ptr 12 1 0 0) = some (.ptr 12 1 0 2) := rfl
 have ff3 : aA 3 (.ptr 12 1 0 0) = some (.ptr 12 1 0 3) := rfl
 have ff4 : aA 4 (.ptr 12 1 0 0) = some (.ptr 12 1 0 4) := rfl
 have l0 : aF G false 1 (.ptr 11 1 0 0) (A.hp s (TT w w F)) = some (I6 w.op) := rfl
 have l0' : aF G false 1 (.ptr 11 1 0 0) (A.hp s [⟨29, 6, [w.v]⟩, ⟨29, 6, [w.v]⟩]) = some (I6 w.op) := rfl
 have eo := pE A.L hn
 have q15 : aU Tryd.prog .eql 3 true (I6 w.op) (.int .i64 15) = some (.bool false) := gN (by omega)
 have q16 : aU Tryd.prog .eql 3 true (I6 w.op) (.int .i64 16) = some (.bool false) := gN (by omega)
 have h0 : s.out.length ≤ 800000 := hs
 have lfa : aF G false 1 (.ptr 12 1 0 2) (A.hp s (TT w w F)) = some (.bool F.a) := rfl
 have lfb : aF G false 1 (.ptr 12 1 0 3) (A.hp s (TT w w F)) = some (.bool F.b) := rfl
 have lfc : aF G false 1 (.ptr 12 1 0 4) (A.hp s (TT w w F)) = some (.bool F.c) := rfl
 have lfd : aF G false 1 (.ptr 12 1 0 1) (A.hp s (TT w w F)) = some (.bool F.d) := rfl
 have vd := hd (by rw [hF])
 have lid : aF G false 1 (.ptr 11 1 0 1) (A.hp s (TT w w F)) = some (I6 w.d) := rfl
 have wr := mG A s (TT w w F) G (k + 8) hW (hJ w w F) w.d vd
 have std : fM (aV 1 (.ptr 11 1 0 1) (I6 (A.L.wrR w.d)) (A.hp s (TT w w F))) = some (.tup [], A.hp s (TT w ⟨w.op, A.L.wrR w.d, w.a, w.b, w.c, w.k⟩ F)) := rfl
 have l6 : aF G true 6 (.ptr 11 1 0 0) (A.hp s (TT w ⟨w.op, A.L.wrR w.d, w.a, w.b, w.c, w.k⟩ F)) = some (WI.v ⟨w.op, A.L.wrR w.d, w.a, w.b, w.c, w.k⟩) := rfl
 have pt := gU A s (TT w ⟨w.op, A.L.wrR w.d, w.a, w.b, w.c, w.k⟩ F) G (k + 8) (hJ w ⟨w.op, A.L.wrR w.d, w.a, w.b, w.c, w.k⟩ F) ⟨w.op, A.L.wrR w.d, w.a, w.b, w.c, w.k⟩ (by omega)
 have ein : A.L.ins w = ⟨w.op, A.L.wrR w.d, w.a, w.b, w.c, w.k⟩ := by unfold LY.ins LY.rR; rw [hf, hF]; rfl
 have erd : A.L.rds w = [] := by unfold LY.rds LY.rC; rw [hf, hF]; simp
 have ewr : A.L.wrs w = A.L.wrC w.d := by unfold LY.wrs; rw [hf, hF]; exact if_pos rfl
 rw [ein, erd, ewr] at eo
 obtain ⟨sp, esp⟩ : ∃ t, t = s.put [⟨w.op, A.L.wrR w.d, w.a, w.b, w.c, w.k⟩] := ⟨_, rfl⟩
 rw [← esp] at pt
 have wt := kB A sp (TT w ⟨w.op, A.L.wrR w.d, w.a, w.b, w.c, w.k⟩ F) G (k + 7) hW (hJ w ⟨w.op, A.L.wrR w.d, w.a, w.b, w.c, w.k⟩ F) w.d vd (by rw [esp, iB]; show _ + 1 ≤ _; omega)
 have es : s.put (A.L.one w) = sp.put (A.L.wrC w.d) := by rw [eo, esp]; simp only [lG, List.append_assoc, List.nil_append]
 have fin := aAz A (sp.put (A.L.wrC w.d)) [⟨29, 6, [w.v]⟩] [⟨29, 6, [WI.v ⟨w.op, A.L.wrR w.d, w.a, w.b, w.c, w.k⟩]⟩, ⟨100, 6, [fL (cE w.op) F]⟩] (xY w)
 rw [es]
 have eT : [⟨29, 6, [w.v]⟩] ++ [⟨29, 6, [WI.v ⟨w.op, A.L.wrR w.d, w.a, w.b, w.c, w.k⟩]⟩, ⟨100, 6, [fL (cE w.op) F]⟩] = TT w ⟨w.op, A.L.wrR w.d, w.a, w.b, w.c, w.k⟩ F := rfl
 rw [eT] at fin
 clear es eT eo ein erd ewr esp
 have gd : F.d = true := by rw [hF]
 have ga : F.a = false := by rw [hF]
 have gb : F.b = false := by rw [hF]
 have gc : F.c = false := by rw [hF]
 rw [gd] at lfd
 rw [ga] at lfa
 rw [gb] at lfb
 rw [gc] at lfc
 clear gd ga gb gc hF ha hb hc hd
 refine gL ?_
 have fx := aMP iG <| aMP r0 <| aMP b1 <| aMP b2 <| aMP st <| aMP fi0 <| aMP fi1 <| aMP fi2 <| aMP fi3 <| aMP fi4 <| aMP fi5 <| aMP ff1 <| aMP ff2 <| aMP ff3 <| aMP ff4 <| aMP l0 <| aMP l0' <| aMP q15 <| aMP q16 <| aMP lfa <| aMP lfb <| aMP lfc <| aMP lfd <| aMP lid <| aMP wr <| aMP std <| aMP l6 <| aMP pt <| wt
 refine gE ?_
 exact oF fin
theorem aGH (hW : A.W) (w : WI) {fk : Bool} (F : Frm) (hF : F = ⟨true, true, false, false, fk⟩) (hf : dC w.op = F) (hn : ¬ (w.op = 15 ∨ w.op = 16)) (ha : F.a = true → 0 ≤ w.a ∧ w.a < A.R) (hb : F.b = true → 0 ≤ w.b ∧ w.b < A.R) (hc : F.c = true → 0 ≤ w.c ∧ w.c < A.R) (hd : F.d = true → 0 ≤ w.d ∧ w.d < A.R) (hs : s.out.length ≤ 800000) :
  bB (aZ.f G (k + 10)) [BX, w.v] (A.hp s [⟨29, 6, [w.v]⟩]) = some (.tup [], A.hp (s.put (A.L.one w)) [⟨29, 6, [w.v]⟩]) := by
 apply jU
 rw [aZ.step]
 unfold aZ.c
 rw [jV]
 have r0 : ∀ H, bF (dK.f G (k + 9)) [I6 w.op] H = _ := fun H => dO (H := H) (iD G (k + 5) w.op) rfl rfl
 rw [hf] at r0
 have b1 : fW 29 w.v (A.hp s [⟨29, 6, [w.v]⟩]) = some (.ptr 11 1 0 0, A.hp s [⟨29, 6, [w.v]⟩, ⟨29, 6, [w.v]⟩]) := rfl
 have b2 : fW 100 (.agg [(.str ⟨#[]⟩), (.bool false), (.bool false), (.bool false), (.bool false), (.bool false)]) (A.hp s [⟨29, 6, [w.v]⟩, ⟨29, 6, [w.v]⟩]) = some (.ptr 12 1 0 0, A.hp s [⟨29, 6, [w.v]⟩, ⟨29, 6, [w.v]⟩, ⟨100, 6, [(.agg [(.str ⟨#[]⟩), (.bool false), (.bool false), (.bool false), (.bool false), (.bool false)])]⟩]) := rfl
 have st : fM (aV 6 (.ptr 12 1 0 0) (fL (cE w.op) F) (A.hp s [⟨29, 6, [w.v]⟩, ⟨29, 6, [w.v]⟩, ⟨100, 6, [(.agg [(.str ⟨#[]⟩), (.bool false), (.bool false), (.bool false), (.bool false), (.bool false)])]⟩])) = some (.tup [], A.hp s (TT w w F)) := rfl
 have fi0 : aA 0 (.ptr 11 1 0 0) = some (.ptr 11 1 0 0) := rfl
 have fi1 : aA 1 (.ptr 11 1 0 0) = some (.ptr 11 1 0 1) := rfl
 have fi2 : aA 2 (.ptr 11 1 0 0) = some (.ptr 11 1 0 2) := rfl
 have fi3 : aA 3 (.ptr 11 1 0 0) = some (.ptr 11 1 0 3) := rfl
 have fi4 : aA 4 (.ptr 11 1 0 0) = some (.ptr 11 1 0 4) := rfl
 have fi5 : aA 5 (.ptr 11 1 0 0) = some (.ptr 11 1 0 5) := rfl
 have ff1 : aA 1 (.ptr 12 1 0 0) = some (.ptr 12 1 0 1) := rfl
 have ff2 : aA 2 (.ptr 12 1 0 0) = some (.ptr 12 1 0 2) := rfl
 have ff3 : aA 3 (.ptr 12 1 0 0) = some (.ptr 12 1 0 3) := rfl
 have ff4 : aA 4 (.ptr 12 1 0 0) = some (.ptr 12 1 0 4) := rfl
 have l0 : aF G false 1 (.ptr 11 1 0 0) (A.hp s (TT w w F)) = some (I6 w.op) := rfl
 have l0' : aF G false 1 (.ptr 11 1 0 0) (A.hp s [⟨29, 6, [w.v]⟩, ⟨29, 6, [w.v]⟩]) = some (I6 w.op) := rfl
 have eo := pE A.L hn
 have q15 : aU Tryd.prog .eql 3 true (I6 w.op) (.int .i64 15) = some (.bool false) := gN (by omega)
 have q16 : aU Tryd.prog .eql 3 true (I6 w.op) (.int .i64 16) = some (.bool false) := gN (by omega)
 have h0 : s.out.length ≤ 800000 := hs
 have lfa : aF G false 1 (.ptr 12 1 0 2) (A.hp s (TT w w F)) = some (.bool F.a) := rfl
 have va := ha (by rw [hF])
 have lia : aF G false 1 (.ptr 11 1 0 2) (A.hp s (TT w w F)) = some (I6 w.a) := rfl
 have rda := iX A s (TT w w F) G (k + 7) hW (hJ w w F) w.a 1 va (by omega)
 have lna := gX A.L w.a 1
 obtain ⟨sa, esa⟩ : ∃ t, t = s.put (A.L.rdC w.a 1) := ⟨_, rfl⟩
 rw [← esa] at rda
 have hsa : sa.out.length ≤ 800001 := by rw [esa, iB]; omega
 have sta : fM (aV 1 (.ptr 11 1 0 2) (I6 (A.L.rdR w.a 1)) (A.hp sa (TT w w F))) = some (.tup [], A.hp sa (TT w ⟨w.op, w.d, (A.L.rdR w.a 1), w.b, w.c, w.k⟩ F)) := rfl
 have lfb : aF G false 1 (.ptr 12 1 0 3) (A.hp sa (TT w ⟨w.op, w.d, (A.L.rdR w.a 1), w.b, w.c, w.k⟩ F)) = some (.bool F.b) := rfl
 have lfc : aF G false 1 (.ptr 12 1 0 4) (A.hp sa (TT w ⟨w.op, w.d, (A.L.rdR w.a 1), w.b, w.c, w.k⟩ F)) = some (.bool F.c) := rfl
 have lfd : aF G false 1 (.ptr 12 1 0 1) (A.hp sa (TT w ⟨w.op, w.d, (A.L.rdR w.a 1), w.b, w.c, w.k⟩ F)) = some (.bool F.d) := rfl
 have vd := hd (by rw [hF])
 have lid : aF G false 1 (.ptr 11 1 0 1) (A.hp sa (TT w ⟨w.op, w.d, (A.L.rdR w.a 1), w.b, w.c, w.k⟩ F)) = some (I6 w.d) := rfl
 have wr := mG A sa (TT w ⟨w.op, w.d, (A.L.rdR w.a 1), w.b, w.c, w.k⟩ F) G (k + 8) hW (hJ w ⟨w.op, w.d, (A.L.rdR w.a 1), w.b, w.c, w.k⟩ F) w.d vd
 have std : fM (aV 1 (.ptr 11 1 0 1) (I6 (A.L.wrR w.d)) (A.hp sa (TT w ⟨w.op, w.d, (A.L.rdR w.a 1), w.b, w.c, w.k⟩ F))) = some (.tup [], A.hp sa (TT w ⟨w.op, A.L.wrR w.d, (A.L.rdR w.a 1), w.b, w.c, w.k⟩ F)) := rfl
 have l6 : aF G true 6 (.ptr 11 1 0 0) (A.hp sa (TT w ⟨w.op, A.L.wrR w.d, (A.L.rdR w.a 1), w.b, w.c, w.k⟩ F)) = some (WI.v ⟨w.op, A.L.wrR w.d, (A.L.rdR w.a 1), w.b, w.c, w.k⟩) := rfl
 have pt := gU A sa (TT w ⟨w.op, A.L.wrR w.d, (A.L.rdR w.a 1), w.b, w.c, w.k⟩ F) G (k + 8) (hJ w ⟨w.op, A.L.wrR w.d, (A.L.rdR w.a 1), w.b, w.c, w.k⟩ F) ⟨w.op, A.L.wrR w.d, (A.L.rdR w.a 1), w.b, w.c, w.k⟩ (by omega)
 have ein : A.L.ins w = ⟨w.op, A.L.wrR w.d, (A.L.rdR w.a 1), w.b, w.c, w.k⟩ := by unfold LY.ins LY.rR; rw [hf, hF]; rfl
 have erd : A.L.rds w = A.L.rdC w.a 1 := by unfold LY.rds LY.rC; rw [hf, hF]; simp
 have ewr : A.L.wrs w = A.L.wrC w.d := by unfold LY.wrs; rw [hf, hF]; exact if_pos rfl
 rw [ein, erd, ewr] at eo
 obtain ⟨sp, esp⟩ : ∃ t, t = sa.put [⟨w.op, A.L.wrR w.d, (A.L.rdR w.a 1), w.b, w.c, w.k⟩] := ⟨_, rfl⟩
 rw [← esp] at pt
 have wt := kB A sp (TT w ⟨w.op, A.L.wrR w.d, (A.L.rdR w.a 1), w.b, w.c, w.k⟩ F) G (k + 7) hW (hJ w ⟨w.op, A.L.wrR w.d, (A.L.rdR w.a 1), w.b, w.c, w.k⟩ F) w.d vd (by rw [esp, iB]; show _ + 1 ≤ _; omega)
 have es : s.put (A.L.one w) = sp.put (A.L.wrC w.d) := by rw [eo, esp, esa]; simp only [lG, List.append_assoc, List.nil_append]
 have fin := aAz A (sp.put (A.L.wrC w.d)) [⟨29, 6, [w.v]⟩] [⟨29, 6, [WI.v ⟨w.op, A.L.wrR w.d, (A.L.rdR w.a 1), w.b, w.c, w.k⟩]⟩, ⟨100, 6, [fL (cE w.op) F]⟩] (xY w)
 rw [es]
 have eT : [⟨29, 6, [w.v]⟩] ++ [⟨29, 6, [WI.v ⟨w.op, A.L.wrR w.d, (A.L.rdR w.a 1), w.b, w.c, w.k⟩]⟩, ⟨100, 6, [fL (cE w.op) F]⟩] = TT w ⟨w.op, A.L.wrR w.d, (A.L.rdR w.a 1), w.b, w.c, w.k⟩ F := rfl
 rw [eT] at fin
 clear es eT eo ein erd ewr esp esa
 have gd : F.d = true := by rw [hF]
 have ga : F.a = true := by rw [hF]
 have gb : F.b = false := by rw [hF]
 have gc : F.c = false := by rw [hF]
 rw [gd] at lfd
 rw [ga] at lfa
 rw [gb] at lfb
 rw [gc] at lfc
 clear gd ga gb gc hF ha hb hc hd
 refine gL ?_
 have fx := aMP iG <| aMP r0 <| aMP b1 <| aMP b2 <| aMP st <| aMP fi0 <| aMP fi1 <| aMP fi2 <| aMP fi3 <| aMP fi4 <| aMP fi5 <| aMP ff1 <| aMP ff2 <| aMP ff3 <| aMP ff4 <| aMP l0 <| aMP l0' <| aMP q15 <| aMP q16 <| aMP lfa <| aMP lia <| aMP rda <| aMP sta <| aMP lfb <| aMP lfc <| aMP lfd <| aMP lid <| aMP wr <| aMP std <| aMP l6 <| aMP pt <| wt
 refine gE ?_
 exact oF fin
theorem aIs (hW : A.W) (w : WI) {fk : Bool} (F : Frm) (hF : F = ⟨true, true, true, false, fk⟩) (hf : dC w.op = F) (hn : ¬ (w.op = 15 ∨ w.op = 16)) (ha : F.a = true → 0 ≤ w.a ∧ w.a < A.R) (hb : F.b = true → 0 ≤ w.b ∧ w.b < A.R) (hc : F.c = true → 0 ≤ w.c ∧ w.c < A.R) (hd : F.d = true → 0 ≤ w.d ∧ w.d < A.R) (hs : s.out.length ≤ 800000) :
  bB (aZ.f G (k + 10)) [BX, w.v] (A.hp s [⟨29, 6, [w.v]⟩]) = some (.tup [], A.hp (s.put (A.L.one w)) [⟨29, 6, [w.v]⟩]) := by
 apply jU
 rw [aZ.step]
 unfold aZ.c
 rw [jV]
 have r0 : ∀ H, bF (dK.f G (k + 9)) [I6 w.op] H = _ := fun H => dO (H := H) (iD G (k + 5) w.op) rfl rfl
 rw [hf] at r0
 have b1 : fW 29 w.v (A.hp s [⟨29, 6, [w.v]⟩]) = some (.ptr 11 1 0 0, A.hp s [⟨29, 6, [w.v]⟩, ⟨29, 6, [w.v]⟩]) := rfl
 have b2 : fW 100 (.agg [(.str ⟨#[]⟩), (.bool false), (.bool false), (.bool false), (.bool false), (.bool false)]) (A.hp s [⟨29, 6, [w.v]⟩, ⟨29, 6, [w.v]⟩]) = some (.ptr 12 1 0 0, A.hp s [⟨29, 6, [w.v]⟩, ⟨29, 6, [w.v]⟩, ⟨100, 6, [(.agg [(.str ⟨#[]⟩), (.bool false), (.bool false), (.bool false), (.bool false), (.bool false)])]⟩]) := rfl
 have st : fM (aV 6 (.ptr 12 1 0 0) (fL (cE w.op) F) (A.hp s [⟨29, 6, [w.v]⟩, ⟨29, 6, [w.v]⟩, ⟨100, 6, [(.agg [(.str ⟨#[]⟩), (.bool false), (.bool false), (.bool false), (.bool false), (.bool false)])]⟩])) = some (.tup [], A.hp s (TT w w F)) := rfl
 have fi0 : aA 0 (.ptr 11 1 0 0) = some (.ptr 11 1 0 0) := rfl
 have fi1 : aA 1 (.ptr 11 1 0 0) = some (.ptr 11 1 0 1) := rfl
 have fi2 : aA 2 (.ptr 11 1 0 0) = some (.ptr 11 1 0 2) := rfl
 have fi3 : aA 3 (.ptr 11 1 0 0) = some (.ptr 11 1 0 3) := rfl
 have fi4 : aA 4 (.ptr 11 1 0 0) = some (.ptr 11 1 0 4) := rfl
 have fi5 : aA 5 (.ptr 11 1 0 0) = some (.ptr 11 1 0 5) := rfl
 have ff1 : aA 1 (.ptr 12 1 0 0) = some (.ptr 12 1 0 1) := rfl
 have ff2 : aA 2 (.ptr 12 1 0 0) = some (.ptr 12 1 0 2) := rfl
 have ff3 : aA 3 (.ptr 12 1 0 0) = some (.ptr 12 1 0 3) := rfl
 have ff4 : aA 4 (.ptr 12 1 0 0) = some (.ptr 12 1 0 4) := rfl
 have l0 : aF G false 1 (.ptr 11 1 0 0) (A.hp s (TT w w F)) = some (I6 w.op) := rfl
 have l0' : aF G false 1 (.ptr 11 1 0 0) (A.hp s [⟨29, 6, [w.v]⟩, ⟨29, 6, [w.v]⟩]) = some (I6 w.op) := rfl
 have eo := pE A.L hn
 have q15 : aU Tryd.prog .eql 3 true (I6 w.op) (.int .i64 15) = some (.bool false) := gN (by omega)
 have q16 : aU Tryd.prog .eql 3 true (I6 w.op) (.int .i64 16) = some (.bool false) := gN (by omega)
 have h0 : s.out.length ≤ 800000 := hs
 have lfa : aF G false 1 (.ptr 12 1 0 2) (A.hp s (TT w w F)) = some (.bool F.a) := rfl
 have va := ha (by rw [hF])
 have lia : aF G false 1 (.ptr 11 1 0 2) (A.hp s (TT w w F)) = some (I6 w.a) := rfl
 have rda := iX A s (TT w w F) G (k + 7) hW (hJ w w F) w.a 1 va (by omega)
 have lna := gX A.L w.a 1
 obtain ⟨sa, esa⟩ : ∃ t, t = s.put (A.L.rdC w.a 1) := ⟨_, rfl⟩
 rw [← esa] at rda
 have hsa : sa.out.length ≤ 800001 := by rw [esa, iB]; omega
 have sta : fM (aV 1 (.ptr 11 1 0 2) (I6 (A.L.rdR w.a 1)) (A.hp sa (TT w w F))) = some (.tup [], A.hp sa (TT w ⟨w.op, w.d, (A.L.rdR w.a 1), w.b, w.c, w.k⟩ F)) := rfl
 have lfb : aF G false 1 (.ptr 12 1 0 3) (A.hp sa (TT w ⟨w.op, w.d, (A.L.rdR w.a 1), w.b, w.c, w.k⟩ F)) = some (.bool F.b) := rfl
 have vb := hb (by rw [hF])
 have lib : aF G false 1 (.ptr 11 1 0 3) (A.hp sa (TT w ⟨w.op, w.d, (A.L.rdR w.a 1), w.b, w.c, w.k⟩ F)) = some (I6 w.b) := rfl
 have rdb := iX A sa (TT w ⟨w.op, w.d, (A.L.rdR w.a 1), w.b, w.c, w.k⟩ F) G (k + 7) hW (hJ w ⟨w.op, w.d, (A.L.rdR w.a 1), w.b, w.c, w.k⟩ F) w.b 2 vb (by omega)
 have lnb := gX A.L w.b 2
 obtain ⟨sb, esb⟩ : ∃ t, t = sa.put (A.L.rdC w.b 2) := ⟨_, rfl⟩
 rw [← esb] at rdb
 have hsb : sb.out.length ≤ 800002 := by rw [esb, iB]; omega
 have stb : fM (aV 1 (.ptr 11 1 0 3) (I6 (A.L.rdR w.b 2)) (A.hp sb (TT w ⟨w.op, w.d, (A.L.rdR w.a 1), w.b, w.c, w.k⟩ F))) = some (.tup [], A.hp sb (TT w ⟨w.op, w.d, (A.L.rdR w.a 1), (A.L.rdR w.b 2), w.c, w.k⟩ F)) := rfl
 have lfc : aF G false 1 (.ptr 12 1 0 4) (A.hp sb (TT w ⟨w.op, w.d, (A.L.rdR w.a 1), (A.L.rdR w.b 2), w.c, w.k⟩ F)) = some (.bool F.c) := rfl
 have lfd : aF G false 1 (.ptr 12 1 0 1) (A.hp sb (TT w ⟨w.op, w.d, (A.L.rdR w.a 1), (A.L.rdR w.b 2), w.c, w.k⟩ F)) = some (.bool F.d) := rfl
 have vd := hd (by rw [hF])
 have lid : aF G false 1 (.ptr 11 1 0 1) (A.hp sb (TT w ⟨w.op, w.d, (A.L.rdR w.a 1), (A.L.rdR w.b 2), w.c, w.k⟩ F)) = some (I6 w.d) := rfl
 have wr := mG A sb (TT w ⟨w.op, w.d, (A.L.rdR w.a 1), (A.L.rdR w.b 2), w.c, w.k⟩ F) G (k + 8) hW (hJ w ⟨w.op, w.d, (A.L.rdR w.a 1), (A.L.rdR w.b 2), w.c, w.k⟩ F) w.d vd
 have std : fM (aV 1 (.ptr 11 1 0 1) (I6 (A.L.wrR w.d)) (A.hp sb (TT w ⟨w.op, w.d, (A.L.rdR w.a 1), (A.L.rdR w.b 2), w.c, w.k⟩ F))) = some (.tup [], A.hp sb (TT w ⟨w.op, A.L.wrR w.d, (A.L.rdR w.a 1), (A.L.rdR w.b 2), w.c, w.k⟩ F)) := rfl
 have l6 : aF G true 6 (.ptr 11 1 0 0) (A.hp sb (TT w ⟨w.op, A.L.wrR w.d, (A.L.rdR w.a 1), (A.L.rdR w.b 2), w.c, w.k⟩ F)) = some (WI.v ⟨w.op, A.L.wrR w.d, (A.L.rdR w.a 1), (A.L.rdR w.b 2), w.c, w.k⟩) := rfl
 have pt := gU A sb (TT w ⟨w.op, A.L.wrR w.d, (A.L.rdR w.a 1), (A.L.rdR w.b 2), w.c, w.k⟩ F) G (k + 8) (hJ w ⟨w.op, A.L.wrR w.d, (A.L.rdR w.a 1), (A.L.rdR w.b 2), w.c, w.k⟩ F) ⟨w.op, A.L.wrR w.d, (A.L.rdR w.a 1), (A.L.rdR w.b 2), w.c, w.k⟩ (by omega)
 have ein : A.L.ins w = ⟨w.op, A.L.wrR w.d, (A.L.rdR w.a 1), (A.L.rdR w.b 2), w.c, w.k⟩ := by unfold LY.ins LY.rR; rw [hf, hF]; rfl
 have erd : A.L.rds w = A.L.rdC w.a 1 ++ A.L.rdC w.b 2 := by unfold LY.rds LY.rC; rw [hf, hF]; simp
 have ewr : A.L.wrs w = A.L.wrC w.d := by unfold LY.wrs; rw [hf, hF]; exact if_pos rfl
 rw [ein, erd, ewr] at eo
 obtain ⟨sp, esp⟩ : ∃ t, t = sb.put [⟨w.op, A.L.wrR w.d, (A.L.rdR w.a 1), (A.L.rdR w.b 2), w.c, w.k⟩] := ⟨_, rfl⟩
 rw [← esp] at pt
 have wt := kB A sp (TT w ⟨w.op, A.L.wrR w.d, (A.L.rdR w.a 1), (A.L.rdR w.b 2), w.c, w.k⟩ F) G (k + 7) hW (hJ w ⟨w.op, A.L.wrR w.d, (A.L.rdR w.a 1), (A.L.rdR w.b 2), w.c, w.k⟩ F) w.d vd (by rw [esp, iB]; show _ + 1 ≤ _; omega)
 have es : s.put (A.L.one w) = sp.put (A.L.wrC w.d) := by rw [eo, esp, esb, esa]; simp only [lG, List.append_assoc, List.nil_append]
 have fin := aAz A (sp.put (A.L.wrC w.d)) [⟨29, 6, [w.v]⟩] [⟨29, 6, [WI.v ⟨w.op, A.L.wrR w.d, (A.L.rdR w.a 1), (A.L.rdR w.b 2), w.c, w.k⟩]⟩, ⟨100, 6, [fL (cE w.op) F]⟩] (xY w)
 rw [es]
 have eT : [⟨29, 6, [w.v]⟩] ++ [⟨29, 6, [WI.v ⟨w.op, A.L.wrR w.d, (A.L.rdR w.a 1), (A.L.rdR w.b 2), w.c, w.k⟩]⟩, ⟨100, 6, [fL (cE w.op) F]⟩] = TT w ⟨w.op, A.L.wrR w.d, (A.L.rdR w.a 1), (A.L.rdR w.b 2), w.c, w.k⟩ F := rfl
 rw [eT] at fin
 clear es eT eo ein erd ewr esp esb esa
 have gd : F.d = true := by rw [hF]
 have ga : F.a = true := by rw [hF]
 have gb : F.b = true := by rw [hF]
 have gc : F.c = false := by rw [hF]
 rw [gd] at lfd
 rw [ga] at lfa
 rw [gb] at lfb
 rw [gc] at lfc
 clear gd ga gb gc hF ha hb hc hd
 refine gL ?_
 have fx := aMP iG <| aMP r0 <| aMP b1 <| aMP b2 <| aMP st <| aMP fi0 <| aMP fi1 <| aMP fi2 <| aMP fi3 <| aMP fi4 <| aMP fi5 <| aMP ff1 <| aMP ff2 <| aMP ff3 <| aMP ff4 <| aMP l0 <| aMP l0' <| aMP q15 <| aMP q16 <| aMP lfa <| aMP lia <| aMP rda <| aMP sta <| aMP lfb <| aMP lib <| aMP rdb <| aMP stb <| aMP lfc <| aMP lfd <| aMP lid <| aMP wr <| aMP std <| aMP l6 <| aMP pt <| wt
 refine gE ?_
 exact oF fin
theorem aGI (hW : A.W) (w : WI) {fk : Bool} (F : Frm) (hF : F = ⟨true, true, true, true, fk⟩) (hf : dC w.op = F) (hn : ¬ (w.op = 15 ∨ w.op = 16)) (ha : F.a = true → 0 ≤ w.a ∧ w.a < A.R) (hb : F.b = true → 0 ≤ w.b ∧ w.b < A.R) (hc : F.c = true → 0 ≤ w.c ∧ w.c < A.R) (hd : F.d = true → 0 ≤ w.d ∧ w.d < A.R) (hs : s.out.length ≤ 800000) :
  bB (aZ.f G (k + 10)) [BX, w.v] (A.hp s [⟨29, 6, [w.v]⟩]) = some (.tup [], A.hp (s.put (A.L.one w)) [⟨29, 6, [w.v]⟩]) := by
 apply jU
 rw [aZ.step]
 unfold aZ.c
 rw [jV]
 have r0 : ∀ H, bF (dK.f G (k + 9)) [I6 w.op] H = _ := fun H => dO (H := H) (iD G (k + 5) w.op) rfl rfl
 rw [hf] at r0
 have b1 : fW 29 w.v (A.hp s [⟨29, 6, [w.v]⟩]) = some (.ptr 11 1 0 0, A.hp s [⟨29, 6, [w.v]⟩, ⟨29, 6, [w.v]⟩]) := rfl
 have b2 : fW 100 (.agg [(.str ⟨#[]⟩), (.bool false), (.bool false), (.bool false), (.bool false), (.bool false)]) (A.hp s [⟨29, 6, [w.v]⟩, ⟨29, 6, [w.v]⟩]) = some (.ptr 12 1 0 0, A.hp s [⟨29, 6, [w.v]⟩, ⟨29, 6, [w.v]⟩, ⟨100, 6, [(.agg [(.str ⟨#[]⟩), (.bool false), (.bool false), (.bool false), (.bool false), (.bool false)])]⟩]) := rfl
 have st : fM (aV 6 (.ptr 12 1 0 0) (fL (cE w.op) F) (A.hp s [⟨29, 6, [w.v]⟩, ⟨29, 6, [w.v]⟩, ⟨100, 6, [(.agg [(.str ⟨#[]⟩), (.bool false), (.bool false), (.bool false), (.bool false), (.bool false)])]⟩])) = some (.tup [], A.hp s (TT w w F)) := rfl
 have fi0 : aA 0 (.ptr 11 1 0 0) = some (.ptr 11 1 0 0) := rfl
 have fi1 : aA 1 (.ptr 11 1 0 0) = some (.ptr 11 1 0 1) := rfl
 have fi2 : aA 2 (.ptr 11 1 0 0) = some (.ptr 11 1 0 2) := rfl
 have fi3 : aA 3 (.ptr 11 1 0 0) = some (.ptr 11 1 0 3) := rfl
 have fi4 : aA 4 (.ptr 11 1 0 0) = some (.ptr 11 1 0 4) := rfl
 have fi5 : aA 5 (.ptr 11 1 0 0) = some (.ptr 11 1 0 5) := rfl
 have ff1 : aA 1 (.ptr 12 1 0 0) = some (.ptr 12 1 0 1) := rfl
 have ff2 : aA 2 (.ptr 12 1 0 0) = some (.ptr 12 1 0 2) := rfl
 have ff3 : aA 3 (.ptr 12 1 0 0) = some (.ptr 12 1 0 3) := rfl
 have ff4 : aA 4 (.ptr 12 1 0 0) = some (.ptr 12 1 0 4) := rfl
 have l0 : aF G false 1 (.ptr 11 1 0 0) (A.hp s (TT w w F)) = some (I6 w.op) := rfl
 have l0' : aF G false 1 (.ptr 11 1 0 0) (A.hp s [⟨29, 6, [w.v]⟩, ⟨29, 6, [w.v]⟩]) = some (I6 w.op) := rfl
 have eo := pE A.L hn
 have q15 : aU Tryd.prog .eql 3 true (I6 w.op) (.int .i64 15) = some (.bool false) := gN (by omega)
 have q16 : aU Tryd.prog .eql 3 true (I6 w.op) (.int .i64 16) = some (.bool false) := gN (by omega)
 have h0 : s.out.length ≤ 800000 := hs
 have lfa : aF G false 1 (.ptr 12 1 0 2) (A.hp s (TT w w F)) = some (.bool F.a) := rfl
 have va := ha (by rw [hF])
 have lia : aF G false 1 (.ptr 11 1 0 2) (A.hp s (TT w w F)) = some (I6 w.a) := rfl
 have rda := iX A s (TT w w F) G (k + 7) hW (hJ w w F) w.a 1 va (by omega)
 have lna := gX A.L w.a 1
 obtain ⟨sa, esa⟩ : ∃ t, t = s.put (A.L.rdC w.a 1) := ⟨_, rfl⟩
 rw [← esa] at rda
 have hsa : sa.out.length ≤ 800001 := by rw [esa, iB]; omega
 have sta : fM (aV 1 (.ptr 11 1 0 2) (I6 (A.L.rdR w.a 1)) (A.hp sa (TT w w F))) = some (.tup [], A.hp sa (TT w ⟨w.op, w.d, (A.L.rdR w.a 1), w.b, w.c, w.k⟩ F)) := rfl
 have lfb : aF G false 1 (.ptr 12 1 0 3) (A.hp sa (TT w ⟨w.op, w.d, (A.L.rdR w.a 1), w.b, w.c, w.k⟩ F)) = some (.bool F.b) := rfl
 have vb := hb (by rw [hF])
 have lib : aF G false 1 (.ptr 11 1 0 3) (A.hp sa (TT w ⟨w.op, w.d, (A.L.rdR w.a 1), w.b, w.c, w.k⟩ F)) = some (I6 w.b) := rfl
 have rdb := iX A sa (TT w ⟨w.op, w.d, (A.L.rdR w.a 1), w.b, w.c, w.k⟩ F) G (k + 7) hW (hJ w ⟨w.op, w.d, (A.L.rdR w.a 1), w.b, w.c, w.k⟩ F) w.b 2 vb (by omega)
 have lnb := gX A.L w.b 2
 obtain ⟨sb, esb⟩ : ∃ t, t = sa.put (A.L.rdC w.b 2) := ⟨_, rfl⟩
 rw [← esb] at rdb
 have hsb : sb.out.length ≤ 800002 := by rw [esb, iB]; omega
 have stb : fM (aV 1 (.ptr 11 1 0 3) (I6 (A.L.rdR w.b 2)) (A.hp sb (TT w ⟨w.op, w.d, (A.L.rdR w.a 1), w.b, w.c, w.k⟩ F))) = some (.tup [], A.hp sb (TT w ⟨w.op, w.d, (A.L.rdR w.a 1), (A.L.rdR w.b 2), w.c, w.k⟩ F)) := rfl
 have lfc : aF G false 1 (.ptr 12 1 0 4) (A.hp sb (TT w ⟨w.op, w.d, (A.L.rdR w.a 1), (A.L.rdR w.b 2), w.c, w.k⟩ F)) = some (.bool F.c) := rfl
 have vc := hc (by rw [hF])
 have lic : aF G false 1 (.ptr 11 1 0 4) (A.hp sb (TT w ⟨w.op, w.d, (A.L.rdR w.a 1), (A.L.rdR w.b 2), w.c, w.k⟩ F)) = some (I6 w.c) := rfl
 have rdc := iX A sb (TT w ⟨w.op, w.d, (A.L.rdR w.a 1), (A.L.rdR w.b 2), w.c, w.k⟩ F) G (k + 7) hW (hJ w ⟨w.op, w.d, (A.L.rdR w.a 1), (A.L.rdR w.b 2), w.c, w.k⟩ F) w.c 3 vc (by omega)
 have lnc := gX A.L w.c 3
 obtain ⟨sc, esc⟩ : ∃ t, t = sb.put (A.L.rdC w.c 3) := ⟨_, rfl⟩
 rw [← esc] at rdc
 have hsc : sc.out.length ≤ 800003 := by rw [esc, iB]; omega
 have stc : fM (aV 1 (.ptr 11 1 0 4) (I6 (A.L.rdR w.c 3)) (A.hp sc (TT w ⟨w.op, w.d, (A.L.rdR w.a 1), (A.L.rdR w.b 2), w.c, w.k⟩ F))) = some (.tup [], A.hp sc (TT w ⟨w.op, w.d, (A.L.rdR w.a 1), (A.L.rdR w.b 2), (A.L.rdR w.c 3), w.k⟩ F)) := rfl
 have lfd : aF G false 1 (.ptr 12 1 0 1) (A.hp sc (TT w ⟨w.op, w.d, (A.L.rdR w.a 1), (A.L.rdR w.b 2), (A.L.rdR w.c 3), w.k⟩ F)) = some (.bool F.d) := rfl
 have vd := hd (by rw [hF])
 have lid : aF G false 1 (.ptr 11 1 0 1) (A.hp sc (TT w ⟨w.op, w.d, (A.L.rdR w.a 1), (A.L.rdR w.b 2), (A.L.rdR w.c 3), w.k⟩ F)) = some (I6 w.d) := rfl
 have wr := mG A sc (TT w ⟨w.op, w.d, (A.L.rdR w.a 1), (A.L.rdR w.b 2), (A.L.rdR w.c 3), w.k⟩ F) G (k + 8) hW (hJ w ⟨w.op, w.d, (A.L.rdR w.a 1), (A.L.rdR w.b 2), (A.L.rdR w.c 3), w.k⟩ F) w.d vd
 have std : fM (aV 1 (.ptr 11 1 0 1) (I6 (A.L.wrR w.d)) (A.hp sc (TT w ⟨w.op, w.d, (A.L.rdR w.a 1), (A.L.rdR w.b 2), (A.L.rdR w.c 3), w.k⟩ F))) = some (.tup [], A.hp sc (TT w ⟨w.op, A.L.wrR w.d, (A.L.rdR w.a 1), (A.L.rdR w.b 2), (A.L.rdR w.c 3), w.k⟩ F)) := rfl
 have l6 : aF G true 6 (.ptr 11 1 0 0) (A.hp sc (TT w ⟨w.op, A.L.wrR w.d, (A.L.rdR w.a 1), (A.L.rdR w.b 2), (A.L.rdR w.c 3), w.k⟩ F)) = some (WI.v ⟨w.op, A.L.wrR w.d, (A.L.rdR w.a 1), (A.L.rdR w.b 2), (A.L.rdR w.c 3), w.k⟩) := rfl
 have pt := gU A sc (TT w ⟨w.op, A.L.wrR w.d, (A.L.rdR w.a 1), (A.L.rdR w.b 2), (A.L.rdR w.c 3), w.k⟩ F) G (k + 8) (hJ w ⟨w.op, A.L.wrR w.d, (A.L.rdR w.a 1), (A.L.rdR w.b 2), (A.L.rdR w.c 3), w.k⟩ F) ⟨w.op, A.L.wrR w.d, (A.L.rdR w.a 1), (A.L.rdR w.b 2), (A.L.rdR w.c 3), w.k⟩ (by omega)
 have ein : A.L.ins w = ⟨w.op, A.L.wrR w.d, (A.L.rdR w.a 1), (A.L.rdR w.b 2), (A.L.rdR w.c 3), w.k⟩ := by unfold LY.ins LY.rR; rw [hf, hF]; rfl
 have erd : A.L.rds w = A.L.rdC w.a 1 ++ A.L.rdC w.b 2 ++ A.L.rdC w.c 3 := by unfold LY.rds LY.rC; rw [hf, hF]; simp
 have ewr : A.L.wrs w = A.L.wrC w.d := by unfold LY.wrs; rw [hf, hF]; exact if_pos rfl
 rw [ein, erd, ewr] at eo
 obtain ⟨sp, esp⟩ : ∃ t, t = sc.put [⟨w.op, A.L.wrR w.d, (A.L.rdR w.a 1), (A.L.rdR w.b 2), (A.L.rdR w.c 3), w.k⟩] := ⟨_, rfl⟩
 rw [← esp] at pt
 have wt := kB A sp (TT w ⟨w.op, A.L.wrR w.d, (A.L.rdR w.a 1), (A.L.rdR w.b 2), (A.L.rdR w.c 3), w.k⟩ F) G (k + 7) hW (hJ w ⟨w.op, A.L.wrR w.d, (A.L.rdR w.a 1), (A.L.rdR w.b 2), (A.L.rdR w.c 3), w.k⟩ F) w.d vd (by rw [esp, iB]; show _ + 1 ≤ _; omega)
 have es : s.put (A.L.one w) = sp.put (A.L.wrC w.d) := by rw [eo, esp, esc, esb, esa]; simp only [lG, List.append_assoc, List.nil_append]
 have fin := aAz A (sp.put (A.L.wrC w.d)) [⟨29, 6, [w.v]⟩] [⟨29, 6, [WI.v ⟨w.op, A.L.wrR w.d, (A.L.rdR w.a 1), (A.L.rdR w.b 2), (A.L.rdR w.c 3), w.k⟩]⟩, ⟨100, 6, [fL (cE w.op) F]⟩] (xY w)
 rw [es]
 have eT : [⟨29, 6, [w.v]⟩] ++ [⟨29, 6, [WI.v ⟨w.op, A.L.wrR w.d, (A.L.rdR w.a 1), (A.L.rdR w.b 2), (A.L.rdR w.c 3), w.k⟩]⟩, ⟨100, 6, [fL (cE w.op) F]⟩] = TT w ⟨w.op, A.L.wrR w.d, (A.L.rdR w.a 1), (A.L.rdR w.b 2), (A.L.rdR w.c 3), w.k⟩ F := rfl
 rw [eT] at fin
 clear es eT eo ein erd ewr esp esc esb esa
 have gd : F.d = true := by rw [hF]
 have ga : F.a = true := by rw [hF]
 have gb : F.b = true := by rw [hF]
 have gc : F.c = true := by rw [hF]
 rw [gd] at lfd
 rw [ga] at lfa
 rw [gb] at lfb
 rw [gc] at lfc
 clear gd ga gb gc hF ha hb hc hd
 refine gL ?_
 have fx := aMP iG <| aMP r0 <| aMP b1 <| aMP b2 <| aMP st <| aMP fi0 <| aMP fi1 <| aMP fi2 <| aMP fi3 <| aMP fi4 <| aMP fi5 <| aMP ff1 <| aMP ff2 <| aMP ff3 <| aMP ff4 <| aMP l0 <| aMP l0' <| aMP q15 <| aMP q16 <| aMP lfa <| aMP lia <| aMP rda <| aMP sta <| aMP lfb <| aMP lib <| aMP rdb <| aMP stb <| aMP lfc <| aMP lic <| aMP rdc <| aMP stc <| aMP lfd <| aMP lid <| aMP wr <| aMP std <| aMP l6 <| aMP pt <| wt
 refine gE ?_
 exact oF fin
theorem aKd (hW : A.W) (w : WI) (F : Frm) (hf : dC w.op = F) (ho : w.op = 15) (ha : 0 ≤ w.a ∧ w.a < A.R) (hb : 0 ≤ w.b ∧ w.b < A.R) (hd : 0 ≤ w.d ∧ w.d < A.R) (hs : s.out.length ≤ 800000) :
  bB (aZ.f G (k + 10)) [BX, w.v] (A.hp s [⟨29, 6, [w.v]⟩]) = some (.tup [], A.hp (s.put (A.L.one w)) [⟨29, 6, [w.v]⟩]) := by
 apply jU
 rw [aZ.step]
 unfold aZ.c
 rw [jV]
 have r0 : ∀ H, bF (dK.f G (k + 9)) [I6 w.op] H = _ := fun H => dO (H := H) (iD G (k + 5) w.op) rfl rfl
 rw [hf] at r0
 have b1 : fW 29 w.v (A.hp s [⟨29, 6, [w.v]⟩]) = some (.ptr 11 1 0 0, A.hp s [⟨29, 6, [w.v]⟩, ⟨29, 6, [w.v]⟩]) := rfl
 have b2 : fW 100 (.agg [(.str ⟨#[]⟩), (.bool false), (.bool false), (.bool false), (.bool false), (.bool false)]) (A.hp s [⟨29, 6, [w.v]⟩, ⟨29, 6, [w.v]⟩]) = some (.ptr 12 1 0 0, A.hp s [⟨29, 6, [w.v]⟩, ⟨29, 6, [w.v]⟩, ⟨100, 6, [(.agg [(.str ⟨#[]⟩), (.bool false), (.bool false), (.bool false), (.bool false), (.bool false)])]⟩]) := rfl
 have st : fM (aV 6 (.ptr 12 1 0 0) (fL (cE w.op) F) (A.hp s [⟨29, 6, [w.v]⟩, ⟨29, 6, [w.v]⟩, ⟨100, 6, [(.agg [(.str ⟨#[]⟩), (.bool false), (.bool false), (.bool false), (.bool false), (.bool false)])]⟩])) = some (.tup [], A.hp s (TT w w F)) := rfl
 have fi0 : aA 0 (.ptr 11 1 0 0) = some (.ptr 11 1 0 0) := rfl
 have fi1 : aA 1 (.ptr 11 1 0 0) = some (.ptr 11 1 0 1) := rfl
 have fi2 : aA 2 (.ptr 11 1 0 0) = some (.ptr 11 1 0 2) := rfl
 have fi3 : aA 3 (.ptr 11 1 0 0) = some (.ptr 11 1 0 3) := rfl
 have fi4 : aA 4 (.ptr 11 1 0 0) = some (.ptr 11 1 0 4) := rfl
 have fi5 : aA 5 (.ptr 11 1 0 0) = some (.ptr 11 1 0 5) := rfl
 have ff1 : aA 1 (.ptr 12 1 0 0) = some (.ptr 12 1 0 1) := rfl
 have ff2 : aA 2 (.ptr 12 1 0 0) = some (.ptr 12 1 0 2) := rfl
 have ff3 : aA 3 (.ptr 12 1 0 0) = some (.ptr 12 1 0 3) := rfl
 have ff4 : aA 4 (.ptr 12 1 0 0) = some (.ptr 12 1 0 4) := rfl
 have l0 : aF G false 1 (.ptr 11 1 0 0) (A.hp s (TT w w F)) = some (I6 w.op) := rfl
 have l0' : aF G false 1 (.ptr 11 1 0 0) (A.hp s [⟨29, 6, [w.v]⟩, ⟨29, 6, [w.v]⟩]) = some (I6 w.op) := rfl
 have q15 : aU Tryd.prog .eql 3 true (I6 w.op) (.int .i64 15) = some (.bool true) := mQ (by omega)
 have l6 : aF G true 6 (.ptr 11 1 0 0) (A.hp s (TT w w F)) = some w.v := rfl
 have ad := rB A s (TT w w F) G (k + 6) hW (hJ w w F) w ha (by omega)
 have lad := uY A.L w
 have lra := gX A.L w.a 1
 obtain ⟨sa, esa⟩ : ∃ t, t = s.put (A.L.adC w) := ⟨_, rfl⟩
 rw [← esa] at ad
 have hsa : sa.out.length ≤ 800006 := by rw [esa, iB]; omega
 have eo : A.L.one w = A.L.adC w ++ ([⟨15, A.L.wrR w.d, 2, 0, 0, 0⟩] ++ A.L.wrC w.d) := by unfold LY.one; rw [if_pos ho]
 have ld1 : aF G false 1 (.ptr 11 1 0 1) (A.hp sa (TT w w F)) = some (I6 w.d) := rfl
 have wr := mG A sa (TT w w F) G (k + 8) hW (hJ w w F) w.d hd
 have bs : cU [(0, 1), (1, 1), (2, 1), (3, 1), (4, 1), (5, 1)] [(.int .i64 0), (.int .i64 0), (.int .i64 0), (.int .i64 0), (.int .i64 0), (.int .i64 0)] [(0, .int .i64 15), (1, I6 (A.L.wrR w.d)), (2, .int .i64 2)] = some (WI.v ⟨15, A.L.wrR w.d, 2, 0, 0, 0⟩) := rfl
 have pt := gU A sa (TT w w F) G (k + 8) (hJ w w F) ⟨15, A.L.wrR w.d, 2, 0, 0, 0⟩ (by omega)
 obtain ⟨sp, esp⟩ : ∃ t, t = sa.put [⟨15, A.L.wrR w.d, 2, 0, 0, 0⟩] := ⟨_, rfl⟩
 rw [← esp] at pt
 have hsp : sp.out.length ≤ 800007 := by rw [esp, iB]; show _ + 1 ≤ _; omega
 have ld2 : aF G false 1 (.ptr 11 1 0 1) (A.hp sp (TT w w F)) = some (I6 w.d) := rfl
 have wt := kB A sp (TT w w F) G (k + 7) hW (hJ w w F) w.d hd (by omega)
 have es : s.put (A.L.one w) = sp.put (A.L.wrC w.d) := by rw [eo, esp, esa]; simp only [lG, List.append_assoc]
 have fin := aAz A (sp.put (A.L.wrC w.d)) [⟨29, 6, [w.v]⟩] [⟨29, 6, [w.v]⟩, ⟨100, 6, [fL (cE w.op) F]⟩] (xY w)
 generalize (⟨15, A.L.wrR w.d, 2, 0, 0, 0⟩ : WI) = x1 at *
 rw [es]
 have eT : [⟨29, 6, [w.v]⟩] ++ [⟨29, 6, [w.v]⟩, ⟨100, 6, [fL (cE w.op) F]⟩] = TT w w F := rfl
 rw [eT] at fin
 clear es eT eo esa esp
 refine gL ?_
 have fx := aMP iG <| aMP r0 <| aMP b1 <| aMP b2 <| aMP st <| aMP fi0 <| aMP fi1 <| aMP fi2 <| aMP fi3 <| aMP fi4 <| aMP fi5 <| aMP ff1 <| aMP ff2 <| aMP ff3 <| aMP ff4 <| aMP l0 <| aMP l0' <| aMP q15 <| aMP l6 <| aMP ad <| aMP ld1 <| aMP wr <| aMP bs <| aMP pt <| aMP ld2 <| wt
 refine gE ?_
 exact oF fin
theorem aKe (hW : A.W) (w : WI) (F : Frm) (hf : dC w.op = F) (ho : w.op = 16) (ha : 0 ≤ w.a ∧ w.a < A.R) (hb : 0 ≤ w.b ∧ w.b < A.R) (hd : 0 ≤ w.d ∧ w.d < A.R) (hs : s.out.length ≤ 800000) :
  bB (aZ.f G (k + 10)) [BX, w.v] (A.hp s [⟨29, 6, [w.v]⟩]) = some (.tup [], A.hp (s.put (A.L.one w)) [⟨29, 6, [w.v]⟩]) := by
 apply jU
 rw [aZ.step]
 unfold aZ.c
 rw [jV]
 have r0 : ∀ H, bF (dK.f G (k + 9)) [I6 w.op] H = _ := fun H => dO (H := H) (iD G (k + 5) w.op) rfl rfl
 rw [hf] at r0
 have b1 : fW 29 w.v (A.hp s [⟨29, 6, [w.v]⟩]) = some (.ptr 11 1 0 0, A.hp s [⟨29, 6, [w.v]⟩, ⟨29, 6, [w.v]⟩]) := rfl
 have b2 : fW 100 (.agg [(.str ⟨#[]⟩), (.bool false), (.bool false), (.bool false), (.bool false), (.bool false)]) (A.hp s [⟨29, 6, [w.v]⟩, ⟨29, 6, [w.v]⟩]) = some (.ptr 12 1 0 0, A.hp s [⟨29, 6, [w.v]⟩, ⟨29, 6, [w.v]⟩, ⟨100, 6, [(.agg [(.str ⟨#[]⟩), (.bool false), (.bool false), (.bool false), (.bool false), (.bool false)])]⟩]) := rfl
 have st : fM (aV 6 (.ptr 12 1 0 0) (fL (cE w.op) F) (A.hp s [⟨29, 6, [w.v]⟩, ⟨29, 6, [w.v]⟩, ⟨100, 6, [(.agg [(.str ⟨#[]⟩), (.bool false), (.bool false), (.bool false), (.bool false), (.bool false)])]⟩])) = some (.tup [], A.hp s (TT w w F)) := rfl
 have fi0 : aA 0 (.ptr 11 1 0 0) = some (.ptr 11 1 0 0) := rfl
 have fi1 : aA 1 (.ptr 11 1 0 0) = some (.ptr 11 1 0 1) := rfl
 have fi2 : aA 2 (.ptr 11 1 0 0) = some (.ptr 11 1 0 2) := rfl
 have fi3 : aA 3 (.ptr 11 1 0 0) = some (.ptr 11 1 0 3) := rfl
 have fi4 : aA 4 (.ptr 11 1 0 0) = some (.ptr 11 1 0 4) := rfl
 have fi5 : aA 5 (.ptr 11 1 0 0) = some (.ptr 11 1 0 5) := rfl
 have ff1 : aA 1 (.ptr 12 1 0 0) = some (.ptr 12 1 0 1) := rfl
 have ff2 : aA 2 (.ptr 12 1 0 0) = some (.ptr 12 1 0 2) := rfl
 have ff3 : aA 3 (.ptr 12 1 0 0) = some (.ptr 12 1 0 3) := rfl
 have ff4 : aA 4 (.ptr 12 1 0 0) = some (.ptr 12 1 0 4) := rfl
 have l0 : aF G false 1 (.ptr 11 1 0 0) (A.hp s (TT w w F)) = some (I6 w.op) := rfl
 have l0' : aF G false 1 (.ptr 11 1 0 0) (A.hp s [⟨29, 6, [w.v]⟩, ⟨29, 6, [w.v]⟩]) = some (I6 w.op) := rfl
 have q15 : aU Tryd.prog .eql 3 true (I6 w.op) (.int .i64 15) = some (.bool false) := gN (by omega)
 have q16 : aU Tryd.prog .eql 3 true (I6 w.op) (.int .i64 16) = some (.bool true) := mQ (by omega)
 have l6 : aF G true 6 (.ptr 11 1 0 0) (A.hp s (TT w w F)) = some w.v := rfl
 have ad := rB A s (TT w w F) G (k + 6) hW (hJ w w F) w ha (by omega)
 have lad := uY A.L w
 have lra := gX A.L w.a 1
 obtain ⟨sa, esa⟩ : ∃ t, t = s.put (A.L.adC w) := ⟨_, rfl⟩
 rw [← esa] at ad
 have hsa : sa.out.length ≤ 800006 := by rw [esa, iB]; omega
 have eo : A.L.one w = A.L.adC w ++ (A.L.rdC w.b 1 ++ [⟨16, 0, 2, A.L.rdR w.b 1, 0, 0⟩]) := by unfold LY.one; rw [if_neg (by omega), if_pos ho]
 have lb1 : aF G false 1 (.ptr 11 1 0 3) (A.hp sa (TT w w F)) = some (I6 w.b) := rfl
 have rd := iX A sa (TT w w F) G (k + 7) hW (hJ w w F) w.b 1 hb (by omega)
 have lrb := gX A.L w.b 1
 obtain ⟨sb, esb⟩ : ∃ t, t = sa.put (A.L.rdC w.b 1) := ⟨_, rfl⟩
 rw [← esb] at rd
 have hsb : sb.out.length ≤ 800007 := by rw [esb, iB]; omega
 have bs : cU [(0, 1), (1, 1), (2, 1), (3, 1), (4, 1), (5, 1)] [(.int .i64 0), (.int .i64 0), (.int .i64 0), (.int .i64 0), (.int .i64 0), (.int .i64 0)] [(0, .int .i64 16), (2, .int .i64 2), (3, I6 (A.L.rdR w.b 1))] = some (WI.v ⟨16, 0, 2, A.L.rdR w.b 1, 0, 0⟩) := rfl
 have pt := gU A sb (TT w w F) G (k + 8) (hJ w w F) ⟨16, 0, 2, A.L.rdR w.b 1, 0, 0⟩ (by omega)
 obtain ⟨sp, esp⟩ : ∃ t, t = sb.put [⟨16, 0, 2, A.L.rdR w.b 1, 0, 0⟩] := ⟨_, rfl⟩
 rw [← esp] at pt
 have es : s.put (A.L.one w) = sp := by rw [eo, esp, esb, esa]; simp only [lG, List.append_assoc]
 have fin := aAz A sp [⟨29, 6, [w.v]⟩] [⟨29, 6, [w.v]⟩, ⟨100, 6, [fL (cE w.op) F]⟩] (xY w)
 generalize (⟨16, 0, 2, A.L.rdR w.b 1, 0, 0⟩ : WI) = x1 at *
 clear esb
 rw [es]
 have eT : [⟨29, 6, [w.v]⟩] ++ [⟨29, 6, [w.v]⟩, ⟨100, 6, [fL (cE w.op) F]⟩] = TT w w F := rfl
 rw [eT] at fin
 clear es eT eo esa esp
 refine gL ?_
 have fx := aMP iG <| aMP r0 <| aMP b1 <| aMP b2 <| aMP st <| aMP fi0 <| aMP fi1 <| aMP fi2 <| aMP fi3 <| aMP fi4 <| aMP fi5 <| aMP ff1 <| aMP ff2 <| aMP ff3 <| aMP ff4 <| aMP l0 <| aMP l0' <| aMP q16 <| aMP q15 <| aMP l6 <| aMP ad <| aMP lb1 <| aMP rd <| aMP bs <| pt
 refine gE ?_
 exact oF fin
theorem aFq (hW : A.W) (w : WI) {n : Nat} (hg : w.Good A.R n) (hs : s.out.length ≤ 800000) :
  bB (aZ.f G (k + 10)) [BX, w.v] (A.hp s [⟨29, 6, [w.v]⟩]) = some (.tup [], A.hp (s.put (A.L.one w)) [⟨29, 6, [w.v]⟩]) := by
 obtain ⟨ga, gb, gc⟩ := sZ hg
 have h20 := hg.ok2.ok.op
 have gd : (dC w.op).d = true → 0 ≤ w.d ∧ w.d < A.R := fun e => by
  refine hg.ok2.ok.d ?_
  rcases aFr h20 with h | h | h | h | h | h | h | h | h | h | h | h | h | h | h | h | h | h | h | h <;> rw [h] at e ⊢ <;> first | decide | (exact absurd e (by decide))
 by_cases h15 : w.op = 15
 ·exact aKd A s G k hW w _ rfl h15 (hg.ok2.ok.a (by omega) (by omega)) (hg.ok2.ok.b (by omega)) (hg.ok2.ok.d (by omega)) hs
 by_cases h16 : w.op = 16
 ·exact aKe A s G k hW w _ rfl h16 (hg.ok2.ok.a (by omega) (by omega)) (hg.ok2.ok.b (by omega)) (hg.ok2.ok.d (by omega)) hs
 have hn : ¬ (w.op = 15 ∨ w.op = 16) := by omega
 have h0 : w.op = 17 ∨ w.op = 20 → dC w.op = ⟨false, false, false, false, true⟩ := by rintro (h | h) <;> rw [h] <;> rfl
 have h1 : w.op = 18 ∨ w.op = 19 → dC w.op = ⟨false, true, false, false, true⟩ := by rintro (h | h) <;> rw [h] <;> rfl
 have h2 : w.op = 1 → dC w.op = ⟨true, false, false, false, true⟩ := by rintro h; rw [h]; rfl
 have h3 : w.op = 2 → dC w.op = ⟨true, true, false, false, false⟩ := by rintro h; rw [h]; rfl
 have h4 : w.op = 10 ∨ w.op = 11 ∨ w.op = 12 → dC w.op = ⟨true, true, false, false, true⟩ := by rintro (h | h | h) <;> rw [h] <;> rfl
 have h5 : w.op = 3 ∨ w.op = 4 ∨ w.op = 5 ∨ w.op = 6 ∨ w.op = 7 ∨ w.op = 8 ∨ w.op = 9 ∨ w.op = 13 → dC w.op = ⟨true, true, true, false, false⟩ := by rintro (h | h | h | h | h | h | h | h) <;> rw [h] <;> rfl
 have h6 : w.op = 14 → dC w.op = ⟨true, true, true, true, false⟩ := by rintro h; rw [h]; rfl
 by_cases c0 : w.op = 17 ∨ w.op = 20
 ·exact aLg A s G k hW w _ (h0 c0) rfl hn ga gb gc gd hs
 by_cases c1 : w.op = 18 ∨ w.op = 19
 ·exact aLh A s G k hW w _ (h1 c1) rfl hn ga gb gc gd hs
 by_cases c2 : w.op = 1
 ·exact aLi A s G k hW w _ (h2 c2) rfl hn ga gb gc gd hs
 by_cases c3 : w.op = 2
 ·exact aGH A s G k hW w _ (h3 c3) rfl hn ga gb gc gd hs
 by_cases c4 : w.op = 10 ∨ w.op = 11 ∨ w.op = 12
 ·exact aGH A s G k hW w _ (h4 c4) rfl hn ga gb gc gd hs
 by_cases c6 : w.op = 14
 ·exact aGI A s G k hW w _ (h6 c6) rfl hn ga gb gc gd hs
 ·exact aIs A s G k hW w _ (h5 (by omega)) rfl hn ga gb gc gd hs
end
section
variable (G : aG) (k : Nat) (self : cD) {H : aB} {p q r n : Nat} {us : List Int} (hS : SH H p q r n us)
theorem aAP {c : Bool} {a b : Nat} (h : a ≤ b) : aU Tryd.prog .leq 3 c (Nn a) (Nn b) = some (.bool true) := vL (by omega)
theorem aAO {c : Bool} {a b : Nat} (h : b < a) : aU Tryd.prog .leq 3 c (Nn a) (Nn b) = some (.bool false) := aAT (by omega)
theorem aJf {c : Bool} {a : Nat} (h : a ≤ 10000) : aU Tryd.prog .mul 3 c (.int .i64 2) (Nn a) = some (Nn (2 * a : Nat)) := by
 rw [uZ, dH (by omega) (by omega)]; congr 2
theorem aJY {c : Bool} {a : Nat} (h : a ≤ 10000) : aU Tryd.prog .mul 3 c (Nn a) (.int .i64 2) = some (Nn (2 * a : Nat)) := by
 rw [uZ, dH (by omega) (by omega)]; congr 2; omega
include hS in
theorem zT (m bs i j : Nat) : bX H.length [dS p n, Nn m, cS q, Nn bs, Nn i, Nn j] = true := by
 have h1 : decide (p < H.length) = true := decide_eq_true hS.hp
 have h2 : decide (q < H.length) = true := decide_eq_true (aFt hS)
 simp only [dS, cS, bX, bW, h1, h2, Bool.and_self]
include hS in
theorem aFF (m bs : Nat) : bX H.length [dS p n, Nn m, cS q, Nn bs] = true := by
 have h1 : decide (p < H.length) = true := decide_eq_true hS.hp
 have h2 : decide (q < H.length) = true := decide_eq_true (aFt hS)
 simp only [dS, cS, bX, bW, h1, h2, Bool.and_self]
include hS in
theorem aHD (hn : n ≤ 1000) (hk : n < k) : ∀ (f a : Nat) (l : List Nat), a ≤ n → n - a < f → l.length = n → (∀ x ∈ l, x < n) →
  ∃ (a' b' : Nat) (l' : List Nat), cQ (aK.l2 G (k + 2) H.length self) f [dS p n, Nn n, cS q, .int .i64 20, Nn a, Nn (a + 20 : Nat)] (SO H p l) = some (.exit 0, [dS p n, Nn n, cS q, .int .i64 20, Nn a', Nn b'], SO H p l') ∧ l'.Perm l ∧ a' ≤ n
 | 0, a, l, _, h, _, _ => by omega
 | f + 1, a, l, ha, hf, hl, hx => by
  have hc : fE H.length [dS p n, Nn n, cS q, .int .i64 20, Nn a, Nn (a + 20 : Nat)] (SO H p l) = some (SO H p l) := fZ hS.hb l _ (zT hS n 20 a (a + 20))
  by_cases h : a + 20 ≤ n
  ·have g1 : aU Tryd.prog .leq 3 false (Nn (a + 20 : Nat)) (Nn n) = some (.bool true) := aAP h
   have e1 : aU Tryd.prog .add 3 false (Nn (a + 20 : Nat)) (.int .i64 20) = some (Nn (a + 20 + 20 : Nat)) := lV (b := 20) (by omega)
   obtain ⟨l1, w1, p1⟩ := aCi G k hS hn hk a (a + 20) (by omega) h l hl hx
   obtain ⟨a', b', l', w2, p2, p3⟩ := aHD hn hk f (a + 20) l1 h (by omega) (by rw [p1.length_eq]; exact hl) (jY p1 hx)
   refine ⟨a', b', l', ?_, p2.trans p1, p3⟩
   rw [aY, aK.l2]
   refine fG ?_
   refine eC hc ?_
   have fx := aMP g1 <| aMP e1 <| w1
   refine gE ?_
   exact w2
  ·have g1 : aU Tryd.prog .leq 3 false (Nn (a + 20 : Nat)) (Nn n) = some (.bool false) := aAO (by omega)
   refine ⟨a, a + 20, l, ?_, List.Perm.refl _, ha⟩
   rw [aY, aK.l2]
   refine fG ?_
   refine eC hc ?_
   have fx := g1
   refine gE ?_
   refine fP ?_; rfl
include hS in
theorem aHE (hn : n ≤ 1000) (hk : 2 * n < k) (bs : Nat) (h1 : 1 ≤ bs) (h2 : bs ≤ 2000) : ∀ (f a : Nat) (l : List Nat), a ≤ n → n - a < f → l.length = n → (∀ x ∈ l, x < n) →
  ∃ (a' b' : Nat) (l' : List Nat), cQ (aK.l9 G (k + 3) H.length self) f [dS p n, Nn n, cS q, Nn bs, Nn a, Nn (a + 2 * bs : Nat)] (SO H p l) = some (.exit 4, [dS p n, Nn n, cS q, Nn bs, Nn a', Nn b'], SO H p l') ∧ l'.Perm l ∧ a' ≤ n
 | 0, a, l, _, h, _, _ => by omega
 | f + 1, a, l, ha, hf, hl, hx => by
  have hc : fE H.length [dS p n, Nn n, cS q, Nn bs, Nn a, Nn (a + 2 * bs : Nat)] (SO H p l) = some (SO H p l) := fZ hS.hb l _ (zT hS n bs a (a + 2 * bs))
  by_cases h : a + 2 * bs ≤ n
  ·have g1 : aU Tryd.prog .leq 3 false (Nn (a + 2 * bs : Nat)) (Nn n) = some (.bool true) := aAP h
   have e0 : aU Tryd.prog .add 3 false (Nn a) (Nn bs) = some (Nn (a + bs : Nat)) := lV (by omega)
   have e1 : aU Tryd.prog .mul 3 true (.int .i64 2) (Nn bs) = some (Nn (2 * bs : Nat)) := aJf (by omega)
   have e2 : aU Tryd.prog .add 3 false (Nn (a + 2 * bs : Nat)) (Nn (2 * bs : Nat)) = some (Nn (a + 2 * bs + 2 * bs : Nat)) := lV (by omega)
   obtain ⟨l1, w1, p1⟩ := sP G hS hn (2 * bs) k a (a + bs) (a + 2 * bs) l (by omega) (by omega) (by omega) (by omega) h hl hx
   obtain ⟨a', b', l', w2, p2, p3⟩ := aHE hn hk bs h1 h2 f (a + 2 * bs) l1 h (by omega) (by rw [p1.length_eq]; exact hl) (jY p1 hx)
   refine ⟨a', b', l', ?_, p2.trans p1, p3⟩
   rw [aY, aK.l9]
   refine fG ?_
   refine eC hc ?_
   have fx := aMP g1 <| aMP e0 <| aMP e1 <| aMP e2 <| w1
   refine gE ?_
   exact w2
  ·have g1 : aU Tryd.prog .leq 3 false (Nn (a + 2 * bs : Nat)) (Nn n) = some (.bool false) := aAO (by omega)
   refine ⟨a, a + 2 * bs, l, ?_, List.Perm.refl _, ha⟩
   rw [aY, aK.l9]
   refine fG ?_
   refine eC hc ?_
   have fx := g1
   refine gE ?_
   refine fP ?_; rfl
include hS in
theorem aDL (hn : n ≤ 1000) (hk : 2 * n < k) : ∀ (f bs : Nat) (l : List Nat), 1 ≤ bs → bs ≤ 2000 → n - bs < f → l.length = n → (∀ x ∈ l, x < n) →
  ∃ (b' : Nat) (l' : List Nat), cQ (aK.l7 G (k + 3) H.length self) f [dS p n, Nn n, cS q, Nn bs] (SO H p l) = some (.exit 2, [dS p n, Nn n, cS q, Nn b'], SO H p l') ∧ l'.Perm l
 | 0, bs, l, _, _, h, _, _ => by omega
 | f + 1, bs, l, h1, h2, hf, hl, hx => by
  have hlen := gY H p l
  have hc : fE H.length [dS p n, Nn n, cS q, Nn bs] (SO H p l) = some (SO H p l) := fZ hS.hb l _ (aFF hS n bs)
  by_cases h : bs < n
  ·have g1 : aU Tryd.prog .lss 3 false (Nn bs) (Nn n) = some (.bool true) := fV (by omega)
   have e1 : aU Tryd.prog .mul 3 true (.int .i64 2) (Nn bs) = some (Nn (2 * bs : Nat)) := aJf (by omega)
   have e3 : aU Tryd.prog .mul 3 true (Nn bs) (.int .i64 2) = some (Nn (2 * bs : Nat)) := aJY (by omega)
   obtain ⟨a', b', l1, w1, p1, p3⟩ := aHE G k self hS hn hk bs h1 h2 (k + 3) 0 l (by omega) (by omega) hl hx
   have w1' : cQ (aK.l9 G (k + 3) H.length self) (k + 3) [dS p n, Nn n, cS q, Nn bs, .int .i64 0, Nn (2 * bs : Nat)] (SO H p l) = some (.exit 4, [dS p n, Nn n, cS q, Nn bs, Nn a', Nn b'], SO H p l1) := by
    rw [Nat.zero_add] at w1; exact w1
   have e2 : aU Tryd.prog .add 3 false (Nn a') (Nn bs) = some (Nn (a' + bs : Nat)) := lV (by omega)
   rw [← hlen] at w1'
   have hl1 : l1.length = n := by rw [p1.length_eq]; exact hl
   have hx1 := jY p1 hx
   by_cases h4 : a' + bs < n
   ·have g2 : aU Tryd.prog .lss 3 false (Nn (a' + bs : Nat)) (Nn n) = some (.bool true) := fV (by omega)
    obtain ⟨l2, w2, p2⟩ := sP G hS hn n k a' (a' + bs) n l1 (by omega) (by omega) (by omega) h4 (Nat.le_refl _) hl1 hx1
    obtain ⟨b2, l', w3, p4⟩ := aDL hn hk f (2 * bs) l2 (by omega) (by omega) (by omega) (by rw [p2.length_eq]; exact hl1) (jY p2 hx1)
    refine ⟨b2, l', ?_, (p4.trans p2).trans p1⟩
    rw [aY, aK.l7]
    refine fG ?_
    refine eC hc ?_
    have fx := aMP g1 <| aMP e1 <| aMP e2 <| aMP e3 <| aMP g2 <| w2
    have lx1 := w1'
    refine gE ?_
    exact w3
   ·have g2 : aU Tryd.prog .lss 3 false (Nn (a' + bs : Nat)) (Nn n) = some (.bool false) := fO (by omega)
    obtain ⟨b2, l', w3, p4⟩ := aDL hn hk f (2 * bs) l1 (by omega) (by omega) (by omega) hl1 hx1
    refine ⟨b2, l', ?_, p4.trans p1⟩
    rw [aY, aK.l7]
    refine fG ?_
    refine eC hc ?_
    have fx := aMP g1 <| aMP e1 <| aMP e2 <| aMP e3 <| g2
    have lx1 := w1'
    refine gE ?_
    exact w3
  ·have g1 : aU Tryd.prog .lss 3 false (Nn bs) (Nn n) = some (.bool false) := fO (by omega)
   refine ⟨bs, l, ?_, List.Perm.refl _⟩
   rw [aY, aK.l7]
   refine fG ?_
   refine eC hc ?_
   have fx := g1
   refine gE ?_
   refine fP ?_; rfl
include hS in
theorem aHF (hn : n ≤ 1000) (hk : 2 * n < k) (l : List Nat) (hl : l.length = n) (hx : ∀ x ∈ l, x < n) :
  ∃ l' : List Nat, bB (aK.f G (k + 4)) [dS p n, Nn n, cS q] (SO H p l) = some (.tup [], SO H p l') ∧ l'.Perm l := by
 have hlen := gY H p l
 obtain ⟨a', b', l1, w1, p1, ha⟩ := aHD G (k + 1) (aK.f G (k + 3)) hS hn (by omega) (k + 3) 0 l (by omega) (by omega) hl hx
 have hl1 : l1.length = n := by rw [p1.length_eq]; exact hl
 obtain ⟨l2, w2, p2⟩ := aCi G (k + 1) hS hn (by omega) a' n ha (Nat.le_refl _) l1 hl1 (jY p1 hx)
 have hl2 : l2.length = n := by rw [p2.length_eq]; exact hl1
 obtain ⟨b2, l', w3, p3⟩ := aDL G k (aK.f G (k + 3)) hS hn hk (k + 3) 20 l2 (by omega) (by omega) (by omega) hl2 (jY p2 (jY p1 hx))
 refine ⟨l', lQ ?_, (p3.trans p2).trans p1⟩
 rw [aK.step]
 unfold aK.c
 have fin := aBY hS l'
 have w1' : cQ (aK.l2 G (k + 3) H.length (aK.f G (k + 3))) (k + 3) [dS p n, Nn n, cS q, .int .i64 20, .int .i64 0, .int .i64 20] (SO H p l) = some (.exit 0, [dS p n, Nn n, cS q, .int .i64 20, Nn a', Nn b'], SO H p l1) := w1
 have w3' : cQ (aK.l7 G (k + 3) (SO H p l2).length (aK.f G (k + 3))) (k + 3) [dS p n, Nn n, cS q, .int .i64 20] (SO H p l2) = some (.exit 2, [dS p n, Nn n, cS q, Nn b2], SO H p l') := by
  rw [gY]; exact w3
 rw [← hlen] at w1' fin
 refine gL ?_
 have fx := w2
 have lx1 := w1'
 have lx2 := w3'
 refine gE ?_
 exact oF fin
include hS in
theorem aFz (hn : n ≤ 1000) (hk : 2 * n < k) (l : List Nat) (hl : l.length = n) (hx : ∀ x ∈ l, x < n) :
  ∃ l' : List Nat, bB (aP.f G (k + 5)) [dS p n, cS q] (SO H p l) = some (.tup [], SO H p l') ∧ l'.Perm l := by
 have hlen := gY H p l
 obtain ⟨l', w, pm⟩ := aHF G k hS hn hk l hl hx
 refine ⟨l', lQ ?_, pm⟩
 rw [aP.step]
 unfold aP.c
 have ln : dN (dS p n) = some (Nn n) := rfl
 have fin := aBY hS l'
 rw [← hlen] at fin
 refine gL ?_
 have fx := aMP ln <| w
 refine gE ?_
 exact oF fin
end
structure SB (H : aB) (p : Nat) : Prop where
 hp : p < H.length
 hb : dB H.length H = true
section
variable (G : aG) (k : Nat) (self : cD) {H : aB} {p n : Nat} (hS : SB H p)
include hS in
theorem sS {l : List Nat} (hl : l.length = n) {i : Nat} (h : i < n) : aF G false 1 (.ptr p n i 0) (SO H p l) = some (Nn (l.getD i 0)) := by
 unfold aF
 simp only [aFM hS.hp l, fS, hl, if_true, iV l i (by omega)]
 rfl
include hS in
theorem uX {l : List Nat} (hl : l.length = n) {i : Nat} (h : i < n) (x : Nat) : fM (aV 1 (.ptr p n i 0) (Nn x) (SO H p l)) = some (.tup [], SO H p (l.set i x)) := by
 have e : aV 1 (.ptr p n i 0) (Nn x) (SO H p l) = some (SO H p (l.set i x)) := by
  unfold aV
  simp only [aFM hS.hp l, fS, hl]
  rw [if_pos ⟨trivial, rfl, rfl⟩]
  simp only [iV l i (by omega)]
  rw [if_pos (by show 0 + 1 ≤ 1; omega)]
  have : kJ (Nn (l.getD i 0)) (kI (Nn (l.getD i 0)).cells 0 (Nn x).cells) = Nn x := rfl
  rw [this, tG, zZ]
 rw [e]; rfl
theorem aDs (x : Nat) : cI.f G (k + 1) [Nn x] [] = some (.bool false, []) := by
 have g : aU Tryd.prog .neq 3 false (Nn x) (Nn x) = some (.bool false) := vM rfl
 rw [cI.step]
 unfold cI.c
 refine gL ?_
 have fx := g
 refine gE ?_
 exact w1b rfl
theorem aFm (x y : Nat) : cP.f G (k + 2) [Nn x, Nn y] [] = some (.bool (decide (x < y)), []) := by
 have r1 : ∀ H, bF (cI.f G (k + 1)) [Nn x] H = _ := fun H => dO (H := H) (aDs G k x) rfl rfl
 have g : aU Tryd.prog .lss 3 false (Nn x) (Nn y) = some (.bool (decide (x < y))) := by
  rw [iA]
  congr 2
  exact decide_eq_decide.2 (by omega)
 rw [cP.step]
 unfold cP.c
 refine gL ?_
 generalize decide (x < y) = b at *
 have fx := aMP r1 <| g
 refine gE ?_
 exact w1b rfl
def ys4 (p n a b i j : Nat) : List AV := [dS p n, Nn a, Nn b, Nn i, Nn j]
def ys1 (p n a b i : Nat) : List AV := [dS p n, Nn a, Nn b, Nn i]
include hS in
theorem aFH (n a b i j : Nat) : bX H.length (ys4 p n a b i j) = true := by
 have h1 : decide (p < H.length) = true := decide_eq_true hS.hp
 simp only [ys4, dS, bX, bW, h1, Bool.and_self]
include hS in
theorem zW (n a b i : Nat) : bX H.length (ys1 p n a b i) = true := by
 have h1 : decide (p < H.length) = true := decide_eq_true hS.hp
 simp only [ys1, dS, bX, bW, h1, Bool.and_self]
include hS in
theorem aGq (hn : n ≤ 1000) (a b i : Nat) : ∀ (j f : Nat) (l : List Nat), l.length = n → j < n → j < f →
  ∃ (j' : Nat) (l' : List Nat), cQ (aJ.l4 G (k + 2) H.length self) f (ys4 p n a b i j) (SO H p l) = some (.exit 2, ys4 p n a b i j', SO H p l') ∧ l'.Perm l
 | j, 0, l, _, _, h => by omega
 | j, f + 1, l, hl, hj, hf => by
  have hc : fE H.length (ys4 p n a b i j) (SO H p l) = some (SO H p l) := fZ hS.hb l _ (aFH hS n a b i j)
  by_cases ha : a < j
  ·have g1 : aU Tryd.prog .gtr 3 false (Nn j) (Nn a) = some (.bool true) := mR (by omega)
   have d1 : aM 1 (.sl p n 0 n 1) (Nn j) = some (.ptr p n j 0) := jC hj
   have d2 : aM 1 (.sl p n 0 n 1) (Nn (j - 1 : Nat)) = some (.ptr p n (j - 1) 0) := jC (by omega)
   have l1 := sS G hS hl hj
   have l2 := sS G hS hl (i := j - 1) (by omega)
   have m1 : aU Tryd.prog .sub 3 true (Nn j) (.int .i64 1) = some (Nn (j - 1 : Nat)) := by
    rw [mK, dH (by omega) (by omega)]; congr 2; omega
   have r1 : ∀ H, bF (cP.f G (k + 2)) [Nn (l.getD j 0), Nn (l.getD (j - 1) 0)] H = _ := fun H => dO (H := H) (aFm G k (l.getD j 0) (l.getD (j - 1) 0)) rfl rfl
   by_cases hcn : l.getD j 0 < l.getD (j - 1) 0
   ·rw [decide_eq_true hcn] at r1
    have s1 := uX hS hl hj (l.getD (j - 1) 0)
    have hl2 : (l.set j (l.getD (j - 1) 0)).length = n := by simp [hl]
    have s2 := uX hS hl2 (i := j - 1) (by omega) (l.getD j 0)
    have hsw : (l.set j (l.getD (j - 1) 0)).set (j - 1) (l.getD j 0) = kA l j (j - 1) := rfl
    rw [hsw] at s2
    have hp := mB l j (j - 1) (by omega) (by omega)
    obtain ⟨j', l', h1, h2⟩ := aGq hn a b i (j - 1) f (kA l j (j - 1)) (by rw [nL]; exact hl) (by omega) (by omega)
    refine ⟨j', l', ?_, h2.trans hp⟩
    rw [aY, aJ.l4]
    refine fG ?_
    refine eC hc ?_
    unfold ys4 at h1 ⊢
    generalize kA l j (j - 1) = ls at *
    generalize l.getD j 0 = y1 at *
    generalize l.getD (j - 1) 0 = y2 at *
    have fx := aMP g1 <| aMP d1 <| aMP d2 <| aMP l1 <| aMP l2 <| aMP m1 <| aMP r1 <| aMP s1 <| s2
    refine gE ?_
    exact h1
   ·rw [decide_eq_false hcn] at r1
    refine ⟨j, l, ?_, List.Perm.refl _⟩
    rw [aY, aJ.l4]
    refine fG ?_
    refine eC hc ?_
    unfold ys4
    clear hcn
    generalize l.getD j 0 = y1 at *
    generalize l.getD (j - 1) 0 = y2 at *
    have fx := aMP g1 <| aMP d1 <| aMP d2 <| aMP l1 <| aMP l2 <| aMP m1 <| r1
    refine gE ?_
    refine fP ?_; rfl
  ·have g1 : aU Tryd.prog .gtr 3 false (Nn j) (Nn a) = some (.bool false) := iP (by omega)
   refine ⟨j, l, ?_, List.Perm.refl _⟩
   rw [aY, aJ.l4]
   refine fG ?_
   refine eC hc ?_
   unfold ys4
   have fx := g1
   refine gE ?_
   refine fP ?_; rfl
include hS in
theorem aJL (l : List Nat) : cA [] H.length (SO H p l) = some (.ret, [.tup []], SO H p l) := by
 unfold cA
 rw [fZ hS.hb l _ rfl]; rfl
include hS in
theorem aGp (hn : n ≤ 1000) (hk : n < k) (a b : Nat) (hb : b ≤ n) : ∀ (d i f : Nat) (l : List Nat), i + d = max i b → l.length = n → d < f →
  ∃ (i' : Nat) (l' : List Nat), cQ (aJ.l1 G (k + 2) H.length self) f (ys1 p n a b i) (SO H p l) = some (.exit 0, ys1 p n a b i', SO H p l') ∧ l'.Perm l
 | d, i, 0, l, _, _, h => by omega
 | 0, i, f + 1, l, hd, hl, hf => by
  have hc : fE H.length (ys1 p n a b i) (SO H p l) = some (SO H p l) := fZ hS.hb l _ (zW hS n a b i)
  have g1 : aU Tryd.prog .lss 3 false (Nn i) (Nn b) = some (.bool false) := fO (by omega)
  refine ⟨i, l, ?_, List.Perm.refl _⟩
  rw [aY, aJ.l1]
  refine fG ?_
  refine eC hc ?_
  unfold ys1
  have fx := g1
  refine gE ?_
  refine fP ?_; rfl
 | d + 1, i, f + 1, l, hd, hl, hf => by
  have hc : fE H.length (ys1 p n a b i) (SO H p l) = some (SO H p l) := fZ hS.hb l _ (zW hS n a b i)
  have hib : i < b := by omega
  have g1 : aU Tryd.prog .lss 3 false (Nn i) (Nn b) = some (.bool true) := fV (by omega)
  obtain ⟨j', l1, hl4, hp⟩ := aGq G k self hS hn a b i i (k + 2) l hl (by omega) (by omega)
  obtain ⟨i', l', h1, h2⟩ := aGp hn hk a b hb d (i + 1) f l1 (by omega) (by rw [hp.length_eq]; exact hl) (by omega)
  refine ⟨i', l', ?_, h2.trans hp⟩
  have q2 : aU Tryd.prog .add 3 true (Nn i) (.int .i64 1) = some (Nn (i + 1)) := by
   rw [gG, dH (by omega) (by omega)]; congr 2
  have hlen := gY H p l
  rw [aY, aJ.l1]
  refine fG ?_
  refine eC hc ?_
  rw [← hlen] at hl4
  unfold ys1 at h1 ⊢
  unfold ys4 at hl4
  have fx := aMP g1 <| q2
  have lx1 := hl4
  refine gE ?_
  exact h1
include hS in
theorem aGr (hn : n ≤ 1000) (hk : n < k) (a b : Nat) (ha : a ≤ b) (hb : b ≤ n) (l : List Nat) (hl : l.length = n) :
  ∃ l' : List Nat, bB (aJ.f G (k + 3)) [dS p n, Nn a, Nn b] (SO H p l) = some (.tup [], SO H p l') ∧ l'.Perm l := by
 obtain ⟨i', l', h1, h2⟩ := aGp G k (aJ.f G (k + 2)) hS hn hk a b hb (b - (a + 1)) (a + 1) (k + 2) l (by omega) hl (by omega)
 refine ⟨l', lQ ?_, h2⟩
 rw [aJ.step]
 unfold aJ.c
 rw [gY]
 have q1 : aU Tryd.prog .add 3 true (Nn a) (.int .i64 1) = some (Nn (a + 1 : Nat)) := by
  rw [gG, dH (by omega) (by omega)]; congr 2
 have fin := aJL hS l'
 unfold ys1 at h1
 have hlen := gY H p l
 refine gL ?_
 rw [← hlen] at h1
 have fx := q1
 have lx1 := h1
 refine gE ?_
 exact oF fin
end
section
variable (G : aG) (k : Nat) (self : cD) {H : aB} {p n : Nat} (hS : SB H p)
theorem aLW : dF.f G (k + 3) [.int .u64 0] [] = some (.int .i64 0, []) := by kernel_rfl
theorem aLX : dF.f G (k + 3) [.int .u64 1] [] = some (.int .i64 1, []) := by kernel_rfl
theorem aLY : dF.f G (k + 3) [.int .u64 2] [] = some (.int .i64 2, []) := by kernel_rfl
theorem aLZ : dF.f G (k + 3) [.int .u64 3] [] = some (.int .i64 2, []) := by kernel_rfl
theorem aFK (n : Nat) (h : n ≤ 3) : ∃ z : Int, dF.f G (k + 3) [.int .u64 (n : Int)] [] = some (.int .i64 z, []) := by
 have : n = 0 ∨ n = 1 ∨ n = 2 ∨ n = 3 := by omega
 rcases this with rfl | rfl | rfl | rfl
 ·exact ⟨0, aLW G k⟩
 ·exact ⟨1, aLX G k⟩
 ·exact ⟨2, aLY G k⟩
 ·exact ⟨2, aLZ G k⟩
include hS in
theorem aFG (a b : Nat) (z : Int) : bX H.length [dS p n, Nn a, Nn b, I6 z, .bool true, .bool true] = true := by
 have h1 : decide (p < H.length) = true := decide_eq_true hS.hp
 simp only [dS, bX, bW, h1, Bool.and_self]
include hS in
theorem aGJ (hn : n ≤ 12) (hk : n < k) (z : Int) (l : List Nat) (hl : l.length = n) :
  ∃ l' : List Nat, bB (aT.f G (k + 4)) [dS p n, .int .i64 0, Nn n, I6 z] (SO H p l) = some (.tup [], SO H p l') ∧ l'.Perm l := by
 have hlen := gY H p l
 obtain ⟨l', w, pm⟩ := aGr G k hS (by omega) hk 0 n (by omega) (Nat.le_refl _) l hl
 refine ⟨l', lQ ?_, pm⟩
 have w' : bB (aJ.f G (k + 3)) [dS p n, .int .i64 0, Nn n] (SO H p l) = some (.tup [], SO H p l') := w
 have hc : fE H.length [dS p n, Nn 0, Nn n, I6 z, .bool true, .bool true] (SO H p l) = some (SO H p l) := fZ hS.hb l _ (aFG hS 0 n z)
 have hc' : fE H.length [dS p n, .int .i64 0, Nn n, I6 z, .bool true, .bool true] (SO H p l) = some (SO H p l) := hc
 have e1 : aU Tryd.prog .sub 3 false (Nn n) (.int .i64 0) = some (Nn n) := by
  rw [mK, dH (by omega) (by omega), Int.sub_zero]
 have g1 : aU Tryd.prog .leq 3 true (Nn n) (.int .i64 12) = some (.bool true) := vL (by omega)
 have lw : cQ (aT.l2 G (k + 3) H.length (aT.f G (k + 3))) (k + 3) [dS p n, .int .i64 0, Nn n, I6 z, .bool true, .bool true] (SO H p l) = some (.ret, [dS p n, .int .i64 0, Nn n, I6 z, .bool true, .bool true], SO H p l') := by
  rw [aY, aT.l2]
  refine fG ?_
  refine eC hc' ?_
  have fx := aMP e1 <| aMP g1 <| w'
  refine gE ?_
  refine fP ?_; rfl
 rw [aT.step]
 unfold aT.c
 have fin := aJL hS l'
 rw [← hlen] at lw fin
 refine gL ?_
 have fx := True.intro
 have lx1 := lw
 refine gE ?_
 exact oF fin
include hS in
theorem aGe (hn : n ≤ 3) (hk : n < k) (l : List Nat) (hl : l.length = n) :
  ∃ l' : List Nat, bB (bG.f G (k + 5)) [dS p n] (SO H p l) = some (.tup [], SO H p l') ∧ l'.Perm l := by
 have hlen := gY H p l
 obtain ⟨z, hz⟩ := aFK G (k + 1) n hn
 obtain ⟨l', w, pm⟩ := aGJ G k hS (by omega) hk z l hl
 refine ⟨l', lQ ?_, pm⟩
 have ln : dN (dS p n) = some (Nn n) := rfl
 have c1 : dA .u64 (Nn n) = some (.int .u64 (n : Int)) := by
  have : IntKind.u64.wrap (n : Int) = (n : Int) := iJ (by omega) (by omega)
  simp only [dA, this]
 have r1 : ∀ H, bF (dF.f G (k + 4)) [.int .u64 (n : Int)] H = _ := fun H => dO (H := H) hz rfl rfl
 rw [bG.step]
 unfold bG.c
 have fin := aJL hS l'
 rw [← hlen] at fin
 refine gL ?_
 have fx := aMP ln <| aMP c1 <| aMP r1 <| w
 refine gE ?_
 exact oF fin
end
section
variable (G : aG) (k : Nat) (self : cD) {H : aB} {p n : Nat} (hS : SB H p) {P : Nat → Prop}
theorem aIQ {o m i : Nat} (h : i < m) : aM 1 (.sl p n o m 1) (Nn i) = some (.ptr p n (o + i) 0) := by
 unfold aM
 simp only [Int.toNat_natCast]
 rw [if_pos (by omega), if_pos trivial]
theorem aAC {l : List Nat} (hl : ∀ x ∈ l, P x) {i : Nat} (h : i < l.length) : P (l.getD i 0) := by
 rw [List.getD_eq_getElem?_getD, List.getElem?_eq_getElem h]
 exact hl _ (List.getElem_mem h)
theorem aLw {l : List Nat} (hl : ∀ x ∈ l, P x) (i : Nat) {y : Nat} (hy : P y) : ∀ x ∈ l.set i y, P x := fun x hx => by
 rcases List.mem_or_eq_of_mem_set hx with h | h
 ·exact hl x h
 ·subst h; exact hy
include hS in
theorem xQ (kk kb m i : Nat) : bX H.length [dS p n, Nn kk, .sl p n kb m 1, Nn i] = true := by
 have h1 : decide (p < H.length) = true := decide_eq_true hS.hp
 simp only [dS, bX, bW, h1, Bool.and_self]
include hS in
theorem aDl (hn : n ≤ 1000) (kb : Nat) (h0 : 1 ≤ kb) (hb : kb < n) : ∀ (d i kk f : Nat) (l : List Nat), i + d = n - kb → 1 ≤ i → kb ≤ kk → kk < kb + i → l.length = n → (∀ x ∈ l, P x) → d < f →
  ∃ (i' kk' : Nat) (l' : List Nat), cQ (aI.l9 G k H.length self) f [dS p n, Nn kk, .sl p n kb (n - kb) 1, Nn i] (SO H p l) = some (.exit 2, [dS p n, Nn kk', .sl p n kb (n - kb) 1, Nn i'], SO H p l') ∧ l'.length = n ∧ (∀ x ∈ l', P x) ∧ kb ≤ kk' ∧ kk' ≤ n
 | d, i, kk, 0, l, _, _, _, _, _, _, h => by omega
 | 0, i, kk, f + 1, l, hd, h1, h2, h3, hl, hP, hf => by
  have hc : fE H.length [dS p n, Nn kk, .sl p n kb (n - kb) 1, Nn i] (SO H p l) = some (SO H p l) := fZ hS.hb l _ (xQ hS kk kb (n - kb) i)
  have ln : dN (.sl p n kb (n - kb) 1) = some (Nn (n - kb : Nat)) := rfl
  have g1 : aU Tryd.prog .lss 3 false (Nn i) (Nn (n - kb : Nat)) = some (.bool false) := fO (by omega)
  refine ⟨i, kk, l, ?_, hl, hP, h2, by omega⟩
  rw [aY, aI.l9]
  refine fG ?_
  refine eC hc ?_
  have fx := aMP ln <| g1
  refine gE ?_
  refine fP ?_; rfl
 | d + 1, i, kk, f + 1, l, hd, h1, h2, h3, hl, hP, hf => by
  have hc : fE H.length [dS p n, Nn kk, .sl p n kb (n - kb) 1, Nn i] (SO H p l) = some (SO H p l) := fZ hS.hb l _ (xQ hS kk kb (n - kb) i)
  have ln : dN (.sl p n kb (n - kb) 1) = some (Nn (n - kb : Nat)) := rfl
  have g1 : aU Tryd.prog .lss 3 false (Nn i) (Nn (n - kb : Nat)) = some (.bool true) := fV (by omega)
  have d1 : aM 1 (.sl p n kb (n - kb) 1) (Nn i) = some (.ptr p n (kb + i) 0) := aIQ (by omega)
  have e1 : aU Tryd.prog .sub 3 true (Nn i) (.int .i64 1) = some (Nn (i - 1 : Nat)) := jX (b := 1) (by omega) (by omega)
  have e2 : aU Tryd.prog .add 3 true (Nn i) (.int .i64 1) = some (Nn (i + 1 : Nat)) := jW (by omega)
  have e3 : aU Tryd.prog .add 3 true (Nn kk) (.int .i64 1) = some (Nn (kk + 1 : Nat)) := jW (by omega)
  have d2 : aM 1 (.sl p n kb (n - kb) 1) (Nn (i - 1 : Nat)) = some (.ptr p n (kb + (i - 1)) 0) := aIQ (by omega)
  have d3 : aM 1 (dS p n) (Nn kk) = some (.ptr p n kk 0) := jC (by omega)
  have l1 := sS G hS hl (i := kb + i) (by omega)
  have l2 := sS G hS hl (i := kb + (i - 1)) (by omega)
  have s1 := uX hS hl (i := kk) (by omega) (l.getD (kb + i) 0)
  by_cases hne : l.getD (kb + i) 0 = l.getD (kb + (i - 1)) 0
  ·have g2 : aU Tryd.prog .neq 3 false (Nn (l.getD (kb + i) 0)) (Nn (l.getD (kb + (i - 1)) 0)) = some (.bool false) := vE hne
   obtain ⟨i', kk', l', w, r1, r2, r3, r4⟩ := aDl hn kb h0 hb d (i + 1) kk f l (by omega) (by omega) h2 (by omega) hl hP (by omega)
   refine ⟨i', kk', l', ?_, r1, r2, r3, r4⟩
   rw [aY, aI.l9]
   refine fG ?_
   refine eC hc ?_
   clear hne
   generalize l.getD (kb + i) 0 = y1 at *
   generalize l.getD (kb + (i - 1)) 0 = y2 at *
   have fx := aMP ln <| aMP g1 <| aMP d1 <| aMP e1 <| aMP e2 <| aMP d2 <| aMP l1 <| aMP l2 <| g2
   refine gE ?_
   exact w
  ·have g2 : aU Tryd.prog .neq 3 false (Nn (l.getD (kb + i) 0)) (Nn (l.getD (kb + (i - 1)) 0)) = some (.bool true) := vF hne
   obtain ⟨i', kk', l', w, r1, r2, r3, r4⟩ := aDl hn kb h0 hb d (i + 1) (kk + 1) f (l.set kk (l.getD (kb + i) 0)) (by omega) (by omega) (by omega) (by omega) (by simp [hl]) (aLw hP kk (aAC hP (by omega))) (by omega)
   refine ⟨i', kk', l', ?_, r1, r2, r3, r4⟩
   rw [aY, aI.l9]
   refine fG ?_
   refine eC hc ?_
   clear hne
   generalize l.set kk (l.getD (kb + i) 0) = ls at *
   generalize l.getD (kb + i) 0 = y1 at *
   generalize l.getD (kb + (i - 1)) 0 = y2 at *
   have fx := aMP ln <| aMP g1 <| aMP d1 <| aMP e1 <| aMP e2 <| aMP e3 <| aMP d2 <| aMP d3 <| aMP l1 <| aMP l2 <| aMP g2 <| s1
   refine gE ?_
   exact w
include hS in
theorem xO (i : Nat) : bX H.length [dS p n, .nils, Nn i] = true := by
 have h1 : decide (p < H.length) = true := decide_eq_true hS.hp
 simp only [dS, bX, bW, h1, Bool.and_self]
theorem aAo (d i : Nat) : jA d (some (Nn i)) = some i := by simp [jA]
theorem vA (d : Nat) : jA d none = some d := rfl
include hS in
theorem aDi {l : List Nat} (hl : l.length = n) {kk : Nat} (h : kk ≤ n) : sX (.int .i64 0) (.sl p n kk (n - kk) 1) (SO H p l) = some (.tup [], SO H p (l.take kk ++ List.replicate (n - kk) 0)) := by
 unfold sX
 simp only [aFM hS.hp l, fS, hl]
 rw [if_pos ⟨trivial, trivial, by omega⟩]
 have e1 : (dQ l).take kk ++ (List.replicate (n - kk) (AV.int .i64 0) ++ (dQ l).drop (kk + (List.replicate (n - kk) (AV.int .i64 0)).length)) = dQ (l.take kk ++ List.replicate (n - kk) 0) := by
  rw [List.length_replicate, List.drop_of_length_le (by rw [fS]; omega), List.append_nil]
  unfold dQ
  rw [List.map_append, List.map_take, List.map_replicate]; rfl
 rw [e1, zZ]
include hS in
theorem aGa (hn : n ≤ 1000) (hk : n < k) : ∀ (d i f : Nat) (l : List Nat), i + d = n → 1 ≤ i → l.length = n → (∀ x ∈ l, P x) → d < f →
  (cQ (aI.l4 G k H.length self) f [dS p n, .nils, Nn i] (SO H p l) = some (.exit 0, [dS p n, .nils, Nn n], SO H p l))
  ∨ ∃ (z : AV) (m : Nat) (l' : List Nat), cQ (aI.l4 G k H.length self) f [dS p n, .nils, Nn i] (SO H p l) = some (.ret, [dS p n, .sl p n 0 m 1, z], SO H p l') ∧ m ≤ n ∧ l'.length = n ∧ ∀ j, j < m → P (l'.getD j 0)
 | d, i, 0, l, _, _, _, _, h => by omega
 | 0, i, f + 1, l, hd, h1, hl, hP, hf => by
  have hi : i = n := by omega
  subst hi
  have hc : fE H.length [dS p i, .nils, Nn i] (SO H p l) = some (SO H p l) := fZ hS.hb l _ (xO hS i)
  have ln : dN (dS p i) = some (Nn i) := rfl
  have g1 : aU Tryd.prog .lss 3 false (Nn i) (Nn i) = some (.bool false) := fO (by omega)
  refine .inl ?_
  rw [aY, aI.l4]
  refine fG ?_
  refine eC hc ?_
  have fx := aMP ln <| g1
  refine gE ?_
  refine fP ?_; rfl
 | d + 1, i, f + 1, l, hd, h1, hl, hP, hf => by
  have hlen := gY H p l
  have hc : fE H.length [dS p n, .nils, Nn i] (SO H p l) = some (SO H p l) := fZ hS.hb l _ (xO hS i)
  have ln : dN (dS p n) = some (Nn n) := rfl
  have g1 : aU Tryd.prog .lss 3 false (Nn i) (Nn n) = some (.bool true) := fV (by omega)
  have d1 : aM 1 (dS p n) (Nn i) = some (.ptr p n i 0) := jC (by omega)
  have e1 : aU Tryd.prog .sub 3 true (Nn i) (.int .i64 1) = some (Nn (i - 1 : Nat)) := jX (b := 1) (by omega) (by omega)
  have e2 : aU Tryd.prog .add 3 true (Nn i) (.int .i64 1) = some (Nn (i + 1 : Nat)) := jW (by omega)
  have d2 : aM 1 (dS p n) (Nn (i - 1 : Nat)) = some (.ptr p n (i - 1) 0) := jC (by omega)
  have l1 := sS G hS hl (i := i) (by omega)
  have l2 := sS G hS hl (i := i - 1) (by omega)
  by_cases hne : l.getD i 0 = l.getD (i - 1) 0
  ·have g2 : aU Tryd.prog .eql 3 false (Nn (l.getD i 0)) (Nn (l.getD (i - 1) 0)) = some (.bool true) := aAN hne
   obtain ⟨i', kk', l', w, r1, r2, r3, r4⟩ := aDl G k self hS hn i h1 (by omega) (n - i - 1) 1 i k l (by omega) (by omega) (by omega) (by omega) hl hP (by omega)
   have w' : cQ (aI.l9 G k (SO H p l).length self) k [dS p n, Nn i, .sl p n i (n - i) 1, .int .i64 1] (SO H p l) = some (.exit 2, [dS p n, Nn kk', .sl p n i (n - i) 1, Nn i'], SO H p l') := by
    rw [hlen]; exact w
   have s1 : iQ 1 (dS p n) (some (Nn i)) none = some (.sl p n i (n - i) 1) := by
    simp only [iQ, aAo, vA, dS, Nat.zero_add]
    rw [if_pos (by refine ⟨?_, ?_, trivial⟩ <;> omega)]
   have s2 : iQ 1 (dS p n) (some (Nn kk')) none = some (.sl p n kk' (n - kk') 1) := by
    simp only [iQ, aAo, vA, dS, Nat.zero_add]
    rw [if_pos (by refine ⟨?_, ?_, trivial⟩ <;> omega)]
   have s3 : iQ 1 (dS p n) none (some (Nn kk')) = some (.sl p n 0 kk' 1) := by
    simp only [iQ, aAo, vA, dS, Nat.zero_add, Nat.sub_zero]
    rw [if_pos (by refine ⟨?_, ?_, trivial⟩ <;> omega)]
   have c1 := aDi hS r1 r4
   refine .inr ⟨Nn kk', kk', l'.take kk' ++ List.replicate (n - kk') 0, ?_, r4, by simp [r1]; omega, fun j hj => ?_⟩
   ·rw [aY, aI.l4]
    refine fG ?_
    refine eC hc ?_
    clear hne
    generalize l.getD i 0 = y1 at *
    generalize l.getD (i - 1) 0 = y2 at *
    generalize l'.take kk' ++ List.replicate (n - kk') 0 = lz at *
    have fx := aMP ln <| aMP g1 <| aMP d1 <| aMP d2 <| aMP e1 <| aMP e2 <| aMP l1 <| aMP l2 <| aMP g2 <| aMP s1 <| aMP s2 <| aMP s3 <| c1
    have lx1 := w'
    refine gE ?_
    refine fP ?_; rfl
   ·rw [List.getD_eq_getElem?_getD, List.getElem?_append_left (by simp [r1]; omega), List.getElem?_take_of_lt hj, ← List.getD_eq_getElem?_getD]
    exact aAC r2 (by omega)
  ·have g2 : aU Tryd.prog .eql 3 false (Nn (l.getD i 0)) (Nn (l.getD (i - 1) 0)) = some (.bool false) := aAM hne
   have ih := aGa hn hk d (i + 1) f l (by omega) (by omega) hl hP (by omega)
   have st : cQ (aI.l4 G k H.length self) (f + 1) [dS p n, .nils, Nn i] (SO H p l) = cQ (aI.l4 G k H.length self) f [dS p n, .nils, Nn (i + 1 : Nat)] (SO H p l) := by
    generalize hgen : cQ (aI.l4 G k H.length self) f [dS p n, .nils, Nn (i + 1 : Nat)] (SO H p l) = rr
    rw [aY, aI.l4]
    refine fG ?_
    refine eC hc ?_
    clear hne ih
    generalize l.getD i 0 = y1 at *
    generalize l.getD (i - 1) 0 = y2 at *
    have fx := aMP ln <| aMP g1 <| aMP d1 <| aMP d2 <| aMP e1 <| aMP e2 <| aMP l1 <| aMP l2 <| g2
    refine gE ?_
    exact hgen
   rw [st]; exact ih
include hS in
theorem aGb (hn : n ≤ 1000) (hk : n < k) (l : List Nat) (hl : l.length = n) (hP : ∀ x ∈ l, P x) :
  ∃ (m : Nat) (l' : List Nat), bB (aI.f G (k + 1)) [dS p n] (SO H p l) = some (.sl p n 0 m 1, SO H p l') ∧ m ≤ n ∧ l'.length = n ∧ ∀ j, j < m → P (l'.getD j 0) := by
 have hlen := gY H p l
 have ln : dN (dS p n) = some (Nn n) := rfl
 have hp : decide (p < H.length) = true := decide_eq_true hS.hp
 have fin : ∀ (m : Nat) (l' : List Nat), cA [.sl p n 0 m 1] H.length (SO H p l') = some (.ret, [.sl p n 0 m 1], SO H p l') := fun m l' => by
  unfold cA
  rw [fZ hS.hb l' _ (by simp only [bX, bW, hp, Bool.and_self])]
  have e : qY (SO H p l') H.length 6 (nY [.sl p n 0 m 1]) = some (.sl p n 0 m 1) := by
   simp only [nY, qY, bW, hp]
  simp only [e]
 have hc : ∀ {r : AV} {l' : List Nat}, aI.f G (k + 1) [dS p n] (SO H p l) = some (r, SO H p l') → bB (aI.f G (k + 1)) [dS p n] (SO H p l) = some (r, SO H p l') := fun h => by
  unfold bB; rw [h]; simp only [gY, Nat.le_refl, if_true]
 by_cases h2 : n < 2
 ·have g1 : aU Tryd.prog .lss 3 true (Nn n) (.int .i64 2) = some (.bool true) := fV (by omega)
  refine ⟨n, l, hc ?_, Nat.le_refl _, hl, fun j hj => aAC hP (by omega)⟩
  have fin' := fin n l
  rw [aI.step]
  unfold aI.c
  rw [← hlen] at fin'
  refine gL ?_
  have fx := aMP ln <| g1
  refine gE ?_
  exact oF fin'
 ·have g1 : aU Tryd.prog .lss 3 true (Nn n) (.int .i64 2) = some (.bool false) := fO (by omega)
  rcases aGa G k (aI.f G k) hS (P := P) hn hk (n - 1) 1 k l (by omega) (by omega) hl hP (by omega) with w | ⟨z, m, l', w, r1, r2, r3⟩
  ·have w' : cQ (aI.l4 G k (SO H p l).length (aI.f G k)) k [dS p n, .nils, .int .i64 1] (SO H p l) = some (.exit 0, [dS p n, .nils, Nn n], SO H p l) := by
    rw [hlen]; exact w
   refine ⟨n, l, hc ?_, Nat.le_refl _, hl, fun j hj => aAC hP (by omega)⟩
   have fin' := fin n l
   rw [aI.step]
   unfold aI.c
   rw [← hlen] at fin'
   refine gL ?_
   have fx := aMP ln <| g1
   have lx1 := w'
   refine gE ?_
   exact oF fin'
  ·have w' : cQ (aI.l4 G k (SO H p l).length (aI.f G k)) k [dS p n, .nils, .int .i64 1] (SO H p l) = some (.ret, [dS p n, .sl p n 0 m 1, z], SO H p l') := by
    rw [hlen]; exact w
   refine ⟨m, l', hc ?_, r1, r2, r3⟩
   have fin' := fin m l'
   rw [aI.step]
   unfold aI.c
   rw [← hlen] at fin'
   refine gL ?_
   have fx := aMP ln <| g1
   have lx1 := w'
   refine gE ?_
   exact oF fin'
end
def sV (w : WI) (f : Frm) : aB := [⟨100, 6, [fL (cE w.op) f]⟩, ⟨3, 1, []⟩]
theorem aIz (w : WI) (f : Frm) : SB (sV w f) 1 := ⟨by show 1 < 2; decide, by simp [sV, dB, bX, bW, fL]⟩
def flR (f : Frm) : AV := .ro false [.bool f.a, .bool f.b, .bool f.c]
def qX (w : WI) (f : Frm) (n j : Nat) : List AV := [.rp false w.v 0, .sl 1 n 0 n 1, flR f, .int .i64 3, Nn j]
def xS (w : WI) (j : Nat) : Int := if j = 0 then w.a else if j = 1 then w.b else w.c
def fgR (f : Frm) (j : Nat) : Bool := if j = 0 then f.a else if j = 1 then f.b else f.c
section
variable (G : aG) (k : Nat) (self : cD) (w : WI) (f : Frm)
theorem xR (n j : Nat) : bX 2 (qX w f n j) = true := by simp [qX, flR, bX, bW, WI.v]
theorem aKJ (l : List Nat) (x : Nat) (hl : l.length ≤ 100) : eE 3 1 (.sl 1 l.length 0 l.length 1) (.ro false [Nn x]) (SO (sV w f) 1 l) = some (.sl 1 (l ++ [x]).length 0 (l ++ [x]).length 1, SO (sV w f) 1 (l ++ [x])) := by
 have e : (SO (sV w f) 1 l)[1]? = some ⟨3, 1, dQ l⟩ := rfl
 have e2 : gB (.ro false [Nn x]) (SO (sV w f) 1 l) = some [Nn x] := rfl
 unfold eE
 simp only [e, e2, fS]
 rw [if_pos (by refine ⟨?_, ?_, ?_, ?_, ?_⟩ <;> first | trivial | rfl | (show l.length + 1 ≤ _; omega))]
 have e2 : (dQ l).take l.length = dQ l := List.take_of_length_le (by rw [fS]; exact Nat.le_refl _)
 have e3 : (dQ l).drop (l.length + [Nn x].length) = [] := List.drop_of_length_le (by rw [fS]; exact Nat.le_add_right _ _)
 have e4 : dQ l ++ [Nn x] = dQ (l ++ [x]) := by simp [dQ]
 rw [e2, e3, List.append_nil, e4, fS, zZ]
 simp
theorem zY (j : Nat) (hj : j < 3) (l : List Nat) (hl : l.length ≤ 100) (hv : fgR f j = true → 0 ≤ xS w j) (n : Nat) :
  cQ (cJ.l4 G k 2 self) (n + 1) (qX w f l.length j) (SO (sV w f) 1 l) = cQ (cJ.l4 G k 2 self) n (qX w f (if fgR f j = true then l ++ [(xS w j).toNat] else l).length (j + 1)) (SO (sV w f) 1 (if fgR f j = true then l ++ [(xS w j).toNat] else l)) := by
 have hc : fE 2 (qX w f l.length j) (SO (sV w f) 1 l) = some (SO (sV w f) 1 l) := fZ (aIz w f).hb l _ (xR w f _ _)
 have g1 : aU Tryd.prog .lss 3 false (Nn j) (.int .i64 3) = some (.bool true) := fV (by omega)
 have q2 : aU Tryd.prog .add 3 true (Nn j) (.int .i64 1) = some (Nn (j + 1 : Nat)) := jW (by omega)
 have hb : ∃ b, fgR f j = b := ⟨_, rfl⟩
 obtain ⟨b, hb⟩ := hb
 have d1 : aM 1 (flR f) (Nn j) = some (.rp false (.bool b) 0) := by
  rw [← hb]
  have : j = 0 ∨ j = 1 ∨ j = 2 := by omega
  rcases this with rfl | rfl | rfl <;> rfl
 have l1 : ∀ H, aF G false 1 (.rp false (.bool b) 0) H = some (.bool b) := fun H => rfl
 have f2 := gi2 w
 have f3 := gi3 w
 have f4 := gi4 w
 have v2 := aJD G w
 have v3 := gl3 G w
 have v4 := aLA G w
 have br : ∀ H, eQ 1 3 (.int .i64 0) [(0, I6 w.a), (1, I6 w.b), (2, I6 w.c)] H = some (.ro false [I6 w.a, I6 w.b, I6 w.c], H) := fun H => rfl
 have d2 : aM 1 (.ro false [I6 w.a, I6 w.b, I6 w.c]) (Nn j) = some (.rp false (I6 (xS w j)) 0) := by
  have : j = 0 ∨ j = 1 ∨ j = 2 := by omega
  rcases this with rfl | rfl | rfl <;> rfl
 have l2 : ∀ H, aF G false 1 (.rp false (I6 (xS w j)) 0) H = some (I6 (xS w j)) := fun H => rfl
 have b2 : ∀ H, eQ 1 1 (.int .i64 0) [(0, I6 (xS w j))] H = some (.ro false [I6 (xS w j)], H) := fun H => rfl
 rw [hb]
 rw [hb] at hv
 generalize hrr : cQ (cJ.l4 G k 2 self) n (qX w f (if b = true then l ++ [(xS w j).toNat] else l).length (j + 1)) (SO (sV w f) 1 (if b = true then l ++ [(xS w j).toNat] else l)) = rr
 rw [aY, cJ.l4]
 refine fG ?_
 refine eC hc ?_
 cases b with
 | true =>
  have hv' := hv rfl
  have en : I6 (xS w j) = Nn (xS w j).toNat := by
   show AV.int .i64 (xS w j) = .int .i64 ((xS w j).toNat : Int)
   rw [Int.toNat_of_nonneg hv']
  have a1 := aKJ w f l (xS w j).toNat hl
  rw [← en] at a1
  rw [if_pos rfl] at hrr
  generalize l ++ [(xS w j).toNat] = l' at *
  clear hv hv' en
  unfold qX at hrr ⊢
  generalize flR f = fl at *
  generalize xS w j = rj at *
  generalize w.v = wv at *
  have fx := aMP g1 <| aMP q2 <| aMP d1 <| aMP l1 <| aMP f2 <| aMP f3 <| aMP f4 <| aMP v2 <| aMP v3 <| aMP v4 <| aMP br <| aMP d2 <| aMP l2 <| aMP b2 <| a1
  refine gE ?_
  exact hrr
 | false =>
  rw [if_neg (by decide)] at hrr
  clear hv
  unfold qX at hrr ⊢
  generalize flR f = fl at *
  have fx := aMP g1 <| aMP q2 <| aMP d1 <| l1
  refine gE ?_
  exact hrr
theorem aKK (l : List Nat) (n : Nat) :
  cQ (cJ.l4 G k 2 self) (n + 1) (qX w f l.length 3) (SO (sV w f) 1 l) = some (.exit 0, qX w f l.length 3, SO (sV w f) 1 l) := by
 have hc : fE 2 (qX w f l.length 3) (SO (sV w f) 1 l) = some (SO (sV w f) 1 l) := fZ (aIz w f).hb l _ (xR w f _ _)
 have g1 : aU Tryd.prog .lss 3 false (Nn 3) (.int .i64 3) = some (.bool false) := fO (by omega)
 rw [aY, cJ.l4]
 refine fG ?_
 refine eC hc ?_
 unfold qX
 have fx := g1
 refine gE ?_
 refine fP ?_; rfl
def rA (w : WI) (f : Frm) (j : Nat) (l : List Nat) : List Nat := if fgR f j = true then l ++ [(xS w j).toNat] else l
theorem oM (j : Nat) (l : List Nat) : (rA w f j l).length ≤ l.length + 1 := by unfold rA; split <;> simp
theorem vT {P : Nat → Prop} {j : Nat} {l : List Nat} (h : ∀ x ∈ l, P x) (h2 : fgR f j = true → P (xS w j).toNat) : ∀ x ∈ rA w f j l, P x := by
 unfold rA
 by_cases e : fgR f j = true
 ·rw [if_pos e]
  intro x hx
  rcases List.mem_append.1 hx with hx | hx
  ·exact h x hx
  ·rw [List.mem_singleton.1 hx]; exact h2 e
 ·rw [if_neg e]; exact h
theorem aCr (l : List Nat) : iM (dQ l) = true := lO _ (fun _ => rfl) l
theorem aGC (l : List Nat) : kY 1 (dQ l) = true := pN 1 _ (fun _ => rfl) l
theorem aDb {R n : Nat} (hg : w.Good R n) (hk : 10 ≤ k) : ∃ l : List Nat, cJ.f G (k + 20) [w.v] [] = some (.ro false (dQ l), []) ∧ (∀ x ∈ l, x < R) ∧ l.length ≤ 3 := by
 obtain ⟨ga, gb, gc⟩ := sZ hg
 obtain ⟨F, hF⟩ : ∃ F, dC w.op = F := ⟨_, rfl⟩
 rw [hF] at ga gb gc
 have hfg : ∀ j, j < 3 → fgR F j = true → 0 ≤ xS w j ∧ xS w j < R := fun j hj => by
  have : j = 0 ∨ j = 1 ∨ j = 2 := by omega
  rcases this with rfl | rfl | rfl
  ·exact ga
  ·exact gb
  ·exact gc
 have hlt : ∀ j, j < 3 → fgR F j = true → (xS w j).toNat < R := fun j hj h => by have := hfg j hj h; omega
 obtain ⟨l3, e3⟩ : ∃ l, l = rA w F 2 (rA w F 1 (rA w F 0 [])) := ⟨_, rfl⟩
 have k3 : l3.length ≤ 3 := by
  have h1 := oM w F 0 []
  have h2 := oM w F 1 (rA w F 0 [])
  have h3 := oM w F 2 (rA w F 1 (rA w F 0 []))
  rw [e3]; simp only [List.length_nil] at h1; omega
 have a3 : ∀ x ∈ l3, x < R := by
  rw [e3]
  exact vT w F (vT w F (vT w F (fun x hx => by cases hx) (hlt 0 (by omega))) (hlt 1 (by omega))) (hlt 2 (by omega))
 have lp : cQ (cJ.l4 G (k + 19) 2 (cJ.f G (k + 19))) (k + 19) (qX w F 0 0) (sV w F) = some (.exit 0, qX w F l3.length 3, SO (sV w F) 1 l3) := by
  have h1 := oM w F 0 []
  have h2 := oM w F 1 (rA w F 0 [])
  simp only [List.length_nil] at h1
  have r1 := zY G (k + 19) (cJ.f G (k + 19)) w F 0 (by omega) [] (by decide) (fun h => (hfg 0 (by omega) h).1) (k + 18)
  have r2 := zY G (k + 19) (cJ.f G (k + 19)) w F 1 (by omega) (rA w F 0 []) (by omega) (fun h => (hfg 1 (by omega) h).1) (k + 17)
  have r3 := zY G (k + 19) (cJ.f G (k + 19)) w F 2 (by omega) (rA w F 1 (rA w F 0 [])) (by omega) (fun h => (hfg 2 (by omega) h).1) (k + 16)
  have r4 := aKK G (k + 19) (cJ.f G (k + 19)) w F l3 (k + 15)
  rw [e3] at r4 ⊢
  exact r1.trans (r2.trans (r3.trans r4))
 obtain ⟨l4, s4, pm⟩ := aGe G (k + 14) (aIz w F) k3 (by omega) l3 rfl
 have a4 : ∀ x ∈ l4, x < R := fun x hx => a3 x (pm.subset hx)
 have k4 : l4.length = l3.length := pm.length_eq
 obtain ⟨m, l5, s5, m5, k5, a5⟩ := aGb (P := fun x => x < R) G (k + 18) (aIz w F) (by omega) (by omega) l4 k4 a4
 refine ⟨l5.take m, ?_, fun x hx => ?_, by rw [List.length_take]; omega⟩
 ·rw [cJ.step]
  unfold cJ.c
  have r0 : ∀ H, bF (dK.f G (k + 19)) [I6 w.op] H = _ := fun H => dO (H := H) (iD G (k + 15) w.op) rfl rfl
  rw [hF] at r0
  have b0 := aKr w
  have f0 := gi0 w
  have v0 := aJC G w
  have b1 : fW 100 (.agg [(.str ⟨#[]⟩), (.bool false), (.bool false), (.bool false), (.bool false), (.bool false)]) [] = some (.ptr 0 1 0 0, [⟨100, 6, [(.agg [(.str ⟨#[]⟩), (.bool false), (.bool false), (.bool false), (.bool false), (.bool false)])]⟩]) := rfl
  have st : fM (aV 6 (.ptr 0 1 0 0) (fL (cE w.op) F) [⟨100, 6, [(.agg [(.str ⟨#[]⟩), (.bool false), (.bool false), (.bool false), (.bool false), (.bool false)])]⟩]) = some (.tup [], [⟨100, 6, [fL (cE w.op) F]⟩]) := rfl
  have f2 : aA 2 (.ptr 0 1 0 0) = some (.ptr 0 1 0 2) := rfl
  have f3 : aA 3 (.ptr 0 1 0 0) = some (.ptr 0 1 0 3) := rfl
  have f4 : aA 4 (.ptr 0 1 0 0) = some (.ptr 0 1 0 4) := rfl
  have v2 : aF G false 1 (.ptr 0 1 0 2) ([⟨100, 6, [fL (cE w.op) F]⟩] ++ [⟨3, 1, []⟩]) = some (.bool F.a) := rfl
  have v3 : aF G false 1 (.ptr 0 1 0 3) ([⟨100, 6, [fL (cE w.op) F]⟩] ++ [⟨3, 1, []⟩]) = some (.bool F.b) := rfl
  have v4 : aF G false 1 (.ptr 0 1 0 4) ([⟨100, 6, [fL (cE w.op) F]⟩] ++ [⟨3, 1, []⟩]) = some (.bool F.c) := rfl
  have br : ∀ H, eQ 1 3 (.bool false) [(0, .bool F.a), (1, .bool F.b), (2, .bool F.c)] H = some (flR F, H) := fun H => rfl
  have ln : dN (flR F) = some (.int .i64 3) := rfl
  have hlen : (sV w F).length = 2 := rfl
  have fin : cA [.sl 1 l3.length 0 m 1] 0 (SO (sV w F) 1 l5) = some (.ret, [.ro false (dQ (l5.take m))], []) := by
   have hb : (SO (sV w F) 1 l5)[1]? = some ⟨3, 1, dQ l5⟩ := rfl
   have h1 : bW 0 (.sl 1 l3.length 0 m 1) = false := by simp [bW]
   have h3 : gB (.sl 1 l3.length 0 m 1) (SO (sV w F) 1 l5) = some (dQ (l5.take m)) := by
    simp only [gB, hb, fS, k5, if_true, List.drop_zero]
    unfold dQ; rw [List.map_take]
   have h2 : nT (tX (qY (SO (sV w F) 1 l5) 0 5)) (dQ (l5.take m)) = some (dQ (l5.take m)) := sD fun x h => yI (nO (jN 0 _) x h)
   have h4 : qY (SO (sV w F) 1 l5) 0 6 (.sl 1 l3.length 0 m 1) = some (.ro false (dQ (l5.take m))) := by
    unfold qY
    simp only [h1, h3, aGC, h2]
   have := aAA h4 (by rfl)
   rw [this]; rfl
  unfold qX at lp
  have s4' : bB (bG.f G (k + 19)) [dS 1 l3.length] (SO (sV w F) 1 l3) = some (.tup [], SO (sV w F) 1 l4) := s4
  have lp' : cQ (cJ.l4 G (k + 19) (List.length (([⟨100, 6, [fL (cE w.op) F]⟩] ++ [⟨3, 1, []⟩]) : aB)) (cJ.f G (k + 19))) (k + 19) [.rp false w.v 0, .sl (List.length [(⟨100, 6, [fL (cE w.op) F]⟩ : ABlk)]) 0 0 0 1, flR F, .int .i64 3, .int .i64 0] ([⟨100, 6, [fL (cE w.op) F]⟩] ++ [⟨3, 1, []⟩]) = some (.exit 0, [.rp false w.v 0, .sl 1 l3.length 0 l3.length 1, flR F, .int .i64 3, Nn 3], SO (sV w F) 1 l3) := lp
  clear lp
  generalize w.v = wv at *
  generalize fL (cE w.op) F = fv at *
  generalize flR F = fl at *
  generalize sV w F = HR at *
  refine gL ?_
  have fx := aMP r0 <| aMP b0 <| aMP f0 <| aMP v0 <| aMP b1 <| aMP st <| aMP f2 <| aMP f3 <| aMP f4 <| aMP v2 <| aMP v3 <| aMP v4 <| aMP br <| aMP ln <| aMP s4' <| s5
  have lx1 := lp'
  refine gE ?_
  exact oF fin
 ·obtain ⟨j, hj, rfl⟩ := List.getElem_of_mem hx
  rw [List.length_take] at hj
  have := a5 j (by omega)
  rw [List.getD_eq_getElem?_getD, List.getElem?_eq_getElem (by omega)] at this
  simpa using this
theorem aBx (op d a b c kk : Int) (H : aB) : dP.f G (k + 6) [WI.v ⟨op, d, a, b, c, kk⟩] [] = some (.tup [I6 (if (dC op).d = true then d else 0), .bool (dC op).d], []) := by
 rw [dP.step]
 unfold dP.c
 have r0 : ∀ H, bF (dK.f G (k + 5)) [I6 op] H = _ := fun H => dO (H := H) (iD G (k + 1) op) rfl rfl
 have b0 := aKr (⟨op, d, a, b, c, kk⟩ : WI)
 have f0 := gi0 (⟨op, d, a, b, c, kk⟩ : WI)
 have f1 := gi1 (⟨op, d, a, b, c, kk⟩ : WI)
 have v0 := aJC G (⟨op, d, a, b, c, kk⟩ : WI)
 have v1 := aLz G (⟨op, d, a, b, c, kk⟩ : WI)
 have b1 : fW 100 (.agg [(.str ⟨#[]⟩), (.bool false), (.bool false), (.bool false), (.bool false), (.bool false)]) [] = some (.ptr 0 1 0 0, [⟨100, 6, [(.agg [(.str ⟨#[]⟩), (.bool false), (.bool false), (.bool false), (.bool false), (.bool false)])]⟩]) := rfl
 obtain ⟨F, hF⟩ : ∃ F, dC op = F := ⟨_, rfl⟩
 rw [hF] at r0 ⊢
 have st : fM (aV 6 (.ptr 0 1 0 0) (fL (cE op) F) [⟨100, 6, [(.agg [(.str ⟨#[]⟩), (.bool false), (.bool false), (.bool false), (.bool false), (.bool false)])]⟩]) = some (.tup [], [⟨100, 6, [fL (cE op) F]⟩]) := rfl
 have ff : aA 1 (.ptr 0 1 0 0) = some (.ptr 0 1 0 1) := rfl
 have vf : aF G false 1 (.ptr 0 1 0 1) [⟨100, 6, [fL (cE op) F]⟩] = some (.bool F.d) := rfl
 have fin : ∀ (x : Int) (b : Bool), cA [I6 x, .bool b] 0 [⟨100, 6, [fL (cE op) F]⟩] = some (.ret, [.tup [I6 x, .bool b]], []) := fun x b => rfl
 have fin1 := fin d true
 have fin2 := fin 0 false
 cases hd : F.d with
 | true =>
  rw [hd] at vf
  rw [if_pos rfl]
  generalize WI.v ⟨op, d, a, b, c, kk⟩ = wv at *
  generalize fL (cE op) F = fv at *
  refine gL ?_
  have fx := aMP r0 <| aMP b0 <| aMP f0 <| aMP f1 <| aMP v0 <| aMP v1 <| aMP b1 <| aMP st <| aMP ff <| vf
  refine gE ?_
  exact oF fin1
 | false =>
  rw [hd] at vf
  rw [if_neg (by decide)]
  generalize WI.v ⟨op, d, a, b, c, kk⟩ = wv at *
  generalize fL (cE op) F = fv at *
  refine gL ?_
  have fx := aMP r0 <| aMP b0 <| aMP f0 <| aMP f1 <| aMP v0 <| aMP v1 <| aMP b1 <| aMP st <| aMP ff <| vf
  refine gE ?_
  exact oF fin2
end
def jE (us : List Int) : List AV := us.map fun u => I6 u
theorem yR (us : List Int) : (jE us).length = us.length := by simp [jE]
theorem rW (n : Nat) (l : List Int) : bX n (jE l) = true := jI n _ (fun _ => rfl) l
theorem aFh (us : List Int) (j : Nat) (x : Int) : (jE us).set j (I6 x) = jE (us.set j x) := by unfold jE; rw [List.map_set]
theorem yQ (us : List Int) (j : Nat) (h : j < us.length) : (jE us)[j]? = some (I6 (us.getD j 0)) := by
 unfold jE
 rw [List.getElem?_map, List.getElem?_eq_getElem h, List.getD_eq_getElem?_getD, List.getElem?_eq_getElem h]; rfl
section
variable (bor : Bool) (ws : List WI) (R M S : Nat)
abbrev k0 : ABlk := ⟨27, 3, [cV bor ws R M]⟩
abbrev k1 : ABlk := ⟨27, 3, [.agg [.nils, .int .i64 0, .int .i64 0]]⟩
abbrev k2 : ABlk := ⟨86, 7, [.agg [.ro bor (bO ws), Nn R, Nn M, .nils, .nils, .nils, .nils]]⟩
abbrev k4 : ABlk := ⟨49, 1, [.sl 3 R 0 R 1]⟩
def hpK : aB := [k0 bor ws R M, k1, k2 bor ws R M]
def mX (us : List Int) (T : aB) : aB := k0 bor ws R M :: k1 :: k2 bor ws R M :: ⟨3, 1, jE us⟩ :: k4 R :: T
theorem tB (us : List Int) (T : aB) (hT : Pl T) (n : Nat) (hn : 5 ≤ n) : dB n (mX bor ws R M us T) = true := by
 have h3 : decide (3 < n) = true := decide_eq_true (by omega)
 simp only [mX, cV, dB, bX, bW, fQ, rW, hT n, h3, Bool.and_self]
theorem vC (us : List Int) (T X : aB) (hT : Pl T) (xs : List AV) (hx : bX (T.length + 5) xs = true) : fE (T.length + 5) xs (mX bor ws R M us (T ++ X)) = some (mX bor ws R M us T) := by
 have e : (mX bor ws R M us (T ++ X)).take (T.length + 5) = mX bor ws R M us T := by
  unfold mX
  simp only [List.take_succ_cons]
  rw [List.take_append_of_le_length (Nat.le_refl _), List.take_length]
 unfold fE
 rw [e, hx, tB bor ws R M us T hT _ (by omega)]; rfl
variable (G : aG) (k : Nat) (self : cD)
theorem aLc (us : List Int) (T : aB) : aF G false 1 (.ptr 4 1 0 0) (mX bor ws R M us T) = some (.sl 3 R 0 R 1) := rfl
theorem ldU (us : List Int) (T : aB) (hu : us.length = R) (r : Nat) (hr : r < R) : aF G false 1 (.ptr 3 R r 0) (mX bor ws R M us T) = some (I6 (us.getD r 0)) := by
 have e : (mX bor ws R M us T)[3]? = some ⟨3, 1, jE us⟩ := rfl
 unfold aF
 simp only [e, yR, hu, if_true, yQ us r (by omega)]
 rfl
theorem stU (us : List Int) (T : aB) (hu : us.length = R) (r : Nat) (hr : r < R) (x : Int) : fM (aV 1 (.ptr 3 R r 0) (I6 x) (mX bor ws R M us T)) = some (.tup [], mX bor ws R M (us.set r x) T) := by
 have e : (mX bor ws R M us T)[3]? = some ⟨3, 1, jE us⟩ := rfl
 have e1 : aV 1 (.ptr 3 R r 0) (I6 x) (mX bor ws R M us T) = some (mX bor ws R M (us.set r x) T) := by
  unfold aV
  simp only [e, yR, hu]
  rw [if_pos ⟨trivial, rfl, rfl⟩]
  simp only [yQ us r (by omega)]
  rw [if_pos (by show 0 + 1 ≤ 1; omega)]
  have : kJ (I6 (us.getD r 0)) (kI (I6 (us.getD r 0)).cells 0 (I6 x).cells) = I6 x := rfl
  rw [this, aFh]; rfl
 rw [e1]; rfl
theorem wL (b n : Nat) {r : Nat} (h : r < n) : aM 1 (.sl b n 0 n 1) (Nn r) = some (.ptr b n r 0) := by
 rw [sK (by omega) (by omega), Nat.zero_add, Int.toNat_natCast]
theorem aKj (L : List Nat) (j : Nat) (hj : j < L.length) : aM 1 (.ro false (dQ L)) (Nn j) = some (.rp false (Nn (L.getD j 0)) 0) := qR (iV L j hj) rfl
theorem aJS (n : Nat) (H : aB) : aF G false 1 (.rp false (Nn n) 0) H = some (Nn n) := rfl
def aCX (w : WI) (L : List Nat) (j t : Nat) : List AV := [BX, Nn S, .ptr 4 1 0 0, .ptr 5 1 0 0, .ro bor (bO ws), Nn ws.length, Nn j, .ro false (dQ L), Nn L.length, Nn t]
theorem xP (w : WI) (L : List Nat) (j t : Nat) : bX 6 (aCX bor ws S w L j t) = true := by simp [aCX, BX, bX, bW, fQ, jN]
theorem l6K (w : WI) (L : List Nat) (hL : ∀ x ∈ L, x < R) (hl : L.length ≤ 1000) (j : Nat) : ∀ (d t f : Nat) (us : List Int), t + d = L.length → us.length = R → d < f →
  ∃ us' : List Int, cQ (aQ.l6 G k 6 self) f (aCX bor ws S w L j t) (mX bor ws R M us [⟨29, 6, [w.v]⟩]) = some (.exit 2, aCX bor ws S w L j L.length, mX bor ws R M us' [⟨29, 6, [w.v]⟩]) ∧ us'.length = R
 | d, t, 0, us, _, _, h => by omega
 | 0, t, f + 1, us, hd, hu, hf => by
  have ht : t = L.length := by omega
  subst ht
  have hc : fE 6 (aCX bor ws S w L j L.length) (mX bor ws R M us [⟨29, 6, [w.v]⟩]) = some (mX bor ws R M us [⟨29, 6, [w.v]⟩]) := vC bor ws R M us [⟨29, 6, [w.v]⟩] [] (xY w) _ (xP bor ws S w L j _)
  have g1 : aU Tryd.prog .lss 3 false (Nn L.length) (Nn L.length) = some (.bool false) := fO (by omega)
  refine ⟨us, ?_, hu⟩
  rw [aY, aQ.l6]
  refine fG ?_
  refine eC hc ?_
  unfold aCX
  have fx := g1
  refine gE ?_
  refine fP ?_; rfl
 | d + 1, t, f + 1, us, hd, hu, hf => by
  have hc : fE 6 (aCX bor ws S w L j t) (mX bor ws R M us [⟨29, 6, [w.v]⟩]) = some (mX bor ws R M us [⟨29, 6, [w.v]⟩]) := vC bor ws R M us [⟨29, 6, [w.v]⟩] [] (xY w) _ (xP bor ws S w L j _)
  have g1 : aU Tryd.prog .lss 3 false (Nn t) (Nn L.length) = some (.bool true) := fV (by omega)
  have q2 : aU Tryd.prog .add 3 true (Nn t) (.int .i64 1) = some (Nn (t + 1 : Nat)) := jW (by omega)
  have hr : L.getD t 0 < R := kM hL (by omega)
  have d1 := aKj L t (by omega)
  have l1 := aJS G (L.getD t 0)
  have l0 := aLc bor ws R M G us [⟨29, 6, [w.v]⟩]
  have d2 := wL 3 R hr
  have l2 := ldU bor ws R M G us [⟨29, 6, [w.v]⟩] hu (L.getD t 0) hr
  have q3 : aU Tryd.prog .add 3 true (I6 (us.getD (L.getD t 0) 0)) (.int .i64 1) = some (I6 (IntKind.i64.wrap (us.getD (L.getD t 0) 0 + 1))) := gG _ _ _ _ _ _
  have s1 := stU bor ws R M us [⟨29, 6, [w.v]⟩] hu (L.getD t 0) hr (IntKind.i64.wrap (us.getD (L.getD t 0) 0 + 1))
  obtain ⟨us', w', hu'⟩ := l6K w L hL hl j d (t + 1) f (us.set (L.getD t 0) (IntKind.i64.wrap (us.getD (L.getD t 0) 0 + 1))) (by omega) (by rw [List.length_set]; exact hu) (by omega)
  refine ⟨us', ?_, hu'⟩
  rw [aY, aQ.l6]
  refine fG ?_
  refine eC hc ?_
  clear hr hL
  unfold aCX at w' ⊢
  generalize us.set (L.getD t 0) (IntKind.i64.wrap (us.getD (L.getD t 0) 0 + 1)) = us1 at *
  generalize IntKind.i64.wrap (us.getD (L.getD t 0) 0 + 1) = z1 at *
  generalize us.getD (L.getD t 0) 0 = z0 at *
  generalize L.getD t 0 = r at *
  have fx := aMP g1 <| aMP q2 <| aMP d1 <| aMP l1 <| aMP l0 <| aMP d2 <| aMP l2 <| aMP q3 <| s1
  refine gE ?_
  exact w'
def aBs (j : Nat) : List AV := [BX, Nn S, .ptr 4 1 0 0, .ro bor (bO ws), Nn ws.length, Nn j]
theorem xN (j : Nat) : bX 5 (aBs bor ws S j) = true := by simp [aBs, BX, bX, bW, fQ]
theorem l3K (hw : ∀ w ∈ ws, w.Good R ws.length) (hn : ws.length ≤ 10000) (hk : 10 ≤ k) : ∀ (d j f : Nat) (us : List Int) (X : aB), j + d = ws.length → us.length = R → d < f →
  ∃ us' : List Int, cQ (aQ.l3 G (k + 29) 5 self) f (aBs bor ws S j) (mX bor ws R M us X) = some (.exit 0, aBs bor ws S ws.length, mX bor ws R M us' []) ∧ us'.length = R
 | d, j, 0, us, X, _, _, h => by omega
 | 0, j, f + 1, us, X, hd, hu, hf => by
  have hj : j = ws.length := by omega
  subst hj
  have hc : fE 5 (aBs bor ws S ws.length) (mX bor ws R M us X) = some (mX bor ws R M us []) := vC bor ws R M us [] X (fun _ => rfl) _ (xN bor ws S _)
  have g1 : aU Tryd.prog .lss 3 false (Nn ws.length) (Nn ws.length) = some (.bool false) := fO (by omega)
  refine ⟨us, ?_, hu⟩
  rw [aY, aQ.l3]
  refine fG ?_
  refine eC hc ?_
  unfold aBs
  have fx := g1
  refine gE ?_
  refine fP ?_; rfl
 | d + 1, j, f + 1, us, X, hd, hu, hf => by
  have hc : fE 5 (aBs bor ws S j) (mX bor ws R M us X) = some (mX bor ws R M us []) := vC bor ws R M us [] X (fun _ => rfl) _ (xN bor ws S _)
  have g1 : aU Tryd.prog .lss 3 false (Nn j) (Nn ws.length) = some (.bool true) := fV (by omega)
  have q2 : aU Tryd.prog .add 3 true (Nn j) (.int .i64 1) = some (Nn (j + 1 : Nat)) := jW (by omega)
  obtain ⟨w, hwj⟩ : ∃ w, ws.getD j default = w := ⟨_, rfl⟩
  have hmem : w ∈ ws := by
   rw [← hwj, List.getD_eq_getElem?_getD, List.getElem?_eq_getElem (by omega)]; exact List.getElem_mem _
  have hg := hw w hmem
  have d1 := aEg bor ws j (by omega)
  rw [hwj] at d1
  have d2 : ∀ H, aF G true 6 (.rp bor w.v 0) H = some w.v := fun H => rfl
  have b1 : fW 29 (.agg [(.int .i64 0), (.int .i64 0), (.int .i64 0), (.int .i64 0), (.int .i64 0), (.int .i64 0)]) (mX bor ws R M us []) = some (.ptr 5 1 0 0, mX bor ws R M us [⟨29, 6, [.agg [(.int .i64 0), (.int .i64 0), (.int .i64 0), (.int .i64 0), (.int .i64 0), (.int .i64 0)]]⟩]) := rfl
  have b2 : fM (aV 6 (.ptr 5 1 0 0) w.v (mX bor ws R M us [⟨29, 6, [.agg [(.int .i64 0), (.int .i64 0), (.int .i64 0), (.int .i64 0), (.int .i64 0), (.int .i64 0)]]⟩])) = some (.tup [], mX bor ws R M us [⟨29, 6, [w.v]⟩]) := rfl
  have l6 : ∀ us, aF G true 6 (.ptr 5 1 0 0) (mX bor ws R M us [⟨29, 6, [w.v]⟩]) = some w.v := fun us => rfl
  obtain ⟨L, hL1, hL2, hL3⟩ := aDb G (k + 9) w hg (by omega)
  have r1 : ∀ H, bF (cJ.f G (k + 29)) [w.v] H = _ := fun H => dO (H := H) hL1 rfl (by simp only [gI, aCr]; rfl)
  have ln : dN (.ro false (dQ L)) = some (Nn L.length) := by simp [dN, fS]
  obtain ⟨us1, lp, hu1⟩ := l6K bor ws R M S G (k + 29) self w L hL2 (by omega) j L.length 0 (k + 29) us (by omega) hu (by omega)
  have r2 : ∀ H, bF (dP.f G (k + 29)) [w.v] H = some (.tup [I6 (if (dC w.op).d = true then w.d else 0), .bool (dC w.op).d], H) := fun H => dO (H := H) (aBx G (k + 23) w.op w.d w.a w.b w.c w.k []) rfl rfl
  have hd' : (dC w.op).d = true → 0 ≤ w.d ∧ w.d < R := fun e => by
   refine hg.ok2.ok.d ?_
   rcases aFr hg.ok2.ok.op with h | h | h | h | h | h | h | h | h | h | h | h | h | h | h | h | h | h | h | h <;> rw [h] at e ⊢ <;> first | decide | (exact absurd e (by decide))
  have l6a := l6 us
  have l6b := l6 us1
  replace lp : cQ (aQ.l6 G (k + 29) (mX bor ws R M us [⟨29, 6, [w.v]⟩]).length self) (k + 29) [BX, Nn S, .ptr 4 1 0 0, .ptr 5 1 0 0, .ro bor (bO ws), Nn ws.length, Nn j, .ro false (dQ L), Nn L.length, .int .i64 0] (mX bor ws R M us [⟨29, 6, [w.v]⟩]) = some (.exit 2, [BX, Nn S, .ptr 4 1 0 0, .ptr 5 1 0 0, .ro bor (bO ws), Nn ws.length, Nn j, .ro false (dQ L), Nn L.length, Nn L.length], mX bor ws R M us1 [⟨29, 6, [w.v]⟩]) := lp
  cases hfd : (dC w.op).d with
  | true =>
   have hdr := hd' hfd
   rw [hfd] at r2
   simp only [if_true] at r2
   have en : I6 w.d = Nn w.d.toNat := by
    show AV.int .i64 w.d = .int .i64 (w.d.toNat : Int)
    rw [Int.toNat_of_nonneg hdr.1]
   rw [en] at r2
   have hr : w.d.toNat < R := by omega
   have l0 := aLc bor ws R M G us1 [⟨29, 6, [w.v]⟩]
   have d3 := wL 3 R hr
   have l2 := ldU bor ws R M G us1 [⟨29, 6, [w.v]⟩] hu1 w.d.toNat hr
   have q3 : aU Tryd.prog .add 3 true (I6 (us1.getD w.d.toNat 0)) (.int .i64 1) = some (I6 (IntKind.i64.wrap (us1.getD w.d.toNat 0 + 1))) := gG _ _ _ _ _ _
   have s1 := stU bor ws R M us1 [⟨29, 6, [w.v]⟩] hu1 w.d.toNat hr (IntKind.i64.wrap (us1.getD w.d.toNat 0 + 1))
   obtain ⟨us', w', hu'⟩ := l3K hw hn hk d (j + 1) f (us1.set w.d.toNat (IntKind.i64.wrap (us1.getD w.d.toNat 0 + 1))) [⟨29, 6, [w.v]⟩] (by omega) (by rw [List.length_set]; exact hu1) (by omega)
   refine ⟨us', ?_, hu'⟩
   rw [aY, aQ.l3]
   refine fG ?_
   refine eC hc ?_
   clear hdr en hd' hr hg hmem hwj hL1 hL2 hL3 l6
   unfold aBs at w' ⊢
   generalize us1.set w.d.toNat (IntKind.i64.wrap (us1.getD w.d.toNat 0 + 1)) = us2 at *
   generalize IntKind.i64.wrap (us1.getD w.d.toNat 0 + 1) = z1 at *
   generalize us1.getD w.d.toNat 0 = z0 at *
   generalize w.v = wv at *
   generalize w.d.toNat = r at *
   have fx := aMP g1 <| aMP q2 <| aMP d1 <| aMP d2 <| aMP b1 <| aMP b2 <| aMP l6a <| aMP l6b <| aMP r1 <| aMP ln <| aMP r2 <| aMP l0 <| aMP d3 <| aMP l2 <| aMP q3 <| s1
   have lx1 := lp
   refine gE ?_
   exact w'
  | false =>
   rw [hfd] at r2
   simp only [Bool.false_eq_true, if_false] at r2
   obtain ⟨us', w', hu'⟩ := l3K hw hn hk d (j + 1) f us1 [⟨29, 6, [w.v]⟩] (by omega) hu1 (by omega)
   refine ⟨us', ?_, hu'⟩
   rw [aY, aQ.l3]
   refine fG ?_
   refine eC hc ?_
   clear hd' hg hmem hwj hL1 hL2 hL3 l6
   unfold aBs at w' ⊢
   generalize w.v = wv at *
   have fx := aMP g1 <| aMP q2 <| aMP d1 <| aMP d2 <| aMP b1 <| aMP b2 <| aMP l6a <| aMP l6b <| aMP r1 <| aMP ln <| r2
   have lx1 := lp
   refine gE ?_
   exact w'
end
section
variable (bor : Bool) (ws : List WI) (R M S : Nat) (us : List Int)
def H5 : aB := mX bor ws R M us [⟨3, 1, []⟩]
theorem aLj (l : List Nat) : Pl [⟨3, 1, dQ l⟩] := fun n => by simp [dB, jN]
theorem aKI (hu : us.length = R) : SH (H5 bor ws R M us) 5 4 3 R us :=
 ⟨by show 5 < 6; decide, by decide, by decide, rfl, rfl, hu, tB bor ws R M us [⟨3, 1, []⟩] (aLj []) 6 (by decide)⟩
theorem aFJ : SB (H5 bor ws R M us) 5 := ⟨by show 5 < 6; decide, tB bor ws R M us [⟨3, 1, []⟩] (aLj []) 6 (by decide)⟩
variable (G : aG) (k : Nat) (self : cD)
def uO (j : Nat) : List AV := [BX, Nn S, .ptr 4 1 0 0, .sl 5 R 0 R 1, Nn R, Nn j]
theorem uP (j : Nat) : bX 6 (uO R S j) = true := by simp [uO, BX, bX, bW]
theorem aKY (hR : R ≤ 10000) : ∀ (d j f : Nat) (l : List Nat), j + d = R → l.length = R → (∀ i, i < j → l.getD i 0 = i) → d < f →
  cQ (aQ.l16 G k 6 self) f (uO R S j) (SO (H5 bor ws R M us) 5 l) = some (.exit 4, uO R S R, SO (H5 bor ws R M us) 5 (List.range R))
 | d, j, 0, l, _, _, _, h => by omega
 | 0, j, f + 1, l, hd, hl, hi, hf => by
  have hj : j = R := by omega
  subst hj
  have hc : fE 6 (uO j S j) (SO (H5 bor ws j M us) 5 l) = some (SO (H5 bor ws j M us) 5 l) := fZ (aFJ bor ws j M us).hb l _ (uP j S _)
  have g1 : aU Tryd.prog .lss 3 false (Nn j) (Nn j) = some (.bool false) := fO (by omega)
  have el : l = List.range j := by
   refine List.ext_getElem (by rw [hl, List.length_range]) fun i h1 h2 => ?_
   have := hi i (by omega)
   rw [List.getD_eq_getElem?_getD, List.getElem?_eq_getElem h1] at this
   rw [List.getElem_range]; exact this
  rw [← el]
  rw [aY, aQ.l16]
  refine fG ?_
  refine eC hc ?_
  unfold uO
  clear hi el
  have fx := g1
  refine gE ?_
  refine fP ?_; rfl
 | d + 1, j, f + 1, l, hd, hl, hi, hf => by
  have hc : fE 6 (uO R S j) (SO (H5 bor ws R M us) 5 l) = some (SO (H5 bor ws R M us) 5 l) := fZ (aFJ bor ws R M us).hb l _ (uP R S _)
  have g1 : aU Tryd.prog .lss 3 false (Nn j) (Nn R) = some (.bool true) := fV (by omega)
  have q2 : aU Tryd.prog .add 3 true (Nn j) (.int .i64 1) = some (Nn (j + 1 : Nat)) := jW (by omega)
  have d1 := wL 5 R (show j < R by omega)
  have s1 := uX (aFJ bor ws R M us) hl (i := j) (by omega) j
  have ih := aKY hR d (j + 1) f (l.set j j) (by omega) (by rw [List.length_set]; exact hl) (fun i h => by
   rw [eO _ _ _ _ (by omega)]
   by_cases e : j = i
   ·rw [if_pos e]; exact e
   ·rw [if_neg e]; exact hi i (by omega)) (by omega)
  rw [aY, aQ.l16]
  refine fG ?_
  refine eC hc ?_
  clear hi
  unfold uO at ih ⊢
  have fx := aMP g1 <| aMP q2 <| aMP d1 <| s1
  refine gE ?_
  exact ih
def tA (o sl wd : List Nat) : aB := [k0 bor ws R M, k1, ⟨86, 7, [.agg [.ro bor (bO ws), Nn R, Nn M, .sl 6 R 0 R 1, .sl 7 R 0 R 1, .nils, .nils]]⟩, ⟨3, 1, jE us⟩, k4 R, ⟨3, 1, dQ o⟩, ⟨3, 1, dQ sl⟩, ⟨3, 1, dQ wd⟩]
theorem aEf (o sl wd : List Nat) (xs : List AV) (hx : bX 8 xs = true) : fE 8 xs (tA bor ws R M us o sl wd) = some (tA bor ws R M us o sl wd) := by
 have hb : dB 8 (tA bor ws R M us o sl wd) = true := by simp [tA, cV, dB, bX, bW, fQ, rW, jN]
 unfold fE
 have e : (tA bor ws R M us o sl wd).take 8 = tA bor ws R M us o sl wd := rfl
 rw [e, hx, hb]; rfl
theorem aEk {H : aB} {b n : Nat} {l : List Nat} (hb : H[b]? = some ⟨3, 1, dQ l⟩) (hl : l.length = n) {i : Nat} (h : i < n) : aF G false 1 (.ptr b n i 0) H = some (Nn (l.getD i 0)) := by
 unfold aF
 simp only [hb, fS, hl, if_true, iV l i (by omega)]
 rfl
theorem aEl {H : aB} {b n : Nat} {l : List Nat} (hb : H[b]? = some ⟨3, 1, dQ l⟩) (hl : l.length = n) {i : Nat} (h : i < n) (x : Nat) : fM (aV 1 (.ptr b n i 0) (Nn x) H) = some (.tup [], H.set b ⟨3, 1, dQ (l.set i x)⟩) := by
 have e : aV 1 (.ptr b n i 0) (Nn x) H = some (H.set b ⟨3, 1, dQ (l.set i x)⟩) := by
  unfold aV
  simp only [hb, fS, hl]
  rw [if_pos ⟨trivial, rfl, rfl⟩]
  simp only [iV l i (by omega)]
  rw [if_pos (by show 0 + 1 ≤ 1; omega)]
  have : kJ (Nn (l.getD i 0)) (kI (Nn (l.getD i 0)).cells 0 (Nn x).cells) = Nn x := rfl
  rw [this, tG]
 rw [e]; rfl
def oC (j : Nat) : List AV := [BX, Nn S, Nn (j + 4 - S), .sl 5 R 0 R 1, Nn R, Nn j]
theorem uQ (j : Nat) : bX 8 (oC R S j) = true := by simp [oC, BX, bX, bW]
theorem aJP (hR : R ≤ 10000) (hM : M ≤ 70000) (hS : 6 ≤ S) (hSR : S ≤ R) (o : List Nat) (ho : o.length = R) (hx : ∀ x ∈ o, x < R) : ∀ (d j f : Nat) (sl wd : List Nat), j + d = R → sl.length = R → wd.length = R → d < f →
  cQ (aQ.l24 G k 8 self) f (oC R S j) (tA bor ws R M us o sl wd) = some (.exit 6, oC R S R, tA bor ws R M us o (jP S (o.drop j) j sl) (jQ S M (o.drop j) j wd))
 | d, j, 0, sl, wd, _, _, _, h => by omega
 | 0, j, f + 1, sl, wd, hd, hs, hw, hf => by
  have hj : j = R := by omega
  subst hj
  have hc := aEf bor ws j M us o sl wd _ (uQ j S j)
  have g1 : aU Tryd.prog .lss 3 false (Nn j) (Nn j) = some (.bool false) := fO (by omega)
  have e : o.drop j = [] := List.drop_of_length_le (by omega)
  rw [e]
  show _ = some (_, _, tA bor ws j M us o sl wd)
  rw [aY, aQ.l24]
  refine fG ?_
  refine eC hc ?_
  unfold oC
  clear hx
  have fx := g1
  refine gE ?_
  refine fP ?_; rfl
 | d + 1, j, f + 1, sl, wd, hd, hs, hw, hf => by
  have hc := aEf bor ws R M us o sl wd _ (uQ R S j)
  have g1 : aU Tryd.prog .lss 3 false (Nn j) (Nn R) = some (.bool true) := fV (by omega)
  have q2 : aU Tryd.prog .add 3 true (Nn j) (.int .i64 1) = some (Nn (j + 1 : Nat)) := jW (by omega)
  have d1 := wL 5 R (show j < R by omega)
  have l1 : aF G false 1 (.ptr 5 R j 0) (tA bor ws R M us o sl wd) = some (Nn (o.getD j 0)) := aEk G rfl ho (by omega)
  have hr : o.getD j 0 < R := kM hx (by omega)
  have hdrop : o.drop j = o.getD j 0 :: o.drop (j + 1) := by
   rw [List.getD_eq_getElem?_getD, List.getElem?_eq_getElem (by omega)]
   exact List.drop_eq_getElem_cons (by omega)
  rw [hdrop]
  have d2 := wL 6 R hr
  have d3 := wL 7 R hr
  have q3 : aU Tryd.prog .sub 3 true (Nn S) (.int .i64 4) = some (Nn (S - 4 : Nat)) := jX (b := 4) (by omega) (by omega)
  have ld3 : aF G false 1 (.ptr 2 1 0 3) (tA bor ws R M us o sl wd) = some (.sl 6 R 0 R 1) := rfl
  have ld4 : aF G false 1 (.ptr 2 1 0 4) (tA bor ws R M us o sl wd) = some (.sl 7 R 0 R 1) := rfl
  have ldM : aF G false 1 (.ptr 2 1 0 2) (tA bor ws R M us o sl wd) = some (Nn M) := rfl
  by_cases hjs : j + 4 < S
  ·have g2 : aU Tryd.prog .lss 3 false (Nn j) (Nn (S - 4 : Nat)) = some (.bool true) := fV (by omega)
   have q4 : aU Tryd.prog .add 3 true (.int .i64 4) (Nn j) = some (Nn (4 + j : Nat)) := lV (a := 4) (by omega)
   have s1 : fM (aV 1 (.ptr 6 R (o.getD j 0) 0) (Nn (4 + j)) (tA bor ws R M us o sl wd)) = some (.tup [], tA bor ws R M us o (sl.set (o.getD j 0) (4 + j)) wd) := aEl (b := 6) (H := tA bor ws R M us o sl wd) rfl hs hr (4 + j)
   have ih := aJP hR hM hS hSR o ho hx d (j + 1) f (sl.set (o.getD j 0) (4 + j)) wd (by omega) (by rw [List.length_set]; exact hs) hw (by omega)
   have e1 : jP S (o.getD j 0 :: o.drop (j + 1)) j sl = jP S (o.drop (j + 1)) (j + 1) (sl.set (o.getD j 0) (4 + j)) := by
    show jP S (o.drop (j + 1)) (j + 1) (if j + 4 < S then _ else _) = _
    rw [if_pos hjs]
   have e2 : jQ S M (o.getD j 0 :: o.drop (j + 1)) j wd = jQ S M (o.drop (j + 1)) (j + 1) wd := by
    show jQ S M (o.drop (j + 1)) (j + 1) (if j + 4 < S then _ else _) = _
    rw [if_pos hjs]
   rw [e1, e2]
   have em : oC R S (j + 1) = [BX, Nn S, Nn (j + 4 - S), .sl 5 R 0 R 1, Nn R, Nn (j + 1)] := by
    unfold oC
    rw [show j + 1 + 4 - S = j + 4 - S by omega]
   rw [em] at ih
   rw [aY, aQ.l24]
   refine fG ?_
   refine eC hc ?_
   clear hx hr hdrop e1 e2 em hjs d3
   generalize jP S (o.drop (j + 1)) (j + 1) (sl.set (o.getD j 0) (4 + j)) = slE at *
   generalize sl.set (o.getD j 0) (4 + j) = sl1 at *
   generalize o.getD j 0 = r at *
   unfold oC at ih ⊢
   have fx := aMP iG <| aMP af0 <| aMP af2 <| aMP af3 <| aMP af4 <| aMP g1 <| aMP q2 <| aMP d1 <| aMP l1 <| aMP d2 <| aMP q3 <| aMP ld3 <| aMP ld4 <| aMP ldM <| aMP g2 <| aMP q4 <| s1
   refine gE ?_
   exact ih
  ·have g2 : aU Tryd.prog .lss 3 false (Nn j) (Nn (S - 4 : Nat)) = some (.bool false) := fO (by omega)
   have q4 : aU Tryd.prog .add 3 false (Nn M) (Nn (j + 4 - S)) = some (Nn (M + (j + 4 - S) : Nat)) := lV (by omega)
   have q5 : aU Tryd.prog .add 3 true (Nn (j + 4 - S)) (.int .i64 1) = some (Nn (j + 4 - S + 1 : Nat)) := jW (by omega)
   have s1 : fM (aV 1 (.ptr 7 R (o.getD j 0) 0) (Nn (M + (j + 4 - S))) (tA bor ws R M us o sl wd)) = some (.tup [], tA bor ws R M us o sl (wd.set (o.getD j 0) (M + (j + 4 - S)))) := aEl (b := 7) (H := tA bor ws R M us o sl wd) rfl hw hr (M + (j + 4 - S))
   have ih := aJP hR hM hS hSR o ho hx d (j + 1) f sl (wd.set (o.getD j 0) (M + (j + 4 - S))) (by omega) hs (by rw [List.length_set]; exact hw) (by omega)
   have e1 : jP S (o.getD j 0 :: o.drop (j + 1)) j sl = jP S (o.drop (j + 1)) (j + 1) sl := by
    show jP S (o.drop (j + 1)) (j + 1) (if j + 4 < S then _ else _) = _
    rw [if_neg hjs]
   have e2 : jQ S M (o.getD j 0 :: o.drop (j + 1)) j wd = jQ S M (o.drop (j + 1)) (j + 1) (wd.set (o.getD j 0) (M + (j + 4 - S))) := by
    show jQ S M (o.drop (j + 1)) (j + 1) (if j + 4 < S then _ else _) = _
    rw [if_neg hjs]
   rw [e1, e2]
   have em : oC R S (j + 1) = [BX, Nn S, Nn (j + 4 - S + 1 : Nat), .sl 5 R 0 R 1, Nn R, Nn (j + 1)] := by
    unfold oC
    rw [show j + 1 + 4 - S = j + 4 - S + 1 by omega]
   rw [em] at ih
   rw [aY, aQ.l24]
   refine fG ?_
   refine eC hc ?_
   clear hx hr hdrop e1 e2 em hjs d2
   generalize jQ S M (o.drop (j + 1)) (j + 1) (wd.set (o.getD j 0) (M + (j + 4 - S))) = wdE at *
   generalize wd.set (o.getD j 0) (M + (j + 4 - S)) = wd1 at *
   generalize o.getD j 0 = r at *
   unfold oC at ih ⊢
   generalize M + (j + 4 - S) = z at *
   have fx := aMP iG <| aMP af0 <| aMP af2 <| aMP af3 <| aMP af4 <| aMP g1 <| aMP q2 <| aMP d1 <| aMP l1 <| aMP d3 <| aMP q3 <| aMP ld3 <| aMP ld4 <| aMP ldM <| aMP g2 <| aMP q4 <| aMP q5 <| s1
   refine gE ?_
   exact ih
end
section
variable (bor : Bool) (ws : List WI) (R M S : Nat) (G : aG) (k : Nat)
theorem aIo (H : aB) (hR : R ≤ 10000) : dX 3 1 (.int .i64 0) (Nn R) (Nn R) H = some (.sl H.length R 0 R 1, H ++ [⟨3, 1, List.replicate R (.int .i64 0)⟩]) := by
 unfold dX
 simp only [Int.toNat_natCast]
 rw [if_pos (by omega)]
theorem aHm : (List.replicate R (AV.int .i64 0)) = dQ (List.replicate R 0) := by unfold dQ; rw [List.map_replicate]; rfl
theorem aLp : (List.replicate R (AV.int .i64 0)) = jE (List.replicate R 0) := by unfold jE; rw [List.map_replicate]
theorem aFk (hw : ∀ w ∈ ws, w.Good R ws.length) (hn : ws.length ≤ 10000) (hR : R ≤ 1000) (hM : M ≤ 70000) (hS : 6 ≤ S) (hSR : S ≤ R) (hk : 10 ≤ k) (hkn : ws.length < k) (hkR : 2 * R < k) :
  ∃ (us : List Int) (o : List Nat), bB (aQ.f G (k + 30)) [BX, Nn S] (hpK bor ws R M) = some (Nn (R + 4 - S), tA bor ws R M us o (jP S o 0 (List.replicate R 0)) (jQ S M o 0 (List.replicate R 0))) ∧ us.length = R ∧ o.Perm (List.range R) := by
 obtain ⟨us, lp3, hu⟩ := l3K bor ws R M S G k (aQ.f G (k + 29)) hw hn hk ws.length 0 (k + 29) (List.replicate R 0) [] (by omega) (by simp) (by omega)
 have lp16 := aKY bor ws R M S us G (k + 29) (aQ.f G (k + 29)) (by omega) R 0 (k + 29) (List.replicate R 0) (by omega) (by simp) (fun i h => by omega) (by omega)
 obtain ⟨o, so, pm⟩ := aFz G (k + 24) (aKI bor ws R M us hu) hR (by omega) (List.range R) (by simp) (fun x hx => List.mem_range.1 hx)
 have ho : o.length = R := by rw [pm.length_eq, List.length_range]
 have hox : ∀ x ∈ o, x < R := fun x hx => List.mem_range.1 (pm.subset hx)
 have lp24 := aJP bor ws R M S us G (k + 29) (aQ.f G (k + 29)) (by omega) hM hS hSR o ho hox R 0 (k + 29) (List.replicate R 0) (List.replicate R 0) (by omega) (by simp) (by simp) (by omega)
 refine ⟨us, o, ?_, hu, pm⟩
 rw [List.drop_zero] at lp24
 refine mN ?_ (by show 3 ≤ 8; decide)
 rw [aQ.step]
 unfold aQ.c
 have af1 : aA 1 BX = some (.ptr 2 1 0 1) := rfl
 have ldR : aF G false 1 (.ptr 2 1 0 1) (hpK bor ws R M) = some (Nn R) := rfl
 have m1 : dX 3 1 (.int .i64 0) (Nn R) (Nn R) (hpK bor ws R M) = some (.sl 3 R 0 R 1, hpK bor ws R M ++ [⟨3, 1, jE (List.replicate R 0)⟩]) := by rw [aIo R _ (by omega), aLp]; rfl
 have b1 : fW 49 .nils (hpK bor ws R M ++ [⟨3, 1, jE (List.replicate R 0)⟩]) = some (.ptr 4 1 0 0, hpK bor ws R M ++ [⟨3, 1, jE (List.replicate R 0)⟩] ++ [⟨49, 1, [.nils]⟩]) := rfl
 have s1 : fM (aV 1 (.ptr 4 1 0 0) (.sl 3 R 0 R 1) (hpK bor ws R M ++ [⟨3, 1, jE (List.replicate R 0)⟩] ++ [⟨49, 1, [.nils]⟩])) = some (.tup [], mX bor ws R M (List.replicate R 0) []) := rfl
 have ldW : aF G false 1 BX (mX bor ws R M (List.replicate R 0) []) = some (.ro bor (bO ws)) := rfl
 have lnW : dN (.ro bor (bO ws)) = some (Nn ws.length) := by simp [dN, fC]
 replace lp3 : cQ (aQ.l3 G (k + 29) (mX bor ws R M (List.replicate R 0) []).length (aQ.f G (k + 29))) (k + 29) [BX, Nn S, .ptr 4 1 0 0, .ro bor (bO ws), Nn ws.length, .int .i64 0] (mX bor ws R M (List.replicate R 0) []) = some (.exit 0, [BX, Nn S, .ptr 4 1 0 0, .ro bor (bO ws), Nn ws.length, Nn ws.length], mX bor ws R M us []) := lp3
 have ldR2 : aF G false 1 (.ptr 2 1 0 1) (mX bor ws R M us []) = some (Nn R) := rfl
 have m2 : dX 3 1 (.int .i64 0) (Nn R) (Nn R) (mX bor ws R M us []) = some (.sl 5 R 0 R 1, SO (H5 bor ws R M us) 5 (List.replicate R 0)) := by rw [aIo R _ (by omega), aHm]; rfl
 have lnO : dN (.sl 5 R 0 R 1) = some (Nn R) := rfl
 replace lp16 : cQ (aQ.l16 G (k + 29) (SO (H5 bor ws R M us) 5 (List.replicate R 0)).length (aQ.f G (k + 29))) (k + 29) [BX, Nn S, .ptr 4 1 0 0, .sl 5 R 0 R 1, Nn R, .int .i64 0] (SO (H5 bor ws R M us) 5 (List.replicate R 0)) = some (.exit 4, [BX, Nn S, .ptr 4 1 0 0, .sl 5 R 0 R 1, Nn R, Nn R], SO (H5 bor ws R M us) 5 (List.range R)) := lp16
 replace so : bB (aP.f G (k + 29)) [.sl 5 R 0 R 1, .fn 74 [.ptr 4 1 0 0]] (SO (H5 bor ws R M us) 5 (List.range R)) = some (.tup [], SO (H5 bor ws R M us) 5 o) := so
 have ldR3 : aF G false 1 (.ptr 2 1 0 1) (SO (H5 bor ws R M us) 5 o) = some (Nn R) := rfl
 have m3 : dX 3 1 (.int .i64 0) (Nn R) (Nn R) (SO (H5 bor ws R M us) 5 o) = some (.sl 6 R 0 R 1, SO (H5 bor ws R M us) 5 o ++ [⟨3, 1, dQ (List.replicate R 0)⟩]) := by rw [aIo R _ (by omega), aHm]; rfl
 have ldR4 : aF G false 1 (.ptr 2 1 0 1) (SO (H5 bor ws R M us) 5 o ++ [⟨3, 1, dQ (List.replicate R 0)⟩]) = some (Nn R) := rfl
 have m4 : dX 3 1 (.int .i64 0) (Nn R) (Nn R) (SO (H5 bor ws R M us) 5 o ++ [⟨3, 1, dQ (List.replicate R 0)⟩]) = some (.sl 7 R 0 R 1, SO (H5 bor ws R M us) 5 o ++ [⟨3, 1, dQ (List.replicate R 0)⟩] ++ [⟨3, 1, dQ (List.replicate R 0)⟩]) := by rw [aIo R _ (by omega), aHm]; rfl
 have s2 : fM (aV 1 (.ptr 2 1 0 3) (.sl 6 R 0 R 1) (SO (H5 bor ws R M us) 5 o ++ [⟨3, 1, dQ (List.replicate R 0)⟩] ++ [⟨3, 1, dQ (List.replicate R 0)⟩])) = some (.tup [], (SO (H5 bor ws R M us) 5 o ++ ([⟨3, 1, dQ (List.replicate R 0)⟩] : aB) ++ ([⟨3, 1, dQ (List.replicate R 0)⟩] : aB)).set 2 ⟨86, 7, [.agg [.ro bor (bO ws), Nn R, Nn M, .sl 6 R 0 R 1, .nils, .nils, .nils]]⟩) := rfl
 have s3 : fM (aV 1 (.ptr 2 1 0 4) (.sl 7 R 0 R 1) ((SO (H5 bor ws R M us) 5 o ++ ([⟨3, 1, dQ (List.replicate R 0)⟩] : aB) ++ ([⟨3, 1, dQ (List.replicate R 0)⟩] : aB)).set 2 ⟨86, 7, [.agg [.ro bor (bO ws), Nn R, Nn M, .sl 6 R 0 R 1, .nils, .nils, .nils]]⟩)) = some (.tup [], tA bor ws R M us o (List.replicate R 0) (List.replicate R 0)) := rfl
 replace lp24 : cQ (aQ.l24 G (k + 29) (tA bor ws R M us o (List.replicate R 0) (List.replicate R 0)).length (aQ.f G (k + 29))) (k + 29) [BX, Nn S, .int .i64 0, .sl 5 R 0 R 1, Nn R, .int .i64 0] (tA bor ws R M us o (List.replicate R 0) (List.replicate R 0)) = some (.exit 6, [BX, Nn S, Nn (R + 4 - S), .sl 5 R 0 R 1, Nn R, Nn R], tA bor ws R M us o (jP S o 0 (List.replicate R 0)) (jQ S M o 0 (List.replicate R 0))) := by
  have e0 : Nn (0 + 4 - S) = .int .i64 0 := by rw [show 0 + 4 - S = 0 by omega]; rfl
  unfold oC at lp24
  rw [e0] at lp24
  exact lp24
 generalize jP S o 0 (List.replicate R 0) = slE at *
 generalize jQ S M o 0 (List.replicate R 0) = wdE at *
 clear hox
 generalize (SO (H5 bor ws R M us) 5 o ++ ([⟨3, 1, dQ (List.replicate R 0)⟩] : aB) ++ ([⟨3, 1, dQ (List.replicate R 0)⟩] : aB)).set 2 ⟨86, 7, [.agg [.ro bor (bO ws), Nn R, Nn M, .sl 6 R 0 R 1, .nils, .nils, .nils]]⟩ = hm3 at *
 generalize SO (H5 bor ws R M us) 5 o ++ ([⟨3, 1, dQ (List.replicate R 0)⟩] : aB) ++ ([⟨3, 1, dQ (List.replicate R 0)⟩] : aB) = hm2 at *
 generalize SO (H5 bor ws R M us) 5 o ++ ([⟨3, 1, dQ (List.replicate R 0)⟩] : aB) = hm1 at *
 generalize hpK bor ws R M ++ ([⟨3, 1, jE (List.replicate R 0)⟩] : aB) ++ ([⟨49, 1, [.nils]⟩] : aB) = hn2 at *
 generalize hpK bor ws R M ++ ([⟨3, 1, jE (List.replicate R 0)⟩] : aB) = hn1 at *
 refine gL ?_
 have fx := aMP iG <| aMP af0 <| aMP af1 <| aMP af2 <| aMP af3 <| aMP af4 <| aMP ldR <| aMP m1 <| aMP b1 <| aMP s1 <| aMP ldW <| aMP lnW <| aMP ldR2 <| aMP m2 <| aMP lnO <| aMP so <| aMP ldR3 <| aMP m3 <| aMP ldR4 <| aMP m4 <| aMP s2 <| s3
 have lx1 := lp3
 have lx2 := lp16
 have lx3 := lp24
 refine gE ?_
 refine fP ?_; rfl
end
def LS.mark (s : LS) : LS := { s with place := s.place ++ [s.out.length] }
def LS.run (L : LY) : List WI → LS → LS
 | [], s => s
 | w :: ws, s => LS.run L ws (s.mark.put (L.one w))
theorem aAY (L : LY) : ∀ (ws : List WI) (s : LS), LS.run L ws s = ⟨s.out ++ L.flat ws, s.place ++ L.pos s.out.length ws⟩
 | [], s => by simp [LS.run, LY.flat, LY.pos]
 | w :: ws, s => by
  show LS.run L ws (s.mark.put (L.one w)) = _
  rw [aAY L ws]
  simp [LY.flat, LY.pos, LS.mark, LS.put]
theorem aIy (L : LY) (ws : List WI) : (LS.run L ws ⟨[], []⟩).mark = ⟨L.flat ws, L.place ws⟩ := by
 rw [aAY]
 simp [LS.mark, LY.place]
theorem aEC (i x : WI) : ∀ (pre suf : List WI), (pre ++ i :: suf).set pre.length x = pre ++ x :: suf
 | [], suf => rfl
 | y :: pre, suf => by
  show y :: (pre ++ i :: suf).set pre.length x = _
  rw [aEC i x pre suf]; rfl
section
variable (A : AX) (G : aG) (k : Nat) (self : cD)
theorem aDw (i : WI) (pre suf : List WI) : (bO (pre ++ i :: suf))[pre.length]? = some i.v := by
 unfold bO
 rw [List.getElem?_map, List.getElem?_append_right (Nat.le_refl _)]; simp
theorem aLd (i : WI) (pre suf : List WI) (pl : List Nat) (T : aB) (N : Nat) (hN : (pre ++ i :: suf).length = N) : aF G false 1 (.ptr 8 N pre.length 0) (A.hp ⟨pre ++ i :: suf, pl⟩ T) = some (I6 i.op) := by
 have e : (A.hp ⟨pre ++ i :: suf, pl⟩ T)[8]? = some ⟨29, 6, bO (pre ++ i :: suf)⟩ := rfl
 unfold aF
 simp only [e, fC, hN, if_true, aDw]
 rfl
theorem aLV (i : WI) (pre suf : List WI) (pl : List Nat) (T : aB) (N : Nat) (hN : (pre ++ i :: suf).length = N) : aF G false 1 (.ptr 8 N pre.length 5) (A.hp ⟨pre ++ i :: suf, pl⟩ T) = some (I6 i.k) := by
 have e : (A.hp ⟨pre ++ i :: suf, pl⟩ T)[8]? = some ⟨29, 6, bO (pre ++ i :: suf)⟩ := rfl
 unfold aF
 simp only [e, fC, hN, if_true, aDw]
 rfl
theorem aLx (i : WI) (pre suf : List WI) (pl : List Nat) (T : aB) (N : Nat) (hN : (pre ++ i :: suf).length = N) (x : Int) : fM (aV 1 (.ptr 8 N pre.length 5) (I6 x) (A.hp ⟨pre ++ i :: suf, pl⟩ T)) = some (.tup [], A.hp ⟨pre ++ { i with k := x } :: suf, pl⟩ T) := by
 have e : (A.hp ⟨pre ++ i :: suf, pl⟩ T)[8]? = some ⟨29, 6, bO (pre ++ i :: suf)⟩ := rfl
 have e3 : (bO (pre ++ i :: suf)).set pre.length (WI.v { i with k := x }) = bO (pre ++ { i with k := x } :: suf) := by
  unfold bO
  rw [← List.map_set, aEC]
 have e4 : (pre ++ { i with k := x } :: suf).length = (pre ++ i :: suf).length := by simp
 have e5 : (A.hp ⟨pre ++ i :: suf, pl⟩ T).set 8 ⟨29, 6, bO (pre ++ { i with k := x } :: suf)⟩ = A.hp ⟨pre ++ { i with k := x } :: suf, pl⟩ T := by
  unfold AX.hp AX.box
  simp only [e4]; rfl
 have e6 : aV 1 (.ptr 8 N pre.length 5) (I6 x) (A.hp ⟨pre ++ i :: suf, pl⟩ T) = some (A.hp ⟨pre ++ { i with k := x } :: suf, pl⟩ T) := by
  unfold aV
  simp only [e, fC, hN, aDw]
  rw [if_pos ⟨trivial, rfl, rfl⟩, if_pos (by show 5 + 1 ≤ 6; decide)]
  rw [← e5, ← e3]
  rfl
 rw [e6]; rfl
theorem aLe (s : LS) (T : aB) (r : Int) (h : 0 ≤ r ∧ r < s.place.length) : aF G false 1 (.ptr 9 s.place.length r.toNat 0) (A.hp s T) = some (Nn (s.place.getD r.toNat 0)) := aEk G (H := A.hp s T) rfl rfl (by omega)
theorem aKV (b n : Nat) {r : Nat} (h : r < n) : aM 6 (.sl b n 0 n 6) (Nn r) = some (.ptr b n r 0) := by
 rw [sK (by omega) (by omega), Nat.zero_add, Int.toNat_natCast]
theorem aAq (op : Int) : brB op = true ↔ op = 17 ∨ op = 18 ∨ op = 19 := by unfold brB; simp [or_assoc]
def yA (N j : Nat) : List AV := [BX, Nn N, Nn j]
theorem xM (N j : Nat) : bX 10 (yA N j) = true := by simp [yA, BX, bX, bW]
theorem l2P (P : List Nat) (N : Nat) (hN : N ≤ 90000) : ∀ (suf pre : List WI) (f : Nat) (X : aB), pre.length + suf.length = N → (∀ i ∈ suf, brB i.op = true → i.k = -1 ∨ (0 ≤ i.k ∧ i.k < P.length)) → suf.length < f →
  cQ (bC.l2 G (k + 1) 10 self) f (yA N pre.length) (A.hp ⟨pre ++ suf, P⟩ X) = some (.exit 0, yA N N, A.hp ⟨pre ++ suf.map (jK P N), P⟩ [])
 | suf, pre, 0, X, _, _, h => by omega
 | [], pre, f + 1, X, hl, hb, hf => by
  have hj : pre.length = N := by simpa using hl
  rw [hj]
  have hc : fE 10 (yA N N) (A.hp ⟨pre ++ [], P⟩ X) = some (A.hp ⟨pre ++ [], P⟩ []) := tC A _ [] X (fun _ => rfl) _ (xM N N)
  have g1 : aU Tryd.prog .lss 3 false (Nn N) (Nn N) = some (.bool false) := fO (by omega)
  rw [aY, bC.l2]
  refine fG ?_
  refine eC hc ?_
  unfold yA
  have fx := g1
  refine gE ?_
  refine fP ?_; rfl
 | i :: suf, pre, f + 1, X, hl, hb, hf => by
  simp only [List.length_cons] at hl hf
  have hN' : (pre ++ i :: suf).length = N := by rw [List.length_append, List.length_cons]; exact hl
  have hc : fE 10 (yA N pre.length) (A.hp ⟨pre ++ i :: suf, P⟩ X) = some (A.hp ⟨pre ++ i :: suf, P⟩ []) := tC A _ [] X (fun _ => rfl) _ (xM N _)
  have g1 : aU Tryd.prog .lss 3 false (Nn pre.length) (Nn N) = some (.bool true) := fV (by omega)
  have q2 : aU Tryd.prog .add 3 true (Nn pre.length) (.int .i64 1) = some (Nn (pre.length + 1 : Nat)) := jW (by omega)
  have l5 := al5 A ⟨pre ++ i :: suf, P⟩ [] G
  simp only [hN'] at l5
  have d1 := aKV 8 N (show pre.length < N by omega)
  have nl : fH (.ptr 8 N pre.length 0) = some (.ptr 8 N pre.length 0) := rfl
  have f0 : aA 0 (.ptr 8 N pre.length 0) = some (.ptr 8 N pre.length 0) := rfl
  have f5 : aA 5 (.ptr 8 N pre.length 0) = some (.ptr 8 N pre.length 5) := rfl
  have lo := aLd A G i pre suf P [] N hN'
  have lk := aLV A G i pre suf P [] N hN'
  have rb : ∀ H, bF (cL.f G (k + 1)) [I6 i.op] H = _ := fun H => dO (H := H) (xU G k i.op) rfl rfl
  have ih := l2P P N hN suf (pre ++ [jK P N i]) f [] (by simp; omega) (fun x hx => hb x (List.mem_cons_of_mem _ hx)) (by omega)
  have ea : pre ++ [jK P N i] ++ suf = pre ++ jK P N i :: suf := by simp
  have eb : (pre ++ [jK P N i]).length = pre.length + 1 := by simp
  have ec : pre ++ [jK P N i] ++ suf.map (jK P N) = pre ++ (i :: suf).map (jK P N) := by simp
  rw [ea, eb, ec] at ih
  generalize pre ++ (i :: suf).map (jK P N) = oE at *
  clear ea eb ec
  cases hbr : brB i.op with
  | false =>
   have hnb : ¬ (i.op = 17 ∨ i.op = 18 ∨ i.op = 19) := fun h => by rw [(aAq _).2 h] at hbr; cases hbr
   have ef : jK P N i = i := by unfold jK; rw [if_neg hnb]
   rw [ef] at ih
   rw [hbr] at rb
   rw [aY, bC.l2]
   refine fG ?_
   refine eC hc ?_
   clear hb hnb hbr
   unfold yA at ih ⊢
   generalize i.op = op at *
   have fx := aMP iG <| aMP af5 <| aMP g1 <| aMP q2 <| aMP l5 <| aMP d1 <| aMP nl <| aMP f0 <| aMP lo <| rb
   refine gE ?_
   exact ih
  | true =>
   have hbb := (aAq _).1 hbr
   have hkk := hb i (List.mem_cons_self ..) hbr
   rw [hbr] at rb
   by_cases hf1 : i.k = -1
   ·have ef : jK P N i = { i with k := N } := by unfold jK; rw [if_pos hbb, if_pos hf1]
    rw [ef] at ih
    have g2 : aU Tryd.prog .eql 2 true (I6 i.k) (.int .i64 (-1)) = some (.bool true) := mQ hf1
    have ln : dN (.sl 8 N 0 N 6) = some (Nn N) := rfl
    have s1 := aLx A i pre suf P [] N hN' N
    rw [aY, bC.l2]
    refine fG ?_
    refine eC hc ?_
    clear hb hbb hbr hkk hf1
    unfold yA at ih ⊢
    generalize i.op = op at *
    generalize i.k = ik at *
    have fx := aMP iG <| aMP af5 <| aMP g1 <| aMP q2 <| aMP l5 <| aMP d1 <| aMP nl <| aMP f0 <| aMP f5 <| aMP lo <| aMP lk <| aMP rb <| aMP g2 <| aMP ln <| s1
    refine gE ?_
    exact ih
   ·have hk2 : 0 ≤ i.k ∧ i.k < P.length := by omega
    have ef : jK P N i = { i with k := (P.getD i.k.toNat 0 : Nat) } := by unfold jK; rw [if_pos hbb, if_neg hf1]
    rw [ef] at ih
    have g2 : aU Tryd.prog .eql 2 true (I6 i.k) (.int .i64 (-1)) = some (.bool false) := gN hf1
    have l6 := al6 A ⟨pre ++ i :: suf, P⟩ [] G
    have d2 := tT 9 P.length hk2
    have lp := aLe A G ⟨pre ++ i :: suf, P⟩ [] i.k hk2
    simp only at l6 lp
    have s1 := aLx A i pre suf P [] N hN' (P.getD i.k.toNat 0 : Nat)
    rw [aY, bC.l2]
    refine fG ?_
    refine eC hc ?_
    clear hb hbb hbr hkk hf1 hk2
    unfold yA at ih ⊢
    generalize i.op = op at *
    generalize P.getD i.k.toNat 0 = y at *
    generalize i.k.toNat = kn at *
    generalize i.k = ik at *
    have fx := aMP iG <| aMP af5 <| aMP af6 <| aMP g1 <| aMP q2 <| aMP l5 <| aMP d1 <| aMP nl <| aMP f0 <| aMP f5 <| aMP lo <| aMP lk <| aMP rb <| aMP g2 <| aMP l6 <| aMP d2 <| aMP lp <| s1
    refine gE ?_
    exact ih
theorem aGK (s : LS) (T : aB) (x : Nat) (hs : s.place.length ≤ 1000000) : eE 3 1 (.sl 9 s.place.length 0 s.place.length 1) (.ro false [Nn x]) (A.hp s T) = some (.sl 9 (s.place ++ [x]).length 0 (s.place ++ [x]).length 1, (A.hp s T).set 9 ⟨3, 1, dQ (s.place ++ [x])⟩) := by
 have e : (A.hp s T)[9]? = some ⟨3, 1, dQ s.place⟩ := rfl
 have e1 : gB (.ro false [Nn x]) (A.hp s T) = some [Nn x] := rfl
 unfold eE
 simp only [e, e1, fS]
 rw [if_pos (by refine ⟨?_, ?_, ?_, ?_, ?_⟩ <;> first | trivial | rfl | (show s.place.length + 1 ≤ _; omega))]
 have e2 : (dQ s.place).take s.place.length = dQ s.place := List.take_of_length_le (by rw [fS]; exact Nat.le_refl _)
 have e3 : (dQ s.place).drop (s.place.length + [Nn x].length) = [] := List.drop_of_length_le (by rw [fS]; exact Nat.le_add_right _ _)
 have e4 : dQ s.place ++ [Nn x] = dQ (s.place ++ [x]) := by simp [dQ]
 rw [e2, e3, List.append_nil, e4, fS]
 simp
theorem aCA (s : LS) (hs : s.out.length ≤ 80000) (hp : s.place.length ≤ 80000) (hk : s.out.length < k) (hb : ∀ i ∈ s.out, brB i.op = true → i.k = -1 ∨ (0 ≤ i.k ∧ i.k < s.mark.place.length)) :
  bB (bC.f G (k + 2)) [BX] (A.hp s []) = some (.tup [], A.hp ⟨s.out.map (jK s.mark.place s.out.length), s.mark.place⟩ []) := by
 apply jU
 rw [bC.step]
 unfold bC.c
 have l6 := al6 A s [] G
 have l5 := al5 A s [] G
 have ln : dN (.sl 8 s.out.length 0 s.out.length 6) = some (Nn s.out.length) := rfl
 have br : ∀ H, eQ 1 1 (.int .i64 0) [(0, Nn s.out.length)] H = some (.ro false [Nn s.out.length], H) := fun H => rfl
 have a1 := aGK A s [] s.out.length (by omega)
 have s1 : fM (aV 1 (.ptr 2 1 0 6) (.sl 9 (s.place ++ [s.out.length]).length 0 (s.place ++ [s.out.length]).length 1) ((A.hp s []).set 9 ⟨3, 1, dQ (s.place ++ [s.out.length])⟩)) = some (.tup [], A.hp s.mark []) := rfl
 have l5' := al5 A s.mark [] G
 have lp := l2P A G k (bC.f G (k + 1)) s.mark.place s.out.length (by omega) s.out [] (k + 1) [] (by simp) hb (by omega)
 replace lp : cQ (bC.l2 G (k + 1) (A.hp s.mark []).length (bC.f G (k + 1))) (k + 1) [BX, Nn s.out.length, .int .i64 0] (A.hp s.mark []) = some (.exit 0, [BX, Nn s.out.length, Nn s.out.length], A.hp ⟨s.out.map (jK s.mark.place s.out.length), s.mark.place⟩ []) := lp
 have fin := aBX A ⟨s.out.map (jK s.mark.place s.out.length), s.mark.place⟩ [] (fun _ => rfl)
 clear hb
 have em : s.mark.out = s.out := rfl
 rw [em] at l5'
 generalize (A.hp s []).set 9 ⟨3, 1, dQ (s.place ++ [s.out.length])⟩ = hm at *
 generalize s.place ++ [s.out.length] = pl1 at *
 refine gL ?_
 have fx := aMP iG <| aMP af5 <| aMP af6 <| aMP l6 <| aMP l5 <| aMP l5' <| aMP ln <| aMP br <| aMP a1 <| s1
 have lx1 := lp
 refine gE ?_
 exact oF fin
def aBr (S more j : Nat) : List AV := [Nn S, .ptr 0 1 0 0, .ptr 1 1 0 0, BX, Nn more, .ro A.bor (bO A.ws), Nn A.ws.length, Nn j]
theorem xL (S more j : Nat) : bX 10 (aBr A S more j) = true := by simp [aBr, BX, bX, bW, fQ]
theorem aCl (hW : A.W) (hg : ∀ w ∈ A.ws, w.Good A.R A.ws.length) (hl : A.ws.length ≤ 10000) (S more : Nat) : ∀ (d j n : Nat) (s : LS) (X : aB), j + d = A.ws.length → d < n → s.out.length + 8 * d ≤ 100000 → s.place.length + d ≤ 100000 →
  cQ (cC.l14 G (k + 10) 10 self) n (aBr A S more j) (A.hp s X) = some (.exit 0, aBr A S more A.ws.length, A.hp (LS.run A.L (A.ws.drop j) s) [])
 | d, j, 0, s, X, h, hf, _, _ => by omega
 | 0, j, n + 1, s, X, h, hf, _, _ => by
  have hj : j = A.ws.length := by omega
  subst hj
  have hc : fE 10 (aBr A S more A.ws.length) (A.hp s X) = some (A.hp s []) := tC A s [] X (fun _ => rfl) _ (xL A S more _)
  have g1 : aU Tryd.prog .lss 3 false (Nn A.ws.length) (Nn A.ws.length) = some (.bool false) := fO (by omega)
  rw [aY, cC.l14, List.drop_length]
  refine fG ?_
  refine eC hc ?_
  unfold aBr LS.run
  clear hg
  have fx := g1
  refine gE ?_
  refine fP ?_; rfl
 | d + 1, j, n + 1, s, X, h, hf, h1, h3 => by
  obtain ⟨w, hwj⟩ : ∃ w, A.ws.getD j default = w := ⟨_, rfl⟩
  have hmem : w ∈ A.ws := by
   rw [← hwj, List.getD_eq_getElem?_getD, List.getElem?_eq_getElem (by omega)]; exact List.getElem_mem _
  have hdrop : A.ws.drop j = w :: A.ws.drop (j + 1) := by
   rw [← hwj, List.getD_eq_getElem?_getD, List.getElem?_eq_getElem (by omega)]
   exact List.drop_eq_getElem_cons (by omega)
  have d1 := aEg A.bor A.ws j (by omega)
  rw [hwj] at d1
  have hln := aCv A.L w
  have hm1 : s.mark.out = s.out := rfl
  have hm3 : s.mark.place.length = s.place.length + 1 := by simp [LS.mark]
  have ih := aCl hW hg hl S more d (j + 1) n (s.mark.put (A.L.one w)) [⟨29, 6, [w.v]⟩] (by omega) (by omega) (by rw [iB, hm1]; omega) (by show s.mark.place.length + d ≤ _; rw [hm3]; omega)
  rw [hdrop]
  have er : LS.run A.L (w :: A.ws.drop (j + 1)) s = LS.run A.L (A.ws.drop (j + 1)) (s.mark.put (A.L.one w)) := rfl
  rw [er]
  generalize LS.run A.L (A.ws.drop (j + 1)) (s.mark.put (A.L.one w)) = sE at *
  have hc : fE 10 (aBr A S more j) (A.hp s X) = some (A.hp s []) := tC A s [] X (fun _ => rfl) _ (xL A S more _)
  have g1 : aU Tryd.prog .lss 3 false (Nn j) (Nn A.ws.length) = some (.bool true) := fV (by omega)
  have q2 : aU Tryd.prog .add 3 true (Nn j) (.int .i64 1) = some (Nn (j + 1 : Nat)) := jW (by omega)
  have d2 : ∀ H, aF G true 6 (.rp A.bor w.v 0) H = some w.v := fun H => rfl
  have b1 : fW 29 (.agg [(.int .i64 0), (.int .i64 0), (.int .i64 0), (.int .i64 0), (.int .i64 0), (.int .i64 0)]) (A.hp s []) = some (.ptr 10 1 0 0, A.hp s [⟨29, 6, [.agg [(.int .i64 0), (.int .i64 0), (.int .i64 0), (.int .i64 0), (.int .i64 0), (.int .i64 0)]]⟩]) := rfl
  have b2 : fM (aV 6 (.ptr 10 1 0 0) w.v (A.hp s [⟨29, 6, [.agg [(.int .i64 0), (.int .i64 0), (.int .i64 0), (.int .i64 0), (.int .i64 0), (.int .i64 0)]]⟩])) = some (.tup [], A.hp s [⟨29, 6, [w.v]⟩]) := rfl
  have l5 := al5 A s [⟨29, 6, [w.v]⟩] G
  have l6 := al6 A s [⟨29, 6, [w.v]⟩] G
  have ln : dN (.sl 8 s.out.length 0 s.out.length 6) = some (Nn s.out.length) := rfl
  have br : ∀ H, eQ 1 1 (.int .i64 0) [(0, Nn s.out.length)] H = some (.ro false [Nn s.out.length], H) := fun H => rfl
  have a1 := aGK A s [⟨29, 6, [w.v]⟩] s.out.length (by omega)
  have s1 : fM (aV 1 (.ptr 2 1 0 6) (.sl 9 (s.place ++ [s.out.length]).length 0 (s.place ++ [s.out.length]).length 1) ((A.hp s [⟨29, 6, [w.v]⟩]).set 9 ⟨3, 1, dQ (s.place ++ [s.out.length])⟩)) = some (.tup [], A.hp s.mark [⟨29, 6, [w.v]⟩]) := rfl
  have lv : aF G true 6 (.ptr 10 1 0 0) (A.hp s.mark [⟨29, 6, [w.v]⟩]) = some w.v := rfl
  have o1 := aFq A s.mark G k hW w (hg w hmem) (by rw [hm1]; omega)
  rw [aY, cC.l14]
  refine fG ?_
  refine eC hc ?_
  clear hg hmem hdrop hwj er hm1 hm3
  unfold aBr at ih ⊢
  generalize (A.hp s [⟨29, 6, [w.v]⟩]).set 9 ⟨3, 1, dQ (s.place ++ [s.out.length])⟩ = hm_ at *
  generalize s.place ++ [s.out.length] = pl1 at *
  generalize w.v = wv at *
  have fx := aMP iG <| aMP af5 <| aMP af6 <| aMP g1 <| aMP q2 <| aMP d1 <| aMP d2 <| aMP b1 <| aMP b2 <| aMP l5 <| aMP l6 <| aMP ln <| aMP br <| aMP a1 <| aMP s1 <| aMP lv <| o1
  refine gE ?_
  exact ih
end
end Go.Proofs.YtlkgkfgkiidhdaaDoor.Mir
