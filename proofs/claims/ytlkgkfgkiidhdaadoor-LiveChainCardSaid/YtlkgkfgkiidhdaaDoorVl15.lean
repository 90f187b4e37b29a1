/- Printed by rowgen.py: the row of LiveChain, out of its law in plain Lean. -/
import Derived.Test.YtlkgkfgkiidhdaaDoorVl6
import Derived.Test.YtlkgkfgkiidhdaaDoorVl7
import Derived.Test.YtlkgkfgkiidhdaaDoorVl8
import Derived.Test.YtlkgkfgkiidhdaaDoorVl9
import Derived.Test.YtlkgkfgkiidhdaaDoorVl10
import Derived.Test.YtlkgkfgkiidhdaaDoorVl11
import Derived.Test.YtlkgkfgkiidhdaaDoorVl12
import Derived.Test.YtlkgkfgkiidhdaaDoorVl13
import Derived.Test.YtlkgkfgkiidhdaaDoorVl14
import Derived.Test.YtlkgkfgkiidhdaaDoorTie
import Derived.Test.YtlkgkfgkiidhdaaDoorCards
import Derived.SevenTiedAt
namespace Go.Proofs.YtlkgkfgkiidhdaaDoor
open Go Go.Proofs.YtlkgkfgkiidhdaaDoor.Mir
set_option linter.unusedVariables false
set_option linter.unusedSimpArgs false
set_option maxHeartbeats 8000000
set_option maxRecDepth 20000
theorem tI (G : aB) (k : Nat) (n : Int) (b : Bool) (hn : -9223372036854775808 ≤ n ∧ n < 9223372036854775808) :
  alembiclaw20_LiveChain.f G (k + 2) [.int .i64 n, .bool b] [] = alembiclaw20_LiveChain.f G (k + 2) [.int .i64 (n % 20), .bool b] [] := by
 have r1 : ∀ H, bA (aJ.f G (k + 1)) [.int .i64 n, .int .i64 20] H = _ := fun H => kU (H := H) (wI G k n 20 (by omega) (by omega) hn.1 hn.2) rfl rfl
 have r2 : ∀ H, bA (aJ.f G (k + 1)) [.int .i64 (n % 20), .int .i64 20] H = _ := fun H => kU (H := H) (wI G k (n % 20) 20 (by omega) (by omega) (by omega) (by omega)) rfl rfl
 rw [show n % 20 % 20 = n % 20 by omega] at r2
 rw [alembiclaw20_LiveChain.step, alembiclaw20_LiveChain.step]
 unfold alembiclaw20_LiveChain.c
 simp only [r1, r2]
theorem uX (G : aB) (n : Int) (b : Bool) (hn : -9223372036854775808 ≤ n ∧ n < 9223372036854775808) :
  alembiclaw20_LiveChain.f G 400 [.int .i64 n, .bool b] [] = some (.bool true, []) := by
 rw [tI G 398 n b hn]
 have h0 : 0 ≤ n % 20 := by omega
 have h1 : n % 20 < 20 := by omega
 generalize n % 20 = m at *
 have h2 : m = 0 ∨ m = 1 ∨ m = 2 ∨ m = 3 ∨ m = 4 ∨ m = 5 ∨ m = 6 ∨ m = 7 ∨ m = 8 ∨ m = 9 ∨ m = 10 ∨ m = 11 ∨ m = 12 ∨ m = 13 ∨ m = 14 ∨ m = 15 ∨ m = 16 ∨ m = 17 ∨ m = 18 ∨ m = 19 := by omega
 clear h0 h1
 rcases h2 with rfl | rfl | rfl | rfl | rfl | rfl | rfl | rfl | rfl | rfl | rfl | rfl | rfl | rfl | rfl | rfl | rfl | rfl | rfl | rfl
 all_goals cases b
 ·exact nO G 100
 ·exact pV G 100
 ·exact nZ G 100
 ·exact pW G 100
 ·exact oA G 100
 ·exact pX G 100
 ·exact oB G 100
 ·exact pY G 100
 ·exact oC G 100
 ·exact pZ G 100
 ·exact oD G 100
 ·exact qA G 100
 ·exact oE G 100
 ·exact qB G 100
 ·exact oG G 100
 ·exact qC G 100
 ·exact oH G 100
 ·exact qD G 100
 ·exact oI G 100
 ·exact qE G 100
 ·exact lV G 100
 ·exact nP G 100
 ·exact lW G 100
 ·exact nQ G 100
 ·exact lX G 100
 ·exact nR G 100
 ·exact lY G 100
 ·exact nS G 100
 ·exact lZ G 100
 ·exact nT G 100
 ·exact mA G 100
 ·exact nU G 100
 ·exact mB G 100
 ·exact nV G 100
 ·exact mC G 100
 ·exact nW G 100
 ·exact mD G 100
 ·exact nX G 100
 ·exact mE G 100
 ·exact nY G 100
theorem LLiveChain.law (xs : List AV) (h : IsTs Tryd.prog [3, 4] xs) : ∃ k, alembiclaw20_LiveChain.f (pH 179 [0, 1, 4, 3, 5]) k xs [] = some (.bool true, []) := by
 obtain ⟨x1, _, rfl, hx1, h⟩ := h.uncons
 obtain ⟨x2, _, rfl, hx2, h⟩ := h.uncons
 obtain rfl := h.unnil
 obtain ⟨n, rfl, hw⟩ := hx1.of_int (k := .i64) Tryd.underlying3
 obtain ⟨b, rfl⟩ := hx2.of_bool Tryd.underlying4
 exact ⟨400, uX _ n b (yR hw)⟩
end Go.Proofs.YtlkgkfgkiidhdaaDoor
namespace Go.Proofs.YtlkgkfgkiidhdaaDoor
open Go Go.ChangeShapes Go.WideShapes Go.RowKit Mir
set_option linter.unusedVariables false
set_option linter.unusedSimpArgs false
namespace RLiveChain
noncomputable def oZ (os : Os) : World :=
 let w0 := World.holding Tryd.prog os ⟨#[.cells #[.string ⟨#[97, 32, 110, 117, 109, 98, 101, 114, 32, 111, 117, 116, 32, 111, 102, 32, 105, 116, 115, 32, 114, 97, 110, 103, 101]⟩] 196, .cells #[.string ⟨#[116, 111, 111, 32, 109, 97, 110, 121]⟩] 196, .cells #[.string ⟨#[110, 111, 116, 32, 97, 115, 32, 105, 116, 32, 104, 97, 115, 32, 116, 111, 32, 98, 101]⟩] 196, .cells #[.string ⟨#[110, 111, 32, 115, 117, 99, 104, 32, 116, 104, 105, 110, 103, 32, 116, 111, 32, 100, 111]⟩] 196, .cells #[.string ⟨#[110, 111, 32, 115, 117, 99, 104, 32, 112, 108, 97, 99, 101]⟩] 196], #[], []⟩
 {w0 with heap := w0.heap
  |>.modify 0 (fun
   | .cells _ t frozen => .cells #[.iface 179 (.pointer (some ⟨Rk.low, 0, none⟩))] t frozen
   | o => o)
  |>.modify 1 (fun
   | .cells _ t frozen => .cells #[.iface 179 (.pointer (some ⟨Rk.low + 1, 0, none⟩))] t frozen
   | o => o)
  |>.modify 4 (fun
   | .cells _ t frozen => .cells #[.iface 179 (.pointer (some ⟨Rk.low + 2, 0, none⟩))] t frozen
   | o => o)
  |>.modify 3 (fun
   | .cells _ t frozen => .cells #[.iface 179 (.pointer (some ⟨Rk.low + 3, 0, none⟩))] t frozen
   | o => o)
  |>.modify 5 (fun
   | .cells _ t frozen => .cells #[.iface 179 (.pointer (some ⟨Rk.low + 4, 0, none⟩))] t frozen
   | o => o) }
theorem oK (os : Os) (args : Array Value) : laidMetH Tryd.prog ([("alembic/api.ErrRange", Rows.laid_alembic_api_ErrRange), ("alembic/api.ErrMany", Rows.laid_alembic_api_ErrMany), ("alembic/api.ErrShape", Rows.laid_alembic_api_ErrShape), ("alembic/api.ErrOp", Rows.laid_alembic_api_ErrOp), ("alembic/api.ErrLabel", Rows.laid_alembic_api_ErrLabel)] : List (String × DataW Unit)) ((oZ os).forCall (fun _ _ => 0) ⟨#[], args, []⟩).memory :=
 laidMet_of_run (ps := [.cell 0 0, .cell (Rk.low) 0, .cell 1 0, .cell (Rk.low + 1) 0, .cell 4 0, .cell (Rk.low + 2) 0, .cell 3 0, .cell (Rk.low + 3) 0, .cell 5 0, .cell (Rk.low + 4) 0]) 8 (by kernel_rfl) (by kernel_rfl) (by kernel_rfl)
theorem zK : uB Tryd.prog 33 [("alembic/api.ErrRange", Rows.laid_alembic_api_ErrRange), ("alembic/api.ErrMany", Rows.laid_alembic_api_ErrMany), ("alembic/api.ErrShape", Rows.laid_alembic_api_ErrShape), ("alembic/api.ErrOp", Rows.laid_alembic_api_ErrOp), ("alembic/api.ErrLabel", Rows.laid_alembic_api_ErrLabel)] [0, 1, 4, 3, 5] := ⟨by kernel_rfl, by kernel_rfl, ⟨_, rfl⟩, by kernel_rfl, by kernel_rfl, ⟨_, rfl⟩, by kernel_rfl, by kernel_rfl, ⟨_, rfl⟩, by kernel_rfl, by kernel_rfl, ⟨_, rfl⟩, by kernel_rfl, by kernel_rfl, ⟨_, rfl⟩, trivial⟩
theorem sent {W : World} (h : laidMetH Tryd.prog ([("alembic/api.ErrRange", Rows.laid_alembic_api_ErrRange), ("alembic/api.ErrMany", Rows.laid_alembic_api_ErrMany), ("alembic/api.ErrShape", Rows.laid_alembic_api_ErrShape), ("alembic/api.ErrOp", Rows.laid_alembic_api_ErrOp), ("alembic/api.ErrLabel", Rows.laid_alembic_api_ErrLabel)] : List (String × DataW Unit)) W) : ∃ S, SentS W 179 [0, 1, 4, 3, 5] S :=
 qW Tryd.underlying33 Rk.row Tryd.underlying179 Tryd.underlying196 rfl rfl Tryd.underlying9 (by kernel_rfl) (by kernel_rfl) zK (by decide) h
theorem xF : ∀ t ∈ ([3, 4] : List Nat), mX Tryd.prog [3, 4] t = true := List.all_eq_true.1 (by kernel_rfl)
set_option maxRecDepth 100000 in
theorem yD (os : Os) (started : os.Started) (H : Type) (enc : TypeId × Value → H) :
  ReturnsInHanded {} Tryd.checked os 5 .any (fun w args => (Rows.liveChainSpec.pre enc Tryd.prog Tryd.f5 [] false w args ∧ laidMetH Tryd.prog ([("alembic/api.ErrRange", Rows.laid_alembic_api_ErrRange), ("alembic/api.ErrMany", Rows.laid_alembic_api_ErrMany), ("alembic/api.ErrShape", Rows.laid_alembic_api_ErrShape), ("alembic/api.ErrOp", Rows.laid_alembic_api_ErrOp), ("alembic/api.ErrLabel", Rows.laid_alembic_api_ErrLabel)] : List (String × DataW Unit)) w) ∧ sizedMet enc Tryd.prog Tryd.f5 (OpenSpec.ofChange Rows.liveChainSpec) false w args)
   (Rows.liveChainSpec.post enc Tryd.prog Tryd.f5 false true false false) := by
 refine returnsInHanded_of_change_and (C := Tryd.checked) (X := fun w _ => laidMetH Tryd.prog ([("alembic/api.ErrRange", Rows.laid_alembic_api_ErrRange), ("alembic/api.ErrMany", Rows.laid_alembic_api_ErrMany), ("alembic/api.ErrShape", Rows.laid_alembic_api_ErrShape), ("alembic/api.ErrOp", Rows.laid_alembic_api_ErrOp), ("alembic/api.ErrLabel", Rows.laid_alembic_api_ErrLabel)] : List (String × DataW Unit)) w) (fun _ _ _ hh h => h.of_heap hh) Rk.own started (by kernel_rfl) Tryd.func5
  (ChangeSpec.witness_at (enc := enc) (C := Tryd.checked) (os := os) (X := fun w _ => laidMetH Tryd.prog ([("alembic/api.ErrRange", Rows.laid_alembic_api_ErrRange), ("alembic/api.ErrMany", Rows.laid_alembic_api_ErrMany), ("alembic/api.ErrShape", Rows.laid_alembic_api_ErrShape), ("alembic/api.ErrOp", Rows.laid_alembic_api_ErrOp), ("alembic/api.ErrLabel", Rows.laid_alembic_api_ErrLabel)] : List (String × DataW Unit)) w) false (oZ os) #[.int .i64 0, .bool false] 8 rfl (by kernel_rfl) (by kernel_rfl) (by kernel_rfl) (by kernel_rfl) (by kernel_rfl) (oK os _)) ?_
 intro W base args ds gs before hval0 hW _ _ hL _
 obtain ⟨S, hS⟩ := sent hL
 have hval : ∀ (j : Nat) t v, Tryd.f5.params.toList[j]? = some t → args.toList[j]? = some v → Value.okWide Tryd.prog W .any base t v := fun j t v h1 h2 => hval0 j t v (by simpa using h1) (by simpa using h2)
 have hW' := hW
 obtain ⟨p, q, hA, _, _, _, _⟩ := hW
 have hpar : Tryd.f5.params.toList = [3, 4] := by rw [Tryd.params5]
 rw [hpar] at hval
 replace hA : DataW.TrodAll enc Tryd.prog W 0 (fun _ => true) true Tryd.f5.params.toList args.toList ds p := hA
 rw [hpar] at hA
 obtain ⟨xs, h1, h2⟩ := pF xF (by decide) hval hA
 obtain ⟨k, hk⟩ := LLiveChain.law xs h1
 have hc := uW (Mir.alembiclaw20_LiveChain.sound (sR _ _) k) hk (vY hS) h2
 rw [Array.toArray_toList] at hc
 refine hc.mono fun e W' ⟨he, hb⟩ => ⟨_, he, ?_⟩
 exact wJ rfl hpar (by kernel_rfl) Tryd.underlying4 (fun ds hd => by
  obtain ⟨d0, d1, rfl⟩ : ∃ d0 d1, ds = [d0, d1] := by
   match ds, hd with
   | [d0, d1], _ => exact ⟨d0, d1, rfl⟩
  rfl) Rk.laidOut (by kernel_rfl) hW' hb
theorem holds : Rows.LiveChainSaid :=
 OpenClaim.holds_of_wide 5 Tryd.f5 rfl rfl rfl rfl rfl rfl rfl ⟨rfl, rfl, rfl, rfl, rfl⟩ rfl rfl rfl rfl rfl (by kernel_rfl) Tryd.func5 (by kernel_rfl)
  (of_decide_eq_true (by kernel_rfl)) (by unfold Func.isWrapper; first | (rw [if_pos (by decide +kernel)]; kernel_rfl) | (rw [if_neg (by decide +kernel)]; exact ⟨rfl, rfl⟩))
  (fun os started H enc _ => yD os started H enc)
theorem cardHolds : Rows.LiveChainCardSaid :=
 Claim7.holds_tied_plain_at .later [] [.sentinel, .sentinel, .sentinel, .sentinel, .sentinel] true (true, "864f508a8b0e81602785229ebc0405c57cf7b6a36a11fb1b2a55f1a5fb117935") true
  holds (fun _ h => by cases h) (by kernel_rfl) (fun _ h => by cases h) liveChain_row_tie rfl ⟨rfl, rfl⟩ (by kernel_rfl) rfl
  (fun f fn hf hfn => by
   obtain rfl : f = 5 := Option.some.inj ((show Tryd.prog.funcNamed "alembic/alembiclaw20.LiveChain" = some 5 by kernel_rfl).symm.trans hf) |>.symm
   obtain rfl : fn = Tryd.f5 := (Option.some.inj (Tryd.func5.symm.trans hfn)).symm
   exact ⟨by kernel_rfl, fun j t ht => by
    have hm : t ∈ ([3, 4] : List Nat) := by
     have := List.mem_of_getElem? (l := Tryd.f5.params.toList) (i := j) (by simpa using ht)
     rw [Tryd.params5] at this
     exact this
    have := List.all_eq_true.1 (show ([3, 4] : List Nat).all (fun t => !Tryd.prog.wantsStandIn t) = true by kernel_rfl) t hm
    exact (by simpa using this : Tryd.prog.wantsStandIn t = false)⟩)
  (by kernel_rfl)
end RLiveChain
end Go.Proofs.YtlkgkfgkiidhdaaDoor
