/- Part 6 of the proof: the functions that the statement reaches, and their contracts. -/
import Derived.Test.YtlkgkfgkiidhdaaDoorVh5
import Derived.Test.YtlkgkfgkiidhdaaDoorProg
import Derived.KernelRfl
namespace Go.Proofs.YtlkgkfgkiidhdaaDoor.Mir
open Go
set_option linter.unusedVariables false
theorem orders : Tryd.prog.follows .mixedOrders = true := by kernel_rfl
theorem fJ.here : HrP Tryd.prog 86 := ⟨_, Tryd.func86, by kernel_rfl, by kernel_rfl⟩
theorem fJ.eq (G : aF) (k : Nat) (self : cC) (x0 : AV) (h : aB) : fB Tryd.prog G (fK (fJ.env G k self)) fJ.ann Tryd.f86.results.toList (dI Tryd.f86) Tryd.f86.ntmps k [x0] h = fJ.c G k self x0 h := by kernel_rfl
theorem fJ.sound {G : aF} (hG : ∀ g x, G g = some x → bR x = true) : ∀ k, Sound Tryd.prog G 86 (fJ.f G k)
 | 0 => bD fJ.here (fun _ _ => rfl)
 | k + 1 => bI (l := fJ.env G k (fJ.f G k)) (ann := fJ.ann) (n := k) (aY hG dU) orders Tryd.func86 (by kernel_rfl) (by kernel_rfl) rfl (by kernel_rfl) (gT fun x0 h => fJ.eq G k _ x0 h)
theorem eF.here : HrP Tryd.prog 51 := ⟨_, Tryd.func51, by kernel_rfl, by kernel_rfl⟩
theorem eF.eq (G : aF) (k : Nat) (self : cC) (x0 : AV) (h : aB) : fB Tryd.prog G (fK (eF.env G k self)) eF.ann Tryd.f51.results.toList (dI Tryd.f51) Tryd.f51.ntmps k [x0] h = eF.c G k self x0 h := by kernel_rfl
theorem eF.sound {G : aF} (hG : ∀ g x, G g = some x → bR x = true) : ∀ k, Sound Tryd.prog G 51 (eF.f G k)
 | 0 => bD eF.here (fun _ _ => rfl)
 | k + 1 => bI (l := eF.env G k (eF.f G k)) (ann := eF.ann) (n := k) (aY hG (bQ (fJ.sound hG k) dU)) orders Tryd.func51 (by kernel_rfl) (by kernel_rfl) rfl (by kernel_rfl) (gT fun x0 h => eF.eq G k _ x0 h)
theorem gA.here : HrP Tryd.prog 95 := ⟨_, Tryd.func95, by kernel_rfl, by kernel_rfl⟩
theorem gA.eq (G : aF) (k : Nat) (self : cC) (x0 x1 : AV) (h : aB) : fB Tryd.prog G (fK (gA.env G k self)) gA.ann Tryd.f95.results.toList (dI Tryd.f95) Tryd.f95.ntmps k [x0, x1] h = gA.c G k self x0 x1 h := by kernel_rfl
theorem gA.sound {G : aF} (hG : ∀ g x, G g = some x → bR x = true) : ∀ k, Sound Tryd.prog G 95 (gA.f G k)
 | 0 => bD gA.here (fun _ _ => rfl)
 | k + 1 => bI (l := gA.env G k (gA.f G k)) (ann := gA.ann) (n := k) (aY hG dU) orders Tryd.func95 (by kernel_rfl) (by kernel_rfl) rfl (by kernel_rfl) (gM fun x0 x1 h => gA.eq G k _ x0 x1 h)
theorem dE.here : HrP Tryd.prog 72 := ⟨_, Tryd.func72, by kernel_rfl, by kernel_rfl⟩
theorem dE.eq (G : aF) (k : Nat) (self : cC) (x0 x1 : AV) (h : aB) : fB Tryd.prog G (fK (dE.env G k self)) dE.ann Tryd.f72.results.toList (dI Tryd.f72) Tryd.f72.ntmps k [x0, x1] h = dE.c G k self x0 x1 h := by kernel_rfl
theorem dE.sound {G : aF} (hG : ∀ g x, G g = some x → bR x = true) : ∀ k, Sound Tryd.prog G 72 (dE.f G k)
 | 0 => bD dE.here (fun _ _ => rfl)
 | k + 1 => bI (l := dE.env G k (dE.f G k)) (ann := dE.ann) (n := k) (aY hG (bQ (eF.sound hG k) (bQ (gA.sound hG k) dU))) orders Tryd.func72 (by kernel_rfl) (by kernel_rfl) rfl (by kernel_rfl) (gM fun x0 x1 h => dE.eq G k _ x0 x1 h)
theorem cI.here : HrP Tryd.prog 43 := ⟨_, Tryd.func43, by kernel_rfl, by kernel_rfl⟩
theorem cI.eq (G : aF) (k : Nat) (self : cC) (x0 : AV) (h : aB) : fB Tryd.prog G (fK (cI.env G k self)) cI.ann Tryd.f43.results.toList (dI Tryd.f43) Tryd.f43.ntmps k [x0] h = cI.c G k self x0 h := by kernel_rfl
theorem cI.sound {G : aF} (hG : ∀ g x, G g = some x → bR x = true) : ∀ k, Sound Tryd.prog G 43 (cI.f G k)
 | 0 => bD cI.here (fun _ _ => rfl)
 | k + 1 => bI (l := cI.env G k (cI.f G k)) (ann := cI.ann) (n := k) (aY hG (bQ (dE.sound hG k) dU)) orders Tryd.func43 (by kernel_rfl) (by kernel_rfl) rfl (by kernel_rfl) (gT fun x0 h => cI.eq G k _ x0 h)
theorem aO.here : HrP Tryd.prog 44 := ⟨_, Tryd.func44, by kernel_rfl, by kernel_rfl⟩
theorem aO.eq (G : aF) (k : Nat) (self : cC) (x0 : AV) (h : aB) : qV Tryd.prog G (fK (aO.env G k self)) aO.ann Tryd.f44.results.toList (dI Tryd.f44) Tryd.f44.ntmps k [x0] h = aO.c G k self x0 h := by kernel_rfl
theorem aO.sound {G : aF} (hG : ∀ g x, G g = some x → bR x = true) : ∀ k, Sound Tryd.prog G 44 (aO.f G k)
 | 0 => bD aO.here (fun _ _ => rfl)
 | k + 1 => nG (l := aO.env G k (aO.f G k)) (ann := aO.ann) (n := k) (aY hG dU) orders Tryd.func44 (by kernel_rfl) (by kernel_rfl) rfl (by kernel_rfl) (gT fun x0 h => aO.eq G k _ x0 h)
theorem eO.here : HrP Tryd.prog 20 := ⟨_, Tryd.func20, by kernel_rfl, by kernel_rfl⟩
theorem eO.eq (G : aF) (k : Nat) (self : cC) (x0 : AV) (h : aB) : fB Tryd.prog G (fK (eO.env G k self)) eO.ann Tryd.f20.results.toList (dI Tryd.f20) Tryd.f20.ntmps k [x0] h = eO.c G k self x0 h := by kernel_rfl
theorem eO.sound {G : aF} (hG : ∀ g x, G g = some x → bR x = true) : ∀ k, Sound Tryd.prog G 20 (eO.f G k)
 | 0 => bD eO.here (fun _ _ => rfl)
 | k + 1 => bI (l := eO.env G k (eO.f G k)) (ann := eO.ann) (n := k) (aY hG (bQ (eF.sound hG k) dU)) orders Tryd.func20 (by kernel_rfl) (by kernel_rfl) rfl (by kernel_rfl) (gT fun x0 h => eO.eq G k _ x0 h)
theorem dB.here : HrP Tryd.prog 120 := ⟨_, Tryd.func120, by kernel_rfl, by kernel_rfl⟩
theorem dB.eq (G : aF) (k : Nat) (self : cC) (x0 : AV) (h : aB) : fB Tryd.prog G (fK (dB.env G k self)) dB.ann Tryd.f120.results.toList (dI Tryd.f120) Tryd.f120.ntmps k [x0] h = dB.c G k self x0 h := by kernel_rfl
theorem dB.sound {G : aF} (hG : ∀ g x, G g = some x → bR x = true) : ∀ k, Sound Tryd.prog G 120 (dB.f G k)
 | 0 => bD dB.here (fun _ _ => rfl)
 | k + 1 => bI (l := dB.env G k (dB.f G k)) (ann := dB.ann) (n := k) (aY hG dU) orders Tryd.func120 (by kernel_rfl) (by kernel_rfl) rfl (by kernel_rfl) (gT fun x0 h => dB.eq G k _ x0 h)
theorem dG.here : HrP Tryd.prog 103 := ⟨_, Tryd.func103, by kernel_rfl, by kernel_rfl⟩
theorem dG.eq (G : aF) (k : Nat) (self : cC) (x0 x1 : AV) (h : aB) : fB Tryd.prog G (fK (dG.env G k self)) dG.ann Tryd.f103.results.toList (dI Tryd.f103) Tryd.f103.ntmps k [x0, x1] h = dG.c G k self x0 x1 h := by kernel_rfl
theorem dG.sound {G : aF} (hG : ∀ g x, G g = some x → bR x = true) : ∀ k, Sound Tryd.prog G 103 (dG.f G k)
 | 0 => bD dG.here (fun _ _ => rfl)
 | k + 1 => bI (l := dG.env G k (dG.f G k)) (ann := dG.ann) (n := k) (aY hG (bQ (dB.sound hG k) dU)) orders Tryd.func103 (by kernel_rfl) (by kernel_rfl) rfl (by kernel_rfl) (gM fun x0 x1 h => dG.eq G k _ x0 x1 h)
theorem aJ.here : HrP Tryd.prog 97 := ⟨_, Tryd.func97, by kernel_rfl, by kernel_rfl⟩
theorem aJ.eq (G : aF) (k : Nat) (self : cC) (x0 x1 x2 : AV) (h : aB) : fB Tryd.prog G (fK (aJ.env G k self)) aJ.ann Tryd.f97.results.toList (dI Tryd.f97) Tryd.f97.ntmps k [x0, x1, x2] h = aJ.c G k self x0 x1 x2 h := by kernel_rfl
theorem aJ.sound {G : aF} (hG : ∀ g x, G g = some x → bR x = true) : ∀ k, Sound Tryd.prog G 97 (aJ.f G k)
 | 0 => bD aJ.here (fun _ _ => rfl)
 | k + 1 => bI (l := aJ.env G k (aJ.f G k)) (ann := aJ.ann) (n := k) (aY hG (bQ (dG.sound hG k) dU)) orders Tryd.func97 (by kernel_rfl) (by kernel_rfl) rfl (by kernel_rfl) (kX fun x0 x1 x2 h => aJ.eq G k _ x0 x1 x2 h)
theorem aV.here : HrP Tryd.prog 87 := ⟨_, Tryd.func87, by kernel_rfl, by kernel_rfl⟩
theorem aV.eq (G : aF) (k : Nat) (self : cC) (x0 x1 x2 x3 : AV) (h : aB) : fB Tryd.prog G (fK (aV.env G k self)) aV.ann Tryd.f87.results.toList (dI Tryd.f87) Tryd.f87.ntmps k [x0, x1, x2, x3] h = aV.c G k self x0 x1 x2 x3 h := by kernel_rfl
theorem aV.sound {G : aF} (hG : ∀ g x, G g = some x → bR x = true) : ∀ k, Sound Tryd.prog G 87 (aV.f G k)
 | 0 => bD aV.here (fun _ _ => rfl)
 | k + 1 => bI (l := aV.env G k (aV.f G k)) (ann := aV.ann) (n := k) (aY hG (bQ (aV.sound hG k) (bQ (aJ.sound hG k) (bQ (dG.sound hG k) dU)))) orders Tryd.func87 (by kernel_rfl) (by kernel_rfl) rfl (by kernel_rfl) (pX fun x0 x1 x2 x3 h => aV.eq G k _ x0 x1 x2 x3 h)
theorem dV.here : HrP Tryd.prog 106 := ⟨_, Tryd.func106, by kernel_rfl, by kernel_rfl⟩
theorem dV.eq (G : aF) (k : Nat) (self : cC) (x0 : AV) (h : aB) : fB Tryd.prog G (fK (dV.env G k self)) dV.ann Tryd.f106.results.toList (dI Tryd.f106) Tryd.f106.ntmps k [x0] h = dV.c G k self x0 h := by kernel_rfl
theorem dV.sound {G : aF} (hG : ∀ g x, G g = some x → bR x = true) : ∀ k, Sound Tryd.prog G 106 (dV.f G k)
 | 0 => bD dV.here (fun _ _ => rfl)
 | k + 1 => bI (l := dV.env G k (dV.f G k)) (ann := dV.ann) (n := k) (aY hG dU) orders Tryd.func106 (by kernel_rfl) (by kernel_rfl) rfl (by kernel_rfl) (gT fun x0 h => dV.eq G k _ x0 h)
theorem dW.here : HrP Tryd.prog 107 := ⟨_, Tryd.func107, by kernel_rfl, by kernel_rfl⟩
theorem dW.eq (G : aF) (k : Nat) (self : cC) (x0 : AV) (h : aB) : fB Tryd.prog G (fK (dW.env G k self)) dW.ann Tryd.f107.results.toList (dI Tryd.f107) Tryd.f107.ntmps k [x0] h = dW.c G k self x0 h := by kernel_rfl
theorem dW.sound {G : aF} (hG : ∀ g x, G g = some x → bR x = true) : ∀ k, Sound Tryd.prog G 107 (dW.f G k)
 | 0 => bD dW.here (fun _ _ => rfl)
 | k + 1 => bI (l := dW.env G k (dW.f G k)) (ann := dW.ann) (n := k) (aY hG dU) orders Tryd.func107 (by kernel_rfl) (by kernel_rfl) rfl (by kernel_rfl) (gT fun x0 h => dW.eq G k _ x0 h)
theorem dX.here : HrP Tryd.prog 88 := ⟨_, Tryd.func88, by kernel_rfl, by kernel_rfl⟩
theorem dX.eq (G : aF) (k : Nat) (self : cC) (x0 : AV) (h : aB) : fB Tryd.prog G (fK (dX.env G k self)) dX.ann Tryd.f88.results.toList (dI Tryd.f88) Tryd.f88.ntmps k [x0] h = dX.c G k self x0 h := by kernel_rfl
theorem dX.sound {G : aF} (hG : ∀ g x, G g = some x → bR x = true) : ∀ k, Sound Tryd.prog G 88 (dX.f G k)
 | 0 => bD dX.here (fun _ _ => rfl)
 | k + 1 => bI (l := dX.env G k (dX.f G k)) (ann := dX.ann) (n := k) (aY hG (bQ (dV.sound hG k) (bQ (dW.sound hG k) dU))) orders Tryd.func88 (by kernel_rfl) (by kernel_rfl) rfl (by kernel_rfl) (gT fun x0 h => dX.eq G k _ x0 h)
theorem bJ.here : HrP Tryd.prog 53 := ⟨_, Tryd.func53, by kernel_rfl, by kernel_rfl⟩
theorem bJ.eq (G : aF) (k : Nat) (self : cC) (x0 : AV) (h : aB) : fB Tryd.prog G (fK (bJ.env G k self)) bJ.ann Tryd.f53.results.toList (dI Tryd.f53) Tryd.f53.ntmps k [x0] h = bJ.c G k self x0 h := by kernel_rfl
theorem bJ.sound {G : aF} (hG : ∀ g x, G g = some x → bR x = true) : ∀ k, Sound Tryd.prog G 53 (bJ.f G k)
 | 0 => bD bJ.here (fun _ _ => rfl)
 | k + 1 => bI (l := bJ.env G k (bJ.f G k)) (ann := bJ.ann) (n := k) (aY hG (bQ (aV.sound hG k) (bQ (dX.sound hG k) dU))) orders Tryd.func53 (by kernel_rfl) (by kernel_rfl) rfl (by kernel_rfl) (gT fun x0 h => bJ.eq G k _ x0 h)
theorem aI.here : HrP Tryd.prog 54 := ⟨_, Tryd.func54, by kernel_rfl, by kernel_rfl⟩
theorem aI.eq (G : aF) (k : Nat) (self : cC) (x0 : AV) (h : aB) : fB Tryd.prog G (fK (aI.env G k self)) aI.ann Tryd.f54.results.toList (dI Tryd.f54) Tryd.f54.ntmps k [x0] h = aI.c G k self x0 h := by kernel_rfl
theorem aI.sound {G : aF} (hG : ∀ g x, G g = some x → bR x = true) : ∀ k, Sound Tryd.prog G 54 (aI.f G k)
 | 0 => bD aI.here (fun _ _ => rfl)
 | k + 1 => bI (l := aI.env G k (aI.f G k)) (ann := aI.ann) (n := k) (aY hG dU) orders Tryd.func54 (by kernel_rfl) (by kernel_rfl) rfl (by kernel_rfl) (gT fun x0 h => aI.eq G k _ x0 h)
theorem dC.here : HrP Tryd.prog 23 := ⟨_, Tryd.func23, by kernel_rfl, by kernel_rfl⟩
theorem dC.eq (G : aF) (k : Nat) (self : cC) (x0 : AV) (h : aB) : fB Tryd.prog G (fK (dC.env G k self)) dC.ann Tryd.f23.results.toList (dI Tryd.f23) Tryd.f23.ntmps k [x0] h = dC.c G k self x0 h := by kernel_rfl
theorem dC.sound {G : aF} (hG : ∀ g x, G g = some x → bR x = true) : ∀ k, Sound Tryd.prog G 23 (dC.f G k)
 | 0 => bD dC.here (fun _ _ => rfl)
 | k + 1 => bI (l := dC.env G k (dC.f G k)) (ann := dC.ann) (n := k) (aY hG (bQ (eF.sound hG k) (bQ (bJ.sound hG k) (bQ (aI.sound hG k) dU)))) orders Tryd.func23 (by kernel_rfl) (by kernel_rfl) rfl (by kernel_rfl) (gT fun x0 h => dC.eq G k _ x0 h)
theorem bN.here : HrP Tryd.prog 74 := ⟨_, Tryd.func74, by kernel_rfl, by kernel_rfl⟩
theorem bN.eq (G : aF) (k : Nat) (self : cC) (x0 x1 x2 : AV) (h : aB) : fB Tryd.prog G (fK (bN.env G k self)) bN.ann Tryd.f74.results.toList (dI Tryd.f74) Tryd.f74.ntmps k [x0, x1, x2] h = bN.c G k self x0 x1 x2 h := by kernel_rfl
theorem bN.sound {G : aF} (hG : ∀ g x, G g = some x → bR x = true) : ∀ k, Sound Tryd.prog G 74 (bN.f G k)
 | 0 => bD bN.here (fun _ _ => rfl)
 | k + 1 => bI (l := bN.env G k (bN.f G k)) (ann := bN.ann) (n := k) (aY hG dU) orders Tryd.func74 (by kernel_rfl) (by kernel_rfl) rfl (by kernel_rfl) (kX fun x0 x1 x2 h => bN.eq G k _ x0 x1 x2 h)
theorem aH.here : HrP Tryd.prog 113 := ⟨_, Tryd.func113, by kernel_rfl, by kernel_rfl⟩
theorem aH.eq (G : aF) (k : Nat) (self : cC) (x0 x1 x2 x3 : AV) (h : aB) : fB Tryd.prog G (fK (aH.env G k self)) aH.ann Tryd.f113.results.toList (dI Tryd.f113) Tryd.f113.ntmps k [x0, x1, x2, x3] h = aH.c G k self x0 x1 x2 x3 h := by kernel_rfl
theorem aH.sound {G : aF} (hG : ∀ g x, G g = some x → bR x = true) : ∀ k, Sound Tryd.prog G 113 (aH.f G k)
 | 0 => bD aH.here (fun _ _ => rfl)
 | k + 1 => bI (l := aH.env G k (aH.f G k)) (ann := aH.ann) (n := k) (aY hG (bQ (bN.sound hG k) dU)) orders Tryd.func113 (by kernel_rfl) (by kernel_rfl) rfl (by kernel_rfl) (pX fun x0 x1 x2 x3 h => aH.eq G k _ x0 x1 x2 x3 h)
theorem aN.here : HrP Tryd.prog 125 := ⟨_, Tryd.func125, by kernel_rfl, by kernel_rfl⟩
theorem aN.eq (G : aF) (k : Nat) (self : cC) (x0 x1 x2 x3 x4 : AV) (h : aB) : fB Tryd.prog G (fK (aN.env G k self)) aN.ann Tryd.f125.results.toList (dI Tryd.f125) Tryd.f125.ntmps k [x0, x1, x2, x3, x4] h = aN.c G k self x0 x1 x2 x3 x4 h := by kernel_rfl
theorem aN.sound {G : aF} (hG : ∀ g x, G g = some x → bR x = true) : ∀ k, Sound Tryd.prog G 125 (aN.f G k)
 | 0 => bD aN.here (fun _ _ => rfl)
 | k + 1 => bI (l := aN.env G k (aN.f G k)) (ann := aN.ann) (n := k) (aY hG dU) orders Tryd.func125 (by kernel_rfl) (by kernel_rfl) rfl (by kernel_rfl) (aAs fun x0 x1 x2 x3 x4 h => aN.eq G k _ x0 x1 x2 x3 x4 h)
theorem aS.here : HrP Tryd.prog 123 := ⟨_, Tryd.func123, by kernel_rfl, by kernel_rfl⟩
theorem aS.eq (G : aF) (k : Nat) (self : cC) (x0 x1 x2 x3 x4 : AV) (h : aB) : fB Tryd.prog G (fK (aS.env G k self)) aS.ann Tryd.f123.results.toList (dI Tryd.f123) Tryd.f123.ntmps k [x0, x1, x2, x3, x4] h = aS.c G k self x0 x1 x2 x3 x4 h := by kernel_rfl
theorem aS.sound {G : aF} (hG : ∀ g x, G g = some x → bR x = true) : ∀ k, Sound Tryd.prog G 123 (aS.f G k)
 | 0 => bD aS.here (fun _ _ => rfl)
 | k + 1 => bI (l := aS.env G k (aS.f G k)) (ann := aS.ann) (n := k) (aY hG (bQ (aN.sound hG k) dU)) orders Tryd.func123 (by kernel_rfl) (by kernel_rfl) rfl (by kernel_rfl) (aAs fun x0 x1 x2 x3 x4 h => aS.eq G k _ x0 x1 x2 x3 x4 h)
theorem aE.here : HrP Tryd.prog 114 := ⟨_, Tryd.func114, by kernel_rfl, by kernel_rfl⟩
theorem aE.eq (G : aF) (k : Nat) (self : cC) (x0 x1 x2 x3 x4 : AV) (h : aB) : fB Tryd.prog G (fK (aE.env G k self)) aE.ann Tryd.f114.results.toList (dI Tryd.f114) Tryd.f114.ntmps k [x0, x1, x2, x3, x4] h = aE.c G k self x0 x1 x2 x3 x4 h := by kernel_rfl
theorem aE.sound {G : aF} (hG : ∀ g x, G g = some x → bR x = true) : ∀ k, Sound Tryd.prog G 114 (aE.f G k)
 | 0 => bD aE.here (fun _ _ => rfl)
 | k + 1 => bI (l := aE.env G k (aE.f G k)) (ann := aE.ann) (n := k) (aY hG (bQ (bN.sound hG k) (bQ (aE.sound hG k) (bQ (aS.sound hG k) dU)))) orders Tryd.func114 (by kernel_rfl) (by kernel_rfl) rfl (by kernel_rfl) (aAs fun x0 x1 x2 x3 x4 h => aE.eq G k _ x0 x1 x2 x3 x4 h)
theorem aK.here : HrP Tryd.prog 96 := ⟨_, Tryd.func96, by kernel_rfl, by kernel_rfl⟩
theorem aK.eq (G : aF) (k : Nat) (self : cC) (x0 x1 x2 : AV) (h : aB) : fB Tryd.prog G (fK (aK.env G k self)) aK.ann Tryd.f96.results.toList (dI Tryd.f96) Tryd.f96.ntmps k [x0, x1, x2] h = aK.c G k self x0 x1 x2 h := by kernel_rfl
theorem aK.sound {G : aF} (hG : ∀ g x, G g = some x → bR x = true) : ∀ k, Sound Tryd.prog G 96 (aK.f G k)
 | 0 => bD aK.here (fun _ _ => rfl)
 | k + 1 => bI (l := aK.env G k (aK.f G k)) (ann := aK.ann) (n := k) (aY hG (bQ (bN.sound hG k) (bQ (aH.sound hG k) (bQ (aE.sound hG k) dU)))) orders Tryd.func96 (by kernel_rfl) (by kernel_rfl) rfl (by kernel_rfl) (kX fun x0 x1 x2 h => aK.eq G k _ x0 x1 x2 h)
theorem aP.here : HrP Tryd.prog 73 := ⟨_, Tryd.func73, by kernel_rfl, by kernel_rfl⟩
theorem aP.eq (G : aF) (k : Nat) (self : cC) (x0 x1 : AV) (h : aB) : fB Tryd.prog G (fK (aP.env G k self)) aP.ann Tryd.f73.results.toList (dI Tryd.f73) Tryd.f73.ntmps k [x0, x1] h = aP.c G k self x0 x1 h := by kernel_rfl
theorem aP.sound {G : aF} (hG : ∀ g x, G g = some x → bR x = true) : ∀ k, Sound Tryd.prog G 73 (aP.f G k)
 | 0 => bD aP.here (fun _ _ => rfl)
 | k + 1 => bI (l := aP.env G k (aP.f G k)) (ann := aP.ann) (n := k) (aY hG (bQ (aK.sound hG k) dU)) orders Tryd.func73 (by kernel_rfl) (by kernel_rfl) rfl (by kernel_rfl) (gM fun x0 x1 h => aP.eq G k _ x0 x1 h)
theorem aQ.here : HrP Tryd.prog 45 := ⟨_, Tryd.func45, by kernel_rfl, by kernel_rfl⟩
theorem aQ.eq (G : aF) (k : Nat) (self : cC) (x0 x1 : AV) (h : aB) : qV Tryd.prog G (fK (aQ.env G k self)) aQ.ann Tryd.f45.results.toList (dI Tryd.f45) Tryd.f45.ntmps k [x0, x1] h = aQ.c G k self x0 x1 h := by kernel_rfl
theorem aQ.sound {G : aF} (hG : ∀ g x, G g = some x → bR x = true) : ∀ k, Sound Tryd.prog G 45 (aQ.f G k)
 | 0 => bD aQ.here (fun _ _ => rfl)
 | k + 1 => nG (l := aQ.env G k (aQ.f G k)) (ann := aQ.ann) (n := k) (aY hG (bQ (eO.sound hG k) (bQ (dC.sound hG k) (bQ (aP.sound hG k) (bQ (bN.sound hG k) dU))))) orders Tryd.func45 (by kernel_rfl) (by kernel_rfl) rfl (by kernel_rfl) (gM fun x0 x1 h => aQ.eq G k _ x0 x1 h)
theorem bH.here : HrP Tryd.prog 76 := ⟨_, Tryd.func76, by kernel_rfl, by kernel_rfl⟩
theorem bH.eq (G : aF) (k : Nat) (self : cC) (x0 x1 : AV) (h : aB) : fB Tryd.prog G (fK (bH.env G k self)) bH.ann Tryd.f76.results.toList (dI Tryd.f76) Tryd.f76.ntmps k [x0, x1] h = bH.c G k self x0 x1 h := by kernel_rfl
theorem bH.sound {G : aF} (hG : ∀ g x, G g = some x → bR x = true) : ∀ k, Sound Tryd.prog G 76 (bH.f G k)
 | 0 => bD bH.here (fun _ _ => rfl)
 | k + 1 => bI (l := bH.env G k (bH.f G k)) (ann := bH.ann) (n := k) (aY hG dU) orders Tryd.func76 (by kernel_rfl) (by kernel_rfl) rfl (by kernel_rfl) (gM fun x0 x1 h => bH.eq G k _ x0 x1 h)
theorem bW.here : HrP Tryd.prog 79 := ⟨_, Tryd.func79, by kernel_rfl, by kernel_rfl⟩
theorem bW.eq (G : aF) (k : Nat) (self : cC) (x0 x1 x2 : AV) (h : aB) : fB Tryd.prog G (fK (bW.env G k self)) bW.ann Tryd.f79.results.toList (dI Tryd.f79) Tryd.f79.ntmps k [x0, x1, x2] h = bW.c G k self x0 x1 x2 h := by kernel_rfl
theorem bW.sound {G : aF} (hG : ∀ g x, G g = some x → bR x = true) : ∀ k, Sound Tryd.prog G 79 (bW.f G k)
 | 0 => bD bW.here (fun _ _ => rfl)
 | k + 1 => bI (l := bW.env G k (bW.f G k)) (ann := bW.ann) (n := k) (aY hG (bQ (bH.sound hG k) dU)) orders Tryd.func79 (by kernel_rfl) (by kernel_rfl) rfl (by kernel_rfl) (kX fun x0 x1 x2 h => bW.eq G k _ x0 x1 x2 h)
theorem bT.here : HrP Tryd.prog 75 := ⟨_, Tryd.func75, by kernel_rfl, by kernel_rfl⟩
theorem bT.eq (G : aF) (k : Nat) (self : cC) (x0 x1 : AV) (h : aB) : fB Tryd.prog G (fK (bT.env G k self)) bT.ann Tryd.f75.results.toList (dI Tryd.f75) Tryd.f75.ntmps k [x0, x1] h = bT.c G k self x0 x1 h := by kernel_rfl
theorem bT.sound {G : aF} (hG : ∀ g x, G g = some x → bR x = true) : ∀ k, Sound Tryd.prog G 75 (bT.f G k)
 | 0 => bD bT.here (fun _ _ => rfl)
 | k + 1 => bI (l := bT.env G k (bT.f G k)) (ann := bT.ann) (n := k) (aY hG (bQ (bH.sound hG k) (bQ (bW.sound hG k) dU))) orders Tryd.func75 (by kernel_rfl) (by kernel_rfl) rfl (by kernel_rfl) (gM fun x0 x1 h => bT.eq G k _ x0 x1 h)
theorem cG.here : HrP Tryd.prog 77 := ⟨_, Tryd.func77, by kernel_rfl, by kernel_rfl⟩
theorem cG.eq (G : aF) (k : Nat) (self : cC) (x0 x1 : AV) (h : aB) : fB Tryd.prog G (fK (cG.env G k self)) cG.ann Tryd.f77.results.toList (dI Tryd.f77) Tryd.f77.ntmps k [x0, x1] h = cG.c G k self x0 x1 h := by kernel_rfl
theorem cG.sound {G : aF} (hG : ∀ g x, G g = some x → bR x = true) : ∀ k, Sound Tryd.prog G 77 (cG.f G k)
 | 0 => bD cG.here (fun _ _ => rfl)
 | k + 1 => bI (l := cG.env G k (cG.f G k)) (ann := cG.ann) (n := k) (aY hG dU) orders Tryd.func77 (by kernel_rfl) (by kernel_rfl) rfl (by kernel_rfl) (gM fun x0 x1 h => cG.eq G k _ x0 x1 h)
theorem bU.here : HrP Tryd.prog 78 := ⟨_, Tryd.func78, by kernel_rfl, by kernel_rfl⟩
theorem bU.eq (G : aF) (k : Nat) (self : cC) (x0 x1 : AV) (h : aB) : fB Tryd.prog G (fK (bU.env G k self)) bU.ann Tryd.f78.results.toList (dI Tryd.f78) Tryd.f78.ntmps k [x0, x1] h = bU.c G k self x0 x1 h := by kernel_rfl
theorem bU.sound {G : aF} (hG : ∀ g x, G g = some x → bR x = true) : ∀ k, Sound Tryd.prog G 78 (bU.f G k)
 | 0 => bD bU.here (fun _ _ => rfl)
 | k + 1 => bI (l := bU.env G k (bU.f G k)) (ann := bU.ann) (n := k) (aY hG (bQ (bH.sound hG k) dU)) orders Tryd.func78 (by kernel_rfl) (by kernel_rfl) rfl (by kernel_rfl) (gM fun x0 x1 h => bU.eq G k _ x0 x1 h)
theorem bA.here : HrP Tryd.prog 46 := ⟨_, Tryd.func46, by kernel_rfl, by kernel_rfl⟩
theorem bA.eq (G : aF) (k : Nat) (self : cC) (x0 x1 : AV) (h : aB) : fB Tryd.prog G (fK (bA.env G k self)) bA.ann Tryd.f46.results.toList (dI Tryd.f46) Tryd.f46.ntmps k [x0, x1] h = bA.c G k self x0 x1 h := by kernel_rfl
theorem bA.sound {G : aF} (hG : ∀ g x, G g = some x → bR x = true) : ∀ k, Sound Tryd.prog G 46 (bA.f G k)
 | 0 => bD bA.here (fun _ _ => rfl)
 | k + 1 => bI (l := bA.env G k (bA.f G k)) (ann := bA.ann) (n := k) (aY hG (bQ (eF.sound hG k) (bQ (bT.sound hG k) (bQ (bH.sound hG k) (bQ (cG.sound hG k) (bQ (bU.sound hG k) (bQ (bW.sound hG k) dU))))))) orders Tryd.func46 (by kernel_rfl) (by kernel_rfl) rfl (by kernel_rfl) (gM fun x0 x1 h => bA.eq G k _ x0 x1 h)
theorem dD.here : HrP Tryd.prog 80 := ⟨_, Tryd.func80, by kernel_rfl, by kernel_rfl⟩
theorem dD.eq (G : aF) (k : Nat) (self : cC) (x0 : AV) (h : aB) : fB Tryd.prog G (fK (dD.env G k self)) dD.ann Tryd.f80.results.toList (dI Tryd.f80) Tryd.f80.ntmps k [x0] h = dD.c G k self x0 h := by kernel_rfl
theorem dD.sound {G : aF} (hG : ∀ g x, G g = some x → bR x = true) : ∀ k, Sound Tryd.prog G 80 (dD.f G k)
 | 0 => bD dD.here (fun _ _ => rfl)
 | k + 1 => bI (l := dD.env G k (dD.f G k)) (ann := dD.ann) (n := k) (aY hG dU) orders Tryd.func80 (by kernel_rfl) (by kernel_rfl) rfl (by kernel_rfl) (gT fun x0 h => dD.eq G k _ x0 h)
theorem bB.here : HrP Tryd.prog 47 := ⟨_, Tryd.func47, by kernel_rfl, by kernel_rfl⟩
theorem bB.eq (G : aF) (k : Nat) (self : cC) (x0 : AV) (h : aB) : fB Tryd.prog G (fK (bB.env G k self)) bB.ann Tryd.f47.results.toList (dI Tryd.f47) Tryd.f47.ntmps k [x0] h = bB.c G k self x0 h := by kernel_rfl
theorem bB.sound {G : aF} (hG : ∀ g x, G g = some x → bR x = true) : ∀ k, Sound Tryd.prog G 47 (bB.f G k)
 | 0 => bD bB.here (fun _ _ => rfl)
 | k + 1 => bI (l := bB.env G k (bB.f G k)) (ann := bB.ann) (n := k) (aY hG (bQ (dD.sound hG k) dU)) orders Tryd.func47 (by kernel_rfl) (by kernel_rfl) rfl (by kernel_rfl) (gT fun x0 h => bB.eq G k _ x0 h)
theorem bX.here : HrP Tryd.prog 13 := ⟨_, Tryd.func13, by kernel_rfl, by kernel_rfl⟩
theorem bX.eq (G : aF) (k : Nat) (self : cC) (x0 x1 : AV) (h : aB) : fB Tryd.prog G (fK (bX.env G k self)) bX.ann Tryd.f13.results.toList (dI Tryd.f13) Tryd.f13.ntmps k [x0, x1] h = bX.c G k self x0 x1 h := by kernel_rfl
theorem bX.sound {G : aF} (hG : ∀ g x, G g = some x → bR x = true) : ∀ k, Sound Tryd.prog G 13 (bX.f G k)
 | 0 => bD bX.here (fun _ _ => rfl)
 | k + 1 => bI (l := bX.env G k (bX.f G k)) (ann := bX.ann) (n := k) (aY hG (bQ (cI.sound hG k) (bQ (aO.sound hG k) (bQ (aQ.sound hG k) (bQ (bA.sound hG k) (bQ (bB.sound hG k) dU)))))) orders Tryd.func13 (by kernel_rfl) (by kernel_rfl) rfl (by kernel_rfl) (gM fun x0 x1 h => bX.eq G k _ x0 x1 h)
theorem fM.here : HrP Tryd.prog 69 := ⟨_, Tryd.func69, by kernel_rfl, by kernel_rfl⟩
theorem fM.eq (G : aF) (k : Nat) (self : cC) (x0 x1 x2 : AV) (h : aB) : fB Tryd.prog G (fK (fM.env G k self)) fM.ann Tryd.f69.results.toList (dI Tryd.f69) Tryd.f69.ntmps k [x0, x1, x2] h = fM.c G k self x0 x1 x2 h := by kernel_rfl
theorem fM.sound {G : aF} (hG : ∀ g x, G g = some x → bR x = true) : ∀ k, Sound Tryd.prog G 69 (fM.f G k)
 | 0 => bD fM.here (fun _ _ => rfl)
 | k + 1 => bI (l := fM.env G k (fM.f G k)) (ann := fM.ann) (n := k) (aY hG dU) orders Tryd.func69 (by kernel_rfl) (by kernel_rfl) rfl (by kernel_rfl) (kX fun x0 x1 x2 h => fM.eq G k _ x0 x1 x2 h)
theorem bL.here : HrP Tryd.prog 92 := ⟨_, Tryd.func92, by kernel_rfl, by kernel_rfl⟩
theorem bL.eq (G : aF) (k : Nat) (self : cC) (x0 : AV) (h : aB) : qV Tryd.prog G (fK (bL.env G k self)) bL.ann Tryd.f92.results.toList (dI Tryd.f92) Tryd.f92.ntmps k [x0] h = bL.c G k self x0 h := by kernel_rfl
theorem bL.sound {G : aF} (hG : ∀ g x, G g = some x → bR x = true) : ∀ k, Sound Tryd.prog G 92 (bL.f G k)
 | 0 => bD bL.here (fun _ _ => rfl)
 | k + 1 => nG (l := bL.env G k (bL.f G k)) (ann := bL.ann) (n := k) (aY hG dU) orders Tryd.func92 (by kernel_rfl) (by kernel_rfl) rfl (by kernel_rfl) (gT fun x0 h => bL.eq G k _ x0 h)
theorem dJ.here : HrP Tryd.prog 93 := ⟨_, Tryd.func93, by kernel_rfl, by kernel_rfl⟩
theorem dJ.eq (G : aF) (k : Nat) (self : cC) (x0 x1 x2 : AV) (h : aB) : fB Tryd.prog G (fK (dJ.env G k self)) dJ.ann Tryd.f93.results.toList (dI Tryd.f93) Tryd.f93.ntmps k [x0, x1, x2] h = dJ.c G k self x0 x1 x2 h := by kernel_rfl
theorem dJ.sound {G : aF} (hG : ∀ g x, G g = some x → bR x = true) : ∀ k, Sound Tryd.prog G 93 (dJ.f G k)
 | 0 => bD dJ.here (fun _ _ => rfl)
 | k + 1 => bI (l := dJ.env G k (dJ.f G k)) (ann := dJ.ann) (n := k) (aY hG dU) orders Tryd.func93 (by kernel_rfl) (by kernel_rfl) rfl (by kernel_rfl) (kX fun x0 x1 x2 h => dJ.eq G k _ x0 x1 x2 h)
theorem eH.here : HrP Tryd.prog 110 := ⟨_, Tryd.func110, by kernel_rfl, by kernel_rfl⟩
theorem eH.eq (G : aF) (k : Nat) (self : cC) (x0 x1 : AV) (h : aB) : fB Tryd.prog G (fK (eH.env G k self)) eH.ann Tryd.f110.results.toList (dI Tryd.f110) Tryd.f110.ntmps k [x0, x1] h = eH.c G k self x0 x1 h := by kernel_rfl
theorem eH.sound {G : aF} (hG : ∀ g x, G g = some x → bR x = true) : ∀ k, Sound Tryd.prog G 110 (eH.f G k)
 | 0 => bD eH.here (fun _ _ => rfl)
 | k + 1 => bI (l := eH.env G k (eH.f G k)) (ann := eH.ann) (n := k) (aY hG (bQ (dJ.sound hG k) dU)) orders Tryd.func110 (by kernel_rfl) (by kernel_rfl) rfl (by kernel_rfl) (gM fun x0 x1 h => eH.eq G k _ x0 x1 h)
theorem fX.here : HrP Tryd.prog 121 := ⟨_, Tryd.func121, by kernel_rfl, by kernel_rfl⟩
theorem fX.eq (G : aF) (k : Nat) (self : cC) (x0 : AV) (h : aB) : fB Tryd.prog G (fK (fX.env G k self)) fX.ann Tryd.f121.results.toList (dI Tryd.f121) Tryd.f121.ntmps k [x0] h = fX.c G k self x0 h := by kernel_rfl
theorem fX.sound {G : aF} (hG : ∀ g x, G g = some x → bR x = true) : ∀ k, Sound Tryd.prog G 121 (fX.f G k)
 | 0 => bD fX.here (fun _ _ => rfl)
 | k + 1 => bI (l := fX.env G k (fX.f G k)) (ann := fX.ann) (n := k) (aY hG dU) orders Tryd.func121 (by kernel_rfl) (by kernel_rfl) rfl (by kernel_rfl) (gT fun x0 h => fX.eq G k _ x0 h)
theorem eE.here : HrP Tryd.prog 111 := ⟨_, Tryd.func111, by kernel_rfl, by kernel_rfl⟩
theorem eE.eq (G : aF) (k : Nat) (self : cC) (x0 x1 : AV) (h : aB) : fB Tryd.prog G (fK (eE.env G k self)) eE.ann Tryd.f111.results.toList (dI Tryd.f111) Tryd.f111.ntmps k [x0, x1] h = eE.c G k self x0 x1 h := by kernel_rfl
theorem eE.sound {G : aF} (hG : ∀ g x, G g = some x → bR x = true) : ∀ k, Sound Tryd.prog G 111 (eE.f G k)
 | 0 => bD eE.here (fun _ _ => rfl)
 | k + 1 => bI (l := eE.env G k (eE.f G k)) (ann := eE.ann) (n := k) (aY hG (bQ (dJ.sound hG k) (bQ (fX.sound hG k) dU))) orders Tryd.func111 (by kernel_rfl) (by kernel_rfl) rfl (by kernel_rfl) (gM fun x0 x1 h => eE.eq G k _ x0 x1 h)
theorem cB.here : HrP Tryd.prog 85 := ⟨_, Tryd.func85, by kernel_rfl, by kernel_rfl⟩
theorem cB.eq (G : aF) (k : Nat) (self : cC) (x0 x1 : AV) (h : aB) : fB Tryd.prog G (fK (cB.env G k self)) cB.ann Tryd.f85.results.toList (dI Tryd.f85) Tryd.f85.ntmps k [x0, x1] h = cB.c G k self x0 x1 h := by kernel_rfl
theorem cB.sound {G : aF} (hG : ∀ g x, G g = some x → bR x = true) : ∀ k, Sound Tryd.prog G 85 (cB.f G k)
 | 0 => bD cB.here (fun _ _ => rfl)
 | k + 1 => bI (l := cB.env G k (cB.f G k)) (ann := cB.ann) (n := k) (aY hG dU) orders Tryd.func85 (by kernel_rfl) (by kernel_rfl) rfl (by kernel_rfl) (gM fun x0 x1 h => cB.eq G k _ x0 x1 h)
theorem eZ.here : HrP Tryd.prog 122 := ⟨_, Tryd.func122, by kernel_rfl, by kernel_rfl⟩
theorem eZ.eq (G : aF) (k : Nat) (self : cC) (x0 x1 : AV) (h : aB) : fB Tryd.prog G (fK (eZ.env G k self)) eZ.ann Tryd.f122.results.toList (dI Tryd.f122) Tryd.f122.ntmps k [x0, x1] h = eZ.c G k self x0 x1 h := by kernel_rfl
theorem eZ.sound {G : aF} (hG : ∀ g x, G g = some x → bR x = true) : ∀ k, Sound Tryd.prog G 122 (eZ.f G k)
 | 0 => bD eZ.here (fun _ _ => rfl)
 | k + 1 => bI (l := eZ.env G k (eZ.f G k)) (ann := eZ.ann) (n := k) (aY hG dU) orders Tryd.func122 (by kernel_rfl) (by kernel_rfl) rfl (by kernel_rfl) (gM fun x0 x1 h => eZ.eq G k _ x0 x1 h)
theorem fN.here : HrP Tryd.prog 112 := ⟨_, Tryd.func112, by kernel_rfl, by kernel_rfl⟩
theorem fN.eq (G : aF) (k : Nat) (self : cC) (x0 x1 x2 x3 : AV) (h : aB) : fB Tryd.prog G (fK (fN.env G k self)) fN.ann Tryd.f112.results.toList (dI Tryd.f112) Tryd.f112.ntmps k [x0, x1, x2, x3] h = fN.c G k self x0 x1 x2 x3 h := by kernel_rfl
theorem fN.sound {G : aF} (hG : ∀ g x, G g = some x → bR x = true) : ∀ k, Sound Tryd.prog G 112 (fN.f G k)
 | 0 => bD fN.here (fun _ _ => rfl)
 | k + 1 => bI (l := fN.env G k (fN.f G k)) (ann := fN.ann) (n := k) (aY hG (bQ (cB.sound hG k) (bQ (fX.sound hG k) (bQ (eZ.sound hG k) dU)))) orders Tryd.func112 (by kernel_rfl) (by kernel_rfl) rfl (by kernel_rfl) (pX fun x0 x1 x2 x3 h => fN.eq G k _ x0 x1 x2 x3 h)
theorem eU.here : HrP Tryd.prog 94 := ⟨_, Tryd.func94, by kernel_rfl, by kernel_rfl⟩
theorem eU.eq (G : aF) (k : Nat) (self : cC) (x0 x1 : AV) (h : aB) : fB Tryd.prog G (fK (eU.env G k self)) eU.ann Tryd.f94.results.toList (dI Tryd.f94) Tryd.f94.ntmps k [x0, x1] h = eU.c G k self x0 x1 h := by kernel_rfl
theorem eU.sound {G : aF} (hG : ∀ g x, G g = some x → bR x = true) : ∀ k, Sound Tryd.prog G 94 (eU.f G k)
 | 0 => bD eU.here (fun _ _ => rfl)
 | k + 1 => bI (l := eU.env G k (eU.f G k)) (ann := eU.ann) (n := k) (aY hG (bQ (eH.sound hG k) (bQ (eE.sound hG k) (bQ (fN.sound hG k) dU)))) orders Tryd.func94 (by kernel_rfl) (by kernel_rfl) rfl (by kernel_rfl) (gM fun x0 x1 h => eU.eq G k _ x0 x1 h)
theorem fD.here : HrP Tryd.prog 70 := ⟨_, Tryd.func70, by kernel_rfl, by kernel_rfl⟩
theorem fD.eq (G : aF) (k : Nat) (self : cC) (x0 x1 x2 x3 : AV) (h : aB) : fB Tryd.prog G (fK (fD.env G k self)) fD.ann Tryd.f70.results.toList (dI Tryd.f70) Tryd.f70.ntmps k [x0, x1, x2, x3] h = fD.c G k self x0 x1 x2 x3 h := by kernel_rfl
theorem fD.sound {G : aF} (hG : ∀ g x, G g = some x → bR x = true) : ∀ k, Sound Tryd.prog G 70 (fD.f G k)
 | 0 => bD fD.here (fun _ _ => rfl)
 | k + 1 => bI (l := fD.env G k (fD.f G k)) (ann := fD.ann) (n := k) (aY hG (bQ (bL.sound hG k) (bQ (dJ.sound hG k) (bQ (eU.sound hG k) dU)))) orders Tryd.func70 (by kernel_rfl) (by kernel_rfl) rfl (by kernel_rfl) (pX fun x0 x1 x2 x3 h => fD.eq G k _ x0 x1 x2 x3 h)
theorem gL.here : HrP Tryd.prog 39 := ⟨_, Tryd.func39, by kernel_rfl, by kernel_rfl⟩
theorem gL.eq (G : aF) (k : Nat) (self : cC) (x0 x1 x2 : AV) (h : aB) : fB Tryd.prog G (fK (gL.env G k self)) gL.ann Tryd.f39.results.toList (dI Tryd.f39) Tryd.f39.ntmps k [x0, x1, x2] h = gL.c G k self x0 x1 x2 h := by kernel_rfl
theorem gL.sound {G : aF} (hG : ∀ g x, G g = some x → bR x = true) : ∀ k, Sound Tryd.prog G 39 (gL.f G k)
 | 0 => bD gL.here (fun _ _ => rfl)
 | k + 1 => bI (l := gL.env G k (gL.f G k)) (ann := gL.ann) (n := k) (aY hG (bQ (cI.sound hG k) (bQ (fM.sound hG k) (bQ (fD.sound hG k) dU)))) orders Tryd.func39 (by kernel_rfl) (by kernel_rfl) rfl (by kernel_rfl) (kX fun x0 x1 x2 h => gL.eq G k _ x0 x1 x2 h)
theorem cZ.here : HrP Tryd.prog 10 := ⟨_, Tryd.func10, by kernel_rfl, by kernel_rfl⟩
theorem cZ.eq (G : aF) (k : Nat) (self : cC) (h : aB) : fB Tryd.prog G (fK (cZ.env G k self)) cZ.ann Tryd.f10.results.toList (dI Tryd.f10) Tryd.f10.ntmps k [] h = cZ.c G k self h := by kernel_rfl
theorem cZ.sound {G : aF} (hG : ∀ g x, G g = some x → bR x = true) : ∀ k, Sound Tryd.prog G 10 (cZ.f G k)
 | 0 => bD cZ.here (fun _ _ => rfl)
 | k + 1 => bI (l := cZ.env G k (cZ.f G k)) (ann := cZ.ann) (n := k) (aY hG (bQ (bX.sound hG k) (bQ (gL.sound hG k) dU))) orders Tryd.func10 (by kernel_rfl) (by kernel_rfl) rfl (by kernel_rfl) (aAr fun h => cZ.eq G k _ h)
theorem bP.here : HrP Tryd.prog 12 := ⟨_, Tryd.func12, by kernel_rfl, by kernel_rfl⟩
theorem bP.eq (G : aF) (k : Nat) (self : cC) (x0 : AV) (h : aB) : qV Tryd.prog G (fK (bP.env G k self)) bP.ann Tryd.f12.results.toList (dI Tryd.f12) Tryd.f12.ntmps k [x0] h = bP.c G k self x0 h := by kernel_rfl
theorem bP.sound {G : aF} (hG : ∀ g x, G g = some x → bR x = true) : ∀ k, Sound Tryd.prog G 12 (bP.f G k)
 | 0 => bD bP.here (fun _ _ => rfl)
 | k + 1 => nG (l := bP.env G k (bP.f G k)) (ann := bP.ann) (n := k) (aY hG dU) orders Tryd.func12 (by kernel_rfl) (by kernel_rfl) rfl (by kernel_rfl) (gT fun x0 h => bP.eq G k _ x0 h)
theorem dK.here : HrP Tryd.prog 48 := ⟨_, Tryd.func48, by kernel_rfl, by kernel_rfl⟩
theorem dK.eq (G : aF) (k : Nat) (self : cC) (x0 : AV) (h : aB) : fB Tryd.prog G (fK (dK.env G k self)) dK.ann Tryd.f48.results.toList (dI Tryd.f48) Tryd.f48.ntmps k [x0] h = dK.c G k self x0 h := by kernel_rfl
theorem dK.sound {G : aF} (hG : ∀ g x, G g = some x → bR x = true) : ∀ k, Sound Tryd.prog G 48 (dK.f G k)
 | 0 => bD dK.here (fun _ _ => rfl)
 | k + 1 => bI (l := dK.env G k (dK.f G k)) (ann := dK.ann) (n := k) (aY hG dU) orders Tryd.func48 (by kernel_rfl) (by kernel_rfl) rfl (by kernel_rfl) (gT fun x0 h => dK.eq G k _ x0 h)
theorem dZ.here : HrP Tryd.prog 81 := ⟨_, Tryd.func81, by kernel_rfl, by kernel_rfl⟩
theorem dZ.eq (G : aF) (k : Nat) (self : cC) (x0 x1 : AV) (h : aB) : fB Tryd.prog G (fK (dZ.env G k self)) dZ.ann Tryd.f81.results.toList (dI Tryd.f81) Tryd.f81.ntmps k [x0, x1] h = dZ.c G k self x0 x1 h := by kernel_rfl
theorem dZ.sound {G : aF} (hG : ∀ g x, G g = some x → bR x = true) : ∀ k, Sound Tryd.prog G 81 (dZ.f G k)
 | 0 => bD dZ.here (fun _ _ => rfl)
 | k + 1 => bI (l := dZ.env G k (dZ.f G k)) (ann := dZ.ann) (n := k) (aY hG dU) orders Tryd.func81 (by kernel_rfl) (by kernel_rfl) rfl (by kernel_rfl) (gM fun x0 x1 h => dZ.eq G k _ x0 x1 h)
theorem cP.here : HrP Tryd.prog 82 := ⟨_, Tryd.func82, by kernel_rfl, by kernel_rfl⟩
theorem cP.eq (G : aF) (k : Nat) (self : cC) (x0 x1 : AV) (h : aB) : fB Tryd.prog G (fK (cP.env G k self)) cP.ann Tryd.f82.results.toList (dI Tryd.f82) Tryd.f82.ntmps k [x0, x1] h = cP.c G k self x0 x1 h := by kernel_rfl
theorem cP.sound {G : aF} (hG : ∀ g x, G g = some x → bR x = true) : ∀ k, Sound Tryd.prog G 82 (cP.f G k)
 | 0 => bD cP.here (fun _ _ => rfl)
 | k + 1 => bI (l := cP.env G k (cP.f G k)) (ann := cP.ann) (n := k) (aY hG dU) orders Tryd.func82 (by kernel_rfl) (by kernel_rfl) rfl (by kernel_rfl) (gM fun x0 x1 h => cP.eq G k _ x0 x1 h)
theorem dL.here : HrP Tryd.prog 83 := ⟨_, Tryd.func83, by kernel_rfl, by kernel_rfl⟩
theorem dL.eq (G : aF) (k : Nat) (self : cC) (x0 x1 : AV) (h : aB) : fB Tryd.prog G (fK (dL.env G k self)) dL.ann Tryd.f83.results.toList (dI Tryd.f83) Tryd.f83.ntmps k [x0, x1] h = dL.c G k self x0 x1 h := by kernel_rfl
theorem dL.sound {G : aF} (hG : ∀ g x, G g = some x → bR x = true) : ∀ k, Sound Tryd.prog G 83 (dL.f G k)
 | 0 => bD dL.here (fun _ _ => rfl)
 | k + 1 => bI (l := dL.env G k (dL.f G k)) (ann := dL.ann) (n := k) (aY hG dU) orders Tryd.func83 (by kernel_rfl) (by kernel_rfl) rfl (by kernel_rfl) (gM fun x0 x1 h => dL.eq G k _ x0 x1 h)
theorem cO.here : HrP Tryd.prog 84 := ⟨_, Tryd.func84, by kernel_rfl, by kernel_rfl⟩
theorem cO.eq (G : aF) (k : Nat) (self : cC) (x0 x1 : AV) (h : aB) : fB Tryd.prog G (fK (cO.env G k self)) cO.ann Tryd.f84.results.toList (dI Tryd.f84) Tryd.f84.ntmps k [x0, x1] h = cO.c G k self x0 x1 h := by kernel_rfl
theorem cO.sound {G : aF} (hG : ∀ g x, G g = some x → bR x = true) : ∀ k, Sound Tryd.prog G 84 (cO.f G k)
 | 0 => bD cO.here (fun _ _ => rfl)
 | k + 1 => bI (l := cO.env G k (cO.f G k)) (ann := cO.ann) (n := k) (aY hG (bQ (cP.sound hG k) (bQ (cB.sound hG k) dU))) orders Tryd.func84 (by kernel_rfl) (by kernel_rfl) rfl (by kernel_rfl) (gM fun x0 x1 h => cO.eq G k _ x0 x1 h)
theorem dH.here : HrP Tryd.prog 49 := ⟨_, Tryd.func49, by kernel_rfl, by kernel_rfl⟩
theorem dH.eq (G : aF) (k : Nat) (self : cC) (x0 x1 x2 : AV) (h : aB) : fB Tryd.prog G (fK (dH.env G k self)) dH.ann Tryd.f49.results.toList (dI Tryd.f49) Tryd.f49.ntmps k [x0, x1, x2] h = dH.c G k self x0 x1 x2 h := by kernel_rfl
theorem dH.sound {G : aF} (hG : ∀ g x, G g = some x → bR x = true) : ∀ k, Sound Tryd.prog G 49 (dH.f G k)
 | 0 => bD dH.here (fun _ _ => rfl)
 | k + 1 => bI (l := dH.env G k (dH.f G k)) (ann := dH.ann) (n := k) (aY hG (bQ (dZ.sound hG k) (bQ (cP.sound hG k) (bQ (dL.sound hG k) (bQ (cO.sound hG k) dU))))) orders Tryd.func49 (by kernel_rfl) (by kernel_rfl) rfl (by kernel_rfl) (kX fun x0 x1 x2 h => dH.eq G k _ x0 x1 x2 h)
theorem cA.here : HrP Tryd.prog 50 := ⟨_, Tryd.func50, by kernel_rfl, by kernel_rfl⟩
theorem cA.eq (G : aF) (k : Nat) (self : cC) (x0 x1 x2 x3 : AV) (h : aB) : fB Tryd.prog G (fK (cA.env G k self)) cA.ann Tryd.f50.results.toList (dI Tryd.f50) Tryd.f50.ntmps k [x0, x1, x2, x3] h = cA.c G k self x0 x1 x2 x3 h := by kernel_rfl
theorem cA.sound {G : aF} (hG : ∀ g x, G g = some x → bR x = true) : ∀ k, Sound Tryd.prog G 50 (cA.f G k)
 | 0 => bD cA.here (fun _ _ => rfl)
 | k + 1 => bI (l := cA.env G k (cA.f G k)) (ann := cA.ann) (n := k) (aY hG (bQ (cB.sound hG k) dU)) orders Tryd.func50 (by kernel_rfl) (by kernel_rfl) rfl (by kernel_rfl) (pX fun x0 x1 x2 x3 h => cA.eq G k _ x0 x1 x2 x3 h)
theorem bK.here : HrP Tryd.prog 14 := ⟨_, Tryd.func14, by kernel_rfl, by kernel_rfl⟩
theorem bK.eq (G : aF) (k : Nat) (self : cC) (x0 x1 x2 x3 : AV) (h : aB) : fB Tryd.prog G (fK (bK.env G k self)) bK.ann Tryd.f14.results.toList (dI Tryd.f14) Tryd.f14.ntmps k [x0, x1, x2, x3] h = bK.c G k self x0 x1 x2 x3 h := by kernel_rfl
theorem bK.sound {G : aF} (hG : ∀ g x, G g = some x → bR x = true) : ∀ k, Sound Tryd.prog G 14 (bK.f G k)
 | 0 => bD bK.here (fun _ _ => rfl)
 | k + 1 => bI (l := bK.env G k (bK.f G k)) (ann := bK.ann) (n := k) (aY hG (bQ (bP.sound hG k) (bQ (dK.sound hG k) (bQ (dH.sound hG k) (bQ (cA.sound hG k) dU))))) orders Tryd.func14 (by kernel_rfl) (by kernel_rfl) rfl (by kernel_rfl) (pX fun x0 x1 x2 x3 h => bK.eq G k _ x0 x1 x2 x3 h)
theorem bS.here : HrP Tryd.prog 15 := ⟨_, Tryd.func15, by kernel_rfl, by kernel_rfl⟩
theorem bS.eq (G : aF) (k : Nat) (self : cC) (x0 : AV) (h : aB) : fB Tryd.prog G (fK (bS.env G k self)) bS.ann Tryd.f15.results.toList (dI Tryd.f15) Tryd.f15.ntmps k [x0] h = bS.c G k self x0 h := by kernel_rfl
theorem bS.sound {G : aF} (hG : ∀ g x, G g = some x → bR x = true) : ∀ k, Sound Tryd.prog G 15 (bS.f G k)
 | 0 => bD bS.here (fun _ _ => rfl)
 | k + 1 => bI (l := bS.env G k (bS.f G k)) (ann := bS.ann) (n := k) (aY hG dU) orders Tryd.func15 (by kernel_rfl) (by kernel_rfl) rfl (by kernel_rfl) (gT fun x0 h => bS.eq G k _ x0 h)
theorem bY.here : HrP Tryd.prog 16 := ⟨_, Tryd.func16, by kernel_rfl, by kernel_rfl⟩
theorem bY.eq (G : aF) (k : Nat) (self : cC) (x0 x1 : AV) (h : aB) : fB Tryd.prog G (fK (bY.env G k self)) bY.ann Tryd.f16.results.toList (dI Tryd.f16) Tryd.f16.ntmps k [x0, x1] h = bY.c G k self x0 x1 h := by kernel_rfl
theorem bY.sound {G : aF} (hG : ∀ g x, G g = some x → bR x = true) : ∀ k, Sound Tryd.prog G 16 (bY.f G k)
 | 0 => bD bY.here (fun _ _ => rfl)
 | k + 1 => bI (l := bY.env G k (bY.f G k)) (ann := bY.ann) (n := k) (aY hG dU) orders Tryd.func16 (by kernel_rfl) (by kernel_rfl) rfl (by kernel_rfl) (gM fun x0 x1 h => bY.eq G k _ x0 x1 h)
theorem aZ.here : HrP Tryd.prog 17 := ⟨_, Tryd.func17, by kernel_rfl, by kernel_rfl⟩
theorem aZ.eq (G : aF) (k : Nat) (self : cC) (x0 x1 : AV) (h : aB) : fB Tryd.prog G (fK (aZ.env G k self)) aZ.ann Tryd.f17.results.toList (dI Tryd.f17) Tryd.f17.ntmps k [x0, x1] h = aZ.c G k self x0 x1 h := by kernel_rfl
theorem aZ.sound {G : aF} (hG : ∀ g x, G g = some x → bR x = true) : ∀ k, Sound Tryd.prog G 17 (aZ.f G k)
 | 0 => bD aZ.here (fun _ _ => rfl)
 | k + 1 => bI (l := aZ.env G k (aZ.f G k)) (ann := aZ.ann) (n := k) (aY hG dU) orders Tryd.func17 (by kernel_rfl) (by kernel_rfl) rfl (by kernel_rfl) (gM fun x0 x1 h => aZ.eq G k _ x0 x1 h)
theorem cK.here : HrP Tryd.prog 42 := ⟨_, Tryd.func42, by kernel_rfl, by kernel_rfl⟩
theorem cK.eq (G : aF) (k : Nat) (self : cC) (x0 : AV) (h : aB) : fB Tryd.prog G (fK (cK.env G k self)) cK.ann Tryd.f42.results.toList (dI Tryd.f42) Tryd.f42.ntmps k [x0] h = cK.c G k self x0 h := by kernel_rfl
theorem cK.sound {G : aF} (hG : ∀ g x, G g = some x → bR x = true) : ∀ k, Sound Tryd.prog G 42 (cK.f G k)
 | 0 => bD cK.here (fun _ _ => rfl)
 | k + 1 => bI (l := cK.env G k (cK.f G k)) (ann := cK.ann) (n := k) (aY hG dU) orders Tryd.func42 (by kernel_rfl) (by kernel_rfl) rfl (by kernel_rfl) (gT fun x0 h => cK.eq G k _ x0 h)
theorem cT.here : HrP Tryd.prog 52 := ⟨_, Tryd.func52, by kernel_rfl, by kernel_rfl⟩
theorem cT.eq (G : aF) (k : Nat) (self : cC) (x0 : AV) (h : aB) : fB Tryd.prog G (fK (cT.env G k self)) cT.ann Tryd.f52.results.toList (dI Tryd.f52) Tryd.f52.ntmps k [x0] h = cT.c G k self x0 h := by kernel_rfl
theorem cT.sound {G : aF} (hG : ∀ g x, G g = some x → bR x = true) : ∀ k, Sound Tryd.prog G 52 (cT.f G k)
 | 0 => bD cT.here (fun _ _ => rfl)
 | k + 1 => bI (l := cT.env G k (cT.f G k)) (ann := cT.ann) (n := k) (aY hG dU) orders Tryd.func52 (by kernel_rfl) (by kernel_rfl) rfl (by kernel_rfl) (gT fun x0 h => cT.eq G k _ x0 h)
theorem bG.here : HrP Tryd.prog 55 := ⟨_, Tryd.func55, by kernel_rfl, by kernel_rfl⟩
theorem bG.eq (G : aF) (k : Nat) (self : cC) (x0 x1 x2 : AV) (h : aB) : fB Tryd.prog G (fK (bG.env G k self)) bG.ann Tryd.f55.results.toList (dI Tryd.f55) Tryd.f55.ntmps k [x0, x1, x2] h = bG.c G k self x0 x1 x2 h := by kernel_rfl
theorem bG.sound {G : aF} (hG : ∀ g x, G g = some x → bR x = true) : ∀ k, Sound Tryd.prog G 55 (bG.f G k)
 | 0 => bD bG.here (fun _ _ => rfl)
 | k + 1 => bI (l := bG.env G k (bG.f G k)) (ann := bG.ann) (n := k) (aY hG dU) orders Tryd.func55 (by kernel_rfl) (by kernel_rfl) rfl (by kernel_rfl) (kX fun x0 x1 x2 h => bG.eq G k _ x0 x1 x2 h)
theorem bM.here : HrP Tryd.prog 56 := ⟨_, Tryd.func56, by kernel_rfl, by kernel_rfl⟩
theorem bM.eq (G : aF) (k : Nat) (self : cC) (x0 x1 : AV) (h : aB) : fB Tryd.prog G (fK (bM.env G k self)) bM.ann Tryd.f56.results.toList (dI Tryd.f56) Tryd.f56.ntmps k [x0, x1] h = bM.c G k self x0 x1 h := by kernel_rfl
theorem bM.sound {G : aF} (hG : ∀ g x, G g = some x → bR x = true) : ∀ k, Sound Tryd.prog G 56 (bM.f G k)
 | 0 => bD bM.here (fun _ _ => rfl)
 | k + 1 => bI (l := bM.env G k (bM.f G k)) (ann := bM.ann) (n := k) (aY hG dU) orders Tryd.func56 (by kernel_rfl) (by kernel_rfl) rfl (by kernel_rfl) (gM fun x0 x1 h => bM.eq G k _ x0 x1 h)
theorem cU.here : HrP Tryd.prog 58 := ⟨_, Tryd.func58, by kernel_rfl, by kernel_rfl⟩
theorem cU.eq (G : aF) (k : Nat) (self : cC) (h : aB) : fB Tryd.prog G (fK (cU.env G k self)) cU.ann Tryd.f58.results.toList (dI Tryd.f58) Tryd.f58.ntmps k [] h = cU.c G k self h := by kernel_rfl
theorem cU.sound {G : aF} (hG : ∀ g x, G g = some x → bR x = true) : ∀ k, Sound Tryd.prog G 58 (cU.f G k)
 | 0 => bD cU.here (fun _ _ => rfl)
 | k + 1 => bI (l := cU.env G k (cU.f G k)) (ann := cU.ann) (n := k) (aY hG dU) orders Tryd.func58 (by kernel_rfl) (by kernel_rfl) rfl (by kernel_rfl) (aAr fun h => cU.eq G k _ h)
theorem bV.here : HrP Tryd.prog 57 := ⟨_, Tryd.func57, by kernel_rfl, by kernel_rfl⟩
theorem bV.eq (G : aF) (k : Nat) (self : cC) (x0 x1 : AV) (h : aB) : fB Tryd.prog G (fK (bV.env G k self)) bV.ann Tryd.f57.results.toList (dI Tryd.f57) Tryd.f57.ntmps k [x0, x1] h = bV.c G k self x0 x1 h := by kernel_rfl
theorem bV.sound {G : aF} (hG : ∀ g x, G g = some x → bR x = true) : ∀ k, Sound Tryd.prog G 57 (bV.f G k)
 | 0 => bD bV.here (fun _ _ => rfl)
 | k + 1 => bI (l := bV.env G k (bV.f G k)) (ann := bV.ann) (n := k) (aY hG (bQ (cU.sound hG k) dU)) orders Tryd.func57 (by kernel_rfl) (by kernel_rfl) rfl (by kernel_rfl) (gM fun x0 x1 h => bV.eq G k _ x0 x1 h)
theorem bF.here : HrP Tryd.prog 28 := ⟨_, Tryd.func28, by kernel_rfl, by kernel_rfl⟩
theorem bF.eq (G : aF) (k : Nat) (self : cC) (x0 : AV) (h : aB) : fB Tryd.prog G (fK (bF.env G k self)) bF.ann Tryd.f28.results.toList (dI Tryd.f28) Tryd.f28.ntmps k [x0] h = bF.c G k self x0 h := by kernel_rfl
theorem bF.sound {G : aF} (hG : ∀ g x, G g = some x → bR x = true) : ∀ k, Sound Tryd.prog G 28 (bF.f G k)
 | 0 => bD bF.here (fun _ _ => rfl)
 | k + 1 => bI (l := bF.env G k (bF.f G k)) (ann := bF.ann) (n := k) (aY hG (bQ (cK.sound hG k) (bQ (cT.sound hG k) (bQ (bG.sound hG k) (bQ (bM.sound hG k) (bQ (bV.sound hG k) (bQ (cU.sound hG k) dU))))))) orders Tryd.func28 (by kernel_rfl) (by kernel_rfl) rfl (by kernel_rfl) (gT fun x0 h => bF.eq G k _ x0 h)
theorem bO.here : HrP Tryd.prog 64 := ⟨_, Tryd.func64, by kernel_rfl, by kernel_rfl⟩
theorem bO.eq (G : aF) (k : Nat) (self : cC) (x0 x1 : AV) (h : aB) : fB Tryd.prog G (fK (bO.env G k self)) bO.ann Tryd.f64.results.toList (dI Tryd.f64) Tryd.f64.ntmps k [x0, x1] h = bO.c G k self x0 x1 h := by kernel_rfl
theorem bO.sound {G : aF} (hG : ∀ g x, G g = some x → bR x = true) : ∀ k, Sound Tryd.prog G 64 (bO.f G k)
 | 0 => bD bO.here (fun _ _ => rfl)
 | k + 1 => bI (l := bO.env G k (bO.f G k)) (ann := bO.ann) (n := k) (aY hG dU) orders Tryd.func64 (by kernel_rfl) (by kernel_rfl) rfl (by kernel_rfl) (gM fun x0 x1 h => bO.eq G k _ x0 x1 h)
theorem cQ.here : HrP Tryd.prog 108 := ⟨_, Tryd.func108, by kernel_rfl, by kernel_rfl⟩
theorem cQ.eq (G : aF) (k : Nat) (self : cC) (h : aB) : fB Tryd.prog G (fK (cQ.env G k self)) cQ.ann Tryd.f108.results.toList (dI Tryd.f108) Tryd.f108.ntmps k [] h = cQ.c G k self h := by kernel_rfl
theorem cQ.sound {G : aF} (hG : ∀ g x, G g = some x → bR x = true) : ∀ k, Sound Tryd.prog G 108 (cQ.f G k)
 | 0 => bD cQ.here (fun _ _ => rfl)
 | k + 1 => bI (l := cQ.env G k (cQ.f G k)) (ann := cQ.ann) (n := k) (aY hG dU) orders Tryd.func108 (by kernel_rfl) (by kernel_rfl) rfl (by kernel_rfl) (aAr fun h => cQ.eq G k _ h)
theorem eD.here : HrP Tryd.prog 109 := ⟨_, Tryd.func109, by kernel_rfl, by kernel_rfl⟩
theorem eD.eq (G : aF) (k : Nat) (self : cC) (x0 x1 : AV) (h : aB) : fB Tryd.prog G (fK (eD.env G k self)) eD.ann Tryd.f109.results.toList (dI Tryd.f109) Tryd.f109.ntmps k [x0, x1] h = eD.c G k self x0 x1 h := by kernel_rfl
theorem eD.sound {G : aF} (hG : ∀ g x, G g = some x → bR x = true) : ∀ k, Sound Tryd.prog G 109 (eD.f G k)
 | 0 => bD eD.here (fun _ _ => rfl)
 | k + 1 => bI (l := eD.env G k (eD.f G k)) (ann := eD.ann) (n := k) (aY hG dU) orders Tryd.func109 (by kernel_rfl) (by kernel_rfl) rfl (by kernel_rfl) (gM fun x0 x1 h => eD.eq G k _ x0 x1 h)
theorem cH.here : HrP Tryd.prog 91 := ⟨_, Tryd.func91, by kernel_rfl, by kernel_rfl⟩
theorem cH.eq (G : aF) (k : Nat) (self : cC) (x0 : AV) (h : aB) : fB Tryd.prog G (fK (cH.env G k self)) cH.ann Tryd.f91.results.toList (dI Tryd.f91) Tryd.f91.ntmps k [x0] h = cH.c G k self x0 h := by kernel_rfl
theorem cH.sound {G : aF} (hG : ∀ g x, G g = some x → bR x = true) : ∀ k, Sound Tryd.prog G 91 (cH.f G k)
 | 0 => bD cH.here (fun _ _ => rfl)
 | k + 1 => bI (l := cH.env G k (cH.f G k)) (ann := cH.ann) (n := k) (aY hG (bQ (cQ.sound hG k) (bQ (eD.sound hG k) dU))) orders Tryd.func91 (by kernel_rfl) (by kernel_rfl) rfl (by kernel_rfl) (gT fun x0 h => cH.eq G k _ x0 h)
theorem dA.here : HrP Tryd.prog 65 := ⟨_, Tryd.func65, by kernel_rfl, by kernel_rfl⟩
theorem dA.eq (G : aF) (k : Nat) (self : cC) (x0 : AV) (h : aB) : fB Tryd.prog G (fK (dA.env G k self)) dA.ann Tryd.f65.results.toList (dI Tryd.f65) Tryd.f65.ntmps k [x0] h = dA.c G k self x0 h := by kernel_rfl
theorem dA.sound {G : aF} (hG : ∀ g x, G g = some x → bR x = true) : ∀ k, Sound Tryd.prog G 65 (dA.f G k)
 | 0 => bD dA.here (fun _ _ => rfl)
 | k + 1 => bI (l := dA.env G k (dA.f G k)) (ann := dA.ann) (n := k) (aY hG (bQ (cK.sound hG k) (bQ (bV.sound hG k) (bQ (cU.sound hG k) (bQ (cH.sound hG k) dU))))) orders Tryd.func65 (by kernel_rfl) (by kernel_rfl) rfl (by kernel_rfl) (gT fun x0 h => dA.eq G k _ x0 h)
theorem cW.here : HrP Tryd.prog 32 := ⟨_, Tryd.func32, by kernel_rfl, by kernel_rfl⟩
theorem cW.eq (G : aF) (k : Nat) (self : cC) (x0 x1 : AV) (h : aB) : fB Tryd.prog G (fK (cW.env G k self)) cW.ann Tryd.f32.results.toList (dI Tryd.f32) Tryd.f32.ntmps k [x0, x1] h = cW.c G k self x0 x1 h := by kernel_rfl
theorem cW.sound {G : aF} (hG : ∀ g x, G g = some x → bR x = true) : ∀ k, Sound Tryd.prog G 32 (cW.f G k)
 | 0 => bD cW.here (fun _ _ => rfl)
 | k + 1 => bI (l := cW.env G k (cW.f G k)) (ann := cW.ann) (n := k) (aY hG (bQ (bO.sound hG k) (bQ (dA.sound hG k) dU))) orders Tryd.func32 (by kernel_rfl) (by kernel_rfl) rfl (by kernel_rfl) (gM fun x0 x1 h => cW.eq G k _ x0 x1 h)
theorem bZ.here : HrP Tryd.prog 41 := ⟨_, Tryd.func41, by kernel_rfl, by kernel_rfl⟩
theorem bZ.eq (G : aF) (k : Nat) (self : cC) (x0 x1 : AV) (h : aB) : fB Tryd.prog G (fK (bZ.env G k self)) bZ.ann Tryd.f41.results.toList (dI Tryd.f41) Tryd.f41.ntmps k [x0, x1] h = bZ.c G k self x0 x1 h := by kernel_rfl
theorem bZ.sound {G : aF} (hG : ∀ g x, G g = some x → bR x = true) : ∀ k, Sound Tryd.prog G 41 (bZ.f G k)
 | 0 => bD bZ.here (fun _ _ => rfl)
 | k + 1 => bI (l := bZ.env G k (bZ.f G k)) (ann := bZ.ann) (n := k) (aY hG dU) orders Tryd.func41 (by kernel_rfl) (by kernel_rfl) rfl (by kernel_rfl) (gM fun x0 x1 h => bZ.eq G k _ x0 x1 h)
theorem alembiclaw21_AllocMeans.here : HrP Tryd.prog 8 := ⟨_, Tryd.func8, by kernel_rfl, by kernel_rfl⟩
theorem alembiclaw21_AllocMeans.eq (G : aF) (k : Nat) (self : cC) (x0 x1 x2 : AV) (h : aB) : fB Tryd.prog G (fK (alembiclaw21_AllocMeans.env G k self)) alembiclaw21_AllocMeans.ann Tryd.f8.results.toList (dI Tryd.f8) Tryd.f8.ntmps k [x0, x1, x2] h = alembiclaw21_AllocMeans.c G k self x0 x1 x2 h := by kernel_rfl
theorem alembiclaw21_AllocMeans.sound {G : aF} (hG : ∀ g x, G g = some x → bR x = true) : ∀ k, Sound Tryd.prog G 8 (alembiclaw21_AllocMeans.f G k)
 | 0 => bD alembiclaw21_AllocMeans.here (fun _ _ => rfl)
 | k + 1 => bI (l := alembiclaw21_AllocMeans.env G k (alembiclaw21_AllocMeans.f G k)) (ann := alembiclaw21_AllocMeans.ann) (n := k) (aY hG (bQ (cZ.sound hG k) (bQ (bX.sound hG k) (bQ (bK.sound hG k) (bQ (bS.sound hG k) (bQ (bY.sound hG k) (bQ (aZ.sound hG k) (bQ (bF.sound hG k) (bQ (cW.sound hG k) (bQ (bZ.sound hG k) (bQ (cK.sound hG k) (bQ (cI.sound hG k) dU)))))))))))) orders Tryd.func8 (by kernel_rfl) (by kernel_rfl) rfl (by kernel_rfl) (kX fun x0 x1 x2 h => alembiclaw21_AllocMeans.eq G k _ x0 x1 x2 h)
end Go.Proofs.YtlkgkfgkiidhdaaDoor.Mir
