/- Part 6 of the proof: the functions that the statement reaches, and their contracts. -/
import Derived.Test.YtlkgkfgkiidhdaaDoorVi5
import Derived.Test.YtlkgkfgkiidhdaaDoorProg
import Derived.KernelRfl
namespace Go.Proofs.YtlkgkfgkiidhdaaDoor.Mir
open Go
set_option linter.unusedVariables false
theorem orders : Tryd.prog.follows .mixedOrders = true := by kernel_rfl
theorem fG.here : HrP Tryd.prog 86 := ⟨_, Tryd.func86, by kernel_rfl, by kernel_rfl⟩
theorem fG.eq (G : aF) (k : Nat) (self : cE) (x0 : AV) (h : aB) : eZ Tryd.prog G (fL (fG.env G k self)) fG.ann Tryd.f86.results.toList (dG Tryd.f86) Tryd.f86.ntmps k [x0] h = fG.c G k self x0 h := by kernel_rfl
theorem fG.sound {G : aF} (hG : ∀ g x, G g = some x → bV x = true) : ∀ k, Sound Tryd.prog G 86 (fG.f G k)
 | 0 => bJ fG.here (fun _ _ => rfl)
 | k + 1 => bO (l := fG.env G k (fG.f G k)) (ann := fG.ann) (n := k) (bA hG dZ) orders Tryd.func86 (by kernel_rfl) (by kernel_rfl) rfl (by kernel_rfl) (gU fun x0 h => fG.eq G k _ x0 h)
theorem dY.here : HrP Tryd.prog 51 := ⟨_, Tryd.func51, by kernel_rfl, by kernel_rfl⟩
theorem dY.eq (G : aF) (k : Nat) (self : cE) (x0 : AV) (h : aB) : eZ Tryd.prog G (fL (dY.env G k self)) dY.ann Tryd.f51.results.toList (dG Tryd.f51) Tryd.f51.ntmps k [x0] h = dY.c G k self x0 h := by kernel_rfl
theorem dY.sound {G : aF} (hG : ∀ g x, G g = some x → bV x = true) : ∀ k, Sound Tryd.prog G 51 (dY.f G k)
 | 0 => bJ dY.here (fun _ _ => rfl)
 | k + 1 => bO (l := dY.env G k (dY.f G k)) (ann := dY.ann) (n := k) (bA hG (bZ (fG.sound hG k) dZ)) orders Tryd.func51 (by kernel_rfl) (by kernel_rfl) rfl (by kernel_rfl) (gU fun x0 h => dY.eq G k _ x0 h)
theorem fX.here : HrP Tryd.prog 95 := ⟨_, Tryd.func95, by kernel_rfl, by kernel_rfl⟩
theorem fX.eq (G : aF) (k : Nat) (self : cE) (x0 x1 : AV) (h : aB) : eZ Tryd.prog G (fL (fX.env G k self)) fX.ann Tryd.f95.results.toList (dG Tryd.f95) Tryd.f95.ntmps k [x0, x1] h = fX.c G k self x0 x1 h := by kernel_rfl
theorem fX.sound {G : aF} (hG : ∀ g x, G g = some x → bV x = true) : ∀ k, Sound Tryd.prog G 95 (fX.f G k)
 | 0 => bJ fX.here (fun _ _ => rfl)
 | k + 1 => bO (l := fX.env G k (fX.f G k)) (ann := fX.ann) (n := k) (bA hG dZ) orders Tryd.func95 (by kernel_rfl) (by kernel_rfl) rfl (by kernel_rfl) (gH fun x0 x1 h => fX.eq G k _ x0 x1 h)
theorem cZ.here : HrP Tryd.prog 72 := ⟨_, Tryd.func72, by kernel_rfl, by kernel_rfl⟩
theorem cZ.eq (G : aF) (k : Nat) (self : cE) (x0 x1 : AV) (h : aB) : eZ Tryd.prog G (fL (cZ.env G k self)) cZ.ann Tryd.f72.results.toList (dG Tryd.f72) Tryd.f72.ntmps k [x0, x1] h = cZ.c G k self x0 x1 h := by kernel_rfl
theorem cZ.sound {G : aF} (hG : ∀ g x, G g = some x → bV x = true) : ∀ k, Sound Tryd.prog G 72 (cZ.f G k)
 | 0 => bJ cZ.here (fun _ _ => rfl)
 | k + 1 => bO (l := cZ.env G k (cZ.f G k)) (ann := cZ.ann) (n := k) (bA hG (bZ (dY.sound hG k) (bZ (fX.sound hG k) dZ))) orders Tryd.func72 (by kernel_rfl) (by kernel_rfl) rfl (by kernel_rfl) (gH fun x0 x1 h => cZ.eq G k _ x0 x1 h)
theorem cX.here : HrP Tryd.prog 43 := ⟨_, Tryd.func43, by kernel_rfl, by kernel_rfl⟩
theorem cX.eq (G : aF) (k : Nat) (self : cE) (x0 : AV) (h : aB) : eZ Tryd.prog G (fL (cX.env G k self)) cX.ann Tryd.f43.results.toList (dG Tryd.f43) Tryd.f43.ntmps k [x0] h = cX.c G k self x0 h := by kernel_rfl
theorem cX.sound {G : aF} (hG : ∀ g x, G g = some x → bV x = true) : ∀ k, Sound Tryd.prog G 43 (cX.f G k)
 | 0 => bJ cX.here (fun _ _ => rfl)
 | k + 1 => bO (l := cX.env G k (cX.f G k)) (ann := cX.ann) (n := k) (bA hG (bZ (cZ.sound hG k) dZ)) orders Tryd.func43 (by kernel_rfl) (by kernel_rfl) rfl (by kernel_rfl) (gU fun x0 h => cX.eq G k _ x0 h)
theorem aP.here : HrP Tryd.prog 44 := ⟨_, Tryd.func44, by kernel_rfl, by kernel_rfl⟩
theorem aP.eq (G : aF) (k : Nat) (self : cE) (x0 : AV) (h : aB) : qU Tryd.prog G (fL (aP.env G k self)) aP.ann Tryd.f44.results.toList (dG Tryd.f44) Tryd.f44.ntmps k [x0] h = aP.c G k self x0 h := by kernel_rfl
theorem aP.sound {G : aF} (hG : ∀ g x, G g = some x → bV x = true) : ∀ k, Sound Tryd.prog G 44 (aP.f G k)
 | 0 => bJ aP.here (fun _ _ => rfl)
 | k + 1 => mZ (l := aP.env G k (aP.f G k)) (ann := aP.ann) (n := k) (bA hG dZ) orders Tryd.func44 (by kernel_rfl) (by kernel_rfl) rfl (by kernel_rfl) (gU fun x0 h => aP.eq G k _ x0 h)
theorem eF.here : HrP Tryd.prog 20 := ⟨_, Tryd.func20, by kernel_rfl, by kernel_rfl⟩
theorem eF.eq (G : aF) (k : Nat) (self : cE) (x0 : AV) (h : aB) : eZ Tryd.prog G (fL (eF.env G k self)) eF.ann Tryd.f20.results.toList (dG Tryd.f20) Tryd.f20.ntmps k [x0] h = eF.c G k self x0 h := by kernel_rfl
theorem eF.sound {G : aF} (hG : ∀ g x, G g = some x → bV x = true) : ∀ k, Sound Tryd.prog G 20 (eF.f G k)
 | 0 => bJ eF.here (fun _ _ => rfl)
 | k + 1 => bO (l := eF.env G k (eF.f G k)) (ann := eF.ann) (n := k) (bA hG (bZ (dY.sound hG k) dZ)) orders Tryd.func20 (by kernel_rfl) (by kernel_rfl) rfl (by kernel_rfl) (gU fun x0 h => eF.eq G k _ x0 h)
theorem cT.here : HrP Tryd.prog 120 := ⟨_, Tryd.func120, by kernel_rfl, by kernel_rfl⟩
theorem cT.eq (G : aF) (k : Nat) (self : cE) (x0 : AV) (h : aB) : eZ Tryd.prog G (fL (cT.env G k self)) cT.ann Tryd.f120.results.toList (dG Tryd.f120) Tryd.f120.ntmps k [x0] h = cT.c G k self x0 h := by kernel_rfl
theorem cT.sound {G : aF} (hG : ∀ g x, G g = some x → bV x = true) : ∀ k, Sound Tryd.prog G 120 (cT.f G k)
 | 0 => bJ cT.here (fun _ _ => rfl)
 | k + 1 => bO (l := cT.env G k (cT.f G k)) (ann := cT.ann) (n := k) (bA hG dZ) orders Tryd.func120 (by kernel_rfl) (by kernel_rfl) rfl (by kernel_rfl) (gU fun x0 h => cT.eq G k _ x0 h)
theorem dA.here : HrP Tryd.prog 103 := ⟨_, Tryd.func103, by kernel_rfl, by kernel_rfl⟩
theorem dA.eq (G : aF) (k : Nat) (self : cE) (x0 x1 : AV) (h : aB) : eZ Tryd.prog G (fL (dA.env G k self)) dA.ann Tryd.f103.results.toList (dG Tryd.f103) Tryd.f103.ntmps k [x0, x1] h = dA.c G k self x0 x1 h := by kernel_rfl
theorem dA.sound {G : aF} (hG : ∀ g x, G g = some x → bV x = true) : ∀ k, Sound Tryd.prog G 103 (dA.f G k)
 | 0 => bJ dA.here (fun _ _ => rfl)
 | k + 1 => bO (l := dA.env G k (dA.f G k)) (ann := dA.ann) (n := k) (bA hG (bZ (cT.sound hG k) dZ)) orders Tryd.func103 (by kernel_rfl) (by kernel_rfl) rfl (by kernel_rfl) (gH fun x0 x1 h => dA.eq G k _ x0 x1 h)
theorem aJ.here : HrP Tryd.prog 97 := ⟨_, Tryd.func97, by kernel_rfl, by kernel_rfl⟩
theorem aJ.eq (G : aF) (k : Nat) (self : cE) (x0 x1 x2 : AV) (h : aB) : eZ Tryd.prog G (fL (aJ.env G k self)) aJ.ann Tryd.f97.results.toList (dG Tryd.f97) Tryd.f97.ntmps k [x0, x1, x2] h = aJ.c G k self x0 x1 x2 h := by kernel_rfl
theorem aJ.sound {G : aF} (hG : ∀ g x, G g = some x → bV x = true) : ∀ k, Sound Tryd.prog G 97 (aJ.f G k)
 | 0 => bJ aJ.here (fun _ _ => rfl)
 | k + 1 => bO (l := aJ.env G k (aJ.f G k)) (ann := aJ.ann) (n := k) (bA hG (bZ (dA.sound hG k) dZ)) orders Tryd.func97 (by kernel_rfl) (by kernel_rfl) rfl (by kernel_rfl) (lU fun x0 x1 x2 h => aJ.eq G k _ x0 x1 x2 h)
theorem aU.here : HrP Tryd.prog 87 := ⟨_, Tryd.func87, by kernel_rfl, by kernel_rfl⟩
theorem aU.eq (G : aF) (k : Nat) (self : cE) (x0 x1 x2 x3 : AV) (h : aB) : eZ Tryd.prog G (fL (aU.env G k self)) aU.ann Tryd.f87.results.toList (dG Tryd.f87) Tryd.f87.ntmps k [x0, x1, x2, x3] h = aU.c G k self x0 x1 x2 x3 h := by kernel_rfl
theorem aU.sound {G : aF} (hG : ∀ g x, G g = some x → bV x = true) : ∀ k, Sound Tryd.prog G 87 (aU.f G k)
 | 0 => bJ aU.here (fun _ _ => rfl)
 | k + 1 => bO (l := aU.env G k (aU.f G k)) (ann := aU.ann) (n := k) (bA hG (bZ (aU.sound hG k) (bZ (aJ.sound hG k) (bZ (dA.sound hG k) dZ)))) orders Tryd.func87 (by kernel_rfl) (by kernel_rfl) rfl (by kernel_rfl) (nU fun x0 x1 x2 x3 h => aU.eq G k _ x0 x1 x2 x3 h)
theorem dO.here : HrP Tryd.prog 106 := ⟨_, Tryd.func106, by kernel_rfl, by kernel_rfl⟩
theorem dO.eq (G : aF) (k : Nat) (self : cE) (x0 : AV) (h : aB) : eZ Tryd.prog G (fL (dO.env G k self)) dO.ann Tryd.f106.results.toList (dG Tryd.f106) Tryd.f106.ntmps k [x0] h = dO.c G k self x0 h := by kernel_rfl
theorem dO.sound {G : aF} (hG : ∀ g x, G g = some x → bV x = true) : ∀ k, Sound Tryd.prog G 106 (dO.f G k)
 | 0 => bJ dO.here (fun _ _ => rfl)
 | k + 1 => bO (l := dO.env G k (dO.f G k)) (ann := dO.ann) (n := k) (bA hG dZ) orders Tryd.func106 (by kernel_rfl) (by kernel_rfl) rfl (by kernel_rfl) (gU fun x0 h => dO.eq G k _ x0 h)
theorem dP.here : HrP Tryd.prog 107 := ⟨_, Tryd.func107, by kernel_rfl, by kernel_rfl⟩
theorem dP.eq (G : aF) (k : Nat) (self : cE) (x0 : AV) (h : aB) : eZ Tryd.prog G (fL (dP.env G k self)) dP.ann Tryd.f107.results.toList (dG Tryd.f107) Tryd.f107.ntmps k [x0] h = dP.c G k self x0 h := by kernel_rfl
theorem dP.sound {G : aF} (hG : ∀ g x, G g = some x → bV x = true) : ∀ k, Sound Tryd.prog G 107 (dP.f G k)
 | 0 => bJ dP.here (fun _ _ => rfl)
 | k + 1 => bO (l := dP.env G k (dP.f G k)) (ann := dP.ann) (n := k) (bA hG dZ) orders Tryd.func107 (by kernel_rfl) (by kernel_rfl) rfl (by kernel_rfl) (gU fun x0 h => dP.eq G k _ x0 h)
theorem dQ.here : HrP Tryd.prog 88 := ⟨_, Tryd.func88, by kernel_rfl, by kernel_rfl⟩
theorem dQ.eq (G : aF) (k : Nat) (self : cE) (x0 : AV) (h : aB) : eZ Tryd.prog G (fL (dQ.env G k self)) dQ.ann Tryd.f88.results.toList (dG Tryd.f88) Tryd.f88.ntmps k [x0] h = dQ.c G k self x0 h := by kernel_rfl
theorem dQ.sound {G : aF} (hG : ∀ g x, G g = some x → bV x = true) : ∀ k, Sound Tryd.prog G 88 (dQ.f G k)
 | 0 => bJ dQ.here (fun _ _ => rfl)
 | k + 1 => bO (l := dQ.env G k (dQ.f G k)) (ann := dQ.ann) (n := k) (bA hG (bZ (dO.sound hG k) (bZ (dP.sound hG k) dZ))) orders Tryd.func88 (by kernel_rfl) (by kernel_rfl) rfl (by kernel_rfl) (gU fun x0 h => dQ.eq G k _ x0 h)
theorem bK.here : HrP Tryd.prog 53 := ⟨_, Tryd.func53, by kernel_rfl, by kernel_rfl⟩
theorem bK.eq (G : aF) (k : Nat) (self : cE) (x0 : AV) (h : aB) : eZ Tryd.prog G (fL (bK.env G k self)) bK.ann Tryd.f53.results.toList (dG Tryd.f53) Tryd.f53.ntmps k [x0] h = bK.c G k self x0 h := by kernel_rfl
theorem bK.sound {G : aF} (hG : ∀ g x, G g = some x → bV x = true) : ∀ k, Sound Tryd.prog G 53 (bK.f G k)
 | 0 => bJ bK.here (fun _ _ => rfl)
 | k + 1 => bO (l := bK.env G k (bK.f G k)) (ann := bK.ann) (n := k) (bA hG (bZ (aU.sound hG k) (bZ (dQ.sound hG k) dZ))) orders Tryd.func53 (by kernel_rfl) (by kernel_rfl) rfl (by kernel_rfl) (gU fun x0 h => bK.eq G k _ x0 h)
theorem aI.here : HrP Tryd.prog 54 := ⟨_, Tryd.func54, by kernel_rfl, by kernel_rfl⟩
theorem aI.eq (G : aF) (k : Nat) (self : cE) (x0 : AV) (h : aB) : eZ Tryd.prog G (fL (aI.env G k self)) aI.ann Tryd.f54.results.toList (dG Tryd.f54) Tryd.f54.ntmps k [x0] h = aI.c G k self x0 h := by kernel_rfl
theorem aI.sound {G : aF} (hG : ∀ g x, G g = some x → bV x = true) : ∀ k, Sound Tryd.prog G 54 (aI.f G k)
 | 0 => bJ aI.here (fun _ _ => rfl)
 | k + 1 => bO (l := aI.env G k (aI.f G k)) (ann := aI.ann) (n := k) (bA hG dZ) orders Tryd.func54 (by kernel_rfl) (by kernel_rfl) rfl (by kernel_rfl) (gU fun x0 h => aI.eq G k _ x0 h)
theorem cW.here : HrP Tryd.prog 23 := ⟨_, Tryd.func23, by kernel_rfl, by kernel_rfl⟩
theorem cW.eq (G : aF) (k : Nat) (self : cE) (x0 : AV) (h : aB) : eZ Tryd.prog G (fL (cW.env G k self)) cW.ann Tryd.f23.results.toList (dG Tryd.f23) Tryd.f23.ntmps k [x0] h = cW.c G k self x0 h := by kernel_rfl
theorem cW.sound {G : aF} (hG : ∀ g x, G g = some x → bV x = true) : ∀ k, Sound Tryd.prog G 23 (cW.f G k)
 | 0 => bJ cW.here (fun _ _ => rfl)
 | k + 1 => bO (l := cW.env G k (cW.f G k)) (ann := cW.ann) (n := k) (bA hG (bZ (dY.sound hG k) (bZ (bK.sound hG k) (bZ (aI.sound hG k) dZ)))) orders Tryd.func23 (by kernel_rfl) (by kernel_rfl) rfl (by kernel_rfl) (gU fun x0 h => cW.eq G k _ x0 h)
theorem bN.here : HrP Tryd.prog 74 := ⟨_, Tryd.func74, by kernel_rfl, by kernel_rfl⟩
theorem bN.eq (G : aF) (k : Nat) (self : cE) (x0 x1 x2 : AV) (h : aB) : eZ Tryd.prog G (fL (bN.env G k self)) bN.ann Tryd.f74.results.toList (dG Tryd.f74) Tryd.f74.ntmps k [x0, x1, x2] h = bN.c G k self x0 x1 x2 h := by kernel_rfl
theorem bN.sound {G : aF} (hG : ∀ g x, G g = some x → bV x = true) : ∀ k, Sound Tryd.prog G 74 (bN.f G k)
 | 0 => bJ bN.here (fun _ _ => rfl)
 | k + 1 => bO (l := bN.env G k (bN.f G k)) (ann := bN.ann) (n := k) (bA hG dZ) orders Tryd.func74 (by kernel_rfl) (by kernel_rfl) rfl (by kernel_rfl) (lU fun x0 x1 x2 h => bN.eq G k _ x0 x1 x2 h)
theorem aH.here : HrP Tryd.prog 113 := ⟨_, Tryd.func113, by kernel_rfl, by kernel_rfl⟩
theorem aH.eq (G : aF) (k : Nat) (self : cE) (x0 x1 x2 x3 : AV) (h : aB) : eZ Tryd.prog G (fL (aH.env G k self)) aH.ann Tryd.f113.results.toList (dG Tryd.f113) Tryd.f113.ntmps k [x0, x1, x2, x3] h = aH.c G k self x0 x1 x2 x3 h := by kernel_rfl
theorem aH.sound {G : aF} (hG : ∀ g x, G g = some x → bV x = true) : ∀ k, Sound Tryd.prog G 113 (aH.f G k)
 | 0 => bJ aH.here (fun _ _ => rfl)
 | k + 1 => bO (l := aH.env G k (aH.f G k)) (ann := aH.ann) (n := k) (bA hG (bZ (bN.sound hG k) dZ)) orders Tryd.func113 (by kernel_rfl) (by kernel_rfl) rfl (by kernel_rfl) (nU fun x0 x1 x2 x3 h => aH.eq G k _ x0 x1 x2 x3 h)
theorem aN.here : HrP Tryd.prog 125 := ⟨_, Tryd.func125, by kernel_rfl, by kernel_rfl⟩
theorem aN.eq (G : aF) (k : Nat) (self : cE) (x0 x1 x2 x3 x4 : AV) (h : aB) : eZ Tryd.prog G (fL (aN.env G k self)) aN.ann Tryd.f125.results.toList (dG Tryd.f125) Tryd.f125.ntmps k [x0, x1, x2, x3, x4] h = aN.c G k self x0 x1 x2 x3 x4 h := by kernel_rfl
theorem aN.sound {G : aF} (hG : ∀ g x, G g = some x → bV x = true) : ∀ k, Sound Tryd.prog G 125 (aN.f G k)
 | 0 => bJ aN.here (fun _ _ => rfl)
 | k + 1 => bO (l := aN.env G k (aN.f G k)) (ann := aN.ann) (n := k) (bA hG dZ) orders Tryd.func125 (by kernel_rfl) (by kernel_rfl) rfl (by kernel_rfl) (aAn fun x0 x1 x2 x3 x4 h => aN.eq G k _ x0 x1 x2 x3 x4 h)
theorem aT.here : HrP Tryd.prog 123 := ⟨_, Tryd.func123, by kernel_rfl, by kernel_rfl⟩
theorem aT.eq (G : aF) (k : Nat) (self : cE) (x0 x1 x2 x3 x4 : AV) (h : aB) : eZ Tryd.prog G (fL (aT.env G k self)) aT.ann Tryd.f123.results.toList (dG Tryd.f123) Tryd.f123.ntmps k [x0, x1, x2, x3, x4] h = aT.c G k self x0 x1 x2 x3 x4 h := by kernel_rfl
theorem aT.sound {G : aF} (hG : ∀ g x, G g = some x → bV x = true) : ∀ k, Sound Tryd.prog G 123 (aT.f G k)
 | 0 => bJ aT.here (fun _ _ => rfl)
 | k + 1 => bO (l := aT.env G k (aT.f G k)) (ann := aT.ann) (n := k) (bA hG (bZ (aN.sound hG k) dZ)) orders Tryd.func123 (by kernel_rfl) (by kernel_rfl) rfl (by kernel_rfl) (aAn fun x0 x1 x2 x3 x4 h => aT.eq G k _ x0 x1 x2 x3 x4 h)
theorem aD.here : HrP Tryd.prog 114 := ⟨_, Tryd.func114, by kernel_rfl, by kernel_rfl⟩
theorem aD.eq (G : aF) (k : Nat) (self : cE) (x0 x1 x2 x3 x4 : AV) (h : aB) : eZ Tryd.prog G (fL (aD.env G k self)) aD.ann Tryd.f114.results.toList (dG Tryd.f114) Tryd.f114.ntmps k [x0, x1, x2, x3, x4] h = aD.c G k self x0 x1 x2 x3 x4 h := by kernel_rfl
theorem aD.sound {G : aF} (hG : ∀ g x, G g = some x → bV x = true) : ∀ k, Sound Tryd.prog G 114 (aD.f G k)
 | 0 => bJ aD.here (fun _ _ => rfl)
 | k + 1 => bO (l := aD.env G k (aD.f G k)) (ann := aD.ann) (n := k) (bA hG (bZ (bN.sound hG k) (bZ (aD.sound hG k) (bZ (aT.sound hG k) dZ)))) orders Tryd.func114 (by kernel_rfl) (by kernel_rfl) rfl (by kernel_rfl) (aAn fun x0 x1 x2 x3 x4 h => aD.eq G k _ x0 x1 x2 x3 x4 h)
theorem aK.here : HrP Tryd.prog 96 := ⟨_, Tryd.func96, by kernel_rfl, by kernel_rfl⟩
theorem aK.eq (G : aF) (k : Nat) (self : cE) (x0 x1 x2 : AV) (h : aB) : eZ Tryd.prog G (fL (aK.env G k self)) aK.ann Tryd.f96.results.toList (dG Tryd.f96) Tryd.f96.ntmps k [x0, x1, x2] h = aK.c G k self x0 x1 x2 h := by kernel_rfl
theorem aK.sound {G : aF} (hG : ∀ g x, G g = some x → bV x = true) : ∀ k, Sound Tryd.prog G 96 (aK.f G k)
 | 0 => bJ aK.here (fun _ _ => rfl)
 | k + 1 => bO (l := aK.env G k (aK.f G k)) (ann := aK.ann) (n := k) (bA hG (bZ (bN.sound hG k) (bZ (aH.sound hG k) (bZ (aD.sound hG k) dZ)))) orders Tryd.func96 (by kernel_rfl) (by kernel_rfl) rfl (by kernel_rfl) (lU fun x0 x1 x2 h => aK.eq G k _ x0 x1 x2 h)
theorem aQ.here : HrP Tryd.prog 73 := ⟨_, Tryd.func73, by kernel_rfl, by kernel_rfl⟩
theorem aQ.eq (G : aF) (k : Nat) (self : cE) (x0 x1 : AV) (h : aB) : eZ Tryd.prog G (fL (aQ.env G k self)) aQ.ann Tryd.f73.results.toList (dG Tryd.f73) Tryd.f73.ntmps k [x0, x1] h = aQ.c G k self x0 x1 h := by kernel_rfl
theorem aQ.sound {G : aF} (hG : ∀ g x, G g = some x → bV x = true) : ∀ k, Sound Tryd.prog G 73 (aQ.f G k)
 | 0 => bJ aQ.here (fun _ _ => rfl)
 | k + 1 => bO (l := aQ.env G k (aQ.f G k)) (ann := aQ.ann) (n := k) (bA hG (bZ (aK.sound hG k) dZ)) orders Tryd.func73 (by kernel_rfl) (by kernel_rfl) rfl (by kernel_rfl) (gH fun x0 x1 h => aQ.eq G k _ x0 x1 h)
theorem aS.here : HrP Tryd.prog 45 := ⟨_, Tryd.func45, by kernel_rfl, by kernel_rfl⟩
theorem aS.eq (G : aF) (k : Nat) (self : cE) (x0 x1 : AV) (h : aB) : qU Tryd.prog G (fL (aS.env G k self)) aS.ann Tryd.f45.results.toList (dG Tryd.f45) Tryd.f45.ntmps k [x0, x1] h = aS.c G k self x0 x1 h := by kernel_rfl
theorem aS.sound {G : aF} (hG : ∀ g x, G g = some x → bV x = true) : ∀ k, Sound Tryd.prog G 45 (aS.f G k)
 | 0 => bJ aS.here (fun _ _ => rfl)
 | k + 1 => mZ (l := aS.env G k (aS.f G k)) (ann := aS.ann) (n := k) (bA hG (bZ (eF.sound hG k) (bZ (cW.sound hG k) (bZ (aQ.sound hG k) (bZ (bN.sound hG k) dZ))))) orders Tryd.func45 (by kernel_rfl) (by kernel_rfl) rfl (by kernel_rfl) (gH fun x0 x1 h => aS.eq G k _ x0 x1 h)
theorem bI.here : HrP Tryd.prog 76 := ⟨_, Tryd.func76, by kernel_rfl, by kernel_rfl⟩
theorem bI.eq (G : aF) (k : Nat) (self : cE) (x0 x1 : AV) (h : aB) : eZ Tryd.prog G (fL (bI.env G k self)) bI.ann Tryd.f76.results.toList (dG Tryd.f76) Tryd.f76.ntmps k [x0, x1] h = bI.c G k self x0 x1 h := by kernel_rfl
theorem bI.sound {G : aF} (hG : ∀ g x, G g = some x → bV x = true) : ∀ k, Sound Tryd.prog G 76 (bI.f G k)
 | 0 => bJ bI.here (fun _ _ => rfl)
 | k + 1 => bO (l := bI.env G k (bI.f G k)) (ann := bI.ann) (n := k) (bA hG dZ) orders Tryd.func76 (by kernel_rfl) (by kernel_rfl) rfl (by kernel_rfl) (gH fun x0 x1 h => bI.eq G k _ x0 x1 h)
theorem bW.here : HrP Tryd.prog 79 := ⟨_, Tryd.func79, by kernel_rfl, by kernel_rfl⟩
theorem bW.eq (G : aF) (k : Nat) (self : cE) (x0 x1 x2 : AV) (h : aB) : eZ Tryd.prog G (fL (bW.env G k self)) bW.ann Tryd.f79.results.toList (dG Tryd.f79) Tryd.f79.ntmps k [x0, x1, x2] h = bW.c G k self x0 x1 x2 h := by kernel_rfl
theorem bW.sound {G : aF} (hG : ∀ g x, G g = some x → bV x = true) : ∀ k, Sound Tryd.prog G 79 (bW.f G k)
 | 0 => bJ bW.here (fun _ _ => rfl)
 | k + 1 => bO (l := bW.env G k (bW.f G k)) (ann := bW.ann) (n := k) (bA hG (bZ (bI.sound hG k) dZ)) orders Tryd.func79 (by kernel_rfl) (by kernel_rfl) rfl (by kernel_rfl) (lU fun x0 x1 x2 h => bW.eq G k _ x0 x1 x2 h)
theorem bT.here : HrP Tryd.prog 75 := ⟨_, Tryd.func75, by kernel_rfl, by kernel_rfl⟩
theorem bT.eq (G : aF) (k : Nat) (self : cE) (x0 x1 : AV) (h : aB) : eZ Tryd.prog G (fL (bT.env G k self)) bT.ann Tryd.f75.results.toList (dG Tryd.f75) Tryd.f75.ntmps k [x0, x1] h = bT.c G k self x0 x1 h := by kernel_rfl
theorem bT.sound {G : aF} (hG : ∀ g x, G g = some x → bV x = true) : ∀ k, Sound Tryd.prog G 75 (bT.f G k)
 | 0 => bJ bT.here (fun _ _ => rfl)
 | k + 1 => bO (l := bT.env G k (bT.f G k)) (ann := bT.ann) (n := k) (bA hG (bZ (bI.sound hG k) (bZ (bW.sound hG k) dZ))) orders Tryd.func75 (by kernel_rfl) (by kernel_rfl) rfl (by kernel_rfl) (gH fun x0 x1 h => bT.eq G k _ x0 x1 h)
theorem cD.here : HrP Tryd.prog 77 := ⟨_, Tryd.func77, by kernel_rfl, by kernel_rfl⟩
theorem cD.eq (G : aF) (k : Nat) (self : cE) (x0 x1 : AV) (h : aB) : eZ Tryd.prog G (fL (cD.env G k self)) cD.ann Tryd.f77.results.toList (dG Tryd.f77) Tryd.f77.ntmps k [x0, x1] h = cD.c G k self x0 x1 h := by kernel_rfl
theorem cD.sound {G : aF} (hG : ∀ g x, G g = some x → bV x = true) : ∀ k, Sound Tryd.prog G 77 (cD.f G k)
 | 0 => bJ cD.here (fun _ _ => rfl)
 | k + 1 => bO (l := cD.env G k (cD.f G k)) (ann := cD.ann) (n := k) (bA hG dZ) orders Tryd.func77 (by kernel_rfl) (by kernel_rfl) rfl (by kernel_rfl) (gH fun x0 x1 h => cD.eq G k _ x0 x1 h)
theorem bU.here : HrP Tryd.prog 78 := ⟨_, Tryd.func78, by kernel_rfl, by kernel_rfl⟩
theorem bU.eq (G : aF) (k : Nat) (self : cE) (x0 x1 : AV) (h : aB) : eZ Tryd.prog G (fL (bU.env G k self)) bU.ann Tryd.f78.results.toList (dG Tryd.f78) Tryd.f78.ntmps k [x0, x1] h = bU.c G k self x0 x1 h := by kernel_rfl
theorem bU.sound {G : aF} (hG : ∀ g x, G g = some x → bV x = true) : ∀ k, Sound Tryd.prog G 78 (bU.f G k)
 | 0 => bJ bU.here (fun _ _ => rfl)
 | k + 1 => bO (l := bU.env G k (bU.f G k)) (ann := bU.ann) (n := k) (bA hG (bZ (bI.sound hG k) dZ)) orders Tryd.func78 (by kernel_rfl) (by kernel_rfl) rfl (by kernel_rfl) (gH fun x0 x1 h => bU.eq G k _ x0 x1 h)
theorem aZ.here : HrP Tryd.prog 46 := ⟨_, Tryd.func46, by kernel_rfl, by kernel_rfl⟩
theorem aZ.eq (G : aF) (k : Nat) (self : cE) (x0 x1 : AV) (h : aB) : eZ Tryd.prog G (fL (aZ.env G k self)) aZ.ann Tryd.f46.results.toList (dG Tryd.f46) Tryd.f46.ntmps k [x0, x1] h = aZ.c G k self x0 x1 h := by kernel_rfl
theorem aZ.sound {G : aF} (hG : ∀ g x, G g = some x → bV x = true) : ∀ k, Sound Tryd.prog G 46 (aZ.f G k)
 | 0 => bJ aZ.here (fun _ _ => rfl)
 | k + 1 => bO (l := aZ.env G k (aZ.f G k)) (ann := aZ.ann) (n := k) (bA hG (bZ (dY.sound hG k) (bZ (bT.sound hG k) (bZ (bI.sound hG k) (bZ (cD.sound hG k) (bZ (bU.sound hG k) (bZ (bW.sound hG k) dZ))))))) orders Tryd.func46 (by kernel_rfl) (by kernel_rfl) rfl (by kernel_rfl) (gH fun x0 x1 h => aZ.eq G k _ x0 x1 h)
theorem cY.here : HrP Tryd.prog 80 := ⟨_, Tryd.func80, by kernel_rfl, by kernel_rfl⟩
theorem cY.eq (G : aF) (k : Nat) (self : cE) (x0 : AV) (h : aB) : eZ Tryd.prog G (fL (cY.env G k self)) cY.ann Tryd.f80.results.toList (dG Tryd.f80) Tryd.f80.ntmps k [x0] h = cY.c G k self x0 h := by kernel_rfl
theorem cY.sound {G : aF} (hG : ∀ g x, G g = some x → bV x = true) : ∀ k, Sound Tryd.prog G 80 (cY.f G k)
 | 0 => bJ cY.here (fun _ _ => rfl)
 | k + 1 => bO (l := cY.env G k (cY.f G k)) (ann := cY.ann) (n := k) (bA hG dZ) orders Tryd.func80 (by kernel_rfl) (by kernel_rfl) rfl (by kernel_rfl) (gU fun x0 h => cY.eq G k _ x0 h)
theorem bC.here : HrP Tryd.prog 47 := ⟨_, Tryd.func47, by kernel_rfl, by kernel_rfl⟩
theorem bC.eq (G : aF) (k : Nat) (self : cE) (x0 : AV) (h : aB) : eZ Tryd.prog G (fL (bC.env G k self)) bC.ann Tryd.f47.results.toList (dG Tryd.f47) Tryd.f47.ntmps k [x0] h = bC.c G k self x0 h := by kernel_rfl
theorem bC.sound {G : aF} (hG : ∀ g x, G g = some x → bV x = true) : ∀ k, Sound Tryd.prog G 47 (bC.f G k)
 | 0 => bJ bC.here (fun _ _ => rfl)
 | k + 1 => bO (l := bC.env G k (bC.f G k)) (ann := bC.ann) (n := k) (bA hG (bZ (cY.sound hG k) dZ)) orders Tryd.func47 (by kernel_rfl) (by kernel_rfl) rfl (by kernel_rfl) (gU fun x0 h => bC.eq G k _ x0 h)
theorem cF.here : HrP Tryd.prog 13 := ⟨_, Tryd.func13, by kernel_rfl, by kernel_rfl⟩
theorem cF.eq (G : aF) (k : Nat) (self : cE) (x0 x1 : AV) (h : aB) : eZ Tryd.prog G (fL (cF.env G k self)) cF.ann Tryd.f13.results.toList (dG Tryd.f13) Tryd.f13.ntmps k [x0, x1] h = cF.c G k self x0 x1 h := by kernel_rfl
theorem cF.sound {G : aF} (hG : ∀ g x, G g = some x → bV x = true) : ∀ k, Sound Tryd.prog G 13 (cF.f G k)
 | 0 => bJ cF.here (fun _ _ => rfl)
 | k + 1 => bO (l := cF.env G k (cF.f G k)) (ann := cF.ann) (n := k) (bA hG (bZ (cX.sound hG k) (bZ (aP.sound hG k) (bZ (aS.sound hG k) (bZ (aZ.sound hG k) (bZ (bC.sound hG k) dZ)))))) orders Tryd.func13 (by kernel_rfl) (by kernel_rfl) rfl (by kernel_rfl) (gH fun x0 x1 h => cF.eq G k _ x0 x1 h)
theorem fI.here : HrP Tryd.prog 69 := ⟨_, Tryd.func69, by kernel_rfl, by kernel_rfl⟩
theorem fI.eq (G : aF) (k : Nat) (self : cE) (x0 x1 x2 : AV) (h : aB) : eZ Tryd.prog G (fL (fI.env G k self)) fI.ann Tryd.f69.results.toList (dG Tryd.f69) Tryd.f69.ntmps k [x0, x1, x2] h = fI.c G k self x0 x1 x2 h := by kernel_rfl
theorem fI.sound {G : aF} (hG : ∀ g x, G g = some x → bV x = true) : ∀ k, Sound Tryd.prog G 69 (fI.f G k)
 | 0 => bJ fI.here (fun _ _ => rfl)
 | k + 1 => bO (l := fI.env G k (fI.f G k)) (ann := fI.ann) (n := k) (bA hG dZ) orders Tryd.func69 (by kernel_rfl) (by kernel_rfl) rfl (by kernel_rfl) (lU fun x0 x1 x2 h => fI.eq G k _ x0 x1 x2 h)
theorem bL.here : HrP Tryd.prog 92 := ⟨_, Tryd.func92, by kernel_rfl, by kernel_rfl⟩
theorem bL.eq (G : aF) (k : Nat) (self : cE) (x0 : AV) (h : aB) : qU Tryd.prog G (fL (bL.env G k self)) bL.ann Tryd.f92.results.toList (dG Tryd.f92) Tryd.f92.ntmps k [x0] h = bL.c G k self x0 h := by kernel_rfl
theorem bL.sound {G : aF} (hG : ∀ g x, G g = some x → bV x = true) : ∀ k, Sound Tryd.prog G 92 (bL.f G k)
 | 0 => bJ bL.here (fun _ _ => rfl)
 | k + 1 => mZ (l := bL.env G k (bL.f G k)) (ann := bL.ann) (n := k) (bA hG dZ) orders Tryd.func92 (by kernel_rfl) (by kernel_rfl) rfl (by kernel_rfl) (gU fun x0 h => bL.eq G k _ x0 h)
theorem dE.here : HrP Tryd.prog 93 := ⟨_, Tryd.func93, by kernel_rfl, by kernel_rfl⟩
theorem dE.eq (G : aF) (k : Nat) (self : cE) (x0 x1 x2 : AV) (h : aB) : eZ Tryd.prog G (fL (dE.env G k self)) dE.ann Tryd.f93.results.toList (dG Tryd.f93) Tryd.f93.ntmps k [x0, x1, x2] h = dE.c G k self x0 x1 x2 h := by kernel_rfl
theorem dE.sound {G : aF} (hG : ∀ g x, G g = some x → bV x = true) : ∀ k, Sound Tryd.prog G 93 (dE.f G k)
 | 0 => bJ dE.here (fun _ _ => rfl)
 | k + 1 => bO (l := dE.env G k (dE.f G k)) (ann := dE.ann) (n := k) (bA hG dZ) orders Tryd.func93 (by kernel_rfl) (by kernel_rfl) rfl (by kernel_rfl) (lU fun x0 x1 x2 h => dE.eq G k _ x0 x1 x2 h)
theorem eE.here : HrP Tryd.prog 110 := ⟨_, Tryd.func110, by kernel_rfl, by kernel_rfl⟩
theorem eE.eq (G : aF) (k : Nat) (self : cE) (x0 x1 : AV) (h : aB) : eZ Tryd.prog G (fL (eE.env G k self)) eE.ann Tryd.f110.results.toList (dG Tryd.f110) Tryd.f110.ntmps k [x0, x1] h = eE.c G k self x0 x1 h := by kernel_rfl
theorem eE.sound {G : aF} (hG : ∀ g x, G g = some x → bV x = true) : ∀ k, Sound Tryd.prog G 110 (eE.f G k)
 | 0 => bJ eE.here (fun _ _ => rfl)
 | k + 1 => bO (l := eE.env G k (eE.f G k)) (ann := eE.ann) (n := k) (bA hG (bZ (dE.sound hG k) dZ)) orders Tryd.func110 (by kernel_rfl) (by kernel_rfl) rfl (by kernel_rfl) (gH fun x0 x1 h => eE.eq G k _ x0 x1 h)
theorem fT.here : HrP Tryd.prog 121 := ⟨_, Tryd.func121, by kernel_rfl, by kernel_rfl⟩
theorem fT.eq (G : aF) (k : Nat) (self : cE) (x0 : AV) (h : aB) : eZ Tryd.prog G (fL (fT.env G k self)) fT.ann Tryd.f121.results.toList (dG Tryd.f121) Tryd.f121.ntmps k [x0] h = fT.c G k self x0 h := by kernel_rfl
theorem fT.sound {G : aF} (hG : ∀ g x, G g = some x → bV x = true) : ∀ k, Sound Tryd.prog G 121 (fT.f G k)
 | 0 => bJ fT.here (fun _ _ => rfl)
 | k + 1 => bO (l := fT.env G k (fT.f G k)) (ann := fT.ann) (n := k) (bA hG dZ) orders Tryd.func121 (by kernel_rfl) (by kernel_rfl) rfl (by kernel_rfl) (gU fun x0 h => fT.eq G k _ x0 h)
theorem dW.here : HrP Tryd.prog 111 := ⟨_, Tryd.func111, by kernel_rfl, by kernel_rfl⟩
theorem dW.eq (G : aF) (k : Nat) (self : cE) (x0 x1 : AV) (h : aB) : eZ Tryd.prog G (fL (dW.env G k self)) dW.ann Tryd.f111.results.toList (dG Tryd.f111) Tryd.f111.ntmps k [x0, x1] h = dW.c G k self x0 x1 h := by kernel_rfl
theorem dW.sound {G : aF} (hG : ∀ g x, G g = some x → bV x = true) : ∀ k, Sound Tryd.prog G 111 (dW.f G k)
 | 0 => bJ dW.here (fun _ _ => rfl)
 | k + 1 => bO (l := dW.env G k (dW.f G k)) (ann := dW.ann) (n := k) (bA hG (bZ (dE.sound hG k) (bZ (fT.sound hG k) dZ))) orders Tryd.func111 (by kernel_rfl) (by kernel_rfl) rfl (by kernel_rfl) (gH fun x0 x1 h => dW.eq G k _ x0 x1 h)
theorem cA.here : HrP Tryd.prog 85 := ⟨_, Tryd.func85, by kernel_rfl, by kernel_rfl⟩
theorem cA.eq (G : aF) (k : Nat) (self : cE) (x0 x1 : AV) (h : aB) : eZ Tryd.prog G (fL (cA.env G k self)) cA.ann Tryd.f85.results.toList (dG Tryd.f85) Tryd.f85.ntmps k [x0, x1] h = cA.c G k self x0 x1 h := by kernel_rfl
theorem cA.sound {G : aF} (hG : ∀ g x, G g = some x → bV x = true) : ∀ k, Sound Tryd.prog G 85 (cA.f G k)
 | 0 => bJ cA.here (fun _ _ => rfl)
 | k + 1 => bO (l := cA.env G k (cA.f G k)) (ann := cA.ann) (n := k) (bA hG dZ) orders Tryd.func85 (by kernel_rfl) (by kernel_rfl) rfl (by kernel_rfl) (gH fun x0 x1 h => cA.eq G k _ x0 x1 h)
theorem eQ.here : HrP Tryd.prog 122 := ⟨_, Tryd.func122, by kernel_rfl, by kernel_rfl⟩
theorem eQ.eq (G : aF) (k : Nat) (self : cE) (x0 x1 : AV) (h : aB) : eZ Tryd.prog G (fL (eQ.env G k self)) eQ.ann Tryd.f122.results.toList (dG Tryd.f122) Tryd.f122.ntmps k [x0, x1] h = eQ.c G k self x0 x1 h := by kernel_rfl
theorem eQ.sound {G : aF} (hG : ∀ g x, G g = some x → bV x = true) : ∀ k, Sound Tryd.prog G 122 (eQ.f G k)
 | 0 => bJ eQ.here (fun _ _ => rfl)
 | k + 1 => bO (l := eQ.env G k (eQ.f G k)) (ann := eQ.ann) (n := k) (bA hG dZ) orders Tryd.func122 (by kernel_rfl) (by kernel_rfl) rfl (by kernel_rfl) (gH fun x0 x1 h => eQ.eq G k _ x0 x1 h)
theorem fJ.here : HrP Tryd.prog 112 := ⟨_, Tryd.func112, by kernel_rfl, by kernel_rfl⟩
theorem fJ.eq (G : aF) (k : Nat) (self : cE) (x0 x1 x2 x3 : AV) (h : aB) : eZ Tryd.prog G (fL (fJ.env G k self)) fJ.ann Tryd.f112.results.toList (dG Tryd.f112) Tryd.f112.ntmps k [x0, x1, x2, x3] h = fJ.c G k self x0 x1 x2 x3 h := by kernel_rfl
theorem fJ.sound {G : aF} (hG : ∀ g x, G g = some x → bV x = true) : ∀ k, Sound Tryd.prog G 112 (fJ.f G k)
 | 0 => bJ fJ.here (fun _ _ => rfl)
 | k + 1 => bO (l := fJ.env G k (fJ.f G k)) (ann := fJ.ann) (n := k) (bA hG (bZ (cA.sound hG k) (bZ (fT.sound hG k) (bZ (eQ.sound hG k) dZ)))) orders Tryd.func112 (by kernel_rfl) (by kernel_rfl) rfl (by kernel_rfl) (nU fun x0 x1 x2 x3 h => fJ.eq G k _ x0 x1 x2 x3 h)
theorem eO.here : HrP Tryd.prog 94 := ⟨_, Tryd.func94, by kernel_rfl, by kernel_rfl⟩
theorem eO.eq (G : aF) (k : Nat) (self : cE) (x0 x1 : AV) (h : aB) : eZ Tryd.prog G (fL (eO.env G k self)) eO.ann Tryd.f94.results.toList (dG Tryd.f94) Tryd.f94.ntmps k [x0, x1] h = eO.c G k self x0 x1 h := by kernel_rfl
theorem eO.sound {G : aF} (hG : ∀ g x, G g = some x → bV x = true) : ∀ k, Sound Tryd.prog G 94 (eO.f G k)
 | 0 => bJ eO.here (fun _ _ => rfl)
 | k + 1 => bO (l := eO.env G k (eO.f G k)) (ann := eO.ann) (n := k) (bA hG (bZ (eE.sound hG k) (bZ (dW.sound hG k) (bZ (fJ.sound hG k) dZ)))) orders Tryd.func94 (by kernel_rfl) (by kernel_rfl) rfl (by kernel_rfl) (gH fun x0 x1 h => eO.eq G k _ x0 x1 h)
theorem eY.here : HrP Tryd.prog 70 := ⟨_, Tryd.func70, by kernel_rfl, by kernel_rfl⟩
theorem eY.eq (G : aF) (k : Nat) (self : cE) (x0 x1 x2 x3 : AV) (h : aB) : eZ Tryd.prog G (fL (eY.env G k self)) eY.ann Tryd.f70.results.toList (dG Tryd.f70) Tryd.f70.ntmps k [x0, x1, x2, x3] h = eY.c G k self x0 x1 x2 x3 h := by kernel_rfl
theorem eY.sound {G : aF} (hG : ∀ g x, G g = some x → bV x = true) : ∀ k, Sound Tryd.prog G 70 (eY.f G k)
 | 0 => bJ eY.here (fun _ _ => rfl)
 | k + 1 => bO (l := eY.env G k (eY.f G k)) (ann := eY.ann) (n := k) (bA hG (bZ (bL.sound hG k) (bZ (dE.sound hG k) (bZ (eO.sound hG k) dZ)))) orders Tryd.func70 (by kernel_rfl) (by kernel_rfl) rfl (by kernel_rfl) (nU fun x0 x1 x2 x3 h => eY.eq G k _ x0 x1 x2 x3 h)
theorem gG.here : HrP Tryd.prog 39 := ⟨_, Tryd.func39, by kernel_rfl, by kernel_rfl⟩
theorem gG.eq (G : aF) (k : Nat) (self : cE) (x0 x1 x2 : AV) (h : aB) : eZ Tryd.prog G (fL (gG.env G k self)) gG.ann Tryd.f39.results.toList (dG Tryd.f39) Tryd.f39.ntmps k [x0, x1, x2] h = gG.c G k self x0 x1 x2 h := by kernel_rfl
theorem gG.sound {G : aF} (hG : ∀ g x, G g = some x → bV x = true) : ∀ k, Sound Tryd.prog G 39 (gG.f G k)
 | 0 => bJ gG.here (fun _ _ => rfl)
 | k + 1 => bO (l := gG.env G k (gG.f G k)) (ann := gG.ann) (n := k) (bA hG (bZ (cX.sound hG k) (bZ (fI.sound hG k) (bZ (eY.sound hG k) dZ)))) orders Tryd.func39 (by kernel_rfl) (by kernel_rfl) rfl (by kernel_rfl) (lU fun x0 x1 x2 h => gG.eq G k _ x0 x1 x2 h)
theorem cQ.here : HrP Tryd.prog 10 := ⟨_, Tryd.func10, by kernel_rfl, by kernel_rfl⟩
theorem cQ.eq (G : aF) (k : Nat) (self : cE) (h : aB) : eZ Tryd.prog G (fL (cQ.env G k self)) cQ.ann Tryd.f10.results.toList (dG Tryd.f10) Tryd.f10.ntmps k [] h = cQ.c G k self h := by kernel_rfl
theorem cQ.sound {G : aF} (hG : ∀ g x, G g = some x → bV x = true) : ∀ k, Sound Tryd.prog G 10 (cQ.f G k)
 | 0 => bJ cQ.here (fun _ _ => rfl)
 | k + 1 => bO (l := cQ.env G k (cQ.f G k)) (ann := cQ.ann) (n := k) (bA hG (bZ (cF.sound hG k) (bZ (gG.sound hG k) dZ))) orders Tryd.func10 (by kernel_rfl) (by kernel_rfl) rfl (by kernel_rfl) (aEk fun h => cQ.eq G k _ h)
theorem bQ.here : HrP Tryd.prog 12 := ⟨_, Tryd.func12, by kernel_rfl, by kernel_rfl⟩
theorem bQ.eq (G : aF) (k : Nat) (self : cE) (x0 : AV) (h : aB) : qU Tryd.prog G (fL (bQ.env G k self)) bQ.ann Tryd.f12.results.toList (dG Tryd.f12) Tryd.f12.ntmps k [x0] h = bQ.c G k self x0 h := by kernel_rfl
theorem bQ.sound {G : aF} (hG : ∀ g x, G g = some x → bV x = true) : ∀ k, Sound Tryd.prog G 12 (bQ.f G k)
 | 0 => bJ bQ.here (fun _ _ => rfl)
 | k + 1 => mZ (l := bQ.env G k (bQ.f G k)) (ann := bQ.ann) (n := k) (bA hG dZ) orders Tryd.func12 (by kernel_rfl) (by kernel_rfl) rfl (by kernel_rfl) (gU fun x0 h => bQ.eq G k _ x0 h)
theorem dF.here : HrP Tryd.prog 48 := ⟨_, Tryd.func48, by kernel_rfl, by kernel_rfl⟩
theorem dF.eq (G : aF) (k : Nat) (self : cE) (x0 : AV) (h : aB) : eZ Tryd.prog G (fL (dF.env G k self)) dF.ann Tryd.f48.results.toList (dG Tryd.f48) Tryd.f48.ntmps k [x0] h = dF.c G k self x0 h := by kernel_rfl
theorem dF.sound {G : aF} (hG : ∀ g x, G g = some x → bV x = true) : ∀ k, Sound Tryd.prog G 48 (dF.f G k)
 | 0 => bJ dF.here (fun _ _ => rfl)
 | k + 1 => bO (l := dF.env G k (dF.f G k)) (ann := dF.ann) (n := k) (bA hG dZ) orders Tryd.func48 (by kernel_rfl) (by kernel_rfl) rfl (by kernel_rfl) (gU fun x0 h => dF.eq G k _ x0 h)
theorem dV.here : HrP Tryd.prog 81 := ⟨_, Tryd.func81, by kernel_rfl, by kernel_rfl⟩
theorem dV.eq (G : aF) (k : Nat) (self : cE) (x0 x1 : AV) (h : aB) : eZ Tryd.prog G (fL (dV.env G k self)) dV.ann Tryd.f81.results.toList (dG Tryd.f81) Tryd.f81.ntmps k [x0, x1] h = dV.c G k self x0 x1 h := by kernel_rfl
theorem dV.sound {G : aF} (hG : ∀ g x, G g = some x → bV x = true) : ∀ k, Sound Tryd.prog G 81 (dV.f G k)
 | 0 => bJ dV.here (fun _ _ => rfl)
 | k + 1 => bO (l := dV.env G k (dV.f G k)) (ann := dV.ann) (n := k) (bA hG dZ) orders Tryd.func81 (by kernel_rfl) (by kernel_rfl) rfl (by kernel_rfl) (gH fun x0 x1 h => dV.eq G k _ x0 x1 h)
theorem cN.here : HrP Tryd.prog 82 := ⟨_, Tryd.func82, by kernel_rfl, by kernel_rfl⟩
theorem cN.eq (G : aF) (k : Nat) (self : cE) (x0 x1 : AV) (h : aB) : eZ Tryd.prog G (fL (cN.env G k self)) cN.ann Tryd.f82.results.toList (dG Tryd.f82) Tryd.f82.ntmps k [x0, x1] h = cN.c G k self x0 x1 h := by kernel_rfl
theorem cN.sound {G : aF} (hG : ∀ g x, G g = some x → bV x = true) : ∀ k, Sound Tryd.prog G 82 (cN.f G k)
 | 0 => bJ cN.here (fun _ _ => rfl)
 | k + 1 => bO (l := cN.env G k (cN.f G k)) (ann := cN.ann) (n := k) (bA hG dZ) orders Tryd.func82 (by kernel_rfl) (by kernel_rfl) rfl (by kernel_rfl) (gH fun x0 x1 h => cN.eq G k _ x0 x1 h)
theorem dH.here : HrP Tryd.prog 83 := ⟨_, Tryd.func83, by kernel_rfl, by kernel_rfl⟩
theorem dH.eq (G : aF) (k : Nat) (self : cE) (x0 x1 : AV) (h : aB) : eZ Tryd.prog G (fL (dH.env G k self)) dH.ann Tryd.f83.results.toList (dG Tryd.f83) Tryd.f83.ntmps k [x0, x1] h = dH.c G k self x0 x1 h := by kernel_rfl
theorem dH.sound {G : aF} (hG : ∀ g x, G g = some x → bV x = true) : ∀ k, Sound Tryd.prog G 83 (dH.f G k)
 | 0 => bJ dH.here (fun _ _ => rfl)
 | k + 1 => bO (l := dH.env G k (dH.f G k)) (ann := dH.ann) (n := k) (bA hG dZ) orders Tryd.func83 (by kernel_rfl) (by kernel_rfl) rfl (by kernel_rfl) (gH fun x0 x1 h => dH.eq G k _ x0 x1 h)
theorem cL.here : HrP Tryd.prog 84 := ⟨_, Tryd.func84, by kernel_rfl, by kernel_rfl⟩
theorem cL.eq (G : aF) (k : Nat) (self : cE) (x0 x1 : AV) (h : aB) : eZ Tryd.prog G (fL (cL.env G k self)) cL.ann Tryd.f84.results.toList (dG Tryd.f84) Tryd.f84.ntmps k [x0, x1] h = cL.c G k self x0 x1 h := by kernel_rfl
theorem cL.sound {G : aF} (hG : ∀ g x, G g = some x → bV x = true) : ∀ k, Sound Tryd.prog G 84 (cL.f G k)
 | 0 => bJ cL.here (fun _ _ => rfl)
 | k + 1 => bO (l := cL.env G k (cL.f G k)) (ann := cL.ann) (n := k) (bA hG (bZ (cN.sound hG k) (bZ (cA.sound hG k) dZ))) orders Tryd.func84 (by kernel_rfl) (by kernel_rfl) rfl (by kernel_rfl) (gH fun x0 x1 h => cL.eq G k _ x0 x1 h)
theorem dC.here : HrP Tryd.prog 49 := ⟨_, Tryd.func49, by kernel_rfl, by kernel_rfl⟩
theorem dC.eq (G : aF) (k : Nat) (self : cE) (x0 x1 x2 : AV) (h : aB) : eZ Tryd.prog G (fL (dC.env G k self)) dC.ann Tryd.f49.results.toList (dG Tryd.f49) Tryd.f49.ntmps k [x0, x1, x2] h = dC.c G k self x0 x1 x2 h := by kernel_rfl
theorem dC.sound {G : aF} (hG : ∀ g x, G g = some x → bV x = true) : ∀ k, Sound Tryd.prog G 49 (dC.f G k)
 | 0 => bJ dC.here (fun _ _ => rfl)
 | k + 1 => bO (l := dC.env G k (dC.f G k)) (ann := dC.ann) (n := k) (bA hG (bZ (dV.sound hG k) (bZ (cN.sound hG k) (bZ (dH.sound hG k) (bZ (cL.sound hG k) dZ))))) orders Tryd.func49 (by kernel_rfl) (by kernel_rfl) rfl (by kernel_rfl) (lU fun x0 x1 x2 h => dC.eq G k _ x0 x1 x2 h)
theorem bY.here : HrP Tryd.prog 50 := ⟨_, Tryd.func50, by kernel_rfl, by kernel_rfl⟩
theorem bY.eq (G : aF) (k : Nat) (self : cE) (x0 x1 x2 x3 : AV) (h : aB) : eZ Tryd.prog G (fL (bY.env G k self)) bY.ann Tryd.f50.results.toList (dG Tryd.f50) Tryd.f50.ntmps k [x0, x1, x2, x3] h = bY.c G k self x0 x1 x2 x3 h := by kernel_rfl
theorem bY.sound {G : aF} (hG : ∀ g x, G g = some x → bV x = true) : ∀ k, Sound Tryd.prog G 50 (bY.f G k)
 | 0 => bJ bY.here (fun _ _ => rfl)
 | k + 1 => bO (l := bY.env G k (bY.f G k)) (ann := bY.ann) (n := k) (bA hG (bZ (cA.sound hG k) dZ)) orders Tryd.func50 (by kernel_rfl) (by kernel_rfl) rfl (by kernel_rfl) (nU fun x0 x1 x2 x3 h => bY.eq G k _ x0 x1 x2 x3 h)
theorem bH.here : HrP Tryd.prog 14 := ⟨_, Tryd.func14, by kernel_rfl, by kernel_rfl⟩
theorem bH.eq (G : aF) (k : Nat) (self : cE) (x0 x1 x2 x3 : AV) (h : aB) : eZ Tryd.prog G (fL (bH.env G k self)) bH.ann Tryd.f14.results.toList (dG Tryd.f14) Tryd.f14.ntmps k [x0, x1, x2, x3] h = bH.c G k self x0 x1 x2 x3 h := by kernel_rfl
theorem bH.sound {G : aF} (hG : ∀ g x, G g = some x → bV x = true) : ∀ k, Sound Tryd.prog G 14 (bH.f G k)
 | 0 => bJ bH.here (fun _ _ => rfl)
 | k + 1 => bO (l := bH.env G k (bH.f G k)) (ann := bH.ann) (n := k) (bA hG (bZ (bQ.sound hG k) (bZ (dF.sound hG k) (bZ (dC.sound hG k) (bZ (bY.sound hG k) dZ))))) orders Tryd.func14 (by kernel_rfl) (by kernel_rfl) rfl (by kernel_rfl) (nU fun x0 x1 x2 x3 h => bH.eq G k _ x0 x1 x2 x3 h)
theorem bP.here : HrP Tryd.prog 15 := ⟨_, Tryd.func15, by kernel_rfl, by kernel_rfl⟩
theorem bP.eq (G : aF) (k : Nat) (self : cE) (x0 : AV) (h : aB) : eZ Tryd.prog G (fL (bP.env G k self)) bP.ann Tryd.f15.results.toList (dG Tryd.f15) Tryd.f15.ntmps k [x0] h = bP.c G k self x0 h := by kernel_rfl
theorem bP.sound {G : aF} (hG : ∀ g x, G g = some x → bV x = true) : ∀ k, Sound Tryd.prog G 15 (bP.f G k)
 | 0 => bJ bP.here (fun _ _ => rfl)
 | k + 1 => bO (l := bP.env G k (bP.f G k)) (ann := bP.ann) (n := k) (bA hG dZ) orders Tryd.func15 (by kernel_rfl) (by kernel_rfl) rfl (by kernel_rfl) (gU fun x0 h => bP.eq G k _ x0 h)
theorem bR.here : HrP Tryd.prog 16 := ⟨_, Tryd.func16, by kernel_rfl, by kernel_rfl⟩
theorem bR.eq (G : aF) (k : Nat) (self : cE) (x0 x1 : AV) (h : aB) : eZ Tryd.prog G (fL (bR.env G k self)) bR.ann Tryd.f16.results.toList (dG Tryd.f16) Tryd.f16.ntmps k [x0, x1] h = bR.c G k self x0 x1 h := by kernel_rfl
theorem bR.sound {G : aF} (hG : ∀ g x, G g = some x → bV x = true) : ∀ k, Sound Tryd.prog G 16 (bR.f G k)
 | 0 => bJ bR.here (fun _ _ => rfl)
 | k + 1 => bO (l := bR.env G k (bR.f G k)) (ann := bR.ann) (n := k) (bA hG dZ) orders Tryd.func16 (by kernel_rfl) (by kernel_rfl) rfl (by kernel_rfl) (gH fun x0 x1 h => bR.eq G k _ x0 x1 h)
theorem dN.here : HrP Tryd.prog 42 := ⟨_, Tryd.func42, by kernel_rfl, by kernel_rfl⟩
theorem dN.eq (G : aF) (k : Nat) (self : cE) (x0 : AV) (h : aB) : eZ Tryd.prog G (fL (dN.env G k self)) dN.ann Tryd.f42.results.toList (dG Tryd.f42) Tryd.f42.ntmps k [x0] h = dN.c G k self x0 h := by kernel_rfl
theorem dN.sound {G : aF} (hG : ∀ g x, G g = some x → bV x = true) : ∀ k, Sound Tryd.prog G 42 (dN.f G k)
 | 0 => bJ dN.here (fun _ _ => rfl)
 | k + 1 => bO (l := dN.env G k (dN.f G k)) (ann := dN.ann) (n := k) (bA hG dZ) orders Tryd.func42 (by kernel_rfl) (by kernel_rfl) rfl (by kernel_rfl) (gU fun x0 h => dN.eq G k _ x0 h)
theorem cO.here : HrP Tryd.prog 52 := ⟨_, Tryd.func52, by kernel_rfl, by kernel_rfl⟩
theorem cO.eq (G : aF) (k : Nat) (self : cE) (x0 : AV) (h : aB) : eZ Tryd.prog G (fL (cO.env G k self)) cO.ann Tryd.f52.results.toList (dG Tryd.f52) Tryd.f52.ntmps k [x0] h = cO.c G k self x0 h := by kernel_rfl
theorem cO.sound {G : aF} (hG : ∀ g x, G g = some x → bV x = true) : ∀ k, Sound Tryd.prog G 52 (cO.f G k)
 | 0 => bJ cO.here (fun _ _ => rfl)
 | k + 1 => bO (l := cO.env G k (cO.f G k)) (ann := cO.ann) (n := k) (bA hG dZ) orders Tryd.func52 (by kernel_rfl) (by kernel_rfl) rfl (by kernel_rfl) (gU fun x0 h => cO.eq G k _ x0 h)
theorem bG.here : HrP Tryd.prog 55 := ⟨_, Tryd.func55, by kernel_rfl, by kernel_rfl⟩
theorem bG.eq (G : aF) (k : Nat) (self : cE) (x0 x1 x2 : AV) (h : aB) : eZ Tryd.prog G (fL (bG.env G k self)) bG.ann Tryd.f55.results.toList (dG Tryd.f55) Tryd.f55.ntmps k [x0, x1, x2] h = bG.c G k self x0 x1 x2 h := by kernel_rfl
theorem bG.sound {G : aF} (hG : ∀ g x, G g = some x → bV x = true) : ∀ k, Sound Tryd.prog G 55 (bG.f G k)
 | 0 => bJ bG.here (fun _ _ => rfl)
 | k + 1 => bO (l := bG.env G k (bG.f G k)) (ann := bG.ann) (n := k) (bA hG dZ) orders Tryd.func55 (by kernel_rfl) (by kernel_rfl) rfl (by kernel_rfl) (lU fun x0 x1 x2 h => bG.eq G k _ x0 x1 x2 h)
theorem bM.here : HrP Tryd.prog 56 := ⟨_, Tryd.func56, by kernel_rfl, by kernel_rfl⟩
theorem bM.eq (G : aF) (k : Nat) (self : cE) (x0 x1 : AV) (h : aB) : eZ Tryd.prog G (fL (bM.env G k self)) bM.ann Tryd.f56.results.toList (dG Tryd.f56) Tryd.f56.ntmps k [x0, x1] h = bM.c G k self x0 x1 h := by kernel_rfl
theorem bM.sound {G : aF} (hG : ∀ g x, G g = some x → bV x = true) : ∀ k, Sound Tryd.prog G 56 (bM.f G k)
 | 0 => bJ bM.here (fun _ _ => rfl)
 | k + 1 => bO (l := bM.env G k (bM.f G k)) (ann := bM.ann) (n := k) (bA hG dZ) orders Tryd.func56 (by kernel_rfl) (by kernel_rfl) rfl (by kernel_rfl) (gH fun x0 x1 h => bM.eq G k _ x0 x1 h)
theorem dB.here : HrP Tryd.prog 58 := ⟨_, Tryd.func58, by kernel_rfl, by kernel_rfl⟩
theorem dB.eq (G : aF) (k : Nat) (self : cE) (h : aB) : eZ Tryd.prog G (fL (dB.env G k self)) dB.ann Tryd.f58.results.toList (dG Tryd.f58) Tryd.f58.ntmps k [] h = dB.c G k self h := by kernel_rfl
theorem dB.sound {G : aF} (hG : ∀ g x, G g = some x → bV x = true) : ∀ k, Sound Tryd.prog G 58 (dB.f G k)
 | 0 => bJ dB.here (fun _ _ => rfl)
 | k + 1 => bO (l := dB.env G k (dB.f G k)) (ann := dB.ann) (n := k) (bA hG dZ) orders Tryd.func58 (by kernel_rfl) (by kernel_rfl) rfl (by kernel_rfl) (aEk fun h => dB.eq G k _ h)
theorem cC.here : HrP Tryd.prog 57 := ⟨_, Tryd.func57, by kernel_rfl, by kernel_rfl⟩
theorem cC.eq (G : aF) (k : Nat) (self : cE) (x0 x1 : AV) (h : aB) : eZ Tryd.prog G (fL (cC.env G k self)) cC.ann Tryd.f57.results.toList (dG Tryd.f57) Tryd.f57.ntmps k [x0, x1] h = cC.c G k self x0 x1 h := by kernel_rfl
theorem cC.sound {G : aF} (hG : ∀ g x, G g = some x → bV x = true) : ∀ k, Sound Tryd.prog G 57 (cC.f G k)
 | 0 => bJ cC.here (fun _ _ => rfl)
 | k + 1 => bO (l := cC.env G k (cC.f G k)) (ann := cC.ann) (n := k) (bA hG (bZ (dB.sound hG k) dZ)) orders Tryd.func57 (by kernel_rfl) (by kernel_rfl) rfl (by kernel_rfl) (gH fun x0 x1 h => cC.eq G k _ x0 x1 h)
theorem bF.here : HrP Tryd.prog 28 := ⟨_, Tryd.func28, by kernel_rfl, by kernel_rfl⟩
theorem bF.eq (G : aF) (k : Nat) (self : cE) (x0 : AV) (h : aB) : eZ Tryd.prog G (fL (bF.env G k self)) bF.ann Tryd.f28.results.toList (dG Tryd.f28) Tryd.f28.ntmps k [x0] h = bF.c G k self x0 h := by kernel_rfl
theorem bF.sound {G : aF} (hG : ∀ g x, G g = some x → bV x = true) : ∀ k, Sound Tryd.prog G 28 (bF.f G k)
 | 0 => bJ bF.here (fun _ _ => rfl)
 | k + 1 => bO (l := bF.env G k (bF.f G k)) (ann := bF.ann) (n := k) (bA hG (bZ (dN.sound hG k) (bZ (cO.sound hG k) (bZ (bG.sound hG k) (bZ (bM.sound hG k) (bZ (cC.sound hG k) (bZ (dB.sound hG k) dZ))))))) orders Tryd.func28 (by kernel_rfl) (by kernel_rfl) rfl (by kernel_rfl) (gU fun x0 h => bF.eq G k _ x0 h)
theorem bX.here : HrP Tryd.prog 41 := ⟨_, Tryd.func41, by kernel_rfl, by kernel_rfl⟩
theorem bX.eq (G : aF) (k : Nat) (self : cE) (x0 x1 : AV) (h : aB) : eZ Tryd.prog G (fL (bX.env G k self)) bX.ann Tryd.f41.results.toList (dG Tryd.f41) Tryd.f41.ntmps k [x0, x1] h = bX.c G k self x0 x1 h := by kernel_rfl
theorem bX.sound {G : aF} (hG : ∀ g x, G g = some x → bV x = true) : ∀ k, Sound Tryd.prog G 41 (bX.f G k)
 | 0 => bJ bX.here (fun _ _ => rfl)
 | k + 1 => bO (l := bX.env G k (bX.f G k)) (ann := bX.ann) (n := k) (bA hG dZ) orders Tryd.func41 (by kernel_rfl) (by kernel_rfl) rfl (by kernel_rfl) (gH fun x0 x1 h => bX.eq G k _ x0 x1 h)
theorem bS.here : HrP Tryd.prog 11 := ⟨_, Tryd.func11, by kernel_rfl, by kernel_rfl⟩
theorem bS.eq (G : aF) (k : Nat) (self : cE) (x0 x1 : AV) (h : aB) : eZ Tryd.prog G (fL (bS.env G k self)) bS.ann Tryd.f11.results.toList (dG Tryd.f11) Tryd.f11.ntmps k [x0, x1] h = bS.c G k self x0 x1 h := by kernel_rfl
theorem bS.sound {G : aF} (hG : ∀ g x, G g = some x → bV x = true) : ∀ k, Sound Tryd.prog G 11 (bS.f G k)
 | 0 => bJ bS.here (fun _ _ => rfl)
 | k + 1 => bO (l := bS.env G k (bS.f G k)) (ann := bS.ann) (n := k) (bA hG dZ) orders Tryd.func11 (by kernel_rfl) (by kernel_rfl) rfl (by kernel_rfl) (gH fun x0 x1 h => bS.eq G k _ x0 x1 h)
theorem bE.here : HrP Tryd.prog 71 := ⟨_, Tryd.func71, by kernel_rfl, by kernel_rfl⟩
theorem bE.eq (G : aF) (k : Nat) (self : cE) (x0 x1 : AV) (h : aB) : eZ Tryd.prog G (fL (bE.env G k self)) bE.ann Tryd.f71.results.toList (dG Tryd.f71) Tryd.f71.ntmps k [x0, x1] h = bE.c G k self x0 x1 h := by kernel_rfl
theorem bE.sound {G : aF} (hG : ∀ g x, G g = some x → bV x = true) : ∀ k, Sound Tryd.prog G 71 (bE.f G k)
 | 0 => bJ bE.here (fun _ _ => rfl)
 | k + 1 => bO (l := bE.env G k (bE.f G k)) (ann := bE.ann) (n := k) (bA hG dZ) orders Tryd.func71 (by kernel_rfl) (by kernel_rfl) rfl (by kernel_rfl) (gH fun x0 x1 h => bE.eq G k _ x0 x1 h)
theorem aO.here : HrP Tryd.prog 40 := ⟨_, Tryd.func40, by kernel_rfl, by kernel_rfl⟩
theorem aO.eq (G : aF) (k : Nat) (self : cE) (x0 x1 : AV) (h : aB) : eZ Tryd.prog G (fL (aO.env G k self)) aO.ann Tryd.f40.results.toList (dG Tryd.f40) Tryd.f40.ntmps k [x0, x1] h = aO.c G k self x0 x1 h := by kernel_rfl
theorem aO.sound {G : aF} (hG : ∀ g x, G g = some x → bV x = true) : ∀ k, Sound Tryd.prog G 40 (aO.f G k)
 | 0 => bJ aO.here (fun _ _ => rfl)
 | k + 1 => bO (l := aO.env G k (aO.f G k)) (ann := aO.ann) (n := k) (bA hG (bZ (bE.sound hG k) dZ)) orders Tryd.func40 (by kernel_rfl) (by kernel_rfl) rfl (by kernel_rfl) (gH fun x0 x1 h => aO.eq G k _ x0 x1 h)
theorem alembiclaw21_AllocHides.here : HrP Tryd.prog 9 := ⟨_, Tryd.func9, by kernel_rfl, by kernel_rfl⟩
theorem alembiclaw21_AllocHides.eq (G : aF) (k : Nat) (self : cE) (x0 x1 x2 x3 : AV) (h : aB) : eZ Tryd.prog G (fL (alembiclaw21_AllocHides.env G k self)) alembiclaw21_AllocHides.ann Tryd.f9.results.toList (dG Tryd.f9) Tryd.f9.ntmps k [x0, x1, x2, x3] h = alembiclaw21_AllocHides.c G k self x0 x1 x2 x3 h := by kernel_rfl
theorem alembiclaw21_AllocHides.sound {G : aF} (hG : ∀ g x, G g = some x → bV x = true) : ∀ k, Sound Tryd.prog G 9 (alembiclaw21_AllocHides.f G k)
 | 0 => bJ alembiclaw21_AllocHides.here (fun _ _ => rfl)
 | k + 1 => bO (l := alembiclaw21_AllocHides.env G k (alembiclaw21_AllocHides.f G k)) (ann := alembiclaw21_AllocHides.ann) (n := k) (bA hG (bZ (cQ.sound hG k) (bZ (bS.sound hG k) (bZ (cF.sound hG k) (bZ (bH.sound hG k) (bZ (bP.sound hG k) (bZ (bR.sound hG k) (bZ (bF.sound hG k) (bZ (aO.sound hG k) (bZ (bX.sound hG k) dZ)))))))))) orders Tryd.func9 (by kernel_rfl) (by kernel_rfl) rfl (by kernel_rfl) (nU fun x0 x1 x2 x3 h => alembiclaw21_AllocHides.eq G k _ x0 x1 x2 x3 h)
end Go.Proofs.YtlkgkfgkiidhdaaDoor.Mir
