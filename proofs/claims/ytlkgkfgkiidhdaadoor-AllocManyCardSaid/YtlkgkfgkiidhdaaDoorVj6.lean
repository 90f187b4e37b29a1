/- Part 6 of the proof: the functions that the statement reaches, and their contracts. -/
import Derived.Test.YtlkgkfgkiidhdaaDoorVj5
import Derived.Test.YtlkgkfgkiidhdaaDoorProg
import Derived.KernelRfl
namespace Go.Proofs.YtlkgkfgkiidhdaaDoor.Mir
open Go
set_option linter.unusedVariables false
theorem orders : Tryd.prog.follows .mixedOrders = true := by kernel_rfl
theorem eU.here : HrP Tryd.prog 86 := ⟨_, Tryd.func86, by kernel_rfl, by kernel_rfl⟩
theorem eU.eq (G : aG) (k : Nat) (self : cD) (x0 : AV) (h : aB) : fD Tryd.prog G (fJ (eU.env G k self)) eU.ann Tryd.f86.results.toList (dL Tryd.f86) Tryd.f86.ntmps k [x0] h = eU.c G k self x0 h := by kernel_rfl
theorem eU.sound {G : aG} (hG : ∀ g x, G g = some x → bZ x = true) : ∀ k, Sound Tryd.prog G 86 (eU.f G k)
 | 0 => bL eU.here (fun _ _ => rfl)
 | k + 1 => bT (l := eU.env G k (eU.f G k)) (ann := eU.ann) (n := k) (bE hG dW) orders Tryd.func86 (by kernel_rfl) (by kernel_rfl) rfl (by kernel_rfl) (gR fun x0 h => eU.eq G k _ x0 h)
theorem dK.here : HrP Tryd.prog 51 := ⟨_, Tryd.func51, by kernel_rfl, by kernel_rfl⟩
theorem dK.eq (G : aG) (k : Nat) (self : cD) (x0 : AV) (h : aB) : fD Tryd.prog G (fJ (dK.env G k self)) dK.ann Tryd.f51.results.toList (dL Tryd.f51) Tryd.f51.ntmps k [x0] h = dK.c G k self x0 h := by kernel_rfl
theorem dK.sound {G : aG} (hG : ∀ g x, G g = some x → bZ x = true) : ∀ k, Sound Tryd.prog G 51 (dK.f G k)
 | 0 => bL dK.here (fun _ _ => rfl)
 | k + 1 => bT (l := dK.env G k (dK.f G k)) (ann := dK.ann) (n := k) (bE hG (cB (eU.sound hG k) dW)) orders Tryd.func51 (by kernel_rfl) (by kernel_rfl) rfl (by kernel_rfl) (gR fun x0 h => dK.eq G k _ x0 h)
theorem fN.here : HrP Tryd.prog 95 := ⟨_, Tryd.func95, by kernel_rfl, by kernel_rfl⟩
theorem fN.eq (G : aG) (k : Nat) (self : cD) (x0 x1 : AV) (h : aB) : fD Tryd.prog G (fJ (fN.env G k self)) fN.ann Tryd.f95.results.toList (dL Tryd.f95) Tryd.f95.ntmps k [x0, x1] h = fN.c G k self x0 x1 h := by kernel_rfl
theorem fN.sound {G : aG} (hG : ∀ g x, G g = some x → bZ x = true) : ∀ k, Sound Tryd.prog G 95 (fN.f G k)
 | 0 => bL fN.here (fun _ _ => rfl)
 | k + 1 => bT (l := fN.env G k (fN.f G k)) (ann := fN.ann) (n := k) (bE hG dW) orders Tryd.func95 (by kernel_rfl) (by kernel_rfl) rfl (by kernel_rfl) (gH fun x0 x1 h => fN.eq G k _ x0 x1 h)
theorem cO.here : HrP Tryd.prog 72 := ⟨_, Tryd.func72, by kernel_rfl, by kernel_rfl⟩
theorem cO.eq (G : aG) (k : Nat) (self : cD) (x0 x1 : AV) (h : aB) : fD Tryd.prog G (fJ (cO.env G k self)) cO.ann Tryd.f72.results.toList (dL Tryd.f72) Tryd.f72.ntmps k [x0, x1] h = cO.c G k self x0 x1 h := by kernel_rfl
theorem cO.sound {G : aG} (hG : ∀ g x, G g = some x → bZ x = true) : ∀ k, Sound Tryd.prog G 72 (cO.f G k)
 | 0 => bL cO.here (fun _ _ => rfl)
 | k + 1 => bT (l := cO.env G k (cO.f G k)) (ann := cO.ann) (n := k) (bE hG (cB (dK.sound hG k) (cB (fN.sound hG k) dW))) orders Tryd.func72 (by kernel_rfl) (by kernel_rfl) rfl (by kernel_rfl) (gH fun x0 x1 h => cO.eq G k _ x0 x1 h)
theorem cK.here : HrP Tryd.prog 43 := ⟨_, Tryd.func43, by kernel_rfl, by kernel_rfl⟩
theorem cK.eq (G : aG) (k : Nat) (self : cD) (x0 : AV) (h : aB) : fD Tryd.prog G (fJ (cK.env G k self)) cK.ann Tryd.f43.results.toList (dL Tryd.f43) Tryd.f43.ntmps k [x0] h = cK.c G k self x0 h := by kernel_rfl
theorem cK.sound {G : aG} (hG : ∀ g x, G g = some x → bZ x = true) : ∀ k, Sound Tryd.prog G 43 (cK.f G k)
 | 0 => bL cK.here (fun _ _ => rfl)
 | k + 1 => bT (l := cK.env G k (cK.f G k)) (ann := cK.ann) (n := k) (bE hG (cB (cO.sound hG k) dW)) orders Tryd.func43 (by kernel_rfl) (by kernel_rfl) rfl (by kernel_rfl) (gR fun x0 h => cK.eq G k _ x0 h)
theorem aO.here : HrP Tryd.prog 44 := ⟨_, Tryd.func44, by kernel_rfl, by kernel_rfl⟩
theorem aO.eq (G : aG) (k : Nat) (self : cD) (x0 : AV) (h : aB) : qN Tryd.prog G (fJ (aO.env G k self)) aO.ann Tryd.f44.results.toList (dL Tryd.f44) Tryd.f44.ntmps k [x0] h = aO.c G k self x0 h := by kernel_rfl
theorem aO.sound {G : aG} (hG : ∀ g x, G g = some x → bZ x = true) : ∀ k, Sound Tryd.prog G 44 (aO.f G k)
 | 0 => bL aO.here (fun _ _ => rfl)
 | k + 1 => mT (l := aO.env G k (aO.f G k)) (ann := aO.ann) (n := k) (bE hG dW) orders Tryd.func44 (by kernel_rfl) (by kernel_rfl) rfl (by kernel_rfl) (gR fun x0 h => aO.eq G k _ x0 h)
theorem dP.here : HrP Tryd.prog 20 := ⟨_, Tryd.func20, by kernel_rfl, by kernel_rfl⟩
theorem dP.eq (G : aG) (k : Nat) (self : cD) (x0 : AV) (h : aB) : fD Tryd.prog G (fJ (dP.env G k self)) dP.ann Tryd.f20.results.toList (dL Tryd.f20) Tryd.f20.ntmps k [x0] h = dP.c G k self x0 h := by kernel_rfl
theorem dP.sound {G : aG} (hG : ∀ g x, G g = some x → bZ x = true) : ∀ k, Sound Tryd.prog G 20 (dP.f G k)
 | 0 => bL dP.here (fun _ _ => rfl)
 | k + 1 => bT (l := dP.env G k (dP.f G k)) (ann := dP.ann) (n := k) (bE hG (cB (dK.sound hG k) dW)) orders Tryd.func20 (by kernel_rfl) (by kernel_rfl) rfl (by kernel_rfl) (gR fun x0 h => dP.eq G k _ x0 h)
theorem cI.here : HrP Tryd.prog 120 := ⟨_, Tryd.func120, by kernel_rfl, by kernel_rfl⟩
theorem cI.eq (G : aG) (k : Nat) (self : cD) (x0 : AV) (h : aB) : fD Tryd.prog G (fJ (cI.env G k self)) cI.ann Tryd.f120.results.toList (dL Tryd.f120) Tryd.f120.ntmps k [x0] h = cI.c G k self x0 h := by kernel_rfl
theorem cI.sound {G : aG} (hG : ∀ g x, G g = some x → bZ x = true) : ∀ k, Sound Tryd.prog G 120 (cI.f G k)
 | 0 => bL cI.here (fun _ _ => rfl)
 | k + 1 => bT (l := cI.env G k (cI.f G k)) (ann := cI.ann) (n := k) (bE hG dW) orders Tryd.func120 (by kernel_rfl) (by kernel_rfl) rfl (by kernel_rfl) (gR fun x0 h => cI.eq G k _ x0 h)
theorem cP.here : HrP Tryd.prog 103 := ⟨_, Tryd.func103, by kernel_rfl, by kernel_rfl⟩
theorem cP.eq (G : aG) (k : Nat) (self : cD) (x0 x1 : AV) (h : aB) : fD Tryd.prog G (fJ (cP.env G k self)) cP.ann Tryd.f103.results.toList (dL Tryd.f103) Tryd.f103.ntmps k [x0, x1] h = cP.c G k self x0 x1 h := by kernel_rfl
theorem cP.sound {G : aG} (hG : ∀ g x, G g = some x → bZ x = true) : ∀ k, Sound Tryd.prog G 103 (cP.f G k)
 | 0 => bL cP.here (fun _ _ => rfl)
 | k + 1 => bT (l := cP.env G k (cP.f G k)) (ann := cP.ann) (n := k) (bE hG (cB (cI.sound hG k) dW)) orders Tryd.func103 (by kernel_rfl) (by kernel_rfl) rfl (by kernel_rfl) (gH fun x0 x1 h => cP.eq G k _ x0 x1 h)
theorem aJ.here : HrP Tryd.prog 97 := ⟨_, Tryd.func97, by kernel_rfl, by kernel_rfl⟩
theorem aJ.eq (G : aG) (k : Nat) (self : cD) (x0 x1 x2 : AV) (h : aB) : fD Tryd.prog G (fJ (aJ.env G k self)) aJ.ann Tryd.f97.results.toList (dL Tryd.f97) Tryd.f97.ntmps k [x0, x1, x2] h = aJ.c G k self x0 x1 x2 h := by kernel_rfl
theorem aJ.sound {G : aG} (hG : ∀ g x, G g = some x → bZ x = true) : ∀ k, Sound Tryd.prog G 97 (aJ.f G k)
 | 0 => bL aJ.here (fun _ _ => rfl)
 | k + 1 => bT (l := aJ.env G k (aJ.f G k)) (ann := aJ.ann) (n := k) (bE hG (cB (cP.sound hG k) dW)) orders Tryd.func97 (by kernel_rfl) (by kernel_rfl) rfl (by kernel_rfl) (lD fun x0 x1 x2 h => aJ.eq G k _ x0 x1 x2 h)
theorem aT.here : HrP Tryd.prog 87 := ⟨_, Tryd.func87, by kernel_rfl, by kernel_rfl⟩
theorem aT.eq (G : aG) (k : Nat) (self : cD) (x0 x1 x2 x3 : AV) (h : aB) : fD Tryd.prog G (fJ (aT.env G k self)) aT.ann Tryd.f87.results.toList (dL Tryd.f87) Tryd.f87.ntmps k [x0, x1, x2, x3] h = aT.c G k self x0 x1 x2 x3 h := by kernel_rfl
theorem aT.sound {G : aG} (hG : ∀ g x, G g = some x → bZ x = true) : ∀ k, Sound Tryd.prog G 87 (aT.f G k)
 | 0 => bL aT.here (fun _ _ => rfl)
 | k + 1 => bT (l := aT.env G k (aT.f G k)) (ann := aT.ann) (n := k) (bE hG (cB (aT.sound hG k) (cB (aJ.sound hG k) (cB (cP.sound hG k) dW)))) orders Tryd.func87 (by kernel_rfl) (by kernel_rfl) rfl (by kernel_rfl) (pO fun x0 x1 x2 x3 h => aT.eq G k _ x0 x1 x2 x3 h)
theorem dD.here : HrP Tryd.prog 106 := ⟨_, Tryd.func106, by kernel_rfl, by kernel_rfl⟩
theorem dD.eq (G : aG) (k : Nat) (self : cD) (x0 : AV) (h : aB) : fD Tryd.prog G (fJ (dD.env G k self)) dD.ann Tryd.f106.results.toList (dL Tryd.f106) Tryd.f106.ntmps k [x0] h = dD.c G k self x0 h := by kernel_rfl
theorem dD.sound {G : aG} (hG : ∀ g x, G g = some x → bZ x = true) : ∀ k, Sound Tryd.prog G 106 (dD.f G k)
 | 0 => bL dD.here (fun _ _ => rfl)
 | k + 1 => bT (l := dD.env G k (dD.f G k)) (ann := dD.ann) (n := k) (bE hG dW) orders Tryd.func106 (by kernel_rfl) (by kernel_rfl) rfl (by kernel_rfl) (gR fun x0 h => dD.eq G k _ x0 h)
theorem dE.here : HrP Tryd.prog 107 := ⟨_, Tryd.func107, by kernel_rfl, by kernel_rfl⟩
theorem dE.eq (G : aG) (k : Nat) (self : cD) (x0 : AV) (h : aB) : fD Tryd.prog G (fJ (dE.env G k self)) dE.ann Tryd.f107.results.toList (dL Tryd.f107) Tryd.f107.ntmps k [x0] h = dE.c G k self x0 h := by kernel_rfl
theorem dE.sound {G : aG} (hG : ∀ g x, G g = some x → bZ x = true) : ∀ k, Sound Tryd.prog G 107 (dE.f G k)
 | 0 => bL dE.here (fun _ _ => rfl)
 | k + 1 => bT (l := dE.env G k (dE.f G k)) (ann := dE.ann) (n := k) (bE hG dW) orders Tryd.func107 (by kernel_rfl) (by kernel_rfl) rfl (by kernel_rfl) (gR fun x0 h => dE.eq G k _ x0 h)
theorem dF.here : HrP Tryd.prog 88 := ⟨_, Tryd.func88, by kernel_rfl, by kernel_rfl⟩
theorem dF.eq (G : aG) (k : Nat) (self : cD) (x0 : AV) (h : aB) : fD Tryd.prog G (fJ (dF.env G k self)) dF.ann Tryd.f88.results.toList (dL Tryd.f88) Tryd.f88.ntmps k [x0] h = dF.c G k self x0 h := by kernel_rfl
theorem dF.sound {G : aG} (hG : ∀ g x, G g = some x → bZ x = true) : ∀ k, Sound Tryd.prog G 88 (dF.f G k)
 | 0 => bL dF.here (fun _ _ => rfl)
 | k + 1 => bT (l := dF.env G k (dF.f G k)) (ann := dF.ann) (n := k) (bE hG (cB (dD.sound hG k) (cB (dE.sound hG k) dW))) orders Tryd.func88 (by kernel_rfl) (by kernel_rfl) rfl (by kernel_rfl) (gR fun x0 h => dF.eq G k _ x0 h)
theorem bG.here : HrP Tryd.prog 53 := ⟨_, Tryd.func53, by kernel_rfl, by kernel_rfl⟩
theorem bG.eq (G : aG) (k : Nat) (self : cD) (x0 : AV) (h : aB) : fD Tryd.prog G (fJ (bG.env G k self)) bG.ann Tryd.f53.results.toList (dL Tryd.f53) Tryd.f53.ntmps k [x0] h = bG.c G k self x0 h := by kernel_rfl
theorem bG.sound {G : aG} (hG : ∀ g x, G g = some x → bZ x = true) : ∀ k, Sound Tryd.prog G 53 (bG.f G k)
 | 0 => bL bG.here (fun _ _ => rfl)
 | k + 1 => bT (l := bG.env G k (bG.f G k)) (ann := bG.ann) (n := k) (bE hG (cB (aT.sound hG k) (cB (dF.sound hG k) dW))) orders Tryd.func53 (by kernel_rfl) (by kernel_rfl) rfl (by kernel_rfl) (gR fun x0 h => bG.eq G k _ x0 h)
theorem aI.here : HrP Tryd.prog 54 := ⟨_, Tryd.func54, by kernel_rfl, by kernel_rfl⟩
theorem aI.eq (G : aG) (k : Nat) (self : cD) (x0 : AV) (h : aB) : fD Tryd.prog G (fJ (aI.env G k self)) aI.ann Tryd.f54.results.toList (dL Tryd.f54) Tryd.f54.ntmps k [x0] h = aI.c G k self x0 h := by kernel_rfl
theorem aI.sound {G : aG} (hG : ∀ g x, G g = some x → bZ x = true) : ∀ k, Sound Tryd.prog G 54 (aI.f G k)
 | 0 => bL aI.here (fun _ _ => rfl)
 | k + 1 => bT (l := aI.env G k (aI.f G k)) (ann := aI.ann) (n := k) (bE hG dW) orders Tryd.func54 (by kernel_rfl) (by kernel_rfl) rfl (by kernel_rfl) (gR fun x0 h => aI.eq G k _ x0 h)
theorem cJ.here : HrP Tryd.prog 23 := ⟨_, Tryd.func23, by kernel_rfl, by kernel_rfl⟩
theorem cJ.eq (G : aG) (k : Nat) (self : cD) (x0 : AV) (h : aB) : fD Tryd.prog G (fJ (cJ.env G k self)) cJ.ann Tryd.f23.results.toList (dL Tryd.f23) Tryd.f23.ntmps k [x0] h = cJ.c G k self x0 h := by kernel_rfl
theorem cJ.sound {G : aG} (hG : ∀ g x, G g = some x → bZ x = true) : ∀ k, Sound Tryd.prog G 23 (cJ.f G k)
 | 0 => bL cJ.here (fun _ _ => rfl)
 | k + 1 => bT (l := cJ.env G k (cJ.f G k)) (ann := cJ.ann) (n := k) (bE hG (cB (dK.sound hG k) (cB (bG.sound hG k) (cB (aI.sound hG k) dW)))) orders Tryd.func23 (by kernel_rfl) (by kernel_rfl) rfl (by kernel_rfl) (gR fun x0 h => cJ.eq G k _ x0 h)
theorem bI.here : HrP Tryd.prog 74 := ⟨_, Tryd.func74, by kernel_rfl, by kernel_rfl⟩
theorem bI.eq (G : aG) (k : Nat) (self : cD) (x0 x1 x2 : AV) (h : aB) : fD Tryd.prog G (fJ (bI.env G k self)) bI.ann Tryd.f74.results.toList (dL Tryd.f74) Tryd.f74.ntmps k [x0, x1, x2] h = bI.c G k self x0 x1 x2 h := by kernel_rfl
theorem bI.sound {G : aG} (hG : ∀ g x, G g = some x → bZ x = true) : ∀ k, Sound Tryd.prog G 74 (bI.f G k)
 | 0 => bL bI.here (fun _ _ => rfl)
 | k + 1 => bT (l := bI.env G k (bI.f G k)) (ann := bI.ann) (n := k) (bE hG dW) orders Tryd.func74 (by kernel_rfl) (by kernel_rfl) rfl (by kernel_rfl) (lD fun x0 x1 x2 h => bI.eq G k _ x0 x1 x2 h)
theorem aH.here : HrP Tryd.prog 113 := ⟨_, Tryd.func113, by kernel_rfl, by kernel_rfl⟩
theorem aH.eq (G : aG) (k : Nat) (self : cD) (x0 x1 x2 x3 : AV) (h : aB) : fD Tryd.prog G (fJ (aH.env G k self)) aH.ann Tryd.f113.results.toList (dL Tryd.f113) Tryd.f113.ntmps k [x0, x1, x2, x3] h = aH.c G k self x0 x1 x2 x3 h := by kernel_rfl
theorem aH.sound {G : aG} (hG : ∀ g x, G g = some x → bZ x = true) : ∀ k, Sound Tryd.prog G 113 (aH.f G k)
 | 0 => bL aH.here (fun _ _ => rfl)
 | k + 1 => bT (l := aH.env G k (aH.f G k)) (ann := aH.ann) (n := k) (bE hG (cB (bI.sound hG k) dW)) orders Tryd.func113 (by kernel_rfl) (by kernel_rfl) rfl (by kernel_rfl) (pO fun x0 x1 x2 x3 h => aH.eq G k _ x0 x1 x2 x3 h)
theorem aN.here : HrP Tryd.prog 125 := ⟨_, Tryd.func125, by kernel_rfl, by kernel_rfl⟩
theorem aN.eq (G : aG) (k : Nat) (self : cD) (x0 x1 x2 x3 x4 : AV) (h : aB) : fD Tryd.prog G (fJ (aN.env G k self)) aN.ann Tryd.f125.results.toList (dL Tryd.f125) Tryd.f125.ntmps k [x0, x1, x2, x3, x4] h = aN.c G k self x0 x1 x2 x3 x4 h := by kernel_rfl
theorem aN.sound {G : aG} (hG : ∀ g x, G g = some x → bZ x = true) : ∀ k, Sound Tryd.prog G 125 (aN.f G k)
 | 0 => bL aN.here (fun _ _ => rfl)
 | k + 1 => bT (l := aN.env G k (aN.f G k)) (ann := aN.ann) (n := k) (bE hG dW) orders Tryd.func125 (by kernel_rfl) (by kernel_rfl) rfl (by kernel_rfl) (aAc fun x0 x1 x2 x3 x4 h => aN.eq G k _ x0 x1 x2 x3 x4 h)
theorem aS.here : HrP Tryd.prog 123 := ⟨_, Tryd.func123, by kernel_rfl, by kernel_rfl⟩
theorem aS.eq (G : aG) (k : Nat) (self : cD) (x0 x1 x2 x3 x4 : AV) (h : aB) : fD Tryd.prog G (fJ (aS.env G k self)) aS.ann Tryd.f123.results.toList (dL Tryd.f123) Tryd.f123.ntmps k [x0, x1, x2, x3, x4] h = aS.c G k self x0 x1 x2 x3 x4 h := by kernel_rfl
theorem aS.sound {G : aG} (hG : ∀ g x, G g = some x → bZ x = true) : ∀ k, Sound Tryd.prog G 123 (aS.f G k)
 | 0 => bL aS.here (fun _ _ => rfl)
 | k + 1 => bT (l := aS.env G k (aS.f G k)) (ann := aS.ann) (n := k) (bE hG (cB (aN.sound hG k) dW)) orders Tryd.func123 (by kernel_rfl) (by kernel_rfl) rfl (by kernel_rfl) (aAc fun x0 x1 x2 x3 x4 h => aS.eq G k _ x0 x1 x2 x3 x4 h)
theorem aC.here : HrP Tryd.prog 114 := ⟨_, Tryd.func114, by kernel_rfl, by kernel_rfl⟩
theorem aC.eq (G : aG) (k : Nat) (self : cD) (x0 x1 x2 x3 x4 : AV) (h : aB) : fD Tryd.prog G (fJ (aC.env G k self)) aC.ann Tryd.f114.results.toList (dL Tryd.f114) Tryd.f114.ntmps k [x0, x1, x2, x3, x4] h = aC.c G k self x0 x1 x2 x3 x4 h := by kernel_rfl
theorem aC.sound {G : aG} (hG : ∀ g x, G g = some x → bZ x = true) : ∀ k, Sound Tryd.prog G 114 (aC.f G k)
 | 0 => bL aC.here (fun _ _ => rfl)
 | k + 1 => bT (l := aC.env G k (aC.f G k)) (ann := aC.ann) (n := k) (bE hG (cB (bI.sound hG k) (cB (aC.sound hG k) (cB (aS.sound hG k) dW)))) orders Tryd.func114 (by kernel_rfl) (by kernel_rfl) rfl (by kernel_rfl) (aAc fun x0 x1 x2 x3 x4 h => aC.eq G k _ x0 x1 x2 x3 x4 h)
theorem aK.here : HrP Tryd.prog 96 := ⟨_, Tryd.func96, by kernel_rfl, by kernel_rfl⟩
theorem aK.eq (G : aG) (k : Nat) (self : cD) (x0 x1 x2 : AV) (h : aB) : fD Tryd.prog G (fJ (aK.env G k self)) aK.ann Tryd.f96.results.toList (dL Tryd.f96) Tryd.f96.ntmps k [x0, x1, x2] h = aK.c G k self x0 x1 x2 h := by kernel_rfl
theorem aK.sound {G : aG} (hG : ∀ g x, G g = some x → bZ x = true) : ∀ k, Sound Tryd.prog G 96 (aK.f G k)
 | 0 => bL aK.here (fun _ _ => rfl)
 | k + 1 => bT (l := aK.env G k (aK.f G k)) (ann := aK.ann) (n := k) (bE hG (cB (bI.sound hG k) (cB (aH.sound hG k) (cB (aC.sound hG k) dW)))) orders Tryd.func96 (by kernel_rfl) (by kernel_rfl) rfl (by kernel_rfl) (lD fun x0 x1 x2 h => aK.eq G k _ x0 x1 x2 h)
theorem aP.here : HrP Tryd.prog 73 := ⟨_, Tryd.func73, by kernel_rfl, by kernel_rfl⟩
theorem aP.eq (G : aG) (k : Nat) (self : cD) (x0 x1 : AV) (h : aB) : fD Tryd.prog G (fJ (aP.env G k self)) aP.ann Tryd.f73.results.toList (dL Tryd.f73) Tryd.f73.ntmps k [x0, x1] h = aP.c G k self x0 x1 h := by kernel_rfl
theorem aP.sound {G : aG} (hG : ∀ g x, G g = some x → bZ x = true) : ∀ k, Sound Tryd.prog G 73 (aP.f G k)
 | 0 => bL aP.here (fun _ _ => rfl)
 | k + 1 => bT (l := aP.env G k (aP.f G k)) (ann := aP.ann) (n := k) (bE hG (cB (aK.sound hG k) dW)) orders Tryd.func73 (by kernel_rfl) (by kernel_rfl) rfl (by kernel_rfl) (gH fun x0 x1 h => aP.eq G k _ x0 x1 h)
theorem aQ.here : HrP Tryd.prog 45 := ⟨_, Tryd.func45, by kernel_rfl, by kernel_rfl⟩
theorem aQ.eq (G : aG) (k : Nat) (self : cD) (x0 x1 : AV) (h : aB) : qN Tryd.prog G (fJ (aQ.env G k self)) aQ.ann Tryd.f45.results.toList (dL Tryd.f45) Tryd.f45.ntmps k [x0, x1] h = aQ.c G k self x0 x1 h := by kernel_rfl
theorem aQ.sound {G : aG} (hG : ∀ g x, G g = some x → bZ x = true) : ∀ k, Sound Tryd.prog G 45 (aQ.f G k)
 | 0 => bL aQ.here (fun _ _ => rfl)
 | k + 1 => mT (l := aQ.env G k (aQ.f G k)) (ann := aQ.ann) (n := k) (bE hG (cB (dP.sound hG k) (cB (cJ.sound hG k) (cB (aP.sound hG k) (cB (bI.sound hG k) dW))))) orders Tryd.func45 (by kernel_rfl) (by kernel_rfl) rfl (by kernel_rfl) (gH fun x0 x1 h => aQ.eq G k _ x0 x1 h)
theorem bD.here : HrP Tryd.prog 76 := ⟨_, Tryd.func76, by kernel_rfl, by kernel_rfl⟩
theorem bD.eq (G : aG) (k : Nat) (self : cD) (x0 x1 : AV) (h : aB) : fD Tryd.prog G (fJ (bD.env G k self)) bD.ann Tryd.f76.results.toList (dL Tryd.f76) Tryd.f76.ntmps k [x0, x1] h = bD.c G k self x0 x1 h := by kernel_rfl
theorem bD.sound {G : aG} (hG : ∀ g x, G g = some x → bZ x = true) : ∀ k, Sound Tryd.prog G 76 (bD.f G k)
 | 0 => bL bD.here (fun _ _ => rfl)
 | k + 1 => bT (l := bD.env G k (bD.f G k)) (ann := bD.ann) (n := k) (bE hG dW) orders Tryd.func76 (by kernel_rfl) (by kernel_rfl) rfl (by kernel_rfl) (gH fun x0 x1 h => bD.eq G k _ x0 x1 h)
theorem bP.here : HrP Tryd.prog 79 := ⟨_, Tryd.func79, by kernel_rfl, by kernel_rfl⟩
theorem bP.eq (G : aG) (k : Nat) (self : cD) (x0 x1 x2 : AV) (h : aB) : fD Tryd.prog G (fJ (bP.env G k self)) bP.ann Tryd.f79.results.toList (dL Tryd.f79) Tryd.f79.ntmps k [x0, x1, x2] h = bP.c G k self x0 x1 x2 h := by kernel_rfl
theorem bP.sound {G : aG} (hG : ∀ g x, G g = some x → bZ x = true) : ∀ k, Sound Tryd.prog G 79 (bP.f G k)
 | 0 => bL bP.here (fun _ _ => rfl)
 | k + 1 => bT (l := bP.env G k (bP.f G k)) (ann := bP.ann) (n := k) (bE hG (cB (bD.sound hG k) dW)) orders Tryd.func79 (by kernel_rfl) (by kernel_rfl) rfl (by kernel_rfl) (lD fun x0 x1 x2 h => bP.eq G k _ x0 x1 x2 h)
theorem bM.here : HrP Tryd.prog 75 := ⟨_, Tryd.func75, by kernel_rfl, by kernel_rfl⟩
theorem bM.eq (G : aG) (k : Nat) (self : cD) (x0 x1 : AV) (h : aB) : fD Tryd.prog G (fJ (bM.env G k self)) bM.ann Tryd.f75.results.toList (dL Tryd.f75) Tryd.f75.ntmps k [x0, x1] h = bM.c G k self x0 x1 h := by kernel_rfl
theorem bM.sound {G : aG} (hG : ∀ g x, G g = some x → bZ x = true) : ∀ k, Sound Tryd.prog G 75 (bM.f G k)
 | 0 => bL bM.here (fun _ _ => rfl)
 | k + 1 => bT (l := bM.env G k (bM.f G k)) (ann := bM.ann) (n := k) (bE hG (cB (bD.sound hG k) (cB (bP.sound hG k) dW))) orders Tryd.func75 (by kernel_rfl) (by kernel_rfl) rfl (by kernel_rfl) (gH fun x0 x1 h => bM.eq G k _ x0 x1 h)
theorem bY.here : HrP Tryd.prog 77 := ⟨_, Tryd.func77, by kernel_rfl, by kernel_rfl⟩
theorem bY.eq (G : aG) (k : Nat) (self : cD) (x0 x1 : AV) (h : aB) : fD Tryd.prog G (fJ (bY.env G k self)) bY.ann Tryd.f77.results.toList (dL Tryd.f77) Tryd.f77.ntmps k [x0, x1] h = bY.c G k self x0 x1 h := by kernel_rfl
theorem bY.sound {G : aG} (hG : ∀ g x, G g = some x → bZ x = true) : ∀ k, Sound Tryd.prog G 77 (bY.f G k)
 | 0 => bL bY.here (fun _ _ => rfl)
 | k + 1 => bT (l := bY.env G k (bY.f G k)) (ann := bY.ann) (n := k) (bE hG dW) orders Tryd.func77 (by kernel_rfl) (by kernel_rfl) rfl (by kernel_rfl) (gH fun x0 x1 h => bY.eq G k _ x0 x1 h)
theorem bN.here : HrP Tryd.prog 78 := ⟨_, Tryd.func78, by kernel_rfl, by kernel_rfl⟩
theorem bN.eq (G : aG) (k : Nat) (self : cD) (x0 x1 : AV) (h : aB) : fD Tryd.prog G (fJ (bN.env G k self)) bN.ann Tryd.f78.results.toList (dL Tryd.f78) Tryd.f78.ntmps k [x0, x1] h = bN.c G k self x0 x1 h := by kernel_rfl
theorem bN.sound {G : aG} (hG : ∀ g x, G g = some x → bZ x = true) : ∀ k, Sound Tryd.prog G 78 (bN.f G k)
 | 0 => bL bN.here (fun _ _ => rfl)
 | k + 1 => bT (l := bN.env G k (bN.f G k)) (ann := bN.ann) (n := k) (bE hG (cB (bD.sound hG k) dW)) orders Tryd.func78 (by kernel_rfl) (by kernel_rfl) rfl (by kernel_rfl) (gH fun x0 x1 h => bN.eq G k _ x0 x1 h)
theorem aZ.here : HrP Tryd.prog 46 := ⟨_, Tryd.func46, by kernel_rfl, by kernel_rfl⟩
theorem aZ.eq (G : aG) (k : Nat) (self : cD) (x0 x1 : AV) (h : aB) : fD Tryd.prog G (fJ (aZ.env G k self)) aZ.ann Tryd.f46.results.toList (dL Tryd.f46) Tryd.f46.ntmps k [x0, x1] h = aZ.c G k self x0 x1 h := by kernel_rfl
theorem aZ.sound {G : aG} (hG : ∀ g x, G g = some x → bZ x = true) : ∀ k, Sound Tryd.prog G 46 (aZ.f G k)
 | 0 => bL aZ.here (fun _ _ => rfl)
 | k + 1 => bT (l := aZ.env G k (aZ.f G k)) (ann := aZ.ann) (n := k) (bE hG (cB (dK.sound hG k) (cB (bM.sound hG k) (cB (bD.sound hG k) (cB (bY.sound hG k) (cB (bN.sound hG k) (cB (bP.sound hG k) dW))))))) orders Tryd.func46 (by kernel_rfl) (by kernel_rfl) rfl (by kernel_rfl) (gH fun x0 x1 h => aZ.eq G k _ x0 x1 h)
theorem cL.here : HrP Tryd.prog 80 := ⟨_, Tryd.func80, by kernel_rfl, by kernel_rfl⟩
theorem cL.eq (G : aG) (k : Nat) (self : cD) (x0 : AV) (h : aB) : fD Tryd.prog G (fJ (cL.env G k self)) cL.ann Tryd.f80.results.toList (dL Tryd.f80) Tryd.f80.ntmps k [x0] h = cL.c G k self x0 h := by kernel_rfl
theorem cL.sound {G : aG} (hG : ∀ g x, G g = some x → bZ x = true) : ∀ k, Sound Tryd.prog G 80 (cL.f G k)
 | 0 => bL cL.here (fun _ _ => rfl)
 | k + 1 => bT (l := cL.env G k (cL.f G k)) (ann := cL.ann) (n := k) (bE hG dW) orders Tryd.func80 (by kernel_rfl) (by kernel_rfl) rfl (by kernel_rfl) (gR fun x0 h => cL.eq G k _ x0 h)
theorem bC.here : HrP Tryd.prog 47 := ⟨_, Tryd.func47, by kernel_rfl, by kernel_rfl⟩
theorem bC.eq (G : aG) (k : Nat) (self : cD) (x0 : AV) (h : aB) : fD Tryd.prog G (fJ (bC.env G k self)) bC.ann Tryd.f47.results.toList (dL Tryd.f47) Tryd.f47.ntmps k [x0] h = bC.c G k self x0 h := by kernel_rfl
theorem bC.sound {G : aG} (hG : ∀ g x, G g = some x → bZ x = true) : ∀ k, Sound Tryd.prog G 47 (bC.f G k)
 | 0 => bL bC.here (fun _ _ => rfl)
 | k + 1 => bT (l := bC.env G k (bC.f G k)) (ann := bC.ann) (n := k) (bE hG (cB (cL.sound hG k) dW)) orders Tryd.func47 (by kernel_rfl) (by kernel_rfl) rfl (by kernel_rfl) (gR fun x0 h => bC.eq G k _ x0 h)
theorem cC.here : HrP Tryd.prog 13 := ⟨_, Tryd.func13, by kernel_rfl, by kernel_rfl⟩
theorem cC.eq (G : aG) (k : Nat) (self : cD) (x0 x1 : AV) (h : aB) : fD Tryd.prog G (fJ (cC.env G k self)) cC.ann Tryd.f13.results.toList (dL Tryd.f13) Tryd.f13.ntmps k [x0, x1] h = cC.c G k self x0 x1 h := by kernel_rfl
theorem cC.sound {G : aG} (hG : ∀ g x, G g = some x → bZ x = true) : ∀ k, Sound Tryd.prog G 13 (cC.f G k)
 | 0 => bL cC.here (fun _ _ => rfl)
 | k + 1 => bT (l := cC.env G k (cC.f G k)) (ann := cC.ann) (n := k) (bE hG (cB (cK.sound hG k) (cB (aO.sound hG k) (cB (aQ.sound hG k) (cB (aZ.sound hG k) (cB (bC.sound hG k) dW)))))) orders Tryd.func13 (by kernel_rfl) (by kernel_rfl) rfl (by kernel_rfl) (gH fun x0 x1 h => cC.eq G k _ x0 x1 h)
theorem eY.here : HrP Tryd.prog 69 := ⟨_, Tryd.func69, by kernel_rfl, by kernel_rfl⟩
theorem eY.eq (G : aG) (k : Nat) (self : cD) (x0 x1 x2 : AV) (h : aB) : fD Tryd.prog G (fJ (eY.env G k self)) eY.ann Tryd.f69.results.toList (dL Tryd.f69) Tryd.f69.ntmps k [x0, x1, x2] h = eY.c G k self x0 x1 x2 h := by kernel_rfl
theorem eY.sound {G : aG} (hG : ∀ g x, G g = some x → bZ x = true) : ∀ k, Sound Tryd.prog G 69 (eY.f G k)
 | 0 => bL eY.here (fun _ _ => rfl)
 | k + 1 => bT (l := eY.env G k (eY.f G k)) (ann := eY.ann) (n := k) (bE hG dW) orders Tryd.func69 (by kernel_rfl) (by kernel_rfl) rfl (by kernel_rfl) (lD fun x0 x1 x2 h => eY.eq G k _ x0 x1 x2 h)
theorem bH.here : HrP Tryd.prog 92 := ⟨_, Tryd.func92, by kernel_rfl, by kernel_rfl⟩
theorem bH.eq (G : aG) (k : Nat) (self : cD) (x0 : AV) (h : aB) : qN Tryd.prog G (fJ (bH.env G k self)) bH.ann Tryd.f92.results.toList (dL Tryd.f92) Tryd.f92.ntmps k [x0] h = bH.c G k self x0 h := by kernel_rfl
theorem bH.sound {G : aG} (hG : ∀ g x, G g = some x → bZ x = true) : ∀ k, Sound Tryd.prog G 92 (bH.f G k)
 | 0 => bL bH.here (fun _ _ => rfl)
 | k + 1 => mT (l := bH.env G k (bH.f G k)) (ann := bH.ann) (n := k) (bE hG dW) orders Tryd.func92 (by kernel_rfl) (by kernel_rfl) rfl (by kernel_rfl) (gR fun x0 h => bH.eq G k _ x0 h)
theorem cW.here : HrP Tryd.prog 93 := ⟨_, Tryd.func93, by kernel_rfl, by kernel_rfl⟩
theorem cW.eq (G : aG) (k : Nat) (self : cD) (x0 x1 x2 : AV) (h : aB) : fD Tryd.prog G (fJ (cW.env G k self)) cW.ann Tryd.f93.results.toList (dL Tryd.f93) Tryd.f93.ntmps k [x0, x1, x2] h = cW.c G k self x0 x1 x2 h := by kernel_rfl
theorem cW.sound {G : aG} (hG : ∀ g x, G g = some x → bZ x = true) : ∀ k, Sound Tryd.prog G 93 (cW.f G k)
 | 0 => bL cW.here (fun _ _ => rfl)
 | k + 1 => bT (l := cW.env G k (cW.f G k)) (ann := cW.ann) (n := k) (bE hG dW) orders Tryd.func93 (by kernel_rfl) (by kernel_rfl) rfl (by kernel_rfl) (lD fun x0 x1 x2 h => cW.eq G k _ x0 x1 x2 h)
theorem dM.here : HrP Tryd.prog 110 := ⟨_, Tryd.func110, by kernel_rfl, by kernel_rfl⟩
theorem dM.eq (G : aG) (k : Nat) (self : cD) (x0 x1 : AV) (h : aB) : fD Tryd.prog G (fJ (dM.env G k self)) dM.ann Tryd.f110.results.toList (dL Tryd.f110) Tryd.f110.ntmps k [x0, x1] h = dM.c G k self x0 x1 h := by kernel_rfl
theorem dM.sound {G : aG} (hG : ∀ g x, G g = some x → bZ x = true) : ∀ k, Sound Tryd.prog G 110 (dM.f G k)
 | 0 => bL dM.here (fun _ _ => rfl)
 | k + 1 => bT (l := dM.env G k (dM.f G k)) (ann := dM.ann) (n := k) (bE hG (cB (cW.sound hG k) dW)) orders Tryd.func110 (by kernel_rfl) (by kernel_rfl) rfl (by kernel_rfl) (gH fun x0 x1 h => dM.eq G k _ x0 x1 h)
theorem fI.here : HrP Tryd.prog 121 := ⟨_, Tryd.func121, by kernel_rfl, by kernel_rfl⟩
theorem fI.eq (G : aG) (k : Nat) (self : cD) (x0 : AV) (h : aB) : fD Tryd.prog G (fJ (fI.env G k self)) fI.ann Tryd.f121.results.toList (dL Tryd.f121) Tryd.f121.ntmps k [x0] h = fI.c G k self x0 h := by kernel_rfl
theorem fI.sound {G : aG} (hG : ∀ g x, G g = some x → bZ x = true) : ∀ k, Sound Tryd.prog G 121 (fI.f G k)
 | 0 => bL fI.here (fun _ _ => rfl)
 | k + 1 => bT (l := fI.env G k (fI.f G k)) (ann := fI.ann) (n := k) (bE hG dW) orders Tryd.func121 (by kernel_rfl) (by kernel_rfl) rfl (by kernel_rfl) (gR fun x0 h => fI.eq G k _ x0 h)
theorem dJ.here : HrP Tryd.prog 111 := ⟨_, Tryd.func111, by kernel_rfl, by kernel_rfl⟩
theorem dJ.eq (G : aG) (k : Nat) (self : cD) (x0 x1 : AV) (h : aB) : fD Tryd.prog G (fJ (dJ.env G k self)) dJ.ann Tryd.f111.results.toList (dL Tryd.f111) Tryd.f111.ntmps k [x0, x1] h = dJ.c G k self x0 x1 h := by kernel_rfl
theorem dJ.sound {G : aG} (hG : ∀ g x, G g = some x → bZ x = true) : ∀ k, Sound Tryd.prog G 111 (dJ.f G k)
 | 0 => bL dJ.here (fun _ _ => rfl)
 | k + 1 => bT (l := dJ.env G k (dJ.f G k)) (ann := dJ.ann) (n := k) (bE hG (cB (cW.sound hG k) (cB (fI.sound hG k) dW))) orders Tryd.func111 (by kernel_rfl) (by kernel_rfl) rfl (by kernel_rfl) (gH fun x0 x1 h => dJ.eq G k _ x0 x1 h)
theorem bV.here : HrP Tryd.prog 85 := ⟨_, Tryd.func85, by kernel_rfl, by kernel_rfl⟩
theorem bV.eq (G : aG) (k : Nat) (self : cD) (x0 x1 : AV) (h : aB) : fD Tryd.prog G (fJ (bV.env G k self)) bV.ann Tryd.f85.results.toList (dL Tryd.f85) Tryd.f85.ntmps k [x0, x1] h = bV.c G k self x0 x1 h := by kernel_rfl
theorem bV.sound {G : aG} (hG : ∀ g x, G g = some x → bZ x = true) : ∀ k, Sound Tryd.prog G 85 (bV.f G k)
 | 0 => bL bV.here (fun _ _ => rfl)
 | k + 1 => bT (l := bV.env G k (bV.f G k)) (ann := bV.ann) (n := k) (bE hG dW) orders Tryd.func85 (by kernel_rfl) (by kernel_rfl) rfl (by kernel_rfl) (gH fun x0 x1 h => bV.eq G k _ x0 x1 h)
theorem dZ.here : HrP Tryd.prog 122 := ⟨_, Tryd.func122, by kernel_rfl, by kernel_rfl⟩
theorem dZ.eq (G : aG) (k : Nat) (self : cD) (x0 x1 : AV) (h : aB) : fD Tryd.prog G (fJ (dZ.env G k self)) dZ.ann Tryd.f122.results.toList (dL Tryd.f122) Tryd.f122.ntmps k [x0, x1] h = dZ.c G k self x0 x1 h := by kernel_rfl
theorem dZ.sound {G : aG} (hG : ∀ g x, G g = some x → bZ x = true) : ∀ k, Sound Tryd.prog G 122 (dZ.f G k)
 | 0 => bL dZ.here (fun _ _ => rfl)
 | k + 1 => bT (l := dZ.env G k (dZ.f G k)) (ann := dZ.ann) (n := k) (bE hG dW) orders Tryd.func122 (by kernel_rfl) (by kernel_rfl) rfl (by kernel_rfl) (gH fun x0 x1 h => dZ.eq G k _ x0 x1 h)
theorem eZ.here : HrP Tryd.prog 112 := ⟨_, Tryd.func112, by kernel_rfl, by kernel_rfl⟩
theorem eZ.eq (G : aG) (k : Nat) (self : cD) (x0 x1 x2 x3 : AV) (h : aB) : fD Tryd.prog G (fJ (eZ.env G k self)) eZ.ann Tryd.f112.results.toList (dL Tryd.f112) Tryd.f112.ntmps k [x0, x1, x2, x3] h = eZ.c G k self x0 x1 x2 x3 h := by kernel_rfl
theorem eZ.sound {G : aG} (hG : ∀ g x, G g = some x → bZ x = true) : ∀ k, Sound Tryd.prog G 112 (eZ.f G k)
 | 0 => bL eZ.here (fun _ _ => rfl)
 | k + 1 => bT (l := eZ.env G k (eZ.f G k)) (ann := eZ.ann) (n := k) (bE hG (cB (bV.sound hG k) (cB (fI.sound hG k) (cB (dZ.sound hG k) dW)))) orders Tryd.func112 (by kernel_rfl) (by kernel_rfl) rfl (by kernel_rfl) (pO fun x0 x1 x2 x3 h => eZ.eq G k _ x0 x1 x2 x3 h)
theorem dU.here : HrP Tryd.prog 94 := ⟨_, Tryd.func94, by kernel_rfl, by kernel_rfl⟩
theorem dU.eq (G : aG) (k : Nat) (self : cD) (x0 x1 : AV) (h : aB) : fD Tryd.prog G (fJ (dU.env G k self)) dU.ann Tryd.f94.results.toList (dL Tryd.f94) Tryd.f94.ntmps k [x0, x1] h = dU.c G k self x0 x1 h := by kernel_rfl
theorem dU.sound {G : aG} (hG : ∀ g x, G g = some x → bZ x = true) : ∀ k, Sound Tryd.prog G 94 (dU.f G k)
 | 0 => bL dU.here (fun _ _ => rfl)
 | k + 1 => bT (l := dU.env G k (dU.f G k)) (ann := dU.ann) (n := k) (bE hG (cB (dM.sound hG k) (cB (dJ.sound hG k) (cB (eZ.sound hG k) dW)))) orders Tryd.func94 (by kernel_rfl) (by kernel_rfl) rfl (by kernel_rfl) (gH fun x0 x1 h => dU.eq G k _ x0 x1 h)
theorem eD.here : HrP Tryd.prog 70 := ⟨_, Tryd.func70, by kernel_rfl, by kernel_rfl⟩
theorem eD.eq (G : aG) (k : Nat) (self : cD) (x0 x1 x2 x3 : AV) (h : aB) : fD Tryd.prog G (fJ (eD.env G k self)) eD.ann Tryd.f70.results.toList (dL Tryd.f70) Tryd.f70.ntmps k [x0, x1, x2, x3] h = eD.c G k self x0 x1 x2 x3 h := by kernel_rfl
theorem eD.sound {G : aG} (hG : ∀ g x, G g = some x → bZ x = true) : ∀ k, Sound Tryd.prog G 70 (eD.f G k)
 | 0 => bL eD.here (fun _ _ => rfl)
 | k + 1 => bT (l := eD.env G k (eD.f G k)) (ann := eD.ann) (n := k) (bE hG (cB (bH.sound hG k) (cB (cW.sound hG k) (cB (dU.sound hG k) dW)))) orders Tryd.func70 (by kernel_rfl) (by kernel_rfl) rfl (by kernel_rfl) (pO fun x0 x1 x2 x3 h => eD.eq G k _ x0 x1 x2 x3 h)
theorem fU.here : HrP Tryd.prog 39 := ⟨_, Tryd.func39, by kernel_rfl, by kernel_rfl⟩
theorem fU.eq (G : aG) (k : Nat) (self : cD) (x0 x1 x2 : AV) (h : aB) : fD Tryd.prog G (fJ (fU.env G k self)) fU.ann Tryd.f39.results.toList (dL Tryd.f39) Tryd.f39.ntmps k [x0, x1, x2] h = fU.c G k self x0 x1 x2 h := by kernel_rfl
theorem fU.sound {G : aG} (hG : ∀ g x, G g = some x → bZ x = true) : ∀ k, Sound Tryd.prog G 39 (fU.f G k)
 | 0 => bL fU.here (fun _ _ => rfl)
 | k + 1 => bT (l := fU.env G k (fU.f G k)) (ann := fU.ann) (n := k) (bE hG (cB (cK.sound hG k) (cB (eY.sound hG k) (cB (eD.sound hG k) dW)))) orders Tryd.func39 (by kernel_rfl) (by kernel_rfl) rfl (by kernel_rfl) (lD fun x0 x1 x2 h => fU.eq G k _ x0 x1 x2 h)
theorem cH.here : HrP Tryd.prog 10 := ⟨_, Tryd.func10, by kernel_rfl, by kernel_rfl⟩
theorem cH.eq (G : aG) (k : Nat) (self : cD) (h : aB) : fD Tryd.prog G (fJ (cH.env G k self)) cH.ann Tryd.f10.results.toList (dL Tryd.f10) Tryd.f10.ntmps k [] h = cH.c G k self h := by kernel_rfl
theorem cH.sound {G : aG} (hG : ∀ g x, G g = some x → bZ x = true) : ∀ k, Sound Tryd.prog G 10 (cH.f G k)
 | 0 => bL cH.here (fun _ _ => rfl)
 | k + 1 => bT (l := cH.env G k (cH.f G k)) (ann := cH.ann) (n := k) (bE hG (cB (cC.sound hG k) (cB (fU.sound hG k) dW))) orders Tryd.func10 (by kernel_rfl) (by kernel_rfl) rfl (by kernel_rfl) (aHW fun h => cH.eq G k _ h)
theorem aX.here : HrP Tryd.prog 12 := ⟨_, Tryd.func12, by kernel_rfl, by kernel_rfl⟩
theorem aX.eq (G : aG) (k : Nat) (self : cD) (x0 : AV) (h : aB) : qN Tryd.prog G (fJ (aX.env G k self)) aX.ann Tryd.f12.results.toList (dL Tryd.f12) Tryd.f12.ntmps k [x0] h = aX.c G k self x0 h := by kernel_rfl
theorem aX.sound {G : aG} (hG : ∀ g x, G g = some x → bZ x = true) : ∀ k, Sound Tryd.prog G 12 (aX.f G k)
 | 0 => bL aX.here (fun _ _ => rfl)
 | k + 1 => mT (l := aX.env G k (aX.f G k)) (ann := aX.ann) (n := k) (bE hG dW) orders Tryd.func12 (by kernel_rfl) (by kernel_rfl) rfl (by kernel_rfl) (gR fun x0 h => aX.eq G k _ x0 h)
theorem cX.here : HrP Tryd.prog 48 := ⟨_, Tryd.func48, by kernel_rfl, by kernel_rfl⟩
theorem cX.eq (G : aG) (k : Nat) (self : cD) (x0 : AV) (h : aB) : fD Tryd.prog G (fJ (cX.env G k self)) cX.ann Tryd.f48.results.toList (dL Tryd.f48) Tryd.f48.ntmps k [x0] h = cX.c G k self x0 h := by kernel_rfl
theorem cX.sound {G : aG} (hG : ∀ g x, G g = some x → bZ x = true) : ∀ k, Sound Tryd.prog G 48 (cX.f G k)
 | 0 => bL cX.here (fun _ _ => rfl)
 | k + 1 => bT (l := cX.env G k (cX.f G k)) (ann := cX.ann) (n := k) (bE hG dW) orders Tryd.func48 (by kernel_rfl) (by kernel_rfl) rfl (by kernel_rfl) (gR fun x0 h => cX.eq G k _ x0 h)
theorem dI.here : HrP Tryd.prog 81 := ⟨_, Tryd.func81, by kernel_rfl, by kernel_rfl⟩
theorem dI.eq (G : aG) (k : Nat) (self : cD) (x0 x1 : AV) (h : aB) : fD Tryd.prog G (fJ (dI.env G k self)) dI.ann Tryd.f81.results.toList (dL Tryd.f81) Tryd.f81.ntmps k [x0, x1] h = dI.c G k self x0 x1 h := by kernel_rfl
theorem dI.sound {G : aG} (hG : ∀ g x, G g = some x → bZ x = true) : ∀ k, Sound Tryd.prog G 81 (dI.f G k)
 | 0 => bL dI.here (fun _ _ => rfl)
 | k + 1 => bT (l := dI.env G k (dI.f G k)) (ann := dI.ann) (n := k) (bE hG dW) orders Tryd.func81 (by kernel_rfl) (by kernel_rfl) rfl (by kernel_rfl) (gH fun x0 x1 h => dI.eq G k _ x0 x1 h)
theorem cG.here : HrP Tryd.prog 82 := ⟨_, Tryd.func82, by kernel_rfl, by kernel_rfl⟩
theorem cG.eq (G : aG) (k : Nat) (self : cD) (x0 x1 : AV) (h : aB) : fD Tryd.prog G (fJ (cG.env G k self)) cG.ann Tryd.f82.results.toList (dL Tryd.f82) Tryd.f82.ntmps k [x0, x1] h = cG.c G k self x0 x1 h := by kernel_rfl
theorem cG.sound {G : aG} (hG : ∀ g x, G g = some x → bZ x = true) : ∀ k, Sound Tryd.prog G 82 (cG.f G k)
 | 0 => bL cG.here (fun _ _ => rfl)
 | k + 1 => bT (l := cG.env G k (cG.f G k)) (ann := cG.ann) (n := k) (bE hG dW) orders Tryd.func82 (by kernel_rfl) (by kernel_rfl) rfl (by kernel_rfl) (gH fun x0 x1 h => cG.eq G k _ x0 x1 h)
theorem cZ.here : HrP Tryd.prog 83 := ⟨_, Tryd.func83, by kernel_rfl, by kernel_rfl⟩
theorem cZ.eq (G : aG) (k : Nat) (self : cD) (x0 x1 : AV) (h : aB) : fD Tryd.prog G (fJ (cZ.env G k self)) cZ.ann Tryd.f83.results.toList (dL Tryd.f83) Tryd.f83.ntmps k [x0, x1] h = cZ.c G k self x0 x1 h := by kernel_rfl
theorem cZ.sound {G : aG} (hG : ∀ g x, G g = some x → bZ x = true) : ∀ k, Sound Tryd.prog G 83 (cZ.f G k)
 | 0 => bL cZ.here (fun _ _ => rfl)
 | k + 1 => bT (l := cZ.env G k (cZ.f G k)) (ann := cZ.ann) (n := k) (bE hG dW) orders Tryd.func83 (by kernel_rfl) (by kernel_rfl) rfl (by kernel_rfl) (gH fun x0 x1 h => cZ.eq G k _ x0 x1 h)
theorem cF.here : HrP Tryd.prog 84 := ⟨_, Tryd.func84, by kernel_rfl, by kernel_rfl⟩
theorem cF.eq (G : aG) (k : Nat) (self : cD) (x0 x1 : AV) (h : aB) : fD Tryd.prog G (fJ (cF.env G k self)) cF.ann Tryd.f84.results.toList (dL Tryd.f84) Tryd.f84.ntmps k [x0, x1] h = cF.c G k self x0 x1 h := by kernel_rfl
theorem cF.sound {G : aG} (hG : ∀ g x, G g = some x → bZ x = true) : ∀ k, Sound Tryd.prog G 84 (cF.f G k)
 | 0 => bL cF.here (fun _ _ => rfl)
 | k + 1 => bT (l := cF.env G k (cF.f G k)) (ann := cF.ann) (n := k) (bE hG (cB (cG.sound hG k) (cB (bV.sound hG k) dW))) orders Tryd.func84 (by kernel_rfl) (by kernel_rfl) rfl (by kernel_rfl) (gH fun x0 x1 h => cF.eq G k _ x0 x1 h)
theorem cT.here : HrP Tryd.prog 49 := ⟨_, Tryd.func49, by kernel_rfl, by kernel_rfl⟩
theorem cT.eq (G : aG) (k : Nat) (self : cD) (x0 x1 x2 : AV) (h : aB) : fD Tryd.prog G (fJ (cT.env G k self)) cT.ann Tryd.f49.results.toList (dL Tryd.f49) Tryd.f49.ntmps k [x0, x1, x2] h = cT.c G k self x0 x1 x2 h := by kernel_rfl
theorem cT.sound {G : aG} (hG : ∀ g x, G g = some x → bZ x = true) : ∀ k, Sound Tryd.prog G 49 (cT.f G k)
 | 0 => bL cT.here (fun _ _ => rfl)
 | k + 1 => bT (l := cT.env G k (cT.f G k)) (ann := cT.ann) (n := k) (bE hG (cB (dI.sound hG k) (cB (cG.sound hG k) (cB (cZ.sound hG k) (cB (cF.sound hG k) dW))))) orders Tryd.func49 (by kernel_rfl) (by kernel_rfl) rfl (by kernel_rfl) (lD fun x0 x1 x2 h => cT.eq G k _ x0 x1 x2 h)
theorem bS.here : HrP Tryd.prog 50 := ⟨_, Tryd.func50, by kernel_rfl, by kernel_rfl⟩
theorem bS.eq (G : aG) (k : Nat) (self : cD) (x0 x1 x2 x3 : AV) (h : aB) : fD Tryd.prog G (fJ (bS.env G k self)) bS.ann Tryd.f50.results.toList (dL Tryd.f50) Tryd.f50.ntmps k [x0, x1, x2, x3] h = bS.c G k self x0 x1 x2 x3 h := by kernel_rfl
theorem bS.sound {G : aG} (hG : ∀ g x, G g = some x → bZ x = true) : ∀ k, Sound Tryd.prog G 50 (bS.f G k)
 | 0 => bL bS.here (fun _ _ => rfl)
 | k + 1 => bT (l := bS.env G k (bS.f G k)) (ann := bS.ann) (n := k) (bE hG (cB (bV.sound hG k) dW)) orders Tryd.func50 (by kernel_rfl) (by kernel_rfl) rfl (by kernel_rfl) (pO fun x0 x1 x2 x3 h => bS.eq G k _ x0 x1 x2 x3 h)
theorem bK.here : HrP Tryd.prog 14 := ⟨_, Tryd.func14, by kernel_rfl, by kernel_rfl⟩
theorem bK.eq (G : aG) (k : Nat) (self : cD) (x0 x1 x2 x3 : AV) (h : aB) : fD Tryd.prog G (fJ (bK.env G k self)) bK.ann Tryd.f14.results.toList (dL Tryd.f14) Tryd.f14.ntmps k [x0, x1, x2, x3] h = bK.c G k self x0 x1 x2 x3 h := by kernel_rfl
theorem bK.sound {G : aG} (hG : ∀ g x, G g = some x → bZ x = true) : ∀ k, Sound Tryd.prog G 14 (bK.f G k)
 | 0 => bL bK.here (fun _ _ => rfl)
 | k + 1 => bT (l := bK.env G k (bK.f G k)) (ann := bK.ann) (n := k) (bE hG (cB (aX.sound hG k) (cB (cX.sound hG k) (cB (cT.sound hG k) (cB (bS.sound hG k) dW))))) orders Tryd.func14 (by kernel_rfl) (by kernel_rfl) rfl (by kernel_rfl) (pO fun x0 x1 x2 x3 h => bK.eq G k _ x0 x1 x2 x3 h)
theorem bR.here : HrP Tryd.prog 15 := ⟨_, Tryd.func15, by kernel_rfl, by kernel_rfl⟩
theorem bR.eq (G : aG) (k : Nat) (self : cD) (x0 : AV) (h : aB) : fD Tryd.prog G (fJ (bR.env G k self)) bR.ann Tryd.f15.results.toList (dL Tryd.f15) Tryd.f15.ntmps k [x0] h = bR.c G k self x0 h := by kernel_rfl
theorem bR.sound {G : aG} (hG : ∀ g x, G g = some x → bZ x = true) : ∀ k, Sound Tryd.prog G 15 (bR.f G k)
 | 0 => bL bR.here (fun _ _ => rfl)
 | k + 1 => bT (l := bR.env G k (bR.f G k)) (ann := bR.ann) (n := k) (bE hG dW) orders Tryd.func15 (by kernel_rfl) (by kernel_rfl) rfl (by kernel_rfl) (gR fun x0 h => bR.eq G k _ x0 h)
theorem bQ.here : HrP Tryd.prog 16 := ⟨_, Tryd.func16, by kernel_rfl, by kernel_rfl⟩
theorem bQ.eq (G : aG) (k : Nat) (self : cD) (x0 x1 : AV) (h : aB) : fD Tryd.prog G (fJ (bQ.env G k self)) bQ.ann Tryd.f16.results.toList (dL Tryd.f16) Tryd.f16.ntmps k [x0, x1] h = bQ.c G k self x0 x1 h := by kernel_rfl
theorem bQ.sound {G : aG} (hG : ∀ g x, G g = some x → bZ x = true) : ∀ k, Sound Tryd.prog G 16 (bQ.f G k)
 | 0 => bL bQ.here (fun _ _ => rfl)
 | k + 1 => bT (l := bQ.env G k (bQ.f G k)) (ann := bQ.ann) (n := k) (bE hG dW) orders Tryd.func16 (by kernel_rfl) (by kernel_rfl) rfl (by kernel_rfl) (gH fun x0 x1 h => bQ.eq G k _ x0 x1 h)
theorem bA.here : HrP Tryd.prog 17 := ⟨_, Tryd.func17, by kernel_rfl, by kernel_rfl⟩
theorem bA.eq (G : aG) (k : Nat) (self : cD) (x0 x1 : AV) (h : aB) : fD Tryd.prog G (fJ (bA.env G k self)) bA.ann Tryd.f17.results.toList (dL Tryd.f17) Tryd.f17.ntmps k [x0, x1] h = bA.c G k self x0 x1 h := by kernel_rfl
theorem bA.sound {G : aG} (hG : ∀ g x, G g = some x → bZ x = true) : ∀ k, Sound Tryd.prog G 17 (bA.f G k)
 | 0 => bL bA.here (fun _ _ => rfl)
 | k + 1 => bT (l := bA.env G k (bA.f G k)) (ann := bA.ann) (n := k) (bE hG dW) orders Tryd.func17 (by kernel_rfl) (by kernel_rfl) rfl (by kernel_rfl) (gH fun x0 x1 h => bA.eq G k _ x0 x1 h)
theorem bJ.here : HrP Tryd.prog 11 := ⟨_, Tryd.func11, by kernel_rfl, by kernel_rfl⟩
theorem bJ.eq (G : aG) (k : Nat) (self : cD) (x0 x1 : AV) (h : aB) : fD Tryd.prog G (fJ (bJ.env G k self)) bJ.ann Tryd.f11.results.toList (dL Tryd.f11) Tryd.f11.ntmps k [x0, x1] h = bJ.c G k self x0 x1 h := by kernel_rfl
theorem bJ.sound {G : aG} (hG : ∀ g x, G g = some x → bZ x = true) : ∀ k, Sound Tryd.prog G 11 (bJ.f G k)
 | 0 => bL bJ.here (fun _ _ => rfl)
 | k + 1 => bT (l := bJ.env G k (bJ.f G k)) (ann := bJ.ann) (n := k) (bE hG dW) orders Tryd.func11 (by kernel_rfl) (by kernel_rfl) rfl (by kernel_rfl) (gH fun x0 x1 h => bJ.eq G k _ x0 x1 h)
theorem alembiclaw21_AllocMany.here : HrP Tryd.prog 3 := ⟨_, Tryd.func3, by kernel_rfl, by kernel_rfl⟩
theorem alembiclaw21_AllocMany.eq (G : aG) (k : Nat) (self : cD) (x0 x1 x2 : AV) (h : aB) : fD Tryd.prog G (fJ (alembiclaw21_AllocMany.env G k self)) alembiclaw21_AllocMany.ann Tryd.f3.results.toList (dL Tryd.f3) Tryd.f3.ntmps k [x0, x1, x2] h = alembiclaw21_AllocMany.c G k self x0 x1 x2 h := by kernel_rfl
theorem alembiclaw21_AllocMany.sound {G : aG} (hG : ∀ g x, G g = some x → bZ x = true) : ∀ k, Sound Tryd.prog G 3 (alembiclaw21_AllocMany.f G k)
 | 0 => bL alembiclaw21_AllocMany.here (fun _ _ => rfl)
 | k + 1 => bT (l := alembiclaw21_AllocMany.env G k (alembiclaw21_AllocMany.f G k)) (ann := alembiclaw21_AllocMany.ann) (n := k) (bE hG (cB (cH.sound hG k) (cB (bJ.sound hG k) (cB (aX.sound hG k) (cB (cC.sound hG k) (cB (bK.sound hG k) (cB (bR.sound hG k) (cB (bQ.sound hG k) (cB (bA.sound hG k) dW))))))))) orders Tryd.func3 (by kernel_rfl) (by kernel_rfl) rfl (by kernel_rfl) (lD fun x0 x1 x2 h => alembiclaw21_AllocMany.eq G k _ x0 x1 x2 h)
end Go.Proofs.YtlkgkfgkiidhdaaDoor.Mir
