/- Part 6 of the proof: the functions that the statement reaches, and their contracts. -/
import Derived.Test.YtlkgkfgkiidhdaaDoorVm5
import Derived.Test.YtlkgkfgkiidhdaaDoorProg
import Derived.KernelRfl
namespace Go.Proofs.YtlkgkfgkiidhdaaDoor.Mir
open Go
set_option linter.unusedVariables false
theorem orders : Tryd.prog.follows .mixedOrders = true := by kernel_rfl
theorem dQ.here : HrP Tryd.prog 86 := ⟨_, Tryd.func86, by kernel_rfl, by kernel_rfl⟩
theorem dQ.eq (G : aE) (k : Nat) (self : cU) (x0 : AV) (h : aA) : fQ Tryd.prog G (fZ (dQ.env G k self)) dQ.ann Tryd.f86.results.toList (dV Tryd.f86) Tryd.f86.ntmps k [x0] h = dQ.c G k self x0 h := by kernel_rfl
theorem dQ.sound {G : aE} (hG : ∀ g x, G g = some x → bQ x = true) : ∀ k, Sound Tryd.prog G 86 (dQ.f G k)
 | 0 => cJ dQ.here (fun _ _ => rfl)
 | k + 1 => cS (l := dQ.env G k (dQ.f G k)) (ann := dQ.ann) (n := k) (bX hG eU) orders Tryd.func86 (by kernel_rfl) (by kernel_rfl) rfl (by kernel_rfl) (gT fun x0 h => dQ.eq G k _ x0 h)
theorem dF.here : HrP Tryd.prog 51 := ⟨_, Tryd.func51, by kernel_rfl, by kernel_rfl⟩
theorem dF.eq (G : aE) (k : Nat) (self : cU) (x0 : AV) (h : aA) : fQ Tryd.prog G (fZ (dF.env G k self)) dF.ann Tryd.f51.results.toList (dV Tryd.f51) Tryd.f51.ntmps k [x0] h = dF.c G k self x0 h := by kernel_rfl
theorem dF.sound {G : aE} (hG : ∀ g x, G g = some x → bQ x = true) : ∀ k, Sound Tryd.prog G 51 (dF.f G k)
 | 0 => cJ dF.here (fun _ _ => rfl)
 | k + 1 => cS (l := dF.env G k (dF.f G k)) (ann := dF.ann) (n := k) (bX hG (dB (dQ.sound hG k) eU)) orders Tryd.func51 (by kernel_rfl) (by kernel_rfl) rfl (by kernel_rfl) (gT fun x0 h => dF.eq G k _ x0 h)
theorem eQ.here : HrP Tryd.prog 95 := ⟨_, Tryd.func95, by kernel_rfl, by kernel_rfl⟩
theorem eQ.eq (G : aE) (k : Nat) (self : cU) (x0 x1 : AV) (h : aA) : fQ Tryd.prog G (fZ (eQ.env G k self)) eQ.ann Tryd.f95.results.toList (dV Tryd.f95) Tryd.f95.ntmps k [x0, x1] h = eQ.c G k self x0 x1 h := by kernel_rfl
theorem eQ.sound {G : aE} (hG : ∀ g x, G g = some x → bQ x = true) : ∀ k, Sound Tryd.prog G 95 (eQ.f G k)
 | 0 => cJ eQ.here (fun _ _ => rfl)
 | k + 1 => cS (l := eQ.env G k (eQ.f G k)) (ann := eQ.ann) (n := k) (bX hG eU) orders Tryd.func95 (by kernel_rfl) (by kernel_rfl) rfl (by kernel_rfl) (iR fun x0 x1 h => eQ.eq G k _ x0 x1 h)
theorem bZ.here : HrP Tryd.prog 72 := ⟨_, Tryd.func72, by kernel_rfl, by kernel_rfl⟩
theorem bZ.eq (G : aE) (k : Nat) (self : cU) (x0 x1 : AV) (h : aA) : fQ Tryd.prog G (fZ (bZ.env G k self)) bZ.ann Tryd.f72.results.toList (dV Tryd.f72) Tryd.f72.ntmps k [x0, x1] h = bZ.c G k self x0 x1 h := by kernel_rfl
theorem bZ.sound {G : aE} (hG : ∀ g x, G g = some x → bQ x = true) : ∀ k, Sound Tryd.prog G 72 (bZ.f G k)
 | 0 => cJ bZ.here (fun _ _ => rfl)
 | k + 1 => cS (l := bZ.env G k (bZ.f G k)) (ann := bZ.ann) (n := k) (bX hG (dB (dF.sound hG k) (dB (eQ.sound hG k) eU))) orders Tryd.func72 (by kernel_rfl) (by kernel_rfl) rfl (by kernel_rfl) (iR fun x0 x1 h => bZ.eq G k _ x0 x1 h)
theorem bV.here : HrP Tryd.prog 43 := ⟨_, Tryd.func43, by kernel_rfl, by kernel_rfl⟩
theorem bV.eq (G : aE) (k : Nat) (self : cU) (x0 : AV) (h : aA) : fQ Tryd.prog G (fZ (bV.env G k self)) bV.ann Tryd.f43.results.toList (dV Tryd.f43) Tryd.f43.ntmps k [x0] h = bV.c G k self x0 h := by kernel_rfl
theorem bV.sound {G : aE} (hG : ∀ g x, G g = some x → bQ x = true) : ∀ k, Sound Tryd.prog G 43 (bV.f G k)
 | 0 => cJ bV.here (fun _ _ => rfl)
 | k + 1 => cS (l := bV.env G k (bV.f G k)) (ann := bV.ann) (n := k) (bX hG (dB (bZ.sound hG k) eU)) orders Tryd.func43 (by kernel_rfl) (by kernel_rfl) rfl (by kernel_rfl) (gT fun x0 h => bV.eq G k _ x0 h)
theorem cX.here : HrP Tryd.prog 20 := ⟨_, Tryd.func20, by kernel_rfl, by kernel_rfl⟩
theorem cX.eq (G : aE) (k : Nat) (self : cU) (x0 : AV) (h : aA) : fQ Tryd.prog G (fZ (cX.env G k self)) cX.ann Tryd.f20.results.toList (dV Tryd.f20) Tryd.f20.ntmps k [x0] h = cX.c G k self x0 h := by kernel_rfl
theorem cX.sound {G : aE} (hG : ∀ g x, G g = some x → bQ x = true) : ∀ k, Sound Tryd.prog G 20 (cX.f G k)
 | 0 => cJ cX.here (fun _ _ => rfl)
 | k + 1 => cS (l := cX.env G k (cX.f G k)) (ann := cX.ann) (n := k) (bX hG (dB (dF.sound hG k) eU)) orders Tryd.func20 (by kernel_rfl) (by kernel_rfl) rfl (by kernel_rfl) (gT fun x0 h => cX.eq G k _ x0 h)
theorem bD.here : HrP Tryd.prog 120 := ⟨_, Tryd.func120, by kernel_rfl, by kernel_rfl⟩
theorem bD.eq (G : aE) (k : Nat) (self : cU) (x0 : AV) (h : aA) : fQ Tryd.prog G (fZ (bD.env G k self)) bD.ann Tryd.f120.results.toList (dV Tryd.f120) Tryd.f120.ntmps k [x0] h = bD.c G k self x0 h := by kernel_rfl
theorem bD.sound {G : aE} (hG : ∀ g x, G g = some x → bQ x = true) : ∀ k, Sound Tryd.prog G 120 (bD.f G k)
 | 0 => cJ bD.here (fun _ _ => rfl)
 | k + 1 => cS (l := bD.env G k (bD.f G k)) (ann := bD.ann) (n := k) (bX hG eU) orders Tryd.func120 (by kernel_rfl) (by kernel_rfl) rfl (by kernel_rfl) (gT fun x0 h => bD.eq G k _ x0 h)
theorem bH.here : HrP Tryd.prog 103 := ⟨_, Tryd.func103, by kernel_rfl, by kernel_rfl⟩
theorem bH.eq (G : aE) (k : Nat) (self : cU) (x0 x1 : AV) (h : aA) : fQ Tryd.prog G (fZ (bH.env G k self)) bH.ann Tryd.f103.results.toList (dV Tryd.f103) Tryd.f103.ntmps k [x0, x1] h = bH.c G k self x0 x1 h := by kernel_rfl
theorem bH.sound {G : aE} (hG : ∀ g x, G g = some x → bQ x = true) : ∀ k, Sound Tryd.prog G 103 (bH.f G k)
 | 0 => cJ bH.here (fun _ _ => rfl)
 | k + 1 => cS (l := bH.env G k (bH.f G k)) (ann := bH.ann) (n := k) (bX hG (dB (bD.sound hG k) eU)) orders Tryd.func103 (by kernel_rfl) (by kernel_rfl) rfl (by kernel_rfl) (iR fun x0 x1 h => bH.eq G k _ x0 x1 h)
theorem aD.here : HrP Tryd.prog 97 := ⟨_, Tryd.func97, by kernel_rfl, by kernel_rfl⟩
theorem aD.eq (G : aE) (k : Nat) (self : cU) (x0 x1 x2 : AV) (h : aA) : fQ Tryd.prog G (fZ (aD.env G k self)) aD.ann Tryd.f97.results.toList (dV Tryd.f97) Tryd.f97.ntmps k [x0, x1, x2] h = aD.c G k self x0 x1 x2 h := by kernel_rfl
theorem aD.sound {G : aE} (hG : ∀ g x, G g = some x → bQ x = true) : ∀ k, Sound Tryd.prog G 97 (aD.f G k)
 | 0 => cJ aD.here (fun _ _ => rfl)
 | k + 1 => cS (l := aD.env G k (aD.f G k)) (ann := aD.ann) (n := k) (bX hG (dB (bH.sound hG k) eU)) orders Tryd.func97 (by kernel_rfl) (by kernel_rfl) rfl (by kernel_rfl) (pP fun x0 x1 x2 h => aD.eq G k _ x0 x1 x2 h)
theorem aJ.here : HrP Tryd.prog 87 := ⟨_, Tryd.func87, by kernel_rfl, by kernel_rfl⟩
theorem aJ.eq (G : aE) (k : Nat) (self : cU) (x0 x1 x2 x3 : AV) (h : aA) : fQ Tryd.prog G (fZ (aJ.env G k self)) aJ.ann Tryd.f87.results.toList (dV Tryd.f87) Tryd.f87.ntmps k [x0, x1, x2, x3] h = aJ.c G k self x0 x1 x2 x3 h := by kernel_rfl
theorem aJ.sound {G : aE} (hG : ∀ g x, G g = some x → bQ x = true) : ∀ k, Sound Tryd.prog G 87 (aJ.f G k)
 | 0 => cJ aJ.here (fun _ _ => rfl)
 | k + 1 => cS (l := aJ.env G k (aJ.f G k)) (ann := aJ.ann) (n := k) (bX hG (dB (aJ.sound hG k) (dB (aD.sound hG k) (dB (bH.sound hG k) eU)))) orders Tryd.func87 (by kernel_rfl) (by kernel_rfl) rfl (by kernel_rfl) (aAf fun x0 x1 x2 x3 h => aJ.eq G k _ x0 x1 x2 x3 h)
theorem cO.here : HrP Tryd.prog 106 := ⟨_, Tryd.func106, by kernel_rfl, by kernel_rfl⟩
theorem cO.eq (G : aE) (k : Nat) (self : cU) (x0 : AV) (h : aA) : fQ Tryd.prog G (fZ (cO.env G k self)) cO.ann Tryd.f106.results.toList (dV Tryd.f106) Tryd.f106.ntmps k [x0] h = cO.c G k self x0 h := by kernel_rfl
theorem cO.sound {G : aE} (hG : ∀ g x, G g = some x → bQ x = true) : ∀ k, Sound Tryd.prog G 106 (cO.f G k)
 | 0 => cJ cO.here (fun _ _ => rfl)
 | k + 1 => cS (l := cO.env G k (cO.f G k)) (ann := cO.ann) (n := k) (bX hG eU) orders Tryd.func106 (by kernel_rfl) (by kernel_rfl) rfl (by kernel_rfl) (gT fun x0 h => cO.eq G k _ x0 h)
theorem cP.here : HrP Tryd.prog 107 := ⟨_, Tryd.func107, by kernel_rfl, by kernel_rfl⟩
theorem cP.eq (G : aE) (k : Nat) (self : cU) (x0 : AV) (h : aA) : fQ Tryd.prog G (fZ (cP.env G k self)) cP.ann Tryd.f107.results.toList (dV Tryd.f107) Tryd.f107.ntmps k [x0] h = cP.c G k self x0 h := by kernel_rfl
theorem cP.sound {G : aE} (hG : ∀ g x, G g = some x → bQ x = true) : ∀ k, Sound Tryd.prog G 107 (cP.f G k)
 | 0 => cJ cP.here (fun _ _ => rfl)
 | k + 1 => cS (l := cP.env G k (cP.f G k)) (ann := cP.ann) (n := k) (bX hG eU) orders Tryd.func107 (by kernel_rfl) (by kernel_rfl) rfl (by kernel_rfl) (gT fun x0 h => cP.eq G k _ x0 h)
theorem cL.here : HrP Tryd.prog 88 := ⟨_, Tryd.func88, by kernel_rfl, by kernel_rfl⟩
theorem cL.eq (G : aE) (k : Nat) (self : cU) (x0 : AV) (h : aA) : fQ Tryd.prog G (fZ (cL.env G k self)) cL.ann Tryd.f88.results.toList (dV Tryd.f88) Tryd.f88.ntmps k [x0] h = cL.c G k self x0 h := by kernel_rfl
theorem cL.sound {G : aE} (hG : ∀ g x, G g = some x → bQ x = true) : ∀ k, Sound Tryd.prog G 88 (cL.f G k)
 | 0 => cJ cL.here (fun _ _ => rfl)
 | k + 1 => cS (l := cL.env G k (cL.f G k)) (ann := cL.ann) (n := k) (bX hG (dB (cO.sound hG k) (dB (cP.sound hG k) eU))) orders Tryd.func88 (by kernel_rfl) (by kernel_rfl) rfl (by kernel_rfl) (gT fun x0 h => cL.eq G k _ x0 h)
theorem aM.here : HrP Tryd.prog 53 := ⟨_, Tryd.func53, by kernel_rfl, by kernel_rfl⟩
theorem aM.eq (G : aE) (k : Nat) (self : cU) (x0 : AV) (h : aA) : fQ Tryd.prog G (fZ (aM.env G k self)) aM.ann Tryd.f53.results.toList (dV Tryd.f53) Tryd.f53.ntmps k [x0] h = aM.c G k self x0 h := by kernel_rfl
theorem aM.sound {G : aE} (hG : ∀ g x, G g = some x → bQ x = true) : ∀ k, Sound Tryd.prog G 53 (aM.f G k)
 | 0 => cJ aM.here (fun _ _ => rfl)
 | k + 1 => cS (l := aM.env G k (aM.f G k)) (ann := aM.ann) (n := k) (bX hG (dB (aJ.sound hG k) (dB (cL.sound hG k) eU))) orders Tryd.func53 (by kernel_rfl) (by kernel_rfl) rfl (by kernel_rfl) (gT fun x0 h => aM.eq G k _ x0 h)
theorem aC.here : HrP Tryd.prog 54 := ⟨_, Tryd.func54, by kernel_rfl, by kernel_rfl⟩
theorem aC.eq (G : aE) (k : Nat) (self : cU) (x0 : AV) (h : aA) : fQ Tryd.prog G (fZ (aC.env G k self)) aC.ann Tryd.f54.results.toList (dV Tryd.f54) Tryd.f54.ntmps k [x0] h = aC.c G k self x0 h := by kernel_rfl
theorem aC.sound {G : aE} (hG : ∀ g x, G g = some x → bQ x = true) : ∀ k, Sound Tryd.prog G 54 (aC.f G k)
 | 0 => cJ aC.here (fun _ _ => rfl)
 | k + 1 => cS (l := aC.env G k (aC.f G k)) (ann := aC.ann) (n := k) (bX hG eU) orders Tryd.func54 (by kernel_rfl) (by kernel_rfl) rfl (by kernel_rfl) (gT fun x0 h => aC.eq G k _ x0 h)
theorem bI.here : HrP Tryd.prog 23 := ⟨_, Tryd.func23, by kernel_rfl, by kernel_rfl⟩
theorem bI.eq (G : aE) (k : Nat) (self : cU) (x0 : AV) (h : aA) : fQ Tryd.prog G (fZ (bI.env G k self)) bI.ann Tryd.f23.results.toList (dV Tryd.f23) Tryd.f23.ntmps k [x0] h = bI.c G k self x0 h := by kernel_rfl
theorem bI.sound {G : aE} (hG : ∀ g x, G g = some x → bQ x = true) : ∀ k, Sound Tryd.prog G 23 (bI.f G k)
 | 0 => cJ bI.here (fun _ _ => rfl)
 | k + 1 => cS (l := bI.env G k (bI.f G k)) (ann := bI.ann) (n := k) (bX hG (dB (dF.sound hG k) (dB (aM.sound hG k) (dB (aC.sound hG k) eU)))) orders Tryd.func23 (by kernel_rfl) (by kernel_rfl) rfl (by kernel_rfl) (gT fun x0 h => bI.eq G k _ x0 h)
theorem cY.here : HrP Tryd.prog 69 := ⟨_, Tryd.func69, by kernel_rfl, by kernel_rfl⟩
theorem cY.eq (G : aE) (k : Nat) (self : cU) (x0 x1 x2 : AV) (h : aA) : fQ Tryd.prog G (fZ (cY.env G k self)) cY.ann Tryd.f69.results.toList (dV Tryd.f69) Tryd.f69.ntmps k [x0, x1, x2] h = cY.c G k self x0 x1 x2 h := by kernel_rfl
theorem cY.sound {G : aE} (hG : ∀ g x, G g = some x → bQ x = true) : ∀ k, Sound Tryd.prog G 69 (cY.f G k)
 | 0 => cJ cY.here (fun _ _ => rfl)
 | k + 1 => cS (l := cY.env G k (cY.f G k)) (ann := cY.ann) (n := k) (bX hG eU) orders Tryd.func69 (by kernel_rfl) (by kernel_rfl) rfl (by kernel_rfl) (pP fun x0 x1 x2 h => cY.eq G k _ x0 x1 x2 h)
theorem aK.here : HrP Tryd.prog 92 := ⟨_, Tryd.func92, by kernel_rfl, by kernel_rfl⟩
theorem aK.eq (G : aE) (k : Nat) (self : cU) (x0 : AV) (h : aA) : vQ Tryd.prog G (fZ (aK.env G k self)) aK.ann Tryd.f92.results.toList (dV Tryd.f92) Tryd.f92.ntmps k [x0] h = aK.c G k self x0 h := by kernel_rfl
theorem aK.sound {G : aE} (hG : ∀ g x, G g = some x → bQ x = true) : ∀ k, Sound Tryd.prog G 92 (aK.f G k)
 | 0 => cJ aK.here (fun _ _ => rfl)
 | k + 1 => uT (l := aK.env G k (aK.f G k)) (ann := aK.ann) (n := k) (bX hG eU) orders Tryd.func92 (by kernel_rfl) (by kernel_rfl) rfl (by kernel_rfl) (gT fun x0 h => aK.eq G k _ x0 h)
theorem bE.here : HrP Tryd.prog 93 := ⟨_, Tryd.func93, by kernel_rfl, by kernel_rfl⟩
theorem bE.eq (G : aE) (k : Nat) (self : cU) (x0 x1 x2 : AV) (h : aA) : fQ Tryd.prog G (fZ (bE.env G k self)) bE.ann Tryd.f93.results.toList (dV Tryd.f93) Tryd.f93.ntmps k [x0, x1, x2] h = bE.c G k self x0 x1 x2 h := by kernel_rfl
theorem bE.sound {G : aE} (hG : ∀ g x, G g = some x → bQ x = true) : ∀ k, Sound Tryd.prog G 93 (bE.f G k)
 | 0 => cJ bE.here (fun _ _ => rfl)
 | k + 1 => cS (l := bE.env G k (bE.f G k)) (ann := bE.ann) (n := k) (bX hG eU) orders Tryd.func93 (by kernel_rfl) (by kernel_rfl) rfl (by kernel_rfl) (pP fun x0 x1 x2 h => bE.eq G k _ x0 x1 x2 h)
theorem bT.here : HrP Tryd.prog 110 := ⟨_, Tryd.func110, by kernel_rfl, by kernel_rfl⟩
theorem bT.eq (G : aE) (k : Nat) (self : cU) (x0 x1 : AV) (h : aA) : fQ Tryd.prog G (fZ (bT.env G k self)) bT.ann Tryd.f110.results.toList (dV Tryd.f110) Tryd.f110.ntmps k [x0, x1] h = bT.c G k self x0 x1 h := by kernel_rfl
theorem bT.sound {G : aE} (hG : ∀ g x, G g = some x → bQ x = true) : ∀ k, Sound Tryd.prog G 110 (bT.f G k)
 | 0 => cJ bT.here (fun _ _ => rfl)
 | k + 1 => cS (l := bT.env G k (bT.f G k)) (ann := bT.ann) (n := k) (bX hG (dB (bE.sound hG k) eU)) orders Tryd.func110 (by kernel_rfl) (by kernel_rfl) rfl (by kernel_rfl) (iR fun x0 x1 h => bT.eq G k _ x0 x1 h)
theorem dU.here : HrP Tryd.prog 121 := ⟨_, Tryd.func121, by kernel_rfl, by kernel_rfl⟩
theorem dU.eq (G : aE) (k : Nat) (self : cU) (x0 : AV) (h : aA) : fQ Tryd.prog G (fZ (dU.env G k self)) dU.ann Tryd.f121.results.toList (dV Tryd.f121) Tryd.f121.ntmps k [x0] h = dU.c G k self x0 h := by kernel_rfl
theorem dU.sound {G : aE} (hG : ∀ g x, G g = some x → bQ x = true) : ∀ k, Sound Tryd.prog G 121 (dU.f G k)
 | 0 => cJ dU.here (fun _ _ => rfl)
 | k + 1 => cS (l := dU.env G k (dU.f G k)) (ann := dU.ann) (n := k) (bX hG eU) orders Tryd.func121 (by kernel_rfl) (by kernel_rfl) rfl (by kernel_rfl) (gT fun x0 h => dU.eq G k _ x0 h)
theorem bF.here : HrP Tryd.prog 111 := ⟨_, Tryd.func111, by kernel_rfl, by kernel_rfl⟩
theorem bF.eq (G : aE) (k : Nat) (self : cU) (x0 x1 : AV) (h : aA) : fQ Tryd.prog G (fZ (bF.env G k self)) bF.ann Tryd.f111.results.toList (dV Tryd.f111) Tryd.f111.ntmps k [x0, x1] h = bF.c G k self x0 x1 h := by kernel_rfl
theorem bF.sound {G : aE} (hG : ∀ g x, G g = some x → bQ x = true) : ∀ k, Sound Tryd.prog G 111 (bF.f G k)
 | 0 => cJ bF.here (fun _ _ => rfl)
 | k + 1 => cS (l := bF.env G k (bF.f G k)) (ann := bF.ann) (n := k) (bX hG (dB (bE.sound hG k) (dB (dU.sound hG k) eU))) orders Tryd.func111 (by kernel_rfl) (by kernel_rfl) rfl (by kernel_rfl) (iR fun x0 x1 h => bF.eq G k _ x0 x1 h)
theorem bL.here : HrP Tryd.prog 85 := ⟨_, Tryd.func85, by kernel_rfl, by kernel_rfl⟩
theorem bL.eq (G : aE) (k : Nat) (self : cU) (x0 x1 : AV) (h : aA) : fQ Tryd.prog G (fZ (bL.env G k self)) bL.ann Tryd.f85.results.toList (dV Tryd.f85) Tryd.f85.ntmps k [x0, x1] h = bL.c G k self x0 x1 h := by kernel_rfl
theorem bL.sound {G : aE} (hG : ∀ g x, G g = some x → bQ x = true) : ∀ k, Sound Tryd.prog G 85 (bL.f G k)
 | 0 => cJ bL.here (fun _ _ => rfl)
 | k + 1 => cS (l := bL.env G k (bL.f G k)) (ann := bL.ann) (n := k) (bX hG eU) orders Tryd.func85 (by kernel_rfl) (by kernel_rfl) rfl (by kernel_rfl) (iR fun x0 x1 h => bL.eq G k _ x0 x1 h)
theorem cG.here : HrP Tryd.prog 122 := ⟨_, Tryd.func122, by kernel_rfl, by kernel_rfl⟩
theorem cG.eq (G : aE) (k : Nat) (self : cU) (x0 x1 : AV) (h : aA) : fQ Tryd.prog G (fZ (cG.env G k self)) cG.ann Tryd.f122.results.toList (dV Tryd.f122) Tryd.f122.ntmps k [x0, x1] h = cG.c G k self x0 x1 h := by kernel_rfl
theorem cG.sound {G : aE} (hG : ∀ g x, G g = some x → bQ x = true) : ∀ k, Sound Tryd.prog G 122 (cG.f G k)
 | 0 => cJ cG.here (fun _ _ => rfl)
 | k + 1 => cS (l := cG.env G k (cG.f G k)) (ann := cG.ann) (n := k) (bX hG eU) orders Tryd.func122 (by kernel_rfl) (by kernel_rfl) rfl (by kernel_rfl) (iR fun x0 x1 h => cG.eq G k _ x0 x1 h)
theorem cZ.here : HrP Tryd.prog 112 := ⟨_, Tryd.func112, by kernel_rfl, by kernel_rfl⟩
theorem cZ.eq (G : aE) (k : Nat) (self : cU) (x0 x1 x2 x3 : AV) (h : aA) : fQ Tryd.prog G (fZ (cZ.env G k self)) cZ.ann Tryd.f112.results.toList (dV Tryd.f112) Tryd.f112.ntmps k [x0, x1, x2, x3] h = cZ.c G k self x0 x1 x2 x3 h := by kernel_rfl
theorem cZ.sound {G : aE} (hG : ∀ g x, G g = some x → bQ x = true) : ∀ k, Sound Tryd.prog G 112 (cZ.f G k)
 | 0 => cJ cZ.here (fun _ _ => rfl)
 | k + 1 => cS (l := cZ.env G k (cZ.f G k)) (ann := cZ.ann) (n := k) (bX hG (dB (bL.sound hG k) (dB (dU.sound hG k) (dB (cG.sound hG k) eU)))) orders Tryd.func112 (by kernel_rfl) (by kernel_rfl) rfl (by kernel_rfl) (aAf fun x0 x1 x2 x3 h => cZ.eq G k _ x0 x1 x2 x3 h)
theorem cD.here : HrP Tryd.prog 94 := ⟨_, Tryd.func94, by kernel_rfl, by kernel_rfl⟩
theorem cD.eq (G : aE) (k : Nat) (self : cU) (x0 x1 : AV) (h : aA) : fQ Tryd.prog G (fZ (cD.env G k self)) cD.ann Tryd.f94.results.toList (dV Tryd.f94) Tryd.f94.ntmps k [x0, x1] h = cD.c G k self x0 x1 h := by kernel_rfl
theorem cD.sound {G : aE} (hG : ∀ g x, G g = some x → bQ x = true) : ∀ k, Sound Tryd.prog G 94 (cD.f G k)
 | 0 => cJ cD.here (fun _ _ => rfl)
 | k + 1 => cS (l := cD.env G k (cD.f G k)) (ann := cD.ann) (n := k) (bX hG (dB (bT.sound hG k) (dB (bF.sound hG k) (dB (cZ.sound hG k) eU)))) orders Tryd.func94 (by kernel_rfl) (by kernel_rfl) rfl (by kernel_rfl) (iR fun x0 x1 h => cD.eq G k _ x0 x1 h)
theorem cH.here : HrP Tryd.prog 70 := ⟨_, Tryd.func70, by kernel_rfl, by kernel_rfl⟩
theorem cH.eq (G : aE) (k : Nat) (self : cU) (x0 x1 x2 x3 : AV) (h : aA) : fQ Tryd.prog G (fZ (cH.env G k self)) cH.ann Tryd.f70.results.toList (dV Tryd.f70) Tryd.f70.ntmps k [x0, x1, x2, x3] h = cH.c G k self x0 x1 x2 x3 h := by kernel_rfl
theorem cH.sound {G : aE} (hG : ∀ g x, G g = some x → bQ x = true) : ∀ k, Sound Tryd.prog G 70 (cH.f G k)
 | 0 => cJ cH.here (fun _ _ => rfl)
 | k + 1 => cS (l := cH.env G k (cH.f G k)) (ann := cH.ann) (n := k) (bX hG (dB (aK.sound hG k) (dB (bE.sound hG k) (dB (cD.sound hG k) eU)))) orders Tryd.func70 (by kernel_rfl) (by kernel_rfl) rfl (by kernel_rfl) (aAf fun x0 x1 x2 x3 h => cH.eq G k _ x0 x1 x2 x3 h)
theorem dJ.here : HrP Tryd.prog 39 := ⟨_, Tryd.func39, by kernel_rfl, by kernel_rfl⟩
theorem dJ.eq (G : aE) (k : Nat) (self : cU) (x0 x1 x2 : AV) (h : aA) : fQ Tryd.prog G (fZ (dJ.env G k self)) dJ.ann Tryd.f39.results.toList (dV Tryd.f39) Tryd.f39.ntmps k [x0, x1, x2] h = dJ.c G k self x0 x1 x2 h := by kernel_rfl
theorem dJ.sound {G : aE} (hG : ∀ g x, G g = some x → bQ x = true) : ∀ k, Sound Tryd.prog G 39 (dJ.f G k)
 | 0 => cJ dJ.here (fun _ _ => rfl)
 | k + 1 => cS (l := dJ.env G k (dJ.f G k)) (ann := dJ.ann) (n := k) (bX hG (dB (bV.sound hG k) (dB (cY.sound hG k) (dB (cH.sound hG k) eU)))) orders Tryd.func39 (by kernel_rfl) (by kernel_rfl) rfl (by kernel_rfl) (pP fun x0 x1 x2 h => dJ.eq G k _ x0 x1 x2 h)
theorem aL.here : HrP Tryd.prog 17 := ⟨_, Tryd.func17, by kernel_rfl, by kernel_rfl⟩
theorem aL.eq (G : aE) (k : Nat) (self : cU) (x0 x1 : AV) (h : aA) : fQ Tryd.prog G (fZ (aL.env G k self)) aL.ann Tryd.f17.results.toList (dV Tryd.f17) Tryd.f17.ntmps k [x0, x1] h = aL.c G k self x0 x1 h := by kernel_rfl
theorem aL.sound {G : aE} (hG : ∀ g x, G g = some x → bQ x = true) : ∀ k, Sound Tryd.prog G 17 (aL.f G k)
 | 0 => cJ aL.here (fun _ _ => rfl)
 | k + 1 => cS (l := aL.env G k (aL.f G k)) (ann := aL.ann) (n := k) (bX hG eU) orders Tryd.func17 (by kernel_rfl) (by kernel_rfl) rfl (by kernel_rfl) (iR fun x0 x1 h => aL.eq G k _ x0 x1 h)
theorem bG.here : HrP Tryd.prog 22 := ⟨_, Tryd.func22, by kernel_rfl, by kernel_rfl⟩
theorem bG.eq (G : aE) (k : Nat) (self : cU) (x0 x1 : AV) (h : aA) : fQ Tryd.prog G (fZ (bG.env G k self)) bG.ann Tryd.f22.results.toList (dV Tryd.f22) Tryd.f22.ntmps k [x0, x1] h = bG.c G k self x0 x1 h := by kernel_rfl
theorem bG.sound {G : aE} (hG : ∀ g x, G g = some x → bQ x = true) : ∀ k, Sound Tryd.prog G 22 (bG.f G k)
 | 0 => cJ bG.here (fun _ _ => rfl)
 | k + 1 => cS (l := bG.env G k (bG.f G k)) (ann := bG.ann) (n := k) (bX hG eU) orders Tryd.func22 (by kernel_rfl) (by kernel_rfl) rfl (by kernel_rfl) (iR fun x0 x1 h => bG.eq G k _ x0 x1 h)
theorem bY.here : HrP Tryd.prog 25 := ⟨_, Tryd.func25, by kernel_rfl, by kernel_rfl⟩
theorem bY.eq (G : aE) (k : Nat) (self : cU) (x0 x1 : AV) (h : aA) : fQ Tryd.prog G (fZ (bY.env G k self)) bY.ann Tryd.f25.results.toList (dV Tryd.f25) Tryd.f25.ntmps k [x0, x1] h = bY.c G k self x0 x1 h := by kernel_rfl
theorem bY.sound {G : aE} (hG : ∀ g x, G g = some x → bQ x = true) : ∀ k, Sound Tryd.prog G 25 (bY.f G k)
 | 0 => cJ bY.here (fun _ _ => rfl)
 | k + 1 => cS (l := bY.env G k (bY.f G k)) (ann := bY.ann) (n := k) (bX hG (dB (aM.sound hG k) (dB (aC.sound hG k) eU))) orders Tryd.func25 (by kernel_rfl) (by kernel_rfl) rfl (by kernel_rfl) (iR fun x0 x1 h => bY.eq G k _ x0 x1 h)
theorem dE.here : HrP Tryd.prog 59 := ⟨_, Tryd.func59, by kernel_rfl, by kernel_rfl⟩
theorem dE.eq (G : aE) (k : Nat) (self : cU) (x0 x1 x2 : AV) (h : aA) : fQ Tryd.prog G (fZ (dE.env G k self)) dE.ann Tryd.f59.results.toList (dV Tryd.f59) Tryd.f59.ntmps k [x0, x1, x2] h = dE.c G k self x0 x1 x2 h := by kernel_rfl
theorem dE.sound {G : aE} (hG : ∀ g x, G g = some x → bQ x = true) : ∀ k, Sound Tryd.prog G 59 (dE.f G k)
 | 0 => cJ dE.here (fun _ _ => rfl)
 | k + 1 => cS (l := dE.env G k (dE.f G k)) (ann := dE.ann) (n := k) (bX hG eU) orders Tryd.func59 (by kernel_rfl) (by kernel_rfl) rfl (by kernel_rfl) (pP fun x0 x1 x2 h => dE.eq G k _ x0 x1 x2 h)
theorem aN.here : HrP Tryd.prog 60 := ⟨_, Tryd.func60, by kernel_rfl, by kernel_rfl⟩
theorem aN.eq (G : aE) (k : Nat) (self : cU) (x0 : AV) (h : aA) : vQ Tryd.prog G (fZ (aN.env G k self)) aN.ann Tryd.f60.results.toList (dV Tryd.f60) Tryd.f60.ntmps k [x0] h = aN.c G k self x0 h := by kernel_rfl
theorem aN.sound {G : aE} (hG : ∀ g x, G g = some x → bQ x = true) : ∀ k, Sound Tryd.prog G 60 (aN.f G k)
 | 0 => cJ aN.here (fun _ _ => rfl)
 | k + 1 => uT (l := aN.env G k (aN.f G k)) (ann := aN.ann) (n := k) (bX hG eU) orders Tryd.func60 (by kernel_rfl) (by kernel_rfl) rfl (by kernel_rfl) (gT fun x0 h => aN.eq G k _ x0 h)
theorem aQ.here : HrP Tryd.prog 29 := ⟨_, Tryd.func29, by kernel_rfl, by kernel_rfl⟩
theorem aQ.eq (G : aE) (k : Nat) (self : cU) (x0 : AV) (h : aA) : fQ Tryd.prog G (fZ (aQ.env G k self)) aQ.ann Tryd.f29.results.toList (dV Tryd.f29) Tryd.f29.ntmps k [x0] h = aQ.c G k self x0 h := by kernel_rfl
theorem aQ.sound {G : aE} (hG : ∀ g x, G g = some x → bQ x = true) : ∀ k, Sound Tryd.prog G 29 (aQ.f G k)
 | 0 => cJ aQ.here (fun _ _ => rfl)
 | k + 1 => cS (l := aQ.env G k (aQ.f G k)) (ann := aQ.ann) (n := k) (bX hG (dB (cX.sound hG k) (dB (bI.sound hG k) (dB (bY.sound hG k) (dB (bV.sound hG k) (dB (dE.sound hG k) (dB (aN.sound hG k) eU))))))) orders Tryd.func29 (by kernel_rfl) (by kernel_rfl) rfl (by kernel_rfl) (gT fun x0 h => aQ.eq G k _ x0 h)
theorem bP.here : HrP Tryd.prog 18 := ⟨_, Tryd.func18, by kernel_rfl, by kernel_rfl⟩
theorem bP.eq (G : aE) (k : Nat) (self : cU) (h : aA) : fQ Tryd.prog G (fZ (bP.env G k self)) bP.ann Tryd.f18.results.toList (dV Tryd.f18) Tryd.f18.ntmps k [] h = bP.c G k self h := by kernel_rfl
theorem bP.sound {G : aE} (hG : ∀ g x, G g = some x → bQ x = true) : ∀ k, Sound Tryd.prog G 18 (bP.f G k)
 | 0 => cJ bP.here (fun _ _ => rfl)
 | k + 1 => cS (l := bP.env G k (bP.f G k)) (ann := bP.ann) (n := k) (bX hG (dB (bG.sound hG k) (dB (bI.sound hG k) (dB (aQ.sound hG k) eU)))) orders Tryd.func18 (by kernel_rfl) (by kernel_rfl) rfl (by kernel_rfl) (aGS fun h => bP.eq G k _ h)
theorem aZ.here : HrP Tryd.prog 19 := ⟨_, Tryd.func19, by kernel_rfl, by kernel_rfl⟩
theorem aZ.eq (G : aE) (k : Nat) (self : cU) (x0 : AV) (h : aA) : fQ Tryd.prog G (fZ (aZ.env G k self)) aZ.ann Tryd.f19.results.toList (dV Tryd.f19) Tryd.f19.ntmps k [x0] h = aZ.c G k self x0 h := by kernel_rfl
theorem aZ.sound {G : aE} (hG : ∀ g x, G g = some x → bQ x = true) : ∀ k, Sound Tryd.prog G 19 (aZ.f G k)
 | 0 => cJ aZ.here (fun _ _ => rfl)
 | k + 1 => cS (l := aZ.env G k (aZ.f G k)) (ann := aZ.ann) (n := k) (bX hG eU) orders Tryd.func19 (by kernel_rfl) (by kernel_rfl) rfl (by kernel_rfl) (gT fun x0 h => aZ.eq G k _ x0 h)
theorem bA.here : HrP Tryd.prog 38 := ⟨_, Tryd.func38, by kernel_rfl, by kernel_rfl⟩
theorem bA.eq (G : aE) (k : Nat) (self : cU) (x0 x1 : AV) (h : aA) : fQ Tryd.prog G (fZ (bA.env G k self)) bA.ann Tryd.f38.results.toList (dV Tryd.f38) Tryd.f38.ntmps k [x0, x1] h = bA.c G k self x0 x1 h := by kernel_rfl
theorem bA.sound {G : aE} (hG : ∀ g x, G g = some x → bQ x = true) : ∀ k, Sound Tryd.prog G 38 (bA.f G k)
 | 0 => cJ bA.here (fun _ _ => rfl)
 | k + 1 => cS (l := bA.env G k (bA.f G k)) (ann := bA.ann) (n := k) (bX hG eU) orders Tryd.func38 (by kernel_rfl) (by kernel_rfl) rfl (by kernel_rfl) (iR fun x0 x1 h => bA.eq G k _ x0 x1 h)
theorem alembiclaw20_LiveSound.here : HrP Tryd.prog 6 := ⟨_, Tryd.func6, by kernel_rfl, by kernel_rfl⟩
theorem alembiclaw20_LiveSound.eq (G : aE) (k : Nat) (self : cU) (x0 x1 x2 : AV) (h : aA) : fQ Tryd.prog G (fZ (alembiclaw20_LiveSound.env G k self)) alembiclaw20_LiveSound.ann Tryd.f6.results.toList (dV Tryd.f6) Tryd.f6.ntmps k [x0, x1, x2] h = alembiclaw20_LiveSound.c G k self x0 x1 x2 h := by kernel_rfl
theorem alembiclaw20_LiveSound.sound {G : aE} (hG : ∀ g x, G g = some x → bQ x = true) : ∀ k, Sound Tryd.prog G 6 (alembiclaw20_LiveSound.f G k)
 | 0 => cJ alembiclaw20_LiveSound.here (fun _ _ => rfl)
 | k + 1 => cS (l := alembiclaw20_LiveSound.env G k (alembiclaw20_LiveSound.f G k)) (ann := alembiclaw20_LiveSound.ann) (n := k) (bX hG (dB (aL.sound hG k) (dB (bP.sound hG k) (dB (aZ.sound hG k) (dB (aQ.sound hG k) (dB (bA.sound hG k) (dB (dJ.sound hG k) eU))))))) orders Tryd.func6 (by kernel_rfl) (by kernel_rfl) rfl (by kernel_rfl) (pP fun x0 x1 x2 h => alembiclaw20_LiveSound.eq G k _ x0 x1 x2 h)
end Go.Proofs.YtlkgkfgkiidhdaaDoor.Mir
