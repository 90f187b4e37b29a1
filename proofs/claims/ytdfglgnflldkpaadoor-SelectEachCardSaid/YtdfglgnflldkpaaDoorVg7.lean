/- Part 7 of the proof: the functions that the statement reaches, and their contracts. -/
import Derived.Test.YtdfglgnflldkpaaDoorVg6
import Derived.Test.YtdfglgnflldkpaaDoorProg
import Derived.KernelRfl
namespace Go.Proofs.YtdfglgnflldkpaaDoor.Mir
open Go
set_option linter.unusedVariables false
theorem orders : Tryd.prog.follows .mixedOrders = true := by kernel_rfl
theorem gP.here : HrP Tryd.prog 92 := ⟨_, Tryd.func92, by kernel_rfl, by kernel_rfl⟩
theorem gP.eq (G : aI) (k : Nat) (self : dE) (x0 x1 x2 : AV) (h : aF) : gB Tryd.prog G (gV (gP.env G k self)) gP.ann Tryd.f92.results.toList (dY Tryd.f92) Tryd.f92.ntmps k [x0, x1, x2] h = gP.c G k self x0 x1 x2 h := by kernel_rfl
theorem gP.sound {G : aI} (hG : ∀ g x, G g = some x → bG x = true) : ∀ k, Sound Tryd.prog G 92 (gP.f G k)
 | 0 => bV gP.here (fun _ _ => rfl)
 | k + 1 => cD (l := gP.env G k (gP.f G k)) (ann := gP.ann) (n := k) (bN hG eW) orders Tryd.func92 (by kernel_rfl) (by kernel_rfl) rfl (by kernel_rfl) (nB fun x0 x1 x2 h => gP.eq G k _ x0 x1 x2 h)
theorem fT.here : HrP Tryd.prog 107 := ⟨_, Tryd.func107, by kernel_rfl, by kernel_rfl⟩
theorem fT.eq (G : aI) (k : Nat) (self : dE) (x0 x1 : AV) (h : aF) : gB Tryd.prog G (gV (fT.env G k self)) fT.ann Tryd.f107.results.toList (dY Tryd.f107) Tryd.f107.ntmps k [x0, x1] h = fT.c G k self x0 x1 h := by kernel_rfl
theorem fT.sound {G : aI} (hG : ∀ g x, G g = some x → bG x = true) : ∀ k, Sound Tryd.prog G 107 (fT.f G k)
 | 0 => bV fT.here (fun _ _ => rfl)
 | k + 1 => cD (l := fT.env G k (fT.f G k)) (ann := fT.ann) (n := k) (bN hG eW) orders Tryd.func107 (by kernel_rfl) (by kernel_rfl) rfl (by kernel_rfl) (iO fun x0 x1 h => fT.eq G k _ x0 x1 h)
theorem fH.here : HrP Tryd.prog 93 := ⟨_, Tryd.func93, by kernel_rfl, by kernel_rfl⟩
theorem fH.eq (G : aI) (k : Nat) (self : dE) (x0 : AV) (h : aF) : gB Tryd.prog G (gV (fH.env G k self)) fH.ann Tryd.f93.results.toList (dY Tryd.f93) Tryd.f93.ntmps k [x0] h = fH.c G k self x0 h := by kernel_rfl
theorem fH.sound {G : aI} (hG : ∀ g x, G g = some x → bG x = true) : ∀ k, Sound Tryd.prog G 93 (fH.f G k)
 | 0 => bV fH.here (fun _ _ => rfl)
 | k + 1 => cD (l := fH.env G k (fH.f G k)) (ann := fH.ann) (n := k) (bN hG (cW (gP.sound hG k) (cW (fT.sound hG k) eW))) orders Tryd.func93 (by kernel_rfl) (by kernel_rfl) rfl (by kernel_rfl) (iU fun x0 h => fH.eq G k _ x0 h)
theorem eZ.here : HrP Tryd.prog 70 := ⟨_, Tryd.func70, by kernel_rfl, by kernel_rfl⟩
theorem eZ.eq (G : aI) (k : Nat) (self : dE) (x0 : AV) (h : aF) : gB Tryd.prog G (gV (eZ.env G k self)) eZ.ann Tryd.f70.results.toList (dY Tryd.f70) Tryd.f70.ntmps k [x0] h = eZ.c G k self x0 h := by kernel_rfl
theorem eZ.sound {G : aI} (hG : ∀ g x, G g = some x → bG x = true) : ∀ k, Sound Tryd.prog G 70 (eZ.f G k)
 | 0 => bV eZ.here (fun _ _ => rfl)
 | k + 1 => cD (l := eZ.env G k (eZ.f G k)) (ann := eZ.ann) (n := k) (bN hG (cW (gP.sound hG k) (cW (fH.sound hG k) eW))) orders Tryd.func70 (by kernel_rfl) (by kernel_rfl) rfl (by kernel_rfl) (iU fun x0 h => eZ.eq G k _ x0 h)
theorem dJ.here : HrP Tryd.prog 94 := ⟨_, Tryd.func94, by kernel_rfl, by kernel_rfl⟩
theorem dJ.eq (G : aI) (k : Nat) (self : dE) (x0 x1 : AV) (h : aF) : gB Tryd.prog G (gV (dJ.env G k self)) dJ.ann Tryd.f94.results.toList (dY Tryd.f94) Tryd.f94.ntmps k [x0, x1] h = dJ.c G k self x0 x1 h := by kernel_rfl
theorem dJ.sound {G : aI} (hG : ∀ g x, G g = some x → bG x = true) : ∀ k, Sound Tryd.prog G 94 (dJ.f G k)
 | 0 => bV dJ.here (fun _ _ => rfl)
 | k + 1 => cD (l := dJ.env G k (dJ.f G k)) (ann := dJ.ann) (n := k) (bN hG eW) orders Tryd.func94 (by kernel_rfl) (by kernel_rfl) rfl (by kernel_rfl) (iO fun x0 x1 h => dJ.eq G k _ x0 x1 h)
theorem fG.here : HrP Tryd.prog 95 := ⟨_, Tryd.func95, by kernel_rfl, by kernel_rfl⟩
theorem fG.eq (G : aI) (k : Nat) (self : dE) (x0 : AV) (h : aF) : gB Tryd.prog G (gV (fG.env G k self)) fG.ann Tryd.f95.results.toList (dY Tryd.f95) Tryd.f95.ntmps k [x0] h = fG.c G k self x0 h := by kernel_rfl
theorem fG.sound {G : aI} (hG : ∀ g x, G g = some x → bG x = true) : ∀ k, Sound Tryd.prog G 95 (fG.f G k)
 | 0 => bV fG.here (fun _ _ => rfl)
 | k + 1 => cD (l := fG.env G k (fG.f G k)) (ann := fG.ann) (n := k) (bN hG eW) orders Tryd.func95 (by kernel_rfl) (by kernel_rfl) rfl (by kernel_rfl) (iU fun x0 h => fG.eq G k _ x0 h)
theorem eO.here : HrP Tryd.prog 108 := ⟨_, Tryd.func108, by kernel_rfl, by kernel_rfl⟩
theorem eO.eq (G : aI) (k : Nat) (self : dE) (x0 : AV) (h : aF) : gB Tryd.prog G (gV (eO.env G k self)) eO.ann Tryd.f108.results.toList (dY Tryd.f108) Tryd.f108.ntmps k [x0] h = eO.c G k self x0 h := by kernel_rfl
theorem eO.sound {G : aI} (hG : ∀ g x, G g = some x → bG x = true) : ∀ k, Sound Tryd.prog G 108 (eO.f G k)
 | 0 => bV eO.here (fun _ _ => rfl)
 | k + 1 => cD (l := eO.env G k (eO.f G k)) (ann := eO.ann) (n := k) (bN hG eW) orders Tryd.func108 (by kernel_rfl) (by kernel_rfl) rfl (by kernel_rfl) (iU fun x0 h => eO.eq G k _ x0 h)
theorem gO.here : HrP Tryd.prog 96 := ⟨_, Tryd.func96, by kernel_rfl, by kernel_rfl⟩
theorem gO.eq (G : aI) (k : Nat) (self : dE) (x0 x1 : AV) (h : aF) : gB Tryd.prog G (gV (gO.env G k self)) gO.ann Tryd.f96.results.toList (dY Tryd.f96) Tryd.f96.ntmps k [x0, x1] h = gO.c G k self x0 x1 h := by kernel_rfl
theorem gO.sound {G : aI} (hG : ∀ g x, G g = some x → bG x = true) : ∀ k, Sound Tryd.prog G 96 (gO.f G k)
 | 0 => bV gO.here (fun _ _ => rfl)
 | k + 1 => cD (l := gO.env G k (gO.f G k)) (ann := gO.ann) (n := k) (bN hG (cW (eO.sound hG k) eW)) orders Tryd.func96 (by kernel_rfl) (by kernel_rfl) rfl (by kernel_rfl) (iO fun x0 x1 h => gO.eq G k _ x0 x1 h)
theorem fI.here : HrP Tryd.prog 97 := ⟨_, Tryd.func97, by kernel_rfl, by kernel_rfl⟩
theorem fI.eq (G : aI) (k : Nat) (self : dE) (x0 : AV) (h : aF) : gB Tryd.prog G (gV (fI.env G k self)) fI.ann Tryd.f97.results.toList (dY Tryd.f97) Tryd.f97.ntmps k [x0] h = fI.c G k self x0 h := by kernel_rfl
theorem fI.sound {G : aI} (hG : ∀ g x, G g = some x → bG x = true) : ∀ k, Sound Tryd.prog G 97 (fI.f G k)
 | 0 => bV fI.here (fun _ _ => rfl)
 | k + 1 => cD (l := fI.env G k (fI.f G k)) (ann := fI.ann) (n := k) (bN hG eW) orders Tryd.func97 (by kernel_rfl) (by kernel_rfl) rfl (by kernel_rfl) (iU fun x0 h => fI.eq G k _ x0 h)
theorem dG.here : HrP Tryd.prog 71 := ⟨_, Tryd.func71, by kernel_rfl, by kernel_rfl⟩
theorem dG.eq (G : aI) (k : Nat) (self : dE) (x0 x1 : AV) (h : aF) : gB Tryd.prog G (gV (dG.env G k self)) dG.ann Tryd.f71.results.toList (dY Tryd.f71) Tryd.f71.ntmps k [x0, x1] h = dG.c G k self x0 x1 h := by kernel_rfl
theorem dG.sound {G : aI} (hG : ∀ g x, G g = some x → bG x = true) : ∀ k, Sound Tryd.prog G 71 (dG.f G k)
 | 0 => bV dG.here (fun _ _ => rfl)
 | k + 1 => cD (l := dG.env G k (dG.f G k)) (ann := dG.ann) (n := k) (bN hG (cW (dJ.sound hG k) (cW (fG.sound hG k) (cW (gO.sound hG k) (cW (fI.sound hG k) eW))))) orders Tryd.func71 (by kernel_rfl) (by kernel_rfl) rfl (by kernel_rfl) (iO fun x0 x1 h => dG.eq G k _ x0 x1 h)
theorem cG.here : HrP Tryd.prog 72 := ⟨_, Tryd.func72, by kernel_rfl, by kernel_rfl⟩
theorem cG.eq (G : aI) (k : Nat) (self : dE) (x0 : AV) (h : aF) : gB Tryd.prog G (gV (cG.env G k self)) cG.ann Tryd.f72.results.toList (dY Tryd.f72) Tryd.f72.ntmps k [x0] h = cG.c G k self x0 h := by kernel_rfl
theorem cG.sound {G : aI} (hG : ∀ g x, G g = some x → bG x = true) : ∀ k, Sound Tryd.prog G 72 (cG.f G k)
 | 0 => bV cG.here (fun _ _ => rfl)
 | k + 1 => cD (l := cG.env G k (cG.f G k)) (ann := cG.ann) (n := k) (bN hG eW) orders Tryd.func72 (by kernel_rfl) (by kernel_rfl) rfl (by kernel_rfl) (iU fun x0 h => cG.eq G k _ x0 h)
theorem bA.here : HrP Tryd.prog 40 := ⟨_, Tryd.func40, by kernel_rfl, by kernel_rfl⟩
theorem bA.eq (G : aI) (k : Nat) (self : dE) (x0 : AV) (h : aF) : gB Tryd.prog G (gV (bA.env G k self)) bA.ann Tryd.f40.results.toList (dY Tryd.f40) Tryd.f40.ntmps k [x0] h = bA.c G k self x0 h := by kernel_rfl
theorem bA.sound {G : aI} (hG : ∀ g x, G g = some x → bG x = true) : ∀ k, Sound Tryd.prog G 40 (bA.f G k)
 | 0 => bV bA.here (fun _ _ => rfl)
 | k + 1 => cD (l := bA.env G k (bA.f G k)) (ann := bA.ann) (n := k) (bN hG (cW (eZ.sound hG k) (cW (dG.sound hG k) (cW (cG.sound hG k) eW)))) orders Tryd.func40 (by kernel_rfl) (by kernel_rfl) rfl (by kernel_rfl) (iU fun x0 h => bA.eq G k _ x0 h)
theorem aM.here : HrP Tryd.prog 79 := ⟨_, Tryd.func79, by kernel_rfl, by kernel_rfl⟩
theorem aM.eq (G : aI) (k : Nat) (self : dE) (x0 : AV) (h : aF) : gB Tryd.prog G (gV (aM.env G k self)) aM.ann Tryd.f79.results.toList (dY Tryd.f79) Tryd.f79.ntmps k [x0] h = aM.c G k self x0 h := by kernel_rfl
theorem aM.sound {G : aI} (hG : ∀ g x, G g = some x → bG x = true) : ∀ k, Sound Tryd.prog G 79 (aM.f G k)
 | 0 => bV aM.here (fun _ _ => rfl)
 | k + 1 => cD (l := aM.env G k (aM.f G k)) (ann := aM.ann) (n := k) (bN hG eW) orders Tryd.func79 (by kernel_rfl) (by kernel_rfl) rfl (by kernel_rfl) (iU fun x0 h => aM.eq G k _ x0 h)
theorem bT.here : HrP Tryd.prog 99 := ⟨_, Tryd.func99, by kernel_rfl, by kernel_rfl⟩
theorem bT.eq (G : aI) (k : Nat) (self : dE) (x0 x1 : AV) (h : aF) : gB Tryd.prog G (gV (bT.env G k self)) bT.ann Tryd.f99.results.toList (dY Tryd.f99) Tryd.f99.ntmps k [x0, x1] h = bT.c G k self x0 x1 h := by kernel_rfl
theorem bT.sound {G : aI} (hG : ∀ g x, G g = some x → bG x = true) : ∀ k, Sound Tryd.prog G 99 (bT.f G k)
 | 0 => bV bT.here (fun _ _ => rfl)
 | k + 1 => cD (l := bT.env G k (bT.f G k)) (ann := bT.ann) (n := k) (bN hG eW) orders Tryd.func99 (by kernel_rfl) (by kernel_rfl) rfl (by kernel_rfl) (iO fun x0 x1 h => bT.eq G k _ x0 x1 h)
theorem cA.here : HrP Tryd.prog 100 := ⟨_, Tryd.func100, by kernel_rfl, by kernel_rfl⟩
theorem cA.eq (G : aI) (k : Nat) (self : dE) (x0 : AV) (h : aF) : gB Tryd.prog G (gV (cA.env G k self)) cA.ann Tryd.f100.results.toList (dY Tryd.f100) Tryd.f100.ntmps k [x0] h = cA.c G k self x0 h := by kernel_rfl
theorem cA.sound {G : aI} (hG : ∀ g x, G g = some x → bG x = true) : ∀ k, Sound Tryd.prog G 100 (cA.f G k)
 | 0 => bV cA.here (fun _ _ => rfl)
 | k + 1 => cD (l := cA.env G k (cA.f G k)) (ann := cA.ann) (n := k) (bN hG eW) orders Tryd.func100 (by kernel_rfl) (by kernel_rfl) rfl (by kernel_rfl) (iU fun x0 h => cA.eq G k _ x0 h)
theorem cH.here : HrP Tryd.prog 101 := ⟨_, Tryd.func101, by kernel_rfl, by kernel_rfl⟩
theorem cH.eq (G : aI) (k : Nat) (self : dE) (x0 x1 : AV) (h : aF) : gB Tryd.prog G (gV (cH.env G k self)) cH.ann Tryd.f101.results.toList (dY Tryd.f101) Tryd.f101.ntmps k [x0, x1] h = cH.c G k self x0 x1 h := by kernel_rfl
theorem cH.sound {G : aI} (hG : ∀ g x, G g = some x → bG x = true) : ∀ k, Sound Tryd.prog G 101 (cH.f G k)
 | 0 => bV cH.here (fun _ _ => rfl)
 | k + 1 => cD (l := cH.env G k (cH.f G k)) (ann := cH.ann) (n := k) (bN hG eW) orders Tryd.func101 (by kernel_rfl) (by kernel_rfl) rfl (by kernel_rfl) (iO fun x0 x1 h => cH.eq G k _ x0 x1 h)
theorem aS.here : HrP Tryd.prog 78 := ⟨_, Tryd.func78, by kernel_rfl, by kernel_rfl⟩
theorem aS.eq (G : aI) (k : Nat) (self : dE) (x0 : AV) (h : aF) : gB Tryd.prog G (gV (aS.env G k self)) aS.ann Tryd.f78.results.toList (dY Tryd.f78) Tryd.f78.ntmps k [x0] h = aS.c G k self x0 h := by kernel_rfl
theorem aS.sound {G : aI} (hG : ∀ g x, G g = some x → bG x = true) : ∀ k, Sound Tryd.prog G 78 (aS.f G k)
 | 0 => bV aS.here (fun _ _ => rfl)
 | k + 1 => cD (l := aS.env G k (aS.f G k)) (ann := aS.ann) (n := k) (bN hG (cW (aM.sound hG k) (cW (bT.sound hG k) (cW (cA.sound hG k) (cW (cH.sound hG k) eW))))) orders Tryd.func78 (by kernel_rfl) (by kernel_rfl) rfl (by kernel_rfl) (iU fun x0 h => aS.eq G k _ x0 h)
theorem aY.here : HrP Tryd.prog 80 := ⟨_, Tryd.func80, by kernel_rfl, by kernel_rfl⟩
theorem aY.eq (G : aI) (k : Nat) (self : dE) (x0 : AV) (h : aF) : gB Tryd.prog G (gV (aY.env G k self)) aY.ann Tryd.f80.results.toList (dY Tryd.f80) Tryd.f80.ntmps k [x0] h = aY.c G k self x0 h := by kernel_rfl
theorem aY.sound {G : aI} (hG : ∀ g x, G g = some x → bG x = true) : ∀ k, Sound Tryd.prog G 80 (aY.f G k)
 | 0 => bV aY.here (fun _ _ => rfl)
 | k + 1 => cD (l := aY.env G k (aY.f G k)) (ann := aY.ann) (n := k) (bN hG eW) orders Tryd.func80 (by kernel_rfl) (by kernel_rfl) rfl (by kernel_rfl) (iU fun x0 h => aY.eq G k _ x0 h)
theorem aG.here : HrP Tryd.prog 55 := ⟨_, Tryd.func55, by kernel_rfl, by kernel_rfl⟩
theorem aG.eq (G : aI) (k : Nat) (self : dE) (x0 : AV) (h : aF) : gB Tryd.prog G (gV (aG.env G k self)) aG.ann Tryd.f55.results.toList (dY Tryd.f55) Tryd.f55.ntmps k [x0] h = aG.c G k self x0 h := by kernel_rfl
theorem aG.sound {G : aI} (hG : ∀ g x, G g = some x → bG x = true) : ∀ k, Sound Tryd.prog G 55 (aG.f G k)
 | 0 => bV aG.here (fun _ _ => rfl)
 | k + 1 => cD (l := aG.env G k (aG.f G k)) (ann := aG.ann) (n := k) (bN hG (cW (aS.sound hG k) (cW (aM.sound hG k) (cW (aY.sound hG k) eW)))) orders Tryd.func55 (by kernel_rfl) (by kernel_rfl) rfl (by kernel_rfl) (iU fun x0 h => aG.eq G k _ x0 h)
theorem bI.here : HrP Tryd.prog 98 := ⟨_, Tryd.func98, by kernel_rfl, by kernel_rfl⟩
theorem bI.eq (G : aI) (k : Nat) (self : dE) (x0 x1 : AV) (h : aF) : gB Tryd.prog G (gV (bI.env G k self)) bI.ann Tryd.f98.results.toList (dY Tryd.f98) Tryd.f98.ntmps k [x0, x1] h = bI.c G k self x0 x1 h := by kernel_rfl
theorem bI.sound {G : aI} (hG : ∀ g x, G g = some x → bG x = true) : ∀ k, Sound Tryd.prog G 98 (bI.f G k)
 | 0 => bV bI.here (fun _ _ => rfl)
 | k + 1 => cD (l := bI.env G k (bI.f G k)) (ann := bI.ann) (n := k) (bN hG eW) orders Tryd.func98 (by kernel_rfl) (by kernel_rfl) rfl (by kernel_rfl) (iO fun x0 x1 h => bI.eq G k _ x0 x1 h)
theorem cJ.here : HrP Tryd.prog 77 := ⟨_, Tryd.func77, by kernel_rfl, by kernel_rfl⟩
theorem cJ.eq (G : aI) (k : Nat) (self : dE) (x0 x1 : AV) (h : aF) : gB Tryd.prog G (gV (cJ.env G k self)) cJ.ann Tryd.f77.results.toList (dY Tryd.f77) Tryd.f77.ntmps k [x0, x1] h = cJ.c G k self x0 x1 h := by kernel_rfl
theorem cJ.sound {G : aI} (hG : ∀ g x, G g = some x → bG x = true) : ∀ k, Sound Tryd.prog G 77 (cJ.f G k)
 | 0 => bV cJ.here (fun _ _ => rfl)
 | k + 1 => cD (l := cJ.env G k (cJ.f G k)) (ann := cJ.ann) (n := k) (bN hG (cW (aG.sound hG k) (cW (aM.sound hG k) (cW (bI.sound hG k) eW)))) orders Tryd.func77 (by kernel_rfl) (by kernel_rfl) rfl (by kernel_rfl) (iO fun x0 x1 h => cJ.eq G k _ x0 x1 h)
theorem bO.here : HrP Tryd.prog 51 := ⟨_, Tryd.func51, by kernel_rfl, by kernel_rfl⟩
theorem bO.eq (G : aI) (k : Nat) (self : dE) (x0 : AV) (h : aF) : gB Tryd.prog G (gV (bO.env G k self)) bO.ann Tryd.f51.results.toList (dY Tryd.f51) Tryd.f51.ntmps k [x0] h = bO.c G k self x0 h := by kernel_rfl
theorem bO.sound {G : aI} (hG : ∀ g x, G g = some x → bG x = true) : ∀ k, Sound Tryd.prog G 51 (bO.f G k)
 | 0 => bV bO.here (fun _ _ => rfl)
 | k + 1 => cD (l := bO.env G k (bO.f G k)) (ann := bO.ann) (n := k) (bN hG (cW (cJ.sound hG k) eW)) orders Tryd.func51 (by kernel_rfl) (by kernel_rfl) rfl (by kernel_rfl) (iU fun x0 h => bO.eq G k _ x0 h)
theorem bQ.here : HrP Tryd.prog 56 := ⟨_, Tryd.func56, by kernel_rfl, by kernel_rfl⟩
theorem bQ.eq (G : aI) (k : Nat) (self : dE) (x0 x1 : AV) (h : aF) : gB Tryd.prog G (gV (bQ.env G k self)) bQ.ann Tryd.f56.results.toList (dY Tryd.f56) Tryd.f56.ntmps k [x0, x1] h = bQ.c G k self x0 x1 h := by kernel_rfl
theorem bQ.sound {G : aI} (hG : ∀ g x, G g = some x → bG x = true) : ∀ k, Sound Tryd.prog G 56 (bQ.f G k)
 | 0 => bV bQ.here (fun _ _ => rfl)
 | k + 1 => cD (l := bQ.env G k (bQ.f G k)) (ann := bQ.ann) (n := k) (bN hG eW) orders Tryd.func56 (by kernel_rfl) (by kernel_rfl) rfl (by kernel_rfl) (iO fun x0 x1 h => bQ.eq G k _ x0 x1 h)
theorem bE.here : HrP Tryd.prog 34 := ⟨_, Tryd.func34, by kernel_rfl, by kernel_rfl⟩
theorem bE.eq (G : aI) (k : Nat) (self : dE) (x0 x1 : AV) (h : aF) : gB Tryd.prog G (gV (bE.env G k self)) bE.ann Tryd.f34.results.toList (dY Tryd.f34) Tryd.f34.ntmps k [x0, x1] h = bE.c G k self x0 x1 h := by kernel_rfl
theorem bE.sound {G : aI} (hG : ∀ g x, G g = some x → bG x = true) : ∀ k, Sound Tryd.prog G 34 (bE.f G k)
 | 0 => bV bE.here (fun _ _ => rfl)
 | k + 1 => cD (l := bE.env G k (bE.f G k)) (ann := bE.ann) (n := k) (bN hG eW) orders Tryd.func34 (by kernel_rfl) (by kernel_rfl) rfl (by kernel_rfl) (iO fun x0 x1 h => bE.eq G k _ x0 x1 h)
theorem aU.here : HrP Tryd.prog 52 := ⟨_, Tryd.func52, by kernel_rfl, by kernel_rfl⟩
theorem aU.eq (G : aI) (k : Nat) (self : dE) (x0 x1 : AV) (h : aF) : gB Tryd.prog G (gV (aU.env G k self)) aU.ann Tryd.f52.results.toList (dY Tryd.f52) Tryd.f52.ntmps k [x0, x1] h = aU.c G k self x0 x1 h := by kernel_rfl
theorem aU.sound {G : aI} (hG : ∀ g x, G g = some x → bG x = true) : ∀ k, Sound Tryd.prog G 52 (aU.f G k)
 | 0 => bV aU.here (fun _ _ => rfl)
 | k + 1 => cD (l := aU.env G k (aU.f G k)) (ann := aU.ann) (n := k) (bN hG eW) orders Tryd.func52 (by kernel_rfl) (by kernel_rfl) rfl (by kernel_rfl) (iO fun x0 x1 h => aU.eq G k _ x0 x1 h)
theorem aV.here : HrP Tryd.prog 53 := ⟨_, Tryd.func53, by kernel_rfl, by kernel_rfl⟩
theorem aV.eq (G : aI) (k : Nat) (self : dE) (x0 x1 x2 : AV) (h : aF) : gB Tryd.prog G (gV (aV.env G k self)) aV.ann Tryd.f53.results.toList (dY Tryd.f53) Tryd.f53.ntmps k [x0, x1, x2] h = aV.c G k self x0 x1 x2 h := by kernel_rfl
theorem aV.sound {G : aI} (hG : ∀ g x, G g = some x → bG x = true) : ∀ k, Sound Tryd.prog G 53 (aV.f G k)
 | 0 => bV aV.here (fun _ _ => rfl)
 | k + 1 => cD (l := aV.env G k (aV.f G k)) (ann := aV.ann) (n := k) (bN hG eW) orders Tryd.func53 (by kernel_rfl) (by kernel_rfl) rfl (by kernel_rfl) (nB fun x0 x1 x2 h => aV.eq G k _ x0 x1 x2 h)
theorem aL.here : HrP Tryd.prog 25 := ⟨_, Tryd.func25, by kernel_rfl, by kernel_rfl⟩
theorem aL.eq (G : aI) (k : Nat) (self : dE) (x0 x1 x2 : AV) (h : aF) : gB Tryd.prog G (gV (aL.env G k self)) aL.ann Tryd.f25.results.toList (dY Tryd.f25) Tryd.f25.ntmps k [x0, x1, x2] h = aL.c G k self x0 x1 x2 h := by kernel_rfl
theorem aL.sound {G : aI} (hG : ∀ g x, G g = some x → bG x = true) : ∀ k, Sound Tryd.prog G 25 (aL.f G k)
 | 0 => bV aL.here (fun _ _ => rfl)
 | k + 1 => cD (l := aL.env G k (aL.f G k)) (ann := aL.ann) (n := k) (bN hG (cW (bE.sound hG k) (cW (aU.sound hG k) (cW (aV.sound hG k) (cW (aG.sound hG k) (cW (bQ.sound hG k) eW)))))) orders Tryd.func25 (by kernel_rfl) (by kernel_rfl) rfl (by kernel_rfl) (nB fun x0 x1 x2 h => aL.eq G k _ x0 x1 x2 h)
theorem bC.here : HrP Tryd.prog 26 := ⟨_, Tryd.func26, by kernel_rfl, by kernel_rfl⟩
theorem bC.eq (G : aI) (k : Nat) (self : dE) (x0 x1 : AV) (h : aF) : gB Tryd.prog G (gV (bC.env G k self)) bC.ann Tryd.f26.results.toList (dY Tryd.f26) Tryd.f26.ntmps k [x0, x1] h = bC.c G k self x0 x1 h := by kernel_rfl
theorem bC.sound {G : aI} (hG : ∀ g x, G g = some x → bG x = true) : ∀ k, Sound Tryd.prog G 26 (bC.f G k)
 | 0 => bV bC.here (fun _ _ => rfl)
 | k + 1 => cD (l := bC.env G k (bC.f G k)) (ann := bC.ann) (n := k) (bN hG eW) orders Tryd.func26 (by kernel_rfl) (by kernel_rfl) rfl (by kernel_rfl) (iO fun x0 x1 h => bC.eq G k _ x0 x1 h)
theorem aX.here : HrP Tryd.prog 46 := ⟨_, Tryd.func46, by kernel_rfl, by kernel_rfl⟩
theorem aX.eq (G : aI) (k : Nat) (self : dE) (x0 : AV) (h : aF) : yA Tryd.prog G (gV (aX.env G k self)) aX.ann Tryd.f46.results.toList (dY Tryd.f46) Tryd.f46.ntmps k [x0] h = aX.c G k self x0 h := by kernel_rfl
theorem aX.sound {G : aI} (hG : ∀ g x, G g = some x → bG x = true) : ∀ k, Sound Tryd.prog G 46 (aX.f G k)
 | 0 => bV aX.here (fun _ _ => rfl)
 | k + 1 => wO (l := aX.env G k (aX.f G k)) (ann := aX.ann) (n := k) (bN hG eW) orders Tryd.func46 (by kernel_rfl) (by kernel_rfl) rfl (by kernel_rfl) (iU fun x0 h => aX.eq G k _ x0 h)
theorem bM.here : HrP Tryd.prog 47 := ⟨_, Tryd.func47, by kernel_rfl, by kernel_rfl⟩
theorem bM.eq (G : aI) (k : Nat) (self : dE) (x0 : AV) (h : aF) : gB Tryd.prog G (gV (bM.env G k self)) bM.ann Tryd.f47.results.toList (dY Tryd.f47) Tryd.f47.ntmps k [x0] h = bM.c G k self x0 h := by kernel_rfl
theorem bM.sound {G : aI} (hG : ∀ g x, G g = some x → bG x = true) : ∀ k, Sound Tryd.prog G 47 (bM.f G k)
 | 0 => bV bM.here (fun _ _ => rfl)
 | k + 1 => cD (l := bM.env G k (bM.f G k)) (ann := bM.ann) (n := k) (bN hG eW) orders Tryd.func47 (by kernel_rfl) (by kernel_rfl) rfl (by kernel_rfl) (iU fun x0 h => bM.eq G k _ x0 h)
theorem aW.here : HrP Tryd.prog 22 := ⟨_, Tryd.func22, by kernel_rfl, by kernel_rfl⟩
theorem aW.eq (G : aI) (k : Nat) (self : dE) (x0 x1 x2 : AV) (h : aF) : gB Tryd.prog G (gV (aW.env G k self)) aW.ann Tryd.f22.results.toList (dY Tryd.f22) Tryd.f22.ntmps k [x0, x1, x2] h = aW.c G k self x0 x1 x2 h := by kernel_rfl
theorem aW.sound {G : aI} (hG : ∀ g x, G g = some x → bG x = true) : ∀ k, Sound Tryd.prog G 22 (aW.f G k)
 | 0 => bV aW.here (fun _ _ => rfl)
 | k + 1 => cD (l := aW.env G k (aW.f G k)) (ann := aW.ann) (n := k) (bN hG (cW (aL.sound hG k) (cW (bE.sound hG k) (cW (aX.sound hG k) (cW (bM.sound hG k) (cW (bO.sound hG k) (cW (aU.sound hG k) (cW (aV.sound hG k) eW)))))))) orders Tryd.func22 (by kernel_rfl) (by kernel_rfl) rfl (by kernel_rfl) (nB fun x0 x1 x2 h => aW.eq G k _ x0 x1 x2 h)
theorem fO.here : HrP Tryd.prog 106 := ⟨_, Tryd.func106, by kernel_rfl, by kernel_rfl⟩
theorem fO.eq (G : aI) (k : Nat) (self : dE) (x0 : AV) (h : aF) : gB Tryd.prog G (gV (fO.env G k self)) fO.ann Tryd.f106.results.toList (dY Tryd.f106) Tryd.f106.ntmps k [x0] h = fO.c G k self x0 h := by kernel_rfl
theorem fO.sound {G : aI} (hG : ∀ g x, G g = some x → bG x = true) : ∀ k, Sound Tryd.prog G 106 (fO.f G k)
 | 0 => bV fO.here (fun _ _ => rfl)
 | k + 1 => cD (l := fO.env G k (fO.f G k)) (ann := fO.ann) (n := k) (bN hG eW) orders Tryd.func106 (by kernel_rfl) (by kernel_rfl) rfl (by kernel_rfl) (iU fun x0 h => fO.eq G k _ x0 h)
theorem gA.here : HrP Tryd.prog 90 := ⟨_, Tryd.func90, by kernel_rfl, by kernel_rfl⟩
theorem gA.eq (G : aI) (k : Nat) (self : dE) (x0 : AV) (h : aF) : gB Tryd.prog G (gV (gA.env G k self)) gA.ann Tryd.f90.results.toList (dY Tryd.f90) Tryd.f90.ntmps k [x0] h = gA.c G k self x0 h := by kernel_rfl
theorem gA.sound {G : aI} (hG : ∀ g x, G g = some x → bG x = true) : ∀ k, Sound Tryd.prog G 90 (gA.f G k)
 | 0 => bV gA.here (fun _ _ => rfl)
 | k + 1 => cD (l := gA.env G k (gA.f G k)) (ann := gA.ann) (n := k) (bN hG (cW (fO.sound hG k) eW)) orders Tryd.func90 (by kernel_rfl) (by kernel_rfl) rfl (by kernel_rfl) (iU fun x0 h => gA.eq G k _ x0 h)
theorem gD.here : HrP Tryd.prog 91 := ⟨_, Tryd.func91, by kernel_rfl, by kernel_rfl⟩
theorem gD.eq (G : aI) (k : Nat) (self : dE) (x0 x1 : AV) (h : aF) : gB Tryd.prog G (gV (gD.env G k self)) gD.ann Tryd.f91.results.toList (dY Tryd.f91) Tryd.f91.ntmps k [x0, x1] h = gD.c G k self x0 x1 h := by kernel_rfl
theorem gD.sound {G : aI} (hG : ∀ g x, G g = some x → bG x = true) : ∀ k, Sound Tryd.prog G 91 (gD.f G k)
 | 0 => bV gD.here (fun _ _ => rfl)
 | k + 1 => cD (l := gD.env G k (gD.f G k)) (ann := gD.ann) (n := k) (bN hG eW) orders Tryd.func91 (by kernel_rfl) (by kernel_rfl) rfl (by kernel_rfl) (iO fun x0 x1 h => gD.eq G k _ x0 x1 h)
theorem dC.here : HrP Tryd.prog 64 := ⟨_, Tryd.func64, by kernel_rfl, by kernel_rfl⟩
theorem dC.eq (G : aI) (k : Nat) (self : dE) (x0 x1 : AV) (h : aF) : gB Tryd.prog G (gV (dC.env G k self)) dC.ann Tryd.f64.results.toList (dY Tryd.f64) Tryd.f64.ntmps k [x0, x1] h = dC.c G k self x0 x1 h := by kernel_rfl
theorem dC.sound {G : aI} (hG : ∀ g x, G g = some x → bG x = true) : ∀ k, Sound Tryd.prog G 64 (dC.f G k)
 | 0 => bV dC.here (fun _ _ => rfl)
 | k + 1 => cD (l := dC.env G k (dC.f G k)) (ann := dC.ann) (n := k) (bN hG (cW (gA.sound hG k) (cW (gD.sound hG k) eW))) orders Tryd.func64 (by kernel_rfl) (by kernel_rfl) rfl (by kernel_rfl) (iO fun x0 x1 h => dC.eq G k _ x0 x1 h)
theorem dF.here : HrP Tryd.prog 38 := ⟨_, Tryd.func38, by kernel_rfl, by kernel_rfl⟩
theorem dF.eq (G : aI) (k : Nat) (self : dE) (x0 : AV) (h : aF) : gB Tryd.prog G (gV (dF.env G k self)) dF.ann Tryd.f38.results.toList (dY Tryd.f38) Tryd.f38.ntmps k [x0] h = dF.c G k self x0 h := by kernel_rfl
theorem dF.sound {G : aI} (hG : ∀ g x, G g = some x → bG x = true) : ∀ k, Sound Tryd.prog G 38 (dF.f G k)
 | 0 => bV dF.here (fun _ _ => rfl)
 | k + 1 => cD (l := dF.env G k (dF.f G k)) (ann := dF.ann) (n := k) (bN hG (cW (dC.sound hG k) eW)) orders Tryd.func38 (by kernel_rfl) (by kernel_rfl) rfl (by kernel_rfl) (iU fun x0 h => dF.eq G k _ x0 h)
theorem cE.here : HrP Tryd.prog 54 := ⟨_, Tryd.func54, by kernel_rfl, by kernel_rfl⟩
theorem cE.eq (G : aI) (k : Nat) (self : dE) (x0 x1 : AV) (h : aF) : yA Tryd.prog G (gV (cE.env G k self)) cE.ann Tryd.f54.results.toList (dY Tryd.f54) Tryd.f54.ntmps k [x0, x1] h = cE.c G k self x0 x1 h := by kernel_rfl
theorem cE.sound {G : aI} (hG : ∀ g x, G g = some x → bG x = true) : ∀ k, Sound Tryd.prog G 54 (cE.f G k)
 | 0 => bV cE.here (fun _ _ => rfl)
 | k + 1 => wO (l := cE.env G k (cE.f G k)) (ann := cE.ann) (n := k) (bN hG eW) orders Tryd.func54 (by kernel_rfl) (by kernel_rfl) rfl (by kernel_rfl) (iO fun x0 x1 h => cE.eq G k _ x0 x1 h)
theorem bD.here : HrP Tryd.prog 65 := ⟨_, Tryd.func65, by kernel_rfl, by kernel_rfl⟩
theorem bD.eq (G : aI) (k : Nat) (self : dE) (x0 x1 : AV) (h : aF) : gB Tryd.prog G (gV (bD.env G k self)) bD.ann Tryd.f65.results.toList (dY Tryd.f65) Tryd.f65.ntmps k [x0, x1] h = bD.c G k self x0 x1 h := by kernel_rfl
theorem bD.sound {G : aI} (hG : ∀ g x, G g = some x → bG x = true) : ∀ k, Sound Tryd.prog G 65 (bD.f G k)
 | 0 => bV bD.here (fun _ _ => rfl)
 | k + 1 => cD (l := bD.env G k (bD.f G k)) (ann := bD.ann) (n := k) (bN hG eW) orders Tryd.func65 (by kernel_rfl) (by kernel_rfl) rfl (by kernel_rfl) (iO fun x0 x1 h => bD.eq G k _ x0 x1 h)
theorem bL.here : HrP Tryd.prog 66 := ⟨_, Tryd.func66, by kernel_rfl, by kernel_rfl⟩
theorem bL.eq (G : aI) (k : Nat) (self : dE) (x0 x1 x2 : AV) (h : aF) : gB Tryd.prog G (gV (bL.env G k self)) bL.ann Tryd.f66.results.toList (dY Tryd.f66) Tryd.f66.ntmps k [x0, x1, x2] h = bL.c G k self x0 x1 x2 h := by kernel_rfl
theorem bL.sound {G : aI} (hG : ∀ g x, G g = some x → bG x = true) : ∀ k, Sound Tryd.prog G 66 (bL.f G k)
 | 0 => bV bL.here (fun _ _ => rfl)
 | k + 1 => cD (l := bL.env G k (bL.f G k)) (ann := bL.ann) (n := k) (bN hG (cW (bD.sound hG k) eW)) orders Tryd.func66 (by kernel_rfl) (by kernel_rfl) rfl (by kernel_rfl) (nB fun x0 x1 x2 h => bL.eq G k _ x0 x1 x2 h)
theorem cF.here : HrP Tryd.prog 67 := ⟨_, Tryd.func67, by kernel_rfl, by kernel_rfl⟩
theorem cF.eq (G : aI) (k : Nat) (self : dE) (x0 x1 x2 : AV) (h : aF) : gB Tryd.prog G (gV (cF.env G k self)) cF.ann Tryd.f67.results.toList (dY Tryd.f67) Tryd.f67.ntmps k [x0, x1, x2] h = cF.c G k self x0 x1 x2 h := by kernel_rfl
theorem cF.sound {G : aI} (hG : ∀ g x, G g = some x → bG x = true) : ∀ k, Sound Tryd.prog G 67 (cF.f G k)
 | 0 => bV cF.here (fun _ _ => rfl)
 | k + 1 => cD (l := cF.env G k (cF.f G k)) (ann := cF.ann) (n := k) (bN hG (cW (bD.sound hG k) eW)) orders Tryd.func67 (by kernel_rfl) (by kernel_rfl) rfl (by kernel_rfl) (nB fun x0 x1 x2 h => cF.eq G k _ x0 x1 x2 h)
theorem bX.here : HrP Tryd.prog 69 := ⟨_, Tryd.func69, by kernel_rfl, by kernel_rfl⟩
theorem bX.eq (G : aI) (k : Nat) (self : dE) (x0 x1 x2 : AV) (h : aF) : gB Tryd.prog G (gV (bX.env G k self)) bX.ann Tryd.f69.results.toList (dY Tryd.f69) Tryd.f69.ntmps k [x0, x1, x2] h = bX.c G k self x0 x1 x2 h := by kernel_rfl
theorem bX.sound {G : aI} (hG : ∀ g x, G g = some x → bG x = true) : ∀ k, Sound Tryd.prog G 69 (bX.f G k)
 | 0 => bV bX.here (fun _ _ => rfl)
 | k + 1 => cD (l := bX.env G k (bX.f G k)) (ann := bX.ann) (n := k) (bN hG (cW (bD.sound hG k) eW)) orders Tryd.func69 (by kernel_rfl) (by kernel_rfl) rfl (by kernel_rfl) (nB fun x0 x1 x2 h => bX.eq G k _ x0 x1 x2 h)
theorem cO.here : HrP Tryd.prog 68 := ⟨_, Tryd.func68, by kernel_rfl, by kernel_rfl⟩
theorem cO.eq (G : aI) (k : Nat) (self : dE) (x0 x1 x2 x3 x4 : AV) (h : aF) : gB Tryd.prog G (gV (cO.env G k self)) cO.ann Tryd.f68.results.toList (dY Tryd.f68) Tryd.f68.ntmps k [x0, x1, x2, x3, x4] h = cO.c G k self x0 x1 x2 x3 x4 h := by kernel_rfl
theorem cO.sound {G : aI} (hG : ∀ g x, G g = some x → bG x = true) : ∀ k, Sound Tryd.prog G 68 (cO.f G k)
 | 0 => bV cO.here (fun _ _ => rfl)
 | k + 1 => cD (l := cO.env G k (cO.f G k)) (ann := cO.ann) (n := k) (bN hG (cW (cE.sound hG k) (cW (bD.sound hG k) (cW (bX.sound hG k) eW)))) orders Tryd.func68 (by kernel_rfl) (by kernel_rfl) rfl (by kernel_rfl) (aIT fun x0 x1 x2 x3 x4 h => cO.eq G k _ x0 x1 x2 x3 x4 h)
theorem aR.here : HrP Tryd.prog 39 := ⟨_, Tryd.func39, by kernel_rfl, by kernel_rfl⟩
theorem aR.eq (G : aI) (k : Nat) (self : dE) (x0 x1 x2 : AV) (h : aF) : gB Tryd.prog G (gV (aR.env G k self)) aR.ann Tryd.f39.results.toList (dY Tryd.f39) Tryd.f39.ntmps k [x0, x1, x2] h = aR.c G k self x0 x1 x2 h := by kernel_rfl
theorem aR.sound {G : aI} (hG : ∀ g x, G g = some x → bG x = true) : ∀ k, Sound Tryd.prog G 39 (aR.f G k)
 | 0 => bV aR.here (fun _ _ => rfl)
 | k + 1 => cD (l := aR.env G k (aR.f G k)) (ann := aR.ann) (n := k) (bN hG (cW (cE.sound hG k) (cW (bD.sound hG k) (cW (bL.sound hG k) (cW (cF.sound hG k) (cW (cO.sound hG k) (cW (bX.sound hG k) eW))))))) orders Tryd.func39 (by kernel_rfl) (by kernel_rfl) rfl (by kernel_rfl) (nB fun x0 x1 x2 h => aR.eq G k _ x0 x1 x2 h)
theorem bU.here : HrP Tryd.prog 17 := ⟨_, Tryd.func17, by kernel_rfl, by kernel_rfl⟩
theorem bU.eq (G : aI) (k : Nat) (self : dE) (x0 : AV) (h : aF) : gB Tryd.prog G (gV (bU.env G k self)) bU.ann Tryd.f17.results.toList (dY Tryd.f17) Tryd.f17.ntmps k [x0] h = bU.c G k self x0 h := by kernel_rfl
theorem bU.sound {G : aI} (hG : ∀ g x, G g = some x → bG x = true) : ∀ k, Sound Tryd.prog G 17 (bU.f G k)
 | 0 => bV bU.here (fun _ _ => rfl)
 | k + 1 => cD (l := bU.env G k (bU.f G k)) (ann := bU.ann) (n := k) (bN hG (cW (dF.sound hG k) (cW (aR.sound hG k) (cW (bA.sound hG k) eW)))) orders Tryd.func17 (by kernel_rfl) (by kernel_rfl) rfl (by kernel_rfl) (iU fun x0 h => bU.eq G k _ x0 h)
theorem gM.here : HrP Tryd.prog 23 := ⟨_, Tryd.func23, by kernel_rfl, by kernel_rfl⟩
theorem gM.eq (G : aI) (k : Nat) (self : dE) (x0 x1 : AV) (h : aF) : gB Tryd.prog G (gV (gM.env G k self)) gM.ann Tryd.f23.results.toList (dY Tryd.f23) Tryd.f23.ntmps k [x0, x1] h = gM.c G k self x0 x1 h := by kernel_rfl
theorem gM.sound {G : aI} (hG : ∀ g x, G g = some x → bG x = true) : ∀ k, Sound Tryd.prog G 23 (gM.f G k)
 | 0 => bV gM.here (fun _ _ => rfl)
 | k + 1 => cD (l := gM.env G k (gM.f G k)) (ann := gM.ann) (n := k) (bN hG (cW (cE.sound hG k) eW)) orders Tryd.func23 (by kernel_rfl) (by kernel_rfl) rfl (by kernel_rfl) (iO fun x0 x1 h => gM.eq G k _ x0 x1 h)
theorem cZ.here : HrP Tryd.prog 15 := ⟨_, Tryd.func15, by kernel_rfl, by kernel_rfl⟩
theorem cZ.eq (G : aI) (k : Nat) (self : dE) (h : aF) : gB Tryd.prog G (gV (cZ.env G k self)) cZ.ann Tryd.f15.results.toList (dY Tryd.f15) Tryd.f15.ntmps k [] h = cZ.c G k self h := by kernel_rfl
theorem cZ.sound {G : aI} (hG : ∀ g x, G g = some x → bG x = true) : ∀ k, Sound Tryd.prog G 15 (cZ.f G k)
 | 0 => bV cZ.here (fun _ _ => rfl)
 | k + 1 => cD (l := cZ.env G k (cZ.f G k)) (ann := cZ.ann) (n := k) (bN hG (cW (bU.sound hG k) (cW (gM.sound hG k) eW))) orders Tryd.func15 (by kernel_rfl) (by kernel_rfl) rfl (by kernel_rfl) (aIR fun h => cZ.eq G k _ h)
theorem bP.here : HrP Tryd.prog 19 := ⟨_, Tryd.func19, by kernel_rfl, by kernel_rfl⟩
theorem bP.eq (G : aI) (k : Nat) (self : dE) (x0 : AV) (h : aF) : gB Tryd.prog G (gV (bP.env G k self)) bP.ann Tryd.f19.results.toList (dY Tryd.f19) Tryd.f19.ntmps k [x0] h = bP.c G k self x0 h := by kernel_rfl
theorem bP.sound {G : aI} (hG : ∀ g x, G g = some x → bG x = true) : ∀ k, Sound Tryd.prog G 19 (bP.f G k)
 | 0 => bV bP.here (fun _ _ => rfl)
 | k + 1 => cD (l := bP.env G k (bP.f G k)) (ann := bP.ann) (n := k) (bN hG eW) orders Tryd.func19 (by kernel_rfl) (by kernel_rfl) rfl (by kernel_rfl) (iU fun x0 h => bP.eq G k _ x0 h)
theorem dN.here : HrP Tryd.prog 73 := ⟨_, Tryd.func73, by kernel_rfl, by kernel_rfl⟩
theorem dN.eq (G : aI) (k : Nat) (self : dE) (x0 x1 : AV) (h : aF) : gB Tryd.prog G (gV (dN.env G k self)) dN.ann Tryd.f73.results.toList (dY Tryd.f73) Tryd.f73.ntmps k [x0, x1] h = dN.c G k self x0 x1 h := by kernel_rfl
theorem dN.sound {G : aI} (hG : ∀ g x, G g = some x → bG x = true) : ∀ k, Sound Tryd.prog G 73 (dN.f G k)
 | 0 => bV dN.here (fun _ _ => rfl)
 | k + 1 => cD (l := dN.env G k (dN.f G k)) (ann := dN.ann) (n := k) (bN hG eW) orders Tryd.func73 (by kernel_rfl) (by kernel_rfl) rfl (by kernel_rfl) (iO fun x0 x1 h => dN.eq G k _ x0 x1 h)
theorem cU.here : HrP Tryd.prog 74 := ⟨_, Tryd.func74, by kernel_rfl, by kernel_rfl⟩
theorem cU.eq (G : aI) (k : Nat) (self : dE) (x0 x1 : AV) (h : aF) : gB Tryd.prog G (gV (cU.env G k self)) cU.ann Tryd.f74.results.toList (dY Tryd.f74) Tryd.f74.ntmps k [x0, x1] h = cU.c G k self x0 x1 h := by kernel_rfl
theorem cU.sound {G : aI} (hG : ∀ g x, G g = some x → bG x = true) : ∀ k, Sound Tryd.prog G 74 (cU.f G k)
 | 0 => bV cU.here (fun _ _ => rfl)
 | k + 1 => cD (l := cU.env G k (cU.f G k)) (ann := cU.ann) (n := k) (bN hG eW) orders Tryd.func74 (by kernel_rfl) (by kernel_rfl) rfl (by kernel_rfl) (iO fun x0 x1 h => cU.eq G k _ x0 x1 h)
theorem dI.here : HrP Tryd.prog 75 := ⟨_, Tryd.func75, by kernel_rfl, by kernel_rfl⟩
theorem dI.eq (G : aI) (k : Nat) (self : dE) (x0 x1 : AV) (h : aF) : gB Tryd.prog G (gV (dI.env G k self)) dI.ann Tryd.f75.results.toList (dY Tryd.f75) Tryd.f75.ntmps k [x0, x1] h = dI.c G k self x0 x1 h := by kernel_rfl
theorem dI.sound {G : aI} (hG : ∀ g x, G g = some x → bG x = true) : ∀ k, Sound Tryd.prog G 75 (dI.f G k)
 | 0 => bV dI.here (fun _ _ => rfl)
 | k + 1 => cD (l := dI.env G k (dI.f G k)) (ann := dI.ann) (n := k) (bN hG eW) orders Tryd.func75 (by kernel_rfl) (by kernel_rfl) rfl (by kernel_rfl) (iO fun x0 x1 h => dI.eq G k _ x0 x1 h)
theorem cT.here : HrP Tryd.prog 76 := ⟨_, Tryd.func76, by kernel_rfl, by kernel_rfl⟩
theorem cT.eq (G : aI) (k : Nat) (self : dE) (x0 x1 : AV) (h : aF) : gB Tryd.prog G (gV (cT.env G k self)) cT.ann Tryd.f76.results.toList (dY Tryd.f76) Tryd.f76.ntmps k [x0, x1] h = cT.c G k self x0 x1 h := by kernel_rfl
theorem cT.sound {G : aI} (hG : ∀ g x, G g = some x → bG x = true) : ∀ k, Sound Tryd.prog G 76 (cT.f G k)
 | 0 => bV cT.here (fun _ _ => rfl)
 | k + 1 => cD (l := cT.env G k (cT.f G k)) (ann := cT.ann) (n := k) (bN hG (cW (bQ.sound hG k) (cW (cU.sound hG k) eW))) orders Tryd.func76 (by kernel_rfl) (by kernel_rfl) rfl (by kernel_rfl) (iO fun x0 x1 h => cT.eq G k _ x0 x1 h)
theorem dD.here : HrP Tryd.prog 48 := ⟨_, Tryd.func48, by kernel_rfl, by kernel_rfl⟩
theorem dD.eq (G : aI) (k : Nat) (self : dE) (x0 x1 x2 : AV) (h : aF) : gB Tryd.prog G (gV (dD.env G k self)) dD.ann Tryd.f48.results.toList (dY Tryd.f48) Tryd.f48.ntmps k [x0, x1, x2] h = dD.c G k self x0 x1 x2 h := by kernel_rfl
theorem dD.sound {G : aI} (hG : ∀ g x, G g = some x → bG x = true) : ∀ k, Sound Tryd.prog G 48 (dD.f G k)
 | 0 => bV dD.here (fun _ _ => rfl)
 | k + 1 => cD (l := dD.env G k (dD.f G k)) (ann := dD.ann) (n := k) (bN hG (cW (dN.sound hG k) (cW (cU.sound hG k) (cW (dI.sound hG k) (cW (cT.sound hG k) eW))))) orders Tryd.func48 (by kernel_rfl) (by kernel_rfl) rfl (by kernel_rfl) (nB fun x0 x1 x2 h => dD.eq G k _ x0 x1 x2 h)
theorem bS.here : HrP Tryd.prog 49 := ⟨_, Tryd.func49, by kernel_rfl, by kernel_rfl⟩
theorem bS.eq (G : aI) (k : Nat) (self : dE) (x0 x1 x2 x3 : AV) (h : aF) : gB Tryd.prog G (gV (bS.env G k self)) bS.ann Tryd.f49.results.toList (dY Tryd.f49) Tryd.f49.ntmps k [x0, x1, x2, x3] h = bS.c G k self x0 x1 x2 x3 h := by kernel_rfl
theorem bS.sound {G : aI} (hG : ∀ g x, G g = some x → bG x = true) : ∀ k, Sound Tryd.prog G 49 (bS.f G k)
 | 0 => bV bS.here (fun _ _ => rfl)
 | k + 1 => cD (l := bS.env G k (bS.f G k)) (ann := bS.ann) (n := k) (bN hG (cW (bQ.sound hG k) eW)) orders Tryd.func49 (by kernel_rfl) (by kernel_rfl) rfl (by kernel_rfl) (aFb fun x0 x1 x2 x3 h => bS.eq G k _ x0 x1 x2 x3 h)
theorem bH.here : HrP Tryd.prog 20 := ⟨_, Tryd.func20, by kernel_rfl, by kernel_rfl⟩
theorem bH.eq (G : aI) (k : Nat) (self : dE) (x0 x1 x2 x3 : AV) (h : aF) : gB Tryd.prog G (gV (bH.env G k self)) bH.ann Tryd.f20.results.toList (dY Tryd.f20) Tryd.f20.ntmps k [x0, x1, x2, x3] h = bH.c G k self x0 x1 x2 x3 h := by kernel_rfl
theorem bH.sound {G : aI} (hG : ∀ g x, G g = some x → bG x = true) : ∀ k, Sound Tryd.prog G 20 (bH.f G k)
 | 0 => bV bH.here (fun _ _ => rfl)
 | k + 1 => cD (l := bH.env G k (bH.f G k)) (ann := bH.ann) (n := k) (bN hG (cW (aX.sound hG k) (cW (bM.sound hG k) (cW (dD.sound hG k) (cW (bS.sound hG k) eW))))) orders Tryd.func20 (by kernel_rfl) (by kernel_rfl) rfl (by kernel_rfl) (aFb fun x0 x1 x2 x3 h => bH.eq G k _ x0 x1 x2 x3 h)
theorem alembiclaw24_SelectEach.here : HrP Tryd.prog 5 := ⟨_, Tryd.func5, by kernel_rfl, by kernel_rfl⟩
theorem alembiclaw24_SelectEach.eq (G : aI) (k : Nat) (self : dE) (x0 x1 x2 x3 x4 x5 x6 x7 : AV) (h : aF) : gB Tryd.prog G (gV (alembiclaw24_SelectEach.env G k self)) alembiclaw24_SelectEach.ann Tryd.f5.results.toList (dY Tryd.f5) Tryd.f5.ntmps k [x0, x1, x2, x3, x4, x5, x6, x7] h = alembiclaw24_SelectEach.c G k self x0 x1 x2 x3 x4 x5 x6 x7 h := by kernel_rfl
theorem alembiclaw24_SelectEach.sound {G : aI} (hG : ∀ g x, G g = some x → bG x = true) : ∀ k, Sound Tryd.prog G 5 (alembiclaw24_SelectEach.f G k)
 | 0 => bV alembiclaw24_SelectEach.here (fun _ _ => rfl)
 | k + 1 => cD (l := alembiclaw24_SelectEach.env G k (alembiclaw24_SelectEach.f G k)) (ann := alembiclaw24_SelectEach.ann) (n := k) (bN hG (cW (cZ.sound hG k) (cW (bU.sound hG k) (cW (bP.sound hG k) (cW (bH.sound hG k) (cW (aW.sound hG k) (cW (bC.sound hG k) eW))))))) orders Tryd.func5 (by kernel_rfl) (by kernel_rfl) rfl (by kernel_rfl) (aIU fun x0 x1 x2 x3 x4 x5 x6 x7 h => alembiclaw24_SelectEach.eq G k _ x0 x1 x2 x3 x4 x5 x6 x7 h)
end Go.Proofs.YtdfglgnflldkpaaDoor.Mir
