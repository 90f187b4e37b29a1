/- Part 7 of the proof: the functions that the statement reaches, and their contracts. -/
import Derived.Test.YtdfglgnflldkpaaDoorVf6
import Derived.Test.YtdfglgnflldkpaaDoorProg
import Derived.KernelRfl
namespace Go.Proofs.YtdfglgnflldkpaaDoor.Mir
open Go
set_option linter.unusedVariables false
theorem orders : Tryd.prog.follows .mixedOrders = true := by kernel_rfl
theorem iA.here : HrP Tryd.prog 92 := ⟨_, Tryd.func92, by kernel_rfl, by kernel_rfl⟩
theorem iA.eq (G : aG) (k : Nat) (self : dA) (x0 x1 x2 : AV) (h : aF) : fY Tryd.prog G (gV (iA.env G k self)) iA.ann Tryd.f92.results.toList (eH Tryd.f92) Tryd.f92.ntmps k [x0, x1, x2] h = iA.c G k self x0 x1 x2 h := by kernel_rfl
theorem iA.sound {G : aG} (hG : ∀ g x, G g = some x → bC x = true) : ∀ k, Sound Tryd.prog G 92 (iA.f G k)
 | 0 => bP iA.here (fun _ _ => rfl)
 | k + 1 => bU (l := iA.env G k (iA.f G k)) (ann := iA.ann) (n := k) (bG hG eY) orders Tryd.func92 (by kernel_rfl) (by kernel_rfl) rfl (by kernel_rfl) (mE fun x0 x1 x2 h => iA.eq G k _ x0 x1 x2 h)
theorem gH.here : HrP Tryd.prog 107 := ⟨_, Tryd.func107, by kernel_rfl, by kernel_rfl⟩
theorem gH.eq (G : aG) (k : Nat) (self : dA) (x0 x1 : AV) (h : aF) : fY Tryd.prog G (gV (gH.env G k self)) gH.ann Tryd.f107.results.toList (eH Tryd.f107) Tryd.f107.ntmps k [x0, x1] h = gH.c G k self x0 x1 h := by kernel_rfl
theorem gH.sound {G : aG} (hG : ∀ g x, G g = some x → bC x = true) : ∀ k, Sound Tryd.prog G 107 (gH.f G k)
 | 0 => bP gH.here (fun _ _ => rfl)
 | k + 1 => bU (l := gH.env G k (gH.f G k)) (ann := gH.ann) (n := k) (bG hG eY) orders Tryd.func107 (by kernel_rfl) (by kernel_rfl) rfl (by kernel_rfl) (iK fun x0 x1 h => gH.eq G k _ x0 x1 h)
theorem fV.here : HrP Tryd.prog 93 := ⟨_, Tryd.func93, by kernel_rfl, by kernel_rfl⟩
theorem fV.eq (G : aG) (k : Nat) (self : dA) (x0 : AV) (h : aF) : fY Tryd.prog G (gV (fV.env G k self)) fV.ann Tryd.f93.results.toList (eH Tryd.f93) Tryd.f93.ntmps k [x0] h = fV.c G k self x0 h := by kernel_rfl
theorem fV.sound {G : aG} (hG : ∀ g x, G g = some x → bC x = true) : ∀ k, Sound Tryd.prog G 93 (fV.f G k)
 | 0 => bP fV.here (fun _ _ => rfl)
 | k + 1 => bU (l := fV.env G k (fV.f G k)) (ann := fV.ann) (n := k) (bG hG (cO (iA.sound hG k) (cO (gH.sound hG k) eY))) orders Tryd.func93 (by kernel_rfl) (by kernel_rfl) rfl (by kernel_rfl) (iR fun x0 h => fV.eq G k _ x0 h)
theorem fN.here : HrP Tryd.prog 70 := ⟨_, Tryd.func70, by kernel_rfl, by kernel_rfl⟩
theorem fN.eq (G : aG) (k : Nat) (self : dA) (x0 : AV) (h : aF) : fY Tryd.prog G (gV (fN.env G k self)) fN.ann Tryd.f70.results.toList (eH Tryd.f70) Tryd.f70.ntmps k [x0] h = fN.c G k self x0 h := by kernel_rfl
theorem fN.sound {G : aG} (hG : ∀ g x, G g = some x → bC x = true) : ∀ k, Sound Tryd.prog G 70 (fN.f G k)
 | 0 => bP fN.here (fun _ _ => rfl)
 | k + 1 => bU (l := fN.env G k (fN.f G k)) (ann := fN.ann) (n := k) (bG hG (cO (iA.sound hG k) (cO (fV.sound hG k) eY))) orders Tryd.func70 (by kernel_rfl) (by kernel_rfl) rfl (by kernel_rfl) (iR fun x0 h => fN.eq G k _ x0 h)
theorem dZ.here : HrP Tryd.prog 94 := ⟨_, Tryd.func94, by kernel_rfl, by kernel_rfl⟩
theorem dZ.eq (G : aG) (k : Nat) (self : dA) (x0 x1 : AV) (h : aF) : fY Tryd.prog G (gV (dZ.env G k self)) dZ.ann Tryd.f94.results.toList (eH Tryd.f94) Tryd.f94.ntmps k [x0, x1] h = dZ.c G k self x0 x1 h := by kernel_rfl
theorem dZ.sound {G : aG} (hG : ∀ g x, G g = some x → bC x = true) : ∀ k, Sound Tryd.prog G 94 (dZ.f G k)
 | 0 => bP dZ.here (fun _ _ => rfl)
 | k + 1 => bU (l := dZ.env G k (dZ.f G k)) (ann := dZ.ann) (n := k) (bG hG eY) orders Tryd.func94 (by kernel_rfl) (by kernel_rfl) rfl (by kernel_rfl) (iK fun x0 x1 h => dZ.eq G k _ x0 x1 h)
theorem fU.here : HrP Tryd.prog 95 := ⟨_, Tryd.func95, by kernel_rfl, by kernel_rfl⟩
theorem fU.eq (G : aG) (k : Nat) (self : dA) (x0 : AV) (h : aF) : fY Tryd.prog G (gV (fU.env G k self)) fU.ann Tryd.f95.results.toList (eH Tryd.f95) Tryd.f95.ntmps k [x0] h = fU.c G k self x0 h := by kernel_rfl
theorem fU.sound {G : aG} (hG : ∀ g x, G g = some x → bC x = true) : ∀ k, Sound Tryd.prog G 95 (fU.f G k)
 | 0 => bP fU.here (fun _ _ => rfl)
 | k + 1 => bU (l := fU.env G k (fU.f G k)) (ann := fU.ann) (n := k) (bG hG eY) orders Tryd.func95 (by kernel_rfl) (by kernel_rfl) rfl (by kernel_rfl) (iR fun x0 h => fU.eq G k _ x0 h)
theorem fG.here : HrP Tryd.prog 108 := ⟨_, Tryd.func108, by kernel_rfl, by kernel_rfl⟩
theorem fG.eq (G : aG) (k : Nat) (self : dA) (x0 : AV) (h : aF) : fY Tryd.prog G (gV (fG.env G k self)) fG.ann Tryd.f108.results.toList (eH Tryd.f108) Tryd.f108.ntmps k [x0] h = fG.c G k self x0 h := by kernel_rfl
theorem fG.sound {G : aG} (hG : ∀ g x, G g = some x → bC x = true) : ∀ k, Sound Tryd.prog G 108 (fG.f G k)
 | 0 => bP fG.here (fun _ _ => rfl)
 | k + 1 => bU (l := fG.env G k (fG.f G k)) (ann := fG.ann) (n := k) (bG hG eY) orders Tryd.func108 (by kernel_rfl) (by kernel_rfl) rfl (by kernel_rfl) (iR fun x0 h => fG.eq G k _ x0 h)
theorem hU.here : HrP Tryd.prog 96 := ⟨_, Tryd.func96, by kernel_rfl, by kernel_rfl⟩
theorem hU.eq (G : aG) (k : Nat) (self : dA) (x0 x1 : AV) (h : aF) : fY Tryd.prog G (gV (hU.env G k self)) hU.ann Tryd.f96.results.toList (eH Tryd.f96) Tryd.f96.ntmps k [x0, x1] h = hU.c G k self x0 x1 h := by kernel_rfl
theorem hU.sound {G : aG} (hG : ∀ g x, G g = some x → bC x = true) : ∀ k, Sound Tryd.prog G 96 (hU.f G k)
 | 0 => bP hU.here (fun _ _ => rfl)
 | k + 1 => bU (l := hU.env G k (hU.f G k)) (ann := hU.ann) (n := k) (bG hG (cO (fG.sound hG k) eY)) orders Tryd.func96 (by kernel_rfl) (by kernel_rfl) rfl (by kernel_rfl) (iK fun x0 x1 h => hU.eq G k _ x0 x1 h)
theorem fW.here : HrP Tryd.prog 97 := ⟨_, Tryd.func97, by kernel_rfl, by kernel_rfl⟩
theorem fW.eq (G : aG) (k : Nat) (self : dA) (x0 : AV) (h : aF) : fY Tryd.prog G (gV (fW.env G k self)) fW.ann Tryd.f97.results.toList (eH Tryd.f97) Tryd.f97.ntmps k [x0] h = fW.c G k self x0 h := by kernel_rfl
theorem fW.sound {G : aG} (hG : ∀ g x, G g = some x → bC x = true) : ∀ k, Sound Tryd.prog G 97 (fW.f G k)
 | 0 => bP fW.here (fun _ _ => rfl)
 | k + 1 => bU (l := fW.env G k (fW.f G k)) (ann := fW.ann) (n := k) (bG hG eY) orders Tryd.func97 (by kernel_rfl) (by kernel_rfl) rfl (by kernel_rfl) (iR fun x0 h => fW.eq G k _ x0 h)
theorem dV.here : HrP Tryd.prog 71 := ⟨_, Tryd.func71, by kernel_rfl, by kernel_rfl⟩
theorem dV.eq (G : aG) (k : Nat) (self : dA) (x0 x1 : AV) (h : aF) : fY Tryd.prog G (gV (dV.env G k self)) dV.ann Tryd.f71.results.toList (eH Tryd.f71) Tryd.f71.ntmps k [x0, x1] h = dV.c G k self x0 x1 h := by kernel_rfl
theorem dV.sound {G : aG} (hG : ∀ g x, G g = some x → bC x = true) : ∀ k, Sound Tryd.prog G 71 (dV.f G k)
 | 0 => bP dV.here (fun _ _ => rfl)
 | k + 1 => bU (l := dV.env G k (dV.f G k)) (ann := dV.ann) (n := k) (bG hG (cO (dZ.sound hG k) (cO (fU.sound hG k) (cO (hU.sound hG k) (cO (fW.sound hG k) eY))))) orders Tryd.func71 (by kernel_rfl) (by kernel_rfl) rfl (by kernel_rfl) (iK fun x0 x1 h => dV.eq G k _ x0 x1 h)
theorem cP.here : HrP Tryd.prog 72 := ⟨_, Tryd.func72, by kernel_rfl, by kernel_rfl⟩
theorem cP.eq (G : aG) (k : Nat) (self : dA) (x0 : AV) (h : aF) : fY Tryd.prog G (gV (cP.env G k self)) cP.ann Tryd.f72.results.toList (eH Tryd.f72) Tryd.f72.ntmps k [x0] h = cP.c G k self x0 h := by kernel_rfl
theorem cP.sound {G : aG} (hG : ∀ g x, G g = some x → bC x = true) : ∀ k, Sound Tryd.prog G 72 (cP.f G k)
 | 0 => bP cP.here (fun _ _ => rfl)
 | k + 1 => bU (l := cP.env G k (cP.f G k)) (ann := cP.ann) (n := k) (bG hG eY) orders Tryd.func72 (by kernel_rfl) (by kernel_rfl) rfl (by kernel_rfl) (iR fun x0 h => cP.eq G k _ x0 h)
theorem bB.here : HrP Tryd.prog 40 := ⟨_, Tryd.func40, by kernel_rfl, by kernel_rfl⟩
theorem bB.eq (G : aG) (k : Nat) (self : dA) (x0 : AV) (h : aF) : fY Tryd.prog G (gV (bB.env G k self)) bB.ann Tryd.f40.results.toList (eH Tryd.f40) Tryd.f40.ntmps k [x0] h = bB.c G k self x0 h := by kernel_rfl
theorem bB.sound {G : aG} (hG : ∀ g x, G g = some x → bC x = true) : ∀ k, Sound Tryd.prog G 40 (bB.f G k)
 | 0 => bP bB.here (fun _ _ => rfl)
 | k + 1 => bU (l := bB.env G k (bB.f G k)) (ann := bB.ann) (n := k) (bG hG (cO (fN.sound hG k) (cO (dV.sound hG k) (cO (cP.sound hG k) eY)))) orders Tryd.func40 (by kernel_rfl) (by kernel_rfl) rfl (by kernel_rfl) (iR fun x0 h => bB.eq G k _ x0 h)
theorem aM.here : HrP Tryd.prog 79 := ⟨_, Tryd.func79, by kernel_rfl, by kernel_rfl⟩
theorem aM.eq (G : aG) (k : Nat) (self : dA) (x0 : AV) (h : aF) : fY Tryd.prog G (gV (aM.env G k self)) aM.ann Tryd.f79.results.toList (eH Tryd.f79) Tryd.f79.ntmps k [x0] h = aM.c G k self x0 h := by kernel_rfl
theorem aM.sound {G : aG} (hG : ∀ g x, G g = some x → bC x = true) : ∀ k, Sound Tryd.prog G 79 (aM.f G k)
 | 0 => bP aM.here (fun _ _ => rfl)
 | k + 1 => bU (l := aM.env G k (aM.f G k)) (ann := aM.ann) (n := k) (bG hG eY) orders Tryd.func79 (by kernel_rfl) (by kernel_rfl) rfl (by kernel_rfl) (iR fun x0 h => aM.eq G k _ x0 h)
theorem cE.here : HrP Tryd.prog 99 := ⟨_, Tryd.func99, by kernel_rfl, by kernel_rfl⟩
theorem cE.eq (G : aG) (k : Nat) (self : dA) (x0 x1 : AV) (h : aF) : fY Tryd.prog G (gV (cE.env G k self)) cE.ann Tryd.f99.results.toList (eH Tryd.f99) Tryd.f99.ntmps k [x0, x1] h = cE.c G k self x0 x1 h := by kernel_rfl
theorem cE.sound {G : aG} (hG : ∀ g x, G g = some x → bC x = true) : ∀ k, Sound Tryd.prog G 99 (cE.f G k)
 | 0 => bP cE.here (fun _ _ => rfl)
 | k + 1 => bU (l := cE.env G k (cE.f G k)) (ann := cE.ann) (n := k) (bG hG eY) orders Tryd.func99 (by kernel_rfl) (by kernel_rfl) rfl (by kernel_rfl) (iK fun x0 x1 h => cE.eq G k _ x0 x1 h)
theorem cI.here : HrP Tryd.prog 100 := ⟨_, Tryd.func100, by kernel_rfl, by kernel_rfl⟩
theorem cI.eq (G : aG) (k : Nat) (self : dA) (x0 : AV) (h : aF) : fY Tryd.prog G (gV (cI.env G k self)) cI.ann Tryd.f100.results.toList (eH Tryd.f100) Tryd.f100.ntmps k [x0] h = cI.c G k self x0 h := by kernel_rfl
theorem cI.sound {G : aG} (hG : ∀ g x, G g = some x → bC x = true) : ∀ k, Sound Tryd.prog G 100 (cI.f G k)
 | 0 => bP cI.here (fun _ _ => rfl)
 | k + 1 => bU (l := cI.env G k (cI.f G k)) (ann := cI.ann) (n := k) (bG hG eY) orders Tryd.func100 (by kernel_rfl) (by kernel_rfl) rfl (by kernel_rfl) (iR fun x0 h => cI.eq G k _ x0 h)
theorem cQ.here : HrP Tryd.prog 101 := ⟨_, Tryd.func101, by kernel_rfl, by kernel_rfl⟩
theorem cQ.eq (G : aG) (k : Nat) (self : dA) (x0 x1 : AV) (h : aF) : fY Tryd.prog G (gV (cQ.env G k self)) cQ.ann Tryd.f101.results.toList (eH Tryd.f101) Tryd.f101.ntmps k [x0, x1] h = cQ.c G k self x0 x1 h := by kernel_rfl
theorem cQ.sound {G : aG} (hG : ∀ g x, G g = some x → bC x = true) : ∀ k, Sound Tryd.prog G 101 (cQ.f G k)
 | 0 => bP cQ.here (fun _ _ => rfl)
 | k + 1 => bU (l := cQ.env G k (cQ.f G k)) (ann := cQ.ann) (n := k) (bG hG eY) orders Tryd.func101 (by kernel_rfl) (by kernel_rfl) rfl (by kernel_rfl) (iK fun x0 x1 h => cQ.eq G k _ x0 x1 h)
theorem aT.here : HrP Tryd.prog 78 := ⟨_, Tryd.func78, by kernel_rfl, by kernel_rfl⟩
theorem aT.eq (G : aG) (k : Nat) (self : dA) (x0 : AV) (h : aF) : fY Tryd.prog G (gV (aT.env G k self)) aT.ann Tryd.f78.results.toList (eH Tryd.f78) Tryd.f78.ntmps k [x0] h = aT.c G k self x0 h := by kernel_rfl
theorem aT.sound {G : aG} (hG : ∀ g x, G g = some x → bC x = true) : ∀ k, Sound Tryd.prog G 78 (aT.f G k)
 | 0 => bP aT.here (fun _ _ => rfl)
 | k + 1 => bU (l := aT.env G k (aT.f G k)) (ann := aT.ann) (n := k) (bG hG (cO (aM.sound hG k) (cO (cE.sound hG k) (cO (cI.sound hG k) (cO (cQ.sound hG k) eY))))) orders Tryd.func78 (by kernel_rfl) (by kernel_rfl) rfl (by kernel_rfl) (iR fun x0 h => aT.eq G k _ x0 h)
theorem aZ.here : HrP Tryd.prog 80 := ⟨_, Tryd.func80, by kernel_rfl, by kernel_rfl⟩
theorem aZ.eq (G : aG) (k : Nat) (self : dA) (x0 : AV) (h : aF) : fY Tryd.prog G (gV (aZ.env G k self)) aZ.ann Tryd.f80.results.toList (eH Tryd.f80) Tryd.f80.ntmps k [x0] h = aZ.c G k self x0 h := by kernel_rfl
theorem aZ.sound {G : aG} (hG : ∀ g x, G g = some x → bC x = true) : ∀ k, Sound Tryd.prog G 80 (aZ.f G k)
 | 0 => bP aZ.here (fun _ _ => rfl)
 | k + 1 => bU (l := aZ.env G k (aZ.f G k)) (ann := aZ.ann) (n := k) (bG hG eY) orders Tryd.func80 (by kernel_rfl) (by kernel_rfl) rfl (by kernel_rfl) (iR fun x0 h => aZ.eq G k _ x0 h)
theorem aH.here : HrP Tryd.prog 55 := ⟨_, Tryd.func55, by kernel_rfl, by kernel_rfl⟩
theorem aH.eq (G : aG) (k : Nat) (self : dA) (x0 : AV) (h : aF) : fY Tryd.prog G (gV (aH.env G k self)) aH.ann Tryd.f55.results.toList (eH Tryd.f55) Tryd.f55.ntmps k [x0] h = aH.c G k self x0 h := by kernel_rfl
theorem aH.sound {G : aG} (hG : ∀ g x, G g = some x → bC x = true) : ∀ k, Sound Tryd.prog G 55 (aH.f G k)
 | 0 => bP aH.here (fun _ _ => rfl)
 | k + 1 => bU (l := aH.env G k (aH.f G k)) (ann := aH.ann) (n := k) (bG hG (cO (aT.sound hG k) (cO (aM.sound hG k) (cO (aZ.sound hG k) eY)))) orders Tryd.func55 (by kernel_rfl) (by kernel_rfl) rfl (by kernel_rfl) (iR fun x0 h => aH.eq G k _ x0 h)
theorem bO.here : HrP Tryd.prog 98 := ⟨_, Tryd.func98, by kernel_rfl, by kernel_rfl⟩
theorem bO.eq (G : aG) (k : Nat) (self : dA) (x0 x1 : AV) (h : aF) : fY Tryd.prog G (gV (bO.env G k self)) bO.ann Tryd.f98.results.toList (eH Tryd.f98) Tryd.f98.ntmps k [x0, x1] h = bO.c G k self x0 x1 h := by kernel_rfl
theorem bO.sound {G : aG} (hG : ∀ g x, G g = some x → bC x = true) : ∀ k, Sound Tryd.prog G 98 (bO.f G k)
 | 0 => bP bO.here (fun _ _ => rfl)
 | k + 1 => bU (l := bO.env G k (bO.f G k)) (ann := bO.ann) (n := k) (bG hG eY) orders Tryd.func98 (by kernel_rfl) (by kernel_rfl) rfl (by kernel_rfl) (iK fun x0 x1 h => bO.eq G k _ x0 x1 h)
theorem cT.here : HrP Tryd.prog 77 := ⟨_, Tryd.func77, by kernel_rfl, by kernel_rfl⟩
theorem cT.eq (G : aG) (k : Nat) (self : dA) (x0 x1 : AV) (h : aF) : fY Tryd.prog G (gV (cT.env G k self)) cT.ann Tryd.f77.results.toList (eH Tryd.f77) Tryd.f77.ntmps k [x0, x1] h = cT.c G k self x0 x1 h := by kernel_rfl
theorem cT.sound {G : aG} (hG : ∀ g x, G g = some x → bC x = true) : ∀ k, Sound Tryd.prog G 77 (cT.f G k)
 | 0 => bP cT.here (fun _ _ => rfl)
 | k + 1 => bU (l := cT.env G k (cT.f G k)) (ann := cT.ann) (n := k) (bG hG (cO (aH.sound hG k) (cO (aM.sound hG k) (cO (bO.sound hG k) eY)))) orders Tryd.func77 (by kernel_rfl) (by kernel_rfl) rfl (by kernel_rfl) (iK fun x0 x1 h => cT.eq G k _ x0 x1 h)
theorem bY.here : HrP Tryd.prog 51 := ⟨_, Tryd.func51, by kernel_rfl, by kernel_rfl⟩
theorem bY.eq (G : aG) (k : Nat) (self : dA) (x0 : AV) (h : aF) : fY Tryd.prog G (gV (bY.env G k self)) bY.ann Tryd.f51.results.toList (eH Tryd.f51) Tryd.f51.ntmps k [x0] h = bY.c G k self x0 h := by kernel_rfl
theorem bY.sound {G : aG} (hG : ∀ g x, G g = some x → bC x = true) : ∀ k, Sound Tryd.prog G 51 (bY.f G k)
 | 0 => bP bY.here (fun _ _ => rfl)
 | k + 1 => bU (l := bY.env G k (bY.f G k)) (ann := bY.ann) (n := k) (bG hG (cO (cT.sound hG k) eY)) orders Tryd.func51 (by kernel_rfl) (by kernel_rfl) rfl (by kernel_rfl) (iR fun x0 h => bY.eq G k _ x0 h)
theorem cB.here : HrP Tryd.prog 56 := ⟨_, Tryd.func56, by kernel_rfl, by kernel_rfl⟩
theorem cB.eq (G : aG) (k : Nat) (self : dA) (x0 x1 : AV) (h : aF) : fY Tryd.prog G (gV (cB.env G k self)) cB.ann Tryd.f56.results.toList (eH Tryd.f56) Tryd.f56.ntmps k [x0, x1] h = cB.c G k self x0 x1 h := by kernel_rfl
theorem cB.sound {G : aG} (hG : ∀ g x, G g = some x → bC x = true) : ∀ k, Sound Tryd.prog G 56 (cB.f G k)
 | 0 => bP cB.here (fun _ _ => rfl)
 | k + 1 => bU (l := cB.env G k (cB.f G k)) (ann := cB.ann) (n := k) (bG hG eY) orders Tryd.func56 (by kernel_rfl) (by kernel_rfl) rfl (by kernel_rfl) (iK fun x0 x1 h => cB.eq G k _ x0 x1 h)
theorem bJ.here : HrP Tryd.prog 34 := ⟨_, Tryd.func34, by kernel_rfl, by kernel_rfl⟩
theorem bJ.eq (G : aG) (k : Nat) (self : dA) (x0 x1 : AV) (h : aF) : fY Tryd.prog G (gV (bJ.env G k self)) bJ.ann Tryd.f34.results.toList (eH Tryd.f34) Tryd.f34.ntmps k [x0, x1] h = bJ.c G k self x0 x1 h := by kernel_rfl
theorem bJ.sound {G : aG} (hG : ∀ g x, G g = some x → bC x = true) : ∀ k, Sound Tryd.prog G 34 (bJ.f G k)
 | 0 => bP bJ.here (fun _ _ => rfl)
 | k + 1 => bU (l := bJ.env G k (bJ.f G k)) (ann := bJ.ann) (n := k) (bG hG eY) orders Tryd.func34 (by kernel_rfl) (by kernel_rfl) rfl (by kernel_rfl) (iK fun x0 x1 h => bJ.eq G k _ x0 x1 h)
theorem aV.here : HrP Tryd.prog 52 := ⟨_, Tryd.func52, by kernel_rfl, by kernel_rfl⟩
theorem aV.eq (G : aG) (k : Nat) (self : dA) (x0 x1 : AV) (h : aF) : fY Tryd.prog G (gV (aV.env G k self)) aV.ann Tryd.f52.results.toList (eH Tryd.f52) Tryd.f52.ntmps k [x0, x1] h = aV.c G k self x0 x1 h := by kernel_rfl
theorem aV.sound {G : aG} (hG : ∀ g x, G g = some x → bC x = true) : ∀ k, Sound Tryd.prog G 52 (aV.f G k)
 | 0 => bP aV.here (fun _ _ => rfl)
 | k + 1 => bU (l := aV.env G k (aV.f G k)) (ann := aV.ann) (n := k) (bG hG eY) orders Tryd.func52 (by kernel_rfl) (by kernel_rfl) rfl (by kernel_rfl) (iK fun x0 x1 h => aV.eq G k _ x0 x1 h)
theorem aW.here : HrP Tryd.prog 53 := ⟨_, Tryd.func53, by kernel_rfl, by kernel_rfl⟩
theorem aW.eq (G : aG) (k : Nat) (self : dA) (x0 x1 x2 : AV) (h : aF) : fY Tryd.prog G (gV (aW.env G k self)) aW.ann Tryd.f53.results.toList (eH Tryd.f53) Tryd.f53.ntmps k [x0, x1, x2] h = aW.c G k self x0 x1 x2 h := by kernel_rfl
theorem aW.sound {G : aG} (hG : ∀ g x, G g = some x → bC x = true) : ∀ k, Sound Tryd.prog G 53 (aW.f G k)
 | 0 => bP aW.here (fun _ _ => rfl)
 | k + 1 => bU (l := aW.env G k (aW.f G k)) (ann := aW.ann) (n := k) (bG hG eY) orders Tryd.func53 (by kernel_rfl) (by kernel_rfl) rfl (by kernel_rfl) (mE fun x0 x1 x2 h => aW.eq G k _ x0 x1 x2 h)
theorem aL.here : HrP Tryd.prog 25 := ⟨_, Tryd.func25, by kernel_rfl, by kernel_rfl⟩
theorem aL.eq (G : aG) (k : Nat) (self : dA) (x0 x1 x2 : AV) (h : aF) : fY Tryd.prog G (gV (aL.env G k self)) aL.ann Tryd.f25.results.toList (eH Tryd.f25) Tryd.f25.ntmps k [x0, x1, x2] h = aL.c G k self x0 x1 x2 h := by kernel_rfl
theorem aL.sound {G : aG} (hG : ∀ g x, G g = some x → bC x = true) : ∀ k, Sound Tryd.prog G 25 (aL.f G k)
 | 0 => bP aL.here (fun _ _ => rfl)
 | k + 1 => bU (l := aL.env G k (aL.f G k)) (ann := aL.ann) (n := k) (bG hG (cO (bJ.sound hG k) (cO (aV.sound hG k) (cO (aW.sound hG k) (cO (aH.sound hG k) (cO (cB.sound hG k) eY)))))) orders Tryd.func25 (by kernel_rfl) (by kernel_rfl) rfl (by kernel_rfl) (mE fun x0 x1 x2 h => aL.eq G k _ x0 x1 x2 h)
theorem aY.here : HrP Tryd.prog 46 := ⟨_, Tryd.func46, by kernel_rfl, by kernel_rfl⟩
theorem aY.eq (G : aG) (k : Nat) (self : dA) (x0 : AV) (h : aF) : zB Tryd.prog G (gV (aY.env G k self)) aY.ann Tryd.f46.results.toList (eH Tryd.f46) Tryd.f46.ntmps k [x0] h = aY.c G k self x0 h := by kernel_rfl
theorem aY.sound {G : aG} (hG : ∀ g x, G g = some x → bC x = true) : ∀ k, Sound Tryd.prog G 46 (aY.f G k)
 | 0 => bP aY.here (fun _ _ => rfl)
 | k + 1 => xV (l := aY.env G k (aY.f G k)) (ann := aY.ann) (n := k) (bG hG eY) orders Tryd.func46 (by kernel_rfl) (by kernel_rfl) rfl (by kernel_rfl) (iR fun x0 h => aY.eq G k _ x0 h)
theorem bT.here : HrP Tryd.prog 47 := ⟨_, Tryd.func47, by kernel_rfl, by kernel_rfl⟩
theorem bT.eq (G : aG) (k : Nat) (self : dA) (x0 : AV) (h : aF) : fY Tryd.prog G (gV (bT.env G k self)) bT.ann Tryd.f47.results.toList (eH Tryd.f47) Tryd.f47.ntmps k [x0] h = bT.c G k self x0 h := by kernel_rfl
theorem bT.sound {G : aG} (hG : ∀ g x, G g = some x → bC x = true) : ∀ k, Sound Tryd.prog G 47 (bT.f G k)
 | 0 => bP bT.here (fun _ _ => rfl)
 | k + 1 => bU (l := bT.env G k (bT.f G k)) (ann := bT.ann) (n := k) (bG hG eY) orders Tryd.func47 (by kernel_rfl) (by kernel_rfl) rfl (by kernel_rfl) (iR fun x0 h => bT.eq G k _ x0 h)
theorem aX.here : HrP Tryd.prog 22 := ⟨_, Tryd.func22, by kernel_rfl, by kernel_rfl⟩
theorem aX.eq (G : aG) (k : Nat) (self : dA) (x0 x1 x2 : AV) (h : aF) : fY Tryd.prog G (gV (aX.env G k self)) aX.ann Tryd.f22.results.toList (eH Tryd.f22) Tryd.f22.ntmps k [x0, x1, x2] h = aX.c G k self x0 x1 x2 h := by kernel_rfl
theorem aX.sound {G : aG} (hG : ∀ g x, G g = some x → bC x = true) : ∀ k, Sound Tryd.prog G 22 (aX.f G k)
 | 0 => bP aX.here (fun _ _ => rfl)
 | k + 1 => bU (l := aX.env G k (aX.f G k)) (ann := aX.ann) (n := k) (bG hG (cO (aL.sound hG k) (cO (bJ.sound hG k) (cO (aY.sound hG k) (cO (bT.sound hG k) (cO (bY.sound hG k) (cO (aV.sound hG k) (cO (aW.sound hG k) eY)))))))) orders Tryd.func22 (by kernel_rfl) (by kernel_rfl) rfl (by kernel_rfl) (mE fun x0 x1 x2 h => aX.eq G k _ x0 x1 x2 h)
theorem gB.here : HrP Tryd.prog 106 := ⟨_, Tryd.func106, by kernel_rfl, by kernel_rfl⟩
theorem gB.eq (G : aG) (k : Nat) (self : dA) (x0 : AV) (h : aF) : fY Tryd.prog G (gV (gB.env G k self)) gB.ann Tryd.f106.results.toList (eH Tryd.f106) Tryd.f106.ntmps k [x0] h = gB.c G k self x0 h := by kernel_rfl
theorem gB.sound {G : aG} (hG : ∀ g x, G g = some x → bC x = true) : ∀ k, Sound Tryd.prog G 106 (gB.f G k)
 | 0 => bP gB.here (fun _ _ => rfl)
 | k + 1 => bU (l := gB.env G k (gB.f G k)) (ann := gB.ann) (n := k) (bG hG eY) orders Tryd.func106 (by kernel_rfl) (by kernel_rfl) rfl (by kernel_rfl) (iR fun x0 h => gB.eq G k _ x0 h)
theorem gN.here : HrP Tryd.prog 90 := ⟨_, Tryd.func90, by kernel_rfl, by kernel_rfl⟩
theorem gN.eq (G : aG) (k : Nat) (self : dA) (x0 : AV) (h : aF) : fY Tryd.prog G (gV (gN.env G k self)) gN.ann Tryd.f90.results.toList (eH Tryd.f90) Tryd.f90.ntmps k [x0] h = gN.c G k self x0 h := by kernel_rfl
theorem gN.sound {G : aG} (hG : ∀ g x, G g = some x → bC x = true) : ∀ k, Sound Tryd.prog G 90 (gN.f G k)
 | 0 => bP gN.here (fun _ _ => rfl)
 | k + 1 => bU (l := gN.env G k (gN.f G k)) (ann := gN.ann) (n := k) (bG hG (cO (gB.sound hG k) eY)) orders Tryd.func90 (by kernel_rfl) (by kernel_rfl) rfl (by kernel_rfl) (iR fun x0 h => gN.eq G k _ x0 h)
theorem gQ.here : HrP Tryd.prog 91 := ⟨_, Tryd.func91, by kernel_rfl, by kernel_rfl⟩
theorem gQ.eq (G : aG) (k : Nat) (self : dA) (x0 x1 : AV) (h : aF) : fY Tryd.prog G (gV (gQ.env G k self)) gQ.ann Tryd.f91.results.toList (eH Tryd.f91) Tryd.f91.ntmps k [x0, x1] h = gQ.c G k self x0 x1 h := by kernel_rfl
theorem gQ.sound {G : aG} (hG : ∀ g x, G g = some x → bC x = true) : ∀ k, Sound Tryd.prog G 91 (gQ.f G k)
 | 0 => bP gQ.here (fun _ _ => rfl)
 | k + 1 => bU (l := gQ.env G k (gQ.f G k)) (ann := gQ.ann) (n := k) (bG hG eY) orders Tryd.func91 (by kernel_rfl) (by kernel_rfl) rfl (by kernel_rfl) (iK fun x0 x1 h => gQ.eq G k _ x0 x1 h)
theorem dO.here : HrP Tryd.prog 64 := ⟨_, Tryd.func64, by kernel_rfl, by kernel_rfl⟩
theorem dO.eq (G : aG) (k : Nat) (self : dA) (x0 x1 : AV) (h : aF) : fY Tryd.prog G (gV (dO.env G k self)) dO.ann Tryd.f64.results.toList (eH Tryd.f64) Tryd.f64.ntmps k [x0, x1] h = dO.c G k self x0 x1 h := by kernel_rfl
theorem dO.sound {G : aG} (hG : ∀ g x, G g = some x → bC x = true) : ∀ k, Sound Tryd.prog G 64 (dO.f G k)
 | 0 => bP dO.here (fun _ _ => rfl)
 | k + 1 => bU (l := dO.env G k (dO.f G k)) (ann := dO.ann) (n := k) (bG hG (cO (gN.sound hG k) (cO (gQ.sound hG k) eY))) orders Tryd.func64 (by kernel_rfl) (by kernel_rfl) rfl (by kernel_rfl) (iK fun x0 x1 h => dO.eq G k _ x0 x1 h)
theorem dU.here : HrP Tryd.prog 38 := ⟨_, Tryd.func38, by kernel_rfl, by kernel_rfl⟩
theorem dU.eq (G : aG) (k : Nat) (self : dA) (x0 : AV) (h : aF) : fY Tryd.prog G (gV (dU.env G k self)) dU.ann Tryd.f38.results.toList (eH Tryd.f38) Tryd.f38.ntmps k [x0] h = dU.c G k self x0 h := by kernel_rfl
theorem dU.sound {G : aG} (hG : ∀ g x, G g = some x → bC x = true) : ∀ k, Sound Tryd.prog G 38 (dU.f G k)
 | 0 => bP dU.here (fun _ _ => rfl)
 | k + 1 => bU (l := dU.env G k (dU.f G k)) (ann := dU.ann) (n := k) (bG hG (cO (dO.sound hG k) eY)) orders Tryd.func38 (by kernel_rfl) (by kernel_rfl) rfl (by kernel_rfl) (iR fun x0 h => dU.eq G k _ x0 h)
theorem cL.here : HrP Tryd.prog 54 := ⟨_, Tryd.func54, by kernel_rfl, by kernel_rfl⟩
theorem cL.eq (G : aG) (k : Nat) (self : dA) (x0 x1 : AV) (h : aF) : zB Tryd.prog G (gV (cL.env G k self)) cL.ann Tryd.f54.results.toList (eH Tryd.f54) Tryd.f54.ntmps k [x0, x1] h = cL.c G k self x0 x1 h := by kernel_rfl
theorem cL.sound {G : aG} (hG : ∀ g x, G g = some x → bC x = true) : ∀ k, Sound Tryd.prog G 54 (cL.f G k)
 | 0 => bP cL.here (fun _ _ => rfl)
 | k + 1 => xV (l := cL.env G k (cL.f G k)) (ann := cL.ann) (n := k) (bG hG eY) orders Tryd.func54 (by kernel_rfl) (by kernel_rfl) rfl (by kernel_rfl) (iK fun x0 x1 h => cL.eq G k _ x0 x1 h)
theorem bF.here : HrP Tryd.prog 65 := ⟨_, Tryd.func65, by kernel_rfl, by kernel_rfl⟩
theorem bF.eq (G : aG) (k : Nat) (self : dA) (x0 x1 : AV) (h : aF) : fY Tryd.prog G (gV (bF.env G k self)) bF.ann Tryd.f65.results.toList (eH Tryd.f65) Tryd.f65.ntmps k [x0, x1] h = bF.c G k self x0 x1 h := by kernel_rfl
theorem bF.sound {G : aG} (hG : ∀ g x, G g = some x → bC x = true) : ∀ k, Sound Tryd.prog G 65 (bF.f G k)
 | 0 => bP bF.here (fun _ _ => rfl)
 | k + 1 => bU (l := bF.env G k (bF.f G k)) (ann := bF.ann) (n := k) (bG hG eY) orders Tryd.func65 (by kernel_rfl) (by kernel_rfl) rfl (by kernel_rfl) (iK fun x0 x1 h => bF.eq G k _ x0 x1 h)
theorem bS.here : HrP Tryd.prog 66 := ⟨_, Tryd.func66, by kernel_rfl, by kernel_rfl⟩
theorem bS.eq (G : aG) (k : Nat) (self : dA) (x0 x1 x2 : AV) (h : aF) : fY Tryd.prog G (gV (bS.env G k self)) bS.ann Tryd.f66.results.toList (eH Tryd.f66) Tryd.f66.ntmps k [x0, x1, x2] h = bS.c G k self x0 x1 x2 h := by kernel_rfl
theorem bS.sound {G : aG} (hG : ∀ g x, G g = some x → bC x = true) : ∀ k, Sound Tryd.prog G 66 (bS.f G k)
 | 0 => bP bS.here (fun _ _ => rfl)
 | k + 1 => bU (l := bS.env G k (bS.f G k)) (ann := bS.ann) (n := k) (bG hG (cO (bF.sound hG k) eY)) orders Tryd.func66 (by kernel_rfl) (by kernel_rfl) rfl (by kernel_rfl) (mE fun x0 x1 x2 h => bS.eq G k _ x0 x1 x2 h)
theorem cN.here : HrP Tryd.prog 67 := ⟨_, Tryd.func67, by kernel_rfl, by kernel_rfl⟩
theorem cN.eq (G : aG) (k : Nat) (self : dA) (x0 x1 x2 : AV) (h : aF) : fY Tryd.prog G (gV (cN.env G k self)) cN.ann Tryd.f67.results.toList (eH Tryd.f67) Tryd.f67.ntmps k [x0, x1, x2] h = cN.c G k self x0 x1 x2 h := by kernel_rfl
theorem cN.sound {G : aG} (hG : ∀ g x, G g = some x → bC x = true) : ∀ k, Sound Tryd.prog G 67 (cN.f G k)
 | 0 => bP cN.here (fun _ _ => rfl)
 | k + 1 => bU (l := cN.env G k (cN.f G k)) (ann := cN.ann) (n := k) (bG hG (cO (bF.sound hG k) eY)) orders Tryd.func67 (by kernel_rfl) (by kernel_rfl) rfl (by kernel_rfl) (mE fun x0 x1 x2 h => cN.eq G k _ x0 x1 x2 h)
theorem cH.here : HrP Tryd.prog 69 := ⟨_, Tryd.func69, by kernel_rfl, by kernel_rfl⟩
theorem cH.eq (G : aG) (k : Nat) (self : dA) (x0 x1 x2 : AV) (h : aF) : fY Tryd.prog G (gV (cH.env G k self)) cH.ann Tryd.f69.results.toList (eH Tryd.f69) Tryd.f69.ntmps k [x0, x1, x2] h = cH.c G k self x0 x1 x2 h := by kernel_rfl
theorem cH.sound {G : aG} (hG : ∀ g x, G g = some x → bC x = true) : ∀ k, Sound Tryd.prog G 69 (cH.f G k)
 | 0 => bP cH.here (fun _ _ => rfl)
 | k + 1 => bU (l := cH.env G k (cH.f G k)) (ann := cH.ann) (n := k) (bG hG (cO (bF.sound hG k) eY)) orders Tryd.func69 (by kernel_rfl) (by kernel_rfl) rfl (by kernel_rfl) (mE fun x0 x1 x2 h => cH.eq G k _ x0 x1 x2 h)
theorem cX.here : HrP Tryd.prog 68 := ⟨_, Tryd.func68, by kernel_rfl, by kernel_rfl⟩
theorem cX.eq (G : aG) (k : Nat) (self : dA) (x0 x1 x2 x3 x4 : AV) (h : aF) : fY Tryd.prog G (gV (cX.env G k self)) cX.ann Tryd.f68.results.toList (eH Tryd.f68) Tryd.f68.ntmps k [x0, x1, x2, x3, x4] h = cX.c G k self x0 x1 x2 x3 x4 h := by kernel_rfl
theorem cX.sound {G : aG} (hG : ∀ g x, G g = some x → bC x = true) : ∀ k, Sound Tryd.prog G 68 (cX.f G k)
 | 0 => bP cX.here (fun _ _ => rfl)
 | k + 1 => bU (l := cX.env G k (cX.f G k)) (ann := cX.ann) (n := k) (bG hG (cO (cL.sound hG k) (cO (bF.sound hG k) (cO (cH.sound hG k) eY)))) orders Tryd.func68 (by kernel_rfl) (by kernel_rfl) rfl (by kernel_rfl) (aJA fun x0 x1 x2 x3 x4 h => cX.eq G k _ x0 x1 x2 x3 x4 h)
theorem aR.here : HrP Tryd.prog 39 := ⟨_, Tryd.func39, by kernel_rfl, by kernel_rfl⟩
theorem aR.eq (G : aG) (k : Nat) (self : dA) (x0 x1 x2 : AV) (h : aF) : fY Tryd.prog G (gV (aR.env G k self)) aR.ann Tryd.f39.results.toList (eH Tryd.f39) Tryd.f39.ntmps k [x0, x1, x2] h = aR.c G k self x0 x1 x2 h := by kernel_rfl
theorem aR.sound {G : aG} (hG : ∀ g x, G g = some x → bC x = true) : ∀ k, Sound Tryd.prog G 39 (aR.f G k)
 | 0 => bP aR.here (fun _ _ => rfl)
 | k + 1 => bU (l := aR.env G k (aR.f G k)) (ann := aR.ann) (n := k) (bG hG (cO (cL.sound hG k) (cO (bF.sound hG k) (cO (bS.sound hG k) (cO (cN.sound hG k) (cO (cX.sound hG k) (cO (cH.sound hG k) eY))))))) orders Tryd.func39 (by kernel_rfl) (by kernel_rfl) rfl (by kernel_rfl) (mE fun x0 x1 x2 h => aR.eq G k _ x0 x1 x2 h)
theorem cA.here : HrP Tryd.prog 17 := ⟨_, Tryd.func17, by kernel_rfl, by kernel_rfl⟩
theorem cA.eq (G : aG) (k : Nat) (self : dA) (x0 : AV) (h : aF) : fY Tryd.prog G (gV (cA.env G k self)) cA.ann Tryd.f17.results.toList (eH Tryd.f17) Tryd.f17.ntmps k [x0] h = cA.c G k self x0 h := by kernel_rfl
theorem cA.sound {G : aG} (hG : ∀ g x, G g = some x → bC x = true) : ∀ k, Sound Tryd.prog G 17 (cA.f G k)
 | 0 => bP cA.here (fun _ _ => rfl)
 | k + 1 => bU (l := cA.env G k (cA.f G k)) (ann := cA.ann) (n := k) (bG hG (cO (dU.sound hG k) (cO (aR.sound hG k) (cO (bB.sound hG k) eY)))) orders Tryd.func17 (by kernel_rfl) (by kernel_rfl) rfl (by kernel_rfl) (iR fun x0 h => cA.eq G k _ x0 h)
theorem gZ.here : HrP Tryd.prog 23 := ⟨_, Tryd.func23, by kernel_rfl, by kernel_rfl⟩
theorem gZ.eq (G : aG) (k : Nat) (self : dA) (x0 x1 : AV) (h : aF) : fY Tryd.prog G (gV (gZ.env G k self)) gZ.ann Tryd.f23.results.toList (eH Tryd.f23) Tryd.f23.ntmps k [x0, x1] h = gZ.c G k self x0 x1 h := by kernel_rfl
theorem gZ.sound {G : aG} (hG : ∀ g x, G g = some x → bC x = true) : ∀ k, Sound Tryd.prog G 23 (gZ.f G k)
 | 0 => bP gZ.here (fun _ _ => rfl)
 | k + 1 => bU (l := gZ.env G k (gZ.f G k)) (ann := gZ.ann) (n := k) (bG hG (cO (cL.sound hG k) eY)) orders Tryd.func23 (by kernel_rfl) (by kernel_rfl) rfl (by kernel_rfl) (iK fun x0 x1 h => gZ.eq G k _ x0 x1 h)
theorem dI.here : HrP Tryd.prog 15 := ⟨_, Tryd.func15, by kernel_rfl, by kernel_rfl⟩
theorem dI.eq (G : aG) (k : Nat) (self : dA) (h : aF) : fY Tryd.prog G (gV (dI.env G k self)) dI.ann Tryd.f15.results.toList (eH Tryd.f15) Tryd.f15.ntmps k [] h = dI.c G k self h := by kernel_rfl
theorem dI.sound {G : aG} (hG : ∀ g x, G g = some x → bC x = true) : ∀ k, Sound Tryd.prog G 15 (dI.f G k)
 | 0 => bP dI.here (fun _ _ => rfl)
 | k + 1 => bU (l := dI.env G k (dI.f G k)) (ann := dI.ann) (n := k) (bG hG (cO (cA.sound hG k) (cO (gZ.sound hG k) eY))) orders Tryd.func15 (by kernel_rfl) (by kernel_rfl) rfl (by kernel_rfl) (aFw fun h => dI.eq G k _ h)
theorem bX.here : HrP Tryd.prog 19 := ⟨_, Tryd.func19, by kernel_rfl, by kernel_rfl⟩
theorem bX.eq (G : aG) (k : Nat) (self : dA) (x0 : AV) (h : aF) : fY Tryd.prog G (gV (bX.env G k self)) bX.ann Tryd.f19.results.toList (eH Tryd.f19) Tryd.f19.ntmps k [x0] h = bX.c G k self x0 h := by kernel_rfl
theorem bX.sound {G : aG} (hG : ∀ g x, G g = some x → bC x = true) : ∀ k, Sound Tryd.prog G 19 (bX.f G k)
 | 0 => bP bX.here (fun _ _ => rfl)
 | k + 1 => bU (l := bX.env G k (bX.f G k)) (ann := bX.ann) (n := k) (bG hG eY) orders Tryd.func19 (by kernel_rfl) (by kernel_rfl) rfl (by kernel_rfl) (iR fun x0 h => bX.eq G k _ x0 h)
theorem eG.here : HrP Tryd.prog 73 := ⟨_, Tryd.func73, by kernel_rfl, by kernel_rfl⟩
theorem eG.eq (G : aG) (k : Nat) (self : dA) (x0 x1 : AV) (h : aF) : fY Tryd.prog G (gV (eG.env G k self)) eG.ann Tryd.f73.results.toList (eH Tryd.f73) Tryd.f73.ntmps k [x0, x1] h = eG.c G k self x0 x1 h := by kernel_rfl
theorem eG.sound {G : aG} (hG : ∀ g x, G g = some x → bC x = true) : ∀ k, Sound Tryd.prog G 73 (eG.f G k)
 | 0 => bP eG.here (fun _ _ => rfl)
 | k + 1 => bU (l := eG.env G k (eG.f G k)) (ann := eG.ann) (n := k) (bG hG eY) orders Tryd.func73 (by kernel_rfl) (by kernel_rfl) rfl (by kernel_rfl) (iK fun x0 x1 h => eG.eq G k _ x0 x1 h)
theorem dC.here : HrP Tryd.prog 74 := ⟨_, Tryd.func74, by kernel_rfl, by kernel_rfl⟩
theorem dC.eq (G : aG) (k : Nat) (self : dA) (x0 x1 : AV) (h : aF) : fY Tryd.prog G (gV (dC.env G k self)) dC.ann Tryd.f74.results.toList (eH Tryd.f74) Tryd.f74.ntmps k [x0, x1] h = dC.c G k self x0 x1 h := by kernel_rfl
theorem dC.sound {G : aG} (hG : ∀ g x, G g = some x → bC x = true) : ∀ k, Sound Tryd.prog G 74 (dC.f G k)
 | 0 => bP dC.here (fun _ _ => rfl)
 | k + 1 => bU (l := dC.env G k (dC.f G k)) (ann := dC.ann) (n := k) (bG hG eY) orders Tryd.func74 (by kernel_rfl) (by kernel_rfl) rfl (by kernel_rfl) (iK fun x0 x1 h => dC.eq G k _ x0 x1 h)
theorem dY.here : HrP Tryd.prog 75 := ⟨_, Tryd.func75, by kernel_rfl, by kernel_rfl⟩
theorem dY.eq (G : aG) (k : Nat) (self : dA) (x0 x1 : AV) (h : aF) : fY Tryd.prog G (gV (dY.env G k self)) dY.ann Tryd.f75.results.toList (eH Tryd.f75) Tryd.f75.ntmps k [x0, x1] h = dY.c G k self x0 x1 h := by kernel_rfl
theorem dY.sound {G : aG} (hG : ∀ g x, G g = some x → bC x = true) : ∀ k, Sound Tryd.prog G 75 (dY.f G k)
 | 0 => bP dY.here (fun _ _ => rfl)
 | k + 1 => bU (l := dY.env G k (dY.f G k)) (ann := dY.ann) (n := k) (bG hG eY) orders Tryd.func75 (by kernel_rfl) (by kernel_rfl) rfl (by kernel_rfl) (iK fun x0 x1 h => dY.eq G k _ x0 x1 h)
theorem dB.here : HrP Tryd.prog 76 := ⟨_, Tryd.func76, by kernel_rfl, by kernel_rfl⟩
theorem dB.eq (G : aG) (k : Nat) (self : dA) (x0 x1 : AV) (h : aF) : fY Tryd.prog G (gV (dB.env G k self)) dB.ann Tryd.f76.results.toList (eH Tryd.f76) Tryd.f76.ntmps k [x0, x1] h = dB.c G k self x0 x1 h := by kernel_rfl
theorem dB.sound {G : aG} (hG : ∀ g x, G g = some x → bC x = true) : ∀ k, Sound Tryd.prog G 76 (dB.f G k)
 | 0 => bP dB.here (fun _ _ => rfl)
 | k + 1 => bU (l := dB.env G k (dB.f G k)) (ann := dB.ann) (n := k) (bG hG (cO (cB.sound hG k) (cO (dC.sound hG k) eY))) orders Tryd.func76 (by kernel_rfl) (by kernel_rfl) rfl (by kernel_rfl) (iK fun x0 x1 h => dB.eq G k _ x0 x1 h)
theorem dQ.here : HrP Tryd.prog 48 := ⟨_, Tryd.func48, by kernel_rfl, by kernel_rfl⟩
theorem dQ.eq (G : aG) (k : Nat) (self : dA) (x0 x1 x2 : AV) (h : aF) : fY Tryd.prog G (gV (dQ.env G k self)) dQ.ann Tryd.f48.results.toList (eH Tryd.f48) Tryd.f48.ntmps k [x0, x1, x2] h = dQ.c G k self x0 x1 x2 h := by kernel_rfl
theorem dQ.sound {G : aG} (hG : ∀ g x, G g = some x → bC x = true) : ∀ k, Sound Tryd.prog G 48 (dQ.f G k)
 | 0 => bP dQ.here (fun _ _ => rfl)
 | k + 1 => bU (l := dQ.env G k (dQ.f G k)) (ann := dQ.ann) (n := k) (bG hG (cO (eG.sound hG k) (cO (dC.sound hG k) (cO (dY.sound hG k) (cO (dB.sound hG k) eY))))) orders Tryd.func48 (by kernel_rfl) (by kernel_rfl) rfl (by kernel_rfl) (mE fun x0 x1 x2 h => dQ.eq G k _ x0 x1 x2 h)
theorem cD.here : HrP Tryd.prog 49 := ⟨_, Tryd.func49, by kernel_rfl, by kernel_rfl⟩
theorem cD.eq (G : aG) (k : Nat) (self : dA) (x0 x1 x2 x3 : AV) (h : aF) : fY Tryd.prog G (gV (cD.env G k self)) cD.ann Tryd.f49.results.toList (eH Tryd.f49) Tryd.f49.ntmps k [x0, x1, x2, x3] h = cD.c G k self x0 x1 x2 x3 h := by kernel_rfl
theorem cD.sound {G : aG} (hG : ∀ g x, G g = some x → bC x = true) : ∀ k, Sound Tryd.prog G 49 (cD.f G k)
 | 0 => bP cD.here (fun _ _ => rfl)
 | k + 1 => bU (l := cD.env G k (cD.f G k)) (ann := cD.ann) (n := k) (bG hG (cO (cB.sound hG k) eY)) orders Tryd.func49 (by kernel_rfl) (by kernel_rfl) rfl (by kernel_rfl) (aFx fun x0 x1 x2 x3 h => cD.eq G k _ x0 x1 x2 x3 h)
theorem bN.here : HrP Tryd.prog 20 := ⟨_, Tryd.func20, by kernel_rfl, by kernel_rfl⟩
theorem bN.eq (G : aG) (k : Nat) (self : dA) (x0 x1 x2 x3 : AV) (h : aF) : fY Tryd.prog G (gV (bN.env G k self)) bN.ann Tryd.f20.results.toList (eH Tryd.f20) Tryd.f20.ntmps k [x0, x1, x2, x3] h = bN.c G k self x0 x1 x2 x3 h := by kernel_rfl
theorem bN.sound {G : aG} (hG : ∀ g x, G g = some x → bC x = true) : ∀ k, Sound Tryd.prog G 20 (bN.f G k)
 | 0 => bP bN.here (fun _ _ => rfl)
 | k + 1 => bU (l := bN.env G k (bN.f G k)) (ann := bN.ann) (n := k) (bG hG (cO (aY.sound hG k) (cO (bT.sound hG k) (cO (dQ.sound hG k) (cO (cD.sound hG k) eY))))) orders Tryd.func20 (by kernel_rfl) (by kernel_rfl) rfl (by kernel_rfl) (aFx fun x0 x1 x2 x3 h => bN.eq G k _ x0 x1 x2 x3 h)
theorem cC.here : HrP Tryd.prog 16 := ⟨_, Tryd.func16, by kernel_rfl, by kernel_rfl⟩
theorem cC.eq (G : aG) (k : Nat) (self : dA) (x0 x1 : AV) (h : aF) : fY Tryd.prog G (gV (cC.env G k self)) cC.ann Tryd.f16.results.toList (eH Tryd.f16) Tryd.f16.ntmps k [x0, x1] h = cC.c G k self x0 x1 h := by kernel_rfl
theorem cC.sound {G : aG} (hG : ∀ g x, G g = some x → bC x = true) : ∀ k, Sound Tryd.prog G 16 (cC.f G k)
 | 0 => bP cC.here (fun _ _ => rfl)
 | k + 1 => bU (l := cC.env G k (cC.f G k)) (ann := cC.ann) (n := k) (bG hG eY) orders Tryd.func16 (by kernel_rfl) (by kernel_rfl) rfl (by kernel_rfl) (iK fun x0 x1 h => cC.eq G k _ x0 x1 h)
theorem eF.here : HrP Tryd.prog 35 := ⟨_, Tryd.func35, by kernel_rfl, by kernel_rfl⟩
theorem eF.eq (G : aG) (k : Nat) (self : dA) (x0 : AV) (h : aF) : fY Tryd.prog G (gV (eF.env G k self)) eF.ann Tryd.f35.results.toList (eH Tryd.f35) Tryd.f35.ntmps k [x0] h = eF.c G k self x0 h := by kernel_rfl
theorem eF.sound {G : aG} (hG : ∀ g x, G g = some x → bC x = true) : ∀ k, Sound Tryd.prog G 35 (eF.f G k)
 | 0 => bP eF.here (fun _ _ => rfl)
 | k + 1 => bU (l := eF.env G k (eF.f G k)) (ann := eF.ann) (n := k) (bG hG eY) orders Tryd.func35 (by kernel_rfl) (by kernel_rfl) rfl (by kernel_rfl) (iR fun x0 h => eF.eq G k _ x0 h)
theorem dD.here : HrP Tryd.prog 41 := ⟨_, Tryd.func41, by kernel_rfl, by kernel_rfl⟩
theorem dD.eq (G : aG) (k : Nat) (self : dA) (x0 : AV) (h : aF) : fY Tryd.prog G (gV (dD.env G k self)) dD.ann Tryd.f41.results.toList (eH Tryd.f41) Tryd.f41.ntmps k [x0] h = dD.c G k self x0 h := by kernel_rfl
theorem dD.sound {G : aG} (hG : ∀ g x, G g = some x → bC x = true) : ∀ k, Sound Tryd.prog G 41 (dD.f G k)
 | 0 => bP dD.here (fun _ _ => rfl)
 | k + 1 => bU (l := dD.env G k (dD.f G k)) (ann := dD.ann) (n := k) (bG hG eY) orders Tryd.func41 (by kernel_rfl) (by kernel_rfl) rfl (by kernel_rfl) (iR fun x0 h => dD.eq G k _ x0 h)
theorem bI.here : HrP Tryd.prog 42 := ⟨_, Tryd.func42, by kernel_rfl, by kernel_rfl⟩
theorem bI.eq (G : aG) (k : Nat) (self : dA) (x0 x1 x2 : AV) (h : aF) : fY Tryd.prog G (gV (bI.env G k self)) bI.ann Tryd.f42.results.toList (eH Tryd.f42) Tryd.f42.ntmps k [x0, x1, x2] h = bI.c G k self x0 x1 x2 h := by kernel_rfl
theorem bI.sound {G : aG} (hG : ∀ g x, G g = some x → bC x = true) : ∀ k, Sound Tryd.prog G 42 (bI.f G k)
 | 0 => bP bI.here (fun _ _ => rfl)
 | k + 1 => bU (l := bI.env G k (bI.f G k)) (ann := bI.ann) (n := k) (bG hG eY) orders Tryd.func42 (by kernel_rfl) (by kernel_rfl) rfl (by kernel_rfl) (mE fun x0 x1 x2 h => bI.eq G k _ x0 x1 x2 h)
theorem bM.here : HrP Tryd.prog 43 := ⟨_, Tryd.func43, by kernel_rfl, by kernel_rfl⟩
theorem bM.eq (G : aG) (k : Nat) (self : dA) (x0 x1 : AV) (h : aF) : fY Tryd.prog G (gV (bM.env G k self)) bM.ann Tryd.f43.results.toList (eH Tryd.f43) Tryd.f43.ntmps k [x0, x1] h = bM.c G k self x0 x1 h := by kernel_rfl
theorem bM.sound {G : aG} (hG : ∀ g x, G g = some x → bC x = true) : ∀ k, Sound Tryd.prog G 43 (bM.f G k)
 | 0 => bP bM.here (fun _ _ => rfl)
 | k + 1 => bU (l := bM.env G k (bM.f G k)) (ann := bM.ann) (n := k) (bG hG eY) orders Tryd.func43 (by kernel_rfl) (by kernel_rfl) rfl (by kernel_rfl) (iK fun x0 x1 h => bM.eq G k _ x0 x1 h)
theorem dN.here : HrP Tryd.prog 45 := ⟨_, Tryd.func45, by kernel_rfl, by kernel_rfl⟩
theorem dN.eq (G : aG) (k : Nat) (self : dA) (h : aF) : fY Tryd.prog G (gV (dN.env G k self)) dN.ann Tryd.f45.results.toList (eH Tryd.f45) Tryd.f45.ntmps k [] h = dN.c G k self h := by kernel_rfl
theorem dN.sound {G : aG} (hG : ∀ g x, G g = some x → bC x = true) : ∀ k, Sound Tryd.prog G 45 (dN.f G k)
 | 0 => bP dN.here (fun _ _ => rfl)
 | k + 1 => bU (l := dN.env G k (dN.f G k)) (ann := dN.ann) (n := k) (bG hG eY) orders Tryd.func45 (by kernel_rfl) (by kernel_rfl) rfl (by kernel_rfl) (aFw fun h => dN.eq G k _ h)
theorem cJ.here : HrP Tryd.prog 44 := ⟨_, Tryd.func44, by kernel_rfl, by kernel_rfl⟩
theorem cJ.eq (G : aG) (k : Nat) (self : dA) (x0 x1 : AV) (h : aF) : fY Tryd.prog G (gV (cJ.env G k self)) cJ.ann Tryd.f44.results.toList (eH Tryd.f44) Tryd.f44.ntmps k [x0, x1] h = cJ.c G k self x0 x1 h := by kernel_rfl
theorem cJ.sound {G : aG} (hG : ∀ g x, G g = some x → bC x = true) : ∀ k, Sound Tryd.prog G 44 (cJ.f G k)
 | 0 => bP cJ.here (fun _ _ => rfl)
 | k + 1 => bU (l := cJ.env G k (cJ.f G k)) (ann := cJ.ann) (n := k) (bG hG (cO (dN.sound hG k) eY)) orders Tryd.func44 (by kernel_rfl) (by kernel_rfl) rfl (by kernel_rfl) (iK fun x0 x1 h => cJ.eq G k _ x0 x1 h)
theorem bH.here : HrP Tryd.prog 18 := ⟨_, Tryd.func18, by kernel_rfl, by kernel_rfl⟩
theorem bH.eq (G : aG) (k : Nat) (self : dA) (x0 : AV) (h : aF) : fY Tryd.prog G (gV (bH.env G k self)) bH.ann Tryd.f18.results.toList (eH Tryd.f18) Tryd.f18.ntmps k [x0] h = bH.c G k self x0 h := by kernel_rfl
theorem bH.sound {G : aG} (hG : ∀ g x, G g = some x → bC x = true) : ∀ k, Sound Tryd.prog G 18 (bH.f G k)
 | 0 => bP bH.here (fun _ _ => rfl)
 | k + 1 => bU (l := bH.env G k (bH.f G k)) (ann := bH.ann) (n := k) (bG hG (cO (eF.sound hG k) (cO (dD.sound hG k) (cO (bI.sound hG k) (cO (bM.sound hG k) (cO (cJ.sound hG k) (cO (dN.sound hG k) eY))))))) orders Tryd.func18 (by kernel_rfl) (by kernel_rfl) rfl (by kernel_rfl) (iR fun x0 h => bH.eq G k _ x0 h)
theorem bE.here : HrP Tryd.prog 50 := ⟨_, Tryd.func50, by kernel_rfl, by kernel_rfl⟩
theorem bE.eq (G : aG) (k : Nat) (self : dA) (x0 x1 : AV) (h : aF) : fY Tryd.prog G (gV (bE.env G k self)) bE.ann Tryd.f50.results.toList (eH Tryd.f50) Tryd.f50.ntmps k [x0, x1] h = bE.c G k self x0 x1 h := by kernel_rfl
theorem bE.sound {G : aG} (hG : ∀ g x, G g = some x → bC x = true) : ∀ k, Sound Tryd.prog G 50 (bE.f G k)
 | 0 => bP bE.here (fun _ _ => rfl)
 | k + 1 => bU (l := bE.env G k (bE.f G k)) (ann := bE.ann) (n := k) (bG hG eY) orders Tryd.func50 (by kernel_rfl) (by kernel_rfl) rfl (by kernel_rfl) (iK fun x0 x1 h => bE.eq G k _ x0 x1 h)
theorem aS.here : HrP Tryd.prog 21 := ⟨_, Tryd.func21, by kernel_rfl, by kernel_rfl⟩
theorem aS.eq (G : aG) (k : Nat) (self : dA) (x0 x1 : AV) (h : aF) : fY Tryd.prog G (gV (aS.env G k self)) aS.ann Tryd.f21.results.toList (eH Tryd.f21) Tryd.f21.ntmps k [x0, x1] h = aS.c G k self x0 x1 h := by kernel_rfl
theorem aS.sound {G : aG} (hG : ∀ g x, G g = some x → bC x = true) : ∀ k, Sound Tryd.prog G 21 (aS.f G k)
 | 0 => bP aS.here (fun _ _ => rfl)
 | k + 1 => bU (l := aS.env G k (aS.f G k)) (ann := aS.ann) (n := k) (bG hG (cO (bE.sound hG k) eY)) orders Tryd.func21 (by kernel_rfl) (by kernel_rfl) rfl (by kernel_rfl) (iK fun x0 x1 h => aS.eq G k _ x0 x1 h)
theorem alembiclaw24_SelectHides.here : HrP Tryd.prog 3 := ⟨_, Tryd.func3, by kernel_rfl, by kernel_rfl⟩
theorem alembiclaw24_SelectHides.eq (G : aG) (k : Nat) (self : dA) (x0 x1 x2 : AV) (h : aF) : fY Tryd.prog G (gV (alembiclaw24_SelectHides.env G k self)) alembiclaw24_SelectHides.ann Tryd.f3.results.toList (eH Tryd.f3) Tryd.f3.ntmps k [x0, x1, x2] h = alembiclaw24_SelectHides.c G k self x0 x1 x2 h := by kernel_rfl
theorem alembiclaw24_SelectHides.sound {G : aG} (hG : ∀ g x, G g = some x → bC x = true) : ∀ k, Sound Tryd.prog G 3 (alembiclaw24_SelectHides.f G k)
 | 0 => bP alembiclaw24_SelectHides.here (fun _ _ => rfl)
 | k + 1 => bU (l := alembiclaw24_SelectHides.env G k (alembiclaw24_SelectHides.f G k)) (ann := alembiclaw24_SelectHides.ann) (n := k) (bG hG (cO (dI.sound hG k) (cO (cC.sound hG k) (cO (cA.sound hG k) (cO (bH.sound hG k) (cO (bX.sound hG k) (cO (bN.sound hG k) (cO (aS.sound hG k) (cO (aX.sound hG k) eY))))))))) orders Tryd.func3 (by kernel_rfl) (by kernel_rfl) rfl (by kernel_rfl) (mE fun x0 x1 x2 h => alembiclaw24_SelectHides.eq G k _ x0 x1 x2 h)
end Go.Proofs.YtdfglgnflldkpaaDoor.Mir
