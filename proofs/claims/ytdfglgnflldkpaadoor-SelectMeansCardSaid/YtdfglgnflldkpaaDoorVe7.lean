/- Part 7 of the proof: the functions that the statement reaches, and their contracts. -/
import Derived.Test.YtdfglgnflldkpaaDoorVe6
import Derived.Test.YtdfglgnflldkpaaDoorProg
import Derived.KernelRfl
namespace Go.Proofs.YtdfglgnflldkpaaDoor.Mir
open Go
set_option linter.unusedVariables false
theorem orders : Tryd.prog.follows .mixedOrders = true := by kernel_rfl
theorem iL.here : HrP Tryd.prog 92 := ⟨_, Tryd.func92, by kernel_rfl, by kernel_rfl⟩
theorem iL.eq (G : aG) (k : Nat) (self : cN) (x0 x1 x2 : AV) (h : aF) : fP Tryd.prog G (gW (iL.env G k self)) iL.ann Tryd.f92.results.toList (eD Tryd.f92) Tryd.f92.ntmps k [x0, x1, x2] h = iL.c G k self x0 x1 x2 h := by kernel_rfl
theorem iL.sound {G : aG} (hG : ∀ g x, G g = some x → bC x = true) : ∀ k, Sound Tryd.prog G 92 (iL.f G k)
 | 0 => bE iL.here (fun _ _ => rfl)
 | k + 1 => bI (l := iL.env G k (iL.f G k)) (ann := iL.ann) (n := k) (bB hG eU) orders Tryd.func92 (by kernel_rfl) (by kernel_rfl) rfl (by kernel_rfl) (mQ fun x0 x1 x2 h => iL.eq G k _ x0 x1 x2 h)
theorem gP.here : HrP Tryd.prog 107 := ⟨_, Tryd.func107, by kernel_rfl, by kernel_rfl⟩
theorem gP.eq (G : aG) (k : Nat) (self : cN) (x0 x1 : AV) (h : aF) : fP Tryd.prog G (gW (gP.env G k self)) gP.ann Tryd.f107.results.toList (eD Tryd.f107) Tryd.f107.ntmps k [x0, x1] h = gP.c G k self x0 x1 h := by kernel_rfl
theorem gP.sound {G : aG} (hG : ∀ g x, G g = some x → bC x = true) : ∀ k, Sound Tryd.prog G 107 (gP.f G k)
 | 0 => bE gP.here (fun _ _ => rfl)
 | k + 1 => bI (l := gP.env G k (gP.f G k)) (ann := gP.ann) (n := k) (bB hG eU) orders Tryd.func107 (by kernel_rfl) (by kernel_rfl) rfl (by kernel_rfl) (hD fun x0 x1 h => gP.eq G k _ x0 x1 h)
theorem gD.here : HrP Tryd.prog 93 := ⟨_, Tryd.func93, by kernel_rfl, by kernel_rfl⟩
theorem gD.eq (G : aG) (k : Nat) (self : cN) (x0 : AV) (h : aF) : fP Tryd.prog G (gW (gD.env G k self)) gD.ann Tryd.f93.results.toList (eD Tryd.f93) Tryd.f93.ntmps k [x0] h = gD.c G k self x0 h := by kernel_rfl
theorem gD.sound {G : aG} (hG : ∀ g x, G g = some x → bC x = true) : ∀ k, Sound Tryd.prog G 93 (gD.f G k)
 | 0 => bE gD.here (fun _ _ => rfl)
 | k + 1 => bI (l := gD.env G k (gD.f G k)) (ann := gD.ann) (n := k) (bB hG (bU (iL.sound hG k) (bU (gP.sound hG k) eU))) orders Tryd.func93 (by kernel_rfl) (by kernel_rfl) rfl (by kernel_rfl) (iQ fun x0 h => gD.eq G k _ x0 h)
theorem fO.here : HrP Tryd.prog 70 := ⟨_, Tryd.func70, by kernel_rfl, by kernel_rfl⟩
theorem fO.eq (G : aG) (k : Nat) (self : cN) (x0 : AV) (h : aF) : fP Tryd.prog G (gW (fO.env G k self)) fO.ann Tryd.f70.results.toList (eD Tryd.f70) Tryd.f70.ntmps k [x0] h = fO.c G k self x0 h := by kernel_rfl
theorem fO.sound {G : aG} (hG : ∀ g x, G g = some x → bC x = true) : ∀ k, Sound Tryd.prog G 70 (fO.f G k)
 | 0 => bE fO.here (fun _ _ => rfl)
 | k + 1 => bI (l := fO.env G k (fO.f G k)) (ann := fO.ann) (n := k) (bB hG (bU (iL.sound hG k) (bU (gD.sound hG k) eU))) orders Tryd.func70 (by kernel_rfl) (by kernel_rfl) rfl (by kernel_rfl) (iQ fun x0 h => fO.eq G k _ x0 h)
theorem eP.here : HrP Tryd.prog 94 := ⟨_, Tryd.func94, by kernel_rfl, by kernel_rfl⟩
theorem eP.eq (G : aG) (k : Nat) (self : cN) (x0 x1 : AV) (h : aF) : fP Tryd.prog G (gW (eP.env G k self)) eP.ann Tryd.f94.results.toList (eD Tryd.f94) Tryd.f94.ntmps k [x0, x1] h = eP.c G k self x0 x1 h := by kernel_rfl
theorem eP.sound {G : aG} (hG : ∀ g x, G g = some x → bC x = true) : ∀ k, Sound Tryd.prog G 94 (eP.f G k)
 | 0 => bE eP.here (fun _ _ => rfl)
 | k + 1 => bI (l := eP.env G k (eP.f G k)) (ann := eP.ann) (n := k) (bB hG eU) orders Tryd.func94 (by kernel_rfl) (by kernel_rfl) rfl (by kernel_rfl) (hD fun x0 x1 h => eP.eq G k _ x0 x1 h)
theorem gF.here : HrP Tryd.prog 95 := ⟨_, Tryd.func95, by kernel_rfl, by kernel_rfl⟩
theorem gF.eq (G : aG) (k : Nat) (self : cN) (x0 : AV) (h : aF) : fP Tryd.prog G (gW (gF.env G k self)) gF.ann Tryd.f95.results.toList (eD Tryd.f95) Tryd.f95.ntmps k [x0] h = gF.c G k self x0 h := by kernel_rfl
theorem gF.sound {G : aG} (hG : ∀ g x, G g = some x → bC x = true) : ∀ k, Sound Tryd.prog G 95 (gF.f G k)
 | 0 => bE gF.here (fun _ _ => rfl)
 | k + 1 => bI (l := gF.env G k (gF.f G k)) (ann := gF.ann) (n := k) (bB hG eU) orders Tryd.func95 (by kernel_rfl) (by kernel_rfl) rfl (by kernel_rfl) (iQ fun x0 h => gF.eq G k _ x0 h)
theorem fN.here : HrP Tryd.prog 108 := ⟨_, Tryd.func108, by kernel_rfl, by kernel_rfl⟩
theorem fN.eq (G : aG) (k : Nat) (self : cN) (x0 : AV) (h : aF) : fP Tryd.prog G (gW (fN.env G k self)) fN.ann Tryd.f108.results.toList (eD Tryd.f108) Tryd.f108.ntmps k [x0] h = fN.c G k self x0 h := by kernel_rfl
theorem fN.sound {G : aG} (hG : ∀ g x, G g = some x → bC x = true) : ∀ k, Sound Tryd.prog G 108 (fN.f G k)
 | 0 => bE fN.here (fun _ _ => rfl)
 | k + 1 => bI (l := fN.env G k (fN.f G k)) (ann := fN.ann) (n := k) (bB hG eU) orders Tryd.func108 (by kernel_rfl) (by kernel_rfl) rfl (by kernel_rfl) (iQ fun x0 h => fN.eq G k _ x0 h)
theorem iJ.here : HrP Tryd.prog 96 := ⟨_, Tryd.func96, by kernel_rfl, by kernel_rfl⟩
theorem iJ.eq (G : aG) (k : Nat) (self : cN) (x0 x1 : AV) (h : aF) : fP Tryd.prog G (gW (iJ.env G k self)) iJ.ann Tryd.f96.results.toList (eD Tryd.f96) Tryd.f96.ntmps k [x0, x1] h = iJ.c G k self x0 x1 h := by kernel_rfl
theorem iJ.sound {G : aG} (hG : ∀ g x, G g = some x → bC x = true) : ∀ k, Sound Tryd.prog G 96 (iJ.f G k)
 | 0 => bE iJ.here (fun _ _ => rfl)
 | k + 1 => bI (l := iJ.env G k (iJ.f G k)) (ann := iJ.ann) (n := k) (bB hG (bU (fN.sound hG k) eU)) orders Tryd.func96 (by kernel_rfl) (by kernel_rfl) rfl (by kernel_rfl) (hD fun x0 x1 h => iJ.eq G k _ x0 x1 h)
theorem gE.here : HrP Tryd.prog 97 := ⟨_, Tryd.func97, by kernel_rfl, by kernel_rfl⟩
theorem gE.eq (G : aG) (k : Nat) (self : cN) (x0 : AV) (h : aF) : fP Tryd.prog G (gW (gE.env G k self)) gE.ann Tryd.f97.results.toList (eD Tryd.f97) Tryd.f97.ntmps k [x0] h = gE.c G k self x0 h := by kernel_rfl
theorem gE.sound {G : aG} (hG : ∀ g x, G g = some x → bC x = true) : ∀ k, Sound Tryd.prog G 97 (gE.f G k)
 | 0 => bE gE.here (fun _ _ => rfl)
 | k + 1 => bI (l := gE.env G k (gE.f G k)) (ann := gE.ann) (n := k) (bB hG eU) orders Tryd.func97 (by kernel_rfl) (by kernel_rfl) rfl (by kernel_rfl) (iQ fun x0 h => gE.eq G k _ x0 h)
theorem eH.here : HrP Tryd.prog 71 := ⟨_, Tryd.func71, by kernel_rfl, by kernel_rfl⟩
theorem eH.eq (G : aG) (k : Nat) (self : cN) (x0 x1 : AV) (h : aF) : fP Tryd.prog G (gW (eH.env G k self)) eH.ann Tryd.f71.results.toList (eD Tryd.f71) Tryd.f71.ntmps k [x0, x1] h = eH.c G k self x0 x1 h := by kernel_rfl
theorem eH.sound {G : aG} (hG : ∀ g x, G g = some x → bC x = true) : ∀ k, Sound Tryd.prog G 71 (eH.f G k)
 | 0 => bE eH.here (fun _ _ => rfl)
 | k + 1 => bI (l := eH.env G k (eH.f G k)) (ann := eH.ann) (n := k) (bB hG (bU (eP.sound hG k) (bU (gF.sound hG k) (bU (iJ.sound hG k) (bU (gE.sound hG k) eU))))) orders Tryd.func71 (by kernel_rfl) (by kernel_rfl) rfl (by kernel_rfl) (hD fun x0 x1 h => eH.eq G k _ x0 x1 h)
theorem cT.here : HrP Tryd.prog 72 := ⟨_, Tryd.func72, by kernel_rfl, by kernel_rfl⟩
theorem cT.eq (G : aG) (k : Nat) (self : cN) (x0 : AV) (h : aF) : fP Tryd.prog G (gW (cT.env G k self)) cT.ann Tryd.f72.results.toList (eD Tryd.f72) Tryd.f72.ntmps k [x0] h = cT.c G k self x0 h := by kernel_rfl
theorem cT.sound {G : aG} (hG : ∀ g x, G g = some x → bC x = true) : ∀ k, Sound Tryd.prog G 72 (cT.f G k)
 | 0 => bE cT.here (fun _ _ => rfl)
 | k + 1 => bI (l := cT.env G k (cT.f G k)) (ann := cT.ann) (n := k) (bB hG eU) orders Tryd.func72 (by kernel_rfl) (by kernel_rfl) rfl (by kernel_rfl) (iQ fun x0 h => cT.eq G k _ x0 h)
theorem bD.here : HrP Tryd.prog 40 := ⟨_, Tryd.func40, by kernel_rfl, by kernel_rfl⟩
theorem bD.eq (G : aG) (k : Nat) (self : cN) (x0 : AV) (h : aF) : fP Tryd.prog G (gW (bD.env G k self)) bD.ann Tryd.f40.results.toList (eD Tryd.f40) Tryd.f40.ntmps k [x0] h = bD.c G k self x0 h := by kernel_rfl
theorem bD.sound {G : aG} (hG : ∀ g x, G g = some x → bC x = true) : ∀ k, Sound Tryd.prog G 40 (bD.f G k)
 | 0 => bE bD.here (fun _ _ => rfl)
 | k + 1 => bI (l := bD.env G k (bD.f G k)) (ann := bD.ann) (n := k) (bB hG (bU (fO.sound hG k) (bU (eH.sound hG k) (bU (cT.sound hG k) eU)))) orders Tryd.func40 (by kernel_rfl) (by kernel_rfl) rfl (by kernel_rfl) (iQ fun x0 h => bD.eq G k _ x0 h)
theorem cZ.here : HrP Tryd.prog 88 := ⟨_, Tryd.func88, by kernel_rfl, by kernel_rfl⟩
theorem cZ.eq (G : aG) (k : Nat) (self : cN) (x0 x1 x2 : AV) (h : aF) : fP Tryd.prog G (gW (cZ.env G k self)) cZ.ann Tryd.f88.results.toList (eD Tryd.f88) Tryd.f88.ntmps k [x0, x1, x2] h = cZ.c G k self x0 x1 x2 h := by kernel_rfl
theorem cZ.sound {G : aG} (hG : ∀ g x, G g = some x → bC x = true) : ∀ k, Sound Tryd.prog G 88 (cZ.f G k)
 | 0 => bE cZ.here (fun _ _ => rfl)
 | k + 1 => bI (l := cZ.env G k (cZ.f G k)) (ann := cZ.ann) (n := k) (bB hG eU) orders Tryd.func88 (by kernel_rfl) (by kernel_rfl) rfl (by kernel_rfl) (mQ fun x0 x1 x2 h => cZ.eq G k _ x0 x1 x2 h)
theorem gK.here : HrP Tryd.prog 105 := ⟨_, Tryd.func105, by kernel_rfl, by kernel_rfl⟩
theorem gK.eq (G : aG) (k : Nat) (self : cN) (x0 x1 : AV) (h : aF) : fP Tryd.prog G (gW (gK.env G k self)) gK.ann Tryd.f105.results.toList (eD Tryd.f105) Tryd.f105.ntmps k [x0, x1] h = gK.c G k self x0 x1 h := by kernel_rfl
theorem gK.sound {G : aG} (hG : ∀ g x, G g = some x → bC x = true) : ∀ k, Sound Tryd.prog G 105 (gK.f G k)
 | 0 => bE gK.here (fun _ _ => rfl)
 | k + 1 => bI (l := gK.env G k (gK.f G k)) (ann := gK.ann) (n := k) (bB hG eU) orders Tryd.func105 (by kernel_rfl) (by kernel_rfl) rfl (by kernel_rfl) (hD fun x0 x1 h => gK.eq G k _ x0 x1 h)
theorem fM.here : HrP Tryd.prog 89 := ⟨_, Tryd.func89, by kernel_rfl, by kernel_rfl⟩
theorem fM.eq (G : aG) (k : Nat) (self : cN) (x0 x1 : AV) (h : aF) : fP Tryd.prog G (gW (fM.env G k self)) fM.ann Tryd.f89.results.toList (eD Tryd.f89) Tryd.f89.ntmps k [x0, x1] h = fM.c G k self x0 x1 h := by kernel_rfl
theorem fM.sound {G : aG} (hG : ∀ g x, G g = some x → bC x = true) : ∀ k, Sound Tryd.prog G 89 (fM.f G k)
 | 0 => bE fM.here (fun _ _ => rfl)
 | k + 1 => bI (l := fM.env G k (fM.f G k)) (ann := fM.ann) (n := k) (bB hG (bU (cZ.sound hG k) (bU (gK.sound hG k) eU))) orders Tryd.func89 (by kernel_rfl) (by kernel_rfl) rfl (by kernel_rfl) (hD fun x0 x1 h => fM.eq G k _ x0 x1 h)
theorem jE.here : HrP Tryd.prog 63 := ⟨_, Tryd.func63, by kernel_rfl, by kernel_rfl⟩
theorem jE.eq (G : aG) (k : Nat) (self : cN) (x0 x1 : AV) (h : aF) : fP Tryd.prog G (gW (jE.env G k self)) jE.ann Tryd.f63.results.toList (eD Tryd.f63) Tryd.f63.ntmps k [x0, x1] h = jE.c G k self x0 x1 h := by kernel_rfl
theorem jE.sound {G : aG} (hG : ∀ g x, G g = some x → bC x = true) : ∀ k, Sound Tryd.prog G 63 (jE.f G k)
 | 0 => bE jE.here (fun _ _ => rfl)
 | k + 1 => bI (l := jE.env G k (jE.f G k)) (ann := jE.ann) (n := k) (bB hG (bU (bD.sound hG k) (bU (fO.sound hG k) (bU (cZ.sound hG k) (bU (fM.sound hG k) eU))))) orders Tryd.func63 (by kernel_rfl) (by kernel_rfl) rfl (by kernel_rfl) (hD fun x0 x1 h => jE.eq G k _ x0 x1 h)
theorem iH.here : HrP Tryd.prog 37 := ⟨_, Tryd.func37, by kernel_rfl, by kernel_rfl⟩
theorem iH.eq (G : aG) (k : Nat) (self : cN) (x0 : AV) (h : aF) : fP Tryd.prog G (gW (iH.env G k self)) iH.ann Tryd.f37.results.toList (eD Tryd.f37) Tryd.f37.ntmps k [x0] h = iH.c G k self x0 h := by kernel_rfl
theorem iH.sound {G : aG} (hG : ∀ g x, G g = some x → bC x = true) : ∀ k, Sound Tryd.prog G 37 (iH.f G k)
 | 0 => bE iH.here (fun _ _ => rfl)
 | k + 1 => bI (l := iH.env G k (iH.f G k)) (ann := iH.ann) (n := k) (bB hG (bU (jE.sound hG k) eU)) orders Tryd.func37 (by kernel_rfl) (by kernel_rfl) rfl (by kernel_rfl) (iQ fun x0 h => iH.eq G k _ x0 h)
theorem aN.here : HrP Tryd.prog 79 := ⟨_, Tryd.func79, by kernel_rfl, by kernel_rfl⟩
theorem aN.eq (G : aG) (k : Nat) (self : cN) (x0 : AV) (h : aF) : fP Tryd.prog G (gW (aN.env G k self)) aN.ann Tryd.f79.results.toList (eD Tryd.f79) Tryd.f79.ntmps k [x0] h = aN.c G k self x0 h := by kernel_rfl
theorem aN.sound {G : aG} (hG : ∀ g x, G g = some x → bC x = true) : ∀ k, Sound Tryd.prog G 79 (aN.f G k)
 | 0 => bE aN.here (fun _ _ => rfl)
 | k + 1 => bI (l := aN.env G k (aN.f G k)) (ann := aN.ann) (n := k) (bB hG eU) orders Tryd.func79 (by kernel_rfl) (by kernel_rfl) rfl (by kernel_rfl) (iQ fun x0 h => aN.eq G k _ x0 h)
theorem cI.here : HrP Tryd.prog 99 := ⟨_, Tryd.func99, by kernel_rfl, by kernel_rfl⟩
theorem cI.eq (G : aG) (k : Nat) (self : cN) (x0 x1 : AV) (h : aF) : fP Tryd.prog G (gW (cI.env G k self)) cI.ann Tryd.f99.results.toList (eD Tryd.f99) Tryd.f99.ntmps k [x0, x1] h = cI.c G k self x0 x1 h := by kernel_rfl
theorem cI.sound {G : aG} (hG : ∀ g x, G g = some x → bC x = true) : ∀ k, Sound Tryd.prog G 99 (cI.f G k)
 | 0 => bE cI.here (fun _ _ => rfl)
 | k + 1 => bI (l := cI.env G k (cI.f G k)) (ann := cI.ann) (n := k) (bB hG eU) orders Tryd.func99 (by kernel_rfl) (by kernel_rfl) rfl (by kernel_rfl) (hD fun x0 x1 h => cI.eq G k _ x0 x1 h)
theorem cL.here : HrP Tryd.prog 100 := ⟨_, Tryd.func100, by kernel_rfl, by kernel_rfl⟩
theorem cL.eq (G : aG) (k : Nat) (self : cN) (x0 : AV) (h : aF) : fP Tryd.prog G (gW (cL.env G k self)) cL.ann Tryd.f100.results.toList (eD Tryd.f100) Tryd.f100.ntmps k [x0] h = cL.c G k self x0 h := by kernel_rfl
theorem cL.sound {G : aG} (hG : ∀ g x, G g = some x → bC x = true) : ∀ k, Sound Tryd.prog G 100 (cL.f G k)
 | 0 => bE cL.here (fun _ _ => rfl)
 | k + 1 => bI (l := cL.env G k (cL.f G k)) (ann := cL.ann) (n := k) (bB hG eU) orders Tryd.func100 (by kernel_rfl) (by kernel_rfl) rfl (by kernel_rfl) (iQ fun x0 h => cL.eq G k _ x0 h)
theorem cU.here : HrP Tryd.prog 101 := ⟨_, Tryd.func101, by kernel_rfl, by kernel_rfl⟩
theorem cU.eq (G : aG) (k : Nat) (self : cN) (x0 x1 : AV) (h : aF) : fP Tryd.prog G (gW (cU.env G k self)) cU.ann Tryd.f101.results.toList (eD Tryd.f101) Tryd.f101.ntmps k [x0, x1] h = cU.c G k self x0 x1 h := by kernel_rfl
theorem cU.sound {G : aG} (hG : ∀ g x, G g = some x → bC x = true) : ∀ k, Sound Tryd.prog G 101 (cU.f G k)
 | 0 => bE cU.here (fun _ _ => rfl)
 | k + 1 => bI (l := cU.env G k (cU.f G k)) (ann := cU.ann) (n := k) (bB hG eU) orders Tryd.func101 (by kernel_rfl) (by kernel_rfl) rfl (by kernel_rfl) (hD fun x0 x1 h => cU.eq G k _ x0 x1 h)
theorem aS.here : HrP Tryd.prog 78 := ⟨_, Tryd.func78, by kernel_rfl, by kernel_rfl⟩
theorem aS.eq (G : aG) (k : Nat) (self : cN) (x0 : AV) (h : aF) : fP Tryd.prog G (gW (aS.env G k self)) aS.ann Tryd.f78.results.toList (eD Tryd.f78) Tryd.f78.ntmps k [x0] h = aS.c G k self x0 h := by kernel_rfl
theorem aS.sound {G : aG} (hG : ∀ g x, G g = some x → bC x = true) : ∀ k, Sound Tryd.prog G 78 (aS.f G k)
 | 0 => bE aS.here (fun _ _ => rfl)
 | k + 1 => bI (l := aS.env G k (aS.f G k)) (ann := aS.ann) (n := k) (bB hG (bU (aN.sound hG k) (bU (cI.sound hG k) (bU (cL.sound hG k) (bU (cU.sound hG k) eU))))) orders Tryd.func78 (by kernel_rfl) (by kernel_rfl) rfl (by kernel_rfl) (iQ fun x0 h => aS.eq G k _ x0 h)
theorem aZ.here : HrP Tryd.prog 80 := ⟨_, Tryd.func80, by kernel_rfl, by kernel_rfl⟩
theorem aZ.eq (G : aG) (k : Nat) (self : cN) (x0 : AV) (h : aF) : fP Tryd.prog G (gW (aZ.env G k self)) aZ.ann Tryd.f80.results.toList (eD Tryd.f80) Tryd.f80.ntmps k [x0] h = aZ.c G k self x0 h := by kernel_rfl
theorem aZ.sound {G : aG} (hG : ∀ g x, G g = some x → bC x = true) : ∀ k, Sound Tryd.prog G 80 (aZ.f G k)
 | 0 => bE aZ.here (fun _ _ => rfl)
 | k + 1 => bI (l := aZ.env G k (aZ.f G k)) (ann := aZ.ann) (n := k) (bB hG eU) orders Tryd.func80 (by kernel_rfl) (by kernel_rfl) rfl (by kernel_rfl) (iQ fun x0 h => aZ.eq G k _ x0 h)
theorem aI.here : HrP Tryd.prog 55 := ⟨_, Tryd.func55, by kernel_rfl, by kernel_rfl⟩
theorem aI.eq (G : aG) (k : Nat) (self : cN) (x0 : AV) (h : aF) : fP Tryd.prog G (gW (aI.env G k self)) aI.ann Tryd.f55.results.toList (eD Tryd.f55) Tryd.f55.ntmps k [x0] h = aI.c G k self x0 h := by kernel_rfl
theorem aI.sound {G : aG} (hG : ∀ g x, G g = some x → bC x = true) : ∀ k, Sound Tryd.prog G 55 (aI.f G k)
 | 0 => bE aI.here (fun _ _ => rfl)
 | k + 1 => bI (l := aI.env G k (aI.f G k)) (ann := aI.ann) (n := k) (bB hG (bU (aS.sound hG k) (bU (aN.sound hG k) (bU (aZ.sound hG k) eU)))) orders Tryd.func55 (by kernel_rfl) (by kernel_rfl) rfl (by kernel_rfl) (iQ fun x0 h => aI.eq G k _ x0 h)
theorem bQ.here : HrP Tryd.prog 98 := ⟨_, Tryd.func98, by kernel_rfl, by kernel_rfl⟩
theorem bQ.eq (G : aG) (k : Nat) (self : cN) (x0 x1 : AV) (h : aF) : fP Tryd.prog G (gW (bQ.env G k self)) bQ.ann Tryd.f98.results.toList (eD Tryd.f98) Tryd.f98.ntmps k [x0, x1] h = bQ.c G k self x0 x1 h := by kernel_rfl
theorem bQ.sound {G : aG} (hG : ∀ g x, G g = some x → bC x = true) : ∀ k, Sound Tryd.prog G 98 (bQ.f G k)
 | 0 => bE bQ.here (fun _ _ => rfl)
 | k + 1 => bI (l := bQ.env G k (bQ.f G k)) (ann := bQ.ann) (n := k) (bB hG eU) orders Tryd.func98 (by kernel_rfl) (by kernel_rfl) rfl (by kernel_rfl) (hD fun x0 x1 h => bQ.eq G k _ x0 x1 h)
theorem cW.here : HrP Tryd.prog 77 := ⟨_, Tryd.func77, by kernel_rfl, by kernel_rfl⟩
theorem cW.eq (G : aG) (k : Nat) (self : cN) (x0 x1 : AV) (h : aF) : fP Tryd.prog G (gW (cW.env G k self)) cW.ann Tryd.f77.results.toList (eD Tryd.f77) Tryd.f77.ntmps k [x0, x1] h = cW.c G k self x0 x1 h := by kernel_rfl
theorem cW.sound {G : aG} (hG : ∀ g x, G g = some x → bC x = true) : ∀ k, Sound Tryd.prog G 77 (cW.f G k)
 | 0 => bE cW.here (fun _ _ => rfl)
 | k + 1 => bI (l := cW.env G k (cW.f G k)) (ann := cW.ann) (n := k) (bB hG (bU (aI.sound hG k) (bU (aN.sound hG k) (bU (bQ.sound hG k) eU)))) orders Tryd.func77 (by kernel_rfl) (by kernel_rfl) rfl (by kernel_rfl) (hD fun x0 x1 h => cW.eq G k _ x0 x1 h)
theorem cC.here : HrP Tryd.prog 51 := ⟨_, Tryd.func51, by kernel_rfl, by kernel_rfl⟩
theorem cC.eq (G : aG) (k : Nat) (self : cN) (x0 : AV) (h : aF) : fP Tryd.prog G (gW (cC.env G k self)) cC.ann Tryd.f51.results.toList (eD Tryd.f51) Tryd.f51.ntmps k [x0] h = cC.c G k self x0 h := by kernel_rfl
theorem cC.sound {G : aG} (hG : ∀ g x, G g = some x → bC x = true) : ∀ k, Sound Tryd.prog G 51 (cC.f G k)
 | 0 => bE cC.here (fun _ _ => rfl)
 | k + 1 => bI (l := cC.env G k (cC.f G k)) (ann := cC.ann) (n := k) (bB hG (bU (cW.sound hG k) eU)) orders Tryd.func51 (by kernel_rfl) (by kernel_rfl) rfl (by kernel_rfl) (iQ fun x0 h => cC.eq G k _ x0 h)
theorem cE.here : HrP Tryd.prog 56 := ⟨_, Tryd.func56, by kernel_rfl, by kernel_rfl⟩
theorem cE.eq (G : aG) (k : Nat) (self : cN) (x0 x1 : AV) (h : aF) : fP Tryd.prog G (gW (cE.env G k self)) cE.ann Tryd.f56.results.toList (eD Tryd.f56) Tryd.f56.ntmps k [x0, x1] h = cE.c G k self x0 x1 h := by kernel_rfl
theorem cE.sound {G : aG} (hG : ∀ g x, G g = some x → bC x = true) : ∀ k, Sound Tryd.prog G 56 (cE.f G k)
 | 0 => bE cE.here (fun _ _ => rfl)
 | k + 1 => bI (l := cE.env G k (cE.f G k)) (ann := cE.ann) (n := k) (bB hG eU) orders Tryd.func56 (by kernel_rfl) (by kernel_rfl) rfl (by kernel_rfl) (hD fun x0 x1 h => cE.eq G k _ x0 x1 h)
theorem bL.here : HrP Tryd.prog 34 := ⟨_, Tryd.func34, by kernel_rfl, by kernel_rfl⟩
theorem bL.eq (G : aG) (k : Nat) (self : cN) (x0 x1 : AV) (h : aF) : fP Tryd.prog G (gW (bL.env G k self)) bL.ann Tryd.f34.results.toList (eD Tryd.f34) Tryd.f34.ntmps k [x0, x1] h = bL.c G k self x0 x1 h := by kernel_rfl
theorem bL.sound {G : aG} (hG : ∀ g x, G g = some x → bC x = true) : ∀ k, Sound Tryd.prog G 34 (bL.f G k)
 | 0 => bE bL.here (fun _ _ => rfl)
 | k + 1 => bI (l := bL.env G k (bL.f G k)) (ann := bL.ann) (n := k) (bB hG eU) orders Tryd.func34 (by kernel_rfl) (by kernel_rfl) rfl (by kernel_rfl) (hD fun x0 x1 h => bL.eq G k _ x0 x1 h)
theorem aU.here : HrP Tryd.prog 52 := ⟨_, Tryd.func52, by kernel_rfl, by kernel_rfl⟩
theorem aU.eq (G : aG) (k : Nat) (self : cN) (x0 x1 : AV) (h : aF) : fP Tryd.prog G (gW (aU.env G k self)) aU.ann Tryd.f52.results.toList (eD Tryd.f52) Tryd.f52.ntmps k [x0, x1] h = aU.c G k self x0 x1 h := by kernel_rfl
theorem aU.sound {G : aG} (hG : ∀ g x, G g = some x → bC x = true) : ∀ k, Sound Tryd.prog G 52 (aU.f G k)
 | 0 => bE aU.here (fun _ _ => rfl)
 | k + 1 => bI (l := aU.env G k (aU.f G k)) (ann := aU.ann) (n := k) (bB hG eU) orders Tryd.func52 (by kernel_rfl) (by kernel_rfl) rfl (by kernel_rfl) (hD fun x0 x1 h => aU.eq G k _ x0 x1 h)
theorem aV.here : HrP Tryd.prog 53 := ⟨_, Tryd.func53, by kernel_rfl, by kernel_rfl⟩
theorem aV.eq (G : aG) (k : Nat) (self : cN) (x0 x1 x2 : AV) (h : aF) : fP Tryd.prog G (gW (aV.env G k self)) aV.ann Tryd.f53.results.toList (eD Tryd.f53) Tryd.f53.ntmps k [x0, x1, x2] h = aV.c G k self x0 x1 x2 h := by kernel_rfl
theorem aV.sound {G : aG} (hG : ∀ g x, G g = some x → bC x = true) : ∀ k, Sound Tryd.prog G 53 (aV.f G k)
 | 0 => bE aV.here (fun _ _ => rfl)
 | k + 1 => bI (l := aV.env G k (aV.f G k)) (ann := aV.ann) (n := k) (bB hG eU) orders Tryd.func53 (by kernel_rfl) (by kernel_rfl) rfl (by kernel_rfl) (mQ fun x0 x1 x2 h => aV.eq G k _ x0 x1 x2 h)
theorem aM.here : HrP Tryd.prog 25 := ⟨_, Tryd.func25, by kernel_rfl, by kernel_rfl⟩
theorem aM.eq (G : aG) (k : Nat) (self : cN) (x0 x1 x2 : AV) (h : aF) : fP Tryd.prog G (gW (aM.env G k self)) aM.ann Tryd.f25.results.toList (eD Tryd.f25) Tryd.f25.ntmps k [x0, x1, x2] h = aM.c G k self x0 x1 x2 h := by kernel_rfl
theorem aM.sound {G : aG} (hG : ∀ g x, G g = some x → bC x = true) : ∀ k, Sound Tryd.prog G 25 (aM.f G k)
 | 0 => bE aM.here (fun _ _ => rfl)
 | k + 1 => bI (l := aM.env G k (aM.f G k)) (ann := aM.ann) (n := k) (bB hG (bU (bL.sound hG k) (bU (aU.sound hG k) (bU (aV.sound hG k) (bU (aI.sound hG k) (bU (cE.sound hG k) eU)))))) orders Tryd.func25 (by kernel_rfl) (by kernel_rfl) rfl (by kernel_rfl) (mQ fun x0 x1 x2 h => aM.eq G k _ x0 x1 x2 h)
theorem aX.here : HrP Tryd.prog 46 := ⟨_, Tryd.func46, by kernel_rfl, by kernel_rfl⟩
theorem aX.eq (G : aG) (k : Nat) (self : cN) (x0 : AV) (h : aF) : aAY Tryd.prog G (gW (aX.env G k self)) aX.ann Tryd.f46.results.toList (eD Tryd.f46) Tryd.f46.ntmps k [x0] h = aX.c G k self x0 h := by kernel_rfl
theorem aX.sound {G : aG} (hG : ∀ g x, G g = some x → bC x = true) : ∀ k, Sound Tryd.prog G 46 (aX.f G k)
 | 0 => bE aX.here (fun _ _ => rfl)
 | k + 1 => yP (l := aX.env G k (aX.f G k)) (ann := aX.ann) (n := k) (bB hG eU) orders Tryd.func46 (by kernel_rfl) (by kernel_rfl) rfl (by kernel_rfl) (iQ fun x0 h => aX.eq G k _ x0 h)
theorem bY.here : HrP Tryd.prog 47 := ⟨_, Tryd.func47, by kernel_rfl, by kernel_rfl⟩
theorem bY.eq (G : aG) (k : Nat) (self : cN) (x0 : AV) (h : aF) : fP Tryd.prog G (gW (bY.env G k self)) bY.ann Tryd.f47.results.toList (eD Tryd.f47) Tryd.f47.ntmps k [x0] h = bY.c G k self x0 h := by kernel_rfl
theorem bY.sound {G : aG} (hG : ∀ g x, G g = some x → bC x = true) : ∀ k, Sound Tryd.prog G 47 (bY.f G k)
 | 0 => bE bY.here (fun _ _ => rfl)
 | k + 1 => bI (l := bY.env G k (bY.f G k)) (ann := bY.ann) (n := k) (bB hG eU) orders Tryd.func47 (by kernel_rfl) (by kernel_rfl) rfl (by kernel_rfl) (iQ fun x0 h => bY.eq G k _ x0 h)
theorem aW.here : HrP Tryd.prog 22 := ⟨_, Tryd.func22, by kernel_rfl, by kernel_rfl⟩
theorem aW.eq (G : aG) (k : Nat) (self : cN) (x0 x1 x2 : AV) (h : aF) : fP Tryd.prog G (gW (aW.env G k self)) aW.ann Tryd.f22.results.toList (eD Tryd.f22) Tryd.f22.ntmps k [x0, x1, x2] h = aW.c G k self x0 x1 x2 h := by kernel_rfl
theorem aW.sound {G : aG} (hG : ∀ g x, G g = some x → bC x = true) : ∀ k, Sound Tryd.prog G 22 (aW.f G k)
 | 0 => bE aW.here (fun _ _ => rfl)
 | k + 1 => bI (l := aW.env G k (aW.f G k)) (ann := aW.ann) (n := k) (bB hG (bU (aM.sound hG k) (bU (bL.sound hG k) (bU (aX.sound hG k) (bU (bY.sound hG k) (bU (cC.sound hG k) (bU (aU.sound hG k) (bU (aV.sound hG k) eU)))))))) orders Tryd.func22 (by kernel_rfl) (by kernel_rfl) rfl (by kernel_rfl) (mQ fun x0 x1 x2 h => aW.eq G k _ x0 x1 x2 h)
theorem gJ.here : HrP Tryd.prog 106 := ⟨_, Tryd.func106, by kernel_rfl, by kernel_rfl⟩
theorem gJ.eq (G : aG) (k : Nat) (self : cN) (x0 : AV) (h : aF) : fP Tryd.prog G (gW (gJ.env G k self)) gJ.ann Tryd.f106.results.toList (eD Tryd.f106) Tryd.f106.ntmps k [x0] h = gJ.c G k self x0 h := by kernel_rfl
theorem gJ.sound {G : aG} (hG : ∀ g x, G g = some x → bC x = true) : ∀ k, Sound Tryd.prog G 106 (gJ.f G k)
 | 0 => bE gJ.here (fun _ _ => rfl)
 | k + 1 => bI (l := gJ.env G k (gJ.f G k)) (ann := gJ.ann) (n := k) (bB hG eU) orders Tryd.func106 (by kernel_rfl) (by kernel_rfl) rfl (by kernel_rfl) (iQ fun x0 h => gJ.eq G k _ x0 h)
theorem gU.here : HrP Tryd.prog 90 := ⟨_, Tryd.func90, by kernel_rfl, by kernel_rfl⟩
theorem gU.eq (G : aG) (k : Nat) (self : cN) (x0 : AV) (h : aF) : fP Tryd.prog G (gW (gU.env G k self)) gU.ann Tryd.f90.results.toList (eD Tryd.f90) Tryd.f90.ntmps k [x0] h = gU.c G k self x0 h := by kernel_rfl
theorem gU.sound {G : aG} (hG : ∀ g x, G g = some x → bC x = true) : ∀ k, Sound Tryd.prog G 90 (gU.f G k)
 | 0 => bE gU.here (fun _ _ => rfl)
 | k + 1 => bI (l := gU.env G k (gU.f G k)) (ann := gU.ann) (n := k) (bB hG (bU (gJ.sound hG k) eU)) orders Tryd.func90 (by kernel_rfl) (by kernel_rfl) rfl (by kernel_rfl) (iQ fun x0 h => gU.eq G k _ x0 h)
theorem gZ.here : HrP Tryd.prog 91 := ⟨_, Tryd.func91, by kernel_rfl, by kernel_rfl⟩
theorem gZ.eq (G : aG) (k : Nat) (self : cN) (x0 x1 : AV) (h : aF) : fP Tryd.prog G (gW (gZ.env G k self)) gZ.ann Tryd.f91.results.toList (eD Tryd.f91) Tryd.f91.ntmps k [x0, x1] h = gZ.c G k self x0 x1 h := by kernel_rfl
theorem gZ.sound {G : aG} (hG : ∀ g x, G g = some x → bC x = true) : ∀ k, Sound Tryd.prog G 91 (gZ.f G k)
 | 0 => bE gZ.here (fun _ _ => rfl)
 | k + 1 => bI (l := gZ.env G k (gZ.f G k)) (ann := gZ.ann) (n := k) (bB hG eU) orders Tryd.func91 (by kernel_rfl) (by kernel_rfl) rfl (by kernel_rfl) (hD fun x0 x1 h => gZ.eq G k _ x0 x1 h)
theorem dW.here : HrP Tryd.prog 64 := ⟨_, Tryd.func64, by kernel_rfl, by kernel_rfl⟩
theorem dW.eq (G : aG) (k : Nat) (self : cN) (x0 x1 : AV) (h : aF) : fP Tryd.prog G (gW (dW.env G k self)) dW.ann Tryd.f64.results.toList (eD Tryd.f64) Tryd.f64.ntmps k [x0, x1] h = dW.c G k self x0 x1 h := by kernel_rfl
theorem dW.sound {G : aG} (hG : ∀ g x, G g = some x → bC x = true) : ∀ k, Sound Tryd.prog G 64 (dW.f G k)
 | 0 => bE dW.here (fun _ _ => rfl)
 | k + 1 => bI (l := dW.env G k (dW.f G k)) (ann := dW.ann) (n := k) (bB hG (bU (gU.sound hG k) (bU (gZ.sound hG k) eU))) orders Tryd.func64 (by kernel_rfl) (by kernel_rfl) rfl (by kernel_rfl) (hD fun x0 x1 h => dW.eq G k _ x0 x1 h)
theorem dX.here : HrP Tryd.prog 38 := ⟨_, Tryd.func38, by kernel_rfl, by kernel_rfl⟩
theorem dX.eq (G : aG) (k : Nat) (self : cN) (x0 : AV) (h : aF) : fP Tryd.prog G (gW (dX.env G k self)) dX.ann Tryd.f38.results.toList (eD Tryd.f38) Tryd.f38.ntmps k [x0] h = dX.c G k self x0 h := by kernel_rfl
theorem dX.sound {G : aG} (hG : ∀ g x, G g = some x → bC x = true) : ∀ k, Sound Tryd.prog G 38 (dX.f G k)
 | 0 => bE dX.here (fun _ _ => rfl)
 | k + 1 => bI (l := dX.env G k (dX.f G k)) (ann := dX.ann) (n := k) (bB hG (bU (dW.sound hG k) eU)) orders Tryd.func38 (by kernel_rfl) (by kernel_rfl) rfl (by kernel_rfl) (iQ fun x0 h => dX.eq G k _ x0 h)
theorem cP.here : HrP Tryd.prog 54 := ⟨_, Tryd.func54, by kernel_rfl, by kernel_rfl⟩
theorem cP.eq (G : aG) (k : Nat) (self : cN) (x0 x1 : AV) (h : aF) : aAY Tryd.prog G (gW (cP.env G k self)) cP.ann Tryd.f54.results.toList (eD Tryd.f54) Tryd.f54.ntmps k [x0, x1] h = cP.c G k self x0 x1 h := by kernel_rfl
theorem cP.sound {G : aG} (hG : ∀ g x, G g = some x → bC x = true) : ∀ k, Sound Tryd.prog G 54 (cP.f G k)
 | 0 => bE cP.here (fun _ _ => rfl)
 | k + 1 => yP (l := cP.env G k (cP.f G k)) (ann := cP.ann) (n := k) (bB hG eU) orders Tryd.func54 (by kernel_rfl) (by kernel_rfl) rfl (by kernel_rfl) (hD fun x0 x1 h => cP.eq G k _ x0 x1 h)
theorem bG.here : HrP Tryd.prog 65 := ⟨_, Tryd.func65, by kernel_rfl, by kernel_rfl⟩
theorem bG.eq (G : aG) (k : Nat) (self : cN) (x0 x1 : AV) (h : aF) : fP Tryd.prog G (gW (bG.env G k self)) bG.ann Tryd.f65.results.toList (eD Tryd.f65) Tryd.f65.ntmps k [x0, x1] h = bG.c G k self x0 x1 h := by kernel_rfl
theorem bG.sound {G : aG} (hG : ∀ g x, G g = some x → bC x = true) : ∀ k, Sound Tryd.prog G 65 (bG.f G k)
 | 0 => bE bG.here (fun _ _ => rfl)
 | k + 1 => bI (l := bG.env G k (bG.f G k)) (ann := bG.ann) (n := k) (bB hG eU) orders Tryd.func65 (by kernel_rfl) (by kernel_rfl) rfl (by kernel_rfl) (hD fun x0 x1 h => bG.eq G k _ x0 x1 h)
theorem bV.here : HrP Tryd.prog 66 := ⟨_, Tryd.func66, by kernel_rfl, by kernel_rfl⟩
theorem bV.eq (G : aG) (k : Nat) (self : cN) (x0 x1 x2 : AV) (h : aF) : fP Tryd.prog G (gW (bV.env G k self)) bV.ann Tryd.f66.results.toList (eD Tryd.f66) Tryd.f66.ntmps k [x0, x1, x2] h = bV.c G k self x0 x1 x2 h := by kernel_rfl
theorem bV.sound {G : aG} (hG : ∀ g x, G g = some x → bC x = true) : ∀ k, Sound Tryd.prog G 66 (bV.f G k)
 | 0 => bE bV.here (fun _ _ => rfl)
 | k + 1 => bI (l := bV.env G k (bV.f G k)) (ann := bV.ann) (n := k) (bB hG (bU (bG.sound hG k) eU)) orders Tryd.func66 (by kernel_rfl) (by kernel_rfl) rfl (by kernel_rfl) (mQ fun x0 x1 x2 h => bV.eq G k _ x0 x1 x2 h)
theorem cQ.here : HrP Tryd.prog 67 := ⟨_, Tryd.func67, by kernel_rfl, by kernel_rfl⟩
theorem cQ.eq (G : aG) (k : Nat) (self : cN) (x0 x1 x2 : AV) (h : aF) : fP Tryd.prog G (gW (cQ.env G k self)) cQ.ann Tryd.f67.results.toList (eD Tryd.f67) Tryd.f67.ntmps k [x0, x1, x2] h = cQ.c G k self x0 x1 x2 h := by kernel_rfl
theorem cQ.sound {G : aG} (hG : ∀ g x, G g = some x → bC x = true) : ∀ k, Sound Tryd.prog G 67 (cQ.f G k)
 | 0 => bE cQ.here (fun _ _ => rfl)
 | k + 1 => bI (l := cQ.env G k (cQ.f G k)) (ann := cQ.ann) (n := k) (bB hG (bU (bG.sound hG k) eU)) orders Tryd.func67 (by kernel_rfl) (by kernel_rfl) rfl (by kernel_rfl) (mQ fun x0 x1 x2 h => cQ.eq G k _ x0 x1 x2 h)
theorem cK.here : HrP Tryd.prog 69 := ⟨_, Tryd.func69, by kernel_rfl, by kernel_rfl⟩
theorem cK.eq (G : aG) (k : Nat) (self : cN) (x0 x1 x2 : AV) (h : aF) : fP Tryd.prog G (gW (cK.env G k self)) cK.ann Tryd.f69.results.toList (eD Tryd.f69) Tryd.f69.ntmps k [x0, x1, x2] h = cK.c G k self x0 x1 x2 h := by kernel_rfl
theorem cK.sound {G : aG} (hG : ∀ g x, G g = some x → bC x = true) : ∀ k, Sound Tryd.prog G 69 (cK.f G k)
 | 0 => bE cK.here (fun _ _ => rfl)
 | k + 1 => bI (l := cK.env G k (cK.f G k)) (ann := cK.ann) (n := k) (bB hG (bU (bG.sound hG k) eU)) orders Tryd.func69 (by kernel_rfl) (by kernel_rfl) rfl (by kernel_rfl) (mQ fun x0 x1 x2 h => cK.eq G k _ x0 x1 x2 h)
theorem dC.here : HrP Tryd.prog 68 := ⟨_, Tryd.func68, by kernel_rfl, by kernel_rfl⟩
theorem dC.eq (G : aG) (k : Nat) (self : cN) (x0 x1 x2 x3 x4 : AV) (h : aF) : fP Tryd.prog G (gW (dC.env G k self)) dC.ann Tryd.f68.results.toList (eD Tryd.f68) Tryd.f68.ntmps k [x0, x1, x2, x3, x4] h = dC.c G k self x0 x1 x2 x3 x4 h := by kernel_rfl
theorem dC.sound {G : aG} (hG : ∀ g x, G g = some x → bC x = true) : ∀ k, Sound Tryd.prog G 68 (dC.f G k)
 | 0 => bE dC.here (fun _ _ => rfl)
 | k + 1 => bI (l := dC.env G k (dC.f G k)) (ann := dC.ann) (n := k) (bB hG (bU (cP.sound hG k) (bU (bG.sound hG k) (bU (cK.sound hG k) eU)))) orders Tryd.func68 (by kernel_rfl) (by kernel_rfl) rfl (by kernel_rfl) (aJY fun x0 x1 x2 x3 x4 h => dC.eq G k _ x0 x1 x2 x3 x4 h)
theorem aR.here : HrP Tryd.prog 39 := ⟨_, Tryd.func39, by kernel_rfl, by kernel_rfl⟩
theorem aR.eq (G : aG) (k : Nat) (self : cN) (x0 x1 x2 : AV) (h : aF) : fP Tryd.prog G (gW (aR.env G k self)) aR.ann Tryd.f39.results.toList (eD Tryd.f39) Tryd.f39.ntmps k [x0, x1, x2] h = aR.c G k self x0 x1 x2 h := by kernel_rfl
theorem aR.sound {G : aG} (hG : ∀ g x, G g = some x → bC x = true) : ∀ k, Sound Tryd.prog G 39 (aR.f G k)
 | 0 => bE aR.here (fun _ _ => rfl)
 | k + 1 => bI (l := aR.env G k (aR.f G k)) (ann := aR.ann) (n := k) (bB hG (bU (cP.sound hG k) (bU (bG.sound hG k) (bU (bV.sound hG k) (bU (cQ.sound hG k) (bU (dC.sound hG k) (bU (cK.sound hG k) eU))))))) orders Tryd.func39 (by kernel_rfl) (by kernel_rfl) rfl (by kernel_rfl) (mQ fun x0 x1 x2 h => aR.eq G k _ x0 x1 x2 h)
theorem bX.here : HrP Tryd.prog 17 := ⟨_, Tryd.func17, by kernel_rfl, by kernel_rfl⟩
theorem bX.eq (G : aG) (k : Nat) (self : cN) (x0 : AV) (h : aF) : fP Tryd.prog G (gW (bX.env G k self)) bX.ann Tryd.f17.results.toList (eD Tryd.f17) Tryd.f17.ntmps k [x0] h = bX.c G k self x0 h := by kernel_rfl
theorem bX.sound {G : aG} (hG : ∀ g x, G g = some x → bC x = true) : ∀ k, Sound Tryd.prog G 17 (bX.f G k)
 | 0 => bE bX.here (fun _ _ => rfl)
 | k + 1 => bI (l := bX.env G k (bX.f G k)) (ann := bX.ann) (n := k) (bB hG (bU (dX.sound hG k) (bU (aR.sound hG k) (bU (bD.sound hG k) eU)))) orders Tryd.func17 (by kernel_rfl) (by kernel_rfl) rfl (by kernel_rfl) (iQ fun x0 h => bX.eq G k _ x0 h)
theorem iI.here : HrP Tryd.prog 23 := ⟨_, Tryd.func23, by kernel_rfl, by kernel_rfl⟩
theorem iI.eq (G : aG) (k : Nat) (self : cN) (x0 x1 : AV) (h : aF) : fP Tryd.prog G (gW (iI.env G k self)) iI.ann Tryd.f23.results.toList (eD Tryd.f23) Tryd.f23.ntmps k [x0, x1] h = iI.c G k self x0 x1 h := by kernel_rfl
theorem iI.sound {G : aG} (hG : ∀ g x, G g = some x → bC x = true) : ∀ k, Sound Tryd.prog G 23 (iI.f G k)
 | 0 => bE iI.here (fun _ _ => rfl)
 | k + 1 => bI (l := iI.env G k (iI.f G k)) (ann := iI.ann) (n := k) (bB hG (bU (cP.sound hG k) eU)) orders Tryd.func23 (by kernel_rfl) (by kernel_rfl) rfl (by kernel_rfl) (hD fun x0 x1 h => iI.eq G k _ x0 x1 h)
theorem dO.here : HrP Tryd.prog 15 := ⟨_, Tryd.func15, by kernel_rfl, by kernel_rfl⟩
theorem dO.eq (G : aG) (k : Nat) (self : cN) (h : aF) : fP Tryd.prog G (gW (dO.env G k self)) dO.ann Tryd.f15.results.toList (eD Tryd.f15) Tryd.f15.ntmps k [] h = dO.c G k self h := by kernel_rfl
theorem dO.sound {G : aG} (hG : ∀ g x, G g = some x → bC x = true) : ∀ k, Sound Tryd.prog G 15 (dO.f G k)
 | 0 => bE dO.here (fun _ _ => rfl)
 | k + 1 => bI (l := dO.env G k (dO.f G k)) (ann := dO.ann) (n := k) (bB hG (bU (bX.sound hG k) (bU (iI.sound hG k) eU))) orders Tryd.func15 (by kernel_rfl) (by kernel_rfl) rfl (by kernel_rfl) (aCN fun h => dO.eq G k _ h)
theorem cA.here : HrP Tryd.prog 19 := ⟨_, Tryd.func19, by kernel_rfl, by kernel_rfl⟩
theorem cA.eq (G : aG) (k : Nat) (self : cN) (x0 : AV) (h : aF) : fP Tryd.prog G (gW (cA.env G k self)) cA.ann Tryd.f19.results.toList (eD Tryd.f19) Tryd.f19.ntmps k [x0] h = cA.c G k self x0 h := by kernel_rfl
theorem cA.sound {G : aG} (hG : ∀ g x, G g = some x → bC x = true) : ∀ k, Sound Tryd.prog G 19 (cA.f G k)
 | 0 => bE cA.here (fun _ _ => rfl)
 | k + 1 => bI (l := cA.env G k (cA.f G k)) (ann := cA.ann) (n := k) (bB hG eU) orders Tryd.func19 (by kernel_rfl) (by kernel_rfl) rfl (by kernel_rfl) (iQ fun x0 h => cA.eq G k _ x0 h)
theorem eY.here : HrP Tryd.prog 73 := ⟨_, Tryd.func73, by kernel_rfl, by kernel_rfl⟩
theorem eY.eq (G : aG) (k : Nat) (self : cN) (x0 x1 : AV) (h : aF) : fP Tryd.prog G (gW (eY.env G k self)) eY.ann Tryd.f73.results.toList (eD Tryd.f73) Tryd.f73.ntmps k [x0, x1] h = eY.c G k self x0 x1 h := by kernel_rfl
theorem eY.sound {G : aG} (hG : ∀ g x, G g = some x → bC x = true) : ∀ k, Sound Tryd.prog G 73 (eY.f G k)
 | 0 => bE eY.here (fun _ _ => rfl)
 | k + 1 => bI (l := eY.env G k (eY.f G k)) (ann := eY.ann) (n := k) (bB hG eU) orders Tryd.func73 (by kernel_rfl) (by kernel_rfl) rfl (by kernel_rfl) (hD fun x0 x1 h => eY.eq G k _ x0 x1 h)
theorem dK.here : HrP Tryd.prog 74 := ⟨_, Tryd.func74, by kernel_rfl, by kernel_rfl⟩
theorem dK.eq (G : aG) (k : Nat) (self : cN) (x0 x1 : AV) (h : aF) : fP Tryd.prog G (gW (dK.env G k self)) dK.ann Tryd.f74.results.toList (eD Tryd.f74) Tryd.f74.ntmps k [x0, x1] h = dK.c G k self x0 x1 h := by kernel_rfl
theorem dK.sound {G : aG} (hG : ∀ g x, G g = some x → bC x = true) : ∀ k, Sound Tryd.prog G 74 (dK.f G k)
 | 0 => bE dK.here (fun _ _ => rfl)
 | k + 1 => bI (l := dK.env G k (dK.f G k)) (ann := dK.ann) (n := k) (bB hG eU) orders Tryd.func74 (by kernel_rfl) (by kernel_rfl) rfl (by kernel_rfl) (hD fun x0 x1 h => dK.eq G k _ x0 x1 h)
theorem eM.here : HrP Tryd.prog 75 := ⟨_, Tryd.func75, by kernel_rfl, by kernel_rfl⟩
theorem eM.eq (G : aG) (k : Nat) (self : cN) (x0 x1 : AV) (h : aF) : fP Tryd.prog G (gW (eM.env G k self)) eM.ann Tryd.f75.results.toList (eD Tryd.f75) Tryd.f75.ntmps k [x0, x1] h = eM.c G k self x0 x1 h := by kernel_rfl
theorem eM.sound {G : aG} (hG : ∀ g x, G g = some x → bC x = true) : ∀ k, Sound Tryd.prog G 75 (eM.f G k)
 | 0 => bE eM.here (fun _ _ => rfl)
 | k + 1 => bI (l := eM.env G k (eM.f G k)) (ann := eM.ann) (n := k) (bB hG eU) orders Tryd.func75 (by kernel_rfl) (by kernel_rfl) rfl (by kernel_rfl) (hD fun x0 x1 h => eM.eq G k _ x0 x1 h)
theorem dI.here : HrP Tryd.prog 76 := ⟨_, Tryd.func76, by kernel_rfl, by kernel_rfl⟩
theorem dI.eq (G : aG) (k : Nat) (self : cN) (x0 x1 : AV) (h : aF) : fP Tryd.prog G (gW (dI.env G k self)) dI.ann Tryd.f76.results.toList (eD Tryd.f76) Tryd.f76.ntmps k [x0, x1] h = dI.c G k self x0 x1 h := by kernel_rfl
theorem dI.sound {G : aG} (hG : ∀ g x, G g = some x → bC x = true) : ∀ k, Sound Tryd.prog G 76 (dI.f G k)
 | 0 => bE dI.here (fun _ _ => rfl)
 | k + 1 => bI (l := dI.env G k (dI.f G k)) (ann := dI.ann) (n := k) (bB hG (bU (cE.sound hG k) (bU (dK.sound hG k) eU))) orders Tryd.func76 (by kernel_rfl) (by kernel_rfl) rfl (by kernel_rfl) (hD fun x0 x1 h => dI.eq G k _ x0 x1 h)
theorem dZ.here : HrP Tryd.prog 48 := ⟨_, Tryd.func48, by kernel_rfl, by kernel_rfl⟩
theorem dZ.eq (G : aG) (k : Nat) (self : cN) (x0 x1 x2 : AV) (h : aF) : fP Tryd.prog G (gW (dZ.env G k self)) dZ.ann Tryd.f48.results.toList (eD Tryd.f48) Tryd.f48.ntmps k [x0, x1, x2] h = dZ.c G k self x0 x1 x2 h := by kernel_rfl
theorem dZ.sound {G : aG} (hG : ∀ g x, G g = some x → bC x = true) : ∀ k, Sound Tryd.prog G 48 (dZ.f G k)
 | 0 => bE dZ.here (fun _ _ => rfl)
 | k + 1 => bI (l := dZ.env G k (dZ.f G k)) (ann := dZ.ann) (n := k) (bB hG (bU (eY.sound hG k) (bU (dK.sound hG k) (bU (eM.sound hG k) (bU (dI.sound hG k) eU))))) orders Tryd.func48 (by kernel_rfl) (by kernel_rfl) rfl (by kernel_rfl) (mQ fun x0 x1 x2 h => dZ.eq G k _ x0 x1 x2 h)
theorem cH.here : HrP Tryd.prog 49 := ⟨_, Tryd.func49, by kernel_rfl, by kernel_rfl⟩
theorem cH.eq (G : aG) (k : Nat) (self : cN) (x0 x1 x2 x3 : AV) (h : aF) : fP Tryd.prog G (gW (cH.env G k self)) cH.ann Tryd.f49.results.toList (eD Tryd.f49) Tryd.f49.ntmps k [x0, x1, x2, x3] h = cH.c G k self x0 x1 x2 x3 h := by kernel_rfl
theorem cH.sound {G : aG} (hG : ∀ g x, G g = some x → bC x = true) : ∀ k, Sound Tryd.prog G 49 (cH.f G k)
 | 0 => bE cH.here (fun _ _ => rfl)
 | k + 1 => bI (l := cH.env G k (cH.f G k)) (ann := cH.ann) (n := k) (bB hG (bU (cE.sound hG k) eU)) orders Tryd.func49 (by kernel_rfl) (by kernel_rfl) rfl (by kernel_rfl) (aGz fun x0 x1 x2 x3 h => cH.eq G k _ x0 x1 x2 x3 h)
theorem bP.here : HrP Tryd.prog 20 := ⟨_, Tryd.func20, by kernel_rfl, by kernel_rfl⟩
theorem bP.eq (G : aG) (k : Nat) (self : cN) (x0 x1 x2 x3 : AV) (h : aF) : fP Tryd.prog G (gW (bP.env G k self)) bP.ann Tryd.f20.results.toList (eD Tryd.f20) Tryd.f20.ntmps k [x0, x1, x2, x3] h = bP.c G k self x0 x1 x2 x3 h := by kernel_rfl
theorem bP.sound {G : aG} (hG : ∀ g x, G g = some x → bC x = true) : ∀ k, Sound Tryd.prog G 20 (bP.f G k)
 | 0 => bE bP.here (fun _ _ => rfl)
 | k + 1 => bI (l := bP.env G k (bP.f G k)) (ann := bP.ann) (n := k) (bB hG (bU (aX.sound hG k) (bU (bY.sound hG k) (bU (dZ.sound hG k) (bU (cH.sound hG k) eU))))) orders Tryd.func20 (by kernel_rfl) (by kernel_rfl) rfl (by kernel_rfl) (aGz fun x0 x1 x2 x3 h => bP.eq G k _ x0 x1 x2 x3 h)
theorem cF.here : HrP Tryd.prog 16 := ⟨_, Tryd.func16, by kernel_rfl, by kernel_rfl⟩
theorem cF.eq (G : aG) (k : Nat) (self : cN) (x0 x1 : AV) (h : aF) : fP Tryd.prog G (gW (cF.env G k self)) cF.ann Tryd.f16.results.toList (eD Tryd.f16) Tryd.f16.ntmps k [x0, x1] h = cF.c G k self x0 x1 h := by kernel_rfl
theorem cF.sound {G : aG} (hG : ∀ g x, G g = some x → bC x = true) : ∀ k, Sound Tryd.prog G 16 (cF.f G k)
 | 0 => bE cF.here (fun _ _ => rfl)
 | k + 1 => bI (l := cF.env G k (cF.f G k)) (ann := cF.ann) (n := k) (bB hG eU) orders Tryd.func16 (by kernel_rfl) (by kernel_rfl) rfl (by kernel_rfl) (hD fun x0 x1 h => cF.eq G k _ x0 x1 h)
theorem dB.here : HrP Tryd.prog 35 := ⟨_, Tryd.func35, by kernel_rfl, by kernel_rfl⟩
theorem dB.eq (G : aG) (k : Nat) (self : cN) (x0 : AV) (h : aF) : fP Tryd.prog G (gW (dB.env G k self)) dB.ann Tryd.f35.results.toList (eD Tryd.f35) Tryd.f35.ntmps k [x0] h = dB.c G k self x0 h := by kernel_rfl
theorem dB.sound {G : aG} (hG : ∀ g x, G g = some x → bC x = true) : ∀ k, Sound Tryd.prog G 35 (dB.f G k)
 | 0 => bE dB.here (fun _ _ => rfl)
 | k + 1 => bI (l := dB.env G k (dB.f G k)) (ann := dB.ann) (n := k) (bB hG eU) orders Tryd.func35 (by kernel_rfl) (by kernel_rfl) rfl (by kernel_rfl) (iQ fun x0 h => dB.eq G k _ x0 h)
theorem dM.here : HrP Tryd.prog 41 := ⟨_, Tryd.func41, by kernel_rfl, by kernel_rfl⟩
theorem dM.eq (G : aG) (k : Nat) (self : cN) (x0 : AV) (h : aF) : fP Tryd.prog G (gW (dM.env G k self)) dM.ann Tryd.f41.results.toList (eD Tryd.f41) Tryd.f41.ntmps k [x0] h = dM.c G k self x0 h := by kernel_rfl
theorem dM.sound {G : aG} (hG : ∀ g x, G g = some x → bC x = true) : ∀ k, Sound Tryd.prog G 41 (dM.f G k)
 | 0 => bE dM.here (fun _ _ => rfl)
 | k + 1 => bI (l := dM.env G k (dM.f G k)) (ann := dM.ann) (n := k) (bB hG eU) orders Tryd.func41 (by kernel_rfl) (by kernel_rfl) rfl (by kernel_rfl) (iQ fun x0 h => dM.eq G k _ x0 h)
theorem bK.here : HrP Tryd.prog 42 := ⟨_, Tryd.func42, by kernel_rfl, by kernel_rfl⟩
theorem bK.eq (G : aG) (k : Nat) (self : cN) (x0 x1 x2 : AV) (h : aF) : fP Tryd.prog G (gW (bK.env G k self)) bK.ann Tryd.f42.results.toList (eD Tryd.f42) Tryd.f42.ntmps k [x0, x1, x2] h = bK.c G k self x0 x1 x2 h := by kernel_rfl
theorem bK.sound {G : aG} (hG : ∀ g x, G g = some x → bC x = true) : ∀ k, Sound Tryd.prog G 42 (bK.f G k)
 | 0 => bE bK.here (fun _ _ => rfl)
 | k + 1 => bI (l := bK.env G k (bK.f G k)) (ann := bK.ann) (n := k) (bB hG eU) orders Tryd.func42 (by kernel_rfl) (by kernel_rfl) rfl (by kernel_rfl) (mQ fun x0 x1 x2 h => bK.eq G k _ x0 x1 x2 h)
theorem bO.here : HrP Tryd.prog 43 := ⟨_, Tryd.func43, by kernel_rfl, by kernel_rfl⟩
theorem bO.eq (G : aG) (k : Nat) (self : cN) (x0 x1 : AV) (h : aF) : fP Tryd.prog G (gW (bO.env G k self)) bO.ann Tryd.f43.results.toList (eD Tryd.f43) Tryd.f43.ntmps k [x0, x1] h = bO.c G k self x0 x1 h := by kernel_rfl
theorem bO.sound {G : aG} (hG : ∀ g x, G g = some x → bC x = true) : ∀ k, Sound Tryd.prog G 43 (bO.f G k)
 | 0 => bE bO.here (fun _ _ => rfl)
 | k + 1 => bI (l := bO.env G k (bO.f G k)) (ann := bO.ann) (n := k) (bB hG eU) orders Tryd.func43 (by kernel_rfl) (by kernel_rfl) rfl (by kernel_rfl) (hD fun x0 x1 h => bO.eq G k _ x0 x1 h)
theorem dF.here : HrP Tryd.prog 45 := ⟨_, Tryd.func45, by kernel_rfl, by kernel_rfl⟩
theorem dF.eq (G : aG) (k : Nat) (self : cN) (h : aF) : fP Tryd.prog G (gW (dF.env G k self)) dF.ann Tryd.f45.results.toList (eD Tryd.f45) Tryd.f45.ntmps k [] h = dF.c G k self h := by kernel_rfl
theorem dF.sound {G : aG} (hG : ∀ g x, G g = some x → bC x = true) : ∀ k, Sound Tryd.prog G 45 (dF.f G k)
 | 0 => bE dF.here (fun _ _ => rfl)
 | k + 1 => bI (l := dF.env G k (dF.f G k)) (ann := dF.ann) (n := k) (bB hG eU) orders Tryd.func45 (by kernel_rfl) (by kernel_rfl) rfl (by kernel_rfl) (aCN fun h => dF.eq G k _ h)
theorem cD.here : HrP Tryd.prog 44 := ⟨_, Tryd.func44, by kernel_rfl, by kernel_rfl⟩
theorem cD.eq (G : aG) (k : Nat) (self : cN) (x0 x1 : AV) (h : aF) : fP Tryd.prog G (gW (cD.env G k self)) cD.ann Tryd.f44.results.toList (eD Tryd.f44) Tryd.f44.ntmps k [x0, x1] h = cD.c G k self x0 x1 h := by kernel_rfl
theorem cD.sound {G : aG} (hG : ∀ g x, G g = some x → bC x = true) : ∀ k, Sound Tryd.prog G 44 (cD.f G k)
 | 0 => bE cD.here (fun _ _ => rfl)
 | k + 1 => bI (l := cD.env G k (cD.f G k)) (ann := cD.ann) (n := k) (bB hG (bU (dF.sound hG k) eU)) orders Tryd.func44 (by kernel_rfl) (by kernel_rfl) rfl (by kernel_rfl) (hD fun x0 x1 h => cD.eq G k _ x0 x1 h)
theorem bJ.here : HrP Tryd.prog 18 := ⟨_, Tryd.func18, by kernel_rfl, by kernel_rfl⟩
theorem bJ.eq (G : aG) (k : Nat) (self : cN) (x0 : AV) (h : aF) : fP Tryd.prog G (gW (bJ.env G k self)) bJ.ann Tryd.f18.results.toList (eD Tryd.f18) Tryd.f18.ntmps k [x0] h = bJ.c G k self x0 h := by kernel_rfl
theorem bJ.sound {G : aG} (hG : ∀ g x, G g = some x → bC x = true) : ∀ k, Sound Tryd.prog G 18 (bJ.f G k)
 | 0 => bE bJ.here (fun _ _ => rfl)
 | k + 1 => bI (l := bJ.env G k (bJ.f G k)) (ann := bJ.ann) (n := k) (bB hG (bU (dB.sound hG k) (bU (dM.sound hG k) (bU (bK.sound hG k) (bU (bO.sound hG k) (bU (cD.sound hG k) (bU (dF.sound hG k) eU))))))) orders Tryd.func18 (by kernel_rfl) (by kernel_rfl) rfl (by kernel_rfl) (iQ fun x0 h => bJ.eq G k _ x0 h)
theorem bA.here : HrP Tryd.prog 29 := ⟨_, Tryd.func29, by kernel_rfl, by kernel_rfl⟩
theorem bA.eq (G : aG) (k : Nat) (self : cN) (x0 x1 : AV) (h : aF) : fP Tryd.prog G (gW (bA.env G k self)) bA.ann Tryd.f29.results.toList (eD Tryd.f29) Tryd.f29.ntmps k [x0, x1] h = bA.c G k self x0 x1 h := by kernel_rfl
theorem bA.sound {G : aG} (hG : ∀ g x, G g = some x → bC x = true) : ∀ k, Sound Tryd.prog G 29 (bA.f G k)
 | 0 => bE bA.here (fun _ _ => rfl)
 | k + 1 => bI (l := bA.env G k (bA.f G k)) (ann := bA.ann) (n := k) (bB hG eU) orders Tryd.func29 (by kernel_rfl) (by kernel_rfl) rfl (by kernel_rfl) (hD fun x0 x1 h => bA.eq G k _ x0 x1 h)
theorem bS.here : HrP Tryd.prog 61 := ⟨_, Tryd.func61, by kernel_rfl, by kernel_rfl⟩
theorem bS.eq (G : aG) (k : Nat) (self : cN) (x0 x1 : AV) (h : aF) : fP Tryd.prog G (gW (bS.env G k self)) bS.ann Tryd.f61.results.toList (eD Tryd.f61) Tryd.f61.ntmps k [x0, x1] h = bS.c G k self x0 x1 h := by kernel_rfl
theorem bS.sound {G : aG} (hG : ∀ g x, G g = some x → bC x = true) : ∀ k, Sound Tryd.prog G 61 (bS.f G k)
 | 0 => bE bS.here (fun _ _ => rfl)
 | k + 1 => bI (l := bS.env G k (bS.f G k)) (ann := bS.ann) (n := k) (bB hG eU) orders Tryd.func61 (by kernel_rfl) (by kernel_rfl) rfl (by kernel_rfl) (hD fun x0 x1 h => bS.eq G k _ x0 x1 h)
theorem dJ.here : HrP Tryd.prog 103 := ⟨_, Tryd.func103, by kernel_rfl, by kernel_rfl⟩
theorem dJ.eq (G : aG) (k : Nat) (self : cN) (h : aF) : fP Tryd.prog G (gW (dJ.env G k self)) dJ.ann Tryd.f103.results.toList (eD Tryd.f103) Tryd.f103.ntmps k [] h = dJ.c G k self h := by kernel_rfl
theorem dJ.sound {G : aG} (hG : ∀ g x, G g = some x → bC x = true) : ∀ k, Sound Tryd.prog G 103 (dJ.f G k)
 | 0 => bE dJ.here (fun _ _ => rfl)
 | k + 1 => bI (l := dJ.env G k (dJ.f G k)) (ann := dJ.ann) (n := k) (bB hG eU) orders Tryd.func103 (by kernel_rfl) (by kernel_rfl) rfl (by kernel_rfl) (aCN fun h => dJ.eq G k _ h)
theorem eW.here : HrP Tryd.prog 104 := ⟨_, Tryd.func104, by kernel_rfl, by kernel_rfl⟩
theorem eW.eq (G : aG) (k : Nat) (self : cN) (x0 x1 : AV) (h : aF) : fP Tryd.prog G (gW (eW.env G k self)) eW.ann Tryd.f104.results.toList (eD Tryd.f104) Tryd.f104.ntmps k [x0, x1] h = eW.c G k self x0 x1 h := by kernel_rfl
theorem eW.sound {G : aG} (hG : ∀ g x, G g = some x → bC x = true) : ∀ k, Sound Tryd.prog G 104 (eW.f G k)
 | 0 => bE eW.here (fun _ _ => rfl)
 | k + 1 => bI (l := eW.env G k (eW.f G k)) (ann := eW.ann) (n := k) (bB hG eU) orders Tryd.func104 (by kernel_rfl) (by kernel_rfl) rfl (by kernel_rfl) (hD fun x0 x1 h => eW.eq G k _ x0 x1 h)
theorem cY.here : HrP Tryd.prog 87 := ⟨_, Tryd.func87, by kernel_rfl, by kernel_rfl⟩
theorem cY.eq (G : aG) (k : Nat) (self : cN) (x0 : AV) (h : aF) : fP Tryd.prog G (gW (cY.env G k self)) cY.ann Tryd.f87.results.toList (eD Tryd.f87) Tryd.f87.ntmps k [x0] h = cY.c G k self x0 h := by kernel_rfl
theorem cY.sound {G : aG} (hG : ∀ g x, G g = some x → bC x = true) : ∀ k, Sound Tryd.prog G 87 (cY.f G k)
 | 0 => bE cY.here (fun _ _ => rfl)
 | k + 1 => bI (l := cY.env G k (cY.f G k)) (ann := cY.ann) (n := k) (bB hG (bU (dJ.sound hG k) (bU (eW.sound hG k) eU))) orders Tryd.func87 (by kernel_rfl) (by kernel_rfl) rfl (by kernel_rfl) (iQ fun x0 h => cY.eq G k _ x0 h)
theorem dP.here : HrP Tryd.prog 62 := ⟨_, Tryd.func62, by kernel_rfl, by kernel_rfl⟩
theorem dP.eq (G : aG) (k : Nat) (self : cN) (x0 : AV) (h : aF) : fP Tryd.prog G (gW (dP.env G k self)) dP.ann Tryd.f62.results.toList (eD Tryd.f62) Tryd.f62.ntmps k [x0] h = dP.c G k self x0 h := by kernel_rfl
theorem dP.sound {G : aG} (hG : ∀ g x, G g = some x → bC x = true) : ∀ k, Sound Tryd.prog G 62 (dP.f G k)
 | 0 => bE dP.here (fun _ _ => rfl)
 | k + 1 => bI (l := dP.env G k (dP.f G k)) (ann := dP.ann) (n := k) (bB hG (bU (dB.sound hG k) (bU (cD.sound hG k) (bU (dF.sound hG k) (bU (cY.sound hG k) eU))))) orders Tryd.func62 (by kernel_rfl) (by kernel_rfl) rfl (by kernel_rfl) (iQ fun x0 h => dP.eq G k _ x0 h)
theorem dL.here : HrP Tryd.prog 36 := ⟨_, Tryd.func36, by kernel_rfl, by kernel_rfl⟩
theorem dL.eq (G : aG) (k : Nat) (self : cN) (x0 x1 : AV) (h : aF) : fP Tryd.prog G (gW (dL.env G k self)) dL.ann Tryd.f36.results.toList (eD Tryd.f36) Tryd.f36.ntmps k [x0, x1] h = dL.c G k self x0 x1 h := by kernel_rfl
theorem dL.sound {G : aG} (hG : ∀ g x, G g = some x → bC x = true) : ∀ k, Sound Tryd.prog G 36 (dL.f G k)
 | 0 => bE dL.here (fun _ _ => rfl)
 | k + 1 => bI (l := dL.env G k (dL.f G k)) (ann := dL.ann) (n := k) (bB hG (bU (bS.sound hG k) (bU (dP.sound hG k) eU))) orders Tryd.func36 (by kernel_rfl) (by kernel_rfl) rfl (by kernel_rfl) (hD fun x0 x1 h => dL.eq G k _ x0 x1 h)
theorem alembiclaw24_SelectMeans.here : HrP Tryd.prog 14 := ⟨_, Tryd.func14, by kernel_rfl, by kernel_rfl⟩
theorem alembiclaw24_SelectMeans.eq (G : aG) (k : Nat) (self : cN) (x0 x1 : AV) (h : aF) : fP Tryd.prog G (gW (alembiclaw24_SelectMeans.env G k self)) alembiclaw24_SelectMeans.ann Tryd.f14.results.toList (eD Tryd.f14) Tryd.f14.ntmps k [x0, x1] h = alembiclaw24_SelectMeans.c G k self x0 x1 h := by kernel_rfl
theorem alembiclaw24_SelectMeans.sound {G : aG} (hG : ∀ g x, G g = some x → bC x = true) : ∀ k, Sound Tryd.prog G 14 (alembiclaw24_SelectMeans.f G k)
 | 0 => bE alembiclaw24_SelectMeans.here (fun _ _ => rfl)
 | k + 1 => bI (l := alembiclaw24_SelectMeans.env G k (alembiclaw24_SelectMeans.f G k)) (ann := alembiclaw24_SelectMeans.ann) (n := k) (bB hG (bU (dO.sound hG k) (bU (cF.sound hG k) (bU (bX.sound hG k) (bU (bJ.sound hG k) (bU (cA.sound hG k) (bU (bP.sound hG k) (bU (aW.sound hG k) (bU (bA.sound hG k) (bU (dB.sound hG k) (bU (dL.sound hG k) (bU (iH.sound hG k) eU)))))))))))) orders Tryd.func14 (by kernel_rfl) (by kernel_rfl) rfl (by kernel_rfl) (hD fun x0 x1 h => alembiclaw24_SelectMeans.eq G k _ x0 x1 h)
end Go.Proofs.YtdfglgnflldkpaaDoor.Mir
