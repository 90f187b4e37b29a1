/- Part 6 of the proof: the functions that the statement reaches, and their contracts. -/
import Derived.Test.YtcmblhedhgiofaaDoorZz5
import Derived.Test.YtcmblhedhgiofaaDoorProg
import Derived.KernelRfl
namespace Go.Proofs.YtcmblhedhgiofaaDoor.Mir
open Go
set_option linter.unusedVariables false
theorem orders : Tryd.prog.follows .mixedOrders = true := by kernel_rfl
theorem dS.here : HrP Tryd.prog 83 := ⟨_, Tryd.func83, by kernel_rfl, by kernel_rfl⟩
theorem dS.eq (G : aE) (k : Nat) (self : cY) (x0 : AV) (h : aB) : fH Tryd.prog G (fV (dS.env G k self)) dS.ann Tryd.f83.results.toList (dO Tryd.f83) Tryd.f83.ntmps k [x0] h = dS.c G k self x0 h := by kernel_rfl
theorem dS.sound {G : aE} (hG : ∀ g x, G g = some x → bT x = true) : ∀ k, Sound Tryd.prog G 83 (dS.f G k)
 | 0 => cA dS.here (fun _ _ => rfl)
 | k + 1 => cB (l := dS.env G k (dS.f G k)) (ann := dS.ann) (n := k) (bK hG eO) orders Tryd.func83 (by kernel_rfl) (by kernel_rfl) rfl (by kernel_rfl) (kV fun x0 h => dS.eq G k _ x0 h)
theorem eM.here : HrP Tryd.prog 66 := ⟨_, Tryd.func66, by kernel_rfl, by kernel_rfl⟩
theorem eM.eq (G : aE) (k : Nat) (self : cY) (x0 : AV) (h : aB) : fH Tryd.prog G (fV (eM.env G k self)) eM.ann Tryd.f66.results.toList (dO Tryd.f66) Tryd.f66.ntmps k [x0] h = eM.c G k self x0 h := by kernel_rfl
theorem eM.sound {G : aE} (hG : ∀ g x, G g = some x → bT x = true) : ∀ k, Sound Tryd.prog G 66 (eM.f G k)
 | 0 => cA eM.here (fun _ _ => rfl)
 | k + 1 => cB (l := eM.env G k (eM.f G k)) (ann := eM.ann) (n := k) (bK hG (cG (dS.sound hG k) eO)) orders Tryd.func66 (by kernel_rfl) (by kernel_rfl) rfl (by kernel_rfl) (kV fun x0 h => eM.eq G k _ x0 h)
theorem eQ.here : HrP Tryd.prog 68 := ⟨_, Tryd.func68, by kernel_rfl, by kernel_rfl⟩
theorem eQ.eq (G : aE) (k : Nat) (self : cY) (x0 x1 : AV) (h : aB) : fH Tryd.prog G (fV (eQ.env G k self)) eQ.ann Tryd.f68.results.toList (dO Tryd.f68) Tryd.f68.ntmps k [x0, x1] h = eQ.c G k self x0 x1 h := by kernel_rfl
theorem eQ.sound {G : aE} (hG : ∀ g x, G g = some x → bT x = true) : ∀ k, Sound Tryd.prog G 68 (eQ.f G k)
 | 0 => cA eQ.here (fun _ _ => rfl)
 | k + 1 => cB (l := eQ.env G k (eQ.f G k)) (ann := eQ.ann) (n := k) (bK hG eO) orders Tryd.func68 (by kernel_rfl) (by kernel_rfl) rfl (by kernel_rfl) (fR fun x0 x1 h => eQ.eq G k _ x0 x1 h)
theorem bY.here : HrP Tryd.prog 43 := ⟨_, Tryd.func43, by kernel_rfl, by kernel_rfl⟩
theorem bY.eq (G : aE) (k : Nat) (self : cY) (x0 x1 : AV) (h : aB) : fH Tryd.prog G (fV (bY.env G k self)) bY.ann Tryd.f43.results.toList (dO Tryd.f43) Tryd.f43.ntmps k [x0, x1] h = bY.c G k self x0 x1 h := by kernel_rfl
theorem bY.sound {G : aE} (hG : ∀ g x, G g = some x → bT x = true) : ∀ k, Sound Tryd.prog G 43 (bY.f G k)
 | 0 => cA bY.here (fun _ _ => rfl)
 | k + 1 => cB (l := bY.env G k (bY.f G k)) (ann := bY.ann) (n := k) (bK hG (cG (eM.sound hG k) (cG (eQ.sound hG k) eO))) orders Tryd.func43 (by kernel_rfl) (by kernel_rfl) rfl (by kernel_rfl) (fR fun x0 x1 h => bY.eq G k _ x0 x1 h)
theorem bV.here : HrP Tryd.prog 17 := ⟨_, Tryd.func17, by kernel_rfl, by kernel_rfl⟩
theorem bV.eq (G : aE) (k : Nat) (self : cY) (x0 : AV) (h : aB) : fH Tryd.prog G (fV (bV.env G k self)) bV.ann Tryd.f17.results.toList (dO Tryd.f17) Tryd.f17.ntmps k [x0] h = bV.c G k self x0 h := by kernel_rfl
theorem bV.sound {G : aE} (hG : ∀ g x, G g = some x → bT x = true) : ∀ k, Sound Tryd.prog G 17 (bV.f G k)
 | 0 => cA bV.here (fun _ _ => rfl)
 | k + 1 => cB (l := bV.env G k (bV.f G k)) (ann := bV.ann) (n := k) (bK hG (cG (bY.sound hG k) eO)) orders Tryd.func17 (by kernel_rfl) (by kernel_rfl) rfl (by kernel_rfl) (kV fun x0 h => bV.eq G k _ x0 h)
theorem cX.here : HrP Tryd.prog 44 := ⟨_, Tryd.func44, by kernel_rfl, by kernel_rfl⟩
theorem cX.eq (G : aE) (k : Nat) (self : cY) (x0 x1 x2 : AV) (h : aB) : fH Tryd.prog G (fV (cX.env G k self)) cX.ann Tryd.f44.results.toList (dO Tryd.f44) Tryd.f44.ntmps k [x0, x1, x2] h = cX.c G k self x0 x1 x2 h := by kernel_rfl
theorem cX.sound {G : aE} (hG : ∀ g x, G g = some x → bT x = true) : ∀ k, Sound Tryd.prog G 44 (cX.f G k)
 | 0 => cA cX.here (fun _ _ => rfl)
 | k + 1 => cB (l := cX.env G k (cX.f G k)) (ann := cX.ann) (n := k) (bK hG eO) orders Tryd.func44 (by kernel_rfl) (by kernel_rfl) rfl (by kernel_rfl) (pX fun x0 x1 x2 h => cX.eq G k _ x0 x1 x2 h)
theorem aP.here : HrP Tryd.prog 72 := ⟨_, Tryd.func72, by kernel_rfl, by kernel_rfl⟩
theorem aP.eq (G : aE) (k : Nat) (self : cY) (x0 : AV) (h : aB) : tY Tryd.prog G (fV (aP.env G k self)) aP.ann Tryd.f72.results.toList (dO Tryd.f72) Tryd.f72.ntmps k [x0] h = aP.c G k self x0 h := by kernel_rfl
theorem aP.sound {G : aE} (hG : ∀ g x, G g = some x → bT x = true) : ∀ k, Sound Tryd.prog G 72 (aP.f G k)
 | 0 => cA aP.here (fun _ _ => rfl)
 | k + 1 => sY (l := aP.env G k (aP.f G k)) (ann := aP.ann) (n := k) (bK hG eO) orders Tryd.func72 (by kernel_rfl) (by kernel_rfl) rfl (by kernel_rfl) (kV fun x0 h => aP.eq G k _ x0 h)
theorem bF.here : HrP Tryd.prog 73 := ⟨_, Tryd.func73, by kernel_rfl, by kernel_rfl⟩
theorem bF.eq (G : aE) (k : Nat) (self : cY) (x0 x1 x2 : AV) (h : aB) : fH Tryd.prog G (fV (bF.env G k self)) bF.ann Tryd.f73.results.toList (dO Tryd.f73) Tryd.f73.ntmps k [x0, x1, x2] h = bF.c G k self x0 x1 x2 h := by kernel_rfl
theorem bF.sound {G : aE} (hG : ∀ g x, G g = some x → bT x = true) : ∀ k, Sound Tryd.prog G 73 (bF.f G k)
 | 0 => cA bF.here (fun _ _ => rfl)
 | k + 1 => cB (l := bF.env G k (bF.f G k)) (ann := bF.ann) (n := k) (bK hG eO) orders Tryd.func73 (by kernel_rfl) (by kernel_rfl) rfl (by kernel_rfl) (pX fun x0 x1 x2 h => bF.eq G k _ x0 x1 x2 h)
theorem bM.here : HrP Tryd.prog 49 := ⟨_, Tryd.func49, by kernel_rfl, by kernel_rfl⟩
theorem bM.eq (G : aE) (k : Nat) (self : cY) (x0 x1 : AV) (h : aB) : fH Tryd.prog G (fV (bM.env G k self)) bM.ann Tryd.f49.results.toList (dO Tryd.f49) Tryd.f49.ntmps k [x0, x1] h = bM.c G k self x0 x1 h := by kernel_rfl
theorem bM.sound {G : aE} (hG : ∀ g x, G g = some x → bT x = true) : ∀ k, Sound Tryd.prog G 49 (bM.f G k)
 | 0 => cA bM.here (fun _ _ => rfl)
 | k + 1 => cB (l := bM.env G k (bM.f G k)) (ann := bM.ann) (n := k) (bK hG eO) orders Tryd.func49 (by kernel_rfl) (by kernel_rfl) rfl (by kernel_rfl) (fR fun x0 x1 h => bM.eq G k _ x0 x1 h)
theorem cE.here : HrP Tryd.prog 50 := ⟨_, Tryd.func50, by kernel_rfl, by kernel_rfl⟩
theorem cE.eq (G : aE) (k : Nat) (self : cY) (x0 x1 : AV) (h : aB) : fH Tryd.prog G (fV (cE.env G k self)) cE.ann Tryd.f50.results.toList (dO Tryd.f50) Tryd.f50.ntmps k [x0, x1] h = cE.c G k self x0 x1 h := by kernel_rfl
theorem cE.sound {G : aE} (hG : ∀ g x, G g = some x → bT x = true) : ∀ k, Sound Tryd.prog G 50 (cE.f G k)
 | 0 => cA cE.here (fun _ _ => rfl)
 | k + 1 => cB (l := cE.env G k (cE.f G k)) (ann := cE.ann) (n := k) (bK hG eO) orders Tryd.func50 (by kernel_rfl) (by kernel_rfl) rfl (by kernel_rfl) (fR fun x0 x1 h => cE.eq G k _ x0 x1 h)
theorem dQ.here : HrP Tryd.prog 51 := ⟨_, Tryd.func51, by kernel_rfl, by kernel_rfl⟩
theorem dQ.eq (G : aE) (k : Nat) (self : cY) (x0 : AV) (h : aB) : fH Tryd.prog G (fV (dQ.env G k self)) dQ.ann Tryd.f51.results.toList (dO Tryd.f51) Tryd.f51.ntmps k [x0] h = dQ.c G k self x0 h := by kernel_rfl
theorem dQ.sound {G : aE} (hG : ∀ g x, G g = some x → bT x = true) : ∀ k, Sound Tryd.prog G 51 (dQ.f G k)
 | 0 => cA dQ.here (fun _ _ => rfl)
 | k + 1 => cB (l := dQ.env G k (dQ.f G k)) (ann := dQ.ann) (n := k) (bK hG eO) orders Tryd.func51 (by kernel_rfl) (by kernel_rfl) rfl (by kernel_rfl) (kV fun x0 h => dQ.eq G k _ x0 h)
theorem cV.here : HrP Tryd.prog 24 := ⟨_, Tryd.func24, by kernel_rfl, by kernel_rfl⟩
theorem cV.eq (G : aE) (k : Nat) (self : cY) (x0 x1 x2 x3 : AV) (h : aB) : fH Tryd.prog G (fV (cV.env G k self)) cV.ann Tryd.f24.results.toList (dO Tryd.f24) Tryd.f24.ntmps k [x0, x1, x2, x3] h = cV.c G k self x0 x1 x2 x3 h := by kernel_rfl
theorem cV.sound {G : aE} (hG : ∀ g x, G g = some x → bT x = true) : ∀ k, Sound Tryd.prog G 24 (cV.f G k)
 | 0 => cA cV.here (fun _ _ => rfl)
 | k + 1 => cB (l := cV.env G k (cV.f G k)) (ann := cV.ann) (n := k) (bK hG (cG (bM.sound hG k) (cG (cE.sound hG k) (cG (dQ.sound hG k) eO)))) orders Tryd.func24 (by kernel_rfl) (by kernel_rfl) rfl (by kernel_rfl) (xT fun x0 x1 x2 x3 h => cV.eq G k _ x0 x1 x2 x3 h)
theorem bI.here : HrP Tryd.prog 88 := ⟨_, Tryd.func88, by kernel_rfl, by kernel_rfl⟩
theorem bI.eq (G : aE) (k : Nat) (self : cY) (x0 x1 : AV) (h : aB) : fH Tryd.prog G (fV (bI.env G k self)) bI.ann Tryd.f88.results.toList (dO Tryd.f88) Tryd.f88.ntmps k [x0, x1] h = bI.c G k self x0 x1 h := by kernel_rfl
theorem bI.sound {G : aE} (hG : ∀ g x, G g = some x → bT x = true) : ∀ k, Sound Tryd.prog G 88 (bI.f G k)
 | 0 => cA bI.here (fun _ _ => rfl)
 | k + 1 => cB (l := bI.env G k (bI.f G k)) (ann := bI.ann) (n := k) (bK hG (cG (bF.sound hG k) eO)) orders Tryd.func88 (by kernel_rfl) (by kernel_rfl) rfl (by kernel_rfl) (fR fun x0 x1 h => bI.eq G k _ x0 x1 h)
theorem bG.here : HrP Tryd.prog 89 := ⟨_, Tryd.func89, by kernel_rfl, by kernel_rfl⟩
theorem bG.eq (G : aE) (k : Nat) (self : cY) (x0 x1 : AV) (h : aB) : fH Tryd.prog G (fV (bG.env G k self)) bG.ann Tryd.f89.results.toList (dO Tryd.f89) Tryd.f89.ntmps k [x0, x1] h = bG.c G k self x0 x1 h := by kernel_rfl
theorem bG.sound {G : aE} (hG : ∀ g x, G g = some x → bT x = true) : ∀ k, Sound Tryd.prog G 89 (bG.f G k)
 | 0 => cA bG.here (fun _ _ => rfl)
 | k + 1 => cB (l := bG.env G k (bG.f G k)) (ann := bG.ann) (n := k) (bK hG (cG (dQ.sound hG k) (cG (bF.sound hG k) eO))) orders Tryd.func89 (by kernel_rfl) (by kernel_rfl) rfl (by kernel_rfl) (fR fun x0 x1 h => bG.eq G k _ x0 x1 h)
theorem bP.here : HrP Tryd.prog 74 := ⟨_, Tryd.func74, by kernel_rfl, by kernel_rfl⟩
theorem bP.eq (G : aE) (k : Nat) (self : cY) (x0 x1 : AV) (h : aB) : fH Tryd.prog G (fV (bP.env G k self)) bP.ann Tryd.f74.results.toList (dO Tryd.f74) Tryd.f74.ntmps k [x0, x1] h = bP.c G k self x0 x1 h := by kernel_rfl
theorem bP.sound {G : aE} (hG : ∀ g x, G g = some x → bT x = true) : ∀ k, Sound Tryd.prog G 74 (bP.f G k)
 | 0 => cA bP.here (fun _ _ => rfl)
 | k + 1 => cB (l := bP.env G k (bP.f G k)) (ann := bP.ann) (n := k) (bK hG (cG (cV.sound hG k) (cG (bI.sound hG k) (cG (bG.sound hG k) eO)))) orders Tryd.func74 (by kernel_rfl) (by kernel_rfl) rfl (by kernel_rfl) (fR fun x0 x1 h => bP.eq G k _ x0 x1 h)
theorem dI.here : HrP Tryd.prog 52 := ⟨_, Tryd.func52, by kernel_rfl, by kernel_rfl⟩
theorem dI.eq (G : aE) (k : Nat) (self : cY) (x0 x1 : AV) (h : aB) : fH Tryd.prog G (fV (dI.env G k self)) dI.ann Tryd.f52.results.toList (dO Tryd.f52) Tryd.f52.ntmps k [x0, x1] h = dI.c G k self x0 x1 h := by kernel_rfl
theorem dI.sound {G : aE} (hG : ∀ g x, G g = some x → bT x = true) : ∀ k, Sound Tryd.prog G 52 (dI.f G k)
 | 0 => cA dI.here (fun _ _ => rfl)
 | k + 1 => cB (l := dI.env G k (dI.f G k)) (ann := dI.ann) (n := k) (bK hG eO) orders Tryd.func52 (by kernel_rfl) (by kernel_rfl) rfl (by kernel_rfl) (fR fun x0 x1 h => dI.eq G k _ x0 x1 h)
theorem dA.here : HrP Tryd.prog 53 := ⟨_, Tryd.func53, by kernel_rfl, by kernel_rfl⟩
theorem dA.eq (G : aE) (k : Nat) (self : cY) (x0 x1 : AV) (h : aB) : fH Tryd.prog G (fV (dA.env G k self)) dA.ann Tryd.f53.results.toList (dO Tryd.f53) Tryd.f53.ntmps k [x0, x1] h = dA.c G k self x0 x1 h := by kernel_rfl
theorem dA.sound {G : aE} (hG : ∀ g x, G g = some x → bT x = true) : ∀ k, Sound Tryd.prog G 53 (dA.f G k)
 | 0 => cA dA.here (fun _ _ => rfl)
 | k + 1 => cB (l := dA.env G k (dA.f G k)) (ann := dA.ann) (n := k) (bK hG eO) orders Tryd.func53 (by kernel_rfl) (by kernel_rfl) rfl (by kernel_rfl) (fR fun x0 x1 h => dA.eq G k _ x0 x1 h)
theorem bJ.here : HrP Tryd.prog 54 := ⟨_, Tryd.func54, by kernel_rfl, by kernel_rfl⟩
theorem bJ.eq (G : aE) (k : Nat) (self : cY) (x0 x1 : AV) (h : aB) : fH Tryd.prog G (fV (bJ.env G k self)) bJ.ann Tryd.f54.results.toList (dO Tryd.f54) Tryd.f54.ntmps k [x0, x1] h = bJ.c G k self x0 x1 h := by kernel_rfl
theorem bJ.sound {G : aE} (hG : ∀ g x, G g = some x → bT x = true) : ∀ k, Sound Tryd.prog G 54 (bJ.f G k)
 | 0 => cA bJ.here (fun _ _ => rfl)
 | k + 1 => cB (l := bJ.env G k (bJ.f G k)) (ann := bJ.ann) (n := k) (bK hG eO) orders Tryd.func54 (by kernel_rfl) (by kernel_rfl) rfl (by kernel_rfl) (fR fun x0 x1 h => bJ.eq G k _ x0 x1 h)
theorem dD.here : HrP Tryd.prog 55 := ⟨_, Tryd.func55, by kernel_rfl, by kernel_rfl⟩
theorem dD.eq (G : aE) (k : Nat) (self : cY) (x0 x1 : AV) (h : aB) : fH Tryd.prog G (fV (dD.env G k self)) dD.ann Tryd.f55.results.toList (dO Tryd.f55) Tryd.f55.ntmps k [x0, x1] h = dD.c G k self x0 x1 h := by kernel_rfl
theorem dD.sound {G : aE} (hG : ∀ g x, G g = some x → bT x = true) : ∀ k, Sound Tryd.prog G 55 (dD.f G k)
 | 0 => cA dD.here (fun _ _ => rfl)
 | k + 1 => cB (l := dD.env G k (dD.f G k)) (ann := dD.ann) (n := k) (bK hG eO) orders Tryd.func55 (by kernel_rfl) (by kernel_rfl) rfl (by kernel_rfl) (fR fun x0 x1 h => dD.eq G k _ x0 x1 h)
theorem bU.here : HrP Tryd.prog 28 := ⟨_, Tryd.func28, by kernel_rfl, by kernel_rfl⟩
theorem bU.eq (G : aE) (k : Nat) (self : cY) (x0 x1 x2 : AV) (h : aB) : fH Tryd.prog G (fV (bU.env G k self)) bU.ann Tryd.f28.results.toList (dO Tryd.f28) Tryd.f28.ntmps k [x0, x1, x2] h = bU.c G k self x0 x1 x2 h := by kernel_rfl
theorem bU.sound {G : aE} (hG : ∀ g x, G g = some x → bT x = true) : ∀ k, Sound Tryd.prog G 28 (bU.f G k)
 | 0 => cA bU.here (fun _ _ => rfl)
 | k + 1 => cB (l := bU.env G k (bU.f G k)) (ann := bU.ann) (n := k) (bK hG (cG (dI.sound hG k) (cG (dA.sound hG k) (cG (bJ.sound hG k) (cG (dD.sound hG k) eO))))) orders Tryd.func28 (by kernel_rfl) (by kernel_rfl) rfl (by kernel_rfl) (pX fun x0 x1 x2 h => bU.eq G k _ x0 x1 x2 h)
theorem cW.here : HrP Tryd.prog 61 := ⟨_, Tryd.func61, by kernel_rfl, by kernel_rfl⟩
theorem cW.eq (G : aE) (k : Nat) (self : cY) (x0 : AV) (h : aB) : fH Tryd.prog G (fV (cW.env G k self)) cW.ann Tryd.f61.results.toList (dO Tryd.f61) Tryd.f61.ntmps k [x0] h = cW.c G k self x0 h := by kernel_rfl
theorem cW.sound {G : aE} (hG : ∀ g x, G g = some x → bT x = true) : ∀ k, Sound Tryd.prog G 61 (cW.f G k)
 | 0 => cA cW.here (fun _ _ => rfl)
 | k + 1 => cB (l := cW.env G k (cW.f G k)) (ann := cW.ann) (n := k) (bK hG eO) orders Tryd.func61 (by kernel_rfl) (by kernel_rfl) rfl (by kernel_rfl) (kV fun x0 h => cW.eq G k _ x0 h)
theorem eE.here : HrP Tryd.prog 62 := ⟨_, Tryd.func62, by kernel_rfl, by kernel_rfl⟩
theorem eE.eq (G : aE) (k : Nat) (self : cY) (x0 x1 : AV) (h : aB) : fH Tryd.prog G (fV (eE.env G k self)) eE.ann Tryd.f62.results.toList (dO Tryd.f62) Tryd.f62.ntmps k [x0, x1] h = eE.c G k self x0 x1 h := by kernel_rfl
theorem eE.sound {G : aE} (hG : ∀ g x, G g = some x → bT x = true) : ∀ k, Sound Tryd.prog G 62 (eE.f G k)
 | 0 => cA eE.here (fun _ _ => rfl)
 | k + 1 => cB (l := eE.env G k (eE.f G k)) (ann := eE.ann) (n := k) (bK hG eO) orders Tryd.func62 (by kernel_rfl) (by kernel_rfl) rfl (by kernel_rfl) (fR fun x0 x1 h => eE.eq G k _ x0 x1 h)
theorem cC.here : HrP Tryd.prog 60 := ⟨_, Tryd.func60, by kernel_rfl, by kernel_rfl⟩
theorem cC.eq (G : aE) (k : Nat) (self : cY) (x0 x1 x2 x3 x4 : AV) (h : aB) : fH Tryd.prog G (fV (cC.env G k self)) cC.ann Tryd.f60.results.toList (dO Tryd.f60) Tryd.f60.ntmps k [x0, x1, x2, x3, x4] h = cC.c G k self x0 x1 x2 x3 x4 h := by kernel_rfl
theorem cC.sound {G : aE} (hG : ∀ g x, G g = some x → bT x = true) : ∀ k, Sound Tryd.prog G 60 (cC.f G k)
 | 0 => cA cC.here (fun _ _ => rfl)
 | k + 1 => cB (l := cC.env G k (cC.f G k)) (ann := cC.ann) (n := k) (bK hG (cG (bU.sound hG k) (cG (cW.sound hG k) (cG (eE.sound hG k) eO)))) orders Tryd.func60 (by kernel_rfl) (by kernel_rfl) rfl (by kernel_rfl) (aEr fun x0 x1 x2 x3 x4 h => cC.eq G k _ x0 x1 x2 x3 x4 h)
theorem bL.here : HrP Tryd.prog 45 := ⟨_, Tryd.func45, by kernel_rfl, by kernel_rfl⟩
theorem bL.eq (G : aE) (k : Nat) (self : cY) (x0 x1 x2 x3 : AV) (h : aB) : fH Tryd.prog G (fV (bL.env G k self)) bL.ann Tryd.f45.results.toList (dO Tryd.f45) Tryd.f45.ntmps k [x0, x1, x2, x3] h = bL.c G k self x0 x1 x2 x3 h := by kernel_rfl
theorem bL.sound {G : aE} (hG : ∀ g x, G g = some x → bT x = true) : ∀ k, Sound Tryd.prog G 45 (bL.f G k)
 | 0 => cA bL.here (fun _ _ => rfl)
 | k + 1 => cB (l := bL.env G k (bL.f G k)) (ann := bL.ann) (n := k) (bK hG (cG (cC.sound hG k) (cG (aP.sound hG k) (cG (bF.sound hG k) (cG (bP.sound hG k) eO))))) orders Tryd.func45 (by kernel_rfl) (by kernel_rfl) rfl (by kernel_rfl) (xT fun x0 x1 x2 x3 h => bL.eq G k _ x0 x1 x2 x3 h)
theorem bB.here : HrP Tryd.prog 25 := ⟨_, Tryd.func25, by kernel_rfl, by kernel_rfl⟩
theorem bB.eq (G : aE) (k : Nat) (self : cY) (x0 x1 : AV) (h : aB) : fH Tryd.prog G (fV (bB.env G k self)) bB.ann Tryd.f25.results.toList (dO Tryd.f25) Tryd.f25.ntmps k [x0, x1] h = bB.c G k self x0 x1 h := by kernel_rfl
theorem bB.sound {G : aE} (hG : ∀ g x, G g = some x → bT x = true) : ∀ k, Sound Tryd.prog G 25 (bB.f G k)
 | 0 => cA bB.here (fun _ _ => rfl)
 | k + 1 => cB (l := bB.env G k (bB.f G k)) (ann := bB.ann) (n := k) (bK hG eO) orders Tryd.func25 (by kernel_rfl) (by kernel_rfl) rfl (by kernel_rfl) (fR fun x0 x1 h => bB.eq G k _ x0 x1 h)
theorem cJ.here : HrP Tryd.prog 30 := ⟨_, Tryd.func30, by kernel_rfl, by kernel_rfl⟩
theorem cJ.eq (G : aE) (k : Nat) (self : cY) (x0 x1 x2 x3 : AV) (h : aB) : fH Tryd.prog G (fV (cJ.env G k self)) cJ.ann Tryd.f30.results.toList (dO Tryd.f30) Tryd.f30.ntmps k [x0, x1, x2, x3] h = cJ.c G k self x0 x1 x2 x3 h := by kernel_rfl
theorem cJ.sound {G : aE} (hG : ∀ g x, G g = some x → bT x = true) : ∀ k, Sound Tryd.prog G 30 (cJ.f G k)
 | 0 => cA cJ.here (fun _ _ => rfl)
 | k + 1 => cB (l := cJ.env G k (cJ.f G k)) (ann := cJ.ann) (n := k) (bK hG (cG (bV.sound hG k) (cG (cX.sound hG k) (cG (bL.sound hG k) (cG (cC.sound hG k) eO))))) orders Tryd.func30 (by kernel_rfl) (by kernel_rfl) rfl (by kernel_rfl) (xT fun x0 x1 x2 x3 h => cJ.eq G k _ x0 x1 x2 x3 h)
theorem bQ.here : HrP Tryd.prog 26 := ⟨_, Tryd.func26, by kernel_rfl, by kernel_rfl⟩
theorem bQ.eq (G : aE) (k : Nat) (self : cY) (h : aB) : fH Tryd.prog G (fV (bQ.env G k self)) bQ.ann Tryd.f26.results.toList (dO Tryd.f26) Tryd.f26.ntmps k [] h = bQ.c G k self h := by kernel_rfl
theorem bQ.sound {G : aE} (hG : ∀ g x, G g = some x → bT x = true) : ∀ k, Sound Tryd.prog G 26 (bQ.f G k)
 | 0 => cA bQ.here (fun _ _ => rfl)
 | k + 1 => cB (l := bQ.env G k (bQ.f G k)) (ann := bQ.ann) (n := k) (bK hG (cG (bU.sound hG k) (cG (cJ.sound hG k) eO))) orders Tryd.func26 (by kernel_rfl) (by kernel_rfl) rfl (by kernel_rfl) (aBG fun h => bQ.eq G k _ h)
theorem cP.here : HrP Tryd.prog 63 := ⟨_, Tryd.func63, by kernel_rfl, by kernel_rfl⟩
theorem cP.eq (G : aE) (k : Nat) (self : cY) (x0 : AV) (h : aB) : fH Tryd.prog G (fV (cP.env G k self)) cP.ann Tryd.f63.results.toList (dO Tryd.f63) Tryd.f63.ntmps k [x0] h = cP.c G k self x0 h := by kernel_rfl
theorem cP.sound {G : aE} (hG : ∀ g x, G g = some x → bT x = true) : ∀ k, Sound Tryd.prog G 63 (cP.f G k)
 | 0 => cA cP.here (fun _ _ => rfl)
 | k + 1 => cB (l := cP.env G k (cP.f G k)) (ann := cP.ann) (n := k) (bK hG eO) orders Tryd.func63 (by kernel_rfl) (by kernel_rfl) rfl (by kernel_rfl) (kV fun x0 h => cP.eq G k _ x0 h)
theorem aJ.here : HrP Tryd.prog 64 := ⟨_, Tryd.func64, by kernel_rfl, by kernel_rfl⟩
theorem aJ.eq (G : aE) (k : Nat) (self : cY) (x0 : AV) (h : aB) : tY Tryd.prog G (fV (aJ.env G k self)) aJ.ann Tryd.f64.results.toList (dO Tryd.f64) Tryd.f64.ntmps k [x0] h = aJ.c G k self x0 h := by kernel_rfl
theorem aJ.sound {G : aE} (hG : ∀ g x, G g = some x → bT x = true) : ∀ k, Sound Tryd.prog G 64 (aJ.f G k)
 | 0 => cA aJ.here (fun _ _ => rfl)
 | k + 1 => sY (l := aJ.env G k (aJ.f G k)) (ann := aJ.ann) (n := k) (bK hG eO) orders Tryd.func64 (by kernel_rfl) (by kernel_rfl) rfl (by kernel_rfl) (kV fun x0 h => aJ.eq G k _ x0 h)
theorem dW.here : HrP Tryd.prog 90 := ⟨_, Tryd.func90, by kernel_rfl, by kernel_rfl⟩
theorem dW.eq (G : aE) (k : Nat) (self : cY) (x0 x1 x2 : AV) (h : aB) : fH Tryd.prog G (fV (dW.env G k self)) dW.ann Tryd.f90.results.toList (dO Tryd.f90) Tryd.f90.ntmps k [x0, x1, x2] h = dW.c G k self x0 x1 x2 h := by kernel_rfl
theorem dW.sound {G : aE} (hG : ∀ g x, G g = some x → bT x = true) : ∀ k, Sound Tryd.prog G 90 (dW.f G k)
 | 0 => cA dW.here (fun _ _ => rfl)
 | k + 1 => cB (l := dW.env G k (dW.f G k)) (ann := dW.ann) (n := k) (bK hG eO) orders Tryd.func90 (by kernel_rfl) (by kernel_rfl) rfl (by kernel_rfl) (pX fun x0 x1 x2 h => dW.eq G k _ x0 x1 x2 h)
theorem eA.here : HrP Tryd.prog 75 := ⟨_, Tryd.func75, by kernel_rfl, by kernel_rfl⟩
theorem eA.eq (G : aE) (k : Nat) (self : cY) (x0 x1 : AV) (h : aB) : fH Tryd.prog G (fV (eA.env G k self)) eA.ann Tryd.f75.results.toList (dO Tryd.f75) Tryd.f75.ntmps k [x0, x1] h = eA.c G k self x0 x1 h := by kernel_rfl
theorem eA.sound {G : aE} (hG : ∀ g x, G g = some x → bT x = true) : ∀ k, Sound Tryd.prog G 75 (eA.f G k)
 | 0 => cA eA.here (fun _ _ => rfl)
 | k + 1 => cB (l := eA.env G k (eA.f G k)) (ann := eA.ann) (n := k) (bK hG (cG (dI.sound hG k) (cG (cP.sound hG k) (cG (dW.sound hG k) eO)))) orders Tryd.func75 (by kernel_rfl) (by kernel_rfl) rfl (by kernel_rfl) (fR fun x0 x1 h => eA.eq G k _ x0 x1 h)
theorem eH.here : HrP Tryd.prog 76 := ⟨_, Tryd.func76, by kernel_rfl, by kernel_rfl⟩
theorem eH.eq (G : aE) (k : Nat) (self : cY) (x0 x1 : AV) (h : aB) : fH Tryd.prog G (fV (eH.env G k self)) eH.ann Tryd.f76.results.toList (dO Tryd.f76) Tryd.f76.ntmps k [x0, x1] h = eH.c G k self x0 x1 h := by kernel_rfl
theorem eH.sound {G : aE} (hG : ∀ g x, G g = some x → bT x = true) : ∀ k, Sound Tryd.prog G 76 (eH.f G k)
 | 0 => cA eH.here (fun _ _ => rfl)
 | k + 1 => cB (l := eH.env G k (eH.f G k)) (ann := eH.ann) (n := k) (bK hG (cG (dA.sound hG k) (cG (cP.sound hG k) (cG (dW.sound hG k) eO)))) orders Tryd.func76 (by kernel_rfl) (by kernel_rfl) rfl (by kernel_rfl) (fR fun x0 x1 h => eH.eq G k _ x0 x1 h)
theorem dP.here : HrP Tryd.prog 77 := ⟨_, Tryd.func77, by kernel_rfl, by kernel_rfl⟩
theorem dP.eq (G : aE) (k : Nat) (self : cY) (x0 x1 : AV) (h : aB) : fH Tryd.prog G (fV (dP.env G k self)) dP.ann Tryd.f77.results.toList (dO Tryd.f77) Tryd.f77.ntmps k [x0, x1] h = dP.c G k self x0 x1 h := by kernel_rfl
theorem dP.sound {G : aE} (hG : ∀ g x, G g = some x → bT x = true) : ∀ k, Sound Tryd.prog G 77 (dP.f G k)
 | 0 => cA dP.here (fun _ _ => rfl)
 | k + 1 => cB (l := dP.env G k (dP.f G k)) (ann := dP.ann) (n := k) (bK hG (cG (bJ.sound hG k) (cG (cP.sound hG k) (cG (dW.sound hG k) eO)))) orders Tryd.func77 (by kernel_rfl) (by kernel_rfl) rfl (by kernel_rfl) (fR fun x0 x1 h => dP.eq G k _ x0 x1 h)
theorem eG.here : HrP Tryd.prog 78 := ⟨_, Tryd.func78, by kernel_rfl, by kernel_rfl⟩
theorem eG.eq (G : aE) (k : Nat) (self : cY) (x0 x1 : AV) (h : aB) : fH Tryd.prog G (fV (eG.env G k self)) eG.ann Tryd.f78.results.toList (dO Tryd.f78) Tryd.f78.ntmps k [x0, x1] h = eG.c G k self x0 x1 h := by kernel_rfl
theorem eG.sound {G : aE} (hG : ∀ g x, G g = some x → bT x = true) : ∀ k, Sound Tryd.prog G 78 (eG.f G k)
 | 0 => cA eG.here (fun _ _ => rfl)
 | k + 1 => cB (l := eG.env G k (eG.f G k)) (ann := eG.ann) (n := k) (bK hG (cG (dP.sound hG k) eO)) orders Tryd.func78 (by kernel_rfl) (by kernel_rfl) rfl (by kernel_rfl) (fR fun x0 x1 h => eG.eq G k _ x0 x1 h)
theorem eF.here : HrP Tryd.prog 79 := ⟨_, Tryd.func79, by kernel_rfl, by kernel_rfl⟩
theorem eF.eq (G : aE) (k : Nat) (self : cY) (x0 x1 : AV) (h : aB) : fH Tryd.prog G (fV (eF.env G k self)) eF.ann Tryd.f79.results.toList (dO Tryd.f79) Tryd.f79.ntmps k [x0, x1] h = eF.c G k self x0 x1 h := by kernel_rfl
theorem eF.sound {G : aE} (hG : ∀ g x, G g = some x → bT x = true) : ∀ k, Sound Tryd.prog G 79 (eF.f G k)
 | 0 => cA eF.here (fun _ _ => rfl)
 | k + 1 => cB (l := eF.env G k (eF.f G k)) (ann := eF.ann) (n := k) (bK hG (cG (cP.sound hG k) eO)) orders Tryd.func79 (by kernel_rfl) (by kernel_rfl) rfl (by kernel_rfl) (fR fun x0 x1 h => eF.eq G k _ x0 x1 h)
theorem eP.here : HrP Tryd.prog 82 := ⟨_, Tryd.func82, by kernel_rfl, by kernel_rfl⟩
theorem eP.eq (G : aE) (k : Nat) (self : cY) (h : aB) : fH Tryd.prog G (fV (eP.env G k self)) eP.ann Tryd.f82.results.toList (dO Tryd.f82) Tryd.f82.ntmps k [] h = eP.c G k self h := by kernel_rfl
theorem eP.sound {G : aE} (hG : ∀ g x, G g = some x → bT x = true) : ∀ k, Sound Tryd.prog G 82 (eP.f G k)
 | 0 => cA eP.here (fun _ _ => rfl)
 | k + 1 => cB (l := eP.env G k (eP.f G k)) (ann := eP.ann) (n := k) (bK hG eO) orders Tryd.func82 (by kernel_rfl) (by kernel_rfl) rfl (by kernel_rfl) (aBG fun h => eP.eq G k _ h)
theorem eD.here : HrP Tryd.prog 80 := ⟨_, Tryd.func80, by kernel_rfl, by kernel_rfl⟩
theorem eD.eq (G : aE) (k : Nat) (self : cY) (x0 x1 : AV) (h : aB) : fH Tryd.prog G (fV (eD.env G k self)) eD.ann Tryd.f80.results.toList (dO Tryd.f80) Tryd.f80.ntmps k [x0, x1] h = eD.c G k self x0 x1 h := by kernel_rfl
theorem eD.sound {G : aE} (hG : ∀ g x, G g = some x → bT x = true) : ∀ k, Sound Tryd.prog G 80 (eD.f G k)
 | 0 => cA eD.here (fun _ _ => rfl)
 | k + 1 => cB (l := eD.env G k (eD.f G k)) (ann := eD.ann) (n := k) (bK hG (cG (cP.sound hG k) (cG (eP.sound hG k) eO))) orders Tryd.func80 (by kernel_rfl) (by kernel_rfl) rfl (by kernel_rfl) (fR fun x0 x1 h => eD.eq G k _ x0 x1 h)
theorem dM.here : HrP Tryd.prog 81 := ⟨_, Tryd.func81, by kernel_rfl, by kernel_rfl⟩
theorem dM.eq (G : aE) (k : Nat) (self : cY) (x0 x1 : AV) (h : aB) : fH Tryd.prog G (fV (dM.env G k self)) dM.ann Tryd.f81.results.toList (dO Tryd.f81) Tryd.f81.ntmps k [x0, x1] h = dM.c G k self x0 x1 h := by kernel_rfl
theorem dM.sound {G : aE} (hG : ∀ g x, G g = some x → bT x = true) : ∀ k, Sound Tryd.prog G 81 (dM.f G k)
 | 0 => cA dM.here (fun _ _ => rfl)
 | k + 1 => cB (l := dM.env G k (dM.f G k)) (ann := dM.ann) (n := k) (bK hG (cG (cP.sound hG k) eO)) orders Tryd.func81 (by kernel_rfl) (by kernel_rfl) rfl (by kernel_rfl) (fR fun x0 x1 h => dM.eq G k _ x0 x1 h)
theorem cZ.here : HrP Tryd.prog 65 := ⟨_, Tryd.func65, by kernel_rfl, by kernel_rfl⟩
theorem cZ.eq (G : aE) (k : Nat) (self : cY) (x0 x1 : AV) (h : aB) : fH Tryd.prog G (fV (cZ.env G k self)) cZ.ann Tryd.f65.results.toList (dO Tryd.f65) Tryd.f65.ntmps k [x0, x1] h = cZ.c G k self x0 x1 h := by kernel_rfl
theorem cZ.sound {G : aE} (hG : ∀ g x, G g = some x → bT x = true) : ∀ k, Sound Tryd.prog G 65 (cZ.f G k)
 | 0 => cA cZ.here (fun _ _ => rfl)
 | k + 1 => cB (l := cZ.env G k (cZ.f G k)) (ann := cZ.ann) (n := k) (bK hG (cG (eA.sound hG k) (cG (eH.sound hG k) (cG (dP.sound hG k) (cG (eG.sound hG k) (cG (eF.sound hG k) (cG (eD.sound hG k) (cG (dM.sound hG k) (cG (eP.sound hG k) eO))))))))) orders Tryd.func65 (by kernel_rfl) (by kernel_rfl) rfl (by kernel_rfl) (fR fun x0 x1 h => cZ.eq G k _ x0 x1 h)
theorem aM.here : HrP Tryd.prog 31 := ⟨_, Tryd.func31, by kernel_rfl, by kernel_rfl⟩
theorem aM.eq (G : aE) (k : Nat) (self : cY) (x0 x1 : AV) (h : aB) : fH Tryd.prog G (fV (aM.env G k self)) aM.ann Tryd.f31.results.toList (dO Tryd.f31) Tryd.f31.ntmps k [x0, x1] h = aM.c G k self x0 x1 h := by kernel_rfl
theorem aM.sound {G : aE} (hG : ∀ g x, G g = some x → bT x = true) : ∀ k, Sound Tryd.prog G 31 (aM.f G k)
 | 0 => cA aM.here (fun _ _ => rfl)
 | k + 1 => cB (l := aM.env G k (aM.f G k)) (ann := aM.ann) (n := k) (bK hG (cG (bV.sound hG k) (cG (cP.sound hG k) (cG (aJ.sound hG k) (cG (cZ.sound hG k) eO))))) orders Tryd.func31 (by kernel_rfl) (by kernel_rfl) rfl (by kernel_rfl) (fR fun x0 x1 h => aM.eq G k _ x0 x1 h)
theorem alembiclaw18_BoundSound.here : HrP Tryd.prog 10 := ⟨_, Tryd.func10, by kernel_rfl, by kernel_rfl⟩
theorem alembiclaw18_BoundSound.eq (G : aE) (k : Nat) (self : cY) (x0 x1 x2 : AV) (h : aB) : fH Tryd.prog G (fV (alembiclaw18_BoundSound.env G k self)) alembiclaw18_BoundSound.ann Tryd.f10.results.toList (dO Tryd.f10) Tryd.f10.ntmps k [x0, x1, x2] h = alembiclaw18_BoundSound.c G k self x0 x1 x2 h := by kernel_rfl
theorem alembiclaw18_BoundSound.sound {G : aE} (hG : ∀ g x, G g = some x → bT x = true) : ∀ k, Sound Tryd.prog G 10 (alembiclaw18_BoundSound.f G k)
 | 0 => cA alembiclaw18_BoundSound.here (fun _ _ => rfl)
 | k + 1 => cB (l := alembiclaw18_BoundSound.env G k (alembiclaw18_BoundSound.f G k)) (ann := alembiclaw18_BoundSound.ann) (n := k) (bK hG (cG (bB.sound hG k) (cG (bQ.sound hG k) (cG (cJ.sound hG k) (cG (aM.sound hG k) eO))))) orders Tryd.func10 (by kernel_rfl) (by kernel_rfl) rfl (by kernel_rfl) (pX fun x0 x1 x2 h => alembiclaw18_BoundSound.eq G k _ x0 x1 x2 h)
end Go.Proofs.YtcmblhedhgiofaaDoor.Mir
