/- Part 6 of the proof: the functions that the statement reaches, and their contracts. -/
import Derived.Test.YtlkgkfgkiidhdaaDoorVn5
import Derived.Test.YtlkgkfgkiidhdaaDoorProg
import Derived.KernelRfl
namespace Go.Proofs.YtlkgkfgkiidhdaaDoor.Mir
open Go
set_option linter.unusedVariables false
theorem orders : Tryd.prog.follows .mixedOrders = true := by kernel_rfl
theorem eD.here : HrP Tryd.prog 86 := ⟨_, Tryd.func86, by kernel_rfl, by kernel_rfl⟩
theorem eD.eq (G : aE) (k : Nat) (self : cQ) (x0 : AV) (h : aA) : fS Tryd.prog G (fU (eD.env G k self)) eD.ann Tryd.f86.results.toList (dU Tryd.f86) Tryd.f86.ntmps k [x0] h = eD.c G k self x0 h := by kernel_rfl
theorem eD.sound {G : aE} (hG : ∀ g x, G g = some x → bJ x = true) : ∀ k, Sound Tryd.prog G 86 (eD.f G k)
 | 0 => cB eD.here (fun _ _ => rfl)
 | k + 1 => cI (l := eD.env G k (eD.f G k)) (ann := eD.ann) (n := k) (bK hG eG) orders Tryd.func86 (by kernel_rfl) (by kernel_rfl) rfl (by kernel_rfl) (gX fun x0 h => eD.eq G k _ x0 h)
theorem dO.here : HrP Tryd.prog 51 := ⟨_, Tryd.func51, by kernel_rfl, by kernel_rfl⟩
theorem dO.eq (G : aE) (k : Nat) (self : cQ) (x0 : AV) (h : aA) : fS Tryd.prog G (fU (dO.env G k self)) dO.ann Tryd.f51.results.toList (dU Tryd.f51) Tryd.f51.ntmps k [x0] h = dO.c G k self x0 h := by kernel_rfl
theorem dO.sound {G : aE} (hG : ∀ g x, G g = some x → bJ x = true) : ∀ k, Sound Tryd.prog G 51 (dO.f G k)
 | 0 => cB dO.here (fun _ _ => rfl)
 | k + 1 => cI (l := dO.env G k (dO.f G k)) (ann := dO.ann) (n := k) (bK hG (dA (eD.sound hG k) eG)) orders Tryd.func51 (by kernel_rfl) (by kernel_rfl) rfl (by kernel_rfl) (gX fun x0 h => dO.eq G k _ x0 h)
theorem fG.here : HrP Tryd.prog 95 := ⟨_, Tryd.func95, by kernel_rfl, by kernel_rfl⟩
theorem fG.eq (G : aE) (k : Nat) (self : cQ) (x0 x1 : AV) (h : aA) : fS Tryd.prog G (fU (fG.env G k self)) fG.ann Tryd.f95.results.toList (dU Tryd.f95) Tryd.f95.ntmps k [x0, x1] h = fG.c G k self x0 x1 h := by kernel_rfl
theorem fG.sound {G : aE} (hG : ∀ g x, G g = some x → bJ x = true) : ∀ k, Sound Tryd.prog G 95 (fG.f G k)
 | 0 => cB fG.here (fun _ _ => rfl)
 | k + 1 => cI (l := fG.env G k (fG.f G k)) (ann := fG.ann) (n := k) (bK hG eG) orders Tryd.func95 (by kernel_rfl) (by kernel_rfl) rfl (by kernel_rfl) (gR fun x0 x1 h => fG.eq G k _ x0 x1 h)
theorem cK.here : HrP Tryd.prog 72 := ⟨_, Tryd.func72, by kernel_rfl, by kernel_rfl⟩
theorem cK.eq (G : aE) (k : Nat) (self : cQ) (x0 x1 : AV) (h : aA) : fS Tryd.prog G (fU (cK.env G k self)) cK.ann Tryd.f72.results.toList (dU Tryd.f72) Tryd.f72.ntmps k [x0, x1] h = cK.c G k self x0 x1 h := by kernel_rfl
theorem cK.sound {G : aE} (hG : ∀ g x, G g = some x → bJ x = true) : ∀ k, Sound Tryd.prog G 72 (cK.f G k)
 | 0 => cB cK.here (fun _ _ => rfl)
 | k + 1 => cI (l := cK.env G k (cK.f G k)) (ann := cK.ann) (n := k) (bK hG (dA (dO.sound hG k) (dA (fG.sound hG k) eG))) orders Tryd.func72 (by kernel_rfl) (by kernel_rfl) rfl (by kernel_rfl) (gR fun x0 x1 h => cK.eq G k _ x0 x1 h)
theorem cG.here : HrP Tryd.prog 43 := ⟨_, Tryd.func43, by kernel_rfl, by kernel_rfl⟩
theorem cG.eq (G : aE) (k : Nat) (self : cQ) (x0 : AV) (h : aA) : fS Tryd.prog G (fU (cG.env G k self)) cG.ann Tryd.f43.results.toList (dU Tryd.f43) Tryd.f43.ntmps k [x0] h = cG.c G k self x0 h := by kernel_rfl
theorem cG.sound {G : aE} (hG : ∀ g x, G g = some x → bJ x = true) : ∀ k, Sound Tryd.prog G 43 (cG.f G k)
 | 0 => cB cG.here (fun _ _ => rfl)
 | k + 1 => cI (l := cG.env G k (cG.f G k)) (ann := cG.ann) (n := k) (bK hG (dA (cK.sound hG k) eG)) orders Tryd.func43 (by kernel_rfl) (by kernel_rfl) rfl (by kernel_rfl) (gX fun x0 h => cG.eq G k _ x0 h)
theorem dD.here : HrP Tryd.prog 20 := ⟨_, Tryd.func20, by kernel_rfl, by kernel_rfl⟩
theorem dD.eq (G : aE) (k : Nat) (self : cQ) (x0 : AV) (h : aA) : fS Tryd.prog G (fU (dD.env G k self)) dD.ann Tryd.f20.results.toList (dU Tryd.f20) Tryd.f20.ntmps k [x0] h = dD.c G k self x0 h := by kernel_rfl
theorem dD.sound {G : aE} (hG : ∀ g x, G g = some x → bJ x = true) : ∀ k, Sound Tryd.prog G 20 (dD.f G k)
 | 0 => cB dD.here (fun _ _ => rfl)
 | k + 1 => cI (l := dD.env G k (dD.f G k)) (ann := dD.ann) (n := k) (bK hG (dA (dO.sound hG k) eG)) orders Tryd.func20 (by kernel_rfl) (by kernel_rfl) rfl (by kernel_rfl) (gX fun x0 h => dD.eq G k _ x0 h)
theorem bL.here : HrP Tryd.prog 120 := ⟨_, Tryd.func120, by kernel_rfl, by kernel_rfl⟩
theorem bL.eq (G : aE) (k : Nat) (self : cQ) (x0 : AV) (h : aA) : fS Tryd.prog G (fU (bL.env G k self)) bL.ann Tryd.f120.results.toList (dU Tryd.f120) Tryd.f120.ntmps k [x0] h = bL.c G k self x0 h := by kernel_rfl
theorem bL.sound {G : aE} (hG : ∀ g x, G g = some x → bJ x = true) : ∀ k, Sound Tryd.prog G 120 (bL.f G k)
 | 0 => cB bL.here (fun _ _ => rfl)
 | k + 1 => cI (l := bL.env G k (bL.f G k)) (ann := bL.ann) (n := k) (bK hG eG) orders Tryd.func120 (by kernel_rfl) (by kernel_rfl) rfl (by kernel_rfl) (gX fun x0 h => bL.eq G k _ x0 h)
theorem bS.here : HrP Tryd.prog 103 := ⟨_, Tryd.func103, by kernel_rfl, by kernel_rfl⟩
theorem bS.eq (G : aE) (k : Nat) (self : cQ) (x0 x1 : AV) (h : aA) : fS Tryd.prog G (fU (bS.env G k self)) bS.ann Tryd.f103.results.toList (dU Tryd.f103) Tryd.f103.ntmps k [x0, x1] h = bS.c G k self x0 x1 h := by kernel_rfl
theorem bS.sound {G : aE} (hG : ∀ g x, G g = some x → bJ x = true) : ∀ k, Sound Tryd.prog G 103 (bS.f G k)
 | 0 => cB bS.here (fun _ _ => rfl)
 | k + 1 => cI (l := bS.env G k (bS.f G k)) (ann := bS.ann) (n := k) (bK hG (dA (bL.sound hG k) eG)) orders Tryd.func103 (by kernel_rfl) (by kernel_rfl) rfl (by kernel_rfl) (gR fun x0 x1 h => bS.eq G k _ x0 x1 h)
theorem aD.here : HrP Tryd.prog 97 := ⟨_, Tryd.func97, by kernel_rfl, by kernel_rfl⟩
theorem aD.eq (G : aE) (k : Nat) (self : cQ) (x0 x1 x2 : AV) (h : aA) : fS Tryd.prog G (fU (aD.env G k self)) aD.ann Tryd.f97.results.toList (dU Tryd.f97) Tryd.f97.ntmps k [x0, x1, x2] h = aD.c G k self x0 x1 x2 h := by kernel_rfl
theorem aD.sound {G : aE} (hG : ∀ g x, G g = some x → bJ x = true) : ∀ k, Sound Tryd.prog G 97 (aD.f G k)
 | 0 => cB aD.here (fun _ _ => rfl)
 | k + 1 => cI (l := aD.env G k (aD.f G k)) (ann := aD.ann) (n := k) (bK hG (dA (bS.sound hG k) eG)) orders Tryd.func97 (by kernel_rfl) (by kernel_rfl) rfl (by kernel_rfl) (qE fun x0 x1 x2 h => aD.eq G k _ x0 x1 x2 h)
theorem aK.here : HrP Tryd.prog 87 := ⟨_, Tryd.func87, by kernel_rfl, by kernel_rfl⟩
theorem aK.eq (G : aE) (k : Nat) (self : cQ) (x0 x1 x2 x3 : AV) (h : aA) : fS Tryd.prog G (fU (aK.env G k self)) aK.ann Tryd.f87.results.toList (dU Tryd.f87) Tryd.f87.ntmps k [x0, x1, x2, x3] h = aK.c G k self x0 x1 x2 x3 h := by kernel_rfl
theorem aK.sound {G : aE} (hG : ∀ g x, G g = some x → bJ x = true) : ∀ k, Sound Tryd.prog G 87 (aK.f G k)
 | 0 => cB aK.here (fun _ _ => rfl)
 | k + 1 => cI (l := aK.env G k (aK.f G k)) (ann := aK.ann) (n := k) (bK hG (dA (aK.sound hG k) (dA (aD.sound hG k) (dA (bS.sound hG k) eG)))) orders Tryd.func87 (by kernel_rfl) (by kernel_rfl) rfl (by kernel_rfl) (aAv fun x0 x1 x2 x3 h => aK.eq G k _ x0 x1 x2 x3 h)
theorem dB.here : HrP Tryd.prog 106 := ⟨_, Tryd.func106, by kernel_rfl, by kernel_rfl⟩
theorem dB.eq (G : aE) (k : Nat) (self : cQ) (x0 : AV) (h : aA) : fS Tryd.prog G (fU (dB.env G k self)) dB.ann Tryd.f106.results.toList (dU Tryd.f106) Tryd.f106.ntmps k [x0] h = dB.c G k self x0 h := by kernel_rfl
theorem dB.sound {G : aE} (hG : ∀ g x, G g = some x → bJ x = true) : ∀ k, Sound Tryd.prog G 106 (dB.f G k)
 | 0 => cB dB.here (fun _ _ => rfl)
 | k + 1 => cI (l := dB.env G k (dB.f G k)) (ann := dB.ann) (n := k) (bK hG eG) orders Tryd.func106 (by kernel_rfl) (by kernel_rfl) rfl (by kernel_rfl) (gX fun x0 h => dB.eq G k _ x0 h)
theorem dC.here : HrP Tryd.prog 107 := ⟨_, Tryd.func107, by kernel_rfl, by kernel_rfl⟩
theorem dC.eq (G : aE) (k : Nat) (self : cQ) (x0 : AV) (h : aA) : fS Tryd.prog G (fU (dC.env G k self)) dC.ann Tryd.f107.results.toList (dU Tryd.f107) Tryd.f107.ntmps k [x0] h = dC.c G k self x0 h := by kernel_rfl
theorem dC.sound {G : aE} (hG : ∀ g x, G g = some x → bJ x = true) : ∀ k, Sound Tryd.prog G 107 (dC.f G k)
 | 0 => cB dC.here (fun _ _ => rfl)
 | k + 1 => cI (l := dC.env G k (dC.f G k)) (ann := dC.ann) (n := k) (bK hG eG) orders Tryd.func107 (by kernel_rfl) (by kernel_rfl) rfl (by kernel_rfl) (gX fun x0 h => dC.eq G k _ x0 h)
theorem cY.here : HrP Tryd.prog 88 := ⟨_, Tryd.func88, by kernel_rfl, by kernel_rfl⟩
theorem cY.eq (G : aE) (k : Nat) (self : cQ) (x0 : AV) (h : aA) : fS Tryd.prog G (fU (cY.env G k self)) cY.ann Tryd.f88.results.toList (dU Tryd.f88) Tryd.f88.ntmps k [x0] h = cY.c G k self x0 h := by kernel_rfl
theorem cY.sound {G : aE} (hG : ∀ g x, G g = some x → bJ x = true) : ∀ k, Sound Tryd.prog G 88 (cY.f G k)
 | 0 => cB cY.here (fun _ _ => rfl)
 | k + 1 => cI (l := cY.env G k (cY.f G k)) (ann := cY.ann) (n := k) (bK hG (dA (dB.sound hG k) (dA (dC.sound hG k) eG))) orders Tryd.func88 (by kernel_rfl) (by kernel_rfl) rfl (by kernel_rfl) (gX fun x0 h => cY.eq G k _ x0 h)
theorem aS.here : HrP Tryd.prog 53 := ⟨_, Tryd.func53, by kernel_rfl, by kernel_rfl⟩
theorem aS.eq (G : aE) (k : Nat) (self : cQ) (x0 : AV) (h : aA) : fS Tryd.prog G (fU (aS.env G k self)) aS.ann Tryd.f53.results.toList (dU Tryd.f53) Tryd.f53.ntmps k [x0] h = aS.c G k self x0 h := by kernel_rfl
theorem aS.sound {G : aE} (hG : ∀ g x, G g = some x → bJ x = true) : ∀ k, Sound Tryd.prog G 53 (aS.f G k)
 | 0 => cB aS.here (fun _ _ => rfl)
 | k + 1 => cI (l := aS.env G k (aS.f G k)) (ann := aS.ann) (n := k) (bK hG (dA (aK.sound hG k) (dA (cY.sound hG k) eG))) orders Tryd.func53 (by kernel_rfl) (by kernel_rfl) rfl (by kernel_rfl) (gX fun x0 h => aS.eq G k _ x0 h)
theorem aC.here : HrP Tryd.prog 54 := ⟨_, Tryd.func54, by kernel_rfl, by kernel_rfl⟩
theorem aC.eq (G : aE) (k : Nat) (self : cQ) (x0 : AV) (h : aA) : fS Tryd.prog G (fU (aC.env G k self)) aC.ann Tryd.f54.results.toList (dU Tryd.f54) Tryd.f54.ntmps k [x0] h = aC.c G k self x0 h := by kernel_rfl
theorem aC.sound {G : aE} (hG : ∀ g x, G g = some x → bJ x = true) : ∀ k, Sound Tryd.prog G 54 (aC.f G k)
 | 0 => cB aC.here (fun _ _ => rfl)
 | k + 1 => cI (l := aC.env G k (aC.f G k)) (ann := aC.ann) (n := k) (bK hG eG) orders Tryd.func54 (by kernel_rfl) (by kernel_rfl) rfl (by kernel_rfl) (gX fun x0 h => aC.eq G k _ x0 h)
theorem bT.here : HrP Tryd.prog 23 := ⟨_, Tryd.func23, by kernel_rfl, by kernel_rfl⟩
theorem bT.eq (G : aE) (k : Nat) (self : cQ) (x0 : AV) (h : aA) : fS Tryd.prog G (fU (bT.env G k self)) bT.ann Tryd.f23.results.toList (dU Tryd.f23) Tryd.f23.ntmps k [x0] h = bT.c G k self x0 h := by kernel_rfl
theorem bT.sound {G : aE} (hG : ∀ g x, G g = some x → bJ x = true) : ∀ k, Sound Tryd.prog G 23 (bT.f G k)
 | 0 => cB bT.here (fun _ _ => rfl)
 | k + 1 => cI (l := bT.env G k (bT.f G k)) (ann := bT.ann) (n := k) (bK hG (dA (dO.sound hG k) (dA (aS.sound hG k) (dA (aC.sound hG k) eG)))) orders Tryd.func23 (by kernel_rfl) (by kernel_rfl) rfl (by kernel_rfl) (gX fun x0 h => bT.eq G k _ x0 h)
theorem dG.here : HrP Tryd.prog 69 := ⟨_, Tryd.func69, by kernel_rfl, by kernel_rfl⟩
theorem dG.eq (G : aE) (k : Nat) (self : cQ) (x0 x1 x2 : AV) (h : aA) : fS Tryd.prog G (fU (dG.env G k self)) dG.ann Tryd.f69.results.toList (dU Tryd.f69) Tryd.f69.ntmps k [x0, x1, x2] h = dG.c G k self x0 x1 x2 h := by kernel_rfl
theorem dG.sound {G : aE} (hG : ∀ g x, G g = some x → bJ x = true) : ∀ k, Sound Tryd.prog G 69 (dG.f G k)
 | 0 => cB dG.here (fun _ _ => rfl)
 | k + 1 => cI (l := dG.env G k (dG.f G k)) (ann := dG.ann) (n := k) (bK hG eG) orders Tryd.func69 (by kernel_rfl) (by kernel_rfl) rfl (by kernel_rfl) (qE fun x0 x1 x2 h => dG.eq G k _ x0 x1 x2 h)
theorem aN.here : HrP Tryd.prog 92 := ⟨_, Tryd.func92, by kernel_rfl, by kernel_rfl⟩
theorem aN.eq (G : aE) (k : Nat) (self : cQ) (x0 : AV) (h : aA) : wN Tryd.prog G (fU (aN.env G k self)) aN.ann Tryd.f92.results.toList (dU Tryd.f92) Tryd.f92.ntmps k [x0] h = aN.c G k self x0 h := by kernel_rfl
theorem aN.sound {G : aE} (hG : ∀ g x, G g = some x → bJ x = true) : ∀ k, Sound Tryd.prog G 92 (aN.f G k)
 | 0 => cB aN.here (fun _ _ => rfl)
 | k + 1 => vP (l := aN.env G k (aN.f G k)) (ann := aN.ann) (n := k) (bK hG eG) orders Tryd.func92 (by kernel_rfl) (by kernel_rfl) rfl (by kernel_rfl) (gX fun x0 h => aN.eq G k _ x0 h)
theorem bM.here : HrP Tryd.prog 93 := ⟨_, Tryd.func93, by kernel_rfl, by kernel_rfl⟩
theorem bM.eq (G : aE) (k : Nat) (self : cQ) (x0 x1 x2 : AV) (h : aA) : fS Tryd.prog G (fU (bM.env G k self)) bM.ann Tryd.f93.results.toList (dU Tryd.f93) Tryd.f93.ntmps k [x0, x1, x2] h = bM.c G k self x0 x1 x2 h := by kernel_rfl
theorem bM.sound {G : aE} (hG : ∀ g x, G g = some x → bJ x = true) : ∀ k, Sound Tryd.prog G 93 (bM.f G k)
 | 0 => cB bM.here (fun _ _ => rfl)
 | k + 1 => cI (l := bM.env G k (bM.f G k)) (ann := bM.ann) (n := k) (bK hG eG) orders Tryd.func93 (by kernel_rfl) (by kernel_rfl) rfl (by kernel_rfl) (qE fun x0 x1 x2 h => bM.eq G k _ x0 x1 x2 h)
theorem cD.here : HrP Tryd.prog 110 := ⟨_, Tryd.func110, by kernel_rfl, by kernel_rfl⟩
theorem cD.eq (G : aE) (k : Nat) (self : cQ) (x0 x1 : AV) (h : aA) : fS Tryd.prog G (fU (cD.env G k self)) cD.ann Tryd.f110.results.toList (dU Tryd.f110) Tryd.f110.ntmps k [x0, x1] h = cD.c G k self x0 x1 h := by kernel_rfl
theorem cD.sound {G : aE} (hG : ∀ g x, G g = some x → bJ x = true) : ∀ k, Sound Tryd.prog G 110 (cD.f G k)
 | 0 => cB cD.here (fun _ _ => rfl)
 | k + 1 => cI (l := cD.env G k (cD.f G k)) (ann := cD.ann) (n := k) (bK hG (dA (bM.sound hG k) eG)) orders Tryd.func110 (by kernel_rfl) (by kernel_rfl) rfl (by kernel_rfl) (gR fun x0 x1 h => cD.eq G k _ x0 x1 h)
theorem eF.here : HrP Tryd.prog 121 := ⟨_, Tryd.func121, by kernel_rfl, by kernel_rfl⟩
theorem eF.eq (G : aE) (k : Nat) (self : cQ) (x0 : AV) (h : aA) : fS Tryd.prog G (fU (eF.env G k self)) eF.ann Tryd.f121.results.toList (dU Tryd.f121) Tryd.f121.ntmps k [x0] h = eF.c G k self x0 h := by kernel_rfl
theorem eF.sound {G : aE} (hG : ∀ g x, G g = some x → bJ x = true) : ∀ k, Sound Tryd.prog G 121 (eF.f G k)
 | 0 => cB eF.here (fun _ _ => rfl)
 | k + 1 => cI (l := eF.env G k (eF.f G k)) (ann := eF.ann) (n := k) (bK hG eG) orders Tryd.func121 (by kernel_rfl) (by kernel_rfl) rfl (by kernel_rfl) (gX fun x0 h => eF.eq G k _ x0 h)
theorem bP.here : HrP Tryd.prog 111 := ⟨_, Tryd.func111, by kernel_rfl, by kernel_rfl⟩
theorem bP.eq (G : aE) (k : Nat) (self : cQ) (x0 x1 : AV) (h : aA) : fS Tryd.prog G (fU (bP.env G k self)) bP.ann Tryd.f111.results.toList (dU Tryd.f111) Tryd.f111.ntmps k [x0, x1] h = bP.c G k self x0 x1 h := by kernel_rfl
theorem bP.sound {G : aE} (hG : ∀ g x, G g = some x → bJ x = true) : ∀ k, Sound Tryd.prog G 111 (bP.f G k)
 | 0 => cB bP.here (fun _ _ => rfl)
 | k + 1 => cI (l := bP.env G k (bP.f G k)) (ann := bP.ann) (n := k) (bK hG (dA (bM.sound hG k) (dA (eF.sound hG k) eG))) orders Tryd.func111 (by kernel_rfl) (by kernel_rfl) rfl (by kernel_rfl) (gR fun x0 x1 h => bP.eq G k _ x0 x1 h)
theorem bW.here : HrP Tryd.prog 85 := ⟨_, Tryd.func85, by kernel_rfl, by kernel_rfl⟩
theorem bW.eq (G : aE) (k : Nat) (self : cQ) (x0 x1 : AV) (h : aA) : fS Tryd.prog G (fU (bW.env G k self)) bW.ann Tryd.f85.results.toList (dU Tryd.f85) Tryd.f85.ntmps k [x0, x1] h = bW.c G k self x0 x1 h := by kernel_rfl
theorem bW.sound {G : aE} (hG : ∀ g x, G g = some x → bJ x = true) : ∀ k, Sound Tryd.prog G 85 (bW.f G k)
 | 0 => cB bW.here (fun _ _ => rfl)
 | k + 1 => cI (l := bW.env G k (bW.f G k)) (ann := bW.ann) (n := k) (bK hG eG) orders Tryd.func85 (by kernel_rfl) (by kernel_rfl) rfl (by kernel_rfl) (gR fun x0 x1 h => bW.eq G k _ x0 x1 h)
theorem cT.here : HrP Tryd.prog 122 := ⟨_, Tryd.func122, by kernel_rfl, by kernel_rfl⟩
theorem cT.eq (G : aE) (k : Nat) (self : cQ) (x0 x1 : AV) (h : aA) : fS Tryd.prog G (fU (cT.env G k self)) cT.ann Tryd.f122.results.toList (dU Tryd.f122) Tryd.f122.ntmps k [x0, x1] h = cT.c G k self x0 x1 h := by kernel_rfl
theorem cT.sound {G : aE} (hG : ∀ g x, G g = some x → bJ x = true) : ∀ k, Sound Tryd.prog G 122 (cT.f G k)
 | 0 => cB cT.here (fun _ _ => rfl)
 | k + 1 => cI (l := cT.env G k (cT.f G k)) (ann := cT.ann) (n := k) (bK hG eG) orders Tryd.func122 (by kernel_rfl) (by kernel_rfl) rfl (by kernel_rfl) (gR fun x0 x1 h => cT.eq G k _ x0 x1 h)
theorem dH.here : HrP Tryd.prog 112 := ⟨_, Tryd.func112, by kernel_rfl, by kernel_rfl⟩
theorem dH.eq (G : aE) (k : Nat) (self : cQ) (x0 x1 x2 x3 : AV) (h : aA) : fS Tryd.prog G (fU (dH.env G k self)) dH.ann Tryd.f112.results.toList (dU Tryd.f112) Tryd.f112.ntmps k [x0, x1, x2, x3] h = dH.c G k self x0 x1 x2 x3 h := by kernel_rfl
theorem dH.sound {G : aE} (hG : ∀ g x, G g = some x → bJ x = true) : ∀ k, Sound Tryd.prog G 112 (dH.f G k)
 | 0 => cB dH.here (fun _ _ => rfl)
 | k + 1 => cI (l := dH.env G k (dH.f G k)) (ann := dH.ann) (n := k) (bK hG (dA (bW.sound hG k) (dA (eF.sound hG k) (dA (cT.sound hG k) eG)))) orders Tryd.func112 (by kernel_rfl) (by kernel_rfl) rfl (by kernel_rfl) (aAv fun x0 x1 x2 x3 h => dH.eq G k _ x0 x1 x2 x3 h)
theorem cN.here : HrP Tryd.prog 94 := ⟨_, Tryd.func94, by kernel_rfl, by kernel_rfl⟩
theorem cN.eq (G : aE) (k : Nat) (self : cQ) (x0 x1 : AV) (h : aA) : fS Tryd.prog G (fU (cN.env G k self)) cN.ann Tryd.f94.results.toList (dU Tryd.f94) Tryd.f94.ntmps k [x0, x1] h = cN.c G k self x0 x1 h := by kernel_rfl
theorem cN.sound {G : aE} (hG : ∀ g x, G g = some x → bJ x = true) : ∀ k, Sound Tryd.prog G 94 (cN.f G k)
 | 0 => cB cN.here (fun _ _ => rfl)
 | k + 1 => cI (l := cN.env G k (cN.f G k)) (ann := cN.ann) (n := k) (bK hG (dA (cD.sound hG k) (dA (bP.sound hG k) (dA (dH.sound hG k) eG)))) orders Tryd.func94 (by kernel_rfl) (by kernel_rfl) rfl (by kernel_rfl) (gR fun x0 x1 h => cN.eq G k _ x0 x1 h)
theorem cU.here : HrP Tryd.prog 70 := ⟨_, Tryd.func70, by kernel_rfl, by kernel_rfl⟩
theorem cU.eq (G : aE) (k : Nat) (self : cQ) (x0 x1 x2 x3 : AV) (h : aA) : fS Tryd.prog G (fU (cU.env G k self)) cU.ann Tryd.f70.results.toList (dU Tryd.f70) Tryd.f70.ntmps k [x0, x1, x2, x3] h = cU.c G k self x0 x1 x2 x3 h := by kernel_rfl
theorem cU.sound {G : aE} (hG : ∀ g x, G g = some x → bJ x = true) : ∀ k, Sound Tryd.prog G 70 (cU.f G k)
 | 0 => cB cU.here (fun _ _ => rfl)
 | k + 1 => cI (l := cU.env G k (cU.f G k)) (ann := cU.ann) (n := k) (bK hG (dA (aN.sound hG k) (dA (bM.sound hG k) (dA (cN.sound hG k) eG)))) orders Tryd.func70 (by kernel_rfl) (by kernel_rfl) rfl (by kernel_rfl) (aAv fun x0 x1 x2 x3 h => cU.eq G k _ x0 x1 x2 x3 h)
theorem dN.here : HrP Tryd.prog 39 := ⟨_, Tryd.func39, by kernel_rfl, by kernel_rfl⟩
theorem dN.eq (G : aE) (k : Nat) (self : cQ) (x0 x1 x2 : AV) (h : aA) : fS Tryd.prog G (fU (dN.env G k self)) dN.ann Tryd.f39.results.toList (dU Tryd.f39) Tryd.f39.ntmps k [x0, x1, x2] h = dN.c G k self x0 x1 x2 h := by kernel_rfl
theorem dN.sound {G : aE} (hG : ∀ g x, G g = some x → bJ x = true) : ∀ k, Sound Tryd.prog G 39 (dN.f G k)
 | 0 => cB dN.here (fun _ _ => rfl)
 | k + 1 => cI (l := dN.env G k (dN.f G k)) (ann := dN.ann) (n := k) (bK hG (dA (cG.sound hG k) (dA (dG.sound hG k) (dA (cU.sound hG k) eG)))) orders Tryd.func39 (by kernel_rfl) (by kernel_rfl) rfl (by kernel_rfl) (qE fun x0 x1 x2 h => dN.eq G k _ x0 x1 x2 h)
theorem aQ.here : HrP Tryd.prog 17 := ⟨_, Tryd.func17, by kernel_rfl, by kernel_rfl⟩
theorem aQ.eq (G : aE) (k : Nat) (self : cQ) (x0 x1 : AV) (h : aA) : fS Tryd.prog G (fU (aQ.env G k self)) aQ.ann Tryd.f17.results.toList (dU Tryd.f17) Tryd.f17.ntmps k [x0, x1] h = aQ.c G k self x0 x1 h := by kernel_rfl
theorem aQ.sound {G : aE} (hG : ∀ g x, G g = some x → bJ x = true) : ∀ k, Sound Tryd.prog G 17 (aQ.f G k)
 | 0 => cB aQ.here (fun _ _ => rfl)
 | k + 1 => cI (l := aQ.env G k (aQ.f G k)) (ann := aQ.ann) (n := k) (bK hG eG) orders Tryd.func17 (by kernel_rfl) (by kernel_rfl) rfl (by kernel_rfl) (gR fun x0 x1 h => aQ.eq G k _ x0 x1 h)
theorem bC.here : HrP Tryd.prog 71 := ⟨_, Tryd.func71, by kernel_rfl, by kernel_rfl⟩
theorem bC.eq (G : aE) (k : Nat) (self : cQ) (x0 x1 : AV) (h : aA) : fS Tryd.prog G (fU (bC.env G k self)) bC.ann Tryd.f71.results.toList (dU Tryd.f71) Tryd.f71.ntmps k [x0, x1] h = bC.c G k self x0 x1 h := by kernel_rfl
theorem bC.sound {G : aE} (hG : ∀ g x, G g = some x → bJ x = true) : ∀ k, Sound Tryd.prog G 71 (bC.f G k)
 | 0 => cB bC.here (fun _ _ => rfl)
 | k + 1 => cI (l := bC.env G k (bC.f G k)) (ann := bC.ann) (n := k) (bK hG eG) orders Tryd.func71 (by kernel_rfl) (by kernel_rfl) rfl (by kernel_rfl) (gR fun x0 x1 h => bC.eq G k _ x0 x1 h)
theorem aP.here : HrP Tryd.prog 40 := ⟨_, Tryd.func40, by kernel_rfl, by kernel_rfl⟩
theorem aP.eq (G : aE) (k : Nat) (self : cQ) (x0 x1 : AV) (h : aA) : fS Tryd.prog G (fU (aP.env G k self)) aP.ann Tryd.f40.results.toList (dU Tryd.f40) Tryd.f40.ntmps k [x0, x1] h = aP.c G k self x0 x1 h := by kernel_rfl
theorem aP.sound {G : aE} (hG : ∀ g x, G g = some x → bJ x = true) : ∀ k, Sound Tryd.prog G 40 (aP.f G k)
 | 0 => cB aP.here (fun _ _ => rfl)
 | k + 1 => cI (l := aP.env G k (aP.f G k)) (ann := aP.ann) (n := k) (bK hG (dA (bC.sound hG k) eG)) orders Tryd.func40 (by kernel_rfl) (by kernel_rfl) rfl (by kernel_rfl) (gR fun x0 x1 h => aP.eq G k _ x0 x1 h)
theorem bQ.here : HrP Tryd.prog 22 := ⟨_, Tryd.func22, by kernel_rfl, by kernel_rfl⟩
theorem bQ.eq (G : aE) (k : Nat) (self : cQ) (x0 x1 : AV) (h : aA) : fS Tryd.prog G (fU (bQ.env G k self)) bQ.ann Tryd.f22.results.toList (dU Tryd.f22) Tryd.f22.ntmps k [x0, x1] h = bQ.c G k self x0 x1 h := by kernel_rfl
theorem bQ.sound {G : aE} (hG : ∀ g x, G g = some x → bJ x = true) : ∀ k, Sound Tryd.prog G 22 (bQ.f G k)
 | 0 => cB bQ.here (fun _ _ => rfl)
 | k + 1 => cI (l := bQ.env G k (bQ.f G k)) (ann := bQ.ann) (n := k) (bK hG eG) orders Tryd.func22 (by kernel_rfl) (by kernel_rfl) rfl (by kernel_rfl) (gR fun x0 x1 h => bQ.eq G k _ x0 x1 h)
theorem bZ.here : HrP Tryd.prog 25 := ⟨_, Tryd.func25, by kernel_rfl, by kernel_rfl⟩
theorem bZ.eq (G : aE) (k : Nat) (self : cQ) (x0 x1 : AV) (h : aA) : fS Tryd.prog G (fU (bZ.env G k self)) bZ.ann Tryd.f25.results.toList (dU Tryd.f25) Tryd.f25.ntmps k [x0, x1] h = bZ.c G k self x0 x1 h := by kernel_rfl
theorem bZ.sound {G : aE} (hG : ∀ g x, G g = some x → bJ x = true) : ∀ k, Sound Tryd.prog G 25 (bZ.f G k)
 | 0 => cB bZ.here (fun _ _ => rfl)
 | k + 1 => cI (l := bZ.env G k (bZ.f G k)) (ann := bZ.ann) (n := k) (bK hG (dA (aS.sound hG k) (dA (aC.sound hG k) eG))) orders Tryd.func25 (by kernel_rfl) (by kernel_rfl) rfl (by kernel_rfl) (gR fun x0 x1 h => bZ.eq G k _ x0 x1 h)
theorem dL.here : HrP Tryd.prog 59 := ⟨_, Tryd.func59, by kernel_rfl, by kernel_rfl⟩
theorem dL.eq (G : aE) (k : Nat) (self : cQ) (x0 x1 x2 : AV) (h : aA) : fS Tryd.prog G (fU (dL.env G k self)) dL.ann Tryd.f59.results.toList (dU Tryd.f59) Tryd.f59.ntmps k [x0, x1, x2] h = dL.c G k self x0 x1 x2 h := by kernel_rfl
theorem dL.sound {G : aE} (hG : ∀ g x, G g = some x → bJ x = true) : ∀ k, Sound Tryd.prog G 59 (dL.f G k)
 | 0 => cB dL.here (fun _ _ => rfl)
 | k + 1 => cI (l := dL.env G k (dL.f G k)) (ann := dL.ann) (n := k) (bK hG eG) orders Tryd.func59 (by kernel_rfl) (by kernel_rfl) rfl (by kernel_rfl) (qE fun x0 x1 x2 h => dL.eq G k _ x0 x1 x2 h)
theorem aU.here : HrP Tryd.prog 60 := ⟨_, Tryd.func60, by kernel_rfl, by kernel_rfl⟩
theorem aU.eq (G : aE) (k : Nat) (self : cQ) (x0 : AV) (h : aA) : wN Tryd.prog G (fU (aU.env G k self)) aU.ann Tryd.f60.results.toList (dU Tryd.f60) Tryd.f60.ntmps k [x0] h = aU.c G k self x0 h := by kernel_rfl
theorem aU.sound {G : aE} (hG : ∀ g x, G g = some x → bJ x = true) : ∀ k, Sound Tryd.prog G 60 (aU.f G k)
 | 0 => cB aU.here (fun _ _ => rfl)
 | k + 1 => vP (l := aU.env G k (aU.f G k)) (ann := aU.ann) (n := k) (bK hG eG) orders Tryd.func60 (by kernel_rfl) (by kernel_rfl) rfl (by kernel_rfl) (gX fun x0 h => aU.eq G k _ x0 h)
theorem aZ.here : HrP Tryd.prog 29 := ⟨_, Tryd.func29, by kernel_rfl, by kernel_rfl⟩
theorem aZ.eq (G : aE) (k : Nat) (self : cQ) (x0 : AV) (h : aA) : fS Tryd.prog G (fU (aZ.env G k self)) aZ.ann Tryd.f29.results.toList (dU Tryd.f29) Tryd.f29.ntmps k [x0] h = aZ.c G k self x0 h := by kernel_rfl
theorem aZ.sound {G : aE} (hG : ∀ g x, G g = some x → bJ x = true) : ∀ k, Sound Tryd.prog G 29 (aZ.f G k)
 | 0 => cB aZ.here (fun _ _ => rfl)
 | k + 1 => cI (l := aZ.env G k (aZ.f G k)) (ann := aZ.ann) (n := k) (bK hG (dA (dD.sound hG k) (dA (bT.sound hG k) (dA (bZ.sound hG k) (dA (cG.sound hG k) (dA (dL.sound hG k) (dA (aU.sound hG k) eG))))))) orders Tryd.func29 (by kernel_rfl) (by kernel_rfl) rfl (by kernel_rfl) (gX fun x0 h => aZ.eq G k _ x0 h)
theorem cA.here : HrP Tryd.prog 18 := ⟨_, Tryd.func18, by kernel_rfl, by kernel_rfl⟩
theorem cA.eq (G : aE) (k : Nat) (self : cQ) (h : aA) : fS Tryd.prog G (fU (cA.env G k self)) cA.ann Tryd.f18.results.toList (dU Tryd.f18) Tryd.f18.ntmps k [] h = cA.c G k self h := by kernel_rfl
theorem cA.sound {G : aE} (hG : ∀ g x, G g = some x → bJ x = true) : ∀ k, Sound Tryd.prog G 18 (cA.f G k)
 | 0 => cB cA.here (fun _ _ => rfl)
 | k + 1 => cI (l := cA.env G k (cA.f G k)) (ann := cA.ann) (n := k) (bK hG (dA (bQ.sound hG k) (dA (bT.sound hG k) (dA (aZ.sound hG k) eG)))) orders Tryd.func18 (by kernel_rfl) (by kernel_rfl) rfl (by kernel_rfl) (aHc fun h => cA.eq G k _ h)
theorem bG.here : HrP Tryd.prog 19 := ⟨_, Tryd.func19, by kernel_rfl, by kernel_rfl⟩
theorem bG.eq (G : aE) (k : Nat) (self : cQ) (x0 : AV) (h : aA) : fS Tryd.prog G (fU (bG.env G k self)) bG.ann Tryd.f19.results.toList (dU Tryd.f19) Tryd.f19.ntmps k [x0] h = bG.c G k self x0 h := by kernel_rfl
theorem bG.sound {G : aE} (hG : ∀ g x, G g = some x → bJ x = true) : ∀ k, Sound Tryd.prog G 19 (bG.f G k)
 | 0 => cB bG.here (fun _ _ => rfl)
 | k + 1 => cI (l := bG.env G k (bG.f G k)) (ann := bG.ann) (n := k) (bK hG eG) orders Tryd.func19 (by kernel_rfl) (by kernel_rfl) rfl (by kernel_rfl) (gX fun x0 h => bG.eq G k _ x0 h)
theorem aL.here : HrP Tryd.prog 90 := ⟨_, Tryd.func90, by kernel_rfl, by kernel_rfl⟩
theorem aL.eq (G : aE) (k : Nat) (self : cQ) (x0 x1 : AV) (h : aA) : fS Tryd.prog G (fU (aL.env G k self)) aL.ann Tryd.f90.results.toList (dU Tryd.f90) Tryd.f90.ntmps k [x0, x1] h = aL.c G k self x0 x1 h := by kernel_rfl
theorem aL.sound {G : aE} (hG : ∀ g x, G g = some x → bJ x = true) : ∀ k, Sound Tryd.prog G 90 (aL.f G k)
 | 0 => cB aL.here (fun _ _ => rfl)
 | k + 1 => cI (l := aL.env G k (aL.f G k)) (ann := aL.ann) (n := k) (bK hG eG) orders Tryd.func90 (by kernel_rfl) (by kernel_rfl) rfl (by kernel_rfl) (gR fun x0 x1 h => aL.eq G k _ x0 x1 h)
theorem aO.here : HrP Tryd.prog 63 := ⟨_, Tryd.func63, by kernel_rfl, by kernel_rfl⟩
theorem aO.eq (G : aE) (k : Nat) (self : cQ) (x0 x1 : AV) (h : aA) : fS Tryd.prog G (fU (aO.env G k self)) aO.ann Tryd.f63.results.toList (dU Tryd.f63) Tryd.f63.ntmps k [x0, x1] h = aO.c G k self x0 x1 h := by kernel_rfl
theorem aO.sound {G : aE} (hG : ∀ g x, G g = some x → bJ x = true) : ∀ k, Sound Tryd.prog G 63 (aO.f G k)
 | 0 => cB aO.here (fun _ _ => rfl)
 | k + 1 => cI (l := aO.env G k (aO.f G k)) (ann := aO.ann) (n := k) (bK hG (dA (aL.sound hG k) eG)) orders Tryd.func63 (by kernel_rfl) (by kernel_rfl) rfl (by kernel_rfl) (gR fun x0 x1 h => aO.eq G k _ x0 x1 h)
theorem dE.here : HrP Tryd.prog 62 := ⟨_, Tryd.func62, by kernel_rfl, by kernel_rfl⟩
theorem dE.eq (G : aE) (k : Nat) (self : cQ) (x0 x1 x2 : AV) (h : aA) : fS Tryd.prog G (fU (dE.env G k self)) dE.ann Tryd.f62.results.toList (dU Tryd.f62) Tryd.f62.ntmps k [x0, x1, x2] h = dE.c G k self x0 x1 x2 h := by kernel_rfl
theorem dE.sound {G : aE} (hG : ∀ g x, G g = some x → bJ x = true) : ∀ k, Sound Tryd.prog G 62 (dE.f G k)
 | 0 => cB dE.here (fun _ _ => rfl)
 | k + 1 => cI (l := dE.env G k (dE.f G k)) (ann := dE.ann) (n := k) (bK hG (dA (aO.sound hG k) eG)) orders Tryd.func62 (by kernel_rfl) (by kernel_rfl) rfl (by kernel_rfl) (qE fun x0 x1 x2 h => dE.eq G k _ x0 x1 x2 h)
theorem aH.here : HrP Tryd.prog 89 := ⟨_, Tryd.func89, by kernel_rfl, by kernel_rfl⟩
theorem aH.eq (G : aE) (k : Nat) (self : cQ) (x0 x1 : AV) (h : aA) : fS Tryd.prog G (fU (aH.env G k self)) aH.ann Tryd.f89.results.toList (dU Tryd.f89) Tryd.f89.ntmps k [x0, x1] h = aH.c G k self x0 x1 h := by kernel_rfl
theorem aH.sound {G : aE} (hG : ∀ g x, G g = some x → bJ x = true) : ∀ k, Sound Tryd.prog G 89 (aH.f G k)
 | 0 => cB aH.here (fun _ _ => rfl)
 | k + 1 => cI (l := aH.env G k (aH.f G k)) (ann := aH.ann) (n := k) (bK hG (dA (dE.sound hG k) eG)) orders Tryd.func89 (by kernel_rfl) (by kernel_rfl) rfl (by kernel_rfl) (gR fun x0 x1 h => aH.eq G k _ x0 x1 h)
theorem aM.here : HrP Tryd.prog 61 := ⟨_, Tryd.func61, by kernel_rfl, by kernel_rfl⟩
theorem aM.eq (G : aE) (k : Nat) (self : cQ) (x0 x1 : AV) (h : aA) : fS Tryd.prog G (fU (aM.env G k self)) aM.ann Tryd.f61.results.toList (dU Tryd.f61) Tryd.f61.ntmps k [x0, x1] h = aM.c G k self x0 x1 h := by kernel_rfl
theorem aM.sound {G : aE} (hG : ∀ g x, G g = some x → bJ x = true) : ∀ k, Sound Tryd.prog G 61 (aM.f G k)
 | 0 => cB aM.here (fun _ _ => rfl)
 | k + 1 => cI (l := aM.env G k (aM.f G k)) (ann := aM.ann) (n := k) (bK hG (dA (aH.sound hG k) eG)) orders Tryd.func61 (by kernel_rfl) (by kernel_rfl) rfl (by kernel_rfl) (gR fun x0 x1 h => aM.eq G k _ x0 x1 h)
theorem cX.here : HrP Tryd.prog 31 := ⟨_, Tryd.func31, by kernel_rfl, by kernel_rfl⟩
theorem cX.eq (G : aE) (k : Nat) (self : cQ) (x0 : AV) (h : aA) : fS Tryd.prog G (fU (cX.env G k self)) cX.ann Tryd.f31.results.toList (dU Tryd.f31) Tryd.f31.ntmps k [x0] h = cX.c G k self x0 h := by kernel_rfl
theorem cX.sound {G : aE} (hG : ∀ g x, G g = some x → bJ x = true) : ∀ k, Sound Tryd.prog G 31 (cX.f G k)
 | 0 => cB cX.here (fun _ _ => rfl)
 | k + 1 => cI (l := cX.env G k (cX.f G k)) (ann := cX.ann) (n := k) (bK hG (dA (dD.sound hG k) (dA (bZ.sound hG k) (dA (aZ.sound hG k) (dA (aM.sound hG k) (dA (dE.sound hG k) eG)))))) orders Tryd.func31 (by kernel_rfl) (by kernel_rfl) rfl (by kernel_rfl) (gX fun x0 h => cX.eq G k _ x0 h)
theorem alembiclaw20_LiveDead.here : HrP Tryd.prog 7 := ⟨_, Tryd.func7, by kernel_rfl, by kernel_rfl⟩
theorem alembiclaw20_LiveDead.eq (G : aE) (k : Nat) (self : cQ) (x0 x1 : AV) (h : aA) : fS Tryd.prog G (fU (alembiclaw20_LiveDead.env G k self)) alembiclaw20_LiveDead.ann Tryd.f7.results.toList (dU Tryd.f7) Tryd.f7.ntmps k [x0, x1] h = alembiclaw20_LiveDead.c G k self x0 x1 h := by kernel_rfl
theorem alembiclaw20_LiveDead.sound {G : aE} (hG : ∀ g x, G g = some x → bJ x = true) : ∀ k, Sound Tryd.prog G 7 (alembiclaw20_LiveDead.f G k)
 | 0 => cB alembiclaw20_LiveDead.here (fun _ _ => rfl)
 | k + 1 => cI (l := alembiclaw20_LiveDead.env G k (alembiclaw20_LiveDead.f G k)) (ann := alembiclaw20_LiveDead.ann) (n := k) (bK hG (dA (aQ.sound hG k) (dA (cA.sound hG k) (dA (bG.sound hG k) (dA (cX.sound hG k) (dA (dN.sound hG k) (dA (aP.sound hG k) eG))))))) orders Tryd.func7 (by kernel_rfl) (by kernel_rfl) rfl (by kernel_rfl) (gR fun x0 x1 h => alembiclaw20_LiveDead.eq G k _ x0 x1 h)
end Go.Proofs.YtlkgkfgkiidhdaaDoor.Mir
