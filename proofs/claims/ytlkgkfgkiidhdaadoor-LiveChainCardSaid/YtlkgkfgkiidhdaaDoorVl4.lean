/- Part 4 of the proof: the evaluator and its soundness. -/
import Derived.Test.YtlkgkfgkiidhdaaDoorVl3
import Derived.ProofKit
import Derived.LaidLaws
import Derived.OpenShut
import Derived.Lib.LaidTab
import Derived.Lib.ItoaNum
namespace Go.Proofs.YtlkgkfgkiidhdaaDoor.Mir
open Go
set_option linter.unusedSimpArgs false
set_option linter.unusedVariables false
def yK (P : Program) (G : aB) (T : TS) (H : aA) : ResultVar → Option AV
 | .tmp t => some (T t)
 | .cell a t => gX P G t (T a) H
def vI (P : Program) (G : aB) (T : TS) (H : aA) : List ResultVar → Option (List AV)
 | [] => some []
 | r :: l => match yK P G T H r, vI P G T H l with
  | some x, some xs => some (x :: xs)
  | _, _ => none
def mW (xs : List AV) : AV :=
 match xs with
 | [x] => x
 | xs => .tup xs
def bR (xs : List AV) (n0 : Nat) (H : aA) : Option dJ :=
 match vX H n0 6 (mW xs), rQ n0 [] H with
 | some r, some H' => some (.ret, [r], H')
 | _, _ => none
def uC : List (Option AV) → Option (List AV)
 | [] => some []
 | r :: l => match r, uC l with
  | some x, some xs => some (x :: xs)
  | _, _ => none
def zE (l : List (Option AV)) (n0 : Nat) (H : aA) : Option dJ :=
 match uC l with
 | some xs => bR xs n0 H
 | none => none
def wX (P : Program) (G : aB) (rs : List ResultVar) (n0 : Nat) (T : TS) (H : aA) : Option dJ :=
 match vI P G T H rs with
 | some xs => bR xs n0 H
 | none => none
def zC (P : Program) (G : aB) (rs : List ResultVar) (n0 : Nat) : lO
 | .normal, T, H => wX P G rs n0 T H
 | .ret, T, H => wX P G rs n0 T H
 | .exit _, _, _ => none
def vA (xs : List AV) (H : aA) : Option dJ := some (.ret, [mW xs], H)
def uK (P : Program) (G : aB) (rs : List ResultVar) (T : TS) (H : aA) : Option dJ :=
 match vI P G T H rs with
 | some xs => vA xs H
 | none => none
def xK (P : Program) (G : aB) (rs : List ResultVar) : lO
 | .normal, T, H => uK P G rs T H
 | .ret, T, H => uK P G rs T H
 | .exit _, _, _ => none
def oO (args : List AV) : TS := fun t => match args[t]? with | some x => x | none => .tup []
def dG (m : Option dJ) : Option (AV × aA) :=
 match m with
 | some (_, [r], H') => some (r, H')
 | _ => none
def cR (P : Program) (G : aB) (E : gL) (ann : Ann) (rs : List ResultVar) (code : Code) (N n : Nat) (args : List AV) (H : aA) : Option (AV × aA) :=
 match decide (args.length ≤ N) with
 | true => dG (dQ P G E ann n code (zC P G rs H.length) (oO args) H)
 | false => none
def lP (P : Program) (G : aB) (E : gL) (ann : Ann) (rs : List ResultVar) (code : Code) (N n : Nat) (args : List AV) (H : aA) : Option (AV × aA) :=
 match decide (args.length ≤ N) with
 | true => dG (dQ P G E ann n code (xK P G rs) (oO args) H)
 | false => none
def xG (tmps : Array Value) : ResultVar → Sem Value
 | .tmp t => pure (tmps.getD t undef)
 | .cell x t => do loadVar t (← asAddr (tmps.getD x undef))
theorem nC (fn : Func) (tmps : Array Value) : results fn tmps = (do let vs ← fn.results.mapM (xG tmps); pure (if h : vs.size = 1 then vs[0] else .tuple vs)) := by
 unfold results
 congr 1
theorem hO {P : Program} {G : aB} {T : TS} {H : aA} {c : Ctx} {a : Act} {w : World} (hg : Good G c w) (hH : HeapAt c H w) (hT : ∀ t, Rel c (T t) (a.tmps.getD t undef)) :
  ∀ (l : List ResultVar) (xs : List AV), vI P G T H l = some xs →
   ∃ vs : List Value, (l.mapM (xG a.tmps)).run P w = .ok vs w ∧ dK c xs vs
 | [], xs, h => by simp [vI] at h; subst h; exact ⟨[], by simp, .nil⟩
 | r :: l, xs, h => by
  simp only [vI] at h
  split at h
  case h_2 => cases h
  rename_i x xs' h1 h2
  simp at h; subst h
  obtain ⟨vs, e1, e2⟩ := hO hg hH hT l xs' h2
  have hr : ∃ v, (xG a.tmps r).run P w = .ok v w ∧ Rel c x v := by
   cases r with
   | tmp t =>
    simp [yK] at h1; subst h1
    exact ⟨_, rfl, hT t⟩
   | cell y t =>
    simp only [yK] at h1
    obtain ⟨v, g1, g2⟩ := gY h1 hg hH (hT y)
    refine ⟨v, ?_, g2⟩
    simp only [xG]
    generalize a.tmps.getD y undef = q at g1 ⊢
    cases q <;> simp [Instr.loadAt, Instr.sureAddr] at g1
    case pointer p =>
     cases p with
     | none => simp at g1
     | some p => simpa [asAddr] using g1
  obtain ⟨v, g1, g2⟩ := hr
  refine ⟨v :: vs, ?_, .cons g2 e2⟩
  simp only [List.mapM_cons, Sem.run_bind, g1, Result.andThen_ok, e1, Sem.run_pure]
theorem rF {P : Program} {G : aB} {E : gL} {ann : Ann} {f : Nat} {fn : Func} {code : Code} {rs : List ResultVar} {N n : Nat} (hE : EnvSound P G E) (hm : P.follows .mixedOrders = true)
  (hf : P.funcs[f]? = some fn) (hb : fn.body = some code) (hname : (fn.name == "runtime.NumGoroutine") = false) (hrs : fn.results.toList = rs) (hN : fn.ntmps = N) (hok : dO ann (bS E) N code = true) :
  Sound P G f (cR P G E ann rs code N n) := by
 refine ⟨⟨fn, hf, by simp [hb], hname⟩, fun args H r H' h c w vs hg hH hd ha => ?_⟩
 unfold cR at h
 split at h
 case h_2 => cases h
 rename_i hlen
 have hlen' : args.length ≤ N := of_decide_eq_true hlen
 unfold dG at h
 split at h
 case h_2 => cases h
 rename_i e r' H1 hex
 simp only [Option.some.injEq, Prod.mk.injEq] at h
 obtain ⟨rfl, rfl⟩ := h
 refine calls_of_wp hf hb ?_
 have hvl := ha.1
 have hst : St G c w N H.length (oO args) H c { tmps := vs.toArray ++ Array.replicate (fn.ntmps - vs.toArray.size) undef, defers := [] } w := by
  refine ⟨hg, hH, hd, .refl c w, fun t => ?_, by simp; omega, rfl, Nat.le_refl _⟩
  unfold oO
  split
  ·rename_i x hx
   obtain ⟨v, h1, h2⟩ := ha.get hx
   have ht : t < vs.length := (List.getElem?_eq_some_iff.1 h1).1
   have : (vs.toArray ++ Array.replicate (fn.ntmps - vs.toArray.size) undef).getD t undef = v := by
    rw [Array.getD_eq_getD_getElem?, Array.getElem?_append_left (by simpa using ht)]
    simp [h1]
   rw [this]; exact h2
  ·rename_i hx
   have ht : vs.length ≤ t := by rw [← hvl]; exact List.getElem?_eq_none_iff.1 hx
   have : (vs.toArray ++ Array.replicate (fn.ntmps - vs.toArray.size) undef).getD t undef = undef := by
    rw [Array.getD_eq_getD_getElem?, Array.getElem?_append_right (by simpa using ht)]
    rw [Array.getElem?_replicate]
    split <;> rfl
   rw [this]; exact dV c
 refine oS hE hm n code hok H.length _ _ _ _ _ _ _ _ hd hex hst ?_
 intro e' T' H2 c' a' w' hk hs
 have fin : wX P G rs H.length T' H2 = some (e, [r'], H1) → a'.defers = [] ∧ ∃ v, (results fn a'.tmps).run P w' = .ok v w' ∧ ∃ v' c'', Ending.returned v = .returned v' ∧ Ret G c w r' H1 v' w' c'' := by
  intro hfin
  refine ⟨hs.defers, ?_⟩
  unfold wX at hfin
  split at hfin
  case h_2 => cases hfin
  rename_i xs hxs
  unfold bR at hfin
  split at hfin
  case h_2 => cases hfin
  rename_i r1 H3 hfr hcut
  simp only [Option.some.injEq, Prod.mk.injEq, List.cons.injEq, and_true] at hfin
  obtain ⟨_, rfl, rfl⟩ := hfin
  obtain ⟨us, g1, g2⟩ := hO hs.good hs.heap hs.tmps rs xs hxs
  have hrun : (results fn a'.tmps).run P w' = .ok (if h : us.toArray.size = 1 then us.toArray[0] else .tuple us.toArray) w' := by
   rw [nC, Array.mapM_eq_mapM_toList, hrs]
   simp only [Sem.run_bind, Sem.run_map, g1, Result.andThen_ok, Sem.run_pure]
  have hpack : Rel c' (mW xs) (if h : us.toArray.size = 1 then us.toArray[0] else .tuple us.toArray) := by
   have hl := g2.1
   unfold mW
   split
   ·rename_i x
    simp only [List.length_cons, List.length_nil] at hl
    obtain ⟨u, rfl⟩ := List.length_eq_one_iff.1 hl.symm
    simpa using g2.head
   ·rename_i hx
    have hne : ¬ (us.toArray.size = 1) := by
     intro q
     simp only [List.size_toArray] at q
     rw [← hl] at q
     obtain ⟨x, rfl⟩ := List.length_eq_one_iff.1 q
     exact hx x rfl
    rw [dif_neg hne]
    exact .tup g2.1 g2.2
  refine ⟨_, hrun, _, c'.lock w' H.length, rfl, vH hs.good hs.step hd, vG hs.good hs.heap hE.glob H.length, ?_, ?_, vD hs.good hs.heap H.length 6 _ _ _ hfr hpack⟩
  ·unfold rQ at hcut
   split at hcut
   case h_2 => cases hcut
   rename_i hb
   simp only [Bool.and_eq_true] at hb
   simp at hcut; subst hcut
   have hle := lJ hs.good H.length
   exact (hs.heap.cut hb.2).keep hle (fun _ _ h => h) (fun _ _ => rfl)
  ·intro b hb
   have hl : H3.length = H.length := by
    unfold rQ at hcut
    split at hcut
    ·simp at hcut; rw [← hcut]; simp [hs.low]
    ·cases hcut
   by_cases q : b < H.length
   ·omega
   ·simp [Ctx.lock, q] at hb
 cases e' with
 | normal => exact fin hk
 | ret => exact fin hk
 | exit id => simp [zC] at hk
theorem pI {P : Program} {G : aB} {E : gL} {ann : Ann} {f : Nat} {fn : Func} {code : Code} {rs : List ResultVar} {N n : Nat} (hE : EnvSound P G E) (hm : P.follows .mixedOrders = true)
  (hf : P.funcs[f]? = some fn) (hb : fn.body = some code) (hname : (fn.name == "runtime.NumGoroutine") = false) (hrs : fn.results.toList = rs) (hN : fn.ntmps = N) (hok : dO ann (bS E) N code = true) :
  Sound P G f (lP P G E ann rs code N n) := by
 refine ⟨⟨fn, hf, by simp [hb], hname⟩, fun args H r H' h c w vs hg hH hd ha => ?_⟩
 unfold lP at h
 split at h
 case h_2 => cases h
 rename_i hlen
 have hlen' : args.length ≤ N := of_decide_eq_true hlen
 unfold dG at h
 split at h
 case h_2 => cases h
 rename_i e r' H1 hex
 simp only [Option.some.injEq, Prod.mk.injEq] at h
 obtain ⟨rfl, rfl⟩ := h
 refine calls_of_wp hf hb ?_
 have hvl := ha.1
 have hst : St G c w N H.length (oO args) H c { tmps := vs.toArray ++ Array.replicate (fn.ntmps - vs.toArray.size) undef, defers := [] } w := by
  refine ⟨hg, hH, hd, .refl c w, fun t => ?_, by simp; omega, rfl, Nat.le_refl _⟩
  unfold oO
  split
  ·rename_i x hx
   obtain ⟨v, h1, h2⟩ := ha.get hx
   have ht : t < vs.length := (List.getElem?_eq_some_iff.1 h1).1
   have : (vs.toArray ++ Array.replicate (fn.ntmps - vs.toArray.size) undef).getD t undef = v := by
    rw [Array.getD_eq_getD_getElem?, Array.getElem?_append_left (by simpa using ht)]
    simp [h1]
   rw [this]; exact h2
  ·rename_i hx
   have ht : vs.length ≤ t := by rw [← hvl]; exact List.getElem?_eq_none_iff.1 hx
   have : (vs.toArray ++ Array.replicate (fn.ntmps - vs.toArray.size) undef).getD t undef = undef := by
    rw [Array.getD_eq_getD_getElem?, Array.getElem?_append_right (by simpa using ht)]
    rw [Array.getElem?_replicate]
    split <;> rfl
   rw [this]; exact dV c
 refine oS hE hm n code hok H.length _ _ _ _ _ _ _ _ hd hex hst ?_
 intro e' T' H2 c' a' w' hk hs
 have fin : uK P G rs T' H2 = some (e, [r'], H1) → a'.defers = [] ∧ ∃ v, (results fn a'.tmps).run P w' = .ok v w' ∧ ∃ v' c'', Ending.returned v = .returned v' ∧ Ret G c w r' H1 v' w' c'' := by
  intro hfin
  refine ⟨hs.defers, ?_⟩
  unfold uK at hfin
  split at hfin
  case h_2 => cases hfin
  rename_i xs hxs
  unfold vA at hfin
  simp only [Option.some.injEq, Prod.mk.injEq, List.cons.injEq, and_true] at hfin
  obtain ⟨_, rfl, rfl⟩ := hfin
  obtain ⟨us, g1, g2⟩ := hO hs.good hs.heap hs.tmps rs xs hxs
  have hrun : (results fn a'.tmps).run P w' = .ok (if h : us.toArray.size = 1 then us.toArray[0] else .tuple us.toArray) w' := by
   rw [nC, Array.mapM_eq_mapM_toList, hrs]
   simp only [Sem.run_bind, Sem.run_map, g1, Result.andThen_ok, Sem.run_pure]
  have hpack : Rel c' (mW xs) (if h : us.toArray.size = 1 then us.toArray[0] else .tuple us.toArray) := by
   have hl := g2.1
   unfold mW
   split
   ·rename_i x
    simp only [List.length_cons, List.length_nil] at hl
    obtain ⟨u, rfl⟩ := List.length_eq_one_iff.1 hl.symm
    simpa using g2.head
   ·rename_i hx
    have hne : ¬ (us.toArray.size = 1) := by
     intro q
     simp only [List.size_toArray] at q
     rw [← hl] at q
     obtain ⟨x, rfl⟩ := List.length_eq_one_iff.1 q
     exact hx x rfl
    rw [dif_neg hne]
    exact .tup g2.1 g2.2
  exact ⟨_, hrun, _, c', rfl, hs.step, hs.good, hs.heap, hs.dom, hpack⟩
 cases e' with
 | normal => exact fin hk
 | ret => exact fin hk
 | exit id => simp [xK] at hk
def cY : List (Nat × Bool × bH) → gL
 | [], _ => none
 | (f, p, g) :: l, n => if n = f then some (p, g) else cY l n
theorem rS : ∀ {l : List (Nat × Bool × bH)} {n : Nat} {p : Bool} {g : bH}, cY l n = some (p, g) → ∃ e ∈ l, e.1 = n ∧ e.2.1 = p ∧ e.2.2 = g
 | [], n, p, g, h => by simp [cY] at h
 | (f, q, k) :: l, n, p, g, h => by
  simp only [cY] at h
  split at h
  ·rename_i e
   simp only [Option.some.injEq, Prod.mk.injEq] at h
   exact ⟨(f, q, k), by simp, e.symm, h.1, h.2⟩
  ·obtain ⟨e, h1, h2⟩ := rS h
   exact ⟨e, by simp [h1], h2⟩
theorem aW {P : Program} {G : aB} {l : List (Nat × Bool × bH)} (hG : ∀ g x, G g = some x → aZ x = true) (h : ∀ e ∈ l, Sound P G e.1 e.2.2) : EnvSound P G (cY l) :=
 ⟨fun f p g hf => by
  obtain ⟨e, h1, h2, _, h4⟩ := rS hf
  subst h2 h4
  exact h e h1, hG⟩
def bY (fn : Func) : Code := match fn.body with | some c => c | none => .skip
def xM (l : List Nat) (n : Nat) : Bool := match l with | [] => false | x :: l => if n = x then true else xM l n
def yA (l : List (Nat × List Nat)) (n : Nat) : List Nat := match l with | [] => [] | (x, ks) :: l => if n = x then ks else yA l n
def xZ (l : List (Nat × List Nat)) (n : Nat) : Option (List Nat) := match l with | [] => none | (x, ks) :: l => if n = x then some ks else xZ l n
def zH (l : List (Nat × List (Nat × Nat × Nat × Nat))) (n : Nat) : List (Nat × Nat × Nat × Nat) := match l with | [] => [] | (x, ks) :: l => if n = x then ks else zH l n
def zG (l : List (Nat × List (Nat × Nat × Nat × Nat × Nat))) (n : Nat) : List (Nat × Nat × Nat × Nat × Nat) := match l with | [] => [] | (x, ks) :: l => if n = x then ks else zG l n
def cW (own nilS : List Nat) (keep join : List (Nat × List Nat)) : Ann := { own := xM own, nil := xM nilS, keep := yA keep, join := xZ join, virt := fun _ => [], pt := fun _ => false, virtM := fun _ => [], grow := fun _ => false, neu := fun _ => false }
def wH (own nilS : List Nat) (keep join : List (Nat × List Nat)) (virt : List (Nat × List (Nat × Nat × Nat × Nat))) (pt : List Nat) (virtM : List (Nat × List (Nat × Nat × Nat × Nat × Nat))) (grow mk : List Nat) : Ann := { own := xM own, nil := xM nilS, keep := yA keep, join := xZ join, virt := zH virt, pt := xM pt, virtM := zG virtM, grow := xM grow, neu := xM mk }
theorem bC {P : Program} {G : aB} {f : Nat} (h : ∃ fn, P.funcs[f]? = some fn ∧ fn.body.isSome = true ∧ (fn.name == "runtime.NumGoroutine") = false) {g : bH} (hg : ∀ args H, g args H = none) : Sound P G f g :=
 ⟨h, fun args H r H' hr => by rw [hg] at hr; cases hr⟩
theorem bF {P : Program} {G : aB} {l : List (Nat × Bool × bH)} {ann : Ann} {f : Nat} {fn : Func} {N n : Nat} (hE : EnvSound P G (cY l)) (hm : P.follows .mixedOrders = true)
  (hf : P.funcs[f]? = some fn) (hb : fn.body.isSome = true) (hname : (fn.name == "runtime.NumGoroutine") = false) (hN : fn.ntmps = N) (hok : dO ann (bS (cY l)) N (bY fn) = true) {g : bH}
  (hg : ∀ args H x, g args H = some x → cR P G (cY l) ann fn.results.toList (bY fn) N n args H = some x) : Sound P G f g := by
 obtain ⟨c, hc⟩ := Option.isSome_iff_exists.1 hb
 have : bY fn = c := by simp [bY, hc]
 exact (rF hE hm hf (by rw [hc, this]) hname rfl hN hok).mono hg
theorem lC {P : Program} {G : aB} {l : List (Nat × Bool × bH)} {ann : Ann} {f : Nat} {fn : Func} {N n : Nat} (hE : EnvSound P G (cY l)) (hm : P.follows .mixedOrders = true)
  (hf : P.funcs[f]? = some fn) (hb : fn.body.isSome = true) (hname : (fn.name == "runtime.NumGoroutine") = false) (hN : fn.ntmps = N) (hok : dO ann (bS (cY l)) N (bY fn) = true) {g : bH}
  (hg : ∀ args H x, g args H = some x → lP P G (cY l) ann fn.results.toList (bY fn) N n args H = some x) : Sound P G f g := by
 obtain ⟨c, hc⟩ := Option.isSome_iff_exists.1 hb
 have : bY fn = c := by simp [bY, hc]
 exact (pI hE hm hf (by rw [hc, this]) hname rfl hN hok).mono hg
theorem cJ {P : Program} {G : aB} : ∀ e ∈ ([] : List (Nat × Bool × bH)), Sound P G e.1 e.2.2 := fun e he => by cases he
theorem bI {P : Program} {G : aB} {f : Nat} {p : Bool} {g : bH} {l : List (Nat × Bool × bH)} (h : Sound P G f g) (hl : ∀ e ∈ l, Sound P G e.1 e.2.2) : ∀ e ∈ (f, p, g) :: l, Sound P G e.1 e.2.2 := fun e he => by
 rcases List.mem_cons.1 he with rfl | he
 ·exact h
 ·exact hl e he
def iK (m : Option aA) : Option (AV × aA) :=
 match m with
 | some H' => some (.tup [], H')
 | none => none
def xS (args : List AV) (k : Option (AV × aA)) : Option (AV × aA) :=
 match args with
 | [] => k
 | _ => none
theorem wS {B : aA → Option (AV × aA)} {a : bH} (h : ∀ H, a [] H = B  H) : ∀ args H x, xS args (B  H) = some x → a args H = some x := by
 intro args H x hx
 unfold xS at hx
 split at hx
 ·rw [h]; exact hx
 ·cases hx
def gM (args : List AV) (k : AV → Option (AV × aA)) : Option (AV × aA) :=
 match args with
 | [x0] => k x0
 | _ => none
theorem dF {B : AV → aA → Option (AV × aA)} {a : bH} (h : ∀ x0 H, a [x0] H = B x0 H) : ∀ args H x, gM args (fun x0 => B x0 H) = some x → a args H = some x := by
 intro args H x hx
 unfold gM at hx
 split at hx
 ·rw [h]; exact hx
 ·cases hx
def iR (args : List AV) (k : AV → AV → Option (AV × aA)) : Option (AV × aA) :=
 match args with
 | [x0, x1] => k x0 x1
 | _ => none
theorem dX {B : AV → AV → aA → Option (AV × aA)} {a : bH} (h : ∀ x0 x1 H, a [x0, x1] H = B x0 x1 H) : ∀ args H x, iR args (fun x0 x1 => B x0 x1 H) = some x → a args H = some x := by
 intro args H x hx
 unfold iR at hx
 split at hx
 ·rw [h]; exact hx
 ·cases hx
def vR (args : List AV) (k : AV → AV → AV → Option (AV × aA)) : Option (AV × aA) :=
 match args with
 | [x0, x1, x2] => k x0 x1 x2
 | _ => none
theorem pN {B : AV → AV → AV → aA → Option (AV × aA)} {a : bH} (h : ∀ x0 x1 x2 H, a [x0, x1, x2] H = B x0 x1 x2 H) : ∀ args H x, vR args (fun x0 x1 x2 => B x0 x1 x2 H) = some x → a args H = some x := by
 intro args H x hx
 unfold vR at hx
 split at hx
 ·rw [h]; exact hx
 ·cases hx
def xT (args : List AV) (k : AV → AV → AV → AV → Option (AV × aA)) : Option (AV × aA) :=
 match args with
 | [x0, x1, x2, x3] => k x0 x1 x2 x3
 | _ => none
theorem wT {B : AV → AV → AV → AV → aA → Option (AV × aA)} {a : bH} (h : ∀ x0 x1 x2 x3 H, a [x0, x1, x2, x3] H = B x0 x1 x2 x3 H) : ∀ args H x, xT args (fun x0 x1 x2 x3 => B x0 x1 x2 x3 H) = some x → a args H = some x := by
 intro args H x hx
 unfold xT at hx
 split at hx
 ·rw [h]; exact hx
 ·cases hx
open Go Go.ChangeShapes Go.WideShapes Go.RowKit
mutual
inductive IsT (P : Program) : TypeId → AV → Prop
 | bool {t : TypeId} (h : P.underlying t = some .bool) (b : Bool) : IsT P t (.bool b)
 | int {t : TypeId} {k : IntKind} (h : P.underlying t = some (.int k)) (n : Int) (hw : (Lit.int k n).wf = true) : IsT P t (.int k n)
 | str {t : TypeId} (h : P.underlying t = some .string) (s : ByteArray) (hs : s.size ≤ maxLen) : IsT P t (.str s)
 | sl {t e : TypeId} {xs : List AV} (h : P.underlying t = some (.slice e)) (hx : ∀ x ∈ xs, IsT P e x) (hl : xs.length ≤ maxLen) : IsT P t (.ro false xs)
 | st {t : TypeId} {fs : Array Field} {cs : List AV} (h : P.underlying t = some (.struct fs)) (hf : IsFs P fs.toList cs) : IsT P t (.agg cs)
 | ar {t : TypeId} {n : Nat} {e : TypeId} {cs : List AV} (h : P.underlying t = some (.array n e)) (hf : IsAr P e n cs) : IsT P t (.agg cs)
inductive IsFs (P : Program) : List Field → List AV → Prop
 | nil : IsFs P [] []
 | cons {f : Field} {fs : List Field} {x : AV} {cs : List AV} (hx : IsT P f.type x) (h : IsFs P fs cs) : IsFs P (f :: fs) (x.cells ++ cs)
inductive IsAr (P : Program) : TypeId → Nat → List AV → Prop
 | nil (e : TypeId) : IsAr P e 0 []
 | cons {e : TypeId} {n : Nat} {x : AV} {cs : List AV} (hx : IsT P e x) (h : IsAr P e n cs) : IsAr P e (n + 1) (x.cells ++ cs)
end
def wP (P : Program) : List Field → Nat → Nat → Bool
 | [], o, s => o == s
 | f :: fs, o, s => f.offset == o && wP P fs (o + P.cellsOf f.type) s
def mX (P : Program) (T : List Nat) (t : Nat) : Bool :=
 match P.underlying t with
 | some .bool => true
 | some (.int _) => true
 | some .string => true
 | some (.slice e) => T.contains e && decide (0 < P.cellsOf e)
 | some (.struct fs) => wP P fs.toList 0 (P.cellsOf t) && fs.toList.all fun f => T.contains f.type
 | some (.array n e) => T.contains e && decide (n * P.cellsOf e = P.cellsOf t)
 | _ => false
def Ctx.top (S : Nat → Option Addr) (w : World) : Ctx := { m := fun _ => none, M := fun a => w.cell? a, B := fun a => w.cell? a, S := S }
def CR (c : Ctx) (ys : List AV) (cs : List Value) : Prop := ys.length = cs.length ∧ ∀ (j : Nat) (y : AV) (v : Value), ys[j]? = some y → cs[j]? = some v → Rel c y v ∧ v.oneCell' = true
theorem CR.nil (c : Ctx) : CR c [] [] := ⟨rfl, fun j y v h => by simp at h⟩
theorem CR.append {c : Ctx} {ys zs : List AV} {cs ds : List Value} (h : CR c ys cs) (k : CR c zs ds) : CR c (ys ++ zs) (cs ++ ds) := by
 refine ⟨by simp [h.1, k.1], fun j y v hy hv => ?_⟩
 by_cases q : j < ys.length
 ·rw [List.getElem?_append_left q] at hy
  rw [List.getElem?_append_left (by rw [← h.1]; exact q)] at hv
  exact h.2 j y v hy hv
 ·rw [List.getElem?_append_right (by omega)] at hy
  rw [List.getElem?_append_right (by rw [← h.1]; omega), ← h.1] at hv
  exact k.2 _ y v hy hv
theorem CR.one {c : Ctx} {x : AV} {v : Value} (h : Rel c x v) (h1 : v.oneCell' = true) : CR c [x] [v] := ⟨rfl, fun j y u hy hu => by
 cases j with
 | zero => simp at hy hu; subst hy hu; exact ⟨h, h1⟩
 | succ j => simp at hy⟩
theorem gK {α : Type} (cs : List α) (o n : Nat) : cs.drop o = (cs.drop o).take n ++ cs.drop (o + n) := by
 rw [← List.drop_drop, List.take_append_drop]
section
variable {H : Type} {enc : TypeId × Value → H} {P : Program} {w : World} {S : Nat → Option Addr} {sp : Nat → Bool} {T : List Nat}
theorem kW {n : Nat} (ih : ∀ (t : TypeId) (cs : List Value) (x : DataW H × List MemPlace), t ∈ T → DataW.trod enc P w 0 sp true n t cs = some x → ∃ y, IsT P t y ∧ CR (Ctx.top S w) y.cells cs) {cs : List Value} :
  ∀ (fs : List Field) (o : Nat), wP P fs o cs.length = true → (∀ f ∈ fs, f.type ∈ T) →
   (∀ f ∈ fs, ∃ x, DataW.trod enc P w 0 sp true n f.type ((cs.drop f.offset).take (P.cellsOf f.type)) = some x) → ∃ ys, IsFs P fs ys ∧ CR (Ctx.top S w) ys (cs.drop o)
 | [], o, ht, _, _ => by
  simp [wP] at ht
  subst ht
  exact ⟨[], .nil, by simpa using CR.nil _⟩
 | f :: fs, o, ht, hT, hx => by
  simp only [wP, Bool.and_eq_true, beq_iff_eq] at ht
  obtain ⟨x, hx0⟩ := hx f (by simp)
  obtain ⟨y, h1, h2⟩ := ih _ _ _ (hT f (by simp)) hx0
  obtain ⟨ys, h3, h4⟩ := kW ih fs (o + P.cellsOf f.type) ht.2 (fun g hg => hT g (by simp [hg])) (fun g hg => hx g (by simp [hg]))
  refine ⟨y.cells ++ ys, .cons h1 h3, ?_⟩
  rw [gK cs o (P.cellsOf f.type)]
  rw [ht.1] at h2
  exact h2.append h4
theorem mZ {n : Nat} (ih : ∀ (t : TypeId) (cs : List Value) (x : DataW H × List MemPlace), t ∈ T → DataW.trod enc P w 0 sp true n t cs = some x → ∃ y, IsT P t y ∧ CR (Ctx.top S w) y.cells cs) {cs : List Value} {e : TypeId} (he : e ∈ T) :
  ∀ (m i : Nat), (i + m) * P.cellsOf e = cs.length → (∀ j, i ≤ j → j < i + m → ∃ x, DataW.trod enc P w 0 sp true n e ((cs.drop (j * P.cellsOf e)).take (P.cellsOf e)) = some x) →
   ∃ ys, IsAr P e m ys ∧ CR (Ctx.top S w) ys (cs.drop (i * P.cellsOf e))
 | 0, i, hl, _ => by
  refine ⟨[], .nil e, ?_⟩
  rw [List.drop_eq_nil_of_le (by simp at hl; omega)]
  exact CR.nil _
 | m + 1, i, hl, hx => by
  obtain ⟨x, hx0⟩ := hx i (Nat.le_refl _) (by omega)
  obtain ⟨y, h1, h2⟩ := ih _ _ _ he hx0
  obtain ⟨ys, h3, h4⟩ := mZ ih he m (i + 1) (by rw [← hl]; congr 1; omega) (fun j h1 h2 => hx j (by omega) (by omega))
  refine ⟨y.cells ++ ys, .cons h1 h3, ?_⟩
  rw [gK cs (i * P.cellsOf e) (P.cellsOf e)]
  rw [Nat.add_mul, Nat.one_mul] at h4
  exact h2.append h4
theorem cells?_get {a : Addr} {n : Nat} {cs : List Value} (h : w.cells? 0 a n = some cs) : cs.length = n ∧ ∀ (j : Nat) (v : Value), cs[j]? = some v → w.cell? (a.add j) = some v := by
 unfold World.cells? at h
 rw [if_pos (Nat.zero_le _)] at h
 have hl : cs.length = n := by simpa using mapM_some_length h
 refine ⟨hl, fun j v hv => ?_⟩
 have hj : j < n := by rw [← hl]; exact (List.getElem?_eq_some_iff.1 hv).1
 have := mapM_some_get h j j (by simp [hj])
 rw [this, hv]
theorem qY {a : Addr} {v : Value} (h : w.cell? a = some v) : a.spot = none := by
 unfold World.cell? at h
 split at h
 ·split at h
  ·cases h
  ·rename_i q; simpa using q
 ·cases h
theorem tT (hT : ∀ t ∈ T, mX P T t = true) : ∀ (fuel : Nat) (t : TypeId) (cs : List Value) (x : DataW H × List MemPlace), t ∈ T → DataW.trod enc P w 0 sp true fuel t cs = some x →
  ∃ y, IsT P t y ∧ CR (Ctx.top S w) y.cells cs := by
 intro fuel
 induction fuel with
 | zero => intro t cs x _ h; simp [DataW.trod] at h
 | succ n ih =>
  intro t cs x ht h
  have hp := hT t ht
  unfold mX at hp
  split at hp
  ·rename_i hu
   obtain ⟨b, rfl, _⟩ := DataW.trod_bool hu h
   exact ⟨.bool b, .bool hu b, CR.one (.bool b) rfl⟩
  ·rename_i k hu
   obtain ⟨m, rfl, _, hw⟩ := DataW.trod_int hu h
   exact ⟨.int k m, .int hu m hw, CR.one (.int k m) rfl⟩
  ·rename_i hu
   obtain ⟨s, rfl, _, hs⟩ := DataW.trod_string hu h
   exact ⟨.str s, .str hu s hs, CR.one (.str s) rfl⟩
  ·rename_i e hu
   simp only [Bool.and_eq_true, List.contains_iff_mem, decide_eq_true_eq] at hp
   rcases DataW.trod_slice hu h with ⟨rfl, _⟩ | ⟨a, len, cap, elems, rest, m, hm, rfl, _, _, hlc, hcm, hel, hget, _⟩
   ·exact ⟨.ro false [], .sl hu (fun x hx => by cases hx) (by simp), CR.one (.roNil ..) rfl⟩
   ·obtain rfl : n = m := by omega
    have each : ∀ i, i < len → ∃ y cs', w.cells? 0 (a.add (i * P.cellsOf e)) (P.cellsOf e) = some cs' ∧ IsT P e y ∧ CR (Ctx.top S w) y.cells cs' := by
     intro i hi
     have h1 := hget i hi
     rw [List.getElem?_eq_getElem (by omega), Option.bind_eq_some_iff] at h1
     obtain ⟨cs', h2, h3⟩ := h1
     obtain ⟨y, h4, h5⟩ := ih _ _ _ hp.1 h3
     exact ⟨y, cs', h2, h4, h5⟩
    obtain ⟨f, hf⟩ : ∃ f : Nat → AV, ∀ i, i < len → ∃ cs', w.cells? 0 (a.add (i * P.cellsOf e)) (P.cellsOf e) = some cs' ∧ IsT P e (f i) ∧ CR (Ctx.top S w) (f i).cells cs' := by
     refine ⟨fun i => if hi : i < len then (each i hi).choose else .undef, fun i hi => ?_⟩
     simp only [dif_pos hi]
     exact (each i hi).choose_spec
    refine ⟨.ro false ((List.range len).map f), .sl hu (fun y hy => ?_) (by simp; omega), CR.one ?_ rfl⟩
    ·obtain ⟨i, hi, rfl⟩ := List.mem_map.1 hy
     obtain ⟨_, _, h2, _⟩ := hf i (List.mem_range.1 hi)
     exact h2
    ·by_cases h0 : len = 0
     ·subst h0; exact .roNil ..
     have hfi : ∀ (i : Nat) (y : AV), ((List.range len).map f)[i]? = some y → i < len ∧ y = f i := by
      intro i y hy
      simp only [List.getElem?_map] at hy
      by_cases q : i < len
      ·rw [List.getElem?_range q] at hy; simp at hy; exact ⟨q, hy.symm⟩
      ·rw [List.getElem?_eq_none (by simp; omega)] at hy; simp at hy
     have hsp : a.spot = none := by
      obtain ⟨cs', h1, h2, h3⟩ := hf 0 (by omega)
      obtain ⟨hl, hc⟩ := cells?_get h1
      have := hc 0 (cs'[0]'(by omega)) (List.getElem?_eq_getElem _)
      have := qY this
      simpa [Addr.add] using this
     have hadd : ∀ m, a.add m = ⟨a.block, a.off + m, none⟩ := by
      intro m
      unfold Addr.add
      split
      ·rename_i q; subst q; cases a; simp at hsp; subst hsp; rfl
      ·rfl
     have hcell : ∀ (i : Nat) (y : AV) (j : Nat) (z : AV), ((List.range len).map f)[i]? = some y → y.cells[j]? = some z → ∃ v, w.cell? ⟨a.block, a.off + i * P.cellsOf e + j, a.spot⟩ = some v ∧ Rel (Ctx.top S w) z v ∧ v.oneCell' = true := by
      intro i y j z hy hz
      obtain ⟨hi, rfl⟩ := hfi i y hy
      obtain ⟨cs', h1, h2, h3⟩ := hf i hi
      obtain ⟨hl, hc⟩ := cells?_get h1
      have hj : j < cs'.length := by rw [← h3.1]; exact (List.getElem?_eq_some_iff.1 hz).1
      have h4 := hc j cs'[j] (List.getElem?_eq_getElem hj)
      have e1 : (a.add (i * P.cellsOf e)).add j = ⟨a.block, a.off + i * P.cellsOf e + j, none⟩ := by
       rw [hadd]
       unfold Addr.add
       split
       ·rename_i q; subst q; rfl
       ·rfl
      rw [e1] at h4
      exact ⟨cs'[j], by rw [hsp]; exact h4, h3.2 j z _ hz (List.getElem?_eq_getElem hj)⟩
     refine .ro (A := a) (V := fun i j => (w.cell? ⟨a.block, a.off + i * P.cellsOf e + j, a.spot⟩).getD default) (sz := P.cellsOf e) (by simp) hlc (.inr rfl) hsp (fun i y hy => ?_) (fun i y j z hy hz => ?_) (fun i y j z hy hz => ?_)
     ·obtain ⟨hi, rfl⟩ := hfi i y hy
      obtain ⟨cs', h1, h2, h3⟩ := hf i hi
      rw [h3.1]; exact (cells?_get h1).1
     ·obtain ⟨v, h1, h2, h3⟩ := hcell i y j z hy hz
      simp only [h1, Option.getD_some]; exact h2
     ·obtain ⟨v, h1, h2, h3⟩ := hcell i y j z hy hz
      simp only [h1, Option.getD_some]
      refine ⟨?_, h3⟩
      show w.cell? _ = _
      rw [← hsp]; exact h1
  ·rename_i fs hu
   simp only [Bool.and_eq_true, List.all_eq_true, List.contains_iff_mem] at hp
   obtain ⟨xs, m, hm, _, hl, hxl, hget⟩ := DataW.trod_struct hu h
   obtain rfl : n = m := by omega
   obtain ⟨ys, h1, h2⟩ := kW (S := S) (cs := cs) ih fs.toList 0 (by rw [hl]; exact hp.1) (fun f hf => hp.2 f hf) (fun f hf => by
    obtain ⟨i, hi⟩ := List.getElem?_of_mem hf
    have hi' : fs[i]? = some f := by simpa using hi
    have := hget i f hi'
    have hlt : i < xs.length := by rw [hxl]; exact (Array.getElem?_eq_some_iff.1 hi').1
    rw [List.getElem?_eq_getElem hlt] at this
    exact ⟨_, this⟩)
   exact ⟨.agg ys, .st hu h1, by simpa [AV.cells] using h2⟩
  ·rename_i k e hu
   simp only [Bool.and_eq_true, List.contains_iff_mem, decide_eq_true_eq] at hp
   obtain ⟨xs, m, hm, _, hl, hxl, hget⟩ := DataW.trod_array hu h
   obtain rfl : n = m := by omega
   obtain ⟨ys, h1, h2⟩ := mZ (S := S) (cs := cs) ih hp.1 k 0 (by rw [hl]; simpa using hp.2) (fun j _ hj => by
    have := hget j (by omega)
    rw [List.getElem?_eq_getElem (by omega)] at this
    exact ⟨_, this⟩)
   exact ⟨.agg ys, .ar hu h1, by simpa [AV.cells] using h2⟩
  ·cases hp
theorem eK {c : Ctx} {y : AV} {v : Value} (h : CR c y.cells [v]) (hy : y.cells = [y]) : Rel c y v := by
 rw [hy] at h
 exact (h.2 0 y v rfl rfl).1
theorem wM (hT : ∀ t ∈ T, mX P T t = true) {t : TypeId} {v : Value} {d : DataW H} {ps : List MemPlace} {r : Reach} {b0 : Nat} (ht : t ∈ T) (ok : Value.okWide P w r b0 t v) (h : DataW.Trod enc P w 0 sp true t v d ps) :
  ∃ y, IsT P t y ∧ Rel (Ctx.top S w) y v := by
 obtain ⟨fuel, hf⟩ := h
 obtain ⟨y, h1, h2⟩ := tT (S := S) hT _ _ _ _ ht hf
 refine ⟨y, h1, ?_⟩
 have hagg : ∀ cs : Array Value, v = .agg cs → ∀ ys, y = .agg ys → Rel (Ctx.top S w) y v := by
  intro cs hv ys hy
  subst hv hy
  simp only [Value.cells, AV.cells] at h2
  have : cs = cs.toList.toArray := by simp
  rw [this]
  refine .agg h2.1 (fun i x u hx hu => (h2.2 i x u hx hu).1) (fun u hu => ?_)
  obtain ⟨i, hi⟩ := List.getElem?_of_mem hu
  have hlt : i < ys.length := by rw [h2.1]; exact (List.getElem?_eq_some_iff.1 hi).1
  exact (h2.2 i _ u (List.getElem?_eq_getElem hlt) hi).2
 cases h1 with
 | bool hu b =>
  have : v.cells.toList = [v] := by
   simp only [Value.okWide, hu] at ok
   cases v <;> simp_all [Cell.okWide, Cell.ok, Value.cells]
  rw [this] at h2
  exact eK h2 rfl
 | int hu n hw =>
  have : v.cells.toList = [v] := by
   simp only [Value.okWide, hu] at ok
   cases v <;> simp_all [Cell.okWide, Cell.ok, Value.cells]
  rw [this] at h2
  exact eK h2 rfl
 | str hu s hs =>
  have : v.cells.toList = [v] := by
   simp only [Value.okWide, hu] at ok
   cases v <;> simp_all [Cell.okWide, Cell.ok, Value.cells]
  rw [this] at h2
  exact eK h2 rfl
 | sl hu hx hl =>
  have : v.cells.toList = [v] := by
   simp only [Value.okWide, hu] at ok
   cases v <;> simp_all [Cell.okWide, Cell.ok, Value.cells]
  rw [this] at h2
  exact eK h2 rfl
 | st hu hf =>
  simp only [Value.okWide, hu] at ok
  obtain ⟨cs, rfl, _, _⟩ := ok
  exact hagg cs rfl _ rfl
 | ar hu hf =>
  simp only [Value.okWide, hu] at ok
  obtain ⟨cs, rfl, _, _⟩ := ok
  exact hagg cs rfl _ rfl
theorem IsT.of_bool {t : TypeId} {x : AV} (hu : P.underlying t = some .bool) (h : IsT P t x) : ∃ b, x = .bool b := by
 cases h with
 | bool _ b => exact ⟨b, rfl⟩
 | int h' => rw [hu] at h'; cases h'
 | str h' => rw [hu] at h'; cases h'
 | sl h' => rw [hu] at h'; cases h'
 | st h' => rw [hu] at h'; cases h'
 | ar h' => rw [hu] at h'; cases h'
theorem IsT.of_int {t : TypeId} {k : IntKind} {x : AV} (hu : P.underlying t = some (.int k)) (h : IsT P t x) : ∃ n, x = .int k n ∧ (Lit.int k n).wf = true := by
 cases h with
 | int h' n hw => rw [hu] at h'; cases h'; exact ⟨n, rfl, hw⟩
 | bool h' => rw [hu] at h'; cases h'
 | str h' => rw [hu] at h'; cases h'
 | sl h' => rw [hu] at h'; cases h'
 | st h' => rw [hu] at h'; cases h'
 | ar h' => rw [hu] at h'; cases h'
inductive IsTs (P : Program) : List TypeId → List AV → Prop
 | nil : IsTs P [] []
 | cons {t : TypeId} {ts : List TypeId} {x : AV} {xs : List AV} (h : IsT P t x) (hs : IsTs P ts xs) : IsTs P (t :: ts) (x :: xs)
theorem IsTs.uncons {t : TypeId} {ts : List TypeId} {ys : List AV} (h : IsTs P (t :: ts) ys) : ∃ x xs, ys = x :: xs ∧ IsT P t x ∧ IsTs P ts xs := by
 cases h with
 | cons h hs => exact ⟨_, _, rfl, h, hs⟩
theorem IsTs.unnil {ys : List AV} (h : IsTs P [] ys) : ys = [] := by
 cases h; rfl
theorem pF (hT : ∀ t ∈ T, mX P T t = true) {r : Reach} {b0 : Nat} : ∀ {ts : List TypeId} {vs : List Value} {ds : List (DataW H)} {ps : List MemPlace}, (∀ t ∈ ts, t ∈ T) →
  (∀ (j : Nat) t v, ts[j]? = some t → vs[j]? = some v → Value.okWide P w r b0 t v) → DataW.TrodAll enc P w 0 sp true ts vs ds ps → ∃ xs, IsTs P ts xs ∧ dK (Ctx.top S w) xs vs
 | [], vs, ds, ps, _, _, h => by
  obtain ⟨rfl, rfl, rfl⟩ := trodAll_nil h
  exact ⟨[], .nil, .nil⟩
 | t :: ts, vs, ds, ps, hm, ok, h => by
  obtain ⟨v, vs', d, ds', p, q, rfl, rfl, rfl, hd, hr⟩ := trodAll_cons h
  obtain ⟨x, h1, h2⟩ := wM (S := S) hT (hm t (by simp)) (ok 0 t v rfl rfl) hd
  obtain ⟨xs, h3, h4⟩ := pF hT (fun u hu => hm u (by simp [hu])) (fun j u v' h1 h2 => ok (j + 1) u v' (by simpa using h1) (by simpa using h2)) hr
  exact ⟨x :: xs, .cons h1 h3, .cons h2 h4⟩
theorem kX (hl : laidOutB P = true) {w' : World} (hb : Below w.heap.size w w') : ∀ {ts : List TypeId} {vs : List Value} {ds : List (DataW H)} {ps : List MemPlace}, (∀ t ∈ ts, P.readableRec t = true ∧ t < P.types.size) →
  DataW.TrodAll enc P w 0 (fun _ => true) true ts vs ds ps → DataW.TrodAll enc P w' 0 (fun b => decide (b < w.heap.size)) true ts vs ds ps
 | [], vs, ds, ps, _, h => by
  obtain ⟨rfl, rfl, rfl⟩ := trodAll_nil h
  exact rfl
 | t :: ts, vs, ds, ps, hm, h => by
  obtain ⟨v, vs', d, ds', p, q, rfl, rfl, rfl, hd, hr⟩ := trodAll_cons h
  have hd' := hd
  obtain ⟨m, hm'⟩ := hd'
  exact ⟨p, q, Below.trod hl (hm t (by simp)).1 (hm t (by simp)).2 hd hb (DataW.trod_lt m _ _ _ hm'), kX hl hb (fun u hu => hm u (by simp [hu])) hr, rfl⟩
end
open Go Go.ChangeShapes Go.WideShapes Go.RowKit
def pH (tp : Nat) (gs : List Nat) : aB := fun g => if gs.contains g then some (.iface tp (.gp g)) else none
theorem sR (tp : Nat) (gs : List Nat) : ∀ g x, pH tp gs g = some x → aZ x = true := by
 intro g x h
 unfold pH at h
 split at h
 ·simp at h; subst h; rfl
 ·cases h
structure SentS (w : World) (tp : Nat) (gs : List Nat) (S : Nat → Option Addr) : Prop where
 here : ∀ g ∈ gs, ∃ a, S g = some a ∧ w.cell? ⟨g, 0, none⟩ = some (.iface tp (.pointer (some a)))
 laid : ∀ g a, S g = some a → ∃ cells elem, w.heap[a.block]? = some (.cells cells elem (0, 0))
 apart : ∀ g g' a a', S g = some a → S g' = some a' → g ≠ g' → a ≠ a'
theorem vY {w : World} {tp : Nat} {gs : List Nat} {S : Nat → Option Addr} (h : SentS w tp gs S) : Good (pH tp gs) (Ctx.top S w) w := by
 refine ⟨fun a v h => h, fun a v h => h, fun k hk => ?_, h.laid, fun g a _ hk => ?_, h.apart, fun g x hx => ?_, fun k hk => ?_, fun g hg => by unfold pH at hg; split at hg <;> simp at hg⟩
 ·obtain ⟨b, i, hb, _⟩ := hk; cases hb
 ·obtain ⟨b, i, hb, _⟩ := hk; cases hb
 ·unfold pH at hx
  split at hx
  ·rename_i hg
   simp at hx; subst hx
   obtain ⟨a, h1, h2⟩ := h.here g (by simpa using hg)
   exact ⟨_, h2, .iface (.gp h1)⟩
  ·cases hx
 ·obtain ⟨b, i, hb, _⟩ := hk; cases hb
theorem vN (w : World) (tp : Nat) : SentS w tp [] (fun _ => none) := ⟨fun g hg => (by cases hg), fun g a h => (by cases h), fun g g' a a' h => (by cases h)⟩
def uB (P : Program) (ti : Nat) : List (String × DataW Unit) → List Nat → Prop
 | [], [] => True
 | x :: L, g :: gs => P.globalNamed x.1 = some g ∧ (P.globals[g]?).map (·.type) = some ti ∧ (∃ text, x.2 = .iface "*errors.errorString" (.ptr (.agg [.lit (.string text)]))) ∧ uB P ti L gs
 | _, _ => False
theorem kY {P : Program} {w : World} {ti tp te ts : TypeId} {ms : Array (String × TypeId)} {f : Field}
  (hi : P.underlying ti = some (.interface ms)) (hrow : ∀ u, P.typeName? 3 u = some "*errors.errorString" → u = tp)
  (hp : P.underlying tp = some (.pointer te)) (he : P.underlying te = some (.struct #[f])) (hft : f.type = ts) (hfo : f.offset = 0) (hs : P.underlying ts = some .string) (hc : P.cellsOf te = 1) (hcs : P.cellsOf ts = 1) :
  ∀ {L : List (String × DataW Unit)} {gs : List Nat} {ps : List MemPlace}, uB P ti L gs → gs.Nodup → DataW.LaidVars P w L ps → ps.Nodup →
   (∀ b off, MemPlace.cell b off ∈ ps → (∃ c t, w.heap[b]? = some (.cells c t (0, 0))) ∧ ∀ u v, w.cell? ⟨b, off, none⟩ = some (.iface u v) → Value.okWide P w .any 0 u v) →
   ∃ S, SentS w tp gs S ∧ ∀ g a, S g = some a → g ∈ gs ∧ MemPlace.cell a.block a.off ∈ ps
 | [], [], ps, _, _, _, _, _ => ⟨_, vN w tp, fun g a h => by cases h⟩
 | [], _ :: _, ps, h, _, _, _, _ => by cases h
 | _ :: _, [], ps, h, _, _, _, _ => by cases h
 | (n, d) :: L, g :: gs, ps, hL, hnd, hv, hpn, hr => by
  obtain ⟨hg, ht, ⟨text, rfl⟩, hL'⟩ := hL
  obtain ⟨g', t', cs, fuel, p, q, hg', ht', hcs', hd, hq, rfl⟩ := hv
  obtain rfl := Option.some.inj (hg.symm.trans hg')
  obtain rfl := Option.some.inj (ht.symm.trans ht')
  rw [List.nodup_cons] at hnd
  obtain ⟨S, hS, hSp⟩ := kY hi hrow hp he hft hfo hs hc hcs hL' hnd.2 hq (List.nodup_append.1 hpn).2.1 (fun b off hb => hr b off (List.mem_append_right _ hb))
  obtain ⟨l⟩ := cs
  have ok : ∀ u v, l = [.iface u v] → Value.okWide P w .any 0 u v := fun u v e => by
   subst e
   exact (hr g 0 (by simp [MemPlace.row])).2 u v (by simpa using World.var?_cell hg hcs' 0)
  obtain ⟨a, s, hl, hc0, hs0, hz0, rfl⟩ := errorString_of_trod hi hrow hp he hft hfo hs hc hcs hd ok
  simp only at hl
  subst hl
  have hin : MemPlace.cell a.block a.off ∈ MemPlace.row (⟨g, 0, none⟩ : Addr) 1 ++ MemPlace.row a 1 := by simp [MemPlace.row]
  have hne : ∀ g2 a2, S g2 = some a2 → a ≠ a2 := by
   intro g2 a2 h2 e
   subst e
   exact (List.nodup_append.1 hpn).2.2 _ hin _ (hSp g2 a h2).2 rfl
  refine ⟨fun x => if x = g then some a else S x, ⟨fun x hx => ?_, fun x b hb => ?_, fun x x' b b' hb hb' hxx => ?_⟩, fun x b hb => ?_⟩
  ·rcases List.mem_cons.1 hx with rfl | hx'
   ·exact ⟨a, by simp, by simpa using World.var?_cell hg hcs' 0⟩
   ·obtain ⟨b, h1, h2⟩ := hS.here x hx'
    have : x ≠ g := fun e => hnd.1 (e ▸ hx')
    exact ⟨b, by simp [this, h1], h2⟩
  ·split at hb
   ·obtain rfl := Option.some.inj hb
    obtain ⟨c, t, h⟩ := (hr a.block a.off (List.mem_append_left _ hin)).1
    exact ⟨c, t, h⟩
   ·exact hS.laid x b hb
  ·split at hb
   ·rename_i e1
    obtain rfl := Option.some.inj hb
    split at hb'
    ·rename_i e2; exact absurd (e1.trans e2.symm) hxx
    ·exact hne _ _ hb'
   ·split at hb'
    ·obtain rfl := Option.some.inj hb'
     exact (hne _ _ hb).symm
    ·exact hS.apart x x' b b' hb hb' hxx
  ·replace hb : (if x = g then some a else S x) = some b := hb
   split at hb
   ·rename_i e; subst e
    obtain rfl := Option.some.inj hb
    exact ⟨by simp, List.mem_append_left _ hin⟩
   ·exact ⟨List.mem_cons_of_mem _ (hSp x b hb).1, List.mem_append_right _ (hSp x b hb).2⟩
theorem qW {P : Program} {w : World} {ti tp te ts : TypeId} {ms : Array (String × TypeId)} {f : Field}
  (hi : P.underlying ti = some (.interface ms)) (hrow : ∀ u, P.typeName? 3 u = some "*errors.errorString" → u = tp)
  (hp : P.underlying tp = some (.pointer te)) (he : P.underlying te = some (.struct #[f])) (hft : f.type = ts) (hfo : f.offset = 0) (hs : P.underlying ts = some .string) (hc : P.cellsOf te = 1) (hcs : P.cellsOf ts = 1)
  {L : List (String × DataW Unit)} {gs : List Nat} (hL : uB P ti L gs) (hnd : decide gs.Nodup = true) (h : laidMet P L w) : ∃ S, SentS w tp gs S := by
 obtain ⟨ps, h1, h2, h3⟩ := h
 obtain ⟨S, hS, _⟩ := kY hi hrow hp he hft hfo hs hc hcs hL (of_decide_eq_true hnd) h1 h2 h3
 exact ⟨S, hS⟩
theorem uW {P : Program} {G : aB} {f : Nat} {g : bH} (hs : Sound P G f g) {xs : List AV} (hg : g xs [] = some (.bool true, [])) {S : Nat → Option Addr} {w : World} (hgood : Good G (Ctx.top S w) w) {vs : List Value} (hr : dK (Ctx.top S w) xs vs) :
  Calls P f vs.toArray w (fun e w' => e = .returned (.bool true) ∧ Below w.heap.size w w') := by
 refine (hs.calls xs [] _ [] hg (Ctx.top S w) w vs hgood ⟨by simp, by simp [Ctx.top]⟩ (lE.nil (fun _ => rfl)) hr).mono fun e w' he => ?_
 obtain ⟨v, c', rfl, h⟩ := he
 obtain rfl := h.rel.of_bool
 refine ⟨rfl, h.step.os, h.step.tape, h.step.output, h.step.size, fun k hk => h.step.kept k hk ?_⟩
 rintro ⟨b, i, hb, _⟩
 cases hb
theorem wJ {H : Type} {enc : TypeId × Value → H} {P : Program} {fn : Func} {s : ChangeSpec} {ts : List TypeId} {t : TypeId} (hv : s.vars = []) (hts : fn.params.toList = ts) (hres : fn.resultTypes = #[t]) (ht : P.underlying t = some .bool)
  (hspec : ∀ ds : List (DataW H), ds.length = ts.length → s.fn H ds = { results := [.lit (.bool true)], args := ds })
  (hl : laidOutB P = true) (hr : (ts.all fun t => P.readableRec t && decide (t < P.types.size)) = true) {w w' : World} {args : Array Value} {ds gs : List (DataW H)} {before : List MemPlace}
  (hW : DataW.Whole enc P fn.params.toList s.vars false w args.toList ds gs before) (hb : Below w.heap.size w w') :
  s.post enc P fn false true false false w args (.bool true) w' := by
 have hW' := hW
 obtain ⟨p, q, hA, hV, rfl, _, _⟩ := hW
 rw [hts] at hA
 rw [hv] at hV
 obtain ⟨rfl, rfl⟩ := trodVars_none hV
 have len : ∀ {ts : List TypeId} {vs : List Value} {ds : List (DataW H)} {ps : List MemPlace}, DataW.TrodAll enc P w 0 (fun _ => true) true ts vs ds ps → ds.length = ts.length := by
  intro ts
  induction ts with
  | nil => intro vs ds ps h; obtain ⟨rfl, rfl, rfl⟩ := trodAll_nil h; rfl
  | cons t ts ih =>
   intro vs ds ps h
   obtain ⟨v, vs', d, ds', p, q, rfl, rfl, rfl, hd, hr⟩ := trodAll_cons h
   simp [ih hr]
 have e1 := hspec ds (len hA)
 have e2 : s.fn H (ds ++ []) = { results := [.lit (.bool true)], args := ds } := by rw [List.append_nil]; exact e1
 refine ⟨ds, [], _, [], p, [], hW', ?_, ?_, ?_, hb.frame _, fun h => by cases h⟩
 ·rw [e2, hres]
  exact trodAll_mk1 (shut_bool ht true)
 ·rw [e2, hts]
  exact kX hl hb (fun t ht => by
   have := List.all_eq_true.1 hr t ht
   simp only [Bool.and_eq_true, decide_eq_true_eq] at this
   exact this) hA
 ·rw [e2, hv]; exact rfl
@[simp] theorem rJ {γ : Type} (v : AV) (H : aA) (k : AV → aA → Option γ) : aD (some (v, H)) k = k v H := by unfold aD; rfl
@[simp] theorem wK (H : aA) (v : AV) : pu H (some v) = some (v, H) := by unfold pu; rfl
@[simp] theorem tJ (x y : Option dJ) : aS (.bool true) x y = x := by unfold aS; rfl
@[simp] theorem rN (x y : Option dJ) : aS (.bool false) x y = y := by unfold aS; rfl
@[simp] theorem aAk (H : aA) (m : Option (AV × aA)) : gd (.bool true) true H m = m := by unfold gd; rfl
@[simp] theorem aAg (H : aA) (m : Option (AV × aA)) : gd (.bool false) false H m = m := by unfold gd; rfl
@[simp] theorem aAj (H : aA) (m : Option (AV × aA)) : gd (.bool true) false H m = some (.tup [], H) := by unfold gd; rfl
@[simp] theorem aAh (H : aA) (m : Option (AV × aA)) : gd (.bool false) true H m = some (.tup [], H) := by unfold gd; rfl
@[simp] theorem aAi (w : Bool) (H : aA) (m : Option (AV × aA)) : gd (.tup []) w H m = some (.tup [], H) := by unfold gd; rfl
@[simp] theorem yI (x y : AV) : cO (.bool true) x y = some x := by unfold cO; rfl
@[simp] theorem xO (x y : AV) : cO (.bool false) x y = some y := by unfold cO; rfl
@[simp] theorem yO (e : Ex) (xs : List AV) (H : aA) (k : Ex → List AV → aA → Option dJ) : bU (some (e, xs, H)) k = k e xs H := by unfold bU; rfl
@[simp] theorem xX {γ : Type} (a : γ) (b : Nat → γ) (r : γ) : eE .normal a b r = a := by unfold eE; rfl
@[simp] theorem zD {γ : Type} (i : Nat) (a : γ) (b : Nat → γ) (r : γ) : eE (.exit i) a b r = b i := by unfold eE; rfl
@[simp] theorem zW {γ : Type} (a : γ) (b : Nat → γ) (r : γ) : eE .ret a b r = r := by unfold eE; rfl
@[simp] theorem zJ (x : AV) (xs : List AV) : aC (x :: xs) 0 = x := by unfold aC; rfl
@[simp] theorem zI (x : AV) (xs : List AV) (i : Nat) : aC (x :: xs) (i + 1) = aC xs i := by rw [aC]
@[simp] theorem sJ (r : AV) (H : aA) : dG (some (.ret, [r], H)) = some (r, H) := by unfold dG; rfl
@[congr] theorem yU {γ : Type} {m m' : Option (AV × aA)} {k : AV → aA → Option γ} (h : m = m') : aD m k = aD m' k := by rw [h]
@[congr] theorem xQ {m m' : Option dJ} {k : Ex → List AV → aA → Option dJ} (h : m = m') : bU m k = bU m' k := by rw [h]
@[congr] theorem xI {c c' : AV} {x y : Option dJ} (h : c = c') : aS c x y = aS c' x y := by rw [h]
@[congr] theorem yW {γ : Type} {e e' : Ex} {a : γ} {b : Nat → γ} {r : γ} (h : e = e') : eE e a b r = eE e' a b r := by rw [h]
@[congr] theorem zF {g g' : AV} {w : Bool} {H : aA} {m : Option (AV × aA)} (h : g = g') : gd g w H m = gd g' w H m := by rw [h]
theorem uY (H : aA) : rQ 0 [] H = some [] := rfl
theorem wY {H : aA} {n : Nat} {x : AV} (h : cF n x = true) (d : Nat) : vX H n d x = some x := by
 cases d <;> simp [vX, h]
theorem jY {x : AV} (h : cF 0 x = true) (H : aA) : bR [x] 0 H = some (.ret, [x], []) := by
 simp [bR, mW, wY h, uY]
@[simp] theorem rY (k : IntKind) (n : Int) (H : aA) : bR [.int k n] 0 H = some (.ret, [.int k n], []) := jY rfl H
@[simp] theorem yX (b : Bool) (H : aA) : bR [.bool b] 0 H = some (.ret, [.bool b], []) := jY rfl H
theorem tW {H : aA} {x : AV} (h : aZ x = true) : vO H x = some x := by
 cases x with
 | agg cs =>
  simp only [aZ] at h
  have : ∀ cs : List AV, eB cs = true → eI H cs = some cs := by
   intro cs
   induction cs with
   | nil => intro _; rfl
   | cons y ys ih =>
    intro hp
    simp only [eB, Bool.and_eq_true] at hp
    have h1 : nE H y = some y := by cases y <;> simp_all [nE, aZ]
    simp [eI, h1, ih hp.2]
  simp [vO, this cs h]
 | _ => simp_all [vO, nE, aZ]
theorem lA {H : aA} : ∀ {xs : List AV}, eB xs = true → nF H xs = some xs
 | [], _ => rfl
 | x :: xs, h => by
  simp only [eB, Bool.and_eq_true] at h
  simp [nF, tW h.1, lA h.2]
theorem kU {g : bH} {args : List AV} {r : AV} {H : aA} (hg : g args [] = some (r, [])) (ha : eB args = true) (hr : dB r = true) : bA g args H = some (r, H) := by
 simp [bA, lA ha, hg, hr]
section
variable (P : Program) (t : Nat) (c : Bool) (k k' : IntKind) (a b : Int)
@[simp] theorem wU : bJ P .add t c (.int k a) (.int k b) = some (.int k (k.wrap (a + b))) := by simp [bJ, dP]
@[simp] theorem zU : bJ P .sub t c (.int k a) (.int k b) = some (.int k (k.wrap (a - b))) := by simp [bJ, dP]
@[simp] theorem zS : bJ P .mul t c (.int k a) (.int k b) = some (.int k (k.wrap (a * b))) := by simp [bJ, dP]
theorem wV (h : b ≠ 0) : bJ P .rem t c (.int k a) (.int k b) = some (.int k (a.tmod b)) := by simp [bJ, dP, h]
@[simp] theorem zN : bJ P .and t c (.int k a) (.int k b) = some (.int k (bits .and k a b)) := by simp [bJ, dP]
@[simp] theorem zZ : bJ P .or t c (.int k a) (.int k b) = some (.int k (bits .or k a b)) := by simp [bJ, dP]
@[simp] theorem zV : bJ P .xor t c (.int k a) (.int k b) = some (.int k (bits .xor k a b)) := by simp [bJ, dP]
@[simp] theorem xU : bJ P .andNot t c (.int k a) (.int k b) = some (.int k (bits .andNot k a b)) := by simp [bJ, dP]
@[simp] theorem zO : bJ P .eql t c (.int k a) (.int k b) = some (.bool (decide (a = b))) := by simp [bJ, dP]; rfl
@[simp] theorem zT : bJ P .neq t c (.int k a) (.int k b) = some (.bool (decide (a ≠ b))) := by simp [bJ, dP, bne]; rfl
@[simp] theorem uE : bJ P .lss t c (.int k a) (.int k b) = some (.bool (decide (a < b))) := by simp [bJ, dP]
@[simp] theorem zR : bJ P .leq t c (.int k a) (.int k b) = some (.bool (decide (a ≤ b))) := by simp [bJ, dP]
@[simp] theorem zQ : bJ P .gtr t c (.int k a) (.int k b) = some (.bool (decide (b < a))) := by simp [bJ, dP]
@[simp] theorem zP : bJ P .geq t c (.int k a) (.int k b) = some (.bool (decide (b ≤ a))) := by simp [bJ, dP]
end
theorem tC (n : Int) : IntKind.i64.wrap n = if n % 18446744073709551616 ≥ 9223372036854775808 then n % 18446744073709551616 - 18446744073709551616 else n % 18446744073709551616 := by
 simp [IntKind.wrap, IntKind.bits, IntKind.signed]
theorem tD {n : Int} (h0 : -9223372036854775808 ≤ n) (h1 : n < 9223372036854775808) : IntKind.i64.wrap n = n := by
 rw [tC]; split <;> omega
theorem yR {n : Int} (h : (Lit.int .i64 n).wf = true) : -9223372036854775808 ≤ n ∧ n < 9223372036854775808 := by
 simp [Lit.wf, IntKind.min, IntKind.max, IntKind.signed, IntKind.bits] at h; omega
@[simp] theorem xJ (k k' : IntKind) (n : Int) : eJ k (.int k' n) = some (.int k (k.wrap n)) := by unfold eJ; rfl
@[simp] theorem zX (k : IntKind) (a b : Int) : jD pB (.int k a) [.int k b] = some (.int k (max a b)) := by
 simp only [jD, pB, Option.bind_some]
 congr 2
 split <;> omega
@[simp] theorem aAd (b : Bool) : un .not (.bool b) = some (.bool (!b)) := by unfold un; rfl
theorem oF {m : Option dJ} {x : AV} {H : aA} (h : m = some (.ret, [x], H)) : dG m = some (x, H) := by rw [h]; rfl
@[simp] theorem aAe {γ : Type} (H : aA) (k : aA → Option γ) : vK [] H k = k H := by unfold vK; rfl
@[simp] theorem zY {γ : Type} (q : AV × Nat × Nat × Nat) (l : List (AV × Nat × Nat × Nat)) (H : aA) (k : aA → Option γ) : vK (q :: l) H k = vK l (uS q H) k := by rw [vK]
abbrev KK := Ex → List AV → aA → Option dJ
def E {γ : Type} (f : Option dJ → Option γ) (ks : List KK) (m : Option dJ) (r : Option γ) : Prop := f (ks.foldl bU m) = r
section
variable {γ : Type} {f : Option dJ → Option γ} {ks : List KK} {r : Option γ}
variable {P : Program} {t : Nat} {c : Bool} {k : IntKind} {a b : Int} {H : aA} {K : AV → aA → Option dJ}
end
section
variable {P : Program} {t : Nat} {c : Bool} {k : IntKind} {a b : Int}
end
section
variable {G : aB} {g : Bool} {s b L i o t z : Nat} {cs : List AV} {blk : ABlk} {H : aA} {v x : AV}
end
theorem w1 {x x' : AV} {H : aA} (h : cF 0 x = true) (e : x = x') : E dG [] (bR [x] 0 H) (some (x', [])) := by subst e; exact oF (jY h H)
mutual
theorem gQ {n m : Nat} (h : n ≤ m) : ∀ {x : AV}, cF n x = true → cF m x = true
 | .mp .., hx => by simp [cF] at hx ⊢; omega
 | .ptr .., hx => by simp [cF] at hx ⊢; omega
 | .sl .., hx => by simp [cF] at hx ⊢; omega
 | .fn _ caps, hx => by simp only [cF] at hx ⊢; exact eM h hx
 | .iface _ v, hx => by simp only [cF] at hx ⊢; exact gQ h hx
 | .agg cs, hx => by simp only [cF] at hx ⊢; exact eM h hx
 | .tup vs, hx => by simp only [cF] at hx ⊢; exact eM h hx
 | .ro _ xs, hx => by simp only [cF] at hx ⊢; exact eM h hx
 | .rp _ x _, hx => by simp only [cF] at hx ⊢; exact gQ h hx
 | .undef, _ => rfl
 | .bool _, _ => rfl
 | .int .., _ => rfl
 | .str _, _ => rfl
 | .nilp, _ => rfl
 | .nilf, _ => rfl
 | .nili, _ => rfl
 | .gl _, _ => rfl
 | .gp _, _ => rfl
 | .nils, _ => rfl
 | .anyb, _ => rfl
 | .emp, _ => rfl
theorem eM {n m : Nat} (h : n ≤ m) : ∀ {xs : List AV}, dY n xs = true → dY m xs = true
 | [], _ => rfl
 | x :: xs, hx => by
  simp only [dY, Bool.and_eq_true] at hx ⊢
  exact ⟨gQ h hx.1, eM h hx.2⟩
end
end Go.Proofs.YtlkgkfgkiidhdaaDoor.Mir
