/- Part 4 of the proof: the evaluator and its soundness. -/
import Derived.Test.YtlkgkfgkiidhdaaDoorVo3
import Derived.ProofKit
import Derived.LaidLaws
import Derived.OpenShut
import Derived.Lib.LaidTab
import Derived.Lib.ItoaNum
namespace Go.Proofs.YtlkgkfgkiidhdaaDoor.Mir
open Go
set_option linter.unusedSimpArgs false
set_option linter.unusedVariables false
def aJt (P : Program) (G : aC) (T : TS) (H : aA) : ResultVar → Option AV
 | .tmp t => some (T t)
 | .cell a t => oM P G t (T a) H
def aFE (P : Program) (G : aC) (T : TS) (H : aA) : List ResultVar → Option (List AV)
 | [] => some []
 | r :: l => match aJt P G T H r, aFE P G T H l with
  | some x, some xs => some (x :: xs)
  | _, _ => none
def iQ (xs : List AV) : AV :=
 match xs with
 | [x] => x
 | xs => .tup xs
def cS (xs : List AV) (n0 : Nat) (H : aA) : Option fJ :=
 match lO H n0 6 (iQ xs), eF n0 [] H with
 | some r, some H' => some (.ret, [r], H')
 | _, _ => none
def aAx : List (Option AV) → Option (List AV)
 | [] => some []
 | r :: l => match r, aAx l with
  | some x, some xs => some (x :: xs)
  | _, _ => none
def jM (l : List (Option AV)) (n0 : Nat) (H : aA) : Option fJ :=
 match aAx l with
 | some xs => cS xs n0 H
 | none => none
def aHC (P : Program) (G : aC) (rs : List ResultVar) (n0 : Nat) (T : TS) (H : aA) : Option fJ :=
 match aFE P G T H rs with
 | some xs => cS xs n0 H
 | none => none
def aJP (P : Program) (G : aC) (rs : List ResultVar) (n0 : Nat) : vJ
 | .normal, T, H => aHC P G rs n0 T H
 | .ret, T, H => aHC P G rs n0 T H
 | .exit _, _, _ => none
def aAU (xs : List AV) (H : aA) : Option fJ := some (.ret, [iQ xs], H)
def aEx (P : Program) (G : aC) (rs : List ResultVar) (T : TS) (H : aA) : Option fJ :=
 match aFE P G T H rs with
 | some xs => aAU xs H
 | none => none
def aIw (P : Program) (G : aC) (rs : List ResultVar) : vJ
 | .normal, T, H => aEx P G rs T H
 | .ret, T, H => aEx P G rs T H
 | .exit _, _, _ => none
def zG (args : List AV) : TS := fun t => match args[t]? with | some x => x | none => .tup []
def fQ (m : Option fJ) : Option (AV × aA) :=
 match m with
 | some (_, [r], H') => some (r, H')
 | _ => none
def fB (P : Program) (G : aC) (E : nT) (ann : Ann) (rs : List ResultVar) (code : Code) (N n : Nat) (args : List AV) (H : aA) : Option (AV × aA) :=
 match decide (args.length ≤ N) with
 | true => fQ (iR P G E ann n code (aJP P G rs H.length) (zG args) H)
 | false => none
def vQ (P : Program) (G : aC) (E : nT) (ann : Ann) (rs : List ResultVar) (code : Code) (N n : Nat) (args : List AV) (H : aA) : Option (AV × aA) :=
 match decide (args.length ≤ N) with
 | true => fQ (iR P G E ann n code (aIw P G rs) (zG args) H)
 | false => none
def aId (tmps : Array Value) : ResultVar → Sem Value
 | .tmp t => pure (tmps.getD t undef)
 | .cell x t => do loadVar t (← asAddr (tmps.getD x undef))
theorem xO (fn : Func) (tmps : Array Value) : results fn tmps = (do let vs ← fn.results.mapM (aId tmps); pure (if h : vs.size = 1 then vs[0] else .tuple vs)) := by
 unfold results
 congr 1
theorem oW {P : Program} {G : aC} {T : TS} {H : aA} {c : Ctx} {a : Act} {w : World} (hg : Good G c w) (hH : HeapAt c H w) (hT : ∀ t, Rel c (T t) (a.tmps.getD t undef)) :
  ∀ (l : List ResultVar) (xs : List AV), aFE P G T H l = some xs →
   ∃ vs : List Value, (l.mapM (aId a.tmps)).run P w = .ok vs w ∧ iB c xs vs
 | [], xs, h => by simp [aFE] at h; subst h; exact ⟨[], by simp, .nil⟩
 | r :: l, xs, h => by
  simp only [aFE] at h
  split at h
  case h_2 => cases h
  rename_i x xs' h1 h2
  simp at h; subst h
  obtain ⟨vs, e1, e2⟩ := oW hg hH hT l xs' h2
  have hr : ∃ v, (aId a.tmps r).run P w = .ok v w ∧ Rel c x v := by
   cases r with
   | tmp t =>
    simp [aJt] at h1; subst h1
    exact ⟨_, rfl, hT t⟩
   | cell y t =>
    simp only [aJt] at h1
    obtain ⟨v, g1, g2⟩ := oN h1 hg hH (hT y)
    refine ⟨v, ?_, g2⟩
    simp only [aId]
    generalize a.tmps.getD y undef = q at g1 ⊢
    cases q <;> simp [Instr.loadAt, Instr.sureAddr] at g1
    case pointer p =>
     cases p with
     | none => simp at g1
     | some p => simpa [asAddr] using g1
  obtain ⟨v, g1, g2⟩ := hr
  refine ⟨v :: vs, ?_, .cons g2 e2⟩
  simp only [List.mapM_cons, Sem.run_bind, g1, Result.andThen_ok, e1, Sem.run_pure]
theorem aBL {P : Program} {G : aC} {E : nT} {ann : Ann} {f : Nat} {fn : Func} {code : Code} {rs : List ResultVar} {N n : Nat} (hE : EnvSound P G E) (hm : P.follows .mixedOrders = true)
  (hf : P.funcs[f]? = some fn) (hb : fn.body = some code) (hname : (fn.name == "runtime.NumGoroutine") = false) (hrs : fn.results.toList = rs) (hN : fn.ntmps = N) (hok : iH ann (eO E) N code = true) :
  Sound P G f (fB P G E ann rs code N n) := by
 refine ⟨⟨fn, hf, by simp [hb], hname⟩, fun args H r H' h c w vs hg hH hd ha => ?_⟩
 unfold fB at h
 split at h
 case h_2 => cases h
 rename_i hlen
 have hlen' : args.length ≤ N := of_decide_eq_true hlen
 unfold fQ at h
 split at h
 case h_2 => cases h
 rename_i e r' H1 hex
 simp only [Option.some.injEq, Prod.mk.injEq] at h
 obtain ⟨rfl, rfl⟩ := h
 refine calls_of_wp hf hb ?_
 have hvl := ha.1
 have hst : St G c w N H.length (zG args) H c { tmps := vs.toArray ++ Array.replicate (fn.ntmps - vs.toArray.size) undef, defers := [] } w := by
  refine ⟨hg, hH, hd, .refl c w, fun t => ?_, by simp; omega, rfl, Nat.le_refl _⟩
  unfold zG
  split
  ·rename_i x hx
   obtain ⟨v, h1, h2⟩ := ha.get hx
   have ht : t < vs.length := (List.getElem?_eq_some_iff.1 h1).1
   have : (vs.toArray ++ Array.replicate (fn.ntmps - vs.toArray.size) undef).getD t undef = v := by
    rw [Array.getD_eq_getD_getElem?, Array.getElem?_append_left (by simpa using ht)]
    simp [h1]
   rw [this]; exact h2
  ·rename_i hx
   have ht : vs.length ≤ t := by rw [← hvl]; exact List.getElem?_eq_none_iff.1 hx
   have : (vs.toArray ++ Array.replicate (fn.ntmps - vs.toArray.size) undef).getD t undef = undef := by
    rw [Array.getD_eq_getD_getElem?, Array.getElem?_append_right (by simpa using ht)]
    rw [Array.getElem?_replicate]
    split <;> rfl
   rw [this]; exact iX c
 refine zQ hE hm n code hok H.length _ _ _ _ _ _ _ _ hd hex hst ?_
 intro e' T' H2 c' a' w' hk hs
 have fin : aHC P G rs H.length T' H2 = some (e, [r'], H1) → a'.defers = [] ∧ ∃ v, (results fn a'.tmps).run P w' = .ok v w' ∧ ∃ v' c'', Ending.returned v = .returned v' ∧ Ret G c w r' H1 v' w' c'' := by
  intro hfin
  refine ⟨hs.defers, ?_⟩
  unfold aHC at hfin
  split at hfin
  case h_2 => cases hfin
  rename_i xs hxs
  unfold cS at hfin
  split at hfin
  case h_2 => cases hfin
  rename_i r1 H3 hfr hcut
  simp only [Option.some.injEq, Prod.mk.injEq, List.cons.injEq, and_true] at hfin
  obtain ⟨_, rfl, rfl⟩ := hfin
  obtain ⟨us, g1, g2⟩ := oW hs.good hs.heap hs.tmps rs xs hxs
  have hrun : (results fn a'.tmps).run P w' = .ok (if h : us.toArray.size = 1 then us.toArray[0] else .tuple us.toArray) w' := by
   rw [xO, Array.mapM_eq_mapM_toList, hrs]
   simp only [Sem.run_bind, Sem.run_map, g1, Result.andThen_ok, Sem.run_pure]
  have hpack : Rel c' (iQ xs) (if h : us.toArray.size = 1 then us.toArray[0] else .tuple us.toArray) := by
   have hl := g2.1
   unfold iQ
   split
   ·rename_i x
    simp only [List.length_cons, List.length_nil] at hl
    obtain ⟨u, rfl⟩ := List.length_eq_one_iff.1 hl.symm
    simpa using g2.head
   ·rename_i hx
    have hne : ¬ (us.toArray.size = 1) := by
     intro q
     simp only [List.size_toArray] at q
     rw [← hl] at q
     obtain ⟨x, rfl⟩ := List.length_eq_one_iff.1 q
     exact hx x rfl
    rw [dif_neg hne]
    exact .tup g2.1 g2.2
  refine ⟨_, hrun, _, c'.lock w' H.length, rfl, aFy hs.good hs.step hd, aFx hs.good hs.heap hE.glob H.length, ?_, ?_, aFr hs.good hs.heap H.length 6 _ _ _ hfr hpack⟩
  ·unfold eF at hcut
   split at hcut
   case h_2 => cases hcut
   rename_i hb
   simp only [Bool.and_eq_true] at hb
   simp at hcut; subst hcut
   have hle := uZ hs.good H.length
   exact (hs.heap.cut hb.2).keep hle (fun _ _ h => h) (fun _ _ => rfl)
  ·intro b hb
   have hl : H3.length = H.length := by
    unfold eF at hcut
    split at hcut
    ·simp at hcut; rw [← hcut]; simp [hs.low]
    ·cases hcut
   by_cases q : b < H.length
   ·omega
   ·simp [Ctx.lock, q] at hb
 cases e' with
 | normal => exact fin hk
 | ret => exact fin hk
 | exit id => simp [aJP] at hk
theorem aAv {P : Program} {G : aC} {E : nT} {ann : Ann} {f : Nat} {fn : Func} {code : Code} {rs : List ResultVar} {N n : Nat} (hE : EnvSound P G E) (hm : P.follows .mixedOrders = true)
  (hf : P.funcs[f]? = some fn) (hb : fn.body = some code) (hname : (fn.name == "runtime.NumGoroutine") = false) (hrs : fn.results.toList = rs) (hN : fn.ntmps = N) (hok : iH ann (eO E) N code = true) :
  Sound P G f (vQ P G E ann rs code N n) := by
 refine ⟨⟨fn, hf, by simp [hb], hname⟩, fun args H r H' h c w vs hg hH hd ha => ?_⟩
 unfold vQ at h
 split at h
 case h_2 => cases h
 rename_i hlen
 have hlen' : args.length ≤ N := of_decide_eq_true hlen
 unfold fQ at h
 split at h
 case h_2 => cases h
 rename_i e r' H1 hex
 simp only [Option.some.injEq, Prod.mk.injEq] at h
 obtain ⟨rfl, rfl⟩ := h
 refine calls_of_wp hf hb ?_
 have hvl := ha.1
 have hst : St G c w N H.length (zG args) H c { tmps := vs.toArray ++ Array.replicate (fn.ntmps - vs.toArray.size) undef, defers := [] } w := by
  refine ⟨hg, hH, hd, .refl c w, fun t => ?_, by simp; omega, rfl, Nat.le_refl _⟩
  unfold zG
  split
  ·rename_i x hx
   obtain ⟨v, h1, h2⟩ := ha.get hx
   have ht : t < vs.length := (List.getElem?_eq_some_iff.1 h1).1
   have : (vs.toArray ++ Array.replicate (fn.ntmps - vs.toArray.size) undef).getD t undef = v := by
    rw [Array.getD_eq_getD_getElem?, Array.getElem?_append_left (by simpa using ht)]
    simp [h1]
   rw [this]; exact h2
  ·rename_i hx
   have ht : vs.length ≤ t := by rw [← hvl]; exact List.getElem?_eq_none_iff.1 hx
   have : (vs.toArray ++ Array.replicate (fn.ntmps - vs.toArray.size) undef).getD t undef = undef := by
    rw [Array.getD_eq_getD_getElem?, Array.getElem?_append_right (by simpa using ht)]
    rw [Array.getElem?_replicate]
    split <;> rfl
   rw [this]; exact iX c
 refine zQ hE hm n code hok H.length _ _ _ _ _ _ _ _ hd hex hst ?_
 intro e' T' H2 c' a' w' hk hs
 have fin : aEx P G rs T' H2 = some (e, [r'], H1) → a'.defers = [] ∧ ∃ v, (results fn a'.tmps).run P w' = .ok v w' ∧ ∃ v' c'', Ending.returned v = .returned v' ∧ Ret G c w r' H1 v' w' c'' := by
  intro hfin
  refine ⟨hs.defers, ?_⟩
  unfold aEx at hfin
  split at hfin
  case h_2 => cases hfin
  rename_i xs hxs
  unfold aAU at hfin
  simp only [Option.some.injEq, Prod.mk.injEq, List.cons.injEq, and_true] at hfin
  obtain ⟨_, rfl, rfl⟩ := hfin
  obtain ⟨us, g1, g2⟩ := oW hs.good hs.heap hs.tmps rs xs hxs
  have hrun : (results fn a'.tmps).run P w' = .ok (if h : us.toArray.size = 1 then us.toArray[0] else .tuple us.toArray) w' := by
   rw [xO, Array.mapM_eq_mapM_toList, hrs]
   simp only [Sem.run_bind, Sem.run_map, g1, Result.andThen_ok, Sem.run_pure]
  have hpack : Rel c' (iQ xs) (if h : us.toArray.size = 1 then us.toArray[0] else .tuple us.toArray) := by
   have hl := g2.1
   unfold iQ
   split
   ·rename_i x
    simp only [List.length_cons, List.length_nil] at hl
    obtain ⟨u, rfl⟩ := List.length_eq_one_iff.1 hl.symm
    simpa using g2.head
   ·rename_i hx
    have hne : ¬ (us.toArray.size = 1) := by
     intro q
     simp only [List.size_toArray] at q
     rw [← hl] at q
     obtain ⟨x, rfl⟩ := List.length_eq_one_iff.1 q
     exact hx x rfl
    rw [dif_neg hne]
    exact .tup g2.1 g2.2
  exact ⟨_, hrun, _, c', rfl, hs.step, hs.good, hs.heap, hs.dom, hpack⟩
 cases e' with
 | normal => exact fin hk
 | ret => exact fin hk
 | exit id => simp [aIw] at hk
def fI : List (Nat × Bool × cK) → nT
 | [], _ => none
 | (f, p, g) :: l, n => if n = f then some (p, g) else fI l n
theorem aCe : ∀ {l : List (Nat × Bool × cK)} {n : Nat} {p : Bool} {g : cK}, fI l n = some (p, g) → ∃ e ∈ l, e.1 = n ∧ e.2.1 = p ∧ e.2.2 = g
 | [], n, p, g, h => by simp [fI] at h
 | (f, q, k) :: l, n, p, g, h => by
  simp only [fI] at h
  split at h
  ·rename_i e
   simp only [Option.some.injEq, Prod.mk.injEq] at h
   exact ⟨(f, q, k), by simp, e.symm, h.1, h.2⟩
  ·obtain ⟨e, h1, h2⟩ := aCe h
   exact ⟨e, by simp [h1], h2⟩
theorem bN {P : Program} {G : aC} {l : List (Nat × Bool × cK)} (hG : ∀ g x, G g = some x → bP x = true) (h : ∀ e ∈ l, Sound P G e.1 e.2.2) : EnvSound P G (fI l) :=
 ⟨fun f p g hf => by
  obtain ⟨e, h1, h2, _, h4⟩ := aCe hf
  subst h2 h4
  exact h e h1, hG⟩
def dJ (fn : Func) : Code := match fn.body with | some c => c | none => .skip
def inL (l : List Nat) (n : Nat) : Bool := match l with | [] => false | x :: l => if n = x then true else inL l n
def aJe (l : List (Nat × List Nat)) (n : Nat) : List Nat := match l with | [] => [] | (x, ks) :: l => if n = x then ks else aJe l n
def aJd (l : List (Nat × List Nat)) (n : Nat) : Option (List Nat) := match l with | [] => none | (x, ks) :: l => if n = x then some ks else aJd l n
def aJU (l : List (Nat × List (Nat × Nat × Nat × Nat))) (n : Nat) : List (Nat × Nat × Nat × Nat) := match l with | [] => [] | (x, ks) :: l => if n = x then ks else aJU l n
def aJT (l : List (Nat × List (Nat × Nat × Nat × Nat × Nat))) (n : Nat) : List (Nat × Nat × Nat × Nat × Nat) := match l with | [] => [] | (x, ks) :: l => if n = x then ks else aJT l n
def fD (own nilS : List Nat) (keep join : List (Nat × List Nat)) : Ann := { own := inL own, nil := inL nilS, keep := aJe keep, join := aJd join, virt := fun _ => [], pt := fun _ => false, virtM := fun _ => [], grow := fun _ => false, neu := fun _ => false }
def aJl (own nilS : List Nat) (keep join : List (Nat × List Nat)) (virt : List (Nat × List (Nat × Nat × Nat × Nat))) (pt : List Nat) (virtM : List (Nat × List (Nat × Nat × Nat × Nat × Nat))) (grow mk : List Nat) : Ann := { own := inL own, nil := inL nilS, keep := aJe keep, join := aJd join, virt := aJU virt, pt := inL pt, virtM := aJT virtM, grow := inL grow, neu := inL mk }
theorem bX {P : Program} {G : aC} {f : Nat} (h : ∃ fn, P.funcs[f]? = some fn ∧ fn.body.isSome = true ∧ (fn.name == "runtime.NumGoroutine") = false) {g : cK} (hg : ∀ args H, g args H = none) : Sound P G f g :=
 ⟨h, fun args H r H' hr => by rw [hg] at hr; cases hr⟩
theorem bZ {P : Program} {G : aC} {l : List (Nat × Bool × cK)} {ann : Ann} {f : Nat} {fn : Func} {N n : Nat} (hE : EnvSound P G (fI l)) (hm : P.follows .mixedOrders = true)
  (hf : P.funcs[f]? = some fn) (hb : fn.body.isSome = true) (hname : (fn.name == "runtime.NumGoroutine") = false) (hN : fn.ntmps = N) (hok : iH ann (eO (fI l)) N (dJ fn) = true) {g : cK}
  (hg : ∀ args H x, g args H = some x → fB P G (fI l) ann fn.results.toList (dJ fn) N n args H = some x) : Sound P G f g := by
 obtain ⟨c, hc⟩ := Option.isSome_iff_exists.1 hb
 have : dJ fn = c := by simp [dJ, hc]
 exact (aBL hE hm hf (by rw [hc, this]) hname rfl hN hok).mono hg
theorem uM {P : Program} {G : aC} {l : List (Nat × Bool × cK)} {ann : Ann} {f : Nat} {fn : Func} {N n : Nat} (hE : EnvSound P G (fI l)) (hm : P.follows .mixedOrders = true)
  (hf : P.funcs[f]? = some fn) (hb : fn.body.isSome = true) (hname : (fn.name == "runtime.NumGoroutine") = false) (hN : fn.ntmps = N) (hok : iH ann (eO (fI l)) N (dJ fn) = true) {g : cK}
  (hg : ∀ args H x, g args H = some x → vQ P G (fI l) ann fn.results.toList (dJ fn) N n args H = some x) : Sound P G f g := by
 obtain ⟨c, hc⟩ := Option.isSome_iff_exists.1 hb
 have : dJ fn = c := by simp [dJ, hc]
 exact (aAv hE hm hf (by rw [hc, this]) hname rfl hN hok).mono hg
theorem dP {P : Program} {G : aC} : ∀ e ∈ ([] : List (Nat × Bool × cK)), Sound P G e.1 e.2.2 := fun e he => by cases he
theorem bY {P : Program} {G : aC} {f : Nat} {p : Bool} {g : cK} {l : List (Nat × Bool × cK)} (h : Sound P G f g) (hl : ∀ e ∈ l, Sound P G e.1 e.2.2) : ∀ e ∈ (f, p, g) :: l, Sound P G e.1 e.2.2 := fun e he => by
 rcases List.mem_cons.1 he with rfl | he
 ·exact h
 ·exact hl e he
def hX (m : Option aA) : Option (AV × aA) :=
 match m with
 | some H' => some (.tup [], H')
 | none => none
def aFX (args : List AV) (k : Option (AV × aA)) : Option (AV × aA) :=
 match args with
 | [] => k
 | _ => none
theorem aAz {B : aA → Option (AV × aA)} {a : cK} (h : ∀ H, a [] H = B  H) : ∀ args H x, aFX args (B  H) = some x → a args H = some x := by
 intro args H x hx
 unfold aFX at hx
 split at hx
 ·rw [h]; exact hx
 ·cases hx
def jD (args : List AV) (k : AV → Option (AV × aA)) : Option (AV × aA) :=
 match args with
 | [x0] => k x0
 | _ => none
theorem fM {B : AV → aA → Option (AV × aA)} {a : cK} (h : ∀ x0 H, a [x0] H = B x0 H) : ∀ args H x, jD args (fun x0 => B x0 H) = some x → a args H = some x := by
 intro args H x hx
 unfold jD at hx
 split at hx
 ·rw [h]; exact hx
 ·cases hx
def lW (args : List AV) (k : AV → AV → Option (AV × aA)) : Option (AV × aA) :=
 match args with
 | [x0, x1] => k x0 x1
 | _ => none
theorem gG {B : AV → AV → aA → Option (AV × aA)} {a : cK} (h : ∀ x0 x1 H, a [x0, x1] H = B x0 x1 H) : ∀ args H x, lW args (fun x0 x1 => B x0 x1 H) = some x → a args H = some x := by
 intro args H x hx
 unfold lW at hx
 split at hx
 ·rw [h]; exact hx
 ·cases hx
def aBR (args : List AV) (k : AV → AV → AV → Option (AV × aA)) : Option (AV × aA) :=
 match args with
 | [x0, x1, x2] => k x0 x1 x2
 | _ => none
theorem pC {B : AV → AV → AV → aA → Option (AV × aA)} {a : cK} (h : ∀ x0 x1 x2 H, a [x0, x1, x2] H = B x0 x1 x2 H) : ∀ args H x, aBR args (fun x0 x1 x2 => B x0 x1 x2 H) = some x → a args H = some x := by
 intro args H x hx
 unfold aBR at hx
 split at hx
 ·rw [h]; exact hx
 ·cases hx
def aIW (args : List AV) (k : AV → AV → AV → AV → Option (AV × aA)) : Option (AV × aA) :=
 match args with
 | [x0, x1, x2, x3] => k x0 x1 x2 x3
 | _ => none
theorem aHw {B : AV → AV → AV → AV → aA → Option (AV × aA)} {a : cK} (h : ∀ x0 x1 x2 x3 H, a [x0, x1, x2, x3] H = B x0 x1 x2 x3 H) : ∀ args H x, aIW args (fun x0 x1 x2 x3 => B x0 x1 x2 x3 H) = some x → a args H = some x := by
 intro args H x hx
 unfold aIW at hx
 split at hx
 ·rw [h]; exact hx
 ·cases hx
open Go Go.ChangeShapes Go.WideShapes Go.RowKit
mutual
inductive IsT (P : Program) : TypeId → AV → Prop
 | bool {t : TypeId} (h : P.underlying t = some .bool) (b : Bool) : IsT P t (.bool b)
 | int {t : TypeId} {k : IntKind} (h : P.underlying t = some (.int k)) (n : Int) (hw : (Lit.int k n).wf = true) : IsT P t (.int k n)
 | str {t : TypeId} (h : P.underlying t = some .string) (s : ByteArray) (hs : s.size ≤ maxLen) : IsT P t (.str s)
 | sl {t e : TypeId} {xs : List AV} (h : P.underlying t = some (.slice e)) (hx : ∀ x ∈ xs, IsT P e x) (hl : xs.length ≤ maxLen) : IsT P t (.ro false xs)
 | st {t : TypeId} {fs : Array Field} {cs : List AV} (h : P.underlying t = some (.struct fs)) (hf : IsFs P fs.toList cs) : IsT P t (.agg cs)
 | ar {t : TypeId} {n : Nat} {e : TypeId} {cs : List AV} (h : P.underlying t = some (.array n e)) (hf : IsAr P e n cs) : IsT P t (.agg cs)
inductive IsFs (P : Program) : List Field → List AV → Prop
 | nil : IsFs P [] []
 | cons {f : Field} {fs : List Field} {x : AV} {cs : List AV} (hx : IsT P f.type x) (h : IsFs P fs cs) : IsFs P (f :: fs) (x.cells ++ cs)
inductive IsAr (P : Program) : TypeId → Nat → List AV → Prop
 | nil (e : TypeId) : IsAr P e 0 []
 | cons {e : TypeId} {n : Nat} {x : AV} {cs : List AV} (hx : IsT P e x) (h : IsAr P e n cs) : IsAr P e (n + 1) (x.cells ++ cs)
end
def aHn (P : Program) : List Field → Nat → Nat → Bool
 | [], o, s => o == s
 | f :: fs, o, s => f.offset == o && aHn P fs (o + P.cellsOf f.type) s
def xG (P : Program) (T : List Nat) (t : Nat) : Bool :=
 match P.underlying t with
 | some .bool => true
 | some (.int _) => true
 | some .string => true
 | some (.slice e) => T.contains e && decide (0 < P.cellsOf e)
 | some (.struct fs) => aHn P fs.toList 0 (P.cellsOf t) && fs.toList.all fun f => T.contains f.type
 | some (.array n e) => T.contains e && decide (n * P.cellsOf e = P.cellsOf t)
 | _ => false
def Ctx.top (S : Nat → Option Addr) (w : World) : Ctx := { m := fun _ => none, M := fun a => w.cell? a, B := fun a => w.cell? a, S := S }
def CR (c : Ctx) (ys : List AV) (cs : List Value) : Prop := ys.length = cs.length ∧ ∀ (j : Nat) (y : AV) (v : Value), ys[j]? = some y → cs[j]? = some v → Rel c y v ∧ v.oneCell' = true
theorem CR.nil (c : Ctx) : CR c [] [] := ⟨rfl, fun j y v h => by simp at h⟩
theorem CR.append {c : Ctx} {ys zs : List AV} {cs ds : List Value} (h : CR c ys cs) (k : CR c zs ds) : CR c (ys ++ zs) (cs ++ ds) := by
 refine ⟨by simp [h.1, k.1], fun j y v hy hv => ?_⟩
 by_cases q : j < ys.length
 ·rw [List.getElem?_append_left q] at hy
  rw [List.getElem?_append_left (by rw [← h.1]; exact q)] at hv
  exact h.2 j y v hy hv
 ·rw [List.getElem?_append_right (by omega)] at hy
  rw [List.getElem?_append_right (by rw [← h.1]; omega), ← h.1] at hv
  exact k.2 _ y v hy hv
theorem CR.one {c : Ctx} {x : AV} {v : Value} (h : Rel c x v) (h1 : v.oneCell' = true) : CR c [x] [v] := ⟨rfl, fun j y u hy hu => by
 cases j with
 | zero => simp at hy hu; subst hy hu; exact ⟨h, h1⟩
 | succ j => simp at hy⟩
theorem nS {α : Type} (cs : List α) (o n : Nat) : cs.drop o = (cs.drop o).take n ++ cs.drop (o + n) := by
 rw [← List.drop_drop, List.take_append_drop]
section
variable {H : Type} {enc : TypeId × Value → H} {P : Program} {w : World} {S : Nat → Option Addr} {sp : Nat → Bool} {T : List Nat}
theorem uF {n : Nat} (ih : ∀ (t : TypeId) (cs : List Value) (x : DataW H × List MemPlace), t ∈ T → DataW.trod enc P w 0 sp true n t cs = some x → ∃ y, IsT P t y ∧ CR (Ctx.top S w) y.cells cs) {cs : List Value} :
  ∀ (fs : List Field) (o : Nat), aHn P fs o cs.length = true → (∀ f ∈ fs, f.type ∈ T) →
   (∀ f ∈ fs, ∃ x, DataW.trod enc P w 0 sp true n f.type ((cs.drop f.offset).take (P.cellsOf f.type)) = some x) → ∃ ys, IsFs P fs ys ∧ CR (Ctx.top S w) ys (cs.drop o)
 | [], o, ht, _, _ => by
  simp [aHn] at ht
  subst ht
  exact ⟨[], .nil, by simpa using CR.nil _⟩
 | f :: fs, o, ht, hT, hx => by
  simp only [aHn, Bool.and_eq_true, beq_iff_eq] at ht
  obtain ⟨x, hx0⟩ := hx f (by simp)
  obtain ⟨y, h1, h2⟩ := ih _ _ _ (hT f (by simp)) hx0
  obtain ⟨ys, h3, h4⟩ := uF ih fs (o + P.cellsOf f.type) ht.2 (fun g hg => hT g (by simp [hg])) (fun g hg => hx g (by simp [hg]))
  refine ⟨y.cells ++ ys, .cons h1 h3, ?_⟩
  rw [nS cs o (P.cellsOf f.type)]
  rw [ht.1] at h2
  exact h2.append h4
theorem xL {n : Nat} (ih : ∀ (t : TypeId) (cs : List Value) (x : DataW H × List MemPlace), t ∈ T → DataW.trod enc P w 0 sp true n t cs = some x → ∃ y, IsT P t y ∧ CR (Ctx.top S w) y.cells cs) {cs : List Value} {e : TypeId} (he : e ∈ T) :
  ∀ (m i : Nat), (i + m) * P.cellsOf e = cs.length → (∀ j, i ≤ j → j < i + m → ∃ x, DataW.trod enc P w 0 sp true n e ((cs.drop (j * P.cellsOf e)).take (P.cellsOf e)) = some x) →
   ∃ ys, IsAr P e m ys ∧ CR (Ctx.top S w) ys (cs.drop (i * P.cellsOf e))
 | 0, i, hl, _ => by
  refine ⟨[], .nil e, ?_⟩
  rw [List.drop_eq_nil_of_le (by simp at hl; omega)]
  exact CR.nil _
 | m + 1, i, hl, hx => by
  obtain ⟨x, hx0⟩ := hx i (Nat.le_refl _) (by omega)
  obtain ⟨y, h1, h2⟩ := ih _ _ _ he hx0
  obtain ⟨ys, h3, h4⟩ := xL ih he m (i + 1) (by rw [← hl]; congr 1; omega) (fun j h1 h2 => hx j (by omega) (by omega))
  refine ⟨y.cells ++ ys, .cons h1 h3, ?_⟩
  rw [nS cs (i * P.cellsOf e) (P.cellsOf e)]
  rw [Nat.add_mul, Nat.one_mul] at h4
  exact h2.append h4
theorem cells?_get {a : Addr} {n : Nat} {cs : List Value} (h : w.cells? 0 a n = some cs) : cs.length = n ∧ ∀ (j : Nat) (v : Value), cs[j]? = some v → w.cell? (a.add j) = some v := by
 unfold World.cells? at h
 rw [if_pos (Nat.zero_le _)] at h
 have hl : cs.length = n := by simpa using mapM_some_length h
 refine ⟨hl, fun j v hv => ?_⟩
 have hj : j < n := by rw [← hl]; exact (List.getElem?_eq_some_iff.1 hv).1
 have := mapM_some_get h j j (by simp [hj])
 rw [this, hv]
theorem aBv {a : Addr} {v : Value} (h : w.cell? a = some v) : a.spot = none := by
 unfold World.cell? at h
 split at h
 ·split at h
  ·cases h
  ·rename_i q; simpa using q
 ·cases h
theorem aDN (hT : ∀ t ∈ T, xG P T t = true) : ∀ (fuel : Nat) (t : TypeId) (cs : List Value) (x : DataW H × List MemPlace), t ∈ T → DataW.trod enc P w 0 sp true fuel t cs = some x →
  ∃ y, IsT P t y ∧ CR (Ctx.top S w) y.cells cs := by
 intro fuel
 induction fuel with
 | zero => intro t cs x _ h; simp [DataW.trod] at h
 | succ n ih =>
  intro t cs x ht h
  have hp := hT t ht
  unfold xG at hp
  split at hp
  ·rename_i hu
   obtain ⟨b, rfl, _⟩ := DataW.trod_bool hu h
   exact ⟨.bool b, .bool hu b, CR.one (.bool b) rfl⟩
  ·rename_i k hu
   obtain ⟨m, rfl, _, hw⟩ := DataW.trod_int hu h
   exact ⟨.int k m, .int hu m hw, CR.one (.int k m) rfl⟩
  ·rename_i hu
   obtain ⟨s, rfl, _, hs⟩ := DataW.trod_string hu h
   exact ⟨.str s, .str hu s hs, CR.one (.str s) rfl⟩
  ·rename_i e hu
   simp only [Bool.and_eq_true, List.contains_iff_mem, decide_eq_true_eq] at hp
   rcases DataW.trod_slice hu h with ⟨rfl, _⟩ | ⟨a, len, cap, elems, rest, m, hm, rfl, _, _, hlc, hcm, hel, hget, _⟩
   ·exact ⟨.ro false [], .sl hu (fun x hx => by cases hx) (by simp), CR.one (.roNil ..) rfl⟩
   ·obtain rfl : n = m := by omega
    have each : ∀ i, i < len → ∃ y cs', w.cells? 0 (a.add (i * P.cellsOf e)) (P.cellsOf e) = some cs' ∧ IsT P e y ∧ CR (Ctx.top S w) y.cells cs' := by
     intro i hi
     have h1 := hget i hi
     rw [List.getElem?_eq_getElem (by omega), Option.bind_eq_some_iff] at h1
     obtain ⟨cs', h2, h3⟩ := h1
     obtain ⟨y, h4, h5⟩ := ih _ _ _ hp.1 h3
     exact ⟨y, cs', h2, h4, h5⟩
    obtain ⟨f, hf⟩ : ∃ f : Nat → AV, ∀ i, i < len → ∃ cs', w.cells? 0 (a.add (i * P.cellsOf e)) (P.cellsOf e) = some cs' ∧ IsT P e (f i) ∧ CR (Ctx.top S w) (f i).cells cs' := by
     refine ⟨fun i => if hi : i < len then (each i hi).choose else .undef, fun i hi => ?_⟩
     simp only [dif_pos hi]
     exact (each i hi).choose_spec
    refine ⟨.ro false ((List.range len).map f), .sl hu (fun y hy => ?_) (by simp; omega), CR.one ?_ rfl⟩
    ·obtain ⟨i, hi, rfl⟩ := List.mem_map.1 hy
     obtain ⟨_, _, h2, _⟩ := hf i (List.mem_range.1 hi)
     exact h2
    ·by_cases h0 : len = 0
     ·subst h0; exact .roNil ..
     have hfi : ∀ (i : Nat) (y : AV), ((List.range len).map f)[i]? = some y → i < len ∧ y = f i := by
      intro i y hy
      simp only [List.getElem?_map] at hy
      by_cases q : i < len
      ·rw [List.getElem?_range q] at hy; simp at hy; exact ⟨q, hy.symm⟩
      ·rw [List.getElem?_eq_none (by simp; omega)] at hy; simp at hy
     have hsp : a.spot = none := by
      obtain ⟨cs', h1, h2, h3⟩ := hf 0 (by omega)
      obtain ⟨hl, hc⟩ := cells?_get h1
      have := hc 0 (cs'[0]'(by omega)) (List.getElem?_eq_getElem _)
      have := aBv this
      simpa [Addr.add] using this
     have hadd : ∀ m, a.add m = ⟨a.block, a.off + m, none⟩ := by
      intro m
      unfold Addr.add
      split
      ·rename_i q; subst q; cases a; simp at hsp; subst hsp; rfl
      ·rfl
     have hcell : ∀ (i : Nat) (y : AV) (j : Nat) (z : AV), ((List.range len).map f)[i]? = some y → y.cells[j]? = some z → ∃ v, w.cell? ⟨a.block, a.off + i * P.cellsOf e + j, a.spot⟩ = some v ∧ Rel (Ctx.top S w) z v ∧ v.oneCell' = true := by
      intro i y j z hy hz
      obtain ⟨hi, rfl⟩ := hfi i y hy
      obtain ⟨cs', h1, h2, h3⟩ := hf i hi
      obtain ⟨hl, hc⟩ := cells?_get h1
      have hj : j < cs'.length := by rw [← h3.1]; exact (List.getElem?_eq_some_iff.1 hz).1
      have h4 := hc j cs'[j] (List.getElem?_eq_getElem hj)
      have e1 : (a.add (i * P.cellsOf e)).add j = ⟨a.block, a.off + i * P.cellsOf e + j, none⟩ := by
       rw [hadd]
       unfold Addr.add
       split
       ·rename_i q; subst q; rfl
       ·rfl
      rw [e1] at h4
      exact ⟨cs'[j], by rw [hsp]; exact h4, h3.2 j z _ hz (List.getElem?_eq_getElem hj)⟩
     refine .ro (A := a) (V := fun i j => (w.cell? ⟨a.block, a.off + i * P.cellsOf e + j, a.spot⟩).getD default) (sz := P.cellsOf e) (by simp) hlc (.inr rfl) hsp (fun i y hy => ?_) (fun i y j z hy hz => ?_) (fun i y j z hy hz => ?_)
     ·obtain ⟨hi, rfl⟩ := hfi i y hy
      obtain ⟨cs', h1, h2, h3⟩ := hf i hi
      rw [h3.1]; exact (cells?_get h1).1
     ·obtain ⟨v, h1, h2, h3⟩ := hcell i y j z hy hz
      simp only [h1, Option.getD_some]; exact h2
     ·obtain ⟨v, h1, h2, h3⟩ := hcell i y j z hy hz
      simp only [h1, Option.getD_some]
      refine ⟨?_, h3⟩
      show w.cell? _ = _
      rw [← hsp]; exact h1
  ·rename_i fs hu
   simp only [Bool.and_eq_true, List.all_eq_true, List.contains_iff_mem] at hp
   obtain ⟨xs, m, hm, _, hl, hxl, hget⟩ := DataW.trod_struct hu h
   obtain rfl : n = m := by omega
   obtain ⟨ys, h1, h2⟩ := uF (S := S) (cs := cs) ih fs.toList 0 (by rw [hl]; exact hp.1) (fun f hf => hp.2 f hf) (fun f hf => by
    obtain ⟨i, hi⟩ := List.getElem?_of_mem hf
    have hi' : fs[i]? = some f := by simpa using hi
    have := hget i f hi'
    have hlt : i < xs.length := by rw [hxl]; exact (Array.getElem?_eq_some_iff.1 hi').1
    rw [List.getElem?_eq_getElem hlt] at this
    exact ⟨_, this⟩)
   exact ⟨.agg ys, .st hu h1, by simpa [AV.cells] using h2⟩
  ·rename_i k e hu
   simp only [Bool.and_eq_true, List.contains_iff_mem, decide_eq_true_eq] at hp
   obtain ⟨xs, m, hm, _, hl, hxl, hget⟩ := DataW.trod_array hu h
   obtain rfl : n = m := by omega
   obtain ⟨ys, h1, h2⟩ := xL (S := S) (cs := cs) ih hp.1 k 0 (by rw [hl]; simpa using hp.2) (fun j _ hj => by
    have := hget j (by omega)
    rw [List.getElem?_eq_getElem (by omega)] at this
    exact ⟨_, this⟩)
   exact ⟨.agg ys, .ar hu h1, by simpa [AV.cells] using h2⟩
  ·cases hp
theorem kC {c : Ctx} {y : AV} {v : Value} (h : CR c y.cells [v]) (hy : y.cells = [y]) : Rel c y v := by
 rw [hy] at h
 exact (h.2 0 y v rfl rfl).1
theorem aHe (hT : ∀ t ∈ T, xG P T t = true) {t : TypeId} {v : Value} {d : DataW H} {ps : List MemPlace} {r : Reach} {b0 : Nat} (ht : t ∈ T) (ok : Value.okWide P w r b0 t v) (h : DataW.Trod enc P w 0 sp true t v d ps) :
  ∃ y, IsT P t y ∧ Rel (Ctx.top S w) y v := by
 obtain ⟨fuel, hf⟩ := h
 obtain ⟨y, h1, h2⟩ := aDN (S := S) hT _ _ _ _ ht hf
 refine ⟨y, h1, ?_⟩
 have hagg : ∀ cs : Array Value, v = .agg cs → ∀ ys, y = .agg ys → Rel (Ctx.top S w) y v := by
  intro cs hv ys hy
  subst hv hy
  simp only [Value.cells, AV.cells] at h2
  have : cs = cs.toList.toArray := by simp
  rw [this]
  refine .agg h2.1 (fun i x u hx hu => (h2.2 i x u hx hu).1) (fun u hu => ?_)
  obtain ⟨i, hi⟩ := List.getElem?_of_mem hu
  have hlt : i < ys.length := by rw [h2.1]; exact (List.getElem?_eq_some_iff.1 hi).1
  exact (h2.2 i _ u (List.getElem?_eq_getElem hlt) hi).2
 cases h1 with
 | bool hu b =>
  have : v.cells.toList = [v] := by
   simp only [Value.okWide, hu] at ok
   cases v <;> simp_all [Cell.okWide, Cell.ok, Value.cells]
  rw [this] at h2
  exact kC h2 rfl
 | int hu n hw =>
  have : v.cells.toList = [v] := by
   simp only [Value.okWide, hu] at ok
   cases v <;> simp_all [Cell.okWide, Cell.ok, Value.cells]
  rw [this] at h2
  exact kC h2 rfl
 | str hu s hs =>
  have : v.cells.toList = [v] := by
   simp only [Value.okWide, hu] at ok
   cases v <;> simp_all [Cell.okWide, Cell.ok, Value.cells]
  rw [this] at h2
  exact kC h2 rfl
 | sl hu hx hl =>
  have : v.cells.toList = [v] := by
   simp only [Value.okWide, hu] at ok
   cases v <;> simp_all [Cell.okWide, Cell.ok, Value.cells]
  rw [this] at h2
  exact kC h2 rfl
 | st hu hf =>
  simp only [Value.okWide, hu] at ok
  obtain ⟨cs, rfl, _, _⟩ := ok
  exact hagg cs rfl _ rfl
 | ar hu hf =>
  simp only [Value.okWide, hu] at ok
  obtain ⟨cs, rfl, _, _⟩ := ok
  exact hagg cs rfl _ rfl
theorem IsT.of_bool {t : TypeId} {x : AV} (hu : P.underlying t = some .bool) (h : IsT P t x) : ∃ b, x = .bool b := by
 cases h with
 | bool _ b => exact ⟨b, rfl⟩
 | int h' => rw [hu] at h'; cases h'
 | str h' => rw [hu] at h'; cases h'
 | sl h' => rw [hu] at h'; cases h'
 | st h' => rw [hu] at h'; cases h'
 | ar h' => rw [hu] at h'; cases h'
theorem IsT.of_int {t : TypeId} {k : IntKind} {x : AV} (hu : P.underlying t = some (.int k)) (h : IsT P t x) : ∃ n, x = .int k n ∧ (Lit.int k n).wf = true := by
 cases h with
 | int h' n hw => rw [hu] at h'; cases h'; exact ⟨n, rfl, hw⟩
 | bool h' => rw [hu] at h'; cases h'
 | str h' => rw [hu] at h'; cases h'
 | sl h' => rw [hu] at h'; cases h'
 | st h' => rw [hu] at h'; cases h'
 | ar h' => rw [hu] at h'; cases h'
theorem IsT.of_slice {t e : TypeId} {x : AV} (hu : P.underlying t = some (.slice e)) (h : IsT P t x) : ∃ xs, x = .ro false xs ∧ (∀ y ∈ xs, IsT P e y) ∧ xs.length ≤ maxLen := by
 cases h with
 | sl h' hx hl => rw [hu] at h'; cases h'; exact ⟨_, rfl, hx, hl⟩
 | bool h' => rw [hu] at h'; cases h'
 | int h' => rw [hu] at h'; cases h'
 | str h' => rw [hu] at h'; cases h'
 | st h' => rw [hu] at h'; cases h'
 | ar h' => rw [hu] at h'; cases h'
theorem IsT.of_struct {t : TypeId} {fs : Array Field} {x : AV} (hu : P.underlying t = some (.struct fs)) (h : IsT P t x) : ∃ cs, x = .agg cs ∧ IsFs P fs.toList cs := by
 cases h with
 | st h' hf => rw [hu] at h'; cases h'; exact ⟨_, rfl, hf⟩
 | bool h' => rw [hu] at h'; cases h'
 | int h' => rw [hu] at h'; cases h'
 | str h' => rw [hu] at h'; cases h'
 | sl h' => rw [hu] at h'; cases h'
 | ar h' => rw [hu] at h'; cases h'
inductive IsTs (P : Program) : List TypeId → List AV → Prop
 | nil : IsTs P [] []
 | cons {t : TypeId} {ts : List TypeId} {x : AV} {xs : List AV} (h : IsT P t x) (hs : IsTs P ts xs) : IsTs P (t :: ts) (x :: xs)
theorem IsTs.uncons {t : TypeId} {ts : List TypeId} {ys : List AV} (h : IsTs P (t :: ts) ys) : ∃ x xs, ys = x :: xs ∧ IsT P t x ∧ IsTs P ts xs := by
 cases h with
 | cons h hs => exact ⟨_, _, rfl, h, hs⟩
theorem IsTs.unnil {ys : List AV} (h : IsTs P [] ys) : ys = [] := by
 cases h; rfl
theorem aAl (hT : ∀ t ∈ T, xG P T t = true) {r : Reach} {b0 : Nat} : ∀ {ts : List TypeId} {vs : List Value} {ds : List (DataW H)} {ps : List MemPlace}, (∀ t ∈ ts, t ∈ T) →
  (∀ (j : Nat) t v, ts[j]? = some t → vs[j]? = some v → Value.okWide P w r b0 t v) → DataW.TrodAll enc P w 0 sp true ts vs ds ps → ∃ xs, IsTs P ts xs ∧ iB (Ctx.top S w) xs vs
 | [], vs, ds, ps, _, _, h => by
  obtain ⟨rfl, rfl, rfl⟩ := trodAll_nil h
  exact ⟨[], .nil, .nil⟩
 | t :: ts, vs, ds, ps, hm, ok, h => by
  obtain ⟨v, vs', d, ds', p, q, rfl, rfl, rfl, hd, hr⟩ := trodAll_cons h
  obtain ⟨x, h1, h2⟩ := aHe (S := S) hT (hm t (by simp)) (ok 0 t v rfl rfl) hd
  obtain ⟨xs, h3, h4⟩ := aAl hT (fun u hu => hm u (by simp [hu])) (fun j u v' h1 h2 => ok (j + 1) u v' (by simpa using h1) (by simpa using h2)) hr
  exact ⟨x :: xs, .cons h1 h3, .cons h2 h4⟩
theorem uG (hl : laidOutB P = true) {w' : World} (hb : Below w.heap.size w w') : ∀ {ts : List TypeId} {vs : List Value} {ds : List (DataW H)} {ps : List MemPlace}, (∀ t ∈ ts, P.readableRec t = true ∧ t < P.types.size) →
  DataW.TrodAll enc P w 0 (fun _ => true) true ts vs ds ps → DataW.TrodAll enc P w' 0 (fun b => decide (b < w.heap.size)) true ts vs ds ps
 | [], vs, ds, ps, _, h => by
  obtain ⟨rfl, rfl, rfl⟩ := trodAll_nil h
  exact rfl
 | t :: ts, vs, ds, ps, hm, h => by
  obtain ⟨v, vs', d, ds', p, q, rfl, rfl, rfl, hd, hr⟩ := trodAll_cons h
  have hd' := hd
  obtain ⟨m, hm'⟩ := hd'
  exact ⟨p, q, Below.trod hl (hm t (by simp)).1 (hm t (by simp)).2 hd hb (DataW.trod_lt m _ _ _ hm'), uG hl hb (fun u hu => hm u (by simp [hu])) hr, rfl⟩
end
open Go Go.ChangeShapes Go.WideShapes Go.RowKit
def xT (tp : Nat) (gs : List Nat) : aC := fun g => if gs.contains g then some (.iface tp (.gp g)) else none
theorem aCQ (tp : Nat) (gs : List Nat) : ∀ g x, xT tp gs g = some x → bP x = true := by
 intro g x h
 unfold xT at h
 split at h
 ·simp at h; subst h; rfl
 ·cases h
structure SentS (w : World) (tp : Nat) (gs : List Nat) (S : Nat → Option Addr) : Prop where
 here : ∀ g ∈ gs, ∃ a, S g = some a ∧ w.cell? ⟨g, 0, none⟩ = some (.iface tp (.pointer (some a)))
 laid : ∀ g a, S g = some a → ∃ cells elem, w.heap[a.block]? = some (.cells cells elem (0, 0))
 apart : ∀ g g' a a', S g = some a → S g' = some a' → g ≠ g' → a ≠ a'
theorem aGp {w : World} {tp : Nat} {gs : List Nat} {S : Nat → Option Addr} (h : SentS w tp gs S) : Good (xT tp gs) (Ctx.top S w) w := by
 refine ⟨fun a v h => h, fun a v h => h, fun k hk => ?_, h.laid, fun g a _ hk => ?_, h.apart, fun g x hx => ?_, fun k hk => ?_, fun g hg => by unfold xT at hg; split at hg <;> simp at hg⟩
 ·obtain ⟨b, i, hb, _⟩ := hk; cases hb
 ·obtain ⟨b, i, hb, _⟩ := hk; cases hb
 ·unfold xT at hx
  split at hx
  ·rename_i hg
   simp at hx; subst hx
   obtain ⟨a, h1, h2⟩ := h.here g (by simpa using hg)
   exact ⟨_, h2, .iface (.gp h1)⟩
  ·cases hx
 ·obtain ⟨b, i, hb, _⟩ := hk; cases hb
theorem aFI (w : World) (tp : Nat) : SentS w tp [] (fun _ => none) := ⟨fun g hg => (by cases hg), fun g a h => (by cases h), fun g g' a a' h => (by cases h)⟩
def aEn (P : Program) (ti : Nat) : List (String × DataW Unit) → List Nat → Prop
 | [], [] => True
 | x :: L, g :: gs => P.globalNamed x.1 = some g ∧ (P.globals[g]?).map (·.type) = some ti ∧ (∃ text, x.2 = .iface "*errors.errorString" (.ptr (.agg [.lit (.string text)]))) ∧ aEn P ti L gs
 | _, _ => False
theorem uH {P : Program} {w : World} {ti tp te ts : TypeId} {ms : Array (String × TypeId)} {f : Field}
  (hi : P.underlying ti = some (.interface ms)) (hrow : ∀ u, P.typeName? 3 u = some "*errors.errorString" → u = tp)
  (hp : P.underlying tp = some (.pointer te)) (he : P.underlying te = some (.struct #[f])) (hft : f.type = ts) (hfo : f.offset = 0) (hs : P.underlying ts = some .string) (hc : P.cellsOf te = 1) (hcs : P.cellsOf ts = 1) :
  ∀ {L : List (String × DataW Unit)} {gs : List Nat} {ps : List MemPlace}, aEn P ti L gs → gs.Nodup → DataW.LaidVars P w L ps → ps.Nodup →
   (∀ b off, MemPlace.cell b off ∈ ps → (∃ c t, w.heap[b]? = some (.cells c t (0, 0))) ∧ ∀ u v, w.cell? ⟨b, off, none⟩ = some (.iface u v) → Value.okWide P w .any 0 u v) →
   ∃ S, SentS w tp gs S ∧ ∀ g a, S g = some a → g ∈ gs ∧ MemPlace.cell a.block a.off ∈ ps
 | [], [], ps, _, _, _, _, _ => ⟨_, aFI w tp, fun g a h => by cases h⟩
 | [], _ :: _, ps, h, _, _, _, _ => by cases h
 | _ :: _, [], ps, h, _, _, _, _ => by cases h
 | (n, d) :: L, g :: gs, ps, hL, hnd, hv, hpn, hr => by
  obtain ⟨hg, ht, ⟨text, rfl⟩, hL'⟩ := hL
  obtain ⟨g', t', cs, fuel, p, q, hg', ht', hcs', hd, hq, rfl⟩ := hv
  obtain rfl := Option.some.inj (hg.symm.trans hg')
  obtain rfl := Option.some.inj (ht.symm.trans ht')
  rw [List.nodup_cons] at hnd
  obtain ⟨S, hS, hSp⟩ := uH hi hrow hp he hft hfo hs hc hcs hL' hnd.2 hq (List.nodup_append.1 hpn).2.1 (fun b off hb => hr b off (List.mem_append_right _ hb))
  obtain ⟨l⟩ := cs
  have ok : ∀ u v, l = [.iface u v] → Value.okWide P w .any 0 u v := fun u v e => by
   subst e
   exact (hr g 0 (by simp [MemPlace.row])).2 u v (by simpa using World.var?_cell hg hcs' 0)
  obtain ⟨a, s, hl, hc0, hs0, hz0, rfl⟩ := errorString_of_trod hi hrow hp he hft hfo hs hc hcs hd ok
  simp only at hl
  subst hl
  have hin : MemPlace.cell a.block a.off ∈ MemPlace.row (⟨g, 0, none⟩ : Addr) 1 ++ MemPlace.row a 1 := by simp [MemPlace.row]
  have hne : ∀ g2 a2, S g2 = some a2 → a ≠ a2 := by
   intro g2 a2 h2 e
   subst e
   exact (List.nodup_append.1 hpn).2.2 _ hin _ (hSp g2 a h2).2 rfl
  refine ⟨fun x => if x = g then some a else S x, ⟨fun x hx => ?_, fun x b hb => ?_, fun x x' b b' hb hb' hxx => ?_⟩, fun x b hb => ?_⟩
  ·rcases List.mem_cons.1 hx with rfl | hx'
   ·exact ⟨a, by simp, by simpa using World.var?_cell hg hcs' 0⟩
   ·obtain ⟨b, h1, h2⟩ := hS.here x hx'
    have : x ≠ g := fun e => hnd.1 (e ▸ hx')
    exact ⟨b, by simp [this, h1], h2⟩
  ·split at hb
   ·obtain rfl := Option.some.inj hb
    obtain ⟨c, t, h⟩ := (hr a.block a.off (List.mem_append_left _ hin)).1
    exact ⟨c, t, h⟩
   ·exact hS.laid x b hb
  ·split at hb
   ·rename_i e1
    obtain rfl := Option.some.inj hb
    split at hb'
    ·rename_i e2; exact absurd (e1.trans e2.symm) hxx
    ·exact hne _ _ hb'
   ·split at hb'
    ·obtain rfl := Option.some.inj hb'
     exact (hne _ _ hb).symm
    ·exact hS.apart x x' b b' hb hb' hxx
  ·replace hb : (if x = g then some a else S x) = some b := hb
   split at hb
   ·rename_i e; subst e
    obtain rfl := Option.some.inj hb
    exact ⟨by simp, List.mem_append_left _ hin⟩
   ·exact ⟨List.mem_cons_of_mem _ (hSp x b hb).1, List.mem_append_right _ (hSp x b hb).2⟩
theorem aBq {P : Program} {w : World} {ti tp te ts : TypeId} {ms : Array (String × TypeId)} {f : Field}
  (hi : P.underlying ti = some (.interface ms)) (hrow : ∀ u, P.typeName? 3 u = some "*errors.errorString" → u = tp)
  (hp : P.underlying tp = some (.pointer te)) (he : P.underlying te = some (.struct #[f])) (hft : f.type = ts) (hfo : f.offset = 0) (hs : P.underlying ts = some .string) (hc : P.cellsOf te = 1) (hcs : P.cellsOf ts = 1)
  {L : List (String × DataW Unit)} {gs : List Nat} (hL : aEn P ti L gs) (hnd : decide gs.Nodup = true) (h : laidMet P L w) : ∃ S, SentS w tp gs S := by
 obtain ⟨ps, h1, h2, h3⟩ := h
 obtain ⟨S, hS, _⟩ := uH hi hrow hp he hft hfo hs hc hcs hL (of_decide_eq_true hnd) h1 h2 h3
 exact ⟨S, hS⟩
theorem aFj {P : Program} {G : aC} {f : Nat} {g : cK} (hs : Sound P G f g) {xs : List AV} (hg : g xs [] = some (.bool true, [])) {S : Nat → Option Addr} {w : World} (hgood : Good G (Ctx.top S w) w) {vs : List Value} (hr : iB (Ctx.top S w) xs vs) :
  Calls P f vs.toArray w (fun e w' => e = .returned (.bool true) ∧ Below w.heap.size w w') := by
 refine (hs.calls xs [] _ [] hg (Ctx.top S w) w vs hgood ⟨by simp, by simp [Ctx.top]⟩ (uP.nil (fun _ => rfl)) hr).mono fun e w' he => ?_
 obtain ⟨v, c', rfl, h⟩ := he
 obtain rfl := h.rel.of_bool
 refine ⟨rfl, h.step.os, h.step.tape, h.step.output, h.step.size, fun k hk => h.step.kept k hk ?_⟩
 rintro ⟨b, i, hb, _⟩
 cases hb
theorem aGG {H : Type} {enc : TypeId × Value → H} {P : Program} {fn : Func} {s : ChangeSpec} {ts : List TypeId} {t : TypeId} (hv : s.vars = []) (hts : fn.params.toList = ts) (hres : fn.resultTypes = #[t]) (ht : P.underlying t = some .bool)
  (hspec : ∀ ds : List (DataW H), ds.length = ts.length → s.fn H ds = { results := [.lit (.bool true)], args := ds })
  (hl : laidOutB P = true) (hr : (ts.all fun t => P.readableRec t && decide (t < P.types.size)) = true) {w w' : World} {args : Array Value} {ds gs : List (DataW H)} {before : List MemPlace}
  (hW : DataW.Whole enc P fn.params.toList s.vars false w args.toList ds gs before) (hb : Below w.heap.size w w') :
  s.post enc P fn false true false false w args (.bool true) w' := by
 have hW' := hW
 obtain ⟨p, q, hA, hV, rfl, _, _⟩ := hW
 rw [hts] at hA
 rw [hv] at hV
 obtain ⟨rfl, rfl⟩ := trodVars_none hV
 have len : ∀ {ts : List TypeId} {vs : List Value} {ds : List (DataW H)} {ps : List MemPlace}, DataW.TrodAll enc P w 0 (fun _ => true) true ts vs ds ps → ds.length = ts.length := by
  intro ts
  induction ts with
  | nil => intro vs ds ps h; obtain ⟨rfl, rfl, rfl⟩ := trodAll_nil h; rfl
  | cons t ts ih =>
   intro vs ds ps h
   obtain ⟨v, vs', d, ds', p, q, rfl, rfl, rfl, hd, hr⟩ := trodAll_cons h
   simp [ih hr]
 have e1 := hspec ds (len hA)
 have e2 : s.fn H (ds ++ []) = { results := [.lit (.bool true)], args := ds } := by rw [List.append_nil]; exact e1
 refine ⟨ds, [], _, [], p, [], hW', ?_, ?_, ?_, hb.frame _, fun h => by cases h⟩
 ·rw [e2, hres]
  exact trodAll_mk1 (shut_bool ht true)
 ·rw [e2, hts]
  exact uG hl hb (fun t ht => by
   have := List.all_eq_true.1 hr t ht
   simp only [Bool.and_eq_true, decide_eq_true_eq] at this
   exact this) hA
 ·rw [e2, hv]; exact rfl
@[simp] theorem aJN {γ : Type} (v : AV) (H : aA) (k : AV → aA → Option γ) : aE (some (v, H)) k = k v H := by unfold aE; rfl
@[simp] theorem aGH (H : aA) (v : AV) : pu H (some v) = some (v, H) := by unfold pu; rfl
@[simp] theorem aJa (x y : Option fJ) : bK (.bool true) x y = x := by unfold bK; rfl
@[simp] theorem aIs (x y : Option fJ) : bK (.bool false) x y = y := by unfold bK; rfl
@[simp] theorem aGm (H : aA) (m : Option (AV × aA)) : gd (.bool true) true H m = m := by unfold gd; rfl
@[simp] theorem aGi (H : aA) (m : Option (AV × aA)) : gd (.bool false) false H m = m := by unfold gd; rfl
@[simp] theorem aGl (H : aA) (m : Option (AV × aA)) : gd (.bool true) false H m = some (.tup [], H) := by unfold gd; rfl
@[simp] theorem aGj (H : aA) (m : Option (AV × aA)) : gd (.bool false) true H m = some (.tup [], H) := by unfold gd; rfl
@[simp] theorem aGk (w : Bool) (H : aA) (m : Option (AV × aA)) : gd (.tup []) w H m = some (.tup [], H) := by unfold gd; rfl
@[simp] theorem xF (x y : AV) : dL (.bool true) x y = some x := by unfold dL; rfl
@[simp] theorem uC (x y : AV) : dL (.bool false) x y = some y := by unfold dL; rfl
@[simp] theorem aJA (e : Ex) (xs : List AV) (H : aA) (k : Ex → List AV → aA → Option fJ) : dW (some (e, xs, H)) k = k e xs H := by unfold dW; rfl
@[simp] theorem aJb {γ : Type} (a : γ) (b : Nat → γ) (r : γ) : iJ .normal a b r = a := by unfold iJ; rfl
@[simp] theorem aJQ {γ : Type} (i : Nat) (a : γ) (b : Nat → γ) (r : γ) : iJ (.exit i) a b r = b i := by unfold iJ; rfl
@[simp] theorem aKh {γ : Type} (a : γ) (b : Nat → γ) (r : γ) : iJ .ret a b r = r := by unfold iJ; rfl
@[simp] theorem eZ (x : AV) (xs : List AV) : aG (x :: xs) 0 = x := by unfold aG; rfl
@[simp] theorem eY (x : AV) (xs : List AV) (i : Nat) : aG (x :: xs) (i + 1) = aG xs i := by rw [aG]
@[simp] theorem aJW (r : AV) (H : aA) : fQ (some (.ret, [r], H)) = some (r, H) := by unfold fQ; rfl
@[congr] theorem aJE {γ : Type} {m m' : Option (AV × aA)} {k : AV → aA → Option γ} (h : m = m') : aE m k = aE m' k := by rw [h]
@[congr] theorem aIO {m m' : Option fJ} {k : Ex → List AV → aA → Option fJ} (h : m = m') : dW m k = dW m' k := by rw [h]
@[congr] theorem aIr {c c' : AV} {x y : Option fJ} (h : c = c') : bK c x y = bK c' x y := by rw [h]
@[congr] theorem aJG {γ : Type} {e e' : Ex} {a : γ} {b : Nat → γ} {r : γ} (h : e = e') : iJ e a b r = iJ e' a b r := by rw [h]
@[congr] theorem aJS {g g' : AV} {w : Bool} {H : aA} {m : Option (AV × aA)} (h : g = g') : gd g w H m = gd g' w H m := by rw [h]
theorem pE (H : aA) : eF 0 [] H = some [] := rfl
theorem uX {H : aA} {n : Nat} {x : AV} (h : aV n x = true) (d : Nat) : lO H n d x = some x := by
 cases d <;> simp [lO, h]
theorem gY {x : AV} (h : aV 0 x = true) (H : aA) : cS [x] 0 H = some (.ret, [x], []) := by
 simp [cS, iQ, uX h, pE]
theorem aGf {x y : AV} (hx : aV 0 x = true) (hy : aV 0 y = true) (H : aA) : cS [x, y] 0 H = some (.ret, [.tup [x, y]], []) := by
 have : aV 0 (.tup [x, y]) = true := by simp [aV, bG, hx, hy]
 simp [cS, iQ, uX this, pE]
@[simp] theorem aJR (k : IntKind) (n : Int) (H : aA) : cS [.int k n] 0 H = some (.ret, [.int k n], []) := gY rfl H
@[simp] theorem aJH (b : Bool) (H : aA) : cS [.bool b] 0 H = some (.ret, [.bool b], []) := gY rfl H
theorem xV {H : aA} {x : AV} (h : bP x = true) : aBt H x = some x := by
 cases x with
 | agg cs =>
  simp only [bP] at h
  have : ∀ cs : List AV, dK cs = true → jX H cs = some cs := by
   intro cs
   induction cs with
   | nil => intro _; rfl
   | cons y ys ih =>
    intro hp
    simp only [dK, Bool.and_eq_true] at hp
    have h1 : uI H y = some y := by cases y <;> simp_all [uI, bP]
    simp [jX, h1, ih hp.2]
  simp [aBt, this cs h]
 | _ => simp_all [aBt, uI, bP]
theorem uK {H : aA} : ∀ {xs : List AV}, dK xs = true → mQ H xs = some xs
 | [], _ => rfl
 | x :: xs, h => by
  simp only [dK, Bool.and_eq_true] at h
  simp [mQ, xV h.1, uK h.2]
theorem aZ {g : cK} {args : List AV} {r : AV} {H : aA} (hg : g args [] = some (r, [])) (ha : dK args = true) (hr : dV r = true) : aJ g args H = some (r, H) := by
 simp [aJ, uK ha, hg, hr]
section
variable (P : Program) (t : Nat) (c : Bool) (k k' : IntKind) (a b : Int)
@[simp] theorem jE : bC P .add t c (.int k a) (.int k b) = some (.int k (k.wrap (a + b))) := by simp [bC, iS]
@[simp] theorem kA : bC P .sub t c (.int k a) (.int k b) = some (.int k (k.wrap (a - b))) := by simp [bC, iS]
@[simp] theorem aKf : bC P .mul t c (.int k a) (.int k b) = some (.int k (k.wrap (a * b))) := by simp [bC, iS]
@[simp] theorem aKe : bC P .and t c (.int k a) (.int k b) = some (.int k (bits .and k a b)) := by simp [bC, iS]
@[simp] theorem aKp : bC P .or t c (.int k a) (.int k b) = some (.int k (bits .or k a b)) := by simp [bC, iS]
@[simp] theorem aKg : bC P .xor t c (.int k a) (.int k b) = some (.int k (bits .xor k a b)) := by simp [bC, iS]
@[simp] theorem aIX : bC P .andNot t c (.int k a) (.int k b) = some (.int k (bits .andNot k a b)) := by simp [bC, iS]
@[simp] theorem aAG : bC P .eql t c (.int k a) (.int k b) = some (.bool (decide (a = b))) := by simp [bC, iS]; rfl
@[simp] theorem aAK : bC P .neq t c (.int k a) (.int k b) = some (.bool (decide (a ≠ b))) := by simp [bC, iS, bne]; rfl
@[simp] theorem jZ : bC P .lss t c (.int k a) (.int k b) = some (.bool (decide (a < b))) := by simp [bC, iS]
@[simp] theorem aAJ : bC P .leq t c (.int k a) (.int k b) = some (.bool (decide (a ≤ b))) := by simp [bC, iS]
@[simp] theorem aAI : bC P .gtr t c (.int k a) (.int k b) = some (.bool (decide (b < a))) := by simp [bC, iS]
@[simp] theorem iI : bC P .geq t c (.int k a) (.int k b) = some (.bool (decide (b ≤ a))) := by simp [bC, iS]
end
theorem aAH {P : Program} {t : Nat} (h : P.underlying t = some .bool) (c a b : Bool) : bC P .eql t c (.bool a) (.bool b) = some (.bool (a == b)) := by simp [bC, jG, h, kB]
theorem aAL {P : Program} {t : Nat} (h : P.underlying t = some .bool) (c a b : Bool) : bC P .neq t c (.bool a) (.bool b) = some (.bool (a != b)) := by simp [bC, jG, h, kB, bne]
theorem lS {n : Int} (h0 : 0 ≤ n) (h1 : n < 18446744073709551616) : IntKind.u64.wrap n = n := by
 simp only [IntKind.wrap, IntKind.bits, IntKind.signed, Bool.false_and, Bool.false_eq_true, if_false]
 exact Int.emod_eq_of_lt h0 (by simpa using h1)
theorem aDf {n : Int} (h0 : 0 ≤ n) (h1 : n < 4294967296) : IntKind.u32.wrap n = n := by
 simp only [IntKind.wrap, IntKind.bits, IntKind.signed, Bool.false_and, Bool.false_eq_true, if_false]
 exact Int.emod_eq_of_lt h0 (by simpa using h1)
theorem aEg {n : Int} (h0 : 0 ≤ n) (h1 : n < 256) : IntKind.u8.wrap n = n := by
 simp only [IntKind.wrap, IntKind.bits, IntKind.signed, Bool.false_and, Bool.false_eq_true, if_false]
 exact Int.emod_eq_of_lt h0 (by simpa using h1)
theorem aDe (n : Int) : IntKind.i64.wrap n = if n % 18446744073709551616 ≥ 9223372036854775808 then n % 18446744073709551616 - 18446744073709551616 else n % 18446744073709551616 := by
 simp [IntKind.wrap, IntKind.bits, IntKind.signed]
theorem eG {n : Int} (h0 : -9223372036854775808 ≤ n) (h1 : n < 9223372036854775808) : IntKind.i64.wrap n = n := by
 rw [aDe]; split <;> omega
theorem aBz {n : Int} (h : (Lit.int .i64 n).wf = true) : -9223372036854775808 ≤ n ∧ n < 9223372036854775808 := by
 simp [Lit.wf, IntKind.min, IntKind.max, IntKind.signed, IntKind.bits] at h; omega
@[simp] theorem lM (k k' : IntKind) (n : Int) : gL k (.int k' n) = some (.int k (k.wrap n)) := by unfold gL; rfl
@[simp] theorem aHP (k : IntKind) (a b : Int) : nN rO (.int k a) [.int k b] = some (.int k (max a b)) := by
 simp only [nN, rO, Option.bind_some]
 congr 2
 split <;> omega
@[simp] theorem aEa (b : Bool) : un .not (.bool b) = some (.bool (!b)) := by unfold un; rfl
theorem oF {m : Option fJ} {x : AV} {H : aA} (h : m = some (.ret, [x], H)) : fQ m = some (x, H) := by rw [h]; rfl
theorem lC {n : Nat} {xs : List AV} {H H' : aA} {k : aA → Option fJ} {r : Option fJ} (h : eF n xs H = some H') (h2 : k H' = r) : gX n xs H k = r := by unfold gX; rw [h]; exact h2
theorem aR (step : dO → dO) (n : Nat) : cC step (n + 1) = step (cC step n) := by rw [cC]
theorem lI {γ : Type} {i : Nat} {a b r : Option γ} (h : a = r) : (if i = i then a else b) = r := by rw [if_pos rfl]; exact h
@[simp] theorem aJB {γ : Type} (H : aA) (k : aA → Option γ) : vK [] H k = k H := by unfold vK; rfl
@[simp] theorem aIn {γ : Type} (q : AV × Nat × Nat × Nat) (l : List (AV × Nat × Nat × Nat)) (H : aA) (k : aA → Option γ) : vK (q :: l) H k = vK l (qB q H) k := by rw [vK]
abbrev KK := Ex → List AV → aA → Option fJ
def E {γ : Type} (f : Option fJ → Option γ) (ks : List KK) (m : Option fJ) (r : Option γ) : Prop := f (ks.foldl dW m) = r
section
variable {γ : Type} {f : Option fJ → Option γ} {ks : List KK} {r : Option γ}
theorem fC {m : Option fJ} (h : E f [] m r) : f m = r := h
theorem eM {m r : Option fJ} (h : E (fun x => x) [] m r) : m = r := h
theorem fK {m : Option fJ} (h : f m = r) : E f [] m r := h
theorem eB {m : Option (AV × aA)} {k : AV → aA → Option fJ} {v : AV} {H : aA} (h : m = some (v, H)) (h2 : E f ks (k v H) r) : E f ks (aE m k) r := by rw [h]; exact h2
theorem eR {m m' : Option (AV × aA)} {k : AV → aA → Option fJ} (h : m = m') (h2 : E f ks (aE m' k) r) : E f ks (aE m k) r := by rw [h]; exact h2
theorem eT {a b : Option fJ} (h : E f ks a r) : E f ks (bK (.bool true) a b) r := h
theorem eN {a b : Option fJ} (h : E f ks b r) : E f ks (bK (.bool false) a b) r := h
theorem aCd {H : aA} {m : Option (AV × aA)} {k : AV → aA → Option fJ} (h : E f ks (aE m k) r) : E f ks (aE (gd (.bool true) true H m) k) r := by rw [aGm]; exact h
theorem aBZ {H : aA} {m : Option (AV × aA)} {k : AV → aA → Option fJ} (h : E f ks (aE m k) r) : E f ks (aE (gd (.bool false) false H m) k) r := by rw [aGi]; exact h
theorem aCc {H : aA} {m : Option (AV × aA)} {k : AV → aA → Option fJ} (h : E f ks (k (.tup []) H) r) : E f ks (aE (gd (.bool true) false H m) k) r := by rw [aGl]; exact h
theorem aCa {H : aA} {m : Option (AV × aA)} {k : AV → aA → Option fJ} (h : E f ks (k (.tup []) H) r) : E f ks (aE (gd (.bool false) true H m) k) r := by rw [aGj]; exact h
theorem aCb {H : aA} {w : Bool} {m : Option (AV × aA)} {k : AV → aA → Option fJ} (h : E f ks (k (.tup []) H) r) : E f ks (aE (gd (.tup []) w H m) k) r := by rw [aGk]; exact h
theorem eCn {xs : List AV} {i : Nat} {c : AV} {a b : Option fJ} (hc : aG xs i = c) (h : E f ks (bK c a b) r) : E f ks (bK (aG xs i) a b) r := by rw [hc]; exact h
theorem wC {b : Bool} {x y : Option fJ} (h1 : b = true → E f ks x r) (h2 : b = false → E f ks y r) : E f ks (bK (.bool b) x y) r := by
 cases b
 ·exact h2 rfl
 ·exact h1 rfl
theorem eK {m : Option fJ} {k : KK} (h : E f (k :: ks) m r) : E f ks (dW m k) r := h
theorem eS {k : KK} {e : Ex} {xs : List AV} {H : aA} (h : E f ks (k e xs H) r) : E f (k :: ks) (some (e, xs, H)) r := h
theorem eL {m : Option fJ} {o : fJ} (h : m = some o) (h2 : E f ks (some o) r) : E f ks m r := by rw [h]; exact h2
theorem eX {a : Option fJ} {b : Nat → Option fJ} {r0 : Option fJ} {i : Nat} (h : E f ks (b i) r) : E f ks (iJ (.exit i) a b r0) r := h
theorem eXn {a : Option fJ} {b : Nat → Option fJ} {r0 : Option fJ} (h : E f ks a r) : E f ks (iJ .normal a b r0) r := h
theorem eXr {a : Option fJ} {b : Nat → Option fJ} {r0 : Option fJ} (h : E f ks r0 r) : E f ks (iJ .ret a b r0) r := h
theorem eI {i : Nat} {a b : Option fJ} (h : E f ks a r) : E f ks (if i = i then a else b) r := by rw [if_pos rfl]; exact h
theorem eJ {i j : Nat} {a b : Option fJ} (hij : (i == j) = false) (h : E f ks b r) : E f ks (if i = j then a else b) r := by rw [if_neg (by simpa using hij)]; exact h
theorem eC {n : Nat} {xs : List AV} {H H' : aA} {k : aA → Option fJ} (h : eF n xs H = some H') (h2 : E f ks (k H') r) : E f ks (gX n xs H k) r := by unfold gX; rw [h]; exact h2
theorem wD {m : Option fJ} (h : E f ks m r) : E f ks (grd [] m) r := h
theorem wE {a b : AV} {l : List (AV × AV)} {m : Option fJ} (h : gV a b = true) (h2 : E f ks (grd l m) r) : E f ks (grd ((a, b) :: l) m) r := by unfold grd; rw [h]; exact h2
theorem eV0 {H : aA} {k : aA → Option fJ} (h2 : E f ks (k H) r) : E f ks (vK [] H k) r := by rw [aJB]; exact h2
theorem eV1 {q : AV × Nat × Nat × Nat} {l : List (AV × Nat × Nat × Nat)} {H H1 : aA} {k : aA → Option fJ} (h : qB q H = H1) (h2 : E f ks (vK l H1 k) r) : E f ks (vK (q :: l) H k) r := by rw [aIn, h]; exact h2
variable {P : Program} {t : Nat} {c : Bool} {k : IntKind} {a b : Int} {H : aA} {K : AV → aA → Option fJ}
theorem aDP (h1 : a = b → E f ks (K (.bool true) H) r) (h2 : a ≠ b → E f ks (K (.bool false) H) r) : E f ks (aE (pu H (bC P .eql t c (.int k a) (.int k b))) K) r := by
 rw [aAG]; by_cases h : a = b
 ·rw [decide_eq_true h]; exact h1 h
 ·rw [decide_eq_false h]; exact h2 h
theorem aDU (h1 : a ≠ b → E f ks (K (.bool true) H) r) (h2 : a = b → E f ks (K (.bool false) H) r) : E f ks (aE (pu H (bC P .neq t c (.int k a) (.int k b))) K) r := by
 rw [aAK]; by_cases h : a ≠ b
 ·rw [decide_eq_true h]; exact h1 h
 ·rw [decide_eq_false h]; exact h2 (Classical.not_not.1 h)
theorem aDT (h1 : a < b → E f ks (K (.bool true) H) r) (h2 : b ≤ a → E f ks (K (.bool false) H) r) : E f ks (aE (pu H (bC P .lss t c (.int k a) (.int k b))) K) r := by
 rw [jZ]; by_cases h : a < b
 ·rw [decide_eq_true h]; exact h1 h
 ·rw [decide_eq_false h]; exact h2 (by omega)
theorem aDS (h1 : a ≤ b → E f ks (K (.bool true) H) r) (h2 : b < a → E f ks (K (.bool false) H) r) : E f ks (aE (pu H (bC P .leq t c (.int k a) (.int k b))) K) r := by
 rw [aAJ]; by_cases h : a ≤ b
 ·rw [decide_eq_true h]; exact h1 h
 ·rw [decide_eq_false h]; exact h2 (by omega)
theorem aDR (h1 : b < a → E f ks (K (.bool true) H) r) (h2 : a ≤ b → E f ks (K (.bool false) H) r) : E f ks (aE (pu H (bC P .gtr t c (.int k a) (.int k b))) K) r := by
 rw [aAI]; by_cases h : b < a
 ·rw [decide_eq_true h]; exact h1 h
 ·rw [decide_eq_false h]; exact h2 (by omega)
theorem aDQ (h1 : b ≤ a → E f ks (K (.bool true) H) r) (h2 : a < b → E f ks (K (.bool false) H) r) : E f ks (aE (pu H (bC P .geq t c (.int k a) (.int k b))) K) r := by
 rw [iI]; by_cases h : b ≤ a
 ·rw [decide_eq_true h]; exact h1 h
 ·rw [decide_eq_false h]; exact h2 (by omega)
theorem aDV {g : Bool} (h1 : g = true → E f ks (K (.bool false) H) r) (h2 : g = false → E f ks (K (.bool true) H) r) : E f ks (aE (pu H (un .not (.bool g))) K) r := by
 rw [aEa]
 cases g
 ·exact h2 rfl
 ·exact h1 rfl
theorem xR {g : Bool} {x y : AV} (h1 : g = true → E f ks (K x H) r) (h2 : g = false → E f ks (K y H) r) : E f ks (aE (pu H (dL (.bool g) x y)) K) r := by
 cases g
 ·exact h2 rfl
 ·exact h1 rfl
theorem sGd {g : Bool} {w : Bool} {m : Option (AV × aA)} (h1 : g = true → E f ks (aE (gd (.bool true) w H m) K) r) (h2 : g = false → E f ks (aE (gd (.bool false) w H m) K) r) : E f ks (aE (gd (.bool g) w H m) K) r := by
 cases g
 ·exact h2 rfl
 ·exact h1 rfl
end
section
variable {P : Program} {t : Nat} {c : Bool} {k : IntKind} {a b : Int}
theorem gH (h : a = b) : bC P .eql t c (.int k a) (.int k b) = some (.bool true) := by rw [aAG, decide_eq_true h]
theorem fU (h : a ≠ b) : bC P .eql t c (.int k a) (.int k b) = some (.bool false) := by rw [aAG, decide_eq_false h]
theorem gW (h : a ≠ b) : bC P .neq t c (.int k a) (.int k b) = some (.bool true) := by rw [aAK, decide_eq_true h]
theorem iD (h : a = b) : bC P .neq t c (.int k a) (.int k b) = some (.bool false) := by rw [aAK, decide_eq_false (fun h' => h' h)]
theorem dU (h : a < b) : bC P .lss t c (.int k a) (.int k b) = some (.bool true) := by rw [jZ, decide_eq_true h]
theorem dR (h : b ≤ a) : bC P .lss t c (.int k a) (.int k b) = some (.bool false) := by rw [jZ, decide_eq_false (by omega)]
theorem vD (h : a ≤ b) : bC P .leq t c (.int k a) (.int k b) = some (.bool true) := by rw [aAJ, decide_eq_true h]
theorem aEM (h : b < a) : bC P .leq t c (.int k a) (.int k b) = some (.bool false) := by rw [aAJ, decide_eq_false (by omega)]
theorem pM (h : b < a) : bC P .gtr t c (.int k a) (.int k b) = some (.bool true) := by rw [aAI, decide_eq_true h]
theorem nH (h : a ≤ b) : bC P .gtr t c (.int k a) (.int k b) = some (.bool false) := by rw [aAI, decide_eq_false (by omega)]
theorem vC (h : b ≤ a) : bC P .geq t c (.int k a) (.int k b) = some (.bool true) := by rw [iI, decide_eq_true h]
theorem jI (h : a < b) : bC P .geq t c (.int k a) (.int k b) = some (.bool false) := by rw [iI, decide_eq_false (by omega)]
theorem aIE (h0 : -9223372036854775808 ≤ a + b) (h1 : a + b < 9223372036854775808) : bC P .add t c (.int .i64 a) (.int .i64 b) = some (.int .i64 (a + b)) := by rw [jE, eG h0 h1]
theorem aIM (h0 : -9223372036854775808 ≤ a - b) (h1 : a - b < 9223372036854775808) : bC P .sub t c (.int .i64 a) (.int .i64 b) = some (.int .i64 (a - b)) := by rw [kA, eG h0 h1]
theorem aGK (h0 : 0 ≤ a + b) (h1 : a + b < 18446744073709551616) : bC P .add t c (.int .u64 a) (.int .u64 b) = some (.int .u64 (a + b)) := by rw [jE, lS h0 h1]
theorem aIG (h0 : -9223372036854775808 ≤ a) (h1 : a < 9223372036854775808) : gL .i64 (.int k a) = some (.int .i64 a) := by rw [lM, eG h0 h1]
theorem aIH (h0 : 0 ≤ a) (h1 : a < 18446744073709551616) : gL .u64 (.int k a) = some (.int .u64 a) := by rw [lM, lS h0 h1]
theorem aIF (h0 : 0 ≤ a) (h1 : a < 256) : gL .u8 (.int k a) = some (.int .u8 a) := by rw [lM, aEg h0 h1]
theorem aGO (h0 : 0 ≤ a) (h1 : a < 4294967296) : gL .u32 (.int k a) = some (.int .u32 a) := by rw [lM, aDf h0 h1]
theorem aEI {s bl L o m : Nat} (h0 : 0 ≤ a) (h1 : a < (m : Int)) : aM s (.sl bl L o m s) (.int k a) = some (.ptr bl L (o + a.toNat) 0) := by simp [aM, h0, h1]
theorem aEK {bor : Bool} {xs : List AV} : cB (.ro bor xs) = some (.int .i64 (xs.length : Int)) := by unfold cB; rfl
theorem aEL {bl L o m s : Nat} : cB (.sl bl L o m s) = some (.int .i64 (m : Int)) := by unfold cB; rfl
theorem aCJ : cB .nils = some (.int .i64 0) := by unfold cB; rfl
theorem aGZ {bl L i o : Nat} : rT (.ptr bl L i o) = some (.ptr bl L i o) := by unfold rT; rfl
theorem aEP {bor : Bool} {x : AV} {o : Nat} : rT (.rp bor x o) = some (.rp bor x o) := by unfold rT; rfl
theorem aEN {g : Nat} {caps : List AV} : rT (.fn g caps) = some (.fn g caps) := by unfold rT; rfl
theorem aEO {g : Nat} : rT (.gl g) = some (.gl g) := by unfold rT; rfl
theorem aII {off bl L i o : Nat} : aF off (.ptr bl L i o) = some (.ptr bl L i (o + off)) := by unfold aF; rfl
theorem aGS {off : Nat} {bor : Bool} {x : AV} {o : Nat} : aF off (.rp bor x o) = some (.rp bor x (o + off)) := by unfold aF; rfl
theorem aGY {G : aC} {s : Nat} {bor : Bool} {cs : List AV} {o : Nat} {H : aA} : aH G false s (.rp bor (.agg cs) o) H = cs[o]? := by unfold aH kJ; rfl
theorem aCI {cs : List AV} {H : aA} : eE (.agg cs) H = some (.rp false (.agg cs) 0, H) := by unfold eE; rfl
theorem aGP {u : AV} {l : List AV} : cX (.tup (u :: l)) 0 = some u := by unfold cX; rfl
theorem aGQ {u v : AV} {l : List AV} : cX (.tup (u :: v :: l)) 1 = some v := by unfold cX; rfl
theorem aGR {u v w : AV} {l : List AV} : cX (.tup (u :: v :: w :: l)) 2 = some w := by unfold cX; rfl
theorem aHb : un .not (.bool true) = some (.bool false) := by rw [aEa]; rfl
theorem aHa : un .not (.bool false) = some (.bool true) := by rw [aEa]; rfl
theorem aIL {H : aA} : hX (some H) = some (.tup [], H) := by unfold hX; rfl
end
section
variable {G : aC} {g : Bool} {s b L i o t z : Nat} {cs : List AV} {blk : ABlk} {H : aA} {v x : AV}
def ldB (g : Bool) (s L i o : Nat) (blk : ABlk) : Option AV := if blk.elems.length = L then (match blk.elems[i]? with | some x => kJ g s x.cells o | none => none) else none
def stB (s L i o : Nat) (v : AV) (blk : ABlk) : Option ABlk := if blk.elems.length = L ∧ fP v = true ∧ v.cells.length = s then
    (match blk.elems[i]? with
     | some x => if o + s ≤ x.cells.length then some { blk with elems := blk.elems.set i (kN x (jU x.cells o v.cells)) } else none
     | none => none) else none
theorem aGW : aH G g s (.ptr 0 L i o) (blk :: H) = ldB g s L i o blk := by unfold aH ldB; rfl
theorem aGX : aH G g s (.ptr (b + 1) L i o) (blk :: H) = aH G g s (.ptr b L i o) H := by unfold aH; rfl
theorem aIJ : ldB false s 1 0 o ⟨t, z, [.agg cs]⟩ = cs[o]? := by unfold ldB kJ; rfl
theorem aGT : ldB true s 1 0 o ⟨t, z, [.agg cs]⟩ = if o + s ≤ cs.length then some (.agg ((cs.drop o).take s)) else none := by unfold ldB kJ; rfl
theorem aEJ {bor : Bool} : aH G true s (.rp bor (.agg cs) o) H = if o + s ≤ cs.length then some (.agg ((cs.drop o).take s)) else none := by unfold aH kJ; rfl
theorem aGV {k : IntKind} {n : Int} : ldB false s 1 0 0 ⟨t, z, [.int k n]⟩ = some (.int k n) := by unfold ldB kJ; rfl
theorem aGU {c : Bool} : ldB false s 1 0 0 ⟨t, z, [.bool c]⟩ = some (.bool c) := by unfold ldB kJ; rfl
theorem aHc : cH s (.ptr 0 L i o) v (blk :: H) = (stB s L i o v blk).map (· :: H) := by
 unfold cH stB
 simp only [List.getElem?_cons_zero]
 split
 ·cases blk.elems[i]? with
  | none => rfl
  | some x => simp only; split <;> rfl
 ·rfl
theorem aHd : cH s (.ptr (b + 1) L i o) v (blk :: H) = (cH s (.ptr b L i o) v H).map (blk :: ·) := by
 unfold cH
 simp only [List.getElem?_cons_succ]
 cases H[b]? with
 | none => rfl
 | some y =>
  simp only
  split
  ·cases y.elems[i]? with
   | none => rfl
   | some x => simp only; split <;> rfl
  ·rfl
theorem aIK : stB s 1 0 o v ⟨t, z, [.agg cs]⟩ = if fP v = true ∧ v.cells.length = s ∧ o + s ≤ cs.length then some ⟨t, z, [.agg (jU cs o v.cells)]⟩ else none := by
 have e : (AV.agg cs).cells = cs := rfl
 unfold stB
 by_cases h1 : fP v = true ∧ v.cells.length = s
 ·by_cases h2 : o + s ≤ cs.length <;> simp [e, h1, h2, kN]
 ·have h3 : ¬ (fP v = true ∧ v.cells.length = s ∧ o + s ≤ cs.length) := fun h => h1 ⟨h.1, h.2.1⟩
  rw [if_neg h3, if_neg (fun h => h1 h.2)]
theorem aGL : gD t (.agg (x :: cs)) H = some (.ptr H.length 1 0 0, H ++ [⟨t, cs.length + 1, [.agg (x :: cs)]⟩]) := by
 unfold gD; simp [fP, AV.cells]
theorem aGN {k : IntKind} {n : Int} : gD t (.int k n) H = some (.ptr H.length 1 0 0, H ++ [⟨t, 1, [.int k n]⟩]) := by unfold gD; rfl
theorem aGM {c : Bool} : gD t (.bool c) H = some (.ptr H.length 1 0 0, H ++ [⟨t, 1, [.bool c]⟩]) := by unfold gD; rfl
end
theorem w1 {x x' : AV} {H : aA} (h : aV 0 x = true) (e : x = x') : E fQ [] (cS [x] 0 H) (some (x', [])) := by subst e; exact oF (gY h H)
theorem w2 {x y r : AV} {H : aA} (hx : aV 0 x = true) (hy : aV 0 y = true) (e : AV.tup [x, y] = r) : E fQ [] (cS [x, y] 0 H) (some (r, [])) := by subst e; exact oF (aGf hx hy H)
theorem w1b {b b' : Bool} {H : aA} (e : b = b') : E fQ [] (cS [.bool b] 0 H) (some (.bool b', [])) := w1 rfl (by rw [e])
theorem qf : type_of% (aKI @aGH <| aKI @eZ <| aKI @eY <| aKI @aGm <| aKI @aGi <| aKI @aGl <| aKI @aGj <| @aGk) := aKI @aGH <| aKI @eZ <| aKI @eY <| aKI @aGm <| aKI @aGi <| aKI @aGl <| aKI @aGj <| @aGk
theorem qa : type_of% (aKI qf <| aKI @xF <| aKI @uC <| aKI @aHb <| aKI @aHa <| aKI @gH <| aKI @fU <| aKI @gW <| aKI @iD <| aKI @dU <| aKI @dR <| aKI @vD <| aKI @aEM <| aKI @pM <| aKI @nH <| aKI @vC <| aKI @jI <| aKI @aIE <| aKI @aIM <| aKI @aGK <| aKI @aIG <| aKI @aIH <| aKI @aIF <| aKI @aGO <| aKI @aEI <| aKI @aEK <| aKI @aEL <| aKI @aCJ <| aKI @aGZ <| aKI @aEP <| aKI @aEN <| aKI @aEO <| aKI @aII <| aKI @aGS <| aKI @aGY <| aKI @aCI <| aKI @aGP <| aKI @aGQ <| aKI @aGR <| aKI @List.getElem?_cons_zero.{0} <| aKI @List.getElem?_cons_succ.{0} <| aKI @List.getElem?_nil.{0} <| aKI @aIL <| aKI @aGW <| aKI @aGX <| aKI @aIJ <| aKI @aGT <| aKI @aEJ <| aKI @aGV <| aKI @aGU <| aKI @aGL <| aKI @aGN <| aKI @aGM <| aKI @List.length_cons.{0} <| aKI @List.length_nil.{0} <| aKI @List.cons_append.{0} <| aKI @List.nil_append.{0} <| aKI @List.drop_zero.{0} <| aKI @List.drop_succ_cons.{0} <| aKI @List.take_succ_cons.{0} <| aKI @List.take_zero.{0} <| aKI @aHc <| aKI @aHd <| aKI @aIK <| aKI @Option.map_some.{0, 0} <| aKI @List.replicate_succ.{0} <| aKI @List.replicate_zero.{0} <| aKI @List.set_cons_zero.{0} <| aKI @List.set_cons_succ.{0} <| aKI @Nat.le_refl <| aKI @and_self <| aKI @true_and <| aKI @and_true <| aKI @if_true.{1} <| aKI @Bool.not_true <| aKI @Bool.not_false <| aKI @Int.toNat_natCast <| @Nat.zero_add) := aKI qf <| aKI @xF <| aKI @uC <| aKI @aHb <| aKI @aHa <| aKI @gH <| aKI @fU <| aKI @gW <| aKI @iD <| aKI @dU <| aKI @dR <| aKI @vD <| aKI @aEM <| aKI @pM <| aKI @nH <| aKI @vC <| aKI @jI <| aKI @aIE <| aKI @aIM <| aKI @aGK <| aKI @aIG <| aKI @aIH <| aKI @aIF <| aKI @aGO <| aKI @aEI <| aKI @aEK <| aKI @aEL <| aKI @aCJ <| aKI @aGZ <| aKI @aEP <| aKI @aEN <| aKI @aEO <| aKI @aII <| aKI @aGS <| aKI @aGY <| aKI @aCI <| aKI @aGP <| aKI @aGQ <| aKI @aGR <| aKI @List.getElem?_cons_zero.{0} <| aKI @List.getElem?_cons_succ.{0} <| aKI @List.getElem?_nil.{0} <| aKI @aIL <| aKI @aGW <| aKI @aGX <| aKI @aIJ <| aKI @aGT <| aKI @aEJ <| aKI @aGV <| aKI @aGU <| aKI @aGL <| aKI @aGN <| aKI @aGM <| aKI @List.length_cons.{0} <| aKI @List.length_nil.{0} <| aKI @List.cons_append.{0} <| aKI @List.nil_append.{0} <| aKI @List.drop_zero.{0} <| aKI @List.drop_succ_cons.{0} <| aKI @List.take_succ_cons.{0} <| aKI @List.take_zero.{0} <| aKI @aHc <| aKI @aHd <| aKI @aIK <| aKI @Option.map_some.{0, 0} <| aKI @List.replicate_succ.{0} <| aKI @List.replicate_zero.{0} <| aKI @List.set_cons_zero.{0} <| aKI @List.set_cons_succ.{0} <| aKI @Nat.le_refl <| aKI @and_self <| aKI @true_and <| aKI @and_true <| aKI @if_true.{1} <| aKI @Bool.not_true <| aKI @Bool.not_false <| aKI @Int.toNat_natCast <| @Nat.zero_add
theorem qC {p q : Prop} (h : q) (t : q → p := by
 intro hgo
 repeat' first
  | (with_reducible first | refine eT ?_ | refine eN ?_ | refine eS ?_ | refine eXn ?_ | refine eXr ?_ | refine eX ?_ | refine eI ?_ | refine eK ?_ | refine eV0 ?_ | refine wD ?_ | refine aCd ?_ | refine aBZ ?_ | refine aCc ?_ | refine aCa ?_ | refine aCb ?_)
  | ((with_reducible apply eCn); (simp only [eZ, eY]; first | done | (with_reducible exact rfl)))
  | ((with_reducible apply eJ); (rfl))
  | ((with_reducible apply wE); (first | rfl | (simp only [eZ, eY]; rfl)))
  | ((with_reducible apply eL); (first | exact lx1 | exact lx2 | exact lx3))
  | ((with_reducible apply eB); (first | (with_reducible exact rfl) | (simp (disch := omega) only [qf, fx]; first | done | (with_reducible exact rfl) | (with_reducible exact ⟨rfl, rfl⟩)) | (simp (disch := omega) only [qa, jU, AV.cells, fP, eU, kG, dN, gQ, iV, Nat.reduceLeDiff, Nat.reduceLT, Nat.reduceAdd, ↓reduceIte, fx]; first | done | (with_reducible exact rfl) | (with_reducible exact ⟨rfl, rfl⟩))))
  | ((with_reducible apply eR); (simp only [eZ, eY]; (with_reducible exact rfl)))
  | ((with_reducible first | refine aDP ?_ ?_ | refine aDU ?_ ?_ | refine aDT ?_ ?_ | refine aDS ?_ ?_ | refine aDR ?_ ?_ | refine aDQ ?_ ?_ | refine aDV ?_ ?_ | refine xR ?_ ?_ | refine sGd ?_ ?_ | refine wC ?_ ?_) <;> intro hq <;> try subst hq)
 all_goals first | omega | exact hgo) : p := t h
theorem eH {p q : Prop} (h : q) (t : q → p := by
 intro hgo
 repeat first
  | (with_reducible first | refine eT ?_ | refine eN ?_ | refine eS ?_ | refine eXn ?_ | refine eXr ?_ | refine eX ?_ | refine eI ?_ | refine eK ?_ | refine eV0 ?_ | refine wD ?_ | refine aCd ?_ | refine aBZ ?_ | refine aCc ?_ | refine aCa ?_ | refine aCb ?_)
  | ((with_reducible apply eCn); (simp only [eZ, eY]; first | done | (with_reducible exact rfl)))
  | ((with_reducible apply eJ); (rfl))
  | ((with_reducible apply wE); (first | rfl | (simp only [eZ, eY]; rfl)))
  | ((with_reducible apply eL); (first | exact lx1 | exact lx2 | exact lx3))
  | ((with_reducible apply eB); (first | (with_reducible exact rfl) | (simp (disch := omega) only [qf, fx]; first | done | (with_reducible exact rfl) | (with_reducible exact ⟨rfl, rfl⟩)) | (simp (disch := omega) only [qa, jU, AV.cells, fP, eU, kG, dN, gQ, iV, Nat.reduceLeDiff, Nat.reduceLT, Nat.reduceAdd, ↓reduceIte, fx]; first | done | (with_reducible exact rfl) | (with_reducible exact ⟨rfl, rfl⟩))))
  | ((with_reducible apply eR); (simp only [eZ, eY]; (with_reducible exact rfl)))
 exact hgo) : p := t h
theorem mM {f : AV → Option AV} : ∀ {xs : List AV}, (∀ x ∈ xs, f x = some x) → nG f xs = some xs
 | [], _ => rfl
 | x :: xs, h => by
  have h2 := mM (f := f) (xs := xs) (fun y hy => h y (List.mem_cons_of_mem _ hy))
  simp only [nG, h x (by simp), h2]
theorem jS {n : Nat} : ∀ {xs : List AV} (_ : bG n xs = true) (x : AV) (_ : x ∈ xs), aV n x = true
 | [], _, _, hx => by cases hx
 | y :: xs, h, x, hx => by
  simp only [bG, Bool.and_eq_true] at h
  rcases List.mem_cons.1 hx with rfl | hx
  ·exact h.1
  ·exact jS h.2 x hx
mutual
theorem eA {n m : Nat} (h : n ≤ m) : ∀ {x : AV}, aV n x = true → aV m x = true
 | .mp .., hx => by simp [aV] at hx ⊢; omega
 | .ptr .., hx => by simp [aV] at hx ⊢; omega
 | .sl .., hx => by simp [aV] at hx ⊢; omega
 | .fn _ caps, hx => by simp only [aV] at hx ⊢; exact kF h hx
 | .iface _ v, hx => by simp only [aV] at hx ⊢; exact eA h hx
 | .agg cs, hx => by simp only [aV] at hx ⊢; exact kF h hx
 | .tup vs, hx => by simp only [aV] at hx ⊢; exact kF h hx
 | .ro _ xs, hx => by simp only [aV] at hx ⊢; exact kF h hx
 | .rp _ x _, hx => by simp only [aV] at hx ⊢; exact eA h hx
 | .undef, _ => rfl
 | .bool _, _ => rfl
 | .int .., _ => rfl
 | .str _, _ => rfl
 | .nilp, _ => rfl
 | .nilf, _ => rfl
 | .nili, _ => rfl
 | .gl _, _ => rfl
 | .gp _, _ => rfl
 | .nils, _ => rfl
 | .anyb, _ => rfl
 | .emp, _ => rfl
theorem kF {n m : Nat} (h : n ≤ m) : ∀ {xs : List AV}, bG n xs = true → bG m xs = true
 | [], _ => rfl
 | x :: xs, hx => by
  simp only [bG, Bool.and_eq_true] at hx ⊢
  exact ⟨eA h hx.1, kF h hx.2⟩
end
theorem pF {H : aA} {n d : Nat} {x : AV} (h : aV n x = true) : nM (lO H n d) x = some x := by
 cases x with
 | agg cs =>
  simp only [aV] at h
  have : nG (lO H n d) cs = some cs := mM fun y hy => uX (jS h y hy) d
  simp only [nM, this]
 | _ => exact uX h d
theorem aGh {H : aA} {b n0 d n sz ty : Nat} {xs : List AV} (hb : H[b]? = some ⟨ty, sz, xs⟩) (hn : n0 ≤ b) (hl : xs.length = n) (hs : jB sz xs = true) (hx : bG n0 xs = true) :
  lO H n0 (d + 1) (.sl b n 0 n sz) = some (.ro false xs) := by
 have h1 : aV n0 (.sl b n 0 n sz) = false := by simp [aV]; omega
 have h2 : nG (nM (lO H n0 d)) xs = some xs := mM fun x h => pF (jS hx x h)
 have h3 : fN (.sl b n 0 n sz) H = some xs := by
  simp only [fN, hb, hl, if_true, List.drop_zero]
  rw [List.take_of_length_le (by omega)]
 unfold lO
 simp only [h1, h3, hs, h2]
theorem sK {α : Type} (s : Nat) (e : α → AV) (h : ∀ a, (e a).cells.length = s) (xs : List α) : jB s (xs.map e) = true := by
 unfold jB
 simp [List.all_eq_true, h]
theorem aHl {H : aA} {b n sz ty : Nat} {xs : List AV} (hb : H[b]? = some ⟨ty, sz, xs⟩) (hl : xs.length = n) (hs : jB sz xs = true) (hx : dK xs = true) :
  aBt H (.sl b n 0 n sz) = some (.ro true xs) := by
 have h3 : fN (.sl b n 0 n sz) H = some xs := by
  simp only [fN, hb, hl, if_true, List.drop_zero]
  rw [List.take_of_length_le (by omega)]
 unfold aBt uI
 simp only [h3, hs, hx, Bool.and_self, if_true]
theorem aBu {H : aA} {x y : AV} {xs ys : List AV} (h : aBt H x = some y) (hs : mQ H xs = some ys) : mQ H (x :: xs) = some (y :: ys) := by
 simp only [mQ, h, hs]
theorem aIk {H : aA} : mQ H [] = some [] := rfl
theorem aCD {g : cK} {args bs : List AV} {r : AV} {H : aA} (ha : mQ H args = some bs) (hg : g bs [] = some (r, [])) (hr : dV r = true) : aJ g args H = some (r, H) := by
 simp only [aJ, ha, hg, hr, if_true]
theorem kI {g : cK} {args : List AV} {r : AV} {H H' : aA} (h : g args H = some (r, H')) (hl : H.length ≤ H'.length) : dG g args H = some (r, H') := by
 simp only [dG, h, hl, if_true]
theorem aAV {x y : AV} {n : Nat} {H : aA} (h : lO H n 6 x = some y) (hb : bS n (H.take n) = true) : cS [x] n H = some (.ret, [y], H.take n) := by
 have hc : eF n [] H = some (H.take n) := by unfold eF; simp only [bG, hb, Bool.true_and]
 unfold cS iQ
 simp only [h, hc]
end Go.Proofs.YtlkgkfgkiidhdaaDoor.Mir
