/- Mirror, part V: a function's evaluation is its contract. -/
import Derived.Test.YtdfglgnflldkpaaDoorMirU
namespace Go.Proofs.YtdfglgnflldkpaaDoor.Mir
open Go
set_option linter.unusedVariables false
set_option linter.unusedSimpArgs false

def resA (P : Program) (G : Globs) (T : TS) (H : AHeap) : ResultVar → Option AV
  | .tmp t => some (T t)
  | .cell a t => loadA P G t (T a) H

def resL (P : Program) (G : Globs) (T : TS) (H : AHeap) : List ResultVar → Option (List AV)
  | [] => some []
  | r :: l => match resA P G T H r, resL P G T H l with
    | some x, some xs => some (x :: xs)
    | _, _ => none

def packR (xs : List AV) : AV :=
  match xs with
  | [x] => x
  | xs => .tup xs

def finV (xs : List AV) (n0 : Nat) (H : AHeap) : Option Outc :=
  match frz H n0 6 (packR xs), cutH n0 [] H with
  | some r, some H' => some (.ret, [r], H')
  | _, _ => none

def allSome : List (Option AV) → Option (List AV)
  | [] => some []
  | r :: l => match r, allSome l with
    | some x, some xs => some (x :: xs)
    | _, _ => none

def finL (l : List (Option AV)) (n0 : Nat) (H : AHeap) : Option Outc :=
  match allSome l with
  | some xs => finV xs n0 H
  | none => none

def finK (P : Program) (G : Globs) (rs : List ResultVar) (n0 : Nat) (T : TS) (H : AHeap) : Option Outc :=
  match resL P G T H rs with
  | some xs => finV xs n0 H
  | none => none

def endK (P : Program) (G : Globs) (rs : List ResultVar) (n0 : Nat) : Kont
  | .normal, T, H => finK P G rs n0 T H
  | .ret, T, H => finK P G rs n0 T H
  | .exit _, _, _ => none

/-! A function that hands over what it made: nothing is laid for good, the heap stays as it is. -/
def finO (xs : List AV) (H : AHeap) : Option Outc := some (.ret, [packR xs], H)

def finOL (l : List (Option AV)) (H : AHeap) : Option Outc :=
  match allSome l with
  | some xs => finO xs H
  | none => none

def finKO (P : Program) (G : Globs) (rs : List ResultVar) (T : TS) (H : AHeap) : Option Outc :=
  match resL P G T H rs with
  | some xs => finO xs H
  | none => none

def endKO (P : Program) (G : Globs) (rs : List ResultVar) : Kont
  | .normal, T, H => finKO P G rs T H
  | .ret, T, H => finKO P G rs T H
  | .exit _, _, _ => none

def argsT (args : List AV) : TS := fun t => match args[t]? with | some x => x | none => .tup []

def outV (m : Option Outc) : Option (AV × AHeap) :=
  match m with
  | some (_, [r], H') => some (r, H')
  | _ => none

/-- A function, evaluated with so much fuel. -/
def absFn (P : Program) (G : Globs) (E : Env) (ann : Ann) (rs : List ResultVar) (code : Code) (N n : Nat) (args : List AV) (H : AHeap) : Option (AV × AHeap) :=
  match decide (args.length ≤ N) with
  | true => outV (exec P G E ann n code (endK P G rs H.length) (argsT args) H)
  | false => none

/-- The same of a function that hands over what it made. -/
def absFnO (P : Program) (G : Globs) (E : Env) (ann : Ann) (rs : List ResultVar) (code : Code) (N n : Nat) (args : List AV) (H : AHeap) : Option (AV × AHeap) :=
  match decide (args.length ≤ N) with
  | true => outV (exec P G E ann n code (endKO P G rs) (argsT args) H)
  | false => none

def resC (tmps : Array Value) : ResultVar → Sem Value
  | .tmp t => pure (tmps.getD t undef)
  | .cell x t => do loadVar t (← asAddr (tmps.getD x undef))

theorem results_eq (fn : Func) (tmps : Array Value) : results fn tmps = (do let vs ← fn.results.mapM (resC tmps); pure (if h : vs.size = 1 then vs[0] else .tuple vs)) := by
  unfold results
  congr 1

theorem run_results {P : Program} {G : Globs} {T : TS} {H : AHeap} {c : Ctx} {a : Act} {w : World} (hg : Good G c w) (hH : HeapAt c H w) (hT : ∀ t, Rel c (T t) (a.tmps.getD t undef)) :
    ∀ (l : List ResultVar) (xs : List AV), resL P G T H l = some xs →
      ∃ vs : List Value, (l.mapM (resC a.tmps)).run P w = .ok vs w ∧ RelL c xs vs
  | [], xs, h => by simp [resL] at h; subst h; exact ⟨[], by simp, .nil⟩
  | r :: l, xs, h => by
    simp only [resL] at h
    split at h
    case h_2 => cases h
    rename_i x xs' h1 h2
    simp at h; subst h
    obtain ⟨vs, e1, e2⟩ := run_results hg hH hT l xs' h2
    have hr : ∃ v, (resC a.tmps r).run P w = .ok v w ∧ Rel c x v := by
      cases r with
      | tmp t =>
        simp [resA] at h1; subst h1
        exact ⟨_, rfl, hT t⟩
      | cell y t =>
        simp only [resA] at h1
        obtain ⟨v, g1, g2⟩ := loadA_sound h1 hg hH (hT y)
        refine ⟨v, ?_, g2⟩
        simp only [resC]
        generalize a.tmps.getD y undef = q at g1 ⊢
        cases q <;> simp [Instr.loadAt, Instr.sureAddr] at g1
        case pointer p =>
          cases p with
          | none => simp at g1
          | some p => simpa [asAddr] using g1
    obtain ⟨v, g1, g2⟩ := hr
    refine ⟨v :: vs, ?_, .cons g2 e2⟩
    simp only [List.mapM_cons, Sem.run_bind, g1, Result.andThen_ok, e1, Sem.run_pure]

theorem absFn_sound {P : Program} {G : Globs} {E : Env} {ann : Ann} {f : Nat} {fn : Func} {code : Code} {rs : List ResultVar} {N n : Nat} (hE : EnvSound P G E) (hm : P.follows .mixedOrders = true)
    (hf : P.funcs[f]? = some fn) (hb : fn.body = some code) (hname : (fn.name == "runtime.NumGoroutine") = false) (hrs : fn.results.toList = rs) (hN : fn.ntmps = N) (hok : codeOk ann (pureIn E) N code = true) :
    Sound P G f (absFn P G E ann rs code N n) := by
  refine ⟨⟨fn, hf, by simp [hb], hname⟩, fun args H r H' h c w vs hg hH hd ha => ?_⟩
  unfold absFn at h
  split at h
  case h_2 => cases h
  rename_i hlen
  have hlen' : args.length ≤ N := of_decide_eq_true hlen
  unfold outV at h
  split at h
  case h_2 => cases h
  rename_i e r' H1 hex
  simp only [Option.some.injEq, Prod.mk.injEq] at h
  obtain ⟨rfl, rfl⟩ := h
  refine calls_of_wp hf hb ?_
  have hvl := ha.1
  have hst : St G c w N H.length (argsT args) H c { tmps := vs.toArray ++ Array.replicate (fn.ntmps - vs.toArray.size) undef, defers := [] } w := by
    refine ⟨hg, hH, hd, .refl c w, fun t => ?_, by simp; omega, rfl, Nat.le_refl _⟩
    unfold argsT
    split
    · rename_i x hx
      obtain ⟨v, h1, h2⟩ := ha.get hx
      have ht : t < vs.length := (List.getElem?_eq_some_iff.1 h1).1
      have : (vs.toArray ++ Array.replicate (fn.ntmps - vs.toArray.size) undef).getD t undef = v := by
        rw [Array.getD_eq_getD_getElem?, Array.getElem?_append_left (by simpa using ht)]
        simp [h1]
      rw [this]; exact h2
    · rename_i hx
      have ht : vs.length ≤ t := by rw [← hvl]; exact List.getElem?_eq_none_iff.1 hx
      have : (vs.toArray ++ Array.replicate (fn.ntmps - vs.toArray.size) undef).getD t undef = undef := by
        rw [Array.getD_eq_getD_getElem?, Array.getElem?_append_right (by simpa using ht)]
        rw [Array.getElem?_replicate]
        split <;> rfl
      rw [this]; exact rel_undef_tup c
  refine exec_fine hE hm n code hok H.length _ _ _ _ _ _ _ _ hd hex hst ?_
  intro e' T' H2 c' a' w' hk hs
  have fin : finK P G rs H.length T' H2 = some (e, [r'], H1) → a'.defers = [] ∧ ∃ v, (results fn a'.tmps).run P w' = .ok v w' ∧ ∃ v' c'', Ending.returned v = .returned v' ∧ Ret G c w r' H1 v' w' c'' := by
    intro hfin
    refine ⟨hs.defers, ?_⟩
    unfold finK at hfin
    split at hfin
    case h_2 => cases hfin
    rename_i xs hxs
    unfold finV at hfin
    split at hfin
    case h_2 => cases hfin
    rename_i r1 H3 hfr hcut
    simp only [Option.some.injEq, Prod.mk.injEq, List.cons.injEq, and_true] at hfin
    obtain ⟨_, rfl, rfl⟩ := hfin
    obtain ⟨us, g1, g2⟩ := run_results hs.good hs.heap hs.tmps rs xs hxs
    have hrun : (results fn a'.tmps).run P w' = .ok (if h : us.toArray.size = 1 then us.toArray[0] else .tuple us.toArray) w' := by
      rw [results_eq, Array.mapM_eq_mapM_toList, hrs]
      simp only [Sem.run_bind, Sem.run_map, g1, Result.andThen_ok, Sem.run_pure]
    have hpack : Rel c' (packR xs) (if h : us.toArray.size = 1 then us.toArray[0] else .tuple us.toArray) := by
      have hl := g2.1
      unfold packR
      split
      · rename_i x
        simp only [List.length_cons, List.length_nil] at hl
        obtain ⟨u, rfl⟩ := List.length_eq_one_iff.1 hl.symm
        simpa using g2.head
      · rename_i hx
        have hne : ¬ (us.toArray.size = 1) := by
          intro q
          simp only [List.size_toArray] at q
          rw [← hl] at q
          obtain ⟨x, rfl⟩ := List.length_eq_one_iff.1 q
          exact hx x rfl
        rw [dif_neg hne]
        exact .tup g2.1 g2.2
    refine ⟨_, hrun, _, c'.lock w' H.length, rfl, lock_step hs.good hs.step hd, lock_good hs.good hs.heap hE.glob H.length, ?_, ?_, frz_sound hs.good hs.heap H.length 6 _ _ _ hfr hpack⟩
    · unfold cutH at hcut
      split at hcut
      case h_2 => cases hcut
      rename_i hb
      simp only [Bool.and_eq_true] at hb
      simp at hcut; subst hcut
      have hle := lock_le hs.good H.length
      exact (hs.heap.cut hb.2).keep hle (fun _ _ h => h) (fun _ _ => rfl)
    · intro b hb
      have hl : H3.length = H.length := by
        unfold cutH at hcut
        split at hcut
        · simp at hcut; rw [← hcut]; simp [hs.low]
        · cases hcut
      by_cases q : b < H.length
      · omega
      · simp [Ctx.lock, q] at hb
  cases e' with
  | normal => exact fin hk
  | ret => exact fin hk
  | exit id => simp [endK] at hk

theorem absFnO_sound {P : Program} {G : Globs} {E : Env} {ann : Ann} {f : Nat} {fn : Func} {code : Code} {rs : List ResultVar} {N n : Nat} (hE : EnvSound P G E) (hm : P.follows .mixedOrders = true)
    (hf : P.funcs[f]? = some fn) (hb : fn.body = some code) (hname : (fn.name == "runtime.NumGoroutine") = false) (hrs : fn.results.toList = rs) (hN : fn.ntmps = N) (hok : codeOk ann (pureIn E) N code = true) :
    Sound P G f (absFnO P G E ann rs code N n) := by
  refine ⟨⟨fn, hf, by simp [hb], hname⟩, fun args H r H' h c w vs hg hH hd ha => ?_⟩
  unfold absFnO at h
  split at h
  case h_2 => cases h
  rename_i hlen
  have hlen' : args.length ≤ N := of_decide_eq_true hlen
  unfold outV at h
  split at h
  case h_2 => cases h
  rename_i e r' H1 hex
  simp only [Option.some.injEq, Prod.mk.injEq] at h
  obtain ⟨rfl, rfl⟩ := h
  refine calls_of_wp hf hb ?_
  have hvl := ha.1
  have hst : St G c w N H.length (argsT args) H c { tmps := vs.toArray ++ Array.replicate (fn.ntmps - vs.toArray.size) undef, defers := [] } w := by
    refine ⟨hg, hH, hd, .refl c w, fun t => ?_, by simp; omega, rfl, Nat.le_refl _⟩
    unfold argsT
    split
    · rename_i x hx
      obtain ⟨v, h1, h2⟩ := ha.get hx
      have ht : t < vs.length := (List.getElem?_eq_some_iff.1 h1).1
      have : (vs.toArray ++ Array.replicate (fn.ntmps - vs.toArray.size) undef).getD t undef = v := by
        rw [Array.getD_eq_getD_getElem?, Array.getElem?_append_left (by simpa using ht)]
        simp [h1]
      rw [this]; exact h2
    · rename_i hx
      have ht : vs.length ≤ t := by rw [← hvl]; exact List.getElem?_eq_none_iff.1 hx
      have : (vs.toArray ++ Array.replicate (fn.ntmps - vs.toArray.size) undef).getD t undef = undef := by
        rw [Array.getD_eq_getD_getElem?, Array.getElem?_append_right (by simpa using ht)]
        rw [Array.getElem?_replicate]
        split <;> rfl
      rw [this]; exact rel_undef_tup c
  refine exec_fine hE hm n code hok H.length _ _ _ _ _ _ _ _ hd hex hst ?_
  intro e' T' H2 c' a' w' hk hs
  have fin : finKO P G rs T' H2 = some (e, [r'], H1) → a'.defers = [] ∧ ∃ v, (results fn a'.tmps).run P w' = .ok v w' ∧ ∃ v' c'', Ending.returned v = .returned v' ∧ Ret G c w r' H1 v' w' c'' := by
    intro hfin
    refine ⟨hs.defers, ?_⟩
    unfold finKO at hfin
    split at hfin
    case h_2 => cases hfin
    rename_i xs hxs
    unfold finO at hfin
    simp only [Option.some.injEq, Prod.mk.injEq, List.cons.injEq, and_true] at hfin
    obtain ⟨_, rfl, rfl⟩ := hfin
    obtain ⟨us, g1, g2⟩ := run_results hs.good hs.heap hs.tmps rs xs hxs
    have hrun : (results fn a'.tmps).run P w' = .ok (if h : us.toArray.size = 1 then us.toArray[0] else .tuple us.toArray) w' := by
      rw [results_eq, Array.mapM_eq_mapM_toList, hrs]
      simp only [Sem.run_bind, Sem.run_map, g1, Result.andThen_ok, Sem.run_pure]
    have hpack : Rel c' (packR xs) (if h : us.toArray.size = 1 then us.toArray[0] else .tuple us.toArray) := by
      have hl := g2.1
      unfold packR
      split
      · rename_i x
        simp only [List.length_cons, List.length_nil] at hl
        obtain ⟨u, rfl⟩ := List.length_eq_one_iff.1 hl.symm
        simpa using g2.head
      · rename_i hx
        have hne : ¬ (us.toArray.size = 1) := by
          intro q
          simp only [List.size_toArray] at q
          rw [← hl] at q
          obtain ⟨x, rfl⟩ := List.length_eq_one_iff.1 q
          exact hx x rfl
        rw [dif_neg hne]
        exact .tup g2.1 g2.2
    exact ⟨_, hrun, _, c', rfl, hs.step, hs.good, hs.heap, hs.dom, hpack⟩
  cases e' with
  | normal => exact fin hk
  | ret => exact fin hk
  | exit id => simp [endKO] at hk

end Go.Proofs.YtdfglgnflldkpaaDoor.Mir
