/- Mirror, part M: each operation is sound. -/
import Derived.Test.YtdfglgnflldkpaaDoorMirL
namespace Go.Proofs.YtdfglgnflldkpaaDoor.Mir
open Go
set_option linter.unusedVariables false
set_option linter.unusedSimpArgs false

theorem wp_of_value {P : Program} {o : Oper} {a : Act} {w w' : World} {v : Value} {next : Act → World → Prop} {Q : Exit → Act → World → Prop}
    (h : (execOp a.eval o).run P w = .ok (.value v) w') (k : next (a.put o.dst v) w') : o.wp P a w next Q := by
  unfold Oper.wp; rw [h]; exact k

theorem wp_of_skip {P : Program} {o : Oper} {a : Act} {w w' : World} {next : Act → World → Prop} {Q : Exit → Act → World → Prop}
    (h : (execOp a.eval o).run P w = .ok .skip w') (k : next (a.put o.dst undef) w') : o.wp P a w next Q := by
  unfold Oper.wp; rw [h]; exact k

theorem wp_of_enter {P : Program} {o : Oper} {a : Act} {w : World} {f : Nat} {args : Array Value} {next : Act → World → Prop} {Q : Exit → Act → World → Prop}
    (h : (execOp a.eval o).run P w = .ok (.enter f args) w) {R : Value → World → Prop} (hc : Calls P f args w (fun e w' => ∃ v, e = .returned v ∧ R v w')) (k : ∀ v w', R v w' → next (a.put o.dst v) w') : o.wp P a w next Q := by
  unfold Oper.wp; rw [h, Oper.upon_enter]
  refine hc.mono fun e w' ⟨v, he, hr⟩ => ?_
  subst he
  exact k v w' hr

theorem pu_some {H H' : AHeap} {m : Option AV} {r : AV} (h : pu H m = some (r, H')) : m = some r ∧ H' = H := by
  unfold pu at h
  split at h
  · simp only [Option.some.injEq, Prod.mk.injEq] at h; obtain ⟨rfl, rfl⟩ := h; exact ⟨rfl, rfl⟩
  · cases h

theorem run_v {P : Program} {s : Sem Value} {u : Value} {w w' : World} (h : s.run P w = .ok u w') : ((do pure (Next.value (← s))) : Sem Next).run P w = .ok (.value u) w' := by
  simp [h]

/-- Parts as they are, parts as the model has them. -/
theorem parts_rel {c : Ctx} {T : Nat → AV} {ρ : Operand → Value} (parts : Array (Nat × Operand)) (h : ∀ p ∈ parts, Rel c (opd T p.2) (ρ p.2)) :
    PartsRel c (parts.toList.map fun p => (p.1, opd T p.2)) (parts.map fun (i, x) => (i, ρ x)).toList := by
  refine ⟨by simp, fun k i x j v h1 h2 => ?_⟩
  simp only [List.getElem?_map, Array.toList_map, Option.map_eq_some_iff] at h1 h2
  obtain ⟨p, hp, e1⟩ := h1
  obtain ⟨q, hq, e2⟩ := h2
  rw [hp] at hq
  obtain rfl := Option.some.inj hq
  simp only [Prod.mk.injEq] at e1 e2
  obtain ⟨rfl, rfl⟩ := e1
  obtain ⟨rfl, rfl⟩ := e2
  exact ⟨rfl, h p (by simpa using List.mem_of_getElem? hp)⟩

theorem relL_map {c : Ctx} {T : Nat → AV} {ρ : Operand → Value} (l : List Operand) (h : ∀ x ∈ l, Rel c (opd T x) (ρ x)) : RelL c (l.map (opd T)) (l.map ρ) := by
  induction l with
  | nil => exact .nil
  | cons x l ih => exact .cons (h x (by simp)) (ih (fun y hy => h y (by simp [hy])))

theorem run_callFunc {P : Program} {f : Nat} {w : World} (h : ∃ fn, P.funcs[f]? = some fn ∧ fn.body.isSome = true ∧ (fn.name == "runtime.NumGoroutine") = false) (args : Array Value) :
    (callFunc f args).run P w = .ok (.enter f args) w := by
  obtain ⟨fn, h1, h2, h3⟩ := h
  have h4 : fn.body.isNone = false := by cases hb : fn.body <;> simp_all
  simp only [callFunc, Sem.run_bind, run_program, Result.andThen_ok, h1, h3, h4, Bool.false_eq_true, if_false, Sem.run_pure]

theorem callE_sound {P : Program} {G : Globs} {E : Env} (hE : EnvSound P G E) {f : Nat} {args : List AV} {H H' : AHeap} {r : AV} (h : callE E f args H = some (r, H')) {c : Ctx} {w : World} (hg : Good G c w) (hH : HeapAt c H w)
    (hd : pureIn E f = false → Dom c H) {vs : List Value} (ha : RelL c args vs) :
    (∃ fn, P.funcs[f]? = some fn ∧ fn.body.isSome = true ∧ (fn.name == "runtime.NumGoroutine") = false) ∧
    Calls P f vs.toArray w (fun e w' => ∃ v, e = .returned v ∧ ∃ c', Out G c H w r H' v w' c' ∧ (pureIn E f = true → Quiet c H w H' w' c')) := by
  unfold callE at h
  split at h
  · rename_i g hf
    have hs := hE.sound f true g hf
    refine ⟨hs.here, (pureCall_sound hs hE.glob h hg hH ha).mono fun e w' ⟨v, c', h1, h2, h3⟩ => ⟨v, h1, c', h2, fun _ => h3⟩⟩
  · rename_i g hf
    have hs := hE.sound f false g hf
    have hp : pureIn E f = false := by simp [pureIn, hf]
    unfold heapCall at h
    split at h
    case h_2 => cases h
    rename_i r1 H1 h1
    split at h
    case isFalse => cases h
    simp only [Option.some.injEq, Prod.mk.injEq] at h
    obtain ⟨rfl, rfl⟩ := h
    refine ⟨hs.here, (hs.calls args H _ _ h1 c w vs hg hH (hd hp) ha).mono fun e w' ⟨v, c', h1, h2⟩ => ⟨v, h1, c', ⟨h2.step, h2.good, h2.heap, h2.rel, fun _ => h2.dom⟩, fun hq => by rw [hp] at hq; cases hq⟩⟩
  · cases h

theorem storeA_length {P : Program} {t : Nat} {x y : AV} {H H' : AHeap} (h : storeA P t x y H = some H') : H'.length = H.length := by
  unfold storeA storeV at h
  (repeat' split at h) <;> first | (cases h; done) | (simp only [Option.some.injEq] at h; subst h; simp)

theorem appendV_length {e sz : Nat} {s x r : AV} {H H' : AHeap} (h : appendV e sz s x H = some (r, H')) : H'.length = H.length := by
  unfold appendV at h
  (repeat' split at h) <;> first | (cases h; done) | (simp only [Option.some.injEq, Prod.mk.injEq] at h; obtain ⟨_, rfl⟩ := h; simp)

theorem appendA_length {P : Program} {ts : Array Nat} {s x r : AV} {H H' : AHeap} (h : appendA P ts s x H = some (r, H')) : H'.length = H.length := by
  unfold appendA at h
  (repeat' split at h) <;> first | (cases h; done) | exact appendV_length h

theorem boxA_length {t : Nat} {v r : AV} {H H' : AHeap} (h : boxA t v H = some (r, H')) : H'.length ≠ H.length := by
  unfold boxA at h
  split at h
  · simp only [Option.some.injEq, Prod.mk.injEq] at h; obtain ⟨_, rfl⟩ := h; simp
  · cases h

theorem makeSliceA_length {P : Program} {t : Nat} {l c r : AV} {H H' : AHeap} (h : makeSliceA P t l c H = some (r, H')) : H'.length ≠ H.length := by
  unfold makeSliceA makeSliceV at h
  (repeat' split at h) <;> first | (cases h; done) | (simp only [Option.some.injEq, Prod.mk.injEq] at h; obtain ⟨_, rfl⟩ := h; simp)

theorem nilA_sound {x r : AV} (h : nilA x = some r) {c : Ctx} {v : Value} (hx : Rel c x v) : r = x ∧ ((∃ a, v = .pointer (some a)) ∨ ∃ f cs, v = .func (.func f) #[] cs) := by
  unfold nilA at h
  split at h <;> (try cases h) <;> refine ⟨rfl, ?_⟩ <;> cases hx <;> first | exact .inl ⟨_, rfl⟩ | exact .inr ⟨_, _, rfl⟩

theorem opR_sound {P : Program} {G : Globs} {E : Env} {ann : Ann} {o : Oper} {T : Nat → AV} {H H' : AHeap} {r : AV} (hE : EnvSound P G E) (h : opR P G E ann o T H = some (r, H'))
    {c : Ctx} {w : World} {a : Act} (hg : Good G c w) (hH : HeapAt c H w) (hn : H'.length ≠ H.length → c.m H.length = none) (hT : ∀ x ∈ o.op.operands, Rel c (opd T x) (a.eval x)) (hd : writes ann (pureIn E) o = true → Dom c H)
    {next : Act → World → Prop} {Q : Exit → Act → World → Prop}
    (K : ∀ v w' c', Out G c H w r H' v w' c' → (writes ann (pureIn E) o = false → Quiet c H w H' w' c') → next (a.put o.dst v) w') : o.wp P a w next Q := by
  obtain ⟨dst, op, type, pos, after, guard⟩ := o
  have pureK : ∀ v, H' = H → Rel c r v → next (a.put dst v) w := fun v e hr => by
    subst e
    exact K v w c (out_pure hg hH hr).1 (fun _ => (out_pure hg hH hr).2)
  have madeK : ∀ v w' c', Made G c H w r H' v w' c' → next (a.put dst v) w' := fun v w' c' hm =>
    K v w' c' hm.out.1 (fun _ => hm.out.2)
  have moveK : ∀ x, (op = .move x ∨ op = .assign x) → moveA P ann ⟨dst, op, type, pos, after, guard⟩ x T H = some (r, H') → (Oper.mk dst op type pos after guard).wp P a w next Q := by
    intro x hx hm
    have hxT : Rel c (opd T x) (a.eval x) := hT x (by rcases hx with rfl | rfl <;> simp [Op.operands])
    have run : ∀ v, a.eval x = v → (execOp a.eval (Oper.mk dst op type pos after guard)).run P w = .ok (.value v) w := fun v e => by
      subst e; rcases hx with rfl | rfl <;> rfl
    unfold moveA at hm
    split at hm
    · rename_i hc
      simp only [Bool.and_eq_true] at hc
      have hx0 : a.eval x = .slice none 0 0 := by
        unfold isNilSl at hc
        split at hc
        · rfl
        · simp at hc
      obtain ⟨c', h1, h2⟩ := nilSl_sound hm hg hH (hn (by unfold nilSl at hm; (repeat' split at hm) <;> first | (cases hm; done) | (simp only [Option.some.injEq, Prod.mk.injEq] at hm; obtain ⟨_, rfl⟩ := hm; simp)))
      exact wp_of_value (run _ hx0) (K _ w c' h1 (fun _ => h2))
    · simp only [Option.some.injEq, Prod.mk.injEq] at hm
      obtain ⟨rfl, rfl⟩ := hm
      exact wp_of_value (run _ rfl) (pureK _ rfl hxT)
  cases op <;> simp only [opR] at h <;> try (cases h; done)
  case move x => exact moveK x (.inl rfl) h
  case assign x => exact moveK x (.inr rfl) h
  case pick cc x y =>
    obtain ⟨h1, rfl⟩ := pu_some h
    have r1 := hT cc (by simp [Op.operands]); have r2 := hT x (by simp [Op.operands]); have r3 := hT y (by simp [Op.operands])
    unfold pickA at h1
    split at h1
    case h_2 => cases h1
    rename_i b hb
    rw [hb] at r1
    have e1 := r1.of_bool
    simp at h1; subst h1
    refine wp_of_value (v := if b then a.eval x else a.eval y) ?_ (pureK _ rfl ?_)
    · simp [execOp, e1, asBool]
    · cases b <;> simpa
  case alloc t =>
    obtain ⟨u, w', c', h1, h2⟩ := alloc_sound (P := P) h hg hH (hn (by unfold allocA at h; split at h; exact boxA_length h; cases h))
    exact wp_of_value (run_v h1) (madeK _ _ _ h2)
  case box t x =>
    have r1 := hT x (by simp [Op.operands])
    split at h
    · obtain ⟨u, w', c', h1, h2⟩ := box_sound (P := P) h hg hH (hn (boxA_length h)) r1
      exact wp_of_value (run_v h1) (madeK _ _ _ h2)
    · obtain ⟨u, w', c', h1, h2⟩ := boxRoA_sound (P := P) (t := t) h hg hH r1
      exact wp_of_value (run_v h1) (madeK _ _ _ h2)
  case build t parts =>
    obtain ⟨h1, rfl⟩ := pu_some h
    have hp := parts_rel (c := c) (T := T) (ρ := a.eval) parts (fun p hp => hT p.2 (by simpa [Op.operands] using ⟨p.1, by simpa using hp⟩))
    obtain ⟨v, e1, e2⟩ := buildA_sound h1 (w := w) hp
    exact wp_of_value (run_v e1) (pureK _ rfl e2)
  case buildSlice t len parts =>
    have hp := parts_rel (c := c) (T := T) (ρ := a.eval) parts (fun p hp => hT p.2 (by simpa [Op.operands] using ⟨p.1, by simpa using hp⟩))
    obtain ⟨v, w', c', e1, e2⟩ := buildSliceA_sound h hg hH hn hp
    exact wp_of_value (run_v e1) (madeK _ _ _ e2)
  case load t x =>
    obtain ⟨h1, rfl⟩ := pu_some h
    obtain ⟨v, e1, e2⟩ := loadA_sound h1 hg hH (hT x (by simp [Op.operands]))
    exact wp_of_value (run_v e1) (pureK _ rfl e2)
  case store t x y =>
    split at h
    case h_2 => cases h
    rename_i H1 h1
    simp only [Option.some.injEq, Prod.mk.injEq] at h
    obtain ⟨rfl, rfl⟩ := h
    obtain ⟨w', e1, e2, e3, e4⟩ := storeA_sound h1 hg hH (hT x (by simp [Op.operands])) (hT y (by simp [Op.operands]))
    refine wp_of_skip (w' := w') (by simp [execOp, e1]) (K _ w' c ⟨e2, e3, e4, .tup (vs := []) rfl (by simp), fun hdm b hb => ?_⟩ (fun hw => by simp [writes] at hw))
    have := hdm b hb
    rw [storeA_length h1]
    exact this
  case nilCheck x =>
    obtain ⟨h1, rfl⟩ := pu_some h
    have r1 := hT x (by simp [Op.operands])
    obtain ⟨rfl, hv⟩ := nilA_sound h1 r1
    refine wp_of_value (v := a.eval x) ?_ (pureK _ rfl r1)
    rcases hv with ⟨ad, hv⟩ | ⟨f, cs, hv⟩ <;> simp [execOp, hv]
  case binOp bop t x y yt =>
    obtain ⟨h1, rfl⟩ := pu_some h
    obtain ⟨v, e1, e2⟩ := bin_sound h1 hg (hT x (by simp [Op.operands])) (hT y (by simp [Op.operands])) x y (fun h => h)
    exact wp_of_value (run_v e1) (pureK _ rfl e2)
  case unOp uop t x =>
    obtain ⟨h1, rfl⟩ := pu_some h
    obtain ⟨v, e1, e2⟩ := un_sound (P := P) (w := w) h1 (hT x (by simp [Op.operands]))
    exact wp_of_value (run_v e1) (pureK _ rfl e2)
  case convert sT dT x =>
    obtain ⟨h1, rfl⟩ := pu_some h
    obtain ⟨v, e1, e2⟩ := convA_sound (w := w) h1 (hT x (by simp [Op.operands]))
    exact wp_of_value (run_v e1) (pureK _ rfl e2)
  case makeInterface t x =>
    obtain ⟨h1, rfl⟩ := pu_some h
    obtain ⟨v, e1, e2⟩ := ifaceA_sound (w := w) h1 (hT x (by simp [Op.operands]))
    exact wp_of_value (run_v e1) (pureK _ rfl e2)
  case makeFunc fn first captured =>
    split at h
    case h_2 => cases h
    rename_i f
    split at h
    case h_2 => cases h
    rename_i hfi
    simp only [Option.some.injEq, Prod.mk.injEq] at h
    obtain ⟨rfl, rfl⟩ := h
    have hf0 : first = #[] := by apply Array.ext'; simpa using hfi
    subst hf0
    have hr := relL_map (c := c) (T := T) (ρ := a.eval) captured.toList (fun x hx => hT x (by simp [Op.operands]; simpa using hx))
    refine wp_of_value (v := .func (.func f) #[] (captured.toList.map a.eval).toArray) ?_ (pureK _ rfl (.fn hr.1 hr.2))
    simp only [execOp, Instr.makeFunc]
    have : captured.map a.eval = (captured.toList.map a.eval).toArray := by apply Array.ext'; simp
    rw [this]
    simp
  case makeSlice t x y =>
    obtain ⟨v, w', c', e1, e2⟩ := makeSliceA_sound h hg hH (hn (makeSliceA_length h)) (hT x (by simp [Op.operands])) (hT y (by simp [Op.operands]))
    exact wp_of_value (run_v e1) (madeK _ _ _ e2)
  case slice t x lo hi mx =>
    cases mx with
    | some m => cases h
    | none =>
      obtain ⟨h1, rfl⟩ := pu_some h
      obtain ⟨v, e1, e2⟩ := sliceA_sound (w := w) (vlo := lo.map a.eval) (vhi := hi.map a.eval) h1 (hT x (by simp [Op.operands]))
        (fun y hy => by
          obtain ⟨l, rfl, rfl⟩ := Option.map_eq_some_iff.1 hy
          exact ⟨_, rfl, hT l (by simp [Op.operands])⟩) (fun hy => by simpa using hy)
        (fun y hy => by
          obtain ⟨l, rfl, rfl⟩ := Option.map_eq_some_iff.1 hy
          exact ⟨_, rfl, hT l (by simp [Op.operands])⟩) (fun hy => by simpa using hy)
      exact wp_of_value (run_v e1) (pureK _ rfl e2)
  case fieldAddr t x f =>
    obtain ⟨h1, rfl⟩ := pu_some h
    obtain ⟨v, e1, e2⟩ := fieldAddrA_sound (w := w) h1 (hT x (by simp [Op.operands]))
    exact wp_of_value (run_v e1) (pureK _ rfl e2)
  case field t x f =>
    obtain ⟨h1, rfl⟩ := pu_some h
    obtain ⟨v, e1, e2⟩ := fieldA_sound (w := w) h1 (hT x (by simp [Op.operands]))
    exact wp_of_value (run_v e1) (pureK _ rfl e2)
  case indexAddr t x i =>
    obtain ⟨h1, rfl⟩ := pu_some h
    obtain ⟨v, e1, e2⟩ := indexAddrA_sound (w := w) h1 (hT x (by simp [Op.operands])) (hT i (by simp [Op.operands]))
    exact wp_of_value (run_v e1) (pureK _ rfl e2)
  case index t x i =>
    obtain ⟨h1, rfl⟩ := pu_some h
    obtain ⟨v, e1, e2⟩ := indexA_sound (w := w) h1 (hT x (by simp [Op.operands])) (hT i (by simp [Op.operands]))
    exact wp_of_value (run_v e1) (pureK _ rfl e2)
  case typeAssert x xt t ok =>
    obtain ⟨h1, rfl⟩ := pu_some h
    obtain ⟨v, e1, e2⟩ := assertA_sound (w := w) (xt := xt) h1 (hT x (by simp [Op.operands]))
    exact wp_of_value (run_v e1) (pureK _ rfl e2)
  case extract x i =>
    obtain ⟨h1, rfl⟩ := pu_some h
    obtain ⟨v, e1, e2⟩ := extractA_sound (P := P) (w := w) h1 (hT x (by simp [Op.operands]))
    exact wp_of_value (run_v e1) (pureK _ rfl e2)
  case call cl =>
    obtain ⟨callee, args, ats⟩ := cl
    have harg : ∀ x ∈ args.toList, Rel c (opd T x) (a.eval x) := fun x hx => hT x (by simp [Op.operands, Call.operands]; right; simpa using hx)
    have hbi : ∀ (b : Builtin) (s : Sem Value) (v : Value) (w' : World), callee = .builtin b → (∀ cs, builtin b ats type cs (args.map a.eval) = (do pure (.value (← s)))) → s.run P w = .ok v w' →
        (execOp a.eval (Oper.mk dst (.call ⟨callee, args, ats⟩) type pos after guard)).run P w = .ok (.value v) w' := by
      intro b s v w' hb hs hr
      subst hb
      simp [execOp, resolve, invoke, hs, hr]
    simp only at h
    split at h
    · -- len
      split at h
      case h_2 => cases h
      rename_i t x ht hx
      obtain ⟨h1, rfl⟩ := pu_some h
      have ht' : ats = #[t] := by apply Array.ext'; simpa using ht
      have hx' : args = #[x] := by apply Array.ext'; simpa using hx
      subst ht' hx'
      obtain ⟨v, e1, e2⟩ := lenA_sound (w := w) (ty := type) h1 (harg x (by simp))
      exact wp_of_value (hbi .len _ v w rfl (fun _ => rfl) (by simpa using e1)) (pureK _ rfl e2)
    · -- append
      split at h
      case h_2 => cases h
      rename_i s x hx
      have hx' : args = #[s, x] := by apply Array.ext'; simpa using hx
      subst hx'
      obtain ⟨v, w', c', e1, e2⟩ := appendA_sound (ty := type) h hg hH (harg s (by simp)) (harg x (by simp))
      refine wp_of_value (hbi .append _ v w' rfl (fun _ => rfl) (by simpa using e1)) (K v w' c' ⟨e2.step, e2.good, e2.heap, e2.rel, fun hdm b hb => ?_⟩ (fun hw => by simp [writes] at hw))
      rw [appendA_length h]
      exact hdm b (e2.dom b hb)
    · -- copy
      split at h
      case h_2 => cases h
      rename_i s x hx
      have hx' : args = #[s, x] := by apply Array.ext'; simpa using hx
      subst hx'
      obtain ⟨v, w', e1, e2⟩ := copyA_sound (ty := type) h hg hH (harg s (by simp)) (harg x (by simp))
      refine wp_of_value (hbi .copy _ v w' rfl (fun _ => rfl) (by simpa using e1)) (K v w' c ⟨e2.step, e2.good, e2.heap, e2.rel, fun hdm b hb => ?_⟩ (fun hw => by simp [writes] at hw))
      rw [copyA_length h]
      exact hdm b hb
    · -- min
      split at h
      case h_2 => cases h
      rename_i x l hx
      obtain ⟨h1, rfl⟩ := pu_some h
      have hrel := relL_map (c := c) (T := T) (ρ := a.eval) l (fun y hy => harg y (by rw [hx]; simp [hy]))
      obtain ⟨v, e1, e2⟩ := foldA_sound (P := P) (g := Builtin.min2) (w := w) (fun x y r vx vy hf h1 h2 => min2A_sound hf h1 h2) _ _ _ _ _ h1 (harg x (by rw [hx]; simp)) hrel
      refine wp_of_value (hbi .min _ v w rfl (fun _ => rfl) ?_) (pureK _ rfl e2)
      simpa [Builtin.min_, hx] using e1
    · -- max
      split at h
      case h_2 => cases h
      rename_i x l hx
      obtain ⟨h1, rfl⟩ := pu_some h
      have hrel := relL_map (c := c) (T := T) (ρ := a.eval) l (fun y hy => harg y (by rw [hx]; simp [hy]))
      obtain ⟨v, e1, e2⟩ := foldA_sound (P := P) (g := Builtin.max2) (w := w) (fun x y r vx vy hf h1 h2 => max2A_sound hf h1 h2) _ _ _ _ _ h1 (harg x (by rw [hx]; simp)) hrel
      refine wp_of_value (hbi .max _ v w rfl (fun _ => rfl) ?_) (pureK _ rfl e2)
      simpa [Builtin.max_, hx] using e1
    · -- a function
      rename_i f
      have hf := hT f (by simp [Op.operands, Call.operands])
      obtain ⟨h, hpf⟩ : callV E (opd T f) (args.toList.map (opd T)) H = some (r, H') ∧ (pureAt ann f = true → ∃ fid caps, opd T f = .fn fid caps ∧ pureIn E fid = true) := by
        split at h
        · obtain ⟨a, b⟩ := callPV_callV h
          exact ⟨a, fun _ => b⟩
        · rename_i hp
          exact ⟨h, fun q => by rw [q] at hp; cases hp⟩
      unfold callV at h
      split at h
      case h_2 => cases h
      rename_i fid caps hfc
      rw [hfc] at hf
      obtain ⟨vs, hv, hr⟩ := hf.of_fn
      have hrel := relL_map (c := c) (T := T) (ρ := a.eval) args.toList harg
      have hall : RelL c (args.toList.map (opd T) ++ caps) (args.toList.map a.eval ++ vs) := by
        refine ⟨by simp [hr.1], fun i x v h1 h2 => ?_⟩
        by_cases hi : i < args.toList.length
        · rw [List.getElem?_append_left (by simpa using hi)] at h1 h2
          exact hrel.2 _ _ _ h1 h2
        · rw [List.getElem?_append_right (by simp at hi ⊢; omega)] at h1 h2
          simp only [List.length_map] at h1 h2
          exact hr.2 _ _ _ h1 h2
      have hdm : pureIn E fid = false → Dom c H := by
        intro hp
        refine hd ?_
        simp only [writes]
        cases f with
        | func g =>
          simp [opd] at hfc
          obtain ⟨rfl, rfl⟩ := hfc
          simp [hp]
        | tmp t =>
          cases hq : pureAt ann (.tmp t) with
          | false => simp [hq]
          | true =>
            obtain ⟨_, _, e, e2⟩ := hpf hq
            rw [hfc] at e
            cases e
            rw [hp] at e2; cases e2
        | const _ => rfl
        | global _ => rfl
      obtain ⟨hhere, hcall⟩ := callE_sound hE h hg hH hdm hall
      refine wp_of_enter (f := fid) (args := (args.toList.map a.eval ++ vs).toArray) ?_ hcall ?_
      · simp [execOp, resolve, hv, Deferred.ofValue, invoke]
        have := run_callFunc (w := w) hhere (args.map a.eval ++ vs.toArray)
        rw [this]
        congr 2
        apply Array.ext'
        simp
      · intro v w' ⟨c', h1, h2⟩
        refine K v w' c' h1 (fun hw => h2 ?_)
        simp only [writes] at hw
        cases f with
        | func g =>
          simp [opd] at hfc
          obtain ⟨rfl, rfl⟩ := hfc
          simpa using hw
        | tmp t =>
          obtain ⟨_, _, e, e2⟩ := hpf (by simpa using hw)
          rw [hfc] at e
          cases e
          exact e2
        | const _ => simp [pureAt] at hw
        | global _ => simp [pureAt] at hw
    · cases h

end Go.Proofs.YtdfglgnflldkpaaDoor.Mir
