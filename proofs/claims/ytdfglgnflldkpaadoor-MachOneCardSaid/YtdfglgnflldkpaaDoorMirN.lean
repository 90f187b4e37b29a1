/- Mirror, part N: operations that touch no memory; regions. -/
import Derived.Test.YtdfglgnflldkpaaDoorMirM
namespace Go.Proofs.YtdfglgnflldkpaaDoor.Mir
open Go
set_option linter.unusedVariables false
set_option linter.unusedSimpArgs false

/-- An operation that touches no memory gives the same over every heap. -/
theorem opR_pure {P : Program} {G : Globs} {E : Env} {ann : Ann} {o : Oper} {T : Nat → AV} {H H' : AHeap} {r : AV} (ht : touches ann o = false) (h : opR P G E ann o T H = some (r, H')) :
    H' = H ∧ ∀ (c : Ctx) (w : World) (a : Act), Good G c w → (∀ x ∈ o.op.operands, Rel c (opd T x) (a.eval x)) → ∃ v, (execOp a.eval o).run P w = .ok (.value v) w ∧ Rel c r v := by
  obtain ⟨dst, op, type, pos, after, guard⟩ := o
  have moveK : ∀ x, (op = .move x ∨ op = .assign x) → touches ann ⟨dst, op, type, pos, after, guard⟩ = (isNilSl x && nilDst ann dst) → moveA P ann ⟨dst, op, type, pos, after, guard⟩ x T H = some (r, H') →
      H' = H ∧ ∀ (c : Ctx) (w : World) (a : Act), Good G c w → (∀ x ∈ op.operands, Rel c (opd T x) (a.eval x)) → ∃ v, (execOp a.eval (Oper.mk dst op type pos after guard)).run P w = .ok (.value v) w ∧ Rel c r v := by
    intro x hx he hm
    rw [ht] at he
    unfold moveA at hm
    simp only [← he] at hm
    simp only [Option.some.injEq, Prod.mk.injEq] at hm
    obtain ⟨rfl, rfl⟩ := hm
    refine ⟨rfl, fun c w a hg hT => ⟨a.eval x, ?_, hT x (by rcases hx with rfl | rfl <;> simp [Op.operands])⟩⟩
    rcases hx with rfl | rfl <;> rfl
  cases op <;> simp only [opR] at h <;> try (cases h; done)
  case move x => exact moveK x (.inl rfl) rfl h
  case assign x => exact moveK x (.inr rfl) rfl h
  case pick cc x y =>
    obtain ⟨h1, rfl⟩ := pu_some h
    refine ⟨rfl, fun c w a hg hT => ?_⟩
    have r1 := hT cc (by simp [Op.operands]); have r2 := hT x (by simp [Op.operands]); have r3 := hT y (by simp [Op.operands])
    unfold pickA at h1
    split at h1
    case h_2 => cases h1
    rename_i b hb
    rw [hb] at r1
    have e1 := r1.of_bool
    simp at h1; subst h1
    refine ⟨if b then a.eval x else a.eval y, ?_, ?_⟩
    · simp [execOp, e1, asBool]
    · cases b <;> simpa
  case alloc t => cases ht
  case box t x => cases ht
  case build t parts =>
    obtain ⟨h1, rfl⟩ := pu_some h
    refine ⟨rfl, fun c w a hg hT => ?_⟩
    have hp := parts_rel (c := c) (T := T) (ρ := a.eval) parts (fun p hp => hT p.2 (by simpa [Op.operands] using ⟨p.1, by simpa using hp⟩))
    obtain ⟨v, e1, e2⟩ := buildA_sound h1 (w := w) hp
    exact ⟨v, run_v e1, e2⟩
  case buildSlice t len parts => cases ht
  case load t x =>
    cases x with
    | tmp _ => cases ht
    | const _ => cases ht
    | func _ => cases ht
    | global g =>
      obtain ⟨h1, rfl⟩ := pu_some h
      refine ⟨rfl, fun c w a hg hT => ?_⟩
      unfold loadA at h1
      split at h1
      case h_2 => cases h1
      rename_i gg s hag hsz
      simp only [opd, loadV] at h1
      split at h1
      · cases h1
      obtain ⟨v, e1, e2⟩ := hg.glob _ _ h1
      have := hg.holds _ _ (hg.MB _ _ e1)
      refine ⟨v, run_v ?_, e2⟩
      simp [Instr.loadAt, Act.eval, Instr.sureAddr, loadVar, aggOf_run hag, this]
  case store t x y => cases ht
  case nilCheck x =>
    obtain ⟨h1, rfl⟩ := pu_some h
    refine ⟨rfl, fun c w a hg hT => ?_⟩
    obtain ⟨rfl, hv⟩ := nilA_sound h1 (hT x (by simp [Op.operands]))
    refine ⟨a.eval x, ?_, hT x (by simp [Op.operands])⟩
    rcases hv with ⟨ad, hv⟩ | ⟨f, cs, hv⟩ <;> simp [execOp, hv]
  case binOp bop t x y yt =>
    obtain ⟨h1, rfl⟩ := pu_some h
    refine ⟨rfl, fun c w a hg hT => ?_⟩
    obtain ⟨v, e1, e2⟩ := bin_sound h1 hg (hT x (by simp [Op.operands])) (hT y (by simp [Op.operands])) x y (fun h => h)
    exact ⟨v, run_v e1, e2⟩
  case unOp uop t x =>
    obtain ⟨h1, rfl⟩ := pu_some h
    refine ⟨rfl, fun c w a hg hT => ?_⟩
    obtain ⟨v, e1, e2⟩ := un_sound (P := P) (w := w) h1 (hT x (by simp [Op.operands]))
    exact ⟨v, run_v e1, e2⟩
  case convert sT dT x =>
    obtain ⟨h1, rfl⟩ := pu_some h
    refine ⟨rfl, fun c w a hg hT => ?_⟩
    obtain ⟨v, e1, e2⟩ := convA_sound (w := w) h1 (hT x (by simp [Op.operands]))
    exact ⟨v, run_v e1, e2⟩
  case makeInterface t x =>
    obtain ⟨h1, rfl⟩ := pu_some h
    refine ⟨rfl, fun c w a hg hT => ?_⟩
    obtain ⟨v, e1, e2⟩ := ifaceA_sound (w := w) h1 (hT x (by simp [Op.operands]))
    exact ⟨v, run_v e1, e2⟩
  case makeFunc fn first captured =>
    cases fn <;> simp only at h <;> try (cases h; done)
    rename_i f
    split at h
    case h_2 => cases h
    rename_i hfi
    simp only [Option.some.injEq, Prod.mk.injEq] at h
    obtain ⟨rfl, rfl⟩ := h
    refine ⟨rfl, fun c w a hg hT => ?_⟩
    have hf0 : first = #[] := by apply Array.ext'; simpa using hfi
    subst hf0
    have hr := relL_map (c := c) (T := T) (ρ := a.eval) captured.toList (fun x hx => hT x (by simp [Op.operands]; simpa using hx))
    refine ⟨.func (.func f) #[] (captured.toList.map a.eval).toArray, ?_, .fn hr.1 hr.2⟩
    simp only [execOp, Instr.makeFunc]
    have : captured.map a.eval = (captured.toList.map a.eval).toArray := by apply Array.ext'; simp
    rw [this]
    simp
  case makeSlice t x y => cases ht
  case slice t x lo hi mx =>
    cases mx with
    | some m => cases h
    | none =>
      obtain ⟨h1, rfl⟩ := pu_some h
      refine ⟨rfl, fun c w a hg hT => ?_⟩
      obtain ⟨v, e1, e2⟩ := sliceA_sound (w := w) (vlo := lo.map a.eval) (vhi := hi.map a.eval) h1 (hT x (by simp [Op.operands]))
        (fun y hy => by
          obtain ⟨l, rfl, rfl⟩ := Option.map_eq_some_iff.1 hy
          exact ⟨_, rfl, hT l (by simp [Op.operands])⟩) (fun hy => by simpa using hy)
        (fun y hy => by
          obtain ⟨l, rfl, rfl⟩ := Option.map_eq_some_iff.1 hy
          exact ⟨_, rfl, hT l (by simp [Op.operands])⟩) (fun hy => by simpa using hy)
      exact ⟨v, run_v e1, e2⟩
  case fieldAddr t x f =>
    obtain ⟨h1, rfl⟩ := pu_some h
    refine ⟨rfl, fun c w a hg hT => ?_⟩
    obtain ⟨v, e1, e2⟩ := fieldAddrA_sound (w := w) h1 (hT x (by simp [Op.operands]))
    exact ⟨v, run_v e1, e2⟩
  case field t x f =>
    obtain ⟨h1, rfl⟩ := pu_some h
    refine ⟨rfl, fun c w a hg hT => ?_⟩
    obtain ⟨v, e1, e2⟩ := fieldA_sound (w := w) h1 (hT x (by simp [Op.operands]))
    exact ⟨v, run_v e1, e2⟩
  case indexAddr t x i =>
    obtain ⟨h1, rfl⟩ := pu_some h
    refine ⟨rfl, fun c w a hg hT => ?_⟩
    obtain ⟨v, e1, e2⟩ := indexAddrA_sound (w := w) h1 (hT x (by simp [Op.operands])) (hT i (by simp [Op.operands]))
    exact ⟨v, run_v e1, e2⟩
  case index t x i =>
    obtain ⟨h1, rfl⟩ := pu_some h
    refine ⟨rfl, fun c w a hg hT => ?_⟩
    obtain ⟨v, e1, e2⟩ := indexA_sound (w := w) h1 (hT x (by simp [Op.operands])) (hT i (by simp [Op.operands]))
    exact ⟨v, run_v e1, e2⟩
  case typeAssert x xt t ok =>
    obtain ⟨h1, rfl⟩ := pu_some h
    refine ⟨rfl, fun c w a hg hT => ?_⟩
    obtain ⟨v, e1, e2⟩ := assertA_sound (w := w) (xt := xt) h1 (hT x (by simp [Op.operands]))
    exact ⟨v, run_v e1, e2⟩
  case extract x i =>
    obtain ⟨h1, rfl⟩ := pu_some h
    refine ⟨rfl, fun c w a hg hT => ?_⟩
    obtain ⟨v, e1, e2⟩ := extractA_sound (P := P) (w := w) h1 (hT x (by simp [Op.operands]))
    exact ⟨v, run_v e1, e2⟩
  case call cl =>
    obtain ⟨callee, args, ats⟩ := cl
    have hbi : ∀ (a : Act) (w : World) (b : Builtin) (s : Sem Value) (v : Value) (w' : World), callee = .builtin b → (∀ cs, builtin b ats type cs (args.map a.eval) = (do pure (.value (← s)))) → s.run P w = .ok v w' →
        (execOp a.eval (Oper.mk dst (.call ⟨callee, args, ats⟩) type pos after guard)).run P w = .ok (.value v) w' := by
      intro a w b s v w' hb hs hr
      subst hb
      simp [execOp, resolve, invoke, hs, hr]
    cases callee with
    | value f => cases ht
    | invoke rv m => cases h
    | builtin b =>
    cases b <;> simp only at h <;> (first | (cases h; done) | (cases ht; done) | skip)
    case len =>
      split at h
      case h_2 => cases h
      rename_i t x ht' hx
      obtain ⟨h1, rfl⟩ := pu_some h
      refine ⟨rfl, fun c w a hg hT => ?_⟩
      have harg : ∀ x ∈ args.toList, Rel c (opd T x) (a.eval x) := fun x hx => hT x (by simp [Op.operands, Call.operands]; simpa using hx)
      have ht' : ats = #[t] := by apply Array.ext'; simpa using ht'
      have hx' : args = #[x] := by apply Array.ext'; simpa using hx
      subst ht' hx'
      obtain ⟨v, e1, e2⟩ := lenA_sound (w := w) (ty := type) h1 (harg x (by simp))
      exact ⟨v, hbi a w .len _ v w rfl (fun _ => rfl) (by simpa using e1), e2⟩
    case min =>
      split at h
      case h_2 => cases h
      rename_i x l hx
      obtain ⟨h1, rfl⟩ := pu_some h
      refine ⟨rfl, fun c w a hg hT => ?_⟩
      have harg : ∀ x ∈ args.toList, Rel c (opd T x) (a.eval x) := fun x hx => hT x (by simp [Op.operands, Call.operands]; simpa using hx)
      have hrel := relL_map (c := c) (T := T) (ρ := a.eval) l (fun y hy => harg y (by rw [hx]; simp [hy]))
      obtain ⟨v, e1, e2⟩ := foldA_sound (P := P) (g := Builtin.min2) (w := w) (fun x y r vx vy hf h1 h2 => min2A_sound hf h1 h2) _ _ _ _ _ h1 (harg x (by rw [hx]; simp)) hrel
      refine ⟨v, hbi a w .min _ v w rfl (fun _ => rfl) ?_, e2⟩
      simpa [Builtin.min_, hx] using e1
    case max =>
      split at h
      case h_2 => cases h
      rename_i x l hx
      obtain ⟨h1, rfl⟩ := pu_some h
      refine ⟨rfl, fun c w a hg hT => ?_⟩
      have harg : ∀ x ∈ args.toList, Rel c (opd T x) (a.eval x) := fun x hx => hT x (by simp [Op.operands, Call.operands]; simpa using hx)
      have hrel := relL_map (c := c) (T := T) (ρ := a.eval) l (fun y hy => harg y (by rw [hx]; simp [hy]))
      obtain ⟨v, e1, e2⟩ := foldA_sound (P := P) (g := Builtin.max2) (w := w) (fun x y r vx vy hf h1 h2 => max2A_sound hf h1 h2) _ _ _ _ _ h1 (harg x (by rw [hx]; simp)) hrel
      refine ⟨v, hbi a w .max _ v w rfl (fun _ => rfl) ?_, e2⟩
      simpa [Builtin.max_, hx] using e1

/-- Whatever an operation that writes nothing leaves: the heap is as it was, or has one block more. -/
theorem opR_ext {P : Program} {G : Globs} {E : Env} {ann : Ann} {o : Oper} {T : Nat → AV} {H H' : AHeap} {r : AV} (hw : writes ann (pureIn E) o = false) (h : opR P G E ann o T H = some (r, H')) :
    H' = H ∨ ∃ blk, H' = H ++ [blk] := by
  by_cases ht : touches ann o = false
  · exact .inl (opR_pure ht h).1
  obtain ⟨dst, op, type, pos, after, guard⟩ := o
  have moveK : ∀ (o : Oper) x, moveA P ann o x T H = some (r, H') → H' = H ∨ ∃ blk, H' = H ++ [blk] := by
    intro o x hm
    unfold moveA nilSl at hm
    (repeat' split at hm) <;> first | (cases hm; done) | (simp only [Option.some.injEq, Prod.mk.injEq] at hm; obtain ⟨_, rfl⟩ := hm; first | exact .inl rfl | exact .inr ⟨_, rfl⟩)
  cases op <;> simp only [opR] at h <;> try (cases h; done)
  case move x => exact moveK _ x h
  case assign x => exact moveK _ x h
  case alloc t =>
    unfold allocA boxA at h
    (repeat' split at h) <;> first | (cases h; done) | (simp only [Option.some.injEq, Prod.mk.injEq] at h; obtain ⟨_, rfl⟩ := h; exact .inr ⟨_, rfl⟩)
  case box t x =>
    unfold boxA boxRoA at h
    (repeat' split at h) <;> first | (cases h; done) | (simp only [Option.some.injEq, Prod.mk.injEq] at h; obtain ⟨_, rfl⟩ := h; first | exact .inl rfl | exact .inr ⟨_, rfl⟩)
  case buildSlice t len parts =>
    unfold buildSliceA buildOwn buildRo at h
    (repeat' split at h) <;> first | (cases h; done) | (simp only [Option.some.injEq, Prod.mk.injEq] at h; obtain ⟨_, rfl⟩ := h; first | exact .inl rfl | exact .inr ⟨_, rfl⟩)
  case makeSlice t x y =>
    unfold makeSliceA makeSliceV at h
    (repeat' split at h) <;> first | (cases h; done) | (simp only [Option.some.injEq, Prod.mk.injEq] at h; obtain ⟨_, rfl⟩ := h; exact .inr ⟨_, rfl⟩)
  case store t x y => cases hw
  case makeFunc fn first captured =>
    cases fn <;> simp only at h <;> try (cases h; done)
    split at h
    · simp only [Option.some.injEq, Prod.mk.injEq] at h; exact .inl h.2.symm
    · cases h
  case slice t x lo hi mx =>
    cases mx with
    | some m => cases h
    | none => exact .inl (pu_some h).2
  case call cl =>
    obtain ⟨callee, args, ats⟩ := cl
    cases callee with
    | invoke rv m => cases h
    | builtin b =>
      cases b <;> simp only at h <;> (first | (cases h; done) | (cases hw; done) | skip)
      all_goals
        split at h
        · exact .inl (pu_some h).2
        · cases h
    | value f =>
      simp only at h
      split at h
      · unfold callPV at h
        split at h
        case h_2 => cases h
        split at h
        case h_2 => cases h
        split at h
        · unfold pureCall at h
          (repeat' split at h) <;> first | (cases h; done) | (simp only [Option.some.injEq, Prod.mk.injEq] at h; exact .inl h.2.symm)
        · cases h
      rename_i hpa
      unfold callV at h
      split at h
      case h_2 => cases h
      rename_i fid caps hfc
      cases f with
      | tmp _ => simp [writes, hpa] at hw
      | const _ => cases hw
      | global _ => cases hw
      | func g =>
        simp [opd] at hfc
        obtain ⟨rfl, rfl⟩ := hfc
        simp only [writes] at hw
        unfold callE at h
        split at h
        · unfold pureCall at h
          (repeat' split at h) <;> first | (cases h; done) | (simp only [Option.some.injEq, Prod.mk.injEq] at h; exact .inl h.2.symm)
        · rename_i hf; simp [pureIn, hf] at hw
        · cases h
  all_goals exact .inl (pu_some h).2

end Go.Proofs.YtdfglgnflldkpaaDoor.Mir
