/- Mirror, part O: regions, in whatever order. -/
import Derived.Test.YtdfglgnflldkpaaDoorMirN
namespace Go.Proofs.YtdfglgnflldkpaaDoor.Mir
open Go
set_option linter.unusedVariables false
set_option linter.unusedSimpArgs false

abbrev TS := Nat → AV

/-- An operation that a truth guards. -/
def gd (g : AV) (want : Bool) (H : AHeap) (m : Option (AV × AHeap)) : Option (AV × AHeap) :=
  match g with
  | .bool b => match b == want with
    | true => m
    | false => some (.tup [], H)
  | .tup [] => some (.tup [], H)
  | _ => none

def dstOf (ops : Array Oper) (j : Nat) : Option Tmp := (ops[j]?).bind (·.dst)

def stepOp (P : Program) (G : Globs) (E : Env) (ann : Ann) (ops : Array Oper) (o : Oper) (T : TS) (H : AHeap) : Option (AV × AHeap) :=
  match o.guard with
  | none => opR P G E ann o T H
  | some (j, want) => match dstOf ops j with
    | some d => gd (T d) want H (opR P G E ann o T H)
    | none => none

def bnd {γ : Type} (m : Option (AV × AHeap)) (k : AV → AHeap → Option γ) : Option γ :=
  match m with
  | some (v, H) => k v H
  | none => none

def putT (T : TS) (d : Option Tmp) (v : AV) : TS :=
  match d with
  | some d => fun t => if t = d then v else T t
  | none => T

def runOps {γ : Type} (P : Program) (G : Globs) (E : Env) (ann : Ann) (ops : Array Oper) : List Oper → (TS → AHeap → Option γ) → TS → AHeap → Option γ
  | [], K, T, H => K T H
  | o :: l, K, T, H => bnd (stepOp P G E ann ops o T H) fun v H' => runOps P G E ann ops l K (putT T o.dst v) H'

/-- Abstract and real: temporaries, heap, world. -/
structure St (G : Globs) (c0 : Ctx) (w0 : World) (N B : Nat) (T : TS) (H : AHeap) (c : Ctx) (a : Act) (w : World) : Prop where
  good : Good G c w
  heap : HeapAt c H w
  dom : Dom c H
  step : Step c0 w0 c w
  tmps : ∀ t, Rel c (T t) (a.tmps.getD t undef)
  size : a.tmps.size = N
  defers : a.defers = []
  low : B ≤ H.length

theorem rel_opd {c : Ctx} {T : TS} {a : Act} {x : Operand} (h : ∀ t, x = .tmp t → Rel c (T t) (a.tmps.getD t undef)) : Rel c (opd T x) (a.eval x) := by
  cases x with
  | tmp t => exact h t rfl
  | const v => exact rel_ofVal c v
  | global g => exact .gl g
  | func f => exact .fn (vs := []) rfl (by simp)

theorem rel_undef_tup (c : Ctx) : Rel c (.tup []) undef := .tup (vs := []) rfl (by simp)

theorem gd_some {g : AV} {want : Bool} {H H' : AHeap} {m : Option (AV × AHeap)} {v : AV} (h : gd g want H m = some (v, H')) :
    (g = .bool want ∧ m = some (v, H')) ∨ ((g = .bool (!want) ∨ g = .tup []) ∧ v = .tup [] ∧ H' = H) := by
  unfold gd at h
  split at h
  · rename_i b
    split at h
    · rename_i hb; simp at hb; subst hb; exact .inl ⟨rfl, h⟩
    · rename_i hb
      simp only [Option.some.injEq, Prod.mk.injEq] at h
      refine .inr ⟨.inl ?_, h.1.symm, h.2.symm⟩
      cases b <;> cases want <;> simp_all
  · simp only [Option.some.injEq, Prod.mk.injEq] at h
    exact .inr ⟨.inr rfl, h.1.symm, h.2.symm⟩
  · cases h

theorem getD_bool {a : Array Value} {t : Nat} {b : Bool} (h : a.getD t undef = .bool b) : a[t]? = some (.bool b) := by
  by_cases ht : t < a.size
  · rw [Array.getElem?_eq_getElem ht]
    simp [Array.getD, ht] at h
    rw [h]
  · simp [Array.getD, ht, undef] at h

/-- Whether an operation is wanted. -/
theorem stepOp_wanted {P : Program} {G : Globs} {E : Env} {ann : Ann} {ops : Array Oper} {o : Oper} {T : TS} {H H' : AHeap} {v : AV} (h : stepOp P G E ann ops o T H = some (v, H'))
    {c : Ctx} {a : Act} (hT : ∀ j want d, o.guard = some (j, want) → dstOf ops j = some d → Rel c (T d) (a.tmps.getD d undef)) :
    (Region.wanted o (yielded ops a.tmps) = true ∧ opR P G E ann o T H = some (v, H')) ∨ (Region.wanted o (yielded ops a.tmps) = false ∧ v = .tup [] ∧ H' = H) := by
  unfold stepOp at h
  split at h
  · rename_i hg
    exact .inl ⟨by simp [Region.wanted, hg], h⟩
  · rename_i j want hg
    split at h
    case h_2 => cases h
    rename_i d hd
    have hr := hT j want d hg hd
    have hd' : (ops[j]?).bind (·.dst) = some d := hd
    rcases gd_some h with ⟨e1, e2⟩ | ⟨e1 | e1, e2, e3⟩
    · rw [e1] at hr
      have := getD_bool hr.of_bool
      exact .inl ⟨by simp [Region.wanted, hg, yielded, hd', this], e2⟩
    · rw [e1] at hr
      have := getD_bool hr.of_bool
      exact .inr ⟨by simp [Region.wanted, hg, yielded, hd', this], e2, e3⟩
    · rw [e1] at hr
      obtain ⟨vs, hv, hrl⟩ := hr.of_tup
      have hvs : vs = [] := List.eq_nil_of_length_eq_zero hrl.1.symm
      subst hvs
      refine .inr ⟨?_, e2, e3⟩
      have hy : yielded ops a.tmps j = none := by
        simp only [yielded, hd', Option.bind_some]
        by_cases hlt : d < a.tmps.size
        · have : a.tmps[d]? = some (.tuple #[]) := by
            rw [Array.getElem?_eq_getElem hlt]
            simp [Array.getD, hlt] at hv
            rw [hv]
          rw [this]
        · simp [Array.getElem?_eq_none (Nat.le_of_not_lt hlt)]
      simp [Region.wanted, hg, hy]

theorem put_size (a : Act) (d : Option Tmp) (v : Value) : (a.put d v).tmps.size = a.tmps.size := by cases d <;> simp [Act.put]
theorem put_defers (a : Act) (d : Option Tmp) (v : Value) : (a.put d v).defers = a.defers := by cases d <;> rfl
theorem put_getD (a : Act) (d : Option Tmp) (v : Value) (h : ∀ t, d = some t → t < a.tmps.size) (t : Nat) : (a.put d v).tmps.getD t undef = if d = some t then v else a.tmps.getD t undef := by
  cases d with
  | none => simp [Act.put]
  | some d =>
    have hd := h d rfl
    by_cases e : d = t
    · subst e; simp [Act.put, Array.getD, hd]
    · simp [Act.put, Array.getD_eq_getD_getElem?, Array.getElem?_setIfInBounds_ne e, e]

theorem opR_len {P : Program} {G : Globs} {E : Env} {ann : Ann} {o : Oper} {T : TS} {H H' : AHeap} {r : AV} (hop : opR P G E ann o T H = some (r, H')) : H.length ≤ H'.length := by
  by_cases hw : writes ann (pureIn E) o = false
  · rcases opR_ext hw hop with rfl | ⟨blk, rfl⟩
    · exact Nat.le_refl _
    · simp
  · obtain ⟨dst, op, type, pos, after, guard⟩ := o
    cases op <;> first | (exact absurd rfl hw) | skip
    case store t x y =>
      simp only [opR] at hop
      split at hop
      · rename_i H1 h1
        simp only [Option.some.injEq, Prod.mk.injEq] at hop
        obtain ⟨_, rfl⟩ := hop
        rw [storeA_length h1]; exact Nat.le_refl _
      · cases hop
    case call cl =>
      obtain ⟨callee, args, ats⟩ := cl
      cases callee with
      | invoke rv m => simp [opR] at hop
      | builtin b =>
        cases b <;> first | (exact absurd rfl hw) | skip
        · simp only [opR] at hop
          split at hop
          · rw [appendA_length hop]; exact Nat.le_refl _
          · cases hop
        · simp only [opR] at hop
          split at hop
          · rw [copyA_length hop]; exact Nat.le_refl _
          · cases hop
      | value f =>
        simp only [opR] at hop
        have hop : callV E (opd T f) (args.toList.map (opd T)) H = some (r, H') := by
          split at hop
          · exact (callPV_callV hop).1
          · exact hop
        unfold callV at hop
        split at hop
        case h_2 => cases hop
        unfold callE at hop
        split at hop
        · unfold pureCall at hop
          (repeat' split at hop) <;> first | (cases hop; done) | (simp only [Option.some.injEq, Prod.mk.injEq] at hop; obtain ⟨_, rfl⟩ := hop; exact Nat.le_refl _)
        · unfold heapCall at hop
          split at hop
          · split at hop
            · rename_i hl
              simp only [Option.some.injEq, Prod.mk.injEq] at hop; obtain ⟨_, rfl⟩ := hop; exact hl
            · cases hop
          · cases hop
        · cases hop

theorem stepOp_len {P : Program} {G : Globs} {E : Env} {ann : Ann} {ops : Array Oper} {o : Oper} {T : TS} {H H' : AHeap} {r : AV} (hs : stepOp P G E ann ops o T H = some (r, H')) : H.length ≤ H'.length := by
  unfold stepOp at hs
  split at hs
  · exact opR_len hs
  · split at hs
    · rcases gd_some hs with ⟨_, e⟩ | ⟨_, _, e⟩
      · exact opR_len e
      · rw [e]; exact Nat.le_refl _
    · cases hs

/-! ### In the order of the text -/

theorem ops_text {P : Program} {G : Globs} {E : Env} {ann : Ann} (hE : EnvSound P G E) {γ : Type} {ops : Array Oper} {K : TS → AHeap → Option γ} {out : γ} {c0 : Ctx} {w0 : World} {N B : Nat} {Q : Exit → Act → World → Prop}
    (hdst : ∀ (i : Nat) (o : Oper) (t : Nat), ops[i]? = some o → o.dst = some t → t < N)
    (hQ : ∀ T H c a w, K T H = some out → St G c0 w0 N B T H c a w → Q .normal a w) :
    ∀ (l : List Oper) (k : Nat), (∀ j, l[j]? = ops[k + j]?) → ∀ (T : TS) (H : AHeap) (c : Ctx) (a : Act) (w : World), runOps P G E ann ops l K T H = some out → St G c0 w0 N B T H c a w →
      wpOps P ops Q (List.range' k l.length) a w
  | [], k, hl, T, H, c, a, w, hr, hs => by
    simp only [List.length_nil, List.range'_zero, wpOps]
    exact hQ T H c a w hr hs
  | o :: l, k, hl, T, H, c, a, w, hr, hs => by
    have h0 : ops[k]? = some o := by simpa using (hl 0).symm
    simp only [List.length_cons, List.range'_succ]
    rw [wpOps_cons]
    unfold wpOp
    simp only [h0]
    simp only [runOps, bnd] at hr
    split at hr
    case h_2 => cases hr
    rename_i v H' hst
    have next : ∀ u w' c', Step c w c' w' → Good G c' w' → HeapAt c' H' w' → Dom c' H' → Rel c' v u → wpOps P ops Q (List.range' (k + 1) l.length) (a.put o.dst u) w' := by
      intro u w' c' h1 h2 h3 h4 h5
      refine ops_text hE hdst hQ l (k + 1) (fun j => by have := hl (j + 1); simpa [Nat.add_assoc, Nat.add_comm 1 j] using this) _ H' c' _ w' hr ⟨h2, h3, h4, hs.step.trans h1, fun t => ?_, by rw [put_size]; exact hs.size, by rw [put_defers]; exact hs.defers, Nat.le_trans hs.low (stepOp_len hst)⟩
      rw [put_getD a o.dst u (fun t ht => by rw [hs.size]; exact hdst k o t h0 ht)]
      cases hd : o.dst with
      | none => simpa [putT] using (hs.tmps t).mono h1.le
      | some d =>
        by_cases e : t = d
        · subst e; simpa [putT] using h5
        · have : ¬ (d = t) := fun q => e q.symm
          simpa [putT, e, this] using (hs.tmps t).mono h1.le
    rcases stepOp_wanted hst (c := c) (a := a) (fun j want d _ _ => hs.tmps d) with ⟨hw, hop⟩ | ⟨hw, rfl, rfl⟩
    · rw [if_pos hw]
      refine .inl (opR_sound hE hop hs.good hs.heap (fun _ => ?_) (fun x _ => rel_opd (fun t _ => hs.tmps t)) (fun _ => hs.dom) (fun u w' c' ho _ => next u w' c' ho.step ho.good ho.heap (ho.dom hs.dom) ho.rel))
      cases hm : c.m H.length with
      | none => rfl
      | some i => have := hs.dom H.length (by rw [hm]; simp); omega
    · rw [hw]
      exact next undef w c (.refl c w) hs.good hs.heap hs.dom (rel_undef_tup c)

theorem region_text {P : Program} {G : Globs} {E : Env} {ann : Ann} (hE : EnvSound P G E) {γ : Type} {ops : Array Oper} {K : TS → AHeap → Option γ} {out : γ} {c0 : Ctx} {w0 : World} {N B id : Nat} {Q : Exit → Act → World → Prop}
    (hdst : ∀ (i : Nat) (o : Oper) (t : Nat), ops[i]? = some o → o.dst = some t → t < N)
    (hQ : ∀ T H c a w, K T H = some out → St G c0 w0 N B T H c a w → Q .normal a w) {T : TS} {H : AHeap} {c : Ctx} {a : Act} {w : World} (hr : runOps P G E ann ops ops.toList K T H = some out) (hs : St G c0 w0 N B T H c a w) :
    (Code.region id ops false).wp P Q a w := by
  refine wp_region ?_
  have := ops_text hE hdst hQ ops.toList 0 (fun j => by simp) T H c a w hr hs
  rw [List.range_eq_range']
  simpa using this

end Go.Proofs.YtdfglgnflldkpaaDoor.Mir
