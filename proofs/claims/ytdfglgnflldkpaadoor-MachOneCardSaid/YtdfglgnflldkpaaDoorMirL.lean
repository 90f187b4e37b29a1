/- Mirror, part L: one operation. -/
import Derived.Test.YtdfglgnflldkpaaDoorMirK
namespace Go.Proofs.YtdfglgnflldkpaaDoor.Mir
open Go
set_option linter.unusedVariables false
set_option linter.unusedSimpArgs false

/-! ### A call that keeps nothing -/

theorem Good.bare {G : Globs} {c : Ctx} {w : World} (hg : Good G c w) (hG : ∀ g x, G g = some x → plainB x = true) : Good G (c.bare w) w := by
  refine ⟨fun a v h => h, fun a v h => hg.holds _ _ (hg.MB _ _ h), fun k ⟨b, i, h, _⟩ => by simp [Ctx.bare] at h, hg.sent, fun g a h ⟨b, i, h', _⟩ => by simp [Ctx.bare] at h', hg.sentApart, fun g x h => ?_, fun k ⟨b, i, h, _⟩ => by simp [Ctx.bare] at h⟩
  obtain ⟨v, h1, h2⟩ := hg.glob g x h
  exact ⟨v, h1, Rel.plain (c := c) (c' := c.bare w) (fun _ _ h => h) (fun a v h => hg.holds a v h) rfl h2 (hG g x h)⟩

/-- The caller's places behind a call that keeps nothing. -/
def Ctx.after (c c1 : Ctx) : Ctx := { m := c.m, M := c1.M, B := fun a => match c1.M a with | some v => some v | none => c.B a, S := c.S }

theorem after_step {G : Globs} {c c1 : Ctx} {w w1 : World} (hg : Good G c w) (hs : Step (c.bare w) w c1 w1) (hg1 : Good G c1 w1) : Step c w (c.after c1) w1 ∧ Good G (c.after c1) w1 := by
  have old : ∀ k, k < w.heap.size → w1.heap[k]? = w.heap[k]? := fun k hk => hs.kept k hk (fun ⟨b, i, h, _⟩ => by simp [Ctx.bare] at h)
  have cell : ∀ a v, w.cell? a = some v → w1.cell? a = some v := fun a v h => by
    rw [World.cell?_of_block (w := w) (old _ (block_lt_of_cell h))]; exact h
  have hB : ∀ a v, c.B a = some v → (c.after c1).B a = some v := by
    intro a v h
    simp only [Ctx.after]
    split
    · rename_i u hu
      have h1 := hg1.holds _ _ (hg1.MB _ _ hu)
      have h2 := cell a v (hg.holds _ _ h)
      rw [h1] at h2; exact h2
    · exact h
  have newM : ∀ a v, c1.M a = some v → c.M a = some v ∨ w.heap.size ≤ a.block := fun a v h => hs.newM a v h
  have hstep : Step c w (c.after c1) w1 := by
    refine ⟨⟨fun b i hb => ⟨i, hb, rfl, Nat.le_refl _, fun _ => rfl⟩, fun a v h => hs.le.M a v h, hB, rfl⟩, hs.os, hs.tape, hs.output, hs.size, fun k hk _ => old k hk, fun _ inf h hv _ => ⟨inf, h, hv, rfl⟩, newM, fun a v h => ?_⟩
    simp only [Ctx.after] at h
    split at h
    · rename_i u hu
      rcases newM a u hu with h1 | h1
      · obtain rfl := Option.some.inj h
        exact .inl (hg.MB _ _ h1)
      · exact .inr h1
    · exact .inl h
  refine ⟨hstep, hg.step hstep (fun a v h => ?_) (fun a v h => ?_) (fun k hk a ha => ?_) (fun k hk => ?_)⟩
  · simp only [Ctx.after] at h
    split at h
    · rename_i u hu
      obtain rfl := Option.some.inj h
      exact hg1.holds _ _ (hg1.MB _ _ hu)
    · exact cell a v (hg.holds a v h)
  · simp only [Ctx.after] at h ⊢
    rw [h]
  · have hk' : c.own k := hk
    have hlt := hg.bound k hk'
    have h1 := hg.away k hk' a ha
    simp only [Ctx.after]
    split
    · rename_i u hu
      rcases newM a u hu with h2 | h2
      · rw [hg.MB _ _ h2] at h1; cases h1
      · omega
    · exact h1
  · exact Nat.lt_of_lt_of_le (hg.bound k hk) hs.size

theorem Dom.nil {c : Ctx} (h : ∀ b, c.m b = none) : Dom c [] := fun b hb => absurd (h b) hb

/-- What an operation leaves. quiet: nothing that was there has turned. -/
structure Out (G : Globs) (c : Ctx) (H : AHeap) (w : World) (r : AV) (H' : AHeap) (v : Value) (w' : World) (c' : Ctx) : Prop where
  step : Step c w c' w'
  good : Good G c' w'
  heap : HeapAt c' H' w'
  rel : Rel c' r v
  dom : Dom c H → Dom c' H'

structure Quiet (c : Ctx) (H : AHeap) (w : World) (H' : AHeap) (w' : World) (c' : Ctx) : Prop where
  kept : ∀ k, k < w.heap.size → w'.heap[k]? = w.heap[k]?
  same : ∀ b, b ≠ H.length → c'.m b = c.m b
  ext : H' = H ∨ ∃ blk, H' = H ++ [blk]
  keepm : H' = H → c'.m H.length = c.m H.length

theorem Made.out {G : Globs} {c : Ctx} {H : AHeap} {w : World} {r : AV} {H' : AHeap} {v : Value} {w' : World} {c' : Ctx} (h : Made G c H w r H' v w' c') : Out G c H w r H' v w' c' ∧ Quiet c H w H' w' c' := by
  refine ⟨⟨h.step, h.good, h.heap, h.rel, fun hd b hb => ?_⟩, ⟨h.quiet, h.same, h.ext, h.keepm⟩⟩
  by_cases e : b = H.length
  · subst e
    rcases h.ext with rfl | ⟨blk, rfl⟩
    · rw [h.keepm rfl] at hb; exact hd _ hb
    · simp
  · rw [h.same b e] at hb
    have := hd b hb
    rcases h.ext with rfl | ⟨blk, rfl⟩
    · exact this
    · simp; omega

/-- A pure operation. -/
theorem out_pure {G : Globs} {c : Ctx} {H : AHeap} {w : World} (hg : Good G c w) (hH : HeapAt c H w) {r : AV} {v : Value} (hr : Rel c r v) : Out G c H w r H v w c ∧ Quiet c H w H w c :=
  ⟨⟨.refl c w, hg, hH, hr, fun hd => hd⟩, ⟨fun _ _ => rfl, fun _ _ => rfl, .inl rfl, fun _ => rfl⟩⟩

theorem pureCall_sound {P : Program} {G : Globs} {f : Nat} {g : Den} (hs : Sound P G f g) (hG : ∀ g x, G g = some x → plainB x = true) {args : List AV} {H H' : AHeap} {r : AV} (h : pureCall g args H = some (r, H'))
    {c : Ctx} {w : World} (hg : Good G c w) (hH : HeapAt c H w) {vs : List Value} (ha : RelL c args vs) :
    Calls P f vs.toArray w (fun e w' => ∃ v c', e = .returned v ∧ Out G c H w r H' v w' c' ∧ Quiet c H w H' w' c') := by
  unfold pureCall at h
  split at h
  case h_2 => cases h
  rename_i as has
  split at h
  case h_2 => cases h
  rename_i r' hcall
  split at h
  case isFalse => cases h
  rename_i hclean
  simp only [Option.some.injEq, Prod.mk.injEq] at h
  obtain ⟨rfl, rfl⟩ := h
  refine (hs.calls as [] r' [] hcall (c.bare w) w vs (hg.bare hG) ⟨by simp, by simp [Ctx.bare]⟩ (Dom.nil (fun _ => rfl)) (snapL_sound hg hH has ha)).mono fun e w' he => ?_
  obtain ⟨v, c1, rfl, hret⟩ := he
  obtain ⟨h1, h2⟩ := after_step hg hret.step hret.good
  have old : ∀ k, k < w.heap.size → w'.heap[k]? = w.heap[k]? := fun k hk => hret.step.kept k hk (fun ⟨b, i, h, _⟩ => by simp [Ctx.bare] at h)
  have hrel : Rel (c.after c1) r' v := Rel.clean (c := c1) (c' := c.after c1) (fun _ _ h => h) (hret.step.le.S.symm) hret.rel hclean
  exact ⟨v, c.after c1, rfl, ⟨h1, h2, hH.keep h1.le (fun _ _ h => h) (fun k hk => old k (hg.bound k hk)), hrel, fun hd => hd⟩, ⟨old, fun _ _ => rfl, .inl rfl, fun _ => rfl⟩⟩

/-! ### The operations -/

/-- What the printer tells of a function: slots whose literals, boxes are own blocks; slots of nil slices that may grow; kept slots of loops and joins. -/
structure Ann where
  own : Nat → Bool
  nil : Nat → Bool
  keep : Nat → List Nat
  join : Nat → Option (List Nat)
  virt : Nat → List (Nat × Nat × Nat × Nat)
  pt : Nat → Bool

def opd (T : Nat → AV) : Operand → AV
  | .tmp t => T t
  | .const v => ofVal v
  | .global g => .gl g
  | .func f => .fn f []

def pu (H : AHeap) (m : Option AV) : Option (AV × AHeap) :=
  match m with
  | some v => some (v, H)
  | none => none

def nilA (x : AV) : Option AV :=
  match x with
  | .ptr b L i o => some (.ptr b L i o)
  | .rp bor x o => some (.rp bor x o)
  | .gl g => some (.gl g)
  | .gp g => some (.gp g)
  | .fn f caps => some (.fn f caps)
  | _ => none

def isNilSl : Operand → Bool
  | .const (.slice none 0 0) => true
  | _ => false

/-- A nil slice that may grow. -/
def nilSl (P : Program) (t : Nat) (H : AHeap) : Option (AV × AHeap) :=
  match P.underlying t with
  | some (.slice e) => match tsz P e with
    | some s => if 0 < s then some (.sl H.length 0 0 0 s, H ++ [{ ty := e, sz := s, elems := [] }]) else none
    | none => none
  | _ => none

def nilDst (ann : Ann) : Option Tmp → Bool
  | some d => ann.nil d
  | none => false

def moveA (P : Program) (ann : Ann) (o : Oper) (x : Operand) (T : Nat → AV) (H : AHeap) : Option (AV × AHeap) :=
  match isNilSl x && nilDst ann o.dst with
  | true => nilSl P o.type H
  | false => some (opd T x, H)

def ownAt (ann : Ann) (o : Oper) : Bool := match o.dst with | some d => ann.own d | none => false

/-- The functions that are known: does it keep nothing of the heap?; what it gives. -/
abbrev Env := Nat → Option (Bool × Den)

/-- A call that may turn the heap: it only grows. -/
def heapCall (g : Den) (args : List AV) (H : AHeap) : Option (AV × AHeap) :=
  match g args H with
  | some (r, H') => if H.length ≤ H'.length then some (r, H') else none
  | none => none

def callE (E : Env) (f : Nat) (args : List AV) (H : AHeap) : Option (AV × AHeap) :=
  match E f with
  | some (true, g) => pureCall g args H
  | some (false, g) => heapCall g args H
  | none => none

def callV (E : Env) (f : AV) (args : List AV) (H : AHeap) : Option (AV × AHeap) :=
  match f with
  | .fn f caps => callE E f (args ++ caps) H
  | _ => none

/-- A call of a function that keeps nothing. -/
def callPV (E : Env) (f : AV) (args : List AV) (H : AHeap) : Option (AV × AHeap) :=
  match f with
  | .fn f caps => match E f with
    | some (p, g) => match p with
      | true => pureCall g (args ++ caps) H
      | false => none
    | none => none
  | _ => none

/-- Is a slot one that only holds functions that keep nothing? -/
def pureAt (ann : Ann) : Operand → Bool
  | .tmp t => ann.pt t
  | _ => false

def opR (P : Program) (G : Globs) (E : Env) (ann : Ann) (o : Oper) (T : Nat → AV) (H : AHeap) : Option (AV × AHeap) :=
  match o.op with
  | .move x => moveA P ann o x T H
  | .assign x => moveA P ann o x T H
  | .pick c a b => pu H (pickA (opd T c) (opd T a) (opd T b))
  | .alloc t => allocA P t H
  | .box t x => match ownAt ann o with
    | true => boxA t (opd T x) H
    | false => boxRoA (opd T x) H
  | .build t parts => pu H (buildA P t (parts.toList.map fun p => (p.1, opd T p.2)))
  | .buildSlice t len parts => buildSliceA P (ownAt ann o) t len (parts.toList.map fun p => (p.1, opd T p.2)) H
  | .load t a => pu H (loadA P G t (opd T a) H)
  | .store t a x => match storeA P t (opd T a) (opd T x) H with
    | some H' => some (.tup [], H')
    | none => none
  | .nilCheck x => pu H (nilA (opd T x))
  | .binOp op t x y _ => pu H (bin P op t (isCst x || isCst y) (opd T x) (opd T y))
  | .unOp op _ x => pu H (un op (opd T x))
  | .convert s d x => pu H (convA P s d (opd T x))
  | .makeInterface t x => pu H (ifaceA P t (opd T x))
  | .makeFunc fn first captured => match fn with
    | .func f => match first.toList with
      | [] => some (.fn f (captured.toList.map (opd T)), H)
      | _ => none
    | _ => none
  | .makeSlice t l c => makeSliceA P t (opd T l) (opd T c) H
  | .slice t x lo hi mx => match mx with
    | none => pu H (sliceA P t (opd T x) (lo.map (opd T)) (hi.map (opd T)))
    | some _ => none
  | .fieldAddr t x f => pu H (fieldAddrA P t (opd T x) f)
  | .field t x f => pu H (fieldA P t (opd T x) f)
  | .indexAddr t x i => pu H (indexAddrA P t (opd T x) (opd T i))
  | .index t x i => pu H (indexA P t (opd T x) (opd T i))
  | .typeAssert x _ t ok => pu H (assertA P (opd T x) t ok)
  | .extract x i => pu H (extractA (opd T x) i)
  | .call c => match c.callee with
    | .builtin .len => match c.argTypes.toList, c.args.toList with
      | [t], [x] => pu H (lenA P t (opd T x))
      | _, _ => none
    | .builtin .append => match c.args.toList with
      | [s, x] => appendA P c.argTypes (opd T s) (opd T x) H
      | _ => none
    | .builtin .copy => match c.args.toList with
      | [d, x] => copyA P c.argTypes (opd T d) (opd T x) H
      | _ => none
    | .builtin .min => match c.args.toList with
      | x :: l => pu H (foldA min2A (opd T x) (l.map (opd T)))
      | [] => none
    | .builtin .max => match c.args.toList with
      | x :: l => pu H (foldA max2A (opd T x) (l.map (opd T)))
      | [] => none
    | .value f => match pureAt ann f with
      | true => callPV E (opd T f) (c.args.toList.map (opd T)) H
      | false => callV E (opd T f) (c.args.toList.map (opd T)) H
    | _ => none
  | _ => none

/-- Does it touch memory? -/
def touches (ann : Ann) (o : Oper) : Bool :=
  match o.op with
  | .move x => isNilSl x && nilDst ann o.dst
  | .assign x => isNilSl x && nilDst ann o.dst
  | .load _ (.global _) => false
  | .load _ _ => true
  | .alloc _ => true
  | .box _ _ => true
  | .buildSlice .. => true
  | .makeSlice .. => true
  | .store .. => true
  | .call c => match c.callee with
    | .builtin .len => false
    | .builtin .min => false
    | .builtin .max => false
    | _ => true
  | _ => false

/-- May it turn what was there? -/
def writes (ann : Ann) (pf : Nat → Bool) (o : Oper) : Bool :=
  match o.op with
  | .store .. => true
  | .call c => match c.callee with
    | .builtin .append => true
    | .builtin .copy => true
    | .builtin _ => false
    | .value f => match f with
      | .func f => !pf f
      | f => !pureAt ann f
    | _ => true
  | _ => false

def pureIn (E : Env) (f : Nat) : Bool := match E f with | some (true, _) => true | _ => false

theorem callPV_callV {E : Env} {f : AV} {args : List AV} {H : AHeap} {r : AV × AHeap} (h : callPV E f args H = some r) : callV E f args H = some r ∧ ∃ fid caps, f = .fn fid caps ∧ pureIn E fid = true := by
  unfold callPV at h
  split at h
  case h_2 => cases h
  rename_i fid caps
  split at h
  case h_2 => cases h
  rename_i p g hf
  split at h
  · exact ⟨by simp only [callV, callE, hf]; exact h, fid, caps, rfl, by simp [pureIn, hf]⟩
  · cases h

structure EnvSound (P : Program) (G : Globs) (E : Env) : Prop where
  sound : ∀ f p g, E f = some (p, g) → Sound P G f g
  glob : ∀ g x, G g = some x → plainB x = true

theorem nilSl_sound {P : Program} {G : Globs} {t : Nat} {r : AV} {H H' : AHeap} (h : nilSl P t H = some (r, H')) {c : Ctx} {w : World} (hg : Good G c w) (hH : HeapAt c H w) (hn : c.m H.length = none) :
    ∃ c', Out G c H w r H' (.slice none 0 0) w c' ∧ Quiet c H w H' w c' := by
  unfold nilSl at h
  split at h
  case h_2 => cases h
  rename_i e hd
  split at h
  case h_2 => cases h
  rename_i s hs
  split at h
  case isFalse => cases h
  rename_i hs0
  simp only [Option.some.injEq, Prod.mk.injEq] at h
  obtain ⟨rfl, rfl⟩ := h
  let inf : Info := ⟨0, 0, e, s, 0, true⟩
  have hle := Ctx.push_le (inf := inf) hn
  have hown : ∀ k, (c.push H.length inf).own k → c.own k := fun k hk => by
    rcases Ctx.push_own hk with h | ⟨h, _⟩
    · exact h
    · simp [inf] at h
  have hstep : Step c w (c.push H.length inf) w := ⟨hle, rfl, rfl, rfl, Nat.le_refl _, fun _ _ _ => rfl, fun b i hb hv hlt => by
      by_cases e1 : b = H.length
      · simp [Ctx.push, e1] at hb; subst hb; simp [inf] at hv
      · simp [Ctx.push, e1] at hb; exact ⟨i, hb, hv, rfl⟩, fun _ _ h => .inl h, fun _ _ h => .inl h⟩
  refine ⟨c.push H.length inf, ⟨hstep, hg.step hstep hg.holds hg.MB (fun k hk a ha => hg.away k (hown k hk) a ha) (fun k hk => hg.bound k (hown k hk)), ⟨fun b blk i hb hm => ?_, fun b b' i i' h1 h2 v1 v2 he => ?_⟩,
    .slVirt (inf := inf) (by simp [Ctx.push]) rfl rfl rfl, fun hd b hb => ?_⟩, ⟨fun _ _ => rfl, fun b hb => by simp [Ctx.push, hb], .inr ⟨_, rfl⟩, fun e => by simp at e⟩⟩
  · by_cases e1 : b = H.length
    · subst e1
      simp [Ctx.push] at hm; subst hm
      simp at hb; subst hb
      exact ⟨rfl, rfl, hs0, rfl, by simp, fun _ => rfl, by simp [inf], by simp [inf], by simp [inf]⟩
    · simp [Ctx.push, e1] at hm
      have hlt : b < H.length := by have := (List.getElem?_eq_some_iff.1 hb).1; simp at this; omega
      rw [List.getElem?_append_left hlt] at hb
      exact (hH.blk b blk i hb hm).kept hle (fun _ => rfl)
  · by_cases e1 : b = H.length
    · simp [Ctx.push, e1] at h1; subst h1; simp [inf] at v1
    · by_cases e2 : b' = H.length
      · simp [Ctx.push, e2] at h2; subst h2; simp [inf] at v2
      · simp [Ctx.push, e1] at h1; simp [Ctx.push, e2] at h2
        exact hH.inj b b' i i' h1 h2 v1 v2 he
  · by_cases e1 : b = H.length
    · simp [e1]
    · simp [Ctx.push, e1] at hb
      have := hd b (by simpa using hb)
      simp; omega

end Go.Proofs.YtdfglgnflldkpaaDoor.Mir
