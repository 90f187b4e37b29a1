/- Part 3 of the proof: the evaluator and its soundness. -/
import Derived.Test.YtlkgkfgkiidhdaaDoorVo2
import Derived.Scope
namespace Go.Proofs.YtlkgkfgkiidhdaaDoor.Mir
open Go
set_option linter.unusedSimpArgs false
set_option linter.unusedVariables false
def kY (acc : List Nat) : List Edge → Nat → Nat
 | [], s => s
 | e :: l, s => kY acc l (if Region.binds .any e then s ||| 2 ^ e.on ||| acc.getD e.on 0 else s)
def nU : List Oper → List Nat → List Nat
 | [], acc => acc
 | o :: l, acc => nU l (acc ++ [kY acc o.after.toList 0])
theorem wW (acc : List Nat) : ∀ (l : List Edge) (s i : Nat), (kY acc l s).testBit i = true → s.testBit i = true ∨ ∃ e ∈ l, Region.binds .any e = true ∧ (i = e.on ∨ (acc.getD e.on 0).testBit i = true)
 | [], s, i, h => .inl h
 | e :: l, s, i, h => by
  simp only [kY] at h
  rcases wW acc l _ i h with h1 | ⟨e', h1, h2⟩
  ·by_cases hb : Region.binds .any e = true
   ·rw [if_pos hb, Nat.testBit_or, Nat.testBit_or, Bool.or_eq_true, Bool.or_eq_true] at h1
    rcases h1 with (h1 | h1) | h1
    ·exact .inl h1
    ·rw [Nat.testBit_two_pow] at h1
     exact .inr ⟨e, by simp, hb, .inl (of_decide_eq_true h1).symm⟩
    ·exact .inr ⟨e, by simp, hb, .inr h1⟩
   ·rw [if_neg hb] at h1; exact .inl h1
  ·exact .inr ⟨e', by simp [h1], h2⟩
theorem sL : ∀ (l : List Oper) (acc : List Nat), (nU l acc).take acc.length = acc ∧ (nU l acc).length = acc.length + l.length
 | [], acc => by simp [nU]
 | o :: l, acc => by
  obtain ⟨h1, h2⟩ := sL l (acc ++ [kY acc o.after.toList 0])
  simp only [nU, List.length_append, List.length_cons, List.length_nil] at *
  refine ⟨?_, by omega⟩
  have := congrArg (List.take acc.length) h1
  rw [List.take_take, Nat.min_eq_left (by omega)] at this
  rw [this]; simp
theorem aBT : ∀ (l : List Oper) (acc : List Nat) (k : Nat) (o : Oper), l[k]? = some o → (nU l acc)[acc.length + k]? = some (kY ((nU l acc).take (acc.length + k)) o.after.toList 0)
 | [], acc, k, o, h => by simp at h
 | o' :: l, acc, k, o, h => by
  obtain ⟨h1, h2⟩ := sL l (acc ++ [kY acc o'.after.toList 0])
  cases k with
  | zero =>
   simp at h; subst h
   simp only [nU, Nat.add_zero]
   have e0 := (sL (o' :: l) acc).1
   simp only [nU] at e0
   rw [e0]
   have : (nU l (acc ++ [kY acc o'.after.toList 0]))[acc.length]? = ((nU l (acc ++ [kY acc o'.after.toList 0])).take (acc ++ [kY acc o'.after.toList 0]).length)[acc.length]? := by
    rw [List.getElem?_take, if_pos (by simp)]
   rw [this, h1]
   simp
  | succ k =>
   simp at h
   have := aBT l (acc ++ [kY acc o'.after.toList 0]) k o h
   simp only [List.length_append, List.length_cons, List.length_nil] at this
   simp only [nU]
   rw [show acc.length + (k + 1) = acc.length + 0 + 1 + k by omega]
   simpa using this
def oL (ops : Array Oper) (i t : Nat) : Bool := (ops.toList.drop i).all fun o => match o.dst with | some d => !(d == t) | none => true
theorem aFw {ops : Array Oper} {i t : Nat} (h : oL ops i t = true) {k : Nat} (hk : i ≤ k) : hY ops k ≠ some t := by
 intro hd
 cases ho : ops[k]? with
 | none => simp [hY, ho] at hd
 | some o =>
  have hm : o ∈ ops.toList.drop i := by
   refine List.mem_of_getElem? (i := k - i) ?_
   rw [List.getElem?_drop, show i + (k - i) = k by omega]; simpa using ho
  have := List.all_eq_true.1 h o hm
  have hd' : o.dst = some t := by simpa [hY, ho] using hd
  simp [hd'] at this
def uT (o : Oper) : Option Nat := match o.op with
 | .store _ (.tmp b) _ => some b
 | .call c => (match c.callee with
  | .builtin .append => (match c.args.toList with
   | [.tmp b, _] => some b
   | _ => none)
  | _ => none)
 | _ => none
def qL (ops : Array Oper) (i j : Nat) (x y : Oper) : Option (Nat × Nat) :=
 match x.guard, y.guard with
 | none, none => match x.op with
  | .load _ (.tmp a) => (match uT y with
   | some b => (match oL ops i a && oL ops j b with | true => some (a, b) | false => none)
   | none => none)
  | .makeSlice .. => (match y.op with
   | .store _ (.tmp b) _ => (match x.dst with
    | some d => (match oL ops (i + 1) d && oL ops j b with | true => some (d, b) | false => none)
    | none => none)
   | _ => none)
  | _ => (match y.op with
   | .load _ (.tmp a) => (match uT x with
    | some b => (match oL ops i b && oL ops j a with | true => some (a, b) | false => none)
    | none => none)
   | _ => none)
 | _, _ => none
def fX (o : Oper) : Bool := match o.op with
 | .load .. => true
 | _ => false
theorem pQ {o : Oper} (h : fX o = true) : uT o = none := by
 obtain ⟨dst, op, type, pos, after, guard⟩ := o
 cases op <;> first | (cases h; done) | rfl
theorem aHL {ops : Array Oper} {i j : Nat} {x y : Oper} {p : Nat × Nat} (h : qL ops i j x y = some p) (hx : fX x = true) :
  x.guard = none ∧ y.guard = none ∧ (∃ t, x.op = .load t (.tmp p.1)) ∧ uT y = some p.2 ∧ oL ops i p.1 = true ∧ oL ops j p.2 = true := by
 unfold qL at h
 split at h
 case h_2 => cases h
 rename_i g1 g2
 split at h
 ·rename_i t a e1
  split at h
  ·rename_i b e2
   split at h
   ·rename_i hl
    rw [Bool.and_eq_true] at hl
    simp only [Option.some.injEq] at h; subst h
    exact ⟨g1, g2, ⟨t, e1⟩, e2, hl.1, hl.2⟩
   ·cases h
  ·cases h
 ·rename_i e1
  simp [fX, e1] at hx
 ·rename_i e0 e1
  split at h
  ·split at h
   ·rename_i e2
    rw [pQ hx] at e2; cases e2
   ·cases h
  ·cases h
theorem aHM {ops : Array Oper} {i j : Nat} {x y : Oper} {p : Nat × Nat} (h : qL ops i j x y = some p) (hy : fX y = true) :
  x.guard = none ∧ y.guard = none ∧ (∃ t, y.op = .load t (.tmp p.1)) ∧ uT x = some p.2 ∧ oL ops j p.1 = true ∧ oL ops i p.2 = true := by
 unfold qL at h
 split at h
 case h_2 => cases h
 rename_i g1 g2
 split at h
 ·split at h
  ·rename_i e2
   rw [pQ hy] at e2; cases e2
  ·cases h
 ·split at h
  ·rename_i e2
   simp [fX, e2] at hy
  ·cases h
 ·split at h
  ·rename_i t a e1
   split at h
   ·rename_i b e2
    split at h
    ·rename_i hl
     rw [Bool.and_eq_true] at hl
     simp only [Option.some.injEq] at h; subst h
     exact ⟨g1, g2, ⟨t, e1⟩, e2, hl.2, hl.1⟩
    ·cases h
   ·cases h
  ·cases h
def sO (o : Oper) : Bool := match o.guard, o.op with
 | none, .makeSlice .. => true
 | _, _ => false
theorem aEA {ops : Array Oper} {i j : Nat} {x y : Oper} {p : Nat × Nat} (h : qL ops i j x y = some p) (hx : sO x = true) (hy : fX y = false) :
  x.dst = some p.1 ∧ y.guard = none ∧ (∃ t z, y.op = .store t (.tmp p.2) z) ∧ oL ops (i + 1) p.1 = true ∧ oL ops j p.2 = true := by
 unfold qL at h
 split at h
 case h_2 => cases h
 rename_i g1 g2
 split at h
 ·rename_i e1
  simp [sO, g1, e1] at hx
 ·split at h
  ·rename_i t b z e2
   split at h
   ·rename_i d hd
    split at h
    ·rename_i hl
     rw [Bool.and_eq_true] at hl
     simp only [Option.some.injEq] at h; subst h
     exact ⟨hd, g2, ⟨t, z, e2⟩, hl.1, hl.2⟩
    ·cases h
   ·cases h
  ·cases h
 ·split at h
  ·rename_i e2
   simp [fX, e2] at hy
  ·cases h
theorem aCp {ops : Array Oper} {i j : Nat} {x y : Oper} {p : Nat × Nat} (h : qL ops i j x y = some p) : (fX x = true ∧ fX y = false) ∨ (fX x = false ∧ fX y = true) ∨ (sO x = true ∧ ∃ t z, y.op = .store t (.tmp p.2) z) := by
 unfold qL at h
 split at h
 case h_2 => cases h
 rename_i g1 g2
 split at h
 ·rename_i e1
  split at h
  ·rename_i e2
   refine .inl ⟨by simp [fX, e1], ?_⟩
   cases hl : fX y with
   | false => rfl
   | true => rw [pQ hl] at e2; cases e2
  ·cases h
 ·rename_i e1
  split at h
  ·rename_i t b z e2
   split at h
   ·split at h
    ·simp only [Option.some.injEq] at h; subst h
     exact .inr (.inr ⟨by simp [sO, g1, e1], t, z, e2⟩)
    ·cases h
   ·cases h
  ·cases h
 ·split at h
  ·rename_i e2
   split at h
   ·rename_i e3
    refine .inr (.inl ⟨?_, by simp [fX, e2]⟩)
    cases hl : fX x with
    | false => rfl
    | true => rw [pQ hl] at e3; cases e3
   ·cases h
  ·cases h
def aIN {α : Type} : Option α → Bool
 | some _ => true
 | none => false
def nF (ann : Ann) (pf : Nat → Bool) (ops : Array Oper) (i j : Nat) (x y : Oper) : Bool :=
 Oper.apart ops x y && ((!(fF ann pf x && gM ann y) && !(gM ann x && fF ann pf y)) || aIN (qL ops i j x y))
def vB (ann : Ann) (pf : Nat → Bool) (ops : Array Oper) (b : Nat) (y : Oper) (j : Nat) : List Oper → Nat → Bool
 | [], _ => true
 | x :: l, i => (b.testBit i || nF ann pf ops i j x y) && vB ann pf ops b y j l (i + 1)
def rW (ann : Ann) (pf : Nat → Bool) (ops : Array Oper) (B : List Nat) : List Oper → List Oper → Nat → Bool
 | _, [], _ => true
 | before, y :: l, j => y.after.toList.all (fun e => !Region.binds .any e || decide (e.on < j)) && vB ann pf ops (B.getD j 0) y j before 0 && rW ann pf ops B (before ++ [y]) l (j + 1)
def xD (ann : Ann) (pf : Nat → Bool) (ops : Array Oper) : Bool := rW ann pf ops (nU ops.toList []) [] ops.toList 0
def wY (ops : Array Oper) (b : Nat) (y : Oper) (j : Nat) : List Oper → Nat → List (Nat × Nat)
 | [], _ => []
 | x :: l, i => match qL ops i j x y with
  | some p => (match b.testBit i with
   | true => wY ops b y j l (i + 1)
   | false => p :: wY ops b y j l (i + 1))
  | none => wY ops b y j l (i + 1)
def rP (ops : Array Oper) (B : List Nat) : List Oper → List Oper → Nat → List (Nat × Nat)
 | _, [], _ => []
 | before, y :: l, j => wY ops (B.getD j 0) y j before 0 ++ rP ops B (before ++ [y]) l (j + 1)
def mN (ops : Array Oper) : List (Nat × Nat) := rP ops (nU ops.toList []) [] ops.toList 0
theorem uA {ann : Ann} {pf : Nat → Bool} {ops : Array Oper} {b : Nat} {y : Oper} {j : Nat} : ∀ {l : List Oper} {k : Nat} (_ : vB ann pf ops b y j l k = true) {i : Nat} {x : Oper} (_ : l[i]? = some x), b.testBit (k + i) = true ∨ nF ann pf ops (k + i) j x y = true
 | [], _, _, _, _, hx => by simp at hx
 | z :: l, k, h, i, x, hx => by
  simp only [vB, Bool.and_eq_true, Bool.or_eq_true] at h
  cases i with
  | zero => simp at hx; subst hx; simpa using h.1
  | succ i =>
   simp at hx
   have := uA h.2 hx
   rwa [show k + 1 + i = k + (i + 1) by omega] at this
theorem aAg {ops : Array Oper} {b : Nat} {y : Oper} {j : Nat} {p : Nat × Nat} : ∀ {l : List Oper} {k i : Nat} {x : Oper} (_ : l[i]? = some x) (_ : b.testBit (k + i) = false) (_ : qL ops (k + i) j x y = some p), p ∈ wY ops b y j l k
 | [], _, _, _, hx, _, _ => by simp at hx
 | z :: l, k, i, x, hx, hb, hp => by
  cases i with
  | zero =>
   simp at hx; subst hx
   rw [Nat.add_zero] at hb hp
   simp only [wY, hp, hb]
   simp
  | succ i =>
   simp at hx
   rw [show k + (i + 1) = k + 1 + i by omega] at hb hp
   have ih := aAg hx hb hp
   simp only [wY]
   split
   ·split
    ·exact ih
    ·exact List.mem_cons_of_mem _ ih
   ·exact ih
theorem tZ {ann : Ann} {pf : Nat → Bool} {ops : Array Oper} {B : List Nat} : ∀ {l before : List Oper} (_ : rW ann pf ops B before l before.length = true) {q : Nat} {y : Oper} (_ : l[q]? = some y),
  (∀ e ∈ y.after.toList, Region.binds .any e = true → e.on < before.length + q) ∧ ∀ (i : Nat) (x : Oper), (before ++ l.take q)[i]? = some x → (B.getD (before.length + q) 0).testBit i = true ∨ nF ann pf ops i (before.length + q) x y = true
 | [], _, _, _, _, hy => by simp at hy
 | z :: l, before, h, q, y, hy => by
  simp only [rW, Bool.and_eq_true] at h
  obtain ⟨⟨h1, h2⟩, h3⟩ := h
  cases q with
  | zero =>
   simp at hy; subst hy
   refine ⟨fun e he hb => ?_, fun i x hx => ?_⟩
   ·have := List.all_eq_true.1 h1 e he
    simpa [hb] using this
   ·simp at hx
    have := uA h2 hx
    simpa using this
  | succ q =>
   simp at hy
   have h3' : rW ann pf ops B (before ++ [z]) l (before ++ [z]).length = true := by simpa using h3
   obtain ⟨g1, g2⟩ := tZ h3' hy
   simp only [List.length_append, List.length_cons, List.length_nil] at g1 g2
   refine ⟨fun e he hb => by have := g1 e he hb; omega, fun i x hx => ?_⟩
   have := g2 i x (by simpa using hx)
   rwa [show before.length + (0 + 1) + q = before.length + (q + 1) by omega] at this
theorem rQ {ops : Array Oper} {B : List Nat} {p : Nat × Nat} : ∀ {l before : List Oper} {q : Nat} {y : Oper} (_ : l[q]? = some y) {i : Nat} {x : Oper} (_ : (before ++ l.take q)[i]? = some x) (_ : (B.getD (before.length + q) 0).testBit i = false)
  (_ : qL ops i (before.length + q) x y = some p), p ∈ rP ops B before l before.length
 | [], _, _, _, hy, _, _, _, _, _ => by simp at hy
 | z :: l, before, q, y, hy, i, x, hx, hb, hp => by
  simp only [rP, List.mem_append]
  cases q with
  | zero =>
   simp at hy; subst hy
   simp at hx
   rw [Nat.add_zero] at hb hp
   exact .inl (aAg (k := 0) (i := i) hx (by simpa using hb) (by simpa using hp))
  | succ q =>
   simp at hy
   have e : before.length + (q + 1) = (before ++ [z]).length + q := by simp; omega
   rw [e] at hb hp
   have := rQ (before := before ++ [z]) hy (by simpa using hx) hb hp
   exact .inr (by simpa using this)
def tH (ann : Ann) (pf : Nat → Bool) (ops : Array Oper) (i j : Nat) (x y : Oper) : Prop := nF ann pf ops i j x y = true ∧ ∀ p, qL ops i j x y = some p → p ∈ mN ops
def sI (ops : Array Oper) (S : Nat → Prop) : Prop := ∀ (j : Nat) (o : Oper), ops[j]? = some o → S j → ∀ e ∈ o.after, Region.binds .any e = true → S e.on
theorem oR {ann : Ann} {pf : Nat → Bool} {ops : Array Oper} (h : xD ann pf ops = true) :
  (∀ (j : Nat) (o : Oper), ops[j]? = some o → ∀ e ∈ o.after, Region.binds .any e = true → e.on < j) ∧
  ∀ (i j : Nat) (x y : Oper), i < j → ops[i]? = some x → ops[j]? = some y → (∀ S, sI ops S → S j → S i) ∨ tH ann pf ops i j x y := by
 unfold xD at h
 have key := fun {q : Nat} {y : Oper} (hy : ops.toList[q]? = some y) => tZ (before := []) h hy
 have hedge : ∀ (j : Nat) (o : Oper), ops[j]? = some o → ∀ e ∈ o.after, Region.binds .any e = true → e.on < j := by
  intro j o ho e he hb
  have := (key (q := j) (y := o) (by simpa using ho)).1 e (by simpa using he) hb
  simpa using this
 refine ⟨hedge, fun i j x y hij hx hy => ?_⟩
 have hxt : ([] ++ ops.toList.take j)[i]? = some x := by simp [List.getElem?_take, hij]; simpa using hx
 have h2 := (key (q := j) (y := y) (by simpa using hy)).2 i x hxt
 simp only [List.length_nil, Nat.zero_add] at h2
 have h3 : ((nU ops.toList []).getD j 0).testBit i = true ∨ tH ann pf ops i j x y := by
  cases hb : ((nU ops.toList []).getD j 0).testBit i with
  | true => exact .inl rfl
  | false =>
   refine .inr ⟨h2.resolve_left (by rw [hb]; simp), fun p hp => ?_⟩
   have := rQ (B := nU ops.toList []) (before := []) (l := ops.toList) (q := j) (y := y) (by simpa using hy) hxt (by simpa using hb) (by simpa using hp)
   simpa [mN] using this
 refine h3.imp (fun hb => ?_) id
 have : ∀ (j : Nat), ∀ i, j < ops.size → ((nU ops.toList []).getD j 0).testBit i = true → ∀ S, sI ops S → S j → S i := by
  intro j
  induction j using Nat.strongRecOn with
  | _ j ih =>
   intro i hj hb S hS hSj
   have ho : ops.toList[j]? = some ops[j] := by simp [hj]
   have hg := aBT ops.toList [] j ops[j] ho
   simp only [List.length_nil, Nat.zero_add] at hg
   rw [List.getD_eq_getElem?_getD, hg] at hb
   simp only [Option.getD_some] at hb
   rcases wW _ _ _ _ hb with h0 | ⟨e, he, hbe, h1⟩
   ·simp at h0
   ·have he' : e ∈ ops[j].after := by simpa using he
    have hlt := hedge j ops[j] (by simp [hj]) e he' hbe
    have hSe := hS j ops[j] (by simp [hj]) hSj e he' hbe
    rcases h1 with rfl | h1
    ·exact hSe
    ·rw [List.getD_eq_getElem?_getD, List.getElem?_take, if_pos hlt, ← List.getD_eq_getElem?_getD] at h1
     exact ih e.on hlt i (by omega) h1 S hS hSe
 exact this j i (Array.getElem?_eq_some_iff.1 hy).1 hb
def gV : AV → AV → Bool
 | .ptr b _ _ _, .ptr b' _ _ _ => !(b == b')
 | .rp _ _ _, _ => true
 | .gl _, _ => true
 | .sl b _ _ _ _, .ptr b' _ _ _ => !(b == b')
 | .ptr b _ _ _, .sl b' _ _ _ _ => !(b == b')
 | _, _ => false
def grd {γ : Type} : List (AV × AV) → Option γ → Option γ
 | [], m => m
 | p :: l, m => match gV p.1 p.2 with
  | true => grd l m
  | false => none
theorem wI {γ : Type} {m : Option γ} {out : γ} : ∀ {l : List (AV × AV)}, grd l m = some out → m = some out ∧ ∀ p ∈ l, gV p.1 p.2 = true
 | [], h => ⟨h, fun p hp => by cases hp⟩
 | q :: l, h => by
  simp only [grd] at h
  split at h
  ·rename_i hq
   obtain ⟨h1, h2⟩ := wI h
   refine ⟨h1, fun p hp => ?_⟩
   rcases List.mem_cons.1 hp with rfl | hp
   ·exact hq
   ·exact h2 p hp
  ·cases h
def aFV (T : TS) (l : List (Nat × Nat)) : List (AV × AV) := l.map fun p => (T p.1, T p.2)
structure TextRun (P : Program) (G : aC) (E : nT) (ann : Ann) (ops : Array Oper) (T : TS) (H : aA) (n : Nat) (σ : Nat → TS) (h : Nat → aA) (v : Nat → AV) : Prop where
 t0 : σ 0 = T
 h0 : h 0 = H
 step : ∀ (i : Nat) (o : Oper), i < n → ops[i]? = some o → jJ P G E ann ops o (σ i) (h i) = some (v i, h (i + 1)) ∧ σ (i + 1) = uS (σ i) o.dst (v i)
theorem yB {P : Program} {G : aC} {E : nT} {ann : Ann} {ops : Array Oper} {γ : Type} {K : TS → aA → Option γ} {out : γ} : ∀ (l : List Oper) (k : Nat), (∀ j, l[j]? = ops[k + j]?) → ∀ (T : TS) (H : aA), kO P G E ann ops l K T H = some out →
  ∃ (σ : Nat → TS) (h : Nat → aA) (v : Nat → AV), σ k = T ∧ h k = H ∧ (∀ (i : Nat) (o : Oper), k ≤ i → i < k + l.length → ops[i]? = some o → jJ P G E ann ops o (σ i) (h i) = some (v i, h (i + 1)) ∧ σ (i + 1) = uS (σ i) o.dst (v i)) ∧
   K (σ (k + l.length)) (h (k + l.length)) = some out
 | [], k, hl, T, H, hr => ⟨fun _ => T, fun _ => H, fun _ => .undef, rfl, rfl, fun i o h1 h2 => by simp at h2; omega, by simpa [kO] using hr⟩
 | o :: l, k, hl, T, H, hr => by
  have h0 : ops[k]? = some o := by simpa using (hl 0).symm
  simp only [kO, aE] at hr
  split at hr
  case h_2 => cases hr
  rename_i v0 H' hst
  obtain ⟨σ, h, v, e1, e2, e3, e4⟩ := yB l (k + 1) (fun j => by have := hl (j + 1); simpa [Nat.add_assoc, Nat.add_comm 1 j] using this) _ H' hr
  refine ⟨fun i => if i = k then T else σ i, fun i => if i = k then H else h i, fun i => if i = k then v0 else v i, by simp, by simp, fun i o' h1 h2 h3 => ?_, ?_⟩
  ·by_cases hik : i = k
   ·subst hik
    rw [h0] at h3; obtain rfl := Option.some.inj h3
    have hne : ¬ (i + 1 = i) := by omega
    simp only [if_true, hne, if_false]
    exact ⟨by rw [e2]; exact hst, e1⟩
   ·have hne : ¬ (i + 1 = k) := by omega
    simp only [hik, if_false, hne]
    exact e3 i o' (by omega) (by simp at h2; omega) h3
  ·have hne : ¬ (k + (l.length + 1) = k) := by omega
   simp only [List.length_cons, hne, if_false]
   rw [show k + (l.length + 1) = k + 1 + l.length by omega]
   exact e4
def vZ (listed : Array Bool) : Nat → Nat
 | 0 => 0
 | k + 1 => vZ listed k + if listed.getD k false = true then 0 else 1
theorem zN {listed : Array Bool} : ∀ {n : Nat}, vZ listed n = 0 → ∀ i, i < n → listed.getD i false = true
 | 0, _, i, hi => by omega
 | n + 1, h, i, hi => by
  simp only [vZ] at h
  by_cases e : i = n
  ·subst e
   by_cases hl : listed.getD i false = true
   ·exact hl
   ·rw [if_neg hl] at h; omega
  ·exact zN (n := n) (by omega) i (by omega)
theorem aBW {listed : Array Bool} {i : Nat} (hi : i < listed.size) (hu : listed.getD i false = false) : ∀ (n : Nat), vZ (listed.setIfInBounds i true) n + (if i < n then 1 else 0) = vZ listed n
 | 0 => by simp [vZ]
 | n + 1 => by
  have ih := aBW hi hu n
  simp only [vZ]
  by_cases e : i = n
  ·subst e
   have h1 : (listed.setIfInBounds i true).getD i false = true := by simp [Array.getD, hi]
   rw [if_pos h1, hu]
   rw [if_neg (show ¬ i < i by omega)] at ih
   rw [if_pos (show i < i + 1 by omega)]
   simp only [Bool.false_eq_true, if_false]
   omega
  ·have h1 : (listed.setIfInBounds i true).getD n false = listed.getD n false := getD_set_ne false e
   rw [h1]
   by_cases hl : i < n
   ·rw [if_pos hl] at ih; rw [if_pos (show i < n + 1 by omega)]; omega
   ·rw [if_neg hl] at ih; rw [if_neg (show ¬ i < n + 1 by omega)]; omega
section
variable {P : Program} {G : aC} {E : nT} {ann : Ann} {ops : Array Oper} {σ : Nat → TS} {h : Nat → aA} {v : Nat → AV}
def Wr (ann : Ann) (E : nT) (ops : Array Oper) (i : Nat) : Prop := ∃ o, ops[i]? = some o ∧ fF ann (eO E) o = true
def Seg (ann : Ann) (E : nT) (ops : Array Oper) (L : Nat → Prop) (j : Nat) : Prop := (∀ i, i < j → Wr ann E ops i → L i) ∧ ∀ i, j ≤ i → Wr ann E ops i → ¬ L i
def Cur (ops : Array Oper) (σ : Nat → TS) (v : Nat → AV) (L : Nat → Prop) (t : Nat) (x : AV) : Prop :=
 (∃ i, L i ∧ hY ops i = some t ∧ x = v i ∧ ∀ i', i < i' → L i' → hY ops i' ≠ some t) ∨ ((∀ i, L i → hY ops i ≠ some t) ∧ x = σ 0 t)
structure RS (G : aC) (ann : Ann) (E : nT) (ops : Array Oper) (σ : Nat → TS) (h : Nat → aA) (v : Nat → AV) (c0 : Ctx) (w0 : World) (N B : Nat) (L : Nat → Prop) (c : Ctx) (a : Act) (w : World) : Prop where
 good : Good G c w
 step : Step c0 w0 c w
 size : a.tmps.size = N
 defers : a.defers = []
 low : B ≤ (h 0).length
 tm : ∀ t x, Cur ops σ v L t x → Rel c x (a.tmps.getD t undef)
 hp : ∀ j, j ≤ ops.size → Seg ann E ops L j → HeapAt c (h j) w
 dom : ∀ b, c.m b ≠ none → b < (h ops.size).length ∧ ∀ i, i < ops.size → (h i).length ≤ b → b < (h (i + 1)).length → L i
theorem yC {T : TS} {H : aA} (hr : TextRun P G E ann ops T H ops.size σ h v) (t : Nat) : ∀ (j : Nat), j ≤ ops.size →
  (∃ i, i < j ∧ hY ops i = some t ∧ σ j t = v i ∧ ∀ i', i < i' → i' < j → hY ops i' ≠ some t) ∨ ((∀ i, i < j → hY ops i ≠ some t) ∧ σ j t = σ 0 t)
 | 0, _ => .inr ⟨fun i hi => by omega, rfl⟩
 | j + 1, hj => by
  have ho : ops[j]? = some ops[j] := by simp [show j < ops.size by omega]
  obtain ⟨_, hs⟩ := hr.step j ops[j] (by omega) ho
  have hd : hY ops j = ops[j].dst := by simp [hY, ho]
  by_cases e : ops[j].dst = some t
  ·refine .inl ⟨j, by omega, by rw [hd, e], ?_, fun i' h1 h2 => by omega⟩
   rw [hs, e]; simp [uS]
  ·have hk : σ (j + 1) t = σ j t := by
    rw [hs]
    cases hdd : ops[j].dst with
    | none => rfl
    | some d =>
     have : ¬ (t = d) := fun q => e (by rw [hdd, q])
     simp [uS, this]
   rcases yC hr t j (by omega) with ⟨i, h1, h2, h3, h4⟩ | ⟨h1, h2⟩
   ·refine .inl ⟨i, by omega, h2, by rw [hk, h3], fun i' g1 g2 => ?_⟩
    by_cases q : i' = j
    ·subst q; rw [hd]; exact e
    ·exact h4 i' g1 (by omega)
   ·refine .inr ⟨fun i hi => ?_, by rw [hk, h2]⟩
    by_cases q : i = j
    ·subst q; rw [hd]; exact e
    ·exact h1 i (by omega)
theorem aCq {T : TS} {H : aA} (hr : TextRun P G E ann ops T H ops.size σ h v) {i : Nat} (hi : i < ops.size) : (h i).length ≤ (h (i + 1)).length := by
 have ho : ops[i]? = some ops[i] := by simp [hi]
 obtain ⟨hs, -⟩ := hr.step i ops[i] hi ho
 exact xZ hs
theorem gC {T : TS} {H : aA} (hr : TextRun P G E ann ops T H ops.size σ h v) {i : Nat} : ∀ (d : Nat), i + d ≤ ops.size → (h i).length ≤ (h (i + d)).length
 | 0, _ => Nat.le_refl _
 | d + 1, hd => Nat.le_trans (gC hr d (by omega)) (aCq hr (i := i + d) (by omega))
theorem aCj {T : TS} {H : aA} (hr : TextRun P G E ann ops T H ops.size σ h v) {i : Nat} (hi : i < ops.size) (hw : ¬ Wr ann E ops i) : h (i + 1) = h i ∨ ∃ blk, h (i + 1) = h i ++ [blk] := by
 have ho : ops[i]? = some ops[i] := by simp [hi]
 have hw' : fF ann (eO E) ops[i] = false := by
  cases hb : fF ann (eO E) ops[i] with
  | false => rfl
  | true => exact absurd ⟨ops[i], ho, hb⟩ hw
 obtain ⟨hs, -⟩ := hr.step i ops[i] hi ho
 unfold jJ at hs
 split at hs
 ·exact aBh hw' hs
 ·split at hs
  ·rcases rB hs with ⟨_, e⟩ | ⟨_, _, e⟩
   ·exact aBh hw' e
   ·exact .inl e
  ·cases hs
theorem uW {T : TS} {H : aA} (hr : TextRun P G E ann ops T H ops.size σ h v) {i : Nat} : ∀ (d : Nat), i + d ≤ ops.size → (∀ k, i ≤ k → k < i + d → ¬ Wr ann E ops k) → ∀ b, b < (h i).length → (h (i + d))[b]? = (h i)[b]?
 | 0, _, _, b, _ => rfl
 | d + 1, hd, hw, b, hb => by
  have ih := uW hr d (by omega) (fun k h1 h2 => hw k h1 (by omega)) b hb
  have hl := gC hr d (i := i) (by omega)
  rcases aCj hr (i := i + d) (by omega) (hw (i + d) (by omega) (by omega)) with e | ⟨blk, e⟩
  ·rw [show i + (d + 1) = i + d + 1 by omega, e]; exact ih
  ·rw [show i + (d + 1) = i + d + 1 by omega, e, List.getElem?_append_left (by omega)]; exact ih
theorem aAm {T : TS} {H : aA} (hr : TextRun P G E ann ops T H ops.size σ h v) {i : Nat} {o : Oper} (ho : ops[i]? = some o) (ht : gM ann o = false) : h (i + 1) = h i := by
 have hi : i < ops.size := (Array.getElem?_eq_some_iff.1 ho).1
 obtain ⟨hs, -⟩ := hr.step i o hi ho
 unfold jJ at hs
 split at hs
 ·exact (rV ht hs).1
 ·split at hs
  ·rcases rB hs with ⟨_, e⟩ | ⟨_, _, e⟩
   ·exact (rV ht e).1
   ·exact e
  ·cases hs
end
theorem lE {ann : Ann} {pf : Nat → Bool} {o : Oper} (h : fF ann pf o = true) : gM ann o = true := by
 obtain ⟨dst, op, type, pos, after, guard⟩ := o
 cases op <;> first | (cases h; done) | rfl | skip
 rename_i cl
 obtain ⟨callee, args, ats⟩ := cl
 cases callee with
 | invoke r m => rfl
 | value f => rfl
 | builtin b => cases b <;> first | (cases h; done) | rfl
section
variable {P : Program} {G : aC} {E : nT} {ann : Ann} {ops : Array Oper} {σ : Nat → TS} {h : Nat → aA} {v : Nat → AV} {T : TS} {H : aA} {c0 : Ctx} {w0 : World} {N B : Nat} {L : Nat → Prop}
structure Rdy (E : nT) (ann : Ann) (ops : Array Oper) (L : Nat → Prop) (i : Nat) : Prop where
 ok : xD ann (eO E) ops = true
 closed : sI ops L
 lt : i < ops.size
 new : ¬ L i
 waits : ∀ o, ops[i]? = some o → ∀ e ∈ o.after, Region.binds .any e = true → L e.on
theorem Rdy.closed' {i : Nat} (r : Rdy E ann ops L i) : sI ops (fun k => k = i ∨ L k) := by
 intro j o ho hj e he hb
 rcases hj with rfl | hj
 ·exact .inr (r.waits o ho e he hb)
 ·exact .inr (r.closed j o ho hj e he hb)
theorem Rdy.ahead {i : Nat} (r : Rdy E ann ops L i) {k : Nat} {x y : Oper} (hk : k < i) (hx : ops[k]? = some x) (hy : ops[i]? = some y) : L k ∨ tH ann (eO E) ops k i x y := by
 rcases (oR r.ok).2 k i x y hk hx hy with h1 | h1
 ·rcases h1 _ r.closed' (.inl rfl) with h2 | h2
  ·omega
  ·exact .inl h2
 ·exact .inr h1
theorem Rdy.behind {i : Nat} (r : Rdy E ann ops L i) {k : Nat} {x y : Oper} (hk : i < k) (hx : ops[k]? = some x) (hy : ops[i]? = some y) : ¬ L k ∨ tH ann (eO E) ops i k y x := by
 rcases (oR r.ok).2 i k y x hk hy hx with h1 | h1
 ·exact .inl fun hl => r.new (h1 L r.closed hl)
 ·exact .inr h1
theorem oO {i j : Nat} {x y : Oper} (hl : tH ann (eO E) ops i j x y) : Oper.apart ops x y = true := by
 have := hl.1
 simp only [nF, Bool.and_eq_true] at this; exact this.1
theorem xW {α : Type} {o : Option α} (h : aIN o = true) : ∃ p, o = some p := by
 cases o with
 | none => cases h
 | some p => exact ⟨p, rfl⟩
theorem hZ {o : Oper} (h : fX o = true) {pf : Nat → Bool} : fF ann pf o = false := by
 obtain ⟨dst, op, type, pos, after, guard⟩ := o
 cases op <;> first | (cases h; done) | rfl
theorem sS {o : Oper} (h : sO o = true) {pf : Nat → Bool} : fF ann pf o = false := by
 obtain ⟨dst, op, type, pos, after, guard⟩ := o
 cases guard <;> cases op <;> first | (cases h; done) | rfl
theorem aHQ {o : Oper} (h : sO o = true) : fX o = false := by
 obtain ⟨dst, op, type, pos, after, guard⟩ := o
 cases guard <;> cases op <;> first | (cases h; done) | rfl
theorem aDF {o : Oper} (h : sO o = true) : gM ann o = true := by
 obtain ⟨dst, op, type, pos, after, guard⟩ := o
 cases guard <;> cases op <;> first | (cases h; done) | rfl
theorem mJ {i j : Nat} {x y : Oper} (hl : tH ann (eO E) ops i j x y) (hx : fF ann (eO E) x = true) (hy : gM ann y = true) : fX y = true ∧ ∃ p, qL ops i j x y = some p ∧ p ∈ mN ops := by
 have h1 := hl.1
 simp only [nF, hx, hy, Bool.and_true, Bool.not_true, Bool.false_and, Bool.false_or, Bool.and_eq_true] at h1
 obtain ⟨p, hp⟩ := xW h1.2
 refine ⟨?_, p, hp, hl.2 p hp⟩
 rcases aCp hp with ⟨h2, _⟩ | ⟨_, h2⟩ | ⟨h2, _⟩
 ·rw [hZ h2] at hx; cases hx
 ·exact h2
 ·rw [sS h2] at hx; cases hx
theorem oP {i j : Nat} {x y : Oper} (hl : tH ann (eO E) ops i j x y) (hx : gM ann x = true) (hy : fF ann (eO E) y = true) : (fX x = true ∨ sO x = true) ∧ ∃ p, qL ops i j x y = some p ∧ p ∈ mN ops := by
 have h1 := hl.1
 simp only [nF, hx, hy, Bool.and_true, Bool.not_true, Bool.and_false, Bool.false_or, Bool.and_eq_true] at h1
 obtain ⟨p, hp⟩ := xW h1.2
 refine ⟨?_, p, hp, hl.2 p hp⟩
 rcases aCp hp with ⟨h2, _⟩ | ⟨_, h2⟩ | ⟨h2, _⟩
 ·exact .inl h2
 ·rw [hZ h2] at hy; cases hy
 ·exact .inr h2
theorem aCs {i j : Nat} {x y : Oper} (hl : tH ann (eO E) ops i j x y) (hx : fF ann (eO E) x = true) (hy : fF ann (eO E) y = true) : False := by
 have := (mJ hl hx (lE hy)).1
 rw [hZ this] at hy; cases hy
theorem Rdy.seg {i : Nat} (r : Rdy E ann ops L i) {o : Oper} (ho : ops[i]? = some o) (ht : gM ann o = true) (hnl : fX o = false) (hnm : sO o = false) : Seg ann E ops L i := by
 refine ⟨fun k hk ⟨x, hx, hw⟩ => ?_, fun k hk ⟨x, hx, hw⟩ => ?_⟩
 ·rcases r.ahead hk hx ho with h1 | h1
  ·exact h1
  ·rw [(mJ h1 hw ht).1] at hnl; cases hnl
 ·by_cases e : k = i
  ·rw [e]; exact r.new
  ·rcases r.behind (show i < k by omega) hx ho with h1 | h1
   ·exact h1
   ·rcases (oP h1 ht hw).1 with h2 | h2
    ·rw [h2] at hnl; cases hnl
    ·rw [h2] at hnm; cases hnm
theorem aBw (hr : TextRun P G E ann ops T H ops.size σ h v) {b i : Nat} : ∀ (d : Nat), i + d ≤ ops.size → (h i).length ≤ b → b < (h (i + d)).length → ∃ k, i ≤ k ∧ k < i + d ∧ (h k).length ≤ b ∧ b < (h (k + 1)).length
 | 0, _, h1, h2 => by simp at h2; omega
 | d + 1, hd, h1, h2 => by
  by_cases hb : b < (h (i + d)).length
  ·obtain ⟨k, g1, g2, g3, g4⟩ := aBw hr d (by omega) h1 hb
   exact ⟨k, g1, by omega, g3, g4⟩
  ·exact ⟨i + d, by omega, by omega, by omega, by rw [show i + d + 1 = i + (d + 1) by omega]; exact h2⟩
theorem lD (hr : TextRun P G E ann ops T H ops.size σ h v) {k : Nat} {x : Oper} (hx : ops[k]? = some x) (hl : (h k).length < (h (k + 1)).length) : gM ann x = true := by
 cases ht : gM ann x with
 | true => rfl
 | false => rw [aAm hr hx ht] at hl; omega
theorem pJ (hr : TextRun P G E ann ops T H ops.size σ h v) {k : Nat} {x : Oper} (hx : ops[k]? = some x) (hl : (h k).length < (h (k + 1)).length) : fX x = false := by
 cases hld : fX x with
 | false => rfl
 | true =>
  exfalso
  have hk : k < ops.size := (Array.getElem?_eq_some_iff.1 hx).1
  obtain ⟨hs, -⟩ := hr.step k x hk hx
  have same : ∀ {r : AV} {H1 H2 : aA}, tY P G E ann x (σ k) H1 = some (r, H2) → H2 = H1 := by
   intro r H1 H2 hop
   obtain ⟨dst, op, type, pos, after, guard⟩ := x
   cases op <;> first | (cases hld; done) | skip
   simp only [tY] at hop
   exact (dY hop).2
  have : h (k + 1) = h k := by
   unfold jJ at hs
   split at hs
   ·exact same hs
   ·split at hs
    ·rcases rB hs with ⟨_, e⟩ | ⟨_, _, e⟩
     ·exact same e
     ·exact e
    ·cases hs
  rw [this] at hl; omega
theorem Rdy.domW {i : Nat} (r : Rdy E ann ops L i) (hr : TextRun P G E ann ops T H ops.size σ h v) {c : Ctx} {a : Act} {w : World} (hs : RS G ann E ops σ h v c0 w0 N B L c a w) {o : Oper} (ho : ops[i]? = some o) (hw : fF ann (eO E) o = true) :
  uP c (h i) := by
 intro b hb
 obtain ⟨h1, h2⟩ := hs.dom b hb
 by_cases hlt : b < (h i).length
 ·exact hlt
 ·exfalso
  obtain ⟨k, g1, g2, g3, g4⟩ := aBw hr (i := i) (b := b) (ops.size - i) (by have := r.lt; omega) (by omega) (by rw [show i + (ops.size - i) = ops.size by have := r.lt; omega]; exact h1)
  have hk : k < ops.size := by have := r.lt; omega
  have hLk := h2 k hk g3 g4
  have hkx : ops[k]? = some ops[k] := by simp [hk]
  have hik : i < k := by
   rcases Nat.lt_or_ge i k with q | q
   ·exact q
   ·have : k = i := by omega
    subst this; exact absurd hLk r.new
  rcases r.behind hik hkx ho with q | q
  ·exact q hLk
  ·have := (mJ q hw (lD hr hkx (by omega))).1
   rw [pJ hr hkx (by omega)] at this; cases this
theorem Rdy.operand {i : Nat} (r : Rdy E ann ops L i) (hr : TextRun P G E ann ops T H ops.size σ h v) {c : Ctx} {a : Act} {w : World} (hs : RS G ann E ops σ h v c0 w0 N B L c a w) {o : Oper} (ho : ops[i]? = some o) {t : Nat} (ht : t ∈ o.looksAt ops) :
  Rel c (σ i t) (a.tmps.getD t undef) := by
 refine hs.tm t (σ i t) ?_
 have later : ∀ i', i < i' → L i' → hY ops i' ≠ some t := by
  intro i' h1 h2 h3
  cases hx : ops[i']? with
  | none => simp [hY, hx] at h3
  | some x =>
   rcases r.behind h1 hx ho with q | q
   ·exact q h2
   ·have := (Oper.apart_spec (oO q)).2.2 t (by simpa [hY, hx] using h3)
    exact this ht
 rcases yC hr t i (Nat.le_of_lt r.lt) with ⟨k, g1, g2, g3, g4⟩ | ⟨g1, g2⟩
 ·have hk : k < ops.size := by have := r.lt; omega
  have hkx : ops[k]? = some ops[k] := by simp [hk]
  refine .inl ⟨k, ?_, g2, g3, fun i' q1 q2 => ?_⟩
  ·rcases r.ahead g1 hkx ho with q | q
   ·exact q
   ·have := (Oper.apart_spec (oO q)).1 t (by simpa [hY, hkx] using g2)
    exact absurd ht this
  ·rcases Nat.lt_trichotomy i' i with q | q | q
   ·exact g4 i' q1 q
   ·subst q; exact absurd q2 r.new
   ·exact later i' q q2
 ·refine .inr ⟨fun i' q2 => ?_, g2⟩
  rcases Nat.lt_trichotomy i' i with q | q | q
  ·exact g1 i' q
  ·subst q; exact absurd q2 r.new
  ·exact later i' q q2
theorem Rdy.tm {i : Nat} (r : Rdy E ann ops L i) {c c' : Ctx} {a : Act} {w : World} (hs : RS G ann E ops σ h v c0 w0 N B L c a w) {o : Oper} (ho : ops[i]? = some o) (hdst : ∀ t, o.dst = some t → t < N) (hle : c.le c')
  {u : Value} (hu : Rel c' (v i) u) : ∀ t x, Cur ops σ v (fun k => k = i ∨ L k) t x → Rel c' x ((a.put o.dst u).tmps.getD t undef) := by
 intro t x hc
 rw [aCH a o.dst u (fun t ht => by rw [hs.size]; exact hdst t ht)]
 have hd : hY ops i = o.dst := by simp [hY, ho]
 by_cases e : o.dst = some t
 ·rw [if_pos e]
  rcases hc with ⟨k, g1, g2, g3, g4⟩ | ⟨g1, g2⟩
  ·by_cases q : k = i
   ·subst q; rw [g3]; exact hu
   ·exfalso
    have hLk : L k := g1.resolve_left q
    rcases Nat.lt_or_gt_of_ne q with q1 | q1
    ·exact g4 i q1 (.inl rfl) (by rw [hd, e])
    ·cases hx : ops[k]? with
     | none => simp [hY, hx] at g2
     | some y =>
      rcases r.behind q1 hx ho with z | z
      ·exact z hLk
      ·exact (Oper.apart_spec (oO z)).2.1 t e (by simpa [hY, hx] using g2)
  ·exact absurd (by rw [hd, e]) (g1 i (.inl rfl))
 ·rw [if_neg e]
  refine (hs.tm t x ?_).mono hle
  rcases hc with ⟨k, g1, g2, g3, g4⟩ | ⟨g1, g2⟩
  ·have q : k ≠ i := fun q => e (by rw [← hd, ← q]; exact g2)
   exact .inl ⟨k, g1.resolve_left q, g2, g3, fun i' z1 z2 => g4 i' z1 (.inr z2)⟩
  ·exact .inr ⟨fun i' z => g1 i' (.inr z), g2⟩
theorem Rdy.writer {i : Nat} (r : Rdy E ann ops L i) (hr : TextRun P G E ann ops T H ops.size σ h v) {c c' : Ctx} {a : Act} {w w' : World} (hs : RS G ann E ops σ h v c0 w0 N B L c a w) {o : Oper} (ho : ops[i]? = some o)
  (hw : fF ann (eO E) o = true) (hdst : ∀ t, o.dst = some t → t < N) (hst : Step c w c' w') (hg : Good G c' w') (hH : HeapAt c' (h (i + 1)) w') (hd : uP c' (h (i + 1))) (hkp : (∃ t tb z, o.op = .store t (.tmp tb) z) → ∀ b, c'.m b ≠ none → c.m b ≠ none) {u : Value} (hu : Rel c' (v i) u) :
  RS G ann E ops σ h v c0 w0 N B (fun k => k = i ∨ L k) c' (a.put o.dst u) w' := by
 have hlt := r.lt
 refine ⟨hg, hs.step.trans hst, by rw [oV]; exact hs.size, by rw [lA]; exact hs.defers, hs.low, r.tm hs ho hdst hst.le hu, fun j hj hseg => ?_, fun b hb => ?_⟩
 ·have hij : i < j := by
   rcases Nat.lt_or_ge i j with q | q
   ·exact q
   ·exact absurd (.inl rfl) (hseg.2 i q ⟨o, ho, hw⟩)
  have hno : ∀ k, i + 1 ≤ k → k < i + 1 + (j - (i + 1)) → ¬ Wr ann E ops k := by
   intro k q1 q2 ⟨x, hx, hwx⟩
   have hLk : L k := (hseg.1 k (by omega) ⟨x, hx, hwx⟩).resolve_left (by omega)
   rcases r.behind (show i < k by omega) hx ho with z | z
   ·exact z hLk
   ·exact aCs z hw hwx
  have hext := uW hr (i := i + 1) (j - (i + 1)) (by omega) hno
  rw [show i + 1 + (j - (i + 1)) = j by omega] at hext
  refine ⟨fun b blk inf hb hm => ?_, hH.inj⟩
  have hbl := hd b (by rw [hm]; simp)
  rw [hext b hbl] at hb
  exact hH.blk b blk inf hb hm
 ·have hbl := hd b hb
  refine ⟨Nat.lt_of_lt_of_le hbl (by have := gC hr (i := i + 1) (ops.size - (i + 1)) (by omega); rwa [show i + 1 + (ops.size - (i + 1)) = ops.size by omega] at this), fun k hk g1 g2 => ?_⟩
  by_cases q : k = i
  ·exact .inl q
  ·have hki : k < i := by
    rcases Nat.lt_or_ge k i with z | z
    ·exact z
    ·have := gC hr (i := i + 1) (k - (i + 1)) (by omega)
     rw [show i + 1 + (k - (i + 1)) = k by omega] at this
     omega
   have hkx : ops[k]? = some ops[k] := by simp [hk]
   rcases r.ahead hki hkx ho with z | z
   ·exact .inr z
   ·obtain ⟨h1, p, hp, _⟩ := oP z (lD hr hkx (by omega)) hw
    rcases h1 with h1 | h1
    ·rw [pJ hr hkx (by omega)] at h1; cases h1
    ·obtain ⟨_, _, ⟨t, z2, e2⟩, _, _⟩ := aEA hp h1 (by cases hl : fX o with | false => rfl | true => rw [hZ hl] at hw; cases hw)
     exact .inr ((hs.dom b (hkp ⟨t, p.2, z2, e2⟩ b hb)).2 k hk g1 g2)
theorem aDH {i : Nat} {o : Oper} (ho : ops[i]? = some o) (hw : fF ann (eO E) o = false) : ¬ Wr ann E ops i := fun ⟨x, hx, hwx⟩ => by
 rw [ho] at hx; obtain rfl := Option.some.inj hx; rw [hw] at hwx; cases hwx
theorem aBp {i j : Nat} (hw : ¬ Wr ann E ops i) (hs : Seg ann E ops (fun k => k = i ∨ L k) j) : Seg ann E ops L j :=
 ⟨fun k hk hwk => (hs.1 k hk hwk).resolve_left (fun e => hw (e ▸ hwk)), fun k hk hwk hl => hs.2 k hk hwk (.inr hl)⟩
theorem Rdy.idle {i : Nat} (r : Rdy E ann ops L i) {c : Ctx} {a : Act} {w : World} (hs : RS G ann E ops σ h v c0 w0 N B L c a w) {o : Oper} (ho : ops[i]? = some o)
  (hw : fF ann (eO E) o = false) (hdst : ∀ t, o.dst = some t → t < N) {u : Value} (hu : Rel c (v i) u) :
  RS G ann E ops σ h v c0 w0 N B (fun k => k = i ∨ L k) c (a.put o.dst u) w :=
 ⟨hs.good, hs.step, by rw [oV]; exact hs.size, by rw [lA]; exact hs.defers, hs.low, r.tm hs ho hdst (.refl c) hu, fun j hj hseg => hs.hp j hj (aBp (aDH ho hw) hseg),
  fun b hb => ⟨(hs.dom b hb).1, fun k hk g1 g2 => .inr ((hs.dom b hb).2 k hk g1 g2)⟩⟩
theorem Rdy.quiet {i : Nat} (r : Rdy E ann ops L i) (hnm : ∀ o, ops[i]? = some o → sO o = false) (hr : TextRun P G E ann ops T H ops.size σ h v) {c c' : Ctx} {a : Act} {w w' : World} (hs : RS G ann E ops σ h v c0 w0 N B L c a w) {o : Oper} (ho : ops[i]? = some o)
  (hw : fF ann (eO E) o = false) (hdst : ∀ t, o.dst = some t → t < N) {u : Value} (hout : Out G c (h i) w (v i) (h (i + 1)) u w' c') (hq : Quiet c (h i) w (h (i + 1)) w' c') :
  RS G ann E ops σ h v c0 w0 N B (fun k => k = i ∨ L k) c' (a.put o.dst u) w' := by
 have hlt := r.lt
 refine ⟨hout.good, hs.step.trans hout.step, by rw [oV]; exact hs.size, by rw [lA]; exact hs.defers, hs.low, r.tm hs ho hdst hout.step.le hout.rel, fun j hj hseg => ?_, fun b hb => ?_⟩
 ·have hsegL := aBp (aDH ho hw) hseg
  have hHj := hs.hp j hj hsegL
  refine ⟨fun b blk inf hb hm => ?_, hout.heap.inj⟩
  have old : c.m b = some inf → BlkAt c' inf blk w' := fun hm0 =>
   (hHj.blk b blk inf hb hm0).kept hout.step.le (fun hv => hq.kept _ (hs.good.bound _ ⟨b, inf, hm0, hv, rfl⟩))
  by_cases e : b = (h i).length
  ·rcases hq.ext with hx | ⟨blk', hx⟩
   ·subst e; rw [hq.keepm hx] at hm; exact old hm
   ·
    have hij : i + 1 ≤ j := by
     rcases Nat.lt_or_ge i j with q | q
     ·exact q
     ·exfalso
      have := gC hr (i := j) (i - j) (by omega)
      rw [show j + (i - j) = i by omega] at this
      have := (List.getElem?_eq_some_iff.1 hb).1
      omega
    by_cases hto : gM ann o = true
    ·have hno : ∀ k, i + 1 ≤ k → k < i + 1 + (j - (i + 1)) → ¬ Wr ann E ops k := by
      intro k q1 q2 ⟨x, hx', hwx⟩
      have hLk : L k := hsegL.1 k (by omega) ⟨x, hx', hwx⟩
      rcases r.behind (show i < k by omega) hx' ho with z | z
      ·exact z hLk
      ·rcases (oP z hto hwx).1 with this | this
       ·rw [pJ hr ho (by rw [hx]; simp)] at this; cases this
       ·rw [hnm o ho] at this; cases this
     have hext := uW hr (i := i + 1) (j - (i + 1)) (by omega) hno b (by rw [hx]; simp; omega)
     rw [show i + 1 + (j - (i + 1)) = j by omega] at hext
     rw [hext] at hb
     exact hout.heap.blk b blk inf hb hm
    ·have := aAm hr ho (by simpa using hto)
     rw [this] at hx
     have := congrArg List.length hx
     simp at this
  ·rw [hq.same b e] at hm; exact old hm
 ·by_cases e : b = (h i).length
  ·rcases hq.ext with hx | ⟨blk', hx⟩
   ·subst e
    rw [hq.keepm hx] at hb
    exact ⟨(hs.dom _ hb).1, fun k hk g1 g2 => .inr ((hs.dom _ hb).2 k hk g1 g2)⟩
   ·have hl : (h (i + 1)).length = (h i).length + 1 := by rw [hx]; simp
    refine ⟨?_, fun k hk g1 g2 => ?_⟩
    ·have := gC hr (i := i + 1) (ops.size - (i + 1)) (by omega)
     rw [show i + 1 + (ops.size - (i + 1)) = ops.size by omega] at this
     omega
    ·rcases Nat.lt_trichotomy k i with q | q | q
     ·have := gC hr (i := k + 1) (i - (k + 1)) (by omega)
      rw [show k + 1 + (i - (k + 1)) = i by omega] at this
      omega
     ·exact .inl q
     ·have := gC hr (i := i + 1) (k - (i + 1)) (by omega)
      rw [show i + 1 + (k - (i + 1)) = k by omega] at this
      omega
  ·rw [hq.same b e] at hb
   exact ⟨(hs.dom b hb).1, fun k hk g1 g2 => .inr ((hs.dom b hb).2 k hk g1 g2)⟩
theorem uR {o : Oper} {t : Nat} (h : (.tmp t : Operand) ∈ o.op.operands) : t ∈ o.looksAt ops :=
 List.mem_append_left _ (List.mem_filterMap.2 ⟨.tmp t, by simpa using h, rfl⟩)
theorem yT {o : Oper} {j d : Nat} {want : Bool} (hg : o.guard = some (j, want)) (hd : hY ops j = some d) : d ∈ o.looksAt ops := by
 refine List.mem_append_right _ ?_
 have hd' : (ops[j]?).bind (·.dst) = some d := hd
 simp [hg, hd']
theorem wH (hok : xD ann (eO E) ops = true) (hcl : sI ops L) : ∃ j, j ≤ ops.size ∧ Seg ann E ops L j ∧ (j = ops.size ∨ (Wr ann E ops j ∧ ¬ L j)) := by
 have least : ∀ n, (∃ k, k < n ∧ Wr ann E ops k ∧ ¬ L k ∧ ∀ m, m < k → Wr ann E ops m → L m) ∨ ∀ k, k < n → Wr ann E ops k → L k := by
  intro n
  induction n with
  | zero => exact .inr fun k hk => by omega
  | succ n ih =>
   rcases ih with ⟨k, h1, h2, h3, h4⟩ | hall
   ·exact .inl ⟨k, by omega, h2, h3, h4⟩
   ·by_cases hn : Wr ann E ops n ∧ ¬ L n
    ·exact .inl ⟨n, by omega, hn.1, hn.2, hall⟩
    ·refine .inr fun k hk hw => ?_
     by_cases e : k = n
     ·subst e; exact Classical.byContradiction fun hl => hn ⟨hw, hl⟩
     ·exact hall k (by omega) hw
 rcases least ops.size with ⟨k, h1, ⟨x, hx, hw⟩, h3, h4⟩ | hall
 ·refine ⟨k, Nat.le_of_lt h1, ⟨fun m hm hwm => h4 m hm hwm, fun m hm ⟨y, hy, hwy⟩ hl => ?_⟩, .inr ⟨⟨x, hx, hw⟩, h3⟩⟩
  by_cases e : m = k
  ·subst e; exact h3 hl
  ·rcases (oR hok).2 k m x y (by omega) hx hy with z | z
   ·exact h3 (z L hcl hl)
   ·exact aCs z hw hwy
 ·refine ⟨ops.size, Nat.le_refl _, ⟨fun m hm hwm => hall m hm hwm, fun m hm ⟨y, hy, hwy⟩ hl => ?_⟩, .inl rfl⟩
  have := (Array.getElem?_eq_some_iff.1 hy).1; omega
theorem xU (hr : TextRun P G E ann ops T H ops.size σ h v) {i t : Nat} (hl : oL ops i t = true) : ∀ d, i + d ≤ ops.size → σ (i + d) t = σ i t
 | 0, _ => rfl
 | d + 1, hd => by
  have ho : ops[i + d]? = some ops[i + d] := by simp [show i + d < ops.size by omega]
  obtain ⟨_, hs⟩ := hr.step (i + d) ops[i + d] (by omega) ho
  have hne := aFw hl (k := i + d) (by omega)
  rw [show i + (d + 1) = i + d + 1 by omega, hs, ← xU hr hl d (by omega)]
  cases hdd : ops[i + d].dst with
  | none => rfl
  | some e =>
   have : ¬ (t = e) := fun q => hne (by simp [hY, ho, hdd, q])
   simp [uS, this]
theorem aBr (hr : TextRun P G E ann ops T H ops.size σ h v) {i t : Nat} (hi : i < ops.size) (hl : oL ops i t = true) : σ ops.size t = σ i t := by
 have := xU hr hl (ops.size - i) (by omega)
 rwa [show i + (ops.size - i) = ops.size by omega] at this
theorem aDY {t b L' i' o' : Nat} {x : AV} {H1 H2 : aA} (hst : oY P t (.ptr b L' i' o') x H1 = some H2) {q : Nat} (hq : q ≠ b) : H2[q]? = H1[q]? := by
 unfold oY cH at hst
 split at hst
 case h_2 => cases hst
 simp only at hst
 split at hst
 case h_2 => cases hst
 split at hst
 case isFalse => cases hst
 split at hst
 case h_2 => cases hst
 split at hst
 case isFalse => cases hst
 simp only [Option.some.injEq] at hst
 subst hst
 rw [List.getElem?_set_ne (Ne.symm hq)]
def aDO : AV → Option Nat
 | .ptr b _ _ _ => some b
 | .sl b _ _ _ _ => some b
 | _ => none
theorem aBQ {e sz b L' o' n' z' : Nat} {x r : AV} {H1 H2 : aA} (hst : eQ e sz (.sl b L' o' n' z') x H1 = some (r, H2)) {q : Nat} (hq : q ≠ b) : H2[q]? = H1[q]? := by
 unfold eQ at hst
 split at hst
 case h_2 => cases hst
 rename_i heq
 cases heq
 split at hst
 case h_2 => cases hst
 split at hst
 case isFalse => cases hst
 simp only [Option.some.injEq, Prod.mk.injEq] at hst
 rw [← hst.2, List.getElem?_set_ne (Ne.symm hq)]
theorem zF {ts : Array Nat} {y x : AV} {H1 : aA} {q : AV × aA} (hst : mW P ts y x H1 = some q) : ∃ e sz, eQ e sz y x H1 = some q := by
 unfold mW at hst
 (repeat' split at hst) <;> first | (cases hst; done) | exact ⟨_, _, hst⟩
theorem aJC {x : Oper} {T0 : TS} {H1 H2 : aA} {r : AV} (hop : tY P G E ann x T0 H1 = some (r, H2)) {tb b : Nat} (hw : uT x = some tb) (hwr : fF ann (eO E) x = true) (hb : aDO (T0 tb) = some b) {q : Nat} (hq : q ≠ b) : H2[q]? = H1[q]? := by
 obtain ⟨dst, op, type, pos, after, guard⟩ := x
 unfold uT at hw
 split at hw
 ·rename_i t b0 z e
  simp only at e; subst e
  simp only [Option.some.injEq] at hw; subst hw
  simp only [tY] at hop
  split at hop
  ·rename_i H3 h3
   simp only [Option.some.injEq, Prod.mk.injEq] at hop
   obtain ⟨_, rfl⟩ := hop
   unfold aDO at hb
   split at hb
   ·rename_i e2
    simp only [Option.some.injEq] at hb; subst hb
    have e3 : gN T0 (.tmp b0) = _ := e2
    rw [e3] at h3
    exact aDY h3 hq
   ·rename_i e2
    have e3 : gN T0 (.tmp b0) = _ := e2
    rw [e3] at h3
    unfold oY cH at h3
    split at h3 <;> cases h3
   ·cases hb
  ·cases hop
 ·rename_i cl e
  obtain ⟨callee, args, ats⟩ := cl
  simp only at e; subst e
  split at hw
  case h_2 => cases hw
  rename_i ec
  simp only at ec; subst ec
  split at hw
  case h_2 => cases hw
  rename_i b0 y ea
  simp only [Option.some.injEq] at hw; subst hw
  simp only at ea
  simp only [tY, ea] at hop
  split at hop
  ·rename_i hmk
   simp [fF, hmk] at hwr
  ·unfold aDO at hb
   split at hb
   ·rename_i e2
    have e3 : gN T0 (.tmp b0) = _ := e2
    rw [e3] at hop
    obtain ⟨_, _, h5⟩ := zF hop
    unfold eQ at h5
    cases h5
   ·rename_i e2
    simp only [Option.some.injEq] at hb; subst hb
    have e3 : gN T0 (.tmp b0) = _ := e2
    rw [e3] at hop
    obtain ⟨_, _, h5⟩ := zF hop
    exact aBQ h5 hq
   ·cases hb
 ·cases hw
theorem qR (hr : TextRun P G E ann ops T H ops.size σ h v) {b lo : Nat} (hb : b < (h lo).length) : ∀ d, lo + d ≤ ops.size →
  (∀ k, lo ≤ k → k < lo + d → Wr ann E ops k → ∃ x tb b', ops[k]? = some x ∧ x.guard = none ∧ uT x = some tb ∧ aDO (σ k tb) = some b' ∧ b ≠ b') → (h (lo + d))[b]? = (h lo)[b]?
 | 0, _, _ => rfl
 | d + 1, hd, hw => by
  have ih := qR hr hb d (by omega) (fun k h1 h2 => hw k h1 (by omega))
  have hl := gC hr (i := lo) d (by omega)
  rw [show lo + (d + 1) = lo + d + 1 by omega]
  by_cases hwk : Wr ann E ops (lo + d)
  ·obtain ⟨x, tb, b', hx, hg, hop, hs, hne⟩ := hw (lo + d) (by omega) (by omega) hwk
   obtain ⟨hst, -⟩ := hr.step (lo + d) x (by omega) hx
   unfold jJ at hst
   rw [hg] at hst
   simp only at hst
   obtain ⟨x2, hx2, hwr⟩ := hwk
   rw [hx] at hx2
   obtain rfl := Option.some.inj hx2
   rw [aJC hst hop hwr hs hne, ih]
  ·rcases aCj hr (i := lo + d) (by omega) hwk with e | ⟨blk, e⟩
   ·rw [e]; exact ih
   ·rw [e, List.getElem?_append_left (by omega)]; exact ih
theorem aFg {b L' i' o' : Nat} {y : AV} (h : gV (.ptr b L' i' o') y = true) : ∃ b', aDO y = some b' ∧ b ≠ b' := by
 cases y <;> first | (cases h; done) | skip
 all_goals
  refine ⟨_, rfl, fun e => ?_⟩
  subst e
  simp [gV] at h
theorem aCi {o : Oper} {t : Nat} {xa : Operand} (h : o.op = .load t xa) {ev : Operand → Value} : execOp ev o = (do pure (Next.value (← Instr.loadAt t (ev xa)))) := by
 obtain ⟨dst, op, type, pos, after, guard⟩ := o
 simp only at h; subst h; rfl
theorem Rdy.load {i : Nat} (r : Rdy E ann ops L i) (hr : TextRun P G E ann ops T H ops.size σ h v) (hgd : ∀ p ∈ mN ops, gV (σ ops.size p.1) (σ ops.size p.2) = true) {c : Ctx} {a : Act} {w : World}
  (hs : RS G ann E ops σ h v c0 w0 N B L c a w) {o : Oper} (ho : ops[i]? = some o) (ht : gM ann o = true) {t : Nat} {xa : Operand} (hld : o.op = .load t xa) (hop : oM P G t (gN (σ i) xa) (h i) = some (v i)) {u0 : Value} (hrel : Rel c (gN (σ i) xa) u0) :
  ∃ j, j ≤ ops.size ∧ Seg ann E ops L j ∧ oM P G t (gN (σ i) xa) (h j) = some (v i) := by
 have hi := r.lt
 obtain ⟨j, hj, hseg, hopen⟩ := wH r.ok r.closed
 refine ⟨j, hj, hseg, ?_⟩
 have hisl : fX o = true := by simp [fX, hld]
 have dep : ∀ {A : AV} {H1 H2 : aA}, (∀ b L' i' o', A = .ptr b L' i' o' → b < H1.length → H2[b]? = H1[b]?) → ∀ {q : AV}, oM P G t A H1 = some q → oM P G t A H2 = some q := by
  intro A H1 H2 hA q hq
  unfold oM at hq ⊢
  split at hq
  case h_2 => cases hq
  rename_i g s e1 e2
  unfold aH at hq ⊢
  split at hq
  ·rename_i b L' i' o'
   have hb : b < H1.length := by
    rcases Nat.lt_or_ge b H1.length with z | z
    ·exact z
    ·rw [List.getElem?_eq_none z] at hq; cases hq
   simp only [hA b L' i' o' rfl hb]
   exact hq
  ·exact hq
  ·exact hq
  ·cases hq
 refine dep (fun b L' i' o' hA hb => ?_) hop
 have hex : ∀ k, k ≠ i → Wr ann E ops k → ((i < k ∧ L k) ∨ (k < i ∧ ¬ L k)) → ∃ x tb b', ops[k]? = some x ∧ x.guard = none ∧ uT x = some tb ∧ aDO (σ k tb) = some b' ∧ b ≠ b' := by
  intro k hki ⟨x, hx, hw⟩ hc
  have hk : k < ops.size := (Array.getElem?_eq_some_iff.1 hx).1
  have fin : ∀ (p : Nat × Nat), p ∈ mN ops → (∃ t', o.op = .load t' (.tmp p.1)) → uT x = some p.2 → x.guard = none → oL ops i p.1 = true → oL ops k p.2 = true →
    ∃ x tb b', ops[k]? = some x ∧ x.guard = none ∧ uT x = some tb ∧ aDO (σ k tb) = some b' ∧ b ≠ b' := by
   intro p hp ⟨t', e1⟩ e2 hg l1 l2
   rw [hld] at e1
   obtain ⟨_, e1⟩ := Op.load.inj e1
   subst e1
   have hA' : σ i p.1 = .ptr b L' i' o' := hA
   have hd := hgd p hp
   rw [aBr hr hi l1, aBr hr hk l2, hA'] at hd
   obtain ⟨b', e3, hne⟩ := aFg hd
   exact ⟨x, p.2, b', hx, hg, e2, e3, hne⟩
  rcases hc with ⟨q1, q2⟩ | ⟨q1, q2⟩
  ·rcases r.behind q1 hx ho with z | z
   ·exact absurd q2 z
   ·obtain ⟨_, p, hp, hm⟩ := oP z ht hw
    obtain ⟨_, g2, e1, e2, l1, l2⟩ := aHL hp hisl
    exact fin p hm e1 e2 g2 l1 l2
  ·rcases r.ahead q1 hx ho with z | z
   ·exact absurd z q2
   ·obtain ⟨_, p, hp, hm⟩ := mJ z hw ht
    obtain ⟨g1, _, e1, e2, l1, l2⟩ := aHM hp hisl
    exact fin p hm e1 e2 g1 l1 l2
 have hnw : ¬ Wr ann E ops i := fun ⟨x, hx, hw⟩ => by
  rw [ho] at hx; obtain rfl := Option.some.inj hx
  rw [hZ hisl] at hw; cases hw
 rcases Nat.le_total i j with hij | hij
 ·have := qR hr (b := b) (lo := i) hb (j - i) (by omega) (fun k h1 h2 hwk => by
   have hki : k ≠ i := fun e => hnw (e ▸ hwk)
   exact hex k hki hwk (.inl ⟨by omega, hseg.1 k (by omega) hwk⟩))
  rwa [show i + (j - i) = j by omega] at this
 ·
  have hcm : c.m b ≠ none := by
   rw [hA] at hrel
   cases hrel with
   | ptr hm _ _ _ => rw [hm]; simp
   | ptrStale _ hm _ => rw [hm]; simp
  have hbj : b < (h j).length := by
   rcases Nat.lt_or_ge b (h j).length with z | z
   ·exact z
   ·exfalso
    have hlt : j < i := by
     rcases Nat.lt_or_ge j i with q | q
     ·exact q
     ·have : j = i := by omega
      subst this; omega
    obtain ⟨k, g1, g2, g3, g4⟩ := aBw hr (i := j) (b := b) (i - j) (by omega) z (by rw [show j + (i - j) = i by omega]; exact hb)
    have hk : k < ops.size := by omega
    have hLk := (hs.dom b hcm).2 k hk g3 g4
    have hkx : ops[k]? = some ops[k] := by simp [hk]
    rcases hopen with e | ⟨⟨x, hx, hw⟩, hnl⟩
    ·omega
    ·by_cases e : k = j
     ·subst e; exact hnl hLk
     ·rcases (oR r.ok).2 j k x ops[k] (by omega) hx hkx with z | z
      ·exact hnl (z L r.closed hLk)
      ·have h1 := (mJ z hw (lD hr hkx (by omega))).1
       rw [pJ hr hkx (by omega)] at h1; cases h1
  have := qR hr (b := b) (lo := j) hbj (i - j) (by omega) (fun k h1 h2 hwk => by
   have hki : k ≠ i := by omega
   exact hex k hki hwk (.inr ⟨by omega, fun hl => hseg.2 k h1 hwk hl⟩))
  rw [show j + (i - j) = i by omega] at this
  exact this.symm
theorem aFW {b L' i' n' s' : Nat} {y : AV} (h : gV (.sl b L' i' n' s') y = true) : ∃ b' L2 i2 o2, y = .ptr b' L2 i2 o2 ∧ b ≠ b' := by
 cases y <;> first | (cases h; done) | skip
 refine ⟨_, _, _, _, rfl, fun e => ?_⟩
 subst e
 simp [gV] at h
theorem aJn {t : Nat} {l cc : AV} {H1 H2 : aA} {r : AV} (h : gF P t l cc H1 = some (r, H2)) :
  ∃ blk n s, r = .sl H1.length n 0 n s ∧ H2 = H1 ++ [blk] ∧ ∀ H0 : aA, H0.length = H1.length → gF P t l cc H0 = some (r, H0 ++ [blk]) := by
 unfold gF at h
 split at h
 case h_2 => cases h
 rename_i e hu
 split at h
 case h_2 => cases h
 rename_i s by_ z e1 e2 e3
 split at h
 case isFalse => cases h
 rename_i hc
 unfold fR at h
 split at h
 case h_2 => cases h
 rename_i k1 l1 k2 c1
 split at h
 case isFalse => cases h
 rename_i hl
 simp only [Option.some.injEq, Prod.mk.injEq] at h
 obtain ⟨rfl, rfl⟩ := h
 refine ⟨_, _, _, rfl, rfl, fun H0 h0 => ?_⟩
 unfold gF
 simp only [hu, e1, e2, e3]
 rw [if_pos hc]
 unfold fR
 simp only
 rw [if_pos hl, h0]
theorem Rdy.fresh {i : Nat} (r : Rdy E ann ops L i) (hr : TextRun P G E ann ops T H ops.size σ h v) (hgd : ∀ p ∈ mN ops, gV (σ ops.size p.1) (σ ops.size p.2) = true) {c : Ctx} {a : Act} {w : World}
  (hs : RS G ann E ops σ h v c0 w0 N B L c a w) {o : Oper} (ho : ops[i]? = some o) (hmk : sO o = true) (hdst : ∀ t, o.dst = some t → t < N) {t : Nat} {l cc : AV} (hop : gF P t l cc (h i) = some (v i, h (i + 1))) {vl vc : Value} (hl : Rel c l vl) (hc : Rel c cc vc) :
  ∃ u w' c', (Instr.makeSlice t vl vc).run P w = .ok u w' ∧ RS G ann E ops σ h v c0 w0 N B (fun k => k = i ∨ L k) c' (a.put o.dst u) w' := by
 have hlt := r.lt
 have hto : gM ann o = true := aDF hmk
 have hw : fF ann (eO E) o = false := sS hmk
 obtain ⟨blk, n, s, hvi, hext1, hany⟩ := aJn hop
 obtain ⟨j, hj, hseg, hopen⟩ := wH r.ok r.closed
 have hij : i ≤ j := by
  rcases Nat.lt_or_ge j i with q | q
  ·exfalso
   rcases hopen with e | ⟨⟨x, hx, hwx⟩, hnl⟩
   ·omega
   ·rcases r.ahead q hx ho with z | z
    ·exact hnl z
    ·have := (mJ z hwx hto).1
     rw [aHQ hmk] at this; cases this
  ·exact q
 have hlen : (h i).length ≤ (h j).length := by
  have := gC hr (i := i) (j - i) (by omega)
  rwa [show i + (j - i) = j by omega] at this
 obtain ⟨H0, hH0⟩ : ∃ H0, H0 = (h j).take (h i).length := ⟨_, rfl⟩
 have h0l : H0.length = (h i).length := by rw [hH0, List.length_take]; omega
 have hHj := hs.hp j hj hseg
 have hHat : HeapAt c H0 w := ⟨fun b bk inf hb hm => hHj.blk b bk inf (by
  rw [hH0, List.getElem?_take] at hb
  split at hb
  ·exact hb
  ·cases hb) hm, hHj.inj⟩
 have hnone : c.m H0.length = none := by
  rw [h0l]
  cases hm : c.m (h i).length with
  | none => rfl
  | some inf => exact absurd ((hs.dom (h i).length (by rw [hm]; simp)).2 i r.lt (Nat.le_refl _) (by rw [hext1]; simp)) r.new
 obtain ⟨u, w', c', hrun, hmade⟩ := mL (hany H0 h0l) hs.good hHat hnone hl hc
 obtain ⟨hout, hq⟩ := hmade.out
 refine ⟨u, w', c', hrun, hout.good, hs.step.trans hout.step, by rw [oV]; exact hs.size, by rw [lA]; exact hs.defers, hs.low, r.tm hs ho hdst hout.step.le hout.rel, fun j' hj' hseg' => ?_, fun b hb => ?_⟩
 ·have hsegL := aBp (aDH ho hw) hseg'
  have hHj' := hs.hp j' hj' hsegL
  refine ⟨fun b bk inf hb hm => ?_, hout.heap.inj⟩
  by_cases e : b = H0.length
  ·rw [h0l] at e
   have hij' : i + 1 ≤ j' := by
    rcases Nat.lt_or_ge i j' with q | q
    ·exact q
    ·exfalso
     have h1 := gC hr (i := j') (i - j') (by omega)
     rw [show j' + (i - j') = i by omega] at h1
     have := (List.getElem?_eq_some_iff.1 hb).1
     omega
   have hd : ∃ d, o.dst = some d ∨ True := ⟨0, .inr trivial⟩
   have hkeep := qR hr (b := b) (lo := i + 1) (by rw [hext1, e]; simp) (j' - (i + 1)) (by omega) (fun k h1 h2 ⟨x, hx, hwx⟩ => by
    have hk : k < ops.size := by omega
    have hLk : L k := hsegL.1 k (by omega) ⟨x, hx, hwx⟩
    rcases r.behind (show i < k by omega) hx ho with z | z
    ·exact absurd hLk z
    ·obtain ⟨_, p, hp, hm2⟩ := oP z hto hwx
     obtain ⟨hd, hg2, ⟨t2, z2, e2⟩, l1, l2⟩ := aEA hp hmk (by cases hl : fX x with | false => rfl | true => rw [hZ hl] at hwx; cases hwx)
     have hg := hgd p hm2
     have hsd : σ ops.size p.1 = v i := by
      have h3 := xU hr l1 (ops.size - (i + 1)) (by omega)
      rw [show i + 1 + (ops.size - (i + 1)) = ops.size by omega] at h3
      rw [h3, (hr.step i o r.lt ho).2, hd]
      simp [uS]
     rw [hsd, aBr hr hk l2, hvi] at hg
     obtain ⟨b', L2, i2, o2, e3, hne⟩ := aFW hg
     exact ⟨x, p.2, b', hx, hg2, by unfold uT; rw [e2], by rw [e3]; rfl, by rw [e]; exact hne⟩)
   rw [show i + 1 + (j' - (i + 1)) = j' by omega, hb, hext1] at hkeep
   have hbk : bk = blk := by
    rw [e, List.getElem?_append_right (Nat.le_refl _), Nat.sub_self] at hkeep
    exact Option.some.inj hkeep
   refine hout.heap.blk b bk inf ?_ hm
   rw [hbk, e, ← h0l, List.getElem?_append_right (Nat.le_refl _), Nat.sub_self]; rfl
  ·rw [hq.same b e] at hm
   exact (hHj'.blk b bk inf hb hm).kept hout.step.le (fun hv => hq.kept _ (hs.good.bound _ ⟨b, inf, hm, hv, rfl⟩))
 ·by_cases e : b = H0.length
  ·rw [h0l] at e
   have hl1 : (h (i + 1)).length = (h i).length + 1 := by rw [hext1]; simp
   refine ⟨?_, fun k hk g1 g2 => ?_⟩
   ·have := gC hr (i := i + 1) (ops.size - (i + 1)) (by omega)
    rw [show i + 1 + (ops.size - (i + 1)) = ops.size by omega] at this
    omega
   ·rcases Nat.lt_trichotomy k i with q | q | q
    ·have := gC hr (i := k + 1) (i - (k + 1)) (by omega)
     rw [show k + 1 + (i - (k + 1)) = i by omega] at this
     omega
    ·exact .inl q
    ·have := gC hr (i := i + 1) (k - (i + 1)) (by omega)
     rw [show i + 1 + (k - (i + 1)) = k by omega] at this
     omega
  ·rw [hq.same b e] at hb
   exact ⟨(hs.dom b hb).1, fun k hk g1 g2 => .inr ((hs.dom b hb).2 k hk g1 g2)⟩
theorem aFo {o : Oper} {t : Nat} {x y : Operand} (h : o.op = .makeSlice t x y) {ev : Operand → Value} : execOp ev o = (do pure (Next.value (← Instr.makeSlice t (ev x) (ev y)))) := by
 obtain ⟨dst, op, type, pos, after, guard⟩ := o
 simp only at h; subst h; rfl
theorem aAT {o : Oper} {t : Nat} {x y : Operand} (h : o.op = .store t x y) {ev : Operand → Value} : execOp ev o = (do Instr.storeAt t (ev x) (ev y); pure .skip) := by
 obtain ⟨dst, op, type, pos, after, guard⟩ := o
 simp only at h; subst h; rfl
theorem Rdy.op {i : Nat} (r : Rdy E ann ops L i) (hE : EnvSound P G E) (hr : TextRun P G E ann ops T H ops.size σ h v) (hgd : ∀ p ∈ mN ops, gV (σ ops.size p.1) (σ ops.size p.2) = true) {c : Ctx} {a : Act} {w : World} (hs : RS G ann E ops σ h v c0 w0 N B L c a w)
  (hdst : ∀ (i : Nat) (o : Oper) (t : Nat), ops[i]? = some o → o.dst = some t → t < N) {K : Act → World → Prop} {Q : Exit → Act → World → Prop}
  (hK : ∀ c' a' w', RS G ann E ops σ h v c0 w0 N B (fun k => k = i ∨ L k) c' a' w' → K a' w') : wpOp P ops Q i K a w := by
 obtain ⟨o, ho⟩ : ∃ o, ops[i]? = some o := ⟨ops[i]'r.lt, by simp [r.lt]⟩
 unfold wpOp
 simp only [ho]
 obtain ⟨hst, -⟩ := hr.step i o r.lt ho
 have hguard : ∀ j want d, o.guard = some (j, want) → hY ops j = some d → Rel c (σ i d) (a.tmps.getD d undef) := fun j want d hg hd => r.operand hr hs ho (yT hg hd)
 have hops : ∀ x ∈ o.op.operands, Rel c (gN (σ i) x) (a.eval x) := fun x hx => aBm (fun t ht => r.operand hr hs ho (uR (by rw [ht] at hx; exact hx)))
 have hd1 := fun t ht => hdst i o t ho ht
 rcases qA hst hguard with ⟨hw, hop⟩ | ⟨hw, hv, hh⟩
 ·rw [if_pos hw]
  left
  by_cases ht : gM ann o = true
  ·cases hnl : fX o with
   | true =>
   obtain ⟨t, xa, hld⟩ : ∃ t xa, o.op = .load t xa := by
    obtain ⟨dst, op, type, pos, after, guard⟩ := o
    cases op <;> first | (cases hnl; done) | exact ⟨_, _, rfl⟩
   have hxa := hops xa (by rw [hld]; simp [Op.operands])
   have hop' : oM P G t (gN (σ i) xa) (h i) = some (v i) := by
    simp only [tY, hld] at hop
    exact (dY hop).1
   obtain ⟨j, hj, hseg, hl⟩ := r.load hr hgd hs ho ht hld hop' hxa
   obtain ⟨u, e1, e2⟩ := oN hl hs.good (hs.hp j hj hseg) hxa
   exact cU (by rw [aCi hld]; exact gA e1) (hK _ _ _ (r.idle hs ho (hZ hnl) hd1 e2))
   | false =>
   cases hnm : sO o with
   | true =>
    obtain ⟨t, x, y, hmk⟩ : ∃ t x y, o.op = .makeSlice t x y := by
     obtain ⟨dst, op, type, pos, after, guard⟩ := o
     cases guard <;> cases op <;> first | (cases hnm; done) | exact ⟨_, _, _, rfl⟩
    have hop' : gF P t (gN (σ i) x) (gN (σ i) y) (h i) = some (v i, h (i + 1)) := by
     simp only [tY, hmk] at hop
     exact hop
    obtain ⟨u, w', c', e1, e2⟩ := r.fresh hr hgd hs ho hnm hd1 hop' (hops x (by rw [hmk]; simp [Op.operands])) (hops y (by rw [hmk]; simp [Op.operands]))
    exact cU (by rw [aFo hmk]; exact gA e1) (hK _ _ _ e2)
   | false =>
   have hseg := r.seg ho ht hnl hnm
   have hHi := hs.hp i (Nat.le_of_lt r.lt) hseg
   by_cases hst' : ∃ t xa z, o.op = .store t xa z
   ·obtain ⟨t, xa, z, hsto⟩ := hst'
    have hwr : fF ann (eO E) o = true := by simp [fF, hsto]
    simp only [tY, hsto] at hop
    split at hop
    ·rename_i H1 h1
     simp only [Option.some.injEq, Prod.mk.injEq] at hop
     obtain ⟨hv1, hh1⟩ := hop
     obtain ⟨w', e1, e2, e3, e4⟩ := sE h1 hs.good hHi (hops xa (by rw [hsto]; simp [Op.operands])) (hops z (by rw [hsto]; simp [Op.operands]))
     rw [hh1] at e4
     have hu : Rel c (v i) undef := by rw [← hv1]; exact iX c
     have hdm : uP c (h (i + 1)) := fun b hb => by
      have := r.domW hr hs ho hwr b hb
      rw [← hh1, mB h1]; exact this
     exact qO (w' := w') (by rw [aAT hsto]; simp [e1]) (hK _ _ _ (r.writer hr hs ho hwr hd1 e2 e3 e4 hdm (fun _ b hb => hb) hu))
    ·cases hop
   refine aAi hE hop hs.good hHi (fun hne => ?_) hops (fun hwr => r.domW hr hs ho hwr) (fun u w' c' hout hq => ?_)
   ·cases hm : c.m (h i).length with
    | none => rfl
    | some inf =>
     have hl := aCq hr r.lt
     exact absurd ((hs.dom (h i).length (by rw [hm]; simp)).2 i r.lt (Nat.le_refl _) (by omega)) r.new
   ·cases hwr : fF ann (eO E) o with
    | false => exact hK _ _ _ (r.quiet (fun o' ho' => by rw [ho] at ho'; obtain rfl := Option.some.inj ho'; exact hnm) hr hs ho hwr hd1 hout (hq hwr))
    | true => exact hK _ _ _ (r.writer hr hs ho hwr hd1 hout.step hout.good hout.heap (hout.dom (r.domW hr hs ho hwr)) (fun ⟨t, tb, z, e⟩ => absurd ⟨t, _, z, e⟩ hst') hout.rel)
  ·have ht' : gM ann o = false := by simpa using ht
   obtain ⟨hh, hrun⟩ := rV ht' hop
   obtain ⟨u, e1, e2⟩ := hrun c w a hs.good hops
   have hwr : fF ann (eO E) o = false := by
    cases hwb : fF ann (eO E) o with
    | false => rfl
    | true => rw [lE hwb] at ht'; cases ht'
   exact cU e1 (hK _ _ _ (r.idle hs ho hwr hd1 e2))
 ·rw [hw]
  have hu : Rel c (v i) undef := by rw [hv]; exact iX c
  cases hwr : fF ann (eO E) o with
  | false => exact hK _ _ _ (r.idle hs ho hwr hd1 hu)
  | true =>
   have hHi := hs.hp i (Nat.le_of_lt r.lt) (r.seg ho (lE hwr) (by cases hl : fX o with | false => rfl | true => rw [hZ hl] at hwr; cases hwr) (by cases hl : sO o with | false => rfl | true => rw [sS hl] at hwr; cases hwr))
   exact hK _ _ _ (r.writer hr hs ho hwr hd1 (.refl c w) hs.good (by rw [hh]; exact hHi) (by rw [hh]; exact r.domW hr hs ho hwr) (fun _ b hb => hb) hu)
theorem aJu (hok : xD ann (eO E) ops = true) (hE : EnvSound P G E) (hr : TextRun P G E ann ops T H ops.size σ h v) (hgd : ∀ p ∈ mN ops, gV (σ ops.size p.1) (σ ops.size p.2) = true)
  (hdst : ∀ (i : Nat) (o : Oper) (t : Nat), ops[i]? = some o → o.dst = some t → t < N) {Q : Exit → Act → World → Prop}
  (hQ : ∀ c a w, St G c0 w0 N B (σ ops.size) (h ops.size) c a w → Q .normal a w) :
  ∀ (fuel : Nat) (listed : Array Bool), vZ listed ops.size ≤ fuel → listed.size = ops.size → sI ops (fun k => listed.getD k false = true) →
   ∀ (c : Ctx) (a : Act) (w : World), RS G ann E ops σ h v c0 w0 N B (fun k => listed.getD k false = true) c a w → wpAny P .any ops Q fuel listed a w := by
 have done : ∀ (listed : Array Bool), (∀ i, i < ops.size → listed.getD i false = true) → listed.size = ops.size → ∀ c a w, RS G ann E ops σ h v c0 w0 N B (fun k => listed.getD k false = true) c a w → Q .normal a w := by
  intro listed hall hsz c a w hs
  refine hQ c a w ⟨hs.good, hs.hp ops.size (Nat.le_refl _) ⟨fun i hi _ => hall i hi, fun i hi ⟨o, ho, _⟩ => ?_⟩, fun b hb => (hs.dom b hb).1, hs.step, fun t => ?_, hs.size, hs.defers, Nat.le_trans hs.low (by have := gC hr (i := 0) ops.size (by omega); rwa [Nat.zero_add] at this)⟩
  ·have := (Array.getElem?_eq_some_iff.1 ho).1; omega
  ·refine hs.tm t _ ?_
   have big : ∀ i', ¬ i' < ops.size → hY ops i' ≠ some t := fun i' hi => by simp [hY, Array.getElem?_eq_none (Nat.le_of_not_lt hi)]
   rcases yC hr t ops.size (Nat.le_refl _) with ⟨k, g1, g2, g3, g4⟩ | ⟨g1, g2⟩
   ·refine .inl ⟨k, hall k g1, g2, g3, fun i' z1 z2 => ?_⟩
    by_cases q : i' < ops.size
    ·exact g4 i' z1 q
    ·exact big i' q
   ·refine .inr ⟨fun i' z => ?_, g2⟩
    by_cases q : i' < ops.size
    ·exact g1 i' q
    ·exact big i' q
 have all_of_ready : ∀ (listed : Array Bool), listed.size = ops.size → Region.ready .any ops listed = [] → ∀ i, i < ops.size → listed.getD i false = true := by
  intro listed hsz hrd i
  induction i using Nat.strongRecOn with
  | _ i ih =>
   intro hi
   cases hl : listed.getD i false with
   | true => rfl
   | false =>
    exfalso
    have hmem : i ∈ Region.ready .any ops listed := by
     rw [mem_ready]
     refine ⟨?_, ops[i], by simp [hi], fun e he hb => ?_⟩
     ·have hi' : i < listed.size := by omega
      simp [Array.getD, hi'] at hl ⊢; exact hl
     ·have := (oR hok).1 i ops[i] (by simp [hi]) e he hb
      exact ih e.on this (by omega)
    rw [hrd] at hmem; cases hmem
 intro fuel
 induction fuel with
 | zero =>
  intro listed hc hsz hcl c a w hs
  have hall := zN (listed := listed) (n := ops.size) (by omega)
  refine ⟨?_, done listed hall hsz c a w hs⟩
  apply List.eq_nil_iff_forall_not_mem.2
  intro j hj
  obtain ⟨h1, o, ho, _⟩ := mem_ready.1 hj
  have hj' := (Array.getElem?_eq_some_iff.1 ho).1
  have h2 := hall j hj'
  have hj'' : j < listed.size := by omega
  simp [Array.getD, hj''] at h1 h2
  rw [h1] at h2; cases h2
 | succ fuel ih =>
  intro listed hc hsz hcl c a w hs
  refine ⟨fun hrd => done listed (all_of_ready listed hsz hrd) hsz c a w hs, fun i hi => ?_⟩
  obtain ⟨h1, o, ho, hall⟩ := mem_ready.1 hi
  have hi' := (Array.getElem?_eq_some_iff.1 ho).1
  have hil : i < listed.size := by omega
  have hun : listed.getD i false = false := by simp [Array.getD, hil] at h1 ⊢; exact h1
  have r : Rdy E ann ops (fun k => listed.getD k false = true) i := ⟨hok, hcl, hi', by simp [hun], fun o' ho' e he hb => by
   rw [ho] at ho'; obtain rfl := Option.some.inj ho'; exact hall e he hb⟩
  have hiff : ∀ k, (listed.setIfInBounds i true).getD k false = true ↔ (k = i ∨ listed.getD k false = true) := by
   intro k
   by_cases e : k = i
   ·subst e; simp [Array.getD, hil]
   ·rw [getD_set_ne false (Ne.symm e)]; simp [e]
  refine r.op hE hr hgd hs hdst (fun c' a' w' hs' => ?_)
  have hL : (fun k => (listed.setIfInBounds i true).getD k false = true) = (fun k => k = i ∨ listed.getD k false = true) := funext fun k => propext (hiff k)
  refine ih (listed.setIfInBounds i true) ?_ (by simpa using hsz) (by rw [hL]; exact r.closed') c' a' w' (by rw [hL]; exact hs')
  have := aBW hil hun ops.size
  rw [if_pos hi'] at this
  omega
theorem aCN {γ : Type} {K : TS → aA → Option γ} {out : γ} {id : Nat} (hm : P.follows .mixedOrders = true) (hok : xD ann (eO E) ops = true) (hE : EnvSound P G E)
  (hdst : ∀ (i : Nat) (o : Oper) (t : Nat), ops[i]? = some o → o.dst = some t → t < N) {Q : Exit → Act → World → Prop}
  (hQ : ∀ T H c a w, K T H = some out → St G c0 w0 N B T H c a w → Q .normal a w) {c : Ctx} {a : Act} {w : World} (hrun : kO P G E ann ops ops.toList (fun T H => grd (aFV T (mN ops)) (K T H)) T H = some out) (hs : St G c0 w0 N B T H c a w) :
  (Code.region id ops true).wp P Q a w := by
 obtain ⟨σ, h, v, e1, e2, e3, e4⟩ := yB (K := fun T H => grd (aFV T (mN ops)) (K T H)) ops.toList 0 (fun j => by simp) T H hrun
 simp only [Nat.zero_add, Array.length_toList] at e3 e4
 obtain ⟨e4, hgd⟩ := wI e4
 have hgd' : ∀ p ∈ mN ops, gV (σ ops.size p.1) (σ ops.size p.2) = true := fun p hp => hgd _ (List.mem_map.2 ⟨p, hp, rfl⟩)
 have hr : TextRun P G E ann ops T H ops.size σ h v := ⟨e1, e2, fun i o hi ho => e3 i o (Nat.zero_le _) hi ho⟩
 refine wp_region_any hm ?_
 have hnone : ∀ k, (Array.replicate ops.size false).getD k false = false := fun k => by
  simp only [Array.getD_eq_getD_getElem?, Array.getElem?_replicate]
  split <;> rfl
 have hstep : Step c w c { w with drawn := w.drawn + 1 } := ⟨.refl c, rfl, rfl, rfl, Nat.le_refl _, fun _ _ _ => rfl, fun _ inf h hv _ => ⟨inf, h, hv, rfl⟩, fun _ _ h => .inl h, fun _ _ h => .inl h⟩
 have hn0 : ∀ (S : Nat → Prop), S = (fun k => (Array.replicate ops.size false).getD k false = true) → ∀ k, ¬ S k := fun S hS k hk => by rw [hS] at hk; simp only [hnone] at hk; cases hk
 refine aJu hok hE hr hgd' hdst (fun c a w hst => hQ _ _ c a w e4 hst) ops.size _ ?_ (by simp) (fun j o ho hj => absurd hj (hn0 _ rfl j)) c a _ ⟨hs.good.world hstep, hs.step.trans hstep, hs.size, hs.defers, by rw [e2]; exact hs.low, fun t x hc => ?_, fun j hj hseg => ?_, fun b hb => ?_⟩
 ·have : ∀ n, vZ (Array.replicate ops.size false) n ≤ n := by
   intro n
   induction n with
   | zero => simp [vZ]
   | succ n ih => simp only [vZ]; split <;> omega
  exact this _
 ·rcases hc with ⟨k, g1, _⟩ | ⟨_, g2⟩
  ·exact absurd g1 (hn0 _ rfl k)
  ·rw [g2, e1]; exact hs.tmps t
 ·
  have hno : ∀ k, 0 ≤ k → k < 0 + j → ¬ Wr ann E ops k := fun k _ hk hw => absurd (hseg.1 k (by omega) hw) (hn0 _ rfl k)
  have hext := uW hr (i := 0) j (by omega) hno
  rw [Nat.zero_add] at hext
  refine (⟨fun b blk inf hb hm => ?_, hs.heap.inj⟩ : HeapAt c (h j) w) |> fun q => ⟨fun b blk inf hb hm => (q.blk b blk inf hb hm).kept (.refl c) (fun _ => rfl), q.inj⟩
  have hbl := hs.dom b (by rw [hm]; simp)
  rw [← e2] at hbl
  rw [hext b hbl, e2] at hb
  exact hs.heap.blk b blk inf hb hm
 ·have hbl := hs.dom b hb
  rw [← e2] at hbl
  refine ⟨Nat.lt_of_lt_of_le hbl (by have := gC hr (i := 0) ops.size (by omega); rwa [Nat.zero_add] at this), fun k hk g1 g2 => ?_⟩
  have := gC hr (i := 0) k (by omega)
  rw [Nat.zero_add] at this
  omega
end
inductive Ex where
 | normal
 | exit (id : Nat)
 | ret
def Ex.to : Ex → Exit
 | .normal => .normal
 | .exit id => .exit id
 | .ret => .ret
abbrev fJ := Ex × List AV × aA
abbrev vJ := Ex → TS → aA → Option fJ
mutual
def aV (n : Nat) : AV → Bool
 | .ptr b _ _ _ => decide (b < n)
 | .sl b _ _ _ _ => decide (b < n)
 | .fn _ caps => bG n caps
 | .iface _ v => aV n v
 | .agg cs => bG n cs
 | .tup vs => bG n vs
 | .ro _ xs => bG n xs
 | .rp _ x _ => aV n x
 | .undef => true
 | .bool _ => true
 | .int .. => true
 | .str _ => true
 | .nilp => true
 | .nilf => true
 | .nili => true
 | .gl _ => true
 | .gp _ => true
 | .nils => true
 | .anyb => true
 | .mp b => decide (b < n)
 | .emp => true
def bG (n : Nat) : List AV → Bool
 | [] => true
 | x :: xs => aV n x && bG n xs
end
theorem jR {α : Type} (n : Nat) (e : α → AV) (h : ∀ a, aV n (e a) = true) : ∀ xs : List α, bG n (xs.map e) = true
 | [] => rfl
 | x :: xs => by simp [bG, h x, jR n e h xs]
theorem gK {n : Nat} : ∀ {xs : List AV} (_ : bG n xs = true) {i : Nat} {x : AV} (_ : xs[i]? = some x), aV n x = true
 | [], _, _, _, hx => by simp at hx
 | y :: xs, h, i, x, hx => by
  simp only [bG, Bool.and_eq_true] at h
  cases i with
  | zero => simp at hx; subst hx; exact h.1
  | succ i => simp at hx; exact gK h.2 hx
theorem oC {n : Nat} {x : AV} (h : aV n x = true) : bG n x.cells = true := by
 cases x <;> simp_all [AV.cells, bG, aV]
def bS (n : Nat) : aA → Bool
 | [] => true
 | b :: H => bG n b.elems && bS n H
theorem lZ {n : Nat} : ∀ {H : aA} (_ : bS n H = true) {i : Nat} {b : ABlk} (_ : H[i]? = some b), bG n b.elems = true
 | [], _, _, _, hx => by simp at hx
 | y :: H, h, i, b, hx => by
  simp only [bS, Bool.and_eq_true] at h
  cases i with
  | zero => simp at hx; subst hx; exact h.1
  | succ i => simp at hx; exact lZ h.2 hx
def eF (n : Nat) (xs : List AV) (H : aA) : Option aA :=
 match bG n xs && bS n (H.take n) with
 | true => some (H.take n)
 | false => none
def Ctx.cut (c : Ctx) (n : Nat) : Ctx := { c with m := fun b => if b < n then c.m b else none }
theorem Rel.cut {c : Ctx} {n : Nat} {x : AV} {v : Value} (h : Rel c x v) : aV n x = true → Rel (c.cut n) x v := by
 have hm : ∀ b inf, b < n → c.m b = some inf → (c.cut n).m b = some inf := fun b inf hb h => by simp [Ctx.cut, hb, h]
 induction h with
 | undef v => exact fun _ => .undef v
 | bool b => exact fun _ => .bool b
 | int k n => exact fun _ => .int k n
 | str s => exact fun _ => .str s
 | nilp => exact fun _ => .nilp
 | nilf => exact fun _ => .nilf
 | nili => exact fun _ => .nili
 | fn hl _ ih => exact fun hp => .fn hl (fun i x v h1 h2 => ih i x v h1 h2 (gK (by simpa [aV] using hp) h1))
 | iface _ ih => exact fun hp => .iface (ih (by simpa [aV] using hp))
 | agg hl _ h1 ih => exact fun hp => .agg hl (fun i x v h1 h2 => ih i x v h1 h2 (gK (by simpa [aV] using hp) h1)) h1
 | tup hl _ ih => exact fun hp => .tup hl (fun i x v h1 h2 => ih i x v h1 h2 (gK (by simpa [aV] using hp) h1))
 | ptr h1 h2 h3 hz => exact fun hp => .ptr (hm _ _ (by simpa [aV] using hp) h1) h2 h3 hz
 | ptrStale a h1 h2 => exact fun hp => .ptrStale a (hm _ _ (by simpa [aV] using hp) h1) h2
 | sl h1 h2 h3 h4 h5 h6 h7 h8 hz => exact fun hp => .sl (hm _ _ (by simpa [aV] using hp) h1) h2 h3 h4 h5 h6 h7 h8 hz
 | slVirt h1 h2 h3 h4 => exact fun hp => .slVirt (hm _ _ (by simpa [aV] using hp) h1) h2 h3 h4
 | slStale a c' h1 h2 h3 h4 => exact fun hp => .slStale a c' (hm _ _ (by simpa [aV] using hp) h1) h2 h3 h4
 | ro hn hcap ha hA hsz _ hmm ih =>
  intro hp
  refine .ro hn hcap ha hA hsz (fun i x j y h1 h2 => ih i x j y h1 h2 ?_) (fun i x j y h1 h2 => by
   rename_i bor _ _ _ _ _ _ _
   have := hmm i x j y h1 h2
   cases bor <;> exact this)
  exact gK (oC (gK (by simpa [aV] using hp) h1)) h2
 | rp _ hmm ih =>
  intro hp
  refine .rp (fun j y h1 => ih j y h1 ?_) (fun j y h1 => by
   rename_i bor _ _ _ _ _
   have := hmm j y h1
   cases bor <;> exact this)
  exact gK (oC (by simpa [aV] using hp)) h1
 | gl g => exact fun _ => .gl g
 | gp h => exact fun _ => .gp h
 | nils => exact fun _ => .nils
 | anyb b => exact fun _ => .anyb b
 | mp h1 h2 h3 => exact fun hp => .mp (hm _ _ (by simpa [aV] using hp) h1) h2 h3
 | emp a => exact fun _ => .emp a
theorem aAR {c : Ctx} {n k : Nat} (h : (c.cut n).own k) : c.own k := by
 obtain ⟨b, i, hb, hv, hk⟩ := h
 by_cases hbn : b < n
 ·simp [Ctx.cut, hbn] at hb; exact ⟨b, i, hb, hv, hk⟩
 ·simp [Ctx.cut, hbn] at hb
theorem Good.cut {G : aC} {c : Ctx} {w : World} (hg : Good G c w) (hG : ∀ g x, G g = some x → bP x = true) (n : Nat) : Good G (c.cut n) w := by
 refine ⟨hg.holds, hg.MB, fun k hk a ha => hg.away k (aAR hk) a ha, hg.sent, fun g a h hk => hg.sentAway g a h (aAR hk), hg.sentApart, fun g x h => ?_, fun k hk => hg.bound k (aAR hk), hg.tab⟩
 obtain ⟨v, h1, h2⟩ := hg.glob g x h
 exact ⟨v, h1, Rel.plain (c := c) (c' := c.cut n) (fun _ _ h => h) (fun _ _ h => h) rfl h2 (hG g x h)⟩
theorem HeapAt.cut {c : Ctx} {H : aA} {w : World} (hH : HeapAt c H w) {n : Nat} (hb : bS n (H.take n) = true) : HeapAt (c.cut n) (H.take n) w := by
 refine ⟨fun b blk inf h1 h2 => ?_, fun b b' i i' h1 h2 v1 v2 he => ?_⟩
 ·have hbn : b < n := by
   by_cases q : b < n
   ·exact q
   ·simp [Ctx.cut, q] at h2
  simp [Ctx.cut, hbn] at h2
  have h1' : H[b]? = some blk := by rw [List.getElem?_take, if_pos hbn] at h1; exact h1
  have hB0 := hH.blk b blk inf h1' h2
  refine ⟨hB0.len, fun hz => ?_, fun hz => ?_⟩
  ·have hB := hB0.cb hz
   refine ⟨hB.ty, hB.sz, hB.pos, hB.len, hB.fits, hB.virt, hB.big, hB.real, fun hv i x hx => ⟨(hB.cells hv i x hx).1, fun j y hy => ?_⟩⟩
   obtain ⟨v, g1, g2, g3⟩ := (hB.cells hv i x hx).2 j y hy
   exact ⟨v, g1, g2.cut (gK (oC (gK (lZ hb h1) hx)) hy), g3⟩
  ·have hB := hB0.mp hz
   obtain ⟨es, clock, r1, r2, r3⟩ := hB.real
   refine ⟨hB.ty, hB.sz, hB.virt, hB.len, es, clock, r1, r2, fun i x hx => ?_⟩
   have hbx := gK (lZ hb h1) hx
   rcases r3 i x hx with ⟨a, b⟩ | ⟨j, v, a, b⟩
   ·exact .inl ⟨a, b.cut hbx⟩
   ·exact .inr ⟨j, v, a, b.cut hbx⟩
 ·by_cases q : b < n
  ·by_cases q' : b' < n
   ·simp [Ctx.cut, q] at h1; simp [Ctx.cut, q'] at h2; exact hH.inj b b' i i' h1 h2 v1 v2 he
   ·simp [Ctx.cut, q'] at h2
  ·simp [Ctx.cut, q] at h1
theorem Step.cut {c0 c : Ctx} {w0 w : World} (hs : Step c0 w0 c w) {n : Nat} (hl : ∀ b, c0.m b ≠ none → b < n) : Step c0 w0 (c.cut n) w := by
 refine ⟨⟨fun b inf hb => ?_, hs.le.M, hs.le.B, hs.le.S⟩, hs.os, hs.tape, hs.output, hs.size, hs.kept, fun b i hb hv hlt => by
   by_cases q : b < n
   ·simp [Ctx.cut, q] at hb; exact hs.fresh b i hb hv hlt
   ·simp [Ctx.cut, q] at hb, hs.newM, hs.newB⟩
 obtain ⟨i, h1, h2⟩ := hs.le.m b inf hb
 have hbn := hl b (by rw [hb]; simp)
 exact ⟨i, by simp [Ctx.cut, hbn, h1], h2⟩
def aG (xs : List AV) : Nat → AV
 | 0 => match xs with
  | x :: _ => x
  | [] => .undef
 | i + 1 => match xs with
  | _ :: xs => aG xs i
  | [] => .undef
theorem aDI : ∀ (i : Nat) (xs : List AV), aG xs i = (xs[i]?).getD .undef
 | 0, xs => by cases xs <;> rfl
 | i + 1, [] => rfl
 | i + 1, _ :: xs => by simpa [aG] using aDI i xs
def aCC : List Nat → Nat → Option Nat
 | [], _ => none
 | k :: ks, t => if t = k then some 0 else match aCC ks t with
  | some i => some (i + 1)
  | none => none
def yO (ks : List Nat) (xs : List AV) (t : Nat) : AV :=
 match aCC ks t with
 | some i => aG xs i
 | none => .undef
theorem aAj : ∀ {ks : List Nat} {t i : Nat} (_ : aCC ks t = some i), ks[i]? = some t
 | [], t, i, h => by simp [aCC] at h
 | k :: ks, t, i, h => by
  simp only [aCC] at h
  split at h
  ·rename_i e; simp at h; subst h; simp [e]
  ·split at h
   ·rename_i j hj
    simp at h; subst h
    simpa using aAj hj
   ·cases h
theorem aHU (ks : List Nat) (T : TS) (t : Nat) : yO ks (ks.map T) t = T t ∨ yO ks (ks.map T) t = .undef := by
 unfold yO
 split
 ·rename_i i hi
  left
  rw [aDI, List.getElem?_map, aAj hi]; rfl
 ·exact .inr rfl
theorem aHV (ks : List Nat) (xs : List AV) (t : Nat) : yO ks xs t = .undef ∨ ∃ i : Nat, xs[i]? = some (yO ks xs t) := by
 unfold yO
 split
 ·rename_i i hi
  rw [aDI]
  cases h : xs[i]? with
  | none => exact .inl rfl
  | some x => exact .inr ⟨i, by simp [h]⟩
 ·exact .inl rfl
theorem St.kept {G : aC} {c0 : Ctx} {w0 : World} {N B : Nat} {T : TS} {H : aA} {c : Ctx} {a : Act} {w : World} (h : St G c0 w0 N B T H c a w) (ks : List Nat) : St G c0 w0 N B (yO ks (ks.map T)) H c a w :=
 ⟨h.good, h.heap, h.dom, h.step, fun t => by rcases aHU ks T t with e | e <;> rw [e]; exact h.tmps t; exact .undef _, h.size, h.defers, h.low⟩
theorem St.cut {G : aC} {c0 : Ctx} {w0 : World} {N B : Nat} {ks : List Nat} {xs : List AV} {H H' : aA} {c : Ctx} {a : Act} {w : World} (hG : ∀ g x, G g = some x → bP x = true)
  (h : St G c0 w0 N B (yO ks xs) H c a w) {n : Nat} (hc : eF n xs H = some H') (hl : ∀ b, c0.m b ≠ none → b < n) (hn : n ≤ H.length) : St G c0 w0 N n (yO ks xs) H' (c.cut n) a w ∧ H'.length = n := by
 unfold eF at hc
 split at hc
 case h_2 => cases hc
 rename_i hb
 simp only [Bool.and_eq_true] at hb
 simp at hc; subst hc
 refine ⟨⟨h.good.cut hG n, h.heap.cut hb.2, fun b hb' => ?_, h.step.cut hl, fun t => ?_, h.size, h.defers, by simp [hn]⟩, by simp [hn]⟩
 ·have hbn : b < n := by
   by_cases q : b < n
   ·exact q
   ·simp [Ctx.cut, q] at hb'
  simp [Ctx.cut, hbn] at hb'
  have := h.dom b (by simpa using hb')
  simp; omega
 ·refine (h.tmps t).cut ?_
  rcases aHV ks xs t with e | ⟨i, e⟩
  ·rw [e]; rfl
  ·exact gK hb.1 e
mutual
def jL (x y : AV) : Bool :=
 match x with
 | .undef => match y with | .undef => true | _ => false
 | .bool a => match y with | .bool b => a == b | _ => false
 | .int k n => match y with | .int k' n' => decide (k = k') && decide (n = n') | _ => false
 | .nilp => match y with | .nilp => true | _ => false
 | .nilf => match y with | .nilf => true | _ => false
 | .nili => match y with | .nili => true | _ => false
 | .nils => match y with | .nils => true | _ => false
 | .anyb => match y with | .anyb => true | _ => false
 | .gl g => match y with | .gl g' => Nat.beq g g' | _ => false
 | .gp g => match y with | .gp g' => Nat.beq g g' | _ => false
 | .mp g => match y with | .mp g' => Nat.beq g g' | _ => false
 | .emp => match y with | .emp => true | _ => false
 | .ptr b L i o => match y with | .ptr b' L' i' o' => Nat.beq b b' && Nat.beq L L' && Nat.beq i i' && Nat.beq o o' | _ => false
 | .sl b L o n z => match y with | .sl b' L' o' n' z' => Nat.beq b b' && Nat.beq L L' && Nat.beq o o' && Nat.beq n n' && Nat.beq z z' | _ => false
 | .agg cs => match y with | .agg ds => nV cs ds | _ => false
 | .tup cs => match y with | .tup ds => nV cs ds | _ => false
 | .ro b cs => match y with | .ro b' ds => b == b' && nV cs ds | _ => false
 | .iface t v => match y with | .iface t' v' => Nat.beq t t' && jL v v' | _ => false
 | _ => false
def nV (xs ys : List AV) : Bool :=
 match xs with
 | [] => match ys with | [] => true | _ => false
 | x :: xs => match ys with | y :: ys => jL x y && nV xs ys | [] => false
end
mutual
theorem aEu : ∀ {x y : AV}, jL x y = true → x = y
 | .undef, y, h => by unfold jL at h; split at h <;> simp_all
 | .bool a, y, h => by unfold jL at h; split at h <;> simp_all
 | .int k n, y, h => by unfold jL at h; split at h <;> simp_all
 | .nilp, y, h => by unfold jL at h; split at h <;> simp_all
 | .nilf, y, h => by unfold jL at h; split at h <;> simp_all
 | .nili, y, h => by unfold jL at h; split at h <;> simp_all
 | .nils, y, h => by unfold jL at h; split at h <;> simp_all
 | .anyb, y, h => by unfold jL at h; split at h <;> simp_all
 | .gl g, y, h => by unfold jL at h; split at h <;> simp_all
 | .gp g, y, h => by unfold jL at h; split at h <;> simp_all
 | .mp g, y, h => by unfold jL at h; split at h <;> simp_all
 | .emp, y, h => by unfold jL at h; split at h <;> simp_all
 | .ptr .., y, h => by unfold jL at h; split at h <;> simp_all
 | .sl .., y, h => by unfold jL at h; split at h <;> simp_all
 | .agg cs, y, h => by
  unfold jL at h
  split at h
  ·rw [pG h]
  ·cases h
 | .tup cs, y, h => by
  unfold jL at h
  split at h
  ·rw [pG h]
  ·cases h
 | .ro b cs, y, h => by
  unfold jL at h
  split at h
  ·simp only [Bool.and_eq_true, beq_iff_eq] at h
   rw [h.1, pG h.2]
  ·cases h
 | .iface t v, y, h => by
  unfold jL at h
  split at h
  ·simp only [Bool.and_eq_true] at h
   rw [Nat.eq_of_beq_eq_true h.1, aEu h.2]
  ·cases h
 | .str _, y, h => by unfold jL at h; cases h
 | .fn .., y, h => by unfold jL at h; cases h
 | .rp .., y, h => by unfold jL at h; cases h
theorem pG : ∀ {xs ys : List AV}, nV xs ys = true → xs = ys
 | [], ys, h => by unfold nV at h; split at h <;> simp_all
 | x :: xs, ys, h => by
  unfold nV at h
  split at h
  ·simp only [Bool.and_eq_true] at h
   rw [aEu h.1, pG h.2]
  ·cases h
end
def aCg : aA → aA → Bool
 | [], ys => match ys with | [] => true | _ => false
 | x :: xs, ys => match ys with
  | y :: ys => Nat.beq x.ty y.ty && Nat.beq x.sz y.sz && nV x.elems y.elems && aCg xs ys
  | [] => false
theorem aEv : ∀ {xs ys : aA}, aCg xs ys = true → xs = ys
 | [], ys, h => by unfold aCg at h; split at h <;> simp_all
 | x :: xs, ys, h => by
  unfold aCg at h
  split at h
  ·rename_i y ys
   simp only [Bool.and_eq_true] at h
   obtain ⟨⟨⟨h1, h2⟩, h3⟩, h4⟩ := h
   obtain ⟨a, b, d⟩ := x
   obtain ⟨a', b', d'⟩ := y
   simp only at h1 h2 h3
   rw [Nat.eq_of_beq_eq_true h1, Nat.eq_of_beq_eq_true h2, pG h3, aEv h4]
  ·cases h
def aHA (a b : Ex) : Bool :=
 match a with
 | .normal => match b with | .normal => true | _ => false
 | .ret => match b with | .ret => true | _ => false
 | .exit i => match b with | .exit j => Nat.beq i j | _ => false
theorem aHB {a b : Ex} (h : aHA a b = true) : a = b := by
 unfold aHA at h
 (repeat' split at h) <;> simp_all
def aEp (x y : Option fJ) : Option fJ :=
 match x with
 | some (e, xs, H) => match y with
  | some (e', xs', H') => match aHA e e' && nV xs xs' && aCg H H' with
   | true => some (e, xs, H)
   | false => none
  | none => none
 | none => none
theorem aBU {x y : Option fJ} {out : fJ} (h : aEp x y = some out) : x = some out ∧ y = some out := by
 unfold aEp at h
 split at h
 case h_2 => cases h
 split at h
 case h_2 => cases h
 split at h
 case h_2 => cases h
 rename_i hc
 simp only [Bool.and_eq_true] at hc
 rw [← aHB hc.1.1, ← pG hc.1.2, ← aEv hc.2]
 exact ⟨h, h⟩
def bK (c : AV) (x y : Option fJ) : Option fJ :=
 match c with
 | .bool b => match b with
  | true => x
  | false => y
 | .anyb => aEp x y
 | _ => none
def sG (q : AV × Nat × Nat × Nat) (H : aA) : aA :=
 match q with
 | (p, o, e, s) => match p with
  | .ptr b _ i _ => match H[b]? with
   | some blk => match blk.elems[i]? with
    | some x => match x.cells[o]? with
     | some y => match y with
      | .nils => match decide (0 < s) && decide (0 < blk.sz) with
       | true => H.set b { blk with elems := blk.elems.set i (kN x (x.cells.set o (.sl H.length 0 0 0 s))) } ++ [{ ty := e, sz := s, elems := [] }]
       | false => H
      | _ => H
     | none => H
    | none => H
   | none => H
  | _ => H
def jK (b o e s : Nat) : List Nat → aA → aA
 | [], H => H
 | i :: l, H => jK b o e s l (sG (.ptr b 0 i 0, o, e, s) H)
def aDp (b i o : Nat) (H : aA) : AV :=
 match H[b]? with
 | some blk => match blk.elems[i]? with
  | some x => match x.cells[o]? with
   | some y => y
   | none => .undef
  | none => .undef
 | none => .undef
def qB (q : AV × Nat × Nat × Nat) (H : aA) : aA :=
 match q with
 | (p, o, e, s) => match p with
  | .sl b _ o' n _ => jK b o e s (List.range' o' n) H
  | .ptr b L i o' => match aDp b i o H with
   | .sl b2 _ o2 n2 _ => jK b2 0 e s (List.range' o2 n2) H
   | _ => sG (.ptr b L i o', o, e, s) H
  | p => sG (p, o, e, s) H
def vR (b e s : Nat) (H : aA) : aA :=
 match H[b]? with
 | some blk => match decide (0 < s) && decide (blk.sz = 0) with
  | true => H.set b { blk with elems := blk.elems ++ [.sl H.length 0 0 0 s] } ++ [{ ty := e, sz := s, elems := [] }]
  | false => H
 | none => H
def lK (b e s : Nat) : Nat → aA → aA
 | 0, H => H
 | n + 1, H => lK b e s n (vR b e s H)
def qN (q : AV × AV × Nat × Nat × Nat) (H : aA) : aA :=
 match q with
 | (m, cnt, o, e, s) => match m with
  | .mp b => match cnt.cells[o]? with
   | some y => match y with
    | .int _ n => lK b e s n.toNat H
    | _ => H
   | none => H
  | _ => H
def vM {γ : Type} : List (AV × AV × Nat × Nat × Nat) → aA → (aA → Option γ) → Option γ
 | [], H, k => k H
 | q :: l, H, k => vM l (qN q H) k
def vK {γ : Type} : List (AV × Nat × Nat × Nat) → aA → (aA → Option γ) → Option γ
 | [], H, k => k H
 | q :: l, H, k => vK l (qB q H) k
theorem pA {G : aC} {c : Ctx} {H : aA} {w : World} (hg : Good G c w) (hH : HeapAt c H w) (hd : uP c H) (q : AV × Nat × Nat × Nat) :
  ∃ c', Step c w c' w ∧ Good G c' w ∧ HeapAt c' (sG q H) w ∧ uP c' (sG q H) ∧ H.length ≤ (sG q H).length := by
 have same : ∃ c', Step c w c' w ∧ Good G c' w ∧ HeapAt c' H w ∧ uP c' H ∧ H.length ≤ H.length := ⟨c, .refl c w, hg, hH, hd, Nat.le_refl _⟩
 unfold sG
 split
 rename_i p o e s
 split
 case h_2 => exact same
 rename_i b _ i _
 split
 case h_2 => exact same
 rename_i blk hb
 split
 case h_2 => exact same
 rename_i x hx
 split
 case h_2 => exact same
 rename_i y hy
 split
 case h_2 => exact same
 split
 case h_2 => exact same
 rename_i hs
 simp only [Bool.and_eq_true, decide_eq_true_eq] at hs
 obtain ⟨hs0, hbz⟩ := hs
 have hn : c.m H.length = none := by
  cases hq : c.m H.length with
  | none => rfl
  | some i => exact absurd (hd H.length (by rw [hq]; simp)) (Nat.lt_irrefl _)
 let inf : Info := ⟨0, 0, e, s, 0, true⟩
 have hle := Ctx.push_le (inf := inf) hn
 have hown : ∀ k, (c.push H.length inf).own k → c.own k := fun k hk => by
  rcases Ctx.push_own hk with h | ⟨h, _⟩
  ·exact h
  ·simp [inf] at h
 have hstep : Step c w (c.push H.length inf) w := ⟨hle, rfl, rfl, rfl, Nat.le_refl _, fun _ _ _ => rfl, fun b i hb hv hlt => by
   by_cases e1 : b = H.length
   ·simp [Ctx.push, e1] at hb; subst hb; simp [inf] at hv
   ·simp [Ctx.push, e1] at hb; exact ⟨i, hb, hv, rfl⟩, fun _ _ h => .inl h, fun _ _ h => .inl h⟩
 have hrel : Rel (c.push H.length inf) (.sl H.length 0 0 0 s) (.slice none 0 0) := .slVirt (inf := inf) (by simp [Ctx.push]) rfl rfl rfl
 have hbl : b < H.length := (List.getElem?_eq_some_iff.1 hb).1
 refine ⟨c.push H.length inf, hstep, hg.step hstep hg.holds hg.MB (fun k hk a ha => hg.away k (hown k hk) a ha) (fun k hk => hg.bound k (hown k hk)), ⟨fun b' blk' i' hb' hm => ?_, fun b1 b2 i1 i2 h1 h2 v1 v2 he => ?_⟩, fun b' hb' => ?_, by simp⟩
 ·by_cases e1 : b' = H.length
  ·subst e1
   simp [Ctx.push] at hm; subst hm
   rw [List.getElem?_append_right (by simp)] at hb'
   simp at hb'; subst hb'
   exact CBlk.to ⟨rfl, rfl, hs0, rfl, by simp, fun _ => rfl, by simp [inf], by simp [inf], by simp [inf]⟩
  ·simp [Ctx.push, e1] at hm
   have hlt : b' < H.length := hd b' (by rw [hm]; simp)
   rw [List.getElem?_append_left (by simpa using hlt)] at hb'
   by_cases e2 : b' = b
   ·subst e2
    rw [List.getElem?_set_self hbl] at hb'
    obtain rfl := Option.some.inj hb'
    have hB := (hH.blk _ _ _ hb hm).cb (by
     rcases Nat.eq_zero_or_pos i'.sz with q | q
     ·have := ((hH.blk _ _ _ hb hm).mp q).sz; omega
     ·exact q)
    have hil : i < blk.elems.length := (List.getElem?_eq_some_iff.1 hx).1
    refine CBlk.to ⟨hB.ty, hB.sz, hB.pos, by simpa using hB.len, by simpa using hB.fits, hB.virt, hB.big, hB.real, fun hv k z hz => ?_⟩
    by_cases hki : k = i
    ·subst hki
     rw [List.getElem?_set_self hil] at hz
     obtain rfl := Option.some.inj hz
     obtain ⟨g1, g2⟩ := hB.cells hv k x hx
     have hone : ∀ (j : Nat) (z : AV), x.cells[j]? = some z → z.cells = [z] := fun j z hz => by
      obtain ⟨v, _, r, o1⟩ := g2 j z hz
      exact iW r o1
     have hcells : (kN x (x.cells.set o (.sl H.length 0 0 0 s))).cells = x.cells.set o (.sl H.length 0 0 0 s) := by
      refine sA (by simp) (fun y hy => ?_)
      rcases List.mem_or_eq_of_mem_set hy with h1 | rfl
      ·obtain ⟨j, hj⟩ := List.mem_iff_getElem?.1 h1
       exact .inl (hone j y hj)
      ·exact .inl rfl
     rw [hcells]
     refine ⟨by simpa using g1, fun j z hz => ?_⟩
     by_cases hjo : j = o
     ·subst hjo
      have hol : j < x.cells.length := (List.getElem?_eq_some_iff.1 hy).1
      rw [List.getElem?_set_self hol] at hz
      obtain rfl := Option.some.inj hz
      obtain ⟨v, r1, r2, r3⟩ := g2 j _ hy
      obtain rfl := r2.of_nils
      exact ⟨_, r1, hrel, r3⟩
     ·rw [List.getElem?_set_ne (Ne.symm hjo)] at hz
      obtain ⟨v, r1, r2, r3⟩ := g2 j z hz
      exact ⟨v, r1, r2.mono hle, r3⟩
    ·rw [List.getElem?_set_ne (Ne.symm hki)] at hz
     obtain ⟨g1, g2⟩ := hB.cells hv k z hz
     refine ⟨g1, fun j u hu => ?_⟩
     obtain ⟨v, r1, r2, r3⟩ := g2 j u hu
     exact ⟨v, r1, r2.mono hle, r3⟩
   ·rw [List.getElem?_set_ne (Ne.symm e2)] at hb'
    exact (hH.blk b' blk' i' hb' hm).kept hle (fun _ => rfl)
 ·by_cases e1 : b1 = H.length
  ·simp [Ctx.push, e1] at h1; subst h1; simp [inf] at v1
  ·by_cases e2 : b2 = H.length
   ·simp [Ctx.push, e2] at h2; subst h2; simp [inf] at v2
   ·simp [Ctx.push, e1] at h1; simp [Ctx.push, e2] at h2
    exact hH.inj b1 b2 i1 i2 h1 h2 v1 v2 he
 ·by_cases e1 : b' = H.length
  ·simp [e1]
  ·simp [Ctx.push, e1] at hb'
   have := hd b' (by simpa using hb')
   simp; omega
def VOk (G : aC) (c : Ctx) (H H' : aA) (w : World) : Prop := ∃ c', Step c w c' w ∧ Good G c' w ∧ HeapAt c' H' w ∧ uP c' H' ∧ H.length ≤ H'.length
theorem mC {G : aC} {b o e s : Nat} {w : World} : ∀ (l : List Nat) {H : aA} {c : Ctx} (hg : Good G c w) (hH : HeapAt c H w) (hd : uP c H), VOk G c H (jK b o e s l H) w
 | [], H, c, hg, hH, hd => ⟨c, .refl c w, hg, hH, hd, Nat.le_refl _⟩
 | i :: l, H, c, hg, hH, hd => by
  obtain ⟨c1, h1, h2, h3, h4, h5⟩ := pA hg hH hd (.ptr b 0 i 0, o, e, s)
  obtain ⟨c2, g1, g2, g3, g4, g5⟩ := mC (b := b) (o := o) (e := e) (s := s) l h2 h3 h4
  exact ⟨c2, h1.trans g1, g2, g3, g4, Nat.le_trans h5 g5⟩
theorem aDb {G : aC} {c : Ctx} {H : aA} {w : World} (hg : Good G c w) (hH : HeapAt c H w) (hd : uP c H) (q : AV × Nat × Nat × Nat) : VOk G c H (qB q H) w := by
 unfold qB
 split
 split
 ·exact mC _ hg hH hd
 ·split
  ·exact mC _ hg hH hd
  ·exact pA hg hH hd _
 ·exact pA hg hH hd _
theorem aAw {G : aC} {c : Ctx} {H : aA} {w : World} (hg : Good G c w) (hH : HeapAt c H w) (hd : uP c H) (b e s : Nat) : VOk G c H (vR b e s H) w := by
 have same : VOk G c H H w := ⟨c, .refl c w, hg, hH, hd, Nat.le_refl _⟩
 unfold vR
 split
 case h_2 => exact same
 rename_i blk hb
 split
 case h_2 => exact same
 rename_i hs
 simp only [Bool.and_eq_true, decide_eq_true_eq] at hs
 obtain ⟨hs0, hbz⟩ := hs
 have hbl : b < H.length := (List.getElem?_eq_some_iff.1 hb).1
 let inf : Info := ⟨0, 0, e, s, 0, true⟩
 have hn : c.m H.length = none := by
  cases hq : c.m H.length with
  | none => rfl
  | some i => exact absurd (hd H.length (by rw [hq]; simp)) (Nat.lt_irrefl _)
 obtain ⟨c1, hle1, hown1, hm1, hfr, hb1, hM1, hB1, hS1⟩ : ∃ c1 : Ctx, c.le c1 ∧ (∀ k, c1.own k → c.own k) ∧ (∀ b', b' ≠ b → c1.m b' = c.m b') ∧
   (∀ b' i, c1.m b' = some i → ∃ i0, c.m b' = some i0 ∧ i0.virt = i.virt ∧ i0.idx = i.idx) ∧
   (∀ i1, c1.m b = some i1 → ∃ ib, c.m b = some ib ∧ i1 = { ib with len := ib.len + 1 } ∧ MBlk c ib blk w) ∧ c1.M = c.M ∧ c1.B = c.B ∧ c1.S = c.S := by
  cases hm : c.m b with
  | none => exact ⟨c, .refl c, fun _ h => h, fun _ _ => rfl, fun b' i h => ⟨i, h, rfl, rfl⟩, fun i1 h => (by rw [hm] at h; cases h), rfl, rfl, rfl⟩
  | some ib =>
   have hz : ib.sz = 0 := by
    rcases Nat.eq_zero_or_pos ib.sz with q | q
    ·exact q
    ·have h1 := (hH.blk _ _ _ hb hm).cb q
     have := h1.pos; omega
   have hMb := (hH.blk _ _ _ hb hm).mp hz
   refine ⟨c.upd b { ib with len := ib.len + 1 }, Ctx.upd_le hm rfl (by simp) (by simp) (fun _ => ⟨rfl, rfl⟩), fun k hk => ?_, fun b' hb' => by simp [Ctx.upd, hb'], fun b' i h => ?_, fun i1 h => ?_, rfl, rfl, rfl⟩
   ·rcases Ctx.upd_own hk with ⟨b', i, _, h1, h2, h3⟩ | ⟨h1, h2⟩
    ·exact ⟨b', i, h1, h2, h3⟩
    ·exact ⟨b, ib, hm, h1, h2⟩
   ·by_cases q : b' = b
    ·subst q; simp [Ctx.upd] at h; subst h; exact ⟨ib, hm, rfl, rfl⟩
    ·simp [Ctx.upd, q] at h; exact ⟨i, h, rfl, rfl⟩
   ·simp [Ctx.upd] at h; subst h; exact ⟨ib, rfl, rfl, hMb⟩
 have hn1 : c1.m H.length = none := by rw [hm1 _ (by omega)]; exact hn
 have hle := hle1.trans (Ctx.push_le (inf := inf) hn1)
 have hown : ∀ k, (c1.push H.length inf).own k → c.own k := fun k hk => by
  rcases Ctx.push_own hk with h | ⟨h, _⟩
  ·exact hown1 k h
  ·simp [inf] at h
 have hpb : (c1.push H.length inf).B = c.B := hB1
 have hpm : (c1.push H.length inf).M = c.M := hM1
 have hstep : Step c w (c1.push H.length inf) w := ⟨hle, rfl, rfl, rfl, Nat.le_refl _, fun _ _ _ => rfl, fun b' i hb' hv hlt => by
   by_cases e1 : b' = H.length
   ·simp [Ctx.push, e1] at hb'; subst hb'; simp [inf] at hv
   ·simp [Ctx.push, e1] at hb'
    obtain ⟨i0, a1, a2, a3⟩ := hfr b' i hb'
    exact ⟨i0, a1, by rw [a2]; exact hv, a3⟩, fun a v h => .inl (by rw [hpm] at h; exact h), fun a v h => .inl (by rw [hpb] at h; exact h)⟩
 have hrel : Rel (c1.push H.length inf) (.sl H.length 0 0 0 s) (.slice none 0 0) := .slVirt (inf := inf) (by simp [Ctx.push]) rfl rfl rfl
 refine ⟨c1.push H.length inf, hstep, hg.step hstep (fun a v h => hg.holds a v (by rw [hpb] at h; exact h)) (fun a v h => by rw [hpb]; rw [hpm] at h; exact hg.MB a v h) (fun k hk a ha => by rw [hpb]; exact hg.away k (hown k hk) a ha) (fun k hk => hg.bound k (hown k hk)),
  ⟨fun b' blk' i' hb' hm => ?_, fun b1 b2 i1 i2 h1 h2 v1 v2 he => ?_⟩, fun b' hb' => ?_, by simp⟩
 ·by_cases e1 : b' = H.length
  ·subst e1
   simp [Ctx.push] at hm; subst hm
   rw [List.getElem?_append_right (by simp)] at hb'
   simp at hb'; subst hb'
   exact CBlk.to ⟨rfl, rfl, hs0, rfl, by simp, fun _ => rfl, by simp [inf], by simp [inf], by simp [inf]⟩
  ·simp [Ctx.push, e1] at hm
   have hlt : b' < H.length := by
    obtain ⟨i0, a1, _⟩ := hfr b' i' hm
    exact hd b' (by rw [a1]; simp)
   rw [List.getElem?_append_left (by simpa using hlt)] at hb'
   by_cases e2 : b' = b
   ·subst e2
    rw [List.getElem?_set_self hbl] at hb'
    obtain rfl := Option.some.inj hb'
    obtain ⟨ib, q1, rfl, hMb⟩ := hb1 _ hm
    obtain ⟨es, clock, r1, r2, r3⟩ := hMb.real
    have hsz0 : ib.sz = 0 := by rw [hMb.sz]; exact hbz
    refine ⟨by simp [hMb.len], fun q => by simp only at q; omega, fun _ => ⟨hMb.ty, hMb.sz, hMb.virt, by simp [hMb.len], es, clock, r1, fun e he => ?_, fun i x hx => ?_⟩⟩
    ·obtain ⟨k, k1, k2⟩ := r2 e he
     exact ⟨k, by simp; omega, k2⟩
    ·by_cases hi : i < blk.elems.length
     ·rw [List.getElem?_append_left hi] at hx
      rcases r3 i x hx with ⟨a, b⟩ | ⟨j, v, a, b⟩
      ·exact .inl ⟨a, b.mono hle⟩
      ·exact .inr ⟨j, v, a, b.mono hle⟩
     ·rw [List.getElem?_append_right (by omega)] at hx
      have hi0 : i - blk.elems.length = 0 := by
       have := (List.getElem?_eq_some_iff.1 hx).1
       simp at this; omega
      rw [hi0] at hx
      simp at hx; subst hx
      refine .inl ⟨qZ es.toList 0 (fun e he => ?_), hrel⟩
      obtain ⟨k, k1, k2⟩ := r2 e he
      exact ⟨k, k2, by omega⟩
   ·rw [List.getElem?_set_ne (Ne.symm e2)] at hb'
    rw [hm1 _ e2] at hm
    exact (hH.blk b' blk' i' hb' hm).kept hle (fun _ => rfl)
 ·by_cases e1 : b1 = H.length
  ·simp [Ctx.push, e1] at h1; subst h1; simp [inf] at v1
  ·by_cases e2 : b2 = H.length
   ·simp [Ctx.push, e2] at h2; subst h2; simp [inf] at v2
   ·simp [Ctx.push, e1] at h1; simp [Ctx.push, e2] at h2
    obtain ⟨j1, a1, a2, a3⟩ := hfr b1 i1 h1
    obtain ⟨j2, d1, d2, d3⟩ := hfr b2 i2 h2
    exact hH.inj b1 b2 j1 j2 a1 d1 (by rw [a2]; exact v1) (by rw [d2]; exact v2) (by rw [a3, d3]; exact he)
 ·by_cases e1 : b' = H.length
  ·simp [e1]
  ·simp [Ctx.push, e1] at hb'
   cases hq : c1.m b' with
   | none => exact absurd hq (by simpa using hb')
   | some i =>
    obtain ⟨i0, a1, _⟩ := hfr b' i hq
    have := hd b' (by rw [a1]; simp)
    simp; omega
theorem pS {G : aC} {b e s : Nat} {w : World} : ∀ (n : Nat) {H : aA} {c : Ctx} (hg : Good G c w) (hH : HeapAt c H w) (hd : uP c H), VOk G c H (lK b e s n H) w
 | 0, H, c, hg, hH, hd => ⟨c, .refl c w, hg, hH, hd, Nat.le_refl _⟩
 | n + 1, H, c, hg, hH, hd => by
  obtain ⟨c1, h1, h2, h3, h4, h5⟩ := aAw hg hH hd b e s
  obtain ⟨c2, g1, g2, g3, g4, g5⟩ := pS (b := b) (e := e) (s := s) n h2 h3 h4
  exact ⟨c2, h1.trans g1, g2, g3, g4, Nat.le_trans h5 g5⟩
theorem aBx {G : aC} {c : Ctx} {H : aA} {w : World} (hg : Good G c w) (hH : HeapAt c H w) (hd : uP c H) (q : AV × AV × Nat × Nat × Nat) : VOk G c H (qN q H) w := by
 have same : VOk G c H H w := ⟨c, .refl c w, hg, hH, hd, Nat.le_refl _⟩
 unfold qN
 split
 split
 case h_2 => exact same
 split
 case h_2 => exact same
 split
 case h_2 => exact same
 exact pS _ hg hH hd
theorem aDa {γ : Type} {G : aC} {c0 : Ctx} {w0 : World} {N B : Nat} {T : TS} {a : Act} {w : World} {k : aA → Option γ} {out : γ} : ∀ (l : List (AV × AV × Nat × Nat × Nat)) {H : aA} {c : Ctx}, vM l H k = some out → St G c0 w0 N B T H c a w →
  ∃ c' H', k H' = some out ∧ H.length ≤ H'.length ∧ St G c0 w0 N B T H' c' a w
 | [], H, c, h, hs => ⟨c, H, h, Nat.le_refl _, hs⟩
 | q :: l, H, c, h, hs => by
  simp only [vM] at h
  obtain ⟨c1, h1, h2, h3, h4, h5⟩ := aBx hs.good hs.heap hs.dom q
  obtain ⟨c2, H2, g1, g2, g3⟩ := aDa l h ⟨h2, h3, h4, hs.step.trans h1, fun t => (hs.tmps t).mono h1.le, hs.size, hs.defers, Nat.le_trans hs.low h5⟩
  exact ⟨c2, H2, g1, Nat.le_trans h5 g2, g3⟩
theorem aCY {γ : Type} {G : aC} {c0 : Ctx} {w0 : World} {N B : Nat} {T : TS} {a : Act} {w : World} {k : aA → Option γ} {out : γ} : ∀ (l : List (AV × Nat × Nat × Nat)) {H : aA} {c : Ctx}, vK l H k = some out → St G c0 w0 N B T H c a w →
  ∃ c' H', k H' = some out ∧ H.length ≤ H'.length ∧ St G c0 w0 N B T H' c' a w
 | [], H, c, h, hs => ⟨c, H, h, Nat.le_refl _, hs⟩
 | q :: l, H, c, h, hs => by
  simp only [vK] at h
  obtain ⟨c1, h1, h2, h3, h4, h5⟩ := aDb hs.good hs.heap hs.dom q
  obtain ⟨c2, H2, g1, g2, g3⟩ := aCY l h ⟨h2, h3, h4, hs.step.trans h1, fun t => (hs.tmps t).mono h1.le, hs.size, hs.defers, Nat.le_trans hs.low h5⟩
  exact ⟨c2, H2, g1, Nat.le_trans h5 g2, g3⟩
def gX (n : Nat) (xs : List AV) (H : aA) (k : aA → Option fJ) : Option fJ :=
 match eF n xs H with
 | some H0 => k H0
 | none => none
def iJ {γ : Type} (e : Ex) (a : γ) (b : Nat → γ) (r : γ) : γ :=
 match e with
 | .normal => a
 | .exit id => b id
 | .ret => r
abbrev dO := List AV → aA → Option fJ
def cC (step : dO → dO) : Nat → dO
 | 0 => fun _ _ => none
 | n + 1 => step (cC step n)
def aGv (g : Bool) (n0 : Nat) (ks : List Nat) (body : vJ → TS → aA → Option fJ) (self : dO) : dO := fun xs H =>
 match g with
 | true => body (fun e T' H' => match e with
   | .normal => self (ks.map T') H'
   | .exit id => some (.exit id, ks.map T', H')
   | .ret => some (.ret, ks.map T', H')) (yO ks xs) H
 | false => gX n0 xs H fun H0 => body (fun e T' H' => match e with
   | .normal => self (ks.map T') H'
   | .exit id => some (.exit id, ks.map T', H')
   | .ret => some (.ret, ks.map T', H')) (yO ks xs) H0
def aDC (g : Bool) (n0 : Nat) (ks : List Nat) (body : vJ → TS → aA → Option fJ) (n : Nat) : dO := cC (aGv g n0 ks body) n
theorem aAa (g : Bool) (n0 : Nat) (ks : List Nat) (body : vJ → TS → aA → Option fJ) (xs : List AV) (H : aA) : aDC g n0 ks body 0 xs H = none := rfl
def aJO (g : Bool) (n0 : Nat) (xs : List AV) (H : aA) : Option aA :=
 match g with
 | true => some H
 | false => eF n0 xs H
theorem zZ (g : Bool) (n0 : Nat) (ks : List Nat) (body : vJ → TS → aA → Option fJ) (n : Nat) (xs : List AV) (H : aA) : aDC g n0 ks body (n + 1) xs H = match aJO g n0 xs H with
  | some H0 => body (fun e T' H' => match e with
   | .normal => aDC g n0 ks body n (ks.map T') H'
   | .exit id => some (.exit id, ks.map T', H')
   | .ret => some (.ret, ks.map T', H')) (yO ks xs) H0
  | none => none := by cases g <;> rfl
def dW (r : Option fJ) (k : Ex → List AV → aA → Option fJ) : Option fJ :=
 match r with
 | some (e, xs, H) => k e xs H
 | none => none
def iZ : Code → Nat
 | .region id _ _ => id
 | .seq a b => match a with
  | .skip => iZ b
  | a => iZ a
 | .cond _ a _ => iZ a
 | .block _ b => iZ b
 | .loop b => iZ b
 | .scope b => iZ b
 | _ => 0
def inl (P : Program) (ann : Ann) (o : Oper) (T : TS) : Option AV :=
 match o.guard with
 | some _ => none
 | none => match o.op with
  | .move x => (match nE x && sV ann o.dst with | true => none | false => some (gN T x))
  | .assign x => (match nE x && sV ann o.dst with | true => none | false => some (gN T x))
  | .makeInterface t x => aAZ P t (gN T x)
  | .makeFunc fn first captured => match fn with
   | .func f => match first.toList with
    | [] => some (.fn f (captured.toList.map (gN T)))
    | _ => none
   | _ => none
  | _ => none
theorem aGs {P : Program} {G : aC} {E : nT} {ann : Ann} {ops : Array Oper} {o : Oper} {T : TS} {H : aA} {v : AV} (h : inl P ann o T = some v) : jJ P G E ann ops o T H = some (v, H) := by
 unfold inl at h
 split at h
 ·cases h
 rename_i hg
 unfold jJ
 rw [hg]
 simp only
 unfold tY
 split at h
 ·rename_i ho
  rw [ho]
  unfold pZ
  simp only
  split at h <;> rename_i he
  ·cases h
  ·simp at h; subst h; rw [he]
 ·rename_i ho
  rw [ho]
  unfold pZ
  simp only
  split at h <;> rename_i he
  ·cases h
  ·simp at h; subst h; rw [he]
 ·rename_i ho
  rw [ho]
  simp only [pu, h]
 ·rename_i ho
  rw [ho]
  split at h
  ·split at h <;> rename_i he
   ·simp at h; subst h; simp only [he]
   ·cases h
  ·cases h
 ·cases h
def aHh {γ : Type} (P : Program) (G : aC) (E : nT) (ann : Ann) (ops : Array Oper) : List Oper → (TS → aA → Option γ) → TS → aA → Option γ
 | [], K, T, H => K T H
 | o :: l, K, T, H => match inl P ann o T with
  | some v => aHh P G E ann ops l K (uS T o.dst v) H
  | none => aE (jJ P G E ann ops o T H) fun v H' => aHh P G E ann ops l K (uS T o.dst v) H'
theorem vE {γ : Type} (P : Program) (G : aC) (E : nT) (ann : Ann) (ops : Array Oper) : ∀ (l : List Oper) (K : TS → aA → Option γ) (T : TS) (H : aA), aHh P G E ann ops l K T H = kO P G E ann ops l K T H
 | [], K, T, H => rfl
 | o :: l, K, T, H => by
  simp only [aHh, kO]
  split
  ·rename_i v hv
   rw [aGs hv, vE]; rfl
  ·congr 1
   funext v H'
   exact vE P G E ann ops l K _ H'
def iR (P : Program) (G : aC) (E : nT) (ann : Ann) (n : Nat) : Code → vJ → TS → aA → Option fJ
 | .skip, K, T, H => K .normal T H
 | .region _ ops draw, K, T, H => aHh P G E ann ops ops.toList (fun T H => match draw with
   | true => grd (aFV T (mN ops)) (K .normal T H)
   | false => K .normal T H) T H
 | .seq a b, K, T, H => match ann.join (iZ b) with
  | none => iR P G E ann n a (fun e T H => match e with
    | .normal => iR P G E ann n b K T H
    | .exit id => K (.exit id) T H
    | .ret => K .ret T H) T H
  | some ks => dW (iR P G E ann n a (fun e T H => some (e, ks.map T, H)) T H) (fun e xs H => match e with
    | .normal => iR P G E ann n b K (yO ks xs) H
    | .exit id => K (.exit id) (yO ks xs) H
    | .ret => K .ret (yO ks xs) H)
 | .cond c a b, K, T, H => bK (gN T c) (iR P G E ann n a K T H) (iR P G E ann n b K T H)
 | .block id b, K, T, H => iR P G E ann n b (fun e T H => match e with
   | .normal => K .normal T H
   | .exit i => if i = id then K .normal T H else K (.exit i) T H
   | .ret => K .ret T H) T H
 | .loop b, K, T, H => vM ((ann.virtM (iZ b)).map fun q => (T q.1, T q.2.1, q.2.2)) H fun H => vK ((ann.virt (iZ b)).map fun q => (T q.1, q.2)) H fun H => dW (aDC (ann.grow (iZ b)) H.length (ann.keep (iZ b)) (iR P G E ann n b) n ((ann.keep (iZ b)).map T) H) (fun e xs H => match e with
    | .normal => none
    | .exit id => K (.exit id) (yO (ann.keep (iZ b)) xs) H
    | .ret => K .ret (yO (ann.keep (iZ b)) xs) H)
 | .scope b, K, T, H => iR P G E ann n b K T H
 | .exit id, K, T, H => K (.exit id) T H
 | .label _, K, T, H => K .normal T H
 | .ret, K, T, H => K .ret T H
 | _, _, _, _ => none
def iH (ann : Ann) (pf : Nat → Bool) (N : Nat) : Code → Bool
 | .region _ ops draw => ops.toList.all (fun o => match o.dst with | some d => decide (d < N) | none => true) && (!draw || xD ann pf ops)
 | .seq a b => iH ann pf N a && iH ann pf N b
 | .cond _ a b => iH ann pf N a && iH ann pf N b
 | .block _ b => iH ann pf N b
 | .loop b => iH ann pf N b
 | .scope b => iH ann pf N b
 | .rangeFunc .. => false
 | _ => true
theorem aBA {P : Program} {c : Code} {Q : Exit → Act → World → Prop} (I : Nat → Act → World → Prop)
  (round : ∀ n a w, I n a w → c.wp P (Exit.then (fun a' w' => ∃ m, m < n ∧ I m a' w') Q) a w) {n : Nat} {a : Act} {w : World} (h0 : I n a w) : (Code.loop c).wp P Q a w := by
 intro b k cs
 have key : ∀ n a w, I n a w → ∃ e a' w', Q e a' w' ∧ Arrives P (lone (b.at a (.code c :: .inLoop c :: k)) cs w) b k cs e a' w' := by
  intro n
  induction n using Nat.strongRecOn with
  | _ n ih =>
   intro a w hI
   obtain ⟨e, a₁, w₁, hq, harr⟩ := round n a w hI b (.inLoop c :: k) cs
   cases e with
   | normal =>
    obtain ⟨m, hm, hI₁⟩ := hq
    obtain ⟨e₂, a₂, w₂, hq₂, harr₂⟩ := ih m hm a₁ w₁ hI₁
    exact ⟨e₂, a₂, w₂, hq₂, .of_steps (Steps.trans harr (.one step_inLoop)) harr₂⟩
   | exit id => exact ⟨_, a₁, w₁, hq, .pass (x := .inLoop c) rfl (fun _ _ => .inl (by simp)) harr⟩
   | goto l => exact ⟨_, a₁, w₁, hq, .pass (x := .inLoop c) rfl (fun _ _ => .inl (by simp)) harr⟩
   | ret => exact ⟨_, a₁, w₁, hq, .pass (x := .inLoop c) rfl (fun _ _ => .inl (by simp)) harr⟩
   | panic ch => exact ⟨_, a₁, w₁, hq, .pass (x := .inLoop c) rfl (fun _ _ => .inl (by simp)) harr⟩
   | outgrown => exact ⟨_, a₁, w₁, hq, .pass (x := .inLoop c) rfl (fun _ _ => .inl (by simp)) harr⟩
 obtain ⟨e, a', w', hq, harr⟩ := key n a w h0
 exact ⟨e, a', w', hq, .of_steps (.one step_loop) harr⟩
section
variable {P : Program} {G : aC} {E : nT} {ann : Ann} {c0 : Ctx} {w0 : World} {N : Nat}
theorem St.weak {B B' : Nat} {T : TS} {H : aA} {c : Ctx} {a : Act} {w : World} (h : St G c0 w0 N B T H c a w) (hB : B' ≤ H.length) : St G c0 w0 N B' T H c a w :=
 ⟨h.good, h.heap, h.dom, h.step, h.tmps, h.size, h.defers, hB⟩
def QK (G : aC) (c0 : Ctx) (w0 : World) (N B : Nat) (K : vJ) (out : fJ) (Q : Exit → Act → World → Prop) : Prop :=
 ∀ e T H c a w, K e T H = some out → St G c0 w0 N B T H c a w → Q e.to a w
def aJK (P : Program) (G : aC) (E : nT) (ann : Ann) (c0 : Ctx) (w0 : World) (N n : Nat) (code : Code) : Prop :=
 ∀ (B : Nat) (K : vJ) (T : TS) (H : aA) (out : fJ) (c : Ctx) (a : Act) (w : World) (Q : Exit → Act → World → Prop), (∀ b, c0.m b ≠ none → b < B) →
  iR P G E ann n code K T H = some out → St G c0 w0 N B T H c a w → QK G c0 w0 N B K out Q → code.wp P Q a w
theorem aFv {n : Nat} {b : Code} (hb : aJK P G E ann c0 w0 N n b) (hG : ∀ g x, G g = some x → bP x = true) {g : Bool} {n0 : Nat} (hl : ∀ b, c0.m b ≠ none → b < n0) {ks : List Nat} {e : Ex} {ys : List AV} {H1 : aA}
  {Q : Exit → Act → World → Prop} (hq : ∀ c a w, St G c0 w0 N n0 (yO ks ys) H1 c a w → Q e.to a w) (hen : e ≠ .normal) {m : Nat} {xs : List AV} {H : aA} {c : Ctx} {a : Act} {w : World}
  (hi : aDC g n0 ks (iR P G E ann n b) m xs H = some (e, ys, H1)) (hs : St G c0 w0 N n0 (yO ks xs) H c a w) : (Code.loop b).wp P Q a w := by
 refine aBA (fun m a w => ∃ xs H c, aDC g n0 ks (iR P G E ann n b) m xs H = some (e, ys, H1) ∧ St G c0 w0 N n0 (yO ks xs) H c a w) ?_ ⟨xs, H, c, hi, hs⟩
 intro m a w ⟨xs, H, c, hi, hs⟩
 cases m with
 | zero => simp [aAa] at hi
 | succ m =>
  simp only [zZ] at hi
  split at hi
  case h_2 => cases hi
  rename_i H0 hcut
  obtain ⟨c0', hs0⟩ : ∃ c', St G c0 w0 N n0 (yO ks xs) H0 c' a w := by
   cases g with
   | true => simp only [aJO, Option.some.injEq] at hcut; subst hcut; exact ⟨c, hs⟩
   | false => exact ⟨_, (hs.cut hG hcut hl hs.low).1⟩
  refine hb n0 _ _ _ _ _ _ _ _ hl hi hs0 ?_
  intro e' T' H' c' a' w' hk hs'
  cases e' with
  | normal => exact ⟨m, by omega, ks.map T', H', c', hk, hs'.kept ks⟩
  | exit id =>
   simp only [Option.some.injEq, Prod.mk.injEq] at hk
   obtain ⟨rfl, rfl, rfl⟩ := hk
   exact hq _ _ _ (hs'.kept ks)
  | ret =>
   simp only [Option.some.injEq, Prod.mk.injEq] at hk
   obtain ⟨rfl, rfl, rfl⟩ := hk
   exact hq _ _ _ (hs'.kept ks)
theorem nO {n : Nat} {b : Code} {g : Bool} {n0 : Nat} {ks : List Nat} {ys : List AV} {H1 : aA} (hx : ∀ (K : vJ) T H out, iR P G E ann n b K T H = some out → ∃ e T' H', K e T' H' = some out) :
  ∀ (m : Nat) (xs : List AV) (H : aA), aDC g n0 ks (iR P G E ann n b) m xs H ≠ some (.normal, ys, H1)
 | 0, xs, H, hi => by simp [aAa] at hi
 | m + 1, xs, H, hi => by
  simp only [zZ] at hi
  split at hi
  case h_2 => cases hi
  obtain ⟨e, T', H', hk⟩ := hx _ _ _ _ hi
  cases e with
  | normal => exact nO hx m _ _ hk
  | exit id => simp at hk
  | ret => simp at hk
theorem sB {γ : Type} {ops : Array Oper} {K : TS → aA → Option γ} {out : γ} : ∀ {l : List Oper} {T : TS} {H : aA}, kO P G E ann ops l K T H = some out → ∃ T' H', K T' H' = some out
 | [], T, H, h => ⟨T, H, h⟩
 | o :: l, T, H, h => by
  simp only [kO, aE] at h
  split at h
  ·exact sB h
  ·cases h
theorem aCZ {γ : Type} {k : aA → Option γ} {out : γ} : ∀ (l : List (AV × AV × Nat × Nat × Nat)) {H : aA}, vM l H k = some out → ∃ H', k H' = some out
 | [], H, h => ⟨H, h⟩
 | q :: l, H, h => aCZ l (by simpa only [vM] using h)
theorem aCX {γ : Type} {k : aA → Option γ} {out : γ} : ∀ (l : List (AV × Nat × Nat × Nat)) {H : aA}, vK l H k = some out → ∃ H', k H' = some out
 | [], H, h => ⟨H, h⟩
 | q :: l, H, h => aCX l (by simpa only [vK] using h)
theorem aDu (n : Nat) : ∀ (code : Code) (K : vJ) (T : TS) (H : aA) (out : fJ), iR P G E ann n code K T H = some out → ∃ e T' H', K e T' H' = some out := by
 intro code
 induction code with
 | skip => exact fun K T H out h => ⟨_, _, _, h⟩
 | region id ops draw =>
   intro K T H out h
   simp only [iR, vE] at h
   obtain ⟨T', H', h'⟩ := sB h
   cases draw with
   | true => exact ⟨_, T', H', (wI h').1⟩
   | false => exact ⟨_, T', H', h'⟩
 | seq x y ihx ihy =>
  intro K T H out h
  simp only [iR] at h
  split at h
  ·obtain ⟨e, T', H', h'⟩ := ihx _ _ _ _ h
   cases e with
   | normal => exact ihy _ _ _ _ h'
   | exit id => exact ⟨_, _, _, h'⟩
   | ret => exact ⟨_, _, _, h'⟩
  ·unfold dW at h
   split at h
   case h_2 => cases h
   rename_i e xs H' _
   cases e with
   | normal => exact ihy _ _ _ _ h
   | exit id => exact ⟨_, _, _, h⟩
   | ret => exact ⟨_, _, _, h⟩
 | cond c x y ihx ihy =>
  intro K T H out h
  simp only [iR] at h
  unfold bK at h
  split at h
  ·split at h
   ·exact ihx _ _ _ _ h
   ·exact ihy _ _ _ _ h
  ·exact ihx _ _ _ _ (aBU h).1
  ·cases h
 | block id b ih =>
  intro K T H out h
  simp only [iR] at h
  obtain ⟨e, T', H', h'⟩ := ih _ _ _ _ h
  cases e with
  | normal => exact ⟨_, _, _, h'⟩
  | exit i =>
   simp only at h'
   split at h'
   ·exact ⟨_, _, _, h'⟩
   ·exact ⟨_, _, _, h'⟩
  | ret => exact ⟨_, _, _, h'⟩
 | loop b ih =>
  intro K T H out h
  simp only [iR] at h
  obtain ⟨H, h⟩ := aCZ _ h
  obtain ⟨H, h⟩ := aCX _ h
  unfold dW at h
  split at h
  case h_2 => cases h
  rename_i e xs H' _
  cases e with
  | normal => cases h
  | exit id => exact ⟨_, _, _, h⟩
  | ret => exact ⟨_, _, _, h⟩
 | scope b ih => exact fun K T H out h => ih _ _ _ _ h
 | exit id => exact fun K T H out h => ⟨_, _, _, h⟩
 | label l => exact fun K T H out h => ⟨_, _, _, h⟩
 | ret => exact fun K T H out h => ⟨_, _, _, h⟩
 | rangeFunc f ps a b _ _ => exact fun K T H out h => by simp [iR] at h
 | goto l => exact fun K T H out h => by simp [iR] at h
 | refuse why => exact fun K T H out h => by simp [iR] at h
theorem zQ (hE : EnvSound P G E) (hm : P.follows .mixedOrders = true) (n : Nat) : ∀ (code : Code), iH ann (eO E) N code = true → aJK P G E ann c0 w0 N n code := by
 intro code
 induction code with
 | skip => exact fun _ B K T H out c a w Q hB h hs hQ => wp_skip (hQ .normal _ _ _ _ _ h hs)
 | region id ops draw =>
  intro hok B K T H out c a w Q hB h hs hQ
  simp only [iH, Bool.and_eq_true] at hok
  have hdst : ∀ (i : Nat) (o : Oper) (t : Nat), ops[i]? = some o → o.dst = some t → t < N := by
   intro i o t ho ht
   have := List.all_eq_true.1 hok.1 o (List.mem_of_getElem? (i := i) (by simpa using ho))
   simpa [ht] using this
  simp only [iR, vE] at h
  cases draw with
  | false => exact aCO hE hdst (fun T H c a w hk hs' => hQ .normal T H c a w hk hs') h hs
  | true => exact aCN hm (by simpa using hok.2) hE hdst (fun T H c a w hk hs' => hQ .normal T H c a w hk hs') h hs
 | seq x y ihx ihy =>
  intro hok B K T H out c a w Q hB h hs hQ
  simp only [iH, Bool.and_eq_true] at hok
  refine wp_seq ?_
  simp only [iR] at h
  split at h
  ·refine ihx hok.1 B _ _ _ _ _ _ _ _ hB h hs ?_
   intro e T' H' c' a' w' hk hs'
   cases e with
   | normal => exact ihy hok.2 B _ _ _ _ _ _ _ _ hB hk hs' hQ
   | exit id => exact hQ (.exit id) _ _ _ _ _ hk hs'
   | ret => exact hQ .ret _ _ _ _ _ hk hs'
  ·rename_i ks _
   unfold dW at h
   split at h
   case h_2 => cases h
   rename_i e xs H1 h1
   refine ihx hok.1 B _ _ _ _ _ _ _ _ hB h1 hs ?_
   intro e' T' H' c' a' w' hk hs'
   simp only [Option.some.injEq, Prod.mk.injEq] at hk
   obtain ⟨rfl, rfl, rfl⟩ := hk
   cases e' with
   | normal => exact ihy hok.2 B _ _ _ _ _ _ _ _ hB h (hs'.kept ks) hQ
   | exit id => exact hQ (.exit id) _ _ _ _ _ h (hs'.kept ks)
   | ret => exact hQ .ret _ _ _ _ _ h (hs'.kept ks)
 | cond cc x y ihx ihy =>
  intro hok B K T H out c a w Q hB h hs hQ
  simp only [iH, Bool.and_eq_true] at hok
  simp only [iR] at h
  have hr : Rel c (gN T cc) (a.eval cc) := aBm (fun t _ => hs.tmps t)
  unfold bK at h
  split at h
  ·rename_i b hb
   rw [hb] at hr
   cases b with
   | true => exact wp_cond_true hr.of_bool (ihx hok.1 B _ _ _ _ _ _ _ _ hB h hs hQ)
   | false => exact wp_cond_false hr.of_bool (ihy hok.2 B _ _ _ _ _ _ _ _ hB h hs hQ)
  ·rename_i hb
   rw [hb] at hr
   obtain ⟨h1, h2⟩ := aBU h
   obtain ⟨b, hb'⟩ := hr.of_anyb
   cases b with
   | true => exact wp_cond_true hb' (ihx hok.1 B _ _ _ _ _ _ _ _ hB h1 hs hQ)
   | false => exact wp_cond_false hb' (ihy hok.2 B _ _ _ _ _ _ _ _ hB h2 hs hQ)
  ·cases h
 | block id b ih =>
  intro hok B K T H out c a w Q hB h hs hQ
  simp only [iH] at hok
  simp only [iR] at h
  refine wp_block (ih hok B _ _ _ _ _ _ _ _ hB h hs ?_)
  intro e T' H' c' a' w' hk hs'
  cases e with
  | normal => exact hQ .normal _ _ _ _ _ hk hs'
  | exit i =>
   simp only [Ex.to, Exit.inBlock] at hk ⊢
   split at hk
   ·rename_i hi; rw [if_pos hi]; exact hQ .normal _ _ _ _ _ hk hs'
   ·rename_i hi; rw [if_neg hi]; exact hQ (.exit i) _ _ _ _ _ hk hs'
  | ret => exact hQ .ret _ _ _ _ _ hk hs'
 | loop b ih =>
  intro hok B K T H out c a w Q hB h hs hQ
  simp only [iH] at hok
  simp only [iR] at h
  obtain ⟨c, H, h, -, hs⟩ := aDa _ h hs
  obtain ⟨c, H, h, -, hs⟩ := aCY _ h hs
  unfold dW at h
  split at h
  case h_2 => cases h
  rename_i e xs H1 h1
  replace h : K e (yO (ann.keep (iZ b)) xs) H1 = some out := by
   cases e with
   | normal => cases h
   | exit i => exact h
   | ret => exact h
  have hBH : B ≤ H.length := hs.low
  refine aFv (n0 := H.length) (ih hok) hE.glob (fun b hb => Nat.lt_of_lt_of_le (hB b hb) hBH) (fun c' a' w' hs' => hQ e _ _ _ _ _ h (hs'.weak (Nat.le_trans hBH hs'.low))) ?_ h1 ((hs.kept _).weak (Nat.le_refl _))
  rintro rfl
  exact nO (aDu n b) _ _ _ h1
 | scope b ih =>
  intro hok B K T H out c a w Q hB h hs hQ
  simp only [iH] at hok
  simp only [iR] at h
  refine wp_scope_straight (ih hok B _ _ _ _ _ _ _ _ hB h hs ?_)
  intro e T' H' c' a' w' hk hs'
  cases e with
  | normal => exact hQ .normal _ _ _ _ _ hk hs'
  | exit i => exact hQ (.exit i) _ _ _ _ _ hk hs'
  | ret => exact hQ .ret _ _ _ _ _ hk hs'
 | exit id => exact fun _ B K T H out c a w Q hB h hs hQ => wp_exit (hQ (.exit id) _ _ _ _ _ h hs)
 | label l => exact fun _ B K T H out c a w Q hB h hs hQ => wp_label (hQ .normal _ _ _ _ _ h hs)
 | ret => exact fun _ B K T H out c a w Q hB h hs hQ => wp_ret (hQ .ret _ _ _ _ _ h hs)
 | rangeFunc f ps a b _ _ => exact fun _ B K T H out c a w Q hB h hs hQ => by simp [iR] at h
 | goto l => exact fun _ B K T H out c a w Q hB h hs hQ => by simp [iR] at h
 | refuse why => exact fun _ B K T H out c a w Q hB h hs hQ => by simp [iR] at h
end
def nG (f : AV → Option AV) : List AV → Option (List AV)
 | [] => some []
 | x :: xs => match f x, nG f xs with
  | some y, some ys => some (y :: ys)
  | _, _ => none
def nM (f : AV → Option AV) (x : AV) : Option AV :=
 match x with
 | .agg cs => match nG f cs with
  | some zs => some (.agg zs)
  | none => none
 | x => f x
def lO (H : aA) (n0 : Nat) : Nat → AV → Option AV
 | 0, v => match aV n0 v with
  | true => some v
  | false => none
 | d + 1, v => match aV n0 v with
  | true => some v
  | false => match v with
   | .sl b L o n sz => match fN (.sl b L o n sz) H with
    | some ys => match jB sz ys with
     | true => match nG (nM (lO H n0 d)) ys with
      | some zs => some (.ro false zs)
      | none => none
     | false => none
    | none => none
   | .ptr b L i o => match H[b]? with
    | some blk => if blk.elems.length = L then (match blk.elems[i]? with
     | some y => match nM (lO H n0 d) y with
      | some z => some (.rp false z o)
      | none => none
     | none => none) else none
    | none => none
   | .agg cs => match nG (lO H n0 d) cs with
    | some zs => some (.agg zs)
    | none => none
   | .tup vs => match nG (lO H n0 d) vs with
    | some zs => some (.tup zs)
    | none => none
   | .iface t x => match lO H n0 d x with
    | some z => some (.iface t z)
    | none => none
   | _ => none
theorem oQ {f : AV → Option AV} : ∀ {xs ys : List AV} (_ : nG f xs = some ys), xs.length = ys.length ∧ ∀ (i : Nat) (y : AV), ys[i]? = some y → ∃ x, xs[i]? = some x ∧ f x = some y
 | [], ys, h => by simp [nG] at h; subst h; exact ⟨rfl, fun i y h => by simp at h⟩
 | x :: xs, ys, h => by
  simp only [nG] at h
  split at h
  ·rename_i y ys' h1 h2
   simp at h; subst h
   obtain ⟨g1, g2⟩ := oQ h2
   refine ⟨by simp [g1], fun i z hz => ?_⟩
   cases i with
   | zero => simp at hz; subst hz; exact ⟨x, rfl, h1⟩
   | succ i => simp at hz; obtain ⟨u, e1, e2⟩ := g2 i z hz; exact ⟨u, by simpa using e1, e2⟩
  ·cases h
noncomputable def Ctx.lock (c : Ctx) (w : World) (n0 : Nat) : Ctx :=
 open Classical in
 {m := fun b => if b < n0 then c.m b else none
  M := fun a => if ∃ b inf, n0 ≤ b ∧ c.m b = some inf ∧ inf.virt = false ∧ inf.idx = a.block then w.cell? a else c.M a
  B := fun a => if ∃ b inf, n0 ≤ b ∧ c.m b = some inf ∧ inf.virt = false ∧ inf.idx = a.block then w.cell? a else c.B a
  S := c.S }
theorem uZ {G : aC} {c : Ctx} {w : World} (hg : Good G c w) (n0 : Nat) : (c.cut n0).le (c.lock w n0) := by
 have no : ∀ a v, c.B a = some v → ¬ ∃ b inf, n0 ≤ b ∧ c.m b = some inf ∧ inf.virt = false ∧ inf.idx = a.block := by
  rintro a v h ⟨b, inf, _, h1, h2, h3⟩
  rw [hg.away _ ⟨b, inf, h1, h2, h3⟩ a rfl] at h; cases h
 refine ⟨fun b i h => ⟨i, h, rfl, Nat.le_refl _, fun _ => rfl, fun _ => ⟨rfl, rfl⟩⟩, fun a v h => ?_, fun a v h => ?_, rfl⟩
 ·simp only [Ctx.lock]; rw [if_neg (no a v (hg.MB _ _ h))]; exact h
 ·simp only [Ctx.lock]; rw [if_neg (no a v h)]; exact h
theorem wU {c : Ctx} {w : World} {n0 k : Nat} (h : (c.lock w n0).own k) : ∃ b inf, b < n0 ∧ c.m b = some inf ∧ inf.virt = false ∧ inf.idx = k := by
 obtain ⟨b, i, hb, hv, hk⟩ := h
 by_cases q : b < n0
 ·simp [Ctx.lock, q] at hb; exact ⟨b, i, q, hb, hv, hk⟩
 ·simp [Ctx.lock, q] at hb
theorem aFx {G : aC} {c : Ctx} {H : aA} {w : World} (hg : Good G c w) (hH : HeapAt c H w) (hG : ∀ g x, G g = some x → bP x = true) (n0 : Nat) : Good G (c.lock w n0) w := by
 have hle := uZ hg n0
 have hc := hg.cut hG n0
 refine ⟨fun a v h => ?_, fun a v h => ?_, fun k hk a ha => ?_, hg.sent, fun g a h hk => ?_, hg.sentApart, fun g x h => ?_, fun k hk => ?_, hg.tab⟩
 ·simp only [Ctx.lock] at h
  split at h
  ·exact h
  ·exact hg.holds a v h
 ·simp only [Ctx.lock] at h ⊢
  split at h
  ·rename_i q; rw [if_pos q]; exact h
  ·rename_i q; rw [if_neg q]; exact hg.MB _ _ h
 ·obtain ⟨b, i, q, hb, hv, hki⟩ := wU hk
  have hno : ¬ ∃ b inf, n0 ≤ b ∧ c.m b = some inf ∧ inf.virt = false ∧ inf.idx = a.block := by
   rintro ⟨b', i', q', hb', hv', hk'⟩
   have := hH.inj b b' i i' hb hb' hv hv' (by omega)
   omega
  simp only [Ctx.lock]
  rw [if_neg hno]
  exact hg.away k ⟨b, i, hb, hv, hki⟩ a ha
 ·obtain ⟨b, i, q, hb, hv, hki⟩ := wU hk
  exact hg.sentAway g a h ⟨b, i, hb, hv, hki⟩
 ·obtain ⟨v, h1, h2⟩ := hc.glob g x h
  exact ⟨v, hle.M _ _ h1, h2.mono hle⟩
 ·obtain ⟨b, i, q, hb, hv, hki⟩ := wU hk
  exact hg.bound k ⟨b, i, hb, hv, hki⟩
theorem aFy {G : aC} {c0 c : Ctx} {w0 w : World} (hg : Good G c w) (hs : Step c0 w0 c w) {n0 : Nat} (hl : ∀ b, c0.m b ≠ none → b < n0) : Step c0 w0 (c.lock w n0) w := by
 have hcut := hs.cut hl
 have hle := uZ hg n0
 refine ⟨hcut.le.trans hle, hs.os, hs.tape, hs.output, hs.size, hs.kept, fun b i hb hv hlt => ?_, fun a v h => ?_, fun a v h => ?_⟩
 ·by_cases q : b < n0
  ·simp [Ctx.lock, q] at hb; exact hs.fresh b i hb hv hlt
  ·simp [Ctx.lock, q] at hb
 all_goals
  simp only [Ctx.lock] at h
  split at h
  ·rename_i q
   obtain ⟨b, i, q1, q2, q3, q4⟩ := q
   right
   rcases Nat.lt_or_ge i.idx w0.heap.size with z | z
   ·obtain ⟨i0, e1, _⟩ := hs.fresh b i q2 q3 z
    have := hl b (by rw [e1]; simp)
    omega
   ·omega
 ·exact hs.newM a v h
 ·exact hs.newB a v h
theorem tP {c cf : Ctx} {f : AV → Option AV} (hf : ∀ y z u, f y = some z → Rel c y u → Rel cf z u) {x z : AV} (hx : nM f x = some z) {V : Nat → Value}
  (hc : ∀ (j : Nat) (y : AV), x.cells[j]? = some y → Rel c y (V j) ∧ (V j).oneCell' = true) :
  z.cells.length = x.cells.length ∧ ∀ (j : Nat) (y : AV), z.cells[j]? = some y → Rel cf y (V j) ∧ (V j).oneCell' = true := by
 unfold nM at hx
 split at hx
 ·rename_i cs
  split at hx
  case h_2 => cases hx
  rename_i zs hz
  simp at hx; subst hx
  obtain ⟨g1, g2⟩ := oQ hz
  refine ⟨by simp [AV.cells, g1], fun j y hy => ?_⟩
  obtain ⟨y0, e1, e2⟩ := g2 j y hy
  obtain ⟨r1, r2⟩ := hc j y0 e1
  exact ⟨hf _ _ _ e2 r1, r2⟩
 ·rename_i hna
  have h1 : x.cells = [x] := by cases x <;> first | rfl | exact absurd rfl (hna _)
  obtain ⟨r1, r2⟩ := hc 0 x (by rw [h1]; rfl)
  have rz := hf _ _ _ hx r1
  have h2 := iW rz r2
  refine ⟨by rw [h1, h2]; rfl, fun j y hy => ?_⟩
  rw [h2] at hy
  cases j with
  | zero => simp at hy; subst hy; exact ⟨rz, r2⟩
  | succ j => simp at hy
theorem aFr {G : aC} {c : Ctx} {H : aA} {w : World} (hg : Good G c w) (hH : HeapAt c H w) (n0 : Nat) : ∀ (d : Nat) (x z : AV) (u : Value), lO H n0 d x = some z → Rel c x u → Rel (c.lock w n0) z u := by
 have low : ∀ x u, aV n0 x = true → Rel c x u → Rel (c.lock w n0) x u := fun x u hb hr => (hr.cut hb).mono (uZ hg n0)
 have cell : ∀ (b : Nat) (inf : Info) (a : Addr), n0 ≤ b → c.m b = some inf → inf.virt = false → inf.idx = a.block → (c.lock w n0).M a = w.cell? a := fun b inf a h1 h2 h3 h4 => by
  simp only [Ctx.lock]; rw [if_pos ⟨b, inf, h1, h2, h3, h4⟩]
 intro d
 induction d with
 | zero =>
  intro x z u h hr
  simp only [lO] at h
  split at h
  ·rename_i hb; simp at h; subst h; exact low _ _ hb hr
  ·cases h
 | succ d ih =>
  intro x z u h hr
  simp only [lO] at h
  split at h
  ·rename_i hb; simp at h; subst h; exact low _ _ hb hr
  rename_i hb
  split at h
  ·
   rename_i b L o n sz
   simp [aV] at hb
   split at h
   case h_2 => cases h
   rename_i ys hys
   split at h
   case h_2 => cases h
   rename_i hall
   split at h
   case h_2 => cases h
   rename_i zs hzs
   simp at h; subst h
   obtain ⟨g1, g2⟩ := oQ hzs
   have hys' := hys
   simp only [fN] at hys'
   split at hys'
   case h_2 => cases hys'
   rename_i blk hblk
   split at hys'
   case isFalse => cases hys'
   rename_i hL
   simp at hys'
   cases hr with
   | slStale a cap' hm hl hnc ha => have := hH.valid hblk hm; omega
   | slVirt hm hl hv hs1 =>
    have hy0 : ys = [] := by rw [← hys']; simp
    subst hy0
    have : zs = [] := List.eq_nil_of_length_eq_zero (by rw [← g1]; rfl)
    subst this; exact .roNil ..
   | sl hm hl hv hs1 ho hcap hnc ha hz =>
    rename_i inf a cap'
    have hB := (hH.blk _ _ _ hblk hm).cb hz
    have hylen : ys.length = n := by rw [← hys']; simp; omega
    by_cases hn0 : n = 0
    ·subst hn0
     have : zs = [] := List.eq_nil_of_length_eq_zero (by rw [← g1]; exact hylen)
     subst this; exact .roNil ..
    ·have ha' : a = ⟨inf.idx, o * sz, none⟩ := by
      rcases ha with h1 | ⟨h1, _⟩
      ·exact h1
      ·omega
     subst ha'
     have yget : ∀ (i : Nat) (y : AV), ys[i]? = some y → blk.elems[o + i]? = some y := by
      intro i y hy
      rw [← hys', List.getElem?_take] at hy
      split at hy
      ·rwa [List.getElem?_drop] at hy
      ·cases hy
     have hbs : inf.sz = sz := hs1
     have V : ∀ (i : Nat) (y : AV), ys[i]? = some y → ∀ (j : Nat) (q : AV), y.cells[j]? = some q → Rel c q ((w.cell? ⟨inf.idx, o * sz + i * sz + j, none⟩).getD default) ∧ ((w.cell? ⟨inf.idx, o * sz + i * sz + j, none⟩).getD default).oneCell' = true ∧
       w.cell? ⟨inf.idx, o * sz + i * sz + j, none⟩ = some ((w.cell? ⟨inf.idx, o * sz + i * sz + j, none⟩).getD default) := by
      intro i y hy j q hq
      obtain ⟨v, e1, e2, e3⟩ := hB.at hv (yget i y hy) j q hq
      rw [hbs, Nat.add_mul] at e1
      rw [e1]; exact ⟨e2, e3, rfl⟩
     have hyy : ∀ y ∈ ys, y.cells.length = sz := fun y hy => by have := List.all_eq_true.1 hall y hy; simpa using this
     have el : ∀ (i : Nat) (z : AV), zs[i]? = some z → z.cells.length = sz ∧ ∀ (j : Nat) (q : AV), z.cells[j]? = some q → Rel (c.lock w n0) q ((w.cell? ⟨inf.idx, o * sz + i * sz + j, none⟩).getD default) ∧ ((w.cell? ⟨inf.idx, o * sz + i * sz + j, none⟩).getD default).oneCell' = true ∧ ∃ y, ys[i]? = some y ∧ j < y.cells.length := by
      intro i z hz
      obtain ⟨y, e1, e2⟩ := g2 i z hz
      obtain ⟨l1, l2⟩ := tP (cf := c.lock w n0) (fun y z u h hr => ih y z u h hr) e2 (V := fun j => (w.cell? ⟨inf.idx, o * sz + i * sz + j, none⟩).getD default) (fun j q hq => ⟨(V i y e1 j q hq).1, (V i y e1 j q hq).2.1⟩)
      refine ⟨by rw [l1]; exact hyy y (List.mem_of_getElem? e1), fun j q hq => ⟨(l2 j q hq).1, (l2 j q hq).2, y, e1, ?_⟩⟩
      rw [← l1]; exact (List.getElem?_eq_some_iff.1 hq).1
     refine .ro (A := ⟨inf.idx, o * sz, none⟩) (V := fun i j => (w.cell? ⟨inf.idx, o * sz + i * sz + j, none⟩).getD default) (sz := sz) (by rw [← g1]; exact hylen) hnc (.inr rfl) rfl (fun i z hz => (el i z hz).1) (fun i z j q hz hq => ((el i z hz).2 j q hq).1) (fun i z j q hz hq => ?_)
     obtain ⟨r1, r2, y, r3, r4⟩ := (el i z hz).2 j q hq
     obtain ⟨_, _, v3⟩ := V i y r3 j _ (List.getElem?_eq_getElem r4)
     refine ⟨?_, r2⟩
     show (c.lock w n0).M _ = _
     rw [cell b inf ⟨inf.idx, o * sz + i * sz + j, none⟩ hb hm hv rfl]
     exact v3
  ·
   rename_i b L i o
   simp [aV] at hb
   split at h
   case h_2 => cases h
   rename_i blk hblk
   split at h
   case isFalse => cases h
   rename_i hL
   split at h
   case h_2 => cases h
   rename_i y hy
   split at h
   case h_2 => cases h
   rename_i z' hz
   simp at h; subst h
   cases hr with
   | ptrStale a hm hl => have := hH.valid hblk hm; omega
   | ptr hm hl hv hzz =>
    rename_i inf
    have hB := ((hH.blk _ _ _ hblk hm).cb hzz).at hv hy
    have V : ∀ (j : Nat) (q : AV), y.cells[j]? = some q → Rel c q ((w.cell? ⟨inf.idx, i * inf.sz + j, none⟩).getD default) ∧ ((w.cell? ⟨inf.idx, i * inf.sz + j, none⟩).getD default).oneCell' = true ∧
      w.cell? ⟨inf.idx, i * inf.sz + j, none⟩ = some ((w.cell? ⟨inf.idx, i * inf.sz + j, none⟩).getD default) := by
     intro j q hq
     obtain ⟨v, e1, e2, e3⟩ := hB j q hq
     rw [e1]; exact ⟨e2, e3, rfl⟩
    obtain ⟨l1, l2⟩ := tP (cf := c.lock w n0) (fun y z u h hr => ih y z u h hr) hz (V := fun j => (w.cell? ⟨inf.idx, i * inf.sz + j, none⟩).getD default) (fun j q hq => ⟨(V j q hq).1, (V j q hq).2.1⟩)
    refine .rp (A := ⟨inf.idx, i * inf.sz, none⟩) (V := fun j => (w.cell? ⟨inf.idx, i * inf.sz + j, none⟩).getD default) (fun j q hq => (l2 j q hq).1) (fun j q hq => ⟨?_, (l2 j q hq).2⟩)
    have hj : j < y.cells.length := by rw [← l1]; exact (List.getElem?_eq_some_iff.1 hq).1
    show (c.lock w n0).M _ = _
    rw [cell b inf ⟨inf.idx, i * inf.sz + j, none⟩ hb hm hv rfl]
    exact (V j _ (List.getElem?_eq_getElem hj)).2.2
  ·
   split at h
   case h_2 => cases h
   rename_i zs hzs
   simp at h; subst h
   obtain ⟨g1, g2⟩ := oQ hzs
   obtain ⟨vs, rfl, hrl, h1⟩ := hr.of_agg
   refine .agg (by rw [← g1]; exact hrl.1) (fun i q v hq hv => ?_) h1
   obtain ⟨y, e1, e2⟩ := g2 i q hq
   exact ih _ _ _ e2 (hrl.2 i y v e1 hv)
  ·split at h
   case h_2 => cases h
   rename_i zs hzs
   simp at h; subst h
   obtain ⟨g1, g2⟩ := oQ hzs
   obtain ⟨vs, rfl, hrl⟩ := hr.of_tup
   refine .tup (by rw [← g1]; exact hrl.1) (fun i q v hq hv => ?_)
   obtain ⟨y, e1, e2⟩ := g2 i q hq
   exact ih _ _ _ e2 (hrl.2 i y v e1 hv)
  ·split at h
   case h_2 => cases h
   rename_i z' hz
   simp at h; subst h
   obtain ⟨v, rfl, hv⟩ := hr.of_iface
   exact .iface (ih _ _ _ hz hv)
  ·cases h
end Go.Proofs.YtlkgkfgkiidhdaaDoor.Mir
