/- Mirror, part P: a region that draws its order. -/
import Derived.Test.YtcmblhedhgiofaaDoorMirO
namespace Go.Proofs.YtcmblhedhgiofaaDoor.Mir
open Go
set_option linter.unusedVariables false
set_option linter.unusedSimpArgs false

/-! ### What comes before what -/

def maskOf (acc : List Nat) : List Edge → Nat → Nat
  | [], s => s
  | e :: l, s => maskOf acc l (if Region.binds .any e then s ||| 2 ^ e.on ||| acc.getD e.on 0 else s)

def befs : List Oper → List Nat → List Nat
  | [], acc => acc
  | o :: l, acc => befs l (acc ++ [maskOf acc o.after.toList 0])

theorem maskOf_bit (acc : List Nat) : ∀ (l : List Edge) (s i : Nat), (maskOf acc l s).testBit i = true → s.testBit i = true ∨ ∃ e ∈ l, Region.binds .any e = true ∧ (i = e.on ∨ (acc.getD e.on 0).testBit i = true)
  | [], s, i, h => .inl h
  | e :: l, s, i, h => by
    simp only [maskOf] at h
    rcases maskOf_bit acc l _ i h with h1 | ⟨e', h1, h2⟩
    · by_cases hb : Region.binds .any e = true
      · rw [if_pos hb, Nat.testBit_or, Nat.testBit_or, Bool.or_eq_true, Bool.or_eq_true] at h1
        rcases h1 with (h1 | h1) | h1
        · exact .inl h1
        · rw [Nat.testBit_two_pow] at h1
          exact .inr ⟨e, by simp, hb, .inl (of_decide_eq_true h1).symm⟩
        · exact .inr ⟨e, by simp, hb, .inr h1⟩
      · rw [if_neg hb] at h1; exact .inl h1
    · exact .inr ⟨e', by simp [h1], h2⟩

theorem befs_take : ∀ (l : List Oper) (acc : List Nat), (befs l acc).take acc.length = acc ∧ (befs l acc).length = acc.length + l.length
  | [], acc => by simp [befs]
  | o :: l, acc => by
    obtain ⟨h1, h2⟩ := befs_take l (acc ++ [maskOf acc o.after.toList 0])
    simp only [befs, List.length_append, List.length_cons, List.length_nil] at *
    refine ⟨?_, by omega⟩
    have := congrArg (List.take acc.length) h1
    rw [List.take_take, Nat.min_eq_left (by omega)] at this
    rw [this]; simp

theorem befs_get : ∀ (l : List Oper) (acc : List Nat) (k : Nat) (o : Oper), l[k]? = some o → (befs l acc)[acc.length + k]? = some (maskOf ((befs l acc).take (acc.length + k)) o.after.toList 0)
  | [], acc, k, o, h => by simp at h
  | o' :: l, acc, k, o, h => by
    obtain ⟨h1, h2⟩ := befs_take l (acc ++ [maskOf acc o'.after.toList 0])
    cases k with
    | zero =>
      simp at h; subst h
      simp only [befs, Nat.add_zero]
      have e0 := (befs_take (o' :: l) acc).1
      simp only [befs] at e0
      rw [e0]
      have : (befs l (acc ++ [maskOf acc o'.after.toList 0]))[acc.length]? = ((befs l (acc ++ [maskOf acc o'.after.toList 0])).take (acc ++ [maskOf acc o'.after.toList 0]).length)[acc.length]? := by
        rw [List.getElem?_take, if_pos (by simp)]
      rw [this, h1]
      simp
    | succ k =>
      simp at h
      have := befs_get l (acc ++ [maskOf acc o'.after.toList 0]) k o h
      simp only [List.length_append, List.length_cons, List.length_nil] at this
      simp only [befs]
      rw [show acc.length + (k + 1) = acc.length + 0 + 1 + k by omega]
      simpa using this

def apartB (ops : Array Oper) (x y : Oper) : Bool := Oper.apart ops x y

/-- Two operations whose order is open. -/
def looseOk (ann : Ann) (pf : Nat → Bool) (ops : Array Oper) (x y : Oper) : Bool :=
  Oper.apart ops x y && !(writes ann pf x && touches ann y) && !(touches ann x && writes ann pf y)

def pairsOk (ann : Ann) (pf : Nat → Bool) (ops : Array Oper) (b : Nat) (y : Oper) : List Oper → Nat → Bool
  | [], _ => true
  | x :: l, i => (b.testBit i || looseOk ann pf ops x y) && pairsOk ann pf ops b y l (i + 1)

def ordFrom (ann : Ann) (pf : Nat → Bool) (ops : Array Oper) (B : List Nat) : List Oper → List Oper → Nat → Bool
  | _, [], _ => true
  | before, y :: l, j => y.after.toList.all (fun e => !Region.binds .any e || decide (e.on < j)) && pairsOk ann pf ops (B.getD j 0) y before 0 && ordFrom ann pf ops B (before ++ [y]) l (j + 1)

/-- The region's order is open only where it does not matter. -/
def ordOk (ann : Ann) (pf : Nat → Bool) (ops : Array Oper) : Bool := ordFrom ann pf ops (befs ops.toList []) [] ops.toList 0

theorem pairsOk_get {ann : Ann} {pf : Nat → Bool} {ops : Array Oper} {b : Nat} {y : Oper} : ∀ {l : List Oper} {k : Nat} (_ : pairsOk ann pf ops b y l k = true) {i : Nat} {x : Oper} (_ : l[i]? = some x), b.testBit (k + i) = true ∨ looseOk ann pf ops x y = true
  | [], _, _, _, _, hx => by simp at hx
  | z :: l, k, h, i, x, hx => by
    simp only [pairsOk, Bool.and_eq_true, Bool.or_eq_true] at h
    cases i with
    | zero => simp at hx; subst hx; simpa using h.1
    | succ i =>
      simp at hx
      have := pairsOk_get h.2 hx
      rwa [show k + 1 + i = k + (i + 1) by omega] at this

theorem ordFrom_get {ann : Ann} {pf : Nat → Bool} {ops : Array Oper} {B : List Nat} : ∀ {l before : List Oper} (_ : ordFrom ann pf ops B before l before.length = true) {q : Nat} {y : Oper} (_ : l[q]? = some y),
    (∀ e ∈ y.after.toList, Region.binds .any e = true → e.on < before.length + q) ∧ ∀ (i : Nat) (x : Oper), (before ++ l.take q)[i]? = some x → (B.getD (before.length + q) 0).testBit i = true ∨ looseOk ann pf ops x y = true
  | [], _, _, _, _, hy => by simp at hy
  | z :: l, before, h, q, y, hy => by
    simp only [ordFrom, Bool.and_eq_true] at h
    obtain ⟨⟨h1, h2⟩, h3⟩ := h
    cases q with
    | zero =>
      simp at hy; subst hy
      refine ⟨fun e he hb => ?_, fun i x hx => ?_⟩
      · have := List.all_eq_true.1 h1 e he
        simpa [hb] using this
      · simp at hx
        have := pairsOk_get h2 hx
        simpa using this
    | succ q =>
      simp at hy
      have h3' : ordFrom ann pf ops B (before ++ [z]) l (before ++ [z]).length = true := by simpa using h3
      obtain ⟨g1, g2⟩ := ordFrom_get h3' hy
      simp only [List.length_append, List.length_cons, List.length_nil] at g1 g2
      refine ⟨fun e he hb => by have := g1 e he hb; omega, fun i x hx => ?_⟩
      have := g2 i x (by simpa using hx)
      rwa [show before.length + (0 + 1) + q = before.length + (q + 1) by omega] at this

/-- Listed operations: with each, all that it waits for. -/
def Closed (ops : Array Oper) (S : Nat → Prop) : Prop := ∀ (j : Nat) (o : Oper), ops[j]? = some o → S j → ∀ e ∈ o.after, Region.binds .any e = true → S e.on

theorem ord_spec {ann : Ann} {pf : Nat → Bool} {ops : Array Oper} (h : ordOk ann pf ops = true) :
    (∀ (j : Nat) (o : Oper), ops[j]? = some o → ∀ e ∈ o.after, Region.binds .any e = true → e.on < j) ∧
    ∀ (i j : Nat) (x y : Oper), i < j → ops[i]? = some x → ops[j]? = some y → (∀ S, Closed ops S → S j → S i) ∨ looseOk ann pf ops x y = true := by
  unfold ordOk at h
  have key := fun {q : Nat} {y : Oper} (hy : ops.toList[q]? = some y) => ordFrom_get (before := []) h hy
  have hedge : ∀ (j : Nat) (o : Oper), ops[j]? = some o → ∀ e ∈ o.after, Region.binds .any e = true → e.on < j := by
    intro j o ho e he hb
    have := (key (q := j) (y := o) (by simpa using ho)).1 e (by simpa using he) hb
    simpa using this
  refine ⟨hedge, fun i j x y hij hx hy => ?_⟩
  have h2 := (key (q := j) (y := y) (by simpa using hy)).2 i x (by simp [List.getElem?_take, hij]; simpa using hx)
  simp only [List.length_nil, Nat.zero_add] at h2
  refine h2.imp (fun hb => ?_) id
  -- by strong induction on j
  have : ∀ (j : Nat), ∀ i, j < ops.size → ((befs ops.toList []).getD j 0).testBit i = true → ∀ S, Closed ops S → S j → S i := by
    intro j
    induction j using Nat.strongRecOn with
    | _ j ih =>
      intro i hj hb S hS hSj
      have ho : ops.toList[j]? = some ops[j] := by simp [hj]
      have hg := befs_get ops.toList [] j ops[j] ho
      simp only [List.length_nil, Nat.zero_add] at hg
      rw [List.getD_eq_getElem?_getD, hg] at hb
      simp only [Option.getD_some] at hb
      rcases maskOf_bit _ _ _ _ hb with h0 | ⟨e, he, hbe, h1⟩
      · simp at h0
      · have he' : e ∈ ops[j].after := by simpa using he
        have hlt := hedge j ops[j] (by simp [hj]) e he' hbe
        have hSe := hS j ops[j] (by simp [hj]) hSj e he' hbe
        rcases h1 with rfl | h1
        · exact hSe
        · rw [List.getD_eq_getElem?_getD, List.getElem?_take, if_pos hlt, ← List.getD_eq_getElem?_getD] at h1
          exact ih e.on hlt i (by omega) h1 S hS hSe
  exact this j i (Array.getElem?_eq_some_iff.1 hy).1 hb

/-! ### The run in the order of the text -/

structure TextRun (P : Program) (G : Globs) (E : Env) (ann : Ann) (ops : Array Oper) (T : TS) (H : AHeap) (n : Nat) (σ : Nat → TS) (h : Nat → AHeap) (v : Nat → AV) : Prop where
  t0 : σ 0 = T
  h0 : h 0 = H
  step : ∀ (i : Nat) (o : Oper), i < n → ops[i]? = some o → stepOp P G E ann ops o (σ i) (h i) = some (v i, h (i + 1)) ∧ σ (i + 1) = putT (σ i) o.dst (v i)

theorem textRun_of {P : Program} {G : Globs} {E : Env} {ann : Ann} {ops : Array Oper} {γ : Type} {K : TS → AHeap → Option γ} {out : γ} : ∀ (l : List Oper) (k : Nat), (∀ j, l[j]? = ops[k + j]?) → ∀ (T : TS) (H : AHeap), runOps P G E ann ops l K T H = some out →
    ∃ (σ : Nat → TS) (h : Nat → AHeap) (v : Nat → AV), σ k = T ∧ h k = H ∧ (∀ (i : Nat) (o : Oper), k ≤ i → i < k + l.length → ops[i]? = some o → stepOp P G E ann ops o (σ i) (h i) = some (v i, h (i + 1)) ∧ σ (i + 1) = putT (σ i) o.dst (v i)) ∧
      K (σ (k + l.length)) (h (k + l.length)) = some out
  | [], k, hl, T, H, hr => ⟨fun _ => T, fun _ => H, fun _ => .undef, rfl, rfl, fun i o h1 h2 => by simp at h2; omega, by simpa [runOps] using hr⟩
  | o :: l, k, hl, T, H, hr => by
    have h0 : ops[k]? = some o := by simpa using (hl 0).symm
    simp only [runOps, bnd] at hr
    split at hr
    case h_2 => cases hr
    rename_i v0 H' hst
    obtain ⟨σ, h, v, e1, e2, e3, e4⟩ := textRun_of l (k + 1) (fun j => by have := hl (j + 1); simpa [Nat.add_assoc, Nat.add_comm 1 j] using this) _ H' hr
    refine ⟨fun i => if i = k then T else σ i, fun i => if i = k then H else h i, fun i => if i = k then v0 else v i, by simp, by simp, fun i o' h1 h2 h3 => ?_, ?_⟩
    · by_cases hik : i = k
      · subst hik
        rw [h0] at h3; obtain rfl := Option.some.inj h3
        have hne : ¬ (i + 1 = i) := by omega
        simp only [if_true, hne, if_false]
        exact ⟨by rw [e2]; exact hst, e1⟩
      · have hne : ¬ (i + 1 = k) := by omega
        simp only [hik, if_false, hne]
        exact e3 i o' (by omega) (by simp at h2; omega) h3
    · have hne : ¬ (k + (l.length + 1) = k) := by omega
      simp only [List.length_cons, hne, if_false]
      rw [show k + (l.length + 1) = k + 1 + l.length by omega]
      exact e4

end Go.Proofs.YtcmblhedhgiofaaDoor.Mir
