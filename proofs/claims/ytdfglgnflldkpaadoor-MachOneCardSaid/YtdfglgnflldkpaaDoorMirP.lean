/- Mirror, part P: a region that draws its order. -/
import Derived.Test.YtdfglgnflldkpaaDoorMirO
namespace Go.Proofs.YtdfglgnflldkpaaDoor.Mir
open Go
set_option linter.unusedVariables false
set_option linter.unusedSimpArgs false

/-! ### What comes before what -/

def maskOf (acc : List Nat) : List Edge → Nat → Nat
  | [], s => s
  | e :: l, s => maskOf acc l (if Region.binds .any e then s ||| 2 ^ e.on ||| acc.getD e.on 0 else s)

def befs : List Oper → List Nat → List Nat
  | [], acc => acc
  | o :: l, acc => befs l (acc ++ [maskOf acc o.after.toList 0])

theorem maskOf_bit (acc : List Nat) : ∀ (l : List Edge) (s i : Nat), (maskOf acc l s).testBit i = true → s.testBit i = true ∨ ∃ e ∈ l, Region.binds .any e = true ∧ (i = e.on ∨ (acc.getD e.on 0).testBit i = true)
  | [], s, i, h => .inl h
  | e :: l, s, i, h => by
    simp only [maskOf] at h
    rcases maskOf_bit acc l _ i h with h1 | ⟨e', h1, h2⟩
    · by_cases hb : Region.binds .any e = true
      · rw [if_pos hb, Nat.testBit_or, Nat.testBit_or, Bool.or_eq_true, Bool.or_eq_true] at h1
        rcases h1 with (h1 | h1) | h1
        · exact .inl h1
        · rw [Nat.testBit_two_pow] at h1
          exact .inr ⟨e, by simp, hb, .inl (of_decide_eq_true h1).symm⟩
        · exact .inr ⟨e, by simp, hb, .inr h1⟩
      · rw [if_neg hb] at h1; exact .inl h1
    · exact .inr ⟨e', by simp [h1], h2⟩

theorem befs_take : ∀ (l : List Oper) (acc : List Nat), (befs l acc).take acc.length = acc ∧ (befs l acc).length = acc.length + l.length
  | [], acc => by simp [befs]
  | o :: l, acc => by
    obtain ⟨h1, h2⟩ := befs_take l (acc ++ [maskOf acc o.after.toList 0])
    simp only [befs, List.length_append, List.length_cons, List.length_nil] at *
    refine ⟨?_, by omega⟩
    have := congrArg (List.take acc.length) h1
    rw [List.take_take, Nat.min_eq_left (by omega)] at this
    rw [this]; simp

theorem befs_get : ∀ (l : List Oper) (acc : List Nat) (k : Nat) (o : Oper), l[k]? = some o → (befs l acc)[acc.length + k]? = some (maskOf ((befs l acc).take (acc.length + k)) o.after.toList 0)
  | [], acc, k, o, h => by simp at h
  | o' :: l, acc, k, o, h => by
    obtain ⟨h1, h2⟩ := befs_take l (acc ++ [maskOf acc o'.after.toList 0])
    cases k with
    | zero =>
      simp at h; subst h
      simp only [befs, Nat.add_zero]
      have e0 := (befs_take (o' :: l) acc).1
      simp only [befs] at e0
      rw [e0]
      have : (befs l (acc ++ [maskOf acc o'.after.toList 0]))[acc.length]? = ((befs l (acc ++ [maskOf acc o'.after.toList 0])).take (acc ++ [maskOf acc o'.after.toList 0]).length)[acc.length]? := by
        rw [List.getElem?_take, if_pos (by simp)]
      rw [this, h1]
      simp
    | succ k =>
      simp at h
      have := befs_get l (acc ++ [maskOf acc o'.after.toList 0]) k o h
      simp only [List.length_append, List.length_cons, List.length_nil] at this
      simp only [befs]
      rw [show acc.length + (k + 1) = acc.length + 0 + 1 + k by omega]
      simpa using this

/-- From here on, no operation gives this temporary anew. -/
def late (ops : Array Oper) (i t : Nat) : Bool := (ops.toList.drop i).all fun o => match o.dst with | some d => !(d == t) | none => true

theorem late_spec {ops : Array Oper} {i t : Nat} (h : late ops i t = true) {k : Nat} (hk : i ≤ k) : dstOf ops k ≠ some t := by
  intro hd
  cases ho : ops[k]? with
  | none => simp [dstOf, ho] at hd
  | some o =>
    have hm : o ∈ ops.toList.drop i := by
      refine List.mem_of_getElem? (i := k - i) ?_
      rw [List.getElem?_drop, show i + (k - i) = k by omega]; simpa using ho
    have := List.all_eq_true.1 h o hm
    have hd' : o.dst = some t := by simpa [dstOf, ho] using hd
    simp [hd'] at this

/-- A load and a store: where their addresses are. -/
def ldst (ops : Array Oper) (i j : Nat) (x y : Oper) : Option (Nat × Nat) :=
  match x.guard, y.guard with
  | none, none => match x.op, y.op with
    | .load _ (.tmp a), .store _ (.tmp b) _ => (match late ops i a && late ops j b with | true => some (a, b) | false => none)
    | .store _ (.tmp b) _, .load _ (.tmp a) => (match late ops i b && late ops j a with | true => some (a, b) | false => none)
    | _, _ => none
  | _, _ => none

def isLoad (o : Oper) : Bool := match o.op with
  | .load .. => true
  | _ => false

theorem ldst_xl {ops : Array Oper} {i j : Nat} {x y : Oper} {p : Nat × Nat} (h : ldst ops i j x y = some p) (hx : isLoad x = true) :
    x.guard = none ∧ y.guard = none ∧ (∃ t, x.op = .load t (.tmp p.1)) ∧ (∃ t z, y.op = .store t (.tmp p.2) z) ∧ late ops i p.1 = true ∧ late ops j p.2 = true := by
  unfold ldst at h
  split at h
  case h_2 => cases h
  rename_i g1 g2
  split at h
  · rename_i t a t' b z e1 e2
    split at h
    · rename_i hl
      rw [Bool.and_eq_true] at hl
      simp only [Option.some.injEq] at h; subst h
      exact ⟨g1, g2, ⟨t, e1⟩, ⟨t', z, e2⟩, hl.1, hl.2⟩
    · cases h
  · rename_i e1 e2
    simp [isLoad, e1] at hx
  · cases h
theorem ldst_yl {ops : Array Oper} {i j : Nat} {x y : Oper} {p : Nat × Nat} (h : ldst ops i j x y = some p) (hy : isLoad y = true) :
    x.guard = none ∧ y.guard = none ∧ (∃ t, y.op = .load t (.tmp p.1)) ∧ (∃ t z, x.op = .store t (.tmp p.2) z) ∧ late ops j p.1 = true ∧ late ops i p.2 = true := by
  unfold ldst at h
  split at h
  case h_2 => cases h
  rename_i g1 g2
  split at h
  · rename_i t a t' b z e1 e2
    simp [isLoad, e2] at hy
  · rename_i t b z t' a e1 e2
    split at h
    · rename_i hl
      rw [Bool.and_eq_true] at hl
      simp only [Option.some.injEq] at h; subst h
      exact ⟨g1, g2, ⟨t', e2⟩, ⟨t, z, e1⟩, hl.2, hl.1⟩
    · cases h
  · cases h
theorem ldst_any {ops : Array Oper} {i j : Nat} {x y : Oper} {p : Nat × Nat} (h : ldst ops i j x y = some p) : (isLoad x = true ∧ isLoad y = false) ∨ (isLoad x = false ∧ isLoad y = true) := by
  unfold ldst at h
  split at h
  case h_2 => cases h
  split at h
  · rename_i e1 e2; exact .inl ⟨by simp [isLoad, e1], by simp [isLoad, e2]⟩
  · rename_i e1 e2; exact .inr ⟨by simp [isLoad, e1], by simp [isLoad, e2]⟩
  · cases h

def someB {α : Type} : Option α → Bool
  | some _ => true
  | none => false

/-- Two operations whose order is open. -/
def looseOk (ann : Ann) (pf : Nat → Bool) (ops : Array Oper) (i j : Nat) (x y : Oper) : Bool :=
  Oper.apart ops x y && ((!(writes ann pf x && touches ann y) && !(touches ann x && writes ann pf y)) || someB (ldst ops i j x y))

def pairsOk (ann : Ann) (pf : Nat → Bool) (ops : Array Oper) (b : Nat) (y : Oper) (j : Nat) : List Oper → Nat → Bool
  | [], _ => true
  | x :: l, i => (b.testBit i || looseOk ann pf ops i j x y) && pairsOk ann pf ops b y j l (i + 1)

def ordFrom (ann : Ann) (pf : Nat → Bool) (ops : Array Oper) (B : List Nat) : List Oper → List Oper → Nat → Bool
  | _, [], _ => true
  | before, y :: l, j => y.after.toList.all (fun e => !Region.binds .any e || decide (e.on < j)) && pairsOk ann pf ops (B.getD j 0) y j before 0 && ordFrom ann pf ops B (before ++ [y]) l (j + 1)

/-- The region's order is open only where it does not matter. -/
def ordOk (ann : Ann) (pf : Nat → Bool) (ops : Array Oper) : Bool := ordFrom ann pf ops (befs ops.toList []) [] ops.toList 0

/-- The loads and stores whose order is open: where their addresses are. -/
def needP (ops : Array Oper) (b : Nat) (y : Oper) (j : Nat) : List Oper → Nat → List (Nat × Nat)
  | [], _ => []
  | x :: l, i => match ldst ops i j x y with
    | some p => (match b.testBit i with
      | true => needP ops b y j l (i + 1)
      | false => p :: needP ops b y j l (i + 1))
    | none => needP ops b y j l (i + 1)

def needFrom (ops : Array Oper) (B : List Nat) : List Oper → List Oper → Nat → List (Nat × Nat)
  | _, [], _ => []
  | before, y :: l, j => needP ops (B.getD j 0) y j before 0 ++ needFrom ops B (before ++ [y]) l (j + 1)

def needs (ops : Array Oper) : List (Nat × Nat) := needFrom ops (befs ops.toList []) [] ops.toList 0

theorem pairsOk_get {ann : Ann} {pf : Nat → Bool} {ops : Array Oper} {b : Nat} {y : Oper} {j : Nat} : ∀ {l : List Oper} {k : Nat} (_ : pairsOk ann pf ops b y j l k = true) {i : Nat} {x : Oper} (_ : l[i]? = some x), b.testBit (k + i) = true ∨ looseOk ann pf ops (k + i) j x y = true
  | [], _, _, _, _, hx => by simp at hx
  | z :: l, k, h, i, x, hx => by
    simp only [pairsOk, Bool.and_eq_true, Bool.or_eq_true] at h
    cases i with
    | zero => simp at hx; subst hx; simpa using h.1
    | succ i =>
      simp at hx
      have := pairsOk_get h.2 hx
      rwa [show k + 1 + i = k + (i + 1) by omega] at this

theorem needP_get {ops : Array Oper} {b : Nat} {y : Oper} {j : Nat} {p : Nat × Nat} : ∀ {l : List Oper} {k i : Nat} {x : Oper} (_ : l[i]? = some x) (_ : b.testBit (k + i) = false) (_ : ldst ops (k + i) j x y = some p), p ∈ needP ops b y j l k
  | [], _, _, _, hx, _, _ => by simp at hx
  | z :: l, k, i, x, hx, hb, hp => by
    cases i with
    | zero =>
      simp at hx; subst hx
      rw [Nat.add_zero] at hb hp
      simp only [needP, hp, hb]
      simp
    | succ i =>
      simp at hx
      rw [show k + (i + 1) = k + 1 + i by omega] at hb hp
      have ih := needP_get hx hb hp
      simp only [needP]
      split
      · split
        · exact ih
        · exact List.mem_cons_of_mem _ ih
      · exact ih

theorem ordFrom_get {ann : Ann} {pf : Nat → Bool} {ops : Array Oper} {B : List Nat} : ∀ {l before : List Oper} (_ : ordFrom ann pf ops B before l before.length = true) {q : Nat} {y : Oper} (_ : l[q]? = some y),
    (∀ e ∈ y.after.toList, Region.binds .any e = true → e.on < before.length + q) ∧ ∀ (i : Nat) (x : Oper), (before ++ l.take q)[i]? = some x → (B.getD (before.length + q) 0).testBit i = true ∨ looseOk ann pf ops i (before.length + q) x y = true
  | [], _, _, _, _, hy => by simp at hy
  | z :: l, before, h, q, y, hy => by
    simp only [ordFrom, Bool.and_eq_true] at h
    obtain ⟨⟨h1, h2⟩, h3⟩ := h
    cases q with
    | zero =>
      simp at hy; subst hy
      refine ⟨fun e he hb => ?_, fun i x hx => ?_⟩
      · have := List.all_eq_true.1 h1 e he
        simpa [hb] using this
      · simp at hx
        have := pairsOk_get h2 hx
        simpa using this
    | succ q =>
      simp at hy
      have h3' : ordFrom ann pf ops B (before ++ [z]) l (before ++ [z]).length = true := by simpa using h3
      obtain ⟨g1, g2⟩ := ordFrom_get h3' hy
      simp only [List.length_append, List.length_cons, List.length_nil] at g1 g2
      refine ⟨fun e he hb => by have := g1 e he hb; omega, fun i x hx => ?_⟩
      have := g2 i x (by simpa using hx)
      rwa [show before.length + (0 + 1) + q = before.length + (q + 1) by omega] at this

theorem needFrom_get {ops : Array Oper} {B : List Nat} {p : Nat × Nat} : ∀ {l before : List Oper} {q : Nat} {y : Oper} (_ : l[q]? = some y) {i : Nat} {x : Oper} (_ : (before ++ l.take q)[i]? = some x) (_ : (B.getD (before.length + q) 0).testBit i = false)
    (_ : ldst ops i (before.length + q) x y = some p), p ∈ needFrom ops B before l before.length
  | [], _, _, _, hy, _, _, _, _, _ => by simp at hy
  | z :: l, before, q, y, hy, i, x, hx, hb, hp => by
    simp only [needFrom, List.mem_append]
    cases q with
    | zero =>
      simp at hy; subst hy
      simp at hx
      rw [Nat.add_zero] at hb hp
      exact .inl (needP_get (k := 0) (i := i) hx (by simpa using hb) (by simpa using hp))
    | succ q =>
      simp at hy
      have e : before.length + (q + 1) = (before ++ [z]).length + q := by simp; omega
      rw [e] at hb hp
      have := needFrom_get (before := before ++ [z]) hy (by simpa using hx) hb hp
      exact .inr (by simpa using this)

/-- Their order is open; if a load and a store: their addresses are among those that are looked at. -/
def Loose (ann : Ann) (pf : Nat → Bool) (ops : Array Oper) (i j : Nat) (x y : Oper) : Prop := looseOk ann pf ops i j x y = true ∧ ∀ p, ldst ops i j x y = some p → p ∈ needs ops

/-- Listed operations: with each, all that it waits for. -/
def Closed (ops : Array Oper) (S : Nat → Prop) : Prop := ∀ (j : Nat) (o : Oper), ops[j]? = some o → S j → ∀ e ∈ o.after, Region.binds .any e = true → S e.on

theorem ord_spec {ann : Ann} {pf : Nat → Bool} {ops : Array Oper} (h : ordOk ann pf ops = true) :
    (∀ (j : Nat) (o : Oper), ops[j]? = some o → ∀ e ∈ o.after, Region.binds .any e = true → e.on < j) ∧
    ∀ (i j : Nat) (x y : Oper), i < j → ops[i]? = some x → ops[j]? = some y → (∀ S, Closed ops S → S j → S i) ∨ Loose ann pf ops i j x y := by
  unfold ordOk at h
  have key := fun {q : Nat} {y : Oper} (hy : ops.toList[q]? = some y) => ordFrom_get (before := []) h hy
  have hedge : ∀ (j : Nat) (o : Oper), ops[j]? = some o → ∀ e ∈ o.after, Region.binds .any e = true → e.on < j := by
    intro j o ho e he hb
    have := (key (q := j) (y := o) (by simpa using ho)).1 e (by simpa using he) hb
    simpa using this
  refine ⟨hedge, fun i j x y hij hx hy => ?_⟩
  have hxt : ([] ++ ops.toList.take j)[i]? = some x := by simp [List.getElem?_take, hij]; simpa using hx
  have h2 := (key (q := j) (y := y) (by simpa using hy)).2 i x hxt
  simp only [List.length_nil, Nat.zero_add] at h2
  have h3 : ((befs ops.toList []).getD j 0).testBit i = true ∨ Loose ann pf ops i j x y := by
    cases hb : ((befs ops.toList []).getD j 0).testBit i with
    | true => exact .inl rfl
    | false =>
      refine .inr ⟨h2.resolve_left (by rw [hb]; simp), fun p hp => ?_⟩
      have := needFrom_get (B := befs ops.toList []) (before := []) (l := ops.toList) (q := j) (y := y) (by simpa using hy) hxt (by simpa using hb) (by simpa using hp)
      simpa [needs] using this
  refine h3.imp (fun hb => ?_) id
  -- by strong induction on j
  have : ∀ (j : Nat), ∀ i, j < ops.size → ((befs ops.toList []).getD j 0).testBit i = true → ∀ S, Closed ops S → S j → S i := by
    intro j
    induction j using Nat.strongRecOn with
    | _ j ih =>
      intro i hj hb S hS hSj
      have ho : ops.toList[j]? = some ops[j] := by simp [hj]
      have hg := befs_get ops.toList [] j ops[j] ho
      simp only [List.length_nil, Nat.zero_add] at hg
      rw [List.getD_eq_getElem?_getD, hg] at hb
      simp only [Option.getD_some] at hb
      rcases maskOf_bit _ _ _ _ hb with h0 | ⟨e, he, hbe, h1⟩
      · simp at h0
      · have he' : e ∈ ops[j].after := by simpa using he
        have hlt := hedge j ops[j] (by simp [hj]) e he' hbe
        have hSe := hS j ops[j] (by simp [hj]) hSj e he' hbe
        rcases h1 with rfl | h1
        · exact hSe
        · rw [List.getD_eq_getElem?_getD, List.getElem?_take, if_pos hlt, ← List.getD_eq_getElem?_getD] at h1
          exact ih e.on hlt i (by omega) h1 S hS hSe
  exact this j i (Array.getElem?_eq_some_iff.1 hy).1 hb

/-! ### Addresses of different blocks -/

/-- Does a store at b leave what lies at a? -/
def apartAV : AV → AV → Bool
  | .ptr b _ _ _, .ptr b' _ _ _ => !(b == b')
  | .rp _ _ _, _ => true
  | .gl _, _ => true
  | _, _ => false

def grd {γ : Type} : List (AV × AV) → Option γ → Option γ
  | [], m => m
  | p :: l, m => match apartAV p.1 p.2 with
    | true => grd l m
    | false => none

theorem grd_some {γ : Type} {m : Option γ} {out : γ} : ∀ {l : List (AV × AV)}, grd l m = some out → m = some out ∧ ∀ p ∈ l, apartAV p.1 p.2 = true
  | [], h => ⟨h, fun p hp => by cases hp⟩
  | q :: l, h => by
    simp only [grd] at h
    split at h
    · rename_i hq
      obtain ⟨h1, h2⟩ := grd_some h
      refine ⟨h1, fun p hp => ?_⟩
      rcases List.mem_cons.1 hp with rfl | hp
      · exact hq
      · exact h2 p hp
    · cases h

def addrs (T : TS) (l : List (Nat × Nat)) : List (AV × AV) := l.map fun p => (T p.1, T p.2)

/-! ### The run in the order of the text -/

structure TextRun (P : Program) (G : Globs) (E : Env) (ann : Ann) (ops : Array Oper) (T : TS) (H : AHeap) (n : Nat) (σ : Nat → TS) (h : Nat → AHeap) (v : Nat → AV) : Prop where
  t0 : σ 0 = T
  h0 : h 0 = H
  step : ∀ (i : Nat) (o : Oper), i < n → ops[i]? = some o → stepOp P G E ann ops o (σ i) (h i) = some (v i, h (i + 1)) ∧ σ (i + 1) = putT (σ i) o.dst (v i)

theorem textRun_of {P : Program} {G : Globs} {E : Env} {ann : Ann} {ops : Array Oper} {γ : Type} {K : TS → AHeap → Option γ} {out : γ} : ∀ (l : List Oper) (k : Nat), (∀ j, l[j]? = ops[k + j]?) → ∀ (T : TS) (H : AHeap), runOps P G E ann ops l K T H = some out →
    ∃ (σ : Nat → TS) (h : Nat → AHeap) (v : Nat → AV), σ k = T ∧ h k = H ∧ (∀ (i : Nat) (o : Oper), k ≤ i → i < k + l.length → ops[i]? = some o → stepOp P G E ann ops o (σ i) (h i) = some (v i, h (i + 1)) ∧ σ (i + 1) = putT (σ i) o.dst (v i)) ∧
      K (σ (k + l.length)) (h (k + l.length)) = some out
  | [], k, hl, T, H, hr => ⟨fun _ => T, fun _ => H, fun _ => .undef, rfl, rfl, fun i o h1 h2 => by simp at h2; omega, by simpa [runOps] using hr⟩
  | o :: l, k, hl, T, H, hr => by
    have h0 : ops[k]? = some o := by simpa using (hl 0).symm
    simp only [runOps, bnd] at hr
    split at hr
    case h_2 => cases hr
    rename_i v0 H' hst
    obtain ⟨σ, h, v, e1, e2, e3, e4⟩ := textRun_of l (k + 1) (fun j => by have := hl (j + 1); simpa [Nat.add_assoc, Nat.add_comm 1 j] using this) _ H' hr
    refine ⟨fun i => if i = k then T else σ i, fun i => if i = k then H else h i, fun i => if i = k then v0 else v i, by simp, by simp, fun i o' h1 h2 h3 => ?_, ?_⟩
    · by_cases hik : i = k
      · subst hik
        rw [h0] at h3; obtain rfl := Option.some.inj h3
        have hne : ¬ (i + 1 = i) := by omega
        simp only [if_true, hne, if_false]
        exact ⟨by rw [e2]; exact hst, e1⟩
      · have hne : ¬ (i + 1 = k) := by omega
        simp only [hik, if_false, hne]
        exact e3 i o' (by omega) (by simp at h2; omega) h3
    · have hne : ¬ (k + (l.length + 1) = k) := by omega
      simp only [List.length_cons, hne, if_false]
      rw [show k + (l.length + 1) = k + 1 + l.length by omega]
      exact e4

end Go.Proofs.YtdfglgnflldkpaaDoor.Mir
