/- Mirror, part G: structs, arrays and slices that are built; slices that are made, and grow. -/
import Derived.Test.YtdfglgnflldkpaaDoorMirF
namespace Go.Proofs.YtdfglgnflldkpaaDoor.Mir
open Go
set_option linter.unusedVariables false
set_option linter.unusedSimpArgs false

/-! ### What is built -/

def fillA (place : Nat → Option (Nat × Nat)) : List (Nat × AV) → List AV → Option (List AV)
  | [], cs => some cs
  | (i, v) :: rest, cs => match place i with
    | some (off, size) => if storable v = true ∧ v.cells.length = size ∧ off + size ≤ cs.length then fillA place rest (putC cs off v.cells) else none
    | none => none

/-- Cells of one cell each that stand for these. -/
structure Cells1 (c : Ctx) (cs : List AV) (vs : List Value) : Prop where
  rel : RelL c cs vs
  one : ∀ u ∈ vs, u.oneCell' = true

theorem foldl_set (news : List Value) : ∀ (k : Nat) (cells : Array Value) (off : Nat), off + k + news.length ≤ cells.size →
    ((news.zipIdx k).foldl (fun cs (p : Value × Nat) => cs.setIfInBounds (off + p.2) p.1) cells).toList = cells.toList.take (off + k) ++ (news ++ cells.toList.drop (off + k + news.length)) := by
  induction news with
  | nil => intro k cells off h; simp
  | cons v news ih =>
    intro k cells off h
    simp only [List.zipIdx_cons, List.foldl_cons]
    simp only [List.length_cons] at h
    rw [ih (k + 1) _ off (by simp; omega)]
    rw [Array.toList_setIfInBounds]
    have e1 : (cells.toList.set (off + k) v).take (off + (k + 1)) = cells.toList.take (off + k) ++ [v] := by
      rw [← Nat.add_assoc, List.take_succ_eq_append_getElem (by simp; omega)]
      simp
      apply List.take_set_of_le; omega
    have e2 : (cells.toList.set (off + k) v).drop (off + (k + 1) + news.length) = cells.toList.drop (off + k + (news.length + 1)) := by
      rw [List.drop_set_of_lt (by omega)]; congr 1; omega
    rw [e1, e2]
    simp

theorem putC_rel {c : Ctx} {cs new : List AV} {vs nv : List Value} {o : Nat} (h : Cells1 c cs vs) (hn : Cells1 c new nv) (hl : o + new.length ≤ cs.length) :
    Cells1 c (putC cs o new) (vs.take o ++ (nv ++ vs.drop (o + nv.length))) := by
  have e1 := h.rel.1
  have e2 := hn.rel.1
  refine ⟨⟨by simp [putC]; omega, fun i x v hx hv => ?_⟩, fun u hu => ?_⟩
  · rw [putC_get hl] at hx
    rw [← List.append_assoc, splice_get _ _ _ _ (by omega)] at hv
    rw [e2] at hx
    split at hx
    · rename_i hi; rw [if_pos hi] at hv; exact hn.rel.2 _ _ _ hx hv
    · rename_i hi; rw [if_neg hi] at hv; exact h.rel.2 _ _ _ hx hv
  · simp only [List.mem_append] at hu
    rcases hu with hu | hu | hu
    · exact h.one u (List.mem_of_mem_take hu)
    · exact hn.one u hu
    · exact h.one u (List.mem_of_mem_drop hu)

theorem fillA_sound {c : Ctx} {place : Nat → Option (Nat × Nat)} : ∀ (parts : List (Nat × AV)) (vparts : List (Nat × Value)) (cs r : List AV) (vs : List Value), fillA place parts cs = some r →
    Cells1 c cs vs → parts.length = vparts.length → (∀ (k i : Nat) (x : AV) (j : Nat) (v : Value), parts[k]? = some (i, x) → vparts[k]? = some (j, v) → i = j ∧ Rel c x v) →
    ∃ rs : List Value, Instr.fill place vs.toArray vparts = some rs.toArray ∧ Cells1 c r rs
  | [], vparts, cs, r, vs, h, hc, hl, _ => by
    have : vparts = [] := List.eq_nil_of_length_eq_zero hl.symm
    subst this
    simp [fillA] at h; subst h
    exact ⟨vs, rfl, hc⟩
  | (i, x) :: parts, vparts, cs, r, vs, h, hc, hl, hp => by
    cases vparts with
    | nil => simp at hl
    | cons q vparts =>
      obtain ⟨j, v⟩ := q
      obtain ⟨rfl, hv⟩ := hp 0 i x j v rfl rfl
      simp only [fillA] at h
      split at h
      case h_2 => cases h
      rename_i off size hpl
      split at h
      case isFalse => cases h
      rename_i hcc
      obtain ⟨hst, hsz, hfit⟩ := hcc
      obtain ⟨nv, hnv, hnr, hn1⟩ := storable_cells hst hv
      have hnl : nv.length = size := by rw [← hnr.1, hsz]
      have hvl : vs.length = cs.length := hc.rel.1.symm
      have hput := putC_rel (o := off) hc ⟨hnr, hn1⟩ (by omega)
      obtain ⟨rs, g1, g2⟩ := fillA_sound parts vparts _ r _ h hput (by simpa using hl) (fun k => hp (k + 1))
      refine ⟨rs, ?_, g2⟩
      simp only [Instr.fill, hpl, hnv]
      have c1 : ¬ (nv.toArray.size ≠ size) := by simpa using hnl
      have c2 : ¬ (off + nv.toArray.size > vs.toArray.size) := by simp; omega
      simp only [c1, c2, decide_false, Bool.or_self, Bool.false_eq_true, if_false, or_self, ne_eq, not_false_eq_true, decide_not, Bool.not_true]
      rw [← g1]
      congr 1
      apply Array.ext'
      have := foldl_set nv 0 vs.toArray off (by simp; omega)
      simp only [Nat.add_zero] at this
      rw [← this]
      congr 2
      simp

def placesA (P : Program) (fs : List Field) : Option (List (Nat × Nat)) := fs.mapM (fun f => (P.info? f.type).map fun i => (f.offset, i.size))

def buildArr (s : Nat) (zc : List AV) (parts : List (Nat × AV)) : Option AV := (fillA (fun i => some (i * s, s)) parts zc).map .agg
def buildSt (places : List (Nat × Nat)) (zc : List AV) (parts : List (Nat × AV)) : Option AV := (fillA (fun i => places[i]?) parts zc).map .agg

def buildA (P : Program) (t : Nat) (parts : List (Nat × AV)) : Option AV :=
  match zeroA P t with
  | some (.agg zc) => match P.underlying t with
    | some (.array _ e) => match tsz P e with
      | some s => buildArr s zc parts
      | none => none
    | some (.struct fs) => match placesA P fs.toList with
      | some places => buildSt places zc parts
      | none => none
    | _ => none
  | _ => none

/-- The parts, as the model hands them over. -/
def PartsRel (c : Ctx) (parts : List (Nat × AV)) (vparts : List (Nat × Value)) : Prop :=
  parts.length = vparts.length ∧ ∀ (k i : Nat) (x : AV) (j : Nat) (v : Value), parts[k]? = some (i, x) → vparts[k]? = some (j, v) → i = j ∧ Rel c x v

theorem buildA_sound {P : Program} {t : Nat} {parts : List (Nat × AV)} {r : AV} (h : buildA P t parts = some r) {c : Ctx} {w : World} {vparts : Array (Nat × Value)} (hp : PartsRel c parts vparts.toList) :
    ∃ v, (Instr.build t vparts).run P w = .ok v w ∧ Rel c r v := by
  unfold buildA at h
  split at h
  case h_2 => cases h
  rename_i zc hz
  unfold zeroA at hz
  obtain ⟨i, hi, hz⟩ := Option.bind_eq_some_iff.1 hz
  obtain ⟨z, hzz, hzv⟩ := Option.map_eq_some_iff.1 hz
  have hrel := rel_ofVal c z
  rw [hzv] at hrel
  obtain ⟨vs, rfl, hr, h1⟩ := hrel.of_agg
  have fin : ∀ place, (fillA place parts zc).map .agg = some r → ∃ rs : List Value, Instr.fill place vs.toArray vparts.toList = some rs.toArray ∧ Rel c r (.agg rs.toArray) := by
    intro place hf
    obtain ⟨cs, hcs, rfl⟩ := Option.map_eq_some_iff.1 hf
    obtain ⟨rs, g1, g2⟩ := fillA_sound parts vparts.toList zc cs vs hcs ⟨hr, h1⟩ hp.1 hp.2
    exact ⟨rs, g1, .agg g2.rel.1 g2.rel.2 g2.one⟩
  split at h
  · rename_i n e hd
    split at h
    case h_2 => cases h
    rename_i s hs
    obtain ⟨rs, g1, g2⟩ := fin _ h
    unfold tsz at hs
    obtain ⟨ie, hie, rfl⟩ := Option.map_eq_some_iff.1 hs
    refine ⟨_, run_build w t vparts _ ?_, g2⟩
    simpa [Program.built, hi, hd, hzz, hie, Value.cells] using g1
  · rename_i fs hd
    split at h
    case h_2 => cases h
    rename_i places hpl
    obtain ⟨rs, g1, g2⟩ := fin _ h
    refine ⟨_, run_build w t vparts _ ?_, g2⟩
    unfold placesA at hpl
    simpa [Program.built, hi, hd, hzz, hpl, Value.cells] using g1
  · cases h

/-! ### Slices that are built -/

def flat (xs : List AV) : List AV := xs.flatMap AV.cells

theorem flat_length {s : Nat} : ∀ {xs : List AV}, (∀ x ∈ xs, x.cells.length = s) → (flat xs).length = xs.length * s
  | [], _ => by simp [flat]
  | x :: xs, h => by
    have ih := flat_length (xs := xs) (fun y hy => h y (by simp [hy]))
    have e := h x (by simp)
    simp only [flat] at ih
    simp only [flat, List.flatMap_cons, List.length_append, List.length_cons, ih, e, Nat.add_mul]
    omega

theorem flat_get {s : Nat} : ∀ {xs : List AV} (_ : ∀ x ∈ xs, x.cells.length = s) {i j : Nat} {x : AV} (_ : xs[i]? = some x) (_ : j < s), (flat xs)[i * s + j]? = x.cells[j]?
  | [], _, _, _, _, hx, _ => by simp at hx
  | y :: xs, h, i, j, x, hx, hj => by
    have e := h y (by simp)
    cases i with
    | zero =>
      simp at hx; subst hx
      simp only [flat, List.flatMap_cons, Nat.zero_mul, Nat.zero_add]
      rw [List.getElem?_append_left (by omega)]
    | succ i =>
      simp at hx
      have ih := flat_get (xs := xs) (fun z hz => h z (by simp [hz])) hx hj
      simp only [flat] at ih
      simp only [flat, List.flatMap_cons]
      rw [Nat.add_mul, List.getElem?_append_right (by omega), ← ih]
      congr 1; omega

theorem flat_set {s : Nat} {v : AV} (hv : v.cells.length = s) : ∀ {xs : List AV} (_ : ∀ x ∈ xs, x.cells.length = s) {i : Nat} (_ : i < xs.length), flat (xs.set i v) = putC (flat xs) (i * s) v.cells
  | [], _, _, hi => by simp at hi
  | y :: xs, h, i, hi => by
    have e := h y (by simp)
    cases i with
    | zero => simp [flat, putC, hv, ← e]
    | succ i =>
      have ih := flat_set hv (xs := xs) (fun z hz => h z (by simp [hz])) (i := i) (by simpa using hi)
      simp only [flat] at ih
      simp only [flat, List.set_cons_succ, List.flatMap_cons, ih, putC]
      have e2 : (i + 1) * s = y.cells.length + i * s := by rw [Nat.add_mul]; omega
      rw [e2, List.take_length_add_append, Nat.add_assoc, List.drop_length_add_append]
      simp

def fillE (s : Nat) : List (Nat × AV) → List AV → Option (List AV)
  | [], xs => some xs
  | (i, v) :: rest, xs => if storable v = true ∧ v.cells.length = s ∧ i < xs.length then fillE s rest (xs.set i v) else none

theorem fillE_sz {s : Nat} : ∀ {parts : List (Nat × AV)} {xs r : List AV}, fillE s parts xs = some r → (∀ x ∈ xs, x.cells.length = s) → (∀ x ∈ r, x.cells.length = s) ∧ r.length = xs.length
  | [], xs, r, h, hx => by simp [fillE] at h; subst h; exact ⟨hx, rfl⟩
  | (i, v) :: parts, xs, r, h, hx => by
    simp only [fillE] at h
    split at h
    · rename_i hc
      obtain ⟨h1, h2⟩ := fillE_sz h (fun x hm => by
        rcases List.mem_or_eq_of_mem_set hm with hm | rfl
        · exact hx x hm
        · exact hc.2.1)
      exact ⟨h1, by simpa using h2⟩
    · cases h

theorem fillE_flat {s : Nat} : ∀ {parts : List (Nat × AV)} {xs r : List AV}, fillE s parts xs = some r → (∀ x ∈ xs, x.cells.length = s) → fillA (fun i => some (i * s, s)) parts (flat xs) = some (flat r)
  | [], xs, r, h, hx => by simp [fillE] at h; subst h; rfl
  | (i, v) :: parts, xs, r, h, hx => by
    simp only [fillE] at h
    split at h
    · rename_i hc
      simp only [fillA]
      have hfit : i * s + s ≤ (flat xs).length := by
        rw [flat_length hx, ← Nat.succ_mul]
        exact Nat.mul_le_mul_right s hc.2.2
      rw [if_pos ⟨hc.1, hc.2.1, hfit⟩, ← flat_set hc.2.1 hx hc.2.2]
      exact fillE_flat h (fun x hm => by
        rcases List.mem_or_eq_of_mem_set hm with hm | rfl
        · exact hx x hm
        · exact hc.2.1)
    · cases h

end Go.Proofs.YtdfglgnflldkpaaDoor.Mir
