/- Mirror, part X: what a function is handed at the top: arguments read through the row's tree; errors laid ahead. -/
import Derived.Test.YtdfglgnflldkpaaDoorMirW
import Derived.ProofKit
import Derived.LaidLaws
import Derived.OpenShut
namespace Go.Proofs.YtdfglgnflldkpaaDoor.Mir
open Go Go.ChangeShapes Go.WideShapes Go.RowKit
set_option linter.unusedVariables false
set_option linter.unusedSimpArgs false

mutual
/-- A value of a type. -/
inductive IsT (P : Program) : TypeId → AV → Prop
  | bool {t : TypeId} (h : P.underlying t = some .bool) (b : Bool) : IsT P t (.bool b)
  | int {t : TypeId} {k : IntKind} (h : P.underlying t = some (.int k)) (n : Int) (hw : (Lit.int k n).wf = true) : IsT P t (.int k n)
  | str {t : TypeId} (h : P.underlying t = some .string) (s : ByteArray) (hs : s.size ≤ maxLen) : IsT P t (.str s)
  | sl {t e : TypeId} {xs : List AV} (h : P.underlying t = some (.slice e)) (hx : ∀ x ∈ xs, IsT P e x) (hl : xs.length ≤ maxLen) : IsT P t (.ro false xs)
  | st {t : TypeId} {fs : Array Field} {cs : List AV} (h : P.underlying t = some (.struct fs)) (hf : IsFs P fs.toList cs) : IsT P t (.agg cs)
  | ar {t : TypeId} {n : Nat} {e : TypeId} {cs : List AV} (h : P.underlying t = some (.array n e)) (hf : IsAr P e n cs) : IsT P t (.agg cs)
inductive IsFs (P : Program) : List Field → List AV → Prop
  | nil : IsFs P [] []
  | cons {f : Field} {fs : List Field} {x : AV} {cs : List AV} (hx : IsT P f.type x) (h : IsFs P fs cs) : IsFs P (f :: fs) (x.cells ++ cs)
inductive IsAr (P : Program) : TypeId → Nat → List AV → Prop
  | nil (e : TypeId) : IsAr P e 0 []
  | cons {e : TypeId} {n : Nat} {x : AV} {cs : List AV} (hx : IsT P e x) (h : IsAr P e n cs) : IsAr P e (n + 1) (x.cells ++ cs)
end

/-- Fields that lie one behind the other. -/
def tile (P : Program) : List Field → Nat → Nat → Bool
  | [], o, s => o == s
  | f :: fs, o, s => f.offset == o && tile P fs (o + P.cellsOf f.type) s

def plainT (P : Program) (T : List Nat) (t : Nat) : Bool :=
  match P.underlying t with
  | some .bool => true
  | some (.int _) => true
  | some .string => true
  | some (.slice e) => T.contains e && decide (0 < P.cellsOf e)
  | some (.struct fs) => tile P fs.toList 0 (P.cellsOf t) && fs.toList.all fun f => T.contains f.type
  | some (.array n e) => T.contains e && decide (n * P.cellsOf e = P.cellsOf t)
  | _ => false

/-- The world as a call from outside sees it. -/
def Ctx.top (S : Nat → Option Addr) (w : World) : Ctx := { m := fun _ => none, M := fun a => w.cell? a, B := fun a => w.cell? a, S := S }

def CR (c : Ctx) (ys : List AV) (cs : List Value) : Prop := ys.length = cs.length ∧ ∀ (j : Nat) (y : AV) (v : Value), ys[j]? = some y → cs[j]? = some v → Rel c y v ∧ v.oneCell' = true

theorem CR.nil (c : Ctx) : CR c [] [] := ⟨rfl, fun j y v h => by simp at h⟩

theorem CR.append {c : Ctx} {ys zs : List AV} {cs ds : List Value} (h : CR c ys cs) (k : CR c zs ds) : CR c (ys ++ zs) (cs ++ ds) := by
  refine ⟨by simp [h.1, k.1], fun j y v hy hv => ?_⟩
  by_cases q : j < ys.length
  · rw [List.getElem?_append_left q] at hy
    rw [List.getElem?_append_left (by rw [← h.1]; exact q)] at hv
    exact h.2 j y v hy hv
  · rw [List.getElem?_append_right (by omega)] at hy
    rw [List.getElem?_append_right (by rw [← h.1]; omega), ← h.1] at hv
    exact k.2 _ y v hy hv

theorem CR.one {c : Ctx} {x : AV} {v : Value} (h : Rel c x v) (h1 : v.oneCell' = true) : CR c [x] [v] := ⟨rfl, fun j y u hy hu => by
  cases j with
  | zero => simp at hy hu; subst hy hu; exact ⟨h, h1⟩
  | succ j => simp at hy⟩

theorem take_drop_split {α : Type} (cs : List α) (o n : Nat) : cs.drop o = (cs.drop o).take n ++ cs.drop (o + n) := by
  rw [← List.drop_drop, List.take_append_drop]

section
variable {H : Type} {enc : TypeId × Value → H} {P : Program} {w : World} {S : Nat → Option Addr} {sp : Nat → Bool} {T : List Nat}

theorem read_fields {n : Nat} (ih : ∀ (t : TypeId) (cs : List Value) (x : DataW H × List MemPlace), t ∈ T → DataW.trod enc P w 0 sp true n t cs = some x → ∃ y, IsT P t y ∧ CR (Ctx.top S w) y.cells cs) {cs : List Value} :
    ∀ (fs : List Field) (o : Nat), tile P fs o cs.length = true → (∀ f ∈ fs, f.type ∈ T) →
      (∀ f ∈ fs, ∃ x, DataW.trod enc P w 0 sp true n f.type ((cs.drop f.offset).take (P.cellsOf f.type)) = some x) → ∃ ys, IsFs P fs ys ∧ CR (Ctx.top S w) ys (cs.drop o)
  | [], o, ht, _, _ => by
    simp [tile] at ht
    subst ht
    exact ⟨[], .nil, by simpa using CR.nil _⟩
  | f :: fs, o, ht, hT, hx => by
    simp only [tile, Bool.and_eq_true, beq_iff_eq] at ht
    obtain ⟨x, hx0⟩ := hx f (by simp)
    obtain ⟨y, h1, h2⟩ := ih _ _ _ (hT f (by simp)) hx0
    obtain ⟨ys, h3, h4⟩ := read_fields ih fs (o + P.cellsOf f.type) ht.2 (fun g hg => hT g (by simp [hg])) (fun g hg => hx g (by simp [hg]))
    refine ⟨y.cells ++ ys, .cons h1 h3, ?_⟩
    rw [take_drop_split cs o (P.cellsOf f.type)]
    rw [ht.1] at h2
    exact h2.append h4

theorem read_array {n : Nat} (ih : ∀ (t : TypeId) (cs : List Value) (x : DataW H × List MemPlace), t ∈ T → DataW.trod enc P w 0 sp true n t cs = some x → ∃ y, IsT P t y ∧ CR (Ctx.top S w) y.cells cs) {cs : List Value} {e : TypeId} (he : e ∈ T) :
    ∀ (m i : Nat), (i + m) * P.cellsOf e = cs.length → (∀ j, i ≤ j → j < i + m → ∃ x, DataW.trod enc P w 0 sp true n e ((cs.drop (j * P.cellsOf e)).take (P.cellsOf e)) = some x) →
      ∃ ys, IsAr P e m ys ∧ CR (Ctx.top S w) ys (cs.drop (i * P.cellsOf e))
  | 0, i, hl, _ => by
    refine ⟨[], .nil e, ?_⟩
    rw [List.drop_eq_nil_of_le (by simp at hl; omega)]
    exact CR.nil _
  | m + 1, i, hl, hx => by
    obtain ⟨x, hx0⟩ := hx i (Nat.le_refl _) (by omega)
    obtain ⟨y, h1, h2⟩ := ih _ _ _ he hx0
    obtain ⟨ys, h3, h4⟩ := read_array ih he m (i + 1) (by rw [← hl]; congr 1; omega) (fun j h1 h2 => hx j (by omega) (by omega))
    refine ⟨y.cells ++ ys, .cons h1 h3, ?_⟩
    rw [take_drop_split cs (i * P.cellsOf e) (P.cellsOf e)]
    rw [Nat.add_mul, Nat.one_mul] at h4
    exact h2.append h4

theorem cells?_get {a : Addr} {n : Nat} {cs : List Value} (h : w.cells? 0 a n = some cs) : cs.length = n ∧ ∀ (j : Nat) (v : Value), cs[j]? = some v → w.cell? (a.add j) = some v := by
  unfold World.cells? at h
  rw [if_pos (Nat.zero_le _)] at h
  have hl : cs.length = n := by simpa using mapM_some_length h
  refine ⟨hl, fun j v hv => ?_⟩
  have hj : j < n := by rw [← hl]; exact (List.getElem?_eq_some_iff.1 hv).1
  have := mapM_some_get h j j (by simp [hj])
  rw [this, hv]

theorem spot_of_cell {a : Addr} {v : Value} (h : w.cell? a = some v) : a.spot = none := by
  unfold World.cell? at h
  split at h
  · split at h
    · cases h
    · rename_i q; simpa using q
  · cases h

theorem read_cells (hT : ∀ t ∈ T, plainT P T t = true) : ∀ (fuel : Nat) (t : TypeId) (cs : List Value) (x : DataW H × List MemPlace), t ∈ T → DataW.trod enc P w 0 sp true fuel t cs = some x →
    ∃ y, IsT P t y ∧ CR (Ctx.top S w) y.cells cs := by
  intro fuel
  induction fuel with
  | zero => intro t cs x _ h; simp [DataW.trod] at h
  | succ n ih =>
    intro t cs x ht h
    have hp := hT t ht
    unfold plainT at hp
    split at hp
    · rename_i hu
      obtain ⟨b, rfl, _⟩ := DataW.trod_bool hu h
      exact ⟨.bool b, .bool hu b, CR.one (.bool b) rfl⟩
    · rename_i k hu
      obtain ⟨m, rfl, _, hw⟩ := DataW.trod_int hu h
      exact ⟨.int k m, .int hu m hw, CR.one (.int k m) rfl⟩
    · rename_i hu
      obtain ⟨s, rfl, _, hs⟩ := DataW.trod_string hu h
      exact ⟨.str s, .str hu s hs, CR.one (.str s) rfl⟩
    · rename_i e hu
      simp only [Bool.and_eq_true, List.contains_iff_mem, decide_eq_true_eq] at hp
      rcases DataW.trod_slice hu h with ⟨rfl, _⟩ | ⟨a, len, cap, elems, rest, m, hm, rfl, _, _, hlc, hcm, hel, hget, _⟩
      · exact ⟨.ro false [], .sl hu (fun x hx => by cases hx) (by simp), CR.one (.roNil ..) rfl⟩
      · obtain rfl : n = m := by omega
        have each : ∀ i, i < len → ∃ y cs', w.cells? 0 (a.add (i * P.cellsOf e)) (P.cellsOf e) = some cs' ∧ IsT P e y ∧ CR (Ctx.top S w) y.cells cs' := by
          intro i hi
          have h1 := hget i hi
          rw [List.getElem?_eq_getElem (by omega), Option.bind_eq_some_iff] at h1
          obtain ⟨cs', h2, h3⟩ := h1
          obtain ⟨y, h4, h5⟩ := ih _ _ _ hp.1 h3
          exact ⟨y, cs', h2, h4, h5⟩
        obtain ⟨f, hf⟩ : ∃ f : Nat → AV, ∀ i, i < len → ∃ cs', w.cells? 0 (a.add (i * P.cellsOf e)) (P.cellsOf e) = some cs' ∧ IsT P e (f i) ∧ CR (Ctx.top S w) (f i).cells cs' := by
          refine ⟨fun i => if hi : i < len then (each i hi).choose else .undef, fun i hi => ?_⟩
          simp only [dif_pos hi]
          exact (each i hi).choose_spec
        refine ⟨.ro false ((List.range len).map f), .sl hu (fun y hy => ?_) (by simp; omega), CR.one ?_ rfl⟩
        · obtain ⟨i, hi, rfl⟩ := List.mem_map.1 hy
          obtain ⟨_, _, h2, _⟩ := hf i (List.mem_range.1 hi)
          exact h2
        · by_cases h0 : len = 0
          · subst h0; exact .roNil ..
          have hfi : ∀ (i : Nat) (y : AV), ((List.range len).map f)[i]? = some y → i < len ∧ y = f i := by
            intro i y hy
            simp only [List.getElem?_map] at hy
            by_cases q : i < len
            · rw [List.getElem?_range q] at hy; simp at hy; exact ⟨q, hy.symm⟩
            · rw [List.getElem?_eq_none (by simp; omega)] at hy; simp at hy
          have hsp : a.spot = none := by
            obtain ⟨cs', h1, h2, h3⟩ := hf 0 (by omega)
            obtain ⟨hl, hc⟩ := cells?_get h1
            have := hc 0 (cs'[0]'(by omega)) (List.getElem?_eq_getElem _)
            have := spot_of_cell this
            simpa [Addr.add] using this
          have hadd : ∀ m, a.add m = ⟨a.block, a.off + m, none⟩ := by
            intro m
            unfold Addr.add
            split
            · rename_i q; subst q; cases a; simp at hsp; subst hsp; rfl
            · rfl
          have hcell : ∀ (i : Nat) (y : AV) (j : Nat) (z : AV), ((List.range len).map f)[i]? = some y → y.cells[j]? = some z → ∃ v, w.cell? ⟨a.block, a.off + i * P.cellsOf e + j, a.spot⟩ = some v ∧ Rel (Ctx.top S w) z v ∧ v.oneCell' = true := by
            intro i y j z hy hz
            obtain ⟨hi, rfl⟩ := hfi i y hy
            obtain ⟨cs', h1, h2, h3⟩ := hf i hi
            obtain ⟨hl, hc⟩ := cells?_get h1
            have hj : j < cs'.length := by rw [← h3.1]; exact (List.getElem?_eq_some_iff.1 hz).1
            have h4 := hc j cs'[j] (List.getElem?_eq_getElem hj)
            have e1 : (a.add (i * P.cellsOf e)).add j = ⟨a.block, a.off + i * P.cellsOf e + j, none⟩ := by
              rw [hadd]
              unfold Addr.add
              split
              · rename_i q; subst q; rfl
              · rfl
            rw [e1] at h4
            exact ⟨cs'[j], by rw [hsp]; exact h4, h3.2 j z _ hz (List.getElem?_eq_getElem hj)⟩
          refine .ro (A := a) (V := fun i j => (w.cell? ⟨a.block, a.off + i * P.cellsOf e + j, a.spot⟩).getD default) (sz := P.cellsOf e) (by simp) hlc (.inr rfl) hsp (fun i y hy => ?_) (fun i y j z hy hz => ?_) (fun i y j z hy hz => ?_)
          · obtain ⟨hi, rfl⟩ := hfi i y hy
            obtain ⟨cs', h1, h2, h3⟩ := hf i hi
            rw [h3.1]; exact (cells?_get h1).1
          · obtain ⟨v, h1, h2, h3⟩ := hcell i y j z hy hz
            simp only [h1, Option.getD_some]; exact h2
          · obtain ⟨v, h1, h2, h3⟩ := hcell i y j z hy hz
            simp only [h1, Option.getD_some]
            refine ⟨?_, h3⟩
            show w.cell? _ = _
            rw [← hsp]; exact h1
    · rename_i fs hu
      simp only [Bool.and_eq_true, List.all_eq_true, List.contains_iff_mem] at hp
      obtain ⟨xs, m, hm, _, hl, hxl, hget⟩ := DataW.trod_struct hu h
      obtain rfl : n = m := by omega
      obtain ⟨ys, h1, h2⟩ := read_fields (S := S) (cs := cs) ih fs.toList 0 (by rw [hl]; exact hp.1) (fun f hf => hp.2 f hf) (fun f hf => by
        obtain ⟨i, hi⟩ := List.getElem?_of_mem hf
        have hi' : fs[i]? = some f := by simpa using hi
        have := hget i f hi'
        have hlt : i < xs.length := by rw [hxl]; exact (Array.getElem?_eq_some_iff.1 hi').1
        rw [List.getElem?_eq_getElem hlt] at this
        exact ⟨_, this⟩)
      exact ⟨.agg ys, .st hu h1, by simpa [AV.cells] using h2⟩
    · rename_i k e hu
      simp only [Bool.and_eq_true, List.contains_iff_mem, decide_eq_true_eq] at hp
      obtain ⟨xs, m, hm, _, hl, hxl, hget⟩ := DataW.trod_array hu h
      obtain rfl : n = m := by omega
      obtain ⟨ys, h1, h2⟩ := read_array (S := S) (cs := cs) ih hp.1 k 0 (by rw [hl]; simpa using hp.2) (fun j _ hj => by
        have := hget j (by omega)
        rw [List.getElem?_eq_getElem (by omega)] at this
        exact ⟨_, this⟩)
      exact ⟨.agg ys, .ar hu h1, by simpa [AV.cells] using h2⟩
    · cases hp

theorem rel_of_CR_one {c : Ctx} {y : AV} {v : Value} (h : CR c y.cells [v]) (hy : y.cells = [y]) : Rel c y v := by
  rw [hy] at h
  exact (h.2 0 y v rfl rfl).1

/-- One argument. -/
theorem read_arg (hT : ∀ t ∈ T, plainT P T t = true) {t : TypeId} {v : Value} {d : DataW H} {ps : List MemPlace} {r : Reach} {b0 : Nat} (ht : t ∈ T) (ok : Value.okWide P w r b0 t v) (h : DataW.Trod enc P w 0 sp true t v d ps) :
    ∃ y, IsT P t y ∧ Rel (Ctx.top S w) y v := by
  obtain ⟨fuel, hf⟩ := h
  obtain ⟨y, h1, h2⟩ := read_cells (S := S) hT _ _ _ _ ht hf
  refine ⟨y, h1, ?_⟩
  have hagg : ∀ cs : Array Value, v = .agg cs → ∀ ys, y = .agg ys → Rel (Ctx.top S w) y v := by
    intro cs hv ys hy
    subst hv hy
    simp only [Value.cells, AV.cells] at h2
    have : cs = cs.toList.toArray := by simp
    rw [this]
    refine .agg h2.1 (fun i x u hx hu => (h2.2 i x u hx hu).1) (fun u hu => ?_)
    obtain ⟨i, hi⟩ := List.getElem?_of_mem hu
    have hlt : i < ys.length := by rw [h2.1]; exact (List.getElem?_eq_some_iff.1 hi).1
    exact (h2.2 i _ u (List.getElem?_eq_getElem hlt) hi).2
  cases h1 with
  | bool hu b =>
    have : v.cells.toList = [v] := by
      simp only [Value.okWide, hu] at ok
      cases v <;> simp_all [Cell.okWide, Cell.ok, Value.cells]
    rw [this] at h2
    exact rel_of_CR_one h2 rfl
  | int hu n hw =>
    have : v.cells.toList = [v] := by
      simp only [Value.okWide, hu] at ok
      cases v <;> simp_all [Cell.okWide, Cell.ok, Value.cells]
    rw [this] at h2
    exact rel_of_CR_one h2 rfl
  | str hu s hs =>
    have : v.cells.toList = [v] := by
      simp only [Value.okWide, hu] at ok
      cases v <;> simp_all [Cell.okWide, Cell.ok, Value.cells]
    rw [this] at h2
    exact rel_of_CR_one h2 rfl
  | sl hu hx hl =>
    have : v.cells.toList = [v] := by
      simp only [Value.okWide, hu] at ok
      cases v <;> simp_all [Cell.okWide, Cell.ok, Value.cells]
    rw [this] at h2
    exact rel_of_CR_one h2 rfl
  | st hu hf =>
    simp only [Value.okWide, hu] at ok
    obtain ⟨cs, rfl, _, _⟩ := ok
    exact hagg cs rfl _ rfl
  | ar hu hf =>
    simp only [Value.okWide, hu] at ok
    obtain ⟨cs, rfl, _, _⟩ := ok
    exact hagg cs rfl _ rfl

theorem IsT.of_bool {t : TypeId} {x : AV} (hu : P.underlying t = some .bool) (h : IsT P t x) : ∃ b, x = .bool b := by
  cases h with
  | bool _ b => exact ⟨b, rfl⟩
  | int h' => rw [hu] at h'; cases h'
  | str h' => rw [hu] at h'; cases h'
  | sl h' => rw [hu] at h'; cases h'
  | st h' => rw [hu] at h'; cases h'
  | ar h' => rw [hu] at h'; cases h'

theorem IsT.of_int {t : TypeId} {k : IntKind} {x : AV} (hu : P.underlying t = some (.int k)) (h : IsT P t x) : ∃ n, x = .int k n ∧ (Lit.int k n).wf = true := by
  cases h with
  | int h' n hw => rw [hu] at h'; cases h'; exact ⟨n, rfl, hw⟩
  | bool h' => rw [hu] at h'; cases h'
  | str h' => rw [hu] at h'; cases h'
  | sl h' => rw [hu] at h'; cases h'
  | st h' => rw [hu] at h'; cases h'
  | ar h' => rw [hu] at h'; cases h'

theorem IsT.of_slice {t e : TypeId} {x : AV} (hu : P.underlying t = some (.slice e)) (h : IsT P t x) : ∃ xs, x = .ro false xs ∧ (∀ y ∈ xs, IsT P e y) ∧ xs.length ≤ maxLen := by
  cases h with
  | sl h' hx hl => rw [hu] at h'; cases h'; exact ⟨_, rfl, hx, hl⟩
  | bool h' => rw [hu] at h'; cases h'
  | int h' => rw [hu] at h'; cases h'
  | str h' => rw [hu] at h'; cases h'
  | st h' => rw [hu] at h'; cases h'
  | ar h' => rw [hu] at h'; cases h'

theorem IsT.of_struct {t : TypeId} {fs : Array Field} {x : AV} (hu : P.underlying t = some (.struct fs)) (h : IsT P t x) : ∃ cs, x = .agg cs ∧ IsFs P fs.toList cs := by
  cases h with
  | st h' hf => rw [hu] at h'; cases h'; exact ⟨_, rfl, hf⟩
  | bool h' => rw [hu] at h'; cases h'
  | int h' => rw [hu] at h'; cases h'
  | str h' => rw [hu] at h'; cases h'
  | sl h' => rw [hu] at h'; cases h'
  | ar h' => rw [hu] at h'; cases h'

theorem IsT.of_array {t e : TypeId} {n : Nat} {x : AV} (hu : P.underlying t = some (.array n e)) (h : IsT P t x) : ∃ cs, x = .agg cs ∧ IsAr P e n cs := by
  cases h with
  | ar h' hf => rw [hu] at h'; cases h'; exact ⟨_, rfl, hf⟩
  | bool h' => rw [hu] at h'; cases h'
  | int h' => rw [hu] at h'; cases h'
  | str h' => rw [hu] at h'; cases h'
  | sl h' => rw [hu] at h'; cases h'
  | st h' => rw [hu] at h'; cases h'

/-- The elements of a slice, by what they are. -/
theorem map_of_forall {α : Type} (e : α → AV) (p : α → Prop) : ∀ {xs : List AV}, (∀ x ∈ xs, ∃ a, x = e a ∧ p a) → ∃ l : List α, xs = l.map e ∧ ∀ a ∈ l, p a
  | [], _ => ⟨[], rfl, fun a h => by cases h⟩
  | x :: xs, h => by
    obtain ⟨a, rfl, ha⟩ := h x (by simp)
    obtain ⟨l, rfl, hl⟩ := map_of_forall e p (xs := xs) (fun y hy => h y (by simp [hy]))
    exact ⟨a :: l, rfl, fun b hb => by rcases List.mem_cons.1 hb with rfl | hb; exact ha; exact hl b hb⟩

/-- A slice of whole numbers. -/
theorem IsT.of_ints {t e : TypeId} {k : IntKind} {x : AV} (hu : P.underlying t = some (.slice e)) (he : P.underlying e = some (.int k)) (h : IsT P t x) :
    ∃ l : List Int, x = .ro false (l.map (.int k)) ∧ (∀ n ∈ l, (Lit.int k n).wf = true) ∧ l.length ≤ maxLen := by
  obtain ⟨xs, rfl, hx, hl⟩ := h.of_slice hu
  obtain ⟨l, rfl, h2⟩ := map_of_forall (.int k) (fun n => (Lit.int k n).wf = true) (fun y hy => (hx y hy).of_int he)
  exact ⟨l, rfl, h2, by simpa using hl⟩

inductive IsTs (P : Program) : List TypeId → List AV → Prop
  | nil : IsTs P [] []
  | cons {t : TypeId} {ts : List TypeId} {x : AV} {xs : List AV} (h : IsT P t x) (hs : IsTs P ts xs) : IsTs P (t :: ts) (x :: xs)

theorem IsTs.uncons {t : TypeId} {ts : List TypeId} {ys : List AV} (h : IsTs P (t :: ts) ys) : ∃ x xs, ys = x :: xs ∧ IsT P t x ∧ IsTs P ts xs := by
  cases h with
  | cons h hs => exact ⟨_, _, rfl, h, hs⟩

theorem IsTs.unnil {ys : List AV} (h : IsTs P [] ys) : ys = [] := by
  cases h; rfl

theorem read_args (hT : ∀ t ∈ T, plainT P T t = true) {r : Reach} {b0 : Nat} : ∀ {ts : List TypeId} {vs : List Value} {ds : List (DataW H)} {ps : List MemPlace}, (∀ t ∈ ts, t ∈ T) →
    (∀ (j : Nat) t v, ts[j]? = some t → vs[j]? = some v → Value.okWide P w r b0 t v) → DataW.TrodAll enc P w 0 sp true ts vs ds ps → ∃ xs, IsTs P ts xs ∧ RelL (Ctx.top S w) xs vs
  | [], vs, ds, ps, _, _, h => by
    obtain ⟨rfl, rfl, rfl⟩ := trodAll_nil h
    exact ⟨[], .nil, .nil⟩
  | t :: ts, vs, ds, ps, hm, ok, h => by
    obtain ⟨v, vs', d, ds', p, q, rfl, rfl, rfl, hd, hr⟩ := trodAll_cons h
    obtain ⟨x, h1, h2⟩ := read_arg (S := S) hT (hm t (by simp)) (ok 0 t v rfl rfl) hd
    obtain ⟨xs, h3, h4⟩ := read_args hT (fun u hu => hm u (by simp [hu])) (fun j u v' h1 h2 => ok (j + 1) u v' (by simpa using h1) (by simpa using h2)) hr
    exact ⟨x :: xs, .cons h1 h3, .cons h2 h4⟩

/-- They read as they did. -/
theorem reread_args (hl : laidOutB P = true) {w' : World} (hb : Below w.heap.size w w') : ∀ {ts : List TypeId} {vs : List Value} {ds : List (DataW H)} {ps : List MemPlace}, (∀ t ∈ ts, P.readableRec t = true ∧ t < P.types.size) →
    DataW.TrodAll enc P w 0 (fun _ => true) true ts vs ds ps → DataW.TrodAll enc P w' 0 (fun b => decide (b < w.heap.size)) true ts vs ds ps
  | [], vs, ds, ps, _, h => by
    obtain ⟨rfl, rfl, rfl⟩ := trodAll_nil h
    exact rfl
  | t :: ts, vs, ds, ps, hm, h => by
    obtain ⟨v, vs', d, ds', p, q, rfl, rfl, rfl, hd, hr⟩ := trodAll_cons h
    have hd' := hd
    obtain ⟨m, hm'⟩ := hd'
    exact ⟨p, q, Below.trod hl (hm t (by simp)).1 (hm t (by simp)).2 hd hb (DataW.trod_lt m _ _ _ hm'), reread_args hl hb (fun u hu => hm u (by simp [hu])) hr, rfl⟩
end

end Go.Proofs.YtdfglgnflldkpaaDoor.Mir
