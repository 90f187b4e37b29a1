/- Mirror, part K: what is handed to a function that keeps nothing; contracts of functions. -/
import Derived.Test.YtdfglgnflldkpaaDoorMirJ
namespace Go.Proofs.YtdfglgnflldkpaaDoor.Mir
open Go
set_option linter.unusedVariables false
set_option linter.unusedSimpArgs false

mutual
/-- No reference to an own block. -/
def plainB : AV → Bool
  | .ptr .. => false
  | .sl .. => false
  | .fn _ caps => plainL caps
  | .iface _ v => plainB v
  | .agg cs => plainL cs
  | .tup vs => plainL vs
  | .ro _ xs => plainL xs
  | .rp _ x _ => plainB x
  | .undef => true
  | .bool _ => true
  | .int .. => true
  | .str _ => true
  | .nilp => true
  | .nilf => true
  | .nili => true
  | .gl _ => true
  | .gp _ => true
  | .nils => true
  | .anyb => true
def plainL : List AV → Bool
  | [] => true
  | x :: xs => plainB x && plainL xs
end

mutual
/-- No reference to an own block, and nothing borrowed. -/
def cleanB : AV → Bool
  | .ptr .. => false
  | .sl .. => false
  | .fn _ caps => cleanL caps
  | .iface _ v => cleanB v
  | .agg cs => cleanL cs
  | .tup vs => cleanL vs
  | .ro bor xs => !bor && cleanL xs
  | .rp bor x _ => !bor && cleanB x
  | .undef => true
  | .bool _ => true
  | .int .. => true
  | .str _ => true
  | .nilp => true
  | .nilf => true
  | .nili => true
  | .gl _ => true
  | .gp _ => true
  | .nils => true
  | .anyb => true
def cleanL : List AV → Bool
  | [] => true
  | x :: xs => cleanB x && cleanL xs
end

theorem plainL_get : ∀ {xs : List AV} (_ : plainL xs = true) {i : Nat} {x : AV} (_ : xs[i]? = some x), plainB x = true
  | [], _, _, _, hx => by simp at hx
  | y :: xs, h, i, x, hx => by
    simp only [plainL, Bool.and_eq_true] at h
    cases i with
    | zero => simp at hx; subst hx; exact h.1
    | succ i => simp at hx; exact plainL_get h.2 hx

theorem cleanL_get : ∀ {xs : List AV} (_ : cleanL xs = true) {i : Nat} {x : AV} (_ : xs[i]? = some x), cleanB x = true
  | [], _, _, _, hx => by simp at hx
  | y :: xs, h, i, x, hx => by
    simp only [cleanL, Bool.and_eq_true] at h
    cases i with
    | zero => simp at hx; subst hx; exact h.1
    | succ i => simp at hx; exact cleanL_get h.2 hx

theorem plainL_map {α : Type} (e : α → AV) (h : ∀ a, plainB (e a) = true) : ∀ xs : List α, plainL (xs.map e) = true
  | [] => rfl
  | x :: xs => by simp [plainL, h x, plainL_map e h xs]

theorem cleanL_map {α : Type} (e : α → AV) (h : ∀ a, cleanB (e a) = true) : ∀ xs : List α, cleanL (xs.map e) = true
  | [] => rfl
  | x :: xs => by simp [cleanL, h x, cleanL_map e h xs]

theorem plain_cells {x : AV} (h : plainB x = true) : plainL x.cells = true := by
  cases x <;> simp_all [AV.cells, plainL, plainB]

theorem clean_cells {x : AV} (h : cleanB x = true) : cleanL x.cells = true := by
  cases x <;> simp_all [AV.cells, cleanL, cleanB]

/-- What has no reference is the same wherever the own blocks lie. -/
theorem Rel.plain {c c' : Ctx} (hM : ∀ a v, c.M a = some v → c'.M a = some v) (hB : ∀ a v, c.B a = some v → c'.B a = some v) (hS : c'.S = c.S) {x : AV} {v : Value} (h : Rel c x v) :
    plainB x = true → Rel c' x v := by
  have hmem : ∀ bor a v, c.mem bor a = some v → c'.mem bor a = some v := fun bor a v => by cases bor <;> simp only [Ctx.mem]; exact hM a v; exact hB a v
  induction h with
  | undef v => exact fun _ => .undef v
  | bool b => exact fun _ => .bool b
  | int k n => exact fun _ => .int k n
  | str s => exact fun _ => .str s
  | nilp => exact fun _ => .nilp
  | nilf => exact fun _ => .nilf
  | nili => exact fun _ => .nili
  | fn hl _ ih => exact fun hp => .fn hl (fun i x v h1 h2 => ih i x v h1 h2 (plainL_get (by simpa [plainB] using hp) h1))
  | iface _ ih => exact fun hp => .iface (ih (by simpa [plainB] using hp))
  | agg hl _ h1 ih => exact fun hp => .agg hl (fun i x v h1 h2 => ih i x v h1 h2 (plainL_get (by simpa [plainB] using hp) h1)) h1
  | tup hl _ ih => exact fun hp => .tup hl (fun i x v h1 h2 => ih i x v h1 h2 (plainL_get (by simpa [plainB] using hp) h1))
  | ptr => exact fun hp => by simp [plainB] at hp
  | ptrStale => exact fun hp => by simp [plainB] at hp
  | sl => exact fun hp => by simp [plainB] at hp
  | slVirt => exact fun hp => by simp [plainB] at hp
  | slStale => exact fun hp => by simp [plainB] at hp
  | ro hn hcap ha hA hsz _ hm ih =>
    intro hp
    refine .ro hn hcap ha hA hsz (fun i x j y h1 h2 => ih i x j y h1 h2 ?_) (fun i x j y h1 h2 => ⟨hmem _ _ _ (hm i x j y h1 h2).1, (hm i x j y h1 h2).2⟩)
    exact plainL_get (plain_cells (plainL_get (by simpa [plainB] using hp) h1)) h2
  | rp _ hm ih =>
    intro hp
    refine .rp (fun j y h1 => ih j y h1 ?_) (fun j y h1 => ⟨hmem _ _ _ (hm j y h1).1, (hm j y h1).2⟩)
    exact plainL_get (plain_cells (by simpa [plainB] using hp)) h1
  | gl g => exact fun _ => .gl g
  | gp h => exact fun _ => .gp (by rw [hS]; exact h)
  | nils => exact fun _ => .nils
  | anyb b => exact fun _ => .anyb b

/-- What is clean hangs on the cells that are laid for good alone. -/
theorem Rel.clean {c c' : Ctx} (hM : ∀ a v, c.M a = some v → c'.M a = some v) (hS : c'.S = c.S) {x : AV} {v : Value} (h : Rel c x v) :
    cleanB x = true → Rel c' x v := by
  induction h with
  | undef v => exact fun _ => .undef v
  | bool b => exact fun _ => .bool b
  | int k n => exact fun _ => .int k n
  | str s => exact fun _ => .str s
  | nilp => exact fun _ => .nilp
  | nilf => exact fun _ => .nilf
  | nili => exact fun _ => .nili
  | fn hl _ ih => exact fun hp => .fn hl (fun i x v h1 h2 => ih i x v h1 h2 (cleanL_get (by simpa [cleanB] using hp) h1))
  | iface _ ih => exact fun hp => .iface (ih (by simpa [cleanB] using hp))
  | agg hl _ h1 ih => exact fun hp => .agg hl (fun i x v h1 h2 => ih i x v h1 h2 (cleanL_get (by simpa [cleanB] using hp) h1)) h1
  | tup hl _ ih => exact fun hp => .tup hl (fun i x v h1 h2 => ih i x v h1 h2 (cleanL_get (by simpa [cleanB] using hp) h1))
  | ptr => exact fun hp => by simp [cleanB] at hp
  | ptrStale => exact fun hp => by simp [cleanB] at hp
  | sl => exact fun hp => by simp [cleanB] at hp
  | slVirt => exact fun hp => by simp [cleanB] at hp
  | slStale => exact fun hp => by simp [cleanB] at hp
  | ro hn hcap ha hA hsz _ hm ih =>
    intro hp
    simp only [cleanB, Bool.and_eq_true, Bool.not_eq_true'] at hp
    obtain ⟨hb, hp⟩ := hp
    subst hb
    refine .ro hn hcap ha hA hsz (fun i x j y h1 h2 => ih i x j y h1 h2 ?_) (fun i x j y h1 h2 => ⟨hM _ _ (hm i x j y h1 h2).1, (hm i x j y h1 h2).2⟩)
    exact cleanL_get (clean_cells (cleanL_get hp h1)) h2
  | rp _ hm ih =>
    intro hp
    simp only [cleanB, Bool.and_eq_true, Bool.not_eq_true'] at hp
    obtain ⟨hb, hp⟩ := hp
    subst hb
    refine .rp (fun j y h1 => ih j y h1 ?_) (fun j y h1 => ⟨hM _ _ (hm j y h1).1, (hm j y h1).2⟩)
    exact cleanL_get (clean_cells hp) h1
  | gl g => exact fun _ => .gl g
  | gp h => exact fun _ => .gp (by rw [hS]; exact h)
  | nils => exact fun _ => .nils
  | anyb b => exact fun _ => .anyb b

/-! ### Contracts -/

/-- What a function leaves behind. -/
structure Ret (G : Globs) (c : Ctx) (w : World) (r : AV) (H' : AHeap) (v : Value) (w' : World) (c' : Ctx) : Prop where
  step : Step c w c' w'
  good : Good G c' w'
  heap : HeapAt c' H' w'
  dom : Dom c' H'
  rel : Rel c' r v

abbrev Den := List AV → AHeap → Option (AV × AHeap)

structure Sound (P : Program) (G : Globs) (f : Nat) (g : Den) : Prop where
  here : ∃ fn, P.funcs[f]? = some fn ∧ fn.body.isSome = true ∧ (fn.name == "runtime.NumGoroutine") = false
  calls : ∀ args H r H', g args H = some (r, H') → ∀ c w vs, Good G c w → HeapAt c H w → Dom c H → RelL c args vs →
    Calls P f vs.toArray w (fun e w' => ∃ v c', e = .returned v ∧ Ret G c w r H' v w' c')

theorem Sound.mono {P : Program} {G : Globs} {f : Nat} {g g' : Den} (h : Sound P G f g) (hg : ∀ args H x, g' args H = some x → g args H = some x) : Sound P G f g' :=
  ⟨h.here, fun args H r H' hr => h.calls args H r H' (hg _ _ _ hr)⟩

/-- Cells, those that bear references to own blocks as if nothing were known of them. -/
def maskL : List AV → List AV
  | [] => []
  | x :: xs => (if plainB x then x else .undef) :: maskL xs
theorem maskL_len : ∀ xs : List AV, (maskL xs).length = xs.length
  | [] => rfl
  | x :: xs => by simp [maskL, maskL_len xs]
theorem maskL_get : ∀ (xs : List AV) (j : Nat) (z : AV), (maskL xs)[j]? = some z → ∃ y, xs[j]? = some y ∧ plainB z = true ∧ (z = y ∨ z = .undef)
  | [], j, z, h => by simp [maskL] at h
  | x :: xs, 0, z, h => by
    simp [maskL] at h
    refine ⟨x, rfl, ?_⟩
    by_cases hp : plainB x = true
    · rw [if_pos hp] at h; subst h; exact ⟨hp, .inl rfl⟩
    · rw [if_neg hp] at h; subst h; exact ⟨rfl, .inr rfl⟩
  | x :: xs, j + 1, z, h => by
    simp [maskL] at h
    exact maskL_get xs j z h

/-- One argument of a call that keeps nothing: own slices and what own pointers point to, as they are now. -/
def snap1 (H : AHeap) (x : AV) : Option AV :=
  match x with
  | .sl b L o n sz => match elemsOf (.sl b L o n sz) H with
    | some ys => if plainL ys && allSz sz ys then some (.ro true ys) else none
    | none => none
  | .ptr b L i o => match H[b]? with
    | some blk => if blk.elems.length = L then (match blk.elems[i]? with | some y => if plainB y then some (.rp true y o) else (match y with | .agg cs => some (.rp true (.agg (maskL cs)) o) | _ => none) | none => none) else none
    | none => none
  | x => if plainB x then some x else none

def snapCells (H : AHeap) : List AV → Option (List AV)
  | [] => some []
  | x :: xs => match snap1 H x, snapCells H xs with
    | some y, some ys => some (y :: ys)
    | _, _ => none

def snap (H : AHeap) (x : AV) : Option AV :=
  match x with
  | .agg cs => (snapCells H cs).map .agg
  | x => snap1 H x

def snapL (H : AHeap) : List AV → Option (List AV)
  | [] => some []
  | x :: xs => match snap H x, snapL H xs with
    | some y, some ys => some (y :: ys)
    | _, _ => none

def pureCall (g : Den) (args : List AV) (H : AHeap) : Option (AV × AHeap) :=
  match snapL H args with
  | some as => match g as [] with
    | some (r, []) => if cleanB r then some (r, H) else none
    | _ => none
  | none => none

/-- The world as a function that keeps nothing sees it. -/
def Ctx.bare (c : Ctx) (w : World) : Ctx := { m := fun _ => none, M := c.M, B := fun a => w.cell? a, S := c.S }

theorem snap1_sound {G : Globs} {c : Ctx} {w : World} {H : AHeap} (hg : Good G c w) (hH : HeapAt c H w) {x y : AV} (h : snap1 H x = some y) {v : Value} (hx : Rel c x v) : Rel (c.bare w) y v := by
  have pl : ∀ (z : AV) (u : Value), Rel c z u → plainB z = true → Rel (c.bare w) z u := fun z u hz hp => Rel.plain (c := c) (c' := c.bare w) (fun _ _ h => h) (fun a v h => hg.holds a v h) rfl hz hp
  unfold snap1 at h
  split at h
  · rename_i b L o n sz
    split at h
    case h_2 => cases h
    rename_i ys hys
    split at h
    case isFalse => cases h
    rename_i hp
    simp only [Bool.and_eq_true] at hp
    simp at h; subst h
    obtain ⟨a, m, cap, rfl, hl, hcap, hcells⟩ := elemsOf_sound hys hg hH hx hp.2
    rcases hcells with rfl | ⟨A, rfl, hA, hcells⟩
    · simp at hl; subst hl; exact .roNil ..
    · have hsz : ∀ y ∈ ys, y.cells.length = sz := fun y hy => by have := List.all_eq_true.1 hp.2 y hy; simpa using this
      have get : ∀ (i : Nat) (z : AV) (j : Nat) (y : AV), ys[i]? = some z → z.cells[j]? = some y → ∃ u, w.cell? ⟨A.block, A.off + i * sz + j, none⟩ = some u ∧ Rel c y u ∧ u.oneCell' = true := by
        intro i z j y hz hy
        have hj : j < sz := by rw [← hsz z (List.mem_of_getElem? hz)]; exact (List.getElem?_eq_some_iff.1 hy).1
        have := hcells (i * sz + j) y (by rw [flat_get hsz hz hj]; exact hy)
        rwa [← Nat.add_assoc] at this
      refine .ro (A := A) (V := fun i j => (w.cell? ⟨A.block, A.off + i * sz + j, none⟩).getD default) (sz := sz) hl hcap (.inr rfl) hA (fun i z hz => hsz z (List.mem_of_getElem? hz)) (fun i z j y hz hy => ?_) (fun i z j y hz hy => ?_)
      · obtain ⟨u, g1, g2, g3⟩ := get i z j y hz hy
        simp only [g1, Option.getD_some]
        exact pl _ _ g2 (plainL_get (plain_cells (plainL_get hp.1 hz)) hy)
      · obtain ⟨u, g1, g2, g3⟩ := get i z j y hz hy
        simp only [g1, Option.getD_some]
        exact ⟨g1, g3⟩
  · rename_i b L i o
    split at h
    case h_2 => cases h
    rename_i blk hb
    split at h
    case isFalse => cases h
    rename_i hL
    split at h
    case h_2 => cases h
    rename_i y hy
    split at h
    case isFalse =>
      cases y with
      | agg cs =>
        simp at h; subst h
        cases hx with
        | ptrStale a hm hl => have := hH.valid hb hm; omega
        | ptr hm hl hv =>
          rename_i inf
          have hB := (hH.blk _ _ _ hb hm).at hv hy
          refine .rp (A := ⟨inf.idx, i * inf.sz, none⟩) (V := fun j => (w.cell? ⟨inf.idx, i * inf.sz + j, none⟩).getD default) (fun j z hz => ?_) (fun j z hz => ?_)
          · obtain ⟨z', hz', hp, e⟩ := maskL_get _ _ _ hz
            obtain ⟨u, g1, g2, g3⟩ := hB j z' hz'
            simp only [g1, Option.getD_some]
            rcases e with rfl | rfl
            · exact pl _ _ g2 hp
            · exact .undef _
          · obtain ⟨z', hz', hp, e⟩ := maskL_get _ _ _ hz
            obtain ⟨u, g1, g2, g3⟩ := hB j z' hz'
            simp only [g1, Option.getD_some]
            exact ⟨g1, g3⟩
      | _ => cases h
    rename_i hp
    simp at h; subst h
    cases hx with
    | ptrStale a hm hl => have := hH.valid hb hm; omega
    | ptr hm hl hv =>
      rename_i inf
      have hB := (hH.blk _ _ _ hb hm).at hv hy
      refine .rp (A := ⟨inf.idx, i * inf.sz, none⟩) (V := fun j => (w.cell? ⟨inf.idx, i * inf.sz + j, none⟩).getD default) (fun j z hz => ?_) (fun j z hz => ?_)
      · obtain ⟨u, g1, g2, g3⟩ := hB j z hz
        simp only [g1, Option.getD_some]
        exact pl _ _ g2 (plainL_get (plain_cells hp) hz)
      · obtain ⟨u, g1, g2, g3⟩ := hB j z hz
        simp only [g1, Option.getD_some]
        exact ⟨g1, g3⟩
  · split at h
    · rename_i hp
      simp at h; subst h
      exact pl _ _ hx hp
    · cases h

theorem snapCells_sound {G : Globs} {c : Ctx} {w : World} {H : AHeap} (hg : Good G c w) (hH : HeapAt c H w) : ∀ {xs ys : List AV} (_ : snapCells H xs = some ys) {vs : List Value} (_ : RelL c xs vs), RelL (c.bare w) ys vs
  | [], ys, h, vs, hx => by
    simp [snapCells] at h; subst h
    have : vs = [] := List.eq_nil_of_length_eq_zero hx.1.symm
    subst this; exact .nil
  | x :: xs, ys, h, vs, hx => by
    simp only [snapCells] at h
    split at h
    · rename_i y ys' h1 h2
      simp at h; subst h
      cases vs with
      | nil => have := hx.1; simp at this
      | cons v vs => exact .cons (snap1_sound hg hH h1 hx.head) (snapCells_sound hg hH h2 hx.tail)
    · cases h

theorem snap_sound {G : Globs} {c : Ctx} {w : World} {H : AHeap} (hg : Good G c w) (hH : HeapAt c H w) {x y : AV} (h : snap H x = some y) {v : Value} (hx : Rel c x v) : Rel (c.bare w) y v := by
  unfold snap at h
  split at h
  · obtain ⟨ys, h1, rfl⟩ := Option.map_eq_some_iff.1 h
    obtain ⟨vs, rfl, hr, h1'⟩ := hx.of_agg
    have := snapCells_sound hg hH h1 hr
    exact .agg this.1 this.2 h1'
  · exact snap1_sound hg hH h hx

theorem snapL_sound {G : Globs} {c : Ctx} {w : World} {H : AHeap} (hg : Good G c w) (hH : HeapAt c H w) : ∀ {xs ys : List AV} (_ : snapL H xs = some ys) {vs : List Value} (_ : RelL c xs vs), RelL (c.bare w) ys vs
  | [], ys, h, vs, hx => by
    simp [snapL] at h; subst h
    have : vs = [] := List.eq_nil_of_length_eq_zero hx.1.symm
    subst this; exact .nil
  | x :: xs, ys, h, vs, hx => by
    simp only [snapL] at h
    split at h
    · rename_i y ys' h1 h2
      simp at h; subst h
      cases vs with
      | nil => have := hx.1; simp at this
      | cons v vs => exact .cons (snap_sound hg hH h1 hx.head) (snapL_sound hg hH h2 hx.tail)
    · cases h

end Go.Proofs.YtdfglgnflldkpaaDoor.Mir
