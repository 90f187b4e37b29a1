/- Mirror, part D: parts, places, pieces of abstract values. -/
import Derived.Test.YtdfglgnflldkpaaDoorMirC
namespace Go.Proofs.YtdfglgnflldkpaaDoor.Mir
open Go
set_option linter.unusedVariables false
set_option linter.unusedSimpArgs false

def tsz (P : Program) (t : Nat) : Option Nat := (P.info? t).map (·.size)

def aggOf (P : Program) (t : Nat) : Option Bool := (P.underlying t).map fun | .struct _ => true | .array _ _ => true | _ => false

theorem tsz_run {P : Program} {t s : Nat} (h : tsz P t = some s) (w : World) : (sizeOf t).run P w = .ok s w := by
  unfold tsz at h
  obtain ⟨i, hi, rfl⟩ := Option.map_eq_some_iff.1 h
  simp [sizeOf, typeInfo, hi]

theorem aggOf_run {P : Program} {t : Nat} {b : Bool} (h : aggOf P t = some b) (w : World) : (isAgg t).run P w = .ok b w := by
  unfold aggOf at h
  obtain ⟨d, hd, rfl⟩ := Option.map_eq_some_iff.1 h
  cases d <;> simp [isAgg, run_underlying hd]

/-- A variable of so many cells out of these. -/
def loadC (agg : Bool) (size : Nat) (cs : List AV) (o : Nat) : Option AV :=
  match agg with
  | true => if o + size ≤ cs.length then some (.agg ((cs.drop o).take size)) else none
  | false => cs[o]?

def partA (P : Program) (t : Nat) (cs : List AV) (o : Nat) : Option AV :=
  match aggOf P t, tsz P t with
  | some a, some s => loadC a s cs o
  | _, _ => none

theorem partA_sound {P : Program} {t o : Nat} {cs : List AV} {r : AV} (h : partA P t cs o = some r) {c : Ctx} {w : World} {vs : List Value} (hr : RelL c cs vs) (h1 : ∀ u ∈ vs, u.oneCell' = true) :
    ∃ v, (part t vs.toArray o).run P w = .ok v w ∧ Rel c r v := by
  unfold partA at h
  split at h
  case h_2 => cases h
  rename_i a s ha hs
  cases a with
  | true =>
    simp only [loadC] at h
    split at h
    · rename_i hl
      simp at h; subst h
      refine ⟨.agg ((vs.drop o).take s).toArray, ?_, .agg ?_ ?_ ?_⟩
      · simp only [part, Sem.run_bind, aggOf_run ha, Result.andThen_ok, if_true, tsz_run hs, Sem.run_pure]
        have : (vs.toArray).extract o (o + s) = ((vs.drop o).take s).toArray := by
          simp [List.extract_toArray, List.extract]
        rw [this]
      · have := hr.1
        simp only [List.length_take, List.length_drop]
        omega
      · intro i x v hx hv
        rw [List.getElem?_take] at hx hv
        split at hx
        · rw [List.getElem?_drop] at hx hv
          simp only [*, if_true] at hv
          exact hr.2 _ _ _ hx hv
        · cases hx
      · intro v hv
        exact h1 v (List.mem_of_mem_drop (List.mem_of_mem_take hv))
    · cases h
  | false =>
    simp only [loadC] at h
    obtain ⟨v, h2, h3⟩ := hr.get h
    exact ⟨v, by simp [part, aggOf_run ha, h2], h3⟩

def fieldV (g : Bool) (s off : Nat) (x : AV) : Option AV :=
  match x with
  | .agg cs => loadC g s cs off
  | _ => none

def fieldA (P : Program) (t : Nat) (x : AV) (f : Nat) : Option AV :=
  match P.underlying t with
  | some (.struct fs) => match fs[f]? with
    | some f => match aggOf P f.type, tsz P f.type with
      | some g, some s => fieldV g s f.offset x
      | _, _ => none
    | none => none
  | _ => none

theorem fieldA_sound {P : Program} {t f : Nat} {x r : AV} (h : fieldA P t x f = some r) {c : Ctx} {w : World} {vx : Value} (hx : Rel c x vx) :
    ∃ v, (Instr.field t vx f).run P w = .ok v w ∧ Rel c r v := by
  unfold fieldA at h
  split at h
  case h_2 => cases h
  rename_i fs hfs
  split at h
  case h_2 => cases h
  rename_i fd hfd
  split at h
  case h_2 => cases h
  rename_i g s hg hs
  unfold fieldV at h
  split at h
  case h_2 => cases h
  obtain ⟨vs, rfl, hr, h1⟩ := hx.of_agg
  obtain ⟨v, e1, e2⟩ := partA_sound (P := P) (t := fd.type) (by unfold partA; rw [hg, hs]; exact h) (w := w) hr h1
  exact ⟨v, by simp [Instr.field, run_underlying hfs, hfd, asAgg, e1], e2⟩

def idxArr (g : Bool) (s len : Nat) (x i : AV) : Option AV :=
  match x, i with
  | .agg cs, .int _ n => if 0 ≤ n ∧ n < len then loadC g s cs (n.toNat * s) else none
  | _, _ => none

def idxStr (x i : AV) : Option AV :=
  match x, i with
  | .str s, .int _ n => (if 0 ≤ n then s[n.toNat]? else none).map fun b => .int .u8 b.toNat
  | _, _ => none

def indexA (P : Program) (t : Nat) (x i : AV) : Option AV :=
  match P.underlying t with
  | some (.array len e) => match aggOf P e, tsz P e with
    | some g, some s => idxArr g s len x i
    | _, _ => none
  | some .string => idxStr x i
  | _ => none

theorem indexA_sound {P : Program} {t : Nat} {x i r : AV} (h : indexA P t x i = some r) {c : Ctx} {w : World} {vx vi : Value} (hx : Rel c x vx) (hi : Rel c i vi) :
    ∃ v, (Instr.index t vx vi).run P w = .ok v w ∧ Rel c r v := by
  unfold indexA at h
  split at h
  · rename_i len e hd
    split at h
    case h_2 => cases h
    rename_i g s hg hs
    unfold idxArr at h
    split at h
    case h_2 => cases h
    obtain rfl := hi.of_int
    obtain ⟨vs, rfl, hr, h1⟩ := hx.of_agg
    split at h
    case isFalse => cases h
    rename_i hn
    obtain ⟨v, e1, e2⟩ := partA_sound (P := P) (t := e) (by unfold partA; rw [hg, hs]; exact h) (w := w) hr h1
    exact ⟨v, by simp [Instr.index, asIntOf, run_underlying hd, hn, tsz_run hs, e1], e2⟩
  · rename_i hd
    unfold idxStr at h
    split at h
    case h_2 => cases h
    obtain rfl := hi.of_int
    obtain rfl := hx.of_str
    obtain ⟨b, hb, rfl⟩ := Option.map_eq_some_iff.1 h
    exact ⟨_, by simp [Instr.index, asIntOf, run_underlying hd, hb], .int _ _⟩
  · cases h

/-! ### Places -/

def fieldAddrV (off : Nat) (x : AV) : Option AV :=
  match x with
  | .ptr b L i o => some (.ptr b L i (o + off))
  | .rp bor x o => some (.rp bor x (o + off))
  | _ => none

def fieldAddrA (P : Program) (t : Nat) (x : AV) (f : Nat) : Option AV :=
  match P.underlying t with
  | some (.struct fs) => match fs[f]? with
    | some f => match tsz P f.type with
      | some s => if s = 0 then none else fieldAddrV f.offset x
      | none => none
    | none => none
  | _ => none

theorem fieldAddrA_sound {P : Program} {t f : Nat} {x r : AV} (h : fieldAddrA P t x f = some r) {c : Ctx} {w : World} {vx : Value} (hx : Rel c x vx) :
    ∃ v, (Instr.fieldAt t vx f).run P w = .ok v w ∧ Rel c r v := by
  unfold fieldAddrA at h
  split at h
  case h_2 => cases h
  rename_i fs hfs
  split at h
  case h_2 => cases h
  rename_i fd hfd
  split at h
  case h_2 => cases h
  rename_i s hs
  split at h
  case isTrue => cases h
  rename_i hs0
  have run : ∀ a : Addr, (Instr.fieldAt t (.pointer (some a)) f).run P w = .ok (.pointer (some (a.add fd.offset))) w := fun a => by
    simp [Instr.fieldAt, run_underlying hfs, hfd, Instr.sureAddr, fieldPlace, tsz_run hs, hs0]
  unfold fieldAddrV at h
  split at h
  · simp at h; subst h
    cases hx with
    | ptr hm hL hv => exact ⟨_, run _, by rw [Addr.add_lit, Nat.add_assoc]; exact .ptr hm hL hv⟩
    | ptrStale a hm hL => exact ⟨_, run _, .ptrStale _ hm hL⟩
  · simp at h; subst h
    cases hx with
    | rp h1 h2 => exact ⟨_, run _, by rw [Addr.add_lit, Nat.add_assoc]; exact .rp h1 h2⟩
  · cases h

/-- Elements of so many cells each. -/
def allSz (s : Nat) (xs : List AV) : Bool := xs.all fun x => x.cells.length == s

def idxAddrSl (s : Nat) (x i : AV) : Option AV :=
  match x, i with
  | .ro bor xs, .int _ n => if 0 ≤ n then (match xs[n.toNat]? with | some y => if y.cells.length = s then some (.rp bor y 0) else none | none => none) else none
  | .sl b L o m sz, .int _ n => if 0 ≤ n ∧ n < m then if sz = s then some (.ptr b L (o + n.toNat) 0) else none else none
  | _, _ => none

def idxAddrArr (len s : Nat) (x i : AV) : Option AV :=
  match x, i with
  | .ptr b L k o, .int _ n => if 0 ≤ n ∧ n < len then some (.ptr b L k (o + n.toNat * s)) else none
  | .rp bor y o, .int _ n => if 0 ≤ n ∧ n < len then some (.rp bor y (o + n.toNat * s)) else none
  | _, _ => none

def indexAddrA (P : Program) (t : Nat) (x i : AV) : Option AV :=
  match P.underlying t with
  | some (.slice e) => match tsz P e with
    | some s => idxAddrSl s x i
    | none => none
  | some (.array len e) => match tsz P e with
    | some s => idxAddrArr len s x i
    | none => none
  | _ => none

theorem indexAddrA_sound {P : Program} {t : Nat} {x i r : AV} (h : indexAddrA P t x i = some r) {c : Ctx} {w : World} {vx vi : Value} (hx : Rel c x vx) (hi : Rel c i vi) :
    ∃ v, (Instr.indexAt t vx vi).run P w = .ok v w ∧ Rel c r v := by
  unfold indexAddrA at h
  split at h
  · rename_i e hd
    split at h
    case h_2 => cases h
    rename_i s hs
    have hd' : P.underlying t = some (.slice (P.elem t)) := by simp [Program.elem, hd]
    have he : P.elem t = e := by simp [Program.elem, hd]
    have run : ∀ (k : IntKind) (n : Int) (a : Addr) (len cap : Nat), 0 ≤ n ∧ n < len → (Instr.indexAt t (.slice (some a) len cap) (.int k n)).run P w = .ok (.pointer (some (a.add (n.toNat * s)))) w := fun k n a len cap hn => by
      rw [run_indexAt_slice w t a len cap k n hd', if_pos hn, he, tsz_run hs]; rfl
    unfold idxAddrSl at h
    split at h
    · rename_i bor xs k n
      obtain rfl := hi.of_int
      split at h
      case isFalse => cases h
      rename_i hn0
      split at h
      case h_2 => cases h
      rename_i y hy
      split at h
      case isFalse => cases h
      rename_i hys
      simp at h; subst h
      have hlt : n.toNat < xs.length := (List.getElem?_eq_some_iff.1 hy).1
      cases hx with
      | ro hn hcap ha hA hsz hh hm =>
        rename_i a len cap sz A V
        have ha' : a = some A := by
          rcases ha with rfl | ha
          · simp at hlt
          · exact ha
        subst ha'
        have hszs : sz = s := by rw [← hsz _ _ hy, hys]
        subst hszs
        refine ⟨_, run k n A len cap ⟨hn0, by omega⟩, ?_⟩
        have := Rel.rp (c := c) (bor := bor) (x := y) (o := 0) (A := ⟨A.block, A.off + n.toNat * sz, none⟩) (V := V n.toNat) (fun j z hz => hh _ _ _ _ hy hz) (fun j z hz => hm _ _ _ _ hy hz)
        obtain ⟨blk, off, spot⟩ := A
        simp only at hA
        subst hA
        rw [Addr.add_lit]
        simpa using this
    · rename_i b L o m sz k n
      obtain rfl := hi.of_int
      split at h
      case isFalse => cases h
      rename_i hn
      split at h
      case isFalse => cases h
      rename_i hsz'
      simp at h; subst h
      subst hsz'
      cases hx with
      | sl hm hL hv hsz ho hcap hnc ha =>
        rename_i inf a cap'
        refine ⟨_, run _ _ _ _ _ hn, ?_⟩
        rcases ha with rfl | ⟨rfl, _⟩
        · rw [Addr.add_lit]
          have := Rel.ptr (c := c) (b := b) (L := L) (i := o + n.toNat) (o := 0) hm hL hv
          rw [hsz] at this
          rw [← Nat.add_mul]
          simpa using this
        · omega
      | slVirt hm hL hv hsz => omega
      | slStale a cap' hm hL hnc ha =>
        cases a with
        | none => have := ha rfl; omega
        | some a => exact ⟨_, run _ _ _ _ _ hn, .ptrStale _ hm hL⟩
    · cases h
  · rename_i len e hd
    split at h
    case h_2 => cases h
    rename_i s hs
    have hd' : P.underlying t = some (.array (P.arrayLen t) (P.elem t)) := by simp [Program.elem, Program.arrayLen, hd]
    have he : P.elem t = e := by simp [Program.elem, hd]
    have hl : P.arrayLen t = len := by simp [Program.arrayLen, hd]
    have run : ∀ (k : IntKind) (n : Int) (a : Addr), 0 ≤ n ∧ n < len → (Instr.indexAt t (.pointer (some a)) (.int k n)).run P w = .ok (.pointer (some (a.add (n.toNat * s)))) w := fun k n a hn => by
      rw [run_indexAt_array w t a k n hd', hl, if_pos hn, he, tsz_run hs]; rfl
    unfold idxAddrArr at h
    split at h
    · obtain rfl := hi.of_int
      split at h
      case isFalse => cases h
      rename_i hn
      simp at h; subst h
      cases hx with
      | ptr hm hL hv => exact ⟨_, run _ _ _ hn, by rw [Addr.add_lit, Nat.add_assoc]; exact .ptr hm hL hv⟩
      | ptrStale a hm hL => exact ⟨_, run _ _ _ hn, .ptrStale _ hm hL⟩
    · obtain rfl := hi.of_int
      split at h
      case isFalse => cases h
      rename_i hn
      simp at h; subst h
      cases hx with
      | rp h1 h2 => exact ⟨_, run _ _ _ hn, by rw [Addr.add_lit, Nat.add_assoc]; exact .rp h1 h2⟩
    · cases h
  · cases h

end Go.Proofs.YtdfglgnflldkpaaDoor.Mir
