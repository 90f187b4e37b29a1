/- Mirror, part S: code. -/
import Derived.Test.YtdfglgnflldkpaaDoorMirR
import Derived.Scope
namespace Go.Proofs.YtdfglgnflldkpaaDoor.Mir
open Go
set_option linter.unusedVariables false
set_option linter.unusedSimpArgs false

inductive Ex where
  | normal
  | exit (id : Nat)
  | ret

def Ex.to : Ex → Exit
  | .normal => .normal
  | .exit id => .exit id
  | .ret => .ret

abbrev Outc := Ex × List AV × AHeap
abbrev Kont := Ex → TS → AHeap → Option Outc

mutual
/-- References to blocks below n alone. -/
def belowB (n : Nat) : AV → Bool
  | .ptr b _ _ _ => decide (b < n)
  | .sl b _ _ _ _ => decide (b < n)
  | .fn _ caps => belowL n caps
  | .iface _ v => belowB n v
  | .agg cs => belowL n cs
  | .tup vs => belowL n vs
  | .ro _ xs => belowL n xs
  | .rp _ x _ => belowB n x
  | .undef => true
  | .bool _ => true
  | .int .. => true
  | .str _ => true
  | .nilp => true
  | .nilf => true
  | .nili => true
  | .gl _ => true
  | .gp _ => true
  | .nils => true
  | .anyb => true
def belowL (n : Nat) : List AV → Bool
  | [] => true
  | x :: xs => belowB n x && belowL n xs
end

theorem belowL_map {α : Type} (n : Nat) (e : α → AV) (h : ∀ a, belowB n (e a) = true) : ∀ xs : List α, belowL n (xs.map e) = true
  | [] => rfl
  | x :: xs => by simp [belowL, h x, belowL_map n e h xs]

theorem belowL_get {n : Nat} : ∀ {xs : List AV} (_ : belowL n xs = true) {i : Nat} {x : AV} (_ : xs[i]? = some x), belowB n x = true
  | [], _, _, _, hx => by simp at hx
  | y :: xs, h, i, x, hx => by
    simp only [belowL, Bool.and_eq_true] at h
    cases i with
    | zero => simp at hx; subst hx; exact h.1
    | succ i => simp at hx; exact belowL_get h.2 hx

theorem below_cells {n : Nat} {x : AV} (h : belowB n x = true) : belowL n x.cells = true := by
  cases x <;> simp_all [AV.cells, belowL, belowB]

def heapBelow (n : Nat) : AHeap → Bool
  | [] => true
  | b :: H => belowL n b.elems && heapBelow n H

theorem heapBelow_get {n : Nat} : ∀ {H : AHeap} (_ : heapBelow n H = true) {i : Nat} {b : ABlk} (_ : H[i]? = some b), belowL n b.elems = true
  | [], _, _, _, hx => by simp at hx
  | y :: H, h, i, b, hx => by
    simp only [heapBelow, Bool.and_eq_true] at h
    cases i with
    | zero => simp at hx; subst hx; exact h.1
    | succ i => simp at hx; exact heapBelow_get h.2 hx

/-- The heap, cut to its first n blocks, if nothing kept refers beyond. -/
def cutH (n : Nat) (xs : List AV) (H : AHeap) : Option AHeap :=
  match belowL n xs && heapBelow n (H.take n) with
  | true => some (H.take n)
  | false => none

def Ctx.cut (c : Ctx) (n : Nat) : Ctx := { c with m := fun b => if b < n then c.m b else none }

theorem Rel.cut {c : Ctx} {n : Nat} {x : AV} {v : Value} (h : Rel c x v) : belowB n x = true → Rel (c.cut n) x v := by
  have hm : ∀ b inf, b < n → c.m b = some inf → (c.cut n).m b = some inf := fun b inf hb h => by simp [Ctx.cut, hb, h]
  induction h with
  | undef v => exact fun _ => .undef v
  | bool b => exact fun _ => .bool b
  | int k n => exact fun _ => .int k n
  | str s => exact fun _ => .str s
  | nilp => exact fun _ => .nilp
  | nilf => exact fun _ => .nilf
  | nili => exact fun _ => .nili
  | fn hl _ ih => exact fun hp => .fn hl (fun i x v h1 h2 => ih i x v h1 h2 (belowL_get (by simpa [belowB] using hp) h1))
  | iface _ ih => exact fun hp => .iface (ih (by simpa [belowB] using hp))
  | agg hl _ h1 ih => exact fun hp => .agg hl (fun i x v h1 h2 => ih i x v h1 h2 (belowL_get (by simpa [belowB] using hp) h1)) h1
  | tup hl _ ih => exact fun hp => .tup hl (fun i x v h1 h2 => ih i x v h1 h2 (belowL_get (by simpa [belowB] using hp) h1))
  | ptr h1 h2 h3 => exact fun hp => .ptr (hm _ _ (by simpa [belowB] using hp) h1) h2 h3
  | ptrStale a h1 h2 => exact fun hp => .ptrStale a (hm _ _ (by simpa [belowB] using hp) h1) h2
  | sl h1 h2 h3 h4 h5 h6 h7 h8 => exact fun hp => .sl (hm _ _ (by simpa [belowB] using hp) h1) h2 h3 h4 h5 h6 h7 h8
  | slVirt h1 h2 h3 h4 => exact fun hp => .slVirt (hm _ _ (by simpa [belowB] using hp) h1) h2 h3 h4
  | slStale a c' h1 h2 h3 h4 => exact fun hp => .slStale a c' (hm _ _ (by simpa [belowB] using hp) h1) h2 h3 h4
  | ro hn hcap ha hA hsz _ hmm ih =>
    intro hp
    refine .ro hn hcap ha hA hsz (fun i x j y h1 h2 => ih i x j y h1 h2 ?_) (fun i x j y h1 h2 => by
      rename_i bor _ _ _ _ _ _ _
      have := hmm i x j y h1 h2
      cases bor <;> exact this)
    exact belowL_get (below_cells (belowL_get (by simpa [belowB] using hp) h1)) h2
  | rp _ hmm ih =>
    intro hp
    refine .rp (fun j y h1 => ih j y h1 ?_) (fun j y h1 => by
      rename_i bor _ _ _ _ _
      have := hmm j y h1
      cases bor <;> exact this)
    exact belowL_get (below_cells (by simpa [belowB] using hp)) h1
  | gl g => exact fun _ => .gl g
  | gp h => exact fun _ => .gp h
  | nils => exact fun _ => .nils
  | anyb b => exact fun _ => .anyb b

theorem cut_own {c : Ctx} {n k : Nat} (h : (c.cut n).own k) : c.own k := by
  obtain ⟨b, i, hb, hv, hk⟩ := h
  by_cases hbn : b < n
  · simp [Ctx.cut, hbn] at hb; exact ⟨b, i, hb, hv, hk⟩
  · simp [Ctx.cut, hbn] at hb

theorem Good.cut {G : Globs} {c : Ctx} {w : World} (hg : Good G c w) (hG : ∀ g x, G g = some x → plainB x = true) (n : Nat) : Good G (c.cut n) w := by
  refine ⟨hg.holds, hg.MB, fun k hk a ha => hg.away k (cut_own hk) a ha, hg.sent, fun g a h hk => hg.sentAway g a h (cut_own hk), hg.sentApart, fun g x h => ?_, fun k hk => hg.bound k (cut_own hk)⟩
  obtain ⟨v, h1, h2⟩ := hg.glob g x h
  exact ⟨v, h1, Rel.plain (c := c) (c' := c.cut n) (fun _ _ h => h) (fun _ _ h => h) rfl h2 (hG g x h)⟩

theorem HeapAt.cut {c : Ctx} {H : AHeap} {w : World} (hH : HeapAt c H w) {n : Nat} (hb : heapBelow n (H.take n) = true) : HeapAt (c.cut n) (H.take n) w := by
  refine ⟨fun b blk inf h1 h2 => ?_, fun b b' i i' h1 h2 v1 v2 he => ?_⟩
  · have hbn : b < n := by
      by_cases q : b < n
      · exact q
      · simp [Ctx.cut, q] at h2
    simp [Ctx.cut, hbn] at h2
    have h1' : H[b]? = some blk := by rw [List.getElem?_take, if_pos hbn] at h1; exact h1
    have hB := hH.blk b blk inf h1' h2
    refine ⟨hB.ty, hB.sz, hB.pos, hB.len, hB.fits, hB.virt, hB.big, hB.real, fun hv i x hx => ⟨(hB.cells hv i x hx).1, fun j y hy => ?_⟩⟩
    obtain ⟨v, g1, g2, g3⟩ := (hB.cells hv i x hx).2 j y hy
    exact ⟨v, g1, g2.cut (belowL_get (below_cells (belowL_get (heapBelow_get hb h1) hx)) hy), g3⟩
  · by_cases q : b < n
    · by_cases q' : b' < n
      · simp [Ctx.cut, q] at h1; simp [Ctx.cut, q'] at h2; exact hH.inj b b' i i' h1 h2 v1 v2 he
      · simp [Ctx.cut, q'] at h2
    · simp [Ctx.cut, q] at h1

theorem Step.cut {c0 c : Ctx} {w0 w : World} (hs : Step c0 w0 c w) {n : Nat} (hl : ∀ b, c0.m b ≠ none → b < n) : Step c0 w0 (c.cut n) w := by
  refine ⟨⟨fun b inf hb => ?_, hs.le.M, hs.le.B, hs.le.S⟩, hs.os, hs.tape, hs.output, hs.size, hs.kept, fun b i hb hv hlt => by
      by_cases q : b < n
      · simp [Ctx.cut, q] at hb; exact hs.fresh b i hb hv hlt
      · simp [Ctx.cut, q] at hb, hs.newM, hs.newB⟩
  obtain ⟨i, h1, h2⟩ := hs.le.m b inf hb
  have hbn := hl b (by rw [hb]; simp)
  exact ⟨i, by simp [Ctx.cut, hbn, h1], h2⟩

/-- A kept slot. -/
def nth (xs : List AV) : Nat → AV
  | 0 => match xs with
    | x :: _ => x
    | [] => .undef
  | i + 1 => match xs with
    | _ :: xs => nth xs i
    | [] => .undef

theorem nth_eq : ∀ (i : Nat) (xs : List AV), nth xs i = (xs[i]?).getD .undef
  | 0, xs => by cases xs <;> rfl
  | i + 1, [] => rfl
  | i + 1, _ :: xs => by simpa [nth] using nth_eq i xs

def posOf : List Nat → Nat → Option Nat
  | [], _ => none
  | k :: ks, t => if t = k then some 0 else match posOf ks t with
    | some i => some (i + 1)
    | none => none

/-- Kept slots as a frame. -/
def ofL (ks : List Nat) (xs : List AV) (t : Nat) : AV :=
  match posOf ks t with
  | some i => nth xs i
  | none => .undef

theorem posOf_get : ∀ {ks : List Nat} {t i : Nat} (_ : posOf ks t = some i), ks[i]? = some t
  | [], t, i, h => by simp [posOf] at h
  | k :: ks, t, i, h => by
    simp only [posOf] at h
    split at h
    · rename_i e; simp at h; subst h; simp [e]
    · split at h
      · rename_i j hj
        simp at h; subst h
        simpa using posOf_get hj
      · cases h

theorem ofL_map (ks : List Nat) (T : TS) (t : Nat) : ofL ks (ks.map T) t = T t ∨ ofL ks (ks.map T) t = .undef := by
  unfold ofL
  split
  · rename_i i hi
    left
    rw [nth_eq, List.getElem?_map, posOf_get hi]; rfl
  · exact .inr rfl

theorem ofL_mem (ks : List Nat) (xs : List AV) (t : Nat) : ofL ks xs t = .undef ∨ ∃ i : Nat, xs[i]? = some (ofL ks xs t) := by
  unfold ofL
  split
  · rename_i i hi
    rw [nth_eq]
    cases h : xs[i]? with
    | none => exact .inl rfl
    | some x => exact .inr ⟨i, by simp [h]⟩
  · exact .inl rfl

theorem St.kept {G : Globs} {c0 : Ctx} {w0 : World} {N B : Nat} {T : TS} {H : AHeap} {c : Ctx} {a : Act} {w : World} (h : St G c0 w0 N B T H c a w) (ks : List Nat) : St G c0 w0 N B (ofL ks (ks.map T)) H c a w :=
  ⟨h.good, h.heap, h.dom, h.step, fun t => by rcases ofL_map ks T t with e | e <;> rw [e]; exact h.tmps t; exact .undef _, h.size, h.defers, h.low⟩

theorem St.cut {G : Globs} {c0 : Ctx} {w0 : World} {N B : Nat} {ks : List Nat} {xs : List AV} {H H' : AHeap} {c : Ctx} {a : Act} {w : World} (hG : ∀ g x, G g = some x → plainB x = true)
    (h : St G c0 w0 N B (ofL ks xs) H c a w) {n : Nat} (hc : cutH n xs H = some H') (hl : ∀ b, c0.m b ≠ none → b < n) (hn : n ≤ H.length) : St G c0 w0 N n (ofL ks xs) H' (c.cut n) a w ∧ H'.length = n := by
  unfold cutH at hc
  split at hc
  case h_2 => cases hc
  rename_i hb
  simp only [Bool.and_eq_true] at hb
  simp at hc; subst hc
  refine ⟨⟨h.good.cut hG n, h.heap.cut hb.2, fun b hb' => ?_, h.step.cut hl, fun t => ?_, h.size, h.defers, by simp [hn]⟩, by simp [hn]⟩
  · have hbn : b < n := by
      by_cases q : b < n
      · exact q
      · simp [Ctx.cut, q] at hb'
    simp [Ctx.cut, hbn] at hb'
    have := h.dom b (by simpa using hb')
    simp; omega
  · refine (h.tmps t).cut ?_
    rcases ofL_mem ks xs t with e | ⟨i, e⟩
    · rw [e]; rfl
    · exact belowL_get hb.1 e

mutual
/-- Are two abstract values the same? (Never a wrong yes.) -/
def eqAV (x y : AV) : Bool :=
  match x with
  | .undef => match y with | .undef => true | _ => false
  | .bool a => match y with | .bool b => a == b | _ => false
  | .int k n => match y with | .int k' n' => decide (k = k') && decide (n = n') | _ => false
  | .nilp => match y with | .nilp => true | _ => false
  | .nilf => match y with | .nilf => true | _ => false
  | .nili => match y with | .nili => true | _ => false
  | .nils => match y with | .nils => true | _ => false
  | .anyb => match y with | .anyb => true | _ => false
  | .gl g => match y with | .gl g' => Nat.beq g g' | _ => false
  | .gp g => match y with | .gp g' => Nat.beq g g' | _ => false
  | .ptr b L i o => match y with | .ptr b' L' i' o' => Nat.beq b b' && Nat.beq L L' && Nat.beq i i' && Nat.beq o o' | _ => false
  | .sl b L o n z => match y with | .sl b' L' o' n' z' => Nat.beq b b' && Nat.beq L L' && Nat.beq o o' && Nat.beq n n' && Nat.beq z z' | _ => false
  | .agg cs => match y with | .agg ds => eqAL cs ds | _ => false
  | .tup cs => match y with | .tup ds => eqAL cs ds | _ => false
  | .ro b cs => match y with | .ro b' ds => b == b' && eqAL cs ds | _ => false
  | .iface t v => match y with | .iface t' v' => Nat.beq t t' && eqAV v v' | _ => false
  | _ => false
def eqAL (xs ys : List AV) : Bool :=
  match xs with
  | [] => match ys with | [] => true | _ => false
  | x :: xs => match ys with | y :: ys => eqAV x y && eqAL xs ys | [] => false
end

mutual
theorem eqAV_eq : ∀ {x y : AV}, eqAV x y = true → x = y
  | .undef, y, h => by unfold eqAV at h; split at h <;> simp_all
  | .bool a, y, h => by unfold eqAV at h; split at h <;> simp_all
  | .int k n, y, h => by unfold eqAV at h; split at h <;> simp_all
  | .nilp, y, h => by unfold eqAV at h; split at h <;> simp_all
  | .nilf, y, h => by unfold eqAV at h; split at h <;> simp_all
  | .nili, y, h => by unfold eqAV at h; split at h <;> simp_all
  | .nils, y, h => by unfold eqAV at h; split at h <;> simp_all
  | .anyb, y, h => by unfold eqAV at h; split at h <;> simp_all
  | .gl g, y, h => by unfold eqAV at h; split at h <;> simp_all
  | .gp g, y, h => by unfold eqAV at h; split at h <;> simp_all
  | .ptr .., y, h => by unfold eqAV at h; split at h <;> simp_all
  | .sl .., y, h => by unfold eqAV at h; split at h <;> simp_all
  | .agg cs, y, h => by
    unfold eqAV at h
    split at h
    · rw [eqAL_eq h]
    · cases h
  | .tup cs, y, h => by
    unfold eqAV at h
    split at h
    · rw [eqAL_eq h]
    · cases h
  | .ro b cs, y, h => by
    unfold eqAV at h
    split at h
    · simp only [Bool.and_eq_true, beq_iff_eq] at h
      rw [h.1, eqAL_eq h.2]
    · cases h
  | .iface t v, y, h => by
    unfold eqAV at h
    split at h
    · simp only [Bool.and_eq_true] at h
      rw [Nat.eq_of_beq_eq_true h.1, eqAV_eq h.2]
    · cases h
  | .str _, y, h => by unfold eqAV at h; cases h
  | .fn .., y, h => by unfold eqAV at h; cases h
  | .rp .., y, h => by unfold eqAV at h; cases h
theorem eqAL_eq : ∀ {xs ys : List AV}, eqAL xs ys = true → xs = ys
  | [], ys, h => by unfold eqAL at h; split at h <;> simp_all
  | x :: xs, ys, h => by
    unfold eqAL at h
    split at h
    · simp only [Bool.and_eq_true] at h
      rw [eqAV_eq h.1, eqAL_eq h.2]
    · cases h
end

def eqHp : AHeap → AHeap → Bool
  | [], ys => match ys with | [] => true | _ => false
  | x :: xs, ys => match ys with
    | y :: ys => Nat.beq x.ty y.ty && Nat.beq x.sz y.sz && eqAL x.elems y.elems && eqHp xs ys
    | [] => false

theorem eqHp_eq : ∀ {xs ys : AHeap}, eqHp xs ys = true → xs = ys
  | [], ys, h => by unfold eqHp at h; split at h <;> simp_all
  | x :: xs, ys, h => by
    unfold eqHp at h
    split at h
    · rename_i y ys
      simp only [Bool.and_eq_true] at h
      obtain ⟨⟨⟨h1, h2⟩, h3⟩, h4⟩ := h
      obtain ⟨a, b, d⟩ := x
      obtain ⟨a', b', d'⟩ := y
      simp only at h1 h2 h3
      rw [Nat.eq_of_beq_eq_true h1, Nat.eq_of_beq_eq_true h2, eqAL_eq h3, eqHp_eq h4]
    · cases h

def eqEx (a b : Ex) : Bool :=
  match a with
  | .normal => match b with | .normal => true | _ => false
  | .ret => match b with | .ret => true | _ => false
  | .exit i => match b with | .exit j => Nat.beq i j | _ => false

theorem eqEx_eq {a b : Ex} (h : eqEx a b = true) : a = b := by
  unfold eqEx at h
  (repeat' split at h) <;> simp_all

/-- Both ways, that must come to the same. -/
def bothA (x y : Option Outc) : Option Outc :=
  match x with
  | some (e, xs, H) => match y with
    | some (e', xs', H') => match eqEx e e' && eqAL xs xs' && eqHp H H' with
      | true => some (e, xs, H)
      | false => none
    | none => none
  | none => none

theorem bothA_eq {x y : Option Outc} {out : Outc} (h : bothA x y = some out) : x = some out ∧ y = some out := by
  unfold bothA at h
  split at h
  case h_2 => cases h
  split at h
  case h_2 => cases h
  split at h
  case h_2 => cases h
  rename_i hc
  simp only [Bool.and_eq_true] at hc
  rw [← eqEx_eq hc.1.1, ← eqAL_eq hc.1.2, ← eqHp_eq hc.2]
  exact ⟨h, h⟩

def condA (c : AV) (x y : Option Outc) : Option Outc :=
  match c with
  | .bool b => match b with
    | true => x
    | false => y
  | .anyb => bothA x y
  | _ => none

/-- A nil slice in a block becomes one that may grow: the pointer to the block; the cell; the elements' type, their cells. -/
def virt1 (q : AV × Nat × Nat × Nat) (H : AHeap) : AHeap :=
  match q with
  | (p, o, e, s) => match p with
    | .ptr b _ i _ => match H[b]? with
      | some blk => match blk.elems[i]? with
        | some x => match x.cells[o]? with
          | some y => match y with
            | .nils => match decide (0 < s) with
              | true => H.set b { blk with elems := blk.elems.set i (recell x (x.cells.set o (.sl H.length 0 0 0 s))) } ++ [{ ty := e, sz := s, elems := [] }]
              | false => H
            | _ => H
          | none => H
        | none => H
      | none => H
    | _ => H

def vK {γ : Type} : List (AV × Nat × Nat × Nat) → AHeap → (AHeap → Option γ) → Option γ
  | [], H, k => k H
  | q :: l, H, k => vK l (virt1 q H) k

theorem virt1_sound {G : Globs} {c : Ctx} {H : AHeap} {w : World} (hg : Good G c w) (hH : HeapAt c H w) (hd : Dom c H) (q : AV × Nat × Nat × Nat) :
    ∃ c', Step c w c' w ∧ Good G c' w ∧ HeapAt c' (virt1 q H) w ∧ Dom c' (virt1 q H) ∧ H.length ≤ (virt1 q H).length := by
  have same : ∃ c', Step c w c' w ∧ Good G c' w ∧ HeapAt c' H w ∧ Dom c' H ∧ H.length ≤ H.length := ⟨c, .refl c w, hg, hH, hd, Nat.le_refl _⟩
  unfold virt1
  split
  rename_i p o e s
  split
  case h_2 => exact same
  rename_i b _ i _
  split
  case h_2 => exact same
  rename_i blk hb
  split
  case h_2 => exact same
  rename_i x hx
  split
  case h_2 => exact same
  rename_i y hy
  split
  case h_2 => exact same
  split
  case h_2 => exact same
  rename_i hs
  have hs0 : 0 < s := of_decide_eq_true hs
  have hn : c.m H.length = none := by
    cases hq : c.m H.length with
    | none => rfl
    | some i => exact absurd (hd H.length (by rw [hq]; simp)) (Nat.lt_irrefl _)
  let inf : Info := ⟨0, 0, e, s, 0, true⟩
  have hle := Ctx.push_le (inf := inf) hn
  have hown : ∀ k, (c.push H.length inf).own k → c.own k := fun k hk => by
    rcases Ctx.push_own hk with h | ⟨h, _⟩
    · exact h
    · simp [inf] at h
  have hstep : Step c w (c.push H.length inf) w := ⟨hle, rfl, rfl, rfl, Nat.le_refl _, fun _ _ _ => rfl, fun b i hb hv hlt => by
      by_cases e1 : b = H.length
      · simp [Ctx.push, e1] at hb; subst hb; simp [inf] at hv
      · simp [Ctx.push, e1] at hb; exact ⟨i, hb, hv, rfl⟩, fun _ _ h => .inl h, fun _ _ h => .inl h⟩
  have hrel : Rel (c.push H.length inf) (.sl H.length 0 0 0 s) (.slice none 0 0) := .slVirt (inf := inf) (by simp [Ctx.push]) rfl rfl rfl
  have hbl : b < H.length := (List.getElem?_eq_some_iff.1 hb).1
  refine ⟨c.push H.length inf, hstep, hg.step hstep hg.holds hg.MB (fun k hk a ha => hg.away k (hown k hk) a ha) (fun k hk => hg.bound k (hown k hk)), ⟨fun b' blk' i' hb' hm => ?_, fun b1 b2 i1 i2 h1 h2 v1 v2 he => ?_⟩, fun b' hb' => ?_, by simp⟩
  · by_cases e1 : b' = H.length
    · subst e1
      simp [Ctx.push] at hm; subst hm
      rw [List.getElem?_append_right (by simp)] at hb'
      simp at hb'; subst hb'
      exact ⟨rfl, rfl, hs0, rfl, by simp, fun _ => rfl, by simp [inf], by simp [inf], by simp [inf]⟩
    · simp [Ctx.push, e1] at hm
      have hlt : b' < H.length := hd b' (by rw [hm]; simp)
      rw [List.getElem?_append_left (by simpa using hlt)] at hb'
      by_cases e2 : b' = b
      · subst e2
        rw [List.getElem?_set_self hbl] at hb'
        obtain rfl := Option.some.inj hb'
        have hB := hH.blk _ _ _ hb hm
        have hil : i < blk.elems.length := (List.getElem?_eq_some_iff.1 hx).1
        refine ⟨hB.ty, hB.sz, hB.pos, by simpa using hB.len, by simpa using hB.fits, hB.virt, hB.big, hB.real, fun hv k z hz => ?_⟩
        by_cases hki : k = i
        · subst hki
          rw [List.getElem?_set_self hil] at hz
          obtain rfl := Option.some.inj hz
          obtain ⟨g1, g2⟩ := hB.cells hv k x hx
          have hone : ∀ (j : Nat) (z : AV), x.cells[j]? = some z → z.cells = [z] := fun j z hz => by
            obtain ⟨v, _, r, o1⟩ := g2 j z hz
            exact oneCell_cells r o1
          have hcells : (recell x (x.cells.set o (.sl H.length 0 0 0 s))).cells = x.cells.set o (.sl H.length 0 0 0 s) := by
            refine recell_cells (by simp) (fun y hy => ?_)
            rcases List.mem_or_eq_of_mem_set hy with h1 | rfl
            · obtain ⟨j, hj⟩ := List.mem_iff_getElem?.1 h1
              exact .inl (hone j y hj)
            · exact .inl rfl
          rw [hcells]
          refine ⟨by simpa using g1, fun j z hz => ?_⟩
          by_cases hjo : j = o
          · subst hjo
            have hol : j < x.cells.length := (List.getElem?_eq_some_iff.1 hy).1
            rw [List.getElem?_set_self hol] at hz
            obtain rfl := Option.some.inj hz
            obtain ⟨v, r1, r2, r3⟩ := g2 j _ hy
            obtain rfl := r2.of_nils
            exact ⟨_, r1, hrel, r3⟩
          · rw [List.getElem?_set_ne (Ne.symm hjo)] at hz
            obtain ⟨v, r1, r2, r3⟩ := g2 j z hz
            exact ⟨v, r1, r2.mono hle, r3⟩
        · rw [List.getElem?_set_ne (Ne.symm hki)] at hz
          obtain ⟨g1, g2⟩ := hB.cells hv k z hz
          refine ⟨g1, fun j u hu => ?_⟩
          obtain ⟨v, r1, r2, r3⟩ := g2 j u hu
          exact ⟨v, r1, r2.mono hle, r3⟩
      · rw [List.getElem?_set_ne (Ne.symm e2)] at hb'
        exact (hH.blk b' blk' i' hb' hm).kept hle (fun _ => rfl)
  · by_cases e1 : b1 = H.length
    · simp [Ctx.push, e1] at h1; subst h1; simp [inf] at v1
    · by_cases e2 : b2 = H.length
      · simp [Ctx.push, e2] at h2; subst h2; simp [inf] at v2
      · simp [Ctx.push, e1] at h1; simp [Ctx.push, e2] at h2
        exact hH.inj b1 b2 i1 i2 h1 h2 v1 v2 he
  · by_cases e1 : b' = H.length
    · simp [e1]
    · simp [Ctx.push, e1] at hb'
      have := hd b' (by simpa using hb')
      simp; omega

theorem vK_sound {γ : Type} {G : Globs} {c0 : Ctx} {w0 : World} {N B : Nat} {T : TS} {a : Act} {w : World} {k : AHeap → Option γ} {out : γ} : ∀ (l : List (AV × Nat × Nat × Nat)) {H : AHeap} {c : Ctx}, vK l H k = some out → St G c0 w0 N B T H c a w →
    ∃ c' H', k H' = some out ∧ H.length ≤ H'.length ∧ St G c0 w0 N B T H' c' a w
  | [], H, c, h, hs => ⟨c, H, h, Nat.le_refl _, hs⟩
  | q :: l, H, c, h, hs => by
    simp only [vK] at h
    obtain ⟨c1, h1, h2, h3, h4, h5⟩ := virt1_sound hs.good hs.heap hs.dom q
    obtain ⟨c2, H2, g1, g2, g3⟩ := vK_sound l h ⟨h2, h3, h4, hs.step.trans h1, fun t => (hs.tmps t).mono h1.le, hs.size, hs.defers, Nat.le_trans hs.low h5⟩
    exact ⟨c2, H2, g1, Nat.le_trans h5 g2, g3⟩

/-- The heap, cut, handed on. -/
def cutK (n : Nat) (xs : List AV) (H : AHeap) (k : AHeap → Option Outc) : Option Outc :=
  match cutH n xs H with
  | some H0 => k H0
  | none => none

def exK {γ : Type} (e : Ex) (a : γ) (b : Nat → γ) (r : γ) : γ :=
  match e with
  | .normal => a
  | .exit id => b id
  | .ret => r

abbrev LoopF := List AV → AHeap → Option Outc

/-- The rounds of a loop. -/
def loopN (step : LoopF → LoopF) : Nat → LoopF
  | 0 => fun _ _ => none
  | n + 1 => step (loopN step n)

def iterStep (n0 : Nat) (ks : List Nat) (body : Kont → TS → AHeap → Option Outc) (self : LoopF) : LoopF := fun xs H =>
  cutK n0 xs H fun H0 => body (fun e T' H' => match e with
      | .normal => self (ks.map T') H'
      | .exit id => some (.exit id, ks.map T', H')
      | .ret => some (.ret, ks.map T', H')) (ofL ks xs) H0

def iter (n0 : Nat) (ks : List Nat) (body : Kont → TS → AHeap → Option Outc) (n : Nat) : LoopF := loopN (iterStep n0 ks body) n

theorem iter_zero (n0 : Nat) (ks : List Nat) (body : Kont → TS → AHeap → Option Outc) (xs : List AV) (H : AHeap) : iter n0 ks body 0 xs H = none := rfl

theorem iter_succ (n0 : Nat) (ks : List Nat) (body : Kont → TS → AHeap → Option Outc) (n : Nat) (xs : List AV) (H : AHeap) : iter n0 ks body (n + 1) xs H = match cutH n0 xs H with
    | some H0 => body (fun e T' H' => match e with
      | .normal => iter n0 ks body n (ks.map T') H'
      | .exit id => some (.exit id, ks.map T', H')
      | .ret => some (.ret, ks.map T', H')) (ofL ks xs) H0
    | none => none := rfl

def thenK (r : Option Outc) (k : Ex → List AV → AHeap → Option Outc) : Option Outc :=
  match r with
  | some (e, xs, H) => k e xs H
  | none => none

/-- The number of the first region. -/
def firstR : Code → Nat
  | .region id _ _ => id
  | .seq a b => match a with
    | .skip => firstR b
    | a => firstR a
  | .cond _ a _ => firstR a
  | .block _ b => firstR b
  | .loop b => firstR b
  | .scope b => firstR b
  | _ => 0

/-- Operations that only name a value. -/
def inl (P : Program) (ann : Ann) (o : Oper) (T : TS) : Option AV :=
  match o.guard with
  | some _ => none
  | none => match o.op with
    | .move x => (match isNilSl x && nilDst ann o.dst with | true => none | false => some (opd T x))
    | .assign x => (match isNilSl x && nilDst ann o.dst with | true => none | false => some (opd T x))
    | .makeInterface t x => ifaceA P t (opd T x)
    | .makeFunc fn first captured => match fn with
      | .func f => match first.toList with
        | [] => some (.fn f (captured.toList.map (opd T)))
        | _ => none
      | _ => none
    | _ => none

theorem inl_step {P : Program} {G : Globs} {E : Env} {ann : Ann} {ops : Array Oper} {o : Oper} {T : TS} {H : AHeap} {v : AV} (h : inl P ann o T = some v) : stepOp P G E ann ops o T H = some (v, H) := by
  unfold inl at h
  split at h
  · cases h
  rename_i hg
  unfold stepOp
  rw [hg]
  simp only
  unfold opR
  split at h
  · rename_i ho
    rw [ho]
    unfold moveA
    simp only
    split at h <;> rename_i he
    · cases h
    · simp at h; subst h; rw [he]
  · rename_i ho
    rw [ho]
    unfold moveA
    simp only
    split at h <;> rename_i he
    · cases h
    · simp at h; subst h; rw [he]
  · rename_i ho
    rw [ho]
    simp only [pu, h]
  · rename_i ho
    rw [ho]
    split at h
    · split at h <;> rename_i he
      · simp at h; subst h; simp only [he]
      · cases h
    · cases h
  · cases h

def runR {γ : Type} (P : Program) (G : Globs) (E : Env) (ann : Ann) (ops : Array Oper) : List Oper → (TS → AHeap → Option γ) → TS → AHeap → Option γ
  | [], K, T, H => K T H
  | o :: l, K, T, H => match inl P ann o T with
    | some v => runR P G E ann ops l K (putT T o.dst v) H
    | none => bnd (stepOp P G E ann ops o T H) fun v H' => runR P G E ann ops l K (putT T o.dst v) H'

theorem runR_eq {γ : Type} (P : Program) (G : Globs) (E : Env) (ann : Ann) (ops : Array Oper) : ∀ (l : List Oper) (K : TS → AHeap → Option γ) (T : TS) (H : AHeap), runR P G E ann ops l K T H = runOps P G E ann ops l K T H
  | [], K, T, H => rfl
  | o :: l, K, T, H => by
    simp only [runR, runOps]
    split
    · rename_i v hv
      rw [inl_step hv, runR_eq]; rfl
    · congr 1
      funext v H'
      exact runR_eq P G E ann ops l K _ H'

def exec (P : Program) (G : Globs) (E : Env) (ann : Ann) (n : Nat) : Code → Kont → TS → AHeap → Option Outc
  | .skip, K, T, H => K .normal T H
  | .region _ ops draw, K, T, H => runR P G E ann ops ops.toList (fun T H => match draw with
      | true => grd (addrs T (needs ops)) (K .normal T H)
      | false => K .normal T H) T H
  | .seq a b, K, T, H => match ann.join (firstR b) with
    | none => exec P G E ann n a (fun e T H => match e with
        | .normal => exec P G E ann n b K T H
        | .exit id => K (.exit id) T H
        | .ret => K .ret T H) T H
    | some ks => thenK (exec P G E ann n a (fun e T H => some (e, ks.map T, H)) T H) (fun e xs H => match e with
        | .normal => exec P G E ann n b K (ofL ks xs) H
        | .exit id => K (.exit id) (ofL ks xs) H
        | .ret => K .ret (ofL ks xs) H)
  | .cond c a b, K, T, H => condA (opd T c) (exec P G E ann n a K T H) (exec P G E ann n b K T H)
  | .block id b, K, T, H => exec P G E ann n b (fun e T H => match e with
      | .normal => K .normal T H
      | .exit i => if i = id then K .normal T H else K (.exit i) T H
      | .ret => K .ret T H) T H
  | .loop b, K, T, H => vK ((ann.virt (firstR b)).map fun q => (T q.1, q.2)) H fun H => thenK (iter H.length (ann.keep (firstR b)) (exec P G E ann n b) n ((ann.keep (firstR b)).map T) H) (fun e xs H => K e (ofL (ann.keep (firstR b)) xs) H)
  | .scope b, K, T, H => exec P G E ann n b K T H
  | .exit id, K, T, H => K (.exit id) T H
  | .label _, K, T, H => K .normal T H
  | .ret, K, T, H => K .ret T H
  | _, _, _, _ => none

/-- The regions' temporaries, and their orders. -/
def codeOk (ann : Ann) (pf : Nat → Bool) (N : Nat) : Code → Bool
  | .region _ ops draw => ops.toList.all (fun o => match o.dst with | some d => decide (d < N) | none => true) && (!draw || ordOk ann pf ops)
  | .seq a b => codeOk ann pf N a && codeOk ann pf N b
  | .cond _ a b => codeOk ann pf N a && codeOk ann pf N b
  | .block _ b => codeOk ann pf N b
  | .loop b => codeOk ann pf N b
  | .scope b => codeOk ann pf N b
  | .rangeFunc .. => false
  | _ => true

end Go.Proofs.YtdfglgnflldkpaaDoor.Mir
