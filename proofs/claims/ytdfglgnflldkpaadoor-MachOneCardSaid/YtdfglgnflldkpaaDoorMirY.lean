/- Mirror, part Y: errors laid ahead; a row's contract out of a function's evaluation. -/
import Derived.Test.YtdfglgnflldkpaaDoorMirX
namespace Go.Proofs.YtdfglgnflldkpaaDoor.Mir
open Go Go.ChangeShapes Go.WideShapes Go.RowKit
set_option linter.unusedVariables false
set_option linter.unusedSimpArgs false

/-- What the listed package variables hold: an error whose address alone tells it. -/
def sentG (tp : Nat) (gs : List Nat) : Globs := fun g => if gs.contains g then some (.iface tp (.gp g)) else none

theorem sentG_plain (tp : Nat) (gs : List Nat) : ∀ g x, sentG tp gs g = some x → plainB x = true := by
  intro g x h
  unfold sentG at h
  split at h
  · simp at h; subst h; rfl
  · cases h

structure SentS (w : World) (tp : Nat) (gs : List Nat) (S : Nat → Option Addr) : Prop where
  here : ∀ g ∈ gs, ∃ a, S g = some a ∧ w.cell? ⟨g, 0, none⟩ = some (.iface tp (.pointer (some a)))
  laid : ∀ g a, S g = some a → ∃ cells elem, w.heap[a.block]? = some (.cells cells elem (0, 0))
  apart : ∀ g g' a a', S g = some a → S g' = some a' → g ≠ g' → a ≠ a'

theorem good_top {w : World} {tp : Nat} {gs : List Nat} {S : Nat → Option Addr} (h : SentS w tp gs S) : Good (sentG tp gs) (Ctx.top S w) w := by
  refine ⟨fun a v h => h, fun a v h => h, fun k hk => ?_, h.laid, fun g a _ hk => ?_, h.apart, fun g x hx => ?_, fun k hk => ?_⟩
  · obtain ⟨b, i, hb, _⟩ := hk; cases hb
  · obtain ⟨b, i, hb, _⟩ := hk; cases hb
  · unfold sentG at hx
    split at hx
    · rename_i hg
      simp at hx; subst hx
      obtain ⟨a, h1, h2⟩ := h.here g (by simpa using hg)
      exact ⟨_, h2, .iface (.gp h1)⟩
    · cases hx
  · obtain ⟨b, i, hb, _⟩ := hk; cases hb

theorem sentS_nil (w : World) (tp : Nat) : SentS w tp [] (fun _ => none) := ⟨fun g hg => (by cases hg), fun g a h => (by cases h), fun g g' a a' h => (by cases h)⟩

/-- The listed variables, as the row lists them. -/
def SentL (P : Program) (ti : Nat) : List (String × DataW Unit) → List Nat → Prop
  | [], [] => True
  | x :: L, g :: gs => P.globalNamed x.1 = some g ∧ (P.globals[g]?).map (·.type) = some ti ∧ (∃ text, x.2 = .iface "*errors.errorString" (.ptr (.agg [.lit (.string text)]))) ∧ SentL P ti L gs
  | _, _ => False

theorem sent_places {P : Program} {w : World} {ti tp te ts : TypeId} {ms : Array (String × TypeId)} {f : Field}
    (hi : P.underlying ti = some (.interface ms)) (hrow : ∀ u, P.typeName? 3 u = some "*errors.errorString" → u = tp)
    (hp : P.underlying tp = some (.pointer te)) (he : P.underlying te = some (.struct #[f])) (hft : f.type = ts) (hfo : f.offset = 0) (hs : P.underlying ts = some .string) (hc : P.cellsOf te = 1) (hcs : P.cellsOf ts = 1) :
    ∀ {L : List (String × DataW Unit)} {gs : List Nat} {ps : List MemPlace}, SentL P ti L gs → gs.Nodup → DataW.LaidVars P w L ps → ps.Nodup →
      (∀ b off, MemPlace.cell b off ∈ ps → (∃ c t, w.heap[b]? = some (.cells c t (0, 0))) ∧ ∀ u v, w.cell? ⟨b, off, none⟩ = some (.iface u v) → Value.okWide P w .any 0 u v) →
      ∃ S, SentS w tp gs S ∧ ∀ g a, S g = some a → g ∈ gs ∧ MemPlace.cell a.block a.off ∈ ps
  | [], [], ps, _, _, _, _, _ => ⟨_, sentS_nil w tp, fun g a h => by cases h⟩
  | [], _ :: _, ps, h, _, _, _, _ => by cases h
  | _ :: _, [], ps, h, _, _, _, _ => by cases h
  | (n, d) :: L, g :: gs, ps, hL, hnd, hv, hpn, hr => by
    obtain ⟨hg, ht, ⟨text, rfl⟩, hL'⟩ := hL
    obtain ⟨g', t', cs, fuel, p, q, hg', ht', hcs', hd, hq, rfl⟩ := hv
    obtain rfl := Option.some.inj (hg.symm.trans hg')
    obtain rfl := Option.some.inj (ht.symm.trans ht')
    rw [List.nodup_cons] at hnd
    obtain ⟨S, hS, hSp⟩ := sent_places hi hrow hp he hft hfo hs hc hcs hL' hnd.2 hq (List.nodup_append.1 hpn).2.1 (fun b off hb => hr b off (List.mem_append_right _ hb))
    obtain ⟨l⟩ := cs
    have ok : ∀ u v, l = [.iface u v] → Value.okWide P w .any 0 u v := fun u v e => by
      subst e
      exact (hr g 0 (by simp [MemPlace.row])).2 u v (by simpa using World.var?_cell hg hcs' 0)
    obtain ⟨a, s, hl, hc0, hs0, hz0, rfl⟩ := errorString_of_trod hi hrow hp he hft hfo hs hc hcs hd ok
    simp only at hl
    subst hl
    have hin : MemPlace.cell a.block a.off ∈ MemPlace.row (⟨g, 0, none⟩ : Addr) 1 ++ MemPlace.row a 1 := by simp [MemPlace.row]
    have hne : ∀ g2 a2, S g2 = some a2 → a ≠ a2 := by
      intro g2 a2 h2 e
      subst e
      exact (List.nodup_append.1 hpn).2.2 _ hin _ (hSp g2 a h2).2 rfl
    refine ⟨fun x => if x = g then some a else S x, ⟨fun x hx => ?_, fun x b hb => ?_, fun x x' b b' hb hb' hxx => ?_⟩, fun x b hb => ?_⟩
    · rcases List.mem_cons.1 hx with rfl | hx'
      · exact ⟨a, by simp, by simpa using World.var?_cell hg hcs' 0⟩
      · obtain ⟨b, h1, h2⟩ := hS.here x hx'
        have : x ≠ g := fun e => hnd.1 (e ▸ hx')
        exact ⟨b, by simp [this, h1], h2⟩
    · split at hb
      · obtain rfl := Option.some.inj hb
        obtain ⟨c, t, h⟩ := (hr a.block a.off (List.mem_append_left _ hin)).1
        exact ⟨c, t, h⟩
      · exact hS.laid x b hb
    · split at hb
      · rename_i e1
        obtain rfl := Option.some.inj hb
        split at hb'
        · rename_i e2; exact absurd (e1.trans e2.symm) hxx
        · exact hne _ _ hb'
      · split at hb'
        · obtain rfl := Option.some.inj hb'
          exact (hne _ _ hb).symm
        · exact hS.apart x x' b b' hb hb' hxx
    · replace hb : (if x = g then some a else S x) = some b := hb
      split at hb
      · rename_i e; subst e
        obtain rfl := Option.some.inj hb
        exact ⟨by simp, List.mem_append_left _ hin⟩
      · exact ⟨List.mem_cons_of_mem _ (hSp x b hb).1, List.mem_append_right _ (hSp x b hb).2⟩

/-- What a row's condition gives. -/
theorem sent_of_laid {P : Program} {w : World} {ti tp te ts : TypeId} {ms : Array (String × TypeId)} {f : Field}
    (hi : P.underlying ti = some (.interface ms)) (hrow : ∀ u, P.typeName? 3 u = some "*errors.errorString" → u = tp)
    (hp : P.underlying tp = some (.pointer te)) (he : P.underlying te = some (.struct #[f])) (hft : f.type = ts) (hfo : f.offset = 0) (hs : P.underlying ts = some .string) (hc : P.cellsOf te = 1) (hcs : P.cellsOf ts = 1)
    {L : List (String × DataW Unit)} {gs : List Nat} (hL : SentL P ti L gs) (hnd : decide gs.Nodup = true) (h : laidMet P L w) : ∃ S, SentS w tp gs S := by
  obtain ⟨ps, h1, h2, h3⟩ := h
  obtain ⟨S, hS, _⟩ := sent_places hi hrow hp he hft hfo hs hc hcs hL (of_decide_eq_true hnd) h1 h2 h3
  exact ⟨S, hS⟩

/-- A row's call. -/
theorem calls_top {P : Program} {G : Globs} {f : Nat} {g : Den} (hs : Sound P G f g) {xs : List AV} (hg : g xs [] = some (.bool true, [])) {S : Nat → Option Addr} {w : World} (hgood : Good G (Ctx.top S w) w) {vs : List Value} (hr : RelL (Ctx.top S w) xs vs) :
    Calls P f vs.toArray w (fun e w' => e = .returned (.bool true) ∧ Below w.heap.size w w') := by
  refine (hs.calls xs [] _ [] hg (Ctx.top S w) w vs hgood ⟨by simp, by simp [Ctx.top]⟩ (Dom.nil (fun _ => rfl)) hr).mono fun e w' he => ?_
  obtain ⟨v, c', rfl, h⟩ := he
  obtain rfl := h.rel.of_bool
  refine ⟨rfl, h.step.os, h.step.tape, h.step.output, h.step.size, fun k hk => h.step.kept k hk ?_⟩
  rintro ⟨b, i, hb, _⟩
  cases hb

/-- A row's end. -/
theorem post_top {H : Type} {enc : TypeId × Value → H} {P : Program} {fn : Func} {s : ChangeSpec} {ts : List TypeId} {t : TypeId} (hv : s.vars = []) (hts : fn.params.toList = ts) (hres : fn.resultTypes = #[t]) (ht : P.underlying t = some .bool)
    (hspec : ∀ ds : List (DataW H), ds.length = ts.length → s.fn H ds = { results := [.lit (.bool true)], args := ds })
    (hl : laidOutB P = true) (hr : (ts.all fun t => P.readableRec t && decide (t < P.types.size)) = true) {w w' : World} {args : Array Value} {ds gs : List (DataW H)} {before : List MemPlace}
    (hW : DataW.Whole enc P fn.params.toList s.vars false w args.toList ds gs before) (hb : Below w.heap.size w w') :
    s.post enc P fn false true false false w args (.bool true) w' := by
  have hW' := hW
  obtain ⟨p, q, hA, hV, rfl, _, _⟩ := hW
  rw [hts] at hA
  rw [hv] at hV
  obtain ⟨rfl, rfl⟩ := trodVars_none hV
  have len : ∀ {ts : List TypeId} {vs : List Value} {ds : List (DataW H)} {ps : List MemPlace}, DataW.TrodAll enc P w 0 (fun _ => true) true ts vs ds ps → ds.length = ts.length := by
    intro ts
    induction ts with
    | nil => intro vs ds ps h; obtain ⟨rfl, rfl, rfl⟩ := trodAll_nil h; rfl
    | cons t ts ih =>
      intro vs ds ps h
      obtain ⟨v, vs', d, ds', p, q, rfl, rfl, rfl, hd, hr⟩ := trodAll_cons h
      simp [ih hr]
  have e1 := hspec ds (len hA)
  have e2 : s.fn H (ds ++ []) = { results := [.lit (.bool true)], args := ds } := by rw [List.append_nil]; exact e1
  refine ⟨ds, [], _, [], p, [], hW', ?_, ?_, ?_, hb.frame _, fun h => by cases h⟩
  · rw [e2, hres]
    exact trodAll_mk1 (shut_bool ht true)
  · rw [e2, hts]
    exact reread_args hl hb (fun t ht => by
      have := List.all_eq_true.1 hr t ht
      simp only [Bool.and_eq_true, decide_eq_true_eq] at this
      exact this) hA
  · rw [e2, hv]; exact rfl

end Go.Proofs.YtdfglgnflldkpaaDoor.Mir
