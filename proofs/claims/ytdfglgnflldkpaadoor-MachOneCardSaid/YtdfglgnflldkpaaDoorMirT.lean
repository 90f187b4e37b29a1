/- Mirror, part T: code is sound; functions. -/
import Derived.Test.YtdfglgnflldkpaaDoorMirS
namespace Go.Proofs.YtdfglgnflldkpaaDoor.Mir
open Go
set_option linter.unusedVariables false
set_option linter.unusedSimpArgs false

/-- A loop whose rounds are counted down. -/
theorem wp_loop_fuel {P : Program} {c : Code} {Q : Exit → Act → World → Prop} (I : Nat → Act → World → Prop)
    (round : ∀ n a w, I n a w → c.wp P (Exit.then (fun a' w' => ∃ m, m < n ∧ I m a' w') Q) a w) {n : Nat} {a : Act} {w : World} (h0 : I n a w) : (Code.loop c).wp P Q a w := by
  intro b k cs
  have key : ∀ n a w, I n a w → ∃ e a' w', Q e a' w' ∧ Arrives P (lone (b.at a (.code c :: .inLoop c :: k)) cs w) b k cs e a' w' := by
    intro n
    induction n using Nat.strongRecOn with
    | _ n ih =>
      intro a w hI
      obtain ⟨e, a₁, w₁, hq, harr⟩ := round n a w hI b (.inLoop c :: k) cs
      cases e with
      | normal =>
        obtain ⟨m, hm, hI₁⟩ := hq
        obtain ⟨e₂, a₂, w₂, hq₂, harr₂⟩ := ih m hm a₁ w₁ hI₁
        exact ⟨e₂, a₂, w₂, hq₂, .of_steps (Steps.trans harr (.one step_inLoop)) harr₂⟩
      | exit id => exact ⟨_, a₁, w₁, hq, .pass (x := .inLoop c) rfl (fun _ _ => .inl (by simp)) harr⟩
      | goto l => exact ⟨_, a₁, w₁, hq, .pass (x := .inLoop c) rfl (fun _ _ => .inl (by simp)) harr⟩
      | ret => exact ⟨_, a₁, w₁, hq, .pass (x := .inLoop c) rfl (fun _ _ => .inl (by simp)) harr⟩
      | panic ch => exact ⟨_, a₁, w₁, hq, .pass (x := .inLoop c) rfl (fun _ _ => .inl (by simp)) harr⟩
      | outgrown => exact ⟨_, a₁, w₁, hq, .pass (x := .inLoop c) rfl (fun _ _ => .inl (by simp)) harr⟩
  obtain ⟨e, a', w', hq, harr⟩ := key n a w h0
  exact ⟨e, a', w', hq, .of_steps (.one step_loop) harr⟩

section
variable {P : Program} {G : Globs} {E : Env} {ann : Ann} {c0 : Ctx} {w0 : World} {N : Nat}

theorem St.weak {B B' : Nat} {T : TS} {H : AHeap} {c : Ctx} {a : Act} {w : World} (h : St G c0 w0 N B T H c a w) (hB : B' ≤ H.length) : St G c0 w0 N B' T H c a w :=
  ⟨h.good, h.heap, h.dom, h.step, h.tmps, h.size, h.defers, hB⟩

/-- What holds where code comes to an end. -/
def QK (G : Globs) (c0 : Ctx) (w0 : World) (N B : Nat) (K : Kont) (out : Outc) (Q : Exit → Act → World → Prop) : Prop :=
  ∀ e T H c a w, K e T H = some out → St G c0 w0 N B T H c a w → Q e.to a w

/-- Code does what its evaluation says. -/
def Fine (P : Program) (G : Globs) (E : Env) (ann : Ann) (c0 : Ctx) (w0 : World) (N n : Nat) (code : Code) : Prop :=
  ∀ (B : Nat) (K : Kont) (T : TS) (H : AHeap) (out : Outc) (c : Ctx) (a : Act) (w : World) (Q : Exit → Act → World → Prop), (∀ b, c0.m b ≠ none → b < B) →
    exec P G E ann n code K T H = some out → St G c0 w0 N B T H c a w → QK G c0 w0 N B K out Q → code.wp P Q a w

theorem iter_fine {n : Nat} {b : Code} (hb : Fine P G E ann c0 w0 N n b) (hG : ∀ g x, G g = some x → plainB x = true) {n0 : Nat} (hl : ∀ b, c0.m b ≠ none → b < n0) {ks : List Nat} {e : Ex} {ys : List AV} {H1 : AHeap}
    {Q : Exit → Act → World → Prop} (hq : ∀ c a w, St G c0 w0 N n0 (ofL ks ys) H1 c a w → Q e.to a w) (hen : e ≠ .normal) {m : Nat} {xs : List AV} {H : AHeap} {c : Ctx} {a : Act} {w : World}
    (hi : iter n0 ks (exec P G E ann n b) m xs H = some (e, ys, H1)) (hs : St G c0 w0 N n0 (ofL ks xs) H c a w) : (Code.loop b).wp P Q a w := by
  refine wp_loop_fuel (fun m a w => ∃ xs H c, iter n0 ks (exec P G E ann n b) m xs H = some (e, ys, H1) ∧ St G c0 w0 N n0 (ofL ks xs) H c a w) ?_ ⟨xs, H, c, hi, hs⟩
  intro m a w ⟨xs, H, c, hi, hs⟩
  cases m with
  | zero => simp [iter_zero] at hi
  | succ m =>
    simp only [iter_succ] at hi
    split at hi
    case h_2 => cases hi
    rename_i H0 hcut
    obtain ⟨hs0, hlen⟩ := hs.cut hG hcut hl hs.low
    refine hb n0 _ _ _ _ _ _ _ _ hl hi hs0 ?_
    intro e' T' H' c' a' w' hk hs'
    cases e' with
    | normal => exact ⟨m, by omega, ks.map T', H', c', hk, hs'.kept ks⟩
    | exit id =>
      simp only [Option.some.injEq, Prod.mk.injEq] at hk
      obtain ⟨rfl, rfl, rfl⟩ := hk
      exact hq _ _ _ (hs'.kept ks)
    | ret =>
      simp only [Option.some.injEq, Prod.mk.injEq] at hk
      obtain ⟨rfl, rfl, rfl⟩ := hk
      exact hq _ _ _ (hs'.kept ks)

/-- What the rounds come to. -/
theorem iter_not_normal {n : Nat} {b : Code} {n0 : Nat} {ks : List Nat} {ys : List AV} {H1 : AHeap} (hx : ∀ (K : Kont) T H out, exec P G E ann n b K T H = some out → ∃ e T' H', K e T' H' = some out) :
    ∀ (m : Nat) (xs : List AV) (H : AHeap), iter n0 ks (exec P G E ann n b) m xs H ≠ some (.normal, ys, H1)
  | 0, xs, H, hi => by simp [iter_zero] at hi
  | m + 1, xs, H, hi => by
    simp only [iter_succ] at hi
    split at hi
    case h_2 => cases hi
    obtain ⟨e, T', H', hk⟩ := hx _ _ _ _ hi
    cases e with
    | normal => exact iter_not_normal hx m _ _ hk
    | exit id => simp at hk
    | ret => simp at hk

theorem runOps_comes {γ : Type} {ops : Array Oper} {K : TS → AHeap → Option γ} {out : γ} : ∀ {l : List Oper} {T : TS} {H : AHeap}, runOps P G E ann ops l K T H = some out → ∃ T' H', K T' H' = some out
  | [], T, H, h => ⟨T, H, h⟩
  | o :: l, T, H, h => by
    simp only [runOps, bnd] at h
    split at h
    · exact runOps_comes h
    · cases h

theorem vK_comes {γ : Type} {k : AHeap → Option γ} {out : γ} : ∀ (l : List (AV × Nat × Nat × Nat)) {H : AHeap}, vK l H k = some out → ∃ H', k H' = some out
  | [], H, h => ⟨H, h⟩
  | q :: l, H, h => vK_comes l (by simpa only [vK] using h)

/-- An evaluation comes to its end by its continuation. -/
theorem exec_comes (n : Nat) : ∀ (code : Code) (K : Kont) (T : TS) (H : AHeap) (out : Outc), exec P G E ann n code K T H = some out → ∃ e T' H', K e T' H' = some out := by
  intro code
  induction code with
  | skip => exact fun K T H out h => ⟨_, _, _, h⟩
  | region id ops draw =>
      intro K T H out h
      simp only [exec, runR_eq] at h
      obtain ⟨T', H', h'⟩ := runOps_comes h
      cases draw with
      | true => exact ⟨_, T', H', (grd_some h').1⟩
      | false => exact ⟨_, T', H', h'⟩
  | seq x y ihx ihy =>
    intro K T H out h
    simp only [exec] at h
    split at h
    · obtain ⟨e, T', H', h'⟩ := ihx _ _ _ _ h
      cases e with
      | normal => exact ihy _ _ _ _ h'
      | exit id => exact ⟨_, _, _, h'⟩
      | ret => exact ⟨_, _, _, h'⟩
    · unfold thenK at h
      split at h
      case h_2 => cases h
      rename_i e xs H' _
      cases e with
      | normal => exact ihy _ _ _ _ h
      | exit id => exact ⟨_, _, _, h⟩
      | ret => exact ⟨_, _, _, h⟩
  | cond c x y ihx ihy =>
    intro K T H out h
    simp only [exec] at h
    unfold condA at h
    split at h
    · split at h
      · exact ihx _ _ _ _ h
      · exact ihy _ _ _ _ h
    · exact ihx _ _ _ _ (bothA_eq h).1
    · cases h
  | block id b ih =>
    intro K T H out h
    simp only [exec] at h
    obtain ⟨e, T', H', h'⟩ := ih _ _ _ _ h
    cases e with
    | normal => exact ⟨_, _, _, h'⟩
    | exit i =>
      simp only at h'
      split at h'
      · exact ⟨_, _, _, h'⟩
      · exact ⟨_, _, _, h'⟩
    | ret => exact ⟨_, _, _, h'⟩
  | loop b ih =>
    intro K T H out h
    simp only [exec] at h
    obtain ⟨H, h⟩ := vK_comes _ h
    unfold thenK at h
    split at h
    · exact ⟨_, _, _, h⟩
    · cases h
  | scope b ih => exact fun K T H out h => ih _ _ _ _ h
  | exit id => exact fun K T H out h => ⟨_, _, _, h⟩
  | label l => exact fun K T H out h => ⟨_, _, _, h⟩
  | ret => exact fun K T H out h => ⟨_, _, _, h⟩
  | rangeFunc f ps a b _ _ => exact fun K T H out h => by simp [exec] at h
  | goto l => exact fun K T H out h => by simp [exec] at h
  | refuse why => exact fun K T H out h => by simp [exec] at h

theorem exec_fine (hE : EnvSound P G E) (hm : P.follows .mixedOrders = true) (n : Nat) : ∀ (code : Code), codeOk ann (pureIn E) N code = true → Fine P G E ann c0 w0 N n code := by
  intro code
  induction code with
  | skip => exact fun _ B K T H out c a w Q hB h hs hQ => wp_skip (hQ .normal _ _ _ _ _ h hs)
  | region id ops draw =>
    intro hok B K T H out c a w Q hB h hs hQ
    simp only [codeOk, Bool.and_eq_true] at hok
    have hdst : ∀ (i : Nat) (o : Oper) (t : Nat), ops[i]? = some o → o.dst = some t → t < N := by
      intro i o t ho ht
      have := List.all_eq_true.1 hok.1 o (List.mem_of_getElem? (i := i) (by simpa using ho))
      simpa [ht] using this
    simp only [exec, runR_eq] at h
    cases draw with
    | false => exact region_text hE hdst (fun T H c a w hk hs' => hQ .normal T H c a w hk hs') h hs
    | true => exact region_draw hm (by simpa using hok.2) hE hdst (fun T H c a w hk hs' => hQ .normal T H c a w hk hs') h hs
  | seq x y ihx ihy =>
    intro hok B K T H out c a w Q hB h hs hQ
    simp only [codeOk, Bool.and_eq_true] at hok
    refine wp_seq ?_
    simp only [exec] at h
    split at h
    · refine ihx hok.1 B _ _ _ _ _ _ _ _ hB h hs ?_
      intro e T' H' c' a' w' hk hs'
      cases e with
      | normal => exact ihy hok.2 B _ _ _ _ _ _ _ _ hB hk hs' hQ
      | exit id => exact hQ (.exit id) _ _ _ _ _ hk hs'
      | ret => exact hQ .ret _ _ _ _ _ hk hs'
    · rename_i ks _
      unfold thenK at h
      split at h
      case h_2 => cases h
      rename_i e xs H1 h1
      refine ihx hok.1 B _ _ _ _ _ _ _ _ hB h1 hs ?_
      intro e' T' H' c' a' w' hk hs'
      simp only [Option.some.injEq, Prod.mk.injEq] at hk
      obtain ⟨rfl, rfl, rfl⟩ := hk
      cases e' with
      | normal => exact ihy hok.2 B _ _ _ _ _ _ _ _ hB h (hs'.kept ks) hQ
      | exit id => exact hQ (.exit id) _ _ _ _ _ h (hs'.kept ks)
      | ret => exact hQ .ret _ _ _ _ _ h (hs'.kept ks)
  | cond cc x y ihx ihy =>
    intro hok B K T H out c a w Q hB h hs hQ
    simp only [codeOk, Bool.and_eq_true] at hok
    simp only [exec] at h
    have hr : Rel c (opd T cc) (a.eval cc) := rel_opd (fun t _ => hs.tmps t)
    unfold condA at h
    split at h
    · rename_i b hb
      rw [hb] at hr
      cases b with
      | true => exact wp_cond_true hr.of_bool (ihx hok.1 B _ _ _ _ _ _ _ _ hB h hs hQ)
      | false => exact wp_cond_false hr.of_bool (ihy hok.2 B _ _ _ _ _ _ _ _ hB h hs hQ)
    · rename_i hb
      rw [hb] at hr
      obtain ⟨h1, h2⟩ := bothA_eq h
      obtain ⟨b, hb'⟩ := hr.of_anyb
      cases b with
      | true => exact wp_cond_true hb' (ihx hok.1 B _ _ _ _ _ _ _ _ hB h1 hs hQ)
      | false => exact wp_cond_false hb' (ihy hok.2 B _ _ _ _ _ _ _ _ hB h2 hs hQ)
    · cases h
  | block id b ih =>
    intro hok B K T H out c a w Q hB h hs hQ
    simp only [codeOk] at hok
    simp only [exec] at h
    refine wp_block (ih hok B _ _ _ _ _ _ _ _ hB h hs ?_)
    intro e T' H' c' a' w' hk hs'
    cases e with
    | normal => exact hQ .normal _ _ _ _ _ hk hs'
    | exit i =>
      simp only [Ex.to, Exit.inBlock] at hk ⊢
      split at hk
      · rename_i hi; rw [if_pos hi]; exact hQ .normal _ _ _ _ _ hk hs'
      · rename_i hi; rw [if_neg hi]; exact hQ (.exit i) _ _ _ _ _ hk hs'
    | ret => exact hQ .ret _ _ _ _ _ hk hs'
  | loop b ih =>
    intro hok B K T H out c a w Q hB h hs hQ
    simp only [codeOk] at hok
    simp only [exec] at h
    obtain ⟨c, H, h, -, hs⟩ := vK_sound _ h hs
    unfold thenK at h
    split at h
    case h_2 => cases h
    rename_i e xs H1 h1
    have hBH : B ≤ H.length := hs.low
    refine iter_fine (n0 := H.length) (ih hok) hE.glob (fun b hb => Nat.lt_of_lt_of_le (hB b hb) hBH) (fun c' a' w' hs' => hQ e _ _ _ _ _ h (hs'.weak (Nat.le_trans hBH hs'.low))) ?_ h1 ((hs.kept _).weak (Nat.le_refl _))
    rintro rfl
    exact iter_not_normal (exec_comes n b) _ _ _ h1
  | scope b ih =>
    intro hok B K T H out c a w Q hB h hs hQ
    simp only [codeOk] at hok
    simp only [exec] at h
    refine wp_scope_straight (ih hok B _ _ _ _ _ _ _ _ hB h hs ?_)
    intro e T' H' c' a' w' hk hs'
    cases e with
    | normal => exact hQ .normal _ _ _ _ _ hk hs'
    | exit i => exact hQ (.exit i) _ _ _ _ _ hk hs'
    | ret => exact hQ .ret _ _ _ _ _ hk hs'
  | exit id => exact fun _ B K T H out c a w Q hB h hs hQ => wp_exit (hQ (.exit id) _ _ _ _ _ h hs)
  | label l => exact fun _ B K T H out c a w Q hB h hs hQ => wp_label (hQ .normal _ _ _ _ _ h hs)
  | ret => exact fun _ B K T H out c a w Q hB h hs hQ => wp_ret (hQ .ret _ _ _ _ _ h hs)
  | rangeFunc f ps a b _ _ => exact fun _ B K T H out c a w Q hB h hs hQ => by simp [exec] at h
  | goto l => exact fun _ B K T H out c a w Q hB h hs hQ => by simp [exec] at h
  | refuse why => exact fun _ B K T H out c a w Q hB h hs hQ => by simp [exec] at h

end

end Go.Proofs.YtdfglgnflldkpaaDoor.Mir
