/- Printed by rowgen.py: the row of BoundSound, out of its law in plain Lean. -/
import Derived.Test.YtcmblhedhgiofaaDoorZz8
import Derived.Test.YtcmblhedhgiofaaDoorTie
import Derived.Test.YtcmblhedhgiofaaDoorCards
import Derived.SevenTiedAt
namespace Go.Proofs.YtcmblhedhgiofaaDoor.Mir
open Go
set_option linter.unusedSimpArgs false
set_option linter.unusedVariables false
set_option maxHeartbeats 8000000
set_option maxRecDepth 20000
theorem lY {α : Type} (l : List α) (i j : Nat) (x d : α) (hi : i < l.length) : (l.set i x).getD j d = if i = j then x else l.getD j d := by
 rw [List.getD_eq_getElem?_getD, List.getD_eq_getElem?_getD, List.getElem?_set]
 by_cases h : i = j
 ·rw [if_pos h, if_pos h, if_pos hi]; rfl
 ·rw [if_neg h, if_neg h]
theorem wX {α : Type} (l : List α) (n : Nat) (x d : α) (r : List α) (h : l.drop n = x :: r) : l.getD n d = x ∧ n < l.length ∧ l.drop (n + 1) = r := by
 have h0 : (l.drop n)[0]? = some x := by rw [h]; rfl
 rw [List.getElem?_drop, Nat.add_zero] at h0
 have hl := (List.getElem?_eq_some_iff.1 h0).1
 refine ⟨by rw [List.getD_eq_getElem?_getD, h0]; rfl, hl, ?_⟩
 have := congrArg (List.drop 1) h
 rw [List.drop_drop] at this
 simpa using this
def dZ : List Ins → List (Int × Int) → Option (List (Int × Int))
 | [], _ => some []
 | i :: ws, l => if i.op = 20 then some (List.replicate (ws.length + 1) (0, 0)) else if 15 ≤ i.op ∧ i.op ≤ 19 then none else
  match dG i.op i.k (l.getD i.a.toNat (0, 0)) (l.getD i.b.toNat (0, 0)) (l.getD i.c.toNat (0, 0)) with
  | none => none
  | some a => (dZ ws (l.set i.d.toNat a)).map (a :: ·)
theorem jL : ∀ {ws : List Ins} {l out : List (Int × Int)}, dZ ws l = some out → out.length = ws.length
 | [], l, out, h => by simp [dZ] at h; subst h; rfl
 | i :: ws, l, out, h => by
  unfold dZ at h
  split at h
  ·simp only [Option.some.injEq] at h; subst h; simp
  ·split at h
   ·cases h
   ·split at h
    ·cases h
    ·rename_i a _
     cases hs : dZ ws (l.set i.d.toNat a) with
     | none => rw [hs] at h; cases h
     | some o =>
      rw [hs] at h
      simp only [Option.map_some, Option.some.injEq] at h
      subst h
      simp [jL hs]
structure InvS (R : Nat) (s : MS) (l : List (Int × Int)) : Prop where
 rl : s.regs.length = R + 1
 ll : l.length = R
 ins : ∀ r, r < R → inS (l.getD r (0, 0)) (fF (s.regs.getD r 0))
theorem rZ {sp : List (Int × Int)} {s : MS} {i : Ins} (h : ¬ (i.op = 3 ∨ i.op = 4 ∨ i.op = 5 ∨ i.op = 10)) : B3.wrongB sp s i = false := by
 have e : B3.askedB i.op = false := decide_eq_false h
 unfold B3.wrongB
 rw [e]; rfl
section
variable {sp : List (Int × Int)} {cs : List Ins} {fuel : Int} {R : Nat}
theorem aCw {s : MS} {n : Nat} (h : s.Ok n) (hs : s.steps < 100000) : s.tick.Ok n ∧ s.tick.leaks.length + 1 ≤ 3 * s.tick.steps := by
 have := h.leaks
 refine ⟨⟨h.len, h.regs, h.mem, ?_, h.big, ?_⟩, ?_⟩
 ·simp [MS.tick, MS.leak]; omega
 ·simp [MS.tick, MS.leak]; omega
 ·simp [MS.tick, MS.leak]; omega
theorem rH (hf : fuel ≤ 99999) (hok : ∀ i ∈ cs, i.Ok2 R cs.length) (hk : ∀ i ∈ cs, Rg i.k) : ∀ (f : Nat) (ws : List Ins) (p : Nat) (l out : List (Int × Int)) (s : MS) (o : MS × Int) (d : List Ins), (∀ i ∈ ws, i ∈ cs) → d.drop p = ws → sp.drop p = out → dZ ws l = some out → InvS R s l → s.at_ = p → s.Ok (R + 1) → (s.steps : Int) ≤ fuel → B3.runB sp d fuel f s = some o → o.2 = -1
 | 0, ws, p, l, out, s, o, d, _, _, _, _, _, _, _, _, h => by simp [B3.runB] at h
 | f + 1, ws, p, l, out, s, o, d, hws, hd, hsp, hst, hinv, hat, hsok, hste, h => by
  simp only [B3.runB] at h
  by_cases h1 : d.length ≤ s.at_
  ·rw [if_pos h1] at h; simp only [Option.some.injEq] at h; subst h; rfl
  rw [if_neg h1] at h
  by_cases h2 : (s.steps : Int) = fuel
  ·rw [if_pos h2] at h; simp only [Option.some.injEq] at h; subst h; rfl
  rw [if_neg h2] at h
  cases ws with
  | nil =>
   have : d.length ≤ p := by
    have := congrArg List.length hd
    rw [List.length_drop] at this
    simp only [List.length_nil] at this; omega
   omega
  | cons i ws =>
   obtain ⟨g1, g2, g3⟩ := wX d p i default ws hd
   rw [hat, g1] at h
   have hmem := hws i (List.mem_cons_self ..)
   have hi := hok i hmem
   have h20 := hi.ok.op
   unfold dZ at hst
   by_cases h3 : i.op = 20
   ·have hw : B3.wrongB sp s i = false := rZ (by omega)
    rw [hw, if_neg (by decide)] at h
    have e : s.tick.step i = ({ ({ s.tick with at_ := s.tick.at_ + 1 } : MS) with code := i.k }, false) := by
     unfold MS.step
     simp only
     rw [if_neg (by omega), if_neg (by omega), if_pos h3]
    rw [e] at h
    simp only [Option.some.injEq] at h
    subst h; rfl
   rw [if_neg h3] at hst
   by_cases h4 : 15 ≤ i.op ∧ i.op ≤ 19
   ·rw [if_pos h4] at hst; cases hst
   rw [if_neg h4] at hst
   have ho : 1 ≤ i.op ∧ i.op ≤ 14 := by omega
   have ha := hi.ok.a (by omega) (by omega)
   have hb := hi.ok.b (by omega)
   have hc := hi.ok.c (by omega)
   have hdd := hi.ok.d (by omega)
   cases hm : dG i.op i.k (l.getD i.a.toNat (0, 0)) (l.getD i.b.toNat (0, 0)) (l.getD i.c.toNat (0, 0)) with
   | none => rw [hm] at hst; cases hst
   | some a =>
    rw [hm] at hst
    simp only at hst
    cases hs' : dZ ws (l.set i.d.toNat a) with
    | none => rw [hs'] at hst; cases hst
    | some o2 =>
     rw [hs'] at hst
     simp only [Option.map_some, Option.some.injEq] at hst
     subst hst
     obtain ⟨k1, k2, k3⟩ := wX sp p a (0, 0) o2 hsp
     have ia := hinv.ins i.a.toNat (by omega)
     have ib := hinv.ins i.b.toNat (by omega)
     have ic := hinv.ins i.c.toNat (by omega)
     have hw : B3.wrongB sp s i = false := by
      by_cases hask : i.op = 3 ∨ i.op = 4 ∨ i.op = 5 ∨ i.op = 10
      ·obtain ⟨x1, x2⟩ := aDA hm hask ia ib
       unfold B3.wrongB
       rw [hat, k1]
       have e1 : (wG i.op i.k (s.rg i.a) (s.rg i.b)).2 = true := x1
       have e2 : B3.hasB a (wG i.op i.k (s.rg i.a) (s.rg i.b)).1 = true := decide_eq_true x2
       rw [e1, e2]; simp
      ·exact rZ hask
     rw [hw, if_neg (by decide)] at h
     have hlr := hsok.len
     have hlt : ∀ r, s.regs.getD r 0 < 18446744073709551616 := fun r => by
      rw [List.getD_eq_getElem?_getD]
      cases hq : s.regs[r]? with
      | none => decide
      | some x => exact hsok.regs x (List.mem_of_getElem? hq)
     have hv := aEW (n := i.k) (a := s.rg i.a) (b := s.rg i.b) (c := s.rg i.c) ho hi.sh
     have e : s.tick.step i = (({ s.tick with at_ := s.tick.at_ + 1 } : MS).set i.d (gJ i.op i.k (s.rg i.a) (s.rg i.b) (s.rg i.c)).1, true) := by
      unfold MS.step
      simp only
      rw [if_neg (by omega), if_neg (by omega), if_neg (by omega)]
      exact if_pos hv
     obtain ⟨t1, t2⟩ := aCw hsok (by omega)
     have okR : i.Ok (R + 1) d.length := ⟨hi.ok.op, fun h1 h2 => by have := hi.ok.a h1 h2; omega, fun h1 => by have := hi.ok.d h1; omega, fun h1 => by have := hi.ok.b h1; omega, fun h1 => by have := hi.ok.c h1; omega, fun h1 h2 => by omega⟩
     have so := MS.step_ok t1 okR t2 (show s.tick.at_ < d.length by rw [show s.tick.at_ = s.at_ from rfl, hat]; exact g2)
     rw [e] at h so
     simp only at h so
     obtain ⟨o1, _, o3, _⟩ := so
     have hin := aDB hm ho hi.sh (hk i hmem) (hlt i.a.toNat) (hlt i.b.toNat) (hlt i.c.toNat) ia ib ic
     refine rH hf hok hk f ws (p + 1) (l.set i.d.toNat a) o2 _ o d (fun j hj => hws j (List.mem_cons_of_mem _ hj)) g3 k3 hs' ⟨?_, ?_, fun r hr => ?_⟩ ?_ o1 ?_ h
     ·show (s.regs.set i.d.toNat _).length = R + 1
      rw [List.length_set]; exact hinv.rl
     ·rw [List.length_set]; exact hinv.ll
     ·show inS _ (fF ((s.regs.set i.d.toNat (gJ i.op i.k (s.rg i.a) (s.rg i.b) (s.rg i.c)).1).getD r 0))
      rw [lY _ _ _ _ _ (by rw [hinv.ll]; omega), lY _ _ _ _ _ (by rw [hinv.rl]; omega)]
      by_cases hr2 : i.d.toNat = r
      ·rw [if_pos hr2, if_pos hr2]; exact hin
      ·rw [if_neg hr2, if_neg hr2]; exact hinv.ins r hr
     ·show s.at_ + 1 = p + 1
      rw [hat]
     ·show ((s.tick.steps : Nat) : Int) ≤ fuel
      show ((s.steps + 1 : Nat) : Int) ≤ fuel
      push_cast; omega
def kS (R r : Nat) : Ins := ⟨15, r, R, 0, 0, r⟩
theorem aCg (hf : fuel ≤ 99999) (hok : ∀ i ∈ cs, i.Ok2 R cs.length) (hk : ∀ i ∈ cs, Rg i.k) (hR : R ≤ 60000) {mem : List Nat} (hml : mem.length = R) {ins out : List (Int × Int)} (hil : ins.length = R) (hst : dZ cs ins = some out) (hin : ∀ r, r < R → inS (ins.getD r (0, 0)) (fF (mem.getD r 0))) {d : List Ins} (hdl : ∀ r, r < R → d.getD r default = kS R r) (hdR : d.drop R = cs) (hsR : sp.drop R = out) (hRd : R ≤ d.length) : ∀ (f : Nat) (r : Nat) (s : MS) (o : MS × Int), r ≤ R → s.at_ = r → s.mem = mem → s.Ok (R + 1) → (∀ i, i ≤ R → s.regs.getD i 0 = if i < r then mem.getD i 0 else 0) → (s.steps : Int) ≤ fuel → B3.runB sp d fuel f s = some o → o.2 = -1
 | 0, r, s, o, _, _, _, _, _, _, h => by simp [B3.runB] at h
 | f + 1, r, s, o, hr, hat, hm, hsok, hreg, hste, h => by
  by_cases hrR : r = R
  ·subst hrR
   refine rH (sp := sp) (cs := cs) (R := r) hf hok hk (f + 1) cs r ins out s o d (fun i hi => hi) hdR hsR hst ⟨hsok.len, hil, fun i hi => ?_⟩ hat hsok hste h
   rw [hreg i (by omega), if_pos hi]; exact hin i hi
  simp only [B3.runB] at h
  by_cases h1 : d.length ≤ s.at_
  ·rw [if_pos h1] at h; simp only [Option.some.injEq] at h; subst h; rfl
  rw [if_neg h1] at h
  by_cases h2 : (s.steps : Int) = fuel
  ·rw [if_pos h2] at h; simp only [Option.some.injEq] at h; subst h; rfl
  rw [if_neg h2] at h
  have hi := hdl r (by omega)
  rw [hat, hi] at h
  have hw : B3.wrongB sp s (kS R r) = false := rZ (by simp [kS])
  rw [hw, if_neg (by decide)] at h
  have e0 : s.rg (R : Int) = 0 := by
   show s.regs.getD ((R : Int)).toNat 0 = 0
   rw [Int.toNat_natCast, hreg R (Nat.le_refl _), if_neg (by omega)]
  have ead : (s.rg (R : Int) + u64 (r : Int)) % 18446744073709551616 = r := by
   rw [e0, zG r (by omega)]; omega
  have e : ∃ lk, s.tick.step (kS R r) = (⟨s.regs.set r (mem.getD r 0), s.at_ + 1, s.code, s.mem, lk, s.steps + 1⟩, true) := by
   refine ⟨(s.leaks ++ [(1, (s.at_ : Int))]) ++ [(3, fF r)], ?_⟩
   unfold MS.step
   simp only
   rw [if_pos (show (kS R r).op = 15 ∨ (kS R r).op = 16 from .inl rfl)]
   unfold MS.touch
   have ea : ((({ s.tick with at_ := s.tick.at_ + 1 } : MS).rg (kS R r).a + u64 (kS R r).k) % 18446744073709551616) = r := ead
   simp only [ea]
   rw [if_neg (show ¬ s.tick.mem.length ≤ r by show ¬ s.mem.length ≤ r; rw [hm, hml]; omega)]
   have eop : (kS R r).op = 15 := rfl
   rw [if_pos eop]
   have emm : s.tick.mem = mem := hm
   have ed : ((kS R r).d).toNat = r := Int.toNat_natCast r
   unfold MS.set
   simp only [ed, emm]
   rw [← hm]
   rfl
  obtain ⟨lk, e⟩ := e
  obtain ⟨t1, t2⟩ := aCw hsok (by omega)
  have okR : (kS R r).Ok (R + 1) d.length := ⟨by simp [kS], fun _ _ => by simp [kS]; try omega, fun _ => by simp [kS]; try omega, fun _ => by simp [kS]; try omega, fun _ => by simp [kS]; try omega, fun h1 _ => by simp [kS] at h1⟩
  have so := MS.step_ok t1 okR t2 (show s.tick.at_ < d.length by rw [show s.tick.at_ = s.at_ from rfl, hat]; omega)
  rw [e] at h so
  simp only at h so
  obtain ⟨o1, _, o3, _⟩ := so
  have hrl := hsok.len
  refine aCg hf hok hk hR hml hil hst hin hdl hdR hsR hRd f (r + 1) (⟨s.regs.set r (mem.getD r 0), s.at_ + 1, s.code, s.mem, lk, s.steps + 1⟩ : MS) o (by omega) (by show s.at_ + 1 = r + 1; rw [hat]) hm o1 (fun i hi2 => ?_) (by show ((s.steps + 1 : Nat) : Int) ≤ fuel; push_cast; omega) h
  show (s.regs.set r (mem.getD r 0)).getD i 0 = _
  rw [lY _ _ _ _ _ (by omega)]
  by_cases e2 : r = i
  ·subst e2; rw [if_pos rfl, if_pos (by omega)]
  ·rw [if_neg e2, hreg i hi2]
   by_cases e3 : i < r
   ·rw [if_pos e3, if_pos (by omega)]
   ·rw [if_neg e3, if_neg (by omega)]
end
theorem aBr {i : Ins} {R n : Int} (h : jG i R n = none) : (jQ i.op).isSome = true ∧ pL (iZ i.op) i R = false ∧ rT (iZ i.op) i = false := by
 unfold jG at h
 by_cases h0 : (jQ i.op).isSome = false
 ·rw [if_pos h0] at h; cases h
 rw [if_neg h0] at h
 by_cases h1 : pL (iZ i.op) i R = true
 ·rw [if_pos h1] at h; cases h
 rw [if_neg h1] at h
 by_cases h2 : rT (iZ i.op) i = true
 ·rw [if_pos h2] at h; cases h
 have b1 : ∀ b : Bool, ¬ b = false → b = true := by decide
 have b2 : ∀ b : Bool, ¬ b = true → b = false := by decide
 exact ⟨b1 _ h0, b2 _ h1, b2 _ h2⟩
theorem nX {b : Bool} {r R R2 : Int} (h : kT b r R = false) (hR : R ≤ R2) : kT b r R2 = false := by
 unfold kT at h ⊢
 cases b with
 | false => rfl
 | true =>
  simp only [Bool.true_and, Bool.or_eq_false_iff, decide_eq_false_iff_not] at h ⊢
  omega
theorem aCX {i : Ins} {R n R2 n2 : Int} (h : jG i R n = none) (hR : R ≤ R2) (hn : n ≤ n2) : jG i R2 n2 = none := by
 obtain ⟨p1, p2, p3⟩ := aBr h
 have p2' : pL (iZ i.op) i R2 = false := by
  simp only [pL, Bool.or_eq_false_iff] at p2 ⊢
  exact ⟨⟨⟨nX p2.1.1.1 hR, nX p2.1.1.2 hR⟩, nX p2.1.2 hR⟩, nX p2.2 hR⟩
 unfold jG at h ⊢
 rw [p1, p2, p3] at h
 rw [p1, p2', p3]
 simp only [Bool.true_eq_false, Bool.false_eq_true, if_false] at h ⊢
 split at h
 ·exact (if_pos ‹_›).trans h
 ·rw [if_neg ‹_›]
  split at h
  ·exact (if_pos ‹_›).trans h
  ·rw [if_neg ‹_›]
   split at h
   ·exact (if_pos ‹_›).trans h
   ·rw [if_neg ‹_›]
    split at h
    ·rw [if_pos ‹_›]
     split at h
     ·cases h
     ·rw [if_neg (by omega)]
    ·exact if_neg ‹_›
theorem wM {R n : Int} : ∀ {l : List Ins} {j : Nat}, mY R n l j = .ok → ∀ i ∈ l, jG i R n = none
 | [], _, _, i, hi => by cases hi
 | x :: l, j, h, i, hi => by
  unfold mY at h
  split at h
  ·cases h
  ·rename_i ho
   rcases List.mem_cons.1 hi with rfl | hi
   ·exact ho
   ·exact wM h i hi
theorem aBI {R n : Int} : ∀ (l : List Ins) (j : Nat), (∀ i ∈ l, jG i R n = none) → mY R n l j = .ok
 | [], _, _ => rfl
 | x :: l, j, h => by
  unfold mY
  rw [h x (List.mem_cons_self ..)]
  exact aBI l (j + 1) fun i hi => h i (List.mem_cons_of_mem _ hi)
theorem aAJ {cs : List Ins} {R M : Int} (h : fP cs R M = .ok) : ∀ i ∈ cs, jG i R cs.length = none := by
 have hb := (rY h).1
 unfold fP at h
 rw [if_neg (by omega), if_neg (by omega)] at h
 exact wM h
theorem aDd {cs : List Ins} {R M : Int} (h0 : cs.length ≤ 262144) (h1 : 0 ≤ R ∧ R ≤ 65536) (h2 : 0 ≤ M ∧ M ≤ 65536) (h : ∀ i ∈ cs, jG i R cs.length = none) : fP cs R M = .ok := by
 unfold fP
 rw [if_neg (by omega), if_neg (by omega)]
 exact aBI cs 0 h
def kU (R : Nat) : Nat → List Ins
 | 0 => []
 | r + 1 => kU R r ++ [kS R r]
theorem gC (R : Nat) : ∀ r, (kU R r).length = r
 | 0 => rfl
 | r + 1 => by simp [kU, gC R r]
theorem aAu (R : Nat) : ∀ (n r : Nat), r < n → (kU R n)[r]? = some (kS R r)
 | 0, r, h => by omega
 | n + 1, r, h => by
  show (kU R n ++ [kS R n])[r]? = _
  by_cases hr : r < n
  ·rw [List.getElem?_append_left (by rw [gC]; exact hr)]; exact aAu R n r hr
  ·have : r = n := by omega
   subst this
   rw [List.getElem?_append_right (by rw [gC]; exact Nat.le_refl _), gC, Nat.sub_self]; rfl
theorem aAv (R : Nat) : ∀ (n : Nat) (x : Ins), x ∈ kU R n → ∃ r, r < n ∧ x = kS R r
 | 0, x, h => by cases h
 | n + 1, x, h => by
  rcases List.mem_append.1 h with h | h
  ·obtain ⟨r, h1, h2⟩ := aAv R n x h
   exact ⟨r, by omega, h2⟩
  ·exact ⟨n, by omega, by rw [List.mem_singleton.1 h]⟩
theorem aFE {R r n : Nat} (h : r < R) (hR : R ≤ 60000) : jG (kS R r) ((R + 1 : Nat) : Int) n = none := by
 have e1 : pL (iZ (kS R r).op) (kS R r) ((R + 1 : Nat) : Int) = false := by
  simp [kS, pL, kT, iZ, jQ]
  repeat' apply aHv
  all_goals exact decide_eq_false (by omega)
 have e2 : rT (iZ (kS R r).op) (kS R r) = false := by simp [kS, rT, iZ, jQ]
 have e3 : (jQ (kS R r).op).isSome = true := rfl
 unfold jG
 rw [e1, e2, e3]
 simp only [Bool.true_eq_false, Bool.false_eq_true, if_false]
 rw [if_neg (by simp [kS]), if_neg (by simp [kS]), if_pos (by simp [kS]), if_neg (by simp only [kS]; omega)]
theorem aDe {cs : List Ins} {R : Nat} {M : Int} (h : fP cs R M = .ok) (hR : R ≤ 20) (hl : cs.length ≤ 60) : fP (kU R R ++ cs) ((R + 1 : Nat) : Int) R = .ok := by
 have hn := aAJ h
 have hlen : (kU R R ++ cs).length = R + cs.length := by simp [gC]
 refine aDd (by rw [hlen]; omega) (by omega) (by omega) fun i hi => ?_
 rcases List.mem_append.1 hi with hi | hi
 ·obtain ⟨r, h1, rfl⟩ := aAv R R i hi
  exact aFE h1 (by omega)
 ·exact aCX (hn i hi) (by omega) (by rw [hlen]; omega)
def iJ (o : Option (Int × Int)) : AV := .tup [bW (o.getD (0, 0)), .bool o.isSome]
theorem rF (c : Prop) [Decidable c] (b : Bool) (hb : b = decide c) (lo hi : Int) : SP.spanS b lo hi = iJ (if c then some (lo, hi) else none) := by
 subst hb
 unfold SP.spanS iJ
 by_cases h : c
 ·rw [decide_eq_true h, if_pos h, if_pos rfl]; rfl
 ·rw [decide_eq_false h, if_neg h, if_neg (by decide)]; rfl
theorem aGi (p q : Int × Int) : SP.spanS (decide (p.1 ≤ p.2) && decide (q.1 ≤ q.2) && fG (p.1 + q.1) && fG (p.2 + q.2)) (p.1 + q.1) (p.2 + q.2) = iJ (oG p q) := by
 unfold oG
 exact rF _ _ (by simp [fG, Bool.and_assoc]) _ _
theorem aGz (p q : Int × Int) : SP.spanS (decide (p.1 ≤ p.2) && decide (q.1 ≤ q.2) && fG (p.1 - q.2) && fG (p.2 - q.1)) (p.1 - q.2) (p.2 - q.1) = iJ (oV p q) := by
 unfold oV
 exact rF _ _ (by simp [fG, Bool.and_assoc]) _ _
theorem aGu (p q : Int × Int) : SP.spanS (decide (p.1 ≤ p.2) && decide (q.1 ≤ q.2) && fG (p.1 * q.1) && fG (p.1 * q.2) && fG (p.2 * q.1) && fG (p.2 * q.2)) (min (p.1 * q.1) (min (p.1 * q.2) (min (p.2 * q.1) (p.2 * q.2)))) (max (p.1 * q.1) (max (p.1 * q.2) (max (p.2 * q.1) (p.2 * q.2)))) = iJ (oS p q) := by
 unfold oS
 exact rF _ _ (by simp [fG, Bool.and_assoc]) _ _
theorem aCt (p : Int × Int) (k : Int) : SP.shlV p.1 p.2 k = iJ (oU p k) := by
 unfold SP.shlV oU
 by_cases h : k < 0 ∨ 62 < k
 ·rw [if_pos h, if_pos h]; rfl
 ·rw [if_neg h, if_neg h]
  exact rF _ _ (by simp [fG, Bool.and_assoc]) _ _
theorem aCs (p : Int × Int) (k : Int) : SP.sarV p.1 p.2 k = bW (vN p k) := by
 unfold SP.sarV vN
 split <;> rfl
theorem aBF (p q : Int × Int) : SP.andV p.1 p.2 q.1 q.2 = bW (uB p q) := by
 unfold SP.andV uB
 by_cases h : p.1 ≤ p.2 ∧ q.1 ≤ q.2
 ·rw [if_pos h, decide_eq_true h.1, decide_eq_true h.2, if_pos (show (true && true) = true from rfl)]
  repeat' split
  all_goals rfl
 ·rw [if_neg h]
  have : (decide (p.1 ≤ p.2) && decide (q.1 ≤ q.2)) = false := by
   rw [← Bool.decide_and]; exact decide_eq_false h
  rw [this]; rfl
theorem aAi (p q : Int × Int) : SP.joinV p.1 p.2 q.1 q.2 = bW (nH p q) := by
 unfold SP.joinV nH
 by_cases h : p.1 ≤ p.2 ∧ q.1 ≤ q.2
 ·rw [if_pos h, decide_eq_true h.1, decide_eq_true h.2, if_pos (show (true && true) = true from rfl)]; rfl
 ·rw [if_neg h]
  have : (decide (p.1 ≤ p.2) && decide (q.1 ≤ q.2)) = false := by
   rw [← Bool.decide_and]; exact decide_eq_false h
  rw [this]; rfl
theorem jS (o : Option (Int × Int)) : fL (iJ o) = true := by cases o <;> rfl
theorem aCK {x : Int × Int} {b : Bool} (H : aB) : fT [some (bW x), some (.bool b)] 0 H = some (.ret, [.tup [bW x, .bool b]], []) := by
 have hc : gT 0 [] H = some [] := by
  unfold gT
  rw [List.take_zero]; rfl
 have hf : rO H 0 6 (.tup [bW x, .bool b]) = some (.tup [bW x, .bool b]) := kD rfl 6
 unfold fT bH cT nP
 simp only [bH, hf, hc]
section
variable (G : aE) (k : Nat) (bor : Bool) (l : List (Int × Int)) (d a b c kk : Int)
def RgP (p : Int × Int) : Prop := Rg p.1 ∧ Rg p.2
theorem idP {r : Int} (h : 0 ≤ r ∧ r < l.length) : aF 2 (.ro bor (bD l)) (I6 r) = some (.rp bor (bW (l.getD r.toNat (0, 0))) 0) := by
 have := B3.idSp (sp := l) bor r.toNat (by omega)
 have e : Nn r.toNat = I6 r := by
  show AV.int .i64 (r.toNat : Int) = _
  rw [Int.toNat_of_nonneg h.1]
 rw [e] at this; exact this
theorem aBm {op : Int} (ho : 1 ≤ op ∧ op ≤ 14) (ha : 0 ≤ a ∧ a < l.length) (hb : 0 ≤ b ∧ b < l.length) (hc : 0 ≤ c ∧ c < l.length) (hl : ∀ r, r < l.length → RgP (l.getD r (0, 0))) :
  cZ.f G (k + 60) [Ins.v ⟨op, d, a, b, c, kk⟩, .ro bor (bD l)] [] = some (iJ (dG op kk (l.getD a.toNat (0, 0)) (l.getD b.toNat (0, 0)) (l.getD c.toNat (0, 0))), []) := by
 have b0 : ∀ H, bC (Ins.v ⟨op, d, a, b, c, kk⟩) H = some (.rp false (Ins.v ⟨op, d, a, b, c, kk⟩) 0, H) := fun H => rfl
 have bx : dC 71 (.agg [(.int .i64 0), (.int .i64 0)]) [] = some (.ptr 0 1 0 0, [⟨71, 2, [.agg [(.int .i64 0), (.int .i64 0)]]⟩]) := rfl
 have f0 : aA 0 (.rp false (Ins.v ⟨op, d, a, b, c, kk⟩) 0) = some (.rp false (Ins.v ⟨op, d, a, b, c, kk⟩) 0) := rfl
 have f2 : aA 2 (.rp false (Ins.v ⟨op, d, a, b, c, kk⟩) 0) = some (.rp false (Ins.v ⟨op, d, a, b, c, kk⟩) 2) := rfl
 have f3 : aA 3 (.rp false (Ins.v ⟨op, d, a, b, c, kk⟩) 0) = some (.rp false (Ins.v ⟨op, d, a, b, c, kk⟩) 3) := rfl
 have f4 : aA 4 (.rp false (Ins.v ⟨op, d, a, b, c, kk⟩) 0) = some (.rp false (Ins.v ⟨op, d, a, b, c, kk⟩) 4) := rfl
 have f5 : aA 5 (.rp false (Ins.v ⟨op, d, a, b, c, kk⟩) 0) = some (.rp false (Ins.v ⟨op, d, a, b, c, kk⟩) 5) := rfl
 have l0 : ∀ H, aC G false 1 (.rp false (Ins.v ⟨op, d, a, b, c, kk⟩) 0) H = some (I6 op) := fun H => rfl
 have l2 : ∀ H, aC G false 1 (.rp false (Ins.v ⟨op, d, a, b, c, kk⟩) 2) H = some (I6 a) := fun H => rfl
 have l3 : ∀ H, aC G false 1 (.rp false (Ins.v ⟨op, d, a, b, c, kk⟩) 3) H = some (I6 b) := fun H => rfl
 have l4 : ∀ H, aC G false 1 (.rp false (Ins.v ⟨op, d, a, b, c, kk⟩) 4) H = some (I6 c) := fun H => rfl
 have l5 : ∀ H, aC G false 1 (.rp false (Ins.v ⟨op, d, a, b, c, kk⟩) 5) H = some (I6 kk) := fun H => rfl
 have ia := idP bor l ha
 have ib := idP bor l hb
 have ic := idP bor l hc
 obtain ⟨ra1, ra2⟩ := hl a.toNat (by omega)
 obtain ⟨rb1, rb2⟩ := hl b.toNat (by omega)
 obtain ⟨rc1, rc2⟩ := hl c.toNat (by omega)
 generalize l.getD a.toNat (0, 0) = p at *
 generalize l.getD b.toNat (0, 0) = q at *
 generalize l.getD c.toNat (0, 0) = r at *
 have la : ∀ H, aC G true 2 (.rp bor (bW p) 0) H = some (bW p) := fun H => rfl
 have lb : ∀ H, aC G true 2 (.rp bor (bW q) 0) H = some (bW q) := fun H => rfl
 have lc : ∀ H, aC G true 2 (.rp bor (bW r) 0) H = some (bW r) := fun H => rfl
 have st : ∀ x : Int × Int, dY (aN 2 (.ptr 0 1 0 0) (bW x) [⟨71, 2, [.agg [(.int .i64 0), (.int .i64 0)]]⟩]) = some (.tup [], [⟨71, 2, [bW x]⟩]) := fun x => rfl
 have fin : ∀ (x : Int × Int) (t : Bool), fT [aC G true 2 (.ptr 0 1 0 0) [⟨71, 2, [bW x]⟩], some (.bool t)] 0 [⟨71, 2, [bW x]⟩] = some (.ret, [.tup [bW x, .bool t]], []) := fun x t => aCK _
 have x0 : ∀ o, aG (iJ o) 0 = some (bW (o.getD (0, 0))) := fun o => rfl
 have x1 : ∀ o, aG (iJ o) 1 = some (.bool o.isSome) := fun o => rfl
 have all : ∀ H, aL (eP.f G (k + 59)) [] H = some (bW (-9223372036854775808, 9223372036854775807), H) := fun H => aX (H := H) (SP.all_spec G (k + 58)) rfl rfl
 rw [cZ.step]
 unfold cZ.c
 have : op = 1 ∨ op = 2 ∨ op = 3 ∨ op = 4 ∨ op = 5 ∨ op = 6 ∨ op = 7 ∨ op = 8 ∨ op = 9 ∨ op = 10 ∨ op = 11 ∨ op = 12 ∨ op = 13 ∨ op = 14 := by omega
 clear hl ho
 rcases this with rfl | rfl | rfl | rfl | rfl | rfl | rfl | rfl | rfl | rfl | rfl | rfl | rfl | rfl
 ·have e : dG 1 kk p q r = some (kk, kk) := by simp [dG]
  rw [e]
  have bs : aU [(0, 1), (1, 1)] [(.int .i64 0), (.int .i64 0)] [(0, I6 kk), (1, I6 kk)] = some (bW (kk, kk)) := rfl
  have s1 := st (kk, kk)
  have fn := fin (kk, kk) true
  generalize Ins.v ⟨1, d, a, b, c, kk⟩ = iv at *
  generalize (kk, kk) = z at *
  refine gZ ?_
  have fx := aHv b0 <| aHv bx <| aHv f0 <| aHv f5 <| aHv l0 <| aHv l5 <| aHv bs <| s1
  refine jC ?_
  exact oF fn
 ·have e : dG 2 kk p q r = some p := by simp [dG]
  rw [e]
  have s1 := st p
  have fn := fin p true
  generalize Ins.v ⟨2, d, a, b, c, kk⟩ = iv at *
  refine gZ ?_
  have fx := aHv b0 <| aHv bx <| aHv f0 <| aHv f2 <| aHv l0 <| aHv l2 <| aHv ia <| aHv la <| s1
  refine jC ?_
  exact oF fn
 ·have e : dG 3 kk p q r = oG p q := by simp [dG]
  rw [e]
  have rr : ∀ H, aL (eA.f G (k + 59)) [bW p, bW q] H = some (iJ (oG p q), H) := fun H => by
   rw [← aGi]; exact aX (H := H) (SP.add_spec G (k + 39) p.1 p.2 q.1 q.2 ra1 ra2 rb1 rb2) rfl (by rw [aGi]; exact jS _)
  have s1 := st ((oG p q).getD (0, 0))
  have fn := fin ((oG p q).getD (0, 0)) (oG p q).isSome
  have y0 := x0 (oG p q)
  have y1 := x1 (oG p q)
  generalize Ins.v ⟨3, d, a, b, c, kk⟩ = iv at *
  generalize oG p q = o at *
  refine gZ ?_
  have fx := aHv b0 <| aHv bx <| aHv f0 <| aHv f2 <| aHv f3 <| aHv l0 <| aHv l2 <| aHv l3 <| aHv ia <| aHv ib <| aHv la <| aHv lb <| aHv rr <| aHv y0 <| aHv y1 <| s1
  refine jC ?_
  exact oF fn
 ·have e : dG 4 kk p q r = oV p q := by simp [dG]
  rw [e]
  have rr : ∀ H, aL (eH.f G (k + 59)) [bW p, bW q] H = some (iJ (oV p q), H) := fun H => by
   rw [← aGz]; exact aX (H := H) (SP.sub_spec G (k + 39) p.1 p.2 q.1 q.2 ra1 ra2 rb1 rb2) rfl (by rw [aGz]; exact jS _)
  have s1 := st ((oV p q).getD (0, 0))
  have fn := fin ((oV p q).getD (0, 0)) (oV p q).isSome
  have y0 := x0 (oV p q)
  have y1 := x1 (oV p q)
  generalize Ins.v ⟨4, d, a, b, c, kk⟩ = iv at *
  generalize oV p q = o at *
  refine gZ ?_
  have fx := aHv b0 <| aHv bx <| aHv f0 <| aHv f2 <| aHv f3 <| aHv l0 <| aHv l2 <| aHv l3 <| aHv ia <| aHv ib <| aHv la <| aHv lb <| aHv rr <| aHv y0 <| aHv y1 <| s1
  refine jC ?_
  exact oF fn
 ·have e : dG 5 kk p q r = oS p q := by simp [dG]
  rw [e]
  have rr : ∀ H, aL (dP.f G (k + 59)) [bW p, bW q] H = some (iJ (oS p q), H) := fun H => by
   rw [← aGu]; exact aX (H := H) (SP.mul_spec G (k + 39) p.1 p.2 q.1 q.2 ra1 ra2 rb1 rb2) rfl (by rw [aGu]; exact jS _)
  have s1 := st ((oS p q).getD (0, 0))
  have fn := fin ((oS p q).getD (0, 0)) (oS p q).isSome
  have y0 := x0 (oS p q)
  have y1 := x1 (oS p q)
  generalize Ins.v ⟨5, d, a, b, c, kk⟩ = iv at *
  generalize oS p q = o at *
  refine gZ ?_
  have fx := aHv b0 <| aHv bx <| aHv f0 <| aHv f2 <| aHv f3 <| aHv l0 <| aHv l2 <| aHv l3 <| aHv ia <| aHv ib <| aHv la <| aHv lb <| aHv rr <| aHv y0 <| aHv y1 <| s1
  refine jC ?_
  exact oF fn
 ·have e : dG 6 kk p q r = some (-9223372036854775808, 9223372036854775807) := by simp [dG]
  rw [e]
  have s1 := st (-9223372036854775808, 9223372036854775807)
  have fn := fin (-9223372036854775808, 9223372036854775807) true
  generalize Ins.v ⟨6, d, a, b, c, kk⟩ = iv at *
  generalize ((-9223372036854775808, 9223372036854775807) : Int × Int) = z at *
  refine gZ ?_
  have fx := aHv b0 <| aHv bx <| aHv f0 <| aHv l0 <| aHv all <| s1
  refine jC ?_
  exact oF fn
 ·have e : dG 7 kk p q r = some (uB p q) := by simp [dG]
  rw [e]
  have rr : ∀ H, aL (eD.f G (k + 59)) [bW p, bW q] H = some (bW (uB p q), H) := fun H => by
   rw [← aBF]; exact aX (H := H) (SP.and_spec G (k + 29) p.1 p.2 q.1 q.2) rfl (by rw [aBF]; rfl)
  have s1 := st (uB p q)
  have fn := fin (uB p q) true
  generalize Ins.v ⟨7, d, a, b, c, kk⟩ = iv at *
  generalize uB p q = z at *
  refine gZ ?_
  have fx := aHv b0 <| aHv bx <| aHv f0 <| aHv f2 <| aHv f3 <| aHv l0 <| aHv l2 <| aHv l3 <| aHv ia <| aHv ib <| aHv la <| aHv lb <| aHv rr <| s1
  refine jC ?_
  exact oF fn
 ·have e : dG 8 kk p q r = some (-9223372036854775808, 9223372036854775807) := by simp [dG]
  rw [e]
  have s1 := st (-9223372036854775808, 9223372036854775807)
  have fn := fin (-9223372036854775808, 9223372036854775807) true
  generalize Ins.v ⟨8, d, a, b, c, kk⟩ = iv at *
  generalize ((-9223372036854775808, 9223372036854775807) : Int × Int) = z at *
  refine gZ ?_
  have fx := aHv b0 <| aHv bx <| aHv f0 <| aHv l0 <| aHv all <| s1
  refine jC ?_
  exact oF fn
 ·have e : dG 9 kk p q r = some (-9223372036854775808, 9223372036854775807) := by simp [dG]
  rw [e]
  have s1 := st (-9223372036854775808, 9223372036854775807)
  have fn := fin (-9223372036854775808, 9223372036854775807) true
  generalize Ins.v ⟨9, d, a, b, c, kk⟩ = iv at *
  generalize ((-9223372036854775808, 9223372036854775807) : Int × Int) = z at *
  refine gZ ?_
  have fx := aHv b0 <| aHv bx <| aHv f0 <| aHv l0 <| aHv all <| s1
  refine jC ?_
  exact oF fn
 ·have e : dG 10 kk p q r = oU p kk := by simp [dG]
  rw [e]
  have rr : ∀ H, aL (eG.f G (k + 59)) [bW p, I6 kk] H = some (iJ (oU p kk), H) := fun H => by
   rw [← aCt]; exact aX (H := H) (SP.shl_spec G (k + 29) p.1 p.2 kk ra1 ra2) rfl (by rw [aCt]; exact jS _)
  have s1 := st ((oU p kk).getD (0, 0))
  have fn := fin ((oU p kk).getD (0, 0)) (oU p kk).isSome
  have y0 := x0 (oU p kk)
  have y1 := x1 (oU p kk)
  generalize Ins.v ⟨10, d, a, b, c, kk⟩ = iv at *
  generalize oU p kk = o at *
  refine gZ ?_
  have fx := aHv b0 <| aHv bx <| aHv f0 <| aHv f2 <| aHv f5 <| aHv l0 <| aHv l2 <| aHv l5 <| aHv ia <| aHv la <| aHv rr <| aHv y0 <| aHv y1 <| s1
  refine jC ?_
  exact oF fn
 ·have e : dG 11 kk p q r = some (-9223372036854775808, 9223372036854775807) := by simp [dG]
  rw [e]
  have s1 := st (-9223372036854775808, 9223372036854775807)
  have fn := fin (-9223372036854775808, 9223372036854775807) true
  generalize Ins.v ⟨11, d, a, b, c, kk⟩ = iv at *
  generalize ((-9223372036854775808, 9223372036854775807) : Int × Int) = z at *
  refine gZ ?_
  have fx := aHv b0 <| aHv bx <| aHv f0 <| aHv l0 <| aHv all <| s1
  refine jC ?_
  exact oF fn
 ·have e : dG 12 kk p q r = some (vN p kk) := by simp [dG]
  rw [e]
  have rr : ∀ H, aL (eF.f G (k + 59)) [bW p, I6 kk] H = some (bW (vN p kk), H) := fun H => by
   rw [← aCs]; exact aX (H := H) (SP.sar_spec G (k + 29) p.1 p.2 kk) rfl (by rw [aCs]; rfl)
  have s1 := st (vN p kk)
  have fn := fin (vN p kk) true
  generalize Ins.v ⟨12, d, a, b, c, kk⟩ = iv at *
  generalize vN p kk = z at *
  refine gZ ?_
  have fx := aHv b0 <| aHv bx <| aHv f0 <| aHv f2 <| aHv f5 <| aHv l0 <| aHv l2 <| aHv l5 <| aHv ia <| aHv la <| aHv rr <| s1
  refine jC ?_
  exact oF fn
 ·have e : dG 13 kk p q r = some (0, 1) := by simp [dG]
  rw [e]
  have bs : aU [(0, 1), (1, 1)] [(.int .i64 0), (.int .i64 0)] [(1, .int .i64 1)] = some (bW (0, 1)) := rfl
  have s1 := st (0, 1)
  have fn := fin (0, 1) true
  generalize Ins.v ⟨13, d, a, b, c, kk⟩ = iv at *
  generalize ((0, 1) : Int × Int) = z at *
  refine gZ ?_
  have fx := aHv b0 <| aHv bx <| aHv f0 <| aHv l0 <| aHv bs <| s1
  refine jC ?_
  exact oF fn
 ·have e : dG 14 kk p q r = some (nH q r) := by simp [dG]
  rw [e]
  have rr : ∀ H, aL (dM.f G (k + 59)) [bW q, bW r] H = some (bW (nH q r), H) := fun H => by
   rw [← aAi]; exact aX (H := H) (SP.join_spec G (k + 39) q.1 q.2 r.1 r.2) rfl (by rw [aAi]; rfl)
  have s1 := st (nH q r)
  have fn := fin (nH q r) true
  generalize Ins.v ⟨14, d, a, b, c, kk⟩ = iv at *
  generalize nH q r = z at *
  refine gZ ?_
  have fx := aHv b0 <| aHv bx <| aHv f0 <| aHv f3 <| aHv f4 <| aHv l0 <| aHv l3 <| aHv l4 <| aHv ib <| aHv ic <| aHv lb <| aHv lc <| aHv rr <| s1
  refine jC ?_
  exact oF fn
end
theorem aDC {op k : Int} {p q r a : Int × Int} (h : dG op k p q r = some a) (hk : Rg k) (hp : RgP p) (hq : RgP q) (hr : RgP r) : RgP a := by
 obtain ⟨p1, p2⟩ := hp
 obtain ⟨q1, q2⟩ := hq
 obtain ⟨r1, r2⟩ := hr
 have z0 : Rg 0 := by constructor <;> decide
 have all : RgP (-9223372036854775808, 9223372036854775807) := ⟨⟨by decide, by decide⟩, ⟨by decide, by decide⟩⟩
 unfold dG at h
 repeat' split at h
 all_goals (try (simp only [Option.some.injEq] at h; subst h))
 ·exact ⟨hk, hk⟩
 ·exact ⟨p1, p2⟩
 ·unfold oG at h
  split at h
  ·rename_i hh
   simp only [Option.some.injEq] at h; subst h
   exact ⟨hh.2.2.1, hh.2.2.2⟩
  ·cases h
 ·unfold oV at h
  split at h
  ·rename_i hh
   simp only [Option.some.injEq] at h; subst h
   exact ⟨hh.2.2.1, hh.2.2.2⟩
  ·cases h
 ·unfold oS at h
  split at h
  ·rename_i hh
   obtain ⟨_, _, a1, a2, a3, a4⟩ := hh
   simp only [Option.some.injEq] at h; subst h
   refine ⟨tR a1 a2 a3 a4 ⟨Int.le_refl _, ?_⟩, tR a1 a2 a3 a4 ⟨?_, Int.le_refl _⟩⟩ <;> omega
  ·cases h
 ·unfold oU at h
  split at h
  ·cases h
  ·split at h
   ·rename_i hh
    simp only [Option.some.injEq] at h; subst h
    exact ⟨hh.2.1, hh.2.2⟩
   ·cases h
 ·unfold vN
  split
  ·exact ⟨z0, z0⟩
  ·exact ⟨yK p1 _, yK p2 _⟩
 ·unfold uB
  repeat' split
  ·refine ⟨z0, ?_⟩
   have := p2.1; have := p2.2; have := q2.1; have := q2.2
   show Rg (min p.2 q.2)
   constructor <;> omega
  ·exact ⟨z0, p2⟩
  ·exact ⟨z0, q2⟩
  ·exact all
  ·exact ⟨z0, z0⟩
 ·exact ⟨z0, ⟨by decide, by decide⟩⟩
 ·unfold nH
  split
  ·have := q1.1; have := q1.2; have := r1.1; have := r1.2; have := q2.1; have := q2.2; have := r2.1; have := r2.2
   constructor
   ·show Rg (min q.1 r.1)
    constructor <;> omega
   ·show Rg (max q.2 r.2)
    constructor <;> omega
  ·exact ⟨z0, z0⟩
 ·exact all
section
variable (G : aE) (hg : GOk G) (k : Nat) (self : cY) (cs : List Ins) (R n : Nat)
def jY (l o : List (Int × Int)) (T : aB) : aB := ⟨71, 2, []⟩ :: ⟨71, 2, bD l⟩ :: ⟨71, 2, bD o⟩ :: T
theorem aCP (l o : List (Int × Int)) (j : Nat) : dX j (jY l o []) = true := by simp [jY, dX, bS, fN]
theorem aBV (l o : List (Int × Int)) (T : aB) (xs : List AV) (hx : bS 3 xs = true) : gT 3 xs (jY l o T) = some (jY l o []) := by
 have e : (jY l o T).take 3 = jY l o [] := rfl
 unfold gT
 rw [e, hx, aCP]; rfl
abbrev SL : AV := .sl 1 R 0 R 2
abbrev SN : AV := .sl 2 n 0 n 2
def tC (u v : AV) (j : Nat) : List AV := [u, v, SL R, SN n, .ro false (dB cs), Nn n, Nn j]
theorem xP {u v : AV} (hu : bX 3 u = true) (hv : bX 3 v = true) (j : Nat) : bS 3 (tC cs R n u v j) = true := by simp [tC, bS, hu, hv, bX, fI]
theorem aFB (j : Nat) (h : j < cs.length) : aF 6 (.ro false (dB cs)) (Nn j) = some (.rp false (cs.getD j default).v 0) := by
 have h0 : (0 : Int) ≤ (j : Int) := by omega
 have e : (dB cs)[(j : Int).toNat]? = some (cs.getD j default).v := by
  rw [Int.toNat_natCast]
  simp [dB, List.getElem?_map, List.getD, List.getElem?_eq_getElem h]
 unfold aF
 simp only [e]
 rw [if_pos h0]; rfl
theorem aBk (l : List (Int × Int)) (j : Nat) (x : Int × Int) : (bD l).set j (bW x) = bD (l.set j x) := by unfold bD; rw [List.map_set]
theorem aBj (l : List (Int × Int)) (j : Nat) (h : j < l.length) : (bD l)[j]? = some (bW (l.getD j (0, 0))) := by
 unfold bD
 rw [List.getElem?_map, List.getElem?_eq_getElem h, List.getD_eq_getElem?_getD, List.getElem?_eq_getElem h]; rfl
theorem aFs {H : aB} {b m : Nat} {l : List (Int × Int)} (hb : H[b]? = some ⟨71, 2, bD l⟩) (hl : l.length = m) {i : Nat} (h : i < m) (x : Int × Int) : dY (aN 2 (.ptr b m i 0) (bW x) H) = some (.tup [], H.set b ⟨71, 2, bD (l.set i x)⟩) := by
 have e : aN 2 (.ptr b m i 0) (bW x) H = some (H.set b ⟨71, 2, bD (l.set i x)⟩) := by
  unfold aN
  simp only [hb, dL, hl]
  rw [if_pos ⟨trivial, rfl, rfl⟩]
  simp only [aBj l i (by omega)]
  rw [if_pos (by show 0 + 2 ≤ 2; omega)]
  have : bZ (bW (l.getD i (0, 0))) (dH (bW (l.getD i (0, 0))).cells 0 (bW x).cells) = bW x := rfl
  rw [this, aBk]
 rw [e]; rfl
theorem aFh (b m : Nat) {r : Int} (h : 0 ≤ r ∧ r < m) : aF 2 (.sl b m 0 m 2) (I6 r) = some (.ptr b m r.toNat 0) := by
 rw [tP h.1 h.2, Nat.zero_add]
inductive EndS (w : List (Int × Int)) : Option dN → Prop
 | out (l : List (Int × Int)) (u v : AV) : EndS w (some (.exit 2, tC cs R n u v n, jY l w []))
 | ret (l : List (Int × Int)) (T : aB) (xs : List AV) : EndS w (some (.ret, SN n :: .nili :: xs, jY l w T))
include hg in
theorem aGr (hok : ∀ i ∈ cs, i.Ok2 R cs.length) (hk : ∀ i ∈ cs, Rg i.k) (hn : cs.length = n) (hn2 : n ≤ 10000) : ∀ (d j f : Nat) (l o : List (Int × Int)) (T : aB) (u v : AV), bX 3 u = true → bX 3 v = true → j + d = n → d < f → l.length = R → (∀ r, r < R → RgP (l.getD r (0, 0))) → o.length = n → o.drop j = List.replicate (n - j) (0, 0) →
  (∃ w, dZ (cs.drop j) l = some w ∧ EndS cs R n (o.take j ++ w) (eU (aM.l15 G (k + 60) 3 self) f (tC cs R n u v j) (jY l o T))) ∨
  (dZ (cs.drop j) l = none ∧ ∃ (e : AV) (xs : List AV) (l2 o2 : List (Int × Int)) (T2 : aB), eU (aM.l15 G (k + 60) 3 self) f (tC cs R n u v j) (jY l o T) = some (.ret, .nils :: e :: xs, jY l2 o2 T2) ∧ bE Tryd.prog .neq 35 true e .nili = some (.bool true) ∧ bX 0 e = true ∧ fL e = true)
 | d, j, 0, l, o, T, u, v, _, _, _, h, _, _, _, _ => by omega
 | 0, j, f + 1, l, o, T, u, v, hu, hv, hd, hf, hl, hrg, hol, hoz => by
  have hj : j = n := by omega
  subst hj
  have e0 : cs.drop j = [] := List.drop_of_length_le (by omega)
  refine .inl ⟨[], by rw [e0]; rfl, ?_⟩
  have e1 : o.take j ++ [] = o := by rw [List.append_nil]; exact List.take_of_length_le (by omega)
  rw [e1]
  have hc := aBV l o T _ (xP cs R j hu hv j)
  have g1 : bE Tryd.prog .lss 3 false (Nn j) (Nn j) = some (.bool false) := lF (by omega)
  have w : eU (aM.l15 G (k + 60) 3 self) (f + 1) (tC cs R j u v j) (jY l o T) = some (.exit 2, tC cs R j u v j, jY l o []) := by
   rw [dF, aM.l15]
   refine iV ?_
   refine eC hc ?_
   unfold tC
   clear hok hk hrg
   have fx := g1
   refine jC ?_
   refine hP ?_; rfl
  rw [w]
  exact .out l u v
 | d + 1, j, f + 1, l, o, T, u, v, hu, hv, hd, hf, hl, hrg, hol, hoz => by
  have hc := aBV l o T _ (xP cs R n hu hv j)
  have g1 : bE Tryd.prog .lss 3 false (Nn j) (Nn n) = some (.bool true) := mO (by omega)
  have q2 : bE Tryd.prog .add 3 true (Nn j) (.int .i64 1) = some (Nn (j + 1 : Nat)) := by
   rw [gN, dJ (by omega) (by omega)]; congr 2
  obtain ⟨i, hij⟩ : ∃ i, cs.getD j default = i := ⟨_, rfl⟩
  have hmem : i ∈ cs := by
   rw [← hij, List.getD_eq_getElem?_getD, List.getElem?_eq_getElem (by omega)]; exact List.getElem_mem _
  have hdrop : cs.drop j = i :: cs.drop (j + 1) := by
   rw [← hij, List.getD_eq_getElem?_getD, List.getElem?_eq_getElem (by omega)]
   exact List.drop_eq_getElem_cons (by omega)
  have hi := hok i hmem
  have h20 := hi.ok.op
  have hki := hk i hmem
  have d1 := aFB cs j (by omega)
  rw [hij] at d1
  have d2 : ∀ H, aC G true 6 (.rp false i.v 0) H = some i.v := fun H => rfl
  have bx : dC 52 (.agg [(.int .i64 0), (.int .i64 0), (.int .i64 0), (.int .i64 0), (.int .i64 0), (.int .i64 0)]) (jY l o []) = some (.ptr 3 1 0 0, jY l o [⟨52, 6, [.agg [(.int .i64 0), (.int .i64 0), (.int .i64 0), (.int .i64 0), (.int .i64 0), (.int .i64 0)]]⟩]) := rfl
  have sx : dY (aN 6 (.ptr 3 1 0 0) i.v (jY l o [⟨52, 6, [.agg [(.int .i64 0), (.int .i64 0), (.int .i64 0), (.int .i64 0), (.int .i64 0), (.int .i64 0)]]⟩])) = some (.tup [], jY l o [⟨52, 6, [i.v]⟩]) := rfl
  have f0 : aA 0 (.ptr 3 1 0 0) = some (.ptr 3 1 0 0) := rfl
  have f1 : aA 1 (.ptr 3 1 0 0) = some (.ptr 3 1 0 1) := rfl
  have l0 : aC G false 1 (.ptr 3 1 0 0) (jY l o [⟨52, 6, [i.v]⟩]) = some (I6 i.op) := rfl
  have l6 : aC G true 6 (.ptr 3 1 0 0) (jY l o [⟨52, 6, [i.v]⟩]) = some i.v := rfl
  have e3 : ∀ H, aC G false 1 (.gl 3) H = some (eV 3) := fun H => hg.g3
  have e2 : ∀ H, aC G false 1 (.gl 2) H = some (eV 2) := fun H => hg.g2
  have be : ∀ x, aU [(0, 1), (1, 1)] [(.int .i64 0), .nili] [(0, Nn j), (1, eV x)] = some (.agg [Nn j, eV x]) := fun x => rfl
  have br : ∀ x H, bC (.agg [Nn j, eV x]) H = some (.rp false (.agg [Nn j, eV x]) 0, H) := fun x H => rfl
  rw [hdrop]
  by_cases h3 : i.op = 20
  ·have es : dZ (i :: cs.drop (j + 1)) l = some (List.replicate ((cs.drop (j + 1)).length + 1) (0, 0)) := by
    unfold dZ; rw [if_pos h3]
   refine .inl ⟨_, es, ?_⟩
   have eo : o.take j ++ List.replicate ((cs.drop (j + 1)).length + 1) (0, 0) = o := by
    rw [List.length_drop, show cs.length - (j + 1) + 1 = n - j by omega, ← hoz, List.take_append_drop]
   rw [eo]
   have q0 : bE Tryd.prog .eql 3 true (I6 i.op) (.int .i64 20) = some (.bool true) := tO h3
   have w : ∃ xs, eU (aM.l15 G (k + 60) 3 self) (f + 1) (tC cs R n u v j) (jY l o T) = some (.ret, SN n :: .nili :: xs, jY l o [⟨52, 6, [i.v]⟩]) := by
    clear hok hk hrg hmem hdrop hij hoz eo es hi h3
    generalize i.v = iv at *
    generalize i.op = op at *
    apply Exists.intro
    rw [dF, aM.l15]
    refine iV ?_
    refine eC hc ?_
    unfold tC
    have fx := aHv g1 <| aHv q2 <| aHv d1 <| aHv d2 <| aHv bx <| aHv sx <| aHv f0 <| aHv l0 <| q0
    refine jC ?_
    refine hP ?_; rfl
   obtain ⟨xs, w⟩ := w
   rw [w]
   exact .ret l _ xs
  have n20 : bE Tryd.prog .eql 3 true (I6 i.op) (.int .i64 20) = some (.bool false) := lE h3
  by_cases h4 : 15 ≤ i.op ∧ i.op ≤ 19
  ·have es : dZ (i :: cs.drop (j + 1)) l = none := by
    unfold dZ; rw [if_neg h3, if_pos h4]
   refine .inr ⟨es, .iface 89 (.rp false (.agg [Nn j, eV 3]) 0), ?_⟩
   have be3 := be 3
   have br3 := br 3
   have hne : bE Tryd.prog .neq 35 true (.iface 89 (.rp false (.agg [Nn j, eV 3]) 0)) .nili = some (.bool true) := by kernel_rfl
   suffices w : ∃ xs, eU (aM.l15 G (k + 60) 3 self) (f + 1) (tC cs R n u v j) (jY l o T) = some (.ret, .nils :: .iface 89 (.rp false (.agg [Nn j, eV 3]) 0) :: xs, jY l o [⟨52, 6, [i.v]⟩]) by
    obtain ⟨xs, w⟩ := w
    exact ⟨xs, l, o, _, w, hne, rfl, rfl⟩
   have q17 : bE Tryd.prog .eql 3 true (I6 i.op) (.int .i64 17) = some (.bool (decide (i.op = 17))) := fE ..
   have q18 : bE Tryd.prog .eql 3 true (I6 i.op) (.int .i64 18) = some (.bool (decide (i.op = 18))) := fE ..
   have q19 : bE Tryd.prog .eql 3 true (I6 i.op) (.int .i64 19) = some (.bool (decide (i.op = 19))) := fE ..
   have q15 : bE Tryd.prog .eql 3 true (I6 i.op) (.int .i64 15) = some (.bool (decide (i.op = 15))) := fE ..
   have q16 : bE Tryd.prog .eql 3 true (I6 i.op) (.int .i64 16) = some (.bool (decide (i.op = 16))) := fE ..
   have hcase : i.op = 15 ∨ i.op = 16 ∨ i.op = 17 ∨ i.op = 18 ∨ i.op = 19 := by omega
   clear hok hk hrg hmem hdrop hij hoz es hi h3 h20 h4 hne hki
   generalize i.v = iv at *
   generalize i.op = op at *
   rcases hcase with rfl | rfl | rfl | rfl | rfl
   ·have r17 : bE Tryd.prog .eql 3 true (I6 15) (.int .i64 17) = some (.bool false) := q17
    have r18 : bE Tryd.prog .eql 3 true (I6 15) (.int .i64 18) = some (.bool false) := q18
    have r19 : bE Tryd.prog .eql 3 true (I6 15) (.int .i64 19) = some (.bool false) := q19
    have r15 : bE Tryd.prog .eql 3 true (I6 15) (.int .i64 15) = some (.bool true) := q15
    clear q15 q16 q17 q18 q19
    apply Exists.intro
    rw [dF, aM.l15]
    refine iV ?_
    refine eC hc ?_
    unfold tC
    have fx := aHv g1 <| aHv q2 <| aHv d1 <| aHv d2 <| aHv bx <| aHv sx <| aHv f0 <| aHv l0 <| aHv n20 <| aHv r17 <| aHv r18 <| aHv r19 <| aHv r15 <| aHv e3 <| aHv be3 <| br3
    refine jC ?_
    refine hP ?_; rfl
   ·have r17 : bE Tryd.prog .eql 3 true (I6 16) (.int .i64 17) = some (.bool false) := q17
    have r18 : bE Tryd.prog .eql 3 true (I6 16) (.int .i64 18) = some (.bool false) := q18
    have r19 : bE Tryd.prog .eql 3 true (I6 16) (.int .i64 19) = some (.bool false) := q19
    have r15 : bE Tryd.prog .eql 3 true (I6 16) (.int .i64 15) = some (.bool false) := q15
    have r16 : bE Tryd.prog .eql 3 true (I6 16) (.int .i64 16) = some (.bool true) := q16
    clear q15 q16 q17 q18 q19
    apply Exists.intro
    rw [dF, aM.l15]
    refine iV ?_
    refine eC hc ?_
    unfold tC
    have fx := aHv g1 <| aHv q2 <| aHv d1 <| aHv d2 <| aHv bx <| aHv sx <| aHv f0 <| aHv l0 <| aHv n20 <| aHv r17 <| aHv r18 <| aHv r19 <| aHv r15 <| aHv r16 <| aHv e3 <| aHv be3 <| br3
    refine jC ?_
    refine hP ?_; rfl
   ·have r17 : bE Tryd.prog .eql 3 true (I6 17) (.int .i64 17) = some (.bool true) := q17
    clear q15 q16 q17 q18 q19
    apply Exists.intro
    rw [dF, aM.l15]
    refine iV ?_
    refine eC hc ?_
    unfold tC
    have fx := aHv g1 <| aHv q2 <| aHv d1 <| aHv d2 <| aHv bx <| aHv sx <| aHv f0 <| aHv l0 <| aHv n20 <| aHv r17 <| aHv e3 <| aHv be3 <| br3
    refine jC ?_
    refine hP ?_; rfl
   ·have r17 : bE Tryd.prog .eql 3 true (I6 18) (.int .i64 17) = some (.bool false) := q17
    have r18 : bE Tryd.prog .eql 3 true (I6 18) (.int .i64 18) = some (.bool true) := q18
    clear q15 q16 q17 q18 q19
    apply Exists.intro
    rw [dF, aM.l15]
    refine iV ?_
    refine eC hc ?_
    unfold tC
    have fx := aHv g1 <| aHv q2 <| aHv d1 <| aHv d2 <| aHv bx <| aHv sx <| aHv f0 <| aHv l0 <| aHv n20 <| aHv r17 <| aHv r18 <| aHv e3 <| aHv be3 <| br3
    refine jC ?_
    refine hP ?_; rfl
   ·have r17 : bE Tryd.prog .eql 3 true (I6 19) (.int .i64 17) = some (.bool false) := q17
    have r18 : bE Tryd.prog .eql 3 true (I6 19) (.int .i64 18) = some (.bool false) := q18
    have r19 : bE Tryd.prog .eql 3 true (I6 19) (.int .i64 19) = some (.bool true) := q19
    clear q15 q16 q17 q18 q19
    apply Exists.intro
    rw [dF, aM.l15]
    refine iV ?_
    refine eC hc ?_
    unfold tC
    have fx := aHv g1 <| aHv q2 <| aHv d1 <| aHv d2 <| aHv bx <| aHv sx <| aHv f0 <| aHv l0 <| aHv n20 <| aHv r17 <| aHv r18 <| aHv r19 <| aHv e3 <| aHv be3 <| br3
    refine jC ?_
    refine hP ?_; rfl
  have ho : 1 ≤ i.op ∧ i.op ≤ 14 := by omega
  have ha := hi.ok.a (by omega) (by omega)
  have hb := hi.ok.b (by omega)
  have hcc := hi.ok.c (by omega)
  have hdd := hi.ok.d (by omega)
  have n17 : bE Tryd.prog .eql 3 true (I6 i.op) (.int .i64 17) = some (.bool false) := lE (by omega)
  have n18 : bE Tryd.prog .eql 3 true (I6 i.op) (.int .i64 18) = some (.bool false) := lE (by omega)
  have n19 : bE Tryd.prog .eql 3 true (I6 i.op) (.int .i64 19) = some (.bool false) := lE (by omega)
  have n15 : bE Tryd.prog .eql 3 true (I6 i.op) (.int .i64 15) = some (.bool false) := lE (by omega)
  have n16 : bE Tryd.prog .eql 3 true (I6 i.op) (.int .i64 16) = some (.bool false) := lE (by omega)
  have sn : lH (jY l o [⟨52, 6, [i.v]⟩]) [i.v, SL R] = some [i.v, .ro true (bD l)] := by
   refine oC rfl (oC ?_ aCv)
   exact rE (ty := 71) (xs := bD l) rfl (by rw [dL]; exact hl) (lQ 2 _ (fun _ => rfl) l) (kK _ (fun _ => rfl) l)
  have mk := sP sn (aBm G k true l i.d i.a i.b i.c i.k ho (by rw [hl]; exact ha) (by rw [hl]; exact hb) (by rw [hl]; exact hcc) (fun r hr => hrg r (by omega))) (jS _)
  have x0 : ∀ o, aG (iJ o) 0 = some (bW (o.getD (0, 0))) := fun o => rfl
  have x1 : ∀ o, aG (iJ o) 1 = some (.bool o.isSome) := fun o => rfl
  have b2 : dC 71 (.agg [(.int .i64 0), (.int .i64 0)]) (jY l o [⟨52, 6, [i.v]⟩]) = some (.ptr 4 1 0 0, jY l o [⟨52, 6, [i.v]⟩, ⟨71, 2, [.agg [(.int .i64 0), (.int .i64 0)]]⟩]) := rfl
  have s2 : ∀ a : Int × Int, dY (aN 2 (.ptr 4 1 0 0) (bW a) (jY l o [⟨52, 6, [i.v]⟩, ⟨71, 2, [.agg [(.int .i64 0), (.int .i64 0)]]⟩])) = some (.tup [], jY l o [⟨52, 6, [i.v]⟩, ⟨71, 2, [bW a]⟩]) := fun a => rfl
  cases hm : dG i.op i.k (l.getD i.a.toNat (0, 0)) (l.getD i.b.toNat (0, 0)) (l.getD i.c.toNat (0, 0)) with
  | none =>
   rw [hm] at mk
   have es : dZ (i :: cs.drop (j + 1)) l = none := by
    unfold dZ; rw [if_neg h3, if_neg h4, hm]
   refine .inr ⟨es, .iface 89 (.rp false (.agg [Nn j, eV 2]) 0), ?_⟩
   have be2 := be 2
   have br2 := br 2
   have hne : bE Tryd.prog .neq 35 true (.iface 89 (.rp false (.agg [Nn j, eV 2]) 0)) .nili = some (.bool true) := by kernel_rfl
   suffices w : ∃ xs, eU (aM.l15 G (k + 60) 3 self) (f + 1) (tC cs R n u v j) (jY l o T) = some (.ret, .nils :: .iface 89 (.rp false (.agg [Nn j, eV 2]) 0) :: xs, jY l o [⟨52, 6, [i.v]⟩, ⟨71, 2, [bW (0, 0)]⟩]) by
    obtain ⟨xs, w⟩ := w
    exact ⟨xs, l, o, _, w, hne, rfl, rfl⟩
   have y0 : aG (iJ none) 0 = some (bW (0, 0)) := rfl
   have y1 : aG (iJ none) 1 = some (.bool false) := rfl
   have s2' := s2 (0, 0)
   clear hok hk hrg hmem hdrop hij hoz es hi h3 h20 h4 hne hki sn hm ho x0 x1 s2
   generalize i.v = iv at *
   generalize i.op = op at *
   generalize iJ none = mv at *
   apply Exists.intro
   rw [dF, aM.l15]
   refine iV ?_
   refine eC hc ?_
   unfold tC
   have fx := aHv g1 <| aHv q2 <| aHv d1 <| aHv d2 <| aHv bx <| aHv sx <| aHv f0 <| aHv f1 <| aHv l0 <| aHv l6 <| aHv n20 <| aHv n17 <| aHv n18 <| aHv n19 <| aHv n15 <| aHv n16 <| aHv mk <| aHv y0 <| aHv y1 <| aHv b2 <| aHv s2' <| aHv e2 <| aHv be2 <| br2
   refine jC ?_
   refine hP ?_; rfl
  | some a =>
   rw [hm] at mk
   have hra := aDC hm hki (hrg _ (by omega)) (hrg _ (by omega)) (hrg _ (by omega))
   have y0 : aG (iJ (some a)) 0 = some (bW a) := rfl
   have y1 : aG (iJ (some a)) 1 = some (.bool true) := rfl
   have s2' := s2 a
   have l1 : aC G false 1 (.ptr 3 1 0 1) (jY l o [⟨52, 6, [i.v]⟩, ⟨71, 2, [bW a]⟩]) = some (I6 i.d) := rfl
   have l7 : aC G true 2 (.ptr 4 1 0 0) (jY l o [⟨52, 6, [i.v]⟩, ⟨71, 2, [bW a]⟩]) = some (bW a) := rfl
   have dn : aF 2 (SN n) (Nn j) = some (.ptr 2 n j 0) := by
    have := aFh 2 n (r := (j : Int)) ⟨by omega, by omega⟩
    rw [Int.toNat_natCast] at this; exact this
   have t1 : dY (aN 2 (.ptr 2 n j 0) (bW a) (jY l o [⟨52, 6, [i.v]⟩, ⟨71, 2, [bW a]⟩])) = some (.tup [], jY l (o.set j a) [⟨52, 6, [i.v]⟩, ⟨71, 2, [bW a]⟩]) := aFs (b := 2) (H := jY l o [⟨52, 6, [i.v]⟩, ⟨71, 2, [bW a]⟩]) rfl hol (by omega) a
   have dl := aFh 1 R hdd
   have t2 : dY (aN 2 (.ptr 1 R i.d.toNat 0) (bW a) (jY l (o.set j a) [⟨52, 6, [i.v]⟩, ⟨71, 2, [bW a]⟩])) = some (.tup [], jY (l.set i.d.toNat a) (o.set j a) [⟨52, 6, [i.v]⟩, ⟨71, 2, [bW a]⟩]) := aFs (b := 1) (H := jY l (o.set j a) [⟨52, 6, [i.v]⟩, ⟨71, 2, [bW a]⟩]) rfl hl (by omega) a
   have ih := aGr hok hk hn hn2 d (j + 1) f (l.set i.d.toNat a) (o.set j a) [⟨52, 6, [i.v]⟩, ⟨71, 2, [bW a]⟩] .undef .undef rfl rfl (by omega) (by omega) (by rw [List.length_set]; exact hl) (fun r hr => by
    rw [lY _ _ _ _ _ (by omega)]
    by_cases er : i.d.toNat = r
    ·rw [if_pos er]; exact hra
    ·rw [if_neg er]; exact hrg r hr) (by rw [List.length_set]; exact hol) (by
    rw [List.drop_set_of_lt (by omega)]
    have := congrArg (List.drop 1) hoz
    rw [List.drop_drop, List.drop_replicate] at this
    rw [this]; first | rfl | (congr 1; omega))
   have w : eU (aM.l15 G (k + 60) 3 self) (f + 1) (tC cs R n u v j) (jY l o T) = eU (aM.l15 G (k + 60) 3 self) f (tC cs R n .undef .undef (j + 1)) (jY (l.set i.d.toNat a) (o.set j a) [⟨52, 6, [i.v]⟩, ⟨71, 2, [bW a]⟩]) := by
    generalize hrr : eU (aM.l15 G (k + 60) 3 self) f (tC cs R n .undef .undef (j + 1)) (jY (l.set i.d.toNat a) (o.set j a) [⟨52, 6, [i.v]⟩, ⟨71, 2, [bW a]⟩]) = rr
    rw [dF, aM.l15]
    refine iV ?_
    refine eC hc ?_
    clear hok hk hrg hmem hdrop hij hoz hi h3 h20 h4 hki sn hm ho x0 x1 s2 hra ih
    unfold tC at hrr ⊢
    generalize i.v = iv at *
    generalize i.op = op at *
    generalize iJ (some a) = mv at *
    generalize bW a = av at *
    generalize l.set i.d.toNat a = l2 at *
    generalize o.set j a = o2 at *
    generalize i.d.toNat = dq at *
    generalize i.d = di at *
    have fx := aHv g1 <| aHv q2 <| aHv d1 <| aHv d2 <| aHv bx <| aHv sx <| aHv f0 <| aHv f1 <| aHv l0 <| aHv l6 <| aHv n20 <| aHv n17 <| aHv n18 <| aHv n19 <| aHv n15 <| aHv n16 <| aHv mk <| aHv y0 <| aHv y1 <| aHv b2 <| aHv s2' <| aHv l1 <| aHv l7 <| aHv dn <| aHv t1 <| aHv dl <| t2
    refine jC ?_
    refine hP ?_
    exact hrr
   rw [w]
   rcases ih with ⟨w2, hw2, hend⟩ | ⟨hw2, hend⟩
   ·refine .inl ⟨a :: w2, ?_, ?_⟩
    ·unfold dZ; rw [if_neg h3, if_neg h4, hm]
     show (dZ (cs.drop (j + 1)) (l.set i.d.toNat a)).map _ = _
     rw [hw2]; rfl
    ·have et : o.take j ++ a :: w2 = (o.set j a).take (j + 1) ++ w2 := by
      rw [List.take_add_one, List.take_set_of_le (Nat.le_refl _)]
      have : (o.set j a)[j]? = some a := by rw [List.getElem?_set_self (by omega)]
      rw [this]; simp
     rw [et]; exact hend
   ·refine .inr ⟨?_, hend⟩
    unfold dZ; rw [if_neg h3, if_neg h4, hm]
    show (dZ (cs.drop (j + 1)) (l.set i.d.toNat a)).map _ = _
    rw [hw2]; rfl
end
theorem wN {R n : Int} (hR : 0 ≤ R) : ∀ {l : List Ins} {j : Nat}, mY R n l j = .ok → ∀ i ∈ l, i.Ok2 R.toNat n.toNat
 | [], _, _, i, hi => by cases hi
 | x :: l, j, h, i, hi => by
  unfold mY at h
  split at h
  ·cases h
  ·rename_i ho
   rcases List.mem_cons.1 hi with rfl | hi
   ·exact aDH ho hR
   ·exact wN hR h i hi
theorem tA {cs : List Ins} {R M : Int} (h : fP cs R M = .ok) : ∀ i ∈ cs, i.Ok2 R.toNat cs.length := by
 obtain ⟨⟨hR0, _⟩, _⟩ := rY h
 unfold fP at h
 by_cases h1 : 262144 < cs.length
 ·rw [if_pos h1] at h; cases h
 rw [if_neg h1] at h
 by_cases h2 : R < 0 ∨ 65536 < R ∨ M < 0 ∨ 65536 < M
 ·rw [if_pos h2] at h; cases h
 rw [if_neg h2] at h
 intro i hi
 have := wN (by omega) h i hi
 rwa [Int.toNat_natCast] at this
theorem zN (l : List (Int × Int)) : jN 2 (bD l) = true := lQ 2 _ (fun _ => rfl) l
theorem zL (G : aE) (k : Nat) (H : aB) (hH : kR H H = true) (bm : Bool) (ins : List (Int × Int)) (hl : ins.length ≤ 1000000) :
  aJ.f G (k + 1) [.ro bm (bD ins)] H = some (.sl (H.length + 1) ins.length 0 ins.length 2, H ++ [⟨71, 2, []⟩, ⟨71, 2, bD ins⟩]) := by
 rw [aJ.step]
 unfold aJ.c
 have e1 : aW 71 2 0 (.agg [(.int .i64 0), (.int .i64 0)]) [] (H ++ [⟨71, 2, []⟩]) = some (.sl (H.length + 1) 0 0 0 2, H ++ [⟨71, 2, []⟩, ⟨71, 2, []⟩]) := by
  simp [aW, cH]
 have e2 : eY 71 2 (.sl (H.length + 1) 0 0 0 2) (.ro bm (bD ins)) (H ++ [⟨71, 2, []⟩, ⟨71, 2, []⟩]) = some (.sl (H.length + 1) ins.length 0 ins.length 2, H ++ [⟨71, 2, []⟩, ⟨71, 2, bD ins⟩]) := by
  have g : (H ++ [⟨71, 2, []⟩, ⟨71, 2, []⟩] : aB)[H.length + 1]? = some ⟨71, 2, []⟩ := by
   rw [List.getElem?_append_right (by omega)]; simp
  unfold eY
  simp only [g, gE, zN, dL, List.length_nil, List.take_nil, List.nil_append, List.drop_nil, List.append_nil, Nat.zero_add]
  rw [if_pos (by refine ⟨?_, ?_, ?_, ?_, ?_⟩ <;> first | trivial | omega)]
  simp [List.set_append_right]
 refine gZ ?_
 cases ins with
 | nil =>
  have q : bE Tryd.prog .eql 60 true (.ro bm (bD [])) .nils = some .anyb := by kernel_rfl
  have fx := q
  refine jC ?_
  have hh : kR (H ++ [⟨71, 2, []⟩, ⟨71, 2, []⟩]) (H ++ [⟨71, 2, []⟩, ⟨71, 2, []⟩]) = true := uK hH (by simp [kR, jE])
  have e3 : (H ++ [⟨71, 2, []⟩] ++ [⟨71, 2, []⟩] : aB) = H ++ [⟨71, 2, []⟩, ⟨71, 2, []⟩] := by simp
  have e4 : (H ++ [⟨71, 2, []⟩] : aB).length = H.length + 1 := by simp
  have e5 : eY 71 2 (.sl (H.length + 1) 0 0 0 2) (.ro bm (bD [])) (H ++ [⟨71, 2, []⟩, ⟨71, 2, []⟩]) = some (.sl (H.length + 1) 0 0 0 2, H ++ [⟨71, 2, []⟩, ⟨71, 2, []⟩]) := e2
  rw [e3, e4]
  refine aGl (e := .ret) (xs := [.sl (H.length + 1) 0 0 0 2]) rfl ?_ (by simp [jE, iS]) hh rfl
  refine iV ?_
  have fx := aHv e1 <| e5
  refine jC ?_
  rfl
 | cons a l =>
  have q : bE Tryd.prog .eql 60 true (.ro bm (bD (a :: l))) .nils = some (.bool false) := by kernel_rfl
  have fx := aHv q <| aHv e1 <| e2
  refine jC ?_
  rfl
section
variable (G : aE) (hg : GOk G) (k : Nat) (self : cY) (cs : List Ins) (R M : Int) (ins : List (Int × Int))
def xs7 (x : AV) (j : Nat) : List AV := [.ro false (bD ins), .rp false (gQ false cs R M) 0, .nils, x, .ro false (bD ins), Nn ins.length, Nn j]
theorem xO {x : AV} (hx : bX 0 x = true) (j : Nat) : bS 0 (xs7 cs R M ins x j) = true := by simp [xs7, bS, bX, fN, fI, hx, gQ]
theorem aGk {xs : List AV} (h : bS 0 xs = true) (T : aB) : gT 0 xs T = some [] := by
 unfold gT
 rw [List.take_zero, h]; rfl
include hg in
theorem l7S (hn : ins.length ≤ 10000) : ∀ (d j f : Nat) (T : aB), j + d = ins.length → d < f →
  ((∀ p ∈ ins.drop j, p.1 ≤ p.2) ∧ eU (aM.l7 G (k + 60) 0 self) f (xs7 cs R M ins .nili j) T = some (.exit 0, xs7 cs R M ins .nili ins.length, [])) ∨
  (∃ j' T', eU (aM.l7 G (k + 60) 0 self) f (xs7 cs R M ins .nili j) T = some (.ret, xs7 cs R M ins (eV 2) j', T'))
 | d, j, 0, T, _, h => by omega
 | 0, j, f + 1, T, hd, hf => by
  have hj : j = ins.length := by omega
  subst hj
  have e0 : ins.drop ins.length = [] := List.drop_of_length_le (Nat.le_refl _)
  refine .inl ⟨(fun p hp => by rw [e0] at hp; cases hp), ?_⟩
  have hc := aGk (xO cs R M ins (x := .nili) rfl ins.length) T
  have g1 : bE Tryd.prog .lss 3 false (Nn ins.length) (Nn ins.length) = some (.bool false) := lF (by omega)
  rw [dF, aM.l7]
  refine iV ?_
  refine eC hc ?_
  unfold xs7
  have fx := g1
  refine jC ?_
  refine hP ?_; rfl
 | d + 1, j, f + 1, T, hd, hf => by
  have hc := aGk (xO cs R M ins (x := .nili) rfl j) T
  have g1 : bE Tryd.prog .lss 3 false (Nn j) (Nn ins.length) = some (.bool true) := mO (by omega)
  have q2 : bE Tryd.prog .add 3 true (Nn j) (.int .i64 1) = some (Nn (j + 1 : Nat)) := by
   rw [gN, dJ (by omega) (by omega)]; congr 2
  have id := B3.idSp (sp := ins) false j (by omega)
  have hdrop : ins.drop j = ins.getD j (0, 0) :: ins.drop (j + 1) := by
   rw [List.getD_eq_getElem?_getD, List.getElem?_eq_getElem (by omega)]
   exact List.drop_eq_getElem_cons (by omega)
  rw [hdrop]
  generalize ins.getD j (0, 0) = p at *
  have d2 : ∀ H, aC G true 2 (.rp false (bW p) 0) H = some (bW p) := fun H => rfl
  have bx : dC 71 (.agg [(.int .i64 0), (.int .i64 0)]) [] = some (.ptr 0 1 0 0, [⟨71, 2, [.agg [(.int .i64 0), (.int .i64 0)]]⟩]) := rfl
  have st : dY (aN 2 (.ptr 0 1 0 0) (bW p) [⟨71, 2, [.agg [(.int .i64 0), (.int .i64 0)]]⟩]) = some (.tup [], [⟨71, 2, [bW p]⟩]) := rfl
  have ld : aC G true 2 (.ptr 0 1 0 0) [⟨71, 2, [bW p]⟩] = some (bW p) := rfl
  have r1 : ∀ H, aL (cP.f G (k + 60)) [bW p] H = some (.bool (decide (p.1 ≤ p.2)), H) := fun H => aX (H := H) (SP.is_spec G (k + 59) p.1 p.2) rfl rfl
  have e2 : ∀ H, aC G false 1 (.gl 2) H = some (eV 2) := fun H => hg.g2
  by_cases hp : p.1 ≤ p.2
  ·rw [decide_eq_true hp] at r1
   have w : eU (aM.l7 G (k + 60) 0 self) (f + 1) (xs7 cs R M ins .nili j) T = eU (aM.l7 G (k + 60) 0 self) f (xs7 cs R M ins .nili (j + 1)) [⟨71, 2, [bW p]⟩] := by
    generalize hrr : eU (aM.l7 G (k + 60) 0 self) f (xs7 cs R M ins .nili (j + 1)) [⟨71, 2, [bW p]⟩] = rr
    rw [dF, aM.l7]
    refine iV ?_
    refine eC hc ?_
    unfold xs7 at hrr ⊢
    clear hdrop hp
    generalize bW p = pv at *
    have fx := aHv g1 <| aHv q2 <| aHv id <| aHv d2 <| aHv bx <| aHv st <| aHv ld <| r1
    refine jC ?_
    refine hP ?_
    exact hrr
   rw [w]
   rcases l7S hn d (j + 1) f [⟨71, 2, [bW p]⟩] (by omega) (by omega) with ⟨h1, h2⟩ | h2
   ·refine .inl ⟨fun x hx => ?_, h2⟩
    rcases List.mem_cons.1 hx with rfl | hx
    ·exact hp
    ·exact h1 x hx
   ·exact .inr h2
  ·rw [decide_eq_false hp] at r1
   refine .inr ⟨j, [⟨71, 2, [bW p]⟩], ?_⟩
   rw [dF, aM.l7]
   refine iV ?_
   refine eC hc ?_
   unfold xs7
   clear hdrop hp
   generalize bW p = pv at *
   have fx := aHv g1 <| aHv id <| aHv d2 <| aHv bx <| aHv st <| aHv ld <| aHv r1 <| e2
   refine jC ?_
   refine hP ?_; rfl
include hg in
theorem wD (hk1 : cs.length + 80 < k) (hk2 : ins.length < k) (hn : cs.length ≤ 10000) (hni : ins.length ≤ 10000) (hki : ∀ i ∈ cs, Rg i.k) (hrg : ∀ p ∈ ins, RgP p) :
  (∃ out, fP cs R M = .ok ∧ (ins.length : Int) = R ∧ (∀ p ∈ ins, p.1 ≤ p.2) ∧ dZ cs ins = some out ∧ aM.f G (k + 61) [gQ false cs R M, .ro false (bD ins)] [] = some (.tup [.ro false (bD out), .nili], [])) ∨
  (∃ x e, aM.f G (k + 61) [gQ false cs R M, .ro false (bD ins)] [] = some (.tup [x, e], []) ∧ bE Tryd.prog .neq 35 true e .nili = some (.bool true) ∧ fL (.tup [x, e]) = true) := by
 rw [aM.step]
 unfold aM.c
 have x1 : ∀ H, bC (gQ false cs R M) H = some (.rp false (gQ false cs R M) 0, H) := fun H => rfl
 have x2 : ∀ H, aC G true 3 (.rp false (gQ false cs R M) 0) H = some (gQ false cs R M) := fun H => rfl
 have f1 : aA 1 (.rp false (gQ false cs R M) 0) = some (.rp false (gQ false cs R M) 1) := rfl
 have f0 : aA 0 (.rp false (gQ false cs R M) 0) = some (.rp false (gQ false cs R M) 0) := rfl
 have x3 : ∀ H, aC G false 1 (.rp false (gQ false cs R M) 1) H = some (I6 R) := fun H => rfl
 have x4 : ∀ H, aC G false 1 (.rp false (gQ false cs R M) 0) H = some (.ro false (dB cs)) := fun H => rfl
 have e1 : ∀ H, aC G false 1 (.gl 1) H = some (eV 1) := fun H => hg.g1
 have r1 : ∀ H, aL (bV.f G (k + 60)) [gQ false cs R M] H = _ := fun H => aX (H := H) (tX (bor := false) G hg (k + 52) cs R M (by omega) (by omega)) (by simp [fQ, bT, rV, gQ]) (oD _)
 have ln : bO (.ro false (bD ins)) = some (Nn ins.length) := by simp [bO, dL]
 have lc : bO (.ro false (dB cs)) = some (Nn cs.length) := by simp [bO, fS]
 by_cases hv : fP cs R M ≠ .ok
 ·refine .inr ⟨.nils, veV (fP cs R M), ?_, tM hv, by have := oD (fP cs R M); simp [fL, iU, this]⟩
  have q := tM hv
  have hl := aEX (fP cs R M)
  generalize fP cs R M = v at *
  clear hki hrg
  generalize gQ false cs R M = cv at *
  refine gZ ?_
  have fx := aHv x1 <| aHv x2 <| aHv r1 <| q
  refine jC ?_
  exact w2 rfl hl rfl
 have hv := Classical.not_not.1 hv
 rw [hv] at r1
 have q0 : bE Tryd.prog .neq 35 true (veV .ok) .nili = some (.bool false) := by kernel_rfl
 by_cases hR : (ins.length : Int) ≠ R
 ·refine .inr ⟨.nils, eV 1, ?_, tM (v := .bare 1) (by simp), rfl⟩
  have q1 : bE Tryd.prog .neq 3 false (Nn ins.length) (I6 R) = some (.bool true) := tQ hR
  clear hki hrg hv hR
  generalize gQ false cs R M = cv at *
  refine gZ ?_
  have fx := aHv x1 <| aHv x2 <| aHv r1 <| aHv q0 <| aHv ln <| aHv f1 <| aHv x3 <| aHv q1 <| e1
  refine jC ?_
  exact w2 rfl rfl rfl
 have hR := Classical.not_not.1 hR
 have q1 : bE Tryd.prog .neq 3 false (Nn ins.length) (I6 R) = some (.bool false) := qZ hR
 rcases l7S G hg k (aM.f G (k + 60)) cs R M ins hni ins.length 0 (k + 60) [] (by omega) (by omega) with ⟨hle, lp⟩ | ⟨j', T', lp⟩
 ·rw [List.drop_zero] at hle
  have hok := tA hv
  rw [← hR, Int.toNat_natCast] at hok
  have cl : fJ (aJ.f G (k + 60)) [.ro false (bD ins)] [] = some (.sl 1 ins.length 0 ins.length 2, [⟨71, 2, []⟩, ⟨71, 2, bD ins⟩]) := jR (zL G (k + 59) [] rfl false ins (by omega)) (by simp)
  have mk : fC 71 2 (.agg [(.int .i64 0), (.int .i64 0)]) (Nn cs.length) (Nn cs.length) [⟨71, 2, []⟩, ⟨71, 2, bD ins⟩] = some (SN cs.length, jY ins (List.replicate cs.length (0, 0)) []) := by
   unfold fC
   have : (0 : Int) ≤ cs.length ∧ (cs.length : Int) ≤ cs.length ∧ (cs.length : Int) ≤ 1099511627776 := by omega
   simp only [this, and_self, if_true, Int.toNat_natCast]
   unfold jY bD
   rw [List.map_replicate]; rfl
  have l15 := aGr G hg k (aM.f G (k + 60)) cs ins.length cs.length hok hki rfl hn cs.length 0 (k + 60) ins (List.replicate cs.length (0, 0)) [] .nils .nili rfl rfl (by omega) (by omega) rfl (fun r hr => hrg _ (by
   rw [List.getD_eq_getElem?_getD, List.getElem?_eq_getElem hr]; exact List.getElem_mem _)) (by simp) (by simp)
  rw [List.drop_zero] at l15
  have e3 : (jY ins (List.replicate cs.length (0, 0)) []).length = 3 := rfl
  have fin : ∀ (l w : List (Int × Int)) (T : aB), w.length = cs.length → cT [SN cs.length, .nili] 0 (jY l w T) = some (.ret, [.tup [.ro false (bD w), .nili]], []) := fun l w T hw => by
   have hc : gT 0 [] (jY l w T) = some [] := by
    unfold gT
    rw [List.take_zero]; rfl
   have hf : rO (jY l w T) 0 6 (.tup [SN cs.length, .nili]) = some (.tup [.ro false (bD w), .nili]) :=
    aEy rfl (gV (uO (ty := 71) (xs := bD w) rfl (by omega) (by rw [dL]; exact hw) (zN w) (fN 0 w)) (gV rfl uW))
   unfold cT nP
   simp only [hf, hc]
  unfold xs7 at lp
  have z0 : Nn 0 = .int .i64 0 := rfl
  rw [z0] at lp
  rcases l15 with ⟨w, hw, hend⟩ | ⟨_, e, xs, l2, o2, T2, hl, hne, hlow, hcl⟩
  ·refine .inl ⟨w, hv, hR, hle, hw, ?_⟩
   have hwl := jL hw
   rw [List.take_zero, List.nil_append] at hend
   clear hki hrg hv hR hok hw hle
   generalize hlp : eU (aM.l15 G (k + 60) 3 (aM.f G (k + 60))) (k + 60) (tC cs ins.length cs.length .nils .nili 0) (jY ins (List.replicate cs.length (0, 0)) []) = rr at hend
   have lp2 := hlp
   unfold tC at lp2
   rw [z0] at lp2
   generalize gQ false cs R M = cv at *
   generalize veV .ok = E1 at *
   cases hend with
   | out l u v =>
    have fn := fin l w [] hwl
    unfold tC at lp2
    generalize jY l w [] = hB at *
    refine gZ ?_
    have fx := aHv x1 <| aHv x2 <| aHv r1 <| aHv q0 <| aHv ln <| aHv f1 <| aHv x3 <| aHv q1 <| aHv cl <| aHv f0 <| aHv x4 <| aHv lc <| aHv mk <| e3
    have lx1 := lp
    have lx2 := lp2
    refine jC ?_
    exact oF fn
   | ret l T xs =>
    have fn := fin l w T hwl
    generalize jY l w T = hB at *
    refine gZ ?_
    have fx := aHv x1 <| aHv x2 <| aHv r1 <| aHv q0 <| aHv ln <| aHv f1 <| aHv x3 <| aHv q1 <| aHv cl <| aHv f0 <| aHv x4 <| aHv lc <| aHv mk <| e3
    have lx1 := lp
    have lx2 := lp2
    refine jC ?_
    exact oF fn
  ·refine .inr ⟨.nils, e, ?_, hne, by simp [fL, iU, hcl]⟩
   unfold tC at hl
   clear hki hrg hv hR hok hle
   rw [z0] at hl
   generalize gQ false cs R M = cv at *
   generalize veV .ok = E1 at *
   generalize jY l2 o2 T2 = hB at *
   refine gZ ?_
   have fx := aHv x1 <| aHv x2 <| aHv r1 <| aHv q0 <| aHv ln <| aHv f1 <| aHv x3 <| aHv q1 <| aHv cl <| aHv f0 <| aHv x4 <| aHv lc <| aHv mk <| e3
   have lx1 := lp
   have lx2 := hl
   refine jC ?_
   exact w2 rfl hlow rfl
 ·refine .inr ⟨.nils, eV 2, ?_, tM (v := .bare 2) (by simp), rfl⟩
  clear hki hrg hv hR
  unfold xs7 at lp
  have z0 : Nn 0 = .int .i64 0 := rfl
  rw [z0] at lp
  generalize veV .ok = E1 at *
  generalize gQ false cs R M = cv at *
  refine gZ ?_
  have fx := aHv x1 <| aHv x2 <| aHv r1 <| aHv q0 <| aHv ln <| aHv f1 <| aHv x3 <| q1
  have lx1 := lp
  refine jC ?_
  exact w2 rfl rfl rfl
end
theorem aEG (G : aE) (k : Nat) (n m : Int) (h0 : 0 < m) (h1 : m < 9223372036854775808) (hn : -9223372036854775808 ≤ n) (hn' : n < 9223372036854775808) :
  bB.f G (k + 1) [.int .i64 n, .int .i64 m] [] = some (.int .i64 (n % m), []) := by
 rw [bB.step]
 unfold bB.c
 rw [aBM _ _ _ _ _ _ (by omega)]
 have hlt := Int.tmod_lt_of_pos n h0
 have hgt : -m < n.tmod m := by have := Int.tmod_lt_of_pos (-n) h0; rw [Int.neg_tmod] at this; omega
 have hm : n.tmod m % m = n % m := by
  rw [Int.tmod_eq_emod]; split
  ·simp
  ·have e : (m.natAbs : Int) = m := by omega
   simp [e]
 by_cases h : n.tmod m < 0
 ·simp only [aQ, kH, iF, h, decide_true, uI, gN, List.length_nil, aAd, vE]
  rw [dJ (by omega) (by omega)]
  congr 3
  rw [← hm, ← Int.add_emod_right]
  exact (Int.emod_eq_of_lt (by omega) (by omega)).symm
 ·simp only [aQ, kH, iF, h, decide_false, kX, List.length_nil, aAd, vE]
  congr 3
  rw [← hm]
  exact (Int.emod_eq_of_lt (by omega) (by omega)).symm
def nG (l : List Int) : List AV := l.map (AV.int .i64)
theorem wZ (l : List Int) : (nG l).length = l.length := by simp [nG]
theorem aAg (n : Nat) (l : List Int) : bS n (nG l) = true := by
 induction l with
 | nil => rfl
 | cons a l ih => simpa [nG, bS, bX] using ih
theorem aGq (l : List Int) (j : Nat) (h : j < l.length) : aF 1 (.ro false (nG l)) (Nn j) = some (.rp false (I6 (l.getD j 0)) 0) := by
 have h0 : (0 : Int) ≤ (j : Int) := by omega
 have e : (nG l)[(j : Int).toNat]? = some (I6 (l.getD j 0)) := by
  rw [Int.toNat_natCast]
  simp [nG, List.getElem?_map, List.getD, List.getElem?_eq_getElem h]
 unfold aF
 simp only [e]
 rw [if_pos h0]; rfl
theorem aEu (n : Int) (h : Rg n) : eZ .u64 (I6 n) = some (Un (u64 n)) := by
 rw [iC, lL]
 unfold u64
 show _ = some (AV.int .u64 (((n % 18446744073709551616).toNat : Nat) : Int))
 rw [Int.toNat_of_nonneg (by omega)]
section
variable (G : aE) (k : Nat) (self : cY) (cs : List Ins) (M : Int) (ins out : List (Int × Int)) (ns : List Int) (R : Nat)
def nF (a b c : Nat) (mem : List Nat) (T : aB) : aB :=
 ⟨24, 3, [.agg [.sl 3 a 0 a 6, Nn (R + 1), Nn R]]⟩ :: ⟨71, 2, bD (List.replicate b (0, 0))⟩ :: ⟨48, 1, dE mem⟩ :: ⟨52, 6, dB (kU R c)⟩ :: T
def wK (r : Nat) : List AV := [.ro false (bD ins), .ro false (nG ns), .rp false (gQ false cs R M) 0, .bool true, .ro false (bD out), .ptr 0 1 0 0, .sl 1 r 0 r 2, .sl 2 R 0 R 1, Nn r]
theorem aDf (r : Nat) : bS 4 (wK cs M ins out ns R r) = true := by simp [wK, bS, bX, fN, aAg, fI, gQ]
theorem aBU (a b c : Nat) (mem : List Nat) (T : aB) (r : Nat) : gT 4 (wK cs M ins out ns R r) (nF R a b c mem T) = some (nF R a b c mem []) := by
 have e : (nF R a b c mem T).take 4 = nF R a b c mem [] := rfl
 have h : dX 4 (nF R a b c mem []) = true := by simp [nF, dX, bS, bX, fN, jT, fI]
 unfold gT
 rw [e, aDf, h]; rfl
theorem apI (r : Nat) (b : Nat) (mem : List Nat) (hr : r ≤ 100000) (T : aB) : eY 52 6 (.sl 3 r 0 r 6) (.ro false [(kS R r).v]) (nF R r b r mem T) = some (.sl 3 (r + 1) 0 (r + 1) 6, nF R r b (r + 1) mem T) := by
 have e : (nF R r b r mem T)[3]? = some ⟨52, 6, dB (kU R r)⟩ := rfl
 have hs : jN 6 [(kS R r).v] = true := rfl
 unfold eY
 simp only [e, gE, fS, gC, List.length_singleton]
 rw [if_pos (by refine ⟨?_, ?_, ?_, ?_, ?_⟩ <;> first | trivial | exact hs | omega)]
 have e2 : (dB (kU R r)).take r = dB (kU R r) := List.take_of_length_le (by rw [fS, gC]; exact Nat.le_refl _)
 have e3 : (dB (kU R r)).drop (r + 1) = [] := List.drop_of_length_le (by rw [fS, gC]; omega)
 rw [e2, e3, List.append_nil]
 have e4 : dB (kU R r) ++ [(kS R r).v] = dB (kU R (r + 1)) := by simp [dB, kU]
 rw [e4, fS, gC]
 rfl
theorem apS (a c r : Nat) (mem : List Nat) (hr : r ≤ 100000) (T : aB) : eY 71 2 (.sl 1 r 0 r 2) (.ro false [.agg [.int .i64 0, .int .i64 0]]) (nF R a r c mem T) = some (.sl 1 (r + 1) 0 (r + 1) 2, nF R a (r + 1) c mem T) := by
 have e : (nF R a r c mem T)[1]? = some ⟨71, 2, bD (List.replicate r (0, 0))⟩ := rfl
 have hs : jN 2 [.agg [.int .i64 0, .int .i64 0]] = true := rfl
 unfold eY
 simp only [e, gE, dL, List.length_replicate, List.length_singleton]
 rw [if_pos (by refine ⟨?_, ?_, ?_, ?_, ?_⟩ <;> first | trivial | exact hs | omega)]
 have e2 : (bD (List.replicate r ((0 : Int), (0 : Int)))).take r = bD (List.replicate r (0, 0)) := List.take_of_length_le (by rw [dL, List.length_replicate]; exact Nat.le_refl _)
 have e3 : (bD (List.replicate r ((0 : Int), (0 : Int)))).drop (r + 1) = [] := List.drop_of_length_le (by rw [dL, List.length_replicate]; omega)
 rw [e2, e3, List.append_nil]
 have e4 : bD (List.replicate r (0, 0)) ++ [AV.agg [.int .i64 0, .int .i64 0]] = bD (List.replicate (r + 1) (0, 0)) := by
  rw [List.replicate_succ']
  unfold bD
  rw [List.map_append]; rfl
 rw [e4, dL, List.length_replicate]
 rfl
theorem aGZ (a b c r : Nat) (mem : List Nat) (hm : mem.length = R) (hr : r < R) (v : Nat) (T : aB) : dY (aN 1 (.ptr 2 R r 0) (Un v) (nF R a b c mem T)) = some (.tup [], nF R a b c (mem.set r v) T) := by
 have e1 : (nF R a b c mem T)[2]? = some ⟨48, 1, dE mem⟩ := rfl
 have e2 : (dE mem)[r]? = some (Un (mem.getD r 0)) := by
  unfold dE
  rw [List.getElem?_map, List.getElem?_eq_getElem (by omega), List.getD_eq_getElem?_getD, List.getElem?_eq_getElem (by omega)]; rfl
 have e3 : (dE mem).set r (Un v) = dE (mem.set r v) := by unfold dE; rw [List.map_set]
 have e : aN 1 (.ptr 2 R r 0) (Un v) (nF R a b c mem T) = some (nF R a b c (mem.set r v) T) := by
  unfold aN
  simp only [e1, fU, hm]
  rw [if_pos ⟨trivial, rfl, rfl⟩]
  simp only [e2]
  rw [if_pos (by show 0 + 1 ≤ 1; decide)]
  have : bZ (Un (mem.getD r 0)) (dH (Un (mem.getD r 0)).cells 0 (Un v).cells) = Un v := rfl
  rw [this, e3]; rfl
 rw [e]; rfl
def xE (n : Nat) (mem : List Nat) : Prop := mem.length = R ∧ (∀ x ∈ mem, x < 18446744073709551616) ∧ ∀ i, i < n → inS (ins.getD i (0, 0)) (fF (mem.getD i 0))
theorem aCW {r : Nat} {mem : List Nat} (h : xE ins R r mem) (hr : r < R) {n : Int} (hn : inS (ins.getD r (0, 0)) n) (hr2 : Rg n) : xE ins R (r + 1) (mem.set r (u64 n)) := by
 obtain ⟨h1, h2, h3⟩ := h
 refine ⟨by rw [List.length_set]; exact h1, fun x hx => ?_, fun i hi => ?_⟩
 ·rcases List.mem_or_eq_of_mem_set hx with hx | rfl
  ·exact h2 x hx
  ·exact aBz n
 ·rw [lY _ _ _ _ _ (by omega)]
  by_cases e : r = i
  ·subst e; rw [if_pos rfl, aEl hr2]; exact hn
  ·rw [if_neg e]; exact h3 i (by omega)
theorem aFO (hR : R ≤ 20) (hil : ins.length = R) (hnl : ns.length ≤ 20) (hle : ∀ p ∈ ins, p.1 ≤ p.2) (hrg : ∀ p ∈ ins, RgP p) (hns : ∀ n ∈ ns, Rg n) (r : Nat) (hr : r < R) (f : Nat) (mem : List Nat) (hm : mem.length = R) (T : aB) :
  ∃ n, inS (ins.getD r (0, 0)) n ∧ Rg n ∧ ∃ T2, eU (alembiclaw18_BoundSound.l13 G (k + 10) 4 self) (f + 1) (wK cs M ins out ns R r) (nF R r r r mem T) = eU (alembiclaw18_BoundSound.l13 G (k + 10) 4 self) f (wK cs M ins out ns R (r + 1)) (nF R (r + 1) (r + 1) (r + 1) (mem.set r (u64 n)) T2) := by
 have hc := aBU cs M ins out ns R r r r mem T r
 obtain ⟨p, hp⟩ : ∃ p, ins.getD r (0, 0) = p := ⟨_, rfl⟩
 have hmem : p ∈ ins := by rw [← hp, List.getD_eq_getElem?_getD, List.getElem?_eq_getElem (by omega)]; exact List.getElem_mem _
 have hpl := hle p hmem
 obtain ⟨hp1, hp2⟩ := hrg p hmem
 have id := B3.idSp (sp := ins) false r (by omega)
 rw [hp] at id ⊢
 have g1 : bE Tryd.prog .lss 3 false (Nn r) (Nn R) = some (.bool true) := mO (by omega)
 have f1 : aA 1 (.rp false (gQ false cs R M) 0) = some (.rp false (gQ false cs R M) 1) := rfl
 have x3 : ∀ H, aC G false 1 (.rp false (gQ false cs R M) 1) H = some (Nn R) := fun H => rfl
 have p0 : aA 0 (.rp false (bW p) 0) = some (.rp false (bW p) 0) := rfl
 have p1 : aA 1 (.rp false (bW p) 0) = some (.rp false (bW p) 1) := rfl
 have v0 : ∀ H, aC G false 1 (.rp false (bW p) 0) H = some (I6 p.1) := fun H => rfl
 have v1 : ∀ H, aC G false 1 (.rp false (bW p) 1) H = some (I6 p.2) := fun H => rfl
 have b53 : bE Tryd.prog .sub 2 false (I6 p.2) (I6 p.1) = some (I6 (IntKind.i64.wrap (p.2 - p.1))) := tJ ..
 have hw : IntKind.i64.wrap (p.2 - p.1) = if p.2 - p.1 < 9223372036854775808 then p.2 - p.1 else p.2 - p.1 - 18446744073709551616 := by
  have := hp1.1; have := hp1.2; have := hp2.1; have := hp2.2
  rw [iE]; split <;> split <;> omega
 generalize IntKind.i64.wrap (p.2 - p.1) = w at b53 hw
 have hwd : 0 < w → w = p.2 - p.1 := by intro h; rw [hw] at h ⊢; split at h <;> split <;> have := hp1.1 <;> have := hp2.2 <;> omega
 have ln : bO (.ro false (nG ns)) = some (Nn ns.length) := by simp [bO, wZ]
 have g2 : bE Tryd.prog .gtr 2 true (I6 w) (.int .i64 0) = some (.bool (decide (0 < w))) := by rw [kB]
 have g3 : bE Tryd.prog .lss 2 true (I6 w) (.int .i64 1099511627776) = some (.bool (decide (w < 1099511627776))) := iF ..
 have q2 : bE Tryd.prog .add 3 true (Nn r) (.int .i64 1) = some (Nn (r + 1 : Nat)) := by
  rw [gN, dJ (by omega) (by omega)]; congr 2
 have im : aF 1 (.sl 2 R 0 R 1) (Nn r) = some (.ptr 2 R r 0) := by
  rw [tP (by omega) (by omega), Nat.zero_add, Int.toNat_natCast]
 have f0 : aA 0 (.ptr 0 1 0 0) = some (.ptr 0 1 0 0) := rfl
 have l0 : ∀ b c mem T, aC G false 1 (.ptr 0 1 0 0) (nF R r b c mem T) = some (.sl 3 r 0 r 6) := fun b c mem T => rfl
 have bs : aU [(0, 1), (1, 1), (2, 1), (3, 1), (4, 1), (5, 1)] [(.int .i64 0), (.int .i64 0), (.int .i64 0), (.int .i64 0), (.int .i64 0), (.int .i64 0)] [(0, (.int .i64 15)), (1, Nn r), (2, Nn R), (5, Nn r)] = some (kS R r).v := rfl
 have br : ∀ H, aZ 6 1 (.agg [(.int .i64 0), (.int .i64 0), (.int .i64 0), (.int .i64 0), (.int .i64 0), (.int .i64 0)]) [(0, (kS R r).v)] H = some (.ro false [(kS R r).v], H) := fun H => rfl
 have a1 := fun b mem T => apI R r b mem (by omega) T
 have s1 : ∀ b c mem T, dY (aN 1 (.ptr 0 1 0 0) (.sl 3 (r + 1) 0 (r + 1) 6) (nF R r b c mem T)) = some (.tup [], nF R (r + 1) b c mem T) := fun b c mem T => rfl
 have bz : aU [(0, 1), (1, 1)] [(.int .i64 0), (.int .i64 0)] [] = some (.agg [.int .i64 0, .int .i64 0]) := rfl
 have bq : ∀ H, aZ 2 1 (.agg [(.int .i64 0), (.int .i64 0)]) [(0, .agg [.int .i64 0, .int .i64 0])] H = some (.ro false [.agg [.int .i64 0, .int .i64 0]], H) := fun H => rfl
 have a2 := fun a c mem T => apS R a c r mem (by omega) T
 have sm := fun a b c v T => aGZ R a b c r mem hm hr v T
 have cv := fun n h => aEu n h
 by_cases hin : r < ns.length
 ·have g4 : bE Tryd.prog .lss 3 false (Nn r) (Nn ns.length) = some (.bool true) := mO (by omega)
  have ia := aGq ns r hin
  obtain ⟨c, hcn⟩ : ∃ c, ns.getD r 0 = c := ⟨_, rfl⟩
  have hcr : Rg c := hns c (by rw [← hcn, List.getD_eq_getElem?_getD, List.getElem?_eq_getElem hin]; exact List.getElem_mem _)
  rw [hcn] at ia
  clear hcn
  have lc : ∀ H, aC G false 1 (.rp false (I6 c) 0) H = some (I6 c) := fun H => rfl
  by_cases hA : 0 < w ∧ w < 1099511627776
  ·have hwp := hwd hA.1
   rw [decide_eq_true hA.1] at g2
   rw [decide_eq_true hA.2] at g3
   have a64 : bE Tryd.prog .add 3 true (I6 w) (.int .i64 1) = some (I6 (w + 1)) := by rw [gN, dJ (by omega) (by omega)]
   have rn : ∀ H, aL (bB.f G (k + 10)) [I6 c, I6 (w + 1)] H = _ := fun H => aX (H := H) (aEG G (k + 9) c (w + 1) (by omega) (by omega) hcr.1 hcr.2) rfl rfl
   have hm0 := Int.emod_nonneg c (show w + 1 ≠ 0 by omega)
   have hm1 := Int.emod_lt_of_pos c (show 0 < w + 1 by omega)
   generalize c % (w + 1) = cm at *
   have a66 : bE Tryd.prog .add 2 false (I6 p.1) (I6 cm) = some (I6 (p.1 + cm)) := by
    have := hp1.1; have := hp1.2; have := hp2.2
    rw [gN, dJ (by omega) (by omega)]
   refine ⟨p.1 + cm, ?_, ?_, ?_⟩
   ·constructor <;> first | omega | (have := hp1.1; have := hp1.2; omega)
   ·have := hp1.1; have := hp1.2; have := hp2.1; have := hp2.2; constructor <;> omega
   ·have hRn : Rg (p.1 + cm) := by have := hp1.1; have := hp1.2; have := hp2.1; have := hp2.2; constructor <;> omega
    have cv' := cv _ hRn
    generalize u64 (p.1 + cm) = un at *
    refine ⟨[], ?_⟩
    generalize hrr : eU (alembiclaw18_BoundSound.l13 G (k + 10) 4 self) f (wK cs M ins out ns R (r + 1)) (nF R (r + 1) (r + 1) (r + 1) (mem.set r un) []) = rr
    rw [dF, alembiclaw18_BoundSound.l13]
    refine iV ?_
    refine eC hc ?_
    unfold wK at hrr ⊢
    clear hle hrg hns hmem hp hpl hp1 hp2 hw hwd hRn cv
    generalize gQ false cs R M = cdv at *
    generalize bW p = pv at *
    generalize (kS R r).v = iv at *
    have fx := aHv f1 <| aHv x3 <| aHv g1 <| aHv id <| aHv p0 <| aHv p1 <| aHv v0 <| aHv v1 <| aHv b53 <| aHv ln <| aHv g4 <| aHv g2 <| aHv g3 <| aHv ia <| aHv lc <| aHv a64 <| aHv rn <| aHv a66 <| aHv cv' <| aHv im <| aHv sm <| aHv f0 <| aHv l0 <| aHv bs <| aHv br <| aHv a1 <| aHv s1 <| aHv bz <| aHv bq <| aHv a2 <| q2
    refine jC ?_
    refine hP ?_
    exact hrr
  have qr : bE Tryd.prog .rem 3 true (I6 c) (.int .i64 2) = some (I6 (c.tmod 2)) := aBM _ _ _ _ _ _ (by decide)
  generalize c.tmod 2 = c2 at qr
  by_cases hodd : c2 = 0
  ·have qn : bE Tryd.prog .neq 3 true (I6 c2) (.int .i64 0) = some (.bool false) := qZ hodd
   by_cases hB : 0 < w
   ·have hC : ¬ w < 1099511627776 := fun h => hA ⟨hB, h⟩
    rw [decide_eq_true hB] at g2
    rw [decide_eq_false hC] at g3
    clear hA
    refine ⟨p.1, ?_, ?_, ?_⟩
    ·constructor <;> first | omega | (have := hp1.1; have := hp1.2; omega)
    ·have := hp1.1; have := hp1.2; have := hp2.1; have := hp2.2; constructor <;> omega
    ·have hRn : Rg (p.1) := by have := hp1.1; have := hp1.2; have := hp2.1; have := hp2.2; constructor <;> omega
     have cv' := cv _ hRn
     generalize u64 (p.1) = un at *
     refine ⟨[], ?_⟩
     generalize hrr : eU (alembiclaw18_BoundSound.l13 G (k + 10) 4 self) f (wK cs M ins out ns R (r + 1)) (nF R (r + 1) (r + 1) (r + 1) (mem.set r un) []) = rr
     rw [dF, alembiclaw18_BoundSound.l13]
     refine iV ?_
     refine eC hc ?_
     unfold wK at hrr ⊢
     clear hle hrg hns hmem hp hpl hp1 hp2 hw hwd hRn cv
     generalize gQ false cs R M = cdv at *
     generalize bW p = pv at *
     generalize (kS R r).v = iv at *
     have fx := aHv f1 <| aHv x3 <| aHv g1 <| aHv id <| aHv p0 <| aHv p1 <| aHv v0 <| aHv v1 <| aHv b53 <| aHv ln <| aHv g4 <| aHv g2 <| aHv g3 <| aHv ia <| aHv lc <| aHv qr <| aHv qn <| aHv cv' <| aHv im <| aHv sm <| aHv f0 <| aHv l0 <| aHv bs <| aHv br <| aHv a1 <| aHv s1 <| aHv bz <| aHv bq <| aHv a2 <| q2
     refine jC ?_
     refine hP ?_
     exact hrr
   ·rw [decide_eq_false hB] at g2
    clear hA
    refine ⟨p.1, ?_, ?_, ?_⟩
    ·constructor <;> first | omega | (have := hp1.1; have := hp1.2; omega)
    ·have := hp1.1; have := hp1.2; have := hp2.1; have := hp2.2; constructor <;> omega
    ·have hRn : Rg (p.1) := by have := hp1.1; have := hp1.2; have := hp2.1; have := hp2.2; constructor <;> omega
     have cv' := cv _ hRn
     generalize u64 (p.1) = un at *
     refine ⟨[], ?_⟩
     generalize hrr : eU (alembiclaw18_BoundSound.l13 G (k + 10) 4 self) f (wK cs M ins out ns R (r + 1)) (nF R (r + 1) (r + 1) (r + 1) (mem.set r un) []) = rr
     rw [dF, alembiclaw18_BoundSound.l13]
     refine iV ?_
     refine eC hc ?_
     unfold wK at hrr ⊢
     clear hle hrg hns hmem hp hpl hp1 hp2 hw hwd hRn cv
     generalize gQ false cs R M = cdv at *
     generalize bW p = pv at *
     generalize (kS R r).v = iv at *
     have fx := aHv f1 <| aHv x3 <| aHv g1 <| aHv id <| aHv p0 <| aHv p1 <| aHv v0 <| aHv v1 <| aHv b53 <| aHv ln <| aHv g4 <| aHv g2 <| aHv ia <| aHv lc <| aHv qr <| aHv qn <| aHv cv' <| aHv im <| aHv sm <| aHv f0 <| aHv l0 <| aHv bs <| aHv br <| aHv a1 <| aHv s1 <| aHv bz <| aHv bq <| aHv a2 <| q2
     refine jC ?_
     refine hP ?_
     exact hrr
  ·have qn : bE Tryd.prog .neq 3 true (I6 c2) (.int .i64 0) = some (.bool true) := tQ hodd
   by_cases hB : 0 < w
   ·have hC : ¬ w < 1099511627776 := fun h => hA ⟨hB, h⟩
    rw [decide_eq_true hB] at g2
    rw [decide_eq_false hC] at g3
    clear hA
    refine ⟨p.2, ?_, ?_, ?_⟩
    ·constructor <;> first | omega | (have := hp1.1; have := hp1.2; omega)
    ·have := hp1.1; have := hp1.2; have := hp2.1; have := hp2.2; constructor <;> omega
    ·have hRn : Rg (p.2) := by have := hp1.1; have := hp1.2; have := hp2.1; have := hp2.2; constructor <;> omega
     have cv' := cv _ hRn
     generalize u64 (p.2) = un at *
     refine ⟨[], ?_⟩
     generalize hrr : eU (alembiclaw18_BoundSound.l13 G (k + 10) 4 self) f (wK cs M ins out ns R (r + 1)) (nF R (r + 1) (r + 1) (r + 1) (mem.set r un) []) = rr
     rw [dF, alembiclaw18_BoundSound.l13]
     refine iV ?_
     refine eC hc ?_
     unfold wK at hrr ⊢
     clear hle hrg hns hmem hp hpl hp1 hp2 hw hwd hRn cv
     generalize gQ false cs R M = cdv at *
     generalize bW p = pv at *
     generalize (kS R r).v = iv at *
     have fx := aHv f1 <| aHv x3 <| aHv g1 <| aHv id <| aHv p0 <| aHv p1 <| aHv v0 <| aHv v1 <| aHv b53 <| aHv ln <| aHv g4 <| aHv g2 <| aHv g3 <| aHv ia <| aHv lc <| aHv qr <| aHv qn <| aHv cv' <| aHv im <| aHv sm <| aHv f0 <| aHv l0 <| aHv bs <| aHv br <| aHv a1 <| aHv s1 <| aHv bz <| aHv bq <| aHv a2 <| q2
     refine jC ?_
     refine hP ?_
     exact hrr
   ·rw [decide_eq_false hB] at g2
    clear hA
    refine ⟨p.2, ?_, ?_, ?_⟩
    ·constructor <;> first | omega | (have := hp1.1; have := hp1.2; omega)
    ·have := hp1.1; have := hp1.2; have := hp2.1; have := hp2.2; constructor <;> omega
    ·have hRn : Rg (p.2) := by have := hp1.1; have := hp1.2; have := hp2.1; have := hp2.2; constructor <;> omega
     have cv' := cv _ hRn
     generalize u64 (p.2) = un at *
     refine ⟨[], ?_⟩
     generalize hrr : eU (alembiclaw18_BoundSound.l13 G (k + 10) 4 self) f (wK cs M ins out ns R (r + 1)) (nF R (r + 1) (r + 1) (r + 1) (mem.set r un) []) = rr
     rw [dF, alembiclaw18_BoundSound.l13]
     refine iV ?_
     refine eC hc ?_
     unfold wK at hrr ⊢
     clear hle hrg hns hmem hp hpl hp1 hp2 hw hwd hRn cv
     generalize gQ false cs R M = cdv at *
     generalize bW p = pv at *
     generalize (kS R r).v = iv at *
     have fx := aHv f1 <| aHv x3 <| aHv g1 <| aHv id <| aHv p0 <| aHv p1 <| aHv v0 <| aHv v1 <| aHv b53 <| aHv ln <| aHv g4 <| aHv g2 <| aHv ia <| aHv lc <| aHv qr <| aHv qn <| aHv cv' <| aHv im <| aHv sm <| aHv f0 <| aHv l0 <| aHv bs <| aHv br <| aHv a1 <| aHv s1 <| aHv bz <| aHv bq <| aHv a2 <| q2
     refine jC ?_
     refine hP ?_
     exact hrr
 ·have g4 : bE Tryd.prog .lss 3 false (Nn r) (Nn ns.length) = some (.bool false) := lF (by omega)
  refine ⟨p.1, ?_, ?_, ?_⟩
  ·constructor <;> first | omega | (have := hp1.1; have := hp1.2; omega)
  ·have := hp1.1; have := hp1.2; have := hp2.1; have := hp2.2; constructor <;> omega
  ·have hRn : Rg (p.1) := by have := hp1.1; have := hp1.2; have := hp2.1; have := hp2.2; constructor <;> omega
   have cv' := cv _ hRn
   generalize u64 (p.1) = un at *
   refine ⟨[], ?_⟩
   generalize hrr : eU (alembiclaw18_BoundSound.l13 G (k + 10) 4 self) f (wK cs M ins out ns R (r + 1)) (nF R (r + 1) (r + 1) (r + 1) (mem.set r un) []) = rr
   rw [dF, alembiclaw18_BoundSound.l13]
   refine iV ?_
   refine eC hc ?_
   unfold wK at hrr ⊢
   clear hle hrg hns hmem hp hpl hp1 hp2 hw hwd hRn cv
   generalize gQ false cs R M = cdv at *
   generalize bW p = pv at *
   generalize (kS R r).v = iv at *
   have fx := aHv f1 <| aHv x3 <| aHv g1 <| aHv id <| aHv p0 <| aHv p1 <| aHv v0 <| aHv v1 <| aHv b53 <| aHv ln <| aHv g4 <| aHv cv' <| aHv im <| aHv sm <| aHv f0 <| aHv l0 <| aHv bs <| aHv br <| aHv a1 <| aHv s1 <| aHv bz <| aHv bq <| aHv a2 <| q2
   refine jC ?_
   refine hP ?_
   exact hrr
theorem aFf (hR : R ≤ 20) (hil : ins.length = R) (hnl : ns.length ≤ 20) (hle : ∀ p ∈ ins, p.1 ≤ p.2) (hrg : ∀ p ∈ ins, RgP p) (hns : ∀ n ∈ ns, Rg n) : ∀ (d r f : Nat) (mem : List Nat) (T : aB), r + d = R → d < f → xE ins R r mem →
  ∃ mem', xE ins R R mem' ∧ eU (alembiclaw18_BoundSound.l13 G (k + 10) 4 self) f (wK cs M ins out ns R r) (nF R r r r mem T) = some (.exit 0, wK cs M ins out ns R R, nF R R R R mem' [])
 | d, r, 0, mem, T, _, h, _ => by omega
 | 0, r, f + 1, mem, T, hd, hf, hm => by
  have hr : r = R := by omega
  subst hr
  refine ⟨mem, hm, ?_⟩
  have hc := aBU cs M ins out ns r r r r mem T r
  have g1 : bE Tryd.prog .lss 3 false (Nn r) (Nn r) = some (.bool false) := lF (by omega)
  have f1 : aA 1 (.rp false (gQ false cs r M) 0) = some (.rp false (gQ false cs r M) 1) := rfl
  have x3 : ∀ H, aC G false 1 (.rp false (gQ false cs r M) 1) H = some (Nn r) := fun H => rfl
  rw [dF, alembiclaw18_BoundSound.l13]
  refine iV ?_
  refine eC hc ?_
  unfold wK
  clear hle hrg hns hm
  have fx := aHv f1 <| aHv x3 <| g1
  refine jC ?_
  refine hP ?_; rfl
 | d + 1, r, f + 1, mem, T, hd, hf, hm => by
  obtain ⟨n, hn, hn2, T2, w⟩ := aFO G k self cs M ins out ns R hR hil hnl hle hrg hns r (by omega) f mem hm.1 T
  rw [w]
  exact aFf hR hil hnl hle hrg hns d (r + 1) f _ T2 (by omega) (by omega) (aCW ins R hm (by omega) hn hn2)
end
end Go.Proofs.YtcmblhedhgiofaaDoor.Mir
namespace Go.Proofs.YtcmblhedhgiofaaDoor
open Go Go.Proofs.YtcmblhedhgiofaaDoor.Mir
set_option linter.unusedVariables false
set_option linter.unusedSimpArgs false
set_option maxHeartbeats 8000000
set_option maxRecDepth 20000
theorem aEx (G : aE) (k : Nat) : bQ.f G (k + 60) [] [] = some (.bool true, []) := by kernel_rfl
abbrev GF : aE := xN 154 [2, 1, 0, 3, 4, 5]
theorem aGh : GOk GF := ⟨rfl, rfl, rfl, rfl, rfl, rfl⟩
theorem yT {α : Type} {P : AV → Prop} {e : α → AV} {Q : α → Prop} (h : ∀ x, P x → ∃ a, x = e a ∧ Q a) : ∀ xs : List AV, (∀ x ∈ xs, P x) → ∃ l : List α, xs = l.map e ∧ ∀ a ∈ l, Q a
 | [], _ => ⟨[], rfl, fun a h => by cases h⟩
 | x :: xs, hx => by
  obtain ⟨a, rfl, ha⟩ := h x (hx x (by simp))
  obtain ⟨l, rfl, hl⟩ := yT h xs (fun y hy => hx y (by simp [hy]))
  refine ⟨a :: l, rfl, fun b hb => ?_⟩
  rcases List.mem_cons.1 hb with rfl | hb
  ·exact ha
  ·exact hl b hb
theorem aFL {x : AV} (h : IsT Tryd.prog 52 x) : ∃ i : Ins, x = i.v ∧ Rg i.k := by
 obtain ⟨cs, rfl, hf⟩ := h.of_struct Tryd.underlying52
 cases hf with
 | cons h1 hf =>
 cases hf with
 | cons h2 hf =>
 cases hf with
 | cons h3 hf =>
 cases hf with
 | cons h4 hf =>
 cases hf with
 | cons h5 hf =>
 cases hf with
 | cons h6 hf =>
 cases hf with
 | nil =>
 obtain ⟨a, rfl, _⟩ := h1.of_int (k := .i64) Tryd.underlying3
 obtain ⟨b, rfl, _⟩ := h2.of_int (k := .i64) Tryd.underlying3
 obtain ⟨c, rfl, _⟩ := h3.of_int (k := .i64) Tryd.underlying3
 obtain ⟨d, rfl, _⟩ := h4.of_int (k := .i64) Tryd.underlying3
 obtain ⟨e, rfl, _⟩ := h5.of_int (k := .i64) Tryd.underlying3
 obtain ⟨f, rfl, hw⟩ := h6.of_int (k := .i64) Tryd.underlying2
 exact ⟨⟨a, b, c, d, e, f⟩, rfl, wA hw⟩
theorem aEJ {x : AV} (h : IsT Tryd.prog 24 x) : ∃ (cs : List Ins) (R M : Int), x = gQ false cs R M ∧ (∀ i ∈ cs, Rg i.k) ∧ Rg R := by
 obtain ⟨cs, rfl, hf⟩ := h.of_struct Tryd.underlying24
 cases hf with
 | cons h1 hf =>
 cases hf with
 | cons h2 hf =>
 cases hf with
 | cons h3 hf =>
 cases hf with
 | nil =>
 obtain ⟨xs, rfl, hx, _⟩ := h1.of_slice Tryd.underlying22
 obtain ⟨l, rfl, hl⟩ := yT (e := Ins.v) (fun x hx => aFL hx) xs hx
 obtain ⟨R, rfl, hR⟩ := h2.of_int (k := .i64) Tryd.underlying3
 obtain ⟨M, rfl, hM⟩ := h3.of_int (k := .i64) Tryd.underlying3
 exact ⟨l, R, M, rfl, hl, wA hR⟩
theorem aEL {x : AV} (h : IsT Tryd.prog 71 x) : ∃ p : Int × Int, x = bW p ∧ RgP p := by
 obtain ⟨cs, rfl, hf⟩ := h.of_struct Tryd.underlying71
 cases hf with
 | cons h1 hf =>
 cases hf with
 | cons h2 hf =>
 cases hf with
 | nil =>
 obtain ⟨a, rfl, ha⟩ := h1.of_int (k := .i64) Tryd.underlying2
 obtain ⟨b, rfl, hb⟩ := h2.of_int (k := .i64) Tryd.underlying2
 exact ⟨(a, b), rfl, wA ha, wA hb⟩
theorem aDG {x : AV} (h : IsT Tryd.prog 60 x) : ∃ l : List (Int × Int), x = .ro false (bD l) ∧ ∀ p ∈ l, RgP p := by
 obtain ⟨xs, rfl, hx, _⟩ := h.of_slice Tryd.underlying60
 obtain ⟨l, rfl, hl⟩ := yT (e := bW) (fun x hx => aEL hx) xs hx
 exact ⟨l, rfl, hl⟩
theorem aEK {x : AV} (h : IsT Tryd.prog 66 x) : ∃ l : List Int, x = .ro false (nG l) ∧ ∀ n ∈ l, Rg n := by
 obtain ⟨l, rfl, hw, _⟩ := h.of_ints Tryd.underlying66 (by first | exact Tryd.underlying3 | exact Tryd.underlying2)
 exact ⟨l, rfl, fun n hn => wA (hw n hn)⟩
theorem aDb {H : aB} {cs ds : List AV} (h : gI H cs = some ds) : vP H (.agg cs) = some (.agg ds) := by
 simp only [vP, h, Option.map_some]
theorem zC {H : aB} {x y : AV} {xs ys : List AV} (h : rD H x = some y) (hs : gI H xs = some ys) : gI H (x :: xs) = some (y :: ys) := by
 simp only [gI, h, hs]
theorem aEQ {H : aB} : gI H [] = some [] := rfl
section
variable (cs : List Ins) (M : Int) (ins out : List (Int × Int)) (ns : List Int)
def cD (R : Nat) : List Ins := kU R R ++ cs
def sD (R : Nat) : List (Int × Int) := List.replicate R (0, 0) ++ out
theorem uE (R : Nat) : (cD cs R).length = R + cs.length := by simp [cD, gC]
theorem aEn (R : Nat) : (sD out R).length = R + out.length := by simp [sD]
theorem aDc {R : Nat} {mem : List Nat} (hR : R ≤ 20) (hn : cs.length ≤ 60) (hil : ins.length = R) (hv : fP cs R M = .ok) (hki : ∀ i ∈ cs, Rg i.k) (hst : dZ cs ins = some out) (hm : xE ins R R mem) (f : Nat) (o : MS × Int) (h : B3.runB (sD out R) (cD cs R) 1000 f (s0 (R + 1) mem) = some o) : o.2 = -1 := by
 have hok := tA hv
 rw [Int.toNat_natCast] at hok
 obtain ⟨h1, h2, h3⟩ := hm
 refine aCg (sp := sD out R) (cs := cs) (fuel := 1000) (R := R) (by omega) hok hki (by omega) h1 hil hst h3 (d := cD cs R) (fun r hr => ?_) ?_ ?_ ?_ f 0 (s0 (R + 1) mem) o (by omega) rfl rfl (aEk (R + 1) mem h2 (by omega)) (fun i hi => ?_) (by show ((0 : Nat) : Int) ≤ 1000; omega) h
 ·have := aAu R R r hr
  rw [List.getD_eq_getElem?_getD]
  unfold cD
  rw [List.getElem?_append_left (by rw [gC]; exact hr), this]; rfl
 ·unfold cD
  rw [List.drop_append_of_le_length (by rw [gC]; exact Nat.le_refl _), List.drop_of_length_le (by rw [gC]; exact Nat.le_refl _)]; rfl
 ·unfold sD
  rw [List.drop_append_of_le_length (by simp), List.drop_of_length_le (by simp)]; rfl
 ·rw [uE]; omega
 ·rw [if_neg (by omega)]
  simp [s0, List.getD_eq_getElem?_getD, List.getElem?_replicate]
  split <;> rfl
theorem aCE {R : Nat} (hR : R ≤ 20) (hn : cs.length ≤ 60) (hv : fP cs R M = .ok) (ho : out.length = cs.length) {mem : List Nat} (hm : mem.length = R) : B3.checkF (cD cs R) ((R + 1 : Nat) : Int) R (sD out R).length mem.length 1000 = .ok := by
 have h1 : fP (cD cs R) ((R + 1 : Nat) : Int) R = .ok := aDe hv hR hn
 rw [B3.checkF_ok h1, if_neg (by rw [aEn, uE, ho]; simp)]
 unfold pH
 rw [hm, if_neg (by simp), if_neg (by omega)]
theorem zK (G : aE) (hg : GOk G) {R : Nat} {mem : List Nat} (hR : R ≤ 20) (hn : cs.length ≤ 60) (hil : ins.length = R) (hv : fP cs R M = .ok) (hki : ∀ i ∈ cs, Rg i.k) (hst : dZ cs ins = some out) (hm : xE ins R R mem) (k : Nat) (hk : 1100 < k) :
  cJ.f G (k + 9) [gQ true (cD cs R) ((R + 1 : Nat) : Int) R, .ro true (bD (sD out R)), .ro true (dE mem), I6 1000] [] = some (.tup [I6 (-1), .nili], []) := by
 have ho := jL hst
 obtain ⟨s', w, hw, hc⟩ := B3.Check_ok G hg k (cD cs R) (sD out R) ((R + 1 : Nat) : Int) R true true true mem 1000 (by rw [uE]; omega) (by rw [uE]; omega) (aCE cs M out hR hn hv ho hm.1) hm.2.1 (by omega) (by omega)
 rw [Int.toNat_natCast] at hw
 have := aDc cs M ins out hR hn hil hv hki hst hm (k + 7) (s', w) hw
 simp only at this
 subst this
 exact hc
end
abbrev qK (R b : Nat) (mem : List Nat) (x : AV) (sp cd : List AV) : aB :=
 [⟨24, 3, [.agg [x, Nn (R + 1), Nn R]]⟩, ⟨71, 2, sp⟩, ⟨48, 1, dE mem⟩, ⟨52, 6, cd⟩]
theorem LBoundSound.law (xs : List AV) (h : IsTs Tryd.prog [24, 60, 66] xs) : ∃ k, alembiclaw18_BoundSound.f (xN 154 [2, 1, 0, 3, 4, 5]) k xs [] = some (.bool true, []) := by
 obtain ⟨x1, _, rfl, hx1, h⟩ := h.uncons
 obtain ⟨x2, _, rfl, hx2, h⟩ := h.uncons
 obtain ⟨x3, _, rfl, hx3, h⟩ := h.uncons
 obtain rfl := h.unnil
 obtain ⟨cs, R, M, rfl, hki, hRr⟩ := aEJ hx1
 obtain ⟨ins, rfl, hrg⟩ := aDG hx2
 obtain ⟨ns, rfl, hns⟩ := aEK hx3
 clear h hx1 hx2 hx3
 refine ⟨8001, ?_⟩
 have hG := aGh
 change alembiclaw18_BoundSound.f GF 8001 _ _ = _
 generalize GF = G at hG
 have rf : ∀ H, aL (bQ.f G 8000) [] H = _ := fun H => aX (H := H) (aEx G 7940) rfl rfl
 have b1 : ∀ H, bC (gQ false cs R M) H = some (.rp false (gQ false cs R M) 0, H) := fun H => rfl
 have f0 : aA 0 (.rp false (gQ false cs R M) 0) = some (.rp false (gQ false cs R M) 0) := rfl
 have f1 : aA 1 (.rp false (gQ false cs R M) 0) = some (.rp false (gQ false cs R M) 1) := rfl
 have d0 : ∀ H, aC G false 1 (.rp false (gQ false cs R M) 0) H = some (.ro false (dB cs)) := fun H => rfl
 have d1 : ∀ H, aC G true 3 (.rp false (gQ false cs R M) 0) H = some (gQ false cs R M) := fun H => rfl
 have d2 : ∀ H, aC G false 1 (.rp false (gQ false cs R M) 1) H = some (I6 R) := fun H => rfl
 have lc : bO (.ro false (dB cs)) = some (Nn cs.length) := by simp [bO, fS]
 have li : bO (.ro false (bD ins)) = some (Nn ins.length) := by simp [bO, dL]
 have ln : bO (.ro false (nG ns)) = some (Nn ns.length) := by simp [bO, wZ]
 rw [alembiclaw18_BoundSound.step]
 unfold alembiclaw18_BoundSound.c
 refine gZ ?_
 by_cases hbig : 60 < cs.length ∨ 20 < R ∨ R < 0 ∨ 20 < ins.length ∨ 20 < ns.length
 ·clear hki hrg hns hRr
  generalize gQ false cs R M = cv at *
  have fx := aHv rf <| aHv b1 <| aHv f0 <| aHv f1 <| aHv d0 <| aHv d2 <| aHv lc <| aHv li <| ln
  refine tU ?_
  all_goals first | omega | exact w1b rfl
 have g6 : bE Tryd.prog .gtr 3 true (Nn cs.length) (.int .i64 60) = some (.bool false) := nY (by omega)
 have g9 : bE Tryd.prog .gtr 3 true (I6 R) (.int .i64 20) = some (.bool false) := nY (by omega)
 have g13 : bE Tryd.prog .lss 3 true (I6 R) (.int .i64 0) = some (.bool false) := lF (by omega)
 have g17 : bE Tryd.prog .gtr 3 true (Nn ins.length) (.int .i64 20) = some (.bool false) := nY (by omega)
 have g21 : bE Tryd.prog .gtr 3 true (Nn ns.length) (.int .i64 20) = some (.bool false) := nY (by omega)
 have pc : bT (gQ false cs R M) = true := by simp [bT, fQ, rV, gQ]
 have pi : bT (.ro false (bD ins)) = true := by simp [bT, aCf]
 rcases wD G hG 7939 cs R M ins (by omega) (by omega) (by omega) (by omega) hki hrg with ⟨out, hv, hRn, hle, hst, hs⟩ | ⟨x, e, hs, hne, hcl⟩
 ·have rs : ∀ H, aL (aM.f G 8000) [gQ false cs R M, .ro false (bD ins)] H = _ := fun H => aX (H := H) hs (by simp [fQ, pc, pi]) (by
   have : ∀ l : List (Int × Int), iU (bD l) = true := fun l => by
    induction l with
    | nil => rfl
    | cons a l ih => simpa [bD, iU, bW, fL] using ih
   simp [fL, iU, this])
  subst hRn
  have hil : ins.length = ins.length := rfl
  generalize hgR : ins.length = Rn at *
  have y0 : aG (.tup [.ro false (bD out), .nili]) 0 = some (.ro false (bD out)) := rfl
  have y1 : aG (.tup [.ro false (bD out), .nili]) 1 = some .nili := rfl
  have qn : bE Tryd.prog .neq 35 true .nili .nili = some (.bool false) := by kernel_rfl
  have qe : bE Tryd.prog .eql 35 true .nili .nili = some (.bool true) := by kernel_rfl
  have a30 : bE Tryd.prog .add 3 true (Nn Rn) (.int .i64 1) = some (Nn (Rn + 1)) := by
   rw [gN, dJ (by omega) (by omega)]; rfl
  have bs : aU [(0, 1), (1, 1), (2, 1)] [.nils, (.int .i64 0), (.int .i64 0)] [(1, Nn (Rn + 1)), (2, Nn Rn)] = some (.agg [.nils, Nn (Rn + 1), Nn Rn]) := rfl
  have bx : dC 24 (.agg [.nils, (.int .i64 0), (.int .i64 0)]) [] = some (.ptr 0 1 0 0, [⟨24, 3, [.agg [.nils, (.int .i64 0), (.int .i64 0)]]⟩]) := rfl
  have sx : dY (aN 3 (.ptr 0 1 0 0) (.agg [.nils, Nn (Rn + 1), Nn Rn]) [⟨24, 3, [.agg [.nils, (.int .i64 0), (.int .i64 0)]]⟩]) = some (.tup [], [⟨24, 3, [.agg [.nils, Nn (Rn + 1), Nn Rn]]⟩]) := rfl
  have mk : fC 48 1 (.int .u64 0) (Nn Rn) (Nn Rn) [⟨24, 3, [.agg [.nils, Nn (Rn + 1), Nn Rn]]⟩, ⟨71, 2, []⟩] = some (.sl 2 Rn 0 Rn 1, [⟨24, 3, [.agg [.nils, Nn (Rn + 1), Nn Rn]]⟩, ⟨71, 2, []⟩, ⟨48, 1, dE (List.replicate Rn 0)⟩]) := by
   unfold fC
   have : (0 : Int) ≤ Rn ∧ (Rn : Int) ≤ Rn ∧ (Rn : Int) ≤ 1099511627776 := by omega
   simp only [this, and_self, if_true, Int.toNat_natCast, dE, List.map_replicate]
   rfl
  obtain ⟨mem, hmem, lp⟩ := aFf G 7990 (alembiclaw18_BoundSound.f G 8000) cs M ins out ns Rn (by omega) hgR (by omega) hle hrg hns Rn 0 8000 (List.replicate Rn 0) [] (by omega) (by omega) ⟨by simp, fun x hx => by
   rw [List.mem_replicate] at hx; omega, fun i hi => by omega⟩
  have rc := zK cs M ins out G hG (by omega) (by omega) hgR hv hki hst hmem 7991 (by omega)
  have ho := jL hst
  obtain ⟨N, hN⟩ : ∃ N, N = Rn + cs.length := ⟨_, rfl⟩
  have hNc : (dB (cD cs Rn)).length = N := by rw [fS, uE, hN]
  have hNs : (bD (sD out Rn)).length = N := by rw [dL, aEn, hN, ho]
  have ld : aC G false 1 (.ptr 0 1 0 0) (nF Rn Rn Rn Rn mem []) = some (.sl 3 Rn 0 Rn 6) := rfl
  have apC : eY 52 6 (.sl 3 Rn 0 Rn 6) (.ro false (dB cs)) (nF Rn Rn Rn Rn mem []) = some (.sl 3 N 0 N 6, qK Rn Rn mem (.sl 3 Rn 0 Rn 6) (bD (List.replicate Rn (0, 0))) (dB (cD cs Rn))) := by
   have e : (nF Rn Rn Rn Rn mem [])[3]? = some ⟨52, 6, dB (kU Rn Rn)⟩ := rfl
   unfold eY
   simp only [e, gE, fS, gC]
   rw [if_pos (by refine ⟨?_, ?_, ?_, ?_, ?_⟩ <;> first | trivial | exact aBE _ | omega)]
   have e2 : (dB (kU Rn Rn)).take Rn = dB (kU Rn Rn) := List.take_of_length_le (by rw [fS, gC]; exact Nat.le_refl _)
   have e3 : (dB (kU Rn Rn)).drop (Rn + cs.length) = [] := List.drop_of_length_le (by rw [fS, gC]; omega)
   rw [e2, e3, List.append_nil]
   have e4 : dB (kU Rn Rn) ++ dB cs = dB (cD cs Rn) := by simp [dB, cD]
   rw [e4, hNc, ← hN]
   rfl
  have sC : dY (aN 1 (.ptr 0 1 0 0) (.sl 3 N 0 N 6) (qK Rn Rn mem (.sl 3 Rn 0 Rn 6) (bD (List.replicate Rn (0, 0))) (dB (cD cs Rn)))) = some (.tup [], qK Rn Rn mem (.sl 3 N 0 N 6) (bD (List.replicate Rn (0, 0))) (dB (cD cs Rn))) := rfl
  have apO : eY 71 2 (.sl 1 Rn 0 Rn 2) (.ro false (bD out)) (qK Rn Rn mem (.sl 3 N 0 N 6) (bD (List.replicate Rn (0, 0))) (dB (cD cs Rn))) = some (.sl 1 N 0 N 2, qK Rn Rn mem (.sl 3 N 0 N 6) (bD (sD out Rn)) (dB (cD cs Rn))) := by
   have e : (qK Rn Rn mem (.sl 3 N 0 N 6) (bD (List.replicate Rn (0, 0))) (dB (cD cs Rn)))[1]? = some ⟨71, 2, bD (List.replicate Rn (0, 0))⟩ := rfl
   unfold eY
   simp only [e, gE, dL, List.length_replicate]
   rw [if_pos (by refine ⟨?_, ?_, ?_, ?_, ?_⟩ <;> first | trivial | exact tH _ | omega)]
   have e2 : (bD (List.replicate Rn ((0 : Int), (0 : Int)))).take Rn = bD (List.replicate Rn (0, 0)) := List.take_of_length_le (by rw [dL, List.length_replicate]; exact Nat.le_refl _)
   have e3 : (bD (List.replicate Rn ((0 : Int), (0 : Int)))).drop (Rn + out.length) = [] := List.drop_of_length_le (by rw [dL, List.length_replicate]; omega)
   rw [e2, e3, List.append_nil]
   have e4 : bD (List.replicate Rn (0, 0)) ++ bD out = bD (sD out Rn) := by simp [bD, sD]
   rw [e4, hNs, show Rn + out.length = N by omega]
   rfl
  have ldD : aC G true 3 (.ptr 0 1 0 0) (qK Rn Rn mem (.sl 3 N 0 N 6) (bD (sD out Rn)) (dB (cD cs Rn))) = some (.agg [.sl 3 N 0 N 6, Nn (Rn + 1), Nn Rn]) := rfl
  have sn : lH (qK Rn Rn mem (.sl 3 N 0 N 6) (bD (sD out Rn)) (dB (cD cs Rn))) [.agg [.sl 3 N 0 N 6, Nn (Rn + 1), Nn Rn], .sl 1 N 0 N 2, .sl 2 Rn 0 Rn 1, .int .i64 1000] = some [gQ true (cD cs Rn) ((Rn + 1 : Nat) : Int) Rn, .ro true (bD (sD out Rn)), .ro true (dE mem), I6 1000] := by
   refine oC (aDb (zC (y := .ro true (dB (cD cs Rn))) ?_ (zC rfl (zC rfl aEQ)))) (oC ?_ (oC ?_ (oC rfl aCv)))
   ·exact rE (ty := 52) (xs := dB (cD cs Rn)) rfl hNc (aBE _) (rV _)
   ·exact rE (ty := 71) (xs := bD (sD out Rn)) rfl hNs (tH _) (aCf _)
   ·exact rE (ty := 48) (xs := dE mem) rfl (by rw [fU]; exact hmem.1) (tI _) (aDJ _)
  have rc' := sP sn rc rfl
  have z0 : aG (.tup [I6 (-1), .nili]) 0 = some (I6 (-1)) := rfl
  have z1 : aG (.tup [I6 (-1), .nili]) 1 = some .nili := rfl
  have qm : bE Tryd.prog .eql 3 true (I6 (-1)) (.int .i64 (-1)) = some (.bool true) := tO rfl
  have p0 : aA 0 (.ptr 0 1 0 0) = some (.ptr 0 1 0 0) := rfl
  clear hki hrg hns hRr pc pi hs hst hv hle hmem rc sn hNc hNs ho hN
  unfold wK at lp
  have zz : Nn 0 = .int .i64 0 := rfl
  rw [zz] at lp
  generalize gQ false cs Rn M = cv at *
  have fx := aHv rf <| aHv b1 <| aHv f0 <| aHv f1 <| aHv d0 <| aHv d1 <| aHv d2 <| aHv lc <| aHv li <| aHv ln <| aHv g6 <| aHv g9 <| aHv g13 <| aHv g17 <| aHv g21 <| aHv rs <| aHv y0 <| aHv y1 <| aHv qn <| aHv a30 <| aHv bs <| aHv bx <| aHv sx <| mk
  refine jC ?_
  refine eV1 (H1 := nF Rn 0 0 0 (List.replicate Rn 0) []) rfl ?_
  refine yG ?_
  refine eK ?_
  refine eL lp ?_
  generalize nF Rn Rn Rn Rn mem [] = hA at *
  generalize qK Rn Rn mem (.sl 3 Rn 0 Rn 6) (bD (List.replicate Rn (0, 0))) (dB (cD cs Rn)) = hB at *
  generalize qK Rn Rn mem (.sl 3 N 0 N 6) (bD (List.replicate Rn (0, 0))) (dB (cD cs Rn)) = hC at *
  generalize qK Rn Rn mem (.sl 3 N 0 N 6) (bD (sD out Rn)) (dB (cD cs Rn)) = hD at *
  clear lp mk bx sx bs
  have fx := aHv rf <| aHv p0 <| aHv ld <| aHv f0 <| aHv d0 <| aHv apC <| aHv sC <| aHv apO <| aHv ldD <| aHv rc' <| aHv z0 <| aHv z1 <| aHv qe <| qm
  refine jC ?_
  exact w1b rfl
 ·have rs : ∀ H, aL (aM.f G 8000) [gQ false cs R M, .ro false (bD ins)] H = _ := fun H => aX (H := H) hs (by simp [fQ, pc, pi]) hcl
  have y0 : aG (.tup [x, e]) 0 = some x := rfl
  have y1 : aG (.tup [x, e]) 1 = some e := rfl
  clear hki hrg hns hRr pc pi hs hcl
  generalize gQ false cs R M = cv at *
  have fx := aHv rf <| aHv b1 <| aHv f0 <| aHv f1 <| aHv d0 <| aHv d1 <| aHv d2 <| aHv lc <| aHv li <| aHv ln <| aHv g6 <| aHv g9 <| aHv g13 <| aHv g17 <| aHv g21 <| aHv rs <| aHv y0 <| aHv y1 <| hne
  refine jC ?_
  exact w1b rfl
end Go.Proofs.YtcmblhedhgiofaaDoor
namespace Go.Proofs.YtcmblhedhgiofaaDoor
open Go Go.ChangeShapes Go.WideShapes Go.RowKit Mir
set_option linter.unusedVariables false
set_option linter.unusedSimpArgs false
namespace RBoundSound
noncomputable def xC (os : Os) : World :=
 let w0 := World.holding Tryd.prog os ⟨#[.cells #[.string ⟨#[97, 32, 110, 117, 109, 98, 101, 114, 32, 111, 117, 116, 32, 111, 102, 32, 105, 116, 115, 32, 114, 97, 110, 103, 101]⟩] 171, .cells #[.string ⟨#[110, 111, 116, 32, 97, 115, 32, 108, 111, 110, 103, 32, 97, 115, 32, 105, 116, 32, 104, 97, 115, 32, 116, 111, 32, 98, 101]⟩] 171, .cells #[.string ⟨#[116, 111, 111, 32, 109, 97, 110, 121]⟩] 171, .cells #[.string ⟨#[110, 111, 116, 32, 97, 115, 32, 105, 116, 32, 104, 97, 115, 32, 116, 111, 32, 98, 101]⟩] 171, .cells #[.string ⟨#[110, 111, 32, 115, 117, 99, 104, 32, 116, 104, 105, 110, 103, 32, 116, 111, 32, 100, 111]⟩] 171, .cells #[.string ⟨#[110, 111, 32, 115, 117, 99, 104, 32, 112, 108, 97, 99, 101]⟩] 171], #[], []⟩
 {w0 with heap := w0.heap
  |>.modify 2 (fun
   | .cells _ t frozen => .cells #[.iface 154 (.pointer (some ⟨Rk.low, 0, none⟩))] t frozen
   | o => o)
  |>.modify 1 (fun
   | .cells _ t frozen => .cells #[.iface 154 (.pointer (some ⟨Rk.low + 1, 0, none⟩))] t frozen
   | o => o)
  |>.modify 0 (fun
   | .cells _ t frozen => .cells #[.iface 154 (.pointer (some ⟨Rk.low + 2, 0, none⟩))] t frozen
   | o => o)
  |>.modify 3 (fun
   | .cells _ t frozen => .cells #[.iface 154 (.pointer (some ⟨Rk.low + 3, 0, none⟩))] t frozen
   | o => o)
  |>.modify 4 (fun
   | .cells _ t frozen => .cells #[.iface 154 (.pointer (some ⟨Rk.low + 4, 0, none⟩))] t frozen
   | o => o)
  |>.modify 5 (fun
   | .cells _ t frozen => .cells #[.iface 154 (.pointer (some ⟨Rk.low + 5, 0, none⟩))] t frozen
   | o => o) }
theorem wH (os : Os) (args : Array Value) : laidMetH Tryd.prog ([("alembic/api.ErrRange", Rows.laid_alembic_api_ErrRange), ("alembic/api.ErrLength", Rows.laid_alembic_api_ErrLength), ("alembic/api.ErrMany", Rows.laid_alembic_api_ErrMany), ("alembic/api.ErrShape", Rows.laid_alembic_api_ErrShape), ("alembic/api.ErrOp", Rows.laid_alembic_api_ErrOp), ("alembic/api.ErrLabel", Rows.laid_alembic_api_ErrLabel)] : List (String × DataW Unit)) ((xC os).forCall (fun _ _ => 0) ⟨#[], args, []⟩).memory :=
 laidMet_of_run (ps := [.cell 2 0, .cell (Rk.low) 0, .cell 1 0, .cell (Rk.low + 1) 0, .cell 0 0, .cell (Rk.low + 2) 0, .cell 3 0, .cell (Rk.low + 3) 0, .cell 4 0, .cell (Rk.low + 4) 0, .cell 5 0, .cell (Rk.low + 5) 0]) 8 (by kernel_rfl) (by kernel_rfl) (by kernel_rfl)
theorem aGw : aBD Tryd.prog 35 [("alembic/api.ErrRange", Rows.laid_alembic_api_ErrRange), ("alembic/api.ErrLength", Rows.laid_alembic_api_ErrLength), ("alembic/api.ErrMany", Rows.laid_alembic_api_ErrMany), ("alembic/api.ErrShape", Rows.laid_alembic_api_ErrShape), ("alembic/api.ErrOp", Rows.laid_alembic_api_ErrOp), ("alembic/api.ErrLabel", Rows.laid_alembic_api_ErrLabel)] [2, 1, 0, 3, 4, 5] := ⟨by kernel_rfl, by kernel_rfl, ⟨_, rfl⟩, by kernel_rfl, by kernel_rfl, ⟨_, rfl⟩, by kernel_rfl, by kernel_rfl, ⟨_, rfl⟩, by kernel_rfl, by kernel_rfl, ⟨_, rfl⟩, by kernel_rfl, by kernel_rfl, ⟨_, rfl⟩, by kernel_rfl, by kernel_rfl, ⟨_, rfl⟩, trivial⟩
theorem sent {W : World} (h : laidMetH Tryd.prog ([("alembic/api.ErrRange", Rows.laid_alembic_api_ErrRange), ("alembic/api.ErrLength", Rows.laid_alembic_api_ErrLength), ("alembic/api.ErrMany", Rows.laid_alembic_api_ErrMany), ("alembic/api.ErrShape", Rows.laid_alembic_api_ErrShape), ("alembic/api.ErrOp", Rows.laid_alembic_api_ErrOp), ("alembic/api.ErrLabel", Rows.laid_alembic_api_ErrLabel)] : List (String × DataW Unit)) W) : ∃ S, SentS W 154 [2, 1, 0, 3, 4, 5] S :=
 yZ Tryd.underlying35 Rk.row Tryd.underlying154 Tryd.underlying171 rfl rfl Tryd.underlying9 (by kernel_rfl) (by kernel_rfl) aGw (by decide) h
theorem aEN : ∀ t ∈ ([24, 22, 52, 3, 2, 60, 71, 66] : List Nat), vF Tryd.prog [24, 22, 52, 3, 2, 60, 71, 66] t = true := List.all_eq_true.1 (by kernel_rfl)
set_option maxRecDepth 100000 in
theorem aFG (os : Os) (started : os.Started) (H : Type) (enc : TypeId × Value → H) :
  ReturnsInHanded {} Tryd.checked os 10 .any (fun w args => (Rows.boundSoundSpec.pre enc Tryd.prog Tryd.f10 [] false w args ∧ laidMetH Tryd.prog ([("alembic/api.ErrRange", Rows.laid_alembic_api_ErrRange), ("alembic/api.ErrLength", Rows.laid_alembic_api_ErrLength), ("alembic/api.ErrMany", Rows.laid_alembic_api_ErrMany), ("alembic/api.ErrShape", Rows.laid_alembic_api_ErrShape), ("alembic/api.ErrOp", Rows.laid_alembic_api_ErrOp), ("alembic/api.ErrLabel", Rows.laid_alembic_api_ErrLabel)] : List (String × DataW Unit)) w) ∧ sizedMet enc Tryd.prog Tryd.f10 (OpenSpec.ofChange Rows.boundSoundSpec) false w args)
   (Rows.boundSoundSpec.post enc Tryd.prog Tryd.f10 false true false false) := by
 refine returnsInHanded_of_change_and (C := Tryd.checked) (X := fun w _ => laidMetH Tryd.prog ([("alembic/api.ErrRange", Rows.laid_alembic_api_ErrRange), ("alembic/api.ErrLength", Rows.laid_alembic_api_ErrLength), ("alembic/api.ErrMany", Rows.laid_alembic_api_ErrMany), ("alembic/api.ErrShape", Rows.laid_alembic_api_ErrShape), ("alembic/api.ErrOp", Rows.laid_alembic_api_ErrOp), ("alembic/api.ErrLabel", Rows.laid_alembic_api_ErrLabel)] : List (String × DataW Unit)) w) (fun _ _ _ hh h => h.of_heap hh) Rk.own started (by kernel_rfl) Tryd.func10
  (ChangeSpec.witness_at (enc := enc) (C := Tryd.checked) (os := os) (X := fun w _ => laidMetH Tryd.prog ([("alembic/api.ErrRange", Rows.laid_alembic_api_ErrRange), ("alembic/api.ErrLength", Rows.laid_alembic_api_ErrLength), ("alembic/api.ErrMany", Rows.laid_alembic_api_ErrMany), ("alembic/api.ErrShape", Rows.laid_alembic_api_ErrShape), ("alembic/api.ErrOp", Rows.laid_alembic_api_ErrOp), ("alembic/api.ErrLabel", Rows.laid_alembic_api_ErrLabel)] : List (String × DataW Unit)) w) false (xC os) #[.agg #[.slice none 0 0, .int .i64 0, .int .i64 0], .slice none 0 0, .slice none 0 0] 8 rfl (by kernel_rfl) (by kernel_rfl) (by kernel_rfl) (by kernel_rfl) (by kernel_rfl) (wH os _)) ?_
 intro W base args ds gs before hval0 hW _ _ hL _
 obtain ⟨S, hS⟩ := sent hL
 have hval : ∀ (j : Nat) t v, Tryd.f10.params.toList[j]? = some t → args.toList[j]? = some v → Value.okWide Tryd.prog W .any base t v := fun j t v h1 h2 => hval0 j t v (by simpa using h1) (by simpa using h2)
 have hW' := hW
 obtain ⟨p, q, hA, _, _, _, _⟩ := hW
 have hpar : Tryd.f10.params.toList = [24, 60, 66] := by rw [Tryd.params10]
 rw [hpar] at hval
 replace hA : DataW.TrodAll enc Tryd.prog W 0 (fun _ => true) true Tryd.f10.params.toList args.toList ds p := hA
 rw [hpar] at hA
 obtain ⟨xs, h1, h2⟩ := xJ aEN (by decide) hval hA
 obtain ⟨k, hk⟩ := LBoundSound.law xs h1
 have hc := aCD (Mir.alembiclaw18_BoundSound.sound (aAD _ _) k) hk (aDq hS) h2
 rw [Array.toArray_toList] at hc
 refine hc.mono fun e W' ⟨he, hb⟩ => ⟨_, he, ?_⟩
 exact aDK rfl hpar (by kernel_rfl) Tryd.underlying4 (fun ds hd => by
  obtain ⟨d0, d1, d2, rfl⟩ : ∃ d0 d1 d2, ds = [d0, d1, d2] := by
   match ds, hd with
   | [d0, d1, d2], _ => exact ⟨d0, d1, d2, rfl⟩
  rfl) Rk.laidOut (by kernel_rfl) hW' hb
theorem holds : Rows.BoundSoundSaid :=
 OpenClaim.holds_of_wide 10 Tryd.f10 rfl rfl rfl rfl rfl rfl rfl ⟨rfl, rfl, rfl, rfl, rfl⟩ rfl rfl rfl rfl rfl (by kernel_rfl) Tryd.func10 (by kernel_rfl)
  (of_decide_eq_true (by kernel_rfl)) (by unfold Func.isWrapper; first | (rw [if_pos (by decide +kernel)]; kernel_rfl) | (rw [if_neg (by decide +kernel)]; exact ⟨rfl, rfl⟩))
  (fun os started H enc _ => aFG os started H enc)
theorem cardHolds : Rows.BoundSoundCardSaid :=
 Claim7.holds_tied_plain_at .later [] [.sentinel, .sentinel, .sentinel, .sentinel, .sentinel, .sentinel] true (true, "eea5546ee5c6d90b41f0e6dcb9da92a4a93ff31768642628f5f5acb5a9c2d3db") true
  holds (fun _ h => by cases h) (by kernel_rfl) (fun _ h => by cases h) boundSound_row_tie rfl ⟨rfl, rfl⟩ (by kernel_rfl) rfl
  (fun f fn hf hfn => by
   obtain rfl : f = 10 := Option.some.inj ((show Tryd.prog.funcNamed "alembic/alembiclaw18.BoundSound" = some 10 by kernel_rfl).symm.trans hf) |>.symm
   obtain rfl : fn = Tryd.f10 := (Option.some.inj (Tryd.func10.symm.trans hfn)).symm
   exact ⟨by kernel_rfl, fun j t ht => by
    have hm : t ∈ ([24, 60, 66] : List Nat) := by
     have := List.mem_of_getElem? (l := Tryd.f10.params.toList) (i := j) (by simpa using ht)
     rw [Tryd.params10] at this
     exact this
    have := List.all_eq_true.1 (show ([24, 60, 66] : List Nat).all (fun t => !Tryd.prog.wantsStandIn t) = true by kernel_rfl) t hm
    exact (by simpa using this : Tryd.prog.wantsStandIn t = false)⟩)
  (by kernel_rfl)
end RBoundSound
end Go.Proofs.YtcmblhedhgiofaaDoor
