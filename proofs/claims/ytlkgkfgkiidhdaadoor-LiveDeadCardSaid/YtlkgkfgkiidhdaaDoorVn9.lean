/- Part 9 of the proof: what these functions do. -/
import Derived.Test.YtlkgkfgkiidhdaaDoorVn8
import Derived.KernelRfl
namespace Go.Proofs.YtlkgkfgkiidhdaaDoor.Mir
open Go
set_option linter.unusedSimpArgs false
set_option linter.unusedVariables false
set_option maxHeartbeats 8000000
set_option maxRecDepth 20000
def Fol (w : WI) (p q : Nat) : Prop := (w.op ≠ 17 ∧ w.op ≠ 20 ∧ q = p + 1) ∨ ((w.op = 17 ∨ w.op = 18 ∨ w.op = 19) ∧ q = w.k.toNat)
structure LvC (cs : List WI) (L : Nat → Nat → Prop) : Prop where
 a : ∀ p w, cs[p]? = some w → (eW w.op).a = true → L w.a.toNat p
 b : ∀ p w, cs[p]? = some w → (eW w.op).b = true → L w.b.toNat p
 c : ∀ p w, cs[p]? = some w → (eW w.op).c = true → L w.c.toNat p
 up : ∀ p w q x, cs[p]? = some w → q < cs.length → Fol w p q → L x q → ¬ ((eW w.op).d = true ∧ w.d.toNat = x) → L x p
def brW (w : WI) : Prop := w.op = 17 ∨ w.op = 18 ∨ w.op = 19
instance (w : WI) : Decidable (brW w) := by unfold brW; infer_instance
def mvW (ps : Nat → Nat) (w : WI) : WI := if brW w then { w with k := (ps w.k.toNat : Int) } else w
structure SR (cs : List WI) (L : Nat → Nat → Prop) (R : Nat) (ps : Nat → Nat) (s t : MS) : Prop where
 at_ : t.at_ = ps s.at_
 mem : t.mem = s.mem
 code : t.code = s.code
 len : s.regs.length = R
 len2 : R ≤ t.regs.length
 ag : s.at_ < cs.length → ∀ x, x < R → L x s.at_ → t.regs.getD x 0 = s.regs.getD x 0
 le : s.at_ ≤ cs.length
section
variable {cs : List WI} {L : Nat → Nat → Prop} {R : Nat} {ps : Nat → Nat} (hL : LvC cs L)
structure St2 (cs : List WI) (L : Nat → Nat → Prop) (R : Nat) (ps : Nat → Nat) (s t : MS) (go : Bool) (s2 t2 : MS) : Prop where
 run : go = true → SR cs L R ps s2 t2
 mem : t2.mem = s2.mem
 code : t2.code = s2.code
 st : s2.steps = s.steps + 1
 st2 : t2.steps = t.steps + 1
 lk : t.leaks = s.leaks → ps s.at_ = s.at_ → t2.leaks = s2.leaks
 tl : t2.regs.length = t.regs.length
include hL in
theorem sB {p q : Nat} {w : WI} {r r2 r' r2' : List Nat} (hi : cs[p]? = some w) (hf : q < cs.length → Fol w p q) (hr : ∀ x, x < R → ¬ ((eW w.op).d = true ∧ w.d.toNat = x) → r'.getD x 0 = r.getD x 0 ∧ r2'.getD x 0 = r2.getD x 0)
  (hd : (eW w.op).d = true → w.d.toNat < R → r2'.getD w.d.toNat 0 = r'.getD w.d.toNat 0) (hag : ∀ x, x < R → L x p → r2.getD x 0 = r.getD x 0) : q < cs.length → ∀ x, x < R → L x q → r2'.getD x 0 = r'.getD x 0 := by
 intro hq x hx hl
 by_cases e : (eW w.op).d = true ∧ w.d.toNat = x
 ·obtain ⟨e1, rfl⟩ := e
  exact hd e1 hx
 ·obtain ⟨h1, h2⟩ := hr x hx e
  rw [h1, h2]
  exact hag x hx (hL.up p w q x hi hq (hf hq) hl e)
theorem aHz {op : Int} (h : (1 ≤ op ∧ op ≤ 14) ∨ op = 15) : (eW op).d = true := by
 have : op = 1 ∨ op = 2 ∨ op = 3 ∨ op = 4 ∨ op = 5 ∨ op = 6 ∨ op = 7 ∨ op = 8 ∨ op = 9 ∨ op = 10 ∨ op = 11 ∨ op = 12 ∨ op = 13 ∨ op = 14 ∨ op = 15 := by omega
 rcases this with rfl | rfl | rfl | rfl | rfl | rfl | rfl | rfl | rfl | rfl | rfl | rfl | rfl | rfl | rfl <;> rfl
theorem xJ {op : Int} (h : 16 ≤ op ∧ op ≤ 20) : (eW op).d = false := by
 have : op = 16 ∨ op = 17 ∨ op = 18 ∨ op = 19 ∨ op = 20 := by omega
 rcases this with rfl | rfl | rfl | rfl | rfl <;> rfl
include hL in
theorem aFn {s t : MS} {w : WI} {N : Nat} (hi : cs[s.at_]? = some w) (hw : w.Good R cs.length) (h : SR cs L R ps s t) (hps : ps (s.at_ + 1) = ps s.at_ + 1) :
  ∃ go s2 t2, MS.step (MS.tick s) w = (s2, go) ∧ MS.step (MS.tick t) (mvW ps w) = (t2, go) ∧ St2 cs L R ps s t go s2 t2 := by
 obtain ⟨r, p, cd, mem, lk, st⟩ := s
 obtain ⟨r2, p2, cd2, lW, lk2, st2⟩ := t
 obtain ⟨h1, h2, h3, h4, h5, h6, h7⟩ := h
 simp only at h1 h2 h3 h4 h5 h6 h7 hps hi
 subst h1 h2 h3
 have hp : p < cs.length := (List.getElem?_eq_some_iff.1 hi).1
 have hag := h6 hp
 obtain ⟨op, d, a, b, c, k⟩ := w
 have ok := hw.ok2.ok
 have hop := ok.op
 simp only at hop
 have ea : (eW op).a = true → 0 ≤ a ∧ a < R → r2.getD a.toNat 0 = r.getD a.toNat 0 := fun q ha => hag a.toNat (by omega) (hL.a p _ hi q)
 have eb : (eW op).b = true → 0 ≤ b ∧ b < R → r2.getD b.toNat 0 = r.getD b.toNat 0 := fun q ha => hag b.toNat (by omega) (hL.b p _ hi q)
 have ec : (eW op).c = true → 0 ≤ c ∧ c < R → r2.getD c.toNat 0 = r.getD c.toNat 0 := fun q ha => hag c.toNat (by omega) (hL.c p _ hi q)
 have setr : ∀ (l : List Nat) (v : Nat), R ≤ l.length → 0 ≤ d ∧ d < R → ∀ x, ¬ (d.toNat = x) → (l.set d.toNat v).getD x 0 = l.getD x 0 := fun l v hl hd x hx => by
  rw [gC _ _ _ _ (by omega), if_neg hx]
 by_cases o1 : op ≤ 14
 ·have ra := ok.a (by simp only; omega) (by simp only; omega)
  have rb := ok.b (by simp only; omega)
  have rc := ok.c (by simp only; omega)
  have rd := ok.d (by simp only; omega)
  simp only at ra rb rc rd
  have hm : mvW ps ⟨op, d, a, b, c, k⟩ = ⟨op, d, a, b, c, k⟩ := if_neg (by unfold brW; simp only; omega)
  have hk : 10 ≤ op → op ≤ 12 → 0 ≤ k ∧ k ≤ 63 := fun x y => hw.ok2.sh x y
  have hs := aBg (r := r) (p := p) (cd := cd2) (mem := lW) (lk := lk) (st := st) (d := d) (a := a) (b := b) (c := c) (k := k) (op := op) ⟨hop.1, o1⟩ (aBk ⟨hop.1, o1⟩ hk)
  have ht := aBg (r := r2) (p := ps p) (cd := cd2) (mem := lW) (lk := lk2) (st := st2) (d := d) (a := a) (b := b) (c := c) (k := k) (op := op) ⟨hop.1, o1⟩ (aBk ⟨hop.1, o1⟩ hk)
  have hv : kL op k (yD r2 a) (yD r2 b) (yD r2 c) = kL op k (yD r a) (yD r b) (yD r c) := aFq ⟨hop.1, o1⟩ k (fun q => ea q ra) (fun q => eb q rb) (fun q => ec q rc)
  rw [hv] at ht
  rw [hm]
  refine ⟨true, _, _, hs, ht, fun _ => ⟨hps.symm, rfl, rfl, by simp [h4], by simp [h5], ?_, hp⟩, rfl, rfl, rfl, rfl, fun e1 e2 => by simp only at e1 e2 ⊢; rw [e1, e2], by simp⟩
  refine sB hL hi (fun _ => .inl ⟨by simp only; omega, by simp only; omega, rfl⟩) (fun x hx hn => ?_) (fun _ _ => ?_) hag
  ·have hn' : ¬ d.toNat = x := fun e => hn ⟨aHz (.inl ⟨hop.1, o1⟩), e⟩
   exact ⟨setr r _ (by omega) rd x hn', setr r2 _ h5 rd x hn'⟩
  ·simp only
   rw [gC _ _ _ _ (by omega), gC _ _ _ _ (by omega), if_pos rfl, if_pos rfl]
 by_cases o2 : op = 15 ∨ op = 16
 ·have ra := ok.a (by simp only; omega) (by simp only; omega)
  have rb := ok.b (by simp only; omega)
  have rd := ok.d (by simp only; omega)
  simp only at ra rb rd
  have hm : mvW ps ⟨op, d, a, b, c, k⟩ = ⟨op, d, a, b, c, k⟩ := if_neg (by unfold brW; simp only; omega)
  have hfa : (eW op).a = true := by rcases o2 with rfl | rfl <;> rfl
  have hea := ea hfa ra
  obtain ⟨y, hy⟩ : ∃ y, (yD r a + u64 k) % 18446744073709551616 = y := ⟨_, rfl⟩
  have hy2 : (yD r2 a + u64 k) % 18446744073709551616 = y := by show (r2.getD a.toNat 0 + _) % _ = y; rw [hea]; exact hy
  rw [hm]
  by_cases hmm : lW.length ≤ y
  ·have hs := aGL (r := r) (p := p) (cd := cd2) (mem := lW) (lk := lk) (st := st) (d := d) (a := a) (b := b) (c := c) (k := k) o2 hy hmm
   have ht := aGL (r := r2) (p := ps p) (cd := cd2) (mem := lW) (lk := lk2) (st := st2) (d := d) (a := a) (b := b) (c := c) (k := k) o2 hy2 hmm
   exact ⟨false, _, _, hs, ht, fun q => (by cases q), rfl, rfl, rfl, rfl, fun e1 e2 => by simp only at e1 e2 ⊢; rw [e1, e2], rfl⟩
  ·rcases o2 with rfl | rfl
   ·have hs := aIA (r := r) (p := p) (cd := cd2) (mem := lW) (lk := lk) (st := st) (d := d) (a := a) (b := b) (c := c) (k := k) hy (by omega)
    have ht := aIA (r := r2) (p := ps p) (cd := cd2) (mem := lW) (lk := lk2) (st := st2) (d := d) (a := a) (b := b) (c := c) (k := k) hy2 (by omega)
    refine ⟨true, _, _, hs, ht, fun _ => ⟨hps.symm, rfl, rfl, by simp [h4], by simp [h5], ?_, hp⟩, rfl, rfl, rfl, rfl, fun e1 e2 => by simp only at e1 e2 ⊢; rw [e1, e2], by simp⟩
    refine sB hL hi (fun _ => .inl ⟨by simp, by simp, rfl⟩) (fun x hx hn => ?_) (fun _ _ => ?_) hag
    ·have hn' : ¬ d.toNat = x := fun e => hn ⟨rfl, e⟩
     exact ⟨setr r _ (by omega) rd x hn', setr r2 _ h5 rd x hn'⟩
    ·simp only
     rw [gC _ _ _ _ (by omega), gC _ _ _ _ (by omega), if_pos rfl, if_pos rfl]
   ·have heb := eb rfl rb
    have hs := aIB (r := r) (p := p) (cd := cd2) (mem := lW) (lk := lk) (st := st) (d := d) (a := a) (b := b) (c := c) (k := k) hy (by omega)
    have ht := aIB (r := r2) (p := ps p) (cd := cd2) (mem := lW) (lk := lk2) (st := st2) (d := d) (a := a) (b := b) (c := c) (k := k) hy2 (by omega)
    have he : lW.set y (yD r2 b) = lW.set y (yD r b) := by show lW.set y (r2.getD _ 0) = _; rw [heb]
    rw [he] at ht
    refine ⟨true, _, _, hs, ht, fun _ => ⟨hps.symm, rfl, rfl, h4, h5, ?_, hp⟩, rfl, rfl, rfl, rfl, fun e1 e2 => by simp only at e1 e2 ⊢; rw [e1, e2], rfl⟩
    exact sB hL hi (fun _ => .inl ⟨by simp, by simp, rfl⟩) (fun x hx hn => ⟨rfl, rfl⟩) (fun q _ => by cases q) hag
 by_cases o3 : op = 20
 ·subst o3
  have hm : mvW ps ⟨20, d, a, b, c, k⟩ = ⟨20, d, a, b, c, k⟩ := if_neg (by unfold brW; simp only; omega)
  have hs := aGM (r := r) (p := p) (cd := cd2) (mem := lW) (lk := lk) (st := st) (d := d) (a := a) (b := b) (c := c) (k := k)
  have ht := aGM (r := r2) (p := ps p) (cd := cd2) (mem := lW) (lk := lk2) (st := st2) (d := d) (a := a) (b := b) (c := c) (k := k)
  rw [hm]
  exact ⟨false, _, _, hs, ht, fun q => (by cases q), rfl, rfl, rfl, rfl, fun e1 e2 => by simp only at e1 e2 ⊢; rw [e1, e2], rfl⟩
 have o4 : op = 17 ∨ op = 18 ∨ op = 19 := by omega
 have hk := ok.k (by simp only; omega) (by simp only; omega)
 simp only at hk
 have hm : mvW ps ⟨op, d, a, b, c, k⟩ = ⟨op, d, a, b, c, (ps k.toNat : Int)⟩ := if_pos o4
 have nd := xJ (op := op) (by omega)
 rw [hm]
 by_cases o5 : op = 17
 ·subst o5
  have hs := aIy (r := r) (p := p) (cd := cd2) (mem := lW) (lk := lk) (st := st) (d := d) (a := a) (b := b) (c := c) (k := k)
  have ht := aIy (r := r2) (p := ps p) (cd := cd2) (mem := lW) (lk := lk2) (st := st2) (d := d) (a := a) (b := b) (c := c) (k := (ps k.toNat : Int))
  refine ⟨true, _, _, hs, ht, fun _ => ⟨by simp, rfl, rfl, h4, h5, ?_, by simp only; omega⟩, rfl, rfl, rfl, rfl, fun e1 e2 => by simp only at e1 e2 ⊢; rw [e1, e2], rfl⟩
  exact sB hL hi (fun _ => .inr ⟨.inl rfl, rfl⟩) (fun x hx hn => ⟨rfl, rfl⟩) (fun q _ => by cases q) hag
 ·have o6 : op = 18 ∨ op = 19 := by omega
  have ra := ok.a (by simp only; omega) (by simp only; omega)
  simp only at ra
  have hfa : (eW op).a = true := by rcases o6 with rfl | rfl <;> rfl
  have hea := ea hfa ra
  obtain ⟨g, hg⟩ : ∃ g, (decide (yD r a = 0) == decide (op = 18)) = g := ⟨_, rfl⟩
  have hg2 : (decide (yD r2 a = 0) == decide (op = 18)) = g := by show (decide (r2.getD a.toNat 0 = 0) == _) = g; rw [hea]; exact hg
  have hs := aIz (r := r) (p := p) (cd := cd2) (mem := lW) (lk := lk) (st := st) (d := d) (a := a) (b := b) (c := c) (k := k) o6 g hg
  have ht := aIz (r := r2) (p := ps p) (cd := cd2) (mem := lW) (lk := lk2) (st := st2) (d := d) (a := a) (b := b) (c := c) (k := (ps k.toNat : Int)) o6 g hg2
  refine ⟨true, _, _, hs, ht, fun _ => ⟨?_, rfl, rfl, h4, h5, ?_, ?_⟩, rfl, rfl, rfl, rfl, fun e1 e2 => by simp only at e1 e2 ⊢; rw [e1, e2], rfl⟩
  ·cases g
   ·exact hps.symm
   ·simp
  ·refine sB hL hi (fun _ => ?_) (fun x hx hn => ⟨rfl, rfl⟩) (fun q _ => by rw [nd] at q; cases q) hag
   cases g
   ·exact .inl ⟨o5, by simp only; omega, rfl⟩
   ·exact .inr ⟨o4, rfl⟩
  ·cases g
   ·exact hp
   ·show (if True then k.toNat else p + 1) ≤ cs.length
    rw [if_pos trivial]; omega
theorem aFm {s t : MS} {w w' : WI} (hL : LvC cs L) (hi : cs[s.at_]? = some w) (hw : w.Good R cs.length) (h : SR cs L R ps s t) (ho : 1 ≤ w.op ∧ w.op ≤ 14) (hn : s.at_ + 1 < cs.length → ¬ L w.d.toNat (s.at_ + 1)) :
  ∃ s2, MS.step (MS.tick s) w = (s2, true) ∧ s2.at_ = s.at_ + 1 ∧ s2.mem = s.mem ∧ s2.code = s.code ∧ s2.steps = s.steps + 1 ∧ s2.leaks = s.leaks ++ [(1, (s.at_ : Int))] ∧ s2.regs.length = R ∧
   (s.at_ + 1 < cs.length → ∀ x, x < R → L x (s.at_ + 1) → t.regs.getD x 0 = s2.regs.getD x 0) := by
 obtain ⟨r, p, cd, mem, lk, st⟩ := s
 obtain ⟨h1, h2, h3, h4, h5, h6, h7⟩ := h
 simp only at h1 h2 h3 h4 h5 h6 h7 hn hi ho
 have hp : p < cs.length := (List.getElem?_eq_some_iff.1 hi).1
 have hag := h6 hp
 obtain ⟨op, d, a, b, c, k⟩ := w
 have ok := hw.ok2.ok
 have rd := ok.d (by simp only at ho ⊢; omega)
 simp only at rd ho hn
 have hk : 10 ≤ op → op ≤ 12 → 0 ≤ k ∧ k ≤ 63 := fun x y => hw.ok2.sh x y
 have hs := aBg (r := r) (p := p) (cd := cd) (mem := mem) (lk := lk) (st := st) (d := d) (a := a) (b := b) (c := c) (k := k) (op := op) ho (aBk ho hk)
 refine ⟨_, hs, rfl, rfl, rfl, rfl, rfl, by simp [h4], fun hq x hx hl => ?_⟩
 simp only
 have hdx : d.toNat ≠ x := fun e => hn hq (e ▸ hl)
 rw [gC _ _ _ _ (by omega), if_neg hdx]
 exact hag x hx (hL.up p _ (p + 1) x hi hq (.inl ⟨by simp only; omega, by simp only; omega, rfl⟩) hl (fun e => hdx e.2))
def aFx (cs : List WI) (L : Nat → Nat → Prop) (p : Nat) (w : WI) : Prop := (1 ≤ w.op ∧ w.op ≤ 14) ∧ (p + 1 < cs.length → ¬ L w.d.toNat (p + 1))
theorem yE {ds : List WI} {N : Nat} {F : Int} (hL : LvC cs L) (hok : ∀ w ∈ cs, w.Good R cs.length) (hdl : ds.length = cs.length + N) (dd : Bool)
  (hds : ∀ p w, cs[p]? = some w → ds[p + N]? = some (mvW (· + N) w) ∨ (dd = true ∧ aFx cs L p w ∧ ds[p + N]? = some ⟨1, R, 0, 0, 0, 7⟩)) :
  ∀ (f : Nat) (s t s' : MS), kX cs F f s = some s' → SR cs L R (· + N) s t → t.steps = s.steps + N → (dd = true → R < t.regs.length) →
   ∃ t', kX ds (F + N) f t = some t' ∧ t'.code = s'.code ∧ t'.mem = s'.mem ∧ t'.steps = s'.steps + N ∧ (N = 0 → t.leaks = s.leaks → t'.leaks = s'.leaks)
 | 0, s, t, s', h, _, _, _ => by simp [kX] at h
 | f + 1, s, t, s', h, hr, hst, hdd => by
  simp only [kX] at h ⊢
  have hat := hr.at_
  by_cases h1 : cs.length ≤ s.at_
  ·rw [if_pos h1] at h
   simp only [Option.some.injEq] at h
   subst h
   rw [if_pos (by omega)]
   exact ⟨_, rfl, rfl, hr.mem, hst, fun _ e => e⟩
  rw [if_neg h1] at h
  rw [if_neg (by omega)]
  by_cases h2 : (s.steps : Int) = F
  ·rw [if_pos h2] at h
   simp only [Option.some.injEq] at h
   subst h
   rw [if_pos (by omega)]
   exact ⟨_, rfl, rfl, hr.mem, hst, fun _ e => e⟩
  rw [if_neg h2] at h
  rw [if_neg (by omega)]
  obtain ⟨w, hw⟩ : ∃ w, cs[s.at_]? = some w := ⟨_, List.getElem?_eq_getElem (by omega)⟩
  have hwd : cs.getD s.at_ default = w := by rw [List.getD_eq_getElem?_getD, hw]; rfl
  have hgood := hok w (List.mem_of_getElem? hw)
  rw [hwd] at h
  rcases hds s.at_ w hw with e | ⟨hdt, ⟨hdo, hdn⟩, e⟩
  ·have hwt : ds.getD t.at_ default = mvW (· + N) w := by rw [hat, List.getD_eq_getElem?_getD, e]; rfl
   rw [hwt]
   obtain ⟨go, s2, t2, e1, e2, r⟩ := aFn (ps := (· + N)) (N := N) hL hw hgood hr (by omega)
   rw [e1] at h
   rw [e2]
   cases go with
   | false =>
    simp only [Option.some.injEq] at h ⊢
    subst h
    exact ⟨_, rfl, r.code, r.mem, by rw [r.st, r.st2, hst]; omega, fun e0 el => r.lk el (by omega)⟩
   | true =>
    simp only at h ⊢
    obtain ⟨t', g1, g2, g3, g4, g5⟩ := yE hL hok hdl dd hds f s2 t2 s' h (r.run rfl) (by rw [r.st, r.st2, hst]; omega) (fun q => by rw [r.tl]; exact hdd q)
    exact ⟨t', g1, g2, g3, g4, fun e0 el => g5 e0 (r.lk el (by omega))⟩
  ·have hwt : ds.getD t.at_ default = ⟨1, R, 0, 0, 0, 7⟩ := by rw [hat, List.getD_eq_getElem?_getD, e]; rfl
   rw [hwt]
   obtain ⟨s2, e1, e2, e3, e4, e5, e6, e7, e8⟩ := aFm (w' := w) hL hw hgood hr hdo hdn
   rw [e1] at h
   simp only at h
   obtain ⟨r2, p2, cd2, lW, lk2, st2⟩ := t
   have hRl := hdd hdt
   simp only at hRl hat hst
   have ht := aBg (r := r2) (p := p2) (cd := cd2) (mem := lW) (lk := lk2) (st := st2) (d := (R : Int)) (a := 0) (b := 0) (c := 0) (k := 7) (op := 1) (by decide) (by rw [aGQ])
   rw [aGQ] at ht
   rw [ht]
   simp only
   have hsr : SR cs L R (· + N) s2 ⟨r2.set ((R : Int)).toNat (u64 7), p2 + 1, cd2, lW, lk2 ++ [(1, (p2 : Int))], st2 + 1⟩ := by
    refine ⟨by simp only; omega, by rw [e3]; exact hr.mem, by rw [e4]; exact hr.code, e7, by simp; omega, fun hq x hx hl => ?_, by omega⟩
    simp only
    rw [gC _ _ _ _ (by simp only [Int.toNat_natCast]; omega), if_neg (by simp only [Int.toNat_natCast]; omega)]
    rw [e2] at hq hl
    exact e8 hq x hx hl
   obtain ⟨t', g1, g2, g3, g4, g5⟩ := yE hL hok hdl dd hds f s2 _ s' h hsr (by simp only; omega) (fun q => by simp only [List.length_set]; exact hRl)
   refine ⟨t', g1, g2, g3, g4, fun e0 el => g5 e0 ?_⟩
   simp only at el ⊢
   rw [e6, el, hat, e0]; simp
end
def NdW (ws : List WI) (x p : Nat) : Prop := Nd ws.length (pW ws) (kS ws) (wrN ws) x p
theorem aJP {ws : List WI} {R : Nat} (hg : ∀ w ∈ ws, w.Good R ws.length) : LvC ws (NdW ws) := by
 have at_ : ∀ {p : Nat} {w : WI}, ws[p]? = some w → p < ws.length ∧ ws.getD p default = w ∧ w.Good R ws.length := fun {p w} h =>
  ⟨(List.getElem?_eq_some_iff.1 h).1, by rw [List.getD_eq_getElem?_getD, h]; rfl, hg w (List.mem_of_getElem? h)⟩
 have rd : ∀ {p : Nat} {w : WI} {x : Int}, ws[p]? = some w → 0 ≤ x → x ∈ rdF w → NdW ws x.toNat p := fun {p w x} h h0 hx => by
  obtain ⟨h1, h2, h3⟩ := at_ h
  refine .rd h1 (((lE h1 (by rw [h2]; exact h3)).2.2.2.2 _).2 ?_)
  rw [h2, Int.toNat_of_nonneg h0]
  exact hx
 refine ⟨fun p w h f => ?_, fun p w h f => ?_, fun p w h f => ?_, fun p w q x h hq hf hl hn => ?_⟩
 ·exact rd h ((aAM (at_ h).2.2).1 f).1 (by unfold rdF; simp [f])
 ·exact rd h ((aAM (at_ h).2.2).2.1 f).1 (by unfold rdF; simp [f])
 ·exact rd h ((aAM (at_ h).2.2).2.2 f).1 (by unfold rdF; simp [f])
 ·obtain ⟨h1, h2, h3⟩ := at_ h
  refine .up (a := q) h1 (((iN ws p).2.2.2.2 q).2 ⟨hq, ?_⟩) hl ?_
  ·rw [h2]
   have hop := h3.ok2.ok.op
   unfold mW
   rcases hf with ⟨a, b, rfl⟩ | ⟨a, rfl⟩
   ·rw [if_neg b, if_neg a]
    split
    ·simp
    ·simp
   ·have hk := h3.ok2.ok.k (by omega) (by omega)
    rw [if_neg (by omega), Int.toNat_of_nonneg hk.1]
    by_cases e : w.op = 17
    ·rw [if_pos e]; simp
    ·rw [if_neg e, if_pos (by omega)]; simp
  ·unfold wrN
   rw [h2]
   cases hd : (eW w.op).d
   ·rfl
   ·simp only [Bool.true_and]
    refine decide_eq_false fun e => hn ⟨hd, ?_⟩
    rw [e]; rfl
theorem aBI (G : aE) (k : Nat) (b : Bool) : eF.f G (k + 1) [.bool b] [] = some (Un (if b = true then 1 else 0), []) := by
 cases b <;> kernel_rfl
theorem aBc (G : aE) (k : Nat) (op d a b c n : Int) (x : Nat) (hx : x < 18446744073709551616) :
  cT.f G (k + 1) [WI.v ⟨op, d, a, b, c, n⟩, Un x] [] = some (.tup [Un (jG op n x).1, .bool (jG op n x).2], []) := by
 rw [cT.step]
 unfold cT.c WI.v
 by_cases h0 : n < 0
 ·have e : jG op n x = (0, false) := by unfold jG; rw [if_pos (.inl h0)]
  rw [e]
  have c1 : bA Tryd.prog .lss 2 true (I6 n) (.int .i64 0) = some (.bool true) := by rw [iB, decide_eq_true h0]
  repeat first
   | refine oB (by first | (with_reducible exact rfl) | (simp [cC, cS, eO, aB, aG, eQ, bY, AV.cells, bD, bN, cL, eH, cH, fC, gB, aV, dQ, fX, bE, eP, aF, cE, dK, c1]; first | done | (with_reducible exact rfl) | (with_reducible exact ⟨rfl, rfl⟩))) ?_
   | refine lB (by first | (with_reducible exact rfl) | (simp [cC, cS, eO, aB, aG, eQ, bY, AV.cells, bD, bN, cL, eH, cH, fC, gB, aV, dQ, fX, bE, eP, aF, cE, dK, c1]; first | done | (with_reducible exact rfl) | (with_reducible exact ⟨rfl, rfl⟩))) ?_
   | refine oT ?_
   | refine oN ?_
   | refine oX ?_
   | refine mQ ?_
   | refine mR ?_
   | exact oF (cW ..)
   | apply oK
   | refine lT ?_
   | refine lN ?_
   | refine lX ?_
   | refine mO ?_
   | refine mP ?_
   | apply lK
   | refine oI ?_
   | refine oJ rfl ?_
   | refine lI ?_
   | refine lJ rfl ?_
   | (with_reducible exact rfl)
  exact oF (jO rfl rfl _)
 have c1 : bA Tryd.prog .lss 2 true (I6 n) (.int .i64 0) = some (.bool false) := by rw [iB, decide_eq_false h0]
 by_cases h1 : 63 < n
 ·have e : jG op n x = (0, false) := by unfold jG; rw [if_pos (.inr h1)]
  rw [e]
  have c2 : bA Tryd.prog .gtr 2 true (I6 n) (.int .i64 63) = some (.bool true) := by rw [sC, decide_eq_true h1]
  repeat first
   | refine oB (by first | (with_reducible exact rfl) | (simp [cC, cS, eO, aB, aG, eQ, bY, AV.cells, bD, bN, cL, eH, cH, fC, gB, aV, dQ, fX, bE, eP, aF, cE, dK, c1, c2]; first | done | (with_reducible exact rfl) | (with_reducible exact ⟨rfl, rfl⟩))) ?_
   | refine lB (by first | (with_reducible exact rfl) | (simp [cC, cS, eO, aB, aG, eQ, bY, AV.cells, bD, bN, cL, eH, cH, fC, gB, aV, dQ, fX, bE, eP, aF, cE, dK, c1, c2]; first | done | (with_reducible exact rfl) | (with_reducible exact ⟨rfl, rfl⟩))) ?_
   | refine oT ?_
   | refine oN ?_
   | refine oX ?_
   | refine mQ ?_
   | refine mR ?_
   | exact oF (cW ..)
   | apply oK
   | refine lT ?_
   | refine lN ?_
   | refine lX ?_
   | refine mO ?_
   | refine mP ?_
   | apply lK
   | refine oI ?_
   | refine oJ rfl ?_
   | refine lI ?_
   | refine lJ rfl ?_
   | (with_reducible exact rfl)
  exact oF (jO rfl rfl _)
 have c2 : bA Tryd.prog .gtr 2 true (I6 n) (.int .i64 63) = some (.bool false) := by rw [sC, decide_eq_false h1]
 obtain ⟨m, rfl⟩ : ∃ m : Nat, n = (m : Int) := ⟨n.toNat, by omega⟩
 have hm : m ≤ 63 := by omega
 have c3 := aHW Tryd.prog 30 false .i64 x m (by omega)
 have c4 := aEG Tryd.prog 30 false .i64 x m (by omega)
 have c5 := aBN x hx
 have c6 : bA Tryd.prog .shr 2 false (I6 (s64 x)) (.int .i64 (m : Int)) = some (I6 ((s64 x).fdiv (2 ^ m))) := by
  rw [aDY _ _ _ _ _ _ _ (Int.natCast_nonneg m)]
  have e : min ((m : Int)).toNat IntKind.i64.bits = m := by rw [Int.toNat_natCast]; exact Nat.min_eq_left (by have : IntKind.i64.bits = 64 := rfl; omega)
  rw [e]
 have c7 := sJ .i64 ((s64 x).fdiv (2 ^ m))
 have hs : jG op (m : Int) x = if op = 10 then (x * 2 ^ m % 18446744073709551616, true) else if op = 11 then (x / 2 ^ m, true) else (aHR x m, true) := by
  unfold jG; rw [if_neg (by omega), Int.toNat_natCast]
 rw [hs]
 have hq : u64 ((s64 x).fdiv (2 ^ m)) = aHR x m := rfl
 rw [hq] at c7
 generalize aHR x m = q at *
 generalize (s64 x).fdiv (2 ^ m) = q1 at *
 generalize s64 x = q2 at *
 generalize x * 2 ^ m % 18446744073709551616 = q3 at *
 generalize x / 2 ^ m = q4 at *
 generalize hmm : (m : Int) = mm at *
 by_cases e1 : op = 10
 ·subst e1
  have d1 : bA Tryd.prog .eql 3 true (.int .i64 10) (.int .i64 10) = some (.bool true) := rfl
  repeat first
   | refine oB (by first | (with_reducible exact rfl) | (simp [cC, cS, eO, aB, aG, eQ, bY, AV.cells, bD, bN, cL, eH, cH, fC, gB, aV, dQ, fX, bE, eP, aF, cE, dK, d1, c1, c2, c3]; first | done | (with_reducible exact rfl) | (with_reducible exact ⟨rfl, rfl⟩))) ?_
   | refine lB (by first | (with_reducible exact rfl) | (simp [cC, cS, eO, aB, aG, eQ, bY, AV.cells, bD, bN, cL, eH, cH, fC, gB, aV, dQ, fX, bE, eP, aF, cE, dK, d1, c1, c2, c3]; first | done | (with_reducible exact rfl) | (with_reducible exact ⟨rfl, rfl⟩))) ?_
   | refine oT ?_
   | refine oN ?_
   | refine oX ?_
   | refine mQ ?_
   | refine mR ?_
   | exact oF (cW ..)
   | apply oK
   | refine lT ?_
   | refine lN ?_
   | refine lX ?_
   | refine mO ?_
   | refine mP ?_
   | apply lK
   | refine oI ?_
   | refine oJ rfl ?_
   | refine lI ?_
   | refine lJ rfl ?_
   | (with_reducible exact rfl)
  exact oF (jO rfl rfl _)
 have d1 : bA Tryd.prog .eql 3 true (I6 op) (.int .i64 10) = some (.bool false) := by rw [jA, decide_eq_false e1]
 by_cases e2 : op = 11
 ·subst e2
  repeat first
   | refine oB (by first | (with_reducible exact rfl) | (simp [cC, cS, eO, aB, aG, eQ, bY, AV.cells, bD, bN, cL, eH, cH, fC, gB, aV, dQ, fX, bE, eP, aF, cE, dK, d1, c1, c2, c4]; first | done | (with_reducible exact rfl) | (with_reducible exact ⟨rfl, rfl⟩))) ?_
   | refine lB (by first | (with_reducible exact rfl) | (simp [cC, cS, eO, aB, aG, eQ, bY, AV.cells, bD, bN, cL, eH, cH, fC, gB, aV, dQ, fX, bE, eP, aF, cE, dK, d1, c1, c2, c4]; first | done | (with_reducible exact rfl) | (with_reducible exact ⟨rfl, rfl⟩))) ?_
   | refine oT ?_
   | refine oN ?_
   | refine oX ?_
   | refine mQ ?_
   | refine mR ?_
   | exact oF (cW ..)
   | apply oK
   | refine lT ?_
   | refine lN ?_
   | refine lX ?_
   | refine mO ?_
   | refine mP ?_
   | apply lK
   | refine oI ?_
   | refine oJ rfl ?_
   | refine lI ?_
   | refine lJ rfl ?_
   | (with_reducible exact rfl)
  exact oF (jO rfl rfl _)
 have d2 : bA Tryd.prog .eql 3 true (I6 op) (.int .i64 11) = some (.bool false) := by rw [jA, decide_eq_false e2]
 rw [if_neg e1, if_neg e2]
 repeat first
  | refine oB (by first | (with_reducible exact rfl) | (simp [cC, cS, eO, aB, aG, eQ, bY, AV.cells, bD, bN, cL, eH, cH, fC, gB, aV, dQ, fX, bE, eP, aF, cE, dK, d1, d2, c1, c2, c5, c6, c7]; first | done | (with_reducible exact rfl) | (with_reducible exact ⟨rfl, rfl⟩))) ?_
  | refine lB (by first | (with_reducible exact rfl) | (simp [cC, cS, eO, aB, aG, eQ, bY, AV.cells, bD, bN, cL, eH, cH, fC, gB, aV, dQ, fX, bE, eP, aF, cE, dK, d1, d2, c1, c2, c5, c6, c7]; first | done | (with_reducible exact rfl) | (with_reducible exact ⟨rfl, rfl⟩))) ?_
  | refine oT ?_
  | refine oN ?_
  | refine oX ?_
  | refine mQ ?_
  | refine mR ?_
  | exact oF (cW ..)
  | apply oK
  | refine lT ?_
  | refine lN ?_
  | refine lX ?_
  | refine mO ?_
  | refine mP ?_
  | apply lK
  | refine oI ?_
  | refine oJ rfl ?_
  | refine lI ?_
  | refine lJ rfl ?_
  | (with_reducible exact rfl)
 exact oF (jO rfl rfl _)
theorem aDH (G : aE) (k : Nat) (op d a b c n : Int) (x y z : Nat) (hx : x < 18446744073709551616) (hy : y < 18446744073709551616) (hz : z < 18446744073709551616) :
  dH.f G (k + 2) [WI.v ⟨op, d, a, b, c, n⟩, Un x, Un y, Un z] [] = some (.tup [Un (kL op n x y z).1, .bool (kL op n x y z).2], []) := by
 rw [dH.step]
 unfold dH.c
 have e0 : WI.v ⟨op, d, a, b, c, n⟩ = .agg [I6 op, I6 d, I6 a, I6 b, I6 c, I6 n] := rfl
 have fin : ∀ (r : Nat) (t : Bool) (H : aA), cP [Un r, .bool t] ([] : aA).length H = some (.ret, [.tup [Un r, .bool t]], []) := fun r t H => jO rfl rfl H
 have k1 := sJ .i64 n
 have k3 := aBi Tryd.prog 30 false x y
 have k4 := aHX Tryd.prog 30 false x y hy
 have k5 := aBj Tryd.prog 30 false x y
 have k6 : ∀ H, aW (bW.f G (k + 1)) [Un x, Un y] H = _ := fun H => cJ (H := H) (aDq G k x y hx hy) rfl rfl
 have k7 : bA Tryd.prog .and 30 false (Un x) (Un y) = some (Un (x &&& y)) := by rw [aDX, aEF x y hx hy]
 have k8 : bA Tryd.prog .or 30 false (Un x) (Un y) = some (Un (x ||| y)) := by rw [aIK, aJo x y hx hy]
 have k9 : bA Tryd.prog .xor 30 false (Un x) (Un y) = some (Un (x ^^^ y)) := by rw [aHf, aHY x y hx hy]
 have k10 : ∀ H, aW (cT.f G (k + 1)) [.agg [I6 op, I6 d, I6 a, I6 b, I6 c, I6 n], Un x] H = _ := fun H => cJ (H := H) (aBc G k op d a b c n x hx) rfl rfl
 have k13 : bA Tryd.prog .lss 30 false (Un x) (Un y) = some (.bool (decide (x < y))) := by rw [iB]; congr 2; simp only [decide_eq_decide]; omega
 have k13b : ∀ H, aW (eF.f G (k + 1)) [.bool (decide (x < y))] H = some (Un (if decide (x < y) = true then 1 else 0), H) := fun H => cJ (H := H) (aBI G k _) rfl rfl
 have k13c : (if decide (x < y) = true then 1 else 0) = if x < y then 1 else 0 := by simp
 rw [k13c] at k13b
 have k14 : bA Tryd.prog .neq 30 true (Un x) (.int .u64 0) = some (.bool (decide (x ≠ 0))) := by rw [qF]; congr 2; simp only [decide_eq_decide]; omega
 have ev : kL op n x y z = kL op n x y z := rfl
 conv at ev => rhs; unfold kL
 rw [ev, e0]
 clear ev e0
 generalize jG op n x = sh at *
 obtain ⟨sh1, sh2⟩ := sh
 generalize u64 n = z1 at *
 generalize (x + y) % 18446744073709551616 = z3 at *
 generalize (x + 18446744073709551616 - y) % 18446744073709551616 = z4 at *
 generalize x * y % 18446744073709551616 = z5 at *
 generalize x * y / 18446744073709551616 = z6 at *
 generalize x &&& y = z7 at *
 generalize x ||| y = z8 at *
 generalize x ^^^ y = z9 at *
 generalize (if x < y then 1 else 0 : Nat) = z13 at *
 generalize decide (x < y) = b13 at *
 by_cases e1 : op = 1
 ·subst e1
  repeat first
   | refine oB (by first | (with_reducible exact rfl) | (simp [cC, cS, eO, aB, aG, eQ, bY, AV.cells, bD, bN, cL, eH, cH, fC, gB, aV, dQ, fX, bE, eP, aF, cE, dK, k1, k3, k4, k5, k6, k7, k8, k9, k10, k13, k13b, k14]; first | done | (with_reducible exact rfl) | (with_reducible exact ⟨rfl, rfl⟩))) ?_
   | refine lB (by first | (with_reducible exact rfl) | (simp [cC, cS, eO, aB, aG, eQ, bY, AV.cells, bD, bN, cL, eH, cH, fC, gB, aV, dQ, fX, bE, eP, aF, cE, dK, k1, k3, k4, k5, k6, k7, k8, k9, k10, k13, k13b, k14]; first | done | (with_reducible exact rfl) | (with_reducible exact ⟨rfl, rfl⟩))) ?_
   | refine oT ?_
   | refine oN ?_
   | refine oX ?_
   | refine mQ ?_
   | refine mR ?_
   | exact oF (cW ..)
   | apply oK
   | refine lT ?_
   | refine lN ?_
   | refine lX ?_
   | refine mO ?_
   | refine mP ?_
   | apply lK
   | refine oI ?_
   | refine oJ rfl ?_
   | refine lI ?_
   | refine lJ rfl ?_
   | (with_reducible exact rfl)
  exact oF (fin ..)
 by_cases e2 : op = 2
 ·subst e2
  repeat first
   | refine oB (by first | (with_reducible exact rfl) | (simp [cC, cS, eO, aB, aG, eQ, bY, AV.cells, bD, bN, cL, eH, cH, fC, gB, aV, dQ, fX, bE, eP, aF, cE, dK, k1, k3, k4, k5, k6, k7, k8, k9, k10, k13, k13b, k14]; first | done | (with_reducible exact rfl) | (with_reducible exact ⟨rfl, rfl⟩))) ?_
   | refine lB (by first | (with_reducible exact rfl) | (simp [cC, cS, eO, aB, aG, eQ, bY, AV.cells, bD, bN, cL, eH, cH, fC, gB, aV, dQ, fX, bE, eP, aF, cE, dK, k1, k3, k4, k5, k6, k7, k8, k9, k10, k13, k13b, k14]; first | done | (with_reducible exact rfl) | (with_reducible exact ⟨rfl, rfl⟩))) ?_
   | refine oT ?_
   | refine oN ?_
   | refine oX ?_
   | refine mQ ?_
   | refine mR ?_
   | exact oF (cW ..)
   | apply oK
   | refine lT ?_
   | refine lN ?_
   | refine lX ?_
   | refine mO ?_
   | refine mP ?_
   | apply lK
   | refine oI ?_
   | refine oJ rfl ?_
   | refine lI ?_
   | refine lJ rfl ?_
   | (with_reducible exact rfl)
  exact oF (fin ..)
 by_cases e3 : op = 3
 ·subst e3
  repeat first
   | refine oB (by first | (with_reducible exact rfl) | (simp [cC, cS, eO, aB, aG, eQ, bY, AV.cells, bD, bN, cL, eH, cH, fC, gB, aV, dQ, fX, bE, eP, aF, cE, dK, k1, k3, k4, k5, k6, k7, k8, k9, k10, k13, k13b, k14]; first | done | (with_reducible exact rfl) | (with_reducible exact ⟨rfl, rfl⟩))) ?_
   | refine lB (by first | (with_reducible exact rfl) | (simp [cC, cS, eO, aB, aG, eQ, bY, AV.cells, bD, bN, cL, eH, cH, fC, gB, aV, dQ, fX, bE, eP, aF, cE, dK, k1, k3, k4, k5, k6, k7, k8, k9, k10, k13, k13b, k14]; first | done | (with_reducible exact rfl) | (with_reducible exact ⟨rfl, rfl⟩))) ?_
   | refine oT ?_
   | refine oN ?_
   | refine oX ?_
   | refine mQ ?_
   | refine mR ?_
   | exact oF (cW ..)
   | apply oK
   | refine lT ?_
   | refine lN ?_
   | refine lX ?_
   | refine mO ?_
   | refine mP ?_
   | apply lK
   | refine oI ?_
   | refine oJ rfl ?_
   | refine lI ?_
   | refine lJ rfl ?_
   | (with_reducible exact rfl)
  exact oF (fin ..)
 by_cases e4 : op = 4
 ·subst e4
  repeat first
   | refine oB (by first | (with_reducible exact rfl) | (simp [cC, cS, eO, aB, aG, eQ, bY, AV.cells, bD, bN, cL, eH, cH, fC, gB, aV, dQ, fX, bE, eP, aF, cE, dK, k1, k3, k4, k5, k6, k7, k8, k9, k10, k13, k13b, k14]; first | done | (with_reducible exact rfl) | (with_reducible exact ⟨rfl, rfl⟩))) ?_
   | refine lB (by first | (with_reducible exact rfl) | (simp [cC, cS, eO, aB, aG, eQ, bY, AV.cells, bD, bN, cL, eH, cH, fC, gB, aV, dQ, fX, bE, eP, aF, cE, dK, k1, k3, k4, k5, k6, k7, k8, k9, k10, k13, k13b, k14]; first | done | (with_reducible exact rfl) | (with_reducible exact ⟨rfl, rfl⟩))) ?_
   | refine oT ?_
   | refine oN ?_
   | refine oX ?_
   | refine mQ ?_
   | refine mR ?_
   | exact oF (cW ..)
   | apply oK
   | refine lT ?_
   | refine lN ?_
   | refine lX ?_
   | refine mO ?_
   | refine mP ?_
   | apply lK
   | refine oI ?_
   | refine oJ rfl ?_
   | refine lI ?_
   | refine lJ rfl ?_
   | (with_reducible exact rfl)
  exact oF (fin ..)
 by_cases e5 : op = 5
 ·subst e5
  repeat first
   | refine oB (by first | (with_reducible exact rfl) | (simp [cC, cS, eO, aB, aG, eQ, bY, AV.cells, bD, bN, cL, eH, cH, fC, gB, aV, dQ, fX, bE, eP, aF, cE, dK, k1, k3, k4, k5, k6, k7, k8, k9, k10, k13, k13b, k14]; first | done | (with_reducible exact rfl) | (with_reducible exact ⟨rfl, rfl⟩))) ?_
   | refine lB (by first | (with_reducible exact rfl) | (simp [cC, cS, eO, aB, aG, eQ, bY, AV.cells, bD, bN, cL, eH, cH, fC, gB, aV, dQ, fX, bE, eP, aF, cE, dK, k1, k3, k4, k5, k6, k7, k8, k9, k10, k13, k13b, k14]; first | done | (with_reducible exact rfl) | (with_reducible exact ⟨rfl, rfl⟩))) ?_
   | refine oT ?_
   | refine oN ?_
   | refine oX ?_
   | refine mQ ?_
   | refine mR ?_
   | exact oF (cW ..)
   | apply oK
   | refine lT ?_
   | refine lN ?_
   | refine lX ?_
   | refine mO ?_
   | refine mP ?_
   | apply lK
   | refine oI ?_
   | refine oJ rfl ?_
   | refine lI ?_
   | refine lJ rfl ?_
   | (with_reducible exact rfl)
  exact oF (fin ..)
 by_cases e6 : op = 6
 ·subst e6
  repeat first
   | refine oB (by first | (with_reducible exact rfl) | (simp [cC, cS, eO, aB, aG, eQ, bY, AV.cells, bD, bN, cL, eH, cH, fC, gB, aV, dQ, fX, bE, eP, aF, cE, dK, k1, k3, k4, k5, k6, k7, k8, k9, k10, k13, k13b, k14]; first | done | (with_reducible exact rfl) | (with_reducible exact ⟨rfl, rfl⟩))) ?_
   | refine lB (by first | (with_reducible exact rfl) | (simp [cC, cS, eO, aB, aG, eQ, bY, AV.cells, bD, bN, cL, eH, cH, fC, gB, aV, dQ, fX, bE, eP, aF, cE, dK, k1, k3, k4, k5, k6, k7, k8, k9, k10, k13, k13b, k14]; first | done | (with_reducible exact rfl) | (with_reducible exact ⟨rfl, rfl⟩))) ?_
   | refine oT ?_
   | refine oN ?_
   | refine oX ?_
   | refine mQ ?_
   | refine mR ?_
   | exact oF (cW ..)
   | apply oK
   | refine lT ?_
   | refine lN ?_
   | refine lX ?_
   | refine mO ?_
   | refine mP ?_
   | apply lK
   | refine oI ?_
   | refine oJ rfl ?_
   | refine lI ?_
   | refine lJ rfl ?_
   | (with_reducible exact rfl)
  exact oF (fin ..)
 by_cases e7 : op = 7
 ·subst e7
  repeat first
   | refine oB (by first | (with_reducible exact rfl) | (simp [cC, cS, eO, aB, aG, eQ, bY, AV.cells, bD, bN, cL, eH, cH, fC, gB, aV, dQ, fX, bE, eP, aF, cE, dK, k1, k3, k4, k5, k6, k7, k8, k9, k10, k13, k13b, k14]; first | done | (with_reducible exact rfl) | (with_reducible exact ⟨rfl, rfl⟩))) ?_
   | refine lB (by first | (with_reducible exact rfl) | (simp [cC, cS, eO, aB, aG, eQ, bY, AV.cells, bD, bN, cL, eH, cH, fC, gB, aV, dQ, fX, bE, eP, aF, cE, dK, k1, k3, k4, k5, k6, k7, k8, k9, k10, k13, k13b, k14]; first | done | (with_reducible exact rfl) | (with_reducible exact ⟨rfl, rfl⟩))) ?_
   | refine oT ?_
   | refine oN ?_
   | refine oX ?_
   | refine mQ ?_
   | refine mR ?_
   | exact oF (cW ..)
   | apply oK
   | refine lT ?_
   | refine lN ?_
   | refine lX ?_
   | refine mO ?_
   | refine mP ?_
   | apply lK
   | refine oI ?_
   | refine oJ rfl ?_
   | refine lI ?_
   | refine lJ rfl ?_
   | (with_reducible exact rfl)
  exact oF (fin ..)
 by_cases e8 : op = 8
 ·subst e8
  repeat first
   | refine oB (by first | (with_reducible exact rfl) | (simp [cC, cS, eO, aB, aG, eQ, bY, AV.cells, bD, bN, cL, eH, cH, fC, gB, aV, dQ, fX, bE, eP, aF, cE, dK, k1, k3, k4, k5, k6, k7, k8, k9, k10, k13, k13b, k14]; first | done | (with_reducible exact rfl) | (with_reducible exact ⟨rfl, rfl⟩))) ?_
   | refine lB (by first | (with_reducible exact rfl) | (simp [cC, cS, eO, aB, aG, eQ, bY, AV.cells, bD, bN, cL, eH, cH, fC, gB, aV, dQ, fX, bE, eP, aF, cE, dK, k1, k3, k4, k5, k6, k7, k8, k9, k10, k13, k13b, k14]; first | done | (with_reducible exact rfl) | (with_reducible exact ⟨rfl, rfl⟩))) ?_
   | refine oT ?_
   | refine oN ?_
   | refine oX ?_
   | refine mQ ?_
   | refine mR ?_
   | exact oF (cW ..)
   | apply oK
   | refine lT ?_
   | refine lN ?_
   | refine lX ?_
   | refine mO ?_
   | refine mP ?_
   | apply lK
   | refine oI ?_
   | refine oJ rfl ?_
   | refine lI ?_
   | refine lJ rfl ?_
   | (with_reducible exact rfl)
  exact oF (fin ..)
 by_cases e9 : op = 9
 ·subst e9
  repeat first
   | refine oB (by first | (with_reducible exact rfl) | (simp [cC, cS, eO, aB, aG, eQ, bY, AV.cells, bD, bN, cL, eH, cH, fC, gB, aV, dQ, fX, bE, eP, aF, cE, dK, k1, k3, k4, k5, k6, k7, k8, k9, k10, k13, k13b, k14]; first | done | (with_reducible exact rfl) | (with_reducible exact ⟨rfl, rfl⟩))) ?_
   | refine lB (by first | (with_reducible exact rfl) | (simp [cC, cS, eO, aB, aG, eQ, bY, AV.cells, bD, bN, cL, eH, cH, fC, gB, aV, dQ, fX, bE, eP, aF, cE, dK, k1, k3, k4, k5, k6, k7, k8, k9, k10, k13, k13b, k14]; first | done | (with_reducible exact rfl) | (with_reducible exact ⟨rfl, rfl⟩))) ?_
   | refine oT ?_
   | refine oN ?_
   | refine oX ?_
   | refine mQ ?_
   | refine mR ?_
   | exact oF (cW ..)
   | apply oK
   | refine lT ?_
   | refine lN ?_
   | refine lX ?_
   | refine mO ?_
   | refine mP ?_
   | apply lK
   | refine oI ?_
   | refine oJ rfl ?_
   | refine lI ?_
   | refine lJ rfl ?_
   | (with_reducible exact rfl)
  exact oF (fin ..)
 by_cases e10 : op = 10
 ·subst e10
  repeat first
   | refine oB (by first | (with_reducible exact rfl) | (simp [cC, cS, eO, aB, aG, eQ, bY, AV.cells, bD, bN, cL, eH, cH, fC, gB, aV, dQ, fX, bE, eP, aF, cE, dK, k1, k3, k4, k5, k6, k7, k8, k9, k10, k13, k13b, k14]; first | done | (with_reducible exact rfl) | (with_reducible exact ⟨rfl, rfl⟩))) ?_
   | refine lB (by first | (with_reducible exact rfl) | (simp [cC, cS, eO, aB, aG, eQ, bY, AV.cells, bD, bN, cL, eH, cH, fC, gB, aV, dQ, fX, bE, eP, aF, cE, dK, k1, k3, k4, k5, k6, k7, k8, k9, k10, k13, k13b, k14]; first | done | (with_reducible exact rfl) | (with_reducible exact ⟨rfl, rfl⟩))) ?_
   | refine oT ?_
   | refine oN ?_
   | refine oX ?_
   | refine mQ ?_
   | refine mR ?_
   | exact oF (cW ..)
   | apply oK
   | refine lT ?_
   | refine lN ?_
   | refine lX ?_
   | refine mO ?_
   | refine mP ?_
   | apply lK
   | refine oI ?_
   | refine oJ rfl ?_
   | refine lI ?_
   | refine lJ rfl ?_
   | (with_reducible exact rfl)
  exact oF (fin ..)
 by_cases e11 : op = 11
 ·subst e11
  repeat first
   | refine oB (by first | (with_reducible exact rfl) | (simp [cC, cS, eO, aB, aG, eQ, bY, AV.cells, bD, bN, cL, eH, cH, fC, gB, aV, dQ, fX, bE, eP, aF, cE, dK, k1, k3, k4, k5, k6, k7, k8, k9, k10, k13, k13b, k14]; first | done | (with_reducible exact rfl) | (with_reducible exact ⟨rfl, rfl⟩))) ?_
   | refine lB (by first | (with_reducible exact rfl) | (simp [cC, cS, eO, aB, aG, eQ, bY, AV.cells, bD, bN, cL, eH, cH, fC, gB, aV, dQ, fX, bE, eP, aF, cE, dK, k1, k3, k4, k5, k6, k7, k8, k9, k10, k13, k13b, k14]; first | done | (with_reducible exact rfl) | (with_reducible exact ⟨rfl, rfl⟩))) ?_
   | refine oT ?_
   | refine oN ?_
   | refine oX ?_
   | refine mQ ?_
   | refine mR ?_
   | exact oF (cW ..)
   | apply oK
   | refine lT ?_
   | refine lN ?_
   | refine lX ?_
   | refine mO ?_
   | refine mP ?_
   | apply lK
   | refine oI ?_
   | refine oJ rfl ?_
   | refine lI ?_
   | refine lJ rfl ?_
   | (with_reducible exact rfl)
  exact oF (fin ..)
 by_cases e12 : op = 12
 ·subst e12
  repeat first
   | refine oB (by first | (with_reducible exact rfl) | (simp [cC, cS, eO, aB, aG, eQ, bY, AV.cells, bD, bN, cL, eH, cH, fC, gB, aV, dQ, fX, bE, eP, aF, cE, dK, k1, k3, k4, k5, k6, k7, k8, k9, k10, k13, k13b, k14]; first | done | (with_reducible exact rfl) | (with_reducible exact ⟨rfl, rfl⟩))) ?_
   | refine lB (by first | (with_reducible exact rfl) | (simp [cC, cS, eO, aB, aG, eQ, bY, AV.cells, bD, bN, cL, eH, cH, fC, gB, aV, dQ, fX, bE, eP, aF, cE, dK, k1, k3, k4, k5, k6, k7, k8, k9, k10, k13, k13b, k14]; first | done | (with_reducible exact rfl) | (with_reducible exact ⟨rfl, rfl⟩))) ?_
   | refine oT ?_
   | refine oN ?_
   | refine oX ?_
   | refine mQ ?_
   | refine mR ?_
   | exact oF (cW ..)
   | apply oK
   | refine lT ?_
   | refine lN ?_
   | refine lX ?_
   | refine mO ?_
   | refine mP ?_
   | apply lK
   | refine oI ?_
   | refine oJ rfl ?_
   | refine lI ?_
   | refine lJ rfl ?_
   | (with_reducible exact rfl)
  exact oF (fin ..)
 by_cases e13 : op = 13
 ·subst e13
  repeat first
   | refine oB (by first | (with_reducible exact rfl) | (simp [cC, cS, eO, aB, aG, eQ, bY, AV.cells, bD, bN, cL, eH, cH, fC, gB, aV, dQ, fX, bE, eP, aF, cE, dK, k1, k3, k4, k5, k6, k7, k8, k9, k10, k13, k13b, k14]; first | done | (with_reducible exact rfl) | (with_reducible exact ⟨rfl, rfl⟩))) ?_
   | refine lB (by first | (with_reducible exact rfl) | (simp [cC, cS, eO, aB, aG, eQ, bY, AV.cells, bD, bN, cL, eH, cH, fC, gB, aV, dQ, fX, bE, eP, aF, cE, dK, k1, k3, k4, k5, k6, k7, k8, k9, k10, k13, k13b, k14]; first | done | (with_reducible exact rfl) | (with_reducible exact ⟨rfl, rfl⟩))) ?_
   | refine oT ?_
   | refine oN ?_
   | refine oX ?_
   | refine mQ ?_
   | refine mR ?_
   | exact oF (cW ..)
   | apply oK
   | refine lT ?_
   | refine lN ?_
   | refine lX ?_
   | refine mO ?_
   | refine mP ?_
   | apply lK
   | refine oI ?_
   | refine oJ rfl ?_
   | refine lI ?_
   | refine lJ rfl ?_
   | (with_reducible exact rfl)
  exact oF (fin ..)
 by_cases e14 : op = 14
 ·subst e14
  by_cases hx0 : x = 0
  ·have k14' : bA Tryd.prog .neq 30 true (Un x) (.int .u64 0) = some (.bool false) := by rw [k14]; simp [hx0]
   rw [show (if x ≠ 0 then y else z) = z by rw [if_neg (by simp [hx0])]]
   repeat first
    | refine oB (by first | (with_reducible exact rfl) | (simp [cC, cS, eO, aB, aG, eQ, bY, AV.cells, bD, bN, cL, eH, cH, fC, gB, aV, dQ, fX, bE, eP, aF, cE, dK, k1, k3, k4, k5, k6, k7, k8, k9, k10, k13, k13b, k14']; first | done | (with_reducible exact rfl) | (with_reducible exact ⟨rfl, rfl⟩))) ?_
    | refine lB (by first | (with_reducible exact rfl) | (simp [cC, cS, eO, aB, aG, eQ, bY, AV.cells, bD, bN, cL, eH, cH, fC, gB, aV, dQ, fX, bE, eP, aF, cE, dK, k1, k3, k4, k5, k6, k7, k8, k9, k10, k13, k13b, k14']; first | done | (with_reducible exact rfl) | (with_reducible exact ⟨rfl, rfl⟩))) ?_
    | refine oT ?_
    | refine oN ?_
    | refine oX ?_
    | refine mQ ?_
    | refine mR ?_
    | exact oF (cW ..)
    | apply oK
    | refine lT ?_
    | refine lN ?_
    | refine lX ?_
    | refine mO ?_
    | refine mP ?_
    | apply lK
    | refine oI ?_
    | refine oJ rfl ?_
    | refine lI ?_
    | refine lJ rfl ?_
    | (with_reducible exact rfl)
   exact oF (fin ..)
  ·have k14' : bA Tryd.prog .neq 30 true (Un x) (.int .u64 0) = some (.bool true) := by rw [k14]; simp [hx0]
   rw [show (if x ≠ 0 then y else z) = y by rw [if_pos hx0]]
   repeat first
    | refine oB (by first | (with_reducible exact rfl) | (simp [cC, cS, eO, aB, aG, eQ, bY, AV.cells, bD, bN, cL, eH, cH, fC, gB, aV, dQ, fX, bE, eP, aF, cE, dK, k1, k3, k4, k5, k6, k7, k8, k9, k10, k13, k13b, k14']; first | done | (with_reducible exact rfl) | (with_reducible exact ⟨rfl, rfl⟩))) ?_
    | refine lB (by first | (with_reducible exact rfl) | (simp [cC, cS, eO, aB, aG, eQ, bY, AV.cells, bD, bN, cL, eH, cH, fC, gB, aV, dQ, fX, bE, eP, aF, cE, dK, k1, k3, k4, k5, k6, k7, k8, k9, k10, k13, k13b, k14']; first | done | (with_reducible exact rfl) | (with_reducible exact ⟨rfl, rfl⟩))) ?_
    | refine oT ?_
    | refine oN ?_
    | refine oX ?_
    | refine mQ ?_
    | refine mR ?_
    | exact oF (cW ..)
    | apply oK
    | refine lT ?_
    | refine lN ?_
    | refine lX ?_
    | refine mO ?_
    | refine mP ?_
    | apply lK
    | refine oI ?_
    | refine oJ rfl ?_
    | refine lI ?_
    | refine lJ rfl ?_
    | (with_reducible exact rfl)
   exact oF (fin ..)
 repeat first
  | refine oB (by first | (with_reducible exact rfl) | (simp [cC, cS, eO, aB, aG, eQ, bY, AV.cells, bD, bN, cL, eH, cH, fC, gB, aV, dQ, fX, bE, eP, aF, cE, dK, e1, e2, e3, e4, e5, e6, e7, e8, e9, e10, e11, e12, e13, e14]; first | done | (with_reducible exact rfl) | (with_reducible exact ⟨rfl, rfl⟩))) ?_
  | refine lB (by first | (with_reducible exact rfl) | (simp [cC, cS, eO, aB, aG, eQ, bY, AV.cells, bD, bN, cL, eH, cH, fC, gB, aV, dQ, fX, bE, eP, aF, cE, dK, e1, e2, e3, e4, e5, e6, e7, e8, e9, e10, e11, e12, e13, e14]; first | done | (with_reducible exact rfl) | (with_reducible exact ⟨rfl, rfl⟩))) ?_
  | refine oT ?_
  | refine oN ?_
  | refine oX ?_
  | refine mQ ?_
  | refine mR ?_
  | exact oF (cW ..)
  | apply oK
  | refine lT ?_
  | refine lN ?_
  | refine lX ?_
  | refine mO ?_
  | refine mP ?_
  | apply lK
  | refine oI ?_
  | refine oJ rfl ?_
  | refine lI ?_
  | refine lJ rfl ?_
  | (with_reducible exact rfl)
 simp only [e1, e2, e3, e4, e5, e6, e7, e8, e9, e10, e11, e12, e13, e14, if_false, or_self]
 exact oF (fin ..)
instance : Inhabited WI := ⟨⟨0, 0, 0, 0, 0, 0⟩⟩
def jQ (p0 : ABlk) (bor : Bool) (cs : List WI) (R M : Int) (s : MS) : aA :=
 [p0, ⟨73, 4, [.agg [.int .i64 0, .nils, .nils, .int .i64 0]]⟩, ⟨30, 1, dF s.regs⟩,
  ⟨147, 9, [.agg [.ro bor (cF cs), I6 R, I6 M, .sl 2 s.regs.length 0 s.regs.length 1, Nn s.at_, I6 s.code, .sl 5 s.mem.length 0 s.mem.length 1, .sl 6 s.leaks.length 0 s.leaks.length 2, Nn s.steps]]⟩,
  ⟨30, 1, []⟩, ⟨30, 1, dF s.mem⟩, ⟨91, 2, eY s.leaks⟩]
section
variable (G : aE) (p0 : ABlk) (bor : Bool) (cs : List WI) (R M : Int) (s : MS)
abbrev PX : AV := .ptr 3 1 0 0
theorem sY : (jQ p0 bor cs R M s).length = 7 := rfl
theorem eZ : gW PX = some PX := rfl
theorem fa3 : aB 3 PX = some (.ptr 3 1 0 3) := rfl
theorem rZ : aB 4 PX = some (.ptr 3 1 0 4) := rfl
theorem fa5 : aB 5 PX = some (.ptr 3 1 0 5) := rfl
theorem qU : aB 0 (.ptr 3 1 0 5) = some (.ptr 3 1 0 5) := rfl
theorem aES : aB 1 (.ptr 3 1 0 5) = some (.ptr 3 1 0 6) := rfl
theorem aJI : aB 2 (.ptr 3 1 0 5) = some (.ptr 3 1 0 7) := rfl
theorem aET : aB 3 (.ptr 3 1 0 5) = some (.ptr 3 1 0 8) := rfl
theorem ld3 : aG G false 1 (.ptr 3 1 0 3) (jQ p0 bor cs R M s) = some (.sl 2 s.regs.length 0 s.regs.length 1) := rfl
theorem ld4 : aG G false 1 (.ptr 3 1 0 4) (jQ p0 bor cs R M s) = some (Nn s.at_) := rfl
theorem ld6 : aG G false 1 (.ptr 3 1 0 6) (jQ p0 bor cs R M s) = some (.sl 5 s.mem.length 0 s.mem.length 1) := rfl
theorem ld7 : aG G false 1 (.ptr 3 1 0 7) (jQ p0 bor cs R M s) = some (.sl 6 s.leaks.length 0 s.leaks.length 2) := rfl
theorem ld8 : aG G false 1 (.ptr 3 1 0 8) (jQ p0 bor cs R M s) = some (Nn s.steps) := rfl
theorem st4 (n : Nat) : gB (aV 1 (.ptr 3 1 0 4) (Nn n) (jQ p0 bor cs R M s)) = some (.tup [], jQ p0 bor cs R M { s with at_ := n }) := rfl
theorem st5 (n : Int) : gB (aV 1 (.ptr 3 1 0 5) (I6 n) (jQ p0 bor cs R M s)) = some (.tup [], jQ p0 bor cs R M { s with code := n }) := rfl
theorem st8 (n : Nat) : gB (aV 1 (.ptr 3 1 0 8) (Nn n) (jQ p0 bor cs R M s)) = some (.tup [], jQ p0 bor cs R M { s with steps := n }) := rfl
theorem aCc (j : Int) (h0 : 0 ≤ j) : aF 1 (.sl 2 s.regs.length 0 s.regs.length 1) (I6 j) = if j < s.regs.length then some (.ptr 2 s.regs.length j.toNat 0) else none := by
 by_cases h : j < s.regs.length
 ·rw [if_pos h]
  have h2 : j.toNat < s.regs.length := by omega
  simp [aF, h0, h]
 ·rw [if_neg h]
  simp [aF, h0, h]
theorem aJO (n : Nat) : aF 1 (.sl 5 s.mem.length 0 s.mem.length 1) (Un n) = if n < s.mem.length then some (.ptr 5 s.mem.length n 0) else none := by
 have h0 : (0 : Int) ≤ (n : Int) := by omega
 by_cases h : n < s.mem.length
 ·have h' : (n : Int) < (s.mem.length : Int) := by omega
  rw [if_pos h]
  simp [aF, h0, h']
 ·have h' : ¬ (n : Int) < (s.mem.length : Int) := by omega
  rw [if_neg h]
  simp [aF, h0, h']
theorem ldR (j : Nat) (h : j < s.regs.length) : aG G false 1 (.ptr 2 s.regs.length j 0) (jQ p0 bor cs R M s) = some (Un (s.regs.getD j 0)) := by
 have e : (jQ p0 bor cs R M s)[2]? = some ⟨30, 1, dF s.regs⟩ := rfl
 unfold aG
 simp only [e, hX, nI _ _ h, if_true]
 rfl
theorem ldM (j : Nat) (h : j < s.mem.length) : aG G false 1 (.ptr 5 s.mem.length j 0) (jQ p0 bor cs R M s) = some (Un (s.mem.getD j 0)) := by
 have e : (jQ p0 bor cs R M s)[5]? = some ⟨30, 1, dF s.mem⟩ := rfl
 unfold aG
 simp only [e, hX, nI _ _ h, if_true]
 rfl
theorem stR (j x : Nat) (h : j < s.regs.length) : gB (aV 1 (.ptr 2 s.regs.length j 0) (Un x) (jQ p0 bor cs R M s)) = some (.tup [], jQ p0 bor cs R M { s with regs := s.regs.set j x }) := by
 have e : (jQ p0 bor cs R M s)[2]? = some ⟨30, 1, dF s.regs⟩ := rfl
 unfold aV
 simp only [e, hX, nI _ _ h]
 unfold jQ
 simp only [List.length_set, aAh]
 rfl
theorem stM (j x : Nat) (h : j < s.mem.length) : gB (aV 1 (.ptr 5 s.mem.length j 0) (Un x) (jQ p0 bor cs R M s)) = some (.tup [], jQ p0 bor cs R M { s with mem := s.mem.set j x }) := by
 have e : (jQ p0 bor cs R M s)[5]? = some ⟨30, 1, dF s.mem⟩ := rfl
 unfold aV
 simp only [e, hX, nI _ _ h]
 unfold jQ
 simp only [List.length_set, aAh]
 rfl
theorem apL (p : Int × Int) (hl : s.leaks.length ≤ 1000000) : eM 91 2 (.sl 6 s.leaks.length 0 s.leaks.length 2) (.ro false [lF p]) (jQ p0 bor cs R M s) =
  some (.sl 6 (s.leaks.length + 1) 0 (s.leaks.length + 1) 2, (jQ p0 bor cs R M s).set 6 ⟨91, 2, eY (s.leaks ++ [p])⟩) := by
 have e : (jQ p0 bor cs R M s)[6]? = some ⟨91, 2, eY s.leaks⟩ := rfl
 unfold eM
 simp only [e, fI, iJ, List.length_singleton]
 rw [if_pos (by refine ⟨?_, ?_, ?_, ?_, ?_⟩ <;> first | trivial | rfl | omega)]
 have e2 : (eY s.leaks).take s.leaks.length = eY s.leaks := List.take_of_length_le (by rw [iJ]; exact Nat.le_refl _)
 have e3 : (eY s.leaks).drop (s.leaks.length + 1) = [] := List.drop_of_length_le (by rw [iJ]; omega)
 rw [e2, e3, List.append_nil]
 have e4 : eY s.leaks ++ [lF p] = eY (s.leaks ++ [p]) := by simp [eY]
 rw [e4, iJ]; simp
theorem stL (p : Int × Int) : gB (aV 1 (.ptr 3 1 0 7) (.sl 6 (s.leaks.length + 1) 0 (s.leaks.length + 1) 2) ((jQ p0 bor cs R M s).set 6 ⟨91, 2, eY (s.leaks ++ [p])⟩)) =
  some (.tup [], jQ p0 bor cs R M (s.leak p.1 p.2)) := by
 have e : (s.leak p.1 p.2).leaks.length = s.leaks.length + 1 := by simp [MS.leak]
 unfold jQ
 rw [e]
 rfl
theorem aDr (hp : aY 7 p0.elems = true) : bI 7 (jQ p0 bor cs R M s) = true := by
 simp [jQ, bI, aY, aT, hp, iK, jR, fK]
theorem xO (hp : aY 7 p0.elems = true) (xs : List AV) (hx : aY 7 xs = true) : fD 7 xs (jQ p0 bor cs R M s) = some (jQ p0 bor cs R M s) := by
 have e : (jQ p0 bor cs R M s).take 7 = jQ p0 bor cs R M s := rfl
 unfold fD
 rw [e, hx, aDr p0 bor cs R M s hp]; rfl
theorem sN (hp : aY 7 p0.elems = true) : cP [] 7 (jQ p0 bor cs R M s) = some (.ret, [.tup []], jQ p0 bor cs R M s) := by
 unfold cP
 rw [xO p0 bor cs R M s hp [] rfl]; rfl
theorem iI (hp : aY 7 p0.elems = true) (b : Bool) : cP [.bool b] 7 (jQ p0 bor cs R M s) = some (.ret, [.bool b], jQ p0 bor cs R M s) := by
 unfold cP
 rw [xO p0 bor cs R M s hp [] rfl]; rfl
theorem pM {g : cQ} {args : List AV} {r : AV} {s' : MS} (h : g args (jQ p0 bor cs R M s) = some (r, jQ p0 bor cs R M s')) : cZ g args (jQ p0 bor cs R M s) = some (r, jQ p0 bor cs R M s') := by
 unfold cZ; rw [h]; rfl
theorem qN (k : Nat) (hp : aY 7 p0.elems = true) (kind at_ : Int) (hl : s.leaks.length ≤ 1000000) :
  bM.f G (k + 1) [PX, I6 kind, I6 at_] (jQ p0 bor cs R M s) = some (.tup [], jQ p0 bor cs R M (s.leak kind at_)) := by
 rw [bM.step]
 unfold bM.c
 have c4 : cH [(0, 1), (1, 1)] [(.int .i64 0), (.int .i64 0)] [(0, I6 kind), (1, I6 at_)] = some (lF (kind, at_)) := rfl
 have c5 : ∀ H, bN 2 1 (.agg [(.int .i64 0), (.int .i64 0)]) [(0, lF (kind, at_))] H = some (.ro false [lF (kind, at_)], H) := fun H => rfl
 have c6 := apL p0 bor cs R M s (kind, at_) hl
 have c7 := stL p0 bor cs R M s (kind, at_)
 simp only [sY]
 repeat first
  | refine oB (by first | (simp only [cC, bV, bU, fR, fN, fQ, fO, fP, bX, bH, eA, eZ, fa5, aJI, ld7, c4, c5, c6, c7]; first | done | (with_reducible exact rfl) | (with_reducible exact ⟨rfl, rfl⟩)) | (with_reducible exact rfl)) ?_
  | refine lB (by first | (simp only [cC, bV, bU, fR, fN, fQ, fO, fP, bX, bH, eA, eZ, fa5, aJI, ld7, c4, c5, c6, c7]; first | done | (with_reducible exact rfl) | (with_reducible exact ⟨rfl, rfl⟩)) | (with_reducible exact rfl)) ?_
  | refine oT ?_
  | refine oN ?_
  | refine oX ?_
  | refine mQ ?_
  | refine mR ?_
  | exact oF (cW ..)
  | apply oK
  | refine lT ?_
  | refine lN ?_
  | refine lX ?_
  | refine mO ?_
  | refine mP ?_
  | apply lK
  | refine oI ?_
  | refine oJ rfl ?_
  | refine lI ?_
  | refine lJ rfl ?_
  | (with_reducible exact rfl)
 exact oF (sN p0 bor cs R M _ hp)
end
section
variable (G : aE) (p0 : ABlk) (hp : aY 7 p0.elems = true) (bor : Bool) (cs : List WI) (R : Nat) (M : Int) (s : MS) (i : WI) (hs : s.Ok R) (hl : s.leaks.length ≤ 999990)
include hp hs hl in
theorem aDE (k : Nat) (ha : 0 ≤ i.a ∧ i.a < R) (hd : 0 ≤ i.d ∧ i.d < R) (hb : 0 ≤ i.b ∧ i.b < R) (ho : i.op = 15 ∨ i.op = 16) :
  cD.f G (k + 2) [PX, i.v] (jQ p0 bor cs R M s) = some (.bool (s.touch i).2, jQ p0 bor cs R M (s.touch i).1) := by
 have hR := hs.len
 rw [cD.step]
 unfold cD.c
 simp only [sY]
 have d6 := aCc s i.a ha.1
 rw [if_pos (by omega)] at d6
 have d7 := ldR G p0 bor cs R M s i.a.toNat (by omega)
 have d10 : fH .u64 (I6 i.k) = some (Un (u64 i.k)) := sJ ..
 have d11 := aBi Tryd.prog 30 false (s.regs.getD i.a.toNat 0) (u64 i.k)
 obtain ⟨ad, had⟩ : ∃ z, z = (s.regs.getD i.a.toNat 0 + u64 i.k) % 18446744073709551616 := ⟨_, rfl⟩
 have hadl : ad < 18446744073709551616 := by rw [had]; exact Nat.mod_lt _ (by decide)
 rw [← had] at d11
 have d12 := aBN ad hadl
 have d13 := pM p0 bor cs R M s (qN G p0 bor cs R M s k hp 3 (s64 ad) (by omega))
 have ht : s.touch i = (let s1 := s.leak 3 (s64 ad); if s.mem.length ≤ ad then ({ s1 with code := 3 }, false) else if i.op = 15 then (s1.set i.d (s.mem.getD ad 0), true) else ({ s1 with mem := s.mem.set ad (s.rg i.b) }, true)) := by
  rw [had]; rfl
 rw [ht]
 obtain ⟨s1, hs1⟩ : ∃ s1, s1 = s.leak 3 (s64 ad) := ⟨_, rfl⟩
 have hm : s1.mem = s.mem := by rw [hs1]; rfl
 have hr : s1.regs = s.regs := by rw [hs1]; rfl
 simp only
 rw [← hs1] at d13 ⊢
 have d17 := ld6 G p0 bor cs R M s1
 have d18 : bE (.sl 5 s1.mem.length 0 s1.mem.length 1) = some (Nn s1.mem.length) := rfl
 have d19 : fH .u64 (Nn s1.mem.length) = some (Un s1.mem.length) := by rw [sJ, aHV _ (by rw [hm]; have := hs.big; omega)]
 have g0 := gi0 i
 have g1 := gi1 i
 have g2 := gi2 i
 have g3 := gi3 i
 have g5 := gi5 i
 have l0 := aCN G i
 have l1 := aGS G i
 have l2 := aEH G i
 have l3 := gl3 G i
 have l5 := aGT G i
 have b0 := aGR i
 by_cases hin : s.mem.length ≤ ad
 ·rw [if_pos hin]
  have d20 : bA Tryd.prog .geq 30 false (Un ad) (Un s1.mem.length) = some (.bool true) := by rw [jN, decide_eq_true (by rw [hm]; omega)]
  have d23 := st5 p0 bor cs R M s1 3
  clear hs1 had ht
  repeat first
   | refine oB (by first | (simp only [cC, bV, bU, fR, fN, fQ, fO, fP, bX, bH, eA, b0, g0, g1, g2, g3, g5, l0, l1, l2, l3, l5, eZ, fa3, fa5, qU, aES, ld3, d6, d7, d10, d11, d12, d13, d17, d18, d19, d20, d23]; first | done | (with_reducible exact rfl) | (with_reducible exact ⟨rfl, rfl⟩)) | (with_reducible exact rfl)) ?_
   | refine lB (by first | (simp only [cC, bV, bU, fR, fN, fQ, fO, fP, bX, bH, eA, b0, g0, g1, g2, g3, g5, l0, l1, l2, l3, l5, eZ, fa3, fa5, qU, aES, ld3, d6, d7, d10, d11, d12, d13, d17, d18, d19, d20, d23]; first | done | (with_reducible exact rfl) | (with_reducible exact ⟨rfl, rfl⟩)) | (with_reducible exact rfl)) ?_
   | refine oT ?_
   | refine oN ?_
   | refine oX ?_
   | refine mQ ?_
   | refine mR ?_
   | exact oF (cW ..)
   | apply oK
   | refine lT ?_
   | refine lN ?_
   | refine lX ?_
   | refine mO ?_
   | refine mP ?_
   | apply lK
   | refine oI ?_
   | refine oJ rfl ?_
   | refine lI ?_
   | refine lJ rfl ?_
   | (with_reducible exact rfl)
  exact oF (iI p0 bor cs R M _ hp false)
 ·rw [if_neg hin]
  have d20 : bA Tryd.prog .geq 30 false (Un ad) (Un s1.mem.length) = some (.bool false) := by rw [jN, decide_eq_false (by rw [hm]; omega)]
  have d37 := aJO s1 ad
  rw [if_pos (by rw [hm]; omega)] at d37
  have d30 := ld3 G p0 bor cs R M s1
  rcases ho with ho | ho
  ·rw [if_pos ho]
   have d27 : bA Tryd.prog .eql 3 true (I6 i.op) (.int .i64 15) = some (.bool true) := by rw [jA, decide_eq_true ho]
   have d38 := ldM G p0 bor cs R M s1 ad (by rw [hm]; omega)
   have d39 := aCc s1 i.d hd.1
   rw [if_pos (by rw [hr]; omega)] at d39
   have d40 := stR p0 bor cs R M s1 i.d.toNat (s1.mem.getD ad 0) (by rw [hr]; omega)
   have hfin : ({ s1 with regs := s1.regs.set i.d.toNat (s1.mem.getD ad 0) } : MS) = s1.set i.d (s.mem.getD ad 0) := by rw [← hm]; rfl
   rw [hfin] at d40
   clear hs1 had ht hfin
   generalize s1.mem.getD ad 0 = z at *
   repeat first
    | refine oB (by first | (simp only [cC, bV, bU, fR, fN, fQ, fO, fP, bX, bH, eA, b0, g0, g1, g2, g3, g5, l0, l1, l2, l3, l5, eZ, fa3, fa5, qU, aES, ld3, d6, d7, d10, d11, d12, d13, d17, d18, d19, d20, d27, d30, d37, d38, d39, d40]; first | done | (with_reducible exact rfl) | (with_reducible exact ⟨rfl, rfl⟩)) | (with_reducible exact rfl)) ?_
    | refine lB (by first | (simp only [cC, bV, bU, fR, fN, fQ, fO, fP, bX, bH, eA, b0, g0, g1, g2, g3, g5, l0, l1, l2, l3, l5, eZ, fa3, fa5, qU, aES, ld3, d6, d7, d10, d11, d12, d13, d17, d18, d19, d20, d27, d30, d37, d38, d39, d40]; first | done | (with_reducible exact rfl) | (with_reducible exact ⟨rfl, rfl⟩)) | (with_reducible exact rfl)) ?_
    | refine oT ?_
    | refine oN ?_
    | refine oX ?_
    | refine mQ ?_
    | refine mR ?_
    | exact oF (cW ..)
    | apply oK
    | refine lT ?_
    | refine lN ?_
    | refine lX ?_
    | refine mO ?_
    | refine mP ?_
    | apply lK
    | refine oI ?_
    | refine oJ rfl ?_
    | refine lI ?_
    | refine lJ rfl ?_
    | (with_reducible exact rfl)
   exact oF (iI p0 bor cs R M _ hp true)
  ·rw [if_neg (by omega)]
   have d27 : bA Tryd.prog .eql 3 true (I6 i.op) (.int .i64 15) = some (.bool false) := by rw [jA, decide_eq_false (by omega)]
   have d50 := aCc s1 i.b hb.1
   rw [if_pos (by rw [hr]; omega)] at d50
   have d51 := ldR G p0 bor cs R M s1 i.b.toNat (by rw [hr]; omega)
   have d53 := stM p0 bor cs R M s1 ad (s1.regs.getD i.b.toNat 0) (by rw [hm]; omega)
   have hfin : ({ s1 with mem := s1.mem.set ad (s1.regs.getD i.b.toNat 0) } : MS) = { s1 with mem := s.mem.set ad (s.rg i.b) } := by rw [hm, hr]; rfl
   rw [hfin] at d53
   clear hs1 had ht hfin
   generalize s1.regs.getD i.b.toNat 0 = z at *
   repeat first
    | refine oB (by first | (simp only [cC, bV, bU, fR, fN, fQ, fO, fP, bX, bH, eA, b0, g0, g1, g2, g3, g5, l0, l1, l2, l3, l5, eZ, fa3, fa5, qU, aES, ld3, d6, d7, d10, d11, d12, d13, d17, d18, d19, d20, d27, d30, d37, d50, d51, d53]; first | done | (with_reducible exact rfl) | (with_reducible exact ⟨rfl, rfl⟩)) | (with_reducible exact rfl)) ?_
    | refine lB (by first | (simp only [cC, bV, bU, fR, fN, fQ, fO, fP, bX, bH, eA, b0, g0, g1, g2, g3, g5, l0, l1, l2, l3, l5, eZ, fa3, fa5, qU, aES, ld3, d6, d7, d10, d11, d12, d13, d17, d18, d19, d20, d27, d30, d37, d50, d51, d53]; first | done | (with_reducible exact rfl) | (with_reducible exact ⟨rfl, rfl⟩)) | (with_reducible exact rfl)) ?_
    | refine oT ?_
    | refine oN ?_
    | refine oX ?_
    | refine mQ ?_
    | refine mR ?_
    | exact oF (cW ..)
    | apply oK
    | refine lT ?_
    | refine lN ?_
    | refine lX ?_
    | refine mO ?_
    | refine mP ?_
    | apply lK
    | refine oI ?_
    | refine oJ rfl ?_
    | refine lI ?_
    | refine lJ rfl ?_
    | (with_reducible exact rfl)
   exact oF (iI p0 bor cs R M _ hp true)
set_option maxRecDepth 20000 in
set_option maxHeartbeats 1000000 in
include hp hs hl in
theorem aBK (k : Nat) (ha : i.op ≠ 17 → 0 ≤ i.a ∧ i.a < R) (ho : i.op = 17 ∨ i.op = 18 ∨ i.op = 19) (hk : 0 ≤ i.k) :
  bP.f G (k + 2) [PX, i.v] (jQ p0 bor cs R M s) = some (.tup [], jQ p0 bor cs R M (s.branch i)) := by
 have hR := hs.len
 rw [bP.step]
 unfold bP.c
 simp only [sY]
 have g0 := gi0 i
 have g2 := gi2 i
 have g5 := gi5 i
 have l0 := aCN G i
 have l2 := aEH G i
 have l5 := aGT G i
 have b0 := aGR i
 have nk : I6 i.k = Nn i.k.toNat := by show AV.int .i64 i.k = .int .i64 _; congr 1; omega
 rw [nk] at l5
 by_cases h17 : i.op = 17
 ·have e : s.branch i = { s with at_ := i.k.toNat } := by unfold MS.branch; rw [if_pos h17]
  rw [e]
  have d3 : bA Tryd.prog .neq 3 true (I6 i.op) (.int .i64 17) = some (.bool false) := by rw [qF]; simp [h17]
  have d25 := st4 p0 bor cs R M s i.k.toNat
  repeat first
   | refine oB (by first | (simp only [cC, bV, bU, fR, fN, fQ, fO, fP, bX, bH, eA, b0, g0, g2, g5, l0, l2, l5, eZ, rZ, d3, d25]; first | done | (with_reducible exact rfl) | (with_reducible exact ⟨rfl, rfl⟩)) | (with_reducible exact rfl)) ?_
   | refine lB (by first | (simp only [cC, bV, bU, fR, fN, fQ, fO, fP, bX, bH, eA, b0, g0, g2, g5, l0, l2, l5, eZ, rZ, d3, d25]; first | done | (with_reducible exact rfl) | (with_reducible exact ⟨rfl, rfl⟩)) | (with_reducible exact rfl)) ?_
   | refine oT ?_
   | refine oN ?_
   | refine oX ?_
   | refine mQ ?_
   | refine mR ?_
   | exact oF (cW ..)
   | apply oK
   | refine lT ?_
   | refine lN ?_
   | refine lX ?_
   | refine mO ?_
   | refine mP ?_
   | apply lK
   | refine oI ?_
   | refine oJ rfl ?_
   | refine lI ?_
   | refine lJ rfl ?_
   | (with_reducible exact rfl)
  exact oF (sN p0 bor cs R M _ hp)
 ·obtain ⟨ha0, haR⟩ := ha h17
  have d3 : bA Tryd.prog .neq 3 true (I6 i.op) (.int .i64 17) = some (.bool true) := by rw [qF]; simp [h17]
  have d9 := aCc s i.a ha0
  rw [if_pos (by omega)] at d9
  have d10 := ldR G p0 bor cs R M s i.a.toNat (by omega)
  have d11 : bA Tryd.prog .eql 30 true (Un (s.regs.getD i.a.toNat 0)) (.int .u64 0) = some (.bool (decide (s.rg i.a = 0))) := by
   rw [jA]; unfold MS.rg; congr 2; simp only [decide_eq_decide]; omega
  have d14 : bA Tryd.prog .eql 3 true (I6 i.op) (.int .i64 18) = some (.bool (decide (i.op = 18))) := jA ..
  have d15 : bA Tryd.prog .eql 4 false (.bool (decide (s.rg i.a = 0))) (.bool (decide (i.op = 18))) = some (.bool (decide (s.rg i.a = 0) == decide (i.op = 18))) := aAA Tryd.underlying4 ..
  have d16 : ∀ b H, aW (eF.f G (k + 1)) [.bool b] H = _ := fun b H => cJ (H := H) (aBI G k b) rfl rfl
  by_cases hg : (decide (s.rg i.a = 0) == decide (i.op = 18)) = true
  ·have e : s.branch i = { s.leak 2 1 with at_ := i.k.toNat } := by unfold MS.branch; rw [if_neg h17, if_pos hg]
   rw [e]
   rw [hg] at d15
   have d16' := d16 true
   rw [if_pos rfl] at d16'
   have d17 : fH .i64 (Un 1) = some (I6 1) := rfl
   have d18 := pM p0 bor cs R M s (qN G p0 bor cs R M s k hp 2 1 (by omega))
   have d25 := st4 p0 bor cs R M (s.leak 2 1) i.k.toNat
   generalize decide (s.rg i.a = 0) = q1 at *
   generalize decide (i.op = 18) = q2 at *
   repeat first
    | refine oB (by first | (simp only [cC, bV, bU, fR, fN, fQ, fO, fP, bX, bH, eA, b0, g0, g2, g5, l0, l2, l5, eZ, fa3, rZ, ld3, d3, d9, d10, d11, d14, d15, d16', d17, d18, d25, Bool.not_true, Bool.not_false]; first | done | (with_reducible exact rfl) | (with_reducible exact ⟨rfl, rfl⟩)) | (with_reducible exact rfl)) ?_
    | refine lB (by first | (simp only [cC, bV, bU, fR, fN, fQ, fO, fP, bX, bH, eA, b0, g0, g2, g5, l0, l2, l5, eZ, fa3, rZ, ld3, d3, d9, d10, d11, d14, d15, d16', d17, d18, d25, Bool.not_true, Bool.not_false]; first | done | (with_reducible exact rfl) | (with_reducible exact ⟨rfl, rfl⟩)) | (with_reducible exact rfl)) ?_
    | refine oT ?_
    | refine oN ?_
    | refine oX ?_
    | refine mQ ?_
    | refine mR ?_
    | exact oF (cW ..)
    | apply oK
    | refine lT ?_
    | refine lN ?_
    | refine lX ?_
    | refine mO ?_
    | refine mP ?_
    | apply lK
    | refine oI ?_
    | refine oJ rfl ?_
    | refine lI ?_
    | refine lJ rfl ?_
    | (with_reducible exact rfl)
   exact oF (sN p0 bor cs R M _ hp)
  ·have e : s.branch i = s.leak 2 0 := by unfold MS.branch; rw [if_neg h17, if_neg hg]
   rw [e]
   rw [Bool.not_eq_true] at hg
   rw [hg] at d15
   have d16' := d16 false
   rw [if_neg (by decide)] at d16'
   have d17 : fH .i64 (Un 0) = some (I6 0) := rfl
   have d18 := pM p0 bor cs R M s (qN G p0 bor cs R M s k hp 2 0 (by omega))
   generalize decide (s.rg i.a = 0) = q1 at *
   generalize decide (i.op = 18) = q2 at *
   repeat first
    | refine oB (by first | (simp only [cC, bV, bU, fR, fN, fQ, fO, fP, bX, bH, eA, b0, g0, g2, g5, l0, l2, l5, eZ, fa3, rZ, ld3, d3, d9, d10, d11, d14, d15, d16', d17, d18, Bool.not_true, Bool.not_false]; first | done | (with_reducible exact rfl) | (with_reducible exact ⟨rfl, rfl⟩)) | (with_reducible exact rfl)) ?_
    | refine lB (by first | (simp only [cC, bV, bU, fR, fN, fQ, fO, fP, bX, bH, eA, b0, g0, g2, g5, l0, l2, l5, eZ, fa3, rZ, ld3, d3, d9, d10, d11, d14, d15, d16', d17, d18, Bool.not_true, Bool.not_false]; first | done | (with_reducible exact rfl) | (with_reducible exact ⟨rfl, rfl⟩)) | (with_reducible exact rfl)) ?_
    | refine oT ?_
    | refine oN ?_
    | refine oX ?_
    | refine mQ ?_
    | refine mR ?_
    | exact oF (cW ..)
    | apply oK
    | refine lT ?_
    | refine lN ?_
    | refine lX ?_
    | refine mO ?_
    | refine mP ?_
    | apply lK
    | refine oI ?_
    | refine oJ rfl ?_
    | refine lI ?_
    | refine lJ rfl ?_
    | (with_reducible exact rfl)
   exact oF (sN p0 bor cs R M _ hp)
set_option maxRecDepth 20000 in
set_option maxHeartbeats 2000000 in
include hp hs hl in
theorem aFo (n : Nat) (k : Nat) (hi : i.Ok R n) (hpc : s.at_ ≤ 1000000) :
  cN.f G (k + 4) [PX, i.v] (jQ p0 bor cs R M s) = some (.bool (s.step i).2, jQ p0 bor cs R M (s.step i).1) := by
 have hR := hs.len
 rw [cN.step]
 unfold cN.c
 simp only [sY]
 obtain ⟨t, ht⟩ : ∃ t : MS, t = { s with at_ := s.at_ + 1 } := ⟨_, rfl⟩
 have htr : t.regs = s.regs := by rw [ht]
 have hts : t.Ok R := by rw [ht]; exact ⟨hs.len, hs.regs, hs.mem, hs.leaks, hs.big, hs.few⟩
 have htl : t.leaks.length ≤ 999990 := by rw [ht]; exact hl
 have g0 := gi0 i
 have g1 := gi1 i
 have g2 := gi2 i
 have g3 := gi3 i
 have g4 := gi4 i
 have g5 := gi5 i
 have l0 := aCN G i
 have l1 := aGS G i
 have l2 := aEH G i
 have l3 := gl3 G i
 have l4 := aID G i
 have l5 := aGT G i
 have l6 := aJV G i
 have b0 := aGR i
 have c3 := ld4 G p0 bor cs R M s
 have c4 : bA Tryd.prog .add 3 true (Nn s.at_) (.int .i64 1) = some (Nn (s.at_ + 1)) := by
  rw [iE, dY (by omega) (by omega)]; congr 2
 have c7 := st4 p0 bor cs R M s (s.at_ + 1)
 rw [← ht] at c7
 have e0 : s.step i = (if i.op = 15 ∨ i.op = 16 then t.touch i
  else if i.op = 17 ∨ i.op = 18 ∨ i.op = 19 then (t.branch i, true)
  else if i.op = 20 then ({ t with code := i.k }, false)
  else if (kL i.op i.k (t.rg i.a) (t.rg i.b) (t.rg i.c)).2 = true then (t.set i.d (kL i.op i.k (t.rg i.a) (t.rg i.b) (t.rg i.c)).1, true)
  else (t, true)) := by rw [ht]; rfl
 rw [e0]
 clear ht e0
 have q : ∀ m : Int, bA Tryd.prog .eql 3 true (I6 i.op) (.int .i64 m) = some (.bool (decide (i.op = m))) := fun m => jA ..
 have q15 := q 15
 have q16 := q 16
 have q17 := q 17
 have q18 := q 18
 have q19 := q 19
 have q20 := q 20
 by_cases h1 : i.op = 15 ∨ i.op = 16
 ·rw [if_pos h1]
  have r := pM p0 bor cs R M t (aDE G p0 hp bor cs R M t i hts htl (k + 1) (hi.a (by omega) (by omega)) (hi.d (by omega)) (hi.b (by omega)) h1)
  by_cases h15 : i.op = 15
  ·rw [decide_eq_true h15] at q15
   generalize t.touch i = z at *
   repeat first
    | refine oB (by first | (simp only [cC, bV, bU, fR, fN, fQ, fO, fP, bX, bH, eA, b0, g0, g1, g2, g3, g4, g5, l0, l6, eZ, rZ, c3, c4, c7, q15, q16, r]; first | done | (with_reducible exact rfl) | (with_reducible exact ⟨rfl, rfl⟩)) | (with_reducible exact rfl)) ?_
    | refine lB (by first | (simp only [cC, bV, bU, fR, fN, fQ, fO, fP, bX, bH, eA, b0, g0, g1, g2, g3, g4, g5, l0, l6, eZ, rZ, c3, c4, c7, q15, q16, r]; first | done | (with_reducible exact rfl) | (with_reducible exact ⟨rfl, rfl⟩)) | (with_reducible exact rfl)) ?_
    | refine oT ?_
    | refine oN ?_
    | refine oX ?_
    | refine mQ ?_
    | refine mR ?_
    | exact oF (cW ..)
    | apply oK
    | refine lT ?_
    | refine lN ?_
    | refine lX ?_
    | refine mO ?_
    | refine mP ?_
    | apply lK
    | refine oI ?_
    | refine oJ rfl ?_
    | refine lI ?_
    | refine lJ rfl ?_
    | (with_reducible exact rfl)
   exact oF (iI p0 bor cs R M _ hp _)
  ·rw [decide_eq_false h15] at q15
   rw [decide_eq_true (by omega)] at q16
   generalize t.touch i = z at *
   repeat first
    | refine oB (by first | (simp only [cC, bV, bU, fR, fN, fQ, fO, fP, bX, bH, eA, b0, g0, g1, g2, g3, g4, g5, l0, l6, eZ, rZ, c3, c4, c7, q15, q16, r]; first | done | (with_reducible exact rfl) | (with_reducible exact ⟨rfl, rfl⟩)) | (with_reducible exact rfl)) ?_
    | refine lB (by first | (simp only [cC, bV, bU, fR, fN, fQ, fO, fP, bX, bH, eA, b0, g0, g1, g2, g3, g4, g5, l0, l6, eZ, rZ, c3, c4, c7, q15, q16, r]; first | done | (with_reducible exact rfl) | (with_reducible exact ⟨rfl, rfl⟩)) | (with_reducible exact rfl)) ?_
    | refine oT ?_
    | refine oN ?_
    | refine oX ?_
    | refine mQ ?_
    | refine mR ?_
    | exact oF (cW ..)
    | apply oK
    | refine lT ?_
    | refine lN ?_
    | refine lX ?_
    | refine mO ?_
    | refine mP ?_
    | apply lK
    | refine oI ?_
    | refine oJ rfl ?_
    | refine lI ?_
    | refine lJ rfl ?_
    | (with_reducible exact rfl)
   exact oF (iI p0 bor cs R M _ hp _)
 rw [if_neg h1]
 rw [decide_eq_false (by omega)] at q15 q16
 by_cases h2 : i.op = 17 ∨ i.op = 18 ∨ i.op = 19
 ·rw [if_pos h2]
  have r := pM p0 bor cs R M t (aBK G p0 hp bor cs R M t i hts htl (k + 1) (fun h => hi.a h (by omega)) h2 (hi.k (by omega) (by omega)).1)
  generalize t.branch i = z at *
  by_cases h17 : i.op = 17
  ·rw [decide_eq_true h17] at q17
   repeat first
    | refine oB (by first | (simp only [cC, bV, bU, fR, fN, fQ, fO, fP, bX, bH, eA, b0, g0, g1, g2, g3, g4, g5, l0, l6, eZ, rZ, c3, c4, c7, q15, q16, q17, q18, q19, r]; first | done | (with_reducible exact rfl) | (with_reducible exact ⟨rfl, rfl⟩)) | (with_reducible exact rfl)) ?_
    | refine lB (by first | (simp only [cC, bV, bU, fR, fN, fQ, fO, fP, bX, bH, eA, b0, g0, g1, g2, g3, g4, g5, l0, l6, eZ, rZ, c3, c4, c7, q15, q16, q17, q18, q19, r]; first | done | (with_reducible exact rfl) | (with_reducible exact ⟨rfl, rfl⟩)) | (with_reducible exact rfl)) ?_
    | refine oT ?_
    | refine oN ?_
    | refine oX ?_
    | refine mQ ?_
    | refine mR ?_
    | exact oF (cW ..)
    | apply oK
    | refine lT ?_
    | refine lN ?_
    | refine lX ?_
    | refine mO ?_
    | refine mP ?_
    | apply lK
    | refine oI ?_
    | refine oJ rfl ?_
    | refine lI ?_
    | refine lJ rfl ?_
    | (with_reducible exact rfl)
   exact oF (iI p0 bor cs R M _ hp _)
  rw [decide_eq_false h17] at q17
  by_cases h18 : i.op = 18
  ·rw [decide_eq_true h18] at q18
   repeat first
    | refine oB (by first | (simp only [cC, bV, bU, fR, fN, fQ, fO, fP, bX, bH, eA, b0, g0, g1, g2, g3, g4, g5, l0, l6, eZ, rZ, c3, c4, c7, q15, q16, q17, q18, q19, r]; first | done | (with_reducible exact rfl) | (with_reducible exact ⟨rfl, rfl⟩)) | (with_reducible exact rfl)) ?_
    | refine lB (by first | (simp only [cC, bV, bU, fR, fN, fQ, fO, fP, bX, bH, eA, b0, g0, g1, g2, g3, g4, g5, l0, l6, eZ, rZ, c3, c4, c7, q15, q16, q17, q18, q19, r]; first | done | (with_reducible exact rfl) | (with_reducible exact ⟨rfl, rfl⟩)) | (with_reducible exact rfl)) ?_
    | refine oT ?_
    | refine oN ?_
    | refine oX ?_
    | refine mQ ?_
    | refine mR ?_
    | exact oF (cW ..)
    | apply oK
    | refine lT ?_
    | refine lN ?_
    | refine lX ?_
    | refine mO ?_
    | refine mP ?_
    | apply lK
    | refine oI ?_
    | refine oJ rfl ?_
    | refine lI ?_
    | refine lJ rfl ?_
    | (with_reducible exact rfl)
   exact oF (iI p0 bor cs R M _ hp _)
  ·rw [decide_eq_false h18] at q18
   rw [decide_eq_true (by omega)] at q19
   repeat first
    | refine oB (by first | (simp only [cC, bV, bU, fR, fN, fQ, fO, fP, bX, bH, eA, b0, g0, g1, g2, g3, g4, g5, l0, l6, eZ, rZ, c3, c4, c7, q15, q16, q17, q18, q19, r]; first | done | (with_reducible exact rfl) | (with_reducible exact ⟨rfl, rfl⟩)) | (with_reducible exact rfl)) ?_
    | refine lB (by first | (simp only [cC, bV, bU, fR, fN, fQ, fO, fP, bX, bH, eA, b0, g0, g1, g2, g3, g4, g5, l0, l6, eZ, rZ, c3, c4, c7, q15, q16, q17, q18, q19, r]; first | done | (with_reducible exact rfl) | (with_reducible exact ⟨rfl, rfl⟩)) | (with_reducible exact rfl)) ?_
    | refine oT ?_
    | refine oN ?_
    | refine oX ?_
    | refine mQ ?_
    | refine mR ?_
    | exact oF (cW ..)
    | apply oK
    | refine lT ?_
    | refine lN ?_
    | refine lX ?_
    | refine mO ?_
    | refine mP ?_
    | apply lK
    | refine oI ?_
    | refine oJ rfl ?_
    | refine lI ?_
    | refine lJ rfl ?_
    | (with_reducible exact rfl)
   exact oF (iI p0 bor cs R M _ hp _)
 rw [if_neg h2]
 rw [decide_eq_false (by omega)] at q17 q18 q19
 by_cases h3 : i.op = 20
 ·rw [if_pos h3]
  rw [decide_eq_true h3] at q20
  have r := st5 p0 bor cs R M t i.k
  repeat first
   | refine oB (by first | (simp only [cC, bV, bU, fR, fN, fQ, fO, fP, bX, bH, eA, b0, g0, g1, g2, g3, g4, g5, l0, l5, l6, eZ, rZ, fa5, qU, c3, c4, c7, q15, q16, q17, q18, q19, q20, r]; first | done | (with_reducible exact rfl) | (with_reducible exact ⟨rfl, rfl⟩)) | (with_reducible exact rfl)) ?_
   | refine lB (by first | (simp only [cC, bV, bU, fR, fN, fQ, fO, fP, bX, bH, eA, b0, g0, g1, g2, g3, g4, g5, l0, l5, l6, eZ, rZ, fa5, qU, c3, c4, c7, q15, q16, q17, q18, q19, q20, r]; first | done | (with_reducible exact rfl) | (with_reducible exact ⟨rfl, rfl⟩)) | (with_reducible exact rfl)) ?_
   | refine oT ?_
   | refine oN ?_
   | refine oX ?_
   | refine mQ ?_
   | refine mR ?_
   | exact oF (cW ..)
   | apply oK
   | refine lT ?_
   | refine lN ?_
   | refine lX ?_
   | refine mO ?_
   | refine mP ?_
   | apply lK
   | refine oI ?_
   | refine oJ rfl ?_
   | refine lI ?_
   | refine lJ rfl ?_
   | (with_reducible exact rfl)
  exact oF (iI p0 bor cs R M _ hp _)
 rw [if_neg h3]
 rw [decide_eq_false h3] at q20
 have hop := hi.op
 obtain ⟨a0, aR⟩ := hi.a (by omega) h3
 obtain ⟨d0, dR⟩ := hi.d (by omega)
 obtain ⟨bb0, bR⟩ := hi.b (by omega)
 obtain ⟨cc0, cR⟩ := hi.c (by omega)
 have f0 := ld3 G p0 bor cs R M t
 have f1 := aCc t i.a a0
 rw [if_pos (by rw [htr]; omega)] at f1
 have f2 := ldR G p0 bor cs R M t i.a.toNat (by rw [htr]; omega)
 have f3 := aCc t i.b bb0
 rw [if_pos (by rw [htr]; omega)] at f3
 have f4 := ldR G p0 bor cs R M t i.b.toNat (by rw [htr]; omega)
 have f5 := aCc t i.c cc0
 rw [if_pos (by rw [htr]; omega)] at f5
 have f6 := ldR G p0 bor cs R M t i.c.toNat (by rw [htr]; omega)
 have f7 := aCc t i.d d0
 rw [if_pos (by rw [htr]; omega)] at f7
 have ev : WI.v i = WI.v ⟨i.op, i.d, i.a, i.b, i.c, i.k⟩ := rfl
 have r : ∀ H, aW (dH.f G (k + 3)) [i.v, Un (t.rg i.a), Un (t.rg i.b), Un (t.rg i.c)] H = _ := fun H => cJ (H := H) (aDH G (k + 1) i.op i.d i.a i.b i.c i.k _ _ _ (hts.rg _) (hts.rg _) (hts.rg _)) rfl rfl
 have f8 := stR p0 bor cs R M t i.d.toNat (kL i.op i.k (t.rg i.a) (t.rg i.b) (t.rg i.c)).1 (by rw [htr]; omega)
 have e1 : t.regs.getD i.a.toNat 0 = t.rg i.a := rfl
 have e2 : t.regs.getD i.b.toNat 0 = t.rg i.b := rfl
 have e3 : t.regs.getD i.c.toNat 0 = t.rg i.c := rfl
 have e4 : ∀ x, ({ t with regs := t.regs.set i.d.toNat x } : MS) = t.set i.d x := fun x => rfl
 rw [e4] at f8
 rw [e1] at f2
 rw [e2] at f4
 rw [e3] at f6
 generalize t.rg i.a = ra at *
 generalize t.rg i.b = rb at *
 generalize t.rg i.c = rc at *
 generalize kL i.op i.k ra rb rc = v at *
 obtain ⟨vn, vb⟩ := v
 have x0 : ∀ u v : AV, bD (.tup [u, v]) 0 = some u := fun _ _ => rfl
 have x1 : ∀ u v : AV, bD (.tup [u, v]) 1 = some v := fun _ _ => rfl
 cases vb
 ·rw [if_neg (by simp)]
  simp only at r f8
  repeat first
   | refine oB (by first | (simp only [cC, bV, bU, fR, fN, fQ, fO, fP, bX, bH, eA, b0, g0, l0, eZ, rZ, c3, c4, c7, q15, q16, q17, q18, q19, q20]; first | done | (with_reducible exact rfl) | (with_reducible exact ⟨rfl, rfl⟩)) | (with_reducible exact rfl)) ?_
   | refine lB (by first | (simp only [cC, bV, bU, fR, fN, fQ, fO, fP, bX, bH, eA, b0, g0, l0, eZ, rZ, c3, c4, c7, q15, q16, q17, q18, q19, q20]; first | done | (with_reducible exact rfl) | (with_reducible exact ⟨rfl, rfl⟩)) | (with_reducible exact rfl)) ?_
   | refine oT ?_
   | refine oN ?_
   | refine oX ?_
   | refine mQ ?_
   | refine mR ?_
   | exact oF (cW ..)
   | apply oK
   | refine lT ?_
   | refine lN ?_
   | refine lX ?_
   | refine mO ?_
   | refine mP ?_
   | apply lK
   | refine oI ?_
   | refine oJ rfl ?_
   | refine lI ?_
   | refine lJ rfl ?_
   | (with_reducible exact rfl)
  refine oB (by simp only [cC, bV, bU, l6]; rfl) ?_
  repeat first
   | refine oB (by first | (simp only [cC, bV, bU, fR, fN, fQ, fO, fP, bX, bH, eA, eZ, g1, g2, g3, g4, l1, l2, l3, l4, fa3, f0, f1, f2, f3, f4, f5, f6, r, x0, x1]; first | done | (with_reducible exact rfl) | (with_reducible exact ⟨rfl, rfl⟩)) | (with_reducible exact rfl)) ?_
   | refine lB (by first | (simp only [cC, bV, bU, fR, fN, fQ, fO, fP, bX, bH, eA, eZ, g1, g2, g3, g4, l1, l2, l3, l4, fa3, f0, f1, f2, f3, f4, f5, f6, r, x0, x1]; first | done | (with_reducible exact rfl) | (with_reducible exact ⟨rfl, rfl⟩)) | (with_reducible exact rfl)) ?_
   | refine oT ?_
   | refine oN ?_
   | refine oX ?_
   | refine mQ ?_
   | refine mR ?_
   | exact oF (cW ..)
   | apply oK
   | refine lT ?_
   | refine lN ?_
   | refine lX ?_
   | refine mO ?_
   | refine mP ?_
   | apply lK
   | refine oI ?_
   | refine oJ rfl ?_
   | refine lI ?_
   | refine lJ rfl ?_
   | (with_reducible exact rfl)
  exact oF (iI p0 bor cs R M _ hp _)
 ·rw [if_pos rfl]
  simp only at r f8
  repeat first
   | refine oB (by first | (simp only [cC, bV, bU, fR, fN, fQ, fO, fP, bX, bH, eA, b0, g0, l0, eZ, rZ, c3, c4, c7, q15, q16, q17, q18, q19, q20]; first | done | (with_reducible exact rfl) | (with_reducible exact ⟨rfl, rfl⟩)) | (with_reducible exact rfl)) ?_
   | refine lB (by first | (simp only [cC, bV, bU, fR, fN, fQ, fO, fP, bX, bH, eA, b0, g0, l0, eZ, rZ, c3, c4, c7, q15, q16, q17, q18, q19, q20]; first | done | (with_reducible exact rfl) | (with_reducible exact ⟨rfl, rfl⟩)) | (with_reducible exact rfl)) ?_
   | refine oT ?_
   | refine oN ?_
   | refine oX ?_
   | refine mQ ?_
   | refine mR ?_
   | exact oF (cW ..)
   | apply oK
   | refine lT ?_
   | refine lN ?_
   | refine lX ?_
   | refine mO ?_
   | refine mP ?_
   | apply lK
   | refine oI ?_
   | refine oJ rfl ?_
   | refine lI ?_
   | refine lJ rfl ?_
   | (with_reducible exact rfl)
  refine oB (by simp only [cC, bV, bU, l6]; rfl) ?_
  repeat first
   | refine oB (by first | (simp only [cC, bV, bU, fR, fN, fQ, fO, fP, bX, bH, eA, eZ, g1, g2, g3, g4, l1, l2, l3, l4, fa3, f0, f1, f2, f3, f4, f5, f6, f7, f8, r, x0, x1]; first | done | (with_reducible exact rfl) | (with_reducible exact ⟨rfl, rfl⟩)) | (with_reducible exact rfl)) ?_
   | refine lB (by first | (simp only [cC, bV, bU, fR, fN, fQ, fO, fP, bX, bH, eA, eZ, g1, g2, g3, g4, l1, l2, l3, l4, fa3, f0, f1, f2, f3, f4, f5, f6, f7, f8, r, x0, x1]; first | done | (with_reducible exact rfl) | (with_reducible exact ⟨rfl, rfl⟩)) | (with_reducible exact rfl)) ?_
   | refine oT ?_
   | refine oN ?_
   | refine oX ?_
   | refine mQ ?_
   | refine mR ?_
   | exact oF (cW ..)
   | apply oK
   | refine lT ?_
   | refine lN ?_
   | refine lX ?_
   | refine mO ?_
   | refine mP ?_
   | apply lK
   | refine oI ?_
   | refine oJ rfl ?_
   | refine lI ?_
   | refine lJ rfl ?_
   | (with_reducible exact rfl)
  exact oF (iI p0 bor cs R M _ hp _)
end
def aGG (s : MS) : AV := .agg [I6 s.code, .sl 5 s.mem.length 0 s.mem.length 1, .sl 6 s.leaks.length 0 s.leaks.length 2, Nn s.steps]
def hpE (p0 : ABlk) (bor : Bool) (cs : List WI) (R M : Int) (s : MS) : aA := (jQ p0 bor cs R M s).set 1 ⟨73, 4, [aGG s]⟩
def xsM (fuel : Int) (bor b2 : Bool) (cs : List WI) (R M : Int) : List AV := [I6 fuel, .nilf, .rp b2 (.agg [.ro bor (cF cs), I6 R, I6 M]) 0, .ptr 1 1 0 0, PX]
section
variable (G : aE) (p0 : ABlk) (hp : aY 7 p0.elems = true) (bor b2 : Bool) (cs : List WI) (R : Nat) (M : Int) (fuel : Int) (self : cQ) (k : Nat)
theorem aFX (s : MS) : aG G true 4 (.ptr 3 1 0 5) (jQ p0 bor cs R M s) = some (aGG s) := rfl
theorem aGK (s : MS) : gB (aV 4 (.ptr 1 1 0 0) (aGG s) (jQ p0 bor cs R M s)) = some (.tup [], hpE p0 bor cs R M s) := rfl
theorem aGV : aY 7 (xsM fuel bor b2 cs R M) = true := by simp [xsM, aY, aT, fK]
set_option maxRecDepth 20000 in
set_option maxHeartbeats 1000000 in
include hp in
theorem yQ (hf : fuel ≤ 99999) (hcl : cs.length ≤ 100000) (hcs : ∀ j, j < cs.length → (cs.getD j default).Ok R cs.length) : ∀ (f : Nat) (s s' : MS), kX cs fuel f s = some s' → s.Ok R → s.at_ ≤ cs.length → (s.steps : Int) ≤ fuel →
  cM (cU.l3 G (k + 4) 7 self) f (xsM fuel bor b2 cs R M) (jQ p0 bor cs R M s) = some (.ret, xsM fuel bor b2 cs R M, hpE p0 bor cs R M s')
 | 0, s, s', h, _, _, _ => by simp [kX] at h
 | f + 1, s, s', h, hs, hat, hst => by
  have few := hs.few
  have lks := hs.leaks
  rw [aX, cU.l3]
  refine lC (xO p0 bor cs R M s hp _ (aGV bor b2 cs R M fuel)) ?_
  have c16 := ld4 G p0 bor cs R M s
  have c17 : aB 0 (.rp b2 (.agg [.ro bor (cF cs), I6 R, I6 M]) 0) = some (.rp b2 (.agg [.ro bor (cF cs), I6 R, I6 M]) 0) := rfl
  have c18 : ∀ H, aG G false 1 (.rp b2 (.agg [.ro bor (cF cs), I6 R, I6 M]) 0) H = some (.ro bor (cF cs)) := fun H => rfl
  have c19 : bE (.ro bor (cF cs)) = some (Nn cs.length) := by simp [bE, gQ]
  have c31 := ld8 G p0 bor cs R M s
  have q2 : bA Tryd.prog .neq 144 true .nilf .nilf = some (.bool false) := by kernel_rfl
  simp only [kX] at h
  unfold xsM
  by_cases h1 : cs.length ≤ s.at_
  ·rw [if_pos h1] at h
   simp only [Option.some.injEq] at h
   have c20 : bA Tryd.prog .geq 3 false (Nn s.at_) (Nn cs.length) = some (.bool true) := by rw [jN, decide_eq_true (by omega)]
   have c24 := st5 p0 bor cs R M s 3
   rw [h] at c24
   have c27 := aFX G p0 bor cs R M s'
   have c28 := aGK p0 bor cs R M s'
   repeat first
    | refine oB (by first | (simp only [cC, bV, bU, fR, fN, fQ, fO, fP, bX, bH, eA, eZ, rZ, fa5, qU, c16, c17, c18, c19, c20, c24, c27, c28]; first | done | (with_reducible exact rfl) | (with_reducible exact ⟨rfl, rfl⟩)) | (with_reducible exact rfl)) ?_
    | refine lB (by first | (simp only [cC, bV, bU, fR, fN, fQ, fO, fP, bX, bH, eA, eZ, rZ, fa5, qU, c16, c17, c18, c19, c20, c24, c27, c28]; first | done | (with_reducible exact rfl) | (with_reducible exact ⟨rfl, rfl⟩)) | (with_reducible exact rfl)) ?_
    | refine oT ?_
    | refine oN ?_
    | refine oX ?_
    | refine mQ ?_
    | refine mR ?_
    | exact oF (cW ..)
    | apply oK
    | refine lT ?_
    | refine lN ?_
    | refine lX ?_
    | refine mO ?_
    | refine mP ?_
    | apply lK
    | refine oI ?_
    | refine oJ rfl ?_
    | refine lI ?_
    | refine lJ rfl ?_
    | (with_reducible exact rfl)
   rfl
  rw [if_neg h1] at h
  have c20 : bA Tryd.prog .geq 3 false (Nn s.at_) (Nn cs.length) = some (.bool false) := by rw [jN, decide_eq_false (by omega)]
  by_cases h2 : (s.steps : Int) = fuel
  ·rw [if_pos h2] at h
   simp only [Option.some.injEq] at h
   have c33 : bA Tryd.prog .eql 2 false (Nn s.steps) (I6 fuel) = some (.bool true) := by rw [jA, decide_eq_true h2]
   have c24 := st5 p0 bor cs R M s 4
   rw [h] at c24
   have c27 := aFX G p0 bor cs R M s'
   have c28 := aGK p0 bor cs R M s'
   repeat first
    | refine oB (by first | (simp only [cC, bV, bU, fR, fN, fQ, fO, fP, bX, bH, eA, eZ, rZ, fa5, qU, aET, c16, c17, c18, c19, c20, c24, c27, c28, c31, c33]; first | done | (with_reducible exact rfl) | (with_reducible exact ⟨rfl, rfl⟩)) | (with_reducible exact rfl)) ?_
    | refine lB (by first | (simp only [cC, bV, bU, fR, fN, fQ, fO, fP, bX, bH, eA, eZ, rZ, fa5, qU, aET, c16, c17, c18, c19, c20, c24, c27, c28, c31, c33]; first | done | (with_reducible exact rfl) | (with_reducible exact ⟨rfl, rfl⟩)) | (with_reducible exact rfl)) ?_
    | refine oT ?_
    | refine oN ?_
    | refine oX ?_
    | refine mQ ?_
    | refine mR ?_
    | exact oF (cW ..)
    | apply oK
    | refine lT ?_
    | refine lN ?_
    | refine lX ?_
    | refine mO ?_
    | refine mP ?_
    | apply lK
    | refine oI ?_
    | refine oJ rfl ?_
    | refine lI ?_
    | refine lJ rfl ?_
    | (with_reducible exact rfl)
   rfl
  rw [if_neg h2] at h
  have c33 : bA Tryd.prog .eql 2 false (Nn s.steps) (I6 fuel) = some (.bool false) := by rw [jA, decide_eq_false h2]
  have c62 : bA Tryd.prog .add 2 true (Nn s.steps) (.int .i64 1) = some (Nn (s.steps + 1)) := by
   rw [iE, dY (by omega) (by omega)]; congr 2
  have c67 := st8 p0 bor cs R M s (s.steps + 1)
  have c70 := ld4 G p0 bor cs R M { s with steps := s.steps + 1 }
  have c71 := pM p0 bor cs R M { s with steps := s.steps + 1 } (qN G p0 bor cs R M { s with steps := s.steps + 1 } (k + 3) hp 1 s.at_ (by simp only; omega))
  have et : (({ s with steps := s.steps + 1 } : MS).leak 1 s.at_) = s.tick := rfl
  rw [et] at c71
  have okt : s.tick.Ok R := ⟨hs.len, hs.regs, hs.mem, by simp [MS.tick, MS.leak]; omega, hs.big, by simp [MS.tick, MS.leak]; omega⟩
  have c75 := ld4 G p0 bor cs R M s.tick
  have eat : s.tick.at_ = s.at_ := rfl
  rw [eat] at c75
  have c77 := zY bor cs s.at_ (by omega)
  have hi := hcs s.at_ (by omega)
  have tll : s.tick.leaks.length ≤ 999990 := by simp [MS.tick, MS.leak]; omega
  have c79 := pM p0 bor cs R M s.tick (aFo G p0 hp bor cs R M s.tick (cs.getD s.at_ default) okt tll cs.length k hi (by rw [eat]; omega))
  obtain ⟨o1, o2, o3, o4⟩ := MS.step_ok okt hi (by simp [MS.tick, MS.leak]; omega) (by rw [eat]; omega)
  have hst2 : s.tick.steps = s.steps + 1 := rfl
  have c78 := aCd G bor (cs.getD s.at_ default)
  generalize cs.getD s.at_ default = i at *
  obtain ⟨s2, b, hsb⟩ : ∃ s2 b, s.tick.step i = (s2, b) := ⟨_, _, rfl⟩
  rw [hsb] at h c79 o1 o2 o3 o4
  simp only at h c79 o1 o2 o3 o4
  cases b
  ·simp only [Option.some.injEq] at h
   subst h
   have c83 := aFX G p0 bor cs R M s2
   have c84 := aGK p0 bor cs R M s2
   repeat first
    | refine oB (by first | (simp only [cC, bV, bU, fR, fN, fQ, fO, fP, bX, bH, eA, eZ, rZ, fa5, qU, aET, c16, c17, c18, c19, c20, c31, c33, q2, c62, c67, c70, c71, c75, c77, c78, c79, c83, c84, Bool.not_true, Bool.not_false]; first | done | (with_reducible exact rfl) | (with_reducible exact ⟨rfl, rfl⟩)) | (with_reducible exact rfl)) ?_
    | refine lB (by first | (simp only [cC, bV, bU, fR, fN, fQ, fO, fP, bX, bH, eA, eZ, rZ, fa5, qU, aET, c16, c17, c18, c19, c20, c31, c33, q2, c62, c67, c70, c71, c75, c77, c78, c79, c83, c84, Bool.not_true, Bool.not_false]; first | done | (with_reducible exact rfl) | (with_reducible exact ⟨rfl, rfl⟩)) | (with_reducible exact rfl)) ?_
    | refine oT ?_
    | refine oN ?_
    | refine oX ?_
    | refine mQ ?_
    | refine mR ?_
    | exact oF (cW ..)
    | apply oK
    | refine lT ?_
    | refine lN ?_
    | refine lX ?_
    | refine mO ?_
    | refine mP ?_
    | apply lK
    | refine oI ?_
    | refine oJ rfl ?_
    | refine lI ?_
    | refine lJ rfl ?_
    | (with_reducible exact rfl)
   rfl
  ·simp only at h
   have ih := yQ hf hcl hcs f s2 s' h o1 o2 (by rw [o3, hst2]; omega)
   unfold xsM at ih
   repeat first
    | refine oB (by first | (simp only [cC, bV, bU, fR, fN, fQ, fO, fP, bX, bH, eA, eZ, rZ, fa5, qU, aET, c16, c17, c18, c19, c20, c31, c33, q2, c62, c67, c70, c71, c75, c77, c78, c79, Bool.not_true, Bool.not_false]; first | done | (with_reducible exact rfl) | (with_reducible exact ⟨rfl, rfl⟩)) | (with_reducible exact rfl)) ?_
    | refine lB (by first | (simp only [cC, bV, bU, fR, fN, fQ, fO, fP, bX, bH, eA, eZ, rZ, fa5, qU, aET, c16, c17, c18, c19, c20, c31, c33, q2, c62, c67, c70, c71, c75, c77, c78, c79, Bool.not_true, Bool.not_false]; first | done | (with_reducible exact rfl) | (with_reducible exact ⟨rfl, rfl⟩)) | (with_reducible exact rfl)) ?_
    | refine oT ?_
    | refine oN ?_
    | refine oX ?_
    | refine mQ ?_
    | refine mR ?_
    | exact oF (cW ..)
    | apply oK
    | refine lT ?_
    | refine lN ?_
    | refine lX ?_
    | refine mO ?_
    | refine mP ?_
    | apply lK
    | refine oI ?_
    | refine oJ rfl ?_
    | refine lI ?_
    | refine lJ rfl ?_
    | (with_reducible exact rfl)
   exact ih
end
theorem xX (l : List Nat) : fA (dF l) = true := kD _ (fun _ => rfl) l
theorem aHN (l : List (Int × Int)) : fA (eY l) = true := kD _ (fun _ => rfl) l
def jM (s : MS) : AV := .agg [I6 s.code, .ro false (dF s.mem), .ro false (eY s.leaks), Nn s.steps]
theorem rN (s : MS) : fE (jM s) = true := by simp [jM, fE, gP, aIL, aHh]
def hpC (p0 : ABlk) (bor : Bool) (cs : List WI) (R : Nat) (M : Int) : aA :=
 [p0, ⟨73, 4, [.agg [.int .i64 0, .nils, .nils, .int .i64 0]]⟩, ⟨30, 1, dF (List.replicate R 0)⟩,
  ⟨147, 9, [.agg [.ro bor (cF cs), I6 R, I6 M, .sl 2 R 0 R 1, .int .i64 0, .int .i64 0, .nils, .nils, .int .i64 0]]⟩]
theorem aDb (G : aE) (k : Nat) (H : aA) (hH : mY H H = true) (bm : Bool) (mem : List Nat) (hl : mem.length ≤ 1000000) :
  aN.f G (k + 1) [.ro bm (dF mem)] H = some (.sl (H.length + 1) mem.length 0 mem.length 1, H ++ [⟨30, 1, []⟩, ⟨30, 1, dF mem⟩]) := by
 rw [aN.step]
 unfold aN.c
 have e1 : cL 30 1 0 (.int .u64 0) [] (H ++ [⟨30, 1, []⟩]) = some (.sl (H.length + 1) 0 0 0 1, H ++ [⟨30, 1, []⟩, ⟨30, 1, []⟩]) := by
  simp [cL, eH]
 have e2 : eM 30 1 (.sl (H.length + 1) 0 0 0 1) (.ro bm (dF mem)) (H ++ [⟨30, 1, []⟩, ⟨30, 1, []⟩]) = some (.sl (H.length + 1) mem.length 0 mem.length 1, H ++ [⟨30, 1, []⟩, ⟨30, 1, dF mem⟩]) := by
  have g : (H ++ [⟨30, 1, []⟩, ⟨30, 1, []⟩] : aA)[H.length + 1]? = some ⟨30, 1, []⟩ := by
   rw [List.getElem?_append_right (by omega)]; simp
  unfold eM
  simp only [g, fI, aDT, hX, List.length_nil, List.take_nil, List.nil_append, List.drop_nil, List.append_nil, Nat.zero_add]
  rw [if_pos (by refine ⟨?_, ?_, ?_, ?_, ?_⟩ <;> first | trivial | omega)]
  simp [List.set_append_right]
 refine gY ?_
 cases mem with
 | nil =>
  have q : bA Tryd.prog .eql 22 true (.ro bm (dF [])) .nils = some .anyb := by kernel_rfl
  have fx := q
  refine fZ ?_
  have hh : mY (H ++ [⟨30, 1, []⟩, ⟨30, 1, []⟩]) (H ++ [⟨30, 1, []⟩, ⟨30, 1, []⟩]) = true := aBT hH (by simp [mY, jE])
  have e3 : (H ++ [⟨30, 1, []⟩] ++ [⟨30, 1, []⟩] : aA) = H ++ [⟨30, 1, []⟩, ⟨30, 1, []⟩] := by simp
  have e4 : (H ++ [⟨30, 1, []⟩] : aA).length = H.length + 1 := by simp
  have e5 : eM 30 1 (.sl (H.length + 1) 0 0 0 1) (.ro bm (dF [])) (H ++ [⟨30, 1, []⟩, ⟨30, 1, []⟩]) = some (.sl (H.length + 1) 0 0 0 1, H ++ [⟨30, 1, []⟩, ⟨30, 1, []⟩]) := e2
  rw [e3, e4]
  refine aKi (e := .ret) (xs := [.sl (H.length + 1) 0 0 0 1]) rfl ?_ (by simp [jE, iS]) hh rfl
  refine fT ?_
  have fx := aKM e1 <| e5
  refine fZ ?_
  rfl
 | cons a l =>
  have q : bA Tryd.prog .eql 22 true (.ro bm (dF (a :: l))) .nils = some (.bool false) := by kernel_rfl
  have fx := aKM q <| aKM e1 <| e2
  refine fZ ?_
  rfl
theorem eqU (l : List Nat) : jE (dF l) (dF l) = true := wY _ (fun _ => by simp [iS]) l
theorem eqC (l : List WI) : jE (cF l) (cF l) = true := wY _ (fun _ => by simp [WI.v, iS, jE]) l
theorem aFP {p0 : ABlk} (hq : jE p0.elems p0.elems = true) (bor : Bool) (cs : List WI) (R : Nat) (M : Int) : mY (hpC p0 bor cs R M) (hpC p0 bor cs R M) = true := by
 simp [hpC, mY, jE, iS, hq, eqU, eqC]
theorem aDJ (G : aE) (k : Nat) (p0 : ABlk) (hp : aY 1 p0.elems = true) (hq : jE p0.elems p0.elems = true) (bor bm : Bool) (cs : List WI) (R : Nat) (M : Int) (fuel : Int) (mem : List Nat)
  (hR : R ≤ 1000000) (hm : ∀ x ∈ mem, x < 18446744073709551616) (hml : mem.length ≤ 1000000) (h0 : 0 ≤ fuel) (hf : fuel ≤ 99999) (hk : fuel < k + 4) (hcl : cs.length ≤ 100000) (hcs : ∀ j, j < cs.length → (cs.getD j default).Ok R cs.length) :
  ∃ s', kX cs fuel (k + 4) (s0 R mem) = some s' ∧ cU.f G (k + 5) [cV bor cs R M, .ro bm (dF mem), I6 fuel, .nilf] [p0] = some (jM s', [p0]) := by
 obtain ⟨s', hs⟩ := aAm cs fuel (k + 4) (s0 R mem) (by simp only [s0]; omega) (by simp only [s0]; omega)
 refine ⟨s', hs, ?_⟩
 rw [cU.step]
 unfold cU.c
 have hp7 : aY 7 p0.elems = true := jH (by omega) hp
 have loop := yQ G p0 hp7 bor false cs R M fuel (cU.f G (k + 4)) k hf hcl hcs (k + 4) (s0 R mem) s' hs (aIw R mem hm hml) (by simp [s0]) (by simp only [s0]; omega)
 have c5 : gD 30 1 (.int .u64 0) (I6 R) (I6 R) [p0, ⟨73, 4, [.agg [.int .i64 0, .nils, .nils, .int .i64 0]]⟩] = some (.sl 2 R 0 R 1, [p0, ⟨73, 4, [.agg [.int .i64 0, .nils, .nils, .int .i64 0]]⟩, ⟨30, 1, dF (List.replicate R 0)⟩]) := by
  unfold gD
  have : (0 : Int) ≤ R ∧ (R : Int) ≤ R ∧ (R : Int) ≤ 1099511627776 := by omega
  simp only [this, and_self, if_true, Int.toNat_natCast, dF, List.map_replicate]
  rfl
 have c8 := jK (aDb G (k + 3) (hpC p0 bor cs R M) (aFP hq bor cs R M) bm mem hml) (by simp)
 have e8 : (hpC p0 bor cs R M).length + 1 = 5 := rfl
 rw [e8] at c8
 refine gY ?_
 unfold cV
 have e9 : (hpC p0 bor cs R M ++ [⟨30, 1, []⟩, ⟨30, 1, dF mem⟩] : aA) = [p0, ⟨73, 4, [.agg [.int .i64 0, .nils, .nils, .int .i64 0]]⟩, ⟨30, 1, dF (List.replicate R 0)⟩,
  ⟨147, 9, [.agg [.ro bor (cF cs), I6 R, I6 M, .sl 2 R 0 R 1, .int .i64 0, .int .i64 0, .nils, .nils, .int .i64 0]]⟩, ⟨30, 1, []⟩, ⟨30, 1, dF mem⟩] := rfl
 rw [e9] at c8
 unfold hpC at c8
 have fx := aKM c5 <| c8
 refine fZ ?_
 refine eV1 (H1 := jQ p0 bor cs R M (s0 R mem)) (by simp only [jQ, s0, List.length_replicate]; rfl) ?_
 have e7 : (jQ p0 bor cs (R : Int) M (s0 R mem)).length = 7 := rfl
 have hl : aG G true 4 (.ptr 1 1 0 0) (hpE p0 bor cs R M s') = some (aGG s') := rfl
 have fin : xA [aG G true 4 (.ptr 1 1 0 0) (hpE p0 bor cs R M s')] 1 (hpE p0 bor cs R M s') = some (.ret, [jM s'], [p0]) := by
  have f1 := aFM (H := hpE p0 bor cs R M s') (b := 5) (n0 := 1) (d := 4) (ty := 30) rfl (by omega) (hX s'.mem) (aDT _) (iK 1 _)
  have f2 := aFM (H := hpE p0 bor cs R M s') (b := 6) (n0 := 1) (d := 4) (ty := 91) rfl (by omega) (iJ s'.leaks) (aHb _) (jR 1 _)
  have f3 : lA (hpE p0 bor cs R M s') 1 6 (aGG s') = some (jM s') :=
   aHs (by simp [aY, aT]) (qO (qL rfl 5) (qO f1 (qO f2 (qO (qL rfl 5) aGa))))
  unfold xA
  rw [hl]
  simp only [dK]
  exact aEh f3 (by show bI 1 [p0] = true; simp [bI, hp])
 simp only [xsM] at loop
 have e1 : ([p0] : aA).length = 1 := rfl
 simp only [e1]
 refine eV0 ?_
 rw [e7]
 refine eK ?_
 refine eL loop ?_
 have fx := hl
 refine fZ ?_
 exact oF fin
section
variable {bor : Bool} (G : aE) (hg : GOk G) (k : Nat) (self : cQ) (cs : List WI) (R M : Int)
def rP (M : Int) (n : Nat) (fuel : Int) : VE :=
 if (n : Int) ≠ M then .bare 1 else if fuel < 0 ∨ 1073741824 < fuel then .bare 2 else .ok
theorem aCV (bm : Bool) (mem : List Nat) (fuel : Int) (h2 : rP M mem.length fuel = .ok) : dG.f G (k + 1) [cV bor cs R M, .ro bm (dF mem), I6 fuel] [] = some (veV (rP M mem.length fuel), []) := by
 rw [dG.step]
 unfold dG.c cV
 have lc : bE (.ro bm (dF mem)) = some (I6 mem.length) := by simp [bE, hX]
 have hh : (mem.length : Int) = M ∧ 0 ≤ fuel ∧ fuel ≤ 1073741824 := by
  unfold rP at h2
  split at h2
  ·cases h2
  ·split at h2
   ·cases h2
   ·omega
 have q1 : bA Tryd.prog .neq 3 false (I6 mem.length) (I6 M) = some (.bool false) := mD hh.1
 have q2 : bA Tryd.prog .lss 2 true (I6 fuel) (.int .i64 0) = some (.bool false) := fM (by omega)
 have q3 : bA Tryd.prog .gtr 2 true (I6 fuel) (.int .i64 1073741824) = some (.bool false) := kF (by omega)
 have q4 : bA Tryd.prog .lss 3 true (I6 fuel) (.int .i64 0) = some (.bool false) := fM (by omega)
 have q5 : bA Tryd.prog .gtr 3 true (I6 fuel) (.int .i64 1073741824) = some (.bool false) := kF (by omega)
 rw [h2]
 refine gY ?_
 have fx := aKM lc <| aKM q1 <| aKM q2 <| aKM q3 <| aKM q4 <| q5
 refine fZ ?_
 exact w1 rfl rfl
end
abbrev pZ : ABlk := ⟨73, 4, [.agg [.int .i64 0, .nils, .nils, .int .i64 0]]⟩
section
variable {bor : Bool} (G : aE) (hg : GOk G) (k : Nat) (cs : List WI) (R M : Int) (bm : Bool) (mem : List Nat) (fuel : Int)
theorem tZ {v : VE} (h : v ≠ .ok) : bA Tryd.prog .neq 33 true (veV v) .nili = some (.bool true) := by
 cases v with
 | ok => exact absurd rfl h
 | bare e => kernel_rfl
 | at_ j e => kernel_rfl
include hg in
theorem aBz (hk : cs.length < k + 7) (hcl : cs.length ≤ 100000) (h : fV cs R M = .ok) (h2 : rP M mem.length fuel = .ok) (hm : ∀ x ∈ mem, x < 18446744073709551616) (hf : fuel ≤ 99999) (hk2 : fuel < k + 7) :
  ∃ s', kX cs fuel (k + 7) (s0 R.toNat mem) = some s' ∧ dN.f G (k + 9) [cV bor cs R M, .ro bm (dF mem), I6 fuel] [] = some (.tup [jM s', .nili], []) := by
 obtain ⟨⟨hR0, hR1, hM0, hM1, hcl2⟩, hok⟩ := nN h
 have hgv : (mem.length : Int) = M ∧ 0 ≤ fuel := by
  unfold rP at h2
  split at h2
  ·cases h2
  ·split at h2
   ·cases h2
   ·omega
 obtain ⟨s', w1_, w2_⟩ := aDJ G (k + 3) pZ rfl rfl bor bm cs R.toNat M fuel mem (by omega) hm (by omega) hgv.2 hf (by omega) hcl hok
 refine ⟨s', w1_, ?_⟩
 rw [dN.step]
 unfold dN.c
 have r1 : ∀ H, aW (cG.f G (k + 8)) [cV bor cs R M] H = _ := fun H => cJ (H := H) (rI G hg k cs R M hk (by omega)) (by simp [fA, bJ, lH, cV]) (nO _)
 have r2 : ∀ H, aW (dG.f G (k + 8)) [cV bor cs R M, .ro bm (dF mem), I6 fuel] H = _ := fun H => cJ (H := H) (aCV G (k + 7) cs R M bm mem fuel h2) (by simp [fA, bJ, lH, cV, xX]) (nO _)
 rw [h] at r1
 rw [h2] at r2
 have q0 : bA Tryd.prog .neq 33 true .nili .nili = some (.bool false) := by kernel_rfl
 have hRn : ((R.toNat : Nat) : Int) = R := Int.toNat_of_nonneg hR0
 rw [hRn] at w2_
 have r3 : cZ (cU.f G (k + 8)) [cV bor cs R M, .ro bm (dF mem), I6 fuel, .nilf] [pZ] = some (jM s', [pZ]) := jK w2_ (Nat.le_refl _)
 have st : gB (aV 4 (.ptr 0 1 0 0) (jM s') [pZ]) = some (.tup [], [⟨73, 4, [jM s']⟩]) := rfl
 have ld : aG G true 4 (.ptr 0 1 0 0) [⟨73, 4, [jM s']⟩] = some (jM s') := rfl
 have fin : xA [some (jM s'), some .nili] ([] : aA).length [⟨73, 4, [jM s']⟩] = some (.ret, [.tup [jM s', .nili]], []) := by
  unfold xA
  simp only [dK]
  exact jO (by simp [jM, aT, aY, iK, jR]) rfl _
 unfold cV at *
 simp only [veV] at r1 r2
 generalize jM s' = e at *
 refine gY ?_
 have fx := aKM r1 <| aKM r2 <| aKM r3 <| aKM q0 <| aKM st <| ld
 refine fZ ?_
 rw [ld]
 exact oF fin
end
theorem aHq (G : aE) (k : Nat) : cA.f G (k + 150) [] [] = some (.bool true, []) := by kernel_rfl
theorem aHC (G : aE) (k : Nat) (cs : List WI) (R M : Int) : bG.f G (k + 1) [cV false cs R M] [] = some (.bool (decide (cs.length ≤ 60 ∧ R ≤ 40)), []) := by
 rw [bG.step]
 unfold bG.c cV
 have l1 : bE (.ro false (cF cs)) = some (I6 cs.length) := by simp [bE, gQ]
 refine gY ?_
 repeat' first
  | (with_reducible first | refine eT ?_ | refine eN ?_ | refine eS ?_ | refine eXn ?_ | refine eXr ?_ | refine eX ?_ | refine eI ?_ | refine eK ?_ | refine eV0 ?_ | refine aDf ?_ | refine aHm ?_ | refine aHi ?_ | refine aHl ?_ | refine aHj ?_ | refine aHk ?_)
  | ((with_reducible apply eCn); (simp only [bV, bU]; first | done | (with_reducible exact rfl)))
  | ((with_reducible apply eJ); (rfl))
  | ((with_reducible apply aDg); (first | rfl | (simp only [bV, bU]; rfl)))
  | ((with_reducible apply eB); (first | (with_reducible exact rfl) | (simp (disch := omega) only [qf, l1]; first | done | (with_reducible exact rfl) | (with_reducible exact ⟨rfl, rfl⟩)) | (simp (disch := omega) only [qa, fX, AV.cells, bY, cH, fC, bN, cL, eH, Nat.reduceLeDiff, Nat.reduceLT, Nat.reduceAdd, ↓reduceIte, l1]; first | done | (with_reducible exact rfl) | (with_reducible exact ⟨rfl, rfl⟩))))
  | ((with_reducible apply eR); (simp only [bV, bU]; (with_reducible exact rfl)))
  | ((with_reducible first | refine aJf ?_ ?_ | refine aJk ?_ ?_ | refine aJj ?_ ?_ | refine aJi ?_ ?_ | refine aJh ?_ ?_ | refine aJg ?_ ?_ | refine aJl ?_ ?_ | refine aGJ ?_ ?_ | refine sGd ?_ ?_ | refine aFJ ?_ ?_) <;> intro hq <;> try subst hq)
 all_goals (refine w1b ?_; first | exact (decide_eq_true (by omega)).symm | exact (decide_eq_false (by omega)).symm)
theorem xP (b : Bool) {l : List Nat} {j : Nat} (h : j < l.length) : aF 1 (.ro b (bF l)) (Nn j) = some (.rp b (Nn l[j]) 0) := by
 have e : (bF l)[j]? = some (Nn l[j]) := by simp [bF, h]
 have e1 : (Nn l[j]).cells.length = 1 := rfl
 simp [aF, e, e1]
section
variable (R M : Int) (G : aE) (k : Nat) (self : cQ)
end
section
variable (G : aE) (k : Nat) (self : cQ) (ws : List WI) (R : Nat) (M : Int) (mem : List Nat) (junk : Nat) (out : List (List Nat))
theorem pU (n : Nat) : aT n (jT out) = true := by
 unfold jT
 simp only [aT]
 exact iG n _ (fun l => by simp [aT, dX]) out
end
theorem aHa (G : aE) (hg : GOk G) (k : Nat) (bor : Bool) (ws : List WI) (R M : Int) (hk : ws.length < k + 7) (hl : ws.length ≤ 100000) (h : fV ws R M ≠ .ok) :
  aZ.f G (k + 9) [cV bor ws R M] [] = some (.tup [.nils, veV (fV ws R M)], []) := by
 have r1 : ∀ H, aW (cG.f G (k + 8)) [cV bor ws R M] H = _ := fun H => cJ (H := H) (rI (bor := bor) G hg k ws R M hk (by omega)) (by simp [fA, bJ, cV, lH]) (nO _)
 have q1 : bA Tryd.prog .neq 33 true (veV (fV ws R M)) .nili = some (.bool true) := tZ h
 have b0 : ∀ H, cS (cV bor ws R M) H = some (.rp false (cV bor ws R M) 0, H) := fun H => rfl
 have l0 : ∀ H, aG G true 3 (.rp false (cV bor ws R M) 0) H = some (cV bor ws R M) := fun H => rfl
 have fin : cP [.nils, veV (fV ws R M)] 0 [] = some (.ret, [.tup [.nils, veV (fV ws R M)]], []) := kB (by simp [aT, aY, iQ, aIb]) _
 rw [aZ.step]
 unfold aZ.c
 refine gY ?_
 generalize cV bor ws R M = C at *
 generalize veV (fV ws R M) = V at *
 have fx := aKM b0 <| aKM l0 <| aKM r1 <| q1
 refine fZ ?_
 exact oF fin
section
variable (G : aE) (k : Nat) (self : cQ) (ws : List WI) (R M : Int) (mem : List Nat) (cs0 : List WI) (N : Nat)
end
theorem wI (G : aE) (k : Nat) (self : cQ) (x : Nat) : ∀ (suf pre l : List Nat) (f : Nat), l = pre ++ suf → l.length ≤ 100000 → suf.length < f →
  (x ∈ suf → ∃ j : Nat, cM (aL.l2 G k 0 self) f [.ro false (bF l), Nn x, .int .i64 0, Nn l.length, Nn pre.length] [] = some (.ret, [.ro false (bF l), Nn x, Nn j, Nn l.length, Nn j], [])) ∧
  (x ∉ suf → cM (aL.l2 G k 0 self) f [.ro false (bF l), Nn x, .int .i64 0, Nn l.length, Nn pre.length] [] = some (.exit 0, [.ro false (bF l), Nn x, .int .i64 0, Nn l.length, Nn l.length], []))
 | suf, pre, l, 0, _, _, h => by omega
 | [], pre, l, f + 1, hl, hn, hf => by
  refine ⟨fun h => by (cases h), fun _ => ?_⟩
  have e : pre = l := by rw [hl]; simp
  subst e
  have g1 : bA Tryd.prog .lss 3 false (Nn pre.length) (Nn pre.length) = some (.bool false) := fM (by omega)
  rw [aX, aL.l2]
  refine fT ?_
  refine eC (by simp [fD, aY, aT, dX, bI]; rfl) ?_
  generalize bF pre = L at *
  have fx := g1
  refine fZ ?_
  refine gJ ?_; rfl
 | y :: suf, pre, l, f + 1, hl, hn, hf => by
  have hj : pre.length < l.length := by rw [hl]; simp
  have hy : l[pre.length] = y := by simp [hl]
  have g1 : bA Tryd.prog .lss 3 false (Nn pre.length) (Nn l.length) = some (.bool true) := gA (by omega)
  have ia := xP false hj
  rw [hy] at ia
  have ld : ∀ H, aG G false 1 (.rp false (Nn y) 0) H = some (Nn y) := fun H => rfl
  have q2 : bA Tryd.prog .add 3 true (Nn pre.length) (.int .i64 1) = some (Nn (pre.length + 1 : Nat)) := jS (by omega)
  by_cases e : y = x
  ·have g2 : bA Tryd.prog .eql 3 false (Nn x) (Nn y) = some (.bool true) := iO (by rw [e])
   refine ⟨fun _ => ⟨pre.length, ?_⟩, fun h => absurd (by rw [e]; exact List.mem_cons_self ..) h⟩
   rw [aX, aL.l2]
   refine fT ?_
   refine eC (by simp [fD, aY, aT, dX, bI]; rfl) ?_
   clear hl hy
   generalize bF l = L at *
   generalize l.length = ll at *
   have fx := aKM g1 <| aKM ia <| aKM ld <| g2
   refine fZ ?_
   refine gJ ?_; rfl
  ·have g2 : bA Tryd.prog .eql 3 false (Nn x) (Nn y) = some (.bool false) := jB (by omega)
   obtain ⟨h1, h2⟩ := wI G k self x suf (pre ++ [y]) l f (by rw [hl]; simp) hn (by simp only [List.length_cons] at hf; omega)
   have el : (pre ++ [y]).length = pre.length + 1 := by simp
   rw [el] at h1 h2
   refine ⟨fun h => ?_, fun h => ?_⟩
   ·rcases List.mem_cons.1 h with h | h
    ·exact absurd h.symm e
    obtain ⟨j, ih⟩ := h1 h
    refine ⟨j, ?_⟩
    rw [aX, aL.l2]
    refine fT ?_
    refine eC (by simp [fD, aY, aT, dX, bI]; rfl) ?_
    clear h1 h2 hl hy
    generalize bF l = L at *
    generalize l.length = ll at *
    have fx := aKM g1 <| aKM ia <| aKM ld <| aKM g2 <| q2
    refine fZ ?_
    exact ih
   ·have ih := h2 fun q => h (List.mem_cons_of_mem _ q)
    rw [aX, aL.l2]
    refine fT ?_
    refine eC (by simp [fD, aY, aT, dX, bI]; rfl) ?_
    clear h1 h2 hl hy
    generalize bF l = L at *
    generalize l.length = ll at *
    have fx := aKM g1 <| aKM ia <| aKM ld <| aKM g2 <| q2
    refine fZ ?_
    exact ih
theorem zA (G : aE) (k : Nat) (l : List Nat) (x : Nat) (hl : l.length ≤ 100000) (hk : l.length < k) : aO.f G (k + 2) [.ro false (bF l), Nn x] [] = some (.bool (l.contains x), []) := by
 have lc : bE (.ro false (bF l)) = some (Nn l.length) := by simp [bE, dM]
 have pl : fA [AV.ro false (bF l), Nn x] = true := by simp [fA, bJ]; exact kD _ (fun _ => rfl) _
 obtain ⟨h1, h2⟩ := wI G k (aL.f G k) x l [] l k rfl hl hk
 rw [aO.step]
 unfold aO.c
 refine gY ?_
 by_cases h : x ∈ l
 ·obtain ⟨j, lp⟩ := h1 h
  have e : l.contains x = true := by simpa using h
  have key : aL.f G (k + 1) [.ro false (bF l), Nn x] [] = some (Nn j, []) := by
   rw [aL.step]
   unfold aL.c
   refine gY ?_
   clear h1 h2 pl
   generalize bF l = L at *
   generalize l.length = ll at *
   have fx := lc
   have lx1 := lp
   refine fZ ?_
   exact w1 rfl rfl
  have ri : ∀ H, aW (aL.f G (k + 1)) [.ro false (bF l), Nn x] H = some (Nn j, H) := fun H => cJ (H := H) key pl rfl
  have g1 : bA Tryd.prog .geq 3 true (Nn j) (.int .i64 0) = some (.bool true) := by rw [jN, decide_eq_true (by omega)]
  rw [e]
  clear h1 h2 pl key
  generalize bF l = L at *
  have fx := aKM ri <| g1
  refine fZ ?_
  exact w1b rfl
 ·have lp := h2 h
  have e : l.contains x = false := by simpa using h
  have key : aL.f G (k + 1) [.ro false (bF l), Nn x] [] = some (I6 (-1), []) := by
   rw [aL.step]
   unfold aL.c
   refine gY ?_
   clear h1 h2 pl
   generalize bF l = L at *
   generalize l.length = ll at *
   have fx := lc
   have lx1 := lp
   refine fZ ?_
   exact w1 rfl rfl
  have ri : ∀ H, aW (aL.f G (k + 1)) [.ro false (bF l), Nn x] H = some (I6 (-1), H) := fun H => cJ (H := H) key pl rfl
  have g1 : bA Tryd.prog .geq 3 true (I6 (-1)) (.int .i64 0) = some (.bool false) := by rw [jN, decide_eq_false (by omega)]
  rw [e]
  clear h1 h2 pl key
  generalize bF l = L at *
  have fx := aKM ri <| g1
  refine fZ ?_
  exact w1b rfl
theorem sL {H : aA} (hb : bI H.length H = true) {xs : List AV} (hx : aY H.length xs = true) : fD H.length xs H = some H := by
 unfold fD
 rw [List.take_length, hx, hb]; rfl
theorem xB {H : aA} (hb : bI H.length H = true) {x : AV} (hx : aT 0 x = true) : cP [x] H.length H = some (.ret, [x], H) := by
 have e := sL hb (xs := []) rfl
 have e2 : lA H H.length 6 (iQ [x]) = some x := by
  simp only [iQ]
  unfold lA
  rw [fB (Nat.zero_le _) hx]
 unfold cP
 rw [e2, e]
section
variable (G : aE) (k : Nat) (self : cQ) {H : aA} (hb : bI H.length H = true) {F : AV} (hF : aT H.length F = true) (p : Nat → Bool)
include hb hF in
theorem uM : ∀ (suf pre l : List Nat) (f : Nat), l = pre ++ suf → l.length ≤ 100000 → suf.length < f → (∀ q ∈ suf, kR (fU (aH.env G k self)) F [Nn q] H = some (.bool (p q), H)) →
  (suf.any p = true → ∃ j : Nat, cM (aH.l2 G k H.length self) f [.ro false (bF l), F, .int .i64 0, Nn l.length, Nn pre.length] H = some (.ret, [.ro false (bF l), F, Nn j, Nn l.length, Nn j], H)) ∧
  (suf.any p = false → cM (aH.l2 G k H.length self) f [.ro false (bF l), F, .int .i64 0, Nn l.length, Nn pre.length] H = some (.exit 0, [.ro false (bF l), F, .int .i64 0, Nn l.length, Nn l.length], H))
 | suf, pre, l, 0, _, _, h, _ => by omega
 | [], pre, l, f + 1, hl, hn, hf, _ => by
  refine ⟨fun h => by (cases h), fun _ => ?_⟩
  have e : pre = l := by rw [hl]; simp
  subst e
  have hc : fD H.length [.ro false (bF pre), F, .int .i64 0, Nn pre.length, Nn pre.length] H = some H := sL hb (by simp [aY, hF]; simp [aT, dX])
  have g1 : bA Tryd.prog .lss 3 false (Nn pre.length) (Nn pre.length) = some (.bool false) := fM (by omega)
  rw [aX, aH.l2]
  refine fT ?_
  refine eC hc ?_
  clear hb hF hc
  generalize bF pre = L at *
  have fx := g1
  refine fZ ?_
  refine gJ ?_; rfl
 | y :: suf, pre, l, f + 1, hl, hn, hf, hp => by
  have hj : pre.length < l.length := by rw [hl]; simp
  have hy : l[pre.length] = y := by simp [hl]
  have hc : fD H.length [.ro false (bF l), F, .int .i64 0, Nn l.length, Nn pre.length] H = some H := sL hb (by simp [aY, hF]; simp [aT, dX])
  have g1 : bA Tryd.prog .lss 3 false (Nn pre.length) (Nn l.length) = some (.bool true) := gA (by omega)
  have ia := xP false hj
  rw [hy] at ia
  have ld : ∀ H, aG G false 1 (.rp false (Nn y) 0) H = some (Nn y) := fun H => rfl
  have q2 : bA Tryd.prog .add 3 true (Nn pre.length) (.int .i64 1) = some (Nn (pre.length + 1 : Nat)) := jS (by omega)
  have cl := hp y (List.mem_cons_self ..)
  obtain ⟨h1, h2⟩ := uM suf (pre ++ [y]) l f (by rw [hl]; simp) hn (by simp only [List.length_cons] at hf; omega) (fun q hq => hp q (List.mem_cons_of_mem _ hq))
  have el : (pre ++ [y]).length = pre.length + 1 := by simp
  rw [el] at h1 h2
  cases hpy : p y with
  | true =>
   rw [hpy] at cl
   refine ⟨fun _ => ⟨pre.length, ?_⟩, fun h => by simp [List.any_cons, hpy] at h⟩
   rw [aX, aH.l2]
   refine fT ?_
   refine eC hc ?_
   clear hb hF hc h1 h2 hl hy hp
   generalize bF l = L at *
   generalize l.length = ll at *
   generalize fU (aH.env G k self) = EN at *
   have fx := aKM g1 <| aKM ia <| aKM ld <| cl
   refine fZ ?_
   refine gJ ?_; rfl
  | false =>
   rw [hpy] at cl
   refine ⟨fun h => ?_, fun h => ?_⟩
   ·obtain ⟨j, ih⟩ := h1 (by simpa [List.any_cons, hpy] using h)
    refine ⟨j, ?_⟩
    rw [aX, aH.l2]
    refine fT ?_
    refine eC hc ?_
    clear hb hF hc h1 h2 hl hy hp h
    generalize bF l = L at *
    generalize l.length = ll at *
    generalize fU (aH.env G k self) = EN at *
    have fx := aKM g1 <| aKM ia <| aKM ld <| aKM cl <| q2
    refine fZ ?_
    exact ih
   ·have ih := h2 (by simpa [List.any_cons, hpy] using h)
    rw [aX, aH.l2]
    refine fT ?_
    refine eC hc ?_
    clear hb hF hc h1 h2 hl hy hp h
    generalize bF l = L at *
    generalize l.length = ll at *
    generalize fU (aH.env G k self) = EN at *
    have fx := aKM g1 <| aKM ia <| aKM ld <| aKM cl <| q2
    refine fZ ?_
    exact ih
end
theorem wH (G : aE) (k : Nat) {H : aA} (hb : bI H.length H = true) {F : AV} (hF : aT H.length F = true) (p : Nat → Bool) (l : List Nat) (hl : l.length ≤ 100000) (hk : l.length < k)
  (hp : ∀ q ∈ l, kR (fU (aH.env G k (aH.f G k))) F [Nn q] H = some (.bool (p q), H)) :
  cZ (aM.f G (k + 2)) [.ro false (bF l), F] H = some (.bool (l.any p), H) := by
 refine jK ?_ (Nat.le_refl _)
 have lc : bE (.ro false (bF l)) = some (Nn l.length) := by simp [bE, dM]
 obtain ⟨h1, h2⟩ := uM G k (aH.f G k) hb hF p l [] l k rfl hl hk hp
 have f1 := fun (n : Int) => xB hb (x := I6 n) rfl
 have f2 := fun (b : Bool) => xB hb (x := .bool b) rfl
 rw [aM.step]
 unfold aM.c
 refine gY ?_
 cases h : l.any p with
 | true =>
  obtain ⟨j, lp⟩ := h1 h
  have key : aH.f G (k + 1) [.ro false (bF l), F] H = some (Nn j, H) := by
   rw [aH.step]
   unfold aH.c
   have f1' := f1 j
   refine gY ?_
   clear h1 h2 hp h hb hF
   generalize bF l = L at *
   generalize l.length = ll at *
   have fx := lc
   have lx1 := lp
   refine fZ ?_
   exact oF f1'
  have ri := jK key (Nat.le_refl _)
  have g1 : bA Tryd.prog .geq 3 true (Nn j) (.int .i64 0) = some (.bool true) := by rw [jN, decide_eq_true (by omega)]
  have f2' := f2 true
  clear h1 h2 hp key h hb hF
  generalize bF l = L at *
  have fx := aKM ri <| g1
  refine fZ ?_
  exact oF f2'
 | false =>
  have lp := h2 h
  have key : aH.f G (k + 1) [.ro false (bF l), F] H = some (I6 (-1), H) := by
   rw [aH.step]
   unfold aH.c
   have f1' := f1 (-1)
   refine gY ?_
   clear h1 h2 hp h hb hF
   generalize bF l = L at *
   generalize l.length = ll at *
   have fx := lc
   have lx1 := lp
   refine fZ ?_
   exact oF f1'
  have ri := jK key (Nat.le_refl _)
  have g1 : bA Tryd.prog .geq 3 true (I6 (-1)) (.int .i64 0) = some (.bool false) := by rw [jN, decide_eq_false (by omega)]
  have f2' := f2 false
  clear h1 h2 hp key h hb hF
  generalize bF l = L at *
  have fx := aKM ri <| g1
  refine fZ ?_
  exact oF f2'
def pH (ws : List WI) (out : List (List Nat)) (i : Nat) : Bool :=
 (eW (ws.getD i default).op).d && !(decide ((ws.getD i default).op = 15)) && !((kS ws i).any fun q => (out.getD q []).contains (ws.getD i default).d.toNat)
def iV (ws : List WI) (out : List (List Nat)) (i : Nat) : List Nat := (List.range i).filter (pH ws out)
theorem aDc (ws : List WI) (out : List (List Nat)) (i : Nat) : iV ws out (i + 1) = iV ws out i ++ if pH ws out i = true then [i] else [] := by
 unfold iV
 rw [List.range_succ, List.filter_append]
 congr 1
 by_cases h : pH ws out i = true <;> simp [h]
theorem zR (ws : List WI) (out : List (List Nat)) (i : Nat) : (iV ws out i).length ≤ i := by
 have := List.length_filter_le (pH ws out) (List.range i)
 simpa [iV] using this
def pA (out : List (List Nat)) (dead : List Nat) (T : aA) : aA := ⟨3, 1, []⟩ :: ⟨56, 1, [jT out]⟩ :: ⟨3, 1, bF dead⟩ :: T
theorem aHw (out : List (List Nat)) (dead : List Nat) (X : aA) {xs : List AV} (hx : aY 3 xs = true) : fD 3 xs (pA out dead X) = some (pA out dead []) := by
 have hb : bI 3 (pA out dead []) = true := by simp [pA, bI, aY, dX, pU]
 unfold fD
 have e : (pA out dead X).take 3 = pA out dead [] := rfl
 rw [e, hx, hb]; rfl
def HK (out : List (List Nat)) (dead : List Nat) (w : WI) (x : AV) : aA := pA out dead [⟨29, 6, [w.v]⟩, ⟨3, 1, [x]⟩]
def FK : AV := .fn 62 [.ptr 1 1 0 0, .ptr 4 1 0 0]
theorem aGh {out : List (List Nat)} {q : Nat} (h : q < out.length) : aF 1 (jT out) (Nn q) = some (.rp false (.ro false (bF (out.getD q []))) 0) := by
 have e : (out.map fun l => AV.ro false (bF l))[q]? = some (.ro false (bF (out.getD q []))) := by
  rw [List.getElem?_map, List.getElem?_eq_getElem h, List.getD_eq_getElem?_getD, List.getElem?_eq_getElem h]; rfl
 unfold jT
 simp [aF, e, AV.cells]
section
variable (G : aE) (k : Nat) (self : cQ)
theorem aIE (k : Nat) (self : cQ) {out : List (List Nat)} {dead : List Nat} {w : WI} {d q : Nat} (hq : q < out.length) (hl : (out.getD q []).length ≤ 10000) (hk : 10010 < k) :
  kR (fU (aH.env G k self)) FK [Nn q] (HK out dead w (Nn d)) = some (.bool ((out.getD q []).contains d), HK out dead w (Nn d)) := by
 obtain ⟨kk, rfl⟩ : ∃ kk, k = kk + 1 := ⟨k - 1, by omega⟩
 have hb : bI (HK out dead w (Nn d)).length (HK out dead w (Nn d)) = true := by
  show bI 5 _ = true
  simp [HK, pA, bI, aY, dX, pU]
  simp [WI.v, aT, aY]
 have hc := zA G (kk - 2) (out.getD q []) d (by omega) (by omega)
 rw [show kk - 2 + 2 = kk by omega] at hc
 have rc : ∀ H, aW (aO.f G kk) [.ro false (bF (out.getD q [])), Nn d] H = some (.bool ((out.getD q []).contains d), H) := fun H => cJ (H := H) hc (by simp [fA, bJ]; exact kD _ (fun _ => rfl) _) rfl
 have l1 : aG G false 1 (.ptr 1 1 0 0) (HK out dead w (Nn d)) = some (jT out) := rfl
 have l2 : aG G false 1 (.ptr 4 1 0 0) (HK out dead w (Nn d)) = some (Nn d) := rfl
 have i1 := aGh hq
 have l3 : ∀ H, aG G false 1 (.rp false (.ro false (bF (out.getD q []))) 0) H = some (.ro false (bF (out.getD q []))) := fun H => rfl
 have fin := xB hb (x := .bool ((out.getD q []).contains d)) rfl
 have key : dE.f G (kk + 1) [Nn q, .ptr 1 1 0 0, .ptr 4 1 0 0] (HK out dead w (Nn d)) = some (.bool ((out.getD q []).contains d), HK out dead w (Nn d)) := by
  rw [dE.step]
  unfold dE.c
  refine gY ?_
  clear hb hc hl hq
  generalize HK out dead w (Nn d) = H at *
  generalize bF (out.getD q []) = L at *
  generalize jT out = O at *
  have fx := aKM l1 <| aKM i1 <| aKM l3 <| aKM l2 <| rc
  refine fZ ?_
  exact oF fin
 show cZ (dE.f G (kk + 1)) ([Nn q] ++ [.ptr 1 1 0 0, .ptr 4 1 0 0]) _ = _
 exact jK key (Nat.le_refl _)
def xsD (C : AV) (is_ : AV) (n m i : Nat) : List AV := [.rp false C 0, .ptr 1 1 0 0, .sl 2 m 0 m 1, is_, Nn n, Nn i]
theorem aJy (out : List (List Nat)) (dead : List Nat) (x : Nat) (T : aA) (hl : dead.length ≤ 100000) : eM 3 1 (.sl 2 dead.length 0 dead.length 1) (.ro false [Nn x]) (pA out dead T) = some (.sl 2 (dead ++ [x]).length 0 (dead ++ [x]).length 1, pA out (dead ++ [x]) T) := by
 have e : (pA out dead T)[2]? = some ⟨3, 1, bF dead⟩ := rfl
 have e1 : fI (.ro false [Nn x]) (pA out dead T) = some [Nn x] := rfl
 unfold eM
 simp only [e, e1, dM]
 rw [if_pos (by refine ⟨?_, ?_, ?_, ?_, ?_⟩ <;> first | trivial | rfl | (show dead.length + 1 ≤ _; omega))]
 have e2 : (bF dead).take dead.length = bF dead := List.take_of_length_le (by rw [dM]; exact Nat.le_refl _)
 have e3 : (bF dead).drop (dead.length + [Nn x].length) = [] := List.drop_of_length_le (by rw [dM]; exact Nat.le_add_right _ _)
 have e4 : bF dead ++ [Nn x] = bF (dead ++ [x]) := by simp [bF]
 rw [e2, e3, List.append_nil, e4, dM, List.length_append]
 rfl
variable (bor : Bool) (ws : List WI) (R : Nat) (M : Int) (out : List (List Nat))
theorem zS (hgood : ∀ w ∈ ws, w.Good R ws.length) (hn : ws.length ≤ 1000) (ho : out.length = ws.length) (hrow : ∀ q, (out.getD q []).length ≤ 10000) (hk : 12000 ≤ k) : ∀ (d i f : Nat) (X : aA), i + d = ws.length → d < f →
  cM (cX.l6 G k 3 self) f (xsD (cV bor ws R M) (.ro bor (cF ws)) ws.length (iV ws out i).length i) (pA out (iV ws out i) X) = some (.exit 0, xsD (cV bor ws R M) (.ro bor (cF ws)) ws.length (iV ws out ws.length).length ws.length, pA out (iV ws out ws.length) [])
 | d, i, 0, X, _, h => by omega
 | d, i, f + 1, X, hd, hf => by
  have hx : aY 3 (xsD (cV bor ws R M) (.ro bor (cF ws)) ws.length (iV ws out i).length i) = true := by simp [xsD, aY, aT, cV, fK]
  have hc := aHw out (iV ws out i) X hx
  match d, hd, hf with
  | 0, hd, hf =>
   have e : i = ws.length := by omega
   subst e
   have g1 : bA Tryd.prog .lss 3 false (Nn ws.length) (Nn ws.length) = some (.bool false) := fM (by omega)
   rw [aX, cX.l6]
   refine fT ?_
   refine eC hc ?_
   unfold xsD
   generalize cV bor ws R M = C at *
   generalize cF ws = WS at *
   have fx := g1
   refine fZ ?_
   refine gJ ?_; rfl
  | d + 1, hd, hf =>
   have hi : i < ws.length := by omega
   have g1 : bA Tryd.prog .lss 3 false (Nn i) (Nn ws.length) = some (.bool true) := gA (by omega)
   have q2 : bA Tryd.prog .add 3 true (Nn i) (.int .i64 1) = some (Nn (i + 1 : Nat)) := jS (by omega)
   have ia := zY bor ws i hi
   obtain ⟨w, hw⟩ : ∃ w, w = ws.getD i default := ⟨_, rfl⟩
   rw [← hw] at ia
   have hmem : w ∈ ws := by rw [hw, List.getD_eq_getElem?_getD, List.getElem?_eq_getElem hi]; exact List.getElem_mem hi
   have hg := hgood w hmem
   have li := fun H => aCd G bor w H
   have hD := aDc ws out i
   obtain ⟨D, hDe⟩ : ∃ D, D = iV ws out i := ⟨_, rfl⟩
   have hDl : D.length ≤ i := by rw [hDe]; exact zR ws out i
   rw [← hDe] at hc hD ⊢
   have hWr := uO G (k - 6) w.op w.d w.a w.b w.c w.k []
   rw [show k - 6 + 6 = k by omega] at hWr
   have rw_ : ∀ H, aW (dD.f G k) [w.v] H = some (.tup [I6 (if (eW w.op).d = true then w.d else 0), .bool (eW w.op).d], H) := fun H => cJ (H := H) hWr rfl rfl
   have hNx := wK G (k - 20) bor ws R M (i : Int) (by omega) (by omega)
   rw [show k - 20 + 20 = k by omega, if_pos ⟨by omega, by omega⟩, Int.toNat_natCast] at hNx
   obtain ⟨n1, n2, n3, n4, n5⟩ := iN ws i
   rw [n3] at hNx
   have rn : ∀ H, aW (bZ.f G k) [cV bor ws R M, Nn i] H = some (.ro false (bF (kS ws i)), H) := fun H => cJ (H := H) hNx (by simp [fA, bJ, cV, lH]) (by simp [fE]; exact iH _ (fun _ => rfl) _)
   have bx : eO 29 (.agg [.int .i64 0, .int .i64 0, .int .i64 0, .int .i64 0, .int .i64 0, .int .i64 0]) (pA out D []) = some (.ptr 3 1 0 0, pA out D [⟨29, 6, [WI.v ⟨0, 0, 0, 0, 0, 0⟩]⟩]) := rfl
   have s0_ : gB (aV 6 (.ptr 3 1 0 0) w.v (pA out D [⟨29, 6, [WI.v ⟨0, 0, 0, 0, 0, 0⟩]⟩])) = some (.tup [], pA out D [⟨29, 6, [w.v]⟩]) := rfl
   have lw : aG G true 6 (.ptr 3 1 0 0) (pA out D [⟨29, 6, [w.v]⟩]) = some w.v := rfl
   have fa0 : aB 0 (.ptr 3 1 0 0) = some (.ptr 3 1 0 0) := rfl
   have bx2 : eO 3 (.int .i64 0) (pA out D [⟨29, 6, [w.v]⟩]) = some (.ptr 4 1 0 0, HK out D w (.int .i64 0)) := rfl
   have s1 : ∀ x : Int, gB (aV 1 (.ptr 4 1 0 0) (I6 x) (HK out D w (.int .i64 0))) = some (.tup [], HK out D w (I6 x)) := fun x => rfl
   have lo : ∀ x, aG G false 1 (.ptr 3 1 0 0) (HK out D w x) = some (I6 w.op) := fun x => rfl
   have ldC : ∀ H, aG G true 3 (.rp false (cV bor ws R M) 0) H = some (cV bor ws R M) := fun H => rfl
   have ihE := zS hgood hn ho hrow hk d (i + 1) f
   rw [hD] at ihE
   rw [aX, cX.l6]
   refine fT ?_
   refine eC hc ?_
   have hdq : pH ws out i = ((eW w.op).d && !(decide (w.op = 15)) && !((kS ws i).any fun q => (out.getD q []).contains w.d.toNat)) := by rw [hw]; rfl
   cases hfd : (eW w.op).d with
   | false =>
    have e0 : pH ws out i = false := by rw [hdq, hfd]; rfl
    rw [e0] at ihE
    simp only [Bool.false_eq_true, if_false, List.append_nil] at ihE
    have ih := ihE (⟨29, 6, [w.v]⟩ :: [⟨3, 1, [.int .i64 0]⟩]) (by omega) (by omega)
    rw [hfd] at rw_
    simp only [Bool.false_eq_true, if_false] at rw_
    have s1' := s1 0
    replace ih : cM (cX.l6 G k 3 self) f (xsD (cV bor ws R M) (.ro bor (cF ws)) ws.length D.length (i + 1)) (HK out D w (I6 0)) = _ := ih
    clear hc hD ihE hdq hNx hWr n5 n3 hx
    unfold xsD at ih ⊢
    generalize HK out D w (I6 0) = h2 at *
    generalize HK out D w (.int .i64 0) = h1 at *
    generalize pA out D [⟨29, 6, [w.v]⟩] = h3 at *
    generalize pA out D [] = h4 at *
    generalize w.v = wv at *
    generalize cV bor ws R M = C at *
    generalize cF ws = WS at *
    have fx := aKM g1 <| aKM ia <| aKM li <| aKM bx <| aKM s0_ <| aKM lw <| aKM rw_ <| aKM bx2 <| aKM s1' <| q2
    refine fZ ?_
    exact ih
   | true =>
    rw [hfd] at rw_ hdq
    simp only [if_true] at rw_
    by_cases h15 : w.op = 15
    ·have e0 : pH ws out i = false := by rw [hdq, decide_eq_true h15]; rfl
     rw [e0] at ihE
     simp only [Bool.false_eq_true, if_false, List.append_nil] at ihE
     have ih := ihE (⟨29, 6, [w.v]⟩ :: [⟨3, 1, [I6 w.d]⟩]) (by omega) (by omega)
     have s1' := s1 w.d
     have lo' := lo (I6 w.d)
     have q3 : bA Tryd.prog .eql 3 true (I6 w.op) (.int .i64 15) = some (.bool true) := iO h15
     replace ih : cM (cX.l6 G k 3 self) f (xsD (cV bor ws R M) (.ro bor (cF ws)) ws.length D.length (i + 1)) (HK out D w (I6 w.d)) = _ := ih
     clear hc hD ihE hdq hNx hWr n5 n3 hx lo s1
     unfold xsD at ih ⊢
     generalize HK out D w (I6 w.d) = h2 at *
     generalize HK out D w (.int .i64 0) = h1 at *
     generalize pA out D [⟨29, 6, [w.v]⟩] = h3 at *
     generalize pA out D [] = h4 at *
     generalize w.v = wv at *
     generalize cV bor ws R M = C at *
     generalize cF ws = WS at *
     have fx := aKM g1 <| aKM ia <| aKM li <| aKM bx <| aKM s0_ <| aKM lw <| aKM rw_ <| aKM bx2 <| aKM s1' <| aKM q2 <| aKM fa0 <| aKM lo' <| q3
     refine fZ ?_
     exact ih
    ·have q3 : bA Tryd.prog .eql 3 true (I6 w.op) (.int .i64 15) = some (.bool false) := jB h15
     have hdn : 0 ≤ w.d := by
      have hop := hg.ok2.ok.op
      by_cases h16 : w.op ≤ 15
      ·exact (hg.ok2.ok.d (by omega)).1
      ·rw [xJ (by omega)] at hfd; cases hfd
     obtain ⟨dn, hdn2⟩ : ∃ dn : Nat, w.d = dn := ⟨w.d.toNat, by omega⟩
     rw [hdn2] at rw_ hdq
     rw [Int.toNat_natCast] at hdq
     have s1' := s1 dn
     have lo' := lo (I6 dn)
     have hbK : bI (HK out D w (Nn dn)).length (HK out D w (Nn dn)) = true := by
      show bI 5 _ = true
      simp [HK, pA, bI, aY, dX, pU]
      simp [WI.v, aT, aY]
     have cf := wH G (k - 2) hbK (F := FK) (by show aT 5 FK = true; rfl) (fun q => (out.getD q []).contains dn) (kS ws i) (by omega) (by omega)
      (fun q hq => aIE G _ _ (by rw [ho]; exact n1 q hq) (hrow q) (by omega))
     rw [show k - 2 + 2 = k by omega] at cf
     replace cf : cZ (aM.f G k) [.ro false (bF (kS ws i)), .fn 62 [.ptr 1 1 0 0, .ptr 4 1 0 0]] (HK out D w (I6 dn)) = some (.bool ((kS ws i).any fun q => (out.getD q []).contains dn), HK out D w (I6 dn)) := cf
     cases hany : (kS ws i).any fun q => (out.getD q []).contains dn with
     | true =>
      rw [hany] at cf hdq
      have e0 : pH ws out i = false := by rw [hdq, decide_eq_false h15]; rfl
      rw [e0] at ihE
      simp only [Bool.false_eq_true, if_false, List.append_nil] at ihE
      have ih := ihE (⟨29, 6, [w.v]⟩ :: [⟨3, 1, [I6 dn]⟩]) (by omega) (by omega)
      replace ih : cM (cX.l6 G k 3 self) f (xsD (cV bor ws R M) (.ro bor (cF ws)) ws.length D.length (i + 1)) (HK out D w (I6 dn)) = _ := ih
      clear hc hD ihE hdq hNx hWr n5 n3 hx lo s1 hbK
      unfold xsD at ih ⊢
      generalize HK out D w (I6 dn) = h2 at *
      generalize HK out D w (.int .i64 0) = h1 at *
      generalize pA out D [⟨29, 6, [w.v]⟩] = h3 at *
      generalize pA out D [] = h4 at *
      generalize w.v = wv at *
      generalize cV bor ws R M = C at *
      generalize cF ws = WS at *
      have fx := aKM g1 <| aKM ia <| aKM li <| aKM bx <| aKM s0_ <| aKM lw <| aKM rw_ <| aKM bx2 <| aKM s1' <| aKM q2 <| aKM fa0 <| aKM lo' <| aKM q3 <| aKM ldC <| aKM rn <| cf
      refine fZ ?_
      exact ih
     | false =>
      rw [hany] at cf hdq
      have e0 : pH ws out i = true := by rw [hdq, decide_eq_false h15]; rfl
      rw [e0, if_pos rfl] at ihE
      have ih := ihE (⟨29, 6, [w.v]⟩ :: [⟨3, 1, [I6 dn]⟩]) (by omega) (by omega)
      have br : ∀ H, bN 1 1 (.int .i64 0) [(0, Nn i)] H = some (.ro false [Nn i], H) := fun H => rfl
      have ap := aJy out D i [⟨29, 6, [w.v]⟩, ⟨3, 1, [I6 dn]⟩] (by omega)
      replace ap : eM 3 1 (.sl 2 D.length 0 D.length 1) (.ro false [Nn i]) (HK out D w (I6 dn)) = some (.sl 2 (D ++ [i]).length 0 (D ++ [i]).length 1, HK out (D ++ [i]) w (I6 dn)) := ap
      replace ih : cM (cX.l6 G k 3 self) f (xsD (cV bor ws R M) (.ro bor (cF ws)) ws.length (D ++ [i]).length (i + 1)) (HK out (D ++ [i]) w (I6 dn)) = _ := ih
      clear hc hD ihE hdq hNx hWr n5 n3 hx lo s1 hbK
      unfold xsD at ih ⊢
      generalize HK out (D ++ [i]) w (I6 dn) = h5 at *
      generalize HK out D w (I6 dn) = h2 at *
      generalize HK out D w (.int .i64 0) = h1 at *
      generalize pA out D [⟨29, 6, [w.v]⟩] = h3 at *
      generalize pA out D [] = h4 at *
      generalize w.v = wv at *
      generalize cV bor ws R M = C at *
      generalize cF ws = WS at *
      generalize (D ++ [i]).length = DL at *
      have fx := aKM g1 <| aKM ia <| aKM li <| aKM bx <| aKM s0_ <| aKM lw <| aKM rw_ <| aKM bx2 <| aKM s1' <| aKM q2 <| aKM fa0 <| aKM lo' <| aKM q3 <| aKM ldC <| aKM rn <| aKM cf <| aKM br <| ap
      refine fZ ?_
      exact ih
theorem aEI (hg : GOk G) (hv : fV ws R M = .ok) (hn : ws.length ≤ 1000) (hR : R ≤ 1000) (hk : 12000 ≤ k) (hI : aZ.f G k [cV bor ws R M] [] = some (.tup [jT out, .nili], [])) (hP : Part ws.length (pW ws) (kS ws) (wrN ws) R out) :
  cX.f G (k + 1) [cV bor ws R M] [] = some (.tup [.ro false (bF (iV ws out ws.length)), .nili], []) := by
 have hgood := mG hv
 rw [Int.toNat_natCast] at hgood
 have co : fE (jT out) = true := by
  unfold jT
  simp only [fE]
  exact iH _ (fun l => by simp [fE]; exact iH _ (fun _ => rfl) _) out
 have ri : ∀ H, aW (aZ.f G k) [cV bor ws R M] H = _ := fun H => cJ (H := H) hI (by simp [fA, bJ, cV, lH]) (by simp [fE, gP, co])
 have b0 : ∀ H, cS (cV bor ws R M) H = some (.rp false (cV bor ws R M) 0, H) := fun H => rfl
 have l0 : ∀ H, aG G true 3 (.rp false (cV bor ws R M) 0) H = some (cV bor ws R M) := fun H => rfl
 have f0 : aB 0 (.rp false (cV bor ws R M) 0) = some (.rp false (cV bor ws R M) 0) := rfl
 have lI : ∀ H, aG G false 1 (.rp false (cV bor ws R M) 0) H = some (.ro bor (cF ws)) := fun H => rfl
 have ln : bE (.ro bor (cF ws)) = some (Nn ws.length) := by simp [bE, gQ]
 have bx : eO 56 .nils [⟨3, 1, []⟩] = some (.ptr 1 1 0 0, [⟨3, 1, []⟩, ⟨56, 1, [.nils]⟩]) := rfl
 have s1 : gB (aV 1 (.ptr 1 1 0 0) (jT out) [⟨3, 1, []⟩, ⟨56, 1, [.nils]⟩]) = some (.tup [], [⟨3, 1, []⟩, ⟨56, 1, [jT out]⟩]) := rfl
 have q1 : bA Tryd.prog .neq 33 true .nili .nili = some (.bool false) := by kernel_rfl
 obtain ⟨self, hself⟩ : ∃ self, self = cX.f G k := ⟨_, rfl⟩
 have hrow : ∀ q, (out.getD q []).length ≤ 10000 := fun q => by
  have hnd : (out.getD q []).Nodup := (hP.up q).imp (fun h => Nat.ne_of_lt h)
  have := List.Nodup.length_le_of_subset hnd (l₂ := List.range R) (fun x hx => by simpa using hP.low q x hx)
  have : (out.getD q []).length ≤ R := by simpa using this
  omega
 have lp := zS G k self bor ws R M out hgood hn hP.len hrow hk ws.length 0 k [] (by omega) (by omega)
 replace lp : cM (cX.l6 G k ([⟨3, 1, []⟩, ⟨56, 1, [jT out]⟩, ⟨3, 1, []⟩] : aA).length self) k (xsD (cV bor ws R M) (.ro bor (cF ws)) ws.length 0 0) [⟨3, 1, []⟩, ⟨56, 1, [jT out]⟩, ⟨3, 1, []⟩] = _ := lp
 obtain ⟨D, hD⟩ : ∃ D, D = iV ws out ws.length := ⟨_, rfl⟩
 rw [← hD] at lp ⊢
 have fin : cP [.sl 2 D.length 0 D.length 1, .nili] 0 (pA out D []) = some (.ret, [.tup [.ro false (bF D), .nili]], []) := by
  have e1 : fI (.sl 2 D.length 0 D.length 1) (pA out D []) = some (bF D) := by
   have : (pA out D [])[2]? = some ⟨3, 1, bF D⟩ := rfl
   simp only [fI, this, dM, if_true, List.drop_zero]
   rw [List.take_of_length_le (by rw [dM]; exact Nat.le_refl _)]
  have e2 : kW (oR (lA (pA out D []) 0 4)) (bF D) = some (bF D) := nH fun x h => qI (jZ (dX 0 _) x h)
  have e3 : lA (pA out D []) 0 5 (.sl 2 D.length 0 D.length 1) = some (.ro false (bF D)) := by
   unfold lA
   simp only [aT, e1, aCk, e2]
   rfl
  have e5 : lA (pA out D []) 0 6 (iQ [.sl 2 D.length 0 D.length 1, .nili]) = some (.tup [.ro false (bF D), .nili]) := by
   have hb : aT 0 (AV.tup [.sl 2 D.length 0 D.length 1, .nili]) = false := by simp [aT, aY]
   have hn : lA (pA out D []) 0 5 .nili = some .nili := by unfold lA; simp [aT]
   simp only [iQ]
   unfold lA
   simp only [hb, kW, e3, hn]
  unfold cP
  rw [e5, qH]
 rw [cX.step]
 unfold cX.c
 rw [← hself]
 refine gY ?_
 unfold xsD at lp
 clear hI hP hrow hgood co hself
 generalize cV bor ws R M = C at *
 generalize cF ws = WS at *
 generalize jT out = O at *
 generalize pA out D [] = HD at *
 have fx := aKM b0 <| aKM l0 <| aKM ri <| aKM bx <| aKM s1 <| aKM q1 <| aKM f0 <| aKM lI <| ln
 have lx1 := lp
 refine fZ ?_
 exact oF fin
end
end Go.Proofs.YtlkgkfgkiidhdaaDoor.Mir
