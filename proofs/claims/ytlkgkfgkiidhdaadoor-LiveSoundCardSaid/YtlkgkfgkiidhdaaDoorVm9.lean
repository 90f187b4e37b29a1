/- Part 9 of the proof: what these functions do. -/
import Derived.Test.YtlkgkfgkiidhdaaDoorVm8
import Derived.KernelRfl
namespace Go.Proofs.YtlkgkfgkiidhdaaDoor.Mir
open Go
set_option linter.unusedSimpArgs false
set_option linter.unusedVariables false
set_option maxHeartbeats 8000000
set_option maxRecDepth 20000
def Fol (w : WI) (p q : Nat) : Prop := (w.op ≠ 17 ∧ w.op ≠ 20 ∧ q = p + 1) ∨ ((w.op = 17 ∨ w.op = 18 ∨ w.op = 19) ∧ q = w.k.toNat)
structure LvC (cs : List WI) (L : Nat → Nat → Prop) : Prop where
 a : ∀ p w, cs[p]? = some w → (eA w.op).a = true → L w.a.toNat p
 b : ∀ p w, cs[p]? = some w → (eA w.op).b = true → L w.b.toNat p
 c : ∀ p w, cs[p]? = some w → (eA w.op).c = true → L w.c.toNat p
 up : ∀ p w q x, cs[p]? = some w → q < cs.length → Fol w p q → L x q → ¬ ((eA w.op).d = true ∧ w.d.toNat = x) → L x p
def brW (w : WI) : Prop := w.op = 17 ∨ w.op = 18 ∨ w.op = 19
instance (w : WI) : Decidable (brW w) := by unfold brW; infer_instance
def mvW (ps : Nat → Nat) (w : WI) : WI := if brW w then { w with k := (ps w.k.toNat : Int) } else w
structure SR (cs : List WI) (L : Nat → Nat → Prop) (R : Nat) (ps : Nat → Nat) (s t : MS) : Prop where
 at_ : t.at_ = ps s.at_
 mem : t.mem = s.mem
 code : t.code = s.code
 len : s.regs.length = R
 len2 : R ≤ t.regs.length
 ag : s.at_ < cs.length → ∀ x, x < R → L x s.at_ → t.regs.getD x 0 = s.regs.getD x 0
 le : s.at_ ≤ cs.length
section
variable {cs : List WI} {L : Nat → Nat → Prop} {R : Nat} {ps : Nat → Nat} (hL : LvC cs L)
structure St2 (cs : List WI) (L : Nat → Nat → Prop) (R : Nat) (ps : Nat → Nat) (s t : MS) (go : Bool) (s2 t2 : MS) : Prop where
 run : go = true → SR cs L R ps s2 t2
 mem : t2.mem = s2.mem
 code : t2.code = s2.code
 st : s2.steps = s.steps + 1
 st2 : t2.steps = t.steps + 1
 lk : t.leaks = s.leaks → ps s.at_ = s.at_ → t2.leaks = s2.leaks
 tl : t2.regs.length = t.regs.length
include hL in
theorem rL {p q : Nat} {w : WI} {r r2 r' r2' : List Nat} (hi : cs[p]? = some w) (hf : q < cs.length → Fol w p q) (hr : ∀ x, x < R → ¬ ((eA w.op).d = true ∧ w.d.toNat = x) → r'.getD x 0 = r.getD x 0 ∧ r2'.getD x 0 = r2.getD x 0)
  (hd : (eA w.op).d = true → w.d.toNat < R → r2'.getD w.d.toNat 0 = r'.getD w.d.toNat 0) (hag : ∀ x, x < R → L x p → r2.getD x 0 = r.getD x 0) : q < cs.length → ∀ x, x < R → L x q → r2'.getD x 0 = r'.getD x 0 := by
 intro hq x hx hl
 by_cases e : (eA w.op).d = true ∧ w.d.toNat = x
 ·obtain ⟨e1, rfl⟩ := e
  exact hd e1 hx
 ·obtain ⟨h1, h2⟩ := hr x hx e
  rw [h1, h2]
  exact hag x hx (hL.up p w q x hi hq (hf hq) hl e)
theorem aHp {op : Int} (h : (1 ≤ op ∧ op ≤ 14) ∨ op = 15) : (eA op).d = true := by
 have : op = 1 ∨ op = 2 ∨ op = 3 ∨ op = 4 ∨ op = 5 ∨ op = 6 ∨ op = 7 ∨ op = 8 ∨ op = 9 ∨ op = 10 ∨ op = 11 ∨ op = 12 ∨ op = 13 ∨ op = 14 ∨ op = 15 := by omega
 rcases this with rfl | rfl | rfl | rfl | rfl | rfl | rfl | rfl | rfl | rfl | rfl | rfl | rfl | rfl | rfl <;> rfl
theorem aFM {op : Int} (h : 16 ≤ op ∧ op ≤ 20) : (eA op).d = false := by
 have : op = 16 ∨ op = 17 ∨ op = 18 ∨ op = 19 ∨ op = 20 := by omega
 rcases this with rfl | rfl | rfl | rfl | rfl <;> rfl
include hL in
theorem aFb {s t : MS} {w : WI} {N : Nat} (hi : cs[s.at_]? = some w) (hw : w.Good R cs.length) (h : SR cs L R ps s t) (hps : ps (s.at_ + 1) = ps s.at_ + 1) :
  ∃ go s2 t2, MS.step (MS.tick s) w = (s2, go) ∧ MS.step (MS.tick t) (mvW ps w) = (t2, go) ∧ St2 cs L R ps s t go s2 t2 := by
 obtain ⟨r, p, cd, mem, lk, st⟩ := s
 obtain ⟨r2, p2, cd2, kZ, lk2, st2⟩ := t
 obtain ⟨h1, h2, h3, h4, h5, h6, h7⟩ := h
 simp only at h1 h2 h3 h4 h5 h6 h7 hps hi
 subst h1 h2 h3
 have hp : p < cs.length := (List.getElem?_eq_some_iff.1 hi).1
 have hag := h6 hp
 obtain ⟨op, d, a, b, c, k⟩ := w
 have ok := hw.ok2.ok
 have hop := ok.op
 simp only at hop
 have ea : (eA op).a = true → 0 ≤ a ∧ a < R → r2.getD a.toNat 0 = r.getD a.toNat 0 := fun q ha => hag a.toNat (by omega) (hL.a p _ hi q)
 have eb : (eA op).b = true → 0 ≤ b ∧ b < R → r2.getD b.toNat 0 = r.getD b.toNat 0 := fun q ha => hag b.toNat (by omega) (hL.b p _ hi q)
 have ec : (eA op).c = true → 0 ≤ c ∧ c < R → r2.getD c.toNat 0 = r.getD c.toNat 0 := fun q ha => hag c.toNat (by omega) (hL.c p _ hi q)
 have setr : ∀ (l : List Nat) (v : Nat), R ≤ l.length → 0 ≤ d ∧ d < R → ∀ x, ¬ (d.toNat = x) → (l.set d.toNat v).getD x 0 = l.getD x 0 := fun l v hl hd x hx => by
  rw [fR _ _ _ _ (by omega), if_neg hx]
 by_cases o1 : op ≤ 14
 ·have ra := ok.a (by simp only; omega) (by simp only; omega)
  have rb := ok.b (by simp only; omega)
  have rc := ok.c (by simp only; omega)
  have rd := ok.d (by simp only; omega)
  simp only at ra rb rc rd
  have hm : mvW ps ⟨op, d, a, b, c, k⟩ = ⟨op, d, a, b, c, k⟩ := if_neg (by unfold brW; simp only; omega)
  have hk : 10 ≤ op → op ≤ 12 → 0 ≤ k ∧ k ≤ 63 := fun x y => hw.ok2.sh x y
  have hs := xR (r := r) (p := p) (cd := cd2) (mem := kZ) (lk := lk) (st := st) (d := d) (a := a) (b := b) (c := c) (k := k) (op := op) ⟨hop.1, o1⟩ (aAX ⟨hop.1, o1⟩ hk)
  have ht := xR (r := r2) (p := ps p) (cd := cd2) (mem := kZ) (lk := lk2) (st := st2) (d := d) (a := a) (b := b) (c := c) (k := k) (op := op) ⟨hop.1, o1⟩ (aAX ⟨hop.1, o1⟩ hk)
  have hv : kA op k (xH r2 a) (xH r2 b) (xH r2 c) = kA op k (xH r a) (xH r b) (xH r c) := aFe ⟨hop.1, o1⟩ k (fun q => ea q ra) (fun q => eb q rb) (fun q => ec q rc)
  rw [hv] at ht
  rw [hm]
  refine ⟨true, _, _, hs, ht, fun _ => ⟨hps.symm, rfl, rfl, by simp [h4], by simp [h5], ?_, hp⟩, rfl, rfl, rfl, rfl, fun e1 e2 => by simp only at e1 e2 ⊢; rw [e1, e2], by simp⟩
  refine rL hL hi (fun _ => .inl ⟨by simp only; omega, by simp only; omega, rfl⟩) (fun x hx hn => ?_) (fun _ _ => ?_) hag
  ·have hn' : ¬ d.toNat = x := fun e => hn ⟨aHp (.inl ⟨hop.1, o1⟩), e⟩
   exact ⟨setr r _ (by omega) rd x hn', setr r2 _ h5 rd x hn'⟩
  ·simp only
   rw [fR _ _ _ _ (by omega), fR _ _ _ _ (by omega), if_pos rfl, if_pos rfl]
 by_cases o2 : op = 15 ∨ op = 16
 ·have ra := ok.a (by simp only; omega) (by simp only; omega)
  have rb := ok.b (by simp only; omega)
  have rd := ok.d (by simp only; omega)
  simp only at ra rb rd
  have hm : mvW ps ⟨op, d, a, b, c, k⟩ = ⟨op, d, a, b, c, k⟩ := if_neg (by unfold brW; simp only; omega)
  have hfa : (eA op).a = true := by rcases o2 with rfl | rfl <;> rfl
  have hea := ea hfa ra
  obtain ⟨y, hy⟩ : ∃ y, (xH r a + u64 k) % 18446744073709551616 = y := ⟨_, rfl⟩
  have hy2 : (xH r2 a + u64 k) % 18446744073709551616 = y := by show (r2.getD a.toNat 0 + _) % _ = y; rw [hea]; exact hy
  rw [hm]
  by_cases hmm : kZ.length ≤ y
  ·have hs := aGC (r := r) (p := p) (cd := cd2) (mem := kZ) (lk := lk) (st := st) (d := d) (a := a) (b := b) (c := c) (k := k) o2 hy hmm
   have ht := aGC (r := r2) (p := ps p) (cd := cd2) (mem := kZ) (lk := lk2) (st := st2) (d := d) (a := a) (b := b) (c := c) (k := k) o2 hy2 hmm
   exact ⟨false, _, _, hs, ht, fun q => (by cases q), rfl, rfl, rfl, rfl, fun e1 e2 => by simp only at e1 e2 ⊢; rw [e1, e2], rfl⟩
  ·rcases o2 with rfl | rfl
   ·have hs := aIq (r := r) (p := p) (cd := cd2) (mem := kZ) (lk := lk) (st := st) (d := d) (a := a) (b := b) (c := c) (k := k) hy (by omega)
    have ht := aIq (r := r2) (p := ps p) (cd := cd2) (mem := kZ) (lk := lk2) (st := st2) (d := d) (a := a) (b := b) (c := c) (k := k) hy2 (by omega)
    refine ⟨true, _, _, hs, ht, fun _ => ⟨hps.symm, rfl, rfl, by simp [h4], by simp [h5], ?_, hp⟩, rfl, rfl, rfl, rfl, fun e1 e2 => by simp only at e1 e2 ⊢; rw [e1, e2], by simp⟩
    refine rL hL hi (fun _ => .inl ⟨by simp, by simp, rfl⟩) (fun x hx hn => ?_) (fun _ _ => ?_) hag
    ·have hn' : ¬ d.toNat = x := fun e => hn ⟨rfl, e⟩
     exact ⟨setr r _ (by omega) rd x hn', setr r2 _ h5 rd x hn'⟩
    ·simp only
     rw [fR _ _ _ _ (by omega), fR _ _ _ _ (by omega), if_pos rfl, if_pos rfl]
   ·have heb := eb rfl rb
    have hs := aIr (r := r) (p := p) (cd := cd2) (mem := kZ) (lk := lk) (st := st) (d := d) (a := a) (b := b) (c := c) (k := k) hy (by omega)
    have ht := aIr (r := r2) (p := ps p) (cd := cd2) (mem := kZ) (lk := lk2) (st := st2) (d := d) (a := a) (b := b) (c := c) (k := k) hy2 (by omega)
    have he : kZ.set y (xH r2 b) = kZ.set y (xH r b) := by show kZ.set y (r2.getD _ 0) = _; rw [heb]
    rw [he] at ht
    refine ⟨true, _, _, hs, ht, fun _ => ⟨hps.symm, rfl, rfl, h4, h5, ?_, hp⟩, rfl, rfl, rfl, rfl, fun e1 e2 => by simp only at e1 e2 ⊢; rw [e1, e2], rfl⟩
    exact rL hL hi (fun _ => .inl ⟨by simp, by simp, rfl⟩) (fun x hx hn => ⟨rfl, rfl⟩) (fun q _ => by cases q) hag
 by_cases o3 : op = 20
 ·subst o3
  have hm : mvW ps ⟨20, d, a, b, c, k⟩ = ⟨20, d, a, b, c, k⟩ := if_neg (by unfold brW; simp only; omega)
  have hs := aGD (r := r) (p := p) (cd := cd2) (mem := kZ) (lk := lk) (st := st) (d := d) (a := a) (b := b) (c := c) (k := k)
  have ht := aGD (r := r2) (p := ps p) (cd := cd2) (mem := kZ) (lk := lk2) (st := st2) (d := d) (a := a) (b := b) (c := c) (k := k)
  rw [hm]
  exact ⟨false, _, _, hs, ht, fun q => (by cases q), rfl, rfl, rfl, rfl, fun e1 e2 => by simp only at e1 e2 ⊢; rw [e1, e2], rfl⟩
 have o4 : op = 17 ∨ op = 18 ∨ op = 19 := by omega
 have hk := ok.k (by simp only; omega) (by simp only; omega)
 simp only at hk
 have hm : mvW ps ⟨op, d, a, b, c, k⟩ = ⟨op, d, a, b, c, (ps k.toNat : Int)⟩ := if_pos o4
 have nd := aFM (op := op) (by omega)
 rw [hm]
 by_cases o5 : op = 17
 ·subst o5
  have hs := aIo (r := r) (p := p) (cd := cd2) (mem := kZ) (lk := lk) (st := st) (d := d) (a := a) (b := b) (c := c) (k := k)
  have ht := aIo (r := r2) (p := ps p) (cd := cd2) (mem := kZ) (lk := lk2) (st := st2) (d := d) (a := a) (b := b) (c := c) (k := (ps k.toNat : Int))
  refine ⟨true, _, _, hs, ht, fun _ => ⟨by simp, rfl, rfl, h4, h5, ?_, by simp only; omega⟩, rfl, rfl, rfl, rfl, fun e1 e2 => by simp only at e1 e2 ⊢; rw [e1, e2], rfl⟩
  exact rL hL hi (fun _ => .inr ⟨.inl rfl, rfl⟩) (fun x hx hn => ⟨rfl, rfl⟩) (fun q _ => by cases q) hag
 ·have o6 : op = 18 ∨ op = 19 := by omega
  have ra := ok.a (by simp only; omega) (by simp only; omega)
  simp only at ra
  have hfa : (eA op).a = true := by rcases o6 with rfl | rfl <;> rfl
  have hea := ea hfa ra
  obtain ⟨g, hg⟩ : ∃ g, (decide (xH r a = 0) == decide (op = 18)) = g := ⟨_, rfl⟩
  have hg2 : (decide (xH r2 a = 0) == decide (op = 18)) = g := by show (decide (r2.getD a.toNat 0 = 0) == _) = g; rw [hea]; exact hg
  have hs := aIp (r := r) (p := p) (cd := cd2) (mem := kZ) (lk := lk) (st := st) (d := d) (a := a) (b := b) (c := c) (k := k) o6 g hg
  have ht := aIp (r := r2) (p := ps p) (cd := cd2) (mem := kZ) (lk := lk2) (st := st2) (d := d) (a := a) (b := b) (c := c) (k := (ps k.toNat : Int)) o6 g hg2
  refine ⟨true, _, _, hs, ht, fun _ => ⟨?_, rfl, rfl, h4, h5, ?_, ?_⟩, rfl, rfl, rfl, rfl, fun e1 e2 => by simp only at e1 e2 ⊢; rw [e1, e2], rfl⟩
  ·cases g
   ·exact hps.symm
   ·simp
  ·refine rL hL hi (fun _ => ?_) (fun x hx hn => ⟨rfl, rfl⟩) (fun q _ => by rw [nd] at q; cases q) hag
   cases g
   ·exact .inl ⟨o5, by simp only; omega, rfl⟩
   ·exact .inr ⟨o4, rfl⟩
  ·cases g
   ·exact hp
   ·show (if True then k.toNat else p + 1) ≤ cs.length
    rw [if_pos trivial]; omega
theorem aFa {s t : MS} {w w' : WI} (hL : LvC cs L) (hi : cs[s.at_]? = some w) (hw : w.Good R cs.length) (h : SR cs L R ps s t) (ho : 1 ≤ w.op ∧ w.op ≤ 14) (hn : s.at_ + 1 < cs.length → ¬ L w.d.toNat (s.at_ + 1)) :
  ∃ s2, MS.step (MS.tick s) w = (s2, true) ∧ s2.at_ = s.at_ + 1 ∧ s2.mem = s.mem ∧ s2.code = s.code ∧ s2.steps = s.steps + 1 ∧ s2.leaks = s.leaks ++ [(1, (s.at_ : Int))] ∧ s2.regs.length = R ∧
   (s.at_ + 1 < cs.length → ∀ x, x < R → L x (s.at_ + 1) → t.regs.getD x 0 = s2.regs.getD x 0) := by
 obtain ⟨r, p, cd, mem, lk, st⟩ := s
 obtain ⟨h1, h2, h3, h4, h5, h6, h7⟩ := h
 simp only at h1 h2 h3 h4 h5 h6 h7 hn hi ho
 have hp : p < cs.length := (List.getElem?_eq_some_iff.1 hi).1
 have hag := h6 hp
 obtain ⟨op, d, a, b, c, k⟩ := w
 have ok := hw.ok2.ok
 have rd := ok.d (by simp only at ho ⊢; omega)
 simp only at rd ho hn
 have hk : 10 ≤ op → op ≤ 12 → 0 ≤ k ∧ k ≤ 63 := fun x y => hw.ok2.sh x y
 have hs := xR (r := r) (p := p) (cd := cd) (mem := mem) (lk := lk) (st := st) (d := d) (a := a) (b := b) (c := c) (k := k) (op := op) ho (aAX ho hk)
 refine ⟨_, hs, rfl, rfl, rfl, rfl, rfl, by simp [h4], fun hq x hx hl => ?_⟩
 simp only
 have hdx : d.toNat ≠ x := fun e => hn hq (e ▸ hl)
 rw [fR _ _ _ _ (by omega), if_neg hdx]
 exact hag x hx (hL.up p _ (p + 1) x hi hq (.inl ⟨by simp only; omega, by simp only; omega, rfl⟩) hl (fun e => hdx e.2))
def aHT (cs : List WI) (L : Nat → Nat → Prop) (p : Nat) (w : WI) : Prop := (1 ≤ w.op ∧ w.op ≤ 14) ∧ (p + 1 < cs.length → ¬ L w.d.toNat (p + 1))
theorem xI {ds : List WI} {N : Nat} {F : Int} (hL : LvC cs L) (hok : ∀ w ∈ cs, w.Good R cs.length) (hdl : ds.length = cs.length + N) (dd : Bool)
  (hds : ∀ p w, cs[p]? = some w → ds[p + N]? = some (mvW (· + N) w) ∨ (dd = true ∧ aHT cs L p w ∧ ds[p + N]? = some ⟨1, R, 0, 0, 0, 7⟩)) :
  ∀ (f : Nat) (s t s' : MS), iX cs F f s = some s' → SR cs L R (· + N) s t → t.steps = s.steps + N → (dd = true → R < t.regs.length) →
   ∃ t', iX ds (F + N) f t = some t' ∧ t'.code = s'.code ∧ t'.mem = s'.mem ∧ t'.steps = s'.steps + N ∧ (N = 0 → t.leaks = s.leaks → t'.leaks = s'.leaks)
 | 0, s, t, s', h, _, _, _ => by simp [iX] at h
 | f + 1, s, t, s', h, hr, hst, hdd => by
  simp only [iX] at h ⊢
  have hat := hr.at_
  by_cases h1 : cs.length ≤ s.at_
  ·rw [if_pos h1] at h
   simp only [Option.some.injEq] at h
   subst h
   rw [if_pos (by omega)]
   exact ⟨_, rfl, rfl, hr.mem, hst, fun _ e => e⟩
  rw [if_neg h1] at h
  rw [if_neg (by omega)]
  by_cases h2 : (s.steps : Int) = F
  ·rw [if_pos h2] at h
   simp only [Option.some.injEq] at h
   subst h
   rw [if_pos (by omega)]
   exact ⟨_, rfl, rfl, hr.mem, hst, fun _ e => e⟩
  rw [if_neg h2] at h
  rw [if_neg (by omega)]
  obtain ⟨w, hw⟩ : ∃ w, cs[s.at_]? = some w := ⟨_, List.getElem?_eq_getElem (by omega)⟩
  have hwd : cs.getD s.at_ default = w := by rw [List.getD_eq_getElem?_getD, hw]; rfl
  have hgood := hok w (List.mem_of_getElem? hw)
  rw [hwd] at h
  rcases hds s.at_ w hw with e | ⟨hdt, ⟨hdo, hdn⟩, e⟩
  ·have hwt : ds.getD t.at_ default = mvW (· + N) w := by rw [hat, List.getD_eq_getElem?_getD, e]; rfl
   rw [hwt]
   obtain ⟨go, s2, t2, e1, e2, r⟩ := aFb (ps := (· + N)) (N := N) hL hw hgood hr (by omega)
   rw [e1] at h
   rw [e2]
   cases go with
   | false =>
    simp only [Option.some.injEq] at h ⊢
    subst h
    exact ⟨_, rfl, r.code, r.mem, by rw [r.st, r.st2, hst]; omega, fun e0 el => r.lk el (by omega)⟩
   | true =>
    simp only at h ⊢
    obtain ⟨t', g1, g2, g3, g4, g5⟩ := xI hL hok hdl dd hds f s2 t2 s' h (r.run rfl) (by rw [r.st, r.st2, hst]; omega) (fun q => by rw [r.tl]; exact hdd q)
    exact ⟨t', g1, g2, g3, g4, fun e0 el => g5 e0 (r.lk el (by omega))⟩
  ·have hwt : ds.getD t.at_ default = ⟨1, R, 0, 0, 0, 7⟩ := by rw [hat, List.getD_eq_getElem?_getD, e]; rfl
   rw [hwt]
   obtain ⟨s2, e1, e2, e3, e4, e5, e6, e7, e8⟩ := aFa (w' := w) hL hw hgood hr hdo hdn
   rw [e1] at h
   simp only at h
   obtain ⟨r2, p2, cd2, kZ, lk2, st2⟩ := t
   have hRl := hdd hdt
   simp only at hRl hat hst
   have ht := xR (r := r2) (p := p2) (cd := cd2) (mem := kZ) (lk := lk2) (st := st2) (d := (R : Int)) (a := 0) (b := 0) (c := 0) (k := 7) (op := 1) (by decide) (by rw [aAW])
   rw [aAW] at ht
   rw [ht]
   simp only
   have hsr : SR cs L R (· + N) s2 ⟨r2.set ((R : Int)).toNat (u64 7), p2 + 1, cd2, kZ, lk2 ++ [(1, (p2 : Int))], st2 + 1⟩ := by
    refine ⟨by simp only; omega, by rw [e3]; exact hr.mem, by rw [e4]; exact hr.code, e7, by simp; omega, fun hq x hx hl => ?_, by omega⟩
    simp only
    rw [fR _ _ _ _ (by simp only [Int.toNat_natCast]; omega), if_neg (by simp only [Int.toNat_natCast]; omega)]
    rw [e2] at hq hl
    exact e8 hq x hx hl
   obtain ⟨t', g1, g2, g3, g4, g5⟩ := xI hL hok hdl dd hds f s2 _ s' h hsr (by simp only; omega) (fun q => by simp only [List.length_set]; exact hRl)
   refine ⟨t', g1, g2, g3, g4, fun e0 el => g5 e0 ?_⟩
   simp only at el ⊢
   rw [e6, el, hat, e0]; simp
end
def NdW (ws : List WI) (x p : Nat) : Prop := Nd ws.length (qJ ws) (mW ws) (wrN ws) x p
theorem aJF {ws : List WI} {R : Nat} (hg : ∀ w ∈ ws, w.Good R ws.length) : LvC ws (NdW ws) := by
 have at_ : ∀ {p : Nat} {w : WI}, ws[p]? = some w → p < ws.length ∧ ws.getD p default = w ∧ w.Good R ws.length := fun {p w} h =>
  ⟨(List.getElem?_eq_some_iff.1 h).1, by rw [List.getD_eq_getElem?_getD, h]; rfl, hg w (List.mem_of_getElem? h)⟩
 have rd : ∀ {p : Nat} {w : WI} {x : Int}, ws[p]? = some w → 0 ≤ x → x ∈ rdF w → NdW ws x.toNat p := fun {p w x} h h0 hx => by
  obtain ⟨h1, h2, h3⟩ := at_ h
  refine .rd h1 (((kN h1 (by rw [h2]; exact h3)).2.2.2.2 _).2 ?_)
  rw [h2, Int.toNat_of_nonneg h0]
  exact hx
 refine ⟨fun p w h f => ?_, fun p w h f => ?_, fun p w h f => ?_, fun p w q x h hq hf hl hn => ?_⟩
 ·exact rd h ((aAx (at_ h).2.2).1 f).1 (by unfold rdF; simp [f])
 ·exact rd h ((aAx (at_ h).2.2).2.1 f).1 (by unfold rdF; simp [f])
 ·exact rd h ((aAx (at_ h).2.2).2.2 f).1 (by unfold rdF; simp [f])
 ·obtain ⟨h1, h2, h3⟩ := at_ h
  refine .up (a := q) h1 (((jQ ws p).2.2.2.2 q).2 ⟨hq, ?_⟩) hl ?_
  ·rw [h2]
   have hop := h3.ok2.ok.op
   unfold nU
   rcases hf with ⟨a, b, rfl⟩ | ⟨a, rfl⟩
   ·rw [if_neg b, if_neg a]
    split
    ·simp
    ·simp
   ·have hk := h3.ok2.ok.k (by omega) (by omega)
    rw [if_neg (by omega), Int.toNat_of_nonneg hk.1]
    by_cases e : w.op = 17
    ·rw [if_pos e]; simp
    ·rw [if_neg e, if_pos (by omega)]; simp
  ·unfold wrN
   rw [h2]
   cases hd : (eA w.op).d
   ·rfl
   ·simp only [Bool.true_and]
    refine decide_eq_false fun e => hn ⟨hd, ?_⟩
    rw [e]; rfl
def cI (K : Int) (q : Nat) : WI := ⟨1, q, 0, 0, 0, K⟩
def rF (v : Nat) : List Nat → List Nat → List Nat
 | [], r => r
 | q :: L, r => rF v L (r.set q v)
theorem xM (v : Nat) : ∀ (L r : List Nat), (rF v L r).length = r.length
 | [], r => rfl
 | q :: L, r => by rw [rF, xM v L]; simp
theorem xL (v : Nat) {x : Nat} : ∀ (L r : List Nat), x ∉ L → (rF v L r).getD x 0 = r.getD x 0
 | [], r, _ => rfl
 | q :: L, r, h => by
  rw [rF, xL v L _ (fun e => h (List.mem_cons_of_mem _ e))]
  have hq : q ≠ x := fun e => h (e ▸ List.mem_cons_self ..)
  simp only [List.getD_eq_getElem?_getD, List.getElem?_set]
  rw [if_neg hq]
theorem wC {K F cd : Int} {mem : List Nat} : ∀ (L : List Nat) (pre post : List WI) (r : List Nat) (lk : List (Int × Int)) (st f : Nat), (st : Int) + L.length ≤ F →
  ∃ lk', iX (pre ++ (L.map (cI K) ++ post)) F (f + L.length) ⟨r, pre.length, cd, mem, lk, st⟩ = iX (pre ++ (L.map (cI K) ++ post)) F f ⟨rF (u64 K) L r, pre.length + L.length, cd, mem, lk', st + L.length⟩
 | [], pre, post, r, lk, st, f, _ => ⟨lk, rfl⟩
 | q :: L, pre, post, r, lk, st, f, h => by
  simp only [List.length_cons] at h ⊢
  obtain ⟨lk', ih⟩ := wC (K := K) (F := F) (cd := cd) (mem := mem) L (pre ++ [cI K q]) post (r.set q (u64 K)) (lk ++ [(1, (pre.length : Int))]) (st + 1) f (by omega)
  have ec : pre ++ [cI K q] ++ (L.map (cI K) ++ post) = pre ++ ((q :: L).map (cI K) ++ post) := by simp
  have el : (pre ++ [cI K q]).length = pre.length + 1 := by simp
  rw [ec, el] at ih
  refine ⟨lk', ?_⟩
  have hi : (pre ++ ((q :: L).map (cI K) ++ post)).getD pre.length default = cI K q := by
   rw [List.getD_eq_getElem?_getD, List.getElem?_append_right (Nat.le_refl _), Nat.sub_self]; rfl
  have hs := xR (r := r) (p := pre.length) (cd := cd) (mem := mem) (lk := lk) (st := st) (d := (q : Int)) (a := 0) (b := 0) (c := 0) (k := K) (op := 1) (by decide) (by rw [aAW])
  rw [aAW] at hs
  rw [show f + (L.length + 1) = f + L.length + 1 by omega]
  have go := aHF (cs := pre ++ ((q :: L).map (cI K) ++ post)) (fuel := F) (f := f + L.length) (s := ⟨r, pre.length, cd, mem, lk, st⟩) (by simp) (by simp only; omega) hi hs
  rw [go]
  simp only [Int.toNat_natCast]
  rw [ih]
  congr 2
  ·omega
  ·omega
def gV (l0 : List Nat) (r : Nat) : List Nat := (List.range r).filter fun q => !l0.contains q
def pN (l0 : List Nat) (R : Nat) (K : Int) (ws : List WI) : List WI := (gV l0 R).map (cI K) ++ ws.map (mvW (· + (gV l0 R).length))
theorem aBo (l0 : List Nat) (r : Nat) : gV l0 (r + 1) = gV l0 r ++ if l0.contains r then [] else [r] := by
 unfold gV
 rw [List.range_succ, List.filter_append]
 congr 1
 by_cases h : r ∈ l0 <;> simp [h]
theorem vT (l0 : List Nat) (r : Nat) : (gV l0 r).length ≤ r := by
 have := List.length_filter_le (fun q => !l0.contains q) (List.range r)
 simpa [gV] using this
theorem vU {l0 : List Nat} {r x : Nat} (h : x ∈ gV l0 r) : x < r ∧ x ∉ l0 := by
 unfold gV at h
 simpa using h
theorem qD (l0 : List Nat) (R : Nat) (K : Int) (ws : List WI) : (pN l0 R K ws).length = ws.length + (gV l0 R).length := by simp [pN]; omega
theorem aCy {ws : List WI} {R : Nat} {M : Int} (l0 : List Nat) {K : Int} (h : gF ws R M = .ok) (hl : ws.length ≤ 60) (hR : R ≤ 40) : gF (pN l0 R K ws) R M = .ok := by
 have hb := (qB h).1
 have hn := aCv h
 have hal := vT l0 R
 refine aFf (by rw [qD]; omega) ⟨by omega, by omega⟩ ⟨hb.2.2.1, hb.2.2.2.1⟩ fun i hi => ?_
 rw [qD]
 rcases List.mem_append.1 hi with hi | hi
 ·obtain ⟨q, hq, rfl⟩ := List.mem_map.1 hi
  have hqR := (vU hq).1
  unfold gC cI
  have f1 : gH 1 = some ⟨true, false, false, false, true⟩ := rfl
  have f2 : eA 1 = ⟨true, false, false, false, true⟩ := rfl
  simp only [f1, f2]
  have o : qI ⟨true, false, false, false, true⟩ ⟨1, (q : Int), 0, 0, 0, K⟩ R = false := by
   simp only [qI, nM, Bool.true_and, Bool.false_and, Bool.or_false, Bool.or_eq_false_iff, decide_eq_false_iff_not]
   refine ⟨?_, ?_⟩ <;> omega
  simp [o, qH]
 ·obtain ⟨w, hw, rfl⟩ := List.mem_map.1 hi
  have h1 := hn w hw
  have hg := zR h1 (by omega)
  unfold mvW
  by_cases hbr : brW w
  ·rw [if_pos hbr]
   unfold brW at hbr
   have hk := hg.ok2.ok.k (by omega) (by omega)
   rw [Int.toNat_natCast] at hk
   unfold gC at h1 ⊢
   simp only at h1 ⊢
   by_cases a1 : (gH w.op).isSome = false
   ·rw [if_pos a1] at h1; cases h1
   rw [if_neg a1] at h1 ⊢
   by_cases a2 : qI (eA w.op) w R = true
   ·rw [if_pos a2] at h1; cases h1
   rw [if_neg a2] at h1
   have a2' : ¬ qI (eA w.op) { w with k := ((w.k.toNat + (gV l0 R).length : Nat) : Int) } R = true := a2
   rw [if_neg a2']
   by_cases a3 : qH (eA w.op) w = true
   ·rw [if_pos a3] at h1; cases h1
   have fk : (eA w.op).k = true := by rcases hbr with e | e | e <;> rw [e] <;> rfl
   have a3' : ¬ qH (eA w.op) { w with k := ((w.k.toNat + (gV l0 R).length : Nat) : Int) } = true := by
    unfold qH at a3 ⊢
    rw [fk] at a3 ⊢
    simpa using a3
   rw [if_neg a3', if_neg (by omega), if_neg (by omega), if_neg (by omega), if_pos (by omega), if_neg (by omega)]
  ·rw [if_neg hbr]
   unfold brW at hbr
   unfold gC at h1 ⊢
   by_cases a1 : (gH w.op).isSome = false
   ·rw [if_pos a1] at h1; cases h1
   rw [if_neg a1] at h1 ⊢
   by_cases a2 : qI (eA w.op) w R = true
   ·rw [if_pos a2] at h1; cases h1
   rw [if_neg a2] at h1 ⊢
   by_cases a3 : qH (eA w.op) w = true
   ·rw [if_pos a3] at h1; cases h1
   rw [if_neg a3] at h1 ⊢
   by_cases a4 : w.op = 10 ∨ w.op = 11 ∨ w.op = 12
   ·rw [if_pos a4] at h1 ⊢; exact h1
   rw [if_neg a4] at h1 ⊢
   by_cases a5 : w.op = 20
   ·rw [if_pos a5] at h1 ⊢; exact h1
   rw [if_neg a5] at h1 ⊢
   by_cases a6 : w.op = 15 ∨ w.op = 16
   ·rw [if_pos a6] at h1 ⊢; exact h1
   rw [if_neg a6, if_neg hbr]
theorem aEZ {ws : List WI} {R : Nat} {M : Int} {out : List (List Nat)} (hv : gF ws R M = .ok) (hp : Part ws.length (qJ ws) (mW ws) (wrN ws) R out) (K : Int) (mem : List Nat) (f1 f2 : Nat) (s t : MS)
  (h1 : iX ws 500 f1 (s0 R mem) = some s) (h2 : iX (pN (out.getD 0 []) R K ws) ((500 + (gV (out.getD 0 []) R).length : Nat) : Int) f2 (s0 R mem) = some t) :
  t.code = s.code ∧ t.mem = s.mem ∧ t.steps = s.steps + (gV (out.getD 0 []) R).length := by
 have hgood := pJ hv
 rw [Int.toNat_natCast] at hgood
 obtain ⟨l0, hl0⟩ : ∃ l, l = out.getD 0 [] := ⟨_, rfl⟩
 rw [← hl0] at h2 ⊢
 obtain ⟨N, hN⟩ : ∃ N, N = (gV l0 R).length := ⟨_, rfl⟩
 obtain ⟨lk', e⟩ := wC (K := K) (F := ((500 + N : Nat) : Int)) (cd := 0) (mem := mem) (gV l0 R) [] (ws.map (mvW (· + N))) (List.replicate R 0) [] 0 f1 (by omega)
 have hd : ([] : List WI) ++ ((gV l0 R).map (cI K) ++ ws.map (mvW (· + N))) = pN l0 R K ws := by rw [hN]; rfl
 rw [hd] at e
 simp only [List.length_nil, Nat.zero_add] at e
 rw [← hN] at e h2
 have hsr : SR ws (NdW ws) R (· + N) (s0 R mem) ⟨rF (u64 K) (gV l0 R) (List.replicate R 0), N, 0, mem, lk', N⟩ := by
  refine ⟨by simp [s0], rfl, rfl, by simp [s0], by simp [xM], fun hlt x hx hn => ?_, by simp [s0]⟩
  simp only [s0]
  refine xL _ _ _ fun hm => (vU hm).2 ?_
  rw [hl0]
  exact (hp.mem 0 hlt x).2 ⟨hx, hn⟩
 have hds : ∀ p w, ws[p]? = some w → (pN l0 R K ws)[p + N]? = some (mvW (· + N) w) ∨ (false = true ∧ aHT ws (NdW ws) p w ∧ (pN l0 R K ws)[p + N]? = some ⟨1, R, 0, 0, 0, 7⟩) := fun p w hw => .inl (by
  rw [← hd, List.nil_append, List.getElem?_append_right (by rw [List.length_map, ← hN]; omega), List.length_map, ← hN, Nat.add_sub_cancel, List.getElem?_map, hw]; rfl)
 obtain ⟨t', g1, g2, g3, g4, g5⟩ := xI (N := N) (F := 500) (aJF hgood) hgood (by rw [qD, ← hN]) false hds f1 _ _ s h1 hsr (by simp [s0]) (fun q => by cases q)
 have e1 : iX (pN l0 R K ws) ((500 + N : Nat) : Int) (f1 + N) (s0 R mem) = some t' := by
  show iX _ _ _ ⟨List.replicate R 0, 0, 0, mem, [], 0⟩ = _
  rw [e, show ((500 + N : Nat) : Int) = 500 + (N : Int) by omega]
  exact g1
 have m1 := tM _ _ _ _ _ e1 f2
 have m2 := tM _ _ _ _ _ h2 (f1 + N)
 rw [show f1 + N + f2 = f2 + (f1 + N) by omega, m2] at m1
 obtain rfl := Option.some.inj m1
 exact ⟨g2, g3, by rw [← hN]; exact g4⟩
theorem aBu (G : aE) (k : Nat) (b : Bool) : dU.f G (k + 1) [.bool b] [] = some (Un (if b = true then 1 else 0), []) := by
 cases b <;> kernel_rfl
theorem aAO (G : aE) (k : Nat) (op d a b c n : Int) (x : Nat) (hx : x < 18446744073709551616) :
  cG.f G (k + 1) [WI.v ⟨op, d, a, b, c, n⟩, Un x] [] = some (.tup [Un (iY op n x).1, .bool (iY op n x).2], []) := by
 rw [cG.step]
 unfold cG.c WI.v
 by_cases h0 : n < 0
 ·have e : iY op n x = (0, false) := by unfold iY; rw [if_pos (.inl h0)]
  rw [e]
  have c1 : aS Tryd.prog .lss 2 true (I6 n) (.int .i64 0) = some (.bool true) := by rw [iD, decide_eq_true h0]
  repeat first
   | refine oB (by first | (with_reducible exact rfl) | (simp [bS, cN, eM, aB, aI, dZ, bN, AV.cells, aW, bC, cB, dW, cA, eF, fP, aO, dH, fL, aY, dY, aH, bU, dD, c1]; first | done | (with_reducible exact rfl) | (with_reducible exact ⟨rfl, rfl⟩))) ?_
   | refine lB (by first | (with_reducible exact rfl) | (simp [bS, cN, eM, aB, aI, dZ, bN, AV.cells, aW, bC, cB, dW, cA, eF, fP, aO, dH, fL, aY, dY, aH, bU, dD, c1]; first | done | (with_reducible exact rfl) | (with_reducible exact ⟨rfl, rfl⟩))) ?_
   | refine oT ?_
   | refine oN ?_
   | refine oX ?_
   | refine lW ?_
   | refine lY ?_
   | exact oF (cK ..)
   | apply oK
   | refine lT ?_
   | refine lN ?_
   | refine lX ?_
   | refine lU ?_
   | refine lV ?_
   | apply lK
   | refine oI ?_
   | refine oJ rfl ?_
   | refine lI ?_
   | refine lJ rfl ?_
   | (with_reducible exact rfl)
  exact oF (jD rfl rfl _)
 have c1 : aS Tryd.prog .lss 2 true (I6 n) (.int .i64 0) = some (.bool false) := by rw [iD, decide_eq_false h0]
 by_cases h1 : 63 < n
 ·have e : iY op n x = (0, false) := by unfold iY; rw [if_pos (.inr h1)]
  rw [e]
  have c2 : aS Tryd.prog .gtr 2 true (I6 n) (.int .i64 63) = some (.bool true) := by rw [rN, decide_eq_true h1]
  repeat first
   | refine oB (by first | (with_reducible exact rfl) | (simp [bS, cN, eM, aB, aI, dZ, bN, AV.cells, aW, bC, cB, dW, cA, eF, fP, aO, dH, fL, aY, dY, aH, bU, dD, c1, c2]; first | done | (with_reducible exact rfl) | (with_reducible exact ⟨rfl, rfl⟩))) ?_
   | refine lB (by first | (with_reducible exact rfl) | (simp [bS, cN, eM, aB, aI, dZ, bN, AV.cells, aW, bC, cB, dW, cA, eF, fP, aO, dH, fL, aY, dY, aH, bU, dD, c1, c2]; first | done | (with_reducible exact rfl) | (with_reducible exact ⟨rfl, rfl⟩))) ?_
   | refine oT ?_
   | refine oN ?_
   | refine oX ?_
   | refine lW ?_
   | refine lY ?_
   | exact oF (cK ..)
   | apply oK
   | refine lT ?_
   | refine lN ?_
   | refine lX ?_
   | refine lU ?_
   | refine lV ?_
   | apply lK
   | refine oI ?_
   | refine oJ rfl ?_
   | refine lI ?_
   | refine lJ rfl ?_
   | (with_reducible exact rfl)
  exact oF (jD rfl rfl _)
 have c2 : aS Tryd.prog .gtr 2 true (I6 n) (.int .i64 63) = some (.bool false) := by rw [rN, decide_eq_false h1]
 obtain ⟨m, rfl⟩ : ∃ m : Nat, n = (m : Int) := ⟨n.toNat, by omega⟩
 have hm : m ≤ 63 := by omega
 have c3 := aHM Tryd.prog 30 false .i64 x m (by omega)
 have c4 := aEs Tryd.prog 30 false .i64 x m (by omega)
 have c5 := wD x hx
 have c6 : aS Tryd.prog .shr 2 false (I6 (mB x)) (.int .i64 (m : Int)) = some (I6 ((mB x).fdiv (2 ^ m))) := by
  rw [aDI _ _ _ _ _ _ _ (Int.natCast_nonneg m)]
  have e : min ((m : Int)).toNat IntKind.i64.bits = m := by rw [Int.toNat_natCast]; exact Nat.min_eq_left (by have : IntKind.i64.bits = 64 := rfl; omega)
  rw [e]
 have c7 := rV .i64 ((mB x).fdiv (2 ^ m))
 have hs : iY op (m : Int) x = if op = 10 then (x * 2 ^ m % 18446744073709551616, true) else if op = 11 then (x / 2 ^ m, true) else (aHG x m, true) := by
  unfold iY; rw [if_neg (by omega), Int.toNat_natCast]
 rw [hs]
 have hq : u64 ((mB x).fdiv (2 ^ m)) = aHG x m := rfl
 rw [hq] at c7
 generalize aHG x m = q at *
 generalize (mB x).fdiv (2 ^ m) = q1 at *
 generalize mB x = q2 at *
 generalize x * 2 ^ m % 18446744073709551616 = q3 at *
 generalize x / 2 ^ m = q4 at *
 generalize hmm : (m : Int) = mm at *
 by_cases e1 : op = 10
 ·subst e1
  have d1 : aS Tryd.prog .eql 3 true (.int .i64 10) (.int .i64 10) = some (.bool true) := rfl
  repeat first
   | refine oB (by first | (with_reducible exact rfl) | (simp [bS, cN, eM, aB, aI, dZ, bN, AV.cells, aW, bC, cB, dW, cA, eF, fP, aO, dH, fL, aY, dY, aH, bU, dD, d1, c1, c2, c3]; first | done | (with_reducible exact rfl) | (with_reducible exact ⟨rfl, rfl⟩))) ?_
   | refine lB (by first | (with_reducible exact rfl) | (simp [bS, cN, eM, aB, aI, dZ, bN, AV.cells, aW, bC, cB, dW, cA, eF, fP, aO, dH, fL, aY, dY, aH, bU, dD, d1, c1, c2, c3]; first | done | (with_reducible exact rfl) | (with_reducible exact ⟨rfl, rfl⟩))) ?_
   | refine oT ?_
   | refine oN ?_
   | refine oX ?_
   | refine lW ?_
   | refine lY ?_
   | exact oF (cK ..)
   | apply oK
   | refine lT ?_
   | refine lN ?_
   | refine lX ?_
   | refine lU ?_
   | refine lV ?_
   | apply lK
   | refine oI ?_
   | refine oJ rfl ?_
   | refine lI ?_
   | refine lJ rfl ?_
   | (with_reducible exact rfl)
  exact oF (jD rfl rfl _)
 have d1 : aS Tryd.prog .eql 3 true (I6 op) (.int .i64 10) = some (.bool false) := by rw [iS, decide_eq_false e1]
 by_cases e2 : op = 11
 ·subst e2
  repeat first
   | refine oB (by first | (with_reducible exact rfl) | (simp [bS, cN, eM, aB, aI, dZ, bN, AV.cells, aW, bC, cB, dW, cA, eF, fP, aO, dH, fL, aY, dY, aH, bU, dD, d1, c1, c2, c4]; first | done | (with_reducible exact rfl) | (with_reducible exact ⟨rfl, rfl⟩))) ?_
   | refine lB (by first | (with_reducible exact rfl) | (simp [bS, cN, eM, aB, aI, dZ, bN, AV.cells, aW, bC, cB, dW, cA, eF, fP, aO, dH, fL, aY, dY, aH, bU, dD, d1, c1, c2, c4]; first | done | (with_reducible exact rfl) | (with_reducible exact ⟨rfl, rfl⟩))) ?_
   | refine oT ?_
   | refine oN ?_
   | refine oX ?_
   | refine lW ?_
   | refine lY ?_
   | exact oF (cK ..)
   | apply oK
   | refine lT ?_
   | refine lN ?_
   | refine lX ?_
   | refine lU ?_
   | refine lV ?_
   | apply lK
   | refine oI ?_
   | refine oJ rfl ?_
   | refine lI ?_
   | refine lJ rfl ?_
   | (with_reducible exact rfl)
  exact oF (jD rfl rfl _)
 have d2 : aS Tryd.prog .eql 3 true (I6 op) (.int .i64 11) = some (.bool false) := by rw [iS, decide_eq_false e2]
 rw [if_neg e1, if_neg e2]
 repeat first
  | refine oB (by first | (with_reducible exact rfl) | (simp [bS, cN, eM, aB, aI, dZ, bN, AV.cells, aW, bC, cB, dW, cA, eF, fP, aO, dH, fL, aY, dY, aH, bU, dD, d1, d2, c1, c2, c5, c6, c7]; first | done | (with_reducible exact rfl) | (with_reducible exact ⟨rfl, rfl⟩))) ?_
  | refine lB (by first | (with_reducible exact rfl) | (simp [bS, cN, eM, aB, aI, dZ, bN, AV.cells, aW, bC, cB, dW, cA, eF, fP, aO, dH, fL, aY, dY, aH, bU, dD, d1, d2, c1, c2, c5, c6, c7]; first | done | (with_reducible exact rfl) | (with_reducible exact ⟨rfl, rfl⟩))) ?_
  | refine oT ?_
  | refine oN ?_
  | refine oX ?_
  | refine lW ?_
  | refine lY ?_
  | exact oF (cK ..)
  | apply oK
  | refine lT ?_
  | refine lN ?_
  | refine lX ?_
  | refine lU ?_
  | refine lV ?_
  | apply lK
  | refine oI ?_
  | refine oJ rfl ?_
  | refine lI ?_
  | refine lJ rfl ?_
  | (with_reducible exact rfl)
 exact oF (jD rfl rfl _)
theorem aDr (G : aE) (k : Nat) (op d a b c n : Int) (x y z : Nat) (hx : x < 18446744073709551616) (hy : y < 18446744073709551616) (hz : z < 18446744073709551616) :
  cZ.f G (k + 2) [WI.v ⟨op, d, a, b, c, n⟩, Un x, Un y, Un z] [] = some (.tup [Un (kA op n x y z).1, .bool (kA op n x y z).2], []) := by
 rw [cZ.step]
 unfold cZ.c
 have e0 : WI.v ⟨op, d, a, b, c, n⟩ = .agg [I6 op, I6 d, I6 a, I6 b, I6 c, I6 n] := rfl
 have fin : ∀ (r : Nat) (t : Bool) (H : aA), cQ [Un r, .bool t] ([] : aA).length H = some (.ret, [.tup [Un r, .bool t]], []) := fun r t H => jD rfl rfl H
 have k1 := rV .i64 n
 have k3 := aAU Tryd.prog 30 false x y
 have k4 := aHN Tryd.prog 30 false x y hy
 have k5 := aAV Tryd.prog 30 false x y
 have k6 : ∀ H, aX (bL.f G (k + 1)) [Un x, Un y] H = _ := fun H => cT (H := H) (aDb G k x y hx hy) rfl rfl
 have k7 : aS Tryd.prog .and 30 false (Un x) (Un y) = some (Un (x &&& y)) := by rw [aDH, aEr x y hx hy]
 have k8 : aS Tryd.prog .or 30 false (Un x) (Un y) = some (Un (x ||| y)) := by rw [aIz, aJd x y hx hy]
 have k9 : aS Tryd.prog .xor 30 false (Un x) (Un y) = some (Un (x ^^^ y)) := by rw [aGV, aHO x y hx hy]
 have k10 : ∀ H, aX (cG.f G (k + 1)) [.agg [I6 op, I6 d, I6 a, I6 b, I6 c, I6 n], Un x] H = _ := fun H => cT (H := H) (aAO G k op d a b c n x hx) rfl rfl
 have k13 : aS Tryd.prog .lss 30 false (Un x) (Un y) = some (.bool (decide (x < y))) := by rw [iD]; congr 2; simp only [decide_eq_decide]; omega
 have k13b : ∀ H, aX (dU.f G (k + 1)) [.bool (decide (x < y))] H = some (Un (if decide (x < y) = true then 1 else 0), H) := fun H => cT (H := H) (aBu G k _) rfl rfl
 have k13c : (if decide (x < y) = true then 1 else 0) = if x < y then 1 else 0 := by simp
 rw [k13c] at k13b
 have k14 : aS Tryd.prog .neq 30 true (Un x) (.int .u64 0) = some (.bool (decide (x ≠ 0))) := by rw [pQ]; congr 2; simp only [decide_eq_decide]; omega
 have ev : kA op n x y z = kA op n x y z := rfl
 conv at ev => rhs; unfold kA
 rw [ev, e0]
 clear ev e0
 generalize iY op n x = sh at *
 obtain ⟨sh1, sh2⟩ := sh
 generalize u64 n = z1 at *
 generalize (x + y) % 18446744073709551616 = z3 at *
 generalize (x + 18446744073709551616 - y) % 18446744073709551616 = z4 at *
 generalize x * y % 18446744073709551616 = z5 at *
 generalize x * y / 18446744073709551616 = z6 at *
 generalize x &&& y = z7 at *
 generalize x ||| y = z8 at *
 generalize x ^^^ y = z9 at *
 generalize (if x < y then 1 else 0 : Nat) = z13 at *
 generalize decide (x < y) = b13 at *
 by_cases e1 : op = 1
 ·subst e1
  repeat first
   | refine oB (by first | (with_reducible exact rfl) | (simp [bS, cN, eM, aB, aI, dZ, bN, AV.cells, aW, bC, cB, dW, cA, eF, fP, aO, dH, fL, aY, dY, aH, bU, dD, k1, k3, k4, k5, k6, k7, k8, k9, k10, k13, k13b, k14]; first | done | (with_reducible exact rfl) | (with_reducible exact ⟨rfl, rfl⟩))) ?_
   | refine lB (by first | (with_reducible exact rfl) | (simp [bS, cN, eM, aB, aI, dZ, bN, AV.cells, aW, bC, cB, dW, cA, eF, fP, aO, dH, fL, aY, dY, aH, bU, dD, k1, k3, k4, k5, k6, k7, k8, k9, k10, k13, k13b, k14]; first | done | (with_reducible exact rfl) | (with_reducible exact ⟨rfl, rfl⟩))) ?_
   | refine oT ?_
   | refine oN ?_
   | refine oX ?_
   | refine lW ?_
   | refine lY ?_
   | exact oF (cK ..)
   | apply oK
   | refine lT ?_
   | refine lN ?_
   | refine lX ?_
   | refine lU ?_
   | refine lV ?_
   | apply lK
   | refine oI ?_
   | refine oJ rfl ?_
   | refine lI ?_
   | refine lJ rfl ?_
   | (with_reducible exact rfl)
  exact oF (fin ..)
 by_cases e2 : op = 2
 ·subst e2
  repeat first
   | refine oB (by first | (with_reducible exact rfl) | (simp [bS, cN, eM, aB, aI, dZ, bN, AV.cells, aW, bC, cB, dW, cA, eF, fP, aO, dH, fL, aY, dY, aH, bU, dD, k1, k3, k4, k5, k6, k7, k8, k9, k10, k13, k13b, k14]; first | done | (with_reducible exact rfl) | (with_reducible exact ⟨rfl, rfl⟩))) ?_
   | refine lB (by first | (with_reducible exact rfl) | (simp [bS, cN, eM, aB, aI, dZ, bN, AV.cells, aW, bC, cB, dW, cA, eF, fP, aO, dH, fL, aY, dY, aH, bU, dD, k1, k3, k4, k5, k6, k7, k8, k9, k10, k13, k13b, k14]; first | done | (with_reducible exact rfl) | (with_reducible exact ⟨rfl, rfl⟩))) ?_
   | refine oT ?_
   | refine oN ?_
   | refine oX ?_
   | refine lW ?_
   | refine lY ?_
   | exact oF (cK ..)
   | apply oK
   | refine lT ?_
   | refine lN ?_
   | refine lX ?_
   | refine lU ?_
   | refine lV ?_
   | apply lK
   | refine oI ?_
   | refine oJ rfl ?_
   | refine lI ?_
   | refine lJ rfl ?_
   | (with_reducible exact rfl)
  exact oF (fin ..)
 by_cases e3 : op = 3
 ·subst e3
  repeat first
   | refine oB (by first | (with_reducible exact rfl) | (simp [bS, cN, eM, aB, aI, dZ, bN, AV.cells, aW, bC, cB, dW, cA, eF, fP, aO, dH, fL, aY, dY, aH, bU, dD, k1, k3, k4, k5, k6, k7, k8, k9, k10, k13, k13b, k14]; first | done | (with_reducible exact rfl) | (with_reducible exact ⟨rfl, rfl⟩))) ?_
   | refine lB (by first | (with_reducible exact rfl) | (simp [bS, cN, eM, aB, aI, dZ, bN, AV.cells, aW, bC, cB, dW, cA, eF, fP, aO, dH, fL, aY, dY, aH, bU, dD, k1, k3, k4, k5, k6, k7, k8, k9, k10, k13, k13b, k14]; first | done | (with_reducible exact rfl) | (with_reducible exact ⟨rfl, rfl⟩))) ?_
   | refine oT ?_
   | refine oN ?_
   | refine oX ?_
   | refine lW ?_
   | refine lY ?_
   | exact oF (cK ..)
   | apply oK
   | refine lT ?_
   | refine lN ?_
   | refine lX ?_
   | refine lU ?_
   | refine lV ?_
   | apply lK
   | refine oI ?_
   | refine oJ rfl ?_
   | refine lI ?_
   | refine lJ rfl ?_
   | (with_reducible exact rfl)
  exact oF (fin ..)
 by_cases e4 : op = 4
 ·subst e4
  repeat first
   | refine oB (by first | (with_reducible exact rfl) | (simp [bS, cN, eM, aB, aI, dZ, bN, AV.cells, aW, bC, cB, dW, cA, eF, fP, aO, dH, fL, aY, dY, aH, bU, dD, k1, k3, k4, k5, k6, k7, k8, k9, k10, k13, k13b, k14]; first | done | (with_reducible exact rfl) | (with_reducible exact ⟨rfl, rfl⟩))) ?_
   | refine lB (by first | (with_reducible exact rfl) | (simp [bS, cN, eM, aB, aI, dZ, bN, AV.cells, aW, bC, cB, dW, cA, eF, fP, aO, dH, fL, aY, dY, aH, bU, dD, k1, k3, k4, k5, k6, k7, k8, k9, k10, k13, k13b, k14]; first | done | (with_reducible exact rfl) | (with_reducible exact ⟨rfl, rfl⟩))) ?_
   | refine oT ?_
   | refine oN ?_
   | refine oX ?_
   | refine lW ?_
   | refine lY ?_
   | exact oF (cK ..)
   | apply oK
   | refine lT ?_
   | refine lN ?_
   | refine lX ?_
   | refine lU ?_
   | refine lV ?_
   | apply lK
   | refine oI ?_
   | refine oJ rfl ?_
   | refine lI ?_
   | refine lJ rfl ?_
   | (with_reducible exact rfl)
  exact oF (fin ..)
 by_cases e5 : op = 5
 ·subst e5
  repeat first
   | refine oB (by first | (with_reducible exact rfl) | (simp [bS, cN, eM, aB, aI, dZ, bN, AV.cells, aW, bC, cB, dW, cA, eF, fP, aO, dH, fL, aY, dY, aH, bU, dD, k1, k3, k4, k5, k6, k7, k8, k9, k10, k13, k13b, k14]; first | done | (with_reducible exact rfl) | (with_reducible exact ⟨rfl, rfl⟩))) ?_
   | refine lB (by first | (with_reducible exact rfl) | (simp [bS, cN, eM, aB, aI, dZ, bN, AV.cells, aW, bC, cB, dW, cA, eF, fP, aO, dH, fL, aY, dY, aH, bU, dD, k1, k3, k4, k5, k6, k7, k8, k9, k10, k13, k13b, k14]; first | done | (with_reducible exact rfl) | (with_reducible exact ⟨rfl, rfl⟩))) ?_
   | refine oT ?_
   | refine oN ?_
   | refine oX ?_
   | refine lW ?_
   | refine lY ?_
   | exact oF (cK ..)
   | apply oK
   | refine lT ?_
   | refine lN ?_
   | refine lX ?_
   | refine lU ?_
   | refine lV ?_
   | apply lK
   | refine oI ?_
   | refine oJ rfl ?_
   | refine lI ?_
   | refine lJ rfl ?_
   | (with_reducible exact rfl)
  exact oF (fin ..)
 by_cases e6 : op = 6
 ·subst e6
  repeat first
   | refine oB (by first | (with_reducible exact rfl) | (simp [bS, cN, eM, aB, aI, dZ, bN, AV.cells, aW, bC, cB, dW, cA, eF, fP, aO, dH, fL, aY, dY, aH, bU, dD, k1, k3, k4, k5, k6, k7, k8, k9, k10, k13, k13b, k14]; first | done | (with_reducible exact rfl) | (with_reducible exact ⟨rfl, rfl⟩))) ?_
   | refine lB (by first | (with_reducible exact rfl) | (simp [bS, cN, eM, aB, aI, dZ, bN, AV.cells, aW, bC, cB, dW, cA, eF, fP, aO, dH, fL, aY, dY, aH, bU, dD, k1, k3, k4, k5, k6, k7, k8, k9, k10, k13, k13b, k14]; first | done | (with_reducible exact rfl) | (with_reducible exact ⟨rfl, rfl⟩))) ?_
   | refine oT ?_
   | refine oN ?_
   | refine oX ?_
   | refine lW ?_
   | refine lY ?_
   | exact oF (cK ..)
   | apply oK
   | refine lT ?_
   | refine lN ?_
   | refine lX ?_
   | refine lU ?_
   | refine lV ?_
   | apply lK
   | refine oI ?_
   | refine oJ rfl ?_
   | refine lI ?_
   | refine lJ rfl ?_
   | (with_reducible exact rfl)
  exact oF (fin ..)
 by_cases e7 : op = 7
 ·subst e7
  repeat first
   | refine oB (by first | (with_reducible exact rfl) | (simp [bS, cN, eM, aB, aI, dZ, bN, AV.cells, aW, bC, cB, dW, cA, eF, fP, aO, dH, fL, aY, dY, aH, bU, dD, k1, k3, k4, k5, k6, k7, k8, k9, k10, k13, k13b, k14]; first | done | (with_reducible exact rfl) | (with_reducible exact ⟨rfl, rfl⟩))) ?_
   | refine lB (by first | (with_reducible exact rfl) | (simp [bS, cN, eM, aB, aI, dZ, bN, AV.cells, aW, bC, cB, dW, cA, eF, fP, aO, dH, fL, aY, dY, aH, bU, dD, k1, k3, k4, k5, k6, k7, k8, k9, k10, k13, k13b, k14]; first | done | (with_reducible exact rfl) | (with_reducible exact ⟨rfl, rfl⟩))) ?_
   | refine oT ?_
   | refine oN ?_
   | refine oX ?_
   | refine lW ?_
   | refine lY ?_
   | exact oF (cK ..)
   | apply oK
   | refine lT ?_
   | refine lN ?_
   | refine lX ?_
   | refine lU ?_
   | refine lV ?_
   | apply lK
   | refine oI ?_
   | refine oJ rfl ?_
   | refine lI ?_
   | refine lJ rfl ?_
   | (with_reducible exact rfl)
  exact oF (fin ..)
 by_cases e8 : op = 8
 ·subst e8
  repeat first
   | refine oB (by first | (with_reducible exact rfl) | (simp [bS, cN, eM, aB, aI, dZ, bN, AV.cells, aW, bC, cB, dW, cA, eF, fP, aO, dH, fL, aY, dY, aH, bU, dD, k1, k3, k4, k5, k6, k7, k8, k9, k10, k13, k13b, k14]; first | done | (with_reducible exact rfl) | (with_reducible exact ⟨rfl, rfl⟩))) ?_
   | refine lB (by first | (with_reducible exact rfl) | (simp [bS, cN, eM, aB, aI, dZ, bN, AV.cells, aW, bC, cB, dW, cA, eF, fP, aO, dH, fL, aY, dY, aH, bU, dD, k1, k3, k4, k5, k6, k7, k8, k9, k10, k13, k13b, k14]; first | done | (with_reducible exact rfl) | (with_reducible exact ⟨rfl, rfl⟩))) ?_
   | refine oT ?_
   | refine oN ?_
   | refine oX ?_
   | refine lW ?_
   | refine lY ?_
   | exact oF (cK ..)
   | apply oK
   | refine lT ?_
   | refine lN ?_
   | refine lX ?_
   | refine lU ?_
   | refine lV ?_
   | apply lK
   | refine oI ?_
   | refine oJ rfl ?_
   | refine lI ?_
   | refine lJ rfl ?_
   | (with_reducible exact rfl)
  exact oF (fin ..)
 by_cases e9 : op = 9
 ·subst e9
  repeat first
   | refine oB (by first | (with_reducible exact rfl) | (simp [bS, cN, eM, aB, aI, dZ, bN, AV.cells, aW, bC, cB, dW, cA, eF, fP, aO, dH, fL, aY, dY, aH, bU, dD, k1, k3, k4, k5, k6, k7, k8, k9, k10, k13, k13b, k14]; first | done | (with_reducible exact rfl) | (with_reducible exact ⟨rfl, rfl⟩))) ?_
   | refine lB (by first | (with_reducible exact rfl) | (simp [bS, cN, eM, aB, aI, dZ, bN, AV.cells, aW, bC, cB, dW, cA, eF, fP, aO, dH, fL, aY, dY, aH, bU, dD, k1, k3, k4, k5, k6, k7, k8, k9, k10, k13, k13b, k14]; first | done | (with_reducible exact rfl) | (with_reducible exact ⟨rfl, rfl⟩))) ?_
   | refine oT ?_
   | refine oN ?_
   | refine oX ?_
   | refine lW ?_
   | refine lY ?_
   | exact oF (cK ..)
   | apply oK
   | refine lT ?_
   | refine lN ?_
   | refine lX ?_
   | refine lU ?_
   | refine lV ?_
   | apply lK
   | refine oI ?_
   | refine oJ rfl ?_
   | refine lI ?_
   | refine lJ rfl ?_
   | (with_reducible exact rfl)
  exact oF (fin ..)
 by_cases e10 : op = 10
 ·subst e10
  repeat first
   | refine oB (by first | (with_reducible exact rfl) | (simp [bS, cN, eM, aB, aI, dZ, bN, AV.cells, aW, bC, cB, dW, cA, eF, fP, aO, dH, fL, aY, dY, aH, bU, dD, k1, k3, k4, k5, k6, k7, k8, k9, k10, k13, k13b, k14]; first | done | (with_reducible exact rfl) | (with_reducible exact ⟨rfl, rfl⟩))) ?_
   | refine lB (by first | (with_reducible exact rfl) | (simp [bS, cN, eM, aB, aI, dZ, bN, AV.cells, aW, bC, cB, dW, cA, eF, fP, aO, dH, fL, aY, dY, aH, bU, dD, k1, k3, k4, k5, k6, k7, k8, k9, k10, k13, k13b, k14]; first | done | (with_reducible exact rfl) | (with_reducible exact ⟨rfl, rfl⟩))) ?_
   | refine oT ?_
   | refine oN ?_
   | refine oX ?_
   | refine lW ?_
   | refine lY ?_
   | exact oF (cK ..)
   | apply oK
   | refine lT ?_
   | refine lN ?_
   | refine lX ?_
   | refine lU ?_
   | refine lV ?_
   | apply lK
   | refine oI ?_
   | refine oJ rfl ?_
   | refine lI ?_
   | refine lJ rfl ?_
   | (with_reducible exact rfl)
  exact oF (fin ..)
 by_cases e11 : op = 11
 ·subst e11
  repeat first
   | refine oB (by first | (with_reducible exact rfl) | (simp [bS, cN, eM, aB, aI, dZ, bN, AV.cells, aW, bC, cB, dW, cA, eF, fP, aO, dH, fL, aY, dY, aH, bU, dD, k1, k3, k4, k5, k6, k7, k8, k9, k10, k13, k13b, k14]; first | done | (with_reducible exact rfl) | (with_reducible exact ⟨rfl, rfl⟩))) ?_
   | refine lB (by first | (with_reducible exact rfl) | (simp [bS, cN, eM, aB, aI, dZ, bN, AV.cells, aW, bC, cB, dW, cA, eF, fP, aO, dH, fL, aY, dY, aH, bU, dD, k1, k3, k4, k5, k6, k7, k8, k9, k10, k13, k13b, k14]; first | done | (with_reducible exact rfl) | (with_reducible exact ⟨rfl, rfl⟩))) ?_
   | refine oT ?_
   | refine oN ?_
   | refine oX ?_
   | refine lW ?_
   | refine lY ?_
   | exact oF (cK ..)
   | apply oK
   | refine lT ?_
   | refine lN ?_
   | refine lX ?_
   | refine lU ?_
   | refine lV ?_
   | apply lK
   | refine oI ?_
   | refine oJ rfl ?_
   | refine lI ?_
   | refine lJ rfl ?_
   | (with_reducible exact rfl)
  exact oF (fin ..)
 by_cases e12 : op = 12
 ·subst e12
  repeat first
   | refine oB (by first | (with_reducible exact rfl) | (simp [bS, cN, eM, aB, aI, dZ, bN, AV.cells, aW, bC, cB, dW, cA, eF, fP, aO, dH, fL, aY, dY, aH, bU, dD, k1, k3, k4, k5, k6, k7, k8, k9, k10, k13, k13b, k14]; first | done | (with_reducible exact rfl) | (with_reducible exact ⟨rfl, rfl⟩))) ?_
   | refine lB (by first | (with_reducible exact rfl) | (simp [bS, cN, eM, aB, aI, dZ, bN, AV.cells, aW, bC, cB, dW, cA, eF, fP, aO, dH, fL, aY, dY, aH, bU, dD, k1, k3, k4, k5, k6, k7, k8, k9, k10, k13, k13b, k14]; first | done | (with_reducible exact rfl) | (with_reducible exact ⟨rfl, rfl⟩))) ?_
   | refine oT ?_
   | refine oN ?_
   | refine oX ?_
   | refine lW ?_
   | refine lY ?_
   | exact oF (cK ..)
   | apply oK
   | refine lT ?_
   | refine lN ?_
   | refine lX ?_
   | refine lU ?_
   | refine lV ?_
   | apply lK
   | refine oI ?_
   | refine oJ rfl ?_
   | refine lI ?_
   | refine lJ rfl ?_
   | (with_reducible exact rfl)
  exact oF (fin ..)
 by_cases e13 : op = 13
 ·subst e13
  repeat first
   | refine oB (by first | (with_reducible exact rfl) | (simp [bS, cN, eM, aB, aI, dZ, bN, AV.cells, aW, bC, cB, dW, cA, eF, fP, aO, dH, fL, aY, dY, aH, bU, dD, k1, k3, k4, k5, k6, k7, k8, k9, k10, k13, k13b, k14]; first | done | (with_reducible exact rfl) | (with_reducible exact ⟨rfl, rfl⟩))) ?_
   | refine lB (by first | (with_reducible exact rfl) | (simp [bS, cN, eM, aB, aI, dZ, bN, AV.cells, aW, bC, cB, dW, cA, eF, fP, aO, dH, fL, aY, dY, aH, bU, dD, k1, k3, k4, k5, k6, k7, k8, k9, k10, k13, k13b, k14]; first | done | (with_reducible exact rfl) | (with_reducible exact ⟨rfl, rfl⟩))) ?_
   | refine oT ?_
   | refine oN ?_
   | refine oX ?_
   | refine lW ?_
   | refine lY ?_
   | exact oF (cK ..)
   | apply oK
   | refine lT ?_
   | refine lN ?_
   | refine lX ?_
   | refine lU ?_
   | refine lV ?_
   | apply lK
   | refine oI ?_
   | refine oJ rfl ?_
   | refine lI ?_
   | refine lJ rfl ?_
   | (with_reducible exact rfl)
  exact oF (fin ..)
 by_cases e14 : op = 14
 ·subst e14
  by_cases hx0 : x = 0
  ·have k14' : aS Tryd.prog .neq 30 true (Un x) (.int .u64 0) = some (.bool false) := by rw [k14]; simp [hx0]
   rw [show (if x ≠ 0 then y else z) = z by rw [if_neg (by simp [hx0])]]
   repeat first
    | refine oB (by first | (with_reducible exact rfl) | (simp [bS, cN, eM, aB, aI, dZ, bN, AV.cells, aW, bC, cB, dW, cA, eF, fP, aO, dH, fL, aY, dY, aH, bU, dD, k1, k3, k4, k5, k6, k7, k8, k9, k10, k13, k13b, k14']; first | done | (with_reducible exact rfl) | (with_reducible exact ⟨rfl, rfl⟩))) ?_
    | refine lB (by first | (with_reducible exact rfl) | (simp [bS, cN, eM, aB, aI, dZ, bN, AV.cells, aW, bC, cB, dW, cA, eF, fP, aO, dH, fL, aY, dY, aH, bU, dD, k1, k3, k4, k5, k6, k7, k8, k9, k10, k13, k13b, k14']; first | done | (with_reducible exact rfl) | (with_reducible exact ⟨rfl, rfl⟩))) ?_
    | refine oT ?_
    | refine oN ?_
    | refine oX ?_
    | refine lW ?_
    | refine lY ?_
    | exact oF (cK ..)
    | apply oK
    | refine lT ?_
    | refine lN ?_
    | refine lX ?_
    | refine lU ?_
    | refine lV ?_
    | apply lK
    | refine oI ?_
    | refine oJ rfl ?_
    | refine lI ?_
    | refine lJ rfl ?_
    | (with_reducible exact rfl)
   exact oF (fin ..)
  ·have k14' : aS Tryd.prog .neq 30 true (Un x) (.int .u64 0) = some (.bool true) := by rw [k14]; simp [hx0]
   rw [show (if x ≠ 0 then y else z) = y by rw [if_pos hx0]]
   repeat first
    | refine oB (by first | (with_reducible exact rfl) | (simp [bS, cN, eM, aB, aI, dZ, bN, AV.cells, aW, bC, cB, dW, cA, eF, fP, aO, dH, fL, aY, dY, aH, bU, dD, k1, k3, k4, k5, k6, k7, k8, k9, k10, k13, k13b, k14']; first | done | (with_reducible exact rfl) | (with_reducible exact ⟨rfl, rfl⟩))) ?_
    | refine lB (by first | (with_reducible exact rfl) | (simp [bS, cN, eM, aB, aI, dZ, bN, AV.cells, aW, bC, cB, dW, cA, eF, fP, aO, dH, fL, aY, dY, aH, bU, dD, k1, k3, k4, k5, k6, k7, k8, k9, k10, k13, k13b, k14']; first | done | (with_reducible exact rfl) | (with_reducible exact ⟨rfl, rfl⟩))) ?_
    | refine oT ?_
    | refine oN ?_
    | refine oX ?_
    | refine lW ?_
    | refine lY ?_
    | exact oF (cK ..)
    | apply oK
    | refine lT ?_
    | refine lN ?_
    | refine lX ?_
    | refine lU ?_
    | refine lV ?_
    | apply lK
    | refine oI ?_
    | refine oJ rfl ?_
    | refine lI ?_
    | refine lJ rfl ?_
    | (with_reducible exact rfl)
   exact oF (fin ..)
 repeat first
  | refine oB (by first | (with_reducible exact rfl) | (simp [bS, cN, eM, aB, aI, dZ, bN, AV.cells, aW, bC, cB, dW, cA, eF, fP, aO, dH, fL, aY, dY, aH, bU, dD, e1, e2, e3, e4, e5, e6, e7, e8, e9, e10, e11, e12, e13, e14]; first | done | (with_reducible exact rfl) | (with_reducible exact ⟨rfl, rfl⟩))) ?_
  | refine lB (by first | (with_reducible exact rfl) | (simp [bS, cN, eM, aB, aI, dZ, bN, AV.cells, aW, bC, cB, dW, cA, eF, fP, aO, dH, fL, aY, dY, aH, bU, dD, e1, e2, e3, e4, e5, e6, e7, e8, e9, e10, e11, e12, e13, e14]; first | done | (with_reducible exact rfl) | (with_reducible exact ⟨rfl, rfl⟩))) ?_
  | refine oT ?_
  | refine oN ?_
  | refine oX ?_
  | refine lW ?_
  | refine lY ?_
  | exact oF (cK ..)
  | apply oK
  | refine lT ?_
  | refine lN ?_
  | refine lX ?_
  | refine lU ?_
  | refine lV ?_
  | apply lK
  | refine oI ?_
  | refine oJ rfl ?_
  | refine lI ?_
  | refine lJ rfl ?_
  | (with_reducible exact rfl)
 simp only [e1, e2, e3, e4, e5, e6, e7, e8, e9, e10, e11, e12, e13, e14, if_false, or_self]
 exact oF (fin ..)
instance : Inhabited WI := ⟨⟨0, 0, 0, 0, 0, 0⟩⟩
def jF (p0 : ABlk) (bor : Bool) (cs : List WI) (R M : Int) (s : MS) : aA :=
 [p0, ⟨73, 4, [.agg [.int .i64 0, .nils, .nils, .int .i64 0]]⟩, ⟨30, 1, dC s.regs⟩,
  ⟨147, 9, [.agg [.ro bor (bW cs), I6 R, I6 M, .sl 2 s.regs.length 0 s.regs.length 1, Nn s.at_, I6 s.code, .sl 5 s.mem.length 0 s.mem.length 1, .sl 6 s.leaks.length 0 s.leaks.length 2, Nn s.steps]]⟩,
  ⟨30, 1, []⟩, ⟨30, 1, dC s.mem⟩, ⟨91, 2, iK s.leaks⟩]
section
variable (G : aE) (p0 : ABlk) (bor : Bool) (cs : List WI) (R M : Int) (s : MS)
abbrev PX : AV := .ptr 3 1 0 0
theorem sI : (jF p0 bor cs R M s).length = 7 := rfl
theorem eD : gO PX = some PX := rfl
theorem fa3 : aB 3 PX = some (.ptr 3 1 0 3) := rfl
theorem rJ : aB 4 PX = some (.ptr 3 1 0 4) := rfl
theorem yG : aB 5 PX = some (.ptr 3 1 0 5) := rfl
theorem qG : aB 0 (.ptr 3 1 0 5) = some (.ptr 3 1 0 5) := rfl
theorem aEF : aB 1 (.ptr 3 1 0 5) = some (.ptr 3 1 0 6) := rfl
theorem aJy : aB 2 (.ptr 3 1 0 5) = some (.ptr 3 1 0 7) := rfl
theorem aEG : aB 3 (.ptr 3 1 0 5) = some (.ptr 3 1 0 8) := rfl
theorem ld3 : aI G false 1 (.ptr 3 1 0 3) (jF p0 bor cs R M s) = some (.sl 2 s.regs.length 0 s.regs.length 1) := rfl
theorem ld4 : aI G false 1 (.ptr 3 1 0 4) (jF p0 bor cs R M s) = some (Nn s.at_) := rfl
theorem ld6 : aI G false 1 (.ptr 3 1 0 6) (jF p0 bor cs R M s) = some (.sl 5 s.mem.length 0 s.mem.length 1) := rfl
theorem ld7 : aI G false 1 (.ptr 3 1 0 7) (jF p0 bor cs R M s) = some (.sl 6 s.leaks.length 0 s.leaks.length 2) := rfl
theorem ld8 : aI G false 1 (.ptr 3 1 0 8) (jF p0 bor cs R M s) = some (Nn s.steps) := rfl
theorem st4 (n : Nat) : fP (aO 1 (.ptr 3 1 0 4) (Nn n) (jF p0 bor cs R M s)) = some (.tup [], jF p0 bor cs R M { s with at_ := n }) := rfl
theorem st5 (n : Int) : fP (aO 1 (.ptr 3 1 0 5) (I6 n) (jF p0 bor cs R M s)) = some (.tup [], jF p0 bor cs R M { s with code := n }) := rfl
theorem st8 (n : Nat) : fP (aO 1 (.ptr 3 1 0 8) (Nn n) (jF p0 bor cs R M s)) = some (.tup [], jF p0 bor cs R M { s with steps := n }) := rfl
theorem aBM (j : Int) (h0 : 0 ≤ j) : aH 1 (.sl 2 s.regs.length 0 s.regs.length 1) (I6 j) = if j < s.regs.length then some (.ptr 2 s.regs.length j.toNat 0) else none := by
 by_cases h : j < s.regs.length
 ·rw [if_pos h]
  have h2 : j.toNat < s.regs.length := by omega
  simp [aH, h0, h]
 ·rw [if_neg h]
  simp [aH, h0, h]
theorem aJE (n : Nat) : aH 1 (.sl 5 s.mem.length 0 s.mem.length 1) (Un n) = if n < s.mem.length then some (.ptr 5 s.mem.length n 0) else none := by
 have h0 : (0 : Int) ≤ (n : Int) := by omega
 by_cases h : n < s.mem.length
 ·have h' : (n : Int) < (s.mem.length : Int) := by omega
  rw [if_pos h]
  simp [aH, h0, h']
 ·have h' : ¬ (n : Int) < (s.mem.length : Int) := by omega
  rw [if_neg h]
  simp [aH, h0, h']
theorem ldR (j : Nat) (h : j < s.regs.length) : aI G false 1 (.ptr 2 s.regs.length j 0) (jF p0 bor cs R M s) = some (Un (s.regs.getD j 0)) := by
 have e : (jF p0 bor cs R M s)[2]? = some ⟨30, 1, dC s.regs⟩ := rfl
 unfold aI
 simp only [e, gX, mM _ _ h, if_true]
 rfl
theorem ldM (j : Nat) (h : j < s.mem.length) : aI G false 1 (.ptr 5 s.mem.length j 0) (jF p0 bor cs R M s) = some (Un (s.mem.getD j 0)) := by
 have e : (jF p0 bor cs R M s)[5]? = some ⟨30, 1, dC s.mem⟩ := rfl
 unfold aI
 simp only [e, gX, mM _ _ h, if_true]
 rfl
theorem stR (j x : Nat) (h : j < s.regs.length) : fP (aO 1 (.ptr 2 s.regs.length j 0) (Un x) (jF p0 bor cs R M s)) = some (.tup [], jF p0 bor cs R M { s with regs := s.regs.set j x }) := by
 have e : (jF p0 bor cs R M s)[2]? = some ⟨30, 1, dC s.regs⟩ := rfl
 unfold aO
 simp only [e, gX, mM _ _ h]
 unfold jF
 simp only [List.length_set, zP]
 rfl
theorem stM (j x : Nat) (h : j < s.mem.length) : fP (aO 1 (.ptr 5 s.mem.length j 0) (Un x) (jF p0 bor cs R M s)) = some (.tup [], jF p0 bor cs R M { s with mem := s.mem.set j x }) := by
 have e : (jF p0 bor cs R M s)[5]? = some ⟨30, 1, dC s.mem⟩ := rfl
 unfold aO
 simp only [e, gX, mM _ _ h]
 unfold jF
 simp only [List.length_set, zP]
 rfl
theorem apL (p : Int × Int) (hl : s.leaks.length ≤ 1000000) : dX 91 2 (.sl 6 s.leaks.length 0 s.leaks.length 2) (.ro false [zK p]) (jF p0 bor cs R M s) =
  some (.sl 6 (s.leaks.length + 1) 0 (s.leaks.length + 1) 2, (jF p0 bor cs R M s).set 6 ⟨91, 2, iK (s.leaks ++ [p])⟩) := by
 have e : (jF p0 bor cs R M s)[6]? = some ⟨91, 2, iK s.leaks⟩ := rfl
 unfold dX
 simp only [e, fG, kP, List.length_singleton]
 rw [if_pos (by refine ⟨?_, ?_, ?_, ?_, ?_⟩ <;> first | trivial | rfl | omega)]
 have e2 : (iK s.leaks).take s.leaks.length = iK s.leaks := List.take_of_length_le (by rw [kP]; exact Nat.le_refl _)
 have e3 : (iK s.leaks).drop (s.leaks.length + 1) = [] := List.drop_of_length_le (by rw [kP]; omega)
 rw [e2, e3, List.append_nil]
 have e4 : iK s.leaks ++ [zK p] = iK (s.leaks ++ [p]) := by simp [iK]
 rw [e4, kP]; simp
theorem stL (p : Int × Int) : fP (aO 1 (.ptr 3 1 0 7) (.sl 6 (s.leaks.length + 1) 0 (s.leaks.length + 1) 2) ((jF p0 bor cs R M s).set 6 ⟨91, 2, iK (s.leaks ++ [p])⟩)) =
  some (.tup [], jF p0 bor cs R M (s.leak p.1 p.2)) := by
 have e : (s.leak p.1 p.2).leaks.length = s.leaks.length + 1 := by simp [MS.leak]
 unfold jF
 rw [e]
 rfl
theorem aDc (hp : aV 7 p0.elems = true) : cF 7 (jF p0 bor cs R M s) = true := by
 simp [jF, cF, aV, aP, hp, iB, nK, fI]
theorem wU (hp : aV 7 p0.elems = true) (xs : List AV) (hx : aV 7 xs = true) : eZ 7 xs (jF p0 bor cs R M s) = some (jF p0 bor cs R M s) := by
 have e : (jF p0 bor cs R M s).take 7 = jF p0 bor cs R M s := rfl
 unfold eZ
 rw [e, hx, aDc p0 bor cs R M s hp]; rfl
theorem rY (hp : aV 7 p0.elems = true) : cQ [] 7 (jF p0 bor cs R M s) = some (.ret, [.tup []], jF p0 bor cs R M s) := by
 unfold cQ
 rw [wU p0 bor cs R M s hp [] rfl]; rfl
theorem iA (hp : aV 7 p0.elems = true) (b : Bool) : cQ [.bool b] 7 (jF p0 bor cs R M s) = some (.ret, [.bool b], jF p0 bor cs R M s) := by
 unfold cQ
 rw [wU p0 bor cs R M s hp [] rfl]; rfl
theorem oU {g : cU} {args : List AV} {r : AV} {s' : MS} (h : g args (jF p0 bor cs R M s) = some (r, jF p0 bor cs R M s')) : cW g args (jF p0 bor cs R M s) = some (r, jF p0 bor cs R M s') := by
 unfold cW; rw [h]; rfl
theorem pW (k : Nat) (hp : aV 7 p0.elems = true) (kind at_ : Int) (hl : s.leaks.length ≤ 1000000) :
  bE.f G (k + 1) [PX, I6 kind, I6 at_] (jF p0 bor cs R M s) = some (.tup [], jF p0 bor cs R M (s.leak kind at_)) := by
 rw [bE.step]
 unfold bE.c
 have c4 : cA [(0, 1), (1, 1)] [(.int .i64 0), (.int .i64 0)] [(0, I6 kind), (1, I6 at_)] = some (zK (kind, at_)) := rfl
 have c5 : ∀ H, bC 2 1 (.agg [(.int .i64 0), (.int .i64 0)]) [(0, zK (kind, at_))] H = some (.ro false [zK (kind, at_)], H) := fun H => rfl
 have c6 := apL p0 bor cs R M s (kind, at_) hl
 have c7 := stL p0 bor cs R M s (kind, at_)
 simp only [sI]
 repeat first
  | refine oB (by first | (simp only [bS, bK, bJ, fE, fA, fD, fB, fC, bM, bB, dP, eD, yG, aJy, ld7, c4, c5, c6, c7]; first | done | (with_reducible exact rfl) | (with_reducible exact ⟨rfl, rfl⟩)) | (with_reducible exact rfl)) ?_
  | refine lB (by first | (simp only [bS, bK, bJ, fE, fA, fD, fB, fC, bM, bB, dP, eD, yG, aJy, ld7, c4, c5, c6, c7]; first | done | (with_reducible exact rfl) | (with_reducible exact ⟨rfl, rfl⟩)) | (with_reducible exact rfl)) ?_
  | refine oT ?_
  | refine oN ?_
  | refine oX ?_
  | refine lW ?_
  | refine lY ?_
  | exact oF (cK ..)
  | apply oK
  | refine lT ?_
  | refine lN ?_
  | refine lX ?_
  | refine lU ?_
  | refine lV ?_
  | apply lK
  | refine oI ?_
  | refine oJ rfl ?_
  | refine lI ?_
  | refine lJ rfl ?_
  | (with_reducible exact rfl)
 exact oF (rY p0 bor cs R M _ hp)
end
section
variable (G : aE) (p0 : ABlk) (hp : aV 7 p0.elems = true) (bor : Bool) (cs : List WI) (R : Nat) (M : Int) (s : MS) (i : WI) (hs : s.Ok R) (hl : s.leaks.length ≤ 999990)
include hp hs hl in
theorem aDo (k : Nat) (ha : 0 ≤ i.a ∧ i.a < R) (hd : 0 ≤ i.d ∧ i.d < R) (hb : 0 ≤ i.b ∧ i.b < R) (ho : i.op = 15 ∨ i.op = 16) :
  bT.f G (k + 2) [PX, i.v] (jF p0 bor cs R M s) = some (.bool (s.touch i).2, jF p0 bor cs R M (s.touch i).1) := by
 have hR := hs.len
 rw [bT.step]
 unfold bT.c
 simp only [sI]
 have d6 := aBM s i.a ha.1
 rw [if_pos (by omega)] at d6
 have d7 := ldR G p0 bor cs R M s i.a.toNat (by omega)
 have d10 : eE .u64 (I6 i.k) = some (Un (u64 i.k)) := rV ..
 have d11 := aAU Tryd.prog 30 false (s.regs.getD i.a.toNat 0) (u64 i.k)
 obtain ⟨ad, had⟩ : ∃ z, z = (s.regs.getD i.a.toNat 0 + u64 i.k) % 18446744073709551616 := ⟨_, rfl⟩
 have hadl : ad < 18446744073709551616 := by rw [had]; exact Nat.mod_lt _ (by decide)
 rw [← had] at d11
 have d12 := wD ad hadl
 have d13 := oU p0 bor cs R M s (pW G p0 bor cs R M s k hp 3 (mB ad) (by omega))
 have ht : s.touch i = (let s1 := s.leak 3 (mB ad); if s.mem.length ≤ ad then ({ s1 with code := 3 }, false) else if i.op = 15 then (s1.set i.d (s.mem.getD ad 0), true) else ({ s1 with mem := s.mem.set ad (s.rg i.b) }, true)) := by
  rw [had]; rfl
 rw [ht]
 obtain ⟨s1, hs1⟩ : ∃ s1, s1 = s.leak 3 (mB ad) := ⟨_, rfl⟩
 have hm : s1.mem = s.mem := by rw [hs1]; rfl
 have hr : s1.regs = s.regs := by rw [hs1]; rfl
 simp only
 rw [← hs1] at d13 ⊢
 have d17 := ld6 G p0 bor cs R M s1
 have d18 : aY (.sl 5 s1.mem.length 0 s1.mem.length 1) = some (Nn s1.mem.length) := rfl
 have d19 : eE .u64 (Nn s1.mem.length) = some (Un s1.mem.length) := by rw [rV, aHL _ (by rw [hm]; have := hs.big; omega)]
 have g0 := gi0 i
 have g1 := gi1 i
 have g2 := gi2 i
 have g3 := gi3 i
 have g5 := gi5 i
 have l0 := aCx G i
 have l1 := aGI G i
 have l2 := aEu G i
 have l3 := gl3 G i
 have l5 := aGJ G i
 have b0 := aGH i
 by_cases hin : s.mem.length ≤ ad
 ·rw [if_pos hin]
  have d20 : aS Tryd.prog .geq 30 false (Un ad) (Un s1.mem.length) = some (.bool true) := by rw [nB, decide_eq_true (by rw [hm]; omega)]
  have d23 := st5 p0 bor cs R M s1 3
  clear hs1 had ht
  repeat first
   | refine oB (by first | (simp only [bS, bK, bJ, fE, fA, fD, fB, fC, bM, bB, dP, b0, g0, g1, g2, g3, g5, l0, l1, l2, l3, l5, eD, fa3, yG, qG, aEF, ld3, d6, d7, d10, d11, d12, d13, d17, d18, d19, d20, d23]; first | done | (with_reducible exact rfl) | (with_reducible exact ⟨rfl, rfl⟩)) | (with_reducible exact rfl)) ?_
   | refine lB (by first | (simp only [bS, bK, bJ, fE, fA, fD, fB, fC, bM, bB, dP, b0, g0, g1, g2, g3, g5, l0, l1, l2, l3, l5, eD, fa3, yG, qG, aEF, ld3, d6, d7, d10, d11, d12, d13, d17, d18, d19, d20, d23]; first | done | (with_reducible exact rfl) | (with_reducible exact ⟨rfl, rfl⟩)) | (with_reducible exact rfl)) ?_
   | refine oT ?_
   | refine oN ?_
   | refine oX ?_
   | refine lW ?_
   | refine lY ?_
   | exact oF (cK ..)
   | apply oK
   | refine lT ?_
   | refine lN ?_
   | refine lX ?_
   | refine lU ?_
   | refine lV ?_
   | apply lK
   | refine oI ?_
   | refine oJ rfl ?_
   | refine lI ?_
   | refine lJ rfl ?_
   | (with_reducible exact rfl)
  exact oF (iA p0 bor cs R M _ hp false)
 ·rw [if_neg hin]
  have d20 : aS Tryd.prog .geq 30 false (Un ad) (Un s1.mem.length) = some (.bool false) := by rw [nB, decide_eq_false (by rw [hm]; omega)]
  have d37 := aJE s1 ad
  rw [if_pos (by rw [hm]; omega)] at d37
  have d30 := ld3 G p0 bor cs R M s1
  rcases ho with ho | ho
  ·rw [if_pos ho]
   have d27 : aS Tryd.prog .eql 3 true (I6 i.op) (.int .i64 15) = some (.bool true) := by rw [iS, decide_eq_true ho]
   have d38 := ldM G p0 bor cs R M s1 ad (by rw [hm]; omega)
   have d39 := aBM s1 i.d hd.1
   rw [if_pos (by rw [hr]; omega)] at d39
   have d40 := stR p0 bor cs R M s1 i.d.toNat (s1.mem.getD ad 0) (by rw [hr]; omega)
   have hfin : ({ s1 with regs := s1.regs.set i.d.toNat (s1.mem.getD ad 0) } : MS) = s1.set i.d (s.mem.getD ad 0) := by rw [← hm]; rfl
   rw [hfin] at d40
   clear hs1 had ht hfin
   generalize s1.mem.getD ad 0 = z at *
   repeat first
    | refine oB (by first | (simp only [bS, bK, bJ, fE, fA, fD, fB, fC, bM, bB, dP, b0, g0, g1, g2, g3, g5, l0, l1, l2, l3, l5, eD, fa3, yG, qG, aEF, ld3, d6, d7, d10, d11, d12, d13, d17, d18, d19, d20, d27, d30, d37, d38, d39, d40]; first | done | (with_reducible exact rfl) | (with_reducible exact ⟨rfl, rfl⟩)) | (with_reducible exact rfl)) ?_
    | refine lB (by first | (simp only [bS, bK, bJ, fE, fA, fD, fB, fC, bM, bB, dP, b0, g0, g1, g2, g3, g5, l0, l1, l2, l3, l5, eD, fa3, yG, qG, aEF, ld3, d6, d7, d10, d11, d12, d13, d17, d18, d19, d20, d27, d30, d37, d38, d39, d40]; first | done | (with_reducible exact rfl) | (with_reducible exact ⟨rfl, rfl⟩)) | (with_reducible exact rfl)) ?_
    | refine oT ?_
    | refine oN ?_
    | refine oX ?_
    | refine lW ?_
    | refine lY ?_
    | exact oF (cK ..)
    | apply oK
    | refine lT ?_
    | refine lN ?_
    | refine lX ?_
    | refine lU ?_
    | refine lV ?_
    | apply lK
    | refine oI ?_
    | refine oJ rfl ?_
    | refine lI ?_
    | refine lJ rfl ?_
    | (with_reducible exact rfl)
   exact oF (iA p0 bor cs R M _ hp true)
  ·rw [if_neg (by omega)]
   have d27 : aS Tryd.prog .eql 3 true (I6 i.op) (.int .i64 15) = some (.bool false) := by rw [iS, decide_eq_false (by omega)]
   have d50 := aBM s1 i.b hb.1
   rw [if_pos (by rw [hr]; omega)] at d50
   have d51 := ldR G p0 bor cs R M s1 i.b.toNat (by rw [hr]; omega)
   have d53 := stM p0 bor cs R M s1 ad (s1.regs.getD i.b.toNat 0) (by rw [hm]; omega)
   have hfin : ({ s1 with mem := s1.mem.set ad (s1.regs.getD i.b.toNat 0) } : MS) = { s1 with mem := s.mem.set ad (s.rg i.b) } := by rw [hm, hr]; rfl
   rw [hfin] at d53
   clear hs1 had ht hfin
   generalize s1.regs.getD i.b.toNat 0 = z at *
   repeat first
    | refine oB (by first | (simp only [bS, bK, bJ, fE, fA, fD, fB, fC, bM, bB, dP, b0, g0, g1, g2, g3, g5, l0, l1, l2, l3, l5, eD, fa3, yG, qG, aEF, ld3, d6, d7, d10, d11, d12, d13, d17, d18, d19, d20, d27, d30, d37, d50, d51, d53]; first | done | (with_reducible exact rfl) | (with_reducible exact ⟨rfl, rfl⟩)) | (with_reducible exact rfl)) ?_
    | refine lB (by first | (simp only [bS, bK, bJ, fE, fA, fD, fB, fC, bM, bB, dP, b0, g0, g1, g2, g3, g5, l0, l1, l2, l3, l5, eD, fa3, yG, qG, aEF, ld3, d6, d7, d10, d11, d12, d13, d17, d18, d19, d20, d27, d30, d37, d50, d51, d53]; first | done | (with_reducible exact rfl) | (with_reducible exact ⟨rfl, rfl⟩)) | (with_reducible exact rfl)) ?_
    | refine oT ?_
    | refine oN ?_
    | refine oX ?_
    | refine lW ?_
    | refine lY ?_
    | exact oF (cK ..)
    | apply oK
    | refine lT ?_
    | refine lN ?_
    | refine lX ?_
    | refine lU ?_
    | refine lV ?_
    | apply lK
    | refine oI ?_
    | refine oJ rfl ?_
    | refine lI ?_
    | refine lJ rfl ?_
    | (with_reducible exact rfl)
   exact oF (iA p0 bor cs R M _ hp true)
set_option maxRecDepth 20000 in
set_option maxHeartbeats 1000000 in
include hp hs hl in
theorem aBw (k : Nat) (ha : i.op ≠ 17 → 0 ≤ i.a ∧ i.a < R) (ho : i.op = 17 ∨ i.op = 18 ∨ i.op = 19) (hk : 0 ≤ i.k) :
  bF.f G (k + 2) [PX, i.v] (jF p0 bor cs R M s) = some (.tup [], jF p0 bor cs R M (s.branch i)) := by
 have hR := hs.len
 rw [bF.step]
 unfold bF.c
 simp only [sI]
 have g0 := gi0 i
 have g2 := gi2 i
 have g5 := gi5 i
 have l0 := aCx G i
 have l2 := aEu G i
 have l5 := aGJ G i
 have b0 := aGH i
 have nk : I6 i.k = Nn i.k.toNat := by show AV.int .i64 i.k = .int .i64 _; congr 1; omega
 rw [nk] at l5
 by_cases h17 : i.op = 17
 ·have e : s.branch i = { s with at_ := i.k.toNat } := by unfold MS.branch; rw [if_pos h17]
  rw [e]
  have d3 : aS Tryd.prog .neq 3 true (I6 i.op) (.int .i64 17) = some (.bool false) := by rw [pQ]; simp [h17]
  have d25 := st4 p0 bor cs R M s i.k.toNat
  repeat first
   | refine oB (by first | (simp only [bS, bK, bJ, fE, fA, fD, fB, fC, bM, bB, dP, b0, g0, g2, g5, l0, l2, l5, eD, rJ, d3, d25]; first | done | (with_reducible exact rfl) | (with_reducible exact ⟨rfl, rfl⟩)) | (with_reducible exact rfl)) ?_
   | refine lB (by first | (simp only [bS, bK, bJ, fE, fA, fD, fB, fC, bM, bB, dP, b0, g0, g2, g5, l0, l2, l5, eD, rJ, d3, d25]; first | done | (with_reducible exact rfl) | (with_reducible exact ⟨rfl, rfl⟩)) | (with_reducible exact rfl)) ?_
   | refine oT ?_
   | refine oN ?_
   | refine oX ?_
   | refine lW ?_
   | refine lY ?_
   | exact oF (cK ..)
   | apply oK
   | refine lT ?_
   | refine lN ?_
   | refine lX ?_
   | refine lU ?_
   | refine lV ?_
   | apply lK
   | refine oI ?_
   | refine oJ rfl ?_
   | refine lI ?_
   | refine lJ rfl ?_
   | (with_reducible exact rfl)
  exact oF (rY p0 bor cs R M _ hp)
 ·obtain ⟨ha0, haR⟩ := ha h17
  have d3 : aS Tryd.prog .neq 3 true (I6 i.op) (.int .i64 17) = some (.bool true) := by rw [pQ]; simp [h17]
  have d9 := aBM s i.a ha0
  rw [if_pos (by omega)] at d9
  have d10 := ldR G p0 bor cs R M s i.a.toNat (by omega)
  have d11 : aS Tryd.prog .eql 30 true (Un (s.regs.getD i.a.toNat 0)) (.int .u64 0) = some (.bool (decide (s.rg i.a = 0))) := by
   rw [iS]; unfold MS.rg; congr 2; simp only [decide_eq_decide]; omega
  have d14 : aS Tryd.prog .eql 3 true (I6 i.op) (.int .i64 18) = some (.bool (decide (i.op = 18))) := iS ..
  have d15 : aS Tryd.prog .eql 4 false (.bool (decide (s.rg i.a = 0))) (.bool (decide (i.op = 18))) = some (.bool (decide (s.rg i.a = 0) == decide (i.op = 18))) := aAk Tryd.underlying4 ..
  have d16 : ∀ b H, aX (dU.f G (k + 1)) [.bool b] H = _ := fun b H => cT (H := H) (aBu G k b) rfl rfl
  by_cases hg : (decide (s.rg i.a = 0) == decide (i.op = 18)) = true
  ·have e : s.branch i = { s.leak 2 1 with at_ := i.k.toNat } := by unfold MS.branch; rw [if_neg h17, if_pos hg]
   rw [e]
   rw [hg] at d15
   have d16' := d16 true
   rw [if_pos rfl] at d16'
   have d17 : eE .i64 (Un 1) = some (I6 1) := rfl
   have d18 := oU p0 bor cs R M s (pW G p0 bor cs R M s k hp 2 1 (by omega))
   have d25 := st4 p0 bor cs R M (s.leak 2 1) i.k.toNat
   generalize decide (s.rg i.a = 0) = q1 at *
   generalize decide (i.op = 18) = q2 at *
   repeat first
    | refine oB (by first | (simp only [bS, bK, bJ, fE, fA, fD, fB, fC, bM, bB, dP, b0, g0, g2, g5, l0, l2, l5, eD, fa3, rJ, ld3, d3, d9, d10, d11, d14, d15, d16', d17, d18, d25, Bool.not_true, Bool.not_false]; first | done | (with_reducible exact rfl) | (with_reducible exact ⟨rfl, rfl⟩)) | (with_reducible exact rfl)) ?_
    | refine lB (by first | (simp only [bS, bK, bJ, fE, fA, fD, fB, fC, bM, bB, dP, b0, g0, g2, g5, l0, l2, l5, eD, fa3, rJ, ld3, d3, d9, d10, d11, d14, d15, d16', d17, d18, d25, Bool.not_true, Bool.not_false]; first | done | (with_reducible exact rfl) | (with_reducible exact ⟨rfl, rfl⟩)) | (with_reducible exact rfl)) ?_
    | refine oT ?_
    | refine oN ?_
    | refine oX ?_
    | refine lW ?_
    | refine lY ?_
    | exact oF (cK ..)
    | apply oK
    | refine lT ?_
    | refine lN ?_
    | refine lX ?_
    | refine lU ?_
    | refine lV ?_
    | apply lK
    | refine oI ?_
    | refine oJ rfl ?_
    | refine lI ?_
    | refine lJ rfl ?_
    | (with_reducible exact rfl)
   exact oF (rY p0 bor cs R M _ hp)
  ·have e : s.branch i = s.leak 2 0 := by unfold MS.branch; rw [if_neg h17, if_neg hg]
   rw [e]
   rw [Bool.not_eq_true] at hg
   rw [hg] at d15
   have d16' := d16 false
   rw [if_neg (by decide)] at d16'
   have d17 : eE .i64 (Un 0) = some (I6 0) := rfl
   have d18 := oU p0 bor cs R M s (pW G p0 bor cs R M s k hp 2 0 (by omega))
   generalize decide (s.rg i.a = 0) = q1 at *
   generalize decide (i.op = 18) = q2 at *
   repeat first
    | refine oB (by first | (simp only [bS, bK, bJ, fE, fA, fD, fB, fC, bM, bB, dP, b0, g0, g2, g5, l0, l2, l5, eD, fa3, rJ, ld3, d3, d9, d10, d11, d14, d15, d16', d17, d18, Bool.not_true, Bool.not_false]; first | done | (with_reducible exact rfl) | (with_reducible exact ⟨rfl, rfl⟩)) | (with_reducible exact rfl)) ?_
    | refine lB (by first | (simp only [bS, bK, bJ, fE, fA, fD, fB, fC, bM, bB, dP, b0, g0, g2, g5, l0, l2, l5, eD, fa3, rJ, ld3, d3, d9, d10, d11, d14, d15, d16', d17, d18, Bool.not_true, Bool.not_false]; first | done | (with_reducible exact rfl) | (with_reducible exact ⟨rfl, rfl⟩)) | (with_reducible exact rfl)) ?_
    | refine oT ?_
    | refine oN ?_
    | refine oX ?_
    | refine lW ?_
    | refine lY ?_
    | exact oF (cK ..)
    | apply oK
    | refine lT ?_
    | refine lN ?_
    | refine lX ?_
    | refine lU ?_
    | refine lV ?_
    | apply lK
    | refine oI ?_
    | refine oJ rfl ?_
    | refine lI ?_
    | refine lJ rfl ?_
    | (with_reducible exact rfl)
   exact oF (rY p0 bor cs R M _ hp)
set_option maxRecDepth 20000 in
set_option maxHeartbeats 2000000 in
include hp hs hl in
theorem aFc (n : Nat) (k : Nat) (hi : i.Ok R n) (hpc : s.at_ ≤ 1000000) :
  cD.f G (k + 4) [PX, i.v] (jF p0 bor cs R M s) = some (.bool (s.step i).2, jF p0 bor cs R M (s.step i).1) := by
 have hR := hs.len
 rw [cD.step]
 unfold cD.c
 simp only [sI]
 obtain ⟨t, ht⟩ : ∃ t : MS, t = { s with at_ := s.at_ + 1 } := ⟨_, rfl⟩
 have htr : t.regs = s.regs := by rw [ht]
 have hts : t.Ok R := by rw [ht]; exact ⟨hs.len, hs.regs, hs.mem, hs.leaks, hs.big, hs.few⟩
 have htl : t.leaks.length ≤ 999990 := by rw [ht]; exact hl
 have g0 := gi0 i
 have g1 := gi1 i
 have g2 := gi2 i
 have g3 := gi3 i
 have g4 := gi4 i
 have g5 := gi5 i
 have l0 := aCx G i
 have l1 := aGI G i
 have l2 := aEu G i
 have l3 := gl3 G i
 have l4 := aIt G i
 have l5 := aGJ G i
 have l6 := aJO G i
 have b0 := aGH i
 have c3 := ld4 G p0 bor cs R M s
 have c4 : aS Tryd.prog .add 3 true (Nn s.at_) (.int .i64 1) = some (Nn (s.at_ + 1)) := by
  rw [gU, dK (by omega) (by omega)]; congr 2
 have c7 := st4 p0 bor cs R M s (s.at_ + 1)
 rw [← ht] at c7
 have e0 : s.step i = (if i.op = 15 ∨ i.op = 16 then t.touch i
  else if i.op = 17 ∨ i.op = 18 ∨ i.op = 19 then (t.branch i, true)
  else if i.op = 20 then ({ t with code := i.k }, false)
  else if (kA i.op i.k (t.rg i.a) (t.rg i.b) (t.rg i.c)).2 = true then (t.set i.d (kA i.op i.k (t.rg i.a) (t.rg i.b) (t.rg i.c)).1, true)
  else (t, true)) := by rw [ht]; rfl
 rw [e0]
 clear ht e0
 have q : ∀ m : Int, aS Tryd.prog .eql 3 true (I6 i.op) (.int .i64 m) = some (.bool (decide (i.op = m))) := fun m => iS ..
 have q15 := q 15
 have q16 := q 16
 have q17 := q 17
 have q18 := q 18
 have q19 := q 19
 have q20 := q 20
 by_cases h1 : i.op = 15 ∨ i.op = 16
 ·rw [if_pos h1]
  have r := oU p0 bor cs R M t (aDo G p0 hp bor cs R M t i hts htl (k + 1) (hi.a (by omega) (by omega)) (hi.d (by omega)) (hi.b (by omega)) h1)
  by_cases h15 : i.op = 15
  ·rw [decide_eq_true h15] at q15
   generalize t.touch i = z at *
   repeat first
    | refine oB (by first | (simp only [bS, bK, bJ, fE, fA, fD, fB, fC, bM, bB, dP, b0, g0, g1, g2, g3, g4, g5, l0, l6, eD, rJ, c3, c4, c7, q15, q16, r]; first | done | (with_reducible exact rfl) | (with_reducible exact ⟨rfl, rfl⟩)) | (with_reducible exact rfl)) ?_
    | refine lB (by first | (simp only [bS, bK, bJ, fE, fA, fD, fB, fC, bM, bB, dP, b0, g0, g1, g2, g3, g4, g5, l0, l6, eD, rJ, c3, c4, c7, q15, q16, r]; first | done | (with_reducible exact rfl) | (with_reducible exact ⟨rfl, rfl⟩)) | (with_reducible exact rfl)) ?_
    | refine oT ?_
    | refine oN ?_
    | refine oX ?_
    | refine lW ?_
    | refine lY ?_
    | exact oF (cK ..)
    | apply oK
    | refine lT ?_
    | refine lN ?_
    | refine lX ?_
    | refine lU ?_
    | refine lV ?_
    | apply lK
    | refine oI ?_
    | refine oJ rfl ?_
    | refine lI ?_
    | refine lJ rfl ?_
    | (with_reducible exact rfl)
   exact oF (iA p0 bor cs R M _ hp _)
  ·rw [decide_eq_false h15] at q15
   rw [decide_eq_true (by omega)] at q16
   generalize t.touch i = z at *
   repeat first
    | refine oB (by first | (simp only [bS, bK, bJ, fE, fA, fD, fB, fC, bM, bB, dP, b0, g0, g1, g2, g3, g4, g5, l0, l6, eD, rJ, c3, c4, c7, q15, q16, r]; first | done | (with_reducible exact rfl) | (with_reducible exact ⟨rfl, rfl⟩)) | (with_reducible exact rfl)) ?_
    | refine lB (by first | (simp only [bS, bK, bJ, fE, fA, fD, fB, fC, bM, bB, dP, b0, g0, g1, g2, g3, g4, g5, l0, l6, eD, rJ, c3, c4, c7, q15, q16, r]; first | done | (with_reducible exact rfl) | (with_reducible exact ⟨rfl, rfl⟩)) | (with_reducible exact rfl)) ?_
    | refine oT ?_
    | refine oN ?_
    | refine oX ?_
    | refine lW ?_
    | refine lY ?_
    | exact oF (cK ..)
    | apply oK
    | refine lT ?_
    | refine lN ?_
    | refine lX ?_
    | refine lU ?_
    | refine lV ?_
    | apply lK
    | refine oI ?_
    | refine oJ rfl ?_
    | refine lI ?_
    | refine lJ rfl ?_
    | (with_reducible exact rfl)
   exact oF (iA p0 bor cs R M _ hp _)
 rw [if_neg h1]
 rw [decide_eq_false (by omega)] at q15 q16
 by_cases h2 : i.op = 17 ∨ i.op = 18 ∨ i.op = 19
 ·rw [if_pos h2]
  have r := oU p0 bor cs R M t (aBw G p0 hp bor cs R M t i hts htl (k + 1) (fun h => hi.a h (by omega)) h2 (hi.k (by omega) (by omega)).1)
  generalize t.branch i = z at *
  by_cases h17 : i.op = 17
  ·rw [decide_eq_true h17] at q17
   repeat first
    | refine oB (by first | (simp only [bS, bK, bJ, fE, fA, fD, fB, fC, bM, bB, dP, b0, g0, g1, g2, g3, g4, g5, l0, l6, eD, rJ, c3, c4, c7, q15, q16, q17, q18, q19, r]; first | done | (with_reducible exact rfl) | (with_reducible exact ⟨rfl, rfl⟩)) | (with_reducible exact rfl)) ?_
    | refine lB (by first | (simp only [bS, bK, bJ, fE, fA, fD, fB, fC, bM, bB, dP, b0, g0, g1, g2, g3, g4, g5, l0, l6, eD, rJ, c3, c4, c7, q15, q16, q17, q18, q19, r]; first | done | (with_reducible exact rfl) | (with_reducible exact ⟨rfl, rfl⟩)) | (with_reducible exact rfl)) ?_
    | refine oT ?_
    | refine oN ?_
    | refine oX ?_
    | refine lW ?_
    | refine lY ?_
    | exact oF (cK ..)
    | apply oK
    | refine lT ?_
    | refine lN ?_
    | refine lX ?_
    | refine lU ?_
    | refine lV ?_
    | apply lK
    | refine oI ?_
    | refine oJ rfl ?_
    | refine lI ?_
    | refine lJ rfl ?_
    | (with_reducible exact rfl)
   exact oF (iA p0 bor cs R M _ hp _)
  rw [decide_eq_false h17] at q17
  by_cases h18 : i.op = 18
  ·rw [decide_eq_true h18] at q18
   repeat first
    | refine oB (by first | (simp only [bS, bK, bJ, fE, fA, fD, fB, fC, bM, bB, dP, b0, g0, g1, g2, g3, g4, g5, l0, l6, eD, rJ, c3, c4, c7, q15, q16, q17, q18, q19, r]; first | done | (with_reducible exact rfl) | (with_reducible exact ⟨rfl, rfl⟩)) | (with_reducible exact rfl)) ?_
    | refine lB (by first | (simp only [bS, bK, bJ, fE, fA, fD, fB, fC, bM, bB, dP, b0, g0, g1, g2, g3, g4, g5, l0, l6, eD, rJ, c3, c4, c7, q15, q16, q17, q18, q19, r]; first | done | (with_reducible exact rfl) | (with_reducible exact ⟨rfl, rfl⟩)) | (with_reducible exact rfl)) ?_
    | refine oT ?_
    | refine oN ?_
    | refine oX ?_
    | refine lW ?_
    | refine lY ?_
    | exact oF (cK ..)
    | apply oK
    | refine lT ?_
    | refine lN ?_
    | refine lX ?_
    | refine lU ?_
    | refine lV ?_
    | apply lK
    | refine oI ?_
    | refine oJ rfl ?_
    | refine lI ?_
    | refine lJ rfl ?_
    | (with_reducible exact rfl)
   exact oF (iA p0 bor cs R M _ hp _)
  ·rw [decide_eq_false h18] at q18
   rw [decide_eq_true (by omega)] at q19
   repeat first
    | refine oB (by first | (simp only [bS, bK, bJ, fE, fA, fD, fB, fC, bM, bB, dP, b0, g0, g1, g2, g3, g4, g5, l0, l6, eD, rJ, c3, c4, c7, q15, q16, q17, q18, q19, r]; first | done | (with_reducible exact rfl) | (with_reducible exact ⟨rfl, rfl⟩)) | (with_reducible exact rfl)) ?_
    | refine lB (by first | (simp only [bS, bK, bJ, fE, fA, fD, fB, fC, bM, bB, dP, b0, g0, g1, g2, g3, g4, g5, l0, l6, eD, rJ, c3, c4, c7, q15, q16, q17, q18, q19, r]; first | done | (with_reducible exact rfl) | (with_reducible exact ⟨rfl, rfl⟩)) | (with_reducible exact rfl)) ?_
    | refine oT ?_
    | refine oN ?_
    | refine oX ?_
    | refine lW ?_
    | refine lY ?_
    | exact oF (cK ..)
    | apply oK
    | refine lT ?_
    | refine lN ?_
    | refine lX ?_
    | refine lU ?_
    | refine lV ?_
    | apply lK
    | refine oI ?_
    | refine oJ rfl ?_
    | refine lI ?_
    | refine lJ rfl ?_
    | (with_reducible exact rfl)
   exact oF (iA p0 bor cs R M _ hp _)
 rw [if_neg h2]
 rw [decide_eq_false (by omega)] at q17 q18 q19
 by_cases h3 : i.op = 20
 ·rw [if_pos h3]
  rw [decide_eq_true h3] at q20
  have r := st5 p0 bor cs R M t i.k
  repeat first
   | refine oB (by first | (simp only [bS, bK, bJ, fE, fA, fD, fB, fC, bM, bB, dP, b0, g0, g1, g2, g3, g4, g5, l0, l5, l6, eD, rJ, yG, qG, c3, c4, c7, q15, q16, q17, q18, q19, q20, r]; first | done | (with_reducible exact rfl) | (with_reducible exact ⟨rfl, rfl⟩)) | (with_reducible exact rfl)) ?_
   | refine lB (by first | (simp only [bS, bK, bJ, fE, fA, fD, fB, fC, bM, bB, dP, b0, g0, g1, g2, g3, g4, g5, l0, l5, l6, eD, rJ, yG, qG, c3, c4, c7, q15, q16, q17, q18, q19, q20, r]; first | done | (with_reducible exact rfl) | (with_reducible exact ⟨rfl, rfl⟩)) | (with_reducible exact rfl)) ?_
   | refine oT ?_
   | refine oN ?_
   | refine oX ?_
   | refine lW ?_
   | refine lY ?_
   | exact oF (cK ..)
   | apply oK
   | refine lT ?_
   | refine lN ?_
   | refine lX ?_
   | refine lU ?_
   | refine lV ?_
   | apply lK
   | refine oI ?_
   | refine oJ rfl ?_
   | refine lI ?_
   | refine lJ rfl ?_
   | (with_reducible exact rfl)
  exact oF (iA p0 bor cs R M _ hp _)
 rw [if_neg h3]
 rw [decide_eq_false h3] at q20
 have hop := hi.op
 obtain ⟨a0, aR⟩ := hi.a (by omega) h3
 obtain ⟨d0, dR⟩ := hi.d (by omega)
 obtain ⟨bb0, bR⟩ := hi.b (by omega)
 obtain ⟨cc0, cR⟩ := hi.c (by omega)
 have f0 := ld3 G p0 bor cs R M t
 have f1 := aBM t i.a a0
 rw [if_pos (by rw [htr]; omega)] at f1
 have f2 := ldR G p0 bor cs R M t i.a.toNat (by rw [htr]; omega)
 have f3 := aBM t i.b bb0
 rw [if_pos (by rw [htr]; omega)] at f3
 have f4 := ldR G p0 bor cs R M t i.b.toNat (by rw [htr]; omega)
 have f5 := aBM t i.c cc0
 rw [if_pos (by rw [htr]; omega)] at f5
 have f6 := ldR G p0 bor cs R M t i.c.toNat (by rw [htr]; omega)
 have f7 := aBM t i.d d0
 rw [if_pos (by rw [htr]; omega)] at f7
 have ev : WI.v i = WI.v ⟨i.op, i.d, i.a, i.b, i.c, i.k⟩ := rfl
 have r : ∀ H, aX (cZ.f G (k + 3)) [i.v, Un (t.rg i.a), Un (t.rg i.b), Un (t.rg i.c)] H = _ := fun H => cT (H := H) (aDr G (k + 1) i.op i.d i.a i.b i.c i.k _ _ _ (hts.rg _) (hts.rg _) (hts.rg _)) rfl rfl
 have f8 := stR p0 bor cs R M t i.d.toNat (kA i.op i.k (t.rg i.a) (t.rg i.b) (t.rg i.c)).1 (by rw [htr]; omega)
 have e1 : t.regs.getD i.a.toNat 0 = t.rg i.a := rfl
 have e2 : t.regs.getD i.b.toNat 0 = t.rg i.b := rfl
 have e3 : t.regs.getD i.c.toNat 0 = t.rg i.c := rfl
 have e4 : ∀ x, ({ t with regs := t.regs.set i.d.toNat x } : MS) = t.set i.d x := fun x => rfl
 rw [e4] at f8
 rw [e1] at f2
 rw [e2] at f4
 rw [e3] at f6
 generalize t.rg i.a = ra at *
 generalize t.rg i.b = rb at *
 generalize t.rg i.c = rc at *
 generalize kA i.op i.k ra rb rc = v at *
 obtain ⟨vn, vb⟩ := v
 have x0 : ∀ u v : AV, aW (.tup [u, v]) 0 = some u := fun _ _ => rfl
 have x1 : ∀ u v : AV, aW (.tup [u, v]) 1 = some v := fun _ _ => rfl
 cases vb
 ·rw [if_neg (by simp)]
  simp only at r f8
  repeat first
   | refine oB (by first | (simp only [bS, bK, bJ, fE, fA, fD, fB, fC, bM, bB, dP, b0, g0, l0, eD, rJ, c3, c4, c7, q15, q16, q17, q18, q19, q20]; first | done | (with_reducible exact rfl) | (with_reducible exact ⟨rfl, rfl⟩)) | (with_reducible exact rfl)) ?_
   | refine lB (by first | (simp only [bS, bK, bJ, fE, fA, fD, fB, fC, bM, bB, dP, b0, g0, l0, eD, rJ, c3, c4, c7, q15, q16, q17, q18, q19, q20]; first | done | (with_reducible exact rfl) | (with_reducible exact ⟨rfl, rfl⟩)) | (with_reducible exact rfl)) ?_
   | refine oT ?_
   | refine oN ?_
   | refine oX ?_
   | refine lW ?_
   | refine lY ?_
   | exact oF (cK ..)
   | apply oK
   | refine lT ?_
   | refine lN ?_
   | refine lX ?_
   | refine lU ?_
   | refine lV ?_
   | apply lK
   | refine oI ?_
   | refine oJ rfl ?_
   | refine lI ?_
   | refine lJ rfl ?_
   | (with_reducible exact rfl)
  refine oB (by simp only [bS, bK, bJ, l6]; rfl) ?_
  repeat first
   | refine oB (by first | (simp only [bS, bK, bJ, fE, fA, fD, fB, fC, bM, bB, dP, eD, g1, g2, g3, g4, l1, l2, l3, l4, fa3, f0, f1, f2, f3, f4, f5, f6, r, x0, x1]; first | done | (with_reducible exact rfl) | (with_reducible exact ⟨rfl, rfl⟩)) | (with_reducible exact rfl)) ?_
   | refine lB (by first | (simp only [bS, bK, bJ, fE, fA, fD, fB, fC, bM, bB, dP, eD, g1, g2, g3, g4, l1, l2, l3, l4, fa3, f0, f1, f2, f3, f4, f5, f6, r, x0, x1]; first | done | (with_reducible exact rfl) | (with_reducible exact ⟨rfl, rfl⟩)) | (with_reducible exact rfl)) ?_
   | refine oT ?_
   | refine oN ?_
   | refine oX ?_
   | refine lW ?_
   | refine lY ?_
   | exact oF (cK ..)
   | apply oK
   | refine lT ?_
   | refine lN ?_
   | refine lX ?_
   | refine lU ?_
   | refine lV ?_
   | apply lK
   | refine oI ?_
   | refine oJ rfl ?_
   | refine lI ?_
   | refine lJ rfl ?_
   | (with_reducible exact rfl)
  exact oF (iA p0 bor cs R M _ hp _)
 ·rw [if_pos rfl]
  simp only at r f8
  repeat first
   | refine oB (by first | (simp only [bS, bK, bJ, fE, fA, fD, fB, fC, bM, bB, dP, b0, g0, l0, eD, rJ, c3, c4, c7, q15, q16, q17, q18, q19, q20]; first | done | (with_reducible exact rfl) | (with_reducible exact ⟨rfl, rfl⟩)) | (with_reducible exact rfl)) ?_
   | refine lB (by first | (simp only [bS, bK, bJ, fE, fA, fD, fB, fC, bM, bB, dP, b0, g0, l0, eD, rJ, c3, c4, c7, q15, q16, q17, q18, q19, q20]; first | done | (with_reducible exact rfl) | (with_reducible exact ⟨rfl, rfl⟩)) | (with_reducible exact rfl)) ?_
   | refine oT ?_
   | refine oN ?_
   | refine oX ?_
   | refine lW ?_
   | refine lY ?_
   | exact oF (cK ..)
   | apply oK
   | refine lT ?_
   | refine lN ?_
   | refine lX ?_
   | refine lU ?_
   | refine lV ?_
   | apply lK
   | refine oI ?_
   | refine oJ rfl ?_
   | refine lI ?_
   | refine lJ rfl ?_
   | (with_reducible exact rfl)
  refine oB (by simp only [bS, bK, bJ, l6]; rfl) ?_
  repeat first
   | refine oB (by first | (simp only [bS, bK, bJ, fE, fA, fD, fB, fC, bM, bB, dP, eD, g1, g2, g3, g4, l1, l2, l3, l4, fa3, f0, f1, f2, f3, f4, f5, f6, f7, f8, r, x0, x1]; first | done | (with_reducible exact rfl) | (with_reducible exact ⟨rfl, rfl⟩)) | (with_reducible exact rfl)) ?_
   | refine lB (by first | (simp only [bS, bK, bJ, fE, fA, fD, fB, fC, bM, bB, dP, eD, g1, g2, g3, g4, l1, l2, l3, l4, fa3, f0, f1, f2, f3, f4, f5, f6, f7, f8, r, x0, x1]; first | done | (with_reducible exact rfl) | (with_reducible exact ⟨rfl, rfl⟩)) | (with_reducible exact rfl)) ?_
   | refine oT ?_
   | refine oN ?_
   | refine oX ?_
   | refine lW ?_
   | refine lY ?_
   | exact oF (cK ..)
   | apply oK
   | refine lT ?_
   | refine lN ?_
   | refine lX ?_
   | refine lU ?_
   | refine lV ?_
   | apply lK
   | refine oI ?_
   | refine oJ rfl ?_
   | refine lI ?_
   | refine lJ rfl ?_
   | (with_reducible exact rfl)
  exact oF (iA p0 bor cs R M _ hp _)
end
def aGx (s : MS) : AV := .agg [I6 s.code, .sl 5 s.mem.length 0 s.mem.length 1, .sl 6 s.leaks.length 0 s.leaks.length 2, Nn s.steps]
def hpE (p0 : ABlk) (bor : Bool) (cs : List WI) (R M : Int) (s : MS) : aA := (jF p0 bor cs R M s).set 1 ⟨73, 4, [aGx s]⟩
def xsM (fuel : Int) (bor b2 : Bool) (cs : List WI) (R M : Int) : List AV := [I6 fuel, .nilf, .rp b2 (.agg [.ro bor (bW cs), I6 R, I6 M]) 0, .ptr 1 1 0 0, PX]
section
variable (G : aE) (p0 : ABlk) (hp : aV 7 p0.elems = true) (bor b2 : Bool) (cs : List WI) (R : Nat) (M : Int) (fuel : Int) (self : cU) (k : Nat)
theorem aFN (s : MS) : aI G true 4 (.ptr 3 1 0 5) (jF p0 bor cs R M s) = some (aGx s) := rfl
theorem aGB (s : MS) : fP (aO 4 (.ptr 1 1 0 0) (aGx s) (jF p0 bor cs R M s)) = some (.tup [], hpE p0 bor cs R M s) := rfl
theorem aGK : aV 7 (xsM fuel bor b2 cs R M) = true := by simp [xsM, aV, aP, fI]
set_option maxRecDepth 20000 in
set_option maxHeartbeats 1000000 in
include hp in
theorem xX (hf : fuel ≤ 99999) (hcl : cs.length ≤ 100000) (hcs : ∀ j, j < cs.length → (cs.getD j default).Ok R cs.length) : ∀ (f : Nat) (s s' : MS), iX cs fuel f s = some s' → s.Ok R → s.at_ ≤ cs.length → (s.steps : Int) ≤ fuel →
  cM (cH.l3 G (k + 4) 7 self) f (xsM fuel bor b2 cs R M) (jF p0 bor cs R M s) = some (.ret, xsM fuel bor b2 cs R M, hpE p0 bor cs R M s')
 | 0, s, s', h, _, _, _ => by simp [iX] at h
 | f + 1, s, s', h, hs, hat, hst => by
  have few := hs.few
  have lks := hs.leaks
  rw [aU, cH.l3]
  refine lC (wU p0 bor cs R M s hp _ (aGK bor b2 cs R M fuel)) ?_
  have c16 := ld4 G p0 bor cs R M s
  have c17 : aB 0 (.rp b2 (.agg [.ro bor (bW cs), I6 R, I6 M]) 0) = some (.rp b2 (.agg [.ro bor (bW cs), I6 R, I6 M]) 0) := rfl
  have c18 : ∀ H, aI G false 1 (.rp b2 (.agg [.ro bor (bW cs), I6 R, I6 M]) 0) H = some (.ro bor (bW cs)) := fun H => rfl
  have c19 : aY (.ro bor (bW cs)) = some (Nn cs.length) := by simp [aY, gG]
  have c31 := ld8 G p0 bor cs R M s
  have q2 : aS Tryd.prog .neq 144 true .nilf .nilf = some (.bool false) := by kernel_rfl
  simp only [iX] at h
  unfold xsM
  by_cases h1 : cs.length ≤ s.at_
  ·rw [if_pos h1] at h
   simp only [Option.some.injEq] at h
   have c20 : aS Tryd.prog .geq 3 false (Nn s.at_) (Nn cs.length) = some (.bool true) := by rw [nB, decide_eq_true (by omega)]
   have c24 := st5 p0 bor cs R M s 3
   rw [h] at c24
   have c27 := aFN G p0 bor cs R M s'
   have c28 := aGB p0 bor cs R M s'
   repeat first
    | refine oB (by first | (simp only [bS, bK, bJ, fE, fA, fD, fB, fC, bM, bB, dP, eD, rJ, yG, qG, c16, c17, c18, c19, c20, c24, c27, c28]; first | done | (with_reducible exact rfl) | (with_reducible exact ⟨rfl, rfl⟩)) | (with_reducible exact rfl)) ?_
    | refine lB (by first | (simp only [bS, bK, bJ, fE, fA, fD, fB, fC, bM, bB, dP, eD, rJ, yG, qG, c16, c17, c18, c19, c20, c24, c27, c28]; first | done | (with_reducible exact rfl) | (with_reducible exact ⟨rfl, rfl⟩)) | (with_reducible exact rfl)) ?_
    | refine oT ?_
    | refine oN ?_
    | refine oX ?_
    | refine lW ?_
    | refine lY ?_
    | exact oF (cK ..)
    | apply oK
    | refine lT ?_
    | refine lN ?_
    | refine lX ?_
    | refine lU ?_
    | refine lV ?_
    | apply lK
    | refine oI ?_
    | refine oJ rfl ?_
    | refine lI ?_
    | refine lJ rfl ?_
    | (with_reducible exact rfl)
   rfl
  rw [if_neg h1] at h
  have c20 : aS Tryd.prog .geq 3 false (Nn s.at_) (Nn cs.length) = some (.bool false) := by rw [nB, decide_eq_false (by omega)]
  by_cases h2 : (s.steps : Int) = fuel
  ·rw [if_pos h2] at h
   simp only [Option.some.injEq] at h
   have c33 : aS Tryd.prog .eql 2 false (Nn s.steps) (I6 fuel) = some (.bool true) := by rw [iS, decide_eq_true h2]
   have c24 := st5 p0 bor cs R M s 4
   rw [h] at c24
   have c27 := aFN G p0 bor cs R M s'
   have c28 := aGB p0 bor cs R M s'
   repeat first
    | refine oB (by first | (simp only [bS, bK, bJ, fE, fA, fD, fB, fC, bM, bB, dP, eD, rJ, yG, qG, aEG, c16, c17, c18, c19, c20, c24, c27, c28, c31, c33]; first | done | (with_reducible exact rfl) | (with_reducible exact ⟨rfl, rfl⟩)) | (with_reducible exact rfl)) ?_
    | refine lB (by first | (simp only [bS, bK, bJ, fE, fA, fD, fB, fC, bM, bB, dP, eD, rJ, yG, qG, aEG, c16, c17, c18, c19, c20, c24, c27, c28, c31, c33]; first | done | (with_reducible exact rfl) | (with_reducible exact ⟨rfl, rfl⟩)) | (with_reducible exact rfl)) ?_
    | refine oT ?_
    | refine oN ?_
    | refine oX ?_
    | refine lW ?_
    | refine lY ?_
    | exact oF (cK ..)
    | apply oK
    | refine lT ?_
    | refine lN ?_
    | refine lX ?_
    | refine lU ?_
    | refine lV ?_
    | apply lK
    | refine oI ?_
    | refine oJ rfl ?_
    | refine lI ?_
    | refine lJ rfl ?_
    | (with_reducible exact rfl)
   rfl
  rw [if_neg h2] at h
  have c33 : aS Tryd.prog .eql 2 false (Nn s.steps) (I6 fuel) = some (.bool false) := by rw [iS, decide_eq_false h2]
  have c62 : aS Tryd.prog .add 2 true (Nn s.steps) (.int .i64 1) = some (Nn (s.steps + 1)) := by
   rw [gU, dK (by omega) (by omega)]; congr 2
  have c67 := st8 p0 bor cs R M s (s.steps + 1)
  have c70 := ld4 G p0 bor cs R M { s with steps := s.steps + 1 }
  have c71 := oU p0 bor cs R M { s with steps := s.steps + 1 } (pW G p0 bor cs R M { s with steps := s.steps + 1 } (k + 3) hp 1 s.at_ (by simp only; omega))
  have et : (({ s with steps := s.steps + 1 } : MS).leak 1 s.at_) = s.tick := rfl
  rw [et] at c71
  have okt : s.tick.Ok R := ⟨hs.len, hs.regs, hs.mem, by simp [MS.tick, MS.leak]; omega, hs.big, by simp [MS.tick, MS.leak]; omega⟩
  have c75 := ld4 G p0 bor cs R M s.tick
  have eat : s.tick.at_ = s.at_ := rfl
  rw [eat] at c75
  have c77 := zE bor cs s.at_ (by omega)
  have hi := hcs s.at_ (by omega)
  have tll : s.tick.leaks.length ≤ 999990 := by simp [MS.tick, MS.leak]; omega
  have c79 := oU p0 bor cs R M s.tick (aFc G p0 hp bor cs R M s.tick (cs.getD s.at_ default) okt tll cs.length k hi (by rw [eat]; omega))
  obtain ⟨o1, o2, o3, o4⟩ := MS.step_ok okt hi (by simp [MS.tick, MS.leak]; omega) (by rw [eat]; omega)
  have hst2 : s.tick.steps = s.steps + 1 := rfl
  have c78 := aBN G bor (cs.getD s.at_ default)
  generalize cs.getD s.at_ default = i at *
  obtain ⟨s2, b, hsb⟩ : ∃ s2 b, s.tick.step i = (s2, b) := ⟨_, _, rfl⟩
  rw [hsb] at h c79 o1 o2 o3 o4
  simp only at h c79 o1 o2 o3 o4
  cases b
  ·simp only [Option.some.injEq] at h
   subst h
   have c83 := aFN G p0 bor cs R M s2
   have c84 := aGB p0 bor cs R M s2
   repeat first
    | refine oB (by first | (simp only [bS, bK, bJ, fE, fA, fD, fB, fC, bM, bB, dP, eD, rJ, yG, qG, aEG, c16, c17, c18, c19, c20, c31, c33, q2, c62, c67, c70, c71, c75, c77, c78, c79, c83, c84, Bool.not_true, Bool.not_false]; first | done | (with_reducible exact rfl) | (with_reducible exact ⟨rfl, rfl⟩)) | (with_reducible exact rfl)) ?_
    | refine lB (by first | (simp only [bS, bK, bJ, fE, fA, fD, fB, fC, bM, bB, dP, eD, rJ, yG, qG, aEG, c16, c17, c18, c19, c20, c31, c33, q2, c62, c67, c70, c71, c75, c77, c78, c79, c83, c84, Bool.not_true, Bool.not_false]; first | done | (with_reducible exact rfl) | (with_reducible exact ⟨rfl, rfl⟩)) | (with_reducible exact rfl)) ?_
    | refine oT ?_
    | refine oN ?_
    | refine oX ?_
    | refine lW ?_
    | refine lY ?_
    | exact oF (cK ..)
    | apply oK
    | refine lT ?_
    | refine lN ?_
    | refine lX ?_
    | refine lU ?_
    | refine lV ?_
    | apply lK
    | refine oI ?_
    | refine oJ rfl ?_
    | refine lI ?_
    | refine lJ rfl ?_
    | (with_reducible exact rfl)
   rfl
  ·simp only at h
   have ih := xX hf hcl hcs f s2 s' h o1 o2 (by rw [o3, hst2]; omega)
   unfold xsM at ih
   repeat first
    | refine oB (by first | (simp only [bS, bK, bJ, fE, fA, fD, fB, fC, bM, bB, dP, eD, rJ, yG, qG, aEG, c16, c17, c18, c19, c20, c31, c33, q2, c62, c67, c70, c71, c75, c77, c78, c79, Bool.not_true, Bool.not_false]; first | done | (with_reducible exact rfl) | (with_reducible exact ⟨rfl, rfl⟩)) | (with_reducible exact rfl)) ?_
    | refine lB (by first | (simp only [bS, bK, bJ, fE, fA, fD, fB, fC, bM, bB, dP, eD, rJ, yG, qG, aEG, c16, c17, c18, c19, c20, c31, c33, q2, c62, c67, c70, c71, c75, c77, c78, c79, Bool.not_true, Bool.not_false]; first | done | (with_reducible exact rfl) | (with_reducible exact ⟨rfl, rfl⟩)) | (with_reducible exact rfl)) ?_
    | refine oT ?_
    | refine oN ?_
    | refine oX ?_
    | refine lW ?_
    | refine lY ?_
    | exact oF (cK ..)
    | apply oK
    | refine lT ?_
    | refine lN ?_
    | refine lX ?_
    | refine lU ?_
    | refine lV ?_
    | apply lK
    | refine oI ?_
    | refine oJ rfl ?_
    | refine lI ?_
    | refine lJ rfl ?_
    | (with_reducible exact rfl)
   exact ih
end
theorem aAI (l : List Nat) : fF (dC l) = true := nN _ (fun _ => rfl) l
def kC (s : MS) : AV := .agg [I6 s.code, .ro false (dC s.mem), .ro false (iK s.leaks), Nn s.steps]
theorem wF (s : MS) : eW (kC s) = true := by simp [kC, eW, gW, aIA, aGX]
def hpC (p0 : ABlk) (bor : Bool) (cs : List WI) (R : Nat) (M : Int) : aA :=
 [p0, ⟨73, 4, [.agg [.int .i64 0, .nils, .nils, .int .i64 0]]⟩, ⟨30, 1, dC (List.replicate R 0)⟩,
  ⟨147, 9, [.agg [.ro bor (bW cs), I6 R, I6 M, .sl 2 R 0 R 1, .int .i64 0, .int .i64 0, .nils, .nils, .int .i64 0]]⟩]
theorem aCO (G : aE) (k : Nat) (H : aA) (hH : mD H H = true) (bm : Bool) (mem : List Nat) (hl : mem.length ≤ 1000000) :
  aK.f G (k + 1) [.ro bm (dC mem)] H = some (.sl (H.length + 1) mem.length 0 mem.length 1, H ++ [⟨30, 1, []⟩, ⟨30, 1, dC mem⟩]) := by
 rw [aK.step]
 unfold aK.c
 have e1 : cB 30 1 0 (.int .u64 0) [] (H ++ [⟨30, 1, []⟩]) = some (.sl (H.length + 1) 0 0 0 1, H ++ [⟨30, 1, []⟩, ⟨30, 1, []⟩]) := by
  simp [cB, dW]
 have e2 : dX 30 1 (.sl (H.length + 1) 0 0 0 1) (.ro bm (dC mem)) (H ++ [⟨30, 1, []⟩, ⟨30, 1, []⟩]) = some (.sl (H.length + 1) mem.length 0 mem.length 1, H ++ [⟨30, 1, []⟩, ⟨30, 1, dC mem⟩]) := by
  have g : (H ++ [⟨30, 1, []⟩, ⟨30, 1, []⟩] : aA)[H.length + 1]? = some ⟨30, 1, []⟩ := by
   rw [List.getElem?_append_right (by omega)]; simp
  unfold dX
  simp only [g, fG, aDD, gX, List.length_nil, List.take_nil, List.nil_append, List.drop_nil, List.append_nil, Nat.zero_add]
  rw [if_pos (by refine ⟨?_, ?_, ?_, ?_, ?_⟩ <;> first | trivial | omega)]
  simp [List.set_append_right]
 refine iE ?_
 cases mem with
 | nil =>
  have q : aS Tryd.prog .eql 22 true (.ro bm (dC [])) .nils = some .anyb := by kernel_rfl
  have fx := q
  refine fV ?_
  have hh : mD (H ++ [⟨30, 1, []⟩, ⟨30, 1, []⟩]) (H ++ [⟨30, 1, []⟩, ⟨30, 1, []⟩]) = true := aBD hH (by simp [mD, iV])
  have e3 : (H ++ [⟨30, 1, []⟩] ++ [⟨30, 1, []⟩] : aA) = H ++ [⟨30, 1, []⟩, ⟨30, 1, []⟩] := by simp
  have e4 : (H ++ [⟨30, 1, []⟩] : aA).length = H.length + 1 := by simp
  have e5 : dX 30 1 (.sl (H.length + 1) 0 0 0 1) (.ro bm (dC [])) (H ++ [⟨30, 1, []⟩, ⟨30, 1, []⟩]) = some (.sl (H.length + 1) 0 0 0 1, H ++ [⟨30, 1, []⟩, ⟨30, 1, []⟩]) := e2
  rw [e3, e4]
  refine aKc (e := .ret) (xs := [.sl (H.length + 1) 0 0 0 1]) rfl ?_ (by simp [iV, iJ]) hh rfl
  refine fM ?_
  have fx := aKE e1 <| e5
  refine fV ?_
  rfl
 | cons a l =>
  have q : aS Tryd.prog .eql 22 true (.ro bm (dC (a :: l))) .nils = some (.bool false) := by kernel_rfl
  have fx := aKE q <| aKE e1 <| e2
  refine fV ?_
  rfl
theorem eqU (l : List Nat) : iV (dC l) (dC l) = true := wG _ (fun _ => by simp [iJ]) l
theorem eqC (l : List WI) : iV (bW l) (bW l) = true := wG _ (fun _ => by simp [WI.v, iJ, iV]) l
theorem aFF {p0 : ABlk} (hq : iV p0.elems p0.elems = true) (bor : Bool) (cs : List WI) (R : Nat) (M : Int) : mD (hpC p0 bor cs R M) (hpC p0 bor cs R M) = true := by
 simp [hpC, mD, iV, iJ, hq, eqU, eqC]
theorem aDt (G : aE) (k : Nat) (p0 : ABlk) (hp : aV 1 p0.elems = true) (hq : iV p0.elems p0.elems = true) (bor bm : Bool) (cs : List WI) (R : Nat) (M : Int) (fuel : Int) (mem : List Nat)
  (hR : R ≤ 1000000) (hm : ∀ x ∈ mem, x < 18446744073709551616) (hml : mem.length ≤ 1000000) (h0 : 0 ≤ fuel) (hf : fuel ≤ 99999) (hk : fuel < k + 4) (hcl : cs.length ≤ 100000) (hcs : ∀ j, j < cs.length → (cs.getD j default).Ok R cs.length) :
  ∃ s', iX cs fuel (k + 4) (s0 R mem) = some s' ∧ cH.f G (k + 5) [cV bor cs R M, .ro bm (dC mem), I6 fuel, .nilf] [p0] = some (kC s', [p0]) := by
 obtain ⟨s', hs⟩ := zV cs fuel (k + 4) (s0 R mem) (by simp only [s0]; omega) (by simp only [s0]; omega)
 refine ⟨s', hs, ?_⟩
 rw [cH.step]
 unfold cH.c
 have hp7 : aV 7 p0.elems = true := iZ (by omega) hp
 have loop := xX G p0 hp7 bor false cs R M fuel (cH.f G (k + 4)) k hf hcl hcs (k + 4) (s0 R mem) s' hs (aIm R mem hm hml) (by simp [s0]) (by simp only [s0]; omega)
 have c5 : fS 30 1 (.int .u64 0) (I6 R) (I6 R) [p0, ⟨73, 4, [.agg [.int .i64 0, .nils, .nils, .int .i64 0]]⟩] = some (.sl 2 R 0 R 1, [p0, ⟨73, 4, [.agg [.int .i64 0, .nils, .nils, .int .i64 0]]⟩, ⟨30, 1, dC (List.replicate R 0)⟩]) := by
  unfold fS
  have : (0 : Int) ≤ R ∧ (R : Int) ≤ R ∧ (R : Int) ≤ 1099511627776 := by omega
  simp only [this, and_self, if_true, Int.toNat_natCast, dC, List.map_replicate]
  rfl
 have c8 := uC (aCO G (k + 3) (hpC p0 bor cs R M) (aFF hq bor cs R M) bm mem hml) (by simp)
 have e8 : (hpC p0 bor cs R M).length + 1 = 5 := rfl
 rw [e8] at c8
 refine iE ?_
 unfold cV
 have e9 : (hpC p0 bor cs R M ++ [⟨30, 1, []⟩, ⟨30, 1, dC mem⟩] : aA) = [p0, ⟨73, 4, [.agg [.int .i64 0, .nils, .nils, .int .i64 0]]⟩, ⟨30, 1, dC (List.replicate R 0)⟩,
  ⟨147, 9, [.agg [.ro bor (bW cs), I6 R, I6 M, .sl 2 R 0 R 1, .int .i64 0, .int .i64 0, .nils, .nils, .int .i64 0]]⟩, ⟨30, 1, []⟩, ⟨30, 1, dC mem⟩] := rfl
 rw [e9] at c8
 unfold hpC at c8
 have fx := aKE c5 <| c8
 refine fV ?_
 refine eV1 (H1 := jF p0 bor cs R M (s0 R mem)) (by simp only [jF, s0, List.length_replicate]; rfl) ?_
 have e7 : (jF p0 bor cs (R : Int) M (s0 R mem)).length = 7 := rfl
 have hl : aI G true 4 (.ptr 1 1 0 0) (hpE p0 bor cs R M s') = some (aGx s') := rfl
 have fin : wI [aI G true 4 (.ptr 1 1 0 0) (hpE p0 bor cs R M s')] 1 (hpE p0 bor cs R M s') = some (.ret, [kC s'], [p0]) := by
  have f1 := aFC (H := hpE p0 bor cs R M s') (b := 5) (n0 := 1) (d := 4) (ty := 30) rfl (by omega) (gX s'.mem) (aDD _) (iB 1 _)
  have f2 := aFC (H := hpE p0 bor cs R M s') (b := 6) (n0 := 1) (d := 4) (ty := 91) rfl (by omega) (kP s'.leaks) (aGR _) (nK 1 _)
  have f3 : nG (hpE p0 bor cs R M s') 1 6 (aGx s') = some (kC s') :=
   aHj (by simp [aV, aP]) (pX (pU rfl 5) (pX f1 (pX f2 (pX (pU rfl 5) aFQ))))
  unfold wI
  rw [hl]
  simp only [dD]
  exact aDT f3 (by show cF 1 [p0] = true; simp [cF, hp])
 simp only [xsM] at loop
 have e1 : ([p0] : aA).length = 1 := rfl
 simp only [e1]
 refine eV0 ?_
 rw [e7]
 refine eK ?_
 refine eL loop ?_
 have fx := hl
 refine fV ?_
 exact oF fin
section
variable {bor : Bool} (G : aE) (hg : GOk G) (k : Nat) (self : cU) (cs : List WI) (R M : Int)
def nH (M : Int) (n : Nat) (fuel : Int) : VE :=
 if (n : Int) ≠ M then .bare 1 else if fuel < 0 ∨ 1073741824 < fuel then .bare 2 else .ok
theorem aCH (bm : Bool) (mem : List Nat) (fuel : Int) (h2 : nH M mem.length fuel = .ok) : cY.f G (k + 1) [cV bor cs R M, .ro bm (dC mem), I6 fuel] [] = some (veV (nH M mem.length fuel), []) := by
 rw [cY.step]
 unfold cY.c cV
 have lc : aY (.ro bm (dC mem)) = some (I6 mem.length) := by simp [aY, gX]
 have hh : (mem.length : Int) = M ∧ 0 ≤ fuel ∧ fuel ≤ 1073741824 := by
  unfold nH at h2
  split at h2
  ·cases h2
  ·split at h2
   ·cases h2
   ·omega
 have q1 : aS Tryd.prog .neq 3 false (I6 mem.length) (I6 M) = some (.bool false) := lG hh.1
 have q2 : aS Tryd.prog .lss 2 true (I6 fuel) (.int .i64 0) = some (.bool false) := fK (by omega)
 have q3 : aS Tryd.prog .gtr 2 true (I6 fuel) (.int .i64 1073741824) = some (.bool false) := jS (by omega)
 have q4 : aS Tryd.prog .lss 3 true (I6 fuel) (.int .i64 0) = some (.bool false) := fK (by omega)
 have q5 : aS Tryd.prog .gtr 3 true (I6 fuel) (.int .i64 1073741824) = some (.bool false) := jS (by omega)
 rw [h2]
 refine iE ?_
 have fx := aKE lc <| aKE q1 <| aKE q2 <| aKE q3 <| aKE q4 <| q5
 refine fV ?_
 exact w1 rfl rfl
end
abbrev pZ : ABlk := ⟨73, 4, [.agg [.int .i64 0, .nils, .nils, .int .i64 0]]⟩
section
variable {bor : Bool} (G : aE) (hg : GOk G) (k : Nat) (cs : List WI) (R M : Int) (bm : Bool) (mem : List Nat) (fuel : Int)
theorem zO {v : VE} (h : v ≠ .ok) : aS Tryd.prog .neq 33 true (veV v) .nili = some (.bool true) := by
 cases v with
 | ok => exact absurd rfl h
 | bare e => kernel_rfl
 | at_ j e => kernel_rfl
include hg in
theorem aBj (hk : cs.length < k + 7) (hcl : cs.length ≤ 100000) (h : gF cs R M = .ok) (h2 : nH M mem.length fuel = .ok) (hm : ∀ x ∈ mem, x < 18446744073709551616) (hf : fuel ≤ 99999) (hk2 : fuel < k + 7) :
  ∃ s', iX cs fuel (k + 7) (s0 R.toNat mem) = some s' ∧ dJ.f G (k + 9) [cV bor cs R M, .ro bm (dC mem), I6 fuel] [] = some (.tup [kC s', .nili], []) := by
 obtain ⟨⟨hR0, hR1, hM0, hM1, hcl2⟩, hok⟩ := qB h
 have hgv : (mem.length : Int) = M ∧ 0 ≤ fuel := by
  unfold nH at h2
  split at h2
  ·cases h2
  ·split at h2
   ·cases h2
   ·omega
 obtain ⟨s', w1_, w2_⟩ := aDt G (k + 3) pZ rfl rfl bor bm cs R.toNat M fuel mem (by omega) hm (by omega) hgv.2 hf (by omega) hcl hok
 refine ⟨s', w1_, ?_⟩
 rw [dJ.step]
 unfold dJ.c
 have r1 : ∀ H, aX (bV.f G (k + 8)) [cV bor cs R M] H = _ := fun H => cT (H := H) (qU G hg k cs R M hk (by omega)) (by simp [fF, bQ, pE, cV]) (qC _)
 have r2 : ∀ H, aX (cY.f G (k + 8)) [cV bor cs R M, .ro bm (dC mem), I6 fuel] H = _ := fun H => cT (H := H) (aCH G (k + 7) cs R M bm mem fuel h2) (by simp [fF, bQ, pE, cV, aAI]) (qC _)
 rw [h] at r1
 rw [h2] at r2
 have q0 : aS Tryd.prog .neq 33 true .nili .nili = some (.bool false) := by kernel_rfl
 have hRn : ((R.toNat : Nat) : Int) = R := Int.toNat_of_nonneg hR0
 rw [hRn] at w2_
 have r3 : cW (cH.f G (k + 8)) [cV bor cs R M, .ro bm (dC mem), I6 fuel, .nilf] [pZ] = some (kC s', [pZ]) := uC w2_ (Nat.le_refl _)
 have st : fP (aO 4 (.ptr 0 1 0 0) (kC s') [pZ]) = some (.tup [], [⟨73, 4, [kC s']⟩]) := rfl
 have ld : aI G true 4 (.ptr 0 1 0 0) [⟨73, 4, [kC s']⟩] = some (kC s') := rfl
 have fin : wI [some (kC s'), some .nili] ([] : aA).length [⟨73, 4, [kC s']⟩] = some (.ret, [.tup [kC s', .nili]], []) := by
  unfold wI
  simp only [dD]
  exact jD (by simp [kC, aP, aV, iB, nK]) rfl _
 unfold cV at *
 simp only [veV] at r1 r2
 generalize kC s' = e at *
 refine iE ?_
 have fx := aKE r1 <| aKE r2 <| aKE r3 <| aKE q0 <| aKE st <| ld
 refine fV ?_
 rw [ld]
 exact oF fin
end
theorem aHh (G : aE) (k : Nat) : bP.f G (k + 150) [] [] = some (.bool true, []) := by kernel_rfl
theorem aHs (G : aE) (k : Nat) (cs : List WI) (R M : Int) : aZ.f G (k + 1) [cV false cs R M] [] = some (.bool (decide (cs.length ≤ 60 ∧ R ≤ 40)), []) := by
 rw [aZ.step]
 unfold aZ.c cV
 have l1 : aY (.ro false (bW cs)) = some (I6 cs.length) := by simp [aY, gG]
 refine iE ?_
 repeat' first
  | (with_reducible first | refine eT ?_ | refine eN ?_ | refine eS ?_ | refine eXn ?_ | refine eXr ?_ | refine eX ?_ | refine eI ?_ | refine eK ?_ | refine eV0 ?_ | refine aCQ ?_ | refine aHc ?_ | refine aGY ?_ | refine aHb ?_ | refine aGZ ?_ | refine aHa ?_)
  | ((with_reducible apply eCn); (simp only [bK, bJ]; first | done | (with_reducible exact rfl)))
  | ((with_reducible apply eJ); (rfl))
  | ((with_reducible apply aCR); (first | rfl | (simp only [bK, bJ]; rfl)))
  | ((with_reducible apply eB); (first | (with_reducible exact rfl) | (simp (disch := omega) only [qf, l1]; first | done | (with_reducible exact rfl) | (with_reducible exact ⟨rfl, rfl⟩)) | (simp (disch := omega) only [qa, fL, AV.cells, bN, cA, eF, bC, cB, dW, Nat.reduceLeDiff, Nat.reduceLT, Nat.reduceAdd, ↓reduceIte, l1]; first | done | (with_reducible exact rfl) | (with_reducible exact ⟨rfl, rfl⟩))))
  | ((with_reducible apply eR); (simp only [bK, bJ]; (with_reducible exact rfl)))
  | ((with_reducible first | refine aIU ?_ ?_ | refine aIZ ?_ ?_ | refine aIY ?_ ?_ | refine aIX ?_ ?_ | refine aIW ?_ ?_ | refine aIV ?_ ?_ | refine aJa ?_ ?_ | refine aGA ?_ ?_ | refine sGd ?_ ?_ | refine aFz ?_ ?_) <;> intro hq <;> try subst hq)
 all_goals (refine w1b ?_; first | exact (decide_eq_true (by omega)).symm | exact (decide_eq_false (by omega)).symm)
theorem aFV (b : Bool) {l : List Nat} {j : Nat} (h : j < l.length) : aH 1 (.ro b (cC l)) (Nn j) = some (.rp b (Nn l[j]) 0) := by
 have e : (cC l)[j]? = some (Nn l[j]) := by simp [cC, h]
 have e1 : (Nn l[j]).cells.length = 1 := rfl
 simp [aH, e, e1]
theorem aBg (G : aE) (k : Nat) (self : cU) (x : Nat) : ∀ (suf pre l : List Nat) (f : Nat), l = pre ++ suf → l.length ≤ 100000 → suf.length < f →
  (x ∈ suf → ∃ j, cM (bA.l2 G k 0 self) f [.ro false (cC l), Nn x, .bool false, Nn pre.length] [] = some (.ret, [.ro false (cC l), Nn x, .bool true, j], [])) ∧
  (x ∉ suf → cM (bA.l2 G k 0 self) f [.ro false (cC l), Nn x, .bool false, Nn pre.length] [] = some (.exit 0, [.ro false (cC l), Nn x, .bool false, Nn l.length], []))
 | suf, pre, l, 0, _, _, h => by omega
 | [], pre, l, f + 1, hl, hn, hf => by
  refine ⟨fun h => by (cases h), fun _ => ?_⟩
  have e : pre = l := by rw [hl]; simp
  subst e
  have lc : aY (.ro false (cC pre)) = some (Nn pre.length) := by simp [aY, eG]
  have g1 : aS Tryd.prog .lss 3 false (Nn pre.length) (Nn pre.length) = some (.bool false) := fK (by omega)
  rw [aU, bA.l2]
  refine fM ?_
  refine eC (by simp [eZ, aV, aP, fN, cF]; rfl) ?_
  generalize cC pre = L at *
  have fx := aKE lc <| g1
  refine fV ?_
  refine gM ?_; rfl
 | y :: suf, pre, l, f + 1, hl, hn, hf => by
  have hj : pre.length < l.length := by rw [hl]; simp
  have hy : l[pre.length] = y := by simp [hl]
  have lc : aY (.ro false (cC l)) = some (Nn l.length) := by simp [aY, eG]
  have g1 : aS Tryd.prog .lss 3 false (Nn pre.length) (Nn l.length) = some (.bool true) := fO (by omega)
  have ia := aFV false hj
  rw [hy] at ia
  have ld : ∀ H, aI G false 1 (.rp false (Nn y) 0) H = some (Nn y) := fun H => rfl
  have q2 : aS Tryd.prog .add 3 true (Nn pre.length) (.int .i64 1) = some (Nn (pre.length + 1 : Nat)) := jY (by omega)
  by_cases e : y = x
  ·have g2 : aS Tryd.prog .eql 3 false (Nn y) (Nn x) = some (.bool true) := gP (by rw [e])
   refine ⟨fun _ => ⟨Nn pre.length, ?_⟩, fun h => absurd (by rw [e]; exact List.mem_cons_self ..) h⟩
   rw [aU, bA.l2]
   refine fM ?_
   refine eC (by simp [eZ, aV, aP, fN, cF]; rfl) ?_
   generalize cC l = L at *
   have fx := aKE lc <| aKE g1 <| aKE ia <| aKE ld <| g2
   refine fV ?_
   refine gM ?_; rfl
  ·have g2 : aS Tryd.prog .eql 3 false (Nn y) (Nn x) = some (.bool false) := fY (by omega)
   obtain ⟨h1, h2⟩ := aBg G k self x suf (pre ++ [y]) l f (by rw [hl]; simp) hn (by simp only [List.length_cons] at hf; omega)
   have el : (pre ++ [y]).length = pre.length + 1 := by simp
   rw [el] at h1 h2
   refine ⟨fun h => ?_, fun h => ?_⟩
   ·rcases List.mem_cons.1 h with h | h
    ·exact absurd h.symm e
    obtain ⟨j, ih⟩ := h1 h
    refine ⟨j, ?_⟩
    rw [aU, bA.l2]
    refine fM ?_
    refine eC (by simp [eZ, aV, aP, fN, cF]; rfl) ?_
    clear h1 h2 hl hy
    generalize cC l = L at *
    have fx := aKE lc <| aKE g1 <| aKE ia <| aKE ld <| aKE g2 <| q2
    refine fV ?_
    exact ih
   ·have ih := h2 fun q => h (List.mem_cons_of_mem _ q)
    rw [aU, bA.l2]
    refine fM ?_
    refine eC (by simp [eZ, aV, aP, fN, cF]; rfl) ?_
    clear h1 h2 hl hy
    generalize cC l = L at *
    have fx := aKE lc <| aKE g1 <| aKE ia <| aKE ld <| aKE g2 <| q2
    refine fV ?_
    exact ih
theorem aFp (G : aE) (k : Nat) (l : List Nat) (x : Nat) (hl : l.length ≤ 100000) (hk : l.length < k) : bA.f G (k + 1) [.ro false (cC l), Nn x] [] = some (.bool (l.contains x), []) := by
 rw [bA.step]
 unfold bA.c
 obtain ⟨h1, h2⟩ := aBg G k (bA.f G k) x l [] l k rfl hl hk
 refine iE ?_
 by_cases h : x ∈ l
 ·obtain ⟨j, lp⟩ := h1 h
  have e : l.contains x = true := by simpa using h
  rw [e]
  clear h1 h2
  generalize cC l = L at *
  have fx := True.intro
  have lx1 := lp
  refine fV ?_
  exact w1b rfl
 ·have lp := h2 h
  have e : l.contains x = false := by simpa using h
  rw [e]
  clear h1 h2
  generalize cC l = L at *
  have fx := True.intro
  have lx1 := lp
  refine fV ?_
  exact w1b rfl
def bxS (R M : Int) (ds : List WI) : AV := .agg [.sl 1 ds.length 0 ds.length 6, I6 R, I6 M]
def jC (R M : Int) (ds : List WI) (T : aA) : aA := ⟨27, 3, [bxS R M ds]⟩ :: ⟨29, 6, bW ds⟩ :: T
section
variable (R M : Int) (G : aE) (k : Nat) (self : cU)
theorem aDU (ds : List WI) (X : aA) (xs : List AV) (hx : aV 2 xs = true) : eZ 2 xs (jC R M ds X) = some (jC R M ds []) := by
 have hb : cF 2 (jC R M ds []) = true := by
  have h2 : decide (1 < 2) = true := rfl
  simp [jC, bxS, cF, aV, aP, fI]
 unfold eZ
 have e : (jC R M ds X).take 2 = jC R M ds [] := rfl
 rw [e, hx, hb]; rfl
theorem aJI (ds l : List WI) (T : aA) (hl : ds.length + l.length ≤ 1000000) : dX 29 6 (.sl 1 ds.length 0 ds.length 6) (.ro false (bW l)) (jC R M ds T) = some (.sl 1 (ds ++ l).length 0 (ds ++ l).length 6, (jC R M ds T).set 1 ⟨29, 6, bW (ds ++ l)⟩) := by
 have e : (jC R M ds T)[1]? = some ⟨29, 6, bW ds⟩ := rfl
 have e1 : fG (.ro false (bW l)) (jC R M ds T) = some (bW l) := rfl
 unfold dX
 simp only [e, e1, gG, aDC]
 rw [if_pos (by refine ⟨?_, ?_, ?_, ?_, ?_⟩ <;> first | trivial | rfl | omega)]
 have e2 : (bW ds).take ds.length = bW ds := List.take_of_length_le (by rw [gG]; exact Nat.le_refl _)
 have e3 : (bW ds).drop (ds.length + l.length) = [] := List.drop_of_length_le (by rw [gG]; omega)
 have e4 : bW ds ++ bW l = bW (ds ++ l) := by simp [bW]
 rw [e2, e3, List.append_nil, e4, gG]
 simp
theorem aJJ (ds : List WI) (T : aA) : aI G false 1 (.ptr 0 1 0 0) (jC R M ds T) = some (.sl 1 ds.length 0 ds.length 6) := rfl
theorem aJK (ds l : List WI) (T : aA) : fP (aO 1 (.ptr 0 1 0 0) (.sl 1 (ds ++ l).length 0 (ds ++ l).length 6) ((jC R M ds T).set 1 ⟨29, 6, bW (ds ++ l)⟩)) = some (.tup [], jC R M (ds ++ l) T) := rfl
theorem aEV : aB 0 (.ptr 0 1 0 0) = some (.ptr 0 1 0 0) := rfl
end
section
variable (G : aE) (k : Nat) (self : cU) (ws : List WI) (R : Nat) (M : Int) (mem : List Nat) (junk : Nat) (out : List (List Nat))
def xsA (r : Nat) : List AV := [.ro false (dC mem), Un junk, .rp false (cV false ws R M) 0, .bool true, jZ out, .ptr 0 1 0 0, Nn r]
theorem aBY (n : Nat) : aP n (jZ out) = true := by
 unfold jZ
 simp only [aP]
 exact hZ n _ (fun l => by simp [aP, fN]) out
theorem aFh (r : Nat) : aV 2 (xsA ws R M mem junk out r) = true := by
 simp [xsA, aV, aP, cV, fI, iB, aBY]
def tA (K : Int) (r : Nat) : List WI := (gV (out.getD 0 []) r).map (cI K)
theorem aDN (K : Int) (r : Nat) : (tA out K r).length ≤ r := by
 unfold tA
 rw [List.length_map]
 exact vT _ _
theorem aJD (hR : R ≤ 1000) (hj : junk < 18446744073709551616) (ho : 0 < out.length) (hl0 : (out.getD 0 []).length ≤ 1000) (hk : 1100 < k) : ∀ (d r f : Nat) (X : aA), r + d = R → d < f →
  cM (alembiclaw20_LiveSound.l13 G k 2 self) f (xsA ws R M mem junk out r) (jC R M (tA out (mB junk) r) X) = some (.exit 0, xsA ws R M mem junk out R, jC R M (tA out (mB junk) R) [])
 | d, r, 0, X, _, h => by omega
 | d, r, f + 1, X, hd, hf => by
  have hc := aDU R M (tA out (mB junk) r) X _ (aFh ws R M mem junk out r)
  have f1 : aB 1 (.rp false (cV false ws R M) 0) = some (.rp false (cV false ws R M) 1) := rfl
  have lR : ∀ H, aI G false 1 (.rp false (cV false ws R M) 1) H = some (Nn R) := fun H => rfl
  match d, hd, hf with
  | 0, hd, hf =>
   have e : r = R := by omega
   subst e
   have g1 : aS Tryd.prog .lss 3 false (Nn r) (Nn r) = some (.bool false) := fK (by omega)
   rw [aU, alembiclaw20_LiveSound.l13]
   refine fM ?_
   refine eC hc ?_
   unfold xsA
   generalize cV false ws r M = C at *
   generalize jZ out = O at *
   have fx := aKE f1 <| aKE lR <| g1
   refine fV ?_
   refine gM ?_; rfl
  | d + 1, hd, hf =>
   have g1 : aS Tryd.prog .lss 3 false (Nn r) (Nn R) = some (.bool true) := fO (by omega)
   have q2 : aS Tryd.prog .add 3 true (Nn r) (.int .i64 1) = some (Nn (r + 1 : Nat)) := jY (by omega)
   have i0 : aH 1 (jZ out) (.int .i64 0) = some (.rp false (.ro false (cC (out.getD 0 []))) 0) := by
    match out, ho with
    | l :: o, _ => rfl
   have ld0 : ∀ H, aI G false 1 (.rp false (.ro false (cC (out.getD 0 []))) 0) H = some (.ro false (cC (out.getD 0 []))) := fun H => rfl
   have hs := aFp G (k - 1) (out.getD 0 []) r (by omega) (by omega)
   rw [show k - 1 + 1 = k by omega] at hs
   have rh : ∀ H, aX (bA.f G k) [.ro false (cC (out.getD 0 [])), Nn r] H = some (.bool ((out.getD 0 []).contains r), H) := fun H => cT (H := H) hs (by simp [fF, bQ]; exact nN _ (fun _ => rfl) _) rfl
   clear hs
   have ih := aJD hR hj ho hl0 hk d (r + 1) f [] (by omega) (by omega)
   have ec : tA out (mB junk) (r + 1) = tA out (mB junk) r ++ (if (out.getD 0 []).contains r then [] else [cI (mB junk) r]) := by
    unfold tA
    rw [aBo]
    by_cases e : (out.getD 0 []).contains r = true
    ·rw [if_pos e, if_pos e]; simp
    ·rw [if_neg e, if_neg e]; simp
   rw [ec] at ih
   rw [aU, alembiclaw20_LiveSound.l13]
   refine fM ?_
   refine eC hc ?_
   have hcl := aDN out (mB junk) r
   by_cases e : (out.getD 0 []).contains r = true
   ·rw [if_pos e, List.append_nil] at ih
    rw [e] at rh
    unfold xsA at ih ⊢
    clear hc ec
    generalize cV false ws R M = C at *
    generalize jZ out = O at *
    generalize cC (out.getD 0 []) = L0 at *
    have fx := aKE f1 <| aKE lR <| aKE g1 <| aKE i0 <| aKE ld0 <| aKE rh <| q2
    refine fV ?_
    exact ih
   ·rw [if_neg e] at ih
    rw [Bool.not_eq_true] at e
    rw [e] at rh
    have cv : eE .i64 (Un junk) = some (I6 (mB junk)) := wD junk hj
    have bs : cA [(0, 1), (1, 1), (2, 1), (3, 1), (4, 1), (5, 1)] [(.int .i64 0), (.int .i64 0), (.int .i64 0), (.int .i64 0), (.int .i64 0), (.int .i64 0)] [(0, .int .i64 1), (1, Nn r), (5, I6 (mB junk))] = some (WI.v (cI (mB junk) r)) := rfl
    have br : ∀ H, bC 6 1 (.agg [(.int .i64 0), (.int .i64 0), (.int .i64 0), (.int .i64 0), (.int .i64 0), (.int .i64 0)]) [(0, WI.v (cI (mB junk) r))] H = some (.ro false (bW [cI (mB junk) r]), H) := fun H => rfl
    have a1 := aJI R M (tA out (mB junk) r) [cI (mB junk) r] [] (by show _ + 1 ≤ _; omega)
    have s1 := aJK R M (tA out (mB junk) r) [cI (mB junk) r] []
    have l0 := aJJ R M G (tA out (mB junk) r) []
    unfold xsA at ih ⊢
    clear hc ec
    generalize (jC R M (tA out (mB junk) r) []).set 1 ⟨29, 6, bW (tA out (mB junk) r ++ [cI (mB junk) r])⟩ = hm at *
    generalize tA out (mB junk) r ++ [cI (mB junk) r] = c' at *
    generalize bW [cI (mB junk) r] = wl at *
    generalize WI.v (cI (mB junk) r) = wv at *
    generalize mB junk = K at *
    generalize cV false ws R M = C at *
    generalize jZ out = O at *
    generalize cC (out.getD 0 []) = L0 at *
    have fx := aKE f1 <| aKE lR <| aKE g1 <| aKE i0 <| aKE ld0 <| aKE rh <| aKE q2 <| aKE aEV <| aKE l0 <| aKE cv <| aKE bs <| aKE br <| aKE a1 <| s1
    refine fV ?_
    exact ih
end
theorem zZ {H : aA} {b : Nat} {ds : List WI} (hb : H[b]? = some ⟨29, 6, bW ds⟩) : ∀ l : List Nat, iH b 0 29 6 l H = H
 | [] => rfl
 | i :: l => by
  have h1 : pK (.ptr b 0 i 0, 0, 29, 6) H = H := by
   unfold pK
   simp only [hb]
   cases hx : (bW ds)[i]? with
   | none => rfl
   | some x =>
    have : ∃ w : WI, x = w.v := by
     unfold bW at hx
     rw [List.getElem?_map] at hx
     cases hw : ds[i]? with
     | none => rw [hw] at hx; cases hx
     | some w => rw [hw] at hx; exact ⟨w, (Option.some.inj hx).symm⟩
    obtain ⟨w, rfl⟩ := this
    rfl
  rw [iH, h1]
  exact zZ hb l
theorem aJg (R M : Int) (ds : List WI) : mS (.ptr 0 1 0 0, 0, 29, 6) (jC R M ds []) = jC R M ds [] := by
 have hc : aAp 0 0 0 (jC R M ds []) = .sl 1 ds.length 0 ds.length 6 := rfl
 unfold mS
 simp only [hc]
 exact zZ (ds := ds) rfl _
theorem aGQ (G : aE) (hg : GOk G) (k : Nat) (bor : Bool) (ws : List WI) (R M : Int) (hk : ws.length < k + 7) (hl : ws.length ≤ 100000) (h : gF ws R M ≠ .ok) :
  aQ.f G (k + 9) [cV bor ws R M] [] = some (.tup [.nils, veV (gF ws R M)], []) := by
 have r1 : ∀ H, aX (bV.f G (k + 8)) [cV bor ws R M] H = _ := fun H => cT (H := H) (qU (bor := bor) G hg k ws R M hk (by omega)) (by simp [fF, bQ, cV, pE]) (qC _)
 have q1 : aS Tryd.prog .neq 33 true (veV (gF ws R M)) .nili = some (.bool true) := zO h
 have b0 : ∀ H, cN (cV bor ws R M) H = some (.rp false (cV bor ws R M) 0, H) := fun H => rfl
 have l0 : ∀ H, aI G true 3 (.rp false (cV bor ws R M) 0) H = some (cV bor ws R M) := fun H => rfl
 have fin : cQ [.nils, veV (gF ws R M)] 0 [] = some (.ret, [.tup [.nils, veV (gF ws R M)]], []) := jO (by simp [aP, aV, jI, aHR]) _
 rw [aQ.step]
 unfold aQ.c
 refine iE ?_
 generalize cV bor ws R M = C at *
 generalize veV (gF ws R M) = V at *
 have fx := aKE b0 <| aKE l0 <| aKE r1 <| q1
 refine fV ?_
 exact oF fin
section
variable (G : aE) (k : Nat) (self : cU) (ws : List WI) (R M : Int) (mem : List Nat) (cs0 : List WI) (N : Nat)
def xsB (i : Nat) : List AV := [.ro false (dC mem), .rp false (cV false ws R M) 0, .bool true, .ptr 0 1 0 0, Nn N, Nn i]
theorem aFi (i : Nat) : aV 2 (xsB ws R M mem N i) = true := by
 simp [xsB, aV, aP, cV, fI, iB]
def dsB (i : Nat) : List WI := cs0 ++ (ws.take i).map (mvW (· + N))
theorem aIG (hws : ∀ w ∈ ws, brW w → 0 ≤ w.k ∧ w.k ≤ 100000) (hN : N ≤ 1000) (hc0 : cs0.length ≤ 1000) (hl : ws.length ≤ 1000) : ∀ (d i f : Nat) (X : aA), i + d = ws.length → d < f →
  cM (alembiclaw20_LiveSound.l19 G k 2 self) f (xsB ws R M mem N i) (jC R M (dsB ws cs0 N i) X) = some (.exit 2, xsB ws R M mem N ws.length, jC R M (dsB ws cs0 N ws.length) [])
 | d, i, 0, X, _, h => by omega
 | d, i, f + 1, X, hd, hf => by
  have hc := aDU R M (dsB ws cs0 N i) X _ (aFi ws R M mem N i)
  have f0 : aB 0 (.rp false (cV false ws R M) 0) = some (.rp false (cV false ws R M) 0) := rfl
  have lI : ∀ H, aI G false 1 (.rp false (cV false ws R M) 0) H = some (.ro false (bW ws)) := fun H => rfl
  have ln : aY (.ro false (bW ws)) = some (Nn ws.length) := by simp [aY, gG]
  match d, hd, hf with
  | 0, hd, hf =>
   have e : i = ws.length := by omega
   subst e
   have g1 : aS Tryd.prog .lss 3 false (Nn ws.length) (Nn ws.length) = some (.bool false) := fK (by omega)
   rw [aU, alembiclaw20_LiveSound.l19]
   refine fM ?_
   refine eC hc ?_
   unfold xsB
   generalize cV false ws R M = C at *
   generalize bW ws = WS at *
   have fx := aKE f0 <| aKE lI <| aKE ln <| g1
   refine fV ?_
   refine gM ?_; rfl
  | d + 1, hd, hf =>
   have hi : i < ws.length := by omega
   have g1 : aS Tryd.prog .lss 3 false (Nn i) (Nn ws.length) = some (.bool true) := fO (by omega)
   have q2 : aS Tryd.prog .add 3 true (Nn i) (.int .i64 1) = some (Nn (i + 1 : Nat)) := jY (by omega)
   have ia := zE false ws i hi
   obtain ⟨w, hw⟩ : ∃ w, w = ws.getD i default := ⟨_, rfl⟩
   rw [← hw] at ia
   have hmem : w ∈ ws := by rw [hw, List.getD_eq_getElem?_getD, List.getElem?_eq_getElem hi]; exact List.getElem_mem hi
   have li := fun H => aBN G false w H
   have ih := aIG hws hN hc0 hl d (i + 1) f [] (by omega) (by omega)
   have ed : dsB ws cs0 N (i + 1) = dsB ws cs0 N i ++ [mvW (· + N) w] := by
    unfold dsB
    rw [List.take_add_one, List.getElem?_eq_getElem hi, List.map_append, ← List.append_assoc]
    rw [hw, List.getD_eq_getElem?_getD, List.getElem?_eq_getElem hi]
    rfl
   rw [ed] at ih
   obtain ⟨D, hD⟩ : ∃ D, D = dsB ws cs0 N i := ⟨_, rfl⟩
   have hDl : D.length ≤ 2000 := by rw [hD]; unfold dsB; rw [List.length_append, List.length_map, List.length_take]; omega
   rw [← hD] at ih hc ⊢
   obtain ⟨w', hw'⟩ : ∃ w', w' = mvW (· + N) w := ⟨_, rfl⟩
   rw [← hw'] at ih
   have bx : eM 29 (.agg [.int .i64 0, .int .i64 0, .int .i64 0, .int .i64 0, .int .i64 0, .int .i64 0]) (jC R M D []) = some (.ptr 2 1 0 0, jC R M D [⟨29, 6, [WI.v ⟨0, 0, 0, 0, 0, 0⟩]⟩]) := rfl
   have s0_ : fP (aO 6 (.ptr 2 1 0 0) w.v (jC R M D [⟨29, 6, [WI.v ⟨0, 0, 0, 0, 0, 0⟩]⟩])) = some (.tup [], jC R M D [⟨29, 6, [w.v]⟩]) := rfl
   have fa0 : aB 0 (.ptr 2 1 0 0) = some (.ptr 2 1 0 0) := rfl
   have yG : aB 5 (.ptr 2 1 0 0) = some (.ptr 2 1 0 5) := rfl
   have lo : aI G false 1 (.ptr 2 1 0 0) (jC R M D [⟨29, 6, [w.v]⟩]) = some (I6 w.op) := rfl
   have lk : aI G false 1 (.ptr 2 1 0 5) (jC R M D [⟨29, 6, [w.v]⟩]) = some (I6 w.k) := rfl
   have lw : aI G true 6 (.ptr 2 1 0 0) (jC R M D [⟨29, 6, [w'.v]⟩]) = some w'.v := rfl
   have br : ∀ H, bC 6 1 (.agg [.int .i64 0, .int .i64 0, .int .i64 0, .int .i64 0, .int .i64 0, .int .i64 0]) [(0, w'.v)] H = some (.ro false (bW [w']), H) := fun H => rfl
   have l0 := aJJ R M G D [⟨29, 6, [w'.v]⟩]
   have a1 := aJI R M D [w'] [⟨29, 6, [w'.v]⟩] (by simp only [List.length_cons, List.length_nil]; omega)
   have s1 := aJK R M D [w'] [⟨29, 6, [w'.v]⟩]
   replace ih := ih
   have ihX : cM (alembiclaw20_LiveSound.l19 G k 2 self) f (xsB ws R M mem N (i + 1)) (jC R M (D ++ [w']) [⟨29, 6, [w'.v]⟩]) = some (.exit 2, xsB ws R M mem N ws.length, jC R M (dsB ws cs0 N ws.length) []) := by
    have := aIG hws hN hc0 hl d (i + 1) f [⟨29, 6, [w'.v]⟩] (by omega) (by omega)
    rw [ed, ← hD, ← hw'] at this
    exact this
   rw [aU, alembiclaw20_LiveSound.l19]
   refine fM ?_
   refine eC hc ?_
   by_cases hb : brW w
   ·obtain ⟨k0, k1⟩ := hws w hmem hb
    have ew : w' = { w with k := w.k + (N : Int) } := by
     rw [hw']; unfold mvW; rw [if_pos hb]
     have : ((w.k.toNat + N : Nat) : Int) = w.k + (N : Int) := by omega
     simp only [this]
    have ad : aS Tryd.prog .add 2 false (I6 w.k) (Nn N) = some (I6 (w.k + (N : Int))) := by rw [gU, dK (by omega) (by omega)]
    have s2 : fP (aO 1 (.ptr 2 1 0 5) (I6 (w.k + (N : Int))) (jC R M D [⟨29, 6, [w.v]⟩])) = some (.tup [], jC R M D [⟨29, 6, [w'.v]⟩]) := by rw [ew]; rfl
    unfold brW at hb
    clear hc ed ih hw hw' hmem ew
    unfold xsB at ihX ⊢
    obtain ⟨op, hop⟩ : ∃ op, op = w.op := ⟨_, rfl⟩
    rw [← hop] at hb lo
    rcases hb with e | e | e
    ·have g17 : aS Tryd.prog .eql 3 true (I6 op) (.int .i64 17) = some (.bool true) := gP (by omega)
     have g18 : aS Tryd.prog .eql 3 true (I6 op) (.int .i64 18) = some (.bool false) := fY (by omega)
     have g19 : aS Tryd.prog .eql 3 true (I6 op) (.int .i64 19) = some (.bool false) := fY (by omega)
     generalize jC R M D [⟨29, 6, [w.v]⟩] = h1 at *
     generalize (jC R M D [⟨29, 6, [w'.v]⟩]).set 1 ⟨29, 6, bW (D ++ [w'])⟩ = h2 at *
     generalize jC R M D [⟨29, 6, [w'.v]⟩] = h3 at *
     generalize jC R M (D ++ [w']) [⟨29, 6, [w'.v]⟩] = h4 at *
     generalize bW [w'] = wl at *
     generalize w'.v = wv' at *
     generalize w.v = wv at *
     generalize D ++ [w'] = D' at *
     generalize cV false ws R M = C at *
     generalize bW ws = WS at *
     have fx := aKE f0 <| aKE lI <| aKE ln <| aKE g1 <| aKE ia <| aKE li <| aKE bx <| aKE s0_ <| aKE fa0 <| aKE yG <| aKE lo <| aKE lk <| aKE g17 <| aKE g18 <| aKE g19 <| aKE ad <| aKE s2 <| aKE lw <| aKE br <| aKE aEV <| aKE l0 <| aKE a1 <| aKE s1 <| q2
     refine fV ?_
     exact ihX
    ·have g17 : aS Tryd.prog .eql 3 true (I6 op) (.int .i64 17) = some (.bool false) := fY (by omega)
     have g18 : aS Tryd.prog .eql 3 true (I6 op) (.int .i64 18) = some (.bool true) := gP (by omega)
     have g19 : aS Tryd.prog .eql 3 true (I6 op) (.int .i64 19) = some (.bool false) := fY (by omega)
     generalize jC R M D [⟨29, 6, [w.v]⟩] = h1 at *
     generalize (jC R M D [⟨29, 6, [w'.v]⟩]).set 1 ⟨29, 6, bW (D ++ [w'])⟩ = h2 at *
     generalize jC R M D [⟨29, 6, [w'.v]⟩] = h3 at *
     generalize jC R M (D ++ [w']) [⟨29, 6, [w'.v]⟩] = h4 at *
     generalize bW [w'] = wl at *
     generalize w'.v = wv' at *
     generalize w.v = wv at *
     generalize D ++ [w'] = D' at *
     generalize cV false ws R M = C at *
     generalize bW ws = WS at *
     have fx := aKE f0 <| aKE lI <| aKE ln <| aKE g1 <| aKE ia <| aKE li <| aKE bx <| aKE s0_ <| aKE fa0 <| aKE yG <| aKE lo <| aKE lk <| aKE g17 <| aKE g18 <| aKE g19 <| aKE ad <| aKE s2 <| aKE lw <| aKE br <| aKE aEV <| aKE l0 <| aKE a1 <| aKE s1 <| q2
     refine fV ?_
     exact ihX
    ·have g17 : aS Tryd.prog .eql 3 true (I6 op) (.int .i64 17) = some (.bool false) := fY (by omega)
     have g18 : aS Tryd.prog .eql 3 true (I6 op) (.int .i64 18) = some (.bool false) := fY (by omega)
     have g19 : aS Tryd.prog .eql 3 true (I6 op) (.int .i64 19) = some (.bool true) := gP (by omega)
     generalize jC R M D [⟨29, 6, [w.v]⟩] = h1 at *
     generalize (jC R M D [⟨29, 6, [w'.v]⟩]).set 1 ⟨29, 6, bW (D ++ [w'])⟩ = h2 at *
     generalize jC R M D [⟨29, 6, [w'.v]⟩] = h3 at *
     generalize jC R M (D ++ [w']) [⟨29, 6, [w'.v]⟩] = h4 at *
     generalize bW [w'] = wl at *
     generalize w'.v = wv' at *
     generalize w.v = wv at *
     generalize D ++ [w'] = D' at *
     generalize cV false ws R M = C at *
     generalize bW ws = WS at *
     have fx := aKE f0 <| aKE lI <| aKE ln <| aKE g1 <| aKE ia <| aKE li <| aKE bx <| aKE s0_ <| aKE fa0 <| aKE yG <| aKE lo <| aKE lk <| aKE g17 <| aKE g18 <| aKE g19 <| aKE ad <| aKE s2 <| aKE lw <| aKE br <| aKE aEV <| aKE l0 <| aKE a1 <| aKE s1 <| q2
     refine fV ?_
     exact ihX
   ·have ew : w' = w := by rw [hw']; unfold mvW; rw [if_neg hb]
    unfold brW at hb
    clear hc ed ih hw hw' hmem
    unfold xsB at ihX ⊢
    subst ew
    obtain ⟨op, hop⟩ : ∃ op, op = w'.op := ⟨_, rfl⟩
    rw [← hop] at hb lo
    ·have g17 : aS Tryd.prog .eql 3 true (I6 op) (.int .i64 17) = some (.bool false) := fY (by omega)
     have g18 : aS Tryd.prog .eql 3 true (I6 op) (.int .i64 18) = some (.bool false) := fY (by omega)
     have g19 : aS Tryd.prog .eql 3 true (I6 op) (.int .i64 19) = some (.bool false) := fY (by omega)
     generalize (jC R M D [⟨29, 6, [w'.v]⟩]).set 1 ⟨29, 6, bW (D ++ [w'])⟩ = h2 at *
     generalize jC R M D [⟨29, 6, [w'.v]⟩] = h3 at *
     generalize jC R M (D ++ [w']) [⟨29, 6, [w'.v]⟩] = h4 at *
     generalize bW [w'] = wl at *
     generalize w'.v = wv' at *
     generalize D ++ [w'] = D' at *
     generalize cV false ws R M = C at *
     generalize bW ws = WS at *
     have fx := aKE f0 <| aKE lI <| aKE ln <| aKE g1 <| aKE ia <| aKE li <| aKE bx <| aKE s0_ <| aKE fa0 <| aKE lo <| aKE lk <| aKE g17 <| aKE g18 <| aKE g19 <| aKE lw <| aKE br <| aKE aEV <| aKE l0 <| aKE a1 <| aKE s1 <| q2
     refine fV ?_
     exact ihX
end
end Go.Proofs.YtlkgkfgkiidhdaaDoor.Mir
