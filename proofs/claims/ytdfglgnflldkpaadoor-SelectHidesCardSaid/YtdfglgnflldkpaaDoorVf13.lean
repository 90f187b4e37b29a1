/- Printed by rowgen.py: the row of SelectHides, out of its law in plain Lean. -/
import Derived.Test.YtdfglgnflldkpaaDoorVf12
import Derived.KernelRfl
import Derived.Test.YtdfglgnflldkpaaDoorTie
import Derived.Test.YtdfglgnflldkpaaDoorCards
import Derived.SevenTiedAt
namespace Go.Proofs.YtdfglgnflldkpaaDoor.Mir
open Go
set_option linter.unusedSimpArgs false
set_option linter.unusedVariables false
set_option maxHeartbeats 8000000
set_option maxRecDepth 20000
section
variable {ws : List WI} {R : Nat} {fuel : Int} {s : MS} {q : QS} {d a b c k : Int}
theorem lZ.go {s2 : MS} {m : Nat} {q2 : QS} (Y X : List (Int × Int)) (hg : pG (oU ws) fuel q m q2) (hm : m ≤ 10) (hY : s2.leaks = s.leaks ++ Y) (hX : q2.leaks = q.leaks ++ X) (hk : ∀ pc T, mlk ws pc (Y ++ T) = X ++ mlk ws s.at_ T) (hmem : q2.mem = s2.mem) (hst : q2.steps ≤ q.steps + 9) (hs : Sim ws R s2 q2) : lZ fuel ws R s q s2 true :=
 ⟨m, q2, Y, X, hm, hY, hX, hk, hmem, hst, fun _ => ⟨hg, hs⟩, fun h => by cases h⟩
theorem lZ.fin {s2 : MS} {m : Nat} {q2 : QS} (Y X : List (Int × Int)) (hg : aCP (oU ws) fuel q m q2) (hm : m ≤ 10) (hY : s2.leaks = s.leaks ++ Y) (hX : q2.leaks = q.leaks ++ X) (hk : ∀ pc T, mlk ws pc (Y ++ T) = X ++ mlk ws s.at_ T) (hmem : q2.mem = s2.mem) (hst : q2.steps ≤ q.steps + 9) (hc : q2.code = s2.code) : lZ fuel ws R s q s2 false :=
 ⟨m, q2, Y, X, hm, hY, hX, hk, hmem, hst, fun h => (by cases h), fun _ => ⟨hg, hc⟩⟩
theorem aKH (hsim : Sim ws R s q) (hR : R ≤ 28) (hw : ∀ w ∈ ws, w.Good R ws.length) (hl : ws.length ≤ 10000) (hj : s.at_ < ws.length) (hi : ws.getD s.at_ default = ⟨17, d, a, b, c, k⟩) (hk : 0 ≤ k ∧ k ≤ ws.length) (hst : (q.steps : Int) + 9 < fuel) :
  ∃ s2 b2, s.tick.step ⟨17, d, a, b, c, k⟩ = (s2, b2) ∧ lZ fuel ws R s q s2 b2 := by
 have hp := tF ws k.toNat (by omega)
 have hA := tW (i := ⟨20, 0, 0, 0, 0, ((kW ws).getD k.toNat 0 : Int) - lL ws s.at_⟩) hR hw hl hj (t := 0) (by rw [hi]; rfl) (by simp)
 rw [hp] at hA
 have e0 : (lL ws s.at_ : Int) + (0 : Nat) = q.at_ := by rw [hsim.at_]; simp
 have e1 : (lL ws s.at_ : Int) = q.at_ := hsim.at_.symm
 rw [e0, e1] at hA
 have g := aOx (cd := q.code) (mem := q.mem) (r := q.regs) (lk := q.leaks) (st := q.steps) (fl := q.flags) (fuel := fuel) hA (by omega)
 refine ⟨⟨s.regs, k.toNat, s.code, s.mem, s.leaks ++ [(1, (s.at_ : Int))], s.steps + 1⟩, true, rfl, lZ.go [(1, (s.at_ : Int))] [(1, q.at_)] g (by omega) rfl rfl (fun pc T => ?_) hsim.mem (by show q.steps + 1 ≤ q.steps + 9; omega) ⟨hsim.rl, hsim.rg, hsim.mem, ?_⟩⟩
 ·show (if (1 : Int) = 1 then lkA ws s.at_ ++ mlk ws s.at_ T else _) = _
  rw [if_pos rfl]
  unfold lkA
  rw [Int.toNat_natCast, hi, if_neg (by simp), e1]; rfl
 ·show q.at_ + ((lL ws k.toNat : Int) - q.at_) = (lL ws k.toNat : Int)
  omega
theorem aJo {op : Int} (ho : op = 18 ∨ op = 19) (g : Bool) (hg : g = (decide (s.rg a = 0) == decide (op = 18))) :
  s.tick.step ⟨op, d, a, b, c, k⟩ = (⟨s.regs, if g = true then k.toNat else s.at_ + 1, s.code, s.mem, s.leaks ++ [(1, (s.at_ : Int)), (2, if g = true then 1 else 0)], s.steps + 1⟩, true) := by
 have e : ∀ j, MS.rg ({ s.tick with at_ := s.tick.at_ + 1 } : MS) j = s.rg j := fun j => rfl
 have el : s.leaks ++ [(1, (s.at_ : Int))] ++ [(2, if g = true then 1 else 0)] = s.leaks ++ [(1, (s.at_ : Int)), (2, if g = true then 1 else 0)] := by simp
 unfold MS.step
 simp only
 rw [if_neg (by omega), if_pos (by omega)]
 unfold MS.branch
 simp only [e]
 rw [if_neg (by omega), ← hg, ← el]
 cases g <;> rfl
theorem aGy {op : Int} (ho : op = 18 ∨ op = 19) (hsim : Sim ws R s q) (hR : R ≤ 28) (hw : ∀ w ∈ ws, w.Good R ws.length) (hl : ws.length ≤ 10000) (hj : s.at_ < ws.length) (hi : ws.getD s.at_ default = ⟨op, d, a, b, c, k⟩) (hk : 0 ≤ k ∧ k ≤ ws.length) (ha : 0 ≤ a ∧ a < R) (hst : (q.steps : Int) + 9 < fuel) :
  ∃ s2 b2, s.tick.step ⟨op, d, a, b, c, k⟩ = (s2, b2) ∧ lZ fuel ws R s q s2 b2 := by
 obtain ⟨g, hg⟩ : ∃ g : Bool, g = (decide (s.rg a = 0) == decide (op = 18)) := ⟨_, rfl⟩
 obtain ⟨o2, ho2⟩ : ∃ o2 : Int, o2 = if op = 18 then 22 else 23 := ⟨_, rfl⟩
 have hp := tF ws k.toNat (by omega)
 have hch : iH ws.length ⟨op, d, a, b, c, k⟩ = [(⟨o2, a, 0, 0, 0, 0⟩, some k)] := by
  rcases ho with rfl | rfl <;> (rw [ho2]; rfl)
 have hlen : (iH ws.length ⟨op, d, a, b, c, k⟩).length = 1 := by rw [hch]; rfl
 have hA := tW (i := ⟨o2, a, 0, 0, 0, ((kW ws).getD k.toNat 0 : Int) - lL ws s.at_⟩) hR hw hl hj (t := 0) (by rw [hi, hch]; rfl) (by rcases ho with rfl | rfl <;> (rw [ho2]; simp))
 rw [hp] at hA
 have e0 : (lL ws s.at_ : Int) + (0 : Nat) = q.at_ := by rw [hsim.at_]; simp
 have e1 : (lL ws s.at_ : Int) = q.at_ := hsim.at_.symm
 rw [e0, e1] at hA
 have ga := vO hsim ha.1 ha.2 hR
 have hg2 : g = (if o2 = 22 then decide (cK q.regs a = 0) else decide (cK q.regs a ≠ 0)) := by
  rw [hg, ga, ho2]
  rcases ho with rfl | rfl
  ·by_cases h : s.rg a = 0 <;> simp [h]
  ·by_cases h : s.rg a = 0 <;> simp [h]
 have gg := aLk (cd := q.code) (mem := q.mem) (r := q.regs) (lk := q.leaks) (st := q.steps) (fl := q.flags) (fuel := fuel) (op := o2) (by rcases ho with rfl | rfl <;> simp [ho2]) g hg2 hA (by omega)
 refine ⟨_, true, aJo ho g hg, lZ.go [(1, (s.at_ : Int)), (2, if g = true then 1 else 0)] [(1, q.at_), (2, if g = true then 1 else 0)] gg (by omega) rfl ?_ (fun pc T => ?_) hsim.mem ?_ ⟨hsim.rl, hsim.rg, hsim.mem, ?_⟩⟩
 ·simp
 ·show (if (1 : Int) = 1 then lkA ws s.at_ ++ (if (2 : Int) = 1 then _ else lkB ws s.at_ (if g = true then 1 else 0) ++ mlk ws s.at_ T) else _) = _
  rw [if_pos rfl, if_neg (by decide)]
  unfold lkA lkB
  rw [Int.toNat_natCast, hi, if_pos (by rcases ho with rfl | rfl <;> simp), if_pos (by rcases ho with rfl | rfl <;> simp), e1]; rfl
 ·show q.steps + 1 ≤ q.steps + 9; omega
 ·cases g
  ·show q.at_ + 1 = (lL ws (s.at_ + 1) : Int)
   rw [zF ws s.at_ hj, hi, hlen]; omega
  ·show q.at_ + ((lL ws k.toNat : Int) - q.at_) = (lL ws k.toNat : Int)
   omega
theorem aKI (hsim : Sim ws R s q) (hR : R ≤ 28) (hw : ∀ w ∈ ws, w.Good R ws.length) (hl : ws.length ≤ 10000) (hj : s.at_ < ws.length) (hi : ws.getD s.at_ default = ⟨20, d, a, b, c, k⟩) (hk : 0 ≤ k ∧ k ≤ 2) (hst : (q.steps : Int) + 9 < fuel) :
  ∃ s2 b2, s.tick.step ⟨20, d, a, b, c, k⟩ = (s2, b2) ∧ lZ fuel ws R s q s2 b2 := by
 have hA := tW (i := ⟨24, 0, 0, 0, 0, k⟩) hR hw hl hj (t := 0) (by rw [hi]; rfl) (by simp)
 have e0 : (lL ws s.at_ : Int) + (0 : Nat) = q.at_ := by rw [hsim.at_]; simp
 have e1 : (lL ws s.at_ : Int) = q.at_ := hsim.at_.symm
 rw [e0] at hA
 have g := aLP (cd := q.code) (mem := q.mem) (r := q.regs) (lk := q.leaks) (st := q.steps) (fl := q.flags) (fuel := fuel) hk.2 hA (by omega)
 refine ⟨⟨s.regs, s.at_ + 1, k, s.mem, s.leaks ++ [(1, (s.at_ : Int))], s.steps + 1⟩, false, rfl, lZ.fin [(1, (s.at_ : Int))] [(1, q.at_)] g (by omega) rfl rfl (fun pc T => ?_) hsim.mem (by show q.steps + 1 ≤ q.steps + 9; omega) rfl⟩
 show (if (1 : Int) = 1 then lkA ws s.at_ ++ mlk ws s.at_ T else _) = _
 rw [if_pos rfl]
 unfold lkA
 rw [Int.toNat_natCast, hi, if_neg (by simp), e1]; rfl
theorem aBI {op : Int} (ho : op = 15 ∨ op = 16) {y : Nat} (hy : y = (s.rg a + u64 k) % 18446744073709551616) (hm : s.mem.length ≤ y) :
  s.tick.step ⟨op, d, a, b, c, k⟩ = (⟨s.regs, s.at_ + 1, 3, s.mem, s.leaks ++ [(1, (s.at_ : Int)), (3, mI y)], s.steps + 1⟩, false) := by
 have e : ∀ j, MS.rg ({ s.tick with at_ := s.tick.at_ + 1 } : MS) j = s.rg j := fun j => rfl
 have em : MS.mem ({ s.tick with at_ := s.tick.at_ + 1 } : MS) = s.mem := rfl
 have el : s.leaks ++ [(1, (s.at_ : Int))] ++ [(3, mI y)] = s.leaks ++ [(1, (s.at_ : Int)), (3, mI y)] := by simp
 unfold MS.step
 simp only
 rw [if_pos ho]
 unfold MS.touch
 simp only [e, ← hy]
 rw [if_pos (show s.tick.mem.length ≤ y from hm), ← el]
 rfl
theorem aJp {y : Nat} (hy : y = (s.rg a + u64 k) % 18446744073709551616) (hm : ¬ s.mem.length ≤ y) :
  s.tick.step ⟨15, d, a, b, c, k⟩ = (⟨s.regs.set d.toNat (s.mem.getD y 0), s.at_ + 1, s.code, s.mem, s.leaks ++ [(1, (s.at_ : Int)), (3, mI y)], s.steps + 1⟩, true) := by
 have e : ∀ j, MS.rg ({ s.tick with at_ := s.tick.at_ + 1 } : MS) j = s.rg j := fun j => rfl
 have el : s.leaks ++ [(1, (s.at_ : Int))] ++ [(3, mI y)] = s.leaks ++ [(1, (s.at_ : Int)), (3, mI y)] := by simp
 unfold MS.step
 simp only
 rw [if_pos (Or.inl trivial)]
 unfold MS.touch
 simp only [e, ← hy]
 rw [if_neg (show ¬ s.tick.mem.length ≤ y from hm), if_pos trivial, ← el]
 rfl
theorem aJq {y : Nat} (hy : y = (s.rg a + u64 k) % 18446744073709551616) (hm : ¬ s.mem.length ≤ y) :
  s.tick.step ⟨16, d, a, b, c, k⟩ = (⟨s.regs, s.at_ + 1, s.code, s.mem.set y (s.rg b), s.leaks ++ [(1, (s.at_ : Int)), (3, mI y)], s.steps + 1⟩, true) := by
 have e : ∀ j, MS.rg ({ s.tick with at_ := s.tick.at_ + 1 } : MS) j = s.rg j := fun j => rfl
 have el : s.leaks ++ [(1, (s.at_ : Int))] ++ [(3, mI y)] = s.leaks ++ [(1, (s.at_ : Int)), (3, mI y)] := by simp
 unfold MS.step
 simp only
 rw [if_pos (Or.inr trivial)]
 unfold MS.touch
 simp only [e, ← hy]
 rw [if_neg (show ¬ s.tick.mem.length ≤ y from hm), if_neg (show ¬ (16 : Int) = 15 by decide), ← el]
 rfl
theorem aJO {i : WI} {P : Int} {y : Nat} {cd : Int} {mem r : List Nat} {lk : List (Int × Int)} {st : Nat} {fl : FL} (hrl : r.length = 31) (ha : Rw i.a) (hk : 0 ≤ i.k ∧ i.k ≤ 65535) (hy : y = (cK r i.a + u64 i.k) % 18446744073709551616)
  (hA : ∀ (t : Nat) (x : MI), (mD i)[t]? = some x → At (oU ws) (P + t) x) (hst : (st : Int) + 5 < fuel) :
  pG (oU ws) fuel ⟨cd, mem, r, lk, st, fl, P⟩ (mD i).length ⟨cd, mem, r.set 28 y, lk ++ vU P (mD i).length, st + (mD i).length, fl, P + (mD i).length⟩ := by
 unfold mD at hA ⊢
 by_cases h : i.k ≤ 4095
 ·rw [if_pos h] at hA ⊢
  have h0 := hA 0 _ rfl
  rw [show P + ((0 : Nat) : Int) = P by omega] at h0
  have g := wY (cd := cd) (mem := mem) (r := r) (lk := lk) (st := st) (fl := fl) (fuel := fuel) h0 (by simp) (by omega)
  rw [aJE] at g
  have e2 : (cY ⟨10, 28, i.a, 0, 0, i.k⟩ r fl).2 = fl := by simp [cY]
  have e3 : fT r 28 ((cK r i.a + u64 i.k) % 18446744073709551616) = r.set 28 y := by rw [← hy]; rfl
  rw [e2, e3] at g
  exact g
 ·rw [if_neg h] at hA ⊢
  obtain ⟨L, hL⟩ : ∃ L, L = iN 28 (u64 i.k) := ⟨_, rfl⟩
  have hcd := uC 28 (by decide) (u64 i.k) (iW _) fl
  have hlen := (kF 28 (u64 i.k)).2
  rw [← hL] at hA hcd hlen ⊢
  have g := wG (cs := oU ws) (fuel := fuel) (cd := cd) (mem := mem) (fl := fl) (d := 28) L P r lk st hcd.1 (fun t x hx => hA t x (by rw [List.getElem?_append_left (List.getElem?_eq_some_iff.1 hx).1]; exact hx)) (by omega)
  rw [hcd.2 r hrl] at g
  have h0 := hA L.length ⟨3, 28, i.a, 28, 0, 0⟩ (by rw [List.getElem?_append_right (Nat.le_refl _), Nat.sub_self]; rfl)
  have g2 := wY (cd := cd) (mem := mem) (r := r.set (28 : Int).toNat (u64 i.k)) (lk := lk ++ vU P L.length) (st := st + L.length) (fl := fl) (fuel := fuel) h0 (by simp) (by push_cast; omega)
  rw [aHA] at g2
  have e2 : (cY ⟨3, 28, i.a, 28, 0, 0⟩ (r.set (28 : Int).toNat (u64 i.k)) fl).2 = fl := by simp [cY]
  have e28 : (28 : Int).toNat = 28 := rfl
  rw [e28] at g g2 e2
  have e4 : cK (r.set 28 (u64 i.k)) 28 = u64 i.k := by
   unfold cK; rw [if_neg (by decide), e28, mF _ _ _ _ (by omega), if_pos rfl]
  have e5 : cK (r.set 28 (u64 i.k)) i.a = cK r i.a := by
   unfold Rw at ha
   unfold cK; rw [if_neg (by omega), if_neg (by omega), mF _ _ _ _ (by omega), if_neg (by omega)]
  have e3 : fT (r.set 28 (u64 i.k)) 28 ((cK (r.set 28 (u64 i.k)) i.a + cK (r.set 28 (u64 i.k)) 28) % 18446744073709551616) = r.set 28 y := by
   rw [e4, e5, ← hy]
   unfold fT; rw [if_neg (by decide), e28, List.set_set]
  rw [e2, e3] at g2
  have g3 := g.trans g2
  rw [List.length_append, List.length_singleton, show P + ((L.length + 1 : Nat) : Int) = P + L.length + 1 by omega, aCl, aJX, ← List.append_assoc]
  exact g3
theorem aAx {op o2 r : Int} (ho : (op = 15 ∧ o2 = 18 ∧ r = d) ∨ (op = 16 ∧ o2 = 19 ∧ r = b)) (hsim : Sim ws R s q) (hs : s.Ok R) (hR : R ≤ 28) (hw : ∀ w ∈ ws, w.Good R ws.length) (hl : ws.length ≤ 10000) (hj : s.at_ < ws.length) (hi : ws.getD s.at_ default = ⟨op, d, a, b, c, k⟩) (ha : 0 ≤ a ∧ a < R) (hr : 0 ≤ r ∧ r < R) (hk : 0 ≤ k ∧ k ≤ 65535) (hm : s.mem.length ≤ 60000) (hst : (q.steps : Int) + 10 < fuel) :
  ∃ s2 b2, s.tick.step ⟨op, d, a, b, c, k⟩ = (s2, b2) ∧ lZ fuel ws R s q s2 b2 := by
 have hop : op = 15 ∨ op = 16 := by omega
 have hch : iH ws.length ⟨op, d, a, b, c, k⟩ = nM o2 r ⟨op, d, a, b, c, k⟩ ws.length := by
  rcases ho with ⟨rfl, rfl, rfl⟩ | ⟨rfl, rfl, rfl⟩ <;> rfl
 obtain ⟨i, hii⟩ : ∃ i : WI, i = ⟨op, d, a, b, c, k⟩ := ⟨_, rfl⟩
 have hia : i.a = a := by rw [hii]
 have hik : i.k = k := by rw [hii]
 obtain ⟨C, hC⟩ : ∃ C, C = (mD i).length := ⟨_, rfl⟩
 have hC5 : C ≤ 5 ∧ 1 ≤ C := by
  rw [hC]; unfold mD
  have := (kF 28 (u64 i.k)).2
  split
  ·simp
  ·simp; omega
 obtain ⟨P, hP⟩ : ∃ P : Int, P = q.at_ := ⟨_, rfl⟩
 have e1 : (lL ws s.at_ : Int) = P := by rw [hP]; exact hsim.at_.symm
 have hfx : mM (kW ws) (lL ws s.at_) (iH ws.length (ws.getD s.at_ default)) = mD i ++ ([⟨13, 29, 28, 0, 0, 16⟩] ++ ([⟨23, 29, 0, 0, 0, (lL ws ws.length : Int) - (P + C + 1)⟩] ++ [⟨12, 28, 28, 0, 0, 3⟩, ⟨o2, r, 28, 0, 0, 0⟩])) := by
  rw [hi, hch, ← hii]
  unfold nM
  rw [nA, nA, nA, mN, mN, mN, mP, mP, ← hC]
  have hp := tF ws ws.length (Nat.le_refl _)
  have e : ((kW ws).getD ((ws.length : Int)).toNat 0 : Int) = (lL ws ws.length : Int) := by rw [Int.toNat_natCast, hp]
  simp only [mM, e, List.length_singleton]
  rw [show ((lL ws s.at_ + C + 1 : Nat) : Int) = P + C + 1 by omega]
 have hat : ∀ (t : Nat) (x : MI), (mD i ++ ([⟨13, 29, 28, 0, 0, 16⟩] ++ ([⟨23, 29, 0, 0, 0, (lL ws ws.length : Int) - (P + C + 1)⟩] ++ [⟨12, 28, 28, 0, 0, 3⟩, ⟨o2, r, 28, 0, 0, 0⟩])))[t]? = some x → ¬ (x.op = 12 ∧ x.imm = 0) → At (oU ws) (P + t) x := fun t x hx hn => by
  have := tW (i := x) hR hw hl hj (t := t) (by rw [hfx]; exact hx) hn
  rw [e1] at this; exact this
 have hat2 : ∀ (t : Nat) (x : MI), ([⟨13, 29, 28, 0, 0, 16⟩, ⟨23, 29, 0, 0, 0, (lL ws ws.length : Int) - (P + C + 1)⟩, ⟨12, 28, 28, 0, 0, 3⟩, ⟨o2, r, 28, 0, 0, 0⟩] : List MI)[t]? = some x → ¬ (x.op = 12 ∧ x.imm = 0) → At (oU ws) (P + C + t) x := fun t x hx hn => by
  have := hat (C + t) x (by rw [List.getElem?_append_right (by omega), ← hC, Nat.add_sub_cancel_left]; exact hx) hn
  rw [show P + C + (t : Int) = P + ((C + t : Nat) : Int) by omega]; exact this
 have hAd : ∀ (t : Nat) (x : MI), (mD i)[t]? = some x → At (oU ws) (P + t) x := fun t x hx => by
  refine hat t x (by rw [List.getElem?_append_left (List.getElem?_eq_some_iff.1 hx).1]; exact hx) ?_
  have hmem := List.mem_of_getElem? hx
  unfold mD at hmem
  split at hmem
  ·rw [List.mem_singleton.1 hmem]; simp
  ·rcases List.mem_append.1 hmem with h | h
   ·have := ((uC 28 (by decide) (u64 i.k) (iW _) jD).1 x h).2; omega
   ·rw [List.mem_singleton.1 h]; simp
 have ga := vO hsim ha.1 ha.2 hR
 obtain ⟨y, hy⟩ : ∃ y, y = (s.rg a + u64 k) % 18446744073709551616 := ⟨_, rfl⟩
 have hyl : y < 18446744073709551616 := by rw [hy]; exact Nat.mod_lt _ (by decide)
 have haw : Rw i.a := by rw [hia]; unfold Rw; omega
 have g1 := aJO (i := i) (P := P) (y := y) (cd := q.code) (mem := q.mem) (r := q.regs) (lk := q.leaks) (st := q.steps) (fl := q.flags) (fuel := fuel) hsim.rl haw (by rw [hik]; exact hk) (by rw [hia, hik, ga]; exact hy) hAd (by omega)
 rw [← hC] at g1
 have eq0 : (⟨q.code, q.mem, q.regs, q.leaks, q.steps, q.flags, P⟩ : QS) = q := by rw [hP]
 rw [eq0] at g1
 have hrl := hsim.rl
 have a0 := hat2 0 _ rfl (by simp)
 rw [show P + C + ((0 : Nat) : Int) = P + C by omega] at a0
 have g2 := wY (cd := q.code) (mem := q.mem) (r := q.regs.set 28 y) (lk := q.leaks ++ vU P C) (st := q.steps + C) (fl := q.flags) (fuel := fuel) a0 (by simp) (by push_cast; omega)
 have e13 : (cY ⟨13, 29, 28, 0, 0, 16⟩ (q.regs.set 28 y) q.flags).1 = (q.regs.set 28 y).set 29 (y / 65536) := by
  rw [aCc]
  have : cK (q.regs.set 28 y) 28 = y := by
   unfold cK; rw [if_neg (by decide)]
   have e28 : (28 : Int).toNat = 28 := rfl
   rw [e28, mF _ _ _ _ (by omega), if_pos rfl]
  rw [this]
  have e16 : 2 ^ u64 16 = 65536 := rfl
  rw [e16]; rfl
 have f13 : (cY ⟨13, 29, 28, 0, 0, 16⟩ (q.regs.set 28 y) q.flags).2 = q.flags := by simp [cY]
 rw [e13, f13] at g2
 obtain ⟨r2, hr2⟩ : ∃ r2, r2 = (q.regs.set 28 y).set 29 (y / 65536) := ⟨_, rfl⟩
 have hr2l : r2.length = 31 := by rw [hr2]; simpa using hrl
 have r2g : ∀ j, r2.getD j 0 = if 29 = j then y / 65536 else if 28 = j then y else q.regs.getD j 0 := fun j => by
  rw [hr2, mF _ _ _ _ (by simp; omega), mF _ _ _ _ (by omega)]
 rw [← hr2] at g2
 have g12 := g1.trans g2
 obtain ⟨g, hg⟩ : ∃ g : Bool, g = decide (y / 65536 ≠ 0) := ⟨_, rfl⟩
 have a1 := hat2 1 _ rfl (by simp)
 rw [show P + C + ((1 : Nat) : Int) = P + C + 1 by omega] at a1
 have hg2 : g = (if (23 : Int) = 22 then decide (cK r2 29 = 0) else decide (cK r2 29 ≠ 0)) := by
  rw [if_neg (by decide), hg]
  have : cK r2 29 = y / 65536 := by
   unfold cK; rw [if_neg (by decide)]
   have e29 : (29 : Int).toNat = 29 := rfl
   rw [e29, r2g, if_pos rfl]
  rw [this]
 have g3 := aLk (cd := q.code) (mem := q.mem) (r := r2) (lk := q.leaks ++ vU P C ++ [(1, P + C)]) (st := q.steps + C + 1) (fl := q.flags) (fuel := fuel) (Or.inr rfl) g hg2 a1 (by push_cast; omega)
 have g13 := g12.trans g3
 have mk : ∀ x : Int, ∀ pc T, mlk ws pc ([(1, (s.at_ : Int)), (3, x)] ++ T) = lkT P C (u64 x) ++ mlk ws s.at_ T := fun x pc T => by
  show (if (1 : Int) = 1 then lkA ws s.at_ ++ (if (3 : Int) = 1 then _ else lkB ws s.at_ x ++ mlk ws s.at_ T) else _) = _
  rw [if_pos rfl, if_neg (by decide)]
  unfold lkA lkB
  rw [Int.toNat_natCast, hi, if_pos (by rcases hop with rfl | rfl <;> simp), if_neg (by rcases hop with rfl | rfl <;> simp), e1, ← hii, ← hC]; rfl
 have uy : u64 (mI y) = y := aKM y hyl
 have lks : ∀ l : List (Int × Int), q.leaks ++ vU P C ++ [(1, P + C)] ++ [(1, P + C + 1)] ++ l = q.leaks ++ (vU P (C + 2) ++ l) := fun l => by
  rw [aCl]; simp [vU]
 by_cases hfar : y / 65536 = 0
 ·have hy16 : y < 65536 := by omega
  have hgf : g = false := by rw [hg]; simp [hfar]
  rw [hgf] at g13
  simp only [Bool.false_eq_true, if_false] at g13
  have a2 := hat2 2 _ rfl (by simp)
  rw [show P + C + ((2 : Nat) : Int) = P + C + 1 + 1 by omega] at a2
  have g4 := wY (cd := q.code) (mem := q.mem) (r := r2) (lk := q.leaks ++ vU P C ++ [(1, P + C)] ++ [(1, P + C + 1)] ++ [(2, 0)]) (st := q.steps + C + 1 + 1) (fl := q.flags) (fuel := fuel) a2 (by simp) (by push_cast; omega)
  have e12 : (cY ⟨12, 28, 28, 0, 0, 3⟩ r2 q.flags).1 = r2.set 28 (8 * y) := by
   rw [aFI]
   have : cK r2 28 = y := by
    unfold cK; rw [if_neg (by decide)]
    have e28 : (28 : Int).toNat = 28 := rfl
    rw [e28, r2g, if_neg (by decide), if_pos rfl]
   rw [this]
   have e3 : 2 ^ u64 3 = 8 := rfl
   rw [e3, show y * 8 % 18446744073709551616 = 8 * y by omega]; rfl
  have f12 : (cY ⟨12, 28, 28, 0, 0, 3⟩ r2 q.flags).2 = q.flags := by simp [cY]
  rw [e12, f12] at g4
  obtain ⟨r3, hr3⟩ : ∃ r3, r3 = r2.set 28 (8 * y) := ⟨_, rfl⟩
  have hr3l : r3.length = 31 := by rw [hr3]; simpa using hr2l
  have r3g : ∀ j, j < R → r3.getD j 0 = s.regs.getD j 0 := fun j hjR => by
   rw [hr3, mF _ _ _ _ (by omega), if_neg (by omega), r2g, if_neg (by omega), if_neg (by omega)]; exact hsim.rg j hjR
  have r28 : cK r3 28 = 8 * y := by
   unfold cK; rw [if_neg (by decide)]
   have e28 : (28 : Int).toNat = 28 := rfl
   rw [e28, hr3, mF _ _ _ _ (by omega), if_pos rfl]
  rw [← hr3] at g4
  have g14 := g13.trans g4
  have a3 := hat2 3 _ rfl (by simp; omega)
  rw [show P + C + ((3 : Nat) : Int) = P + C + 1 + 1 + 1 by omega] at a3
  have lkt : lkT P C y = vU P (C + 2) ++ [(2, 0), (1, P + C + 2), (1, P + C + 3), (3, mI (8 * y))] := by
   unfold lkT; rw [if_neg (by omega)]
  have lfin : q.leaks ++ vU P C ++ [(1, P + C)] ++ [(1, P + C + 1)] ++ [(2, 0)] ++ [(1, P + C + 1 + 1)] ++ [(1, P + C + 1 + 1 + 1)] ++ [(3, mI (8 * y))] = q.leaks ++ lkT P C y := by
   rw [lkt, ← lks]
   simp only [List.append_assoc, List.cons_append, List.nil_append]
   rw [show P + (C : Int) + 1 + 1 = P + C + 2 by omega, show P + (C : Int) + 2 + 1 = P + C + 3 by omega]
  by_cases hin : s.mem.length ≤ y
  ·have g5 := aLQ (cd := q.code) (mem := q.mem) (r := r3) (lk := q.leaks ++ vU P C ++ [(1, P + C)] ++ [(1, P + C + 1)] ++ [(2, 0)] ++ [(1, P + C + 1 + 1)]) (st := q.steps + C + 1 + 1 + 1) (fl := q.flags) (fuel := fuel) (by omega) a3 (by push_cast; omega) hy16 r28 (by rw [hsim.mem]; exact hin)
   have ge := g14.ends g5
   refine ⟨_, false, aBI hop hy hin, lZ.fin [(1, (s.at_ : Int)), (3, mI y)] (lkT P C y) ge (by omega) rfl lfin (fun pc T => ?_) hsim.mem ?_ rfl⟩
   ·rw [mk, uy]
   ·show q.steps + C + 1 + 1 + 1 + 1 ≤ q.steps + 9; omega
  ·have hat4 : ∀ w, (iH ws.length ⟨op, d, a, b, c, k⟩).length = w → w = C + 4 := fun w hw => by
    rw [← hw, hch, ← hii]
    unfold nM
    simp [gS, ← hC]
   have atn : (lL ws (s.at_ + 1) : Int) = P + C + 1 + 1 + 1 + 1 := by
    rw [zF ws s.at_ hj, hi, hat4 _ rfl]; omega
   have hrr : ∀ x, fT r3 r x = r3.set r.toNat x := fun x => by unfold fT; rw [if_neg (by omega)]
   rcases ho with ⟨rfl, rfl, rfl⟩ | ⟨rfl, rfl, rfl⟩
   ·have g5 := aNB (cd := q.code) (mem := q.mem) (r := r3) (lk := q.leaks ++ vU P C ++ [(1, P + C)] ++ [(1, P + C + 1)] ++ [(2, 0)] ++ [(1, P + C + 1 + 1)]) (st := q.steps + C + 1 + 1 + 1) (fl := q.flags) (fuel := fuel) a3 (by push_cast; omega) hy16 r28 (by rw [hsim.mem]; omega)
    have ge := g14.trans g5
    refine ⟨_, true, aJp hy hin, lZ.go [(1, (s.at_ : Int)), (3, mI y)] (lkT P C y) ge (by omega) rfl lfin (fun pc T => ?_) hsim.mem ?_ ⟨?_, ?_, hsim.mem, atn.symm⟩⟩
    ·rw [mk, uy]
    ·show q.steps + C + 1 + 1 + 1 + 1 ≤ q.steps + 9; omega
    ·show (fT r3 _ _).length = 31
     rw [hrr, List.length_set]; exact hr3l
    ·show ∀ j, j < R → (fT r3 _ _).getD j 0 = _
     rw [hrr, hsim.mem]
     exact aGw hs.len hr3l hR r3g _ _ (by omega)
   ·have g5 := aNC (cd := q.code) (mem := q.mem) (r := r3) (lk := q.leaks ++ vU P C ++ [(1, P + C)] ++ [(1, P + C + 1)] ++ [(2, 0)] ++ [(1, P + C + 1 + 1)]) (st := q.steps + C + 1 + 1 + 1) (fl := q.flags) (fuel := fuel) a3 (by push_cast; omega) hy16 r28 (by rw [hsim.mem]; omega)
    have ge := g14.trans g5
    have grr : cK r3 r = s.rg r := by
     unfold cK MS.rg; rw [if_neg (by omega)]; exact r3g _ (by omega)
    have em : q.mem.set y (cK r3 r) = s.mem.set y (s.rg r) := by rw [grr, hsim.mem]
    refine ⟨_, true, aJq hy hin, lZ.go [(1, (s.at_ : Int)), (3, mI y)] (lkT P C y) ge (by omega) rfl lfin (fun pc T => ?_) em ?_ ⟨hr3l, r3g, em, atn.symm⟩⟩
    ·rw [mk, uy]
    ·show q.steps + C + 1 + 1 + 1 + 1 ≤ q.steps + 9; omega
 ·have hgt : g = true := by rw [hg]; simp [hfar]
  rw [hgt] at g13
  simp only [if_true] at g13
  rw [show P + (C : Int) + 1 + ((lL ws ws.length : Int) - (P + C + 1)) = (lL ws ws.length : Int) by omega] at g13
  have g4 := aHt (fuel := fuel) (cs := oU ws) (cd := q.code) (mem := q.mem) (r := r2) (lk := q.leaks ++ vU P C ++ [(1, P + C)] ++ [(1, P + C + 1)] ++ [(2, 1)]) (st := q.steps + C + 1 + 1) (fl := q.flags) (p := (lL ws ws.length : Int)) (by rw [aFz]; unfold oU; rw [List.length_map]; omega)
  have ge := g13.ends g4
  have lkt : lkT P C y = vU P (C + 2) ++ [(2, 1)] := by
   unfold lkT; rw [if_pos hfar]
  refine ⟨_, false, aBI hop hy (by omega), lZ.fin [(1, (s.at_ : Int)), (3, mI y)] (lkT P C y) ge (by omega) rfl ?_ (fun pc T => ?_) hsim.mem ?_ rfl⟩
  ·rw [lkt, ← lks]
  ·rw [mk, uy]
  ·show q.steps + C + 1 + 1 ≤ q.steps + 9; omega
end
section
variable {ws : List WI} {R : Nat} {fuel : Int} {s : MS} {q : QS} {i : WI}
theorem aJg (hsim : Sim ws R s q) (hs : s.Ok R) (hR : R ≤ 28) (hw : ∀ w ∈ ws, w.Good R ws.length) (hl : ws.length ≤ 10000) (hj : s.at_ < ws.length) (hi : ws.getD s.at_ default = i) (hg : i.Good R ws.length) (hm : s.mem.length ≤ 60000) (hst : (q.steps : Int) + 10 < fuel) :
  ∃ s2 b, s.tick.step i = (s2, b) ∧ lZ fuel ws R s q s2 b := by
 have h20 := hg.ok2.ok.op
 by_cases h14 : i.op ≤ 14
 ·exact aJh hsim hs hR hw hl hj hi hg (by omega) ⟨h20.1, h14⟩
 have hk := hg.ok2.ok.k
 have ha := hg.ok2.ok.a
 have hd := hg.ok2.ok.d
 have hb := hg.ok2.ok.b
 have hmem := hg.mem
 have hhalt := hg.halt
 obtain ⟨op, d, a, b, c, k⟩ := i
 simp only at h14 h20 hk ha hd hb hmem hhalt
 have : op = 15 ∨ op = 16 ∨ op = 17 ∨ op = 18 ∨ op = 19 ∨ op = 20 := by omega
 rcases this with rfl | rfl | rfl | rfl | rfl | rfl
 ·exact aAx (.inl ⟨rfl, rfl, rfl⟩) hsim hs hR hw hl hj hi (ha (by omega) (by omega)) (hd (by omega)) (hmem (by omega)) hm hst
 ·exact aAx (.inr ⟨rfl, rfl, rfl⟩) hsim hs hR hw hl hj hi (ha (by omega) (by omega)) (hb (by omega)) (hmem (by omega)) hm hst
 ·exact aKH hsim hR hw hl hj hi (hk (by omega) (by omega)) (by omega)
 ·exact aGy (.inl rfl) hsim hR hw hl hj hi (hk (by omega) (by omega)) (ha (by omega) (by omega)) (by omega)
 ·exact aGy (.inr rfl) hsim hR hw hl hj hi (hk (by omega) (by omega)) (ha (by omega) (by omega)) (by omega)
 ·exact aKI hsim hR hw hl hj hi (hhalt rfl) (by omega)
end
theorem aGv {ws : List WI} {R : Nat} {F fuel : Int} (hR : R ≤ 28) (hw : ∀ w ∈ ws, w.Good R ws.length) (hl : ws.length ≤ 10000) (hF : F ≤ 99999) (hfuel : 9 * F + 20 < fuel) : ∀ (f : Nat) (s s' : MS) (q : QS), vL ws F f s = some s' → s'.code ≠ 4 → s.Ok R → Sim ws R s q → s.at_ ≤ ws.length → (s.steps : Int) ≤ F → q.steps ≤ 9 * s.steps → s.mem.length ≤ 60000 →
  ∃ (m : Nat) (q' : QS) (T : List (Int × Int)), (m : Int) ≤ 10 * (F - s.steps) + 1 ∧ aCP (oU ws) fuel q m q' ∧ q'.code = s'.code ∧ q'.mem = s'.mem ∧ s'.leaks = s.leaks ++ T ∧ ∀ pc, q'.leaks = q.leaks ++ mlk ws pc T
 | 0, s, s', q, h, _, _, _, _, _, _, _ => by simp [vL] at h
 | f + 1, s, s', q, h, hc, hs, hsim, hat, hst, hq, hm => by
  simp only [vL] at h
  by_cases h1 : ws.length ≤ s.at_
  ·rw [if_pos h1] at h; simp only [Option.some.injEq] at h; subst h
   have hp : q.at_ = (lL ws ws.length : Int) := by rw [hsim.at_, show s.at_ = ws.length by omega]
   have g := aHt (fuel := fuel) (cs := oU ws) (cd := q.code) (mem := q.mem) (r := q.regs) (lk := q.leaks) (st := q.steps) (fl := q.flags) (p := q.at_) (by rw [hp, aFz]; unfold oU; rw [List.length_map]; omega)
   exact ⟨1, _, [], by omega, g, rfl, hsim.mem, by simp, fun pc => by simp [mlk]⟩
  rw [if_neg h1] at h
  by_cases h2 : (s.steps : Int) = F
  ·rw [if_pos h2] at h; simp only [Option.some.injEq] at h; subst h
   exact absurd rfl hc
  rw [if_neg h2] at h
  have hj : s.at_ < ws.length := by omega
  have hmemi : ws.getD s.at_ default ∈ ws := by
   rw [List.getD_eq_getElem?_getD, List.getElem?_eq_getElem hj]; exact List.getElem_mem hj
  have hg := hw _ hmemi
  have okt : s.tick.Ok R := ⟨hs.len, hs.regs, hs.mem, by have := hs.leaks; simp [MS.tick, MS.leak]; omega, hs.big, by simp [MS.tick, MS.leak]; omega⟩
  obtain ⟨o1, o2, o3, o4⟩ := MS.step_ok okt hg.ok2.ok (by have := hs.leaks; simp [MS.tick, MS.leak]; omega) (show s.tick.at_ < ws.length from hj)
  have tst : s.tick.steps = s.steps + 1 := rfl
  have tm : s.tick.mem = s.mem := rfl
  obtain ⟨s2, b, hsb, m, q2, Y, X, m10, hY, hX, hmk, hmm, hqs, hgo, hend⟩ := aJg (fuel := fuel) hsim hs hR hw hl hj rfl hg hm (by omega)
  rw [hsb] at h o1 o2 o3 o4
  simp only at h o1 o2 o3 o4
  cases b
  ·simp only [Option.some.injEq] at h
   subst h
   obtain ⟨he, hcode⟩ := hend rfl
   refine ⟨m, q2, Y, by omega, he, hcode, hmm, hY, fun pc => ?_⟩
   have := hmk pc []
   rw [List.append_nil] at this
   rw [hX, this]; simp [mlk]
  ·obtain ⟨hgo, hsim2⟩ := hgo rfl
   obtain ⟨m2, q', T, hm2, he, hcode, hmem, hT, hmlk⟩ := aGv hR hw hl hF hfuel f s2 s' q2 h hc o1 hsim2 o2 (by rw [o3, tst]; push_cast; omega) (by rw [o3, tst]; omega) (by rw [o4, tm]; exact hm)
   rw [o3, tst] at hm2
   refine ⟨m + m2, q', Y ++ T, by push_cast at hm2 ⊢; omega, hgo.ends he, hcode, hmem, by rw [hT, hY, List.append_assoc], fun pc => ?_⟩
   rw [hmlk s.at_, hX, hmk, List.append_assoc]
theorem aOQ (ws : List WI) (R : Nat) (hR : R ≤ 28) (mem : List Nat) (cd : Int) : Sim ws R (s0 R mem) (q0 cd mem) := by
 refine ⟨by simp [q0], fun j hj => ?_, rfl, ?_⟩
 ·show (List.replicate 31 0).getD j 0 = (List.replicate R 0).getD j 0
  rw [List.getD_eq_getElem?_getD, List.getD_eq_getElem?_getD, List.getElem?_replicate, List.getElem?_replicate, if_pos hj, if_pos (by omega)]
 ·show (0 : Int) = (lL ws 0 : Int)
  simp [lL, iC]
theorem aKG {ws : List WI} {R : Nat} {F fuel : Int} {K f : Nat} (hR : R ≤ 28) (hw : ∀ w ∈ ws, w.Good R ws.length) (hl : ws.length ≤ 10000) (h0 : 0 ≤ F) (hF : F ≤ 99999) (hfuel : 9 * F + 20 < fuel) (mem : List Nat) (hm : mem.length ≤ 60000) (hmm : ∀ x ∈ mem, x < 18446744073709551616) (s' : MS) (h : vL ws F f (s0 R mem) = some s') (hc : s'.code ≠ 4) (hK : 10 * F + 1 ≤ K) :
  ∃ q', nT (oU ws) fuel K (q0 3 mem) = some q' ∧ q'.code = s'.code ∧ q'.mem = s'.mem ∧ q'.leaks = mlk ws 0 s'.leaks := by
 obtain ⟨m, q', T, hm, he, h1, h2, h3, h4⟩ := aGv hR hw hl hF hfuel f (s0 R mem) s' (q0 3 mem) h hc (aJe R mem hmm (by omega)) (aOQ ws R hR mem 3) (by simp [s0]) (by simp only [s0]; omega) (by simp [q0]) (by simpa [s0] using hm)
 have e : s'.leaks = T := by rw [h3]; simp [s0]
 refine ⟨q', ?_, h1, h2, by rw [h4 0, e]; simp [q0]⟩
 have hs0 : (s0 R mem).steps = 0 := rfl
 rw [hs0] at hm
 have := he (K - m)
 rw [show K - m + m = K by omega] at this
 exact this
theorem aFU {v : VE} (h : v ≠ .ok) : aQ Tryd.prog .neq 30 true (veV v) .nili = some (.bool true) := by
 cases v with
 | ok => exact absurd rfl h
 | bare e => kernel_rfl
 | at_ j e => kernel_rfl
theorem aGK (v : VE) : bQ [.sl 1 0 0 0 1, veV v] 0 [⟨71, 1, []⟩, ⟨71, 1, []⟩] = some (.ret, [.tup [.ro false [], veV v]], []) := by
 refine aFM ?_
 refine aFP (by simp [dE, cG]) ?_
 exact jO (wF (ty := 71) (xs := []) rfl (by omega) rfl rfl rfl) (jO (lW (aKS v) 5) uS)
section
variable (G : aG) (hg : GOk G) (k : Nat) (ws : List WI) (r m : Int)
theorem aCX : bC (cV false ws r m) = true := by simp [bC, eE, aIe, cV]
theorem aHx : fS (cV false ws r m) = true := by simp [fS, iZ, aLT, cV]
include hg in
theorem aEr (hk : ws.length < k + 7) (hl : ws.length ≤ 1000000) (h : lH ws r m ≠ .ok) : cA.f G (k + 9) [cV false ws r m] [] = some (.tup [.ro false [], veV (lH ws r m)], []) := by
 rw [cA.step]
 unfold cA.c
 have c0 : ∀ H, dP (cV false ws r m) H = some (.rp false (cV false ws r m) 0, H) := fun H => rfl
 have c1 : ∀ H, aC G true 3 (.rp false (cV false ws r m) 0) H = some (cV false ws r m) := fun H => rfl
 have r1 : ∀ H, aE (dU.f G (k + 8)) [cV false ws r m] H = _ := fun H => aD (H := H) (zA G hg k ws r m hk hl) (by simp [eE, aCX]) (aBE _)
 have q := aFU h
 have fin := aGK (lH ws r m)
 generalize lH ws r m = v at *
 generalize cV false ws r m = C at *
 refine eO ?_
 have fx := aPt c0 <| aPt c1 <| aPt r1 <| q
 refine kN ?_
 exact oF fin
include hg in
theorem aCR (hl : ws.length ≤ 60) (hk : 1000 ≤ k) (h : lH ws r m = .ok) (hr : r ≤ 28) : cA.f G (k + 12) [cV false ws r m] [] = some (.tup [.ro false (iP (oU ws)), .nili], []) := by
 have hv := zA (bor := false) G hg (k + 3) ws r m (by omega) (by omega)
 rw [h] at hv
 have hgood := xX h
 have hr0 := (wU h).1
 have hR : r.toNat ≤ 28 := by omega
 obtain ⟨s0, hs0⟩ : ∃ s0, s0 = (KS.run ws.length ws k00).mark := ⟨_, rfl⟩
 have hrun := aIN ws
 rw [← hs0] at hrun
 obtain ⟨s1, hs1⟩ : ∃ s1, s1 = KS.fixes s0.jumps s0 := ⟨_, rfl⟩
 have ho1 : s1.out = aCr ws := by rw [hs1]; exact aHD ws s0 hs0
 have hfl := rS ws.length ws
 have hjl : ∀ (L : JL) (b : Nat), (nC b L).length ≤ L.length := by
  intro L
  induction L with
  | nil => intro b; simp [nC]
  | cons x L ih =>
   intro b
   obtain ⟨i, o⟩ := x
   cases o with
   | none => have := ih (b + 1); simp only [nC, List.length_cons]; omega
   | some t => have := ih (b + 1); simp only [nC, List.length_cons]; omega
 have hJ : s0.jumps.length ≤ 540 := by rw [hrun]; have := hjl (iC ws.length ws) 0; show (nC 0 (iC ws.length ws)).length ≤ 540; omega
 have hO : s0.out.length ≤ 540 := by rw [hrun]; simp only [List.length_map]; omega
 have hpl : s0.place.length = ws.length + 1 := by rw [hrun]; exact aEQ ws
 have := aGD G k ws r m hv hr (fun w hw => (hgood w hw).ok2.ok.op) (by omega) (by omega) s0 hs0 s1 hs1 (by omega) (by omega) (fun p hp => by
   rw [hrun] at hp
   have := aFQ (e := ws.length) (m := ws.length) ⟨by omega, by omega⟩ (Nat.le_refl _) ws 0 hgood p hp
   rw [hpl, hrun]
   simp only [List.length_map]
   omega) (fun q hq => by rw [hrun] at hq; have := aBt ws q hq; omega) (by omega) (by omega) (by omega) (by rw [ho1]; exact tE hR hgood (by omega))
 rw [ho1] at this
 exact this
end
def tD (n : Nat) (R M : Int) (m : Nat) : Prop := n ≤ 60 ∧ R ≤ 40 ∧ M ≤ 80 ∧ m ≤ 80
instance (n : Nat) (R M : Int) (m : Nat) : Decidable (tD n R M m) := by unfold tD; infer_instance
theorem aEK (G : aG) (k : Nat) (cs : List WI) (R M : Int) (mem : List Nat) :
  cC.f G (k + 1) [cV false cs R M, .ro false (bV mem)] [] = some (.bool (decide (tD cs.length R M mem.length)), []) := by
 rw [cC.step]
 unfold cC.c cV
 have l1 : dH (.ro false (gW cs)) = some (I6 cs.length) := by simp [dH, jU]
 have l2 : dH (.ro false (bV mem)) = some (I6 mem.length) := by simp [dH, bL]
 refine eO ?_
 repeat' first
  | (with_reducible first | refine eT ?_ | refine eN ?_ | refine eS ?_ | refine eXn ?_ | refine eXr ?_ | refine eX ?_ | refine eI ?_ | refine eK ?_ | refine eV0 ?_ | refine sL ?_ | refine sO ?_ | refine sI ?_ | refine sN ?_ | refine sJ ?_ | refine sK ?_)
  | ((with_reducible apply eCn); (simp only [dX, dW]; first | done | (with_reducible exact rfl)))
  | ((with_reducible apply eJ); (rfl))
  | ((with_reducible apply sM); (first | rfl | (simp only [dX, dW]; rfl)))
  | ((with_reducible apply eB); (first | (with_reducible exact rfl) | (simp (disch := omega) only [qf, l1, l2]; first | done | (with_reducible exact rfl) | (with_reducible exact ⟨rfl, rfl⟩)) | (simp (disch := omega) only [qa, jP, AV.cells, fH, bA, kX, fK, fM, kL, Nat.reduceLeDiff, Nat.reduceLT, Nat.reduceAdd, ↓reduceIte, l1, l2]; first | done | (with_reducible exact rfl) | (with_reducible exact ⟨rfl, rfl⟩))))
  | ((with_reducible apply eR); (simp only [dX, dW]; (with_reducible exact rfl)))
  | ((with_reducible first | refine tG ?_ ?_ | refine tL ?_ ?_ | refine tK ?_ ?_ | refine tJ ?_ ?_ | refine tI ?_ ?_ | refine tH ?_ ?_ | refine tM ?_ ?_ | refine oG ?_ ?_ | refine sGd ?_ ?_ | refine nY ?_ ?_) <;> intro hq <;> try subst hq)
 all_goals (refine qT ?_; first | exact (decide_eq_true (by unfold tD; omega)).symm | exact (decide_eq_false (by unfold tD; omega)).symm)
theorem aEP (G : aG) (k : Nat) (cs : List WI) (R M : Int) : bX.f G (k + 1) [cV false cs R M] [] = some (cV false cs R M, []) := by
 rw [bX.step]
 unfold bX.c cV
 refine eO ?_
 repeat' first
  | (with_reducible first | refine eT ?_ | refine eN ?_ | refine eS ?_ | refine eXn ?_ | refine eXr ?_ | refine eX ?_ | refine eI ?_ | refine eK ?_ | refine eV0 ?_ | refine sL ?_ | refine sO ?_ | refine sI ?_ | refine sN ?_ | refine sJ ?_ | refine sK ?_)
  | ((with_reducible apply eCn); (simp only [dX, dW]; first | done | (with_reducible exact rfl)))
  | ((with_reducible apply eJ); (rfl))
  | ((with_reducible apply sM); (first | rfl | (simp only [dX, dW]; rfl)))
  | ((with_reducible apply eB); (first | (with_reducible exact rfl) | (simp (disch := omega) only [qa, jP, AV.cells, fH, bA, kX, fK, fM, kL, Nat.reduceLeDiff, Nat.reduceLT, Nat.reduceAdd, ↓reduceIte]; first | done | (with_reducible exact rfl) | (with_reducible exact ⟨rfl, rfl⟩))))
  | ((with_reducible apply eR); (simp only [dX, dW]; (with_reducible exact rfl)))
  | ((with_reducible first | refine tG ?_ ?_ | refine tL ?_ ?_ | refine tK ?_ ?_ | refine tJ ?_ ?_ | refine tI ?_ ?_ | refine tH ?_ ?_ | refine tM ?_ ?_ | refine oG ?_ ?_ | refine sGd ?_ ?_ | refine nY ?_ ?_) <;> intro hq <;> try subst hq)
 refine oF ?_
 unfold fL
 exact mL (by simp [cG, dE, kC, AV.cells]) _
theorem aJM (G : aG) (k : Nat) : dI.f G (k + 80) [] [] = some (.bool true, []) := by kernel_rfl
end Go.Proofs.YtdfglgnflldkpaaDoor.Mir
namespace Go.Proofs.YtdfglgnflldkpaaDoor
open Go Go.Proofs.YtdfglgnflldkpaaDoor.Mir
set_option linter.unusedVariables false
set_option linter.unusedSimpArgs false
set_option maxHeartbeats 8000000
set_option maxRecDepth 20000
theorem aOo (T : Nat) (j : Nat) (H : aF) (z cs : List AV) (hz : z.length = 35) (hc : cs.length = 35) (e : H[j]? = some ⟨T, 35, [.agg z]⟩) : fB (aN 35 (.ptr j 1 0 0) (.agg cs) H) = some (.tup [], H.set j ⟨T, 35, [.agg cs]⟩) := by
 have e2 : jP z 0 cs = cs := by
  unfold jP
  rw [List.take_zero, List.nil_append, List.drop_of_length_le (by omega), List.append_nil]
 have e3 : (AV.agg cs).cells = cs := rfl
 have e4 : (AV.agg z).cells = z := rfl
 have hs : fH (.agg cs) = true := rfl
 unfold aN
 simp only [e, List.length_singleton, hs, List.getElem?_cons_zero, e3]
 rw [if_pos (by refine ⟨?_, ?_, ?_⟩ <;> first | trivial | exact hc), e4, if_pos (by omega), e2]
 rfl
theorem yX (G : aG) (k : Nat) (x y : Int × Int) : bE.f G (k + 1) [iD x, iD y] [] = some (.bool (decide (x = y)), []) := by
 obtain ⟨a, b⟩ := x
 obtain ⟨c, d⟩ := y
 rw [bE.step]
 unfold bE.c iD
 have q1 : aQ Tryd.prog .eql 3 false (I6 a) (I6 c) = some (.bool (decide (a = c))) := jV ..
 have q2 : aQ Tryd.prog .eql 2 false (I6 b) (I6 d) = some (.bool (decide (b = d))) := jV ..
 have e : decide ((a, b) = (c, d)) = (decide (a = c) && decide (b = d)) := by
  by_cases h1 : a = c <;> by_cases h2 : b = d <;> simp [h1, h2]
 rw [e]
 generalize decide (a = c) = u at *
 generalize decide (b = d) = v at *
 refine eO ?_
 cases u <;> cases v
 all_goals (
  have fx := aPt q1 q2
  refine gI ?_
  exact qT rfl)
theorem aBn (p : Bool) (a pre suf : List (Int × Int)) (x : Int × Int) (hm : a = pre ++ x :: suf) : cF 2 (.ro p (dK a)) (Nn pre.length) = some (.rp p (iD x) 0) := by
 have ha : (dK a)[pre.length]? = some (iD x) := by rw [hm]; simp [dK]
 unfold cF
 have h0 : (0 : Int) ≤ (pre.length : Int) := by omega
 simp only [h0, if_true, Int.toNat_natCast, ha]
 rfl
theorem qK (G : aG) (k : Nat) (self : dA) (p q : Bool) (a b : List (Int × Int)) (hla : a.length ≤ 1000000) (hab : a.length = b.length) : ∀ (sa sb pa pb : List (Int × Int)) (f : Nat), a = pa ++ sa → b = pb ++ sb → pa.length = pb.length → sa.length < f →
  ∃ o, gP (aS.l4 G (k + 1) 0 self) f [.ro p (dK a), .ro q (dK b), .bool false, Nn pa.length] [] = some o ∧ (sa = sb → o = (.exit 0, [.ro p (dK a), .ro q (dK b), .bool false, Nn a.length], [])) ∧ (sa ≠ sb → ∃ j, o = (.ret, [.ro p (dK a), .ro q (dK b), .bool false, Nn j], []))
 | sa, sb, pa, pb, 0, _, _, _, hf => by omega
 | [], sb, pa, pb, f + 1, hm, hm2, hp, hf => by
  rw [fD, aS.l4]
  have hl : a = pa := by rw [hm]; simp
  have hsb : sb = [] := by
   have e1 : b.length = pb.length + sb.length := by rw [hm2]; simp
   rw [hl] at hab
   exact List.length_eq_zero_iff.1 (by omega)
  have hc : iL 0 [.ro p (dK a), .ro q (dK b), .bool false, Nn pa.length] [] = some [] := by simp [iL, dE, cG, dS, kB]
  have lc : dH (.ro p (dK a)) = some (I6 a.length) := by simp [dH, iB]
  have qq : aQ Tryd.prog .lss 3 false (Nn pa.length) (Nn a.length) = some (.bool false) := by rw [kU, decide_eq_false (by rw [hl]; omega)]
  refine ⟨(.exit 0, [.ro p (dK a), .ro q (dK b), .bool false, Nn a.length], []), ?_, fun _ => rfl, fun h => absurd hsb.symm h⟩
  refine jQ ?_
  refine eC hc ?_
  have fx := aPt lc <| qq
  refine gI ?_
  rw [hl]
  refine gY ?_; rfl
 | x :: sa, [], pa, pb, f + 1, hm, hm2, hp, hf => by
  have e1 : a.length = pa.length + (sa.length + 1) := by rw [hm]; simp
  have e2 : b.length = pb.length := by rw [hm2]; simp
  omega
 | x :: sa, y :: sb, pa, pb, f + 1, hm, hm2, hp, hf => by
  have hl : a.length = pa.length + (sa.length + 1) := by rw [hm]; simp
  have hc : iL 0 [.ro p (dK a), .ro q (dK b), .bool false, Nn pa.length] [] = some [] := by simp [iL, dE, cG, dS, kB]
  have lc : dH (.ro p (dK a)) = some (I6 a.length) := by simp [dH, iB]
  have qq : aQ Tryd.prog .lss 3 false (Nn pa.length) (Nn a.length) = some (.bool true) := by rw [kU, decide_eq_true (by omega)]
  have d1 := aBn p a pa sa x hm
  have d1' := aBn q b pb sb y hm2
  rw [← hp] at d1'
  have d2 : ∀ c x H, aC G true 2 (.rp c (iD x) 0) H = some (iD x) := fun c x H => rfl
  have d4 : aQ Tryd.prog .add 3 true (Nn pa.length) (.int .i64 1) = some (Nn (pa ++ [x]).length) := by
   rw [kA, fP (by omega) (by omega)]; congr 2; simp
  have d5 : ∀ H, aE (bE.f G (k + 1)) [iD x, iD y] H = _ := fun H => aD (H := H) (yX G k x y) rfl rfl
  by_cases hxy : x = y
  ·subst hxy
   rw [decide_eq_true rfl] at d5
   obtain ⟨o, h1, h2, h3⟩ := qK G k self p q a b hla hab sa sb (pa ++ [x]) (pb ++ [x]) f (by rw [hm]; simp) (by rw [hm2]; simp) (by simp [hp]) (by simp at hf; omega)
   refine ⟨o, ?_, fun h => h2 (by simpa using h), fun h => h3 (by simpa using h)⟩
   rw [fD, aS.l4]
   refine jQ ?_
   refine eC hc ?_
   have fx := aPt lc <| aPt qq <| aPt d1 <| aPt d1' <| aPt d2 <| aPt d4 <| d5
   refine gI ?_
   exact h1
  ·rw [decide_eq_false hxy] at d5
   refine ⟨(.ret, [.ro p (dK a), .ro q (dK b), .bool false, Nn pa.length], []), ?_, fun h => absurd (by simpa using h : x = y ∧ sa = sb).1 hxy, fun _ => ⟨pa.length, rfl⟩⟩
   rw [fD, aS.l4]
   refine jQ ?_
   refine eC hc ?_
   have fx := aPt lc <| aPt qq <| aPt d1 <| aPt d1' <| aPt d2 <| aPt d4 <| d5
   refine gI ?_
   refine gY ?_; rfl
theorem yY (G : aG) (k : Nat) (p q : Bool) (a b : List (Int × Int)) (hla : a.length ≤ 1000000) (hk : a.length < k + 1) : aS.f G (k + 2) [.ro p (dK a), .ro q (dK b)] [] = some (.bool (decide (a = b)), []) := by
 rw [aS.step]
 unfold aS.c
 have lc : dH (.ro p (dK a)) = some (I6 a.length) := by simp [dH, iB]
 have lc2 : dH (.ro q (dK b)) = some (I6 b.length) := by simp [dH, iB]
 refine eO ?_
 by_cases hl : a.length = b.length
 ·have q1 : aQ Tryd.prog .neq 3 false (I6 a.length) (I6 b.length) = some (.bool false) := vG (by omega)
  obtain ⟨o, h1, h2, h3⟩ := qK G k (aS.f G (k + 1)) p q a b hla hl a b [] [] (k + 1) rfl rfl rfl hk
  have h1' : gP (aS.l4 G (k + 1) 0 (aS.f G (k + 1))) (k + 1) [.ro p (dK a), .ro q (dK b), .bool false, .int .i64 0] [] = some o := h1
  by_cases hab : a = b
  ·rw [decide_eq_true hab]
   rw [h2 hab] at h1'
   clear h1 h2 h3
   have fx := aPt lc <| aPt lc2 <| q1
   have lx1 := h1'
   refine gI ?_
   exact qT rfl
  ·rw [decide_eq_false hab]
   obtain ⟨j, hj⟩ := h3 hab
   rw [hj] at h1'
   clear h1 h2 h3
   have fx := aPt lc <| aPt lc2 <| q1
   have lx1 := h1'
   refine gI ?_
   exact qT rfl
 ·have q1 : aQ Tryd.prog .neq 3 false (I6 a.length) (I6 b.length) = some (.bool true) := sD (by omega)
  rw [decide_eq_false (fun h => hl (by rw [h]))]
  have fx := aPt lc <| aPt lc2 <| q1
  refine gI ?_
  exact qT rfl
abbrev GH : aG := aBC 180 [1, 0, 3, 2, 4]
theorem aNA : GOk GH := ⟨rfl, rfl, rfl, rfl, rfl⟩
theorem aGP (ws : List WI) (r m : Int) (mem more : List Nat) (hmm : ∀ x ∈ mem, x < 18446744073709551616) (hmo : ∀ x ∈ more, x < 18446744073709551616) : alembiclaw24_SelectHides.f GH 20001 [cV false ws r m, .ro false (bV mem), .ro false (bV more)] [] = some (.bool true, []) := by
 have hG := aNA
 have rf : ∀ H, aE (dI.f GH 20000) [] H = _ := fun H => aD (H := H) (aJM GH 19920) rfl rfl
 have pc := aCX ws r m
 have rl : ∀ H, aE (cC.f GH 20000) [cV false ws r m, .ro false (bV mem)] H = _ := fun H => aD (H := H) (aEK GH 19999 ws r m mem) (by simp [eE, pc, gO, bC]) rfl
 have ro_ : ∀ H, aE (bX.f GH 20000) [cV false ws r m] H = _ := fun H => aD (H := H) (aEP GH 19999 ws r m) (by simp [eE, pc]) (aHx ws r m)
 have b1 : ∀ H, dP (cV false ws r m) H = some (.rp false (cV false ws r m) 0, H) := fun H => rfl
 have d1 : ∀ H, aC GH true 3 (.rp false (cV false ws r m) 0) H = some (cV false ws r m) := fun H => rfl
 have d2 : aA 2 (.rp false (cV false ws r m) 0) = some (.rp false (cV false ws r m) 2) := rfl
 have d3 : ∀ H, aC GH false 1 (.rp false (cV false ws r m) 2) H = some (I6 m) := fun H => rfl
 have d4 : aA 1 (.rp false (cV false ws r m) 0) = some (.rp false (cV false ws r m) 1) := rfl
 have d5 : ∀ H, aC GH false 1 (.rp false (cV false ws r m) 1) H = some (I6 r) := fun H => rfl
 have lm : dH (.ro false (bV mem)) = some (I6 mem.length) := by simp [dH, bL]
 have lo : dH (.ro false (bV more)) = some (I6 more.length) := by simp [dH, bL]
 rw [alembiclaw24_SelectHides.step]
 unfold alembiclaw24_SelectHides.c
 refine eO ?_
 by_cases hl : ¬ tD ws.length r m mem.length
 ·rw [decide_eq_false hl] at rl
  generalize cV false ws r m = C at *
  generalize bV mem = NM at *
  generalize bV more = NO at *
  have fx := aPt rf <| aPt rl <| aPt b1 <| aPt d1 <| aPt d2 <| aPt d3 <| aPt d4 <| d5
  refine kN ?_
  exact qT rfl
 replace hl := Classical.not_not.1 hl
 rw [decide_eq_true hl] at rl
 unfold tD at hl
 by_cases hm1 : (mem.length : Int) ≠ m
 ·have q1 : aQ Tryd.prog .neq 3 false (I6 mem.length) (I6 m) = some (.bool true) := sD hm1
  generalize cV false ws r m = C at *
  generalize bV mem = NM at *
  generalize bV more = NO at *
  have fx := aPt rf <| aPt rl <| aPt b1 <| aPt d1 <| aPt d2 <| aPt d3 <| aPt d4 <| aPt d5 <| aPt lm <| aPt lo <| q1
  refine kN ?_
  exact qT rfl
 replace hm1 : (mem.length : Int) = m := Classical.not_not.1 hm1
 have q1 : aQ Tryd.prog .neq 3 false (I6 mem.length) (I6 m) = some (.bool false) := vG hm1
 by_cases hm2 : (more.length : Int) ≠ m
 ·have q2 : aQ Tryd.prog .neq 3 false (I6 more.length) (I6 m) = some (.bool true) := sD hm2
  generalize cV false ws r m = C at *
  generalize bV mem = NM at *
  generalize bV more = NO at *
  have fx := aPt rf <| aPt rl <| aPt b1 <| aPt d1 <| aPt d2 <| aPt d3 <| aPt d4 <| aPt d5 <| aPt lm <| aPt lo <| aPt q1 <| q2
  refine kN ?_
  exact qT rfl
 replace hm2 : (more.length : Int) = m := Classical.not_not.1 hm2
 have q2 : aQ Tryd.prog .neq 3 false (I6 more.length) (I6 m) = some (.bool false) := vG hm2
 by_cases hr : 28 < r
 ·have q3 : aQ Tryd.prog .gtr 3 true (I6 r) (.int .i64 28) = some (.bool true) := aCw (by omega)
  generalize cV false ws r m = C at *
  generalize bV mem = NM at *
  generalize bV more = NO at *
  have fx := aPt rf <| aPt rl <| aPt b1 <| aPt d1 <| aPt d2 <| aPt d3 <| aPt d4 <| aPt d5 <| aPt lm <| aPt lo <| aPt q1 <| aPt q2 <| q3
  refine kN ?_
  exact qT rfl
 have q3 : aQ Tryd.prog .gtr 3 true (I6 r) (.int .i64 28) = some (.bool false) := vE (by omega)
 by_cases hv : lH ws r m ≠ .ok
 ·have rv : ∀ H, aE (bH.f GH 20000) [cV false ws r m] H = _ := fun H => aD (H := H) (aDS GH 19997 ws r m (by omega) (by omega)) (by simp [eE, pc]) (aGO _)
  have rr : ∀ H, aE (cA.f GH 20000) [cV false ws r m] H = _ := fun H => aD (H := H) (aEr GH hG 19991 ws r m (by omega) (by omega) hv) (by simp [eE, pc]) (by simp [fS, iZ, aBE])
  obtain ⟨c, p, j, hft, hc⟩ : ∃ c p j, ftO (lH ws r m) = ftV c p j ∧ c ≠ 0 := by
   cases h : lH ws r m with
   | ok => exact absurd h hv
   | bare e => exact ⟨_, _, _, rfl, aFE e⟩
   | at_ j e => exact ⟨_, _, _, rfl, aFE e⟩
  rw [hft] at rv
  have fv : aCf false 1 0 (ftV c p j) = some (I6 c) := rfl
  have q4 := aFU hv
  have q5 : aQ Tryd.prog .neq 3 true (I6 c) (.int .i64 0) = some (.bool true) := sD hc
  clear hft hv
  generalize veV (lH ws r m) = V at *
  generalize ftV c p j = Fv at *
  generalize cV false ws r m = C at *
  generalize bV mem = NM at *
  generalize bV more = NO at *
  have fx := aPt rf <| aPt rl <| aPt b1 <| aPt d1 <| aPt d2 <| aPt d3 <| aPt d4 <| aPt d5 <| aPt lm <| aPt lo <| aPt q1 <| aPt q2 <| aPt q3 <| aPt rr <| aPt q4 <| aPt ro_ <| aPt rv <| aPt fv <| q5
  refine kN ?_
  exact qT rfl
 replace hv := Classical.not_not.1 hv
 have hvok := wU hv
 obtain ⟨R, rfl⟩ : ∃ R : Nat, r = R := ⟨r.toNat, by omega⟩
 have hR : R ≤ 28 := by omega
 have hgood := xX hv
 rw [Int.toNat_natCast] at hgood
 have plW : eE (iP (oU ws)) = true := mQ _ (fun _ => rfl) _
 have clW : iZ (iP (oU ws)) = true := nX _ (fun _ => rfl) _
 have rr : ∀ H, aE (cA.f GH 20000) [cV false ws R m] H = _ := fun H => aD (H := H) (aCR GH hG 19988 ws R m (by omega) (by decide) hv (by omega)) (by simp [eE, pc]) (by simp [fS, iZ, clW])
 have q4 : aQ Tryd.prog .neq 30 true .nili .nili = some (.bool false) := by kernel_rfl
 have hlen : (oU ws).length ≤ 540 := by
  have := rS ws.length ws
  unfold oU; rw [List.length_map, aDH]; omega
 have hcs : ∀ w ∈ oU ws, 0 ≤ w ∧ w < 4294967296 := by
  intro w hw
  obtain ⟨i, hi, rfl⟩ := List.mem_map.1 hw
  have hri := tE hR hgood (by omega) i hi
  exact ⟨(rM hri).1, (rM hri).2.1⟩
 have hok2 : ∀ j, j < ws.length → (ws.getD j default).Ok2 R ws.length := fun j hj => by
  refine (hgood _ ?_).ok2
  rw [List.getD_eq_getElem?_getD, List.getElem?_eq_getElem hj]; exact List.getElem_mem hj
 have each : ∀ M : List Nat, (∀ x ∈ M, x < 18446744073709551616) → (M.length : Int) = m → ∃ (s : MS) (Q : QS), (∀ H, aE (bN.f GH 20000) [cV false ws R m, .nils, .ro false (bV M), .int .i64 300] H = some (qI s (-1), H)) ∧ (∀ H, aE (aX.f GH 20000) [.ro false (iP (oU ws)), .ro false (bV M), .int .i64 4864] H = some (aDe Q, H)) ∧ Q.regs.length = 31 ∧ Q.leaks.length ≤ 14592 ∧ s.leaks.length ≤ 900 ∧ (s.code ≠ 4 → Q.leaks = mlk ws 0 s.leaks) := by
  intro M hM hMm
  obtain ⟨s, hs⟩ := aBz ws 300 19999 (s0 R M) (by simp [s0]) (by simp [s0])
  obtain ⟨Q, hQ⟩ := aBA (oU ws) 4864 19999 (q0 3 M) (by simp [q0]) (by simp [q0])
  have oq := (aGq (oU ws) 4864 (by decide) _ _ _ hQ (aLt 3 M hM (by omega)) (by simp only [q0]; decide)).1
  have sq := aAr (oU ws) 4864 _ _ _ hQ (by simp only [q0]; decide)
  have os := (aGp ws 300 R (by decide) (fun j hj => (hok2 j hj).ok) _ _ _ hs (aJe R M hM (by omega)) (by simp [s0]) (by simp [s0]))
  refine ⟨s, Q, fun H => aD (H := H) (aHc GH 19996 300 false ws R m M false (by omega) hM (by omega) hMm.symm (by decide) (by decide) (by omega) hok2 (by omega) s hs) (by simp [eE, pc, bC, gO]) (aCF s (-1)), fun H => aD (H := H) (aBL (G := GH) (k := 19958) (bor := false) (cs := oU ws) (fuel := 4864) false M hM (by omega) (by decide) (by decide) (by omega) (by omega) hcs Q hQ) (by simp [eE, bC, plW, gO]) (aEy Q), oq.rg.len, by have := oq.leaks; omega, by have := os.1.leaks; have := os.2.1; omega, fun hc => ?_⟩
  obtain ⟨q', hq', _, _, e3⟩ := aKG (K := 19999) (f := 19999) hR hgood (by omega) (by decide) (by decide) (by decide) M (by omega) hM s hs hc (by decide) (fuel := 4864) (F := 300)
  rw [hQ] at hq'
  simp only [Option.some.injEq] at hq'
  subst hq'
  exact e3
 obtain ⟨s, Q, ra, rx, hQ31, hQl, hsl, hQm⟩ := each mem hmm hm1
 obtain ⟨t, U, rb, ry, hU31, hUl, htl, hUm⟩ := each more hmo hm2
 clear each
 obtain ⟨S, hS⟩ : ∃ S, S = qI s (-1) := ⟨_, rfl⟩
 obtain ⟨T, hT⟩ : ∃ T, T = qI t (-1) := ⟨_, rfl⟩
 rw [← hS] at ra
 rw [← hT] at rb
 have kS : ∀ o, mA false 1 (AV.cells S) o = mA false 1 (AV.cells (qI s (-1))) o := fun o => by rw [hS]
 have bx1 : fF 40 (.agg [.int .i64 0, .nils, .nils, .int .i64 0, .int .i64 0]) [] = some (.ptr 0 1 0 0, [⟨40, 5, [.agg [.int .i64 0, .nils, .nils, .int .i64 0, .int .i64 0]]⟩]) := rfl
 have sx1 : fB (aN 5 (.ptr 0 1 0 0) S [⟨40, 5, [.agg [.int .i64 0, .nils, .nils, .int .i64 0, .int .i64 0]]⟩]) = some (.tup [], [⟨40, 5, [S]⟩]) := by rw [hS]; rfl
 have bx2 : fF 40 (.agg [.int .i64 0, .nils, .nils, .int .i64 0, .int .i64 0]) [⟨40, 5, [S]⟩] = some (.ptr 1 1 0 0, [⟨40, 5, [S]⟩, ⟨40, 5, [.agg [.int .i64 0, .nils, .nils, .int .i64 0, .int .i64 0]]⟩]) := rfl
 have sx2 : fB (aN 5 (.ptr 1 1 0 0) T [⟨40, 5, [S]⟩, ⟨40, 5, [.agg [.int .i64 0, .nils, .nils, .int .i64 0, .int .i64 0]]⟩]) = some (.tup [], [⟨40, 5, [S]⟩, ⟨40, 5, [T]⟩]) := by rw [hT]; rfl
 have y0 : aC GH false 1 (.ptr 0 1 0 0) [⟨40, 5, [S]⟩, ⟨40, 5, [T]⟩] = some (I6 s.code) := by rw [hS]; rfl
 have y2 : aC GH false 1 (.ptr 0 1 0 2) [⟨40, 5, [S]⟩, ⟨40, 5, [T]⟩] = some (.ro false (dK s.leaks)) := by rw [hS]; rfl
 have u0 : aC GH false 1 (.ptr 1 1 0 0) [⟨40, 5, [S]⟩, ⟨40, 5, [T]⟩] = some (I6 t.code) := by rw [hT]; rfl
 have u2 : aC GH false 1 (.ptr 1 1 0 2) [⟨40, 5, [S]⟩, ⟨40, 5, [T]⟩] = some (.ro false (dK t.leaks)) := by rw [hT]; rfl
 have fa : aA 0 (.ptr 0 1 0 0) = some (.ptr 0 1 0 0) := rfl
 have fb : aA 0 (.ptr 1 1 0 0) = some (.ptr 1 1 0 0) := rfl
 have fc : aA 2 (.ptr 0 1 0 0) = some (.ptr 0 1 0 2) := rfl
 have fd : aA 2 (.ptr 1 1 0 0) = some (.ptr 1 1 0 2) := rfl
 have same : ∀ H, aE (aS.f GH 20000) [.ro false (dK s.leaks), .ro false (dK t.leaks)] H = _ := fun H => aD (H := H) (yY GH 19998 false false s.leaks t.leaks (by omega) (by omega)) (by simp [eE, bC, aGd]) rfl
 by_cases h4 : s.code = 4
 ·have q5 : aQ Tryd.prog .eql 3 true (I6 s.code) (.int .i64 4) = some (.bool true) := qE h4
  clear hS hT kS hgood hcs hok2 plW clW hlen hQm hUm h4 hvok hv hm1 hm2 hl
  generalize cV false ws R m = C at *
  generalize iP (oU ws) = W at *
  generalize bV mem = NM at *
  generalize bV more = NO at *
  have fx := aPt rf <| aPt rl <| aPt b1 <| aPt d1 <| aPt d2 <| aPt d3 <| aPt d4 <| aPt d5 <| aPt lm <| aPt lo <| aPt q1 <| aPt q2 <| aPt q3 <| aPt rr <| aPt q4 <| aPt ro_ <| aPt ra <| aPt rb <| aPt bx1 <| aPt bx2 <| aPt sx1 <| aPt sx2 <| aPt y0 <| aPt y2 <| aPt u0 <| aPt u2 <| aPt fa <| aPt fb <| aPt fc <| aPt fd <| q5
  refine kN ?_
  exact qT rfl
 have q5 : aQ Tryd.prog .eql 3 true (I6 s.code) (.int .i64 4) = some (.bool false) := pB h4
 by_cases h5 : t.code = 4
 ·have q6 : aQ Tryd.prog .eql 3 true (I6 t.code) (.int .i64 4) = some (.bool true) := qE h5
  clear hS hT kS hgood hcs hok2 plW clW hlen hQm hUm h4 hvok hv hm1 hm2 hl h5
  generalize cV false ws R m = C at *
  generalize iP (oU ws) = W at *
  generalize bV mem = NM at *
  generalize bV more = NO at *
  have fx := aPt rf <| aPt rl <| aPt b1 <| aPt d1 <| aPt d2 <| aPt d3 <| aPt d4 <| aPt d5 <| aPt lm <| aPt lo <| aPt q1 <| aPt q2 <| aPt q3 <| aPt rr <| aPt q4 <| aPt ro_ <| aPt ra <| aPt rb <| aPt bx1 <| aPt bx2 <| aPt sx1 <| aPt sx2 <| aPt y0 <| aPt y2 <| aPt u0 <| aPt u2 <| aPt fa <| aPt fb <| aPt fc <| aPt fd <| aPt q5 <| q6
  refine kN ?_
  exact qT rfl
 have q6 : aQ Tryd.prog .eql 3 true (I6 t.code) (.int .i64 4) = some (.bool false) := pB h5
 by_cases hst : s.leaks = t.leaks
 ·rw [decide_eq_true hst] at same
  have hQU : Q.leaks = U.leaks := by rw [hQm h4, hUm h5, hst]
  obtain ⟨L, hL⟩ : ∃ L, L = rsL (.ro false (bV Q.mem)) (.ro false (dK Q.leaks)) Q := ⟨_, rfl⟩
  have hLl := aGo (.ro false (bV Q.mem)) (.ro false (dK Q.leaks)) Q hQ31
  rw [← hL] at hLl
  rw [show aDe Q = .agg L by rw [hL]; rfl] at rx
  obtain ⟨N, hN⟩ : ∃ N, N = rsL (.ro false (bV U.mem)) (.ro false (dK U.leaks)) U := ⟨_, rfl⟩
  have hNl := aGo (.ro false (bV U.mem)) (.ro false (dK U.leaks)) U hU31
  rw [← hN] at hNl
  rw [show aDe U = .agg N by rw [hN]; rfl] at ry
  obtain ⟨Z, hZ, hZl⟩ : ∃ Z, Z = rsL .nils .nils (q0 0 []) ∧ Z.length = 35 := ⟨_, rfl, rfl⟩
  have zz : (AV.agg [.int .i64 0, .nils, .int .u64 0, .int .u64 0, .int .u64 0, .int .u64 0, .int .u64 0, .int .u64 0, .int .u64 0, .int .u64 0, .int .u64 0, .int .u64 0, .int .u64 0, .int .u64 0, .int .u64 0, .int .u64 0, .int .u64 0, .int .u64 0, .int .u64 0, .int .u64 0, .int .u64 0, .int .u64 0, .int .u64 0, .int .u64 0, .int .u64 0, .int .u64 0, .int .u64 0, .int .u64 0, .int .u64 0, .int .u64 0, .int .u64 0, .int .u64 0, .int .u64 0, .nils, .int .i64 0]) = .agg (rsL .nils .nils (q0 0 [])) := rfl
  have atL : ∀ (z : QS) (x : AV), z.regs.length = 31 → (rsL (.ro false (bV z.mem)) x z)[33]? = some x := fun z x hz => by
   unfold rsL
   have e : 33 = 31 + 0 + 1 + 1 := rfl
   rw [e, List.getElem?_cons_succ, List.getElem?_cons_succ, List.getElem?_append_right (by rw [bL]; omega), bL, hz]; rfl
  have z1 : L[33]? = some (.ro false (dK Q.leaks)) := by rw [hL]; exact atL Q _ hQ31
  have z2 : N[33]? = some (.ro false (dK U.leaks)) := by rw [hN]; exact atL U _ hU31
  have bx3 : fF 46 (.agg Z) [⟨40, 5, [S]⟩, ⟨40, 5, [T]⟩] = some (.ptr 2 1 0 0, [⟨40, 5, [S]⟩, ⟨40, 5, [T]⟩, ⟨46, 35, [.agg Z]⟩]) := by rw [hZ]; rfl
  have sx3 : fB (aN 35 (.ptr 2 1 0 0) (.agg L) [⟨40, 5, [S]⟩, ⟨40, 5, [T]⟩, ⟨46, 35, [.agg Z]⟩]) = some (.tup [], [⟨40, 5, [S]⟩, ⟨40, 5, [T]⟩, ⟨46, 35, [.agg L]⟩]) := aOo 46 2 [⟨40, 5, [S]⟩, ⟨40, 5, [T]⟩, ⟨46, 35, [.agg Z]⟩] Z L hZl hLl rfl
  have bx4 : fF 46 (.agg Z) [⟨40, 5, [S]⟩, ⟨40, 5, [T]⟩, ⟨46, 35, [.agg L]⟩] = some (.ptr 3 1 0 0, [⟨40, 5, [S]⟩, ⟨40, 5, [T]⟩, ⟨46, 35, [.agg L]⟩, ⟨46, 35, [.agg Z]⟩]) := by rw [hZ]; rfl
  have sx4 : fB (aN 35 (.ptr 3 1 0 0) (.agg N) [⟨40, 5, [S]⟩, ⟨40, 5, [T]⟩, ⟨46, 35, [.agg L]⟩, ⟨46, 35, [.agg Z]⟩]) = some (.tup [], [⟨40, 5, [S]⟩, ⟨40, 5, [T]⟩, ⟨46, 35, [.agg L]⟩, ⟨46, 35, [.agg N]⟩]) := aOo 46 3 [⟨40, 5, [S]⟩, ⟨40, 5, [T]⟩, ⟨46, 35, [.agg L]⟩, ⟨46, 35, [.agg Z]⟩] Z N hZl hNl rfl
  have v1 : aC GH false 1 (.ptr 2 1 0 33) [⟨40, 5, [S]⟩, ⟨40, 5, [T]⟩, ⟨46, 35, [.agg L]⟩, ⟨46, 35, [.agg N]⟩] = some (.ro false (dK Q.leaks)) := (show _ = L[33]? from rfl).trans z1
  have v2 : aC GH false 1 (.ptr 3 1 0 33) [⟨40, 5, [S]⟩, ⟨40, 5, [T]⟩, ⟨46, 35, [.agg L]⟩, ⟨46, 35, [.agg N]⟩] = some (.ro false (dK U.leaks)) := (show _ = N[33]? from rfl).trans z2
  have fe : aA 33 (.ptr 2 1 0 0) = some (.ptr 2 1 0 33) := rfl
  have ff : aA 33 (.ptr 3 1 0 0) = some (.ptr 3 1 0 33) := rfl
  have same2 : ∀ H, aE (aS.f GH 20000) [.ro false (dK Q.leaks), .ro false (dK U.leaks)] H = _ := fun H => aD (H := H) (by rw [← hQU]; exact wV GH 19998 false false Q.leaks (by omega) (by omega)) (by simp [eE, bC, aGd]) rfl
  rw [zz, ← hZ]
  clear hS hT kS hgood hcs hok2 plW clW hlen hQm hUm h4 hvok hv hm1 hm2 hl h5 hst hQU hL hLl hN hNl hZ hZl zz atL z1 z2 hQ31 hU31 hQl hUl hsl htl
  generalize cV false ws R m = C at *
  generalize iP (oU ws) = W at *
  generalize bV mem = NM at *
  generalize bV more = NO at *
  generalize dK Q.leaks = LQ at *
  generalize dK U.leaks = LU at *
  have fx := aPt rf <| aPt rl <| aPt b1 <| aPt d1 <| aPt d2 <| aPt d3 <| aPt d4 <| aPt d5 <| aPt lm <| aPt lo <| aPt q1 <| aPt q2 <| aPt q3 <| aPt rr <| aPt q4 <| aPt ro_ <| aPt ra <| aPt rb <| aPt bx1 <| aPt bx2 <| aPt sx1 <| aPt sx2 <| aPt y0 <| aPt y2 <| aPt u0 <| aPt u2 <| aPt fa <| aPt fb <| aPt fc <| aPt fd <| aPt q5 <| aPt q6 <| aPt same <| aPt rx <| aPt ry <| aPt bx3 <| aPt sx3 <| aPt bx4 <| aPt sx4 <| aPt v1 <| aPt v2 <| aPt fe <| aPt ff <| same2
  refine kN ?_
  exact qT rfl
 ·rw [decide_eq_false hst] at same
  clear hS hT kS hgood hcs hok2 plW clW hlen hQm hUm h4 hvok hv hm1 hm2 hl h5 hst hQ31 hU31 hQl hUl hsl htl
  generalize cV false ws R m = C at *
  generalize iP (oU ws) = W at *
  generalize bV mem = NM at *
  generalize bV more = NO at *
  have fx := aPt rf <| aPt rl <| aPt b1 <| aPt d1 <| aPt d2 <| aPt d3 <| aPt d4 <| aPt d5 <| aPt lm <| aPt lo <| aPt q1 <| aPt q2 <| aPt q3 <| aPt rr <| aPt q4 <| aPt ro_ <| aPt ra <| aPt rb <| aPt bx1 <| aPt bx2 <| aPt sx1 <| aPt sx2 <| aPt y0 <| aPt y2 <| aPt u0 <| aPt u2 <| aPt fa <| aPt fb <| aPt fc <| aPt fd <| aPt q5 <| aPt q6 <| same
  refine kN ?_
  exact qT rfl
theorem LSelectHides.law (xs : List AV) (h : IsTs Tryd.prog [24, 25, 25] xs) : ∃ k, alembiclaw24_SelectHides.f (aBC 180 [1, 0, 3, 2, 4]) k xs [] = some (.bool true, []) := by
 obtain ⟨x1, _, rfl, hx1, h⟩ := h.uncons
 obtain ⟨x2, _, rfl, hx2, h⟩ := h.uncons
 obtain ⟨x3, _, rfl, hx3, h⟩ := h.uncons
 obtain rfl := h.unnil
 obtain ⟨cs, R, M, rfl, hR, hM⟩ := aKc hx1
 obtain ⟨mem, rfl, hm⟩ := aDE Tryd.underlying25 Tryd.underlying43 hx2
 obtain ⟨more, rfl, hm2⟩ := aDE Tryd.underlying25 Tryd.underlying43 hx3
 exact ⟨20001, aGP cs R M mem more hm hm2⟩
end Go.Proofs.YtdfglgnflldkpaaDoor
namespace Go.Proofs.YtdfglgnflldkpaaDoor
open Go Go.ChangeShapes Go.WideShapes Go.RowKit Mir
set_option linter.unusedVariables false
set_option linter.unusedSimpArgs false
namespace RSelectHides
noncomputable def aBm (os : Os) : World :=
 let w0 := World.holding Tryd.prog os ⟨#[.cells #[.string ⟨#[97, 32, 110, 117, 109, 98, 101, 114, 32, 111, 117, 116, 32, 111, 102, 32, 105, 116, 115, 32, 114, 97, 110, 103, 101]⟩] 197, .cells #[.string ⟨#[116, 111, 111, 32, 109, 97, 110, 121]⟩] 197, .cells #[.string ⟨#[110, 111, 116, 32, 97, 115, 32, 105, 116, 32, 104, 97, 115, 32, 116, 111, 32, 98, 101]⟩] 197, .cells #[.string ⟨#[110, 111, 32, 115, 117, 99, 104, 32, 116, 104, 105, 110, 103, 32, 116, 111, 32, 100, 111]⟩] 197, .cells #[.string ⟨#[110, 111, 32, 115, 117, 99, 104, 32, 112, 108, 97, 99, 101]⟩] 197], #[], []⟩
 {w0 with heap := w0.heap
  |>.modify 1 (fun
   | .cells _ t frozen => .cells #[.iface 180 (.pointer (some ⟨Rk.low, 0, none⟩))] t frozen
   | o => o)
  |>.modify 0 (fun
   | .cells _ t frozen => .cells #[.iface 180 (.pointer (some ⟨Rk.low + 1, 0, none⟩))] t frozen
   | o => o)
  |>.modify 3 (fun
   | .cells _ t frozen => .cells #[.iface 180 (.pointer (some ⟨Rk.low + 2, 0, none⟩))] t frozen
   | o => o)
  |>.modify 2 (fun
   | .cells _ t frozen => .cells #[.iface 180 (.pointer (some ⟨Rk.low + 3, 0, none⟩))] t frozen
   | o => o)
  |>.modify 4 (fun
   | .cells _ t frozen => .cells #[.iface 180 (.pointer (some ⟨Rk.low + 4, 0, none⟩))] t frozen
   | o => o) }
theorem aAP (os : Os) (args : Array Value) : laidMetH Tryd.prog ([("alembic/api.ErrRange", Rows.laid_alembic_api_ErrRange), ("alembic/api.ErrMany", Rows.laid_alembic_api_ErrMany), ("alembic/api.ErrShape", Rows.laid_alembic_api_ErrShape), ("alembic/api.ErrOp", Rows.laid_alembic_api_ErrOp), ("alembic/api.ErrLabel", Rows.laid_alembic_api_ErrLabel)] : List (String × DataW Unit)) ((aBm os).forCall (fun _ _ => 0) ⟨#[], args, []⟩).memory :=
 laidMet_of_run (ps := [.cell 1 0, .cell (Rk.low) 0, .cell 0 0, .cell (Rk.low + 1) 0, .cell 3 0, .cell (Rk.low + 2) 0, .cell 2 0, .cell (Rk.low + 3) 0, .cell 4 0, .cell (Rk.low + 4) 0]) 8 (by kernel_rfl) (by kernel_rfl) (by kernel_rfl)
theorem aOl : aFt Tryd.prog 30 [("alembic/api.ErrRange", Rows.laid_alembic_api_ErrRange), ("alembic/api.ErrMany", Rows.laid_alembic_api_ErrMany), ("alembic/api.ErrShape", Rows.laid_alembic_api_ErrShape), ("alembic/api.ErrOp", Rows.laid_alembic_api_ErrOp), ("alembic/api.ErrLabel", Rows.laid_alembic_api_ErrLabel)] [1, 0, 3, 2, 4] := ⟨by kernel_rfl, by kernel_rfl, ⟨_, rfl⟩, by kernel_rfl, by kernel_rfl, ⟨_, rfl⟩, by kernel_rfl, by kernel_rfl, ⟨_, rfl⟩, by kernel_rfl, by kernel_rfl, ⟨_, rfl⟩, by kernel_rfl, by kernel_rfl, ⟨_, rfl⟩, trivial⟩
theorem sent {W : World} (h : laidMetH Tryd.prog ([("alembic/api.ErrRange", Rows.laid_alembic_api_ErrRange), ("alembic/api.ErrMany", Rows.laid_alembic_api_ErrMany), ("alembic/api.ErrShape", Rows.laid_alembic_api_ErrShape), ("alembic/api.ErrOp", Rows.laid_alembic_api_ErrOp), ("alembic/api.ErrLabel", Rows.laid_alembic_api_ErrLabel)] : List (String × DataW Unit)) W) : ∃ S, SentS W 180 [1, 0, 3, 2, 4] S :=
 aCB Tryd.underlying30 Rk.row Tryd.underlying180 Tryd.underlying197 rfl rfl Tryd.underlying9 (by kernel_rfl) (by kernel_rfl) aOl (by decide) h
theorem aKh : ∀ t ∈ ([24, 22, 60, 3, 2, 25, 43] : List Nat), aAh Tryd.prog [24, 22, 60, 3, 2, 25, 43] t = true := List.all_eq_true.1 (by kernel_rfl)
set_option maxRecDepth 100000 in
theorem aMp (os : Os) (started : os.Started) (H : Type) (enc : TypeId × Value → H) :
  ReturnsInHanded {} Tryd.checked os 3 .any (fun w args => (Rows.selectHidesSpec.pre enc Tryd.prog Tryd.f3 [] false w args ∧ laidMetH Tryd.prog ([("alembic/api.ErrRange", Rows.laid_alembic_api_ErrRange), ("alembic/api.ErrMany", Rows.laid_alembic_api_ErrMany), ("alembic/api.ErrShape", Rows.laid_alembic_api_ErrShape), ("alembic/api.ErrOp", Rows.laid_alembic_api_ErrOp), ("alembic/api.ErrLabel", Rows.laid_alembic_api_ErrLabel)] : List (String × DataW Unit)) w) ∧ sizedMet enc Tryd.prog Tryd.f3 (OpenSpec.ofChange Rows.selectHidesSpec) false w args)
   (Rows.selectHidesSpec.post enc Tryd.prog Tryd.f3 false true false false) := by
 refine returnsInHanded_of_change_and (C := Tryd.checked) (X := fun w _ => laidMetH Tryd.prog ([("alembic/api.ErrRange", Rows.laid_alembic_api_ErrRange), ("alembic/api.ErrMany", Rows.laid_alembic_api_ErrMany), ("alembic/api.ErrShape", Rows.laid_alembic_api_ErrShape), ("alembic/api.ErrOp", Rows.laid_alembic_api_ErrOp), ("alembic/api.ErrLabel", Rows.laid_alembic_api_ErrLabel)] : List (String × DataW Unit)) w) (fun _ _ _ hh h => h.of_heap hh) Rk.own started (by kernel_rfl) Tryd.func3
  (ChangeSpec.witness_at (enc := enc) (C := Tryd.checked) (os := os) (X := fun w _ => laidMetH Tryd.prog ([("alembic/api.ErrRange", Rows.laid_alembic_api_ErrRange), ("alembic/api.ErrMany", Rows.laid_alembic_api_ErrMany), ("alembic/api.ErrShape", Rows.laid_alembic_api_ErrShape), ("alembic/api.ErrOp", Rows.laid_alembic_api_ErrOp), ("alembic/api.ErrLabel", Rows.laid_alembic_api_ErrLabel)] : List (String × DataW Unit)) w) false (aBm os) #[.agg #[.slice none 0 0, .int .i64 0, .int .i64 0], .slice none 0 0, .slice none 0 0] 8 rfl (by kernel_rfl) (by kernel_rfl) (by kernel_rfl) (by kernel_rfl) (by kernel_rfl) (aAP os _)) ?_
 intro W base args ds gs before hval0 hW _ _ hL _
 obtain ⟨S, hS⟩ := sent hL
 have hval : ∀ (j : Nat) t v, Tryd.f3.params.toList[j]? = some t → args.toList[j]? = some v → Value.okWide Tryd.prog W .any base t v := fun j t v h1 h2 => hval0 j t v (by simpa using h1) (by simpa using h2)
 have hW' := hW
 obtain ⟨p, q, hA, _, _, _, _⟩ := hW
 have hpar : Tryd.f3.params.toList = [24, 25, 25] := by rw [Tryd.params3]
 rw [hpar] at hval
 replace hA : DataW.TrodAll enc Tryd.prog W 0 (fun _ => true) true Tryd.f3.params.toList args.toList ds p := hA
 rw [hpar] at hA
 obtain ⟨xs, h1, h2⟩ := aBv aKh (by decide) hval hA
 obtain ⟨k, hk⟩ := LSelectHides.law xs h1
 have hc := aGG (Mir.alembiclaw24_SelectHides.sound (aEa _ _) k) hk (aHE hS) h2
 rw [Array.toArray_toList] at hc
 refine hc.mono fun e W' ⟨he, hb⟩ => ⟨_, he, ?_⟩
 exact aIf rfl hpar (by kernel_rfl) Tryd.underlying4 (fun ds hd => by
  obtain ⟨d0, d1, d2, rfl⟩ : ∃ d0 d1 d2, ds = [d0, d1, d2] := by
   match ds, hd with
   | [d0, d1, d2], _ => exact ⟨d0, d1, d2, rfl⟩
  rfl) Rk.laidOut (by kernel_rfl) hW' hb
theorem holds : Rows.SelectHidesSaid :=
 OpenClaim.holds_of_wide 3 Tryd.f3 rfl rfl rfl rfl rfl rfl rfl ⟨rfl, rfl, rfl, rfl, rfl⟩ rfl rfl rfl rfl rfl (by kernel_rfl) Tryd.func3 (by kernel_rfl)
  (of_decide_eq_true (by kernel_rfl)) (by unfold Func.isWrapper; first | (rw [if_pos (by decide +kernel)]; kernel_rfl) | (rw [if_neg (by decide +kernel)]; exact ⟨rfl, rfl⟩))
  (fun os started H enc _ => aMp os started H enc)
theorem cardHolds : Rows.SelectHidesCardSaid :=
 Claim7.holds_tied_plain_at .later [] [.sentinel, .sentinel, .sentinel, .sentinel, .sentinel] true (true, "92292b04e853d01d8cf3885d4f753a51952eaef99bf2156408a64e96f17010d7") true
  holds (fun _ h => by cases h) (by kernel_rfl) (fun _ h => by cases h) selectHides_row_tie rfl ⟨rfl, rfl⟩ (by kernel_rfl) rfl
  (fun f fn hf hfn => by
   obtain rfl : f = 3 := Option.some.inj ((show Tryd.prog.funcNamed "alembic/alembiclaw24.SelectHides" = some 3 by kernel_rfl).symm.trans hf) |>.symm
   obtain rfl : fn = Tryd.f3 := (Option.some.inj (Tryd.func3.symm.trans hfn)).symm
   exact ⟨by kernel_rfl, fun j t ht => by
    have hm : t ∈ ([24, 25, 25] : List Nat) := by
     have := List.mem_of_getElem? (l := Tryd.f3.params.toList) (i := j) (by simpa using ht)
     rw [Tryd.params3] at this
     exact this
    have := List.all_eq_true.1 (show ([24, 25, 25] : List Nat).all (fun t => !Tryd.prog.wantsStandIn t) = true by kernel_rfl) t hm
    exact (by simpa using this : Tryd.prog.wantsStandIn t = false)⟩)
  (by kernel_rfl)
end RSelectHides
end Go.Proofs.YtdfglgnflldkpaaDoor
