/- Part 8 of the proof: what these functions do. -/
import Derived.Test.YtcmblhedhgiofaaDoorZz7
namespace Go.Proofs.YtcmblhedhgiofaaDoor.Mir
open Go
set_option linter.unusedSimpArgs false
set_option linter.unusedVariables false
set_option maxHeartbeats 8000000
set_option maxRecDepth 20000
theorem xL (cs : List Ins) (fuel : Int) : ∀ (f : Nat) (s : MS), (s.steps : Int) ≤ fuel → fuel - s.steps < f → ∃ s', aBt cs fuel f s = some s'
 | 0, s, h, h2 => by omega
 | f + 1, s, h, h2 => by
  simp only [aBt]
  by_cases h1 : cs.length ≤ s.at_
  ·rw [if_pos h1]; exact ⟨_, rfl⟩
  rw [if_neg h1]
  by_cases h3 : (s.steps : Int) = fuel
  ·rw [if_pos h3]; exact ⟨_, rfl⟩
  rw [if_neg h3]
  have e : ∀ i, (s.tick.step i).1.steps = s.steps + 1 := fun i => by
   unfold MS.step MS.touch MS.branch
   simp only
   repeat' split
   all_goals rfl
  have e' := e (cs.getD s.at_ default)
  obtain ⟨s2, b, hsb⟩ : ∃ s2 b, s.tick.step (cs.getD s.at_ default) = (s2, b) := ⟨_, _, rfl⟩
  rw [hsb] at e' ⊢
  cases b
  ·exact ⟨_, rfl⟩
  ·exact xL cs fuel f s2 (by simp only at e'; omega) (by simp only at e'; omega)
def s0 (R : Nat) (mem : List Nat) : MS := ⟨List.replicate R 0, 0, 0, mem, [], 0⟩
theorem aEk (R : Nat) (mem : List Nat) (hm : ∀ x ∈ mem, x < 18446744073709551616) (hl : mem.length ≤ 1000000) : (s0 R mem).Ok R :=
 ⟨by simp [s0], fun x hx => by simp [s0] at hx; omega, hm, by simp [s0], hl, by simp [s0]⟩
theorem tI (l : List Nat) : jN 1 (dE l) = true := lQ 1 _ (fun _ => rfl) l
theorem tH (l : List (Int × Int)) : jN 2 (bD l) = true := lQ 2 _ (fun _ => rfl) l
theorem aBE (l : List Ins) : jN 6 (dB l) = true := lQ 6 _ (fun _ => rfl) l
theorem aDJ (l : List Nat) : fQ (dE l) = true := kK _ (fun _ => rfl) l
theorem aCf (l : List (Int × Int)) : fQ (bD l) = true := kK _ (fun _ => rfl) l
theorem rV (l : List Ins) : fQ (dB l) = true := kK _ (fun _ => rfl) l
def aBa (s : MS) : AV := .agg [I6 s.code, .ro false (dE s.mem), .ro false (bD s.leaks), Nn s.steps]
def gQ (bor : Bool) (cs : List Ins) (R M : Int) : AV := .agg [.ro bor (dB cs), I6 R, I6 M]
def hpC (p0 : ABlk) (bor : Bool) (cs : List Ins) (R : Nat) (M : Int) : aB :=
 [p0, ⟨40, 4, [.agg [.int .i64 0, .nils, .nils, .int .i64 0]]⟩, ⟨48, 1, dE (List.replicate R 0)⟩,
  ⟨126, 9, [.agg [.ro bor (dB cs), I6 R, I6 M, .sl 2 R 0 R 1, .int .i64 0, .int .i64 0, .nils, .nils, .int .i64 0]]⟩]
theorem uG (G : aE) (k : Nat) (H : aB) (hH : kR H H = true) (bm : Bool) (mem : List Nat) (hl : mem.length ≤ 1000000) :
  aP.f G (k + 1) [.ro bm (dE mem)] H = some (.sl (H.length + 1) mem.length 0 mem.length 1, H ++ [⟨48, 1, []⟩, ⟨48, 1, dE mem⟩]) := by
 rw [aP.step]
 unfold aP.c
 have e1 : aW 48 1 0 (.int .u64 0) [] (H ++ [⟨48, 1, []⟩]) = some (.sl (H.length + 1) 0 0 0 1, H ++ [⟨48, 1, []⟩, ⟨48, 1, []⟩]) := by
  simp [aW, cH]
 have e2 : eY 48 1 (.sl (H.length + 1) 0 0 0 1) (.ro bm (dE mem)) (H ++ [⟨48, 1, []⟩, ⟨48, 1, []⟩]) = some (.sl (H.length + 1) mem.length 0 mem.length 1, H ++ [⟨48, 1, []⟩, ⟨48, 1, dE mem⟩]) := by
  have g : (H ++ [⟨48, 1, []⟩, ⟨48, 1, []⟩] : aB)[H.length + 1]? = some ⟨48, 1, []⟩ := by
   rw [List.getElem?_append_right (by omega)]; simp
  unfold eY
  simp only [g, gE, tI, fU, List.length_nil, List.take_nil, List.nil_append, List.drop_nil, List.append_nil, Nat.zero_add]
  rw [if_pos (by refine ⟨?_, ?_, ?_, ?_, ?_⟩ <;> first | trivial | omega)]
  simp [List.set_append_right]
 refine gZ ?_
 cases mem with
 | nil =>
  have q : bE Tryd.prog .eql 25 true (.ro bm (dE [])) .nils = some .anyb := by kernel_rfl
  have fx := q
  refine jC ?_
  have hh : kR (H ++ [⟨48, 1, []⟩, ⟨48, 1, []⟩]) (H ++ [⟨48, 1, []⟩, ⟨48, 1, []⟩]) = true := uK hH (by simp [kR, jE])
  have e3 : (H ++ [⟨48, 1, []⟩] ++ [⟨48, 1, []⟩] : aB) = H ++ [⟨48, 1, []⟩, ⟨48, 1, []⟩] := by simp
  have e4 : (H ++ [⟨48, 1, []⟩] : aB).length = H.length + 1 := by simp
  have e5 : eY 48 1 (.sl (H.length + 1) 0 0 0 1) (.ro bm (dE [])) (H ++ [⟨48, 1, []⟩, ⟨48, 1, []⟩]) = some (.sl (H.length + 1) 0 0 0 1, H ++ [⟨48, 1, []⟩, ⟨48, 1, []⟩]) := e2
  rw [e3, e4]
  refine aGl (e := .ret) (xs := [.sl (H.length + 1) 0 0 0 1]) rfl ?_ (by simp [jE, iS]) hh rfl
  refine iV ?_
  have fx := aHv e1 <| e5
  refine jC ?_
  rfl
 | cons a l =>
  have q : bE Tryd.prog .eql 25 true (.ro bm (dE (a :: l))) .nils = some (.bool false) := by kernel_rfl
  have fx := aHv q <| aHv e1 <| e2
  refine jC ?_
  rfl
theorem eqU (l : List Nat) : jE (dE l) (dE l) = true := qF _ (fun _ => by simp [iS]) l
theorem eqC (l : List Ins) : jE (dB l) (dB l) = true := qF _ (fun _ => by simp [Ins.v, gO, iS, jE]) l
theorem uR {p0 : ABlk} (hq : jE p0.elems p0.elems = true) (bor : Bool) (cs : List Ins) (R : Nat) (M : Int) : kR (hpC p0 bor cs R M) (hpC p0 bor cs R M) = true := by
 simp [hpC, kR, jE, iS, hq, eqU, eqC]
theorem vZ (G : aE) (k : Nat) (p0 : ABlk) (hp : bS 1 p0.elems = true) (hq : jE p0.elems p0.elems = true) (bor bm : Bool) (cs : List Ins) (R : Nat) (M : Int) (fuel : Int) (mem : List Nat)
  (hR : R ≤ 1000000) (hm : ∀ x ∈ mem, x < 18446744073709551616) (hml : mem.length ≤ 1000000) (h0 : 0 ≤ fuel) (hf : fuel ≤ 99999) (hk : fuel < k + 4) (hcl : cs.length ≤ 100000) (hcs : ∀ j, j < cs.length → (cs.getD j default).Ok R cs.length) :
  ∃ s', aBt cs fuel (k + 4) (s0 R mem) = some s' ∧ bL.f G (k + 5) [gQ bor cs R M, .ro bm (dE mem), I6 fuel, .nilf] [p0] = some (aBa s', [p0]) := by
 obtain ⟨s', hs⟩ := xL cs fuel (k + 4) (s0 R mem) (by simp only [s0]; omega) (by simp only [s0]; omega)
 refine ⟨s', hs, ?_⟩
 rw [bL.step]
 unfold bL.c
 have hp7 : bS 7 p0.elems = true := iQ (by omega) hp
 have loop := kP G p0 hp7 bor false cs R M fuel (bL.f G (k + 4)) k hf hcl hcs (k + 4) (s0 R mem) s' hs (aEk R mem hm hml) (by simp [s0]) (by simp only [s0]; omega)
 have c5 : fC 48 1 (.int .u64 0) (I6 R) (I6 R) [p0, ⟨40, 4, [.agg [.int .i64 0, .nils, .nils, .int .i64 0]]⟩] = some (.sl 2 R 0 R 1, [p0, ⟨40, 4, [.agg [.int .i64 0, .nils, .nils, .int .i64 0]]⟩, ⟨48, 1, dE (List.replicate R 0)⟩]) := by
  unfold fC
  have : (0 : Int) ≤ R ∧ (R : Int) ≤ R ∧ (R : Int) ≤ 1099511627776 := by omega
  simp only [this, and_self, if_true, Int.toNat_natCast, dE, List.map_replicate]
  rfl
 have c8 := jR (uG G (k + 3) (hpC p0 bor cs R M) (uR hq bor cs R M) bm mem hml) (by simp)
 have e8 : (hpC p0 bor cs R M).length + 1 = 5 := rfl
 rw [e8] at c8
 refine gZ ?_
 unfold gQ
 have e9 : (hpC p0 bor cs R M ++ [⟨48, 1, []⟩, ⟨48, 1, dE mem⟩] : aB) = [p0, ⟨40, 4, [.agg [.int .i64 0, .nils, .nils, .int .i64 0]]⟩, ⟨48, 1, dE (List.replicate R 0)⟩,
  ⟨126, 9, [.agg [.ro bor (dB cs), I6 R, I6 M, .sl 2 R 0 R 1, .int .i64 0, .int .i64 0, .nils, .nils, .int .i64 0]]⟩, ⟨48, 1, []⟩, ⟨48, 1, dE mem⟩] := rfl
 rw [e9] at c8
 unfold hpC at c8
 have fx := aHv c5 <| c8
 refine jC ?_
 refine eV1 (H1 := fM p0 bor cs R M (s0 R mem)) (by simp only [fM, s0, List.length_replicate]; rfl) ?_
 have e7 : (fM p0 bor cs (R : Int) M (s0 R mem)).length = 7 := rfl
 have hl : aC G true 4 (.ptr 1 1 0 0) (qK p0 bor cs R M s') = some (vL s') := rfl
 have fin : fT [aC G true 4 (.ptr 1 1 0 0) (qK p0 bor cs R M s')] 1 (qK p0 bor cs R M s') = some (.ret, [aBa s'], [p0]) := by
  have f1 := uO (H := qK p0 bor cs R M s') (b := 5) (n0 := 1) (d := 4) (ty := 48) rfl (by omega) (fU s'.mem) (tI _) (jT 1 _)
  have f2 := uO (H := qK p0 bor cs R M s') (b := 6) (n0 := 1) (d := 4) (ty := 96) rfl (by omega) (dL s'.leaks) (tH _) (fN 1 _)
  have f3 : rO (qK p0 bor cs R M s') 1 6 (vL s') = some (aBa s') :=
   aBT (by simp [bS, bX]) (gV (kD rfl 5) (gV f1 (gV f2 (gV (kD rfl 5) uW))))
  unfold fT
  rw [hl]
  simp only [bH]
  exact yL f3 (by show dX 1 [p0] = true; simp [dX, hp])
 simp only [xsM] at loop
 have e1 : ([p0] : aB).length = 1 := rfl
 simp only [e1]
 refine yG ?_
 rw [e7]
 refine eK ?_
 refine eL loop ?_
 have fx := hl
 refine jC ?_
 exact oF fin
def inS (p : Int × Int) (n : Int) : Prop := p.1 ≤ n ∧ n ≤ p.2
def oG (p q : Int × Int) : Option (Int × Int) := if p.1 ≤ p.2 ∧ q.1 ≤ q.2 ∧ Rg (p.1 + q.1) ∧ Rg (p.2 + q.2) then some (p.1 + q.1, p.2 + q.2) else none
def oV (p q : Int × Int) : Option (Int × Int) := if p.1 ≤ p.2 ∧ q.1 ≤ q.2 ∧ Rg (p.1 - q.2) ∧ Rg (p.2 - q.1) then some (p.1 - q.2, p.2 - q.1) else none
def oS (p q : Int × Int) : Option (Int × Int) :=
 if p.1 ≤ p.2 ∧ q.1 ≤ q.2 ∧ Rg (p.1 * q.1) ∧ Rg (p.1 * q.2) ∧ Rg (p.2 * q.1) ∧ Rg (p.2 * q.2) then some (min (p.1 * q.1) (min (p.1 * q.2) (min (p.2 * q.1) (p.2 * q.2))), max (p.1 * q.1) (max (p.1 * q.2) (max (p.2 * q.1) (p.2 * q.2)))) else none
def oU (p : Int × Int) (k : Int) : Option (Int × Int) :=
 if k < 0 ∨ 62 < k then none else if p.1 ≤ p.2 ∧ Rg (p.1 * 2 ^ k.toNat) ∧ Rg (p.2 * 2 ^ k.toNat) then some (p.1 * 2 ^ k.toNat, p.2 * 2 ^ k.toNat) else none
def vN (p : Int × Int) (k : Int) : Int × Int := if p.2 < p.1 ∨ k < 0 ∨ 63 < k then (0, 0) else (p.1.fdiv (2 ^ k.toNat), p.2.fdiv (2 ^ k.toNat))
def uB (p q : Int × Int) : Int × Int :=
 if p.1 ≤ p.2 ∧ q.1 ≤ q.2 then (if 0 ≤ p.1 ∧ 0 ≤ q.1 then (0, min p.2 q.2) else if 0 ≤ p.1 then (0, p.2) else if 0 ≤ q.1 then (0, q.2) else (-9223372036854775808, 9223372036854775807)) else (0, 0)
def nH (p q : Int × Int) : Int × Int := if p.1 ≤ p.2 ∧ q.1 ≤ q.2 then (min p.1 q.1, max p.2 q.2) else (0, 0)
def dG (op k : Int) (p q r : Int × Int) : Option (Int × Int) :=
 if op = 1 then some (k, k)
 else if op = 2 then some p
 else if op = 3 then oG p q
 else if op = 4 then oV p q
 else if op = 5 then oS p q
 else if op = 10 then oU p k
 else if op = 12 then some (vN p k)
 else if op = 7 then some (uB p q)
 else if op = 13 then some (0, 1)
 else if op = 14 then some (nH q r)
 else some (-9223372036854775808, 9223372036854775807)
theorem aEm (n : Nat) (h : n < 18446744073709551616) : Rg (fF n) := by unfold fF; split <;> (constructor <;> omega)
theorem aAC (x : Nat) (h : x < 18446744073709551616) : fF x % 18446744073709551616 = (x : Int) := by unfold fF; split <;> omega
theorem yX {n : Nat} {v : Int} (h : (n : Int) % 18446744073709551616 = v % 18446744073709551616) (hv : Rg v) : fF (n % 18446744073709551616) = v := by
 have := hv.1
 have := hv.2
 unfold fF; split <;> omega
theorem aEl {k : Int} (h : Rg k) : fF (u64 k) = k := by
 have := h.1
 have := h.2
 unfold u64 fF; split <;> omega
theorem aFJ {a b x : Int} (h1 : a ≤ x) (h2 : x ≤ b) (y : Int) : min (a * y) (b * y) ≤ x * y ∧ x * y ≤ max (a * y) (b * y) := by
 by_cases hy : 0 ≤ y
 ·have e1 := Int.mul_le_mul_of_nonneg_right h1 hy
  have e2 := Int.mul_le_mul_of_nonneg_right h2 hy
  omega
 ·have e1 := Int.mul_le_mul_of_nonpos_right h1 (show y ≤ 0 by omega)
  have e2 := Int.mul_le_mul_of_nonpos_right h2 (show y ≤ 0 by omega)
  omega
theorem aGt {a b x c d y : Int} (h1 : a ≤ x) (h2 : x ≤ b) (h3 : c ≤ y) (h4 : y ≤ d) : min (a * c) (min (a * d) (min (b * c) (b * d))) ≤ x * y ∧ x * y ≤ max (a * c) (max (a * d) (max (b * c) (b * d))) := by
 have e := aFJ h1 h2 y
 have ea := aFJ h3 h4 a
 have eb := aFJ h3 h4 b
 rw [Int.mul_comm c a, Int.mul_comm d a, Int.mul_comm y a] at ea
 rw [Int.mul_comm c b, Int.mul_comm d b, Int.mul_comm y b] at eb
 omega
theorem tR {a b c d : Int} (ha : Rg a) (hb : Rg b) (hc : Rg c) (hd : Rg d) {v : Int} (h : min a (min b (min c d)) ≤ v ∧ v ≤ max a (max b (max c d))) : Rg v := by
 have := ha.1; have := ha.2; have := hb.1; have := hb.2; have := hc.1; have := hc.2; have := hd.1; have := hd.2
 constructor <;> omega
theorem wT {a b : Int} (h : a ≤ b) (n : Nat) : a.fdiv (2 ^ n) ≤ b.fdiv (2 ^ n) := by
 have hp : (0 : Int) < 2 ^ n := Int.pow_pos (by decide)
 rw [Int.fdiv_eq_ediv_of_nonneg _ (by omega), Int.fdiv_eq_ediv_of_nonneg _ (by omega)]
 exact Int.ediv_le_ediv hp h
theorem yK {a : Int} (h : Rg a) (n : Nat) : Rg (a.fdiv (2 ^ n)) := by
 have hp : (0 : Int) < 2 ^ n := Int.pow_pos (by decide)
 rw [Int.fdiv_eq_ediv_of_nonneg _ (by omega)]
 have h1 := h.1
 have h2 := h.2
 have h3 := Int.mul_ediv_add_emod a (2 ^ n)
 have h4 := Int.emod_nonneg a (show (2 : Int) ^ n ≠ 0 by omega)
 by_cases h0 : 0 ≤ a
 ·have e1 := Int.ediv_nonneg h0 (show (0 : Int) ≤ 2 ^ n by omega)
  have e2 := Int.ediv_le_self (2 ^ n) h0
  constructor <;> omega
 ·have e1 : a / 2 ^ n < 0 := Int.ediv_neg_of_neg_of_pos (by omega) hp
  have e2 : a ≤ a / 2 ^ n := by
   have := (Int.le_ediv_iff_mul_le (a := a) (b := a) hp).2 (by
    have : a * 2 ^ n ≤ a * 1 := Int.mul_le_mul_of_nonpos_left (by omega) (show (1 : Int) ≤ 2 ^ n by omega)
    omega)
   exact this
  constructor <;> omega
section
variable {op k : Int} {p q r a : Int × Int} {x y z : Nat}
theorem aDB (h : dG op k p q r = some a) (ho : 1 ≤ op ∧ op ≤ 14) (hsh : 10 ≤ op → op ≤ 12 → 0 ≤ k ∧ k ≤ 63) (hk : Rg k) (hx : x < 18446744073709551616) (hy : y < 18446744073709551616) (hz : z < 18446744073709551616) (px : inS p (fF x)) (qy : inS q (fF y)) (rz : inS r (fF z)) : inS a (fF (gJ op k x y z).1) := by
 have all : ∀ n : Nat, n < 18446744073709551616 → inS (-9223372036854775808, 9223372036854775807) (fF n) := fun n hn => by
  have := aEm n hn
  exact ⟨this.1, by show fF n ≤ 9223372036854775807; have := this.2; omega⟩
 have vlt := aCz op k x y z hx hy hz
 have sx := aAC x hx
 have sy := aAC y hy
 obtain ⟨p1, p2⟩ := px
 obtain ⟨q1, q2⟩ := qy
 have : op = 1 ∨ op = 2 ∨ op = 3 ∨ op = 4 ∨ op = 5 ∨ op = 6 ∨ op = 7 ∨ op = 8 ∨ op = 9 ∨ op = 10 ∨ op = 11 ∨ op = 12 ∨ op = 13 ∨ op = 14 := by omega
 rcases this with rfl | rfl | rfl | rfl | rfl | rfl | rfl | rfl | rfl | rfl | rfl | rfl | rfl | rfl
 ·have e : a = (k, k) := by simpa [dG] using h.symm
  subst e
  have e2 : (gJ 1 k x y z).1 = u64 k := by simp [gJ]
  rw [e2, aEl hk]
  exact ⟨Int.le_refl _, Int.le_refl _⟩
 ·have e : a = p := by simpa [dG] using h.symm
  subst e
  have e2 : (gJ 2 k x y z).1 = x := by simp [gJ]
  rw [e2]; exact ⟨p1, p2⟩
 ·have h' : oG p q = some a := by simpa [dG] using h
  unfold oG at h'
  split at h'
  ·rename_i hh
   obtain ⟨_, _, r1, r2⟩ := hh
   simp only [Option.some.injEq] at h'
   subst h'
   have e2 : (gJ 3 k x y z).1 = (x + y) % 18446744073709551616 := by simp [gJ]
   have hr : Rg (fF x + fF y) := by have := r1.1; have := r2.2; constructor <;> omega
   rw [e2, yX (v := fF x + fF y) (by omega) hr]
   constructor
   ·show p.1 + q.1 ≤ _; omega
   ·show _ ≤ p.2 + q.2; omega
  ·cases h'
 ·have h' : oV p q = some a := by simpa [dG] using h
  unfold oV at h'
  split at h'
  ·rename_i hh
   obtain ⟨_, _, r1, r2⟩ := hh
   simp only [Option.some.injEq] at h'
   subst h'
   have e2 : (gJ 4 k x y z).1 = (x + 18446744073709551616 - y) % 18446744073709551616 := by simp [gJ]
   have hr : Rg (fF x - fF y) := by have := r1.1; have := r2.2; constructor <;> omega
   rw [e2, yX (v := fF x - fF y) (by omega) hr]
   constructor
   ·show p.1 - q.2 ≤ _; omega
   ·show _ ≤ p.2 - q.1; omega
  ·cases h'
 ·have h' : oS p q = some a := by simpa [dG] using h
  unfold oS at h'
  split at h'
  ·rename_i hh
   obtain ⟨_, _, r1, r2, r3, r4⟩ := hh
   simp only [Option.some.injEq] at h'
   subst h'
   have e2 : (gJ 5 k x y z).1 = x * y % 18446744073709551616 := by simp [gJ]
   have hc := aGt p1 p2 q1 q2
   have hr := tR r1 r2 r3 r4 hc
   have hm : ((x * y : Nat) : Int) % 18446744073709551616 = (fF x * fF y) % 18446744073709551616 := by
    rw [Int.mul_emod (fF x), sx, sy]; push_cast; rfl
   rw [e2, yX hm hr]
   exact hc
  ·cases h'
 ·have e : a = (-9223372036854775808, 9223372036854775807) := by simpa [dG] using h.symm
  subst e; exact all _ vlt
 ·have e : a = uB p q := by simpa [dG] using h.symm
  subst e
  have e2 : (gJ 7 k x y z).1 = x &&& y := by simp [gJ]
  rw [e2]
  have l1 : x &&& y ≤ x := Nat.and_le_left
  have l2 : x &&& y ≤ y := Nat.and_le_right
  have pos : ∀ n : Nat, 0 ≤ fF n → n < 18446744073709551616 → fF n = n ∧ n < 9223372036854775808 := fun n h0 hn => by unfold fF at h0 ⊢; split at h0 <;> omega
  have low : ∀ n : Nat, n < 9223372036854775808 → fF n = n := fun n hn => by unfold fF; rw [if_neg (by omega)]
  unfold uB
  rw [if_pos ⟨by omega, by omega⟩]
  by_cases h1 : 0 ≤ p.1
  ·have ex := pos x (by omega) hx
   by_cases h2 : 0 ≤ q.1
   ·have ey := pos y (by omega) hy
    rw [if_pos ⟨h1, h2⟩, low _ (by omega)]
    constructor
    ·show (0 : Int) ≤ _; omega
    ·show _ ≤ min p.2 q.2; omega
   ·rw [if_neg (by omega), if_pos h1, low _ (by omega)]
    constructor
    ·show (0 : Int) ≤ _; omega
    ·show _ ≤ p.2; omega
  ·by_cases h2 : 0 ≤ q.1
   ·have ey := pos y (by omega) hy
    rw [if_neg (by omega), if_neg h1, if_pos h2, low _ (by omega)]
    constructor
    ·show (0 : Int) ≤ _; omega
    ·show _ ≤ q.2; omega
   ·rw [if_neg (by omega), if_neg h1, if_neg h2]
    exact all _ (by omega)
 ·have e : a = (-9223372036854775808, 9223372036854775807) := by simpa [dG] using h.symm
  subst e; exact all _ vlt
 ·have e : a = (-9223372036854775808, 9223372036854775807) := by simpa [dG] using h.symm
  subst e; exact all _ vlt
 ·have h' : oU p k = some a := by simpa [dG] using h
  have hk' := hsh (by decide) (by decide)
  unfold oU at h'
  split at h'
  ·cases h'
  ·split at h'
   ·rename_i hh
    obtain ⟨_, r1, r2⟩ := hh
    simp only [Option.some.injEq] at h'
    subst h'
    have e2 : (gJ 10 k x y z).1 = x * 2 ^ k.toNat % 18446744073709551616 := by
     simp [gJ, iK]; rw [if_neg (by omega)]
    have hp : (0 : Int) ≤ 2 ^ k.toNat := Int.le_of_lt (Int.pow_pos (by decide))
    have b1 := Int.mul_le_mul_of_nonneg_right p1 hp
    have b2 := Int.mul_le_mul_of_nonneg_right p2 hp
    have hr : Rg (fF x * 2 ^ k.toNat) := by have := r1.1; have := r2.2; constructor <;> omega
    have hm : ((x * 2 ^ k.toNat : Nat) : Int) % 18446744073709551616 = (fF x * 2 ^ k.toNat) % 18446744073709551616 := by
     rw [Int.mul_emod (fF x), sx]
     push_cast
     rw [Int.mul_emod (x : Int)]
     have : (x : Int) % 18446744073709551616 = x := Int.emod_eq_of_lt (by omega) (by omega)
     rw [this]
    rw [e2, yX hm hr]
    exact ⟨b1, b2⟩
   ·cases h'
 ·have e : a = (-9223372036854775808, 9223372036854775807) := by simpa [dG] using h.symm
  subst e; exact all _ vlt
 ·have e : a = vN p k := by simpa [dG] using h.symm
  subst e
  have hk' := hsh (by decide) (by decide)
  have e2 : (gJ 12 k x y z).1 = u64 ((fF x).fdiv (2 ^ k.toNat)) := by
   simp [gJ, iK]; rw [if_neg (by omega)]; rfl
  unfold vN
  rw [if_neg (by omega), e2, aEl (yK (aEm x hx) _)]
  exact ⟨wT p1 _, wT p2 _⟩
 ·have e : a = (0, 1) := by simpa [dG] using h.symm
  subst e
  have e2 : (gJ 13 k x y z).1 = if x < y then 1 else 0 := by simp [gJ]
  rw [e2]
  by_cases hxy : x < y
  ·rw [if_pos hxy]; exact ⟨by decide, by decide⟩
  ·rw [if_neg hxy]; exact ⟨by decide, by decide⟩
 ·have e : a = nH q r := by simpa [dG] using h.symm
  subst e
  obtain ⟨r1, r2⟩ := rz
  have e2 : (gJ 14 k x y z).1 = if x ≠ 0 then y else z := by simp [gJ]
  unfold nH
  rw [if_pos ⟨by omega, by omega⟩, e2]
  by_cases h0 : x ≠ 0
  ·rw [if_pos h0]
   constructor
   ·show min q.1 r.1 ≤ _; omega
   ·show _ ≤ max q.2 r.2; omega
  ·rw [if_neg h0]
   constructor
   ·show min q.1 r.1 ≤ _; omega
   ·show _ ≤ max q.2 r.2; omega
theorem aDA (h : dG op k p q r = some a) (ho : op = 3 ∨ op = 4 ∨ op = 5 ∨ op = 10) (px : inS p (fF x)) (qy : inS q (fF y)) : (wG op k x y).2 = true ∧ inS a (wG op k x y).1 := by
 obtain ⟨p1, p2⟩ := px
 obtain ⟨q1, q2⟩ := qy
 rcases ho with rfl | rfl | rfl | rfl
 ·have h' : oG p q = some a := by simpa [dG] using h
  unfold oG at h'
  split at h'
  ·rename_i hh
   obtain ⟨_, _, r1, r2⟩ := hh
   simp only [Option.some.injEq] at h'
   subst h'
   have hr : Rg (fF x + fF y) := by have := r1.1; have := r2.2; constructor <;> omega
   have e : wG 3 k x y = (fF x + fF y, true) := by
    unfold wG; rw [if_pos rfl, if_pos hr]
   rw [e]
   refine ⟨rfl, ?_, ?_⟩
   ·show p.1 + q.1 ≤ fF x + fF y; omega
   ·show fF x + fF y ≤ p.2 + q.2; omega
  ·cases h'
 ·have h' : oV p q = some a := by simpa [dG] using h
  unfold oV at h'
  split at h'
  ·rename_i hh
   obtain ⟨_, _, r1, r2⟩ := hh
   simp only [Option.some.injEq] at h'
   subst h'
   have hr : Rg (fF x - fF y) := by have := r1.1; have := r2.2; constructor <;> omega
   have e : wG 4 k x y = (fF x - fF y, true) := by
    unfold wG; rw [if_neg (by decide), if_pos rfl, if_pos hr]
   rw [e]
   refine ⟨rfl, ?_, ?_⟩
   ·show p.1 - q.2 ≤ fF x - fF y; omega
   ·show fF x - fF y ≤ p.2 - q.1; omega
  ·cases h'
 ·have h' : oS p q = some a := by simpa [dG] using h
  unfold oS at h'
  split at h'
  ·rename_i hh
   obtain ⟨_, _, r1, r2, r3, r4⟩ := hh
   simp only [Option.some.injEq] at h'
   subst h'
   have hc := aGt p1 p2 q1 q2
   have hr := tR r1 r2 r3 r4 hc
   have e : wG 5 k x y = (fF x * fF y, true) := by
    unfold wG; rw [if_neg (by decide), if_neg (by decide), if_pos rfl, if_pos hr]
   rw [e]
   exact ⟨rfl, hc⟩
  ·cases h'
 ·have h' : oU p k = some a := by simpa [dG] using h
  unfold oU at h'
  split at h'
  ·cases h'
  ·rename_i hk
   split at h'
   ·rename_i hh
    obtain ⟨_, r1, r2⟩ := hh
    simp only [Option.some.injEq] at h'
    subst h'
    have hp : (0 : Int) ≤ 2 ^ k.toNat := Int.le_of_lt (Int.pow_pos (by decide))
    have b1 := Int.mul_le_mul_of_nonneg_right p1 hp
    have b2 := Int.mul_le_mul_of_nonneg_right p2 hp
    have hr : Rg (fF x * 2 ^ k.toNat) := by have := r1.1; have := r2.2; constructor <;> omega
    have e : wG 10 k x y = (fF x * 2 ^ k.toNat, true) := by
     unfold wG; rw [if_neg (by decide), if_neg (by decide), if_neg (by decide), if_pos rfl, if_neg (by omega), if_pos hr]
    rw [e]
    exact ⟨rfl, b1, b2⟩
   ·cases h'
end
end Go.Proofs.YtcmblhedhgiofaaDoor.Mir
namespace Go.Proofs.YtcmblhedhgiofaaDoor.Mir.B3
open Go
set_option linter.unusedVariables false
set_option linter.unusedSimpArgs false
def fM (p0 p1 p2 : ABlk) (bor : Bool) (cs : List Ins) (R M : Int) (s : MS) : aB :=
 [p0, p1, p2, ⟨40, 4, [.agg [.int .i64 0, .nils, .nils, .int .i64 0]]⟩, ⟨48, 1, dE s.regs⟩,
  ⟨126, 9, [.agg [.ro bor (dB cs), I6 R, I6 M, .sl 4 s.regs.length 0 s.regs.length 1, Nn s.at_, I6 s.code, .sl 7 s.mem.length 0 s.mem.length 1, .sl 8 s.leaks.length 0 s.leaks.length 2, Nn s.steps]]⟩,
  ⟨48, 1, []⟩, ⟨48, 1, dE s.mem⟩, ⟨96, 2, bD s.leaks⟩]
section
variable (G : aE) (p0 p1 p2 : ABlk) (bor : Bool) (cs : List Ins) (R M : Int) (s : MS)
abbrev PX : AV := .ptr 5 1 0 0
theorem mK : (fM p0 p1 p2 bor cs R M s).length = 9 := rfl
theorem cF : gH PX = some PX := rfl
theorem qG : aA 3 PX = some (.ptr 5 1 0 3) := rfl
theorem jO : aA 4 PX = some (.ptr 5 1 0 4) := rfl
theorem qH : aA 5 PX = some (.ptr 5 1 0 5) := rfl
theorem jX : aA 0 (.ptr 5 1 0 5) = some (.ptr 5 1 0 5) := rfl
theorem rN : aA 1 (.ptr 5 1 0 5) = some (.ptr 5 1 0 6) := rfl
theorem aDo : aA 2 (.ptr 5 1 0 5) = some (.ptr 5 1 0 7) := rfl
theorem aBd : aA 3 (.ptr 5 1 0 5) = some (.ptr 5 1 0 8) := rfl
theorem sH : aC G false 1 (.ptr 5 1 0 3) (fM p0 p1 p2 bor cs R M s) = some (.sl 4 s.regs.length 0 s.regs.length 1) := rfl
theorem ld4 : aC G false 1 (.ptr 5 1 0 4) (fM p0 p1 p2 bor cs R M s) = some (Nn s.at_) := rfl
theorem ld6 : aC G false 1 (.ptr 5 1 0 6) (fM p0 p1 p2 bor cs R M s) = some (.sl 7 s.mem.length 0 s.mem.length 1) := rfl
theorem ld7 : aC G false 1 (.ptr 5 1 0 7) (fM p0 p1 p2 bor cs R M s) = some (.sl 8 s.leaks.length 0 s.leaks.length 2) := rfl
theorem ld8 : aC G false 1 (.ptr 5 1 0 8) (fM p0 p1 p2 bor cs R M s) = some (Nn s.steps) := rfl
theorem st4 (n : Nat) : dY (aN 1 (.ptr 5 1 0 4) (Nn n) (fM p0 p1 p2 bor cs R M s)) = some (.tup [], fM p0 p1 p2 bor cs R M { s with at_ := n }) := rfl
theorem st5 (n : Int) : dY (aN 1 (.ptr 5 1 0 5) (I6 n) (fM p0 p1 p2 bor cs R M s)) = some (.tup [], fM p0 p1 p2 bor cs R M { s with code := n }) := rfl
theorem st8 (n : Nat) : dY (aN 1 (.ptr 5 1 0 8) (Nn n) (fM p0 p1 p2 bor cs R M s)) = some (.tup [], fM p0 p1 p2 bor cs R M { s with steps := n }) := rfl
theorem mM (j : Int) (h0 : 0 ≤ j) : aF 1 (.sl 4 s.regs.length 0 s.regs.length 1) (I6 j) = if j < s.regs.length then some (.ptr 4 s.regs.length j.toNat 0) else none := by
 by_cases h : j < s.regs.length
 ·rw [if_pos h]
  have h2 : j.toNat < s.regs.length := by omega
  simp [aF, h0, h]
 ·rw [if_neg h]
  simp [aF, h0, h]
theorem aDz (n : Nat) : aF 1 (.sl 7 s.mem.length 0 s.mem.length 1) (Un n) = if n < s.mem.length then some (.ptr 7 s.mem.length n 0) else none := by
 have h0 : (0 : Int) ≤ (n : Int) := by omega
 by_cases h : n < s.mem.length
 ·have h' : (n : Int) < (s.mem.length : Int) := by omega
  rw [if_pos h]
  simp [aF, h0, h']
 ·have h' : ¬ (n : Int) < (s.mem.length : Int) := by omega
  rw [if_neg h]
  simp [aF, h0, h']
theorem gW (l : List Nat) (j : Nat) (h : j < l.length) : (dE l)[j]? = some (Un (l.getD j 0)) := by
 simp [dE, List.getD, List.getElem?_eq_getElem h]
theorem ldR (j : Nat) (h : j < s.regs.length) : aC G false 1 (.ptr 4 s.regs.length j 0) (fM p0 p1 p2 bor cs R M s) = some (Un (s.regs.getD j 0)) := by
 have e : (fM p0 p1 p2 bor cs R M s)[4]? = some ⟨48, 1, dE s.regs⟩ := rfl
 unfold aC
 simp only [e, fU, gW _ _ h, if_true]
 rfl
theorem ldM (j : Nat) (h : j < s.mem.length) : aC G false 1 (.ptr 7 s.mem.length j 0) (fM p0 p1 p2 bor cs R M s) = some (Un (s.mem.getD j 0)) := by
 have e : (fM p0 p1 p2 bor cs R M s)[7]? = some ⟨48, 1, dE s.mem⟩ := rfl
 unfold aC
 simp only [e, fU, gW _ _ h, if_true]
 rfl
theorem mD (l : List Nat) (j x : Nat) : dE (l.set j x) = (dE l).set j (Un x) := by simp [dE, List.map_set]
theorem stR (j x : Nat) (h : j < s.regs.length) : dY (aN 1 (.ptr 4 s.regs.length j 0) (Un x) (fM p0 p1 p2 bor cs R M s)) = some (.tup [], fM p0 p1 p2 bor cs R M { s with regs := s.regs.set j x }) := by
 have e : (fM p0 p1 p2 bor cs R M s)[4]? = some ⟨48, 1, dE s.regs⟩ := rfl
 unfold aN
 simp only [e, fU, gW _ _ h]
 unfold fM
 simp only [List.length_set, mD]
 rfl
theorem stM (j x : Nat) (h : j < s.mem.length) : dY (aN 1 (.ptr 7 s.mem.length j 0) (Un x) (fM p0 p1 p2 bor cs R M s)) = some (.tup [], fM p0 p1 p2 bor cs R M { s with mem := s.mem.set j x }) := by
 have e : (fM p0 p1 p2 bor cs R M s)[7]? = some ⟨48, 1, dE s.mem⟩ := rfl
 unfold aN
 simp only [e, fU, gW _ _ h]
 unfold fM
 simp only [List.length_set, mD]
 rfl
theorem apL (p : Int × Int) (hl : s.leaks.length ≤ 1000000) : eY 96 2 (.sl 8 s.leaks.length 0 s.leaks.length 2) (.ro false [bW p]) (fM p0 p1 p2 bor cs R M s) =
  some (.sl 8 (s.leaks.length + 1) 0 (s.leaks.length + 1) 2, (fM p0 p1 p2 bor cs R M s).set 8 ⟨96, 2, bD (s.leaks ++ [p])⟩) := by
 have e : (fM p0 p1 p2 bor cs R M s)[8]? = some ⟨96, 2, bD s.leaks⟩ := rfl
 unfold eY
 simp only [e, gE, dL, List.length_singleton]
 rw [if_pos (by refine ⟨?_, ?_, ?_, ?_, ?_⟩ <;> first | trivial | rfl | omega)]
 have e2 : (bD s.leaks).take s.leaks.length = bD s.leaks := List.take_of_length_le (by rw [dL]; exact Nat.le_refl _)
 have e3 : (bD s.leaks).drop (s.leaks.length + 1) = [] := List.drop_of_length_le (by rw [dL]; omega)
 rw [e2, e3, List.append_nil]
 have e4 : bD s.leaks ++ [bW p] = bD (s.leaks ++ [p]) := by simp [bD]
 rw [e4, dL]; simp
theorem stL (p : Int × Int) : dY (aN 1 (.ptr 5 1 0 7) (.sl 8 (s.leaks.length + 1) 0 (s.leaks.length + 1) 2) ((fM p0 p1 p2 bor cs R M s).set 8 ⟨96, 2, bD (s.leaks ++ [p])⟩)) =
  some (.tup [], fM p0 p1 p2 bor cs R M (s.leak p.1 p.2)) := by
 have e : (s.leak p.1 p.2).leaks.length = s.leaks.length + 1 := by simp [MS.leak]
 unfold fM
 rw [e]
 rfl
theorem qL (hp : bS 9 p0.elems = true ∧ bS 9 p1.elems = true ∧ bS 9 p2.elems = true) : dX 9 (fM p0 p1 p2 bor cs R M s) = true := by
 simp [fM, dX, bS, bX, hp, jT, fN, fI]
theorem pI (hp : bS 9 p0.elems = true ∧ bS 9 p1.elems = true ∧ bS 9 p2.elems = true) (xs : List AV) (hx : bS 9 xs = true) : gT 9 xs (fM p0 p1 p2 bor cs R M s) = some (fM p0 p1 p2 bor cs R M s) := by
 have e : (fM p0 p1 p2 bor cs R M s).take 9 = fM p0 p1 p2 bor cs R M s := rfl
 unfold gT
 rw [e, hx, qL p0 p1 p2 bor cs R M s hp]; rfl
theorem iX (hp : bS 9 p0.elems = true ∧ bS 9 p1.elems = true ∧ bS 9 p2.elems = true) : cT [] 9 (fM p0 p1 p2 bor cs R M s) = some (.ret, [.tup []], fM p0 p1 p2 bor cs R M s) := by
 unfold cT
 rw [pI p0 p1 p2 bor cs R M s hp [] rfl]; rfl
theorem fB (hp : bS 9 p0.elems = true ∧ bS 9 p1.elems = true ∧ bS 9 p2.elems = true) (b : Bool) : cT [.bool b] 9 (fM p0 p1 p2 bor cs R M s) = some (.ret, [.bool b], fM p0 p1 p2 bor cs R M s) := by
 unfold cT
 rw [pI p0 p1 p2 bor cs R M s hp [] rfl]; rfl
theorem jA {g : cY} {args : List AV} {r : AV} {s' : MS} (h : g args (fM p0 p1 p2 bor cs R M s) = some (r, fM p0 p1 p2 bor cs R M s')) : fJ g args (fM p0 p1 p2 bor cs R M s) = some (r, fM p0 p1 p2 bor cs R M s') := by
 unfold fJ; rw [h]; rfl
theorem iI (k : Nat) (hp : bS 9 p0.elems = true ∧ bS 9 p1.elems = true ∧ bS 9 p2.elems = true) (kind at_ : Int) (hl : s.leaks.length ≤ 1000000) :
  bF.f G (k + 1) [PX, I6 kind, I6 at_] (fM p0 p1 p2 bor cs R M s) = some (.tup [], fM p0 p1 p2 bor cs R M (s.leak kind at_)) := by
 rw [bF.step]
 unfold bF.c
 have c4 : aU [(0, 1), (1, 1)] [(.int .i64 0), (.int .i64 0)] [(0, I6 kind), (1, I6 at_)] = some (bW (kind, at_)) := rfl
 have c5 : ∀ H, aZ 2 1 (.agg [(.int .i64 0), (.int .i64 0)]) [(0, bW (kind, at_))] H = some (.ro false [bW (kind, at_)], H) := fun H => rfl
 have c6 := apL p0 p1 p2 bor cs R M s (kind, at_) hl
 have c7 := stL p0 p1 p2 bor cs R M s (kind, at_)
 simp only [mK]
 repeat first
  | refine oB (by first | (simp only [aQ, aI, aH, cO, cK, cN, cL, cM, aO, aK, bN, cF, qH, aDo, ld7, c4, c5, c6, c7]; first | done | (with_reducible exact rfl) | (with_reducible exact ⟨rfl, rfl⟩)) | (with_reducible exact rfl)) ?_
  | refine lB (by first | (simp only [aQ, aI, aH, cO, cK, cN, cL, cM, aO, aK, bN, cF, qH, aDo, ld7, c4, c5, c6, c7]; first | done | (with_reducible exact rfl) | (with_reducible exact ⟨rfl, rfl⟩)) | (with_reducible exact rfl)) ?_
  | refine oT ?_
  | refine oN ?_
  | refine oX ?_
  | refine hZ ?_
  | refine iA ?_
  | exact oF (aY ..)
  | apply oK
  | refine lT ?_
  | refine lN ?_
  | refine lX ?_
  | refine hU ?_
  | refine hY ?_
  | apply lK
  | refine oI ?_
  | refine oJ rfl ?_
  | refine lI ?_
  | refine lJ rfl ?_
  | (with_reducible exact rfl)
 exact oF (iX p0 p1 p2 bor cs R M _ hp)
end
section
variable (G : aE) (p0 p1 p2 : ABlk) (hp : bS 9 p0.elems = true ∧ bS 9 p1.elems = true ∧ bS 9 p2.elems = true) (bor : Bool) (cs : List Ins) (R : Nat) (M : Int) (s : MS) (i : Ins) (hs : s.Ok R) (hl : s.leaks.length ≤ 999990)
include hp hs hl in
theorem pU (k : Nat) (ha : 0 ≤ i.a ∧ i.a < R) (hd : 0 ≤ i.d ∧ i.d < R) (hb : 0 ≤ i.b ∧ i.b < R) (ho : i.op = 15 ∨ i.op = 16) :
  bI.f G (k + 2) [PX, i.v] (fM p0 p1 p2 bor cs R M s) = some (.bool (s.touch i).2, fM p0 p1 p2 bor cs R M (s.touch i).1) := by
 have hR := hs.len
 rw [bI.step]
 unfold bI.c
 simp only [mK]
 have d6 := mM s i.a ha.1
 rw [if_pos (by omega)] at d6
 have d7 := ldR G p0 p1 p2 bor cs R M s i.a.toNat (by omega)
 have d10 : eZ .u64 (I6 i.k) = some (Un (u64 i.k)) := lR ..
 have d11 := tT Tryd.prog 48 false (s.regs.getD i.a.toNat 0) (u64 i.k)
 obtain ⟨ad, had⟩ : ∃ z, z = (s.regs.getD i.a.toNat 0 + u64 i.k) % 18446744073709551616 := ⟨_, rfl⟩
 have hadl : ad < 18446744073709551616 := by rw [had]; exact Nat.mod_lt _ (by decide)
 rw [← had] at d11
 have d12 := iD ad hadl
 have d13 := jA p0 p1 p2 bor cs R M s (iI G p0 p1 p2 bor cs R M s k hp 3 (fF ad) (by omega))
 have ht : s.touch i = (let s1 := s.leak 3 (fF ad); if s.mem.length ≤ ad then ({ s1 with code := 3 }, false) else if i.op = 15 then (s1.set i.d (s.mem.getD ad 0), true) else ({ s1 with mem := s.mem.set ad (s.rg i.b) }, true)) := by
  rw [had]; rfl
 rw [ht]
 obtain ⟨s1, hs1⟩ : ∃ s1, s1 = s.leak 3 (fF ad) := ⟨_, rfl⟩
 have hm : s1.mem = s.mem := by rw [hs1]; rfl
 have hr : s1.regs = s.regs := by rw [hs1]; rfl
 simp only
 rw [← hs1] at d13 ⊢
 have d17 := ld6 G p0 p1 p2 bor cs R M s1
 have d18 : bO (.sl 7 s1.mem.length 0 s1.mem.length 1) = some (Nn s1.mem.length) := rfl
 have d19 : eZ .u64 (Nn s1.mem.length) = some (Un s1.mem.length) := by rw [lR, zG _ (by rw [hm]; have := hs.big; omega)]
 have g0 := gi0 i
 have g1 := gi1 i
 have g2 := gi2 i
 have g3 := gi3 i
 have g5 := gi5 i
 have l0 := gl0 G i
 have l1 := gl1 G i
 have l2 := gl2 G i
 have l3 := gl3 G i
 have l5 := gl5 G i
 have b0 := bx i
 by_cases hin : s.mem.length ≤ ad
 ·rw [if_pos hin]
  have d20 : bE Tryd.prog .geq 48 false (Un ad) (Un s1.mem.length) = some (.bool true) := by rw [iT, decide_eq_true (by rw [hm]; omega)]
  have d23 := st5 p0 p1 p2 bor cs R M s1 3
  clear hs1 had ht
  repeat first
   | refine oB (by first | (simp only [aQ, aI, aH, cO, cK, cN, cL, cM, aO, aK, bN, b0, g0, g1, g2, g3, g5, l0, l1, l2, l3, l5, cF, qG, qH, jX, rN, sH, d6, d7, d10, d11, d12, d13, d17, d18, d19, d20, d23]; first | done | (with_reducible exact rfl) | (with_reducible exact ⟨rfl, rfl⟩)) | (with_reducible exact rfl)) ?_
   | refine lB (by first | (simp only [aQ, aI, aH, cO, cK, cN, cL, cM, aO, aK, bN, b0, g0, g1, g2, g3, g5, l0, l1, l2, l3, l5, cF, qG, qH, jX, rN, sH, d6, d7, d10, d11, d12, d13, d17, d18, d19, d20, d23]; first | done | (with_reducible exact rfl) | (with_reducible exact ⟨rfl, rfl⟩)) | (with_reducible exact rfl)) ?_
   | refine oT ?_
   | refine oN ?_
   | refine oX ?_
   | refine hZ ?_
   | refine iA ?_
   | exact oF (aY ..)
   | apply oK
   | refine lT ?_
   | refine lN ?_
   | refine lX ?_
   | refine hU ?_
   | refine hY ?_
   | apply lK
   | refine oI ?_
   | refine oJ rfl ?_
   | refine lI ?_
   | refine lJ rfl ?_
   | (with_reducible exact rfl)
  exact oF (fB p0 p1 p2 bor cs R M _ hp false)
 ·rw [if_neg hin]
  have d20 : bE Tryd.prog .geq 48 false (Un ad) (Un s1.mem.length) = some (.bool false) := by rw [iT, decide_eq_false (by rw [hm]; omega)]
  have d37 := aDz s1 ad
  rw [if_pos (by rw [hm]; omega)] at d37
  have d30 := sH G p0 p1 p2 bor cs R M s1
  rcases ho with ho | ho
  ·rw [if_pos ho]
   have d27 : bE Tryd.prog .eql 3 true (I6 i.op) (.int .i64 15) = some (.bool true) := by rw [fE, decide_eq_true ho]
   have d38 := ldM G p0 p1 p2 bor cs R M s1 ad (by rw [hm]; omega)
   have d39 := mM s1 i.d hd.1
   rw [if_pos (by rw [hr]; omega)] at d39
   have d40 := stR p0 p1 p2 bor cs R M s1 i.d.toNat (s1.mem.getD ad 0) (by rw [hr]; omega)
   have hfin : ({ s1 with regs := s1.regs.set i.d.toNat (s1.mem.getD ad 0) } : MS) = s1.set i.d (s.mem.getD ad 0) := by rw [← hm]; rfl
   rw [hfin] at d40
   clear hs1 had ht hfin
   generalize s1.mem.getD ad 0 = z at *
   repeat first
    | refine oB (by first | (simp only [aQ, aI, aH, cO, cK, cN, cL, cM, aO, aK, bN, b0, g0, g1, g2, g3, g5, l0, l1, l2, l3, l5, cF, qG, qH, jX, rN, sH, d6, d7, d10, d11, d12, d13, d17, d18, d19, d20, d27, d30, d37, d38, d39, d40]; first | done | (with_reducible exact rfl) | (with_reducible exact ⟨rfl, rfl⟩)) | (with_reducible exact rfl)) ?_
    | refine lB (by first | (simp only [aQ, aI, aH, cO, cK, cN, cL, cM, aO, aK, bN, b0, g0, g1, g2, g3, g5, l0, l1, l2, l3, l5, cF, qG, qH, jX, rN, sH, d6, d7, d10, d11, d12, d13, d17, d18, d19, d20, d27, d30, d37, d38, d39, d40]; first | done | (with_reducible exact rfl) | (with_reducible exact ⟨rfl, rfl⟩)) | (with_reducible exact rfl)) ?_
    | refine oT ?_
    | refine oN ?_
    | refine oX ?_
    | refine hZ ?_
    | refine iA ?_
    | exact oF (aY ..)
    | apply oK
    | refine lT ?_
    | refine lN ?_
    | refine lX ?_
    | refine hU ?_
    | refine hY ?_
    | apply lK
    | refine oI ?_
    | refine oJ rfl ?_
    | refine lI ?_
    | refine lJ rfl ?_
    | (with_reducible exact rfl)
   exact oF (fB p0 p1 p2 bor cs R M _ hp true)
  ·rw [if_neg (by omega)]
   have d27 : bE Tryd.prog .eql 3 true (I6 i.op) (.int .i64 15) = some (.bool false) := by rw [fE, decide_eq_false (by omega)]
   have d50 := mM s1 i.b hb.1
   rw [if_pos (by rw [hr]; omega)] at d50
   have d51 := ldR G p0 p1 p2 bor cs R M s1 i.b.toNat (by rw [hr]; omega)
   have d53 := stM p0 p1 p2 bor cs R M s1 ad (s1.regs.getD i.b.toNat 0) (by rw [hm]; omega)
   have hfin : ({ s1 with mem := s1.mem.set ad (s1.regs.getD i.b.toNat 0) } : MS) = { s1 with mem := s.mem.set ad (s.rg i.b) } := by rw [hm, hr]; rfl
   rw [hfin] at d53
   clear hs1 had ht hfin
   generalize s1.regs.getD i.b.toNat 0 = z at *
   repeat first
    | refine oB (by first | (simp only [aQ, aI, aH, cO, cK, cN, cL, cM, aO, aK, bN, b0, g0, g1, g2, g3, g5, l0, l1, l2, l3, l5, cF, qG, qH, jX, rN, sH, d6, d7, d10, d11, d12, d13, d17, d18, d19, d20, d27, d30, d37, d50, d51, d53]; first | done | (with_reducible exact rfl) | (with_reducible exact ⟨rfl, rfl⟩)) | (with_reducible exact rfl)) ?_
    | refine lB (by first | (simp only [aQ, aI, aH, cO, cK, cN, cL, cM, aO, aK, bN, b0, g0, g1, g2, g3, g5, l0, l1, l2, l3, l5, cF, qG, qH, jX, rN, sH, d6, d7, d10, d11, d12, d13, d17, d18, d19, d20, d27, d30, d37, d50, d51, d53]; first | done | (with_reducible exact rfl) | (with_reducible exact ⟨rfl, rfl⟩)) | (with_reducible exact rfl)) ?_
    | refine oT ?_
    | refine oN ?_
    | refine oX ?_
    | refine hZ ?_
    | refine iA ?_
    | exact oF (aY ..)
    | apply oK
    | refine lT ?_
    | refine lN ?_
    | refine lX ?_
    | refine hU ?_
    | refine hY ?_
    | apply lK
    | refine oI ?_
    | refine oJ rfl ?_
    | refine lI ?_
    | refine lJ rfl ?_
    | (with_reducible exact rfl)
   exact oF (fB p0 p1 p2 bor cs R M _ hp true)
set_option maxRecDepth 20000 in
set_option maxHeartbeats 1000000 in
include hp hs hl in
theorem nA (k : Nat) (ha : i.op ≠ 17 → 0 ≤ i.a ∧ i.a < R) (ho : i.op = 17 ∨ i.op = 18 ∨ i.op = 19) (hk : 0 ≤ i.k) :
  bG.f G (k + 2) [PX, i.v] (fM p0 p1 p2 bor cs R M s) = some (.tup [], fM p0 p1 p2 bor cs R M (s.branch i)) := by
 have hR := hs.len
 rw [bG.step]
 unfold bG.c
 simp only [mK]
 have g0 := gi0 i
 have g2 := gi2 i
 have g5 := gi5 i
 have l0 := gl0 G i
 have l2 := gl2 G i
 have l5 := gl5 G i
 have b0 := bx i
 have nk : I6 i.k = Nn i.k.toNat := by show AV.int .i64 i.k = .int .i64 _; congr 1; omega
 rw [nk] at l5
 by_cases h17 : i.op = 17
 ·have e : s.branch i = { s with at_ := i.k.toNat } := by unfold MS.branch; rw [if_pos h17]
  rw [e]
  have d3 : bE Tryd.prog .neq 3 true (I6 i.op) (.int .i64 17) = some (.bool false) := by rw [jH]; simp [h17]
  have d25 := st4 p0 p1 p2 bor cs R M s i.k.toNat
  repeat first
   | refine oB (by first | (simp only [aQ, aI, aH, cO, cK, cN, cL, cM, aO, aK, bN, b0, g0, g2, g5, l0, l2, l5, cF, jO, d3, d25]; first | done | (with_reducible exact rfl) | (with_reducible exact ⟨rfl, rfl⟩)) | (with_reducible exact rfl)) ?_
   | refine lB (by first | (simp only [aQ, aI, aH, cO, cK, cN, cL, cM, aO, aK, bN, b0, g0, g2, g5, l0, l2, l5, cF, jO, d3, d25]; first | done | (with_reducible exact rfl) | (with_reducible exact ⟨rfl, rfl⟩)) | (with_reducible exact rfl)) ?_
   | refine oT ?_
   | refine oN ?_
   | refine oX ?_
   | refine hZ ?_
   | refine iA ?_
   | exact oF (aY ..)
   | apply oK
   | refine lT ?_
   | refine lN ?_
   | refine lX ?_
   | refine hU ?_
   | refine hY ?_
   | apply lK
   | refine oI ?_
   | refine oJ rfl ?_
   | refine lI ?_
   | refine lJ rfl ?_
   | (with_reducible exact rfl)
  exact oF (iX p0 p1 p2 bor cs R M _ hp)
 ·obtain ⟨ha0, haR⟩ := ha h17
  have d3 : bE Tryd.prog .neq 3 true (I6 i.op) (.int .i64 17) = some (.bool true) := by rw [jH]; simp [h17]
  have d9 := mM s i.a ha0
  rw [if_pos (by omega)] at d9
  have d10 := ldR G p0 p1 p2 bor cs R M s i.a.toNat (by omega)
  have d11 : bE Tryd.prog .eql 48 true (Un (s.regs.getD i.a.toNat 0)) (.int .u64 0) = some (.bool (decide (s.rg i.a = 0))) := by
   rw [fE]; unfold MS.rg; congr 2; simp only [decide_eq_decide]; omega
  have d14 : bE Tryd.prog .eql 3 true (I6 i.op) (.int .i64 18) = some (.bool (decide (i.op = 18))) := fE ..
  have d15 : bE Tryd.prog .eql 4 false (.bool (decide (s.rg i.a = 0))) (.bool (decide (i.op = 18))) = some (.bool (decide (s.rg i.a = 0) == decide (i.op = 18))) := mI Tryd.underlying4 ..
  have d16 : ∀ b H, aL (dQ.f G (k + 1)) [.bool b] H = _ := fun b H => aX (H := H) (uD G k b) rfl rfl
  by_cases hg : (decide (s.rg i.a = 0) == decide (i.op = 18)) = true
  ·have e : s.branch i = { s.leak 2 1 with at_ := i.k.toNat } := by unfold MS.branch; rw [if_neg h17, if_pos hg]
   rw [e]
   rw [hg] at d15
   have d16' := d16 true
   rw [if_pos rfl] at d16'
   have d17 : eZ .i64 (Un 1) = some (I6 1) := rfl
   have d18 := jA p0 p1 p2 bor cs R M s (iI G p0 p1 p2 bor cs R M s k hp 2 1 (by omega))
   have d25 := st4 p0 p1 p2 bor cs R M (s.leak 2 1) i.k.toNat
   generalize decide (s.rg i.a = 0) = q1 at *
   generalize decide (i.op = 18) = q2 at *
   repeat first
    | refine oB (by first | (simp only [aQ, aI, aH, cO, cK, cN, cL, cM, aO, aK, bN, b0, g0, g2, g5, l0, l2, l5, cF, qG, jO, sH, d3, d9, d10, d11, d14, d15, d16', d17, d18, d25, Bool.not_true, Bool.not_false]; first | done | (with_reducible exact rfl) | (with_reducible exact ⟨rfl, rfl⟩)) | (with_reducible exact rfl)) ?_
    | refine lB (by first | (simp only [aQ, aI, aH, cO, cK, cN, cL, cM, aO, aK, bN, b0, g0, g2, g5, l0, l2, l5, cF, qG, jO, sH, d3, d9, d10, d11, d14, d15, d16', d17, d18, d25, Bool.not_true, Bool.not_false]; first | done | (with_reducible exact rfl) | (with_reducible exact ⟨rfl, rfl⟩)) | (with_reducible exact rfl)) ?_
    | refine oT ?_
    | refine oN ?_
    | refine oX ?_
    | refine hZ ?_
    | refine iA ?_
    | exact oF (aY ..)
    | apply oK
    | refine lT ?_
    | refine lN ?_
    | refine lX ?_
    | refine hU ?_
    | refine hY ?_
    | apply lK
    | refine oI ?_
    | refine oJ rfl ?_
    | refine lI ?_
    | refine lJ rfl ?_
    | (with_reducible exact rfl)
   exact oF (iX p0 p1 p2 bor cs R M _ hp)
  ·have e : s.branch i = s.leak 2 0 := by unfold MS.branch; rw [if_neg h17, if_neg hg]
   rw [e]
   rw [Bool.not_eq_true] at hg
   rw [hg] at d15
   have d16' := d16 false
   rw [if_neg (by decide)] at d16'
   have d17 : eZ .i64 (Un 0) = some (I6 0) := rfl
   have d18 := jA p0 p1 p2 bor cs R M s (iI G p0 p1 p2 bor cs R M s k hp 2 0 (by omega))
   generalize decide (s.rg i.a = 0) = q1 at *
   generalize decide (i.op = 18) = q2 at *
   repeat first
    | refine oB (by first | (simp only [aQ, aI, aH, cO, cK, cN, cL, cM, aO, aK, bN, b0, g0, g2, g5, l0, l2, l5, cF, qG, jO, sH, d3, d9, d10, d11, d14, d15, d16', d17, d18, Bool.not_true, Bool.not_false]; first | done | (with_reducible exact rfl) | (with_reducible exact ⟨rfl, rfl⟩)) | (with_reducible exact rfl)) ?_
    | refine lB (by first | (simp only [aQ, aI, aH, cO, cK, cN, cL, cM, aO, aK, bN, b0, g0, g2, g5, l0, l2, l5, cF, qG, jO, sH, d3, d9, d10, d11, d14, d15, d16', d17, d18, Bool.not_true, Bool.not_false]; first | done | (with_reducible exact rfl) | (with_reducible exact ⟨rfl, rfl⟩)) | (with_reducible exact rfl)) ?_
    | refine oT ?_
    | refine oN ?_
    | refine oX ?_
    | refine hZ ?_
    | refine iA ?_
    | exact oF (aY ..)
    | apply oK
    | refine lT ?_
    | refine lN ?_
    | refine lX ?_
    | refine hU ?_
    | refine hY ?_
    | apply lK
    | refine oI ?_
    | refine oJ rfl ?_
    | refine lI ?_
    | refine lJ rfl ?_
    | (with_reducible exact rfl)
   exact oF (iX p0 p1 p2 bor cs R M _ hp)
set_option maxRecDepth 20000 in
set_option maxHeartbeats 2000000 in
include hp hs hl in
theorem rX (n : Nat) (k : Nat) (hi : i.Ok R n) (hpc : s.at_ ≤ 1000000) :
  bP.f G (k + 4) [PX, i.v] (fM p0 p1 p2 bor cs R M s) = some (.bool (s.step i).2, fM p0 p1 p2 bor cs R M (s.step i).1) := by
 have hR := hs.len
 rw [bP.step]
 unfold bP.c
 simp only [mK]
 obtain ⟨t, ht⟩ : ∃ t : MS, t = { s with at_ := s.at_ + 1 } := ⟨_, rfl⟩
 have htr : t.regs = s.regs := by rw [ht]
 have hts : t.Ok R := by rw [ht]; exact ⟨hs.len, hs.regs, hs.mem, hs.leaks, hs.big, hs.few⟩
 have htl : t.leaks.length ≤ 999990 := by rw [ht]; exact hl
 have g0 := gi0 i
 have g1 := gi1 i
 have g2 := gi2 i
 have g3 := gi3 i
 have g4 := gi4 i
 have g5 := gi5 i
 have l0 := gl0 G i
 have l1 := gl1 G i
 have l2 := gl2 G i
 have l3 := gl3 G i
 have l4 := gl4 G i
 have l5 := gl5 G i
 have l6 := gl6 G i
 have b0 := bx i
 have c3 := ld4 G p0 p1 p2 bor cs R M s
 have c4 : bE Tryd.prog .add 3 true (Nn s.at_) (.int .i64 1) = some (Nn (s.at_ + 1)) := by
  rw [gN, dJ (by omega) (by omega)]; congr 2
 have c7 := st4 p0 p1 p2 bor cs R M s (s.at_ + 1)
 rw [← ht] at c7
 have e0 : s.step i = (if i.op = 15 ∨ i.op = 16 then t.touch i
  else if i.op = 17 ∨ i.op = 18 ∨ i.op = 19 then (t.branch i, true)
  else if i.op = 20 then ({ t with code := i.k }, false)
  else if (gJ i.op i.k (t.rg i.a) (t.rg i.b) (t.rg i.c)).2 = true then (t.set i.d (gJ i.op i.k (t.rg i.a) (t.rg i.b) (t.rg i.c)).1, true)
  else (t, true)) := by rw [ht]; rfl
 rw [e0]
 clear ht e0
 have q : ∀ m : Int, bE Tryd.prog .eql 3 true (I6 i.op) (.int .i64 m) = some (.bool (decide (i.op = m))) := fun m => fE ..
 have q15 := q 15
 have q16 := q 16
 have q17 := q 17
 have q18 := q 18
 have q19 := q 19
 have q20 := q 20
 by_cases h1 : i.op = 15 ∨ i.op = 16
 ·rw [if_pos h1]
  have r := jA p0 p1 p2 bor cs R M t (pU G p0 p1 p2 hp bor cs R M t i hts htl (k + 1) (hi.a (by omega) (by omega)) (hi.d (by omega)) (hi.b (by omega)) h1)
  by_cases h15 : i.op = 15
  ·rw [decide_eq_true h15] at q15
   generalize t.touch i = z at *
   repeat first
    | refine oB (by first | (simp only [aQ, aI, aH, cO, cK, cN, cL, cM, aO, aK, bN, b0, g0, g1, g2, g3, g4, g5, l0, l6, cF, jO, c3, c4, c7, q15, q16, r]; first | done | (with_reducible exact rfl) | (with_reducible exact ⟨rfl, rfl⟩)) | (with_reducible exact rfl)) ?_
    | refine lB (by first | (simp only [aQ, aI, aH, cO, cK, cN, cL, cM, aO, aK, bN, b0, g0, g1, g2, g3, g4, g5, l0, l6, cF, jO, c3, c4, c7, q15, q16, r]; first | done | (with_reducible exact rfl) | (with_reducible exact ⟨rfl, rfl⟩)) | (with_reducible exact rfl)) ?_
    | refine oT ?_
    | refine oN ?_
    | refine oX ?_
    | refine hZ ?_
    | refine iA ?_
    | exact oF (aY ..)
    | apply oK
    | refine lT ?_
    | refine lN ?_
    | refine lX ?_
    | refine hU ?_
    | refine hY ?_
    | apply lK
    | refine oI ?_
    | refine oJ rfl ?_
    | refine lI ?_
    | refine lJ rfl ?_
    | (with_reducible exact rfl)
   exact oF (fB p0 p1 p2 bor cs R M _ hp _)
  ·rw [decide_eq_false h15] at q15
   rw [decide_eq_true (by omega)] at q16
   generalize t.touch i = z at *
   repeat first
    | refine oB (by first | (simp only [aQ, aI, aH, cO, cK, cN, cL, cM, aO, aK, bN, b0, g0, g1, g2, g3, g4, g5, l0, l6, cF, jO, c3, c4, c7, q15, q16, r]; first | done | (with_reducible exact rfl) | (with_reducible exact ⟨rfl, rfl⟩)) | (with_reducible exact rfl)) ?_
    | refine lB (by first | (simp only [aQ, aI, aH, cO, cK, cN, cL, cM, aO, aK, bN, b0, g0, g1, g2, g3, g4, g5, l0, l6, cF, jO, c3, c4, c7, q15, q16, r]; first | done | (with_reducible exact rfl) | (with_reducible exact ⟨rfl, rfl⟩)) | (with_reducible exact rfl)) ?_
    | refine oT ?_
    | refine oN ?_
    | refine oX ?_
    | refine hZ ?_
    | refine iA ?_
    | exact oF (aY ..)
    | apply oK
    | refine lT ?_
    | refine lN ?_
    | refine lX ?_
    | refine hU ?_
    | refine hY ?_
    | apply lK
    | refine oI ?_
    | refine oJ rfl ?_
    | refine lI ?_
    | refine lJ rfl ?_
    | (with_reducible exact rfl)
   exact oF (fB p0 p1 p2 bor cs R M _ hp _)
 rw [if_neg h1]
 rw [decide_eq_false (by omega)] at q15 q16
 by_cases h2 : i.op = 17 ∨ i.op = 18 ∨ i.op = 19
 ·rw [if_pos h2]
  have r := jA p0 p1 p2 bor cs R M t (nA G p0 p1 p2 hp bor cs R M t i hts htl (k + 1) (fun h => hi.a h (by omega)) h2 (hi.k (by omega) (by omega)).1)
  generalize t.branch i = z at *
  by_cases h17 : i.op = 17
  ·rw [decide_eq_true h17] at q17
   repeat first
    | refine oB (by first | (simp only [aQ, aI, aH, cO, cK, cN, cL, cM, aO, aK, bN, b0, g0, g1, g2, g3, g4, g5, l0, l6, cF, jO, c3, c4, c7, q15, q16, q17, q18, q19, r]; first | done | (with_reducible exact rfl) | (with_reducible exact ⟨rfl, rfl⟩)) | (with_reducible exact rfl)) ?_
    | refine lB (by first | (simp only [aQ, aI, aH, cO, cK, cN, cL, cM, aO, aK, bN, b0, g0, g1, g2, g3, g4, g5, l0, l6, cF, jO, c3, c4, c7, q15, q16, q17, q18, q19, r]; first | done | (with_reducible exact rfl) | (with_reducible exact ⟨rfl, rfl⟩)) | (with_reducible exact rfl)) ?_
    | refine oT ?_
    | refine oN ?_
    | refine oX ?_
    | refine hZ ?_
    | refine iA ?_
    | exact oF (aY ..)
    | apply oK
    | refine lT ?_
    | refine lN ?_
    | refine lX ?_
    | refine hU ?_
    | refine hY ?_
    | apply lK
    | refine oI ?_
    | refine oJ rfl ?_
    | refine lI ?_
    | refine lJ rfl ?_
    | (with_reducible exact rfl)
   exact oF (fB p0 p1 p2 bor cs R M _ hp _)
  rw [decide_eq_false h17] at q17
  by_cases h18 : i.op = 18
  ·rw [decide_eq_true h18] at q18
   repeat first
    | refine oB (by first | (simp only [aQ, aI, aH, cO, cK, cN, cL, cM, aO, aK, bN, b0, g0, g1, g2, g3, g4, g5, l0, l6, cF, jO, c3, c4, c7, q15, q16, q17, q18, q19, r]; first | done | (with_reducible exact rfl) | (with_reducible exact ⟨rfl, rfl⟩)) | (with_reducible exact rfl)) ?_
    | refine lB (by first | (simp only [aQ, aI, aH, cO, cK, cN, cL, cM, aO, aK, bN, b0, g0, g1, g2, g3, g4, g5, l0, l6, cF, jO, c3, c4, c7, q15, q16, q17, q18, q19, r]; first | done | (with_reducible exact rfl) | (with_reducible exact ⟨rfl, rfl⟩)) | (with_reducible exact rfl)) ?_
    | refine oT ?_
    | refine oN ?_
    | refine oX ?_
    | refine hZ ?_
    | refine iA ?_
    | exact oF (aY ..)
    | apply oK
    | refine lT ?_
    | refine lN ?_
    | refine lX ?_
    | refine hU ?_
    | refine hY ?_
    | apply lK
    | refine oI ?_
    | refine oJ rfl ?_
    | refine lI ?_
    | refine lJ rfl ?_
    | (with_reducible exact rfl)
   exact oF (fB p0 p1 p2 bor cs R M _ hp _)
  ·rw [decide_eq_false h18] at q18
   rw [decide_eq_true (by omega)] at q19
   repeat first
    | refine oB (by first | (simp only [aQ, aI, aH, cO, cK, cN, cL, cM, aO, aK, bN, b0, g0, g1, g2, g3, g4, g5, l0, l6, cF, jO, c3, c4, c7, q15, q16, q17, q18, q19, r]; first | done | (with_reducible exact rfl) | (with_reducible exact ⟨rfl, rfl⟩)) | (with_reducible exact rfl)) ?_
    | refine lB (by first | (simp only [aQ, aI, aH, cO, cK, cN, cL, cM, aO, aK, bN, b0, g0, g1, g2, g3, g4, g5, l0, l6, cF, jO, c3, c4, c7, q15, q16, q17, q18, q19, r]; first | done | (with_reducible exact rfl) | (with_reducible exact ⟨rfl, rfl⟩)) | (with_reducible exact rfl)) ?_
    | refine oT ?_
    | refine oN ?_
    | refine oX ?_
    | refine hZ ?_
    | refine iA ?_
    | exact oF (aY ..)
    | apply oK
    | refine lT ?_
    | refine lN ?_
    | refine lX ?_
    | refine hU ?_
    | refine hY ?_
    | apply lK
    | refine oI ?_
    | refine oJ rfl ?_
    | refine lI ?_
    | refine lJ rfl ?_
    | (with_reducible exact rfl)
   exact oF (fB p0 p1 p2 bor cs R M _ hp _)
 rw [if_neg h2]
 rw [decide_eq_false (by omega)] at q17 q18 q19
 by_cases h3 : i.op = 20
 ·rw [if_pos h3]
  rw [decide_eq_true h3] at q20
  have r := st5 p0 p1 p2 bor cs R M t i.k
  repeat first
   | refine oB (by first | (simp only [aQ, aI, aH, cO, cK, cN, cL, cM, aO, aK, bN, b0, g0, g1, g2, g3, g4, g5, l0, l5, l6, cF, jO, qH, jX, c3, c4, c7, q15, q16, q17, q18, q19, q20, r]; first | done | (with_reducible exact rfl) | (with_reducible exact ⟨rfl, rfl⟩)) | (with_reducible exact rfl)) ?_
   | refine lB (by first | (simp only [aQ, aI, aH, cO, cK, cN, cL, cM, aO, aK, bN, b0, g0, g1, g2, g3, g4, g5, l0, l5, l6, cF, jO, qH, jX, c3, c4, c7, q15, q16, q17, q18, q19, q20, r]; first | done | (with_reducible exact rfl) | (with_reducible exact ⟨rfl, rfl⟩)) | (with_reducible exact rfl)) ?_
   | refine oT ?_
   | refine oN ?_
   | refine oX ?_
   | refine hZ ?_
   | refine iA ?_
   | exact oF (aY ..)
   | apply oK
   | refine lT ?_
   | refine lN ?_
   | refine lX ?_
   | refine hU ?_
   | refine hY ?_
   | apply lK
   | refine oI ?_
   | refine oJ rfl ?_
   | refine lI ?_
   | refine lJ rfl ?_
   | (with_reducible exact rfl)
  exact oF (fB p0 p1 p2 bor cs R M _ hp _)
 rw [if_neg h3]
 rw [decide_eq_false h3] at q20
 have hop := hi.op
 obtain ⟨a0, aR⟩ := hi.a (by omega) h3
 obtain ⟨d0, dR⟩ := hi.d (by omega)
 obtain ⟨bb0, bR⟩ := hi.b (by omega)
 obtain ⟨cc0, cR⟩ := hi.c (by omega)
 have f0 := sH G p0 p1 p2 bor cs R M t
 have f1 := mM t i.a a0
 rw [if_pos (by rw [htr]; omega)] at f1
 have f2 := ldR G p0 p1 p2 bor cs R M t i.a.toNat (by rw [htr]; omega)
 have f3 := mM t i.b bb0
 rw [if_pos (by rw [htr]; omega)] at f3
 have f4 := ldR G p0 p1 p2 bor cs R M t i.b.toNat (by rw [htr]; omega)
 have f5 := mM t i.c cc0
 rw [if_pos (by rw [htr]; omega)] at f5
 have f6 := ldR G p0 p1 p2 bor cs R M t i.c.toNat (by rw [htr]; omega)
 have f7 := mM t i.d d0
 rw [if_pos (by rw [htr]; omega)] at f7
 have ev : Ins.v i = gO i.op i.d i.a i.b i.c i.k := rfl
 have r : ∀ H, aL (cV.f G (k + 3)) [i.v, Un (t.rg i.a), Un (t.rg i.b), Un (t.rg i.c)] H = _ := fun H => aX (H := H) (vX G (k + 1) i.op i.d i.a i.b i.c i.k _ _ _ (hts.rg _) (hts.rg _) (hts.rg _)) rfl rfl
 have f8 := stR p0 p1 p2 bor cs R M t i.d.toNat (gJ i.op i.k (t.rg i.a) (t.rg i.b) (t.rg i.c)).1 (by rw [htr]; omega)
 have e1 : t.regs.getD i.a.toNat 0 = t.rg i.a := rfl
 have e2 : t.regs.getD i.b.toNat 0 = t.rg i.b := rfl
 have e3 : t.regs.getD i.c.toNat 0 = t.rg i.c := rfl
 have e4 : ∀ x, ({ t with regs := t.regs.set i.d.toNat x } : MS) = t.set i.d x := fun x => rfl
 rw [e4] at f8
 rw [e1] at f2
 rw [e2] at f4
 rw [e3] at f6
 generalize t.rg i.a = ra at *
 generalize t.rg i.b = rb at *
 generalize t.rg i.c = rc at *
 generalize gJ i.op i.k ra rb rc = v at *
 obtain ⟨vn, vb⟩ := v
 have x0 : ∀ u v : AV, aG (.tup [u, v]) 0 = some u := fun _ _ => rfl
 have x1 : ∀ u v : AV, aG (.tup [u, v]) 1 = some v := fun _ _ => rfl
 cases vb
 ·rw [if_neg (by simp)]
  simp only at r f8
  repeat first
   | refine oB (by first | (simp only [aQ, aI, aH, cO, cK, cN, cL, cM, aO, aK, bN, b0, g0, l0, cF, jO, c3, c4, c7, q15, q16, q17, q18, q19, q20]; first | done | (with_reducible exact rfl) | (with_reducible exact ⟨rfl, rfl⟩)) | (with_reducible exact rfl)) ?_
   | refine lB (by first | (simp only [aQ, aI, aH, cO, cK, cN, cL, cM, aO, aK, bN, b0, g0, l0, cF, jO, c3, c4, c7, q15, q16, q17, q18, q19, q20]; first | done | (with_reducible exact rfl) | (with_reducible exact ⟨rfl, rfl⟩)) | (with_reducible exact rfl)) ?_
   | refine oT ?_
   | refine oN ?_
   | refine oX ?_
   | refine hZ ?_
   | refine iA ?_
   | exact oF (aY ..)
   | apply oK
   | refine lT ?_
   | refine lN ?_
   | refine lX ?_
   | refine hU ?_
   | refine hY ?_
   | apply lK
   | refine oI ?_
   | refine oJ rfl ?_
   | refine lI ?_
   | refine lJ rfl ?_
   | (with_reducible exact rfl)
  refine oB (by simp only [aQ, aI, aH, l6]; rfl) ?_
  repeat first
   | refine oB (by first | (simp only [aQ, aI, aH, cO, cK, cN, cL, cM, aO, aK, bN, cF, g1, g2, g3, g4, l1, l2, l3, l4, qG, f0, f1, f2, f3, f4, f5, f6, r, x0, x1]; first | done | (with_reducible exact rfl) | (with_reducible exact ⟨rfl, rfl⟩)) | (with_reducible exact rfl)) ?_
   | refine lB (by first | (simp only [aQ, aI, aH, cO, cK, cN, cL, cM, aO, aK, bN, cF, g1, g2, g3, g4, l1, l2, l3, l4, qG, f0, f1, f2, f3, f4, f5, f6, r, x0, x1]; first | done | (with_reducible exact rfl) | (with_reducible exact ⟨rfl, rfl⟩)) | (with_reducible exact rfl)) ?_
   | refine oT ?_
   | refine oN ?_
   | refine oX ?_
   | refine hZ ?_
   | refine iA ?_
   | exact oF (aY ..)
   | apply oK
   | refine lT ?_
   | refine lN ?_
   | refine lX ?_
   | refine hU ?_
   | refine hY ?_
   | apply lK
   | refine oI ?_
   | refine oJ rfl ?_
   | refine lI ?_
   | refine lJ rfl ?_
   | (with_reducible exact rfl)
  exact oF (fB p0 p1 p2 bor cs R M _ hp _)
 ·rw [if_pos rfl]
  simp only at r f8
  repeat first
   | refine oB (by first | (simp only [aQ, aI, aH, cO, cK, cN, cL, cM, aO, aK, bN, b0, g0, l0, cF, jO, c3, c4, c7, q15, q16, q17, q18, q19, q20]; first | done | (with_reducible exact rfl) | (with_reducible exact ⟨rfl, rfl⟩)) | (with_reducible exact rfl)) ?_
   | refine lB (by first | (simp only [aQ, aI, aH, cO, cK, cN, cL, cM, aO, aK, bN, b0, g0, l0, cF, jO, c3, c4, c7, q15, q16, q17, q18, q19, q20]; first | done | (with_reducible exact rfl) | (with_reducible exact ⟨rfl, rfl⟩)) | (with_reducible exact rfl)) ?_
   | refine oT ?_
   | refine oN ?_
   | refine oX ?_
   | refine hZ ?_
   | refine iA ?_
   | exact oF (aY ..)
   | apply oK
   | refine lT ?_
   | refine lN ?_
   | refine lX ?_
   | refine hU ?_
   | refine hY ?_
   | apply lK
   | refine oI ?_
   | refine oJ rfl ?_
   | refine lI ?_
   | refine lJ rfl ?_
   | (with_reducible exact rfl)
  refine oB (by simp only [aQ, aI, aH, l6]; rfl) ?_
  repeat first
   | refine oB (by first | (simp only [aQ, aI, aH, cO, cK, cN, cL, cM, aO, aK, bN, cF, g1, g2, g3, g4, l1, l2, l3, l4, qG, f0, f1, f2, f3, f4, f5, f6, f7, f8, r, x0, x1]; first | done | (with_reducible exact rfl) | (with_reducible exact ⟨rfl, rfl⟩)) | (with_reducible exact rfl)) ?_
   | refine lB (by first | (simp only [aQ, aI, aH, cO, cK, cN, cL, cM, aO, aK, bN, cF, g1, g2, g3, g4, l1, l2, l3, l4, qG, f0, f1, f2, f3, f4, f5, f6, f7, f8, r, x0, x1]; first | done | (with_reducible exact rfl) | (with_reducible exact ⟨rfl, rfl⟩)) | (with_reducible exact rfl)) ?_
   | refine oT ?_
   | refine oN ?_
   | refine oX ?_
   | refine hZ ?_
   | refine iA ?_
   | exact oF (aY ..)
   | apply oK
   | refine lT ?_
   | refine lN ?_
   | refine lX ?_
   | refine hU ?_
   | refine hY ?_
   | apply lK
   | refine oI ?_
   | refine oJ rfl ?_
   | refine lI ?_
   | refine lJ rfl ?_
   | (with_reducible exact rfl)
  exact oF (fB p0 p1 p2 bor cs R M _ hp _)
end
end Go.Proofs.YtcmblhedhgiofaaDoor.Mir.B3
namespace Go.Proofs.YtcmblhedhgiofaaDoor.Mir.B3
open Go
set_option linter.unusedVariables false
set_option linter.unusedSimpArgs false
set_option maxHeartbeats 8000000
set_option maxRecDepth 20000
def askedB (op : Int) : Bool := decide (op = 3 ∨ op = 4 ∨ op = 5 ∨ op = 10)
theorem aAT (G : aE) (k : Nat) (op : Int) : cW.f G (k + 1) [I6 op] [] = some (.bool (askedB op), []) := by
 rw [cW.step]
 unfold cW.c
 refine gZ ?_
 by_cases h : op = 3 ∨ op = 4 ∨ op = 5 ∨ op = 10
 ·have e : askedB op = true := decide_eq_true h
  rw [e]
  repeat' first
   | (with_reducible first | refine eT ?_ | refine eN ?_ | refine eS ?_ | refine eXn ?_ | refine eXr ?_ | refine eX ?_ | refine eI ?_ | refine eK ?_ | refine yG ?_ | refine oO ?_ | refine oR ?_ | refine oH ?_ | refine oQ ?_ | refine oL ?_ | refine oM ?_)
   | ((with_reducible apply eCn); (simp only [aI, aH]; first | done | (with_reducible exact rfl)))
   | ((with_reducible apply eJ); (rfl))
   | ((with_reducible apply oP); (first | rfl | (simp only [aI, aH]; rfl)))
   | ((with_reducible apply eB); (first | (with_reducible exact rfl) | (simp (disch := omega) only [qa, dH, AV.cells, aT, aU, cQ, aZ, aW, cH, Nat.reduceLeDiff, Nat.reduceLT, Nat.reduceAdd, ↓reduceIte]; first | done | (with_reducible exact rfl) | (with_reducible exact ⟨rfl, rfl⟩))))
   | ((with_reducible apply eR); (simp only [aI, aH]; (with_reducible exact rfl)))
   | ((with_reducible first | refine pM ?_ ?_ | refine pR ?_ ?_ | refine pQ ?_ ?_ | refine pP ?_ ?_ | refine pO ?_ ?_ | refine pN ?_ ?_ | refine pS ?_ ?_ | refine kN ?_ ?_ | refine sGd ?_ ?_ | refine kI ?_ ?_) <;> intro hq <;> try subst hq)
  all_goals first | omega | exact w1b rfl
 ·have e : askedB op = false := decide_eq_false h
  rw [e]
  repeat' first
   | (with_reducible first | refine eT ?_ | refine eN ?_ | refine eS ?_ | refine eXn ?_ | refine eXr ?_ | refine eX ?_ | refine eI ?_ | refine eK ?_ | refine yG ?_ | refine oO ?_ | refine oR ?_ | refine oH ?_ | refine oQ ?_ | refine oL ?_ | refine oM ?_)
   | ((with_reducible apply eCn); (simp only [aI, aH]; first | done | (with_reducible exact rfl)))
   | ((with_reducible apply eJ); (rfl))
   | ((with_reducible apply oP); (first | rfl | (simp only [aI, aH]; rfl)))
   | ((with_reducible apply eB); (first | (with_reducible exact rfl) | (simp (disch := omega) only [qa, dH, AV.cells, aT, aU, cQ, aZ, aW, cH, Nat.reduceLeDiff, Nat.reduceLT, Nat.reduceAdd, ↓reduceIte]; first | done | (with_reducible exact rfl) | (with_reducible exact ⟨rfl, rfl⟩))))
   | ((with_reducible apply eR); (simp only [aI, aH]; (with_reducible exact rfl)))
   | ((with_reducible first | refine pM ?_ ?_ | refine pR ?_ ?_ | refine pQ ?_ ?_ | refine pP ?_ ?_ | refine pO ?_ ?_ | refine pN ?_ ?_ | refine pS ?_ ?_ | refine kN ?_ ?_ | refine sGd ?_ ?_ | refine kI ?_ ?_) <;> intro hq <;> try subst hq)
  all_goals first | omega | exact w1b rfl
def hasB (p : Int × Int) (n : Int) : Bool := decide (p.1 ≤ n ∧ n ≤ p.2)
theorem uQ (G : aE) (k : Nat) (p : Int × Int) (n : Int) : eE.f G (k + 1) [bW p, I6 n] [] = some (.bool (hasB p n), []) := by
 rw [eE.step]
 unfold eE.c bW
 refine gZ ?_
 by_cases h : p.1 ≤ n ∧ n ≤ p.2
 ·have e : hasB p n = true := decide_eq_true h
  rw [e]
  repeat' first
   | (with_reducible first | refine eT ?_ | refine eN ?_ | refine eS ?_ | refine eXn ?_ | refine eXr ?_ | refine eX ?_ | refine eI ?_ | refine eK ?_ | refine yG ?_ | refine oO ?_ | refine oR ?_ | refine oH ?_ | refine oQ ?_ | refine oL ?_ | refine oM ?_)
   | ((with_reducible apply eCn); (simp only [aI, aH]; first | done | (with_reducible exact rfl)))
   | ((with_reducible apply eJ); (rfl))
   | ((with_reducible apply oP); (first | rfl | (simp only [aI, aH]; rfl)))
   | ((with_reducible apply eB); (first | (with_reducible exact rfl) | (simp (disch := omega) only [qa, dH, AV.cells, aT, aU, cQ, aZ, aW, cH, Nat.reduceLeDiff, Nat.reduceLT, Nat.reduceAdd, ↓reduceIte]; first | done | (with_reducible exact rfl) | (with_reducible exact ⟨rfl, rfl⟩))))
   | ((with_reducible apply eR); (simp only [aI, aH]; (with_reducible exact rfl)))
   | ((with_reducible first | refine pM ?_ ?_ | refine pR ?_ ?_ | refine pQ ?_ ?_ | refine pP ?_ ?_ | refine pO ?_ ?_ | refine pN ?_ ?_ | refine pS ?_ ?_ | refine kN ?_ ?_ | refine sGd ?_ ?_ | refine kI ?_ ?_) <;> intro hq <;> try subst hq)
  all_goals first | omega | exact w1b rfl
 ·have e : hasB p n = false := decide_eq_false h
  rw [e]
  repeat' first
   | (with_reducible first | refine eT ?_ | refine eN ?_ | refine eS ?_ | refine eXn ?_ | refine eXr ?_ | refine eX ?_ | refine eI ?_ | refine eK ?_ | refine yG ?_ | refine oO ?_ | refine oR ?_ | refine oH ?_ | refine oQ ?_ | refine oL ?_ | refine oM ?_)
   | ((with_reducible apply eCn); (simp only [aI, aH]; first | done | (with_reducible exact rfl)))
   | ((with_reducible apply eJ); (rfl))
   | ((with_reducible apply oP); (first | rfl | (simp only [aI, aH]; rfl)))
   | ((with_reducible apply eB); (first | (with_reducible exact rfl) | (simp (disch := omega) only [qa, dH, AV.cells, aT, aU, cQ, aZ, aW, cH, Nat.reduceLeDiff, Nat.reduceLT, Nat.reduceAdd, ↓reduceIte]; first | done | (with_reducible exact rfl) | (with_reducible exact ⟨rfl, rfl⟩))))
   | ((with_reducible apply eR); (simp only [aI, aH]; (with_reducible exact rfl)))
   | ((with_reducible first | refine pM ?_ ?_ | refine pR ?_ ?_ | refine pQ ?_ ?_ | refine pP ?_ ?_ | refine pO ?_ ?_ | refine pN ?_ ?_ | refine pS ?_ ?_ | refine kN ?_ ?_ | refine sGd ?_ ?_ | refine kI ?_ ?_) <;> intro hq <;> try subst hq)
  all_goals first | omega | exact w1b rfl
def wrongB (sp : List (Int × Int)) (s : MS) (i : Ins) : Bool :=
 askedB i.op && !((wG i.op i.k (s.rg i.a) (s.rg i.b)).2 && hasB (sp.getD s.at_ (0, 0)) (wG i.op i.k (s.rg i.a) (s.rg i.b)).1)
abbrev b0 (bor : Bool) (cs : List Ins) (R M : Int) : ABlk := ⟨24, 3, [gQ bor cs R M]⟩
abbrev b1 (b2 : Bool) (sp : List (Int × Int)) : ABlk := ⟨60, 1, [.ro b2 (bD sp)]⟩
abbrev bw (w : Int) : ABlk := ⟨3, 1, [I6 w]⟩
abbrev zI : AV := .agg [.int .i64 0, .int .i64 0, .int .i64 0, .int .i64 0, .int .i64 0, .int .i64 0]
section
variable (G : aE) (bor b2 b3 : Bool) (cs : List Ins) (sp : List (Int × Int)) (R : Nat) (M : Int) (s : MS)
theorem aGj (w : Int) : bS 9 (b0 bor cs R M).elems = true ∧ bS 9 (b1 b2 sp).elems = true ∧ bS 9 (bw w).elems = true := by
 simp [bS, bX, gQ, fI, fN]
def hpX (w : Int) (x : AV) : aB := fM (b0 bor cs R M) (b1 b2 sp) (bw w) b3 cs R M s ++ [⟨52, 6, [x]⟩]
theorem aHa (w : Int) : dC 52 zI (fM (b0 bor cs R M) (b1 b2 sp) (bw w) b3 cs R M s) = some (.ptr 9 1 0 0, hpX bor b2 b3 cs sp R M s w zI) := rfl
theorem xSt (w : Int) (i : Ins) : dY (aN 6 (.ptr 9 1 0 0) i.v (hpX bor b2 b3 cs sp R M s w zI)) = some (.tup [], hpX bor b2 b3 cs sp R M s w i.v) := rfl
theorem xI0 (w : Int) (i : Ins) : aC G false 1 (.ptr 9 1 0 0) (hpX bor b2 b3 cs sp R M s w i.v) = some (I6 i.op) := rfl
theorem xI2 (w : Int) (i : Ins) : aC G false 1 (.ptr 9 1 0 2) (hpX bor b2 b3 cs sp R M s w i.v) = some (I6 i.a) := rfl
theorem xI3 (w : Int) (i : Ins) : aC G false 1 (.ptr 9 1 0 3) (hpX bor b2 b3 cs sp R M s w i.v) = some (I6 i.b) := rfl
theorem xI6 (w : Int) (i : Ins) : aC G true 6 (.ptr 9 1 0 0) (hpX bor b2 b3 cs sp R M s w i.v) = some i.v := rfl
theorem aGA (w : Int) : aC G false 1 (.ptr 0 1 0 0) (fM (b0 bor cs R M) (b1 b2 sp) (bw w) b3 cs R M s) = some (.ro bor (dB cs)) := rfl
theorem xSp (w : Int) (x : AV) : aC G false 1 (.ptr 1 1 0 0) (hpX bor b2 b3 cs sp R M s w x) = some (.ro b2 (bD sp)) := rfl
theorem aGB (w : Int) (x : AV) : aC G false 1 (.ptr 2 1 0 0) (hpX bor b2 b3 cs sp R M s w x) = some (I6 w) := rfl
theorem aHb (w n : Int) (x : AV) : dY (aN 1 (.ptr 2 1 0 0) (I6 n) (hpX bor b2 b3 cs sp R M s w x)) = some (.tup [], hpX bor b2 b3 cs sp R M s n x) := rfl
theorem xR (w : Int) (x : AV) (j : Nat) (h : j < s.regs.length) : aC G false 1 (.ptr 4 s.regs.length j 0) (hpX bor b2 b3 cs sp R M s w x) = some (Un (s.regs.getD j 0)) := by
 have e : (hpX bor b2 b3 cs sp R M s w x)[4]? = some ⟨48, 1, dE s.regs⟩ := rfl
 unfold aC
 simp only [e, fU, gW _ _ h, if_true]
 rfl
theorem aEY (w : Int) (x : AV) (c : Bool) : cT [.bool c] 9 (hpX bor b2 b3 cs sp R M s w x) = some (.ret, [.bool c], fM (b0 bor cs R M) (b1 b2 sp) (bw w) b3 cs R M s) := by
 have e : (hpX bor b2 b3 cs sp R M s w x).take 9 = fM (b0 bor cs R M) (b1 b2 sp) (bw w) b3 cs R M s := rfl
 have e2 := qL (b0 bor cs R M) (b1 b2 sp) (bw w) b3 cs R M s (aGj bor b2 cs sp R M w)
 exact yL rfl (by rw [e]; exact e2) |>.trans (by rw [e])
theorem idSp (b : Bool) (j : Nat) (h : j < sp.length) : aF 2 (.ro b (bD sp)) (Nn j) = some (.rp b (bW (sp.getD j (0, 0))) 0) := by
 have h0 : (0 : Int) ≤ (j : Int) := by omega
 have e : (bD sp)[(j : Int).toNat]? = some (bW (sp.getD j (0, 0))) := by
  rw [Int.toNat_natCast]
  simp [bD, List.getElem?_map, List.getD, List.getElem?_eq_getElem h]
 unfold aF
 simp only [e]
 rw [if_pos h0]
 rfl
theorem aGT (b : Bool) (p : Int × Int) (H : aB) : aC G true 2 (.rp b (bW p) 0) H = some (bW p) := rfl
theorem zT (k : Nat) (i : Ins) (hs : s.Ok R) (hsp : sp.length = cs.length) (hat : s.at_ < cs.length) (hci : cs.getD s.at_ default = i) (hi : i.Ok R cs.length) (w : Int) (hw : w < 0) :
  cC.f G (k + 3) [Nn s.at_, .sl 4 s.regs.length 0 s.regs.length 1, .ptr 0 1 0 0, .ptr 1 1 0 0, .ptr 2 1 0 0] (fM (b0 bor cs R M) (b1 b2 sp) (bw w) b3 cs R M s) =
   some (.bool (!wrongB sp s i), fM (b0 bor cs R M) (b1 b2 sp) (bw (if wrongB sp s i = true then s.at_ else w)) b3 cs R M s) := by
 rw [cC.step]
 unfold cC.c
 have hR := hs.len
 have f1 := aGA G bor b2 b3 cs sp R M s w
 have f2 := aBX bor cs s.at_ hat
 rw [hci] at f2
 have f3 := fun H => aDy G bor i H
 have f4 := aHa bor b2 b3 cs sp R M s w
 have f5 := xSt bor b2 b3 cs sp R M s w i
 have f6 := xI0 G bor b2 b3 cs sp R M s w i
 have f7 : ∀ H, aL (cW.f G (k + 2)) [I6 i.op] H = _ := fun H => aX (H := H) (aAT G (k + 1) i.op) rfl rfl
 have hlen : (fM (b0 bor cs R M) (b1 b2 sp) (bw w) b3 cs R M s).length = 9 := rfl
 rw [hlen]
 refine gZ ?_
 unfold wrongB
 cases ha : askedB i.op
 ·rw [ha] at f7
  have fx := aHv f1 <| aHv f2 <| aHv f3 <| aHv f4 <| aHv f5 <| aHv f6 <| f7
  refine tU ?_
  refine oF ?_
  rw [aEY]; rfl
 ·rw [ha] at f7
  have hop : i.op = 3 ∨ i.op = 4 ∨ i.op = 5 ∨ i.op = 10 := of_decide_eq_true ha
  have a1 := hi.a (by omega) (by omega)
  have a2 := hi.b (by omega)
  have g1 := xI2 G bor b2 b3 cs sp R M s w i
  have g2 := xI3 G bor b2 b3 cs sp R M s w i
  have g3 := xI6 G bor b2 b3 cs sp R M s w i
  have g4 := mM s i.a a1.1
  rw [if_pos (by omega)] at g4
  have g5 := mM s i.b a2.1
  rw [if_pos (by omega)] at g5
  have g6 : aC G false 1 (.ptr 4 s.regs.length i.a.toNat 0) (hpX bor b2 b3 cs sp R M s w i.v) = some (Un (s.rg i.a)) := xR G bor b2 b3 cs sp R M s w i.v i.a.toNat (by omega)
  have g7 : aC G false 1 (.ptr 4 s.regs.length i.b.toNat 0) (hpX bor b2 b3 cs sp R M s w i.v) = some (Un (s.rg i.b)) := xR G bor b2 b3 cs sp R M s w i.v i.b.toNat (by omega)
  have g8 : ∀ H, aL (bU.f G (k + 2)) [i.v, Un (s.rg i.a), Un (s.rg i.b)] H = _ := fun H => aX (H := H) (aCI G k i.op i.d i.a i.b i.c i.k _ _ (hs.rg _) (hs.rg _)) rfl rfl
  obtain ⟨p, hp⟩ : ∃ p, p = wG i.op i.k (s.rg i.a) (s.rg i.b) := ⟨_, rfl⟩
  rw [← hp] at g8 ⊢
  obtain ⟨n, is⟩ := p
  unfold exV at g8
  simp only at g8 ⊢
  have g9 := xSp G bor b2 b3 cs sp R M s w i.v
  have g10 := idSp sp b2 s.at_ (by omega)
  have g11 := fun H => aGT G b2 (sp.getD s.at_ (0, 0)) H
  have g12 : ∀ H, aL (eE.f G (k + 2)) [bW (sp.getD s.at_ (0, 0)), I6 n] H = _ := fun H => aX (H := H) (uQ G (k + 1) (sp.getD s.at_ (0, 0)) n) rfl rfl
  have g13 := aHb bor b2 b3 cs sp R M s w s.at_ i.v
  have g14 := aGB G bor b2 b3 cs sp R M s w i.v
  have g15 := aGB G bor b2 b3 cs sp R M s s.at_ i.v
  have q1 : bE Tryd.prog .lss 3 true (I6 w) (.int .i64 0) = some (.bool true) := mO hw
  have q2 : bE Tryd.prog .lss 3 true (Nn s.at_) (.int .i64 0) = some (.bool false) := lF (by omega)
  clear hp ha hop
  generalize hasB (sp.getD s.at_ (0, 0)) n = hh at *
  cases is
  ·have fx := aHv f1 <| aHv f2 <| aHv f3 <| aHv f4 <| aHv f5 <| aHv f6 <| aHv f7 <| aHv g1 <| aHv g2 <| aHv g3 <| aHv g4 <| aHv g5 <| aHv g6 <| aHv g7 <| aHv g8 <| aHv g9 <| aHv g10 <| aHv g11 <| aHv g12 <| aHv g13 <| aHv g14 <| aHv g15 <| aHv q1 <| q2
   refine tU ?_
   refine oF ?_
   rw [aEY]; rfl
  ·cases hh
   ·have fx := aHv f1 <| aHv f2 <| aHv f3 <| aHv f4 <| aHv f5 <| aHv f6 <| aHv f7 <| aHv g1 <| aHv g2 <| aHv g3 <| aHv g4 <| aHv g5 <| aHv g6 <| aHv g7 <| aHv g8 <| aHv g9 <| aHv g10 <| aHv g11 <| aHv g12 <| aHv g13 <| aHv g14 <| aHv g15 <| aHv q1 <| q2
    refine tU ?_
    refine oF ?_
    rw [aEY]; rfl
   ·have fx := aHv f1 <| aHv f2 <| aHv f3 <| aHv f4 <| aHv f5 <| aHv f6 <| aHv f7 <| aHv g1 <| aHv g2 <| aHv g3 <| aHv g4 <| aHv g5 <| aHv g6 <| aHv g7 <| aHv g8 <| aHv g9 <| aHv g10 <| aHv g11 <| aHv g12 <| aHv g13 <| aHv g14 <| aHv g15 <| aHv q1 <| q2
    refine tU ?_
    refine oF ?_
    rw [aEY]; rfl
end
end Go.Proofs.YtcmblhedhgiofaaDoor.Mir.B3
namespace Go.Proofs.YtcmblhedhgiofaaDoor.Mir.B3
open Go
set_option linter.unusedVariables false
set_option linter.unusedSimpArgs false
set_option maxHeartbeats 8000000
set_option maxRecDepth 20000
def runB (sp : List (Int × Int)) (cs : List Ins) (fuel : Int) : Nat → MS → Option (MS × Int)
 | 0, _ => none
 | f + 1, s =>
  if cs.length ≤ s.at_ then some ({ s with code := 3 }, -1)
  else if (s.steps : Int) = fuel then some ({ s with code := 4 }, -1)
  else if wrongB sp s (cs.getD s.at_ default) = true then some (s, s.at_)
  else match s.tick.step (cs.getD s.at_ default) with
   | (s', true) => runB sp cs fuel f s'
   | (s', false) => some (s', -1)
theorem xK (sp : List (Int × Int)) (cs : List Ins) (fuel : Int) : ∀ (f : Nat) (s : MS), (s.steps : Int) ≤ fuel → fuel - s.steps < f → ∃ o, runB sp cs fuel f s = some o
 | 0, s, h, h2 => by omega
 | f + 1, s, h, h2 => by
  simp only [runB]
  by_cases h1 : cs.length ≤ s.at_
  ·rw [if_pos h1]; exact ⟨_, rfl⟩
  rw [if_neg h1]
  by_cases h3 : (s.steps : Int) = fuel
  ·rw [if_pos h3]; exact ⟨_, rfl⟩
  rw [if_neg h3]
  by_cases h4 : wrongB sp s (cs.getD s.at_ default) = true
  ·rw [if_pos h4]; exact ⟨_, rfl⟩
  rw [if_neg h4]
  have e : ∀ i, (s.tick.step i).1.steps = s.steps + 1 := fun i => by
   unfold MS.step MS.touch MS.branch
   simp only
   repeat' split
   all_goals rfl
  have e' := e (cs.getD s.at_ default)
  obtain ⟨s2, b, hsb⟩ : ∃ s2 b, s.tick.step (cs.getD s.at_ default) = (s2, b) := ⟨_, _, rfl⟩
  rw [hsb] at e' ⊢
  cases b
  ·exact ⟨_, rfl⟩
  ·exact xK sp cs fuel f s2 (by simp only at e'; omega) (by simp only at e'; omega)
def vL (s : MS) : AV := .agg [I6 s.code, .sl 7 s.mem.length 0 s.mem.length 1, .sl 8 s.leaks.length 0 s.leaks.length 2, Nn s.steps]
abbrev LK : AV := .fn 60 [.ptr 0 1 0 0, .ptr 1 1 0 0, .ptr 2 1 0 0]
def xsM (fuel : Int) (bor bb : Bool) (cs : List Ins) (R M : Int) : List AV := [I6 fuel, LK, .rp bb (.agg [.ro bor (dB cs), I6 R, I6 M]) 0, .ptr 3 1 0 0, PX]
section
variable (G : aE) (bor b2 b3 bb : Bool) (cs : List Ins) (sp : List (Int × Int)) (R : Nat) (M : Int) (fuel : Int) (self : cY) (k : Nat)
abbrev hpT (w : Int) (s : MS) : aB := fM (b0 bor cs R M) (b1 b2 sp) (bw w) b3 cs R M s
def qK (w : Int) (s : MS) : aB := (hpT bor b2 b3 cs sp R M w s).set 3 ⟨40, 4, [vL s]⟩
theorem sI (w : Int) (s : MS) : aC G true 4 (.ptr 5 1 0 5) (hpT bor b2 b3 cs sp R M w s) = some (vL s) := rfl
theorem sZ (w : Int) (s : MS) : dY (aN 4 (.ptr 3 1 0 0) (vL s) (hpT bor b2 b3 cs sp R M w s)) = some (.tup [], qK bor b2 b3 cs sp R M w s) := rfl
theorem wC : bS 9 (xsM fuel b3 bb cs R M) = true := by simp [xsM, bS, bX, fI]
theorem kP (hf : fuel ≤ 99999) (hcl : cs.length ≤ 100000) (hsp : sp.length = cs.length) (hcs : ∀ j, j < cs.length → (cs.getD j default).Ok R cs.length) : ∀ (f : Nat) (s s' : MS) (w : Int), runB sp cs fuel f s = some (s', w) → s.Ok R → s.at_ ≤ cs.length → (s.steps : Int) ≤ fuel →
  eU (bL.l3 G (k + 4) 9 self) f (xsM fuel b3 bb cs R M) (hpT bor b2 b3 cs sp R M (-1) s) = some (.ret, xsM fuel b3 bb cs R M, qK bor b2 b3 cs sp R M w s')
 | 0, s, s', w, h, _, _, _ => by simp [runB] at h
 | f + 1, s, s', w, h, hs, hat, hst => by
  have few := hs.few
  have lks := hs.leaks
  have hp := aGj bor b2 cs sp R M (-1)
  rw [dF, bL.l3]
  refine iV ?_
  refine eC (pI (b0 bor cs R M) (b1 b2 sp) (bw (-1)) b3 cs R M s hp _ (wC b3 bb cs R M fuel)) ?_
  have c16 := ld4 G (b0 bor cs R M) (b1 b2 sp) (bw (-1)) b3 cs R M s
  have c18 : ∀ H, aC G false 1 (.rp bb (.agg [.ro b3 (dB cs), I6 R, I6 M]) 0) H = some (.ro b3 (dB cs)) := fun H => rfl
  have c19 : bO (.ro b3 (dB cs)) = some (Nn cs.length) := by simp [bO, fS]
  have c31 := ld8 G (b0 bor cs R M) (b1 b2 sp) (bw (-1)) b3 cs R M s
  have q2 : bE Tryd.prog .neq 107 true LK .nilf = some (.bool true) := by kernel_rfl
  have c3 := sH G (b0 bor cs R M) (b1 b2 sp) (bw (-1)) b3 cs R M s
  simp only [runB] at h
  unfold xsM
  by_cases h1 : cs.length ≤ s.at_
  ·rw [if_pos h1] at h
   simp only [Option.some.injEq, Prod.mk.injEq] at h
   obtain ⟨h, rfl⟩ := h
   have c20 : bE Tryd.prog .geq 3 false (Nn s.at_) (Nn cs.length) = some (.bool true) := by rw [iT, decide_eq_true (by omega)]
   have c24 := st5 (b0 bor cs R M) (b1 b2 sp) (bw (-1)) b3 cs R M s 3
   rw [h] at c24
   have c27 := sI G bor b2 b3 cs sp R M (-1) s'
   have c28 := sZ bor b2 b3 cs sp R M (-1) s'
   have fx := aHv c16 <| aHv c18 <| aHv c19 <| aHv c20 <| aHv c24 <| aHv c27 <| c28
   refine jC ?_
   refine hP ?_; rfl
  rw [if_neg h1] at h
  have c20 : bE Tryd.prog .geq 3 false (Nn s.at_) (Nn cs.length) = some (.bool false) := by rw [iT, decide_eq_false (by omega)]
  by_cases h2 : (s.steps : Int) = fuel
  ·rw [if_pos h2] at h
   simp only [Option.some.injEq, Prod.mk.injEq] at h
   obtain ⟨h, rfl⟩ := h
   have c33 : bE Tryd.prog .eql 2 false (Nn s.steps) (I6 fuel) = some (.bool true) := by rw [fE, decide_eq_true h2]
   have c24 := st5 (b0 bor cs R M) (b1 b2 sp) (bw (-1)) b3 cs R M s 4
   rw [h] at c24
   have c27 := sI G bor b2 b3 cs sp R M (-1) s'
   have c28 := sZ bor b2 b3 cs sp R M (-1) s'
   have fx := aHv c16 <| aHv c18 <| aHv c19 <| aHv c20 <| aHv c24 <| aHv c27 <| aHv c28 <| aHv c31 <| c33
   refine jC ?_
   refine hP ?_; rfl
  rw [if_neg h2] at h
  have c33 : bE Tryd.prog .eql 2 false (Nn s.steps) (I6 fuel) = some (.bool false) := by rw [fE, decide_eq_false h2]
  have hi := hcs s.at_ (by omega)
  obtain ⟨i, hii⟩ : ∃ i, cs.getD s.at_ default = i := ⟨_, rfl⟩
  have c40 : oY (fV (bL.env G (k + 4) self)) LK [Nn s.at_, .sl 4 s.regs.length 0 s.regs.length 1] (hpT bor b2 b3 cs sp R M (-1) s) = _ :=
   jR (zT G bor b2 b3 cs sp R M s (k + 1) i hs hsp (by omega) hii (by rw [← hii]; exact hi) (-1) (by omega)) (by simp [fM])
  rw [hii] at h hi
  by_cases h3 : wrongB sp s i = true
  ·rw [if_pos h3] at h
   simp only [Option.some.injEq, Prod.mk.injEq] at h
   obtain ⟨rfl, rfl⟩ := h
   rw [if_pos h3, h3] at c40
   have c27 := sI G bor b2 b3 cs sp R M s.at_ s
   have c28 := sZ bor b2 b3 cs sp R M s.at_ s
   have fx := aHv c16 <| aHv c18 <| aHv c19 <| aHv c20 <| aHv c27 <| aHv c28 <| aHv c31 <| aHv c33 <| aHv q2 <| aHv c3 <| aHv c40 <| aHv Bool.not_true <| Bool.not_false
   refine jC ?_
   refine hP ?_; rfl
  rw [if_neg h3] at h
  rw [Bool.not_eq_true] at h3
  rw [if_neg (by rw [h3]; simp), h3] at c40
  have c62 : bE Tryd.prog .add 2 true (Nn s.steps) (.int .i64 1) = some (Nn (s.steps + 1)) := by
   rw [gN, dJ (by omega) (by omega)]; congr 2
  have c67 := st8 (b0 bor cs R M) (b1 b2 sp) (bw (-1)) b3 cs R M s (s.steps + 1)
  have c70 := ld4 G (b0 bor cs R M) (b1 b2 sp) (bw (-1)) b3 cs R M { s with steps := s.steps + 1 }
  have c71 := jA (b0 bor cs R M) (b1 b2 sp) (bw (-1)) b3 cs R M { s with steps := s.steps + 1 } (iI G (b0 bor cs R M) (b1 b2 sp) (bw (-1)) b3 cs R M { s with steps := s.steps + 1 } (k + 3) hp 1 s.at_ (by simp only; omega))
  have et : (({ s with steps := s.steps + 1 } : MS).leak 1 s.at_) = s.tick := rfl
  rw [et] at c71
  have okt : s.tick.Ok R := ⟨hs.len, hs.regs, hs.mem, by simp [MS.tick, MS.leak]; omega, hs.big, by simp [MS.tick, MS.leak]; omega⟩
  have c75 := ld4 G (b0 bor cs R M) (b1 b2 sp) (bw (-1)) b3 cs R M s.tick
  have eat : s.tick.at_ = s.at_ := rfl
  rw [eat] at c75
  have c77 := aBX b3 cs s.at_ (by omega)
  have tll : s.tick.leaks.length ≤ 999990 := by simp [MS.tick, MS.leak]; omega
  have c79 := jA (b0 bor cs R M) (b1 b2 sp) (bw (-1)) b3 cs R M s.tick (rX G (b0 bor cs R M) (b1 b2 sp) (bw (-1)) hp b3 cs R M s.tick i okt tll cs.length k hi (by rw [eat]; omega))
  obtain ⟨o1, o2, o3, o4⟩ := MS.step_ok okt hi (by simp [MS.tick, MS.leak]; omega) (by rw [eat]; omega)
  have hst2 : s.tick.steps = s.steps + 1 := rfl
  have c78 := aDy G b3 i
  rw [hii] at c77
  obtain ⟨s2, b, hsb⟩ : ∃ s2 b, s.tick.step i = (s2, b) := ⟨_, _, rfl⟩
  rw [hsb] at h c79 o1 o2 o3 o4
  simp only at h c79 o1 o2 o3 o4
  cases b
  ·simp only [Option.some.injEq, Prod.mk.injEq] at h
   obtain ⟨rfl, rfl⟩ := h
   have c83 := sI G bor b2 b3 cs sp R M (-1) s2
   have c84 := sZ bor b2 b3 cs sp R M (-1) s2
   have fx := aHv c16 <| aHv c18 <| aHv c19 <| aHv c20 <| aHv c31 <| aHv c33 <| aHv q2 <| aHv c3 <| aHv c40 <| aHv c62 <| aHv c67 <| aHv c70 <| aHv c71 <| aHv c75 <| aHv c77 <| aHv c78 <| aHv c79 <| aHv c83 <| aHv c84 <| aHv Bool.not_true <| Bool.not_false
   refine jC ?_
   refine hP ?_; rfl
  ·simp only at h
   have ih := kP hf hcl hsp hcs f s2 s' w h o1 o2 (by rw [o3, hst2]; omega)
   unfold xsM at ih
   have fx := aHv c16 <| aHv c18 <| aHv c19 <| aHv c20 <| aHv c31 <| aHv c33 <| aHv q2 <| aHv c3 <| aHv c40 <| aHv c62 <| aHv c67 <| aHv c70 <| aHv c71 <| aHv c75 <| aHv c77 <| aHv c78 <| aHv c79 <| aHv Bool.not_true <| Bool.not_false
   refine jC ?_
   exact ih
end
end Go.Proofs.YtcmblhedhgiofaaDoor.Mir.B3
namespace Go.Proofs.YtcmblhedhgiofaaDoor.Mir
open Go
set_option linter.unusedSimpArgs false
set_option linter.unusedVariables false
set_option maxHeartbeats 4000000
structure Frm where
 d : Bool
 a : Bool
 b : Bool
 c : Bool
 k : Bool
def jQ (op : Int) : Option Frm :=
 if op = 1 then some ⟨true, false, false, false, true⟩
 else if op = 2 then some ⟨true, true, false, false, false⟩
 else if (3 ≤ op ∧ op ≤ 9) ∨ op = 13 then some ⟨true, true, true, false, false⟩
 else if (10 ≤ op ∧ op ≤ 12) ∨ op = 15 then some ⟨true, true, false, false, true⟩
 else if op = 14 then some ⟨true, true, true, true, false⟩
 else if op = 16 then some ⟨false, true, true, false, true⟩
 else if op = 17 ∨ op = 20 then some ⟨false, false, false, false, true⟩
 else if op = 18 ∨ op = 19 then some ⟨false, true, false, false, true⟩
 else none
def fY (op : Int) : ByteArray :=
 if op = 1 then ⟨#[99, 111, 110, 115, 116]⟩ else if op = 2 then ⟨#[109, 111, 118]⟩ else if op = 3 then ⟨#[97, 100, 100]⟩ else if op = 4 then ⟨#[115, 117, 98]⟩ else if op = 5 then ⟨#[109, 117, 108]⟩
 else if op = 6 then ⟨#[104, 105, 103, 104]⟩ else if op = 7 then ⟨#[97, 110, 100]⟩ else if op = 8 then ⟨#[111, 114]⟩ else if op = 9 then ⟨#[120, 111, 114]⟩ else if op = 10 then ⟨#[115, 104, 108]⟩
 else if op = 11 then ⟨#[115, 104, 114]⟩ else if op = 12 then ⟨#[115, 97, 114]⟩ else if op = 13 then ⟨#[108, 101, 115, 115]⟩ else if op = 14 then ⟨#[115, 101, 108]⟩ else if op = 15 then ⟨#[108, 100]⟩
 else if op = 16 then ⟨#[115, 116]⟩ else if op = 17 then ⟨#[98, 114]⟩ else if op = 18 then ⟨#[98, 122]⟩ else if op = 19 then ⟨#[98, 110, 122]⟩ else if op = 20 then ⟨#[104, 97, 108, 116]⟩ else ⟨#[110, 111, 110, 101]⟩
def hJ (w : ByteArray) (f : Frm) : AV := .agg [.str w, .bool f.d, .bool f.a, .bool f.b, .bool f.c, .bool f.k]
def iZ (op : Int) : Frm := match jQ op with | some f => f | none => ⟨false, false, false, false, false⟩
theorem aFM {op : Int} (h : 1 ≤ op ∧ op ≤ 20) : op = 1 ∨ op = 2 ∨ op = 3 ∨ op = 4 ∨ op = 5 ∨ op = 6 ∨ op = 7 ∨ op = 8 ∨ op = 9 ∨ op = 10 ∨ op = 11 ∨ op = 12 ∨ op = 13 ∨ op = 14 ∨ op = 15 ∨ op = 16 ∨ op = 17 ∨ op = 18 ∨ op = 19 ∨ op = 20 := by omega
theorem uN {op : Int} (h : ¬ (1 ≤ op ∧ op ≤ 20)) : jQ op = none := by
 unfold jQ
 repeat rw [if_neg (by omega)]
theorem aBA {op : Int} (h : ¬ (1 ≤ op ∧ op ≤ 20)) : fY op = ⟨#[110, 111, 110, 101]⟩ := by
 unfold fY
 repeat rw [if_neg (by omega)]
theorem aEM (G : aE) (k : Nat) (op : Int) : eM.f G (k + 4) [I6 op] [] = some (.tup [hJ (fY op) (iZ op), .bool (jQ op).isSome], []) := by
 by_cases h : 1 ≤ op ∧ op ≤ 20
 ·rcases aFM h with rfl | rfl | rfl | rfl | rfl | rfl | rfl | rfl | rfl | rfl | rfl | rfl | rfl | rfl | rfl | rfl | rfl | rfl | rfl | rfl <;> kernel_rfl
 ·rw [eM.step]
  unfold eM.c
  unfold iZ
  rw [uN h, aBA h]
  refine gZ ?_
  have fx := True.intro
  refine tU ?_
  refine hP ?_
  rfl
def bsV (f : Frm) : AV := .ro false [.bool f.d, .bool f.a, .bool f.b, .bool f.c, .bool f.k]
def isV (i : Ins) : AV := .ro false [I6 i.d, I6 i.a, I6 i.b, I6 i.c, I6 i.k]
theorem uQ (G : aE) (k : Nat) (i : Ins) (w : ByteArray) (f : Frm) : eQ.f G (k + 1) [i.v, hJ w f] [] = some (.tup [bsV f, isV i], []) := by kernel_rfl
abbrev eV (g : Nat) : AV := .iface 154 (.gp g)
def kT (is : Bool) (r R : Int) : Bool := is && (decide (r < 0) || decide (R ≤ r))
section
variable (G : aE) (k : Nat) (self : cY) (c1 : AV) (R : Int) (hR0 : 0 ≤ R)
abbrev bxC (cv : AV) (R M : Int) : AV := .rp false (.agg [cv, I6 R, I6 M]) 0
abbrev xs6 (cv : AV) (R M : Int) (i : Ins) (f : Frm) (j : Int) : List AV := [bxC cv R M, .rp false i.v 0, .nili, bsV f, isV i, I6 j]
theorem yM {bor : Bool} {xs : List AV} {k' : IntKind} {j : Nat} {y : AV} (h : xs[j]? = some y) (h1 : y.cells.length = 1) : aF 1 (.ro bor xs) (.int k' (j : Int)) = some (.rp bor y 0) := by
 unfold aF
 simp [h, h1]
theorem aFd {b bor : Bool} {H : aB} : aC G false 1 (.rp bor (.bool b) 0) H = some (.bool b) := rfl
theorem aFe {n : Int} {bor : Bool} {H : aB} : aC G false 1 (.rp bor (I6 n) 0) H = some (I6 n) := rfl
theorem qR (cv : AV) (M : Int) (i : Ins) (f : Frm) (j : Nat) (hj : j < 4) (t : Bool) (p : Int) (ht : [AV.bool f.d, .bool f.a, .bool f.b, .bool f.c, .bool f.k][j]? = some (.bool t)) (hp : [I6 i.d, I6 i.a, I6 i.b, I6 i.c, I6 i.k][j]? = some (I6 p))
  (hG : G 2 = some (eV 2)) (hcl : bX 0 cv = true) (n : Nat) :
  eU (bY.l6 G k 1 self) (n + 1) (xs6 cv R M i f j) [⟨113, 6, [hJ (fY i.op) f]⟩] =
   if kT t p R = true then some (.ret, [bxC cv R M, .rp false i.v 0, eV 2, bsV f, isV i, I6 j], [⟨113, 6, [hJ (fY i.op) f]⟩])
   else eU (bY.l6 G k 1 self) n (xs6 cv R M i f (j + 1 : Nat)) [⟨113, 6, [hJ (fY i.op) f]⟩] := by
 rw [dF, bY.l6]
 have hc : gT 1 (xs6 cv R M i f j) [⟨113, 6, [hJ (fY i.op) f]⟩] = some [⟨113, 6, [hJ (fY i.op) f]⟩] := by
  have := iB (Nat.zero_le 1) hcl
  simp [gT, bS, bX, dX, this, bsV, isV, Ins.v, gO, hJ]
 have d1 : aF 1 (bsV f) (I6 j) = some (.rp false (.bool t) 0) := yM ht rfl
 have d2 : aF 1 (isV i) (I6 j) = some (.rp false (I6 p) 0) := yM hp rfl
 have l1 := fun (b bor : Bool) (H : aB) => @aFd G b bor H
 have l2 := fun (n : Int) (bor : Bool) (H : aB) => @aFe G n bor H
 have l3 : ∀ H, aC G false 1 (.gl 2) H = some (eV 2) := fun H => hG
 refine iV ?_
 refine eC hc ?_
 cases t
 ·rw [show kT false p R = false from rfl, if_neg (by simp)]
  have fx := aHv d1 <| aHv d2 <| aHv l1 <| l2
  refine tU ?_
  rfl
 ·by_cases ho : p < 0 ∨ R ≤ p
  ·have e : kT true p R = true := by unfold kT; rcases ho with h | h <;> simp [h]
   rw [if_pos e]
   repeat' first
    | (with_reducible first | refine eT ?_ | refine eN ?_ | refine eS ?_ | refine eXn ?_ | refine eXr ?_ | refine eX ?_ | refine eI ?_ | refine eK ?_ | refine yG ?_ | refine oO ?_ | refine oR ?_ | refine oH ?_ | refine oQ ?_ | refine oL ?_ | refine oM ?_)
    | ((with_reducible apply eCn); (simp only [aI, aH]; first | done | (with_reducible exact rfl)))
    | ((with_reducible apply eJ); (rfl))
    | ((with_reducible apply oP); (first | rfl | (simp only [aI, aH]; rfl)))
    | ((with_reducible apply eB); (first | (with_reducible exact rfl) | (simp (disch := omega) only [qf, d1, d2, l1, l2, l3]; first | done | (with_reducible exact rfl) | (with_reducible exact ⟨rfl, rfl⟩)) | (simp (disch := omega) only [qa, dH, AV.cells, aT, aU, cQ, aZ, aW, cH, Nat.reduceLeDiff, Nat.reduceLT, Nat.reduceAdd, ↓reduceIte, d1, d2, l1, l2, l3]; first | done | (with_reducible exact rfl) | (with_reducible exact ⟨rfl, rfl⟩))))
    | ((with_reducible apply eR); (simp only [aI, aH]; (with_reducible exact rfl)))
    | ((with_reducible first | refine pM ?_ ?_ | refine pR ?_ ?_ | refine pQ ?_ ?_ | refine pP ?_ ?_ | refine pO ?_ ?_ | refine pN ?_ ?_ | refine pS ?_ ?_ | refine kN ?_ ?_ | refine sGd ?_ ?_ | refine kI ?_ ?_) <;> intro hq <;> try subst hq)
   all_goals first | rfl | omega
  ·have e : kT true p R = false := by unfold kT; simp; omega
   rw [if_neg (by simp [e])]
   repeat' first
    | (with_reducible first | refine eT ?_ | refine eN ?_ | refine eS ?_ | refine eXn ?_ | refine eXr ?_ | refine eX ?_ | refine eI ?_ | refine eK ?_ | refine yG ?_ | refine oO ?_ | refine oR ?_ | refine oH ?_ | refine oQ ?_ | refine oL ?_ | refine oM ?_)
    | ((with_reducible apply eCn); (simp only [aI, aH]; first | done | (with_reducible exact rfl)))
    | ((with_reducible apply eJ); (rfl))
    | ((with_reducible apply oP); (first | rfl | (simp only [aI, aH]; rfl)))
    | ((with_reducible apply eB); (first | (with_reducible exact rfl) | (simp (disch := omega) only [qf, d1, d2, l1, l2, l3]; first | done | (with_reducible exact rfl) | (with_reducible exact ⟨rfl, rfl⟩)) | (simp (disch := omega) only [qa, dH, AV.cells, aT, aU, cQ, aZ, aW, cH, Nat.reduceLeDiff, Nat.reduceLT, Nat.reduceAdd, ↓reduceIte, d1, d2, l1, l2, l3]; first | done | (with_reducible exact rfl) | (with_reducible exact ⟨rfl, rfl⟩))))
    | ((with_reducible apply eR); (simp only [aI, aH]; (with_reducible exact rfl)))
    | ((with_reducible first | refine pM ?_ ?_ | refine pR ?_ ?_ | refine pQ ?_ ?_ | refine pP ?_ ?_ | refine pO ?_ ?_ | refine pN ?_ ?_ | refine pS ?_ ?_ | refine kN ?_ ?_ | refine sGd ?_ ?_ | refine kI ?_ ?_) <;> intro hq <;> try subst hq)
   all_goals first | rfl | omega
theorem aFD (cv : AV) (M : Int) (i : Ins) (f : Frm) (hcl : bX 0 cv = true) (n : Nat) :
  eU (bY.l6 G k 1 self) (n + 1) (xs6 cv R M i f (4 : Nat)) [⟨113, 6, [hJ (fY i.op) f]⟩] = some (.exit 0, xs6 cv R M i f (4 : Nat), [⟨113, 6, [hJ (fY i.op) f]⟩]) := by
 rw [dF, bY.l6]
 have hc : gT 1 (xs6 cv R M i f (4 : Nat)) [⟨113, 6, [hJ (fY i.op) f]⟩] = some [⟨113, 6, [hJ (fY i.op) f]⟩] := by
  have := iB (Nat.zero_le 1) hcl
  simp [gT, bS, bX, dX, this, bsV, isV, Ins.v, gO, hJ]
 refine iV ?_
 refine eC hc ?_
 have fx := True.intro
 refine tU ?_
 rfl
def pL (f : Frm) (i : Ins) (R : Int) : Bool := kT f.d i.d R || kT f.a i.a R || kT f.b i.b R || kT f.c i.c R
def rT (f : Frm) (i : Ins) : Bool := (!f.d && decide (i.d ≠ 0)) || (!f.a && decide (i.a ≠ 0)) || (!f.b && decide (i.b ≠ 0)) || (!f.c && decide (i.c ≠ 0)) || (!f.k && decide (i.k ≠ 0))
theorem aFC (cv : AV) (M : Int) (i : Ins) (f : Frm) (hG : G 2 = some (eV 2)) (hcl : bX 0 cv = true) (n : Nat) :
  (pL f i R = true → ∃ j, eU (bY.l6 G k 1 self) (n + 5) (xs6 cv R M i f (0 : Nat)) [⟨113, 6, [hJ (fY i.op) f]⟩] = some (.ret, [bxC cv R M, .rp false i.v 0, eV 2, bsV f, isV i, j], [⟨113, 6, [hJ (fY i.op) f]⟩])) ∧
  (pL f i R = false → eU (bY.l6 G k 1 self) (n + 5) (xs6 cv R M i f (0 : Nat)) [⟨113, 6, [hJ (fY i.op) f]⟩] = some (.exit 0, xs6 cv R M i f (4 : Nat), [⟨113, 6, [hJ (fY i.op) f]⟩])) := by
 rw [qR G k self R cv M i f 0 (by omega) f.d i.d rfl rfl hG hcl]
 rw [qR G k self R cv M i f 1 (by omega) f.a i.a rfl rfl hG hcl]
 rw [qR G k self R cv M i f 2 (by omega) f.b i.b rfl rfl hG hcl]
 rw [qR G k self R cv M i f 3 (by omega) f.c i.c rfl rfl hG hcl]
 rw [aFD G k self R cv M i f hcl]
 unfold pL
 generalize kT f.d i.d R = o1
 generalize kT f.a i.a R = o2
 generalize kT f.b i.b R = o3
 generalize kT f.c i.c R = o4
 cases o1 <;> cases o2 <;> cases o3 <;> cases o4 <;> simp
abbrev zJ (cv : AV) (R M : Int) (i : Ins) (f : Frm) (j : Int) : List AV := [bxC cv R M, .rp false i.v 0, .nili, isV i, bsV f, .int .i64 5, I6 j]
theorem mA (cv : AV) (M : Int) (i : Ins) (f : Frm) (j : Nat) (hj : j < 5) (t : Bool) (p : Int) (ht : [AV.bool f.d, .bool f.a, .bool f.b, .bool f.c, .bool f.k][j]? = some (.bool t)) (hp : [I6 i.d, I6 i.a, I6 i.b, I6 i.c, I6 i.k][j]? = some (I6 p))
  (hG : G 3 = some (eV 3)) (hcl : bX 0 cv = true) (n : Nat) :
  eU (bY.l12 G k 1 self) (n + 1) (zJ cv R M i f j) [⟨113, 6, [hJ (fY i.op) f]⟩] =
   if (!t && decide (p ≠ 0)) = true then some (.ret, [bxC cv R M, .rp false i.v 0, eV 3, isV i, bsV f, .int .i64 5, I6 j], [⟨113, 6, [hJ (fY i.op) f]⟩])
   else eU (bY.l12 G k 1 self) n (zJ cv R M i f (j + 1 : Nat)) [⟨113, 6, [hJ (fY i.op) f]⟩] := by
 rw [dF, bY.l12]
 have hc : gT 1 (zJ cv R M i f j) [⟨113, 6, [hJ (fY i.op) f]⟩] = some [⟨113, 6, [hJ (fY i.op) f]⟩] := by
  have := iB (Nat.zero_le 1) hcl
  simp [gT, bS, bX, dX, this, bsV, isV, Ins.v, gO, hJ]
 have d1 : aF 1 (bsV f) (I6 j) = some (.rp false (.bool t) 0) := yM ht rfl
 have d2 : aF 1 (isV i) (I6 j) = some (.rp false (I6 p) 0) := yM hp rfl
 have l1 := fun (b bor : Bool) (H : aB) => @aFd G b bor H
 have l2 := fun (n : Int) (bor : Bool) (H : aB) => @aFe G n bor H
 have l3 : ∀ H, aC G false 1 (.gl 3) H = some (eV 3) := fun H => hG
 refine iV ?_
 refine eC hc ?_
 cases t
 ·by_cases ho : p ≠ 0
  ·rw [if_pos (by simp [ho])]
   repeat' first
    | (with_reducible first | refine eT ?_ | refine eN ?_ | refine eS ?_ | refine eXn ?_ | refine eXr ?_ | refine eX ?_ | refine eI ?_ | refine eK ?_ | refine yG ?_ | refine oO ?_ | refine oR ?_ | refine oH ?_ | refine oQ ?_ | refine oL ?_ | refine oM ?_)
    | ((with_reducible apply eCn); (simp only [aI, aH]; first | done | (with_reducible exact rfl)))
    | ((with_reducible apply eJ); (rfl))
    | ((with_reducible apply oP); (first | rfl | (simp only [aI, aH]; rfl)))
    | ((with_reducible apply eB); (first | (with_reducible exact rfl) | (simp (disch := omega) only [qf, d1, d2, l1, l2, l3]; first | done | (with_reducible exact rfl) | (with_reducible exact ⟨rfl, rfl⟩)) | (simp (disch := omega) only [qa, dH, AV.cells, aT, aU, cQ, aZ, aW, cH, Nat.reduceLeDiff, Nat.reduceLT, Nat.reduceAdd, ↓reduceIte, d1, d2, l1, l2, l3]; first | done | (with_reducible exact rfl) | (with_reducible exact ⟨rfl, rfl⟩))))
    | ((with_reducible apply eR); (simp only [aI, aH]; (with_reducible exact rfl)))
    | ((with_reducible first | refine pM ?_ ?_ | refine pR ?_ ?_ | refine pQ ?_ ?_ | refine pP ?_ ?_ | refine pO ?_ ?_ | refine pN ?_ ?_ | refine pS ?_ ?_ | refine kN ?_ ?_ | refine sGd ?_ ?_ | refine kI ?_ ?_) <;> intro hq <;> try subst hq)
   all_goals first | rfl | omega
  ·rw [if_neg (by simp [ho])]
   repeat' first
    | (with_reducible first | refine eT ?_ | refine eN ?_ | refine eS ?_ | refine eXn ?_ | refine eXr ?_ | refine eX ?_ | refine eI ?_ | refine eK ?_ | refine yG ?_ | refine oO ?_ | refine oR ?_ | refine oH ?_ | refine oQ ?_ | refine oL ?_ | refine oM ?_)
    | ((with_reducible apply eCn); (simp only [aI, aH]; first | done | (with_reducible exact rfl)))
    | ((with_reducible apply eJ); (rfl))
    | ((with_reducible apply oP); (first | rfl | (simp only [aI, aH]; rfl)))
    | ((with_reducible apply eB); (first | (with_reducible exact rfl) | (simp (disch := omega) only [qf, d1, d2, l1, l2, l3]; first | done | (with_reducible exact rfl) | (with_reducible exact ⟨rfl, rfl⟩)) | (simp (disch := omega) only [qa, dH, AV.cells, aT, aU, cQ, aZ, aW, cH, Nat.reduceLeDiff, Nat.reduceLT, Nat.reduceAdd, ↓reduceIte, d1, d2, l1, l2, l3]; first | done | (with_reducible exact rfl) | (with_reducible exact ⟨rfl, rfl⟩))))
    | ((with_reducible apply eR); (simp only [aI, aH]; (with_reducible exact rfl)))
    | ((with_reducible first | refine pM ?_ ?_ | refine pR ?_ ?_ | refine pQ ?_ ?_ | refine pP ?_ ?_ | refine pO ?_ ?_ | refine pN ?_ ?_ | refine pS ?_ ?_ | refine kN ?_ ?_ | refine sGd ?_ ?_ | refine kI ?_ ?_) <;> intro hq <;> try subst hq)
   all_goals first | rfl | omega
 ·rw [if_neg (by simp)]
  have fx := aHv d1 <| aHv d2 <| aHv l1 <| l2
  refine tU ?_
  rfl
theorem aEA (cv : AV) (M : Int) (i : Ins) (f : Frm) (hcl : bX 0 cv = true) (n : Nat) :
  eU (bY.l12 G k 1 self) (n + 1) (zJ cv R M i f (5 : Nat)) [⟨113, 6, [hJ (fY i.op) f]⟩] = some (.exit 2, zJ cv R M i f (5 : Nat), [⟨113, 6, [hJ (fY i.op) f]⟩]) := by
 rw [dF, bY.l12]
 have hc : gT 1 (zJ cv R M i f (5 : Nat)) [⟨113, 6, [hJ (fY i.op) f]⟩] = some [⟨113, 6, [hJ (fY i.op) f]⟩] := by
  have := iB (Nat.zero_le 1) hcl
  simp [gT, bS, bX, dX, this, bsV, isV, Ins.v, gO, hJ]
 refine iV ?_
 refine eC hc ?_
 have fx := True.intro
 refine tU ?_
 rfl
theorem aEz (cv : AV) (M : Int) (i : Ins) (f : Frm) (hG : G 3 = some (eV 3)) (hcl : bX 0 cv = true) (n : Nat) :
  (rT f i = true → ∃ j, eU (bY.l12 G k 1 self) (n + 6) (zJ cv R M i f (0 : Nat)) [⟨113, 6, [hJ (fY i.op) f]⟩] = some (.ret, [bxC cv R M, .rp false i.v 0, eV 3, isV i, bsV f, .int .i64 5, j], [⟨113, 6, [hJ (fY i.op) f]⟩])) ∧
  (rT f i = false → eU (bY.l12 G k 1 self) (n + 6) (zJ cv R M i f (0 : Nat)) [⟨113, 6, [hJ (fY i.op) f]⟩] = some (.exit 2, zJ cv R M i f (5 : Nat), [⟨113, 6, [hJ (fY i.op) f]⟩])) := by
 rw [mA G k self R cv M i f 0 (by omega) f.d i.d rfl rfl hG hcl]
 rw [mA G k self R cv M i f 1 (by omega) f.a i.a rfl rfl hG hcl]
 rw [mA G k self R cv M i f 2 (by omega) f.b i.b rfl rfl hG hcl]
 rw [mA G k self R cv M i f 3 (by omega) f.c i.c rfl rfl hG hcl]
 rw [mA G k self R cv M i f 4 (by omega) f.k i.k rfl rfl hG hcl]
 rw [aEA G k self R cv M i f hcl]
 unfold rT
 generalize (!f.d && decide (i.d ≠ 0)) = o1
 generalize (!f.a && decide (i.a ≠ 0)) = o2
 generalize (!f.b && decide (i.b ≠ 0)) = o3
 generalize (!f.c && decide (i.c ≠ 0)) = o4
 generalize (!f.k && decide (i.k ≠ 0)) = o5
 cases o1 <;> cases o2 <;> cases o3 <;> cases o4 <;> cases o5 <;> simp
end
def jG (i : Ins) (R n : Int) : Option Nat :=
 if (jQ i.op).isSome = false then some 4
 else if pL (iZ i.op) i R = true then some 2
 else if rT (iZ i.op) i = true then some 3
 else if i.op = 10 ∨ i.op = 11 ∨ i.op = 12 then (if i.k < 0 ∨ 63 < i.k then some 2 else none)
 else if i.op = 20 then (if i.k < 0 ∨ 2 < i.k then some 2 else none)
 else if i.op = 15 ∨ i.op = 16 then (if i.k < 0 ∨ 65535 < i.k then some 2 else none)
 else if i.op = 17 ∨ i.op = 18 ∨ i.op = 19 then (if i.k < 0 ∨ n < i.k then some 5 else none)
 else none
def aCH (o : Option Nat) : AV := match o with | some g => eV g | none => .nili
structure GOk (G : aE) : Prop where
 g0 : G 0 = some (eV 0)
 g1 : G 1 = some (eV 1)
 g2 : G 2 = some (eV 2)
 g3 : G 3 = some (eV 3)
 g4 : G 4 = some (eV 4)
 g5 : G 5 = some (eV 5)
theorem w1e {x : AV} {o : Option Nat} {H : aB} (e : aCH o = x) (hx : bX 0 x = true) : E fD [] (cT [x] 0 H) (some (aCH o, [])) := by subst e; exact oF (lV hx H)
theorem aDI {bor : Bool} (G : aE) (hg : GOk G) (k : Nat) (cs : List Ins) (R M : Int) (i : Ins) :
  bY.f G (k + 7) [gQ bor cs R M, i.v] [] = some (aCH (jG i R cs.length), []) := by
 rw [bY.step]
 unfold bY.c gQ
 have r1 : ∀ H, aL (eM.f G (k + 6)) [I6 i.op] H = _ := fun H => aX (H := H) (aEM G (k + 2) i.op) rfl rfl
 have r2 : ∀ H, aL (eQ.f G (k + 6)) [i.v, hJ (fY i.op) (iZ i.op)] H = _ := fun H => aX (H := H) (uQ G (k + 5) i _ _) rfl rfl
 have b1 : ∀ H, bC i.v H = some (.rp false i.v 0, H) := fun H => rfl
 have g0 : aA 0 (.rp false i.v 0) = some (.rp false i.v 0) := rfl
 have g5 : aA 5 (.rp false i.v 0) = some (.rp false i.v 5) := rfl
 have l0 : ∀ H, aC G false 1 (.rp false i.v 0) H = some (I6 i.op) := fun H => rfl
 have l5 : ∀ H, aC G false 1 (.rp false i.v 5) H = some (I6 i.k) := fun H => rfl
 have l6 : ∀ H, aC G true 6 (.rp false i.v 0) H = some i.v := fun H => rfl
 have e2 : ∀ H, aC G false 1 (.gl 2) H = some (eV 2) := fun H => hg.g2
 have e4 : ∀ H, aC G false 1 (.gl 4) H = some (eV 4) := fun H => hg.g4
 have e5 : ∀ H, aC G false 1 (.gl 5) H = some (eV 5) := fun H => hg.g5
 have st : dY (aN 6 (.ptr 0 1 0 0) (hJ (fY i.op) (iZ i.op)) [⟨113, 6, [.agg [(.str ⟨#[]⟩), (.bool false), (.bool false), (.bool false), (.bool false), (.bool false)]]⟩]) = some (.tup [], [⟨113, 6, [hJ (fY i.op) (iZ i.op)]⟩]) := rfl
 have ld : aC G true 6 (.ptr 0 1 0 0) [⟨113, 6, [hJ (fY i.op) (iZ i.op)]⟩] = some (hJ (fY i.op) (iZ i.op)) := rfl
 have lc : bO (.ro bor (dB cs)) = some (I6 cs.length) := by simp [bO, fS]
 have lb : bO (bsV (iZ i.op)) = some (.int .i64 5) := rfl
 have hcl : bX 0 (.ro bor (dB cs)) = true := by simp [bX, fI]
 obtain ⟨p1, p2⟩ := aFC G (k + 6) (bY.f G (k + 6)) R (.ro bor (dB cs)) M i (iZ i.op) hg.g2 hcl (k + 1)
 obtain ⟨p3, p4⟩ := aEz G (k + 6) (bY.f G (k + 6)) R (.ro bor (dB cs)) M i (iZ i.op) hg.g3 hcl k
 refine gZ ?_
 by_cases h0 : (jQ i.op).isSome = false
 ·have e : jG i R cs.length = some 4 := by unfold jG; rw [if_pos h0]
  rw [e]
  rw [h0] at r1
  have fx := aHv r1 <| aHv b1 <| aHv g0 <| aHv l0 <| aHv st <| e4
  refine tU ?_
  exact w1e (by rfl) (by rfl)
 have h0' : (jQ i.op).isSome = true := by
  cases hh : (jQ i.op).isSome
  ·exact absurd hh h0
  ·rfl
 rw [h0'] at r1
 by_cases h1 : pL (iZ i.op) i R = true
 ·have e : jG i R cs.length = some 2 := by unfold jG; rw [if_neg h0, if_pos h1]
  rw [e]
  obtain ⟨j, p1⟩ := p1 h1
  clear p2 p3 p4
  unfold bxC at p1
  have fx := aHv r1 <| aHv r2 <| aHv b1 <| aHv g0 <| aHv l0 <| aHv l6 <| aHv st <| aHv ld <| e2
  have lx1 := p1
  refine tU ?_
  exact w1e (by rfl) (by rfl)
 replace p2 := p2 (by simpa using h1)
 clear p1
 by_cases h2 : rT (iZ i.op) i = true
 ·have e : jG i R cs.length = some 3 := by unfold jG; rw [if_neg h0, if_neg h1, if_pos h2]
  rw [e]
  obtain ⟨j, p3⟩ := p3 h2
  clear p4
  have fx := aHv r1 <| aHv r2 <| aHv b1 <| aHv g0 <| aHv l0 <| aHv l6 <| aHv st <| aHv ld <| aHv e2 <| lb
  have lx1 := p2
  have lx2 := p3
  refine tU ?_
  exact w1e (by rfl) (by rfl)
 replace p4 := p4 (by simpa using h2)
 clear p3
 have e : jG i R cs.length = (if i.op = 10 ∨ i.op = 11 ∨ i.op = 12 then (if i.k < 0 ∨ 63 < i.k then some 2 else none)
 else if i.op = 20 then (if i.k < 0 ∨ 2 < i.k then some 2 else none)
 else if i.op = 15 ∨ i.op = 16 then (if i.k < 0 ∨ 65535 < i.k then some 2 else none)
 else if i.op = 17 ∨ i.op = 18 ∨ i.op = 19 then (if i.k < 0 ∨ (cs.length : Int) < i.k then some 5 else none)
 else none) := by unfold jG; rw [if_neg h0, if_neg h1, if_neg h2]
 rw [e]
 clear e
 repeat' first
  | (with_reducible first | refine eT ?_ | refine eN ?_ | refine eS ?_ | refine eXn ?_ | refine eXr ?_ | refine eX ?_ | refine eI ?_ | refine eK ?_ | refine yG ?_ | refine oO ?_ | refine oR ?_ | refine oH ?_ | refine oQ ?_ | refine oL ?_ | refine oM ?_)
  | ((with_reducible apply eCn); (simp only [aI, aH]; first | done | (with_reducible exact rfl)))
  | ((with_reducible apply eJ); (rfl))
  | ((with_reducible apply oP); (first | rfl | (simp only [aI, aH]; rfl)))
  | ((with_reducible apply eL); (first | exact p2 | exact p4))
  | ((with_reducible apply eB); (first | (with_reducible exact rfl) | (simp (disch := omega) only [qf, r1, r2, b1, g0, g5, l0, l5, l6, st, ld, e2, e5, lb, lc]; first | done | (with_reducible exact rfl) | (with_reducible exact ⟨rfl, rfl⟩)) | (simp (disch := omega) only [qa, dH, AV.cells, aT, aU, cQ, aZ, aW, cH, Nat.reduceLeDiff, Nat.reduceLT, Nat.reduceAdd, ↓reduceIte, r1, r2, b1, g0, g5, l0, l5, l6, st, ld, e2, e5, lb, lc]; first | done | (with_reducible exact rfl) | (with_reducible exact ⟨rfl, rfl⟩))))
  | ((with_reducible apply eR); (simp only [aI, aH]; (with_reducible exact rfl)))
  | ((with_reducible first | refine pM ?_ ?_ | refine pR ?_ ?_ | refine pQ ?_ ?_ | refine pP ?_ ?_ | refine pO ?_ ?_ | refine pN ?_ ?_ | refine pS ?_ ?_ | refine kN ?_ ?_ | refine sGd ?_ ?_ | refine kI ?_ ?_) <;> intro hq <;> try subst hq)
 all_goals (refine w1e ?_ (by rfl); (first | (with_reducible rfl) | ((try simp (disch := omega) only [if_pos, if_neg, if_true, if_false, ↓reduceIte, aCH]) <;> first | done | rfl | omega)))
inductive VE where
 | ok
 | bare (e : Nat)
 | at_ (j e : Nat)
def veV : VE → AV
 | .ok => .nili
 | .bare e => eV e
 | .at_ j e => .iface 89 (.rp false (.agg [Nn j, eV e]) 0)
def mY (R n : Int) : List Ins → Nat → VE
 | [], _ => .ok
 | i :: l, j => match jG i R n with
  | some e => .at_ j e
  | none => mY R n l (j + 1)
def fP (cs : List Ins) (R M : Int) : VE :=
 if 262144 < cs.length then .bare 0
 else if R < 0 ∨ 65536 < R ∨ M < 0 ∨ 65536 < M then .bare 0
 else mY R cs.length cs 0
theorem oD (v : VE) : fL (veV v) = true := by cases v <;> rfl
theorem aEX (v : VE) : bX 0 (veV v) = true := by cases v <;> rfl
section
variable {bor : Bool} (G : aE) (hg : GOk G) (k : Nat) (self : cY) (cs : List Ins) (R M : Int)
abbrev xsV (bor : Bool) (cs : List Ins) (R M : Int) (x : AV) (j : Nat) : List AV := [bxC (.ro bor (dB cs)) R M, x, .ro bor (dB cs), I6 cs.length, Nn j]
include hg in
theorem tW (hcl : cs.length ≤ 1000000) : ∀ (l pre : List Ins) (f : Nat) (H : aB), cs = pre ++ l → l.length < f →
  ∃ o, eU (bV.l6 G (k + 7) 0 self) f (xsV bor cs R M .nili pre.length) H = some o ∧
   (match mY R cs.length l pre.length with
    | .ok => o = (.exit 1, xsV bor cs R M .nili cs.length, [])
    | v => ∃ j H', o = (.ret, xsV bor cs R M (veV v) j, H'))
 | l, pre, 0, H, hcs, hf => by omega
 | [], pre, f + 1, H, hcs, hf => by
  rw [dF, bV.l6]
  have hl : cs.length = pre.length := by rw [hcs]; simp
  refine ⟨_, ?_, rfl⟩
  have hc : gT 0 (xsV bor cs R M .nili pre.length) H = some [] := by simp [gT, bS, bX, dX, fI]
  refine lC hc ?_
  refine iV ?_
  have hge : ¬ (pre.length : Int) < (cs.length : Int) := by omega
  have q : bE Tryd.prog .lss 3 false (Nn pre.length) (Nn cs.length) = some (.bool false) := by rw [iF, decide_eq_false hge]
  have fx := q
  refine tU ?_
  rw [hl]
  rfl
 | i :: l, pre, f + 1, H, hcs, hf => by
  rw [dF, bV.l6]
  have hl : cs.length = pre.length + (l.length + 1) := by rw [hcs]; simp
  have hc : gT 0 (xsV bor cs R M .nili pre.length) H = some [] := by simp [gT, bS, bX, dX, fI]
  have hi : cs.getD pre.length default = i := by rw [hcs]; simp [List.getD]
  have q : bE Tryd.prog .lss 3 false (Nn pre.length) (Nn cs.length) = some (.bool true) := by rw [iF, decide_eq_true (by omega)]
  have d1 := aBX bor cs pre.length (by omega)
  rw [hi] at d1
  have d2 : ∀ H, aC G true 6 (.rp bor i.v 0) H = some i.v := fun H => rfl
  have d3 : dY (aN 6 (.ptr 0 1 0 0) i.v [⟨52, 6, [.agg [.int .i64 0, .int .i64 0, .int .i64 0, .int .i64 0, .int .i64 0, .int .i64 0]]⟩]) = some (.tup [], [⟨52, 6, [i.v]⟩]) := rfl
  have d4 : aC G true 6 (.ptr 0 1 0 0) [⟨52, 6, [i.v]⟩] = some i.v := rfl
  have d5 : ∀ H, aL (bY.f G (k + 7)) [.agg [.ro bor (dB cs), I6 R, I6 M], i.v] H = _ := fun H => aX (H := H) (aDI G hg k cs R M i) (by simp [fQ, bT, rV, Ins.v, gO]) (by cases jG i R cs.length <;> rfl)
  cases ho : jG i R cs.length with
  | some e =>
   have hb : mY R cs.length (i :: l) pre.length = .at_ pre.length e := by simp only [mY, ho]
   rw [hb]
   rw [ho] at d5
   have q2 : bE Tryd.prog .neq 35 true (eV e) .nili = some (.bool true) := by kernel_rfl
   refine ⟨_, ?_, pre.length, [⟨52, 6, [i.v]⟩], rfl⟩
   refine lC hc ?_
   refine iV ?_
   simp only [aCH] at d5
   have fx := aHv q <| aHv d1 <| aHv d2 <| aHv d3 <| aHv d4 <| aHv d5 <| q2
   refine tU ?_
   rfl
  | none =>
   rw [ho] at d5
   have q2 : bE Tryd.prog .neq 35 true .nili .nili = some (.bool false) := by kernel_rfl
   obtain ⟨o, h1, h2⟩ := tW hcl l (pre ++ [i]) f [⟨52, 6, [i.v]⟩] (by rw [hcs]; simp) (by simp at hf; omega)
   have hlen : (pre ++ [i]).length = pre.length + 1 := by simp
   rw [hlen] at h1 h2
   have hb : mY R cs.length (i :: l) pre.length = mY R cs.length l (pre.length + 1) := by simp only [mY, ho]
   rw [hb]
   refine ⟨o, ?_, h2⟩
   refine lC hc ?_
   refine iV ?_
   simp only [aCH] at d5
   have q3 : bE Tryd.prog .add 3 true (Nn pre.length) (.int .i64 1) = some (Nn (pre.length + 1)) := by
    rw [gN, dJ (by omega) (by omega)]; congr 2
   have fx := aHv q <| aHv d1 <| aHv d2 <| aHv d3 <| aHv d4 <| aHv d5 <| aHv q2 <| q3
   refine tU ?_
   exact h1
include hg in
theorem tX (hk : cs.length < k + 7) (hcl : cs.length ≤ 1000000) : bV.f G (k + 8) [gQ bor cs R M] [] = some (veV (fP cs R M), []) := by
 rw [bV.step]
 unfold bV.c gQ
 obtain ⟨o, h1, h2⟩ := tW (bor := bor) G hg k (bV.f G (k + 7)) cs R M hcl cs [] (k + 7) [] rfl hk
 have e0 : ∀ H, aC G false 1 (.gl 0) H = some (eV 0) := fun H => hg.g0
 have lc : bO (.ro bor (dB cs)) = some (I6 cs.length) := by simp [bO, fS]
 refine gZ ?_
 unfold fP
 by_cases hb : 262144 < cs.length
 ·rw [if_pos hb]
  have fx := aHv lc <| e0
  refine tU ?_
  exact w1 rfl rfl
 rw [if_neg hb]
 by_cases hr : R < 0 ∨ 65536 < R ∨ M < 0 ∨ 65536 < M
 ·rw [if_pos hr]
  repeat' first
   | (with_reducible first | refine eT ?_ | refine eN ?_ | refine eS ?_ | refine eXn ?_ | refine eXr ?_ | refine eX ?_ | refine eI ?_ | refine eK ?_ | refine yG ?_ | refine oO ?_ | refine oR ?_ | refine oH ?_ | refine oQ ?_ | refine oL ?_ | refine oM ?_)
   | ((with_reducible apply eCn); (simp only [aI, aH]; first | done | (with_reducible exact rfl)))
   | ((with_reducible apply eJ); (rfl))
   | ((with_reducible apply oP); (first | rfl | (simp only [aI, aH]; rfl)))
   | ((with_reducible apply eB); (first | (with_reducible exact rfl) | (simp (disch := omega) only [qf, lc, e0]; first | done | (with_reducible exact rfl) | (with_reducible exact ⟨rfl, rfl⟩)) | (simp (disch := omega) only [qa, dH, AV.cells, aT, aU, cQ, aZ, aW, cH, Nat.reduceLeDiff, Nat.reduceLT, Nat.reduceAdd, ↓reduceIte, lc, e0]; first | done | (with_reducible exact rfl) | (with_reducible exact ⟨rfl, rfl⟩))))
   | ((with_reducible apply eR); (simp only [aI, aH]; (with_reducible exact rfl)))
   | ((with_reducible first | refine pM ?_ ?_ | refine pR ?_ ?_ | refine pQ ?_ ?_ | refine pP ?_ ?_ | refine pO ?_ ?_ | refine pN ?_ ?_ | refine pS ?_ ?_ | refine kN ?_ ?_ | refine sGd ?_ ?_ | refine kI ?_ ?_) <;> intro hq <;> try subst hq)
  all_goals first | omega | exact w1 rfl rfl
 rw [if_neg hr]
 cases hv : mY R cs.length cs 0 with
 | ok =>
  simp only [List.length_nil, hv] at h2
  rw [h2] at h1
  repeat' first
   | (with_reducible first | refine eT ?_ | refine eN ?_ | refine eS ?_ | refine eXn ?_ | refine eXr ?_ | refine eX ?_ | refine eI ?_ | refine eK ?_ | refine yG ?_ | refine oO ?_ | refine oR ?_ | refine oH ?_ | refine oQ ?_ | refine oL ?_ | refine oM ?_)
   | ((with_reducible apply eCn); (simp only [aI, aH]; first | done | (with_reducible exact rfl)))
   | ((with_reducible apply eJ); (rfl))
   | ((with_reducible apply oP); (first | rfl | (simp only [aI, aH]; rfl)))
   | ((with_reducible apply eL); (first | exact h1))
   | ((with_reducible apply eB); (first | (with_reducible exact rfl) | (simp (disch := omega) only [qf, lc, e0]; first | done | (with_reducible exact rfl) | (with_reducible exact ⟨rfl, rfl⟩)) | (simp (disch := omega) only [qa, dH, AV.cells, aT, aU, cQ, aZ, aW, cH, Nat.reduceLeDiff, Nat.reduceLT, Nat.reduceAdd, ↓reduceIte, lc, e0]; first | done | (with_reducible exact rfl) | (with_reducible exact ⟨rfl, rfl⟩))))
   | ((with_reducible apply eR); (simp only [aI, aH]; (with_reducible exact rfl)))
   | ((with_reducible first | refine pM ?_ ?_ | refine pR ?_ ?_ | refine pQ ?_ ?_ | refine pP ?_ ?_ | refine pO ?_ ?_ | refine pN ?_ ?_ | refine pS ?_ ?_ | refine kN ?_ ?_ | refine sGd ?_ ?_ | refine kI ?_ ?_) <;> intro hq <;> try subst hq)
  all_goals first | omega | exact w1 rfl rfl
 | bare e =>
  simp only [List.length_nil, hv] at h2
  obtain ⟨j, H', h2⟩ := h2
  rw [h2] at h1
  repeat' first
   | (with_reducible first | refine eT ?_ | refine eN ?_ | refine eS ?_ | refine eXn ?_ | refine eXr ?_ | refine eX ?_ | refine eI ?_ | refine eK ?_ | refine yG ?_ | refine oO ?_ | refine oR ?_ | refine oH ?_ | refine oQ ?_ | refine oL ?_ | refine oM ?_)
   | ((with_reducible apply eCn); (simp only [aI, aH]; first | done | (with_reducible exact rfl)))
   | ((with_reducible apply eJ); (rfl))
   | ((with_reducible apply oP); (first | rfl | (simp only [aI, aH]; rfl)))
   | ((with_reducible apply eL); (first | exact h1))
   | ((with_reducible apply eB); (first | (with_reducible exact rfl) | (simp (disch := omega) only [qf, lc, e0]; first | done | (with_reducible exact rfl) | (with_reducible exact ⟨rfl, rfl⟩)) | (simp (disch := omega) only [qa, dH, AV.cells, aT, aU, cQ, aZ, aW, cH, Nat.reduceLeDiff, Nat.reduceLT, Nat.reduceAdd, ↓reduceIte, lc, e0]; first | done | (with_reducible exact rfl) | (with_reducible exact ⟨rfl, rfl⟩))))
   | ((with_reducible apply eR); (simp only [aI, aH]; (with_reducible exact rfl)))
   | ((with_reducible first | refine pM ?_ ?_ | refine pR ?_ ?_ | refine pQ ?_ ?_ | refine pP ?_ ?_ | refine pO ?_ ?_ | refine pN ?_ ?_ | refine pS ?_ ?_ | refine kN ?_ ?_ | refine sGd ?_ ?_ | refine kI ?_ ?_) <;> intro hq <;> try subst hq)
  all_goals first | omega | exact w1 rfl rfl
 | at_ j e =>
  simp only [List.length_nil, hv] at h2
  obtain ⟨j', H', h2⟩ := h2
  rw [h2] at h1
  repeat' first
   | (with_reducible first | refine eT ?_ | refine eN ?_ | refine eS ?_ | refine eXn ?_ | refine eXr ?_ | refine eX ?_ | refine eI ?_ | refine eK ?_ | refine yG ?_ | refine oO ?_ | refine oR ?_ | refine oH ?_ | refine oQ ?_ | refine oL ?_ | refine oM ?_)
   | ((with_reducible apply eCn); (simp only [aI, aH]; first | done | (with_reducible exact rfl)))
   | ((with_reducible apply eJ); (rfl))
   | ((with_reducible apply oP); (first | rfl | (simp only [aI, aH]; rfl)))
   | ((with_reducible apply eL); (first | exact h1))
   | ((with_reducible apply eB); (first | (with_reducible exact rfl) | (simp (disch := omega) only [qf, lc, e0]; first | done | (with_reducible exact rfl) | (with_reducible exact ⟨rfl, rfl⟩)) | (simp (disch := omega) only [qa, dH, AV.cells, aT, aU, cQ, aZ, aW, cH, Nat.reduceLeDiff, Nat.reduceLT, Nat.reduceAdd, ↓reduceIte, lc, e0]; first | done | (with_reducible exact rfl) | (with_reducible exact ⟨rfl, rfl⟩))))
   | ((with_reducible apply eR); (simp only [aI, aH]; (with_reducible exact rfl)))
   | ((with_reducible first | refine pM ?_ ?_ | refine pR ?_ ?_ | refine pQ ?_ ?_ | refine pP ?_ ?_ | refine pO ?_ ?_ | refine pN ?_ ?_ | refine pS ?_ ?_ | refine kN ?_ ?_ | refine sGd ?_ ?_ | refine kI ?_ ?_) <;> intro hq <;> try subst hq)
  all_goals first | omega | exact w1 rfl rfl
def pH (M : Int) (n : Nat) (fuel : Int) : VE :=
 if (n : Int) ≠ M then .bare 1 else if fuel < 0 ∨ 1073741824 < fuel then .bare 2 else .ok
include hg in
theorem aAQ (bm : Bool) (mem : List Nat) (fuel : Int) : cX.f G (k + 1) [gQ bor cs R M, .ro bm (dE mem), I6 fuel] [] = some (veV (pH M mem.length fuel), []) := by
 rw [cX.step]
 unfold cX.c gQ
 have e1 : ∀ H, aC G false 1 (.gl 1) H = some (eV 1) := fun H => hg.g1
 have e2 : ∀ H, aC G false 1 (.gl 2) H = some (eV 2) := fun H => hg.g2
 have lc : bO (.ro bm (dE mem)) = some (I6 mem.length) := by simp [bO, fU]
 refine gZ ?_
 unfold pH
 repeat' first
  | (with_reducible first | refine eT ?_ | refine eN ?_ | refine eS ?_ | refine eXn ?_ | refine eXr ?_ | refine eX ?_ | refine eI ?_ | refine eK ?_ | refine yG ?_ | refine oO ?_ | refine oR ?_ | refine oH ?_ | refine oQ ?_ | refine oL ?_ | refine oM ?_)
  | ((with_reducible apply eCn); (simp only [aI, aH]; first | done | (with_reducible exact rfl)))
  | ((with_reducible apply eJ); (rfl))
  | ((with_reducible apply oP); (first | rfl | (simp only [aI, aH]; rfl)))
  | ((with_reducible apply eB); (first | (with_reducible exact rfl) | (simp (disch := omega) only [qf, lc, e1, e2]; first | done | (with_reducible exact rfl) | (with_reducible exact ⟨rfl, rfl⟩)) | (simp (disch := omega) only [qa, dH, AV.cells, aT, aU, cQ, aZ, aW, cH, Nat.reduceLeDiff, Nat.reduceLT, Nat.reduceAdd, ↓reduceIte, lc, e1, e2]; first | done | (with_reducible exact rfl) | (with_reducible exact ⟨rfl, rfl⟩))))
  | ((with_reducible apply eR); (simp only [aI, aH]; (with_reducible exact rfl)))
  | ((with_reducible first | refine pM ?_ ?_ | refine pR ?_ ?_ | refine pQ ?_ ?_ | refine pP ?_ ?_ | refine pO ?_ ?_ | refine pN ?_ ?_ | refine pS ?_ ?_ | refine kN ?_ ?_ | refine sGd ?_ ?_ | refine kI ?_ ?_) <;> intro hq <;> try subst hq)
 all_goals (simp (disch := omega) only [if_pos, if_neg, if_true, if_false, ↓reduceIte, ne_eq, not_true_eq_false]; first | omega | exact w1 rfl rfl)
end
theorem aCb {i : Ins} {R n : Int} (h : jG i R n = none) (hR : 0 ≤ R) : i.Ok R.toNat n.toNat := by
 unfold jG at h
 have out : ∀ {t : Bool} {r : Int}, kT t r R = false → t = true → 0 ≤ r ∧ r < R := fun {t r} ho ht => by
  subst ht; simp [kT] at ho; omega
 by_cases h20 : 1 ≤ i.op ∧ i.op ≤ 20
 ·by_cases h1 : pL (iZ i.op) i R = true
  ·rw [if_pos h1] at h; split at h <;> cases h
  rw [if_neg h1] at h
  by_cases h2 : rT (iZ i.op) i = true
  ·rw [if_pos h2] at h; split at h <;> cases h
  rw [if_neg h2] at h
  obtain ⟨op, d, a, b, c, kk⟩ := i
  simp only at h h1 h2 h20
  simp only [pL, rT, Bool.or_eq_true, not_or, Bool.and_eq_true, Bool.not_eq_true', decide_eq_true_eq, not_and, Bool.not_eq_true] at h1 h2
  rcases aFM h20 with rfl | rfl | rfl | rfl | rfl | rfl | rfl | rfl | rfl | rfl | rfl | rfl | rfl | rfl | rfl | rfl | rfl | rfl | rfl | rfl
  all_goals (
   simp [iZ, jQ, kT] at h1 h2
   simp [jQ] at h
   constructor <;> simp <;> omega)
 ·rw [uN h20] at h; simp at h
theorem aBJ {R n : Int} (hR : 0 ≤ R) : ∀ {l : List Ins} {j : Nat}, mY R n l j = .ok → ∀ i ∈ l, i.Ok R.toNat n.toNat
 | [], _, _, i, hi => by cases hi
 | x :: l, j, h, i, hi => by
  unfold mY at h
  split at h
  ·cases h
  ·rename_i ho
   rcases List.mem_cons.1 hi with rfl | hi
   ·exact aCb ho hR
   ·exact aBJ hR h i hi
theorem rY {cs : List Ins} {R M : Int} (h : fP cs R M = .ok) : (0 ≤ R ∧ R ≤ 65536 ∧ 0 ≤ M ∧ M ≤ 65536 ∧ cs.length ≤ 262144) ∧ ∀ j, j < cs.length → (cs.getD j default).Ok R.toNat cs.length := by
 unfold fP at h
 by_cases h1 : 262144 < cs.length
 ·rw [if_pos h1] at h; cases h
 rw [if_neg h1] at h
 by_cases h2 : R < 0 ∨ 65536 < R ∨ M < 0 ∨ 65536 < M
 ·rw [if_pos h2] at h; cases h
 rw [if_neg h2] at h
 refine ⟨by omega, fun j hj => ?_⟩
 have := aBJ (by omega) h (cs.getD j default) (by simp [List.getD, List.getElem?_eq_getElem hj])
 rwa [Int.toNat_natCast] at this
section
variable {bor : Bool} (G : aE) (hg : GOk G) (k : Nat) (cs : List Ins) (R M : Int) (bm : Bool) (mem : List Nat) (fuel : Int)
theorem tM {v : VE} (h : v ≠ .ok) : bE Tryd.prog .neq 35 true (veV v) .nili = some (.bool true) := by
 cases v with
 | ok => exact absurd rfl h
 | bare e => kernel_rfl
 | at_ j e => kernel_rfl
end
end Go.Proofs.YtcmblhedhgiofaaDoor.Mir
namespace Go.Proofs.YtcmblhedhgiofaaDoor.Mir.B3
open Go
set_option linter.unusedVariables false
set_option linter.unusedSimpArgs false
set_option maxHeartbeats 8000000
set_option maxRecDepth 20000
section
variable (G : aE) (bor b2 bm : Bool) (cs : List Ins) (sp : List (Int × Int)) (R : Nat) (M : Int) (fuel : Int) (k : Nat) (mem : List Nat)
abbrev h3 (w : Int) : aB := [b0 bor cs R M, b1 b2 sp, bw w]
theorem aDs (n : Nat) (w : Int) : dX n (h3 bor b2 cs sp R M w) = true := by
 simp [dX, bS, bX, gQ, fI, fN]
theorem aGO (l : List (Int × Int)) : jE (bD l) (bD l) = true := qF _ (fun _ => by simp [bW, iS, jE]) l
def hpC : aB :=
 [b0 bor cs R M, b1 b2 sp, bw (-1), ⟨40, 4, [.agg [.int .i64 0, .nils, .nils, .int .i64 0]]⟩, ⟨48, 1, dE (List.replicate R 0)⟩,
  ⟨126, 9, [.agg [.ro bor (dB cs), I6 R, I6 M, .sl 4 R 0 R 1, .int .i64 0, .int .i64 0, .nils, .nils, .int .i64 0]]⟩]
theorem uR : kR (hpC bor b2 cs sp R M) (hpC bor b2 cs sp R M) = true := by
 simp [hpC, kR, jE, iS, eqU, eqC, aGO, gQ]
theorem vZ (hR : R ≤ 1000000) (hm : ∀ x ∈ mem, x < 18446744073709551616) (hml : mem.length ≤ 1000000) (h0 : 0 ≤ fuel) (hf : fuel ≤ 99999) (hk : fuel < k + 4) (hcl : cs.length ≤ 100000) (hsp : sp.length = cs.length)
  (hcs : ∀ j, j < cs.length → (cs.getD j default).Ok R cs.length) :
  ∃ s' w, runB sp cs fuel (k + 4) (s0 R mem) = some (s', w) ∧ bL.f G (k + 5) [gQ bor cs R M, .ro bm (dE mem), I6 fuel, LK] (h3 bor b2 cs sp R M (-1)) = some (aBa s', h3 bor b2 cs sp R M w) := by
 obtain ⟨⟨s', w⟩, hs⟩ := xK sp cs fuel (k + 4) (s0 R mem) (by simp only [s0]; omega) (by simp only [s0]; omega)
 refine ⟨s', w, hs, ?_⟩
 rw [bL.step]
 unfold bL.c
 have loop := kP G bor b2 bor false cs sp R M fuel (bL.f G (k + 4)) k hf hcl hsp hcs (k + 4) (s0 R mem) s' w hs (aEk R mem hm hml) (by simp [s0]) (by simp only [s0]; omega)
 have c5 : fC 48 1 (.int .u64 0) (I6 R) (I6 R) [b0 bor cs R M, b1 b2 sp, bw (-1), ⟨40, 4, [.agg [.int .i64 0, .nils, .nils, .int .i64 0]]⟩] = some (.sl 4 R 0 R 1, [b0 bor cs R M, b1 b2 sp, bw (-1), ⟨40, 4, [.agg [.int .i64 0, .nils, .nils, .int .i64 0]]⟩, ⟨48, 1, dE (List.replicate R 0)⟩]) := by
  unfold fC
  have : (0 : Int) ≤ R ∧ (R : Int) ≤ R ∧ (R : Int) ≤ 1099511627776 := by omega
  simp only [this, and_self, if_true, Int.toNat_natCast, dE, List.map_replicate]
  rfl
 have c8 := jR (uG G (k + 3) (hpC bor b2 cs sp R M) (uR bor b2 cs sp R M) bm mem hml) (by simp)
 have e8 : (hpC bor b2 cs sp R M).length + 1 = 7 := rfl
 rw [e8] at c8
 refine gZ ?_
 have e9 : (hpC bor b2 cs sp R M ++ [⟨48, 1, []⟩, ⟨48, 1, dE mem⟩] : aB) = [b0 bor cs R M, b1 b2 sp, bw (-1), ⟨40, 4, [.agg [.int .i64 0, .nils, .nils, .int .i64 0]]⟩, ⟨48, 1, dE (List.replicate R 0)⟩,
  ⟨126, 9, [.agg [.ro bor (dB cs), I6 R, I6 M, .sl 4 R 0 R 1, .int .i64 0, .int .i64 0, .nils, .nils, .int .i64 0]]⟩, ⟨48, 1, []⟩, ⟨48, 1, dE mem⟩] := rfl
 rw [e9] at c8
 unfold hpC at c8
 have x1 : ∀ H, bC (gQ bor cs R M) H = some (.rp false (gQ bor cs R M) 0, H) := fun H => rfl
 have x2 : ∀ H, aC G true 3 (.rp false (gQ bor cs R M) 0) H = some (.agg [.ro bor (dB cs), I6 R, I6 M]) := fun H => rfl
 have x3 : ∀ H, aC G false 1 (.rp false (gQ bor cs R M) 1) H = some (I6 R) := fun H => rfl
 have x4 : dC 40 (.agg [(.int .i64 0), .nils, .nils, (.int .i64 0)]) (h3 bor b2 cs sp R M (-1)) = some (.ptr 3 1 0 0, [b0 bor cs R M, b1 b2 sp, bw (-1), ⟨40, 4, [.agg [.int .i64 0, .nils, .nils, .int .i64 0]]⟩]) := rfl
 have x5 : dC 126 (.agg [.ro bor (dB cs), I6 R, I6 M, .sl 4 R 0 R 1, .int .i64 0, .int .i64 0, .nils, .nils, .int .i64 0]) [b0 bor cs R M, b1 b2 sp, bw (-1), ⟨40, 4, [.agg [.int .i64 0, .nils, .nils, .int .i64 0]]⟩, ⟨48, 1, dE (List.replicate R 0)⟩] = some (.ptr 5 1 0 0, [b0 bor cs R M, b1 b2 sp, bw (-1), ⟨40, 4, [.agg [.int .i64 0, .nils, .nils, .int .i64 0]]⟩, ⟨48, 1, dE (List.replicate R 0)⟩,
  ⟨126, 9, [.agg [.ro bor (dB cs), I6 R, I6 M, .sl 4 R 0 R 1, .int .i64 0, .int .i64 0, .nils, .nils, .int .i64 0]]⟩]) := rfl
 have x6 : dY (aN 1 (.ptr 5 1 0 6) (.sl 7 mem.length 0 mem.length 1) [b0 bor cs R M, b1 b2 sp, bw (-1), ⟨40, 4, [.agg [.int .i64 0, .nils, .nils, .int .i64 0]]⟩, ⟨48, 1, dE (List.replicate R 0)⟩,
  ⟨126, 9, [.agg [.ro bor (dB cs), I6 R, I6 M, .sl 4 R 0 R 1, .int .i64 0, .int .i64 0, .nils, .nils, .int .i64 0]]⟩, ⟨48, 1, []⟩, ⟨48, 1, dE mem⟩]) = some (.tup [], [b0 bor cs R M, b1 b2 sp, bw (-1), ⟨40, 4, [.agg [.int .i64 0, .nils, .nils, .int .i64 0]]⟩, ⟨48, 1, dE (List.replicate R 0)⟩,
  ⟨126, 9, [.agg [.ro bor (dB cs), I6 R, I6 M, .sl 4 R 0 R 1, .int .i64 0, .int .i64 0, .sl 7 mem.length 0 mem.length 1, .nils, .int .i64 0]]⟩, ⟨48, 1, []⟩, ⟨48, 1, dE mem⟩]) := rfl
 have fx := aHv x1 <| aHv x2 <| aHv x3 <| aHv x4 <| aHv x5 <| aHv x6 <| aHv c5 <| c8
 refine jC ?_
 refine eV1 (H1 := hpT bor b2 bor cs sp R M (-1) (s0 R mem)) (by simp only [fM, s0, List.length_replicate]; rfl) ?_
 have e7 : (hpT bor b2 bor cs sp R M (-1) (s0 R mem)).length = 9 := rfl
 have hl : aC G true 4 (.ptr 3 1 0 0) (qK bor b2 bor cs sp R M w s') = some (vL s') := rfl
 have fin : fT [aC G true 4 (.ptr 3 1 0 0) (qK bor b2 bor cs sp R M w s')] 3 (qK bor b2 bor cs sp R M w s') = some (.ret, [aBa s'], h3 bor b2 cs sp R M w) := by
  have f1 := uO (H := qK bor b2 bor cs sp R M w s') (b := 7) (n0 := 3) (d := 4) (ty := 48) rfl (by omega) (fU s'.mem) (tI _) (jT 3 _)
  have f2 := uO (H := qK bor b2 bor cs sp R M w s') (b := 8) (n0 := 3) (d := 4) (ty := 96) rfl (by omega) (dL s'.leaks) (tH _) (fN 3 _)
  have f3 : rO (qK bor b2 bor cs sp R M w s') 3 6 (vL s') = some (aBa s') :=
   aBT (by simp [bS, bX]) (gV (kD rfl 5) (gV f1 (gV f2 (gV (kD rfl 5) uW))))
  unfold fT
  rw [hl]
  simp only [bH]
  exact yL f3 (aDs bor b2 cs sp R M 3 w)
 simp only [xsM] at loop
 have e1 : (h3 bor b2 cs sp R M (-1)).length = 3 := rfl
 simp only [e1]
 refine yG ?_
 rw [e7]
 refine eK ?_
 refine eL loop ?_
 have fx := hl
 refine jC ?_
 exact oF fin
end
def checkF (cs : List Ins) (R M : Int) (n m : Nat) (fuel : Int) : VE :=
 match fP cs R M with
 | .ok => if n ≠ cs.length then .bare 1 else pH M m fuel
 | v => v
theorem aAY {cs : List Ins} {R M : Int} {n m : Nat} {fuel : Int} (h : fP cs R M ≠ .ok) : checkF cs R M n m fuel = fP cs R M := by
 unfold checkF
 generalize fP cs R M = v at *
 cases v with
 | ok => exact absurd rfl h
 | bare e => rfl
 | at_ j e => rfl
theorem checkF_ok {cs : List Ins} {R M : Int} {n m : Nat} {fuel : Int} (h : fP cs R M = .ok) : checkF cs R M n m fuel = if n ≠ cs.length then .bare 1 else pH M m fuel := by
 unfold checkF
 rw [h]
theorem VE.dec (v : VE) : v = .ok ∨ v ≠ .ok := by cases v <;> simp
section
variable (G : aE) (hg : GOk G) (k : Nat) (cs : List Ins) (sp : List (Int × Int)) (R M : Int) (bor b2 bm : Bool) (mem : List Nat) (fuel : Int)
include hg in
theorem Check_ok (hk : cs.length < k + 7) (hcl : cs.length ≤ 100000) (h : checkF cs R M sp.length mem.length fuel = .ok) (hm : ∀ x ∈ mem, x < 18446744073709551616) (hf : fuel ≤ 99999) (hk2 : fuel < k + 7) :
  ∃ s' w, runB sp cs fuel (k + 7) (s0 R.toNat mem) = some (s', w) ∧ cJ.f G (k + 9) [gQ bor cs R M, .ro b2 (bD sp), .ro bm (dE mem), I6 fuel] [] = some (.tup [I6 w, .nili], []) := by
 have hv : fP cs R M = .ok := by
  by_cases hv : fP cs R M ≠ .ok
  ·rw [aAY hv] at h; exact h
  ·exact Classical.not_not.1 hv
 have hn : sp.length = cs.length := by
  rw [checkF_ok hv] at h
  by_cases hn : sp.length ≠ cs.length
  ·rw [if_pos hn] at h; cases h
  ·exact Classical.not_not.1 hn
 have h2 : pH M mem.length fuel = .ok := by
  rwa [checkF_ok hv, if_neg (by simp [hn])] at h
 obtain ⟨⟨hR0, hR1, hM0, hM1, hcl2⟩, hok⟩ := rY hv
 have hgv : (mem.length : Int) = M ∧ 0 ≤ fuel := by
  unfold pH at h2
  split at h2
  ·cases h2
  ·split at h2
   ·cases h2
   ·omega
 have hRn : ((R.toNat : Nat) : Int) = R := Int.toNat_of_nonneg hR0
 obtain ⟨s', w, w1_, w2_⟩ := vZ G bor b2 bm cs sp R.toNat M fuel (k + 3) mem (by omega) hm (by omega) hgv.2 hf (by omega) hcl hn hok
 simp only [h3, hRn] at w2_
 refine ⟨s', w, w1_, ?_⟩
 rw [cJ.step]
 unfold cJ.c
 have r1 : ∀ H, aL (bV.f G (k + 8)) [gQ bor cs R M] H = _ := fun H => aX (H := H) (tX G hg k cs R M hk (by omega)) (by simp [fQ, bT, rV, gQ]) (oD _)
 have r2 : ∀ H, aL (cX.f G (k + 8)) [gQ bor cs R M, .ro bm (dE mem), I6 fuel] H = _ := fun H => aX (H := H) (aAQ G hg (k + 7) cs R M bm mem fuel) (by simp [fQ, bT, rV, gQ, aDJ]) (oD _)
 have r3 : fJ (bL.f G (k + 8)) [gQ bor cs R M, .ro bm (dE mem), I6 fuel, LK] [b0 bor cs R M, b1 b2 sp, bw (-1)] = some (aBa s', [b0 bor cs R M, b1 b2 sp, bw w]) := jR w2_ (Nat.le_refl _)
 have x1 : dC 24 (gQ bor cs R M) [] = some (.ptr 0 1 0 0, [b0 bor cs R M]) := rfl
 have x2 : dC 60 (.ro b2 (bD sp)) [b0 bor cs R M] = some (.ptr 1 1 0 0, [b0 bor cs R M, b1 b2 sp]) := rfl
 have x3 : ∀ l, aC G true 3 (.ptr 0 1 0 0) (b0 bor cs R M :: l) = some (gQ bor cs R M) := fun l => rfl
 have x4 : aC G false 1 (.ptr 1 1 0 0) [b0 bor cs R M, b1 b2 sp] = some (.ro b2 (bD sp)) := rfl
 have x5 : aC G false 1 (.ptr 0 1 0 0) [b0 bor cs R M, b1 b2 sp] = some (.ro bor (dB cs)) := rfl
 have x7 : dC 3 (.int .i64 0) [b0 bor cs R M, b1 b2 sp] = some (.ptr 2 1 0 0, [b0 bor cs R M, b1 b2 sp, bw 0]) := rfl
 have x8 : dY (aN 1 (.ptr 2 1 0 0) (.int .i64 (-1)) [b0 bor cs R M, b1 b2 sp, bw 0]) = some (.tup [], [b0 bor cs R M, b1 b2 sp, bw (-1)]) := rfl
 have x9 : aC G false 1 (.ptr 2 1 0 0) [b0 bor cs R M, b1 b2 sp, bw w] = some (I6 w) := rfl
 have l1 : bO (.ro b2 (bD sp)) = some (I6 sp.length) := by simp [bO, dL]
 have l2 : bO (.ro bor (dB cs)) = some (I6 cs.length) := by simp [bO, fS]
 have q0 : bE Tryd.prog .neq 35 true .nili .nili = some (.bool false) := by kernel_rfl
 have q1 : bE Tryd.prog .neq 3 false (I6 sp.length) (I6 cs.length) = some (.bool false) := qZ (by omega)
 rw [hv] at r1
 rw [h2] at r2
 simp only [veV] at r1 r2
 refine gZ ?_
 have fx := aHv x1 <| aHv x2 <| aHv x3 <| aHv x4 <| aHv x5 <| aHv x7 <| aHv x8 <| aHv x9 <| aHv l1 <| aHv l2 <| aHv r1 <| aHv r2 <| aHv r3 <| aHv q0 <| q1
 refine jC ?_
 exact w2 rfl rfl rfl
end
end Go.Proofs.YtcmblhedhgiofaaDoor.Mir.B3
namespace Go.Proofs.YtcmblhedhgiofaaDoor.Mir
open Go
set_option linter.unusedSimpArgs false
set_option linter.unusedVariables false
set_option maxHeartbeats 4000000
set_option maxRecDepth 20000
def ftV (c : Int) (p : Bool) (j : Int) : AV := .agg [I6 c, .bool p, I6 j]
inductive Cls : Frm → Int → Prop
 | c1 : Cls ⟨true, false, false, false, true⟩ 1
 | c2 : Cls ⟨true, true, false, false, false⟩ 0
 | c3 : Cls ⟨true, true, true, false, false⟩ 0
 | c4 : Cls ⟨true, true, false, false, true⟩ 2
 | c5 : Cls ⟨true, true, true, true, false⟩ 0
 | c6 : Cls ⟨true, true, false, false, true⟩ 3
 | c7 : Cls ⟨false, true, true, false, true⟩ 3
 | c8 : Cls ⟨false, false, false, false, true⟩ 4
 | c9 : Cls ⟨false, true, false, false, true⟩ 4
 | c10 : Cls ⟨false, false, false, false, true⟩ 5
section
variable (G : aE) (k : Nat) (self : cY) (cs : List Ins) (R M : Int)
abbrev f0 : AV := ftV 0 false 0
end
section
variable (G : aE) (k : Nat) (self : cY) (cs : List Ins) (R M : Int)
end
def VE.low : VE → Prop
 | .ok => True
 | .bare e => e < 6
 | .at_ j e => e < 6
section
variable (G : aE) (s : MS) (wr : Int) (x : AV)
abbrev zI : AV := .agg [.int .i64 0, .int .i64 0, .int .i64 0, .int .i64 0, .int .i64 0, .int .i64 0]
end
structure Ins.Ok2 (i : Ins) (R n : Nat) : Prop where
 ok : i.Ok R n
 sh : 10 ≤ i.op → i.op ≤ 12 → 0 ≤ i.k ∧ i.k ≤ 63
 ha : 0 ≤ i.a ∧ i.a ≤ R
 hb : 0 ≤ i.b ∧ i.b ≤ R
theorem aEW {op n : Int} {a b c : Nat} (h : 1 ≤ op ∧ op ≤ 14) (hs : 10 ≤ op → op ≤ 12 → 0 ≤ n ∧ n ≤ 63) : (gJ op n a b c).2 = true := by
 by_cases e : op = 10 ∨ op = 11 ∨ op = 12
 ·have := hs (by omega) (by omega)
  have e2 : gJ op n a b c = iK op n a := by
   unfold gJ
   simp (disch := omega) only [if_neg, if_pos]
  rw [e2]
  unfold iK
  rw [if_neg (by omega)]
  split
  ·rfl
  ·split <;> rfl
 ·have : op = 1 ∨ op = 2 ∨ op = 3 ∨ op = 4 ∨ op = 5 ∨ op = 6 ∨ op = 7 ∨ op = 8 ∨ op = 9 ∨ op = 13 ∨ op = 14 := by omega
  rcases this with rfl | rfl | rfl | rfl | rfl | rfl | rfl | rfl | rfl | rfl | rfl <;> simp [gJ]
theorem aDH {i : Ins} {R n : Int} (h : jG i R n = none) (hR : 0 ≤ R) : i.Ok2 R.toNat n.toNat := by
 have h0 := aCb h hR
 unfold jG at h
 have h20 := h0.op
 by_cases h1 : pL (iZ i.op) i R = true
 ·rw [if_pos h1] at h; split at h <;> cases h
 rw [if_neg h1] at h
 by_cases h2 : rT (iZ i.op) i = true
 ·rw [if_pos h2] at h; split at h <;> cases h
 rw [if_neg h2] at h
 obtain ⟨op, d, a, b, c, kk⟩ := i
 simp only at h h1 h2 h20
 simp only [pL, rT, Bool.or_eq_true, not_or, Bool.and_eq_true, Bool.not_eq_true', decide_eq_true_eq, not_and, Bool.not_eq_true] at h1 h2
 rcases aFM h20 with rfl | rfl | rfl | rfl | rfl | rfl | rfl | rfl | rfl | rfl | rfl | rfl | rfl | rfl | rfl | rfl | rfl | rfl | rfl | rfl
 all_goals (
  simp [iZ, jQ, kT] at h1 h2
  simp [jQ] at h
  exact ⟨h0, by simp; try omega, by simp; omega, by simp; omega⟩)
end Go.Proofs.YtcmblhedhgiofaaDoor.Mir
