/- Part 6 of the proof: what these functions do. -/
import Derived.Test.YtlkgkfgkiidhdaaDoorVl5
import Derived.Test.YtlkgkfgkiidhdaaDoorRows
import Derived.KernelRfl
import Derived.SizedLaws
namespace Go.Proofs.YtlkgkfgkiidhdaaDoor
open Go Go.ChangeShapes Go.WideShapes Go.RowKit Mir
set_option linter.unusedVariables false
set_option linter.unusedSimpArgs false
namespace Rk
theorem own : ownKnob Tryd.prog.godebug = none := by kernel_rfl
theorem laidOut : laidOutB Tryd.prog = true := by kernel_rfl
theorem zL : "*" ++ "errors.errorString" = "*errors.errorString" := by decide
theorem row (u : TypeId) (h : Tryd.prog.typeName? 3 u = some "*errors.errorString") : u = 179 :=
 typeName_ptr_named (nm := "errors.errorString") (by rw [zL]; kernel_rfl) (by kernel_rfl) (by decide) u (by rw [zL]; exact h)
noncomputable def low : Nat := (World.holding Tryd.prog default ⟨#[], #[], []⟩).heap.size
end Rk
end Go.Proofs.YtlkgkfgkiidhdaaDoor
namespace Go.Proofs.YtlkgkfgkiidhdaaDoor.Mir
open Go
set_option linter.unusedSimpArgs false
set_option linter.unusedVariables false
set_option maxHeartbeats 8000000
set_option maxRecDepth 20000
abbrev I6 (n : Int) : AV := .int .i64 n
abbrev Nn (n : Nat) : AV := .int .i64 (n : Int)
def s64 (a : Nat) : Int := if a ≥ 9223372036854775808 then (a : Int) - 18446744073709551616 else (a : Int)
def u64 (n : Int) : Nat := (n % 18446744073709551616).toNat
def aAc (a n : Nat) : Nat := u64 ((s64 a).fdiv (2 ^ n))
structure WI where
 op : Int
 d : Int
 a : Int
 b : Int
 c : Int
 k : Int
def WI.v (i : WI) : AV := .agg [I6 i.op, I6 i.d, I6 i.a, I6 i.b, I6 i.c, I6 i.k]
instance : Inhabited WI := ⟨⟨0, 0, 0, 0, 0, 0⟩⟩
def rB (ws : List WI) : List AV := ws.map WI.v
section
variable (G : aB) (k : Nat) (self : bH) (bor : Bool) (ws : List WI) (r m : Int)
def cV (bor : Bool) (ws : List WI) (r m : Int) : AV := .agg [.ro bor (rB ws), I6 r, I6 m]
end
def yM (op k : Int) (a : Nat) : Nat × Bool :=
 if k < 0 ∨ 63 < k then (0, false)
 else if op = 10 then (a * 2 ^ k.toNat % 18446744073709551616, true)
 else if op = 11 then (a / 2 ^ k.toNat, true)
 else (aAc a k.toNat, true)
def zM (op k : Int) (a b c : Nat) : Nat × Bool :=
 if op = 1 then (u64 k, true)
 else if op = 2 then (a, true)
 else if op = 3 then ((a + b) % 18446744073709551616, true)
 else if op = 4 then ((a + 18446744073709551616 - b) % 18446744073709551616, true)
 else if op = 5 then (a * b % 18446744073709551616, true)
 else if op = 6 then (a * b / 18446744073709551616, true)
 else if op = 7 then (a &&& b, true)
 else if op = 8 then (a ||| b, true)
 else if op = 9 then (a ^^^ b, true)
 else if op = 10 ∨ op = 11 ∨ op = 12 then yM op k a
 else if op = 13 then (if a < b then 1 else 0, true)
 else if op = 14 then (if a ≠ 0 then b else c, true)
 else (0, false)
structure MS where
 regs : List Nat
 at_ : Nat
 code : Int
 mem : List Nat
 leaks : List (Int × Int)
 steps : Nat
def MS.leak (s : MS) (kind at_ : Int) : MS := { s with leaks := s.leaks ++ [(kind, at_)] }
def MS.rg (s : MS) (i : Int) : Nat := s.regs.getD i.toNat 0
def MS.set (s : MS) (i : Int) (n : Nat) : MS := { s with regs := s.regs.set i.toNat n }
def MS.touch (s : MS) (i : WI) : MS × Bool :=
 let ad := (s.rg i.a + u64 i.k) % 18446744073709551616
 let s1 := s.leak 3 (s64 ad)
 if s.mem.length ≤ ad then ({ s1 with code := 3 }, false)
 else if i.op = 15 then (s1.set i.d (s.mem.getD ad 0), true)
 else ({ s1 with mem := s.mem.set ad (s.rg i.b) }, true)
def MS.branch (s : MS) (i : WI) : MS :=
 if i.op = 17 then { s with at_ := i.k.toNat }
 else if (decide (s.rg i.a = 0) == decide (i.op = 18)) = true then { s.leak 2 1 with at_ := i.k.toNat }
 else s.leak 2 0
def MS.step (s : MS) (i : WI) : MS × Bool :=
 let s := { s with at_ := s.at_ + 1 }
 if i.op = 15 ∨ i.op = 16 then s.touch i
 else if i.op = 17 ∨ i.op = 18 ∨ i.op = 19 then (s.branch i, true)
 else if i.op = 20 then ({ s with code := i.k }, false)
 else if (zM i.op i.k (s.rg i.a) (s.rg i.b) (s.rg i.c)).2 = true then (s.set i.d (zM i.op i.k (s.rg i.a) (s.rg i.b) (s.rg i.c)).1, true)
 else (s, true)
structure MS.Ok (s : MS) (R : Nat) : Prop where
 len : s.regs.length = R
 regs : ∀ x ∈ s.regs, x < 18446744073709551616
 mem : ∀ x ∈ s.mem, x < 18446744073709551616
 leaks : s.leaks.length ≤ 3 * s.steps
 big : s.mem.length ≤ 1000000
 few : s.steps ≤ 100000
theorem MS.Ok.rg {s : MS} {R : Nat} (h : s.Ok R) (i : Int) : s.rg i < 18446744073709551616 := by
 unfold MS.rg
 rw [List.getD_eq_getElem?_getD]
 cases hq : s.regs[i.toNat]? with
 | none => decide
 | some x => exact h.regs x (List.mem_of_getElem? hq)
structure WI.Ok (i : WI) (R n : Nat) : Prop where
 op : 1 ≤ i.op ∧ i.op ≤ 20
 a : i.op ≠ 17 → i.op ≠ 20 → 0 ≤ i.a ∧ i.a < R
 d : i.op ≤ 16 → 0 ≤ i.d ∧ i.d < R
 b : i.op ≤ 16 → 0 ≤ i.b ∧ i.b < R
 c : i.op ≤ 16 → 0 ≤ i.c ∧ i.c < R
 k : 17 ≤ i.op → i.op ≤ 19 → 0 ≤ i.k ∧ i.k ≤ n
section
variable (G : aB) (i : WI)
end
def MS.tick (s : MS) : MS := ({ s with steps := s.steps + 1 } : MS).leak 1 s.at_
def vL (cs : List WI) (fuel : Int) : Nat → MS → Option MS
 | 0, _ => none
 | f + 1, s =>
  if cs.length ≤ s.at_ then some { s with code := 3 }
  else if (s.steps : Int) = fuel then some { s with code := 4 }
  else match s.tick.step (cs.getD s.at_ default) with
   | (s', true) => vL cs fuel f s'
   | (s', false) => some s'
section
variable (G : aB) (bor : Bool) (cs : List WI)
end
def s0 (R : Nat) (mem : List Nat) : MS := ⟨List.replicate R 0, 0, 0, mem, [], 0⟩
section
variable {cs : List WI} {fuel : Int} {f : Nat} {s s2 : MS} {i : WI}
end
def ro (e : Nat) : Nat := if e = 0 then 1 else if e = 1 then 2 else if e = 2 then 0 else if e = 3 then 4 else if e = 4 then 3 else 5
structure Frm where
 d : Bool
 a : Bool
 b : Bool
 c : Bool
 k : Bool
def uT (op : Int) : Option Frm :=
 if op = 1 then some ⟨true, false, false, false, true⟩
 else if op = 2 then some ⟨true, true, false, false, false⟩
 else if (3 ≤ op ∧ op ≤ 9) ∨ op = 13 then some ⟨true, true, true, false, false⟩
 else if (10 ≤ op ∧ op ≤ 12) ∨ op = 15 then some ⟨true, true, false, false, true⟩
 else if op = 14 then some ⟨true, true, true, true, false⟩
 else if op = 16 then some ⟨false, true, true, false, true⟩
 else if op = 17 ∨ op = 20 then some ⟨false, false, false, false, true⟩
 else if op = 18 ∨ op = 19 then some ⟨false, true, false, false, true⟩
 else none
def oJ (op : Int) : Frm := match uT op with | some f => f | none => ⟨false, false, false, false, false⟩
abbrev eV (g : Nat) : AV := .iface 179 (.gp (ro g))
def xE (is : Bool) (r R : Int) : Bool := is && (decide (r < 0) || decide (R ≤ r))
section
variable (G : aB) (k : Nat) (self : bH) (c1 : AV) (R : Int) (hR0 : 0 ≤ R)
def aAb (f : Frm) (i : WI) (R : Int) : Bool := xE f.d i.d R || xE f.a i.a R || xE f.b i.b R || xE f.c i.c R
def aAa (f : Frm) (i : WI) : Bool := (!f.d && decide (i.d ≠ 0)) || (!f.a && decide (i.a ≠ 0)) || (!f.b && decide (i.b ≠ 0)) || (!f.c && decide (i.c ≠ 0)) || (!f.k && decide (i.k ≠ 0))
end
def yQ (i : WI) (R n : Int) : Option Nat :=
 if (uT i.op).isSome = false then some 4
 else if aAb (oJ i.op) i R = true then some 2
 else if aAa (oJ i.op) i = true then some 3
 else if i.op = 10 ∨ i.op = 11 ∨ i.op = 12 then (if i.k < 0 ∨ 63 < i.k then some 2 else none)
 else if i.op = 20 then (if i.k < 0 ∨ 2 < i.k then some 2 else none)
 else if i.op = 15 ∨ i.op = 16 then (if i.k < 0 ∨ 65535 < i.k then some 2 else none)
 else if i.op = 17 ∨ i.op = 18 ∨ i.op = 19 then (if i.k < 0 ∨ n < i.k then some 5 else none)
 else none
structure GOk (G : aB) : Prop where
 g0 : G 1 = some (eV 0)
 g2 : G 0 = some (eV 2)
 g3 : G 4 = some (eV 3)
 g4 : G 3 = some (eV 4)
 g5 : G 5 = some (eV 5)
inductive VE where
 | ok
 | bare (e : Nat)
 | at_ (j e : Nat)
def zA (R n : Int) : List WI → Nat → VE
 | [], _ => .ok
 | i :: l, j => match yQ i R n with
  | some e => .at_ j e
  | none => zA R n l (j + 1)
def yP (cs : List WI) (R M : Int) : VE :=
 if 262144 < cs.length then .bare 0
 else if R < 0 ∨ 65536 < R ∨ M < 0 ∨ 65536 < M then .bare 0
 else zA R cs.length cs 0
section
variable {bor : Bool} (G : aB) (hg : GOk G) (k : Nat) (self : bH) (cs : List WI) (R M : Int)
end
inductive Cls : Frm → Int → Prop
 | c1 : Cls ⟨true, false, false, false, true⟩ 1
 | c2 : Cls ⟨true, true, false, false, false⟩ 0
 | c3 : Cls ⟨true, true, true, false, false⟩ 0
 | c4 : Cls ⟨true, true, false, false, true⟩ 2
 | c5 : Cls ⟨true, true, true, true, false⟩ 0
 | c6 : Cls ⟨true, true, false, false, true⟩ 3
 | c7 : Cls ⟨false, true, true, false, true⟩ 3
 | c8 : Cls ⟨false, false, false, false, true⟩ 4
 | c9 : Cls ⟨false, true, false, false, true⟩ 4
 | c10 : Cls ⟨false, false, false, false, true⟩ 5
section
variable (G : aB) (k : Nat) (self : bH) (cs : List WI) (R M : Int)
end
section
variable (G : aB) (k : Nat) (self : bH) (cs : List WI) (R M : Int)
end
def VE.low : VE → Prop
 | .ok => True
 | .bare e => e < 6
 | .at_ j e => e < 6
section
variable (G : aB) (s : MS) (wr : Int) (x : AV)
end
structure WI.Ok2 (i : WI) (R n : Nat) : Prop where
 ok : i.Ok R n
 sh : 10 ≤ i.op → i.op ≤ 12 → 0 ≤ i.k ∧ i.k ≤ 63
 ha : 0 ≤ i.a ∧ i.a ≤ R
 hb : 0 ≤ i.b ∧ i.b ≤ R
section
variable (G : aB) (k : Nat) (self : bH) (fuel : Int) (bc bor : Bool) (cs : List WI) (R : Nat) (s : MS) (wr : Int)
end
section
variable (G : aB) (k : Nat) (self : bH) (fuel : Int) (bc bor : Bool) (cs : List WI) (R : Nat) (wr : Int)
end
structure LY where
 slot : List Nat
 word : List Nat
 M : Nat
def LY.sl (L : LY) (r : Int) : Nat := L.slot.getD r.toNat 0
def LY.wd (L : LY) (r : Int) : Nat := L.word.getD r.toNat 0
def LY.rdC (L : LY) (r into : Int) : List WI := if L.sl r = 0 then [⟨15, into, 0, 0, 0, L.wd r⟩] else []
def LY.rdR (L : LY) (r into : Int) : Int := if L.sl r = 0 then into else L.sl r
def LY.wrR (L : LY) (r : Int) : Int := if L.sl r = 0 then 1 else L.sl r
def LY.wrC (L : LY) (r : Int) : List WI := if L.sl r = 0 then [⟨16, 0, 0, 1, 0, L.wd r⟩] else []
def LY.adC (L : LY) (i : WI) : List WI := L.rdC i.a 1 ++ [⟨1, 2, 0, 0, 0, i.k⟩, ⟨3, 2, L.rdR i.a 1, 2, 0, 0⟩, ⟨1, 3, 0, 0, 0, (L.M : Int)⟩, ⟨13, 3, 2, 3, 0, 0⟩, ⟨18, 0, 3, 0, 0, -1⟩]
def LY.rC (L : LY) (f : Bool) (r into : Int) : List WI := if f = true then L.rdC r into else []
def LY.rR (L : LY) (f : Bool) (r into : Int) : Int := if f = true then L.rdR r into else r
def LY.rds (L : LY) (i : WI) : List WI := L.rC (oJ i.op).a i.a 1 ++ (L.rC (oJ i.op).b i.b 2 ++ L.rC (oJ i.op).c i.c 3)
def LY.ins (L : LY) (i : WI) : WI := ⟨i.op, if (oJ i.op).d = true then L.wrR i.d else i.d, L.rR (oJ i.op).a i.a 1, L.rR (oJ i.op).b i.b 2, L.rR (oJ i.op).c i.c 3, i.k⟩
def LY.wrs (L : LY) (i : WI) : List WI := if (oJ i.op).d = true then L.wrC i.d else []
def LY.one (L : LY) (i : WI) : List WI :=
 if i.op = 15 then L.adC i ++ ([⟨15, L.wrR i.d, 2, 0, 0, 0⟩] ++ L.wrC i.d)
 else if i.op = 16 then L.adC i ++ (L.rdC i.b 1 ++ [⟨16, 0, 2, L.rdR i.b 1, 0, 0⟩])
 else L.rds i ++ ([L.ins i] ++ L.wrs i)
def LY.flat (L : LY) : List WI → List WI
 | [] => []
 | w :: ws => L.one w ++ L.flat ws
def LY.at_ (L : LY) (ws : List WI) (j : Nat) : Nat := (L.flat (ws.take j)).length
def LY.pos (L : LY) (b : Nat) : List WI → List Nat
 | [] => []
 | w :: ws => b :: L.pos (b + (L.one w).length) ws
def LY.place (L : LY) (ws : List WI) : List Nat := L.pos 0 ws ++ [(L.flat ws).length]
def xY (P : List Nat) (n : Nat) (i : WI) : WI := if i.op = 17 ∨ i.op = 18 ∨ i.op = 19 then (if i.k = -1 then { i with k := n } else { i with k := (P.getD i.k.toNat 0 : Nat) }) else i
def LY.out (L : LY) (ws : List WI) : List WI := (L.flat ws).map (xY (L.place ws) (L.flat ws).length)
def uN (l : List Nat) : List AV := l.map fun n => Nn n
structure SH (H : aA) (p q r n : Nat) (us : List Int) : Prop where
 hp : p < H.length
 pq : p ≠ q
 pr : p ≠ r
 hq : H[q]? = some ⟨49, 1, [.sl r n 0 n 1]⟩
 hr : H[r]? = some ⟨3, 1, us.map fun u => I6 u⟩
 hu : us.length = n
 hb : eG H.length H = true
section
variable (G : aB) (k : Nat) (self : bH) {H : aA} {p q r n : Nat} {us : List Int} (hS : SH H p q r n us)
end
section
variable (G : aB) (k : Nat) (self : bH) {H : aA} {p q r n : Nat} {us : List Int} (hS : SH H p q r n us)
end
section
variable (G : aB) (k : Nat) (self : bH) {H : aA} {p q r n : Nat} {us : List Int} (hS : SH H p q r n us)
end
section
variable (G : aB) (k : Nat) (self : bH) {H : aA} {p q r n : Nat} {us : List Int} (hS : SH H p q r n us)
end
section
variable (G : aB) {H : aA} {p q r n : Nat} {us : List Int} (hS : SH H p q r n us)
end
structure AX where
 bor : Bool
 ws : List WI
 R : Nat
 L : LY
 us : List Int
 o : List Nat
structure LS where
 out : List WI
 place : List Nat
def LS.put (s : LS) (l : List WI) : LS := { s with out := s.out ++ l }
def AX.cv (A : AX) : AV := cV A.bor A.ws A.R A.L.M
def AX.box (A : AX) (s : LS) : AV := .agg [.ro A.bor (rB A.ws), Nn A.R, Nn A.L.M, .sl 6 A.R 0 A.R 1, .sl 7 A.R 0 A.R 1, .sl 8 s.out.length 0 s.out.length 6, .sl 9 s.place.length 0 s.place.length 1]
def AX.hp (A : AX) (s : LS) (T : aA) : aA :=
 ⟨27, 3, [A.cv]⟩ :: ⟨27, 3, [.agg [.nils, .int .i64 0, .int .i64 0]]⟩ :: ⟨86, 7, [A.box s]⟩ :: ⟨3, 1, A.us.map fun u => I6 u⟩ :: ⟨49, 1, [.sl 3 A.R 0 A.R 1]⟩ :: ⟨3, 1, uN A.o⟩ :: ⟨3, 1, uN A.L.slot⟩ :: ⟨3, 1, uN A.L.word⟩ :: ⟨29, 6, rB s.out⟩ :: ⟨3, 1, uN s.place⟩ :: T
structure AX.W (A : AX) : Prop where
 sl : A.L.slot.length = A.R
 wd : A.L.word.length = A.R
section
variable (A : AX) (s : LS) (T : aA)
variable (G : aB) (k : Nat)
end
theorem dM (l : List Nat) (i j x : Nat) (hi : i < l.length) : (l.set i x).getD j 0 = if i = j then x else l.getD j 0 := by
 rw [List.getD_eq_getElem?_getD, List.getD_eq_getElem?_getD, List.getElem?_set]
 by_cases h : i = j
 ·rw [if_pos h, if_pos h, if_pos hi]; rfl
 ·rw [if_neg h, if_neg h]
section
variable {r : List Nat} {p : Nat} {cd : Int} {mem : List Nat} {lk : List (Int × Int)} {st : Nat} {d a b c k op : Int} {y : Nat}
end
def At (cs : List WI) (p : Nat) (i : WI) : Prop := cs[p]? = some i
def rE (cs : List WI) (fuel : Int) (q : MS) (m : Nat) (q2 : MS) : Prop := ∀ f, vL cs fuel (f + m) q = vL cs fuel f q2
def yY (cs : List WI) (fuel : Int) (q : MS) (m : Nat) (q2 : MS) : Prop := ∀ f, vL cs fuel (f + m) q = some q2
section
variable {cs : List WI} {fuel : Int} {r : List Nat} {p : Nat} {cd : Int} {mem : List Nat} {lk : List (Int × Int)} {st : Nat} {d a b c k op : Int} {y : Nat} {q q2 q3 : MS} {m n : Nat}
theorem rE.refl : rE cs fuel q 0 q := fun f => rfl
theorem rE.trans (h : rE cs fuel q m q2) (h2 : rE cs fuel q2 n q3) : rE cs fuel q (m + n) q3 := fun f => by
 rw [show f + (m + n) = f + n + m by omega, h, h2]
theorem rE.ends (h : rE cs fuel q m q2) (h2 : yY cs fuel q2 n q3) : yY cs fuel q (m + n) q3 := fun f => by
 rw [show f + (m + n) = f + n + m by omega, h, h2]
theorem At.lt {i : WI} (h : At cs p i) : p < cs.length ∧ cs.getD p default = i := by
 unfold At at h
 refine ⟨(List.getElem?_eq_some_iff.1 h).1, ?_⟩
 rw [List.getD_eq_getElem?_getD, h]; rfl
end
structure LY.Ok (L : LY) (R S N : Nat) : Prop where
 s6 : 6 ≤ S
 n : N ≤ 65536
 mn : L.M ≤ N
 sl : ∀ r, r < R → L.slot.getD r 0 ≠ 0 → 4 ≤ L.slot.getD r 0 ∧ L.slot.getD r 0 < S
 wd : ∀ r, r < R → L.slot.getD r 0 = 0 → L.M ≤ L.word.getD r 0 ∧ L.word.getD r 0 < N
 slI : ∀ r t, r < R → t < R → r ≠ t → L.slot.getD r 0 ≠ 0 → L.slot.getD t 0 ≠ L.slot.getD r 0
 wdI : ∀ r t, r < R → t < R → r ≠ t → L.slot.getD r 0 = 0 → L.slot.getD t 0 = 0 → L.word.getD t 0 ≠ L.word.getD r 0
structure RelA (L : LY) (R S N : Nat) (sr sm qr qm : List Nat) : Prop where
 sl : sr.length = R
 ql : qr.length = S
 z : qr.getD 0 0 = 0
 sml : sm.length = L.M
 qml : qm.length = N
 rs : ∀ r, r < R → L.slot.getD r 0 ≠ 0 → qr.getD (L.slot.getD r 0) 0 = sr.getD r 0
 rm : ∀ r, r < R → L.slot.getD r 0 = 0 → qm.getD (L.word.getD r 0) 0 = sr.getD r 0
 mem : ∀ j, j < L.M → qm.getD j 0 = sm.getD j 0
section
variable {L : LY} {R S N : Nat} {sr sm qr qm qr2 : List Nat}
theorem RelA.scr (hL : L.Ok R S N) (h : RelA L R S N sr sm qr qm) (hl : qr2.length = S) (he : ∀ j, j = 0 ∨ 4 ≤ j → qr2.getD j 0 = qr.getD j 0) : RelA L R S N sr sm qr2 qm :=
 ⟨h.sl, hl, by rw [he 0 (.inl rfl)]; exact h.z, h.sml, h.qml, fun r hr h0 => by rw [he _ (.inr (hL.sl r hr h0).1)]; exact h.rs r hr h0, h.rm, h.mem⟩
theorem RelA.set (hL : L.Ok R S N) (h : RelA L R S N sr sm qr qm) {t x : Nat} (ht : 1 ≤ t ∧ t ≤ 3) : RelA L R S N sr sm (qr.set t x) qm := by
 have := hL.s6
 refine h.scr hL (by rw [List.length_set]; exact h.ql) (fun j hj => ?_)
 rw [dM _ _ _ _ (by rw [h.ql]; omega), if_neg (by omega)]
theorem RelA.slot (hL : L.Ok R S N) (h : RelA L R S N sr sm qr qm) {d : Int} (hd : 0 ≤ d ∧ d < R) (h0 : L.sl d ≠ 0) (x : Nat) : RelA L R S N (sr.set d.toNat x) sm (qr.set (L.sl d) x) qm := by
 have hb := hL.sl d.toNat (by omega) h0
 have hlt : L.sl d < qr.length := by rw [h.ql]; exact hb.2
 refine ⟨by rw [List.length_set]; exact h.sl, by rw [List.length_set]; exact h.ql, ?_, h.sml, h.qml, fun r hr hr0 => ?_, fun r hr hr0 => ?_, h.mem⟩
 ·have hb4 : 4 ≤ L.sl d := hb.1
  rw [dM _ _ _ _ hlt, if_neg (by omega)]; exact h.z
 ·rw [dM _ _ _ _ hlt, dM _ _ _ _ (by rw [h.sl]; omega)]
  by_cases e : d.toNat = r
  ·subst e; rw [if_pos (show L.sl d = L.slot.getD d.toNat 0 from rfl), if_pos rfl]
  ·have hne : ¬ L.sl d = L.slot.getD r 0 := hL.slI r d.toNat hr (by omega) (by omega) hr0
   rw [if_neg hne, if_neg e]; exact h.rs r hr hr0
 ·have e : ¬ d.toNat = r := fun e => h0 (by unfold LY.sl; rw [e]; exact hr0)
  rw [dM _ _ _ _ (by rw [h.sl]; omega), if_neg e]; exact h.rm r hr hr0
theorem RelA.word (hL : L.Ok R S N) (h : RelA L R S N sr sm qr qm) {d : Int} (hd : 0 ≤ d ∧ d < R) (h0 : L.sl d = 0) (x : Nat) : RelA L R S N (sr.set d.toNat x) sm qr (qm.set (L.wd d) x) := by
 have hb := hL.wd d.toNat (by omega) h0
 have hlt : L.wd d < qm.length := by rw [h.qml]; exact hb.2
 refine ⟨by rw [List.length_set]; exact h.sl, h.ql, h.z, h.sml, by rw [List.length_set]; exact h.qml, fun r hr hr0 => ?_, fun r hr hr0 => ?_, fun j hj => ?_⟩
 ·have e : ¬ d.toNat = r := fun e => hr0 (by rw [← e]; exact h0)
  rw [dM _ _ _ _ (by rw [h.sl]; omega), if_neg e]; exact h.rs r hr hr0
 ·rw [dM _ _ _ _ hlt, dM _ _ _ _ (by rw [h.sl]; omega)]
  by_cases e : d.toNat = r
  ·subst e; rw [if_pos (show L.wd d = L.word.getD d.toNat 0 from rfl), if_pos rfl]
  ·have hne : ¬ L.wd d = L.word.getD r 0 := hL.wdI r d.toNat hr (by omega) (by omega) hr0 h0
   rw [if_neg hne, if_neg e]; exact h.rm r hr hr0
 ·have hb1 : L.M ≤ L.wd d := hb.1
  rw [dM _ _ _ _ hlt, if_neg (by omega)]; exact h.mem j hj
theorem RelA.store (hL : L.Ok R S N) (h : RelA L R S N sr sm qr qm) {y x : Nat} (hy : y < L.M) : RelA L R S N sr (sm.set y x) qr (qm.set y x) := by
 have hn := hL.mn
 refine ⟨h.sl, h.ql, h.z, by rw [List.length_set]; exact h.sml, by rw [List.length_set]; exact h.qml, h.rs, fun r hr hr0 => ?_, fun j hj => ?_⟩
 ·have hb := hL.wd r hr hr0
  rw [dM _ _ _ _ (by rw [h.qml]; omega), if_neg (by omega)]; exact h.rm r hr hr0
 ·rw [dM _ _ _ _ (by rw [h.qml]; omega), dM _ _ _ _ (by rw [h.sml]; omega), h.mem j hj]
end
def wR (cs : List WI) (P : List Nat) (p : Nat) (C : List WI) : Prop := ∀ t i, C[t]? = some i → At cs (p + t) (xY P cs.length i)
theorem wR.left {cs : List WI} {P : List Nat} {p : Nat} {A B : List WI} (h : wR cs P p (A ++ B)) : wR cs P p A := fun t i ht => h t i (by
 rw [List.getElem?_append_left (List.getElem?_eq_some_iff.1 ht).1]; exact ht)
theorem wR.right {cs : List WI} {P : List Nat} {p : Nat} {A B : List WI} (h : wR cs P p (A ++ B)) : wR cs P (p + A.length) B := fun t i ht => by
 have := h (A.length + t) i (by rw [List.getElem?_append_right (by omega), show A.length + t - A.length = t by omega]; exact ht)
 rw [show p + A.length + t = p + (A.length + t) by omega]; exact this
theorem wR.get {cs : List WI} {P : List Nat} {p : Nat} {C : List WI} (h : wR cs P p C) (t : Nat) {i : WI} (ht : C[t]? = some i) (hb : ¬ (i.op = 17 ∨ i.op = 18 ∨ i.op = 19)) : At cs (p + t) i := by
 have := h t i ht
 unfold xY at this
 rwa [if_neg hb] at this
theorem wR.head {cs : List WI} {P : List Nat} {p : Nat} {i : WI} {C : List WI} (h : wR cs P p (i :: C)) (hb : ¬ (i.op = 17 ∨ i.op = 18 ∨ i.op = 19)) : At cs p i := h.get 0 rfl hb
section
variable {L : LY} {R S N : Nat} {sr sm qr qm : List Nat} {cs : List WI} {P : List Nat} {fuel : Int} {p : Nat} {cd : Int} {lk : List (Int × Int)} {st : Nat}
end
structure WI.Good (i : WI) (R n : Nat) : Prop where
 ok2 : i.Ok2 R n
 mem : i.op = 15 ∨ i.op = 16 → 0 ≤ i.k ∧ i.k ≤ 65535
 halt : i.op = 20 → 0 ≤ i.k ∧ i.k ≤ 2
section
variable {L : LY} {R S N : Nat} {sr sm qr qm : List Nat} {ws : List WI} {fuel : Int} {sa : Nat} {sc cd : Int} {slk lk : List (Int × Int)} {sst st : Nat} {i : WI}
end
section
variable (A : AX) (s : LS) (G : aB) (k : Nat)
end
section
variable (G : aB) (k : Nat) (self : bH) {H : aA} {p q r n : Nat} {us : List Int} (hS : SH H p q r n us)
end
structure SB (H : aA) (p : Nat) : Prop where
 hp : p < H.length
 hb : eG H.length H = true
section
variable (G : aB) (k : Nat) (self : bH) {H : aA} {p n : Nat} (hS : SB H p)
end
section
variable (G : aB) (k : Nat) (self : bH) {H : aA} {p n : Nat} (hS : SB H p)
end
section
variable (G : aB) (k : Nat) (self : bH) {H : aA} {p n : Nat} (hS : SB H p) {P : Nat → Prop}
end
section
variable (G : aB) (k : Nat) (self : bH) (w : WI) (f : Frm)
end
def yB (mem : List Nat) (n : Nat) : List Nat := mem.take n ++ List.replicate (n - mem.length) 0
section
variable {L : LY} {R S N : Nat}
end
section
variable {L : LY} {R S N : Nat} {P : List Nat} {m : Nat}
end
section
variable (bor : Bool) (ws : List WI) (R M S : Nat)
abbrev k1 : ABlk := ⟨27, 3, [.agg [.nils, .int .i64 0, .int .i64 0]]⟩
abbrev k2 : ABlk := ⟨86, 7, [.agg [.ro bor (rB ws), Nn R, Nn M, .nils, .nils, .nils, .nils]]⟩
variable (G : aB) (k : Nat) (self : bH)
end
section
variable (bor : Bool) (ws : List WI) (R M S : Nat) (us : List Int)
variable (G : aB) (k : Nat) (self : bH)
end
section
variable (bor : Bool) (ws : List WI) (R M S : Nat) (G : aB) (k : Nat)
end
def LS.mark (s : LS) : LS := { s with place := s.place ++ [s.out.length] }
def LS.run (L : LY) : List WI → LS → LS
 | [], s => s
 | w :: ws, s => LS.run L ws (s.mark.put (L.one w))
section
variable (A : AX) (G : aB) (k : Nat) (self : bH)
end
section
variable (G : aB) (hg : GOk G) (k : Nat) (bor : Bool) (ws : List WI) (R M S : Nat)
end
def wE (n : Nat) (R M : Int) (m : Nat) : Prop := n ≤ 60 ∧ R ≤ 60 ∧ M ≤ 80 ∧ m ≤ 80
instance (n : Nat) (R M : Int) (m : Nat) : Decidable (wE n R M m) := by unfold wE; infer_instance
structure Does (ws : List WI) (R M : Nat) (ot : List WI) (R2 M2 : Nat) : Prop where
 valid : yP ot R2 M2 = .ok
 ge : M ≤ M2
 le : M2 ≤ M + R
 len : ot.length ≤ 480
 run : ∃ ml : List (Int × Int) → List (Int × Int), ∀ (mem : List Nat) (s' : MS), mem.length = M → (∀ x ∈ mem, x < 18446744073709551616) → vL ws 400 7999 (s0 R mem) = some s' → s'.code ≠ 4 →
  ∃ q', vL ot 3264 7999 (s0 R2 (yB mem M2)) = some q' ∧ q'.code = s'.code ∧ q'.mem.take M = s'.mem ∧ q'.mem.length = M2 ∧ s'.mem.length = M ∧ q'.leaks = ml s'.leaks
theorem wI (G : aB) (k : Nat) (n m : Int) (h0 : 0 < m) (h1 : m < 9223372036854775808) (hn : -9223372036854775808 ≤ n) (hn' : n < 9223372036854775808) :
  aJ.f G (k + 1) [.int .i64 n, .int .i64 m] [] = some (.int .i64 (n % m), []) := by
 rw [aJ.step]
 unfold aJ.c
 rw [wV _ _ _ _ _ _ (by omega)]
 have hlt := Int.tmod_lt_of_pos n h0
 have hgt : -m < n.tmod m := by have := Int.tmod_lt_of_pos (-n) h0; rw [Int.neg_tmod] at this; omega
 have hm : n.tmod m % m = n % m := by
  rw [Int.tmod_eq_emod]; split
  ·simp
  ·have e : (m.natAbs : Int) = m := by omega
   simp [e]
 by_cases h : n.tmod m < 0
 ·simp only [wK, rJ, uE, h, decide_true, tJ, wU, List.length_nil, rY, sJ]
  rw [tD (by omega) (by omega)]
  congr 3
  rw [← hm, ← Int.add_emod_right]
  exact (Int.emod_eq_of_lt (by omega) (by omega)).symm
 ·simp only [wK, rJ, uE, h, decide_false, rN, List.length_nil, rY, sJ]
  congr 3
  rw [← hm]
  exact (Int.emod_eq_of_lt (by omega) (by omega)).symm
end Go.Proofs.YtlkgkfgkiidhdaaDoor.Mir
