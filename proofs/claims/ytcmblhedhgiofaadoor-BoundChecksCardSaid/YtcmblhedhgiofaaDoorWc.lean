/- A run of words, as a plain machine, and that the program's run is it. -/
import Derived.Test.YtcmblhedhgiofaaDoorWa
namespace Go.Proofs.YtcmblhedhgiofaaDoor.Mir
open Go
set_option linter.unusedVariables false
set_option linter.unusedSimpArgs false

/-- An instruction. -/
structure Ins where
  op : Int
  d : Int
  a : Int
  b : Int
  c : Int
  k : Int
def Ins.v (i : Ins) : AV := instV i.op i.d i.a i.b i.c i.k
instance : Inhabited Ins := ⟨⟨0, 0, 0, 0, 0, 0⟩⟩

/-- The machine: what it holds. -/
structure MS where
  regs : List Nat
  at_ : Nat
  code : Int
  mem : List Nat
  leaks : List (Int × Int)
  steps : Nat

def natsU (l : List Nat) : List AV := l.map fun n => Un n
def leakV (p : Int × Int) : AV := .agg [I6 p.1, I6 p.2]
def leaksV (l : List (Int × Int)) : List AV := l.map leakV
def codeV (cs : List Ins) : List AV := cs.map Ins.v

theorem natsU_len (l : List Nat) : (natsU l).length = l.length := by simp [natsU]
theorem leaksV_len (l : List (Int × Int)) : (leaksV l).length = l.length := by simp [leaksV]
theorem codeV_len (l : List Ins) : (codeV l).length = l.length := by simp [codeV]
theorem natsU_below (n : Nat) (l : List Nat) : belowL n (natsU l) = true := belowL_map n _ (fun _ => rfl) l
theorem leaksV_below (n : Nat) (l : List (Int × Int)) : belowL n (leaksV l) = true := belowL_map n _ (fun _ => rfl) l
theorem codeV_below (n : Nat) (l : List Ins) : belowL n (codeV l) = true := belowL_map n _ (fun _ => rfl) l

def MS.leak (s : MS) (kind at_ : Int) : MS := { s with leaks := s.leaks ++ [(kind, at_)] }
def MS.rg (s : MS) (i : Int) : Nat := s.regs.getD i.toNat 0
def MS.set (s : MS) (i : Int) (n : Nat) : MS := { s with regs := s.regs.set i.toNat n }

def MS.touch (s : MS) (i : Ins) : MS × Bool :=
  let ad := (s.rg i.a + u64 i.k) % 18446744073709551616
  let s1 := s.leak 3 (s64 ad)
  if s.mem.length ≤ ad then ({ s1 with code := 3 }, false)
  else if i.op = 15 then (s1.set i.d (s.mem.getD ad 0), true)
  else ({ s1 with mem := s.mem.set ad (s.rg i.b) }, true)

def MS.branch (s : MS) (i : Ins) : MS :=
  if i.op = 17 then { s with at_ := i.k.toNat }
  else if (decide (s.rg i.a = 0) == decide (i.op = 18)) = true then { s.leak 2 1 with at_ := i.k.toNat }
  else s.leak 2 0

/-- An instruction is done; false: it ends. -/
def MS.step (s : MS) (i : Ins) : MS × Bool :=
  let s := { s with at_ := s.at_ + 1 }
  if i.op = 15 ∨ i.op = 16 then s.touch i
  else if i.op = 17 ∨ i.op = 18 ∨ i.op = 19 then (s.branch i, true)
  else if i.op = 20 then ({ s with code := i.k }, false)
  else if (valF i.op i.k (s.rg i.a) (s.rg i.b) (s.rg i.c)).2 = true then (s.set i.d (valF i.op i.k (s.rg i.a) (s.rg i.b) (s.rg i.c)).1, true)
  else (s, true)

/-- The blocks of a run. -/
def hpM (p0 : ABlk) (bor : Bool) (cs : List Ins) (R M : Int) (s : MS) : AHeap :=
  [p0, ⟨40, 4, [.agg [.int .i64 0, .nils, .nils, .int .i64 0]]⟩, ⟨48, 1, natsU s.regs⟩,
   ⟨126, 9, [.agg [.ro bor (codeV cs), I6 R, I6 M, .sl 2 s.regs.length 0 s.regs.length 1, Nn s.at_, I6 s.code, .sl 5 s.mem.length 0 s.mem.length 1, .sl 6 s.leaks.length 0 s.leaks.length 2, Nn s.steps]]⟩,
   ⟨48, 1, []⟩, ⟨48, 1, natsU s.mem⟩, ⟨96, 2, leaksV s.leaks⟩]


/-! ### Its blocks -/
section
variable (G : Globs) (p0 : ABlk) (bor : Bool) (cs : List Ins) (R M : Int) (s : MS)
abbrev PX : AV := .ptr 3 1 0 0
theorem hp_len : (hpM p0 bor cs R M s).length = 7 := rfl
theorem nil_px : nilA PX = some PX := rfl
theorem fa3 : fieldAddrV 3 PX = some (.ptr 3 1 0 3) := rfl
theorem fa4 : fieldAddrV 4 PX = some (.ptr 3 1 0 4) := rfl
theorem fa5 : fieldAddrV 5 PX = some (.ptr 3 1 0 5) := rfl
theorem fa50 : fieldAddrV 0 (.ptr 3 1 0 5) = some (.ptr 3 1 0 5) := rfl
theorem fa51 : fieldAddrV 1 (.ptr 3 1 0 5) = some (.ptr 3 1 0 6) := rfl
theorem fa52 : fieldAddrV 2 (.ptr 3 1 0 5) = some (.ptr 3 1 0 7) := rfl
theorem fa53 : fieldAddrV 3 (.ptr 3 1 0 5) = some (.ptr 3 1 0 8) := rfl
theorem ld3 : loadV G false 1 (.ptr 3 1 0 3) (hpM p0 bor cs R M s) = some (.sl 2 s.regs.length 0 s.regs.length 1) := rfl
theorem ld4 : loadV G false 1 (.ptr 3 1 0 4) (hpM p0 bor cs R M s) = some (Nn s.at_) := rfl
theorem ld6 : loadV G false 1 (.ptr 3 1 0 6) (hpM p0 bor cs R M s) = some (.sl 5 s.mem.length 0 s.mem.length 1) := rfl
theorem ld7 : loadV G false 1 (.ptr 3 1 0 7) (hpM p0 bor cs R M s) = some (.sl 6 s.leaks.length 0 s.leaks.length 2) := rfl
theorem ld8 : loadV G false 1 (.ptr 3 1 0 8) (hpM p0 bor cs R M s) = some (Nn s.steps) := rfl
theorem st4 (n : Nat) : stS (storeV 1 (.ptr 3 1 0 4) (Nn n) (hpM p0 bor cs R M s)) = some (.tup [], hpM p0 bor cs R M { s with at_ := n }) := rfl
theorem st5 (n : Int) : stS (storeV 1 (.ptr 3 1 0 5) (I6 n) (hpM p0 bor cs R M s)) = some (.tup [], hpM p0 bor cs R M { s with code := n }) := rfl
theorem st8 (n : Nat) : stS (storeV 1 (.ptr 3 1 0 8) (Nn n) (hpM p0 bor cs R M s)) = some (.tup [], hpM p0 bor cs R M { s with steps := n }) := rfl
theorem ldAt (j : Int) (h0 : 0 ≤ j) : idxAddrSl 1 (.sl 2 s.regs.length 0 s.regs.length 1) (I6 j) = if j < s.regs.length then some (.ptr 2 s.regs.length j.toNat 0) else none := by
  by_cases h : j < s.regs.length
  · rw [if_pos h]
    have h2 : j.toNat < s.regs.length := by omega
    simp [idxAddrSl, h0, h]
  · rw [if_neg h]
    simp [idxAddrSl, h0, h]
theorem ldMem (n : Nat) : idxAddrSl 1 (.sl 5 s.mem.length 0 s.mem.length 1) (Un n) = if n < s.mem.length then some (.ptr 5 s.mem.length n 0) else none := by
  have h0 : (0 : Int) ≤ (n : Int) := by omega
  by_cases h : n < s.mem.length
  · have h' : (n : Int) < (s.mem.length : Int) := by omega
    rw [if_pos h]
    simp [idxAddrSl, h0, h']
  · have h' : ¬ (n : Int) < (s.mem.length : Int) := by omega
    rw [if_neg h]
    simp [idxAddrSl, h0, h']

theorem natsU_get (l : List Nat) (j : Nat) (h : j < l.length) : (natsU l)[j]? = some (Un (l.getD j 0)) := by
  simp [natsU, List.getD, List.getElem?_eq_getElem h]

theorem ldR (j : Nat) (h : j < s.regs.length) : loadV G false 1 (.ptr 2 s.regs.length j 0) (hpM p0 bor cs R M s) = some (Un (s.regs.getD j 0)) := by
  have e : (hpM p0 bor cs R M s)[2]? = some ⟨48, 1, natsU s.regs⟩ := rfl
  unfold loadV
  simp only [e, natsU_len, natsU_get _ _ h, if_true]
  rfl
theorem ldM (j : Nat) (h : j < s.mem.length) : loadV G false 1 (.ptr 5 s.mem.length j 0) (hpM p0 bor cs R M s) = some (Un (s.mem.getD j 0)) := by
  have e : (hpM p0 bor cs R M s)[5]? = some ⟨48, 1, natsU s.mem⟩ := rfl
  unfold loadV
  simp only [e, natsU_len, natsU_get _ _ h, if_true]
  rfl
theorem natsU_set (l : List Nat) (j x : Nat) : natsU (l.set j x) = (natsU l).set j (Un x) := by simp [natsU, List.map_set]
theorem stR (j x : Nat) (h : j < s.regs.length) : stS (storeV 1 (.ptr 2 s.regs.length j 0) (Un x) (hpM p0 bor cs R M s)) = some (.tup [], hpM p0 bor cs R M { s with regs := s.regs.set j x }) := by
  have e : (hpM p0 bor cs R M s)[2]? = some ⟨48, 1, natsU s.regs⟩ := rfl
  unfold storeV
  simp only [e, natsU_len, natsU_get _ _ h]
  unfold hpM
  simp only [List.length_set, natsU_set]
  rfl
theorem stM (j x : Nat) (h : j < s.mem.length) : stS (storeV 1 (.ptr 5 s.mem.length j 0) (Un x) (hpM p0 bor cs R M s)) = some (.tup [], hpM p0 bor cs R M { s with mem := s.mem.set j x }) := by
  have e : (hpM p0 bor cs R M s)[5]? = some ⟨48, 1, natsU s.mem⟩ := rfl
  unfold storeV
  simp only [e, natsU_len, natsU_get _ _ h]
  unfold hpM
  simp only [List.length_set, natsU_set]
  rfl
theorem apL (p : Int × Int) (hl : s.leaks.length ≤ 1000000) : appendV 96 2 (.sl 6 s.leaks.length 0 s.leaks.length 2) (.ro false [leakV p]) (hpM p0 bor cs R M s) =
    some (.sl 6 (s.leaks.length + 1) 0 (s.leaks.length + 1) 2, (hpM p0 bor cs R M s).set 6 ⟨96, 2, leaksV (s.leaks ++ [p])⟩) := by
  have e : (hpM p0 bor cs R M s)[6]? = some ⟨96, 2, leaksV s.leaks⟩ := rfl
  unfold appendV
  simp only [e, elemsOf, leaksV_len, List.length_singleton]
  rw [if_pos (by refine ⟨?_, ?_, ?_, ?_, ?_⟩ <;> first | trivial | rfl | omega)]
  have e2 : (leaksV s.leaks).take s.leaks.length = leaksV s.leaks := List.take_of_length_le (by rw [leaksV_len]; exact Nat.le_refl _)
  have e3 : (leaksV s.leaks).drop (s.leaks.length + 1) = [] := List.drop_of_length_le (by rw [leaksV_len]; omega)
  rw [e2, e3, List.append_nil]
  have e4 : leaksV s.leaks ++ [leakV p] = leaksV (s.leaks ++ [p]) := by simp [leaksV]
  rw [e4, leaksV_len]; simp
theorem stL (p : Int × Int) : stS (storeV 1 (.ptr 3 1 0 7) (.sl 6 (s.leaks.length + 1) 0 (s.leaks.length + 1) 2) ((hpM p0 bor cs R M s).set 6 ⟨96, 2, leaksV (s.leaks ++ [p])⟩)) =
    some (.tup [], hpM p0 bor cs R M (s.leak p.1 p.2)) := by
  have e : (s.leak p.1 p.2).leaks.length = s.leaks.length + 1 := by simp [MS.leak]
  unfold hpM
  rw [e]
  rfl
theorem hp_below (hp : belowL 7 p0.elems = true) : heapBelow 7 (hpM p0 bor cs R M s) = true := by
  simp [hpM, heapBelow, belowL, belowB, hp, natsU_below, leaksV_below, codeV_below]
theorem hp_cut (hp : belowL 7 p0.elems = true) (xs : List AV) (hx : belowL 7 xs = true) : cutH 7 xs (hpM p0 bor cs R M s) = some (hpM p0 bor cs R M s) := by
  have e : (hpM p0 bor cs R M s).take 7 = hpM p0 bor cs R M s := rfl
  unfold cutH
  rw [e, hx, hp_below p0 bor cs R M s hp]; rfl
theorem fin_none (hp : belowL 7 p0.elems = true) : finV [] 7 (hpM p0 bor cs R M s) = some (.ret, [.tup []], hpM p0 bor cs R M s) := by
  unfold finV
  rw [hp_cut p0 bor cs R M s hp [] rfl]; rfl
theorem fin_bool (hp : belowL 7 p0.elems = true) (b : Bool) : finV [.bool b] 7 (hpM p0 bor cs R M s) = some (.ret, [.bool b], hpM p0 bor cs R M s) := by
  unfold finV
  rw [hp_cut p0 bor cs R M s hp [] rfl]; rfl
theorem hcall {g : Den} {args : List AV} {r : AV} {s' : MS} (h : g args (hpM p0 bor cs R M s) = some (r, hpM p0 bor cs R M s')) : heapCall g args (hpM p0 bor cs R M s) = some (r, hpM p0 bor cs R M s') := by
  unfold heapCall; rw [h]; rfl

theorem leak_spec (k : Nat) (hp : belowL 7 p0.elems = true) (kind at_ : Int) (hl : s.leaks.length ≤ 1000000) :
    words_run_leak.f G (k + 1) [PX, I6 kind, I6 at_] (hpM p0 bor cs R M s) = some (.tup [], hpM p0 bor cs R M (s.leak kind at_)) := by
  rw [words_run_leak.step]
  unfold words_run_leak.c
  have c4 : buildSt [(0, 1), (1, 1)] [(.int .i64 0), (.int .i64 0)] [(0, I6 kind), (1, I6 at_)] = some (leakV (kind, at_)) := rfl
  have c5 : ∀ H, buildRo 2 1 (.agg [(.int .i64 0), (.int .i64 0)]) [(0, leakV (kind, at_))] H = some (.ro false [leakV (kind, at_)], H) := fun H => rfl
  have c6 := apL p0 bor cs R M s (kind, at_) hl
  have c7 := stL p0 bor cs R M s (kind, at_)
  simp only [hp_len]
  repeat first
    | refine oB (by first | (simp only [pu_val, nth_zero, nth_succ, gd_tt, gd_ff, gd_tf, gd_ft, gd_no, pickA_true, pickA_false, un_not, nil_px, fa5, fa52, ld7, c4, c5, c6, c7]; first | done | (with_reducible exact rfl) | (with_reducible exact ⟨rfl, rfl⟩)) | (with_reducible exact rfl)) ?_
    | refine lB (by first | (simp only [pu_val, nth_zero, nth_succ, gd_tt, gd_ff, gd_tf, gd_ft, gd_no, pickA_true, pickA_false, un_not, nil_px, fa5, fa52, ld7, c4, c5, c6, c7]; first | done | (with_reducible exact rfl) | (with_reducible exact ⟨rfl, rfl⟩)) | (with_reducible exact rfl)) ?_
    | refine oT ?_
    | refine oN ?_
    | refine oX ?_
    | refine oXn ?_
    | refine oXr ?_
    | exact oF (finV_bool ..)
    | apply oK
    | refine lT ?_
    | refine lN ?_
    | refine lX ?_
    | refine lXn ?_
    | refine lXr ?_
    | apply lK
    | refine oI ?_
    | refine oJ rfl ?_
    | refine lI ?_
    | refine lJ rfl ?_
    | (with_reducible exact rfl)
  exact oF (fin_none p0 bor cs R M _ hp)
end

/-- What a run needs. -/
structure MS.Ok (s : MS) (R : Nat) : Prop where
  len : s.regs.length = R
  regs : ∀ x ∈ s.regs, x < 18446744073709551616
  mem : ∀ x ∈ s.mem, x < 18446744073709551616
  leaks : s.leaks.length ≤ 3 * s.steps
  big : s.mem.length ≤ 1000000
  few : s.steps ≤ 100000

theorem MS.Ok.rg {s : MS} {R : Nat} (h : s.Ok R) (i : Int) : s.rg i < 18446744073709551616 := by
  unfold MS.rg
  rw [List.getD_eq_getElem?_getD]
  cases hq : s.regs[i.toNat]? with
  | none => decide
  | some x => exact h.regs x (List.mem_of_getElem? hq)
theorem MS.Ok.mg {s : MS} {R : Nat} (h : s.Ok R) (i : Nat) : s.mem.getD i 0 < 18446744073709551616 := by
  rw [List.getD_eq_getElem?_getD]
  cases hq : s.mem[i]? with
  | none => decide
  | some x => exact h.mem x (List.mem_of_getElem? hq)

/-- An instruction that may be. -/
structure Ins.Ok (i : Ins) (R n : Nat) : Prop where
  op : 1 ≤ i.op ∧ i.op ≤ 20
  a : i.op ≠ 17 → i.op ≠ 20 → 0 ≤ i.a ∧ i.a < R
  d : i.op ≤ 16 → 0 ≤ i.d ∧ i.d < R
  b : i.op ≤ 16 → 0 ≤ i.b ∧ i.b < R
  c : i.op ≤ 16 → 0 ≤ i.c ∧ i.c < R
  k : 17 ≤ i.op → i.op ≤ 19 → 0 ≤ i.k ∧ i.k ≤ n

section
variable (G : Globs) (p0 : ABlk) (hp : belowL 7 p0.elems = true) (bor : Bool) (cs : List Ins) (R : Nat) (M : Int) (s : MS) (i : Ins) (hs : s.Ok R) (hl : s.leaks.length ≤ 999990)

theorem bx (H : AHeap) : boxRoA i.v H = some (.rp false i.v 0, H) := rfl
theorem gi0 : fieldAddrV 0 (.rp false i.v 0) = some (.rp false i.v 0) := rfl
theorem gi1 : fieldAddrV 1 (.rp false i.v 0) = some (.rp false i.v 1) := rfl
theorem gi2 : fieldAddrV 2 (.rp false i.v 0) = some (.rp false i.v 2) := rfl
theorem gi3 : fieldAddrV 3 (.rp false i.v 0) = some (.rp false i.v 3) := rfl
theorem gi4 : fieldAddrV 4 (.rp false i.v 0) = some (.rp false i.v 4) := rfl
theorem gi5 : fieldAddrV 5 (.rp false i.v 0) = some (.rp false i.v 5) := rfl
theorem gl0 (H : AHeap) : loadV G false 1 (.rp false i.v 0) H = some (I6 i.op) := rfl
theorem gl1 (H : AHeap) : loadV G false 1 (.rp false i.v 1) H = some (I6 i.d) := rfl
theorem gl2 (H : AHeap) : loadV G false 1 (.rp false i.v 2) H = some (I6 i.a) := rfl
theorem gl3 (H : AHeap) : loadV G false 1 (.rp false i.v 3) H = some (I6 i.b) := rfl
theorem gl4 (H : AHeap) : loadV G false 1 (.rp false i.v 4) H = some (I6 i.c) := rfl
theorem gl5 (H : AHeap) : loadV G false 1 (.rp false i.v 5) H = some (I6 i.k) := rfl
theorem gl6 (H : AHeap) : loadV G true 6 (.rp false i.v 0) H = some i.v := rfl

include hp hs hl in
theorem touch_spec (k : Nat) (ha : 0 ≤ i.a ∧ i.a < R) (hd : 0 ≤ i.d ∧ i.d < R) (hb : 0 ≤ i.b ∧ i.b < R) (ho : i.op = 15 ∨ i.op = 16) :
    words_run_touch.f G (k + 2) [PX, i.v] (hpM p0 bor cs R M s) = some (.bool (s.touch i).2, hpM p0 bor cs R M (s.touch i).1) := by
  have hR := hs.len
  rw [words_run_touch.step]
  unfold words_run_touch.c
  simp only [hp_len]
  have d6 := ldAt s i.a ha.1
  rw [if_pos (by omega)] at d6
  have d7 := ldR G p0 bor cs R M s i.a.toNat (by omega)
  have d10 : convInt .u64 (I6 i.k) = some (Un (u64 i.k)) := conv_u64 ..
  have d11 := u64_add Tryd.prog 48 false (s.regs.getD i.a.toNat 0) (u64 i.k)
  obtain ⟨ad, had⟩ : ∃ z, z = (s.regs.getD i.a.toNat 0 + u64 i.k) % 18446744073709551616 := ⟨_, rfl⟩
  have hadl : ad < 18446744073709551616 := by rw [had]; exact Nat.mod_lt _ (by decide)
  rw [← had] at d11
  have d12 := conv_i64 ad hadl
  have d13 := hcall p0 bor cs R M s (leak_spec G p0 bor cs R M s k hp 3 (s64 ad) (by omega))
  have ht : s.touch i = (let s1 := s.leak 3 (s64 ad); if s.mem.length ≤ ad then ({ s1 with code := 3 }, false) else if i.op = 15 then (s1.set i.d (s.mem.getD ad 0), true) else ({ s1 with mem := s.mem.set ad (s.rg i.b) }, true)) := by
    rw [had]; rfl
  rw [ht]
  obtain ⟨s1, hs1⟩ : ∃ s1, s1 = s.leak 3 (s64 ad) := ⟨_, rfl⟩
  have hm : s1.mem = s.mem := by rw [hs1]; rfl
  have hr : s1.regs = s.regs := by rw [hs1]; rfl
  simp only
  rw [← hs1] at d13 ⊢
  have d17 := ld6 G p0 bor cs R M s1
  have d18 : lenSl (.sl 5 s1.mem.length 0 s1.mem.length 1) = some (Nn s1.mem.length) := rfl
  have d19 : convInt .u64 (Nn s1.mem.length) = some (Un s1.mem.length) := by rw [conv_u64, u64_nat _ (by rw [hm]; have := hs.big; omega)]
  have g0 := gi0 i
  have g1 := gi1 i
  have g2 := gi2 i
  have g3 := gi3 i
  have g5 := gi5 i
  have l0 := gl0 G i
  have l1 := gl1 G i
  have l2 := gl2 G i
  have l3 := gl3 G i
  have l5 := gl5 G i
  have b0 := bx i
  by_cases hin : s.mem.length ≤ ad
  · rw [if_pos hin]
    have d20 : bin Tryd.prog .geq 48 false (Un ad) (Un s1.mem.length) = some (.bool true) := by rw [bin_geq, decide_eq_true (by rw [hm]; omega)]
    have d23 := st5 p0 bor cs R M s1 3
    clear hs1 had ht
    repeat first
      | refine oB (by first | (simp only [pu_val, nth_zero, nth_succ, gd_tt, gd_ff, gd_tf, gd_ft, gd_no, pickA_true, pickA_false, un_not, b0, g0, g1, g2, g3, g5, l0, l1, l2, l3, l5, nil_px, fa3, fa5, fa50, fa51, ld3, d6, d7, d10, d11, d12, d13, d17, d18, d19, d20, d23]; first | done | (with_reducible exact rfl) | (with_reducible exact ⟨rfl, rfl⟩)) | (with_reducible exact rfl)) ?_
      | refine lB (by first | (simp only [pu_val, nth_zero, nth_succ, gd_tt, gd_ff, gd_tf, gd_ft, gd_no, pickA_true, pickA_false, un_not, b0, g0, g1, g2, g3, g5, l0, l1, l2, l3, l5, nil_px, fa3, fa5, fa50, fa51, ld3, d6, d7, d10, d11, d12, d13, d17, d18, d19, d20, d23]; first | done | (with_reducible exact rfl) | (with_reducible exact ⟨rfl, rfl⟩)) | (with_reducible exact rfl)) ?_
      | refine oT ?_
      | refine oN ?_
      | refine oX ?_
      | refine oXn ?_
      | refine oXr ?_
      | exact oF (finV_bool ..)
      | apply oK
      | refine lT ?_
      | refine lN ?_
      | refine lX ?_
      | refine lXn ?_
      | refine lXr ?_
      | apply lK
      | refine oI ?_
      | refine oJ rfl ?_
      | refine lI ?_
      | refine lJ rfl ?_
      | (with_reducible exact rfl)
    exact oF (fin_bool p0 bor cs R M _ hp false)
  · rw [if_neg hin]
    have d20 : bin Tryd.prog .geq 48 false (Un ad) (Un s1.mem.length) = some (.bool false) := by rw [bin_geq, decide_eq_false (by rw [hm]; omega)]
    have d37 := ldMem s1 ad
    rw [if_pos (by rw [hm]; omega)] at d37
    have d30 := ld3 G p0 bor cs R M s1
    rcases ho with ho | ho
    · rw [if_pos ho]
      have d27 : bin Tryd.prog .eql 3 true (I6 i.op) (.int .i64 15) = some (.bool true) := by rw [bin_eql, decide_eq_true ho]
      have d38 := ldM G p0 bor cs R M s1 ad (by rw [hm]; omega)
      have d39 := ldAt s1 i.d hd.1
      rw [if_pos (by rw [hr]; omega)] at d39
      have d40 := stR p0 bor cs R M s1 i.d.toNat (s1.mem.getD ad 0) (by rw [hr]; omega)
      have hfin : ({ s1 with regs := s1.regs.set i.d.toNat (s1.mem.getD ad 0) } : MS) = s1.set i.d (s.mem.getD ad 0) := by rw [← hm]; rfl
      rw [hfin] at d40
      clear hs1 had ht hfin
      generalize s1.mem.getD ad 0 = z at *
      repeat first
        | refine oB (by first | (simp only [pu_val, nth_zero, nth_succ, gd_tt, gd_ff, gd_tf, gd_ft, gd_no, pickA_true, pickA_false, un_not, b0, g0, g1, g2, g3, g5, l0, l1, l2, l3, l5, nil_px, fa3, fa5, fa50, fa51, ld3, d6, d7, d10, d11, d12, d13, d17, d18, d19, d20, d27, d30, d37, d38, d39, d40]; first | done | (with_reducible exact rfl) | (with_reducible exact ⟨rfl, rfl⟩)) | (with_reducible exact rfl)) ?_
        | refine lB (by first | (simp only [pu_val, nth_zero, nth_succ, gd_tt, gd_ff, gd_tf, gd_ft, gd_no, pickA_true, pickA_false, un_not, b0, g0, g1, g2, g3, g5, l0, l1, l2, l3, l5, nil_px, fa3, fa5, fa50, fa51, ld3, d6, d7, d10, d11, d12, d13, d17, d18, d19, d20, d27, d30, d37, d38, d39, d40]; first | done | (with_reducible exact rfl) | (with_reducible exact ⟨rfl, rfl⟩)) | (with_reducible exact rfl)) ?_
        | refine oT ?_
        | refine oN ?_
        | refine oX ?_
        | refine oXn ?_
        | refine oXr ?_
        | exact oF (finV_bool ..)
        | apply oK
        | refine lT ?_
        | refine lN ?_
        | refine lX ?_
        | refine lXn ?_
        | refine lXr ?_
        | apply lK
        | refine oI ?_
        | refine oJ rfl ?_
        | refine lI ?_
        | refine lJ rfl ?_
        | (with_reducible exact rfl)
      exact oF (fin_bool p0 bor cs R M _ hp true)
    · rw [if_neg (by omega)]
      have d27 : bin Tryd.prog .eql 3 true (I6 i.op) (.int .i64 15) = some (.bool false) := by rw [bin_eql, decide_eq_false (by omega)]
      have d50 := ldAt s1 i.b hb.1
      rw [if_pos (by rw [hr]; omega)] at d50
      have d51 := ldR G p0 bor cs R M s1 i.b.toNat (by rw [hr]; omega)
      have d53 := stM p0 bor cs R M s1 ad (s1.regs.getD i.b.toNat 0) (by rw [hm]; omega)
      have hfin : ({ s1 with mem := s1.mem.set ad (s1.regs.getD i.b.toNat 0) } : MS) = { s1 with mem := s.mem.set ad (s.rg i.b) } := by rw [hm, hr]; rfl
      rw [hfin] at d53
      clear hs1 had ht hfin
      generalize s1.regs.getD i.b.toNat 0 = z at *
      repeat first
        | refine oB (by first | (simp only [pu_val, nth_zero, nth_succ, gd_tt, gd_ff, gd_tf, gd_ft, gd_no, pickA_true, pickA_false, un_not, b0, g0, g1, g2, g3, g5, l0, l1, l2, l3, l5, nil_px, fa3, fa5, fa50, fa51, ld3, d6, d7, d10, d11, d12, d13, d17, d18, d19, d20, d27, d30, d37, d50, d51, d53]; first | done | (with_reducible exact rfl) | (with_reducible exact ⟨rfl, rfl⟩)) | (with_reducible exact rfl)) ?_
        | refine lB (by first | (simp only [pu_val, nth_zero, nth_succ, gd_tt, gd_ff, gd_tf, gd_ft, gd_no, pickA_true, pickA_false, un_not, b0, g0, g1, g2, g3, g5, l0, l1, l2, l3, l5, nil_px, fa3, fa5, fa50, fa51, ld3, d6, d7, d10, d11, d12, d13, d17, d18, d19, d20, d27, d30, d37, d50, d51, d53]; first | done | (with_reducible exact rfl) | (with_reducible exact ⟨rfl, rfl⟩)) | (with_reducible exact rfl)) ?_
        | refine oT ?_
        | refine oN ?_
        | refine oX ?_
        | refine oXn ?_
        | refine oXr ?_
        | exact oF (finV_bool ..)
        | apply oK
        | refine lT ?_
        | refine lN ?_
        | refine lX ?_
        | refine lXn ?_
        | refine lXr ?_
        | apply lK
        | refine oI ?_
        | refine oJ rfl ?_
        | refine lI ?_
        | refine lJ rfl ?_
        | (with_reducible exact rfl)
      exact oF (fin_bool p0 bor cs R M _ hp true)

set_option maxRecDepth 20000 in
set_option maxHeartbeats 1000000 in
include hp hs hl in
theorem branch_spec (k : Nat) (ha : i.op ≠ 17 → 0 ≤ i.a ∧ i.a < R) (ho : i.op = 17 ∨ i.op = 18 ∨ i.op = 19) (hk : 0 ≤ i.k) :
    words_run_branch.f G (k + 2) [PX, i.v] (hpM p0 bor cs R M s) = some (.tup [], hpM p0 bor cs R M (s.branch i)) := by
  have hR := hs.len
  rw [words_run_branch.step]
  unfold words_run_branch.c
  simp only [hp_len]
  have g0 := gi0 i
  have g2 := gi2 i
  have g5 := gi5 i
  have l0 := gl0 G i
  have l2 := gl2 G i
  have l5 := gl5 G i
  have b0 := bx i
  have nk : I6 i.k = Nn i.k.toNat := by show AV.int .i64 i.k = .int .i64 _; congr 1; omega
  rw [nk] at l5
  by_cases h17 : i.op = 17
  · have e : s.branch i = { s with at_ := i.k.toNat } := by unfold MS.branch; rw [if_pos h17]
    rw [e]
    have d3 : bin Tryd.prog .neq 3 true (I6 i.op) (.int .i64 17) = some (.bool false) := by rw [bin_neq]; simp [h17]
    have d25 := st4 p0 bor cs R M s i.k.toNat
    repeat first
      | refine oB (by first | (simp only [pu_val, nth_zero, nth_succ, gd_tt, gd_ff, gd_tf, gd_ft, gd_no, pickA_true, pickA_false, un_not, b0, g0, g2, g5, l0, l2, l5, nil_px, fa4, d3, d25]; first | done | (with_reducible exact rfl) | (with_reducible exact ⟨rfl, rfl⟩)) | (with_reducible exact rfl)) ?_
      | refine lB (by first | (simp only [pu_val, nth_zero, nth_succ, gd_tt, gd_ff, gd_tf, gd_ft, gd_no, pickA_true, pickA_false, un_not, b0, g0, g2, g5, l0, l2, l5, nil_px, fa4, d3, d25]; first | done | (with_reducible exact rfl) | (with_reducible exact ⟨rfl, rfl⟩)) | (with_reducible exact rfl)) ?_
      | refine oT ?_
      | refine oN ?_
      | refine oX ?_
      | refine oXn ?_
      | refine oXr ?_
      | exact oF (finV_bool ..)
      | apply oK
      | refine lT ?_
      | refine lN ?_
      | refine lX ?_
      | refine lXn ?_
      | refine lXr ?_
      | apply lK
      | refine oI ?_
      | refine oJ rfl ?_
      | refine lI ?_
      | refine lJ rfl ?_
      | (with_reducible exact rfl)
    exact oF (fin_none p0 bor cs R M _ hp)
  · obtain ⟨ha0, haR⟩ := ha h17
    have d3 : bin Tryd.prog .neq 3 true (I6 i.op) (.int .i64 17) = some (.bool true) := by rw [bin_neq]; simp [h17]
    have d9 := ldAt s i.a ha0
    rw [if_pos (by omega)] at d9
    have d10 := ldR G p0 bor cs R M s i.a.toNat (by omega)
    have d11 : bin Tryd.prog .eql 48 true (Un (s.regs.getD i.a.toNat 0)) (.int .u64 0) = some (.bool (decide (s.rg i.a = 0))) := by
      rw [bin_eql]; unfold MS.rg; congr 2; simp only [decide_eq_decide]; omega
    have d14 : bin Tryd.prog .eql 3 true (I6 i.op) (.int .i64 18) = some (.bool (decide (i.op = 18))) := bin_eql ..
    have d15 : bin Tryd.prog .eql 4 false (.bool (decide (s.rg i.a = 0))) (.bool (decide (i.op = 18))) = some (.bool (decide (s.rg i.a = 0) == decide (i.op = 18))) := bin_eql_bool Tryd.underlying4 ..
    have d16 : ∀ b H, pureCall (words_bit.f G (k + 1)) [.bool b] H = _ := fun b H => pureCall_of (H := H) (bit_spec G k b) rfl rfl
    by_cases hg : (decide (s.rg i.a = 0) == decide (i.op = 18)) = true
    · have e : s.branch i = { s.leak 2 1 with at_ := i.k.toNat } := by unfold MS.branch; rw [if_neg h17, if_pos hg]
      rw [e]
      rw [hg] at d15
      have d16' := d16 true
      rw [if_pos rfl] at d16'
      have d17 : convInt .i64 (Un 1) = some (I6 1) := rfl
      have d18 := hcall p0 bor cs R M s (leak_spec G p0 bor cs R M s k hp 2 1 (by omega))
      have d25 := st4 p0 bor cs R M (s.leak 2 1) i.k.toNat
      generalize decide (s.rg i.a = 0) = q1 at *
      generalize decide (i.op = 18) = q2 at *
      repeat first
        | refine oB (by first | (simp only [pu_val, nth_zero, nth_succ, gd_tt, gd_ff, gd_tf, gd_ft, gd_no, pickA_true, pickA_false, un_not, b0, g0, g2, g5, l0, l2, l5, nil_px, fa3, fa4, ld3, d3, d9, d10, d11, d14, d15, d16', d17, d18, d25, Bool.not_true, Bool.not_false]; first | done | (with_reducible exact rfl) | (with_reducible exact ⟨rfl, rfl⟩)) | (with_reducible exact rfl)) ?_
        | refine lB (by first | (simp only [pu_val, nth_zero, nth_succ, gd_tt, gd_ff, gd_tf, gd_ft, gd_no, pickA_true, pickA_false, un_not, b0, g0, g2, g5, l0, l2, l5, nil_px, fa3, fa4, ld3, d3, d9, d10, d11, d14, d15, d16', d17, d18, d25, Bool.not_true, Bool.not_false]; first | done | (with_reducible exact rfl) | (with_reducible exact ⟨rfl, rfl⟩)) | (with_reducible exact rfl)) ?_
        | refine oT ?_
        | refine oN ?_
        | refine oX ?_
        | refine oXn ?_
        | refine oXr ?_
        | exact oF (finV_bool ..)
        | apply oK
        | refine lT ?_
        | refine lN ?_
        | refine lX ?_
        | refine lXn ?_
        | refine lXr ?_
        | apply lK
        | refine oI ?_
        | refine oJ rfl ?_
        | refine lI ?_
        | refine lJ rfl ?_
        | (with_reducible exact rfl)
      exact oF (fin_none p0 bor cs R M _ hp)
    · have e : s.branch i = s.leak 2 0 := by unfold MS.branch; rw [if_neg h17, if_neg hg]
      rw [e]
      rw [Bool.not_eq_true] at hg
      rw [hg] at d15
      have d16' := d16 false
      rw [if_neg (by decide)] at d16'
      have d17 : convInt .i64 (Un 0) = some (I6 0) := rfl
      have d18 := hcall p0 bor cs R M s (leak_spec G p0 bor cs R M s k hp 2 0 (by omega))
      generalize decide (s.rg i.a = 0) = q1 at *
      generalize decide (i.op = 18) = q2 at *
      repeat first
        | refine oB (by first | (simp only [pu_val, nth_zero, nth_succ, gd_tt, gd_ff, gd_tf, gd_ft, gd_no, pickA_true, pickA_false, un_not, b0, g0, g2, g5, l0, l2, l5, nil_px, fa3, fa4, ld3, d3, d9, d10, d11, d14, d15, d16', d17, d18, Bool.not_true, Bool.not_false]; first | done | (with_reducible exact rfl) | (with_reducible exact ⟨rfl, rfl⟩)) | (with_reducible exact rfl)) ?_
        | refine lB (by first | (simp only [pu_val, nth_zero, nth_succ, gd_tt, gd_ff, gd_tf, gd_ft, gd_no, pickA_true, pickA_false, un_not, b0, g0, g2, g5, l0, l2, l5, nil_px, fa3, fa4, ld3, d3, d9, d10, d11, d14, d15, d16', d17, d18, Bool.not_true, Bool.not_false]; first | done | (with_reducible exact rfl) | (with_reducible exact ⟨rfl, rfl⟩)) | (with_reducible exact rfl)) ?_
        | refine oT ?_
        | refine oN ?_
        | refine oX ?_
        | refine oXn ?_
        | refine oXr ?_
        | exact oF (finV_bool ..)
        | apply oK
        | refine lT ?_
        | refine lN ?_
        | refine lX ?_
        | refine lXn ?_
        | refine lXr ?_
        | apply lK
        | refine oI ?_
        | refine oJ rfl ?_
        | refine lI ?_
        | refine lJ rfl ?_
        | (with_reducible exact rfl)
      exact oF (fin_none p0 bor cs R M _ hp)

set_option maxRecDepth 20000 in
set_option maxHeartbeats 2000000 in
include hp hs hl in
theorem step_spec (n : Nat) (k : Nat) (hi : i.Ok R n) (hpc : s.at_ ≤ 1000000) :
    words_run_step.f G (k + 4) [PX, i.v] (hpM p0 bor cs R M s) = some (.bool (s.step i).2, hpM p0 bor cs R M (s.step i).1) := by
  have hR := hs.len
  rw [words_run_step.step]
  unfold words_run_step.c
  simp only [hp_len]
  obtain ⟨t, ht⟩ : ∃ t : MS, t = { s with at_ := s.at_ + 1 } := ⟨_, rfl⟩
  have htr : t.regs = s.regs := by rw [ht]
  have hts : t.Ok R := by rw [ht]; exact ⟨hs.len, hs.regs, hs.mem, hs.leaks, hs.big, hs.few⟩
  have htl : t.leaks.length ≤ 999990 := by rw [ht]; exact hl
  have g0 := gi0 i
  have g1 := gi1 i
  have g2 := gi2 i
  have g3 := gi3 i
  have g4 := gi4 i
  have g5 := gi5 i
  have l0 := gl0 G i
  have l1 := gl1 G i
  have l2 := gl2 G i
  have l3 := gl3 G i
  have l4 := gl4 G i
  have l5 := gl5 G i
  have l6 := gl6 G i
  have b0 := bx i
  have c3 := ld4 G p0 bor cs R M s
  have c4 : bin Tryd.prog .add 3 true (Nn s.at_) (.int .i64 1) = some (Nn (s.at_ + 1)) := by
    rw [bin_add, wrap_of_i64 (by omega) (by omega)]; congr 2
  have c7 := st4 p0 bor cs R M s (s.at_ + 1)
  rw [← ht] at c7
  have e0 : s.step i = (if i.op = 15 ∨ i.op = 16 then t.touch i
    else if i.op = 17 ∨ i.op = 18 ∨ i.op = 19 then (t.branch i, true)
    else if i.op = 20 then ({ t with code := i.k }, false)
    else if (valF i.op i.k (t.rg i.a) (t.rg i.b) (t.rg i.c)).2 = true then (t.set i.d (valF i.op i.k (t.rg i.a) (t.rg i.b) (t.rg i.c)).1, true)
    else (t, true)) := by rw [ht]; rfl
  rw [e0]
  clear ht e0
  have q : ∀ m : Int, bin Tryd.prog .eql 3 true (I6 i.op) (.int .i64 m) = some (.bool (decide (i.op = m))) := fun m => bin_eql ..
  have q15 := q 15
  have q16 := q 16
  have q17 := q 17
  have q18 := q 18
  have q19 := q 19
  have q20 := q 20
  by_cases h1 : i.op = 15 ∨ i.op = 16
  · rw [if_pos h1]
    have r := hcall p0 bor cs R M t (touch_spec G p0 hp bor cs R M t i hts htl (k + 1) (hi.a (by omega) (by omega)) (hi.d (by omega)) (hi.b (by omega)) h1)
    by_cases h15 : i.op = 15
    · rw [decide_eq_true h15] at q15
      generalize t.touch i = z at *
      repeat first
        | refine oB (by first | (simp only [pu_val, nth_zero, nth_succ, gd_tt, gd_ff, gd_tf, gd_ft, gd_no, pickA_true, pickA_false, un_not, b0, g0, g1, g2, g3, g4, g5, l0, l6, nil_px, fa4, c3, c4, c7, q15, q16, r]; first | done | (with_reducible exact rfl) | (with_reducible exact ⟨rfl, rfl⟩)) | (with_reducible exact rfl)) ?_
        | refine lB (by first | (simp only [pu_val, nth_zero, nth_succ, gd_tt, gd_ff, gd_tf, gd_ft, gd_no, pickA_true, pickA_false, un_not, b0, g0, g1, g2, g3, g4, g5, l0, l6, nil_px, fa4, c3, c4, c7, q15, q16, r]; first | done | (with_reducible exact rfl) | (with_reducible exact ⟨rfl, rfl⟩)) | (with_reducible exact rfl)) ?_
        | refine oT ?_
        | refine oN ?_
        | refine oX ?_
        | refine oXn ?_
        | refine oXr ?_
        | exact oF (finV_bool ..)
        | apply oK
        | refine lT ?_
        | refine lN ?_
        | refine lX ?_
        | refine lXn ?_
        | refine lXr ?_
        | apply lK
        | refine oI ?_
        | refine oJ rfl ?_
        | refine lI ?_
        | refine lJ rfl ?_
        | (with_reducible exact rfl)
      exact oF (fin_bool p0 bor cs R M _ hp _)
    · rw [decide_eq_false h15] at q15
      rw [decide_eq_true (by omega)] at q16
      generalize t.touch i = z at *
      repeat first
        | refine oB (by first | (simp only [pu_val, nth_zero, nth_succ, gd_tt, gd_ff, gd_tf, gd_ft, gd_no, pickA_true, pickA_false, un_not, b0, g0, g1, g2, g3, g4, g5, l0, l6, nil_px, fa4, c3, c4, c7, q15, q16, r]; first | done | (with_reducible exact rfl) | (with_reducible exact ⟨rfl, rfl⟩)) | (with_reducible exact rfl)) ?_
        | refine lB (by first | (simp only [pu_val, nth_zero, nth_succ, gd_tt, gd_ff, gd_tf, gd_ft, gd_no, pickA_true, pickA_false, un_not, b0, g0, g1, g2, g3, g4, g5, l0, l6, nil_px, fa4, c3, c4, c7, q15, q16, r]; first | done | (with_reducible exact rfl) | (with_reducible exact ⟨rfl, rfl⟩)) | (with_reducible exact rfl)) ?_
        | refine oT ?_
        | refine oN ?_
        | refine oX ?_
        | refine oXn ?_
        | refine oXr ?_
        | exact oF (finV_bool ..)
        | apply oK
        | refine lT ?_
        | refine lN ?_
        | refine lX ?_
        | refine lXn ?_
        | refine lXr ?_
        | apply lK
        | refine oI ?_
        | refine oJ rfl ?_
        | refine lI ?_
        | refine lJ rfl ?_
        | (with_reducible exact rfl)
      exact oF (fin_bool p0 bor cs R M _ hp _)
  rw [if_neg h1]
  rw [decide_eq_false (by omega)] at q15 q16
  by_cases h2 : i.op = 17 ∨ i.op = 18 ∨ i.op = 19
  · rw [if_pos h2]
    have r := hcall p0 bor cs R M t (branch_spec G p0 hp bor cs R M t i hts htl (k + 1) (fun h => hi.a h (by omega)) h2 (hi.k (by omega) (by omega)).1)
    generalize t.branch i = z at *
    by_cases h17 : i.op = 17
    · rw [decide_eq_true h17] at q17
      repeat first
        | refine oB (by first | (simp only [pu_val, nth_zero, nth_succ, gd_tt, gd_ff, gd_tf, gd_ft, gd_no, pickA_true, pickA_false, un_not, b0, g0, g1, g2, g3, g4, g5, l0, l6, nil_px, fa4, c3, c4, c7, q15, q16, q17, q18, q19, r]; first | done | (with_reducible exact rfl) | (with_reducible exact ⟨rfl, rfl⟩)) | (with_reducible exact rfl)) ?_
        | refine lB (by first | (simp only [pu_val, nth_zero, nth_succ, gd_tt, gd_ff, gd_tf, gd_ft, gd_no, pickA_true, pickA_false, un_not, b0, g0, g1, g2, g3, g4, g5, l0, l6, nil_px, fa4, c3, c4, c7, q15, q16, q17, q18, q19, r]; first | done | (with_reducible exact rfl) | (with_reducible exact ⟨rfl, rfl⟩)) | (with_reducible exact rfl)) ?_
        | refine oT ?_
        | refine oN ?_
        | refine oX ?_
        | refine oXn ?_
        | refine oXr ?_
        | exact oF (finV_bool ..)
        | apply oK
        | refine lT ?_
        | refine lN ?_
        | refine lX ?_
        | refine lXn ?_
        | refine lXr ?_
        | apply lK
        | refine oI ?_
        | refine oJ rfl ?_
        | refine lI ?_
        | refine lJ rfl ?_
        | (with_reducible exact rfl)
      exact oF (fin_bool p0 bor cs R M _ hp _)
    rw [decide_eq_false h17] at q17
    by_cases h18 : i.op = 18
    · rw [decide_eq_true h18] at q18
      repeat first
        | refine oB (by first | (simp only [pu_val, nth_zero, nth_succ, gd_tt, gd_ff, gd_tf, gd_ft, gd_no, pickA_true, pickA_false, un_not, b0, g0, g1, g2, g3, g4, g5, l0, l6, nil_px, fa4, c3, c4, c7, q15, q16, q17, q18, q19, r]; first | done | (with_reducible exact rfl) | (with_reducible exact ⟨rfl, rfl⟩)) | (with_reducible exact rfl)) ?_
        | refine lB (by first | (simp only [pu_val, nth_zero, nth_succ, gd_tt, gd_ff, gd_tf, gd_ft, gd_no, pickA_true, pickA_false, un_not, b0, g0, g1, g2, g3, g4, g5, l0, l6, nil_px, fa4, c3, c4, c7, q15, q16, q17, q18, q19, r]; first | done | (with_reducible exact rfl) | (with_reducible exact ⟨rfl, rfl⟩)) | (with_reducible exact rfl)) ?_
        | refine oT ?_
        | refine oN ?_
        | refine oX ?_
        | refine oXn ?_
        | refine oXr ?_
        | exact oF (finV_bool ..)
        | apply oK
        | refine lT ?_
        | refine lN ?_
        | refine lX ?_
        | refine lXn ?_
        | refine lXr ?_
        | apply lK
        | refine oI ?_
        | refine oJ rfl ?_
        | refine lI ?_
        | refine lJ rfl ?_
        | (with_reducible exact rfl)
      exact oF (fin_bool p0 bor cs R M _ hp _)
    · rw [decide_eq_false h18] at q18
      rw [decide_eq_true (by omega)] at q19
      repeat first
        | refine oB (by first | (simp only [pu_val, nth_zero, nth_succ, gd_tt, gd_ff, gd_tf, gd_ft, gd_no, pickA_true, pickA_false, un_not, b0, g0, g1, g2, g3, g4, g5, l0, l6, nil_px, fa4, c3, c4, c7, q15, q16, q17, q18, q19, r]; first | done | (with_reducible exact rfl) | (with_reducible exact ⟨rfl, rfl⟩)) | (with_reducible exact rfl)) ?_
        | refine lB (by first | (simp only [pu_val, nth_zero, nth_succ, gd_tt, gd_ff, gd_tf, gd_ft, gd_no, pickA_true, pickA_false, un_not, b0, g0, g1, g2, g3, g4, g5, l0, l6, nil_px, fa4, c3, c4, c7, q15, q16, q17, q18, q19, r]; first | done | (with_reducible exact rfl) | (with_reducible exact ⟨rfl, rfl⟩)) | (with_reducible exact rfl)) ?_
        | refine oT ?_
        | refine oN ?_
        | refine oX ?_
        | refine oXn ?_
        | refine oXr ?_
        | exact oF (finV_bool ..)
        | apply oK
        | refine lT ?_
        | refine lN ?_
        | refine lX ?_
        | refine lXn ?_
        | refine lXr ?_
        | apply lK
        | refine oI ?_
        | refine oJ rfl ?_
        | refine lI ?_
        | refine lJ rfl ?_
        | (with_reducible exact rfl)
      exact oF (fin_bool p0 bor cs R M _ hp _)
  rw [if_neg h2]
  rw [decide_eq_false (by omega)] at q17 q18 q19
  by_cases h3 : i.op = 20
  · rw [if_pos h3]
    rw [decide_eq_true h3] at q20
    have r := st5 p0 bor cs R M t i.k
    repeat first
      | refine oB (by first | (simp only [pu_val, nth_zero, nth_succ, gd_tt, gd_ff, gd_tf, gd_ft, gd_no, pickA_true, pickA_false, un_not, b0, g0, g1, g2, g3, g4, g5, l0, l5, l6, nil_px, fa4, fa5, fa50, c3, c4, c7, q15, q16, q17, q18, q19, q20, r]; first | done | (with_reducible exact rfl) | (with_reducible exact ⟨rfl, rfl⟩)) | (with_reducible exact rfl)) ?_
      | refine lB (by first | (simp only [pu_val, nth_zero, nth_succ, gd_tt, gd_ff, gd_tf, gd_ft, gd_no, pickA_true, pickA_false, un_not, b0, g0, g1, g2, g3, g4, g5, l0, l5, l6, nil_px, fa4, fa5, fa50, c3, c4, c7, q15, q16, q17, q18, q19, q20, r]; first | done | (with_reducible exact rfl) | (with_reducible exact ⟨rfl, rfl⟩)) | (with_reducible exact rfl)) ?_
      | refine oT ?_
      | refine oN ?_
      | refine oX ?_
      | refine oXn ?_
      | refine oXr ?_
      | exact oF (finV_bool ..)
      | apply oK
      | refine lT ?_
      | refine lN ?_
      | refine lX ?_
      | refine lXn ?_
      | refine lXr ?_
      | apply lK
      | refine oI ?_
      | refine oJ rfl ?_
      | refine lI ?_
      | refine lJ rfl ?_
      | (with_reducible exact rfl)
    exact oF (fin_bool p0 bor cs R M _ hp _)
  rw [if_neg h3]
  rw [decide_eq_false h3] at q20
  have hop := hi.op
  obtain ⟨a0, aR⟩ := hi.a (by omega) h3
  obtain ⟨d0, dR⟩ := hi.d (by omega)
  obtain ⟨bb0, bR⟩ := hi.b (by omega)
  obtain ⟨cc0, cR⟩ := hi.c (by omega)
  have f0 := ld3 G p0 bor cs R M t
  have f1 := ldAt t i.a a0
  rw [if_pos (by rw [htr]; omega)] at f1
  have f2 := ldR G p0 bor cs R M t i.a.toNat (by rw [htr]; omega)
  have f3 := ldAt t i.b bb0
  rw [if_pos (by rw [htr]; omega)] at f3
  have f4 := ldR G p0 bor cs R M t i.b.toNat (by rw [htr]; omega)
  have f5 := ldAt t i.c cc0
  rw [if_pos (by rw [htr]; omega)] at f5
  have f6 := ldR G p0 bor cs R M t i.c.toNat (by rw [htr]; omega)
  have f7 := ldAt t i.d d0
  rw [if_pos (by rw [htr]; omega)] at f7
  have ev : Ins.v i = instV i.op i.d i.a i.b i.c i.k := rfl
  have r : ∀ H, pureCall (words_Value.f G (k + 3)) [i.v, Un (t.rg i.a), Un (t.rg i.b), Un (t.rg i.c)] H = _ := fun H => pureCall_of (H := H) (value_spec G (k + 1) i.op i.d i.a i.b i.c i.k _ _ _ (hts.rg _) (hts.rg _) (hts.rg _)) rfl rfl
  have f8 := stR p0 bor cs R M t i.d.toNat (valF i.op i.k (t.rg i.a) (t.rg i.b) (t.rg i.c)).1 (by rw [htr]; omega)
  have e1 : t.regs.getD i.a.toNat 0 = t.rg i.a := rfl
  have e2 : t.regs.getD i.b.toNat 0 = t.rg i.b := rfl
  have e3 : t.regs.getD i.c.toNat 0 = t.rg i.c := rfl
  have e4 : ∀ x, ({ t with regs := t.regs.set i.d.toNat x } : MS) = t.set i.d x := fun x => rfl
  rw [e4] at f8
  rw [e1] at f2
  rw [e2] at f4
  rw [e3] at f6
  generalize t.rg i.a = ra at *
  generalize t.rg i.b = rb at *
  generalize t.rg i.c = rc at *
  generalize valF i.op i.k ra rb rc = v at *
  obtain ⟨vn, vb⟩ := v
  have x0 : ∀ u v : AV, extractA (.tup [u, v]) 0 = some u := fun _ _ => rfl
  have x1 : ∀ u v : AV, extractA (.tup [u, v]) 1 = some v := fun _ _ => rfl
  cases vb
  · rw [if_neg (by simp)]
    simp only at r f8
    repeat first
      | refine oB (by first | (simp only [pu_val, nth_zero, nth_succ, gd_tt, gd_ff, gd_tf, gd_ft, gd_no, pickA_true, pickA_false, un_not, b0, g0, l0, nil_px, fa4, c3, c4, c7, q15, q16, q17, q18, q19, q20]; first | done | (with_reducible exact rfl) | (with_reducible exact ⟨rfl, rfl⟩)) | (with_reducible exact rfl)) ?_
      | refine lB (by first | (simp only [pu_val, nth_zero, nth_succ, gd_tt, gd_ff, gd_tf, gd_ft, gd_no, pickA_true, pickA_false, un_not, b0, g0, l0, nil_px, fa4, c3, c4, c7, q15, q16, q17, q18, q19, q20]; first | done | (with_reducible exact rfl) | (with_reducible exact ⟨rfl, rfl⟩)) | (with_reducible exact rfl)) ?_
      | refine oT ?_
      | refine oN ?_
      | refine oX ?_
      | refine oXn ?_
      | refine oXr ?_
      | exact oF (finV_bool ..)
      | apply oK
      | refine lT ?_
      | refine lN ?_
      | refine lX ?_
      | refine lXn ?_
      | refine lXr ?_
      | apply lK
      | refine oI ?_
      | refine oJ rfl ?_
      | refine lI ?_
      | refine lJ rfl ?_
      | (with_reducible exact rfl)
    refine oB (by simp only [pu_val, nth_zero, nth_succ, l6]; rfl) ?_
    repeat first
      | refine oB (by first | (simp only [pu_val, nth_zero, nth_succ, gd_tt, gd_ff, gd_tf, gd_ft, gd_no, pickA_true, pickA_false, un_not, nil_px, g1, g2, g3, g4, l1, l2, l3, l4, fa3, f0, f1, f2, f3, f4, f5, f6, r, x0, x1]; first | done | (with_reducible exact rfl) | (with_reducible exact ⟨rfl, rfl⟩)) | (with_reducible exact rfl)) ?_
      | refine lB (by first | (simp only [pu_val, nth_zero, nth_succ, gd_tt, gd_ff, gd_tf, gd_ft, gd_no, pickA_true, pickA_false, un_not, nil_px, g1, g2, g3, g4, l1, l2, l3, l4, fa3, f0, f1, f2, f3, f4, f5, f6, r, x0, x1]; first | done | (with_reducible exact rfl) | (with_reducible exact ⟨rfl, rfl⟩)) | (with_reducible exact rfl)) ?_
      | refine oT ?_
      | refine oN ?_
      | refine oX ?_
      | refine oXn ?_
      | refine oXr ?_
      | exact oF (finV_bool ..)
      | apply oK
      | refine lT ?_
      | refine lN ?_
      | refine lX ?_
      | refine lXn ?_
      | refine lXr ?_
      | apply lK
      | refine oI ?_
      | refine oJ rfl ?_
      | refine lI ?_
      | refine lJ rfl ?_
      | (with_reducible exact rfl)
    exact oF (fin_bool p0 bor cs R M _ hp _)
  · rw [if_pos rfl]
    simp only at r f8
    repeat first
      | refine oB (by first | (simp only [pu_val, nth_zero, nth_succ, gd_tt, gd_ff, gd_tf, gd_ft, gd_no, pickA_true, pickA_false, un_not, b0, g0, l0, nil_px, fa4, c3, c4, c7, q15, q16, q17, q18, q19, q20]; first | done | (with_reducible exact rfl) | (with_reducible exact ⟨rfl, rfl⟩)) | (with_reducible exact rfl)) ?_
      | refine lB (by first | (simp only [pu_val, nth_zero, nth_succ, gd_tt, gd_ff, gd_tf, gd_ft, gd_no, pickA_true, pickA_false, un_not, b0, g0, l0, nil_px, fa4, c3, c4, c7, q15, q16, q17, q18, q19, q20]; first | done | (with_reducible exact rfl) | (with_reducible exact ⟨rfl, rfl⟩)) | (with_reducible exact rfl)) ?_
      | refine oT ?_
      | refine oN ?_
      | refine oX ?_
      | refine oXn ?_
      | refine oXr ?_
      | exact oF (finV_bool ..)
      | apply oK
      | refine lT ?_
      | refine lN ?_
      | refine lX ?_
      | refine lXn ?_
      | refine lXr ?_
      | apply lK
      | refine oI ?_
      | refine oJ rfl ?_
      | refine lI ?_
      | refine lJ rfl ?_
      | (with_reducible exact rfl)
    refine oB (by simp only [pu_val, nth_zero, nth_succ, l6]; rfl) ?_
    repeat first
      | refine oB (by first | (simp only [pu_val, nth_zero, nth_succ, gd_tt, gd_ff, gd_tf, gd_ft, gd_no, pickA_true, pickA_false, un_not, nil_px, g1, g2, g3, g4, l1, l2, l3, l4, fa3, f0, f1, f2, f3, f4, f5, f6, f7, f8, r, x0, x1]; first | done | (with_reducible exact rfl) | (with_reducible exact ⟨rfl, rfl⟩)) | (with_reducible exact rfl)) ?_
      | refine lB (by first | (simp only [pu_val, nth_zero, nth_succ, gd_tt, gd_ff, gd_tf, gd_ft, gd_no, pickA_true, pickA_false, un_not, nil_px, g1, g2, g3, g4, l1, l2, l3, l4, fa3, f0, f1, f2, f3, f4, f5, f6, f7, f8, r, x0, x1]; first | done | (with_reducible exact rfl) | (with_reducible exact ⟨rfl, rfl⟩)) | (with_reducible exact rfl)) ?_
      | refine oT ?_
      | refine oN ?_
      | refine oX ?_
      | refine oXn ?_
      | refine oXr ?_
      | exact oF (finV_bool ..)
      | apply oK
      | refine lT ?_
      | refine lN ?_
      | refine lX ?_
      | refine lXn ?_
      | refine lXr ?_
      | apply lK
      | refine oI ?_
      | refine oJ rfl ?_
      | refine lI ?_
      | refine lJ rfl ?_
      | (with_reducible exact rfl)
    exact oF (fin_bool p0 bor cs R M _ hp _)
end
end Go.Proofs.YtcmblhedhgiofaaDoor.Mir
