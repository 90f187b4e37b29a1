/- A run of words: the document's is the plain machine's. -/
import Derived.Test.YtcmblhedhgiofaaDoorWk
namespace Go.Proofs.YtcmblhedhgiofaaDoor.Mir
open Go
set_option linter.unusedVariables false
set_option linter.unusedSimpArgs false
set_option maxHeartbeats 4000000
set_option maxRecDepth 20000

/-- What the document's run holds. -/
def resQ (s : MS) (wr : Int) : AV := .agg [I6 s.code, .sl 2 s.mem.length 0 s.mem.length 1, .sl 6 s.leaks.length 0 s.leaks.length 2, Nn s.steps, I6 wr]
def hpQ (s : MS) (wr : Int) : AHeap :=
  [⟨44, 5, [.agg [.int .i64 0, .nils, .sl 5 0 0 0 2, .int .i64 0, .int .i64 0]]⟩, ⟨48, 1, []⟩, ⟨48, 1, natsU s.mem⟩, ⟨44, 5, [resQ s wr]⟩, ⟨48, 1, natsU (s.regs ++ [0])⟩, ⟨96, 2, []⟩, ⟨96, 2, leaksV s.leaks⟩]
def hpR (s : MS) (wr : Int) (x : AV) : AHeap :=
  [⟨44, 5, [.agg [.int .i64 0, .nils, .sl 5 0 0 0 2, .int .i64 0, .int .i64 0]]⟩, ⟨48, 1, []⟩, ⟨48, 1, natsU s.mem⟩, ⟨44, 5, [resQ s wr]⟩, ⟨48, 1, natsU (s.regs ++ [0])⟩, ⟨96, 2, []⟩, ⟨96, 2, leaksV s.leaks⟩, ⟨52, 6, [x]⟩]
/-- The same, ended. -/
def hpQE (s : MS) (wr : Int) (l : AHeap) : AHeap :=
  ⟨44, 5, [resQ s wr]⟩ :: ⟨48, 1, []⟩ :: ⟨48, 1, natsU s.mem⟩ :: ⟨44, 5, [resQ s wr]⟩ :: ⟨48, 1, natsU (s.regs ++ [0])⟩ :: ⟨96, 2, []⟩ :: ⟨96, 2, leaksV s.leaks⟩ :: l
def xsQ (sp : AV) (fuel : Int) (bc bor : Bool) (cs : List Ins) (R : Nat) (M : Int) (pc : Nat) : List AV :=
  [sp, I6 fuel, .rp bc (.agg [.ro bor (codeV cs), I6 R, I6 M]) 0, .ptr 0 1 0 0, .ptr 3 1 0 0, .sl 4 (R + 1) 0 (R + 1) 1, Nn pc]

section
variable (G : Globs) (s : MS) (wr : Int) (x : AV)
abbrev zI : AV := .agg [.int .i64 0, .int .i64 0, .int .i64 0, .int .i64 0, .int .i64 0, .int .i64 0]
theorem hq_len : (hpQ s wr).length = 7 := rfl
theorem qSteps : loadV G false 1 (.ptr 3 1 0 3) (hpQ s wr) = some (Nn s.steps) := rfl
theorem qCode (n : Int) : stS (storeV 1 (.ptr 3 1 0 0) (I6 n) (hpQ s wr)) = some (.tup [], hpQ { s with code := n } wr) := rfl
theorem qAll : loadV G true 5 (.ptr 3 1 0 0) (hpQ s wr) = some (resQ s wr) := rfl
theorem qRes : stS (storeV 5 (.ptr 0 1 0 0) (resQ s wr) (hpQ s wr)) = some (.tup [], hpQE s wr []) := rfl
theorem qBox : boxA 52 zI (hpQ s wr) = some (.ptr 7 1 0 0, hpR s wr zI) := rfl
theorem rIns (i : Ins) : stS (storeV 6 (.ptr 7 1 0 0) i.v (hpR s wr zI)) = some (.tup [], hpR s wr i.v) := rfl
theorem rSteps : loadV G false 1 (.ptr 3 1 0 3) (hpR s wr x) = some (Nn s.steps) := rfl
theorem rStSteps (n : Nat) : stS (storeV 1 (.ptr 3 1 0 3) (Nn n) (hpR s wr x)) = some (.tup [], hpR { s with steps := n } wr x) := rfl
theorem rCode (n : Int) : stS (storeV 1 (.ptr 3 1 0 0) (I6 n) (hpR s wr x)) = some (.tup [], hpR { s with code := n } wr x) := rfl
theorem rWrong (n : Int) : stS (storeV 1 (.ptr 3 1 0 4) (I6 n) (hpR s wr x)) = some (.tup [], hpR s n x) := rfl
theorem rLdWrong : loadV G false 1 (.ptr 3 1 0 4) (hpR s wr x) = some (I6 wr) := rfl
theorem rAll : loadV G true 5 (.ptr 3 1 0 0) (hpR s wr x) = some (resQ s wr) := rfl
theorem rRes : stS (storeV 5 (.ptr 0 1 0 0) (resQ s wr) (hpR s wr x)) = some (.tup [], hpQE s wr [⟨52, 6, [x]⟩]) := rfl
theorem rLeaks : loadV G false 1 (.ptr 3 1 0 2) (hpR s wr x) = some (.sl 6 s.leaks.length 0 s.leaks.length 2) := rfl
theorem rMem : loadV G false 1 (.ptr 3 1 0 1) (hpR s wr x) = some (.sl 2 s.mem.length 0 s.mem.length 1) := rfl
theorem rI0 (i : Ins) : loadV G false 1 (.ptr 7 1 0 0) (hpR s wr i.v) = some (I6 i.op) := rfl
theorem rI1 (i : Ins) : loadV G false 1 (.ptr 7 1 0 1) (hpR s wr i.v) = some (I6 i.d) := rfl
theorem rI2 (i : Ins) : loadV G false 1 (.ptr 7 1 0 2) (hpR s wr i.v) = some (I6 i.a) := rfl
theorem rI3 (i : Ins) : loadV G false 1 (.ptr 7 1 0 3) (hpR s wr i.v) = some (I6 i.b) := rfl
theorem rI4 (i : Ins) : loadV G false 1 (.ptr 7 1 0 4) (hpR s wr i.v) = some (I6 i.c) := rfl
theorem rI5 (i : Ins) : loadV G false 1 (.ptr 7 1 0 5) (hpR s wr i.v) = some (I6 i.k) := rfl
theorem rI6 (i : Ins) : loadV G true 6 (.ptr 7 1 0 0) (hpR s wr i.v) = some i.v := rfl
theorem rApp (p : Int × Int) (hl : s.leaks.length ≤ 1000000) : appendV 96 2 (.sl 6 s.leaks.length 0 s.leaks.length 2) (.ro false [leakV p]) (hpR s wr x) =
    some (.sl 6 (s.leaks.length + 1) 0 (s.leaks.length + 1) 2, (hpR s wr x).set 6 ⟨96, 2, leaksV (s.leaks ++ [p])⟩) := by
  have e : (hpR s wr x)[6]? = some ⟨96, 2, leaksV s.leaks⟩ := rfl
  unfold appendV
  simp only [e, elemsOf, leaksV_len, List.length_singleton]
  rw [if_pos (by refine ⟨?_, ?_, ?_, ?_, ?_⟩ <;> first | trivial | rfl | omega)]
  have e2 : (leaksV s.leaks).take s.leaks.length = leaksV s.leaks := List.take_of_length_le (by rw [leaksV_len]; exact Nat.le_refl _)
  have e3 : (leaksV s.leaks).drop (s.leaks.length + 1) = [] := List.drop_of_length_le (by rw [leaksV_len]; omega)
  rw [e2, e3, List.append_nil]
  have e4 : leaksV s.leaks ++ [leakV p] = leaksV (s.leaks ++ [p]) := by simp [leaksV]
  rw [e4, leaksV_len]; simp
theorem rStL (p : Int × Int) : stS (storeV 1 (.ptr 3 1 0 2) (.sl 6 (s.leaks.length + 1) 0 (s.leaks.length + 1) 2) ((hpR s wr x).set 6 ⟨96, 2, leaksV (s.leaks ++ [p])⟩)) =
    some (.tup [], hpR (s.leak p.1 p.2) wr x) := by
  have e : (s.leak p.1 p.2).leaks.length = s.leaks.length + 1 := by simp [MS.leak]
  unfold hpR resQ
  rw [e]
  rfl
theorem rReg (R : Nat) (j : Int) (h0 : 0 ≤ j) (hj : j ≤ R) (hR : s.regs.length = R) : loadV G false 1 (.ptr 4 (R + 1) j.toNat 0) (hpR s wr x) = some (Un (s.rg j)) := by
  have e : (hpR s wr x)[4]? = some ⟨48, 1, natsU (s.regs ++ [0])⟩ := rfl
  have hl : (s.regs ++ [0]).length = R + 1 := by simp [hR]
  have h1 : j.toNat < (s.regs ++ [0]).length := by rw [hl]; omega
  have e2 : (s.regs ++ [0]).getD j.toNat 0 = s.rg j := by
    unfold MS.rg
    simp only [List.getD_eq_getElem?_getD]
    by_cases hlt : j.toNat < s.regs.length
    · rw [List.getElem?_append_left hlt]
    · rw [List.getElem?_append_right (by omega), List.getElem?_eq_none (l := s.regs) (by omega)]
      have : j.toNat - s.regs.length = 0 := by omega
      rw [this]; rfl
  unfold loadV
  simp only [e, natsU_len, hl, natsU_get _ _ h1, if_true, e2]
  rfl
theorem rStR (R : Nat) (j : Int) (n : Nat) (h0 : 0 ≤ j) (hj : j < R) (hR : s.regs.length = R) : stS (storeV 1 (.ptr 4 (R + 1) j.toNat 0) (Un n) (hpR s wr x)) = some (.tup [], hpR (s.set j n) wr x) := by
  have e : (hpR s wr x)[4]? = some ⟨48, 1, natsU (s.regs ++ [0])⟩ := rfl
  have hl : (s.regs ++ [0]).length = R + 1 := by simp [hR]
  have h1 : j.toNat < (s.regs ++ [0]).length := by rw [hl]; omega
  have e2 : (s.set j n).regs ++ [0] = (s.regs ++ [0]).set j.toNat n := by
    unfold MS.set
    rw [List.set_append_left _ _ (by omega)]
  unfold storeV
  simp only [e, natsU_len, hl, natsU_get _ _ h1]
  unfold hpR
  rw [e2, natsU_set]
  rfl
theorem rLdM (j : Nat) (h : j < s.mem.length) : loadV G false 1 (.ptr 2 s.mem.length j 0) (hpR s wr x) = some (Un (s.mem.getD j 0)) := by
  have e : (hpR s wr x)[2]? = some ⟨48, 1, natsU s.mem⟩ := rfl
  unfold loadV
  simp only [e, natsU_len, natsU_get _ _ h, if_true]
  rfl
theorem rIdM (n : Nat) (h : n < s.mem.length) : idxAddrSl 1 (.sl 2 s.mem.length 0 s.mem.length 1) (Un n) = some (.ptr 2 s.mem.length n 0) := by
  have h0 : (0 : Int) ≤ (n : Int) := by omega
  have h' : (n : Int) < (s.mem.length : Int) := by omega
  simp [idxAddrSl, h0, h']
theorem rStM (j n : Nat) (h : j < s.mem.length) : stS (storeV 1 (.ptr 2 s.mem.length j 0) (Un n) (hpR s wr x)) = some (.tup [], hpR { s with mem := s.mem.set j n } wr x) := by
  have e : (hpR s wr x)[2]? = some ⟨48, 1, natsU s.mem⟩ := rfl
  unfold storeV
  simp only [e, natsU_len, natsU_get _ _ h]
  unfold hpR resQ
  simp only [List.length_set, natsU_set]
  rfl
theorem idR (R : Nat) (j : Int) (h0 : 0 ≤ j) (hj : j ≤ R) : idxAddrSl 1 (.sl 4 (R + 1) 0 (R + 1) 1) (I6 j) = some (.ptr 4 (R + 1) j.toNat 0) := by
  have h' : j < ((R + 1 : Nat) : Int) := by omega
  simp only [idxAddrSl]
  rw [if_pos ⟨h0, h'⟩, if_pos trivial, Nat.zero_add]
end

/-- An instruction that may be, and its number. -/
structure Ins.Ok2 (i : Ins) (R n : Nat) : Prop where
  ok : i.Ok R n
  sh : 10 ≤ i.op → i.op ≤ 12 → 0 ≤ i.k ∧ i.k ≤ 63
  ha : 0 ≤ i.a ∧ i.a ≤ R
  hb : 0 ≤ i.b ∧ i.b ≤ R

theorem valF_is {op n : Int} {a b c : Nat} (h : 1 ≤ op ∧ op ≤ 14) (hs : 10 ≤ op → op ≤ 12 → 0 ≤ n ∧ n ≤ 63) : (valF op n a b c).2 = true := by
  by_cases e : op = 10 ∨ op = 11 ∨ op = 12
  · have := hs (by omega) (by omega)
    have e2 : valF op n a b c = shiftF op n a := by
      unfold valF
      simp (disch := omega) only [if_neg, if_pos]
    rw [e2]
    unfold shiftF
    rw [if_neg (by omega)]
    split
    · rfl
    · split <;> rfl
  · have : op = 1 ∨ op = 2 ∨ op = 3 ∨ op = 4 ∨ op = 5 ∨ op = 6 ∨ op = 7 ∨ op = 8 ∨ op = 9 ∨ op = 13 ∨ op = 14 := by omega
    rcases this with rfl | rfl | rfl | rfl | rfl | rfl | rfl | rfl | rfl | rfl | rfl <;> simp [valF]

theorem oneF_ok2 {i : Ins} {R n : Int} (h : oneF i R n = none) (hR : 0 ≤ R) : i.Ok2 R.toNat n.toNat := by
  have h0 := oneF_ok h hR
  unfold oneF at h
  have h20 := h0.op
  by_cases h1 : out4 (frmD i.op) i R = true
  · rw [if_pos h1] at h; split at h <;> cases h
  rw [if_neg h1] at h
  by_cases h2 : off5 (frmD i.op) i = true
  · rw [if_pos h2] at h; split at h <;> cases h
  rw [if_neg h2] at h
  obtain ⟨op, d, a, b, c, kk⟩ := i
  simp only at h h1 h2 h20
  simp only [out4, off5, Bool.or_eq_true, not_or, Bool.and_eq_true, Bool.not_eq_true', decide_eq_true_eq, not_and, Bool.not_eq_true] at h1 h2
  rcases op20 h20 with rfl | rfl | rfl | rfl | rfl | rfl | rfl | rfl | rfl | rfl | rfl | rfl | rfl | rfl | rfl | rfl | rfl | rfl | rfl | rfl
  all_goals (
    simp [frmD, formF, outR] at h1 h2
    simp [formF] at h
    exact ⟨h0, by simp; try omega, by simp; omega, by simp; omega⟩)
end Go.Proofs.YtcmblhedhgiofaaDoor.Mir
