/- Runs that are known. -/
import Derived.Test.YtcmblhedhgiofaaDoorWi
namespace Go.Proofs.YtcmblhedhgiofaaDoor.Mir
open Go
set_option linter.unusedVariables false
set_option linter.unusedSimpArgs false
set_option maxHeartbeats 8000000
set_option maxRecDepth 20000

section
variable {cs : List Ins} {fuel : Int} {f : Nat} {s s2 : MS} {i : Ins}
theorem runM_go (h1 : s.at_ < cs.length) (h2 : (s.steps : Int) ≠ fuel) (hi : cs.getD s.at_ default = i) (h : s.tick.step i = (s2, true)) : runM cs fuel (f + 1) s = runM cs fuel f s2 := by
  simp only [runM]
  rw [if_neg (by omega), if_neg h2, hi, h]
theorem runM_end (h1 : s.at_ < cs.length) (h2 : (s.steps : Int) ≠ fuel) (hi : cs.getD s.at_ default = i) (h : s.tick.step i = (s2, false)) : runM cs fuel (f + 1) s = some s2 := by
  simp only [runM]
  rw [if_neg (by omega), if_neg h2, hi, h]
theorem runM_out (h1 : cs.length ≤ s.at_) : runM cs fuel (f + 1) s = some { s with code := 3 } := by
  simp only [runM]
  rw [if_pos h1]
theorem runM_fuel (h1 : s.at_ < cs.length) (h2 : (s.steps : Int) = fuel) : runM cs fuel (f + 1) s = some { s with code := 4 } := by
  simp only [runM]
  rw [if_neg (by omega), if_pos h2]
end

theorem Run_at {bor : Bool} (G : Globs) (hg : GOk G) (k : Nat) (cs : List Ins) (R M : Int) (bm : Bool) (mem : List Nat) (fuel : Int) (hk : cs.length < k + 7) (hcl : cs.length ≤ 100000) (h : validF cs R M = .ok) (h2 : givenF M mem.length fuel = .ok)
    (hm : ∀ x ∈ mem, x < 18446744073709551616) (hf : fuel ≤ 99999) (hk2 : fuel < k + 7) (s' : MS) (hr : runM cs fuel (k + 7) (s0 R.toNat mem) = some s') :
    words_Run.f G (k + 9) [cdV bor cs R M, .ro bm (natsU mem), I6 fuel] [] = some (.tup [endV s', .nili], []) := by
  obtain ⟨s2, w1, w2⟩ := Run_spec (bor := bor) G hg k cs R M bm mem fuel hk hcl h h2 hm hf hk2
  rw [hr] at w1
  obtain rfl := Option.some.inj w1
  exact w2

theorem givenF_ok {M : Int} {n : Nat} {fuel : Int} (h1 : (n : Int) = M) (h2 : 0 ≤ fuel) (h3 : fuel ≤ 1073741824) : givenF M n fuel = .ok := by
  unfold givenF
  rw [if_neg (by omega), if_neg (by omega)]
theorem badF_nil (R n : Int) (j : Nat) : badF R n [] j = .ok := rfl
theorem badF_cons {R n : Int} {i : Ins} {l : List Ins} {j : Nat} (h : oneF i R n = none) (h2 : badF R n l (j + 1) = .ok) : badF R n (i :: l) j = .ok := by
  unfold badF; rw [h]; exact h2
theorem validF_is {cs : List Ins} {R M : Int} (h1 : cs.length ≤ 262144) (h2 : 0 ≤ R ∧ R ≤ 65536 ∧ 0 ≤ M ∧ M ≤ 65536) (h : badF R cs.length cs 0 = .ok) : validF cs R M = .ok := by
  unfold validF
  rw [if_neg (by omega), if_neg (by omega)]; exact h

theorem badF_all {R n : Int} : ∀ {l : List Ins} {j : Nat}, (∀ i ∈ l, oneF i R n = none) → badF R n l j = .ok
  | [], _, _ => rfl
  | i :: l, j, h => badF_cons (h i (by simp)) (badF_all (fun x hx => h x (by simp [hx])))

/-- One instruction that may be. -/
theorem oneF_of {i : Ins} {R n : Int} (h : oneK (frmD i.op) (kindF i.op) i R n = none) (hop : 1 ≤ i.op ∧ i.op ≤ 20) : oneF i R n = none := by rw [oneF_kind i R n hop]; exact h
end Go.Proofs.YtcmblhedhgiofaaDoor.Mir
