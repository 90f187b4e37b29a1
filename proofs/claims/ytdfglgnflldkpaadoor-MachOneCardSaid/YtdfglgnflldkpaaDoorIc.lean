/- isa: a word's instruction: the program's. -/
import Derived.Test.YtdfglgnflldkpaaDoorIb
namespace Go.Proofs.YtdfglgnflldkpaaDoor.Mir
open Go
set_option linter.unusedVariables false
set_option linter.unusedSimpArgs false
set_option maxHeartbeats 8000000
set_option maxRecDepth 20000

def x1F (v : Int) : Int := if v % 2 = 0 then v + 1 else v - 1
def sgnF (n h : Int) : Int := if h ≤ n then n - 2 * h else n
def exA (op w : Int) : Int :=
  if op = 1 ∨ op = 2 then w / 2097152 % 4
  else if op = 8 then w / 1024 % 32
  else if op = 16 then w / 4096 % 16
  else if op = 17 then x1F (w / 4096 % 16)
  else if op = 21 then w % 16
  else 0
def exI (op w : Int) : Int :=
  if op = 1 ∨ op = 2 then w / 32 % 65536
  else if op = 10 ∨ op = 11 ∨ op = 18 ∨ op = 19 then w / 1024 % 4096
  else if op = 12 then 63 - w / 1024 % 64
  else if op = 13 ∨ op = 14 then w / 65536 % 64
  else if op = 20 then sgnF (w % 67108864) 33554432
  else if op = 21 ∨ op = 22 ∨ op = 23 then sgnF (w / 32 % 524288) 262144
  else if op = 24 then w / 32 % 65536
  else 0
/-- A word as an instruction of a kind. -/
def asF (op w : Int) : MI := ⟨op, if (formF op).d = true then w % 32 else 0, if (formF op).n = true then w / 32 % 32 else 0, if (formF op).m = true then w / 65536 % 32 else 0, exA op w, exI op w⟩

theorem shr_p (P : Program) (t : Nat) (c : Bool) (kk : IntKind) {v p b : Int} (s : Nat) (hb : b = (s : Int)) (hs : s ≤ 32) (hp : p = ((2 ^ s : Nat) : Int)) (h0 : 0 ≤ v) : bin P .shr t c (W32 v) (.int kk b) = some (W32 (v / p)) := by
  subst hb
  rw [bin_shr _ _ _ _ _ _ _ (Int.natCast_nonneg s), Int.toNat_natCast]
  have e : min s IntKind.u32.bits = s := Nat.min_eq_left hs
  have e2 : ((2 : Int) ^ s) = p := by rw [hp]; exact_mod_cast rfl
  rw [e, e2, Int.fdiv_eq_ediv_of_nonneg _ (by rw [hp]; exact Int.natCast_nonneg _)]

theorem field_spec (G : Globs) (k : Nat) (w : Int) (h0 : 0 ≤ w) (h1 : w < 4294967296) {a b p q : Int} (s : Nat) (ha : a = (s : Int)) (hs : s ≤ 31) (hp : p = ((2 ^ s : Nat) : Int)) (g : Nat) (hb : b = (g : Int)) (hg : g ≤ 26) (hq : q = ((2 ^ g : Nat) : Int)) :
    isa_field.f G (k + 1) [W32 w, I6 a, I6 b] [] = some (I6 (w / p % q), []) := by
  rw [isa_field.step]
  unfold isa_field.c
  have p0 : 0 < p := by rw [hp]; exact_mod_cast Nat.two_pow_pos s
  have d0 : 0 ≤ w / p := Int.ediv_nonneg h0 (by omega)
  have d1 : w / p ≤ w := Int.ediv_le_self _ h0
  have hl : (2 ^ g : Nat) ≤ 2 ^ 26 := Nat.pow_le_pow_right (by decide) hg
  have q0 : 0 < q := by rw [hq]; exact_mod_cast Nat.two_pow_pos g
  have q1 : q ≤ 67108864 := by
    have e : (2 ^ 26 : Nat) = 67108864 := by decide
    rw [hq]; omega
  have s1 := shr_p Tryd.prog 71 false .i64 (v := w) (p := p) (b := a) s ha (by omega) hp h0
  have s2 : bin Tryd.prog .shl 71 true (.int .u32 1) (I6 b) = some (W32 q) := by
    subst hb
    rw [bin_shl _ _ _ _ _ _ _ (Int.natCast_nonneg g), Int.toNat_natCast]
    have e : min g IntKind.u32.bits = g := Nat.min_eq_left (by show g ≤ 32; omega)
    have e2 : ((2 : Int) ^ g) = q := by rw [hq]; exact_mod_cast rfl
    rw [e, e2, Int.one_mul, wrap_of_u32 (by omega) (by omega)]
  have s3 : bin Tryd.prog .sub 71 true (W32 q) (.int .u32 1) = some (W32 (q - 1)) := sub32 _ _ _ (by omega) (by omega) (by omega)
  have s4 : bin Tryd.prog .and 71 false (W32 (w / p)) (W32 (q - 1)) = some (W32 (w / p % q)) := by
    have := and_low Tryd.prog 71 false (x := w / p) (q := q - 1) g (by omega) (by rw [hq]; have := Nat.two_pow_pos g; omega) d0 (by omega)
    rw [this]; congr 2; rw [Int.sub_add_cancel]
  have m0 : 0 ≤ w / p % q := Int.emod_nonneg _ (by omega)
  have m1 : w / p % q < q := Int.emod_lt_of_pos _ q0
  have s5 : convInt .i64 (W32 (w / p % q)) = some (I6 (w / p % q)) := q_cvI (by omega) (by omega)
  clear ha hb hp hq
  generalize w / p % q = z at *
  generalize w / p = z2 at *
  refine e_in ?_
  repeat' first
    | (with_reducible first | refine eT ?_ | refine eN ?_ | refine eS ?_ | refine eXn ?_ | refine eXr ?_ | refine eX ?_ | refine eI ?_ | refine eK ?_ | refine eV0 ?_ | refine eGr0 ?_ | refine eGtt ?_ | refine eGff ?_ | refine eGtf ?_ | refine eGft ?_ | refine eGno ?_)
    | ((with_reducible apply eCn); (simp only [nth_zero, nth_succ]; first | done | (with_reducible exact rfl)))
    | ((with_reducible apply eJ); (rfl))
    | ((with_reducible apply eGr1); (first | rfl | (simp only [nth_zero, nth_succ]; rfl)))
    | ((with_reducible apply eB); (first | (with_reducible exact rfl) | (simp (disch := omega) only [qf, s1, s2, s3, s4, s5]; first | done | (with_reducible exact rfl) | (with_reducible exact ⟨rfl, rfl⟩)) | (simp (disch := omega) only [qa, putC, AV.cells, storable, buildSt, fillA, buildRo, buildOwn, fillE, Nat.reduceLeDiff, Nat.reduceLT, Nat.reduceAdd, ↓reduceIte, s1, s2, s3, s4, s5]; first | done | (with_reducible exact rfl) | (with_reducible exact ⟨rfl, rfl⟩))))
    | ((with_reducible apply eR); (simp only [nth_zero, nth_succ]; (with_reducible exact rfl)))
    | ((with_reducible first | refine sEql ?_ ?_ | refine sNeq ?_ ?_ | refine sLss ?_ ?_ | refine sLeq ?_ ?_ | refine sGtr ?_ ?_ | refine sGeq ?_ ?_ | refine sNot ?_ ?_ | refine sPick ?_ ?_ | refine sGd ?_ ?_ | refine eBool ?_ ?_) <;> intro hq <;> try subst hq)
  exact w1i rfl

theorem sign_spec (G : Globs) (k : Nat) (n b h : Int) (hb : (b = 19 ∧ h = 262144) ∨ (b = 26 ∧ h = 33554432)) (n0 : 0 ≤ n) (n1 : n < 67108864) : isa_sign.f G (k + 1) [I6 n, I6 b] [] = some (I6 (sgnF n h), []) := by
  rw [isa_sign.step]
  unfold isa_sign.c sgnF
  obtain ⟨s1, s2, s3⟩ : bin Tryd.prog .sub 3 true (I6 b) (.int .i64 1) = some (I6 (b - 1)) ∧ bin Tryd.prog .shl 3 true (.int .i64 1) (I6 (b - 1)) = some (I6 h) ∧ bin Tryd.prog .shl 3 true (.int .i64 1) (I6 b) = some (I6 (2 * h)) := by
    clear n0 n1
    rcases hb with ⟨rfl, rfl⟩ | ⟨rfl, rfl⟩
    · exact ⟨by kernel_rfl, by kernel_rfl, by kernel_rfl⟩
    · exact ⟨by kernel_rfl, by kernel_rfl, by kernel_rfl⟩
  have hh : 0 ≤ h ∧ h ≤ 33554432 := by omega
  clear hb
  refine e_in ?_
  by_cases hc : h ≤ n
  · rw [if_pos hc]
    repeat' first
      | (with_reducible first | refine eT ?_ | refine eN ?_ | refine eS ?_ | refine eXn ?_ | refine eXr ?_ | refine eX ?_ | refine eI ?_ | refine eK ?_ | refine eV0 ?_ | refine eGr0 ?_ | refine eGtt ?_ | refine eGff ?_ | refine eGtf ?_ | refine eGft ?_ | refine eGno ?_)
      | ((with_reducible apply eCn); (simp only [nth_zero, nth_succ]; first | done | (with_reducible exact rfl)))
      | ((with_reducible apply eJ); (rfl))
      | ((with_reducible apply eGr1); (first | rfl | (simp only [nth_zero, nth_succ]; rfl)))
      | ((with_reducible apply eB); (first | (with_reducible exact rfl) | (simp (disch := omega) only [qf, s1, s2, s3]; first | done | (with_reducible exact rfl) | (with_reducible exact ⟨rfl, rfl⟩)) | (simp (disch := omega) only [qa, putC, AV.cells, storable, buildSt, fillA, buildRo, buildOwn, fillE, Nat.reduceLeDiff, Nat.reduceLT, Nat.reduceAdd, ↓reduceIte, s1, s2, s3]; first | done | (with_reducible exact rfl) | (with_reducible exact ⟨rfl, rfl⟩))))
      | ((with_reducible apply eR); (simp only [nth_zero, nth_succ]; (with_reducible exact rfl)))
      | ((with_reducible first | refine sEql ?_ ?_ | refine sNeq ?_ ?_ | refine sLss ?_ ?_ | refine sLeq ?_ ?_ | refine sGtr ?_ ?_ | refine sGeq ?_ ?_ | refine sNot ?_ ?_ | refine sPick ?_ ?_ | refine sGd ?_ ?_ | refine eBool ?_ ?_) <;> intro hq <;> try subst hq)
    exact w1i rfl
  · rw [if_neg hc]
    repeat' first
      | (with_reducible first | refine eT ?_ | refine eN ?_ | refine eS ?_ | refine eXn ?_ | refine eXr ?_ | refine eX ?_ | refine eI ?_ | refine eK ?_ | refine eV0 ?_ | refine eGr0 ?_ | refine eGtt ?_ | refine eGff ?_ | refine eGtf ?_ | refine eGft ?_ | refine eGno ?_)
      | ((with_reducible apply eCn); (simp only [nth_zero, nth_succ]; first | done | (with_reducible exact rfl)))
      | ((with_reducible apply eJ); (rfl))
      | ((with_reducible apply eGr1); (first | rfl | (simp only [nth_zero, nth_succ]; rfl)))
      | ((with_reducible apply eB); (first | (with_reducible exact rfl) | (simp (disch := omega) only [qf, s1, s2, s3]; first | done | (with_reducible exact rfl) | (with_reducible exact ⟨rfl, rfl⟩)) | (simp (disch := omega) only [qa, putC, AV.cells, storable, buildSt, fillA, buildRo, buildOwn, fillE, Nat.reduceLeDiff, Nat.reduceLT, Nat.reduceAdd, ↓reduceIte, s1, s2, s3]; first | done | (with_reducible exact rfl) | (with_reducible exact ⟨rfl, rfl⟩))))
      | ((with_reducible apply eR); (simp only [nth_zero, nth_succ]; (with_reducible exact rfl)))
      | ((with_reducible first | refine sEql ?_ ?_ | refine sNeq ?_ ?_ | refine sLss ?_ ?_ | refine sLeq ?_ ?_ | refine sGtr ?_ ?_ | refine sGeq ?_ ?_ | refine sNot ?_ ?_ | refine sPick ?_ ?_ | refine sGd ?_ ?_ | refine eBool ?_ ?_) <;> intro hq <;> try subst hq)
    exact w1i rfl

theorem xor1i (P : Program) (t : Nat) (c : Bool) {a : Int} (h0 : 0 ≤ a) (h1 : a < 16) : bin P .xor t c (I6 a) (.int .i64 1) = some (I6 (x1F a)) := by
  have h : a = 0 ∨ a = 1 ∨ a = 2 ∨ a = 3 ∨ a = 4 ∨ a = 5 ∨ a = 6 ∨ a = 7 ∨ a = 8 ∨ a = 9 ∨ a = 10 ∨ a = 11 ∨ a = 12 ∨ a = 13 ∨ a = 14 ∨ a = 15 := by omega
  rcases h with rfl | rfl | rfl | rfl | rfl | rfl | rfl | rfl | rfl | rfl | rfl | rfl | rfl | rfl | rfl | rfl <;> (clear h0 h1; show _ = _; kernel_rfl)

theorem extras_spec (G : Globs) (k : Nat) (op w : Int) (hop : 1 ≤ op ∧ op ≤ 24) (h0 : 0 ≤ w) (h1 : w < 4294967296) : isa_extras.f G (k + 2) [I6 op, W32 w] [] = some (.tup [I6 (exA op w), I6 (exI op w)], []) := by
  rw [isa_extras.step]
  unfold isa_extras.c
  have f1 : ∀ H, pureCall (isa_field.f G (k + 1)) [W32 w, .int .i64 21, .int .i64 2] H = some (I6 (w / 2097152 % 4), H) := fun H => pureCall_of (H := H) (field_spec G k w h0 h1 21 rfl (by decide) rfl 2 rfl (by decide) rfl) rfl rfl
  have f2 : ∀ H, pureCall (isa_field.f G (k + 1)) [W32 w, .int .i64 5, .int .i64 16] H = some (I6 (w / 32 % 65536), H) := fun H => pureCall_of (H := H) (field_spec G k w h0 h1 5 rfl (by decide) rfl 16 rfl (by decide) rfl) rfl rfl
  have f3 : ∀ H, pureCall (isa_field.f G (k + 1)) [W32 w, .int .i64 10, .int .i64 5] H = some (I6 (w / 1024 % 32), H) := fun H => pureCall_of (H := H) (field_spec G k w h0 h1 10 rfl (by decide) rfl 5 rfl (by decide) rfl) rfl rfl
  have f4 : ∀ H, pureCall (isa_field.f G (k + 1)) [W32 w, .int .i64 12, .int .i64 4] H = some (I6 (w / 4096 % 16), H) := fun H => pureCall_of (H := H) (field_spec G k w h0 h1 12 rfl (by decide) rfl 4 rfl (by decide) rfl) rfl rfl
  have f5 : ∀ H, pureCall (isa_field.f G (k + 1)) [W32 w, .int .i64 10, .int .i64 12] H = some (I6 (w / 1024 % 4096), H) := fun H => pureCall_of (H := H) (field_spec G k w h0 h1 10 rfl (by decide) rfl 12 rfl (by decide) rfl) rfl rfl
  have f6 : ∀ H, pureCall (isa_field.f G (k + 1)) [W32 w, .int .i64 10, .int .i64 6] H = some (I6 (w / 1024 % 64), H) := fun H => pureCall_of (H := H) (field_spec G k w h0 h1 10 rfl (by decide) rfl 6 rfl (by decide) rfl) rfl rfl
  have f7 : ∀ H, pureCall (isa_field.f G (k + 1)) [W32 w, .int .i64 16, .int .i64 6] H = some (I6 (w / 65536 % 64), H) := fun H => pureCall_of (H := H) (field_spec G k w h0 h1 16 rfl (by decide) rfl 6 rfl (by decide) rfl) rfl rfl
  have f8 : ∀ H, pureCall (isa_field.f G (k + 1)) [W32 w, .int .i64 0, .int .i64 26] H = some (I6 (w / 1 % 67108864), H) := fun H => pureCall_of (H := H) (field_spec G k w h0 h1 0 rfl (by decide) rfl 26 rfl (by decide) rfl) rfl rfl
  have f9 : ∀ H, pureCall (isa_field.f G (k + 1)) [W32 w, .int .i64 0, .int .i64 4] H = some (I6 (w / 1 % 16), H) := fun H => pureCall_of (H := H) (field_spec G k w h0 h1 0 rfl (by decide) rfl 4 rfl (by decide) rfl) rfl rfl
  have f10 : ∀ H, pureCall (isa_field.f G (k + 1)) [W32 w, .int .i64 5, .int .i64 19] H = some (I6 (w / 32 % 524288), H) := fun H => pureCall_of (H := H) (field_spec G k w h0 h1 5 rfl (by decide) rfl 19 rfl (by decide) rfl) rfl rfl
  rw [Int.ediv_one] at f8 f9
  have g1 : ∀ H, pureCall (isa_sign.f G (k + 1)) [I6 (w % 67108864), .int .i64 26] H = some (I6 (sgnF (w % 67108864) 33554432), H) := fun H => pureCall_of (H := H) (sign_spec G k _ 26 33554432 (.inr ⟨rfl, rfl⟩) (by omega) (by omega)) rfl rfl
  have g2 : ∀ H, pureCall (isa_sign.f G (k + 1)) [I6 (w / 32 % 524288), .int .i64 19] H = some (I6 (sgnF (w / 32 % 524288) 262144), H) := fun H => pureCall_of (H := H) (sign_spec G k _ 19 262144 (.inl ⟨rfl, rfl⟩) (by omega) (by omega)) rfl rfl
  have g3 := xor1i Tryd.prog 3 true (a := w / 4096 % 16) (by omega) (by omega)
  have g4 : bin Tryd.prog .sub 3 true (.int .i64 63) (I6 (w / 1024 % 64)) = some (I6 (63 - w / 1024 % 64)) := q_sub (by omega) (by omega)
  refine e_in ?_
  rcases op24 hop with rfl | rfl | rfl | rfl | rfl | rfl | rfl | rfl | rfl | rfl | rfl | rfl | rfl | rfl | rfl | rfl | rfl | rfl | rfl | rfl | rfl | rfl | rfl | rfl
  all_goals (
    repeat' first
      | (with_reducible first | refine eT ?_ | refine eN ?_ | refine eS ?_ | refine eXn ?_ | refine eXr ?_ | refine eX ?_ | refine eI ?_ | refine eK ?_ | refine eV0 ?_ | refine eGr0 ?_ | refine eGtt ?_ | refine eGff ?_ | refine eGtf ?_ | refine eGft ?_ | refine eGno ?_)
      | ((with_reducible apply eCn); (simp only [nth_zero, nth_succ]; first | done | (with_reducible exact rfl)))
      | ((with_reducible apply eJ); (rfl))
      | ((with_reducible apply eGr1); (first | rfl | (simp only [nth_zero, nth_succ]; rfl)))
      | ((with_reducible apply eB); (first | (with_reducible exact rfl) | (simp (disch := omega) only [qf, f1, f2, f3, f4, f5, f6, f7, f8, f9, f10, g1, g2, g3, g4]; first | done | (with_reducible exact rfl) | (with_reducible exact ⟨rfl, rfl⟩)) | (simp (disch := omega) only [qa, putC, AV.cells, storable, buildSt, fillA, buildRo, buildOwn, fillE, Nat.reduceLeDiff, Nat.reduceLT, Nat.reduceAdd, ↓reduceIte, f1, f2, f3, f4, f5, f6, f7, f8, f9, f10, g1, g2, g3, g4]; first | done | (with_reducible exact rfl) | (with_reducible exact ⟨rfl, rfl⟩))))
      | ((with_reducible apply eR); (simp only [nth_zero, nth_succ]; (with_reducible exact rfl)))
      | ((with_reducible first | refine sEql ?_ ?_ | refine sNeq ?_ ?_ | refine sLss ?_ ?_ | refine sLeq ?_ ?_ | refine sGtr ?_ ?_ | refine sGeq ?_ ?_ | refine sNot ?_ ?_ | refine sPick ?_ ?_ | refine sGd ?_ ?_ | refine eBool ?_ ?_) <;> intro hq <;> try subst hq)
    exact w2 rfl rfl rfl)

theorem finL_two {x y : AV} {H : AHeap} (hx : belowB 0 x = true) (hy : belowB 0 y = true) {m : Option AV} (hm : m = some x) : finL [m, some y] 0 H = some (.ret, [.tup [x, y]], []) := by
  subst hm
  have : belowB 0 (.tup [x, y]) = true := by simp [belowB, belowL, hx, hy]
  unfold finL
  exact finV_two hx hy H

/-- Is a word an instruction of a kind? -/
def asB (op w : Int) : Bool := rightB (asF op w) && decide (wordF (asF op w) = w)
theorem as_spec (G : Globs) (k : Nat) (op w : Int) (hop : 1 ≤ op ∧ op ≤ 24) (h0 : 0 ≤ w) (h1 : w < 4294967296) : isa_as.f G (k + 6) [I6 op, W32 w] [] = some (.tup [(asF op w).v, .bool (asB op w)], []) := by
  rw [isa_as.step]
  unfold isa_as.c
  have r1 : ∀ H, pureCall (isa_of.f G (k + 5)) [I6 op] H = _ := fun H => pureCall_of (H := H) (of_spec G (k + 1) op) rfl rfl
  have r2 : ∀ H, pureCall (isa_extras.f G (k + 5)) [I6 op, W32 w] H = _ := fun H => pureCall_of (H := H) (extras_spec G (k + 3) op w hop h0 h1) rfl rfl
  have f1 : ∀ H, pureCall (isa_field.f G (k + 5)) [W32 w, .int .i64 0, .int .i64 5] H = some (I6 (w / 1 % 32), H) := fun H => pureCall_of (H := H) (field_spec G (k + 4) w h0 h1 0 rfl (by decide) rfl 5 rfl (by decide) rfl) rfl rfl
  have f2 : ∀ H, pureCall (isa_field.f G (k + 5)) [W32 w, .int .i64 5, .int .i64 5] H = some (I6 (w / 32 % 32), H) := fun H => pureCall_of (H := H) (field_spec G (k + 4) w h0 h1 5 rfl (by decide) rfl 5 rfl (by decide) rfl) rfl rfl
  have f3 : ∀ H, pureCall (isa_field.f G (k + 5)) [W32 w, .int .i64 16, .int .i64 5] H = some (I6 (w / 65536 % 32), H) := fun H => pureCall_of (H := H) (field_spec G (k + 4) w h0 h1 16 rfl (by decide) rfl 5 rfl (by decide) rfl) rfl rfl
  rw [Int.ediv_one] at f1
  have r3 : ∀ H, pureCall (isa_Word.f G (k + 5)) [(asF op w).v] H = _ := fun H => pureCall_of (H := H) (word_spec G k (asF op w)) rfl rfl
  have r4 : rightB (asF op w) = true → wordR (asF op w) = wordF (asF op w) := fun h => by unfold wordR; rw [if_pos h]
  unfold asB
  generalize wordR (asF op w) = zr at *
  generalize wordF (asF op w) = zf at *
  generalize rightB (asF op w) = b at *
  unfold asF at *
  generalize formF op = F at *
  obtain ⟨nm, w0, fd, fn, fm, fa, fb⟩ := F
  generalize isOp op = go at *
  generalize exA op w = xa at *
  generalize exI op w = xi at *
  unfold MI.v Form.v at *
  simp only at *
  generalize w % 32 = y1 at *
  generalize w / 32 % 32 = y2 at *
  generalize w / 65536 % 32 = y3 at *
  have key : ∀ c : Bool, b = c → b = (b && decide (zf = w)) ∨ zf ≠ w := fun _ _ => by
    by_cases h : zf = w
    · left; rw [decide_eq_true h, Bool.and_true]
    · exact .inr h
  refine e_in ?_
  cases fd <;> cases fn <;> cases fm
  all_goals (
    simp only [if_true, if_false, Bool.false_eq_true, ↓reduceIte] at r3 ⊢
    cases b
    · repeat first
        | (with_reducible first | refine eT ?_ | refine eN ?_ | refine eS ?_ | refine eXn ?_ | refine eXr ?_ | refine eX ?_ | refine eI ?_ | refine eK ?_ | refine eV0 ?_ | refine eGr0 ?_ | refine eGtt ?_ | refine eGff ?_ | refine eGtf ?_ | refine eGft ?_ | refine eGno ?_)
        | ((with_reducible apply eCn); (simp only [nth_zero, nth_succ]; first | done | (with_reducible exact rfl)))
        | ((with_reducible apply eJ); (rfl))
        | ((with_reducible apply eGr1); (first | rfl | (simp only [nth_zero, nth_succ]; rfl)))
        | ((with_reducible apply eB); (first | (with_reducible exact rfl) | (simp (disch := omega) only [qf, r1, r2, r3, f1, f2, f3]; first | done | (with_reducible exact rfl) | (with_reducible exact ⟨rfl, rfl⟩)) | (simp (disch := omega) only [qa, putC, AV.cells, storable, buildSt, fillA, buildRo, buildOwn, fillE, Nat.reduceLeDiff, Nat.reduceLT, Nat.reduceAdd, ↓reduceIte, r1, r2, r3, f1, f2, f3]; first | done | (with_reducible exact rfl) | (with_reducible exact ⟨rfl, rfl⟩))))
        | ((with_reducible apply eR); (simp only [nth_zero, nth_succ]; (with_reducible exact rfl)))
      exact oF (finL_two rfl rfl rfl)
    · have r4 := r4 rfl
      subst r4
      by_cases hz : zr = w
      · repeat first
          | (with_reducible first | refine eT ?_ | refine eN ?_ | refine eS ?_ | refine eXn ?_ | refine eXr ?_ | refine eX ?_ | refine eI ?_ | refine eK ?_ | refine eV0 ?_ | refine eGr0 ?_ | refine eGtt ?_ | refine eGff ?_ | refine eGtf ?_ | refine eGft ?_ | refine eGno ?_)
          | ((with_reducible apply eCn); (simp only [nth_zero, nth_succ]; first | done | (with_reducible exact rfl)))
          | ((with_reducible apply eJ); (rfl))
          | ((with_reducible apply eGr1); (first | rfl | (simp only [nth_zero, nth_succ]; rfl)))
          | ((with_reducible apply eB); (first | (with_reducible exact rfl) | (simp (disch := omega) only [qf, r1, r2, r3, f1, f2, f3]; first | done | (with_reducible exact rfl) | (with_reducible exact ⟨rfl, rfl⟩)) | (simp (disch := omega) only [qa, putC, AV.cells, storable, buildSt, fillA, buildRo, buildOwn, fillE, Nat.reduceLeDiff, Nat.reduceLT, Nat.reduceAdd, ↓reduceIte, r1, r2, r3, f1, f2, f3]; first | done | (with_reducible exact rfl) | (with_reducible exact ⟨rfl, rfl⟩))))
          | ((with_reducible apply eR); (simp only [nth_zero, nth_succ]; (with_reducible exact rfl)))
        rw [decide_eq_true hz]
        exact oF (finL_two rfl rfl rfl)
      · repeat first
          | (with_reducible first | refine eT ?_ | refine eN ?_ | refine eS ?_ | refine eXn ?_ | refine eXr ?_ | refine eX ?_ | refine eI ?_ | refine eK ?_ | refine eV0 ?_ | refine eGr0 ?_ | refine eGtt ?_ | refine eGff ?_ | refine eGtf ?_ | refine eGft ?_ | refine eGno ?_)
          | ((with_reducible apply eCn); (simp only [nth_zero, nth_succ]; first | done | (with_reducible exact rfl)))
          | ((with_reducible apply eJ); (rfl))
          | ((with_reducible apply eGr1); (first | rfl | (simp only [nth_zero, nth_succ]; rfl)))
          | ((with_reducible apply eB); (first | (with_reducible exact rfl) | (simp (disch := omega) only [qf, r1, r2, r3, f1, f2, f3]; first | done | (with_reducible exact rfl) | (with_reducible exact ⟨rfl, rfl⟩)) | (simp (disch := omega) only [qa, putC, AV.cells, storable, buildSt, fillA, buildRo, buildOwn, fillE, Nat.reduceLeDiff, Nat.reduceLT, Nat.reduceAdd, ↓reduceIte, r1, r2, r3, f1, f2, f3]; first | done | (with_reducible exact rfl) | (with_reducible exact ⟨rfl, rfl⟩))))
          | ((with_reducible apply eR); (simp only [nth_zero, nth_succ]; (with_reducible exact rfl)))
        rw [decide_eq_false hz]
        exact oF (finL_two rfl rfl rfl))
end Go.Proofs.YtdfglgnflldkpaaDoor.Mir
