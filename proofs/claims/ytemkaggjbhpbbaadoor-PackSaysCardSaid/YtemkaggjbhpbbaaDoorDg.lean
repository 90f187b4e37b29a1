/- Numbers by their digits: plain Lean. -/
namespace Go.Proofs.YtemkaggjbhpbbaaDoor.Mir

/-- The first digits of a number, the least first. -/
def digs (b : Nat) : Nat → Nat → List Nat
  | 0, _ => []
  | k + 1, N => N % b :: digs b k (N / b)
/-- The number that digits are. -/
def val (b : Nat) : List Nat → Nat
  | [] => 0
  | x :: xs => x + b * val b xs

theorem digs_length (b : Nat) : ∀ k N, (digs b k N).length = k
  | 0, _ => rfl
  | k + 1, N => by simp [digs, digs_length b k]

theorem digs_get (b : Nat) : ∀ k N i, i < k → (digs b k N)[i]? = some (N / b ^ i % b)
  | 0, _, i, h => by omega
  | k + 1, N, 0, _ => by simp [digs]
  | k + 1, N, i + 1, h => by
    simp only [digs, List.getElem?_cons_succ]
    rw [digs_get b k _ i (by omega), Nat.div_div_eq_div_mul, Nat.pow_succ, Nat.mul_comm]

theorem digs_add (b : Nat) : ∀ j k N, digs b (j + k) N = digs b j N ++ digs b k (N / b ^ j)
  | 0, k, N => by simp [digs]
  | j + 1, k, N => by
    rw [show j + 1 + k = (j + k) + 1 by omega]
    simp only [digs, List.cons_append, digs_add b j k]
    rw [Nat.div_div_eq_div_mul, Nat.pow_succ, Nat.mul_comm b]

theorem digs_succ (b k N : Nat) : digs b (k + 1) N = digs b k N ++ [N / b ^ k % b] := by
  rw [digs_add]; simp [digs]

theorem digs_lt (b : Nat) (hb : 0 < b) : ∀ k N, ∀ x ∈ digs b k N, x < b
  | 0, _ => by simp [digs]
  | k + 1, N => by
    intro x hx
    simp only [digs, List.mem_cons] at hx
    rcases hx with rfl | hx
    · exact Nat.mod_lt _ hb
    · exact digs_lt b hb k _ x hx

theorem val_digs (b : Nat) : ∀ k N, val b (digs b k N) = N % b ^ k
  | 0, N => by simp [digs, val, Nat.mod_one]
  | k + 1, N => by
    simp only [digs, val, val_digs b k]
    rw [Nat.pow_succ, Nat.mul_comm (b ^ k), Nat.mod_mul]

theorem val_lt (b : Nat) : ∀ xs : List Nat, (∀ x ∈ xs, x < b) → val b xs < b ^ xs.length
  | [], _ => by simp [val]
  | x :: xs, h => by
    have h1 := val_lt b xs (fun y hy => h y (List.mem_cons_of_mem _ hy))
    have h2 := h x (List.mem_cons_self ..)
    simp only [val, List.length_cons, Nat.pow_succ]
    have : b * (val b xs + 1) ≤ b * b ^ xs.length := Nat.mul_le_mul_left b h1
    rw [Nat.mul_comm (b ^ xs.length)]
    rw [Nat.mul_add] at this
    omega

theorem digs_val (b : Nat) : ∀ xs : List Nat, (∀ x ∈ xs, x < b) → digs b xs.length (val b xs) = xs
  | [], _ => rfl
  | x :: xs, h => by
    have h2 := h x (List.mem_cons_self ..)
    have h1 := digs_val b xs (fun y hy => h y (List.mem_cons_of_mem _ hy))
    have hb : 0 < b := by omega
    simp only [val, List.length_cons, digs]
    rw [Nat.add_mul_mod_self_left, Nat.mod_eq_of_lt h2, Nat.add_mul_div_left _ _ hb, Nat.div_eq_of_lt h2, Nat.zero_add, h1]

theorem val_append (b : Nat) : ∀ xs ys : List Nat, val b (xs ++ ys) = val b xs + b ^ xs.length * val b ys
  | [], ys => by simp [val]
  | x :: xs, ys => by
    simp only [List.cons_append, val, val_append b xs ys, List.length_cons, Nat.pow_succ]
    rw [Nat.mul_add, ← Nat.mul_assoc, Nat.mul_comm b (b ^ xs.length)]
    omega

theorem val_snoc (b : Nat) (xs : List Nat) (y : Nat) : val b (xs ++ [y]) = val b xs + b ^ xs.length * y := by
  rw [val_append]; simp [val]

theorem digs_add_mul (b : Nat) (hb : 0 < b) : ∀ k N m, digs b k (N + b ^ k * m) = digs b k N
  | 0, _, _ => rfl
  | k + 1, N, m => by
    have e : N + b ^ (k + 1) * m = N + b * (b ^ k * m) := by rw [Nat.pow_succ, Nat.mul_comm (b ^ k) b, Nat.mul_assoc]
    simp only [digs]
    rw [e, Nat.add_mul_mod_self_left, Nat.add_mul_div_left _ _ hb, digs_add_mul b hb k]

theorem digs_mod (b : Nat) (hb : 0 < b) (k N : Nat) : digs b k (N % b ^ k) = digs b k N := by
  have h : N % b ^ k + b ^ k * (N / b ^ k) = N := Nat.mod_add_div N _
  have := digs_add_mul b hb k (N % b ^ k) (N / b ^ k)
  rw [h] at this
  exact this.symm

/-- Digits of d bits as digits of 8 bits, and back. -/
theorem digs_back (d n m : Nat) (h : d * n = 8 * m) (xs : List Nat) (hl : xs.length = n) (hx : ∀ x ∈ xs, x < 2 ^ d) :
    digs (2 ^ d) n (val 256 (digs 256 m (val (2 ^ d) xs))) = xs := by
  have e : (256 : Nat) ^ m = (2 ^ d) ^ n := by
    rw [show (256 : Nat) = 2 ^ 8 from rfl, ← Nat.pow_mul, ← Nat.pow_mul, h]
  rw [val_digs, e, digs_mod _ (Nat.two_pow_pos d), ← hl, digs_val _ _ hx]

theorem digs_back' (d n m : Nat) (h : d * n = 8 * m) (xs : List Nat) (hl : xs.length = m) (hx : ∀ x ∈ xs, x < 256) :
    digs 256 m (val (2 ^ d) (digs (2 ^ d) n (val 256 xs))) = xs := by
  have e : (2 ^ d) ^ n = (256 : Nat) ^ m := by
    rw [show (256 : Nat) = 2 ^ 8 from rfl, ← Nat.pow_mul, ← Nat.pow_mul, h]
  rw [val_digs, e, digs_mod _ (by decide), ← hl, digs_val _ _ hx]

/-- One more digit of d bits, read as digits of w bits: what is emitted, what stays. -/
theorem digs_next (w B d len V x : Nat) (hw : 0 < w) (hB : B = 2 ^ w) (hx : x < 2 ^ d) (hV : V < 2 ^ (d * len)) :
    d * (len + 1) / w = d * len / w + (d * len % w + d) / w ∧ d * (len + 1) % w = (d * len % w + d) % w ∧ V / B ^ (d * len / w) < 2 ^ (d * len % w) ∧
      (V + 2 ^ (d * len) * x) / B ^ (d * len / w) = V / B ^ (d * len / w) + x * 2 ^ (d * len % w) ∧
      V / B ^ (d * len / w) + x * 2 ^ (d * len % w) < 2 ^ (d * len % w + d) ∧
      digs B (d * (len + 1) / w) (V + 2 ^ (d * len) * x) = digs B (d * len / w) V ++ digs B ((d * len % w + d) / w) (V / B ^ (d * len / w) + x * 2 ^ (d * len % w)) ∧
      (V + 2 ^ (d * len) * x) / B ^ (d * (len + 1) / w) = (V / B ^ (d * len / w) + x * 2 ^ (d * len % w)) / B ^ ((d * len % w + d) / w) := by
  have hd : d * (len + 1) = d * len + d := by rw [Nat.mul_add, Nat.mul_one]
  rw [hd]
  generalize hs' : d * len = s at *
  have hs : w * (s / w) + s % w = s := Nat.div_add_mod s w
  generalize hL : s / w = L at *
  generalize hn : s % w = n at *
  have hBpos : 0 < B := by rw [hB]; exact Nat.two_pow_pos w
  have e1 : s + d = (n + d) + w * L := by omega
  have h1 : (s + d) / w = L + (n + d) / w := by rw [e1, Nat.add_mul_div_left _ _ hw, Nat.add_comm]
  have h2 : (s + d) % w = (n + d) % w := by rw [e1, Nat.add_mul_mod_self_left]
  have eB : B ^ L = 2 ^ (w * L) := by rw [hB, ← Nat.pow_mul]
  have hp : 2 ^ s = B ^ L * 2 ^ n := by rw [← hs, Nat.pow_add, eB]
  have h3 : V / B ^ L < 2 ^ n := by
    rw [Nat.div_lt_iff_lt_mul (Nat.pow_pos hBpos), Nat.mul_comm, ← hp]; exact hV
  have h4 : (V + 2 ^ s * x) / B ^ L = V / B ^ L + x * 2 ^ n := by
    rw [hp, Nat.mul_assoc, Nat.add_mul_div_left _ _ (Nat.pow_pos hBpos), Nat.mul_comm (2 ^ n)]
  have h5 : V / B ^ L + x * 2 ^ n < 2 ^ (n + d) := by
    have : (x + 1) * 2 ^ n ≤ 2 ^ d * 2 ^ n := Nat.mul_le_mul_right _ hx
    rw [Nat.pow_add, Nat.mul_comm (2 ^ n)]
    rw [Nat.add_mul, Nat.one_mul] at this
    omega
  have h6 : digs B L (V + 2 ^ s * x) = digs B L V := by
    rw [hp, Nat.mul_assoc, digs_add_mul _ hBpos]
  refine ⟨h1, h2, h3, h4, h5, ?_, ?_⟩
  · rw [h1, digs_add, h6, h4]
  · rw [h1, Nat.pow_add, ← Nat.div_div_eq_div_mul, h4]

/-- Emitting digits while there are bits enough: what a loop does. -/
def emit (w B : Nat) : Nat → Nat → Nat → List Nat → List Nat × Nat × Nat
  | 0, n, r, out => (out, r, n)
  | k + 1, n, r, out => if w ≤ n then emit w B k (n - w) (r / B) (out ++ [r % B]) else (out, r, n)

theorem emit_eq (w B : Nat) (hw : 0 < w) : ∀ k n r out, n / w ≤ k → emit w B k n r out = (out ++ digs B (n / w) r, r / B ^ (n / w), n % w)
  | 0, n, r, out, h => by
    have h0 : n / w = 0 := Nat.le_zero.1 h
    have : n < w := by
      rcases Nat.div_eq_zero_iff.1 h0 with h | h <;> omega
    simp [emit, h0, digs, Nat.mod_eq_of_lt this]
  | k + 1, n, r, out, h => by
    unfold emit
    by_cases hn : w ≤ n
    · have e : n / w = (n - w) / w + 1 := by rw [Nat.div_eq_sub_div hw hn]
      have e2 : n % w = (n - w) % w := Nat.mod_eq_sub_mod hn
      have hk : (n - w) / w ≤ k := Nat.le_of_succ_le_succ (by rw [e] at h; exact h)
      rw [if_pos hn, emit_eq w B hw k _ _ _ hk, e, e2]
      simp [digs, Nat.pow_succ, Nat.div_div_eq_div_mul, Nat.mul_comm]
    · have hl : n < w := by omega
      rw [if_neg hn, Nat.div_eq_of_lt hl, Nat.mod_eq_of_lt hl]; simp [digs]

theorem or_shift (a x n : Nat) (h : a < 2 ^ n) : a ||| x * 2 ^ n = a + x * 2 ^ n := by
  rw [Nat.or_comm, ← Nat.shiftLeft_eq, ← Nat.shiftLeft_add_eq_or_of_lt h, Nat.add_comm]
end Go.Proofs.YtemkaggjbhpbbaaDoor.Mir
