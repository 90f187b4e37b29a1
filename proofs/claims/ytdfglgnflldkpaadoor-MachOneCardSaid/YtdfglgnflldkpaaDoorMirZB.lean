/- Mirror, part ZB: what is handed back, what is handed over: lists in blocks. -/
import Derived.Test.YtdfglgnflldkpaaDoorMirZA
namespace Go.Proofs.YtdfglgnflldkpaaDoor.Mir
open Go
set_option linter.unusedVariables false
set_option linter.unusedSimpArgs false

theorem mapO_low {f : AV → Option AV} : ∀ {xs : List AV}, (∀ x ∈ xs, f x = some x) → mapO f xs = some xs
  | [], _ => rfl
  | x :: xs, h => by
    have h2 := mapO_low (f := f) (xs := xs) (fun y hy => h y (List.mem_cons_of_mem _ hy))
    simp only [mapO, h x (by simp), h2]

theorem belowL_mem {n : Nat} : ∀ {xs : List AV} (_ : belowL n xs = true) (x : AV) (_ : x ∈ xs), belowB n x = true
  | [], _, _, hx => by cases hx
  | y :: xs, h, x, hx => by
    simp only [belowL, Bool.and_eq_true] at h
    rcases List.mem_cons.1 hx with rfl | hx
    · exact h.1
    · exact belowL_mem h.2 x hx

mutual
theorem belowB_mono {n m : Nat} (h : n ≤ m) : ∀ {x : AV}, belowB n x = true → belowB m x = true
  | .ptr .., hx => by simp [belowB] at hx ⊢; omega
  | .sl .., hx => by simp [belowB] at hx ⊢; omega
  | .fn _ caps, hx => by simp only [belowB] at hx ⊢; exact belowL_mono h hx
  | .iface _ v, hx => by simp only [belowB] at hx ⊢; exact belowB_mono h hx
  | .agg cs, hx => by simp only [belowB] at hx ⊢; exact belowL_mono h hx
  | .tup vs, hx => by simp only [belowB] at hx ⊢; exact belowL_mono h hx
  | .ro _ xs, hx => by simp only [belowB] at hx ⊢; exact belowL_mono h hx
  | .rp _ x _, hx => by simp only [belowB] at hx ⊢; exact belowB_mono h hx
  | .undef, _ => rfl
  | .bool _, _ => rfl
  | .int .., _ => rfl
  | .str _, _ => rfl
  | .nilp, _ => rfl
  | .nilf, _ => rfl
  | .nili, _ => rfl
  | .gl _, _ => rfl
  | .gp _, _ => rfl
  | .nils, _ => rfl
  | .anyb, _ => rfl
theorem belowL_mono {n m : Nat} (h : n ≤ m) : ∀ {xs : List AV}, belowL n xs = true → belowL m xs = true
  | [], _ => rfl
  | x :: xs, hx => by
    simp only [belowL, Bool.and_eq_true] at hx ⊢
    exact ⟨belowB_mono h hx.1, belowL_mono h hx.2⟩
end

theorem elemF_low {H : AHeap} {n d : Nat} {x : AV} (h : belowB n x = true) : elemF (frz H n d) x = some x := by
  cases x with
  | agg cs =>
    simp only [belowB] at h
    have : mapO (frz H n d) cs = some cs := mapO_low fun y hy => frz_low (belowL_mem h y hy) d
    simp only [elemF, this]
  | _ => exact frz_low h d

/-- A slice that is handed back. -/
theorem frz_sl {H : AHeap} {b n0 d n sz ty : Nat} {xs : List AV} (hb : H[b]? = some ⟨ty, sz, xs⟩) (hn : n0 ≤ b) (hl : xs.length = n) (hs : allSz sz xs = true) (hx : belowL n0 xs = true) :
    frz H n0 (d + 1) (.sl b n 0 n sz) = some (.ro false xs) := by
  have h1 : belowB n0 (.sl b n 0 n sz) = false := by simp [belowB]; omega
  have h2 : mapO (elemF (frz H n0 d)) xs = some xs := mapO_low fun x h => elemF_low (belowL_mem hx x h)
  have h3 : elemsOf (.sl b n 0 n sz) H = some xs := by
    simp only [elemsOf, hb, hl, if_true, List.drop_zero]
    rw [List.take_of_length_le (by omega)]
  unfold frz
  simp only [h1, h3, hs, h2]

theorem allSz_map {α : Type} (s : Nat) (e : α → AV) (h : ∀ a, (e a).cells.length = s) (xs : List α) : allSz s (xs.map e) = true := by
  unfold allSz
  simp [List.all_eq_true, h]
/-- An own slice that is handed to a call that keeps nothing. -/
theorem snap_own {H : AHeap} {b n sz ty : Nat} {xs : List AV} (hb : H[b]? = some ⟨ty, sz, xs⟩) (hl : xs.length = n) (hs : allSz sz xs = true) (hx : plainL xs = true) :
    snap H (.sl b n 0 n sz) = some (.ro true xs) := by
  have h3 : elemsOf (.sl b n 0 n sz) H = some xs := by
    simp only [elemsOf, hb, hl, if_true, List.drop_zero]
    rw [List.take_of_length_le (by omega)]
  unfold snap snap1
  simp only [h3, hs, hx, Bool.and_self, if_true]

theorem snap1_own {H : AHeap} {b n sz ty : Nat} {xs : List AV} (hb : H[b]? = some ⟨ty, sz, xs⟩) (hl : xs.length = n) (hs : allSz sz xs = true) (hx : plainL xs = true) :
    snap1 H (.sl b n 0 n sz) = some (.ro true xs) := by
  have h3 : elemsOf (.sl b n 0 n sz) H = some xs := by
    simp only [elemsOf, hb, hl, if_true, List.drop_zero]
    rw [List.take_of_length_le (by omega)]
  unfold snap1
  simp only [h3, hs, hx, Bool.and_self, if_true]

theorem snapL_c {H : AHeap} {x y : AV} {xs ys : List AV} (h : snap H x = some y) (hs : snapL H xs = some ys) : snapL H (x :: xs) = some (y :: ys) := by
  simp only [snapL, h, hs]
theorem snapL_n {H : AHeap} : snapL H [] = some [] := rfl

theorem pureCall_at {g : Den} {args bs : List AV} {r : AV} {H : AHeap} (ha : snapL H args = some bs) (hg : g bs [] = some (r, [])) (hr : cleanB r = true) : pureCall g args H = some (r, H) := by
  simp only [pureCall, ha, hg, hr, if_true]

theorem heapCall_of {g : Den} {args : List AV} {r : AV} {H H' : AHeap} (h : g args H = some (r, H')) (hl : H.length ≤ H'.length) : heapCall g args H = some (r, H') := by
  simp only [heapCall, h, hl, if_true]

/-- The end of a function whose result is known, with what lies below. -/
theorem finV_at {x y : AV} {n : Nat} {H : AHeap} (h : frz H n 6 x = some y) (hb : heapBelow n (H.take n) = true) : finV [x] n H = some (.ret, [y], H.take n) := by
  have hc : cutH n [] H = some (H.take n) := by unfold cutH; simp only [belowL, hb, Bool.true_and]
  unfold finV packR
  simp only [h, hc]

theorem frz_agg {H : AHeap} {n d : Nat} {cs zs : List AV} (hb : belowL n cs = false) (h : mapO (frz H n d) cs = some zs) : frz H n (d + 1) (.agg cs) = some (.agg zs) := by
  unfold frz
  simp only [belowB, hb, h]
theorem frz_tup {H : AHeap} {n d : Nat} {cs zs : List AV} (hb : belowL n cs = false) (h : mapO (frz H n d) cs = some zs) : frz H n (d + 1) (.tup cs) = some (.tup zs) := by
  unfold frz
  simp only [belowB, hb, h]
theorem mapO_cons {f : AV → Option AV} {x y : AV} {xs ys : List AV} (h : f x = some y) (hs : mapO f xs = some ys) : mapO f (x :: xs) = some (y :: ys) := by
  simp only [mapO, h, hs]
theorem mapO_nil {f : AV → Option AV} : mapO f [] = some [] := rfl

/-! Both ways of a truth that nobody knows. -/
theorem eqEx_refl (e : Ex) : eqEx e e = true := by cases e <;> simp [eqEx]
theorem bothA_same {x y : Option Outc} {e : Ex} {xs : List AV} {H : AHeap} (hx : x = some (e, xs, H)) (hy : y = some (e, xs, H)) (h1 : eqAL xs xs = true) (h2 : eqHp H H = true) : bothA x y = some (e, xs, H) := by
  subst hx hy
  unfold bothA
  simp only [eqEx_refl, h1, h2, Bool.and_self]
theorem eAny {γ : Type} {f : Option Outc → Option γ} {ks : List KK} {r : Option γ} {x y : Option Outc} {e : Ex} {xs : List AV} {H : AHeap} (hx : x = some (e, xs, H)) (hy : y = some (e, xs, H)) (h1 : eqAL xs xs = true) (h2 : eqHp H H = true)
    (h : E f ks (some (e, xs, H)) r) : E f ks (condA .anyb x y) r := by
  have : condA .anyb x y = some (e, xs, H) := bothA_same hx hy h1 h2
  rw [this]; exact h
theorem eqAL_map {α : Type} (e : α → AV) (h : ∀ a, eqAV (e a) (e a) = true) : ∀ xs : List α, eqAL (xs.map e) (xs.map e) = true
  | [] => by simp [eqAL]
  | x :: xs => by simp [eqAL, h x, eqAL_map e h xs]
theorem eqHp_app {A : AHeap} : ∀ {H : AHeap}, eqHp H H = true → eqHp A A = true → eqHp (H ++ A) (H ++ A) = true
  | [], _, h => h
  | x :: H, h1, h2 => by
    simp only [eqHp, Bool.and_eq_true] at h1
    simp only [List.cons_append, eqHp, Bool.and_eq_true]
    exact ⟨h1.1, eqHp_app h1.2 h2⟩

end Go.Proofs.YtdfglgnflldkpaaDoor.Mir
