/- Part 8 of the proof: what these functions do. -/
import Derived.Test.YtlkgkfgkiidhdaaDoorVj7
import Derived.KernelRfl
namespace Go.Proofs.YtlkgkfgkiidhdaaDoor.Mir
open Go
set_option linter.unusedSimpArgs false
set_option linter.unusedVariables false
set_option maxHeartbeats 8000000
set_option maxRecDepth 20000
structure WI.Good (i : WI) (R n : Nat) : Prop where
 ok2 : i.Ok2 R n
 mem : i.op = 15 ∨ i.op = 16 → 0 ≤ i.k ∧ i.k ≤ 65535
 halt : i.op = 20 → 0 ≤ i.k ∧ i.k ≤ 2
theorem tJ {i : WI} {R n : Int} (h : fK i R n = none) (hR : 0 ≤ R) : i.Good R.toNat n.toNat := by
 refine ⟨aCw h hR, fun ho => ?_, fun ho => ?_⟩
 ·unfold fK at h
  by_cases h0 : (eH i.op).isSome = false
  ·rw [if_pos h0] at h; cases h
  rw [if_neg h0] at h
  by_cases h1 : jL (dC i.op) i R = true
  ·rw [if_pos h1] at h; cases h
  rw [if_neg h1] at h
  by_cases h2 : jR (dC i.op) i = true
  ·rw [if_pos h2] at h; cases h
  rw [if_neg h2, if_neg (by omega), if_neg (by omega), if_pos ho] at h
  by_cases h3 : i.k < 0 ∨ 65535 < i.k
  ·rw [if_pos h3] at h; cases h
  ·omega
 ·unfold fK at h
  by_cases h0 : (eH i.op).isSome = false
  ·rw [if_pos h0] at h; cases h
  rw [if_neg h0] at h
  by_cases h1 : jL (dC i.op) i R = true
  ·rw [if_pos h1] at h; cases h
  rw [if_neg h1] at h
  by_cases h2 : jR (dC i.op) i = true
  ·rw [if_pos h2] at h; cases h
  rw [if_neg h2, if_neg (by omega), if_pos ho] at h
  by_cases h3 : i.k < 0 ∨ 2 < i.k
  ·rw [if_pos h3] at h; cases h
  ·omega
theorem yC {R n : Int} (hR : 0 ≤ R) : ∀ {l : List WI} {j : Nat}, nN R n l j = .ok → ∀ i ∈ l, i.Good R.toNat n.toNat
 | [], _, _, i, hi => by cases hi
 | x :: l, j, h, i, hi => by
  unfold nN at h
  split at h
  ·cases h
  ·rename_i ho
   rcases List.mem_cons.1 hi with rfl | hi
   ·exact tJ ho hR
   ·exact yC hR h i hi
theorem uM {cs : List WI} {R M : Int} (h : iL cs R M = .ok) : ∀ i ∈ cs, i.Good R.toNat cs.length := by
 have hb := (tP h).1
 unfold iL at h
 rw [if_neg (by omega), if_neg (by omega)] at h
 have := yC hb.1 h
 simpa using this
theorem aKQ {op : Int} (h : 1 ≤ op ∧ op ≤ 15) : (dC op).d = true := by
 have : op = 1 ∨ op = 2 ∨ op = 3 ∨ op = 4 ∨ op = 5 ∨ op = 6 ∨ op = 7 ∨ op = 8 ∨ op = 9 ∨ op = 10 ∨ op = 11 ∨ op = 12 ∨ op = 13 ∨ op = 14 ∨ op = 15 := by omega
 rcases this with rfl | rfl | rfl | rfl | rfl | rfl | rfl | rfl | rfl | rfl | rfl | rfl | rfl | rfl | rfl <;> rfl
theorem aIh {op : Int} (h : 1 ≤ op ∧ op ≤ 20) : ((dC op).a = true → op ≠ 17 ∧ op ≠ 20) ∧ ((dC op).b = true → op ≤ 16) ∧ ((dC op).c = true → op ≤ 16) := by
 rcases aFr h with rfl | rfl | rfl | rfl | rfl | rfl | rfl | rfl | rfl | rfl | rfl | rfl | rfl | rfl | rfl | rfl | rfl | rfl | rfl | rfl <;> simp [dC, eH]
theorem sZ {i : WI} {R n : Nat} (h : i.Good R n) : ((dC i.op).a = true → 0 ≤ i.a ∧ i.a < R) ∧ ((dC i.op).b = true → 0 ≤ i.b ∧ i.b < R) ∧ ((dC i.op).c = true → 0 ≤ i.c ∧ i.c < R) := by
 obtain ⟨h1, h2, h3⟩ := aIh h.ok2.ok.op
 exact ⟨fun f => h.ok2.ok.a (h1 f).1 (h1 f).2, fun f => h.ok2.ok.b (h2 f), fun f => h.ok2.ok.c (h3 f)⟩
def LY.lkA (L : LY) (ws : List WI) (x : Int) : List (Int × Int) :=
 if (ws.getD x.toNat default).op = 15 ∨ (ws.getD x.toNat default).op = 16 then []
 else L.rdsL (L.at_ ws x.toNat) (ws.getD x.toNat default) ++ ([(1, ((L.at_ ws x.toNat + (L.rds (ws.getD x.toNat default)).length : Nat) : Int))] ++ (if (dC (ws.getD x.toNat default).op).d = true then L.rdL (L.at_ ws x.toNat + ((L.rds (ws.getD x.toNat default)).length + 1)) (ws.getD x.toNat default).d else []))
def LY.lkM (L : LY) (p : Nat) (i : WI) (x : Int) : List (Int × Int) :=
 L.adL p i ++ (if L.M ≤ u64 x then [(2, 1)] else [(2, 0)] ++ (if i.op = 15 then [(1, ((p + (L.adC i).length : Nat) : Int)), (3, x)] ++ L.rdL (p + ((L.adC i).length + 1)) i.d else L.rdL (p + (L.adC i).length) i.b ++ [(1, ((p + ((L.adC i).length + (L.rdC i.b 1).length) : Nat) : Int)), (3, x)]))
def LY.lkB (L : LY) (ws : List WI) (pc x : Int) : List (Int × Int) :=
 if (ws.getD pc.toNat default).op = 18 ∨ (ws.getD pc.toNat default).op = 19 then [(2, x)]
 else L.lkM (L.at_ ws pc.toNat) (ws.getD pc.toNat default) x
def LY.mlk (L : LY) (ws : List WI) : Int → List (Int × Int) → List (Int × Int)
 | _, [] => []
 | pc, (k, x) :: T => if k = 1 then L.lkA ws x ++ L.mlk ws x T else L.lkB ws pc x ++ L.mlk ws pc T
theorem aCq (L : LY) (ws : List WI) (pc x : Int) (T : List (Int × Int)) : L.mlk ws pc ((1, x) :: T) = L.lkA ws x ++ L.mlk ws x T := by
 show (if (1 : Int) = 1 then _ else _) = _
 rw [if_pos rfl]
theorem aJe (L : LY) (ws : List WI) (pc x k : Int) (hk : k ≠ 1) (T : List (Int × Int)) : L.mlk ws pc ((k, x) :: T) = L.lkB ws pc x ++ L.mlk ws pc T := by
 show (if k = 1 then _ else _) = _
 rw [if_neg hk]
def aDU (fuel : Int) (L : LY) (R S N : Nat) (ws : List WI) (s q s2 : MS) (b : Bool) : Prop :=
 ∃ (m : Nat) (q2 : MS) (Y X : List (Int × Int)), m ≤ 9 ∧ s2.leaks = s.leaks ++ Y ∧ q2.leaks = q.leaks ++ X ∧ (∀ pc T, L.mlk ws pc (Y ++ T) = X ++ L.mlk ws s.at_ T) ∧ q2.steps ≤ q.steps + 8 ∧ RelA L R S N s2.regs s2.mem q2.regs q2.mem ∧
  (b = true → kC (L.out ws) fuel q m q2 ∧ q2.at_ = L.at_ ws s2.at_) ∧ (b = false → aCZ (L.out ws) fuel q m q2 ∧ q2.code = s2.code)
section
variable {L : LY} {R S N : Nat} {sr sm qr qm : List Nat} {ws : List WI} {fuel : Int} {sa : Nat} {sc cd : Int} {slk lk : List (Int × Int)} {sst st : Nat} {i : WI}
theorem aAe (L : LY) (ws : List WI) {j : Nat} (hj : j < ws.length) (hi : ws.getD j default = i) : AtC (L.out ws) (L.place ws) (L.at_ ws j) (L.one i) := fun t x ht => by
 subst hi
 exact aKf L ws j hj ht
theorem aGz (hi : ws.getD sa default = i) (h : ¬ (i.op = 15 ∨ i.op = 16)) : L.lkA ws sa = L.rdsL (L.at_ ws sa) i ++ ([(1, ((L.at_ ws sa + (L.rds i).length : Nat) : Int))] ++ (if (dC i.op).d = true then L.rdL (L.at_ ws sa + ((L.rds i).length + 1)) i.d else [])) := by
 unfold LY.lkA
 rw [Int.toNat_natCast, hi, if_neg h]
theorem pE (L : LY) (h : ¬ (i.op = 15 ∨ i.op = 16)) : L.one i = L.rds i ++ ([L.ins i] ++ L.wrs i) := by
 unfold LY.one
 rw [if_neg (by omega), if_neg (by omega)]
theorem aFC (hL : L.Ok R S N) (h : RelA L R S N sr sm qr qm) (hj : sa < ws.length) (hi : ws.getD sa default = i) (hg : i.Good R ws.length) (ho : 1 ≤ i.op ∧ i.op ≤ 14) (hs : (st : Int) + 8 < fuel) :
  ∃ s2 b, MS.step (MS.tick ⟨sr, sa, sc, sm, slk, sst⟩) i = (s2, b) ∧ aDU fuel L R S N ws ⟨sr, sa, sc, sm, slk, sst⟩ ⟨qr, L.at_ ws sa, cd, qm, lk, st⟩ s2 b := by
 have hn : ¬ (i.op = 15 ∨ i.op = 16) := by omega
 have hC := aAe L ws hj hi
 have hlk := aGz (L := L) hi hn
 have hsu := aAf L ws sa hj
 rw [hi] at hsu
 rw [pE L hn] at hC hsu
 obtain ⟨ga, gb, gc⟩ := sZ hg
 have hd := hg.ok2.ok.d (by omega)
 have hfd := aKQ (op := i.op) ⟨by omega, by omega⟩
 have l7 := aEJ L i
 have l6 : (L.rds i).length ≤ 3 := by
  have h4 := lY L (dC i.op).a i.a 1
  have h5 := lY L (dC i.op).b i.b 2
  have h6 := lY L (dC i.op).c i.c 3
  unfold LY.rds; simp only [List.length_append]; omega
 obtain ⟨r2, g1, h1, va, vb, vc⟩ := aGh hL h ga gb gc hC.left (cd := cd) (lk := lk) (st := st) (fuel := fuel) (by omega)
 have hv := aEH (n := i.k) (a := jB sr i.a) (b := jB sr i.b) (c := jB sr i.c) ho hg.ok2.sh
 have hsame := aFD ho i.k va vb vc
 have a0 := hC.right.left.head (by show ¬ (i.op = 17 ∨ i.op = 18 ∨ i.op = 19); omega)
 have hstep := aHC (r := sr) (p := sa) (cd := sc) (mem := sm) (lk := slk) (st := sst) (d := i.d) (a := i.a) (b := i.b) (c := i.c) (k := i.k) ho hv
 have hx : iZ i.op i.k (jB sr i.a) (jB sr i.b) (jB sr i.c) = ((iZ i.op i.k (jB sr i.a) (jB sr i.b) (jB sr i.c)).1, true) := by
  rw [← hv]
 have s1 := qO (r := r2) (cd := cd) (mem := qm) (lk := lk ++ L.rdsL (L.at_ ws sa) i) (st := st + (L.rds i).length) (fuel := fuel) a0 ho (hsame.trans hx) (by push_cast; omega)
 generalize (iZ i.op i.k (jB sr i.a) (jB sr i.b) (jB sr i.c)).1 = x at *
 rw [if_pos hfd] at s1 hlk
 have hw := hC.right.right
 have ew : L.wrs i = L.wrC i.d := by unfold LY.wrs; rw [if_pos hfd]
 rw [ew] at hw l7 hsu
 obtain ⟨r3, m3, g3, h3⟩ := aJa hL h1 hd x hw (cd := cd) (lk := lk ++ L.rdsL (L.at_ ws sa) i ++ [(1, ((L.at_ ws sa + (L.rds i).length : Nat) : Int))]) (st := st + (L.rds i).length + 1) (fuel := fuel) (by push_cast; omega)
 have g := (g1.trans s1).trans g3
 refine ⟨_, _, hstep, _, _, [(1, (sa : Int))], L.lkA ws sa, ?_, rfl, ?_, fun pc T => aCq L ws pc sa T, ?_, h3, fun _ => ⟨g, ?_⟩, fun e => by cases e⟩
 ·omega
 ·rw [hlk]
  simp only [List.append_assoc, List.length_singleton, Nat.add_assoc]
 ·show st + (L.rds i).length + 1 + (L.wrC i.d).length ≤ st + 8
  omega
 ·show L.at_ ws sa + (L.rds i).length + 1 + (L.wrC i.d).length = L.at_ ws (sa + 1)
  rw [hsu]
  simp only [List.length_append, List.length_singleton]; omega
theorem aHG (hL : L.Ok R S N) (h : RelA L R S N sr sm qr qm) (hj : sa < ws.length) (hi : ws.getD sa default = i) (hg : i.Good R ws.length) (ho : 17 ≤ i.op ∧ i.op ≤ 20) (hs : (st : Int) + 8 < fuel) :
  ∃ s2 b, MS.step (MS.tick ⟨sr, sa, sc, sm, slk, sst⟩) i = (s2, b) ∧ aDU fuel L R S N ws ⟨sr, sa, sc, sm, slk, sst⟩ ⟨qr, L.at_ ws sa, cd, qm, lk, st⟩ s2 b := by
 have hn : ¬ (i.op = 15 ∨ i.op = 16) := by omega
 have hC := aAe L ws hj hi
 have hlk := aGz (L := L) hi hn
 have hsu := aAf L ws sa hj
 rw [hi] at hsu
 rw [pE L hn] at hC hsu
 obtain ⟨ga, gb, gc⟩ := sZ hg
 have hfd : ¬ (dC i.op).d = true := by
  have : i.op = 17 ∨ i.op = 18 ∨ i.op = 19 ∨ i.op = 20 := by omega
  rcases this with e | e | e | e <;> rw [e] <;> decide
 have ew : L.wrs i = [] := by unfold LY.wrs; rw [if_neg hfd]
 rw [ew] at hsu
 rw [if_neg hfd] at hlk
 have l6 : (L.rds i).length ≤ 3 := by
  have h4 := lY L (dC i.op).a i.a 1
  have h5 := lY L (dC i.op).b i.b 2
  have h6 := lY L (dC i.op).c i.c 3
  unfold LY.rds; simp only [List.length_append]; omega
 obtain ⟨r2, g1, h1, va, vb, vc⟩ := aGh hL h ga gb gc hC.left (cd := cd) (lk := lk) (st := st) (fuel := fuel) (by omega)
 have a0 := hC.right.left 0 (L.ins i) rfl
 have hk := hg.ok2.ok.k
 have hsuc : L.at_ ws (sa + 1) = L.at_ ws sa + (L.rds i).length + 1 := by
  rw [hsu]; simp only [List.length_append, List.length_singleton, List.length_nil]; omega
 clear hC hsu
 obtain ⟨op, d, a, b, c, k⟩ := i
 simp only at ho hk
 by_cases h20 : op = 20
 ·subst h20
  have e : jK (L.place ws) (L.out ws).length (L.ins ⟨20, d, a, b, c, k⟩) = ⟨20, d, a, b, c, k⟩ := rfl
  rw [e] at a0
  have s1 := aFR (r := r2) (cd := cd) (mem := qm) (lk := lk ++ L.rdsL (L.at_ ws sa) ⟨20, d, a, b, c, k⟩) (st := st + (L.rds ⟨20, d, a, b, c, k⟩).length) (fuel := fuel) a0 (by push_cast; omega)
  refine ⟨_, _, aHB, _, _, [(1, (sa : Int))], L.lkA ws sa, ?_, rfl, ?_, fun pc T => aCq L ws pc sa T, ?_, h1, (fun e => by cases e), fun _ => ⟨g1.ends s1, rfl⟩⟩
  ·omega
  ·rw [hlk]
   simp only [List.append_assoc, List.append_nil, Nat.add_zero]
  ·show st + (L.rds _).length + 1 ≤ st + 8
   omega
 have hk' := hk (by omega) (by omega)
 have ek : L.at_ ws k.toNat = (L.place ws).getD k.toNat 0 := (zA L ws _ (by omega)).symm
 have hbr : op = 17 ∨ op = 18 ∨ op = 19 := by omega
 have e : jK (L.place ws) (L.out ws).length (L.ins ⟨op, d, a, b, c, k⟩) = ⟨op, d, L.rR (dC op).a a 1, L.rR (dC op).b b 2, L.rR (dC op).c c 3, ((L.at_ ws k.toNat : Nat) : Int)⟩ := by
  unfold jK LY.ins
  simp only
  rw [if_pos hbr, if_neg (by omega), if_neg hfd, ek]
 rw [e] at a0
 by_cases h17 : op = 17
 ·subst h17
  have s1 := aKM (r := r2) (cd := cd) (mem := qm) (lk := lk ++ L.rdsL (L.at_ ws sa) ⟨17, d, a, b, c, k⟩) (st := st + (L.rds ⟨17, d, a, b, c, k⟩).length) (fuel := fuel) a0 (by push_cast; omega)
  rw [Int.toNat_natCast] at s1
  refine ⟨_, _, aJw, _, _, [(1, (sa : Int))], L.lkA ws sa, ?_, rfl, ?_, fun pc T => aCq L ws pc sa T, ?_, h1, fun _ => ⟨g1.trans s1, rfl⟩, fun e => by cases e⟩
  ·omega
  ·rw [hlk]
   simp only [List.append_assoc, List.append_nil, Nat.add_zero]
  ·show st + (L.rds _).length + 1 ≤ st + 8
   omega
 have h89 : op = 18 ∨ op = 19 := by omega
 have hfa : (dC op).a = true := by rcases h89 with e | e <;> rw [e] <;> rfl
 obtain ⟨g, hgd⟩ : ∃ g, (decide (jB sr a = 0) == decide (op = 18)) = g := ⟨_, rfl⟩
 have s1 := aIS (r := r2) (cd := cd) (mem := qm) (lk := lk ++ L.rdsL (L.at_ ws sa) ⟨op, d, a, b, c, k⟩) (st := st + (L.rds ⟨op, d, a, b, c, k⟩).length) (fuel := fuel) a0 h89 g (by rw [va hfa]; exact hgd) (by push_cast; omega)
 rw [Int.toNat_natCast] at s1
 refine ⟨_, _, aJx h89 g hgd, _, _, [(1, (sa : Int)), (2, if g = true then 1 else 0)], L.lkA ws sa ++ [(2, if g = true then 1 else 0)], ?_, by show _ ++ _ ++ _ = _; simp only [List.append_assoc, List.cons_append, List.nil_append], ?_, fun pc T => ?_, ?_, h1, fun _ => ⟨g1.trans s1, ?_⟩, fun e => by cases e⟩
 ·omega
 ·rw [hlk]
  simp only [List.append_assoc, List.append_nil, Nat.add_zero]
 ·rw [List.cons_append, aCq, List.singleton_append, aJe _ _ _ _ _ (by decide), List.append_assoc]
  congr 1
  unfold LY.lkB
  rw [Int.toNat_natCast, hi, if_pos h89]
 ·show st + (L.rds _).length + 1 ≤ st + 8
  omega
 ·cases g
  ·exact hsuc.symm
  ·rfl
theorem aFB (hL : L.Ok R S N) (h : RelA L R S N sr sm qr qm) (hj : sa < ws.length) (hi : ws.getD sa default = i) (hg : i.Good R ws.length) (ho : i.op = 15 ∨ i.op = 16) (hs : (st : Int) + 8 < fuel) :
  ∃ s2 b, MS.step (MS.tick ⟨sr, sa, sc, sm, slk, sst⟩) i = (s2, b) ∧ aDU fuel L R S N ws ⟨sr, sa, sc, sm, slk, sst⟩ ⟨qr, L.at_ ws sa, cd, qm, lk, st⟩ s2 b := by
 have hC := aAe L ws hj hi
 have hsu := aAf L ws sa hj
 rw [hi] at hsu
 have ha := hg.ok2.ok.a (by omega) (by omega)
 have hb := hg.ok2.ok.b (by omega)
 have hd := hg.ok2.ok.d (by omega)
 have hN := hL.n
 have hMN := hL.mn
 have lad := uY L i
 have lra := gX L i.a 1
 have lrb := gX L i.b 1
 have lwd := aBp L i.d
 have hml : ∀ pc x T, L.mlk ws pc ([(1, (sa : Int)), (3, x)] ++ T) = L.lkM (L.at_ ws sa) i x ++ L.mlk ws sa T := fun pc x T => by
  have eA : L.lkA ws sa = [] := by unfold LY.lkA; rw [Int.toNat_natCast, hi, if_pos ho]
  have eB : L.lkB ws sa x = L.lkM (L.at_ ws sa) i x := by unfold LY.lkB; rw [Int.toNat_natCast, hi, if_neg (by omega)]
  rw [List.cons_append, aCq, List.singleton_append, aJe _ _ _ _ _ (by decide), eA, eB]; rfl
 obtain ⟨y, hy⟩ : ∃ y, (jB sr i.a + u64 i.k) % 18446744073709551616 = y := ⟨_, rfl⟩
 have hyl : y < 18446744073709551616 := by rw [← hy]; exact Nat.mod_lt _ (by decide)
 have uy := aIB y hyl
 have hCa : AtC (L.out ws) (L.place ws) (L.at_ ws sa) (L.adC i) := by
  rcases ho with e | e
  ·unfold LY.one at hC; rw [if_pos e] at hC; exact hC.left
  ·unfold LY.one at hC; rw [if_neg (by omega), if_pos e] at hC; exact hC.left
 obtain ⟨g, hgd⟩ : ∃ g, decide (L.M ≤ (jB sr i.a + u64 i.k) % 18446744073709551616) = g := ⟨_, rfl⟩
 obtain ⟨r2, g1, h1, x2⟩ := aKU hL h ha hCa (cd := cd) (lk := lk) (st := st) (fuel := fuel) (by omega) g hgd
 rw [hy] at x2 hgd
 cases g with
 | true =>
  have hMy : L.M ≤ y := of_decide_eq_true hgd
  rw [if_pos rfl, if_pos rfl] at g1
  have s1 := aFQ (cs := L.out ws) (fuel := fuel) (r := r2) (cd := cd) (mem := qm) (lk := lk ++ (L.adL (L.at_ ws sa) i ++ [(2, 1)])) (st := st + (L.adC i).length) (Nat.le_refl (L.out ws).length)
  have hf := aKl (r := sr) (p := sa) (cd := sc) (mem := sm) (lk := slk) (st := sst) (d := i.d) (b := i.b) (c := i.c) ho hy (by rw [h.sml]; exact hMy)
  refine ⟨_, _, hf, _, _, [(1, (sa : Int)), (3, pY y)], L.lkM (L.at_ ws sa) i (pY y), ?_, by show _ ++ _ ++ _ = _; simp only [List.append_assoc, List.cons_append, List.nil_append], ?_, fun pc T => hml pc _ T, ?_, h1, (fun e => by cases e), fun _ => ⟨g1.ends s1, rfl⟩⟩
  ·omega
  ·unfold LY.lkM
   rw [uy, if_pos hMy]
  ·show st + (L.adC i).length ≤ st + 8
   omega
 | false =>
  have hMy : y < L.M := by have := of_decide_eq_false hgd; omega
  simp only [Bool.false_eq_true, if_false] at g1
  have hyq : y < qm.length := by rw [h.qml]; omega
  have ym := h.mem y hMy
  have add0 : ∀ r : List Nat, jB r 2 = y → (jB r 2 + u64 0) % 18446744073709551616 = y := fun r hr => by
   rw [hr, show u64 0 = 0 from rfl]; omega
  have elk : L.lkM (L.at_ ws sa) i (pY y) = L.adL (L.at_ ws sa) i ++ ([(2, 0)] ++ (if i.op = 15 then [(1, ((L.at_ ws sa + (L.adC i).length : Nat) : Int)), (3, pY y)] ++ L.rdL (L.at_ ws sa + ((L.adC i).length + 1)) i.d else L.rdL (L.at_ ws sa + (L.adC i).length) i.b ++ [(1, ((L.at_ ws sa + ((L.adC i).length + (L.rdC i.b 1).length) : Nat) : Int)), (3, pY y)])) := by
   unfold LY.lkM
   rw [uy, if_neg (by omega)]
  rcases ho with h15 | h16
  ·have eo : L.one i = L.adC i ++ ([⟨15, L.wrR i.d, 2, 0, 0, 0⟩] ++ L.wrC i.d) := by unfold LY.one; rw [if_pos h15]
   rw [eo] at hC hsu
   rw [if_pos h15] at elk
   have a0 := hC.right.left.head (by show ¬ ((15 : Int) = 17 ∨ (15 : Int) = 18 ∨ (15 : Int) = 19); decide)
   have s1 := aFS (r := r2) (cd := cd) (mem := qm) (lk := lk ++ (L.adL (L.at_ ws sa) i ++ [(2, 0)])) (st := st + (L.adC i).length) (fuel := fuel) a0 (add0 r2 x2) hyq (by push_cast; omega)
   rw [ym] at s1
   obtain ⟨r3, m3, g3, h3⟩ := aJa hL h1 hd (sm.getD y 0) hC.right.right (cd := cd) (lk := lk ++ (L.adL (L.at_ ws sa) i ++ [(2, 0)]) ++ [(1, ((L.at_ ws sa + (L.adC i).length : Nat) : Int))] ++ [(3, pY y)]) (st := st + (L.adC i).length + 1) (fuel := fuel) (by push_cast; omega)
   have hst := aJy (r := sr) (p := sa) (cd := sc) (mem := sm) (lk := slk) (st := sst) (d := i.d) (b := i.b) (c := i.c) hy (by rw [h.sml]; exact hMy)
   have ei : (⟨15, i.d, i.a, i.b, i.c, i.k⟩ : WI) = i := by rw [← h15]
   rw [ei] at hst
   refine ⟨_, _, hst, _, _, [(1, (sa : Int)), (3, pY y)], L.lkM (L.at_ ws sa) i (pY y), ?_, by show _ ++ _ ++ _ = _; simp only [List.append_assoc, List.cons_append, List.nil_append], ?_, fun pc T => hml pc _ T, ?_, h3, fun _ => ⟨(g1.trans s1).trans g3, ?_⟩, fun e => by cases e⟩
   ·omega
   ·rw [elk]
    simp only [List.append_assoc, List.length_singleton, Nat.add_assoc, List.cons_append, List.nil_append]
   ·show st + (L.adC i).length + 1 + (L.wrC i.d).length ≤ st + 8
    omega
   ·show L.at_ ws sa + (L.adC i).length + 1 + (L.wrC i.d).length = L.at_ ws (sa + 1)
    rw [hsu]
    simp only [List.length_append, List.length_singleton]; omega
  ·have eo : L.one i = L.adC i ++ (L.rdC i.b 1 ++ [⟨16, 0, 2, L.rdR i.b 1, 0, 0⟩]) := by unfold LY.one; rw [if_neg (by omega), if_pos h16]
   rw [eo] at hC hsu
   rw [if_neg (by omega)] at elk
   obtain ⟨r3, g2, l3, e3, v3⟩ := aGg hL h1 hb (into := 1) (by decide) hC.right.left (cd := cd) (lk := lk ++ (L.adL (L.at_ ws sa) i ++ [(2, 0)])) (st := st + (L.adC i).length) (fuel := fuel) (by push_cast; omega)
   have h3 : RelA L R S N sr sm r3 qm := h1.scr hL l3 (fun j hj => e3 j (by show j ≠ 1; omega))
   have x3 : jB r3 2 = y := by
    rw [← x2]; exact e3 2 (by decide)
   have a0 := hC.right.right.head (by show ¬ ((16 : Int) = 17 ∨ (16 : Int) = 18 ∨ (16 : Int) = 19); decide)
   have s1 := aFT (r := r3) (cd := cd) (mem := qm) (lk := lk ++ (L.adL (L.at_ ws sa) i ++ [(2, 0)]) ++ L.rdL (L.at_ ws sa + (L.adC i).length) i.b) (st := st + (L.adC i).length + (L.rdC i.b 1).length) (fuel := fuel) a0 (add0 r3 x3) hyq (by push_cast; omega)
   rw [v3] at s1
   have hst := aJz (r := sr) (p := sa) (cd := sc) (mem := sm) (lk := slk) (st := sst) (d := i.d) (b := i.b) (c := i.c) hy (by rw [h.sml]; exact hMy)
   have ei : (⟨16, i.d, i.a, i.b, i.c, i.k⟩ : WI) = i := by rw [← h16]
   rw [ei] at hst
   refine ⟨_, _, hst, _, _, [(1, (sa : Int)), (3, pY y)], L.lkM (L.at_ ws sa) i (pY y), ?_, by show _ ++ _ ++ _ = _; simp only [List.append_assoc, List.cons_append, List.nil_append], ?_, fun pc T => hml pc _ T, ?_, h3.store hL hMy, fun _ => ⟨(g1.trans g2).trans s1, ?_⟩, fun e => by cases e⟩
   ·omega
   ·rw [elk]
    simp only [List.append_assoc, List.length_singleton, Nat.add_assoc, List.cons_append, List.nil_append]
   ·show st + (L.adC i).length + (L.rdC i.b 1).length + 1 ≤ st + 8
    omega
   ·show L.at_ ws sa + (L.adC i).length + (L.rdC i.b 1).length + 1 = L.at_ ws (sa + 1)
    rw [hsu]
    simp only [List.length_append, List.length_singleton]; omega
theorem aFA (hL : L.Ok R S N) (h : RelA L R S N sr sm qr qm) (hj : sa < ws.length) (hi : ws.getD sa default = i) (hg : i.Good R ws.length) (hs : (st : Int) + 8 < fuel) :
  ∃ s2 b, MS.step (MS.tick ⟨sr, sa, sc, sm, slk, sst⟩) i = (s2, b) ∧ aDU fuel L R S N ws ⟨sr, sa, sc, sm, slk, sst⟩ ⟨qr, L.at_ ws sa, cd, qm, lk, st⟩ s2 b := by
 have h20 := hg.ok2.ok.op
 by_cases h1 : i.op ≤ 14
 ·exact aFC hL h hj hi hg ⟨h20.1, h1⟩ hs
 by_cases h2 : 17 ≤ i.op
 ·exact aHG hL h hj hi hg ⟨h2, h20.2⟩ hs
 ·exact aFB hL h hj hi hg (by omega) hs
end
theorem aED {L : LY} {R S N : Nat} {ws : List WI} {F fuel : Int} (hL : L.Ok R S N) (hw : ∀ w ∈ ws, w.Good R ws.length) (hF : F ≤ 99999) (hfuel : 8 * F + 20 < fuel) : ∀ (f : Nat) (s s' q : MS), iR ws F f s = some s' → s'.code ≠ 4 → s.Ok R → RelA L R S N s.regs s.mem q.regs q.mem → q.at_ = L.at_ ws s.at_ → s.at_ ≤ ws.length → (s.steps : Int) ≤ F → q.steps ≤ 8 * s.steps →
  ∃ (m : Nat) (q' : MS) (T : List (Int × Int)), (m : Int) ≤ 9 * (F - s.steps) + 1 ∧ aCZ (L.out ws) fuel q m q' ∧ q'.code = s'.code ∧ RelA L R S N s'.regs s'.mem q'.regs q'.mem ∧ s'.leaks = s.leaks ++ T ∧ ∀ pc, q'.leaks = q.leaks ++ L.mlk ws pc T
 | 0, s, s', q, h, _, _, _, _, _, _, _ => by simp [iR] at h
 | f + 1, s, s', q, h, hc, hs, hsim, hqa, hat, hst, hq => by
  simp only [iR] at h
  obtain ⟨qr, qa, qc, qm, qlk, qst⟩ := q
  simp only at hsim hqa hq
  by_cases h1 : ws.length ≤ s.at_
  ·rw [if_pos h1] at h; simp only [Option.some.injEq] at h; subst h
   have hp : qa = (L.out ws).length := by rw [hqa, show s.at_ = ws.length by omega, aJG]
   have g := aFQ (fuel := fuel) (cs := L.out ws) (cd := qc) (mem := qm) (r := qr) (lk := qlk) (st := qst) (p := qa) (by omega)
   exact ⟨1, _, [], by omega, g, rfl, hsim, by simp, fun pc => by simp [LY.mlk]⟩
  rw [if_neg h1] at h
  by_cases h2 : (s.steps : Int) = F
  ·rw [if_pos h2] at h; simp only [Option.some.injEq] at h; subst h
   exact absurd rfl hc
  rw [if_neg h2] at h
  have hj : s.at_ < ws.length := by omega
  have hmemi : ws.getD s.at_ default ∈ ws := by
   rw [List.getD_eq_getElem?_getD, List.getElem?_eq_getElem hj]; exact List.getElem_mem hj
  have hg := hw _ hmemi
  have okt : s.tick.Ok R := ⟨hs.len, hs.regs, hs.mem, by have := hs.leaks; simp [MS.tick, MS.leak]; omega, hs.big, by simp [MS.tick, MS.leak]; omega⟩
  obtain ⟨o1, o2, o3, o4⟩ := MS.step_ok okt hg.ok2.ok (by have := hs.leaks; simp [MS.tick, MS.leak]; omega) (show s.tick.at_ < ws.length from hj)
  have tst : s.tick.steps = s.steps + 1 := rfl
  subst hqa
  obtain ⟨sr, sa, sc, sm, slk, sst⟩ := s
  obtain ⟨s2, b, hsb, m, q2, Y, X, m9, hY, hX, hmk, hqs, hrel, hgo, hend⟩ := aFA (fuel := fuel) (sc := sc) (slk := slk) (sst := sst) (cd := qc) (lk := qlk) (st := qst) hL hsim hj rfl hg (by simp only at hst hq h2; omega)
  rw [hsb] at h o1 o2 o3 o4
  simp only at h o1 o2 o3 o4 hst hq h2 tst hY hX hqs hmk ⊢
  cases b
  ·simp only [Option.some.injEq] at h
   subst h
   obtain ⟨he, hcode⟩ := hend rfl
   refine ⟨m, q2, Y, by omega, he, hcode, hrel, hY, fun pc => ?_⟩
   have := hmk pc []
   rw [List.append_nil] at this
   rw [hX, this]; simp [LY.mlk]
  ·obtain ⟨hgo, hqa2⟩ := hgo rfl
   obtain ⟨m2, q', T, hm2, he, hcode, hmem, hT, hmlk⟩ := aED hL hw hF hfuel f s2 s' q2 h hc o1 hrel hqa2 o2 (by rw [o3, tst]; push_cast; omega) (by rw [o3, tst]; omega)
   rw [o3, tst] at hm2
   refine ⟨m + m2, q', Y ++ T, by push_cast at hm2 ⊢; omega, hgo.ends he, hcode, hmem, by rw [hT, hY, List.append_assoc], fun pc => ?_⟩
   rw [hmlk sa, hX, hmk, List.append_assoc]
theorem jD (n j : Nat) : (List.replicate n 0).getD j 0 = 0 := by
 rw [List.getD_eq_getElem?_getD, List.getElem?_replicate]; split <;> rfl
def gD (mem : List Nat) (n : Nat) : List Nat := mem.take n ++ List.replicate (n - mem.length) 0
theorem pU (mem : List Nat) (n : Nat) (h : mem.length ≤ n) : (gD mem n).length = n := by unfold gD; simp; omega
theorem yN (mem : List Nat) (n j : Nat) (h : mem.length ≤ n) : (gD mem n).getD j 0 = mem.getD j 0 := by
 unfold gD
 rw [List.take_of_length_le h]
 by_cases hj : j < mem.length
 ·rw [List.getD_eq_getElem?_getD, List.getElem?_append_left hj, ← List.getD_eq_getElem?_getD]
 ·rw [List.getD_eq_getElem?_getD, List.getElem?_append_right (by omega), ← List.getD_eq_getElem?_getD, jD, List.getD_eq_getElem?_getD, List.getElem?_eq_none (by omega)]; rfl
theorem aMh {L : LY} {R S N : Nat} (hL : L.Ok R S N) (mem : List Nat) (hm : mem.length = L.M) : RelA L R S N (List.replicate R 0) mem (List.replicate S 0) (gD mem N) := by
 have hn : mem.length ≤ N := by rw [hm]; exact hL.mn
 refine ⟨by simp, by simp, jD _ _, hm, pU _ _ hn, fun r hr h0 => by rw [jD, jD], fun r hr h0 => ?_, fun j hj => yN _ _ _ hn⟩
 have hb := hL.wd r hr h0
 rw [yN _ _ _ hn, jD, List.getD_eq_getElem?_getD, List.getElem?_eq_none (by omega)]; rfl
theorem aIA {L : LY} {R S N : Nat} {ws : List WI} {F fuel : Int} {K f : Nat} (hL : L.Ok R S N) (hw : ∀ w ∈ ws, w.Good R ws.length) (h0 : 0 ≤ F) (hF : F ≤ 99999) (hfuel : 8 * F + 20 < fuel) (mem : List Nat) (hm : mem.length = L.M) (hmm : ∀ x ∈ mem, x < 18446744073709551616) (s' : MS) (h : iR ws F f (s0 R mem) = some s') (hc : s'.code ≠ 4) (hK : 9 * F + 1 ≤ K) :
  ∃ q', iR (L.out ws) fuel K (s0 S (gD mem N)) = some q' ∧ q'.code = s'.code ∧ RelA L R S N s'.regs s'.mem q'.regs q'.mem ∧ q'.leaks = L.mlk ws 0 s'.leaks := by
 have hn := hL.n
 have hmn := hL.mn
 obtain ⟨m, q', T, hm, he, h1, h2, h3, h4⟩ := aED hL hw hF hfuel f (s0 R mem) s' (s0 S (gD mem N)) h hc (aHt R mem hmm (by omega)) (aMh hL mem hm) (by simp [s0, LY.at_, LY.flat]) (by simp [s0]) (by simp only [s0]; omega) (by simp [s0])
 have e : s'.leaks = T := by rw [h3]; simp [s0]
 refine ⟨q', ?_, h1, h2, by rw [h4 0, e]; simp [s0]⟩
 have hs0 : (s0 R mem).steps = 0 := rfl
 rw [hs0] at hm
 have := he (K - m)
 rw [show K - m + m = K by omega] at this
 exact this
theorem wZ {ws : List WI} {F F2 : Int} (hF : F ≤ F2) : ∀ (f : Nat) (s s' : MS), iR ws F f s = some s' → s'.code ≠ 4 → (s.steps : Int) ≤ F → iR ws F2 f s = some s'
 | 0, s, s', h, _, _ => by simp [iR] at h
 | f + 1, s, s', h, hc, hs => by
  simp only [iR] at h ⊢
  by_cases h1 : ws.length ≤ s.at_
  ·rw [if_pos h1] at h ⊢; exact h
  rw [if_neg h1] at h ⊢
  by_cases h2 : (s.steps : Int) = F
  ·rw [if_pos h2] at h; simp only [Option.some.injEq] at h; subst h
   exact absurd rfl hc
  rw [if_neg h2] at h
  rw [if_neg (by omega)]
  have e : ∀ i, (s.tick.step i).1.steps = s.steps + 1 := fun i => by
   unfold MS.step MS.touch MS.branch
   simp only
   repeat' split
   all_goals rfl
  have e' := e (ws.getD s.at_ default)
  obtain ⟨s2, b, hsb⟩ : ∃ s2 b, s.tick.step (ws.getD s.at_ default) = (s2, b) := ⟨_, _, rfl⟩
  rw [hsb] at e' h ⊢
  cases b
  ·exact h
  ·exact wZ hF f s2 s' h hc (by simp only at e'; omega)
section
variable {L : LY} {R S N : Nat}
theorem gT {i : WI} {S n : Int} (hf : (eH i.op).isSome = true) (ho : jL (dC i.op) i S = false) (hz : jR (dC i.op) i = false) (h1 : 10 ≤ i.op → i.op ≤ 12 → 0 ≤ i.k ∧ i.k ≤ 63) (h2 : i.op = 20 → 0 ≤ i.k ∧ i.k ≤ 2) (h3 : i.op = 15 ∨ i.op = 16 → 0 ≤ i.k ∧ i.k ≤ 65535) (h4 : 17 ≤ i.op → i.op ≤ 19 → 0 ≤ i.k ∧ i.k ≤ n) : fK i S n = none := by
 unfold fK
 rw [hf, ho, hz]
 simp only [Bool.true_eq_false, Bool.false_eq_true, if_false]
 by_cases a1 : i.op = 10 ∨ i.op = 11 ∨ i.op = 12
 ·have := h1 (by omega) (by omega)
  rw [if_pos a1, if_neg (by omega)]
 rw [if_neg a1]
 by_cases a2 : i.op = 20
 ·have := h2 a2
  rw [if_pos a2, if_neg (by omega)]
 rw [if_neg a2]
 by_cases a3 : i.op = 15 ∨ i.op = 16
 ·have := h3 a3
  rw [if_pos a3, if_neg (by omega)]
 rw [if_neg a3]
 by_cases a4 : i.op = 17 ∨ i.op = 18 ∨ i.op = 19
 ·have := h4 (by omega) (by omega)
  rw [if_pos a4, if_neg (by omega)]
 rw [if_neg a4]
end
theorem wQ {i : WI} {R n : Int} (h : fK i R n = none) : (eH i.op).isSome = true ∧ jL (dC i.op) i R = false ∧ jR (dC i.op) i = false := by
 unfold fK at h
 by_cases h0 : (eH i.op).isSome = false
 ·rw [if_pos h0] at h; cases h
 rw [if_neg h0] at h
 by_cases h1 : jL (dC i.op) i R = true
 ·rw [if_pos h1] at h; cases h
 rw [if_neg h1] at h
 by_cases h2 : jR (dC i.op) i = true
 ·rw [if_pos h2] at h; cases h
 have b1 : ∀ b : Bool, ¬ b = false → b = true := by decide
 have b2 : ∀ b : Bool, ¬ b = true → b = false := by decide
 exact ⟨b1 _ h0, b2 _ h1, b2 _ h2⟩
theorem yD {R n : Int} : ∀ {l : List WI} {j : Nat}, nN R n l j = .ok → ∀ i ∈ l, fK i R n = none
 | [], _, _, i, hi => by cases hi
 | x :: l, j, h, i, hi => by
  unfold nN at h
  split at h
  ·cases h
  ·rename_i ho
   rcases List.mem_cons.1 hi with rfl | hi
   ·exact ho
   ·exact yD h i hi
theorem aDW {R n : Int} : ∀ (l : List WI) (j : Nat), (∀ i ∈ l, fK i R n = none) → nN R n l j = .ok
 | [], _, _ => rfl
 | x :: l, j, h => by
  unfold nN
  rw [h x (List.mem_cons_self ..)]
  exact aDW l (j + 1) fun i hi => h i (List.mem_cons_of_mem _ hi)
theorem aCR {cs : List WI} {R M : Int} (h : iL cs R M = .ok) : ∀ i ∈ cs, fK i R cs.length = none := by
 have hb := (tP h).1
 unfold iL at h
 rw [if_neg (by omega), if_neg (by omega)] at h
 exact yD h
theorem zL {cs : List WI} {R M : Int} (h0 : cs.length ≤ 262144) (h1 : 0 ≤ R ∧ R ≤ 65536) (h2 : 0 ≤ M ∧ M ≤ 65536) (h : ∀ i ∈ cs, fK i R cs.length = none) : iL cs R M = .ok := by
 unfold iL
 rw [if_neg (by omega), if_neg (by omega)]
 exact aDW cs 0 h
section
variable {L : LY} {R S N : Nat} {P : List Nat} {m : Nat}
theorem aAV (hL : L.Ok R S N) {v into : Int} (hv : 0 ≤ v ∧ v < R) (hi : 1 ≤ into ∧ into ≤ 3) : 0 ≤ L.rdR v into ∧ L.rdR v into < S := by
 have := hL.s6
 unfold LY.rdR
 by_cases h0 : L.sl v = 0
 ·rw [if_pos h0]; omega
 ·rw [if_neg h0]; have : L.sl v < S := (hL.sl v.toNat (by omega) h0).2; omega
theorem aKs (hL : L.Ok R S N) {v : Int} (hv : 0 ≤ v ∧ v < R) : 0 ≤ L.wrR v ∧ L.wrR v < S := aAV hL (into := 1) hv (by decide)
theorem aJE (hL : L.Ok R S N) {v : Int} (hv : 0 ≤ v ∧ v < R) (h0 : L.sl v = 0) : (0 : Int) ≤ (L.wd v : Int) ∧ (L.wd v : Int) ≤ 65535 := by
 have := hL.n
 have : L.wd v < N := (hL.wd v.toNat (by omega) h0).2
 omega
def OkB (S : Nat) (P : List Nat) (m : Nat) (i : WI) : Prop := fK (jK P m i) S m = none
theorem nI {i : WI} (h : ¬ (i.op = 17 ∨ i.op = 18 ∨ i.op = 19)) (h2 : fK i S m = none) : OkB S P m i := by
 unfold OkB jK
 rw [if_neg h]; exact h2
theorem aJg {d a k : Int} (hS : 6 ≤ S) (hd : 0 ≤ d ∧ d < S) (ha : 0 ≤ a ∧ a < S) (hk : 0 ≤ k ∧ k ≤ 65535) : OkB S P m ⟨15, d, a, 0, 0, k⟩ := by
 refine nI (by simp) (gT rfl ?_ ?_ (fun h h2 => ?_) (fun h => ?_) (fun _ => hk) (fun h h2 => ?_))
 ·simp [jL, iW, dC, eH]; omega
 ·simp [jR, dC, eH]
 ·exact absurd h2 (by simp)
 ·exact absurd h (by simp)
 ·exact absurd h (by simp)
theorem aJh {a b k : Int} (hS : 6 ≤ S) (ha : 0 ≤ a ∧ a < S) (hb : 0 ≤ b ∧ b < S) (hk : 0 ≤ k ∧ k ≤ 65535) : OkB S P m ⟨16, 0, a, b, 0, k⟩ := by
 refine nI (by simp) (gT rfl ?_ ?_ (fun h h2 => ?_) (fun h => ?_) (fun _ => hk) (fun h h2 => ?_))
 ·simp [jL, iW, dC, eH]; omega
 ·simp [jR, dC, eH]
 ·exact absurd h2 (by simp)
 ·exact absurd h (by simp)
 ·exact absurd h (by simp)
theorem aCu {d k : Int} (hd : 0 ≤ d ∧ d < S) : OkB S P m ⟨1, d, 0, 0, 0, k⟩ := by
 refine nI (by simp) (gT rfl ?_ ?_ (fun h h2 => ?_) (fun h => ?_) (fun h => ?_) (fun h h2 => ?_))
 ·simp [jL, iW, dC, eH]; omega
 ·simp [jR, dC, eH]
 ·exact absurd h (by simp)
 ·exact absurd h (by simp)
 ·exact absurd h (by simp)
 ·exact absurd h (by simp)
theorem aLf {op d a b : Int} (ho : op = 3 ∨ op = 13) (hd : 0 ≤ d ∧ d < S) (ha : 0 ≤ a ∧ a < S) (hb : 0 ≤ b ∧ b < S) : OkB S P m ⟨op, d, a, b, 0, 0⟩ := by
 rcases ho with rfl | rfl
 ·refine nI (by simp) (gT rfl ?_ ?_ (fun h h2 => ?_) (fun h => ?_) (fun h => ?_) (fun h h2 => ?_))
  ·simp [jL, iW, dC, eH]; omega
  ·simp [jR, dC, eH]
  ·exact absurd h (by simp)
  ·exact absurd h (by simp)
  ·exact absurd h (by simp)
  ·exact absurd h (by simp)
 ·refine nI (by simp) (gT rfl ?_ ?_ (fun h h2 => ?_) (fun h => ?_) (fun h => ?_) (fun h h2 => ?_))
  ·simp [jL, iW, dC, eH]; omega
  ·simp [jR, dC, eH]
  ·exact absurd h2 (by simp)
  ·exact absurd h (by simp)
  ·exact absurd h (by simp)
  ·exact absurd h (by simp)
theorem aKa (hS : 6 ≤ S) : OkB S P m ⟨18, 0, 3, 0, 0, -1⟩ := by
 unfold OkB
 rw [aCb]
 refine gT rfl ?_ ?_ (fun h h2 => ?_) (fun h => ?_) (fun h => ?_) (fun h h2 => ?_)
 ·simp [jL, iW, dC, eH]; omega
 ·simp [jR, dC, eH]
 ·exact absurd h2 (by simp)
 ·exact absurd h (by simp)
 ·exact absurd h (by simp)
 ·simp only; omega
theorem aGG (hL : L.Ok R S N) {v into : Int} (hv : 0 ≤ v ∧ v < R) (hi : 1 ≤ into ∧ into ≤ 3) : ∀ i ∈ L.rdC v into, OkB S P m i := by
 have := hL.s6
 unfold LY.rdC
 by_cases h0 : L.sl v = 0
 ·rw [if_pos h0]
  intro i h; rw [List.mem_singleton.1 h]
  exact aJg hL.s6 (by omega) (by omega) (aJE hL hv h0)
 ·rw [if_neg h0]; intro i h; cases h
theorem aJi (hL : L.Ok R S N) {v : Int} (hv : 0 ≤ v ∧ v < R) : ∀ i ∈ L.wrC v, OkB S P m i := by
 have := hL.s6
 unfold LY.wrC
 by_cases h0 : L.sl v = 0
 ·rw [if_pos h0]
  intro i h; rw [List.mem_singleton.1 h]
  exact aJh hL.s6 (by omega) (by omega) (aJE hL hv h0)
 ·rw [if_neg h0]; intro i h; cases h
theorem aGF (hL : L.Ok R S N) {f : Bool} {v into : Int} (hv : f = true → 0 ≤ v ∧ v < R) (hi : 1 ≤ into ∧ into ≤ 3) : ∀ i ∈ L.rC f v into, OkB S P m i := by
 unfold LY.rC
 by_cases h : f = true
 ·rw [if_pos h]; exact aGG hL (hv h) hi
 ·rw [if_neg h]; intro i h; cases h
theorem lA {Q : WI → Prop} {A B : List WI} (h : ∀ i ∈ A, Q i) (h2 : ∀ i ∈ B, Q i) : ∀ i ∈ A ++ B, Q i := fun i hi => by
 rcases List.mem_append.1 hi with hi | hi
 ·exact h i hi
 ·exact h2 i hi
theorem aAb {Q : WI → Prop} {x : WI} (h : Q x) : ∀ i ∈ [x], Q i := fun i hi => by rw [List.mem_singleton.1 hi]; exact h
theorem vG (hL : L.Ok R S N) {f : Bool} {v into : Int} (hv : f = true → 0 ≤ v ∧ v < R) (hi : 1 ≤ into ∧ into ≤ 3) : iW f (L.rR f v into) S = false := by
 unfold LY.rR iW
 cases f with
 | false => rfl
 | true =>
  have := aAV hL (hv rfl) hi
  simp only [if_true, Bool.true_and, Bool.or_eq_false_iff, decide_eq_false_iff_not]; omega
theorem aAQ {f : Bool} {v into : Int} (h : (!f && decide (v ≠ 0)) = false) : (!f && decide (L.rR f v into ≠ 0)) = false := by
 unfold LY.rR
 cases f with
 | false => exact h
 | true => rfl
theorem aKR {op : Int} (h : op = 17 ∨ op = 18 ∨ op = 19) : (dC op).k = true := by rcases h with rfl | rfl | rfl <;> rfl
theorem aKb (hL : L.Ok R S N) {w : WI} {n : Nat} (h : fK w R n = none) (hP : ∀ j, P.getD j 0 ≤ m) (hn : ¬ (w.op = 15 ∨ w.op = 16)) : OkB S P m (L.ins w) := by
 have hg := tJ h (by omega)
 rw [Int.toNat_natCast, Int.toNat_natCast] at hg
 obtain ⟨p1, p2, p3⟩ := wQ h
 obtain ⟨ga, gb, gc⟩ := sZ hg
 have gd : (dC w.op).d = true → 0 ≤ w.d ∧ w.d < R := fun e => by
  simp only [jL, iW, Bool.or_eq_false_iff, e, Bool.true_and, decide_eq_false_iff_not] at p2
  omega
 have hsh := hg.ok2.sh
 have hha := hg.halt
 simp only [jR, Bool.or_eq_false_iff] at p3
 obtain ⟨⟨⟨⟨q1, q2⟩, q3⟩, q4⟩, q5⟩ := p3
 have hd1 : iW (dC w.op).d (if (dC w.op).d = true then L.wrR w.d else w.d) S = false := vG hL (into := 1) gd (by decide)
 have hd2 : (!(dC w.op).d && decide ((if (dC w.op).d = true then L.wrR w.d else w.d) ≠ 0)) = false := aAQ (L := L) (into := 1) q1
 have ha1 := vG hL (into := 1) ga (by decide)
 have hb1 := vG hL (into := 2) gb (by decide)
 have hc1 := vG hL (into := 3) gc (by decide)
 have ha2 := aAQ (L := L) (into := 1) q2
 have hb2 := aAQ (L := L) (into := 2) q3
 have hc2 := aAQ (L := L) (into := 3) q4
 unfold OkB jK
 by_cases hb : (L.ins w).op = 17 ∨ (L.ins w).op = 18 ∨ (L.ins w).op = 19
 ·rw [if_pos hb]
  have hb' : w.op = 17 ∨ w.op = 18 ∨ w.op = 19 := hb
  have hk := aKR hb'
  have key : ∀ kk : Int, 0 ≤ kk ∧ kk ≤ m → fK { L.ins w with k := kk } S m = none := fun kk hkk => by
   refine gT p1 ?_ ?_ (fun e e2 => ?_) (fun e => ?_) (fun e => ?_) (fun _ _ => hkk)
   ·show jL (dC w.op) _ _ = false
    simp only [jL, LY.ins, hd1, ha1, hb1, hc1, Bool.or_self]
   ·show jR (dC w.op) _ = false
    simp only [jR, Bool.or_eq_false_iff]
    exact ⟨⟨⟨⟨hd2, ha2⟩, hb2⟩, hc2⟩, by rw [hk]; rfl⟩
   ·have : w.op ≤ 12 := e2
    omega
   ·have : w.op = 20 := e
    omega
   ·have : w.op = 15 ∨ w.op = 16 := e
    omega
  by_cases hf : (L.ins w).k = -1
  ·rw [if_pos hf]; exact key _ (by omega)
  ·rw [if_neg hf]; exact key _ (by have := hP (L.ins w).k.toNat; omega)
 ·rw [if_neg hb]
  refine gT p1 ?_ ?_ (fun e e2 => hsh e e2) (fun e => hha e) (fun e => absurd e hn) (fun e e2 => ?_)
  ·show jL (dC w.op) _ _ = false
   simp only [jL, LY.ins, hd1, ha1, hb1, hc1, Bool.or_self]
  ·show jR (dC w.op) _ = false
   simp only [jR, Bool.or_eq_false_iff]
   exact ⟨⟨⟨⟨hd2, ha2⟩, hb2⟩, hc2⟩, q5⟩
  ·have e' : 17 ≤ w.op := e
   have e2' : w.op ≤ 19 := e2
   exact absurd (show w.op = 17 ∨ w.op = 18 ∨ w.op = 19 by omega) hb
theorem aKc (hL : L.Ok R S N) {w : WI} {n : Nat} (h : fK w R n = none) (hP : ∀ j, P.getD j 0 ≤ m) : ∀ i ∈ L.one w, OkB S P m i := by
 have hs6 := hL.s6
 have hg := tJ h (by omega)
 rw [Int.toNat_natCast, Int.toNat_natCast] at hg
 have had : w.op = 15 ∨ w.op = 16 → ∀ i ∈ L.adC w, OkB S P m i := fun ho => by
  have ha := hg.ok2.ok.a (by omega) (by omega)
  have hr := aAV hL ha (into := 1) (by decide)
  unfold LY.adC
  refine lA (aGG hL ha (by decide)) ?_
  intro i hi
  simp only [List.mem_cons, List.not_mem_nil, or_false] at hi
  rcases hi with rfl | rfl | rfl | rfl | rfl
  ·exact aCu (by omega)
  ·exact aLf (.inl rfl) (by omega) hr (by omega)
  ·exact aCu (by omega)
  ·exact aLf (.inr rfl) (by omega) (by omega) (by omega)
  ·exact aKa hs6
 unfold LY.one
 by_cases h15 : w.op = 15
 ·rw [if_pos h15]
  have hd := hg.ok2.ok.d (by omega)
  exact lA (had (.inl h15)) (lA (aAb (aJg hs6 (aKs hL hd) (by omega) (by decide))) (aJi hL hd))
 rw [if_neg h15]
 by_cases h16 : w.op = 16
 ·rw [if_pos h16]
  have hb := hg.ok2.ok.b (by omega)
  exact lA (had (.inr h16)) (lA (aGG hL hb (by decide)) (aAb (aJh hs6 (by omega) (aAV hL hb (by decide)) (by decide))))
 rw [if_neg h16]
 obtain ⟨ga, gb, gc⟩ := sZ hg
 unfold LY.rds
 refine lA (lA (aGF hL ga (by decide)) (lA (aGF hL gb (by decide)) (aGF hL gc (by decide)))) (lA (aAb (aKb hL h hP (by omega))) ?_)
 unfold LY.wrs
 by_cases hf : (dC w.op).d = true
 ·rw [if_pos hf]
  refine aJi hL ?_
  have p2 := (wQ h).2.1
  simp only [jL, iW, Bool.or_eq_false_iff, hf, Bool.true_and, decide_eq_false_iff_not] at p2
  omega
 ·rw [if_neg hf]; intro i h; cases h
theorem wK : ∀ (ws : List WI) {i : WI}, i ∈ L.flat ws → ∃ w ∈ ws, i ∈ L.one w
 | [], i, h => by cases h
 | w :: ws, i, h => by
  rcases List.mem_append.1 h with h | h
  ·exact ⟨w, List.mem_cons_self .., h⟩
  ·obtain ⟨v, hv, h2⟩ := wK ws h
   exact ⟨v, List.mem_cons_of_mem _ hv, h2⟩
theorem aFs (hL : L.Ok R S N) (hS : S ≤ 65536) {ws : List WI} (hw : ∀ w ∈ ws, fK w R ws.length = none) (hl : ws.length ≤ 30000) : iL (L.out ws) S N = .ok := by
 have hn := hL.n
 have hf := pS L ws
 refine zL (by rw [nU]; omega) (by omega) (by omega) fun i hi => ?_
 have hi2 := hi
 unfold LY.out at hi
 obtain ⟨x, hx, rfl⟩ := List.mem_map.1 hi
 obtain ⟨w, hw1, hw2⟩ := wK ws hx
 have := aKc (P := L.place ws) (m := (L.out ws).length) hL (hw w hw1) (aGL L ws) x hw2
 rw [← nU]
 exact this
end
def ix : List Nat → Nat → Nat
 | [], _ => 0
 | x :: o, r => if x = r then 0 else ix o r + 1
theorem aEh (x r : Nat) (o : List Nat) : ix (x :: o) r = if x = r then 0 else ix o r + 1 := rfl
theorem aJb {r : Nat} : ∀ {o : List Nat}, r ∈ o → ix o r < o.length
 | [], h => by cases h
 | x :: o, h => by
  unfold ix
  by_cases e : x = r
  ·rw [if_pos e]; simp
  ·rw [if_neg e]
   have : r ∈ o := by
    rcases List.mem_cons.1 h with h | h
    ·exact absurd h.symm e
    ·exact h
   have := aJb this
   simp only [List.length_cons]; omega
theorem aDu {r t : Nat} : ∀ {o : List Nat}, r ∈ o → t ∈ o → ix o r = ix o t → r = t
 | [], h, _, _ => by cases h
 | x :: o, h, h2, he => by
  unfold ix at he
  by_cases e : x = r
  ·by_cases e2 : x = t
   ·omega
   ·rw [if_pos e, if_neg e2] at he; omega
  ·by_cases e2 : x = t
   ·rw [if_neg e, if_pos e2] at he; omega
   ·rw [if_neg e, if_neg e2] at he
    have h1 : r ∈ o := by
     rcases List.mem_cons.1 h with h | h
     ·exact absurd h.symm e
     ·exact h
    have h3 : t ∈ o := by
     rcases List.mem_cons.1 h2 with h | h
     ·exact absurd h.symm e2
     ·exact h
    exact aDu h1 h3 (by omega)
def jP (S : Nat) : List Nat → Nat → List Nat → List Nat
 | [], _, l => l
 | r :: o, k, l => jP S o (k + 1) (if k + 4 < S then l.set r (4 + k) else l)
def jQ (S M : Nat) : List Nat → Nat → List Nat → List Nat
 | [], _, l => l
 | r :: o, k, l => jQ S M o (k + 1) (if k + 4 < S then l else l.set r (M + (k + 4 - S)))
theorem zK (S : Nat) : ∀ (o : List Nat) (k : Nat) (l : List Nat), (jP S o k l).length = l.length
 | [], k, l => rfl
 | r :: o, k, l => by
  show (jP S o (k + 1) _).length = _
  rw [zK S o]; split <;> simp
theorem zO (S M : Nat) : ∀ (o : List Nat) (k : Nat) (l : List Nat), (jQ S M o k l).length = l.length
 | [], k, l => rfl
 | r :: o, k, l => by
  show (jQ S M o (k + 1) _).length = _
  rw [zO S M o]; split <;> simp
theorem zJ (S : Nat) (r : Nat) : ∀ (o : List Nat) (k : Nat) (l : List Nat), o.Nodup → (∀ x ∈ o, x < l.length) → (jP S o k l).getD r 0 = if r ∈ o ∧ k + ix o r + 4 < S then 4 + (k + ix o r) else l.getD r 0
 | [], k, l, _, _ => by
  rw [if_neg (fun h => by cases h.1)]; rfl
 | x :: o, k, l, hn, hl => by
  have hx := List.nodup_cons.1 hn
  have hxl := hl x (List.mem_cons_self ..)
  have ih := zJ S r o (k + 1) (if k + 4 < S then l.set x (4 + k) else l) hx.2 (fun y hy => by
   have := hl y (List.mem_cons_of_mem _ hy)
   split
   ·rw [List.length_set]; exact this
   ·exact this)
  show (jP S o (k + 1) _).getD r 0 = _
  rw [ih, aEh]
  by_cases e : x = r
  ·subst e
   rw [if_neg (fun h => hx.1 h.1), if_pos rfl]
   by_cases h : k + 4 < S
   ·rw [if_pos h, if_pos ⟨List.mem_cons_self .., by omega⟩, eO _ _ _ _ hxl, if_pos rfl]; rfl
   ·rw [if_neg h, if_neg (fun h2 => by omega)]
  ·rw [if_neg e]
   have hm : r ∈ x :: o ↔ r ∈ o := by
    rw [List.mem_cons]
    exact ⟨fun h => h.resolve_left (fun h => e h.symm), .inr⟩
   have hg : (if k + 4 < S then l.set x (4 + k) else l).getD r 0 = l.getD r 0 := by
    by_cases h : k + 4 < S
    ·rw [if_pos h, eO _ _ _ _ hxl, if_neg e]
    ·rw [if_neg h]
   rw [hg]
   by_cases h : r ∈ o ∧ k + 1 + ix o r + 4 < S
   ·rw [if_pos h, if_pos ⟨hm.2 h.1, by omega⟩]; omega
   ·rw [if_neg h, if_neg (fun h2 => h ⟨hm.1 h2.1, by omega⟩)]
theorem zN (S M : Nat) (r : Nat) : ∀ (o : List Nat) (k : Nat) (l : List Nat), o.Nodup → (∀ x ∈ o, x < l.length) → (jQ S M o k l).getD r 0 = if r ∈ o ∧ ¬ k + ix o r + 4 < S then M + (k + ix o r + 4 - S) else l.getD r 0
 | [], k, l, _, _ => by
  rw [if_neg (fun h => by cases h.1)]; rfl
 | x :: o, k, l, hn, hl => by
  have hx := List.nodup_cons.1 hn
  have hxl := hl x (List.mem_cons_self ..)
  have ih := zN S M r o (k + 1) (if k + 4 < S then l else l.set x (M + (k + 4 - S))) hx.2 (fun y hy => by
   have := hl y (List.mem_cons_of_mem _ hy)
   split
   ·exact this
   ·rw [List.length_set]; exact this)
  show (jQ S M o (k + 1) _).getD r 0 = _
  rw [ih, aEh]
  by_cases e : x = r
  ·subst e
   rw [if_neg (fun h => hx.1 h.1), if_pos rfl]
   by_cases h : k + 4 < S
   ·rw [if_pos h, if_neg (fun h2 => by omega)]
   ·rw [if_neg h, if_pos ⟨List.mem_cons_self .., by omega⟩, eO _ _ _ _ hxl, if_pos rfl]
  ·rw [if_neg e]
   have hm : r ∈ x :: o ↔ r ∈ o := by
    rw [List.mem_cons]
    exact ⟨fun h => h.resolve_left (fun h => e h.symm), .inr⟩
   have hg : (if k + 4 < S then l else l.set x (M + (k + 4 - S))).getD r 0 = l.getD r 0 := by
    by_cases h : k + 4 < S
    ·rw [if_pos h]
    ·rw [if_neg h, eO _ _ _ _ hxl, if_neg e]
   rw [hg]
   by_cases h : r ∈ o ∧ ¬ k + 1 + ix o r + 4 < S
   ·rw [if_pos h, if_pos ⟨hm.2 h.1, by omega⟩]; omega
   ·rw [if_neg h, if_neg (fun h2 => h ⟨hm.1 h2.1, by omega⟩)]
def kG (R S M : Nat) (o : List Nat) : LY := ⟨jP S o 0 (List.replicate R 0), jQ S M o 0 (List.replicate R 0), M⟩
theorem aIk {R S M : Nat} {o : List Nat} (ho : o.Perm (List.range R)) (hS : 6 ≤ S) (hR : S ≤ R) (hN : M + (R + 4 - S) ≤ 65536) : (kG R S M o).Ok R S (M + (R + 4 - S)) := by
 have hlen : o.length = R := by rw [ho.length_eq, List.length_range]
 have hnd : o.Nodup := ho.nodup_iff.2 List.nodup_range
 have hmem : ∀ r, r < R → r ∈ o := fun r hr => ho.mem_iff.2 (List.mem_range.2 hr)
 have hlt : ∀ x ∈ o, x < (List.replicate R 0).length := fun x hx => by
  rw [List.length_replicate]; exact List.mem_range.1 (ho.mem_iff.1 hx)
 have gs : ∀ r, r < R → (kG R S M o).slot.getD r 0 = if ix o r + 4 < S then 4 + ix o r else 0 := fun r hr => by
  show (jP S o 0 (List.replicate R 0)).getD r 0 = _
  rw [zJ S r o 0 _ hnd hlt, jD, Nat.zero_add]
  by_cases h : ix o r + 4 < S
  ·rw [if_pos h, if_pos ⟨hmem r hr, h⟩]
  ·rw [if_neg h, if_neg (fun h2 => h h2.2)]
 have gw : ∀ r, r < R → (kG R S M o).word.getD r 0 = if ix o r + 4 < S then 0 else M + (ix o r + 4 - S) := fun r hr => by
  show (jQ S M o 0 (List.replicate R 0)).getD r 0 = _
  rw [zN S M r o 0 _ hnd hlt, jD, Nat.zero_add]
  by_cases h : ix o r + 4 < S
  ·rw [if_pos h, if_neg (fun h2 => h2.2 h)]
  ·rw [if_neg h, if_pos ⟨hmem r hr, h⟩]
 have hix : ∀ r, r < R → ix o r < R := fun r hr => by
  have := aJb (hmem r hr)
  rwa [hlen] at this
 refine ⟨hS, hN, (by show M ≤ M + (R + 4 - S); omega), fun r hr h => ?_, fun r hr h => ?_, fun r t hr ht hne h => ?_, fun r t hr ht hne h h2 => ?_⟩
 ·rw [gs r hr] at h ⊢
  by_cases e : ix o r + 4 < S
  ·rw [if_pos e] at h ⊢; omega
  ·rw [if_neg e] at h; exact absurd rfl h
 ·rw [gs r hr] at h
  rw [gw r hr]
  have := hix r hr
  by_cases e : ix o r + 4 < S
  ·rw [if_pos e] at h; omega
  ·rw [if_neg e]
   show M ≤ _ ∧ _
   omega
 ·rw [gs r hr] at h ⊢
  rw [gs t ht]
  by_cases e : ix o r + 4 < S
  ·rw [if_pos e] at h ⊢
   by_cases e2 : ix o t + 4 < S
   ·rw [if_pos e2]
    intro he
    exact hne (aDu (hmem r hr) (hmem t ht) (by omega))
   ·rw [if_neg e2]; omega
  ·rw [if_neg e] at h; exact absurd rfl h
 ·rw [gs r hr] at h
  rw [gs t ht] at h2
  rw [gw r hr, gw t ht]
  by_cases e : ix o r + 4 < S
  ·rw [if_pos e] at h; omega
  ·by_cases e2 : ix o t + 4 < S
   ·rw [if_pos e2] at h2; omega
   ·rw [if_neg e, if_neg e2]
    intro he
    exact hne (aDu (hmem r hr) (hmem t ht) (by omega))
def ldI (N i : Nat) : WI := ⟨15, i, N, 0, 0, i⟩
def adI (N i : Nat) : WI := ⟨3, ((N + 1 : Nat) : Int), ((N + 1 : Nat) : Int), i, 0, 0⟩
def muI (N i : Nat) : WI := ⟨5, i, i, ((N + 1 : Nat) : Int), 0, 0⟩
def stI (N i : Nat) : WI := ⟨16, 0, N, i, 0, i⟩
def c1 (N : Nat) : Nat → List WI
 | 0 => []
 | j + 1 => c1 N j ++ [ldI N j]
def c2 (N : Nat) : Nat → List WI
 | 0 => c1 N N
 | d + 1 => c2 N d ++ [adI N (N - 1 - d), muI N (N - 1 - d)]
def c3 (N : Nat) : Nat → List WI
 | 0 => c2 N N
 | t + 1 => c3 N t ++ [stI N t]
def cY (N : Nat) : List WI := c3 N N ++ [⟨20, 0, 0, 0, 0, 0⟩]
theorem vY (N : Nat) : ∀ j, (c1 N j).length = j
 | 0 => rfl
 | j + 1 => by simp [c1, vY N j]
theorem qP (N : Nat) : ∀ d, (c2 N d).length = N + 2 * d
 | 0 => by simp [c2, vY]
 | d + 1 => by simp [c2, qP N d]; omega
theorem oQ (N : Nat) : ∀ t, (c3 N t).length = 3 * N + t
 | 0 => by simp [c3, qP]; omega
 | t + 1 => by simp [c3, oQ N t]; omega
theorem aFW (N : Nat) : (cY N).length = 4 * N + 1 := by simp [cY, oQ]; omega
def uS (A B : List WI) : Prop := ∃ C, B = A ++ C
theorem uS.refl (A : List WI) : uS A A := ⟨[], by simp⟩
theorem uS.trans {A B C : List WI} (h : uS A B) (h2 : uS B C) : uS A C := by
 obtain ⟨D, rfl⟩ := h
 obtain ⟨E, rfl⟩ := h2
 exact ⟨D ++ E, by simp⟩
theorem uS.app (A B : List WI) : uS A (A ++ B) := ⟨B, rfl⟩
theorem uS.get {A B : List WI} (h : uS A B) {p : Nat} {i : WI} (hp : A[p]? = some i) : B[p]? = some i := by
 obtain ⟨C, rfl⟩ := h
 rw [List.getElem?_append_left (List.getElem?_eq_some_iff.1 hp).1]; exact hp
theorem aFV (N : Nat) : ∀ (d j : Nat), uS (c1 N j) (c1 N (j + d))
 | 0, j => uS.refl _
 | d + 1, j => (aFV N d j).trans (uS.app _ _)
theorem aDh (N : Nat) : ∀ (d j : Nat), uS (c2 N j) (c2 N (j + d))
 | 0, j => uS.refl _
 | d + 1, j => (aDh N d j).trans (uS.app _ _)
theorem aAs (N : Nat) : ∀ (d j : Nat), uS (c3 N j) (c3 N (j + d))
 | 0, j => uS.refl _
 | d + 1, j => (aAs N d j).trans (uS.app _ _)
theorem aLR {N j : Nat} (h : j ≤ N) : uS (c1 N j) (cY N) := by
 have h1 := aFV N (N - j) j
 rw [show j + (N - j) = N by omega] at h1
 have h2 := aDh N N 0
 have h3 := aAs N N 0
 rw [Nat.zero_add] at h2 h3
 exact ((h1.trans h2).trans h3).trans (uS.app _ _)
theorem aKN {N j : Nat} (h : j ≤ N) : uS (c2 N j) (cY N) := by
 have h2 := aDh N (N - j) j
 rw [show j + (N - j) = N by omega] at h2
 have h3 := aAs N N 0
 rw [Nat.zero_add] at h3
 exact (h2.trans h3).trans (uS.app _ _)
theorem aLS {N j : Nat} (h : j ≤ N) : uS (c3 N j) (cY N) := by
 have h3 := aAs N (N - j) j
 rw [show j + (N - j) = N by omega] at h3
 exact h3.trans (uS.app _ _)
theorem at1 {N j : Nat} (h : j < N) : At (cY N) j (ldI N j) := by
 refine (aLR (show j + 1 ≤ N by omega)).get ?_
 show (c1 N j ++ [ldI N j])[j]? = _
 rw [List.getElem?_append_right (by rw [vY]; exact Nat.le_refl _), vY, Nat.sub_self]; rfl
theorem aLP {N d : Nat} (h : d < N) : At (cY N) (N + 2 * d) (adI N (N - 1 - d)) := by
 refine (aKN (show d + 1 ≤ N by omega)).get ?_
 show (c2 N d ++ [adI N (N - 1 - d), muI N (N - 1 - d)])[N + 2 * d]? = _
 rw [List.getElem?_append_right (by rw [qP]; exact Nat.le_refl _), qP, Nat.sub_self]; rfl
theorem aLQ {N d : Nat} (h : d < N) : At (cY N) (N + 2 * d + 1) (muI N (N - 1 - d)) := by
 refine (aKN (show d + 1 ≤ N by omega)).get ?_
 show (c2 N d ++ [adI N (N - 1 - d), muI N (N - 1 - d)])[N + 2 * d + 1]? = _
 rw [List.getElem?_append_right (by rw [qP]; omega), qP, show N + 2 * d + 1 - (N + 2 * d) = 1 by omega]; rfl
theorem at3 {N t : Nat} (h : t < N) : At (cY N) (3 * N + t) (stI N t) := by
 refine (aLS (show t + 1 ≤ N by omega)).get ?_
 show (c3 N t ++ [stI N t])[3 * N + t]? = _
 rw [List.getElem?_append_right (by rw [oQ]; exact Nat.le_refl _), oQ, Nat.sub_self]; rfl
theorem at4 (N : Nat) : At (cY N) (4 * N) ⟨20, 0, 0, 0, 0, 0⟩ := by
 show (c3 N N ++ [_])[4 * N]? = _
 rw [List.getElem?_append_right (by rw [oQ]; omega), oQ, show 4 * N - (3 * N + N) = 0 by omega]; rfl
def wI (m : List Nat) (N : Nat) : Nat → Nat × List Nat
 | 0 => (0, m)
 | d + 1 => (((wI m N d).1 + m.getD (N - 1 - d) 0) % 18446744073709551616, (wI m N d).2.set (N - 1 - d) (m.getD (N - 1 - d) 0 * (((wI m N d).1 + m.getD (N - 1 - d) 0) % 18446744073709551616) % 18446744073709551616))
theorem qW (m : List Nat) (N : Nat) : ∀ d, (wI m N d).2.length = m.length
 | 0 => rfl
 | d + 1 => by simp [wI, qW m N d]
theorem aHO (m : List Nat) (N : Nat) (hN : N ≤ m.length) : ∀ d, d ≤ N → ∀ j, j < N - d → (wI m N d).2.getD j 0 = m.getD j 0
 | 0, _, j, _ => rfl
 | d + 1, h, j, hj => by
  show ((wI m N d).2.set (N - 1 - d) _).getD j 0 = _
  rw [eO _ _ _ _ (by rw [qW]; omega), if_neg (by omega)]
  exact aHO m N hN d (by omega) j (by omega)
theorem aEI (m : List Nat) (N : Nat) (hN : N ≤ m.length) : ∀ d, d ≤ N → ∀ j, N ≤ j → (wI m N d).2.getD j 0 = m.getD j 0
 | 0, _, j, _ => rfl
 | d + 1, h, j, hj => by
  show ((wI m N d).2.set (N - 1 - d) _).getD j 0 = _
  rw [eO _ _ _ _ (by rw [qW]; omega), if_neg (by omega)]
  exact aEI m N hN d (by omega) j hj
structure RY (N : Nat) (r : List Nat) (f : Nat → Nat) (z s : Nat) : Prop where
 len : r.length = N + 2
 lo : ∀ j, j < N → r.getD j 0 = f j
 z : r.getD N 0 = z
 s : r.getD (N + 1) 0 = s
theorem aJB (i : Nat) (h : i < 65536) : u64 (i : Int) = i := aBj i (by omega)
theorem aLq {N : Nat} {m : List Nat} {fuel : Int} (hN : N ≤ 60) (hm : m.length = 60) (hf : 4 * (N : Int) + 1 ≤ fuel) : ∀ j, j ≤ N → ∃ r lk, kC (cY N) fuel (s0 (N + 2) m) j ⟨r, j, 0, m, lk, j⟩ ∧ RY N r (fun i => if i < j then m.getD i 0 else 0) 0 0
 | 0, _ => by
  refine ⟨_, _, kC.refl, ⟨by simp, fun i hi => ?_, ?_, ?_⟩⟩
  ·rw [if_neg (by omega)]; exact jD _ _
  ·exact jD _ _
  ·exact jD _ _
 | j + 1, h => by
  obtain ⟨r, lk, g, hr⟩ := aLq hN hm hf j (by omega)
  have a := aFS (r := r) (cd := 0) (mem := m) (lk := lk) (st := j) (fuel := fuel) (y := j) (at1 (show j < N by omega)) (by
   show (r.getD ((N : Int)).toNat 0 + u64 (j : Int)) % 18446744073709551616 = j
   rw [Int.toNat_natCast, hr.z, aJB j (by omega)]; omega) (by omega) (by omega)
  rw [Int.toNat_natCast] at a
  have hl := hr.len
  refine ⟨_, _, g.trans a, ⟨by rw [List.length_set]; exact hl, fun i hi => ?_, ?_, ?_⟩⟩
  ·rw [eO _ _ _ _ (by omega)]
   by_cases e : j = i
   ·subst e; rw [if_pos rfl, if_pos (by omega)]
   ·rw [if_neg e, hr.lo i hi]
    by_cases e2 : i < j
    ·rw [if_pos e2, if_pos (by omega)]
    ·rw [if_neg e2, if_neg (by omega)]
  ·rw [eO _ _ _ _ (by omega), if_neg (by omega)]; exact hr.z
  ·rw [eO _ _ _ _ (by omega), if_neg (by omega)]; exact hr.s
theorem aLr {N : Nat} {m : List Nat} {fuel : Int} (hN : N ≤ 60) (hm : m.length = 60) (hf : 4 * (N : Int) + 1 ≤ fuel) : ∀ d, d ≤ N → ∃ r lk, kC (cY N) fuel (s0 (N + 2) m) (N + 2 * d) ⟨r, N + 2 * d, 0, m, lk, N + 2 * d⟩ ∧ RY N r (fun i => (wI m N d).2.getD i 0) 0 (wI m N d).1
 | 0, _ => by
  obtain ⟨r, lk, g, hr⟩ := aLq hN hm hf N (Nat.le_refl _)
  refine ⟨r, lk, g, ⟨hr.len, fun i hi => ?_, hr.z, hr.s⟩⟩
  rw [hr.lo i hi, if_pos hi]; rfl
 | d + 1, h => by
  obtain ⟨r, lk, g, hr⟩ := aLr hN hm hf d (by omega)
  have hl := hr.len
  have lo := aHO m N (by omega) d (by omega) (N - 1 - d) (by omega)
  have t1 : (((N + 1 : Nat) : Int)).toNat = N + 1 := Int.toNat_natCast _
  have a := qO (r := r) (cd := 0) (mem := m) (lk := lk) (st := N + 2 * d) (fuel := fuel) (x := ((wI m N d).1 + m.getD (N - 1 - d) 0) % 18446744073709551616) (aLP (show d < N by omega)) (by show (1 : Int) ≤ 3 ∧ (3 : Int) ≤ 14; decide) (by
   rw [aHN]
   unfold jB
   rw [t1, Int.toNat_natCast, hr.s, hr.lo _ (by omega), lo]) (by push_cast; omega)
  rw [t1] at a
  obtain ⟨r1, hr1⟩ : ∃ r1, r1 = r.set (N + 1) (((wI m N d).1 + m.getD (N - 1 - d) 0) % 18446744073709551616) := ⟨_, rfl⟩
  rw [← hr1] at a
  have g1 : ∀ i, r1.getD i 0 = if N + 1 = i then ((wI m N d).1 + m.getD (N - 1 - d) 0) % 18446744073709551616 else r.getD i 0 := fun i => by rw [hr1]; exact eO _ _ _ _ (by omega)
  have hl1 : r1.length = N + 2 := by rw [hr1, List.length_set]; exact hl
  have b := qO (r := r1) (cd := 0) (mem := m) (lk := lk ++ [(1, ((N + 2 * d : Nat) : Int))]) (st := N + 2 * d + 1) (fuel := fuel) (x := m.getD (N - 1 - d) 0 * (((wI m N d).1 + m.getD (N - 1 - d) 0) % 18446744073709551616) % 18446744073709551616) (aLQ (show d < N by omega)) (by show (1 : Int) ≤ 5 ∧ (5 : Int) ≤ 14; decide) (by
   rw [aKp]
   unfold jB
   rw [t1, Int.toNat_natCast, g1, g1, if_pos rfl, if_neg (by omega), hr.lo _ (by omega), lo]) (by push_cast; omega)
  rw [Int.toNat_natCast] at b
  have gg := (g.trans a).trans b
  rw [show N + 2 * d + 1 + 1 = N + 2 * (d + 1) by omega] at gg
  refine ⟨_, _, gg, ⟨by rw [List.length_set]; exact hl1, fun i hi => ?_, ?_, ?_⟩⟩
  ·show _ = ((wI m N d).2.set (N - 1 - d) _).getD i 0
   rw [eO _ _ _ _ (by omega), eO _ _ _ _ (by rw [qW]; omega)]
   by_cases e : N - 1 - d = i
   ·rw [if_pos e, if_pos e]
   ·rw [if_neg e, if_neg e, g1, if_neg (by omega)]; exact hr.lo i hi
  ·rw [eO _ _ _ _ (by omega), if_neg (by omega), g1, if_neg (by omega)]; exact hr.z
  ·rw [eO _ _ _ _ (by omega), if_neg (by omega), g1, if_pos rfl]; rfl
theorem aLs {N : Nat} {m : List Nat} {fuel : Int} (hN : N ≤ 60) (hm : m.length = 60) (hf : 4 * (N : Int) + 1 ≤ fuel) : ∀ t, t ≤ N → ∃ r mem lk, kC (cY N) fuel (s0 (N + 2) m) (3 * N + t) ⟨r, 3 * N + t, 0, mem, lk, 3 * N + t⟩ ∧ RY N r (fun i => (wI m N N).2.getD i 0) 0 (wI m N N).1 ∧ mem.length = 60 ∧ ∀ j, j < 60 → mem.getD j 0 = if j < t then (wI m N N).2.getD j 0 else m.getD j 0
 | 0, _ => by
  obtain ⟨r, lk, g, hr⟩ := aLr hN hm hf N (Nat.le_refl _)
  rw [show N + 2 * N = 3 * N + 0 by omega] at g
  exact ⟨r, m, lk, g, hr, hm, fun j _ => by rw [if_neg (by omega)]⟩
 | t + 1, h => by
  obtain ⟨r, mem, lk, g, hr, hml, hmem⟩ := aLs hN hm hf t (by omega)
  have a := aFT (r := r) (cd := 0) (mem := mem) (lk := lk) (st := 3 * N + t) (fuel := fuel) (y := t) (at3 (show t < N by omega)) (by
   show (r.getD ((N : Int)).toNat 0 + u64 (t : Int)) % 18446744073709551616 = t
   rw [Int.toNat_natCast, hr.z, aJB t (by omega)]; omega) (by omega) (by push_cast; omega)
  have ev : jB r (t : Int) = (wI m N N).2.getD t 0 := by
   unfold jB
   rw [Int.toNat_natCast]; exact hr.lo t (by omega)
  rw [ev] at a
  refine ⟨_, _, _, g.trans a, hr, by rw [List.length_set]; exact hml, fun j hj => ?_⟩
  rw [eO _ _ _ _ (by omega)]
  by_cases e : t = j
  ·subst e; rw [if_pos rfl, if_pos (by omega)]
  ·rw [if_neg e, hmem j hj]
   by_cases e2 : j < t
   ·rw [if_pos e2, if_pos (by omega)]
   ·rw [if_neg e2, if_neg (by omega)]
theorem aMi {N : Nat} {m : List Nat} (hN : N ≤ 60) (hm : m.length = 60) (f : Nat) : ∃ q, iR (cY N) (4 * (N : Int) + 1) (f + (4 * N + 1)) (s0 (N + 2) m) = some q ∧ q.code = 0 ∧ q.mem = (wI m N N).2 := by
 obtain ⟨r, mem, lk, g, hr, hml, hmem⟩ := aLs (fuel := 4 * (N : Int) + 1) hN hm (by omega) N (Nat.le_refl _)
 rw [show 3 * N + N = 4 * N by omega] at g
 have e := aFR (r := r) (cd := 0) (mem := mem) (lk := lk) (st := 4 * N) (fuel := 4 * (N : Int) + 1) (at4 N) (by push_cast; omega)
 refine ⟨_, g.ends e f, rfl, ?_⟩
 have hl : mem.length = (wI m N N).2.length := by rw [qW, hm, hml]
 refine List.ext_getElem hl fun i h1 h2 => ?_
 have h3 := hmem i (by omega)
 have h4 : (if i < N then (wI m N N).2.getD i 0 else m.getD i 0) = (wI m N N).2.getD i 0 := by
  by_cases e2 : i < N
  ·rw [if_pos e2]
  ·rw [if_neg e2, aEI m N (by omega) N (Nat.le_refl _) i (by omega)]
 rw [h4, List.getD_eq_getElem?_getD, List.getD_eq_getElem?_getD, List.getElem?_eq_getElem h1, List.getElem?_eq_getElem h2] at h3
 exact h3
theorem okY {N : Nat} (hN : 1 ≤ N) (hN2 : N ≤ 60) : iL (cY N) ((N + 2 : Nat) : Int) 60 = .ok := by
 have l1 : ∀ i n : Nat, i < N → fK (ldI N i) ((N + 2 : Nat) : Int) n = none := fun i n hi => by
  refine gT rfl ?_ ?_ (fun h h2 => ?_) (fun h => ?_) (fun _ => ?_) (fun h h2 => ?_)
  ·simp [ldI, jL, iW, dC, eH]
   repeat' apply aMP
   all_goals exact decide_eq_false (by omega)
  ·simp [ldI, jR, dC, eH]
  ·exact absurd h2 (by simp [ldI])
  ·exact absurd h (by simp [ldI])
  ·simp only [ldI]; omega
  ·exact absurd h (by simp [ldI])
 have l2 : ∀ i n : Nat, i < N → fK (adI N i) ((N + 2 : Nat) : Int) n = none := fun i n hi => by
  refine gT rfl ?_ ?_ (fun h h2 => ?_) (fun h => ?_) (fun h => ?_) (fun h h2 => ?_)
  ·simp [adI, jL, iW, dC, eH]
   repeat' apply aMP
   all_goals exact decide_eq_false (by omega)
  ·simp [adI, jR, dC, eH]
  ·exact absurd h (by simp [adI])
  ·exact absurd h (by simp [adI])
  ·exact absurd h (by simp [adI])
  ·exact absurd h (by simp [adI])
 have l3 : ∀ i n : Nat, i < N → fK (muI N i) ((N + 2 : Nat) : Int) n = none := fun i n hi => by
  refine gT rfl ?_ ?_ (fun h h2 => ?_) (fun h => ?_) (fun h => ?_) (fun h h2 => ?_)
  ·simp [muI, jL, iW, dC, eH]
   repeat' apply aMP
   all_goals exact decide_eq_false (by omega)
  ·simp [muI, jR, dC, eH]
  ·exact absurd h (by simp [muI])
  ·exact absurd h (by simp [muI])
  ·exact absurd h (by simp [muI])
  ·exact absurd h (by simp [muI])
 have l4 : ∀ i n : Nat, i < N → fK (stI N i) ((N + 2 : Nat) : Int) n = none := fun i n hi => by
  refine gT rfl ?_ ?_ (fun h h2 => ?_) (fun h => ?_) (fun _ => ?_) (fun h h2 => ?_)
  ·simp [stI, jL, iW, dC, eH]
   repeat' apply aMP
   all_goals exact decide_eq_false (by omega)
  ·simp [stI, jR, dC, eH]
  ·exact absurd h2 (by simp [stI])
  ·exact absurd h (by simp [stI])
  ·simp only [stI]; omega
  ·exact absurd h (by simp [stI])
 have m1 : ∀ j, j ≤ N → ∀ n : Nat, ∀ x ∈ c1 N j, fK x ((N + 2 : Nat) : Int) n = none := by
  intro j
  induction j with
  | zero => intro _ n x hx; cases hx
  | succ j ih =>
   intro h n x hx
   rcases List.mem_append.1 hx with hx | hx
   ·exact ih (by omega) n x hx
   ·rw [List.mem_singleton.1 hx]; exact l1 j n (by omega)
 have m2 : ∀ d, d ≤ N → ∀ n : Nat, ∀ x ∈ c2 N d, fK x ((N + 2 : Nat) : Int) n = none := by
  intro d
  induction d with
  | zero => intro _ n x hx; exact m1 N (Nat.le_refl _) n x hx
  | succ d ih =>
   intro h n x hx
   rcases List.mem_append.1 hx with hx | hx
   ·exact ih (by omega) n x hx
   ·rcases List.mem_cons.1 hx with hx | hx
    ·rw [hx]; exact l2 _ n (by omega)
    ·rw [List.mem_singleton.1 hx]; exact l3 _ n (by omega)
 have m3 : ∀ t, t ≤ N → ∀ n : Nat, ∀ x ∈ c3 N t, fK x ((N + 2 : Nat) : Int) n = none := by
  intro t
  induction t with
  | zero => intro _ n x hx; exact m2 N (Nat.le_refl _) n x hx
  | succ t ih =>
   intro h n x hx
   rcases List.mem_append.1 hx with hx | hx
   ·exact ih (by omega) n x hx
   ·rw [List.mem_singleton.1 hx]; exact l4 _ n (by omega)
 refine zL (by rw [aFW]; omega) (by omega) (by decide) fun x hx => ?_
 rcases List.mem_append.1 hx with hx | hx
 ·exact m3 N (Nat.le_refl _) _ x hx
 ·rw [List.mem_singleton.1 hx]
  refine gT rfl ?_ ?_ (fun h h2 => ?_) (fun h => ?_) (fun h => ?_) (fun h h2 => ?_)
  ·simp [jL, iW, dC, eH]
  ·simp [jR, dC, eH]
  ·exact absurd h2 (by simp)
  ·exact ⟨by decide, by decide⟩
  ·exact absurd h (by simp)
  ·exact absurd h2 (by simp)
def dQ (l : List Nat) : List AV := l.map fun n => Nn n
theorem fS (l : List Nat) : (dQ l).length = l.length := by simp [dQ]
theorem jN (n : Nat) (l : List Nat) : bX n (dQ l) = true := jI n _ (fun _ => rfl) l
theorem iV (l : List Nat) (j : Nat) (h : j < l.length) : (dQ l)[j]? = some (Nn (l.getD j 0)) := by
 unfold dQ
 rw [List.getElem?_map, List.getElem?_eq_getElem h, List.getD_eq_getElem?_getD, List.getElem?_eq_getElem h]; rfl
theorem tG (l : List Nat) (j x : Nat) : (dQ l).set j (Nn x) = dQ (l.set j x) := by
 unfold dQ
 rw [List.map_set]
structure SH (H : aB) (p q r n : Nat) (us : List Int) : Prop where
 hp : p < H.length
 pq : p ≠ q
 pr : p ≠ r
 hq : H[q]? = some ⟨49, 1, [.sl r n 0 n 1]⟩
 hr : H[r]? = some ⟨3, 1, us.map fun u => I6 u⟩
 hu : us.length = n
 hb : dB H.length H = true
def SO (H : aB) (p : Nat) (l : List Nat) : aB := H.set p ⟨3, 1, dQ l⟩
theorem gY (H : aB) (p : Nat) (l : List Nat) : (SO H p l).length = H.length := by simp [SO]
theorem zZ (H : aB) (p : Nat) (l m : List Nat) : (SO H p l).set p ⟨3, 1, dQ m⟩ = SO H p m := by simp [SO]
theorem aFM {H : aB} {p : Nat} (hp : p < H.length) (l : List Nat) : (SO H p l)[p]? = some ⟨3, 1, dQ l⟩ := by simp [SO, hp]
theorem aFL {H : aB} {p q : Nat} (h : p ≠ q) (l : List Nat) : (SO H p l)[q]? = H[q]? := by simp [SO, h]
theorem qI {n : Nat} {b : ABlk} (hb : bX n b.elems = true) : ∀ (H : aB) (p : Nat), dB n H = true → dB n (H.set p b) = true
 | [], p, h => by simp [dB]
 | x :: H, 0, h => by
  simp only [dB, Bool.and_eq_true] at h
  simp only [List.set_cons_zero, dB, hb, h.2, Bool.and_self]
 | x :: H, p + 1, h => by
  simp only [dB, Bool.and_eq_true] at h
  simp only [List.set_cons_succ, dB, h.1, qI hb H p h.2, Bool.and_self]
theorem fZ {H : aB} {p : Nat} (hb : dB H.length H = true) (l : List Nat) (xs : List AV) (hx : bX H.length xs = true) : fE H.length xs (SO H p l) = some (SO H p l) := by
 unfold fE
 have e : (SO H p l).take H.length = SO H p l := List.take_of_length_le (by rw [gY]; exact Nat.le_refl _)
 rw [e, hx]
 have : dB H.length (SO H p l) = true := qI (b := ⟨3, 1, dQ l⟩) (jN _ l) H p hb
 rw [this]; rfl
section
variable (G : aG) (k : Nat) (self : cD) {H : aB} {p q r n : Nat} {us : List Int} (hS : SH H p q r n us)
theorem jC {i : Nat} (h : i < n) : aM 1 (.sl p n 0 n 1) (Nn i) = some (.ptr p n i 0) := by
 unfold aM
 simp only [Int.toNat_natCast, Nat.zero_add]
 rw [if_pos (by omega), if_pos trivial]
include hS in
theorem jS {l : List Nat} (hl : l.length = n) {i : Nat} (h : i < n) : aF G false 1 (.ptr p n i 0) (SO H p l) = some (Nn (l.getD i 0)) := by
 unfold aF
 simp only [aFM hS.hp l, fS, hl, if_true, iV l i (by omega)]
 rfl
include hS in
theorem mI {l : List Nat} (hl : l.length = n) {i : Nat} (h : i < n) (x : Nat) : fM (aV 1 (.ptr p n i 0) (Nn x) (SO H p l)) = some (.tup [], SO H p (l.set i x)) := by
 have e : aV 1 (.ptr p n i 0) (Nn x) (SO H p l) = some (SO H p (l.set i x)) := by
  unfold aV
  simp only [aFM hS.hp l, fS, hl]
  rw [if_pos ⟨trivial, rfl, rfl⟩]
  simp only [iV l i (by omega)]
  rw [if_pos (by show 0 + 1 ≤ 1; omega)]
  have : kJ (Nn (l.getD i 0)) (kI (Nn (l.getD i 0)).cells 0 (Nn x).cells) = Nn x := rfl
  rw [this, tG, zZ]
 rw [e]; rfl
include hS in
theorem rM (l : List Nat) {a b : Nat} (ha : a < n) (hb : b < n) : ∃ c : Int, bB (bI.f G (k + 1)) [Nn a, Nn b, .ptr q 1 0 0] (SO H p l) = some (I6 c, SO H p l) := by
 have hu := hS.hu
 have u1 : ∀ a, a < n → (us.map fun u => I6 u)[a]? = some (I6 (us.getD a 0)) := fun a h => by
  rw [List.getElem?_map, List.getElem?_eq_getElem (by omega), List.getD_eq_getElem?_getD, List.getElem?_eq_getElem (by omega)]; rfl
 have l1 : aF G false 1 (.ptr q 1 0 0) (SO H p l) = some (.sl r n 0 n 1) := by
  unfold aF
  simp only [aFL hS.pq l, hS.hq]
  rfl
 have d1 : aM 1 (.sl r n 0 n 1) (Nn b) = some (.ptr r n b 0) := jC hb
 have d2 : aM 1 (.sl r n 0 n 1) (Nn a) = some (.ptr r n a 0) := jC ha
 have l2 : aF G false 1 (.ptr r n b 0) (SO H p l) = some (I6 (us.getD b 0)) := by
  unfold aF
  simp only [aFL hS.pr l, hS.hr, List.length_map, hu, if_true, u1 b hb]
  rfl
 have l3 : aF G false 1 (.ptr r n a 0) (SO H p l) = some (I6 (us.getD a 0)) := by
  unfold aF
  simp only [aFL hS.pr l, hS.hr, List.length_map, hu, if_true, u1 a ha]
  rfl
 refine ⟨IntKind.i64.wrap (us.getD b 0 - us.getD a 0), ?_⟩
 have b1 : aU Tryd.prog .sub 3 false (I6 (us.getD b 0)) (I6 (us.getD a 0)) = some (I6 (IntKind.i64.wrap (us.getD b 0 - us.getD a 0))) := mK _ _ _ _ _ _
 have fin : cA [I6 (IntKind.i64.wrap (us.getD b 0 - us.getD a 0))] H.length (SO H p l) = some (.ret, [I6 (IntKind.i64.wrap (us.getD b 0 - us.getD a 0))], SO H p l) := by
  unfold cA
  rw [fZ hS.hb l _ rfl]; rfl
 unfold bB
 have e : bI.f G (k + 1) [Nn a, Nn b, .ptr q 1 0 0] (SO H p l) = some (I6 (IntKind.i64.wrap (us.getD b 0 - us.getD a 0)), SO H p l) := by
  rw [bI.step]
  unfold bI.c
  rw [gY]
  generalize IntKind.i64.wrap (us.getD b 0 - us.getD a 0) = c at *
  refine gL ?_
  have fx := aMP l1 <| aMP d1 <| aMP d2 <| aMP l2 <| aMP l3 <| b1
  refine gE ?_
  exact oF fin
 rw [e]
 simp
abbrev dS (p n : Nat) : AV := .sl p n 0 n 1
abbrev cS (q : Nat) : AV := .fn 74 [.ptr q 1 0 0]
def kA (l : List Nat) (i j : Nat) : List Nat := (l.set i (l.getD j 0)).set j (l.getD i 0)
theorem nL (l : List Nat) (i j : Nat) : (kA l i j).length = l.length := by simp [kA]
theorem mB (l : List Nat) (i j : Nat) (hi : i < l.length) (hj : j < l.length) : (kA l i j).Perm l := by
 unfold kA
 rw [List.getD_eq_getElem?_getD, List.getD_eq_getElem?_getD, List.getElem?_eq_getElem hi, List.getElem?_eq_getElem hj]
 exact List.set_set_perm hi hj
theorem jY {l m : List Nat} {n : Nat} (h : m.Perm l) (hl : ∀ x ∈ l, x < n) : ∀ x ∈ m, x < n := fun x hx => hl x (h.subset hx)
theorem kM {l : List Nat} {n i : Nat} (hl : ∀ x ∈ l, x < n) (h : i < l.length) : l.getD i 0 < n := by
 rw [List.getD_eq_getElem?_getD, List.getElem?_eq_getElem h]
 exact hl _ (List.getElem_mem h)
def xs4 (p q n a b i j : Nat) : List AV := [dS p n, Nn a, Nn b, cS q, Nn i, Nn j]
def xs1 (p q n a b i : Nat) : List AV := [dS p n, Nn a, Nn b, cS q, Nn i]
include hS in
theorem aFt : q < H.length := by
 have := hS.hq
 exact (List.getElem?_eq_some_iff.1 this).1
include hS in
theorem aFE (a b i j : Nat) : bX H.length (xs4 p q n a b i j) = true := by
 have h1 : decide (p < H.length) = true := decide_eq_true hS.hp
 have h2 : decide (q < H.length) = true := decide_eq_true (aFt hS)
 simp only [xs4, dS, cS, bX, bW, h1, h2, Bool.and_self]
include hS in
theorem zP (a b i : Nat) : bX H.length (xs1 p q n a b i) = true := by
 have h1 : decide (p < H.length) = true := decide_eq_true hS.hp
 have h2 : decide (q < H.length) = true := decide_eq_true (aFt hS)
 simp only [xs1, dS, cS, bX, bW, h1, h2, Bool.and_self]
include hS in
theorem aGt (hn : n ≤ 1000) (a b i : Nat) : ∀ (j f : Nat) (l : List Nat), l.length = n → (∀ x ∈ l, x < n) → j < n → j < f →
  ∃ (j' : Nat) (l' : List Nat), cQ (aH.l4 G (k + 1) H.length self) f (xs4 p q n a b i j) (SO H p l) = some (.exit 2, xs4 p q n a b i j', SO H p l') ∧ l'.Perm l
 | j, 0, l, _, _, _, h => by omega
 | j, f + 1, l, hl, hx, hj, hf => by
  have hc : fE H.length (xs4 p q n a b i j) (SO H p l) = some (SO H p l) := fZ hS.hb l _ (aFE hS a b i j)
  by_cases ha : a < j
  ·have g1 : aU Tryd.prog .gtr 3 false (Nn j) (Nn a) = some (.bool true) := mR (by omega)
   have d1 : aM 1 (.sl p n 0 n 1) (Nn j) = some (.ptr p n j 0) := jC hj
   have d2 : aM 1 (.sl p n 0 n 1) (Nn (j - 1 : Nat)) = some (.ptr p n (j - 1) 0) := jC (by omega)
   have l1 := jS G hS hl hj
   have l2 := jS G hS hl (i := j - 1) (by omega)
   have m1 : aU Tryd.prog .sub 3 true (Nn j) (.int .i64 1) = some (Nn (j - 1 : Nat)) := by
    rw [mK, dH (by omega) (by omega)]; congr 2; omega
   obtain ⟨c, hcm⟩ := rM G k hS l (kM hx (i := j) (by omega)) (kM hx (i := j - 1) (by omega))
   have cv : kR (fJ (aH.env G (k + 1) self)) (cS q) [Nn (l.getD j 0), Nn (l.getD (j - 1) 0)] (SO H p l) = some (I6 c, SO H p l) := hcm
   have g2 : aU Tryd.prog .lss 3 true (I6 c) (.int .i64 0) = some (.bool (decide (c < 0))) := iA _ _ _ _ _ _
   by_cases hcn : c < 0
   ·rw [decide_eq_true hcn] at g2
    have s1 := mI hS hl hj (l.getD (j - 1) 0)
    have hl2 : (l.set j (l.getD (j - 1) 0)).length = n := by simp [hl]
    have s2 := mI hS hl2 (i := j - 1) (by omega) (l.getD j 0)
    have hsw : (l.set j (l.getD (j - 1) 0)).set (j - 1) (l.getD j 0) = kA l j (j - 1) := rfl
    rw [hsw] at s2
    have hp := mB l j (j - 1) (by omega) (by omega)
    obtain ⟨j', l', h1, h2⟩ := aGt hn a b i (j - 1) f (kA l j (j - 1)) (by rw [nL]; exact hl) (jY hp hx) (by omega) (by omega)
    refine ⟨j', l', ?_, h2.trans hp⟩
    rw [aY, aH.l4]
    refine fG ?_
    refine eC hc ?_
    unfold xs4 at h1 ⊢
    generalize kA l j (j - 1) = ls at *
    generalize l.getD j 0 = y1 at *
    generalize l.getD (j - 1) 0 = y2 at *
    have fx := aMP g1 <| aMP d1 <| aMP d2 <| aMP l1 <| aMP l2 <| aMP m1 <| aMP cv <| aMP g2 <| aMP s1 <| s2
    refine gE ?_
    exact h1
   ·rw [decide_eq_false hcn] at g2
    refine ⟨j, l, ?_, List.Perm.refl _⟩
    rw [aY, aH.l4]
    refine fG ?_
    refine eC hc ?_
    unfold xs4
    generalize l.getD j 0 = y1 at *
    generalize l.getD (j - 1) 0 = y2 at *
    have fx := aMP g1 <| aMP d1 <| aMP d2 <| aMP l1 <| aMP l2 <| aMP m1 <| aMP cv <| g2
    refine gE ?_
    refine fP ?_; rfl
  ·have g1 : aU Tryd.prog .gtr 3 false (Nn j) (Nn a) = some (.bool false) := iP (by omega)
   refine ⟨j, l, ?_, List.Perm.refl _⟩
   rw [aY, aH.l4]
   refine fG ?_
   refine eC hc ?_
   unfold xs4
   have fx := g1
   refine gE ?_
   refine fP ?_; rfl
end
section
variable (G : aG) (k : Nat) (self : cD) {H : aB} {p q r n : Nat} {us : List Int} (hS : SH H p q r n us)
theorem lQ {g : cD} {args : List AV} {l l' : List Nat} (h : g args (SO H p l) = some (.tup [], SO H p l')) : bB g args (SO H p l) = some (.tup [], SO H p l') := by
 unfold bB; rw [h]; simp only [gY, Nat.le_refl, if_true]
include hS in
theorem aBY (l : List Nat) : cA [] H.length (SO H p l) = some (.ret, [.tup []], SO H p l) := by
 unfold cA
 rw [fZ hS.hb l _ rfl]; rfl
include hS in
theorem aGs (hn : n ≤ 1000) (hk : n < k) (a b : Nat) (hb : b ≤ n) : ∀ (d i f : Nat) (l : List Nat), i + d = max i b → l.length = n → (∀ x ∈ l, x < n) → d < f →
  ∃ (i' : Nat) (l' : List Nat), cQ (aH.l1 G (k + 1) H.length self) f (xs1 p q n a b i) (SO H p l) = some (.exit 0, xs1 p q n a b i', SO H p l') ∧ l'.Perm l
 | d, i, 0, l, _, _, _, h => by omega
 | 0, i, f + 1, l, hd, hl, hx, hf => by
  have hc : fE H.length (xs1 p q n a b i) (SO H p l) = some (SO H p l) := fZ hS.hb l _ (zP hS a b i)
  have g1 : aU Tryd.prog .lss 3 false (Nn i) (Nn b) = some (.bool false) := fO (by omega)
  refine ⟨i, l, ?_, List.Perm.refl _⟩
  rw [aY, aH.l1]
  refine fG ?_
  refine eC hc ?_
  unfold xs1
  have fx := g1
  refine gE ?_
  refine fP ?_; rfl
 | d + 1, i, f + 1, l, hd, hl, hx, hf => by
  have hc : fE H.length (xs1 p q n a b i) (SO H p l) = some (SO H p l) := fZ hS.hb l _ (zP hS a b i)
  have hib : i < b := by omega
  have g1 : aU Tryd.prog .lss 3 false (Nn i) (Nn b) = some (.bool true) := fV (by omega)
  obtain ⟨j', l1, hl4, hp⟩ := aGt G k self hS hn a b i i (k + 1) l hl hx (by omega) (by omega)
  obtain ⟨i', l', h1, h2⟩ := aGs hn hk a b hb d (i + 1) f l1 (by omega) (by rw [hp.length_eq]; exact hl) (jY hp hx) (by omega)
  refine ⟨i', l', ?_, h2.trans hp⟩
  have q2 : aU Tryd.prog .add 3 true (Nn i) (.int .i64 1) = some (Nn (i + 1)) := by
   rw [gG, dH (by omega) (by omega)]; congr 2
  have hlen := gY H p l
  rw [aY, aH.l1]
  refine fG ?_
  refine eC hc ?_
  rw [← hlen] at hl4
  unfold xs1 at h1 ⊢
  unfold xs4 at hl4
  have fx := aMP g1 <| q2
  have lx1 := hl4
  refine gE ?_
  exact h1
include hS in
theorem aCi (hn : n ≤ 1000) (hk : n < k) (a b : Nat) (ha : a ≤ b) (hb : b ≤ n) (l : List Nat) (hl : l.length = n) (hx : ∀ x ∈ l, x < n) :
  ∃ l' : List Nat, bB (aH.f G (k + 2)) [dS p n, Nn a, Nn b, cS q] (SO H p l) = some (.tup [], SO H p l') ∧ l'.Perm l := by
 obtain ⟨i', l', h1, h2⟩ := aGs G k (aH.f G (k + 1)) hS hn hk a b hb (b - (a + 1)) (a + 1) (k + 1) l (by omega) hl hx (by omega)
 refine ⟨l', lQ ?_, h2⟩
 rw [aH.step]
 unfold aH.c
 rw [gY]
 have q1 : aU Tryd.prog .add 3 true (Nn a) (.int .i64 1) = some (Nn (a + 1 : Nat)) := by
  rw [gG, dH (by omega) (by omega)]; congr 2
 have fin := aBY hS l'
 unfold xs1 at h1
 have hlen := gY H p l
 refine gL ?_
 rw [← hlen] at h1
 have fx := q1
 have lx1 := h1
 refine gE ?_
 exact oF fin
include hS in
theorem zV (a b m i : Nat) : bX H.length [dS p n, Nn a, Nn b, Nn m, Nn i] = true := by
 have h1 : decide (p < H.length) = true := decide_eq_true hS.hp
 simp only [dS, bX, bW, h1, Bool.and_self]
include hS in
theorem aHH (hn : n ≤ 1000) (a b m : Nat) (ha : a + m ≤ n) (hb : b + m ≤ n) : ∀ (d i f : Nat) (l : List Nat), i + d = m → l.length = n → d < f →
  ∃ (i' : Nat) (l' : List Nat), cQ (aN.l1 G k H.length self) f [dS p n, Nn a, Nn b, Nn m, Nn i] (SO H p l) = some (.exit 0, [dS p n, Nn a, Nn b, Nn m, Nn i'], SO H p l') ∧ l'.Perm l
 | d, i, 0, l, _, _, h => by omega
 | 0, i, f + 1, l, hd, hl, hf => by
  have hc : fE H.length [dS p n, Nn a, Nn b, Nn m, Nn i] (SO H p l) = some (SO H p l) := fZ hS.hb l _ (zV hS a b m i)
  have g1 : aU Tryd.prog .lss 3 false (Nn i) (Nn m) = some (.bool false) := fO (by omega)
  refine ⟨i, l, ?_, List.Perm.refl _⟩
  rw [aY, aN.l1]
  refine fG ?_
  refine eC hc ?_
  have fx := g1
  refine gE ?_
  refine fP ?_; rfl
 | d + 1, i, f + 1, l, hd, hl, hf => by
  have hc : fE H.length [dS p n, Nn a, Nn b, Nn m, Nn i] (SO H p l) = some (SO H p l) := fZ hS.hb l _ (zV hS a b m i)
  have g1 : aU Tryd.prog .lss 3 false (Nn i) (Nn m) = some (.bool true) := fV (by omega)
  have e1 : aU Tryd.prog .add 3 false (Nn a) (Nn i) = some (Nn (a + i : Nat)) := by
   rw [gG, dH (by omega) (by omega)]; congr 2
  have e2 : aU Tryd.prog .add 3 false (Nn b) (Nn i) = some (Nn (b + i : Nat)) := by
   rw [gG, dH (by omega) (by omega)]; congr 2
  have e3 : aU Tryd.prog .add 3 true (Nn i) (.int .i64 1) = some (Nn (i + 1)) := by
   rw [gG, dH (by omega) (by omega)]; congr 2
  have d1 : aM 1 (.sl p n 0 n 1) (Nn (a + i : Nat)) = some (.ptr p n (a + i) 0) := jC (by omega)
  have d2 : aM 1 (.sl p n 0 n 1) (Nn (b + i : Nat)) = some (.ptr p n (b + i) 0) := jC (by omega)
  have l1 := jS G hS hl (i := a + i) (by omega)
  have l2 := jS G hS hl (i := b + i) (by omega)
  have s1 := mI hS hl (i := a + i) (by omega) (l.getD (b + i) 0)
  have hl2 : (l.set (a + i) (l.getD (b + i) 0)).length = n := by simp [hl]
  have s2 := mI hS hl2 (i := b + i) (by omega) (l.getD (a + i) 0)
  have hsw : (l.set (a + i) (l.getD (b + i) 0)).set (b + i) (l.getD (a + i) 0) = kA l (a + i) (b + i) := rfl
  rw [hsw] at s2
  have hp := mB l (a + i) (b + i) (by omega) (by omega)
  obtain ⟨i', l', h1, h2⟩ := aHH hn a b m ha hb d (i + 1) f (kA l (a + i) (b + i)) (by omega) (by rw [nL]; exact hl) (by omega)
  refine ⟨i', l', ?_, h2.trans hp⟩
  rw [aY, aN.l1]
  refine fG ?_
  refine eC hc ?_
  generalize kA l (a + i) (b + i) = ls at *
  generalize l.getD (a + i) 0 = y1 at *
  generalize l.getD (b + i) 0 = y2 at *
  have fx := aMP g1 <| aMP e1 <| aMP e2 <| aMP e3 <| aMP d1 <| aMP d2 <| aMP l1 <| aMP l2 <| aMP s1 <| s2
  refine gE ?_
  exact h1
include hS in
theorem xE (hn : n ≤ 1000) (hk : n < k) (a b m : Nat) (ha : a + m ≤ n) (hb : b + m ≤ n) (x : AV) (l : List Nat) (hl : l.length = n) :
  ∃ l' : List Nat, bB (aN.f G (k + 1)) [dS p n, Nn a, Nn b, Nn m, x] (SO H p l) = some (.tup [], SO H p l') ∧ l'.Perm l := by
 obtain ⟨i', l', h1, h2⟩ := aHH G k (aN.f G k) hS hn a b m ha hb m 0 k l (by omega) hl (by omega)
 refine ⟨l', lQ ?_, h2⟩
 rw [aN.step]
 unfold aN.c
 rw [gY]
 have fin := aBY hS l'
 have h1' : cQ (aN.l1 G k H.length (aN.f G k)) k [dS p n, Nn a, Nn b, Nn m, .int .i64 0] (SO H p l) = _ := h1
 refine gL ?_
 have fx := True.intro
 have lx1 := h1'
 refine gE ?_
 exact oF fin
end
section
variable (G : aG) (k : Nat) (self : cD) {H : aB} {p q r n : Nat} {us : List Int} (hS : SH H p q r n us)
theorem lV {c : Bool} {a b : Nat} (h : a + b ≤ 100000) : aU Tryd.prog .add 3 c (Nn a) (Nn b) = some (Nn (a + b : Nat)) := by
 rw [gG, dH (by omega) (by omega)]; congr 2
theorem jX {c : Bool} {a b : Nat} (h : b ≤ a) (h2 : a ≤ 100000) : aU Tryd.prog .sub 3 c (Nn a) (Nn b) = some (Nn (a - b : Nat)) := by
 rw [mK, dH (by omega) (by omega)]; congr 2; omega
theorem jW {c : Bool} {a : Nat} (h : a ≤ 100000) : aU Tryd.prog .add 3 c (Nn a) (.int .i64 1) = some (Nn (a + 1 : Nat)) := by
 rw [gG, dH (by omega) (by omega)]; congr 2
theorem vF {c : Bool} {a b : Nat} (h : a ≠ b) : aU Tryd.prog .neq 3 c (Nn a) (Nn b) = some (.bool true) := aAU (by omega)
theorem vE {c : Bool} {a b : Nat} (h : a = b) : aU Tryd.prog .neq 3 c (Nn a) (Nn b) = some (.bool false) := vM (by omega)
include hS in
theorem zU (m : Nat) (i j : Nat) : bX H.length [dS p n, Nn m, cS q, Nn i, Nn j] = true := by
 have h1 : decide (p < H.length) = true := decide_eq_true hS.hp
 have h2 : decide (q < H.length) = true := decide_eq_true (aFt hS)
 simp only [dS, cS, bX, bW, h1, h2, Bool.and_self]
include hS in
theorem aDG (hn : n ≤ 1000) (hk : n < k) (m : Nat) (hm : m ≤ n) : ∀ (f : Nat) (i j : Nat) (l : List Nat), 1 ≤ i → 1 ≤ j → i ≤ m → m + j ≤ n → i + j ≤ f → l.length = n →
  ∃ (i' : Nat) (l' : List Nat), cQ (aS.l2 G (k + 1) H.length self) f [dS p n, Nn m, cS q, Nn i, Nn j] (SO H p l) = some (.exit 0, [dS p n, Nn m, cS q, Nn i', Nn i'], SO H p l') ∧ l'.Perm l ∧ 1 ≤ i' ∧ i' ≤ m ∧ m + i' ≤ n
 | 0, i, j, l, h1, h2, _, _, h, _ => by omega
 | f + 1, i, j, l, h1, h2, h3, h4, h5, hl => by
  have hc : fE H.length [dS p n, Nn m, cS q, Nn i, Nn j] (SO H p l) = some (SO H p l) := fZ hS.hb l _ (zU hS m i j)
  by_cases hij : i = j
  ·subst hij
   have g1 : aU Tryd.prog .neq 3 false (Nn i) (Nn i) = some (.bool false) := vE rfl
   refine ⟨i, l, ?_, List.Perm.refl _, h1, h3, h4⟩
   rw [aY, aS.l2]
   refine fG ?_
   refine eC hc ?_
   have fx := g1
   refine gE ?_
   refine fP ?_; rfl
  ·have g1 : aU Tryd.prog .neq 3 false (Nn i) (Nn j) = some (.bool true) := vF hij
   have e1 : aU Tryd.prog .sub 3 false (Nn m) (Nn i) = some (Nn (m - i : Nat)) := jX h3 (by omega)
   by_cases hg : j < i
   ·have g2 : aU Tryd.prog .gtr 3 false (Nn i) (Nn j) = some (.bool true) := mR (by omega)
    have e2 : aU Tryd.prog .sub 3 false (Nn i) (Nn j) = some (Nn (i - j : Nat)) := jX (by omega) (by omega)
    obtain ⟨l1, w1, p1⟩ := xE G k hS hn hk (m - i) m j (by omega) (by omega) (cS q) l hl
    obtain ⟨i', l', w2, p2, p3⟩ := aDG hn hk m hm f (i - j) j l1 (by omega) h2 (by omega) h4 (by omega) (by rw [p1.length_eq]; exact hl)
    refine ⟨i', l', ?_, p2.trans p1, p3⟩
    rw [aY, aS.l2]
    refine fG ?_
    refine eC hc ?_
    have fx := aMP g1 <| aMP g2 <| aMP e1 <| aMP e2 <| w1
    refine gE ?_
    exact w2
   ·have g2 : aU Tryd.prog .gtr 3 false (Nn i) (Nn j) = some (.bool false) := iP (by omega)
    have e2 : aU Tryd.prog .sub 3 false (Nn j) (Nn i) = some (Nn (j - i : Nat)) := jX (by omega) (by omega)
    have e3 : aU Tryd.prog .add 3 false (Nn m) (Nn j) = some (Nn (m + j : Nat)) := lV (by omega)
    have e4 : aU Tryd.prog .sub 3 false (Nn (m + j : Nat)) (Nn i) = some (Nn (m + j - i : Nat)) := jX (by omega) (by omega)
    obtain ⟨l1, w1, p1⟩ := xE G k hS hn hk (m - i) (m + j - i) i (by omega) (by omega) (cS q) l hl
    obtain ⟨i', l', w2, p2, p3⟩ := aDG hn hk m hm f i (j - i) l1 h1 (by omega) h3 (by omega) (by omega) (by rw [p1.length_eq]; exact hl)
    refine ⟨i', l', ?_, p2.trans p1, p3⟩
    rw [aY, aS.l2]
    refine fG ?_
    refine eC hc ?_
    have fx := aMP g1 <| aMP g2 <| aMP e1 <| aMP e2 <| aMP e3 <| aMP e4 <| w1
    refine gE ?_
    exact w2
include hS in
theorem aHn (hn : n ≤ 1000) (hk : n < k) (a m b : Nat) (ha : a < m) (hm : m < b) (hb : b ≤ n) (l : List Nat) (hl : l.length = n) :
  ∃ l' : List Nat, bB (aS.f G (k + 2)) [dS p n, Nn a, Nn m, Nn b, cS q] (SO H p l) = some (.tup [], SO H p l') ∧ l'.Perm l := by
 obtain ⟨i', l1, w1, p1, p2, p3, p4⟩ := aDG G k (aS.f G (k + 1)) hS hn hk m (by omega) (k + 1) (m - a) (b - m) l (by omega) (by omega) (by omega) (by omega) (by omega) hl
 obtain ⟨l', w2, p5⟩ := xE G k hS hn hk (m - i') m i' (by omega) (by omega) (cS q) l1 (by rw [p1.length_eq]; exact hl)
 refine ⟨l', lQ ?_, p5.trans p1⟩
 rw [aS.step]
 unfold aS.c
 have e1 : aU Tryd.prog .sub 3 false (Nn m) (Nn a) = some (Nn (m - a : Nat)) := jX (by omega) (by omega)
 have e2 : aU Tryd.prog .sub 3 false (Nn b) (Nn m) = some (Nn (b - m : Nat)) := jX (by omega) (by omega)
 have e3 : aU Tryd.prog .sub 3 false (Nn m) (Nn i') = some (Nn (m - i' : Nat)) := jX (by omega) (by omega)
 have fin := aBY hS l'
 have hlen := gY H p l
 rw [← hlen] at w1 fin
 refine gL ?_
 have fx := aMP e1 <| aMP e2 <| aMP e3 <| w2
 have lx1 := w1
 refine gE ?_
 exact oF fin
theorem pV (i j : Nat) (h : i + j ≤ 100000) : dA .u64 (Nn (i + j : Nat)) = some (.int .u64 ((i + j : Nat) : Int)) ∧ aU Tryd.prog .shr 134 true (.int .u64 ((i + j : Nat) : Int)) (.int .u64 1) = some (.int .u64 (((i + j) / 2 : Nat) : Int)) ∧ dA .i64 (.int .u64 (((i + j) / 2 : Nat) : Int)) = some (Nn ((i + j) / 2 : Nat)) := by
 refine ⟨?_, ?_, ?_⟩
 ·have : IntKind.u64.wrap ((i + j : Nat) : Int) = ((i + j : Nat) : Int) := iJ (by omega) (by omega)
  simp only [dA, this]
 ·exact aBk Tryd.prog 134 true .u64 (i + j) 1 (by omega)
 ·have : IntKind.i64.wrap (((i + j) / 2 : Nat) : Int) = (((i + j) / 2 : Nat) : Int) := dH (by omega) (by omega)
  simp only [dA, this]
end
section
variable (G : aG) (k : Nat) (self : cD) {H : aB} {p q r n : Nat} {us : List Int} (hS : SH H p q r n us)
include hS in
theorem zS (m : Nat) (i j : Nat) : bX H.length [dS p n, Nn m, cS q, Nn i, Nn j] = true := zU hS m i j
include hS in
theorem aDN (hn : n ≤ 1000) (a : Nat) (ha : a < n) (l : List Nat) (hl : l.length = n) (hx : ∀ x ∈ l, x < n) : ∀ (f : Nat) (i j : Nat), i ≤ j → j ≤ n → j - i < f →
  ∃ (i' j' : Nat), cQ (aC.l3 G (k + 1) H.length self) f [dS p n, Nn a, cS q, Nn i, Nn j] (SO H p l) = some (.exit 0, [dS p n, Nn a, cS q, Nn i', Nn j'], SO H p l) ∧ i ≤ i' ∧ i' ≤ j
 | 0, i, j, _, _, h => by omega
 | f + 1, i, j, hij, hj, hf => by
  have hc : fE H.length [dS p n, Nn a, cS q, Nn i, Nn j] (SO H p l) = some (SO H p l) := fZ hS.hb l _ (zS hS a i j)
  by_cases h : i < j
  ·have g1 : aU Tryd.prog .lss 3 false (Nn i) (Nn j) = some (.bool true) := fV (by omega)
   have e1 : aU Tryd.prog .add 3 false (Nn i) (Nn j) = some (Nn (i + j : Nat)) := lV (by omega)
   obtain ⟨c1, c2, c3⟩ := pV i j (by omega)
   obtain ⟨m, hm⟩ : ∃ m, m = (i + j) / 2 := ⟨_, rfl⟩
   rw [← hm] at c2 c3
   have d1 : aM 1 (.sl p n 0 n 1) (Nn m) = some (.ptr p n m 0) := jC (by omega)
   have d2 : aM 1 (.sl p n 0 n 1) (Nn a) = some (.ptr p n a 0) := jC ha
   have l1 := jS G hS hl (i := m) (by omega)
   have l2 := jS G hS hl (i := a) ha
   obtain ⟨c, hcm⟩ := rM G k hS l (kM hx (i := m) (by omega)) (kM hx (i := a) (by omega))
   have cv : kR (fJ (aC.env G (k + 1) self)) (cS q) [Nn (l.getD m 0), Nn (l.getD a 0)] (SO H p l) = some (I6 c, SO H p l) := hcm
   have g2 : aU Tryd.prog .lss 3 true (I6 c) (.int .i64 0) = some (.bool (decide (c < 0))) := iA _ _ _ _ _ _
   have e2 : aU Tryd.prog .add 3 true (Nn m) (.int .i64 1) = some (Nn (m + 1 : Nat)) := jW (by omega)
   by_cases hcn : c < 0
   ·rw [decide_eq_true hcn] at g2
    obtain ⟨i', j', w, h1, h2⟩ := aDN hn a ha l hl hx f (m + 1) j (by omega) hj (by omega)
    refine ⟨i', j', ?_, by omega, by omega⟩
    rw [aY, aC.l3]
    refine fG ?_
    refine eC hc ?_
    generalize l.getD m 0 = y1 at *
    generalize l.getD a 0 = y2 at *
    have fx := aMP g1 <| aMP e1 <| aMP c1 <| aMP c2 <| aMP c3 <| aMP d1 <| aMP d2 <| aMP l1 <| aMP l2 <| aMP cv <| aMP g2 <| e2
    refine gE ?_
    exact w
   ·rw [decide_eq_false hcn] at g2
    obtain ⟨i', j', w, h1, h2⟩ := aDN hn a ha l hl hx f i m (by omega) (by omega) (by omega)
    refine ⟨i', j', ?_, by omega, by omega⟩
    rw [aY, aC.l3]
    refine fG ?_
    refine eC hc ?_
    generalize l.getD m 0 = y1 at *
    generalize l.getD a 0 = y2 at *
    have fx := aMP g1 <| aMP e1 <| aMP c1 <| aMP c2 <| aMP c3 <| aMP d1 <| aMP d2 <| aMP l1 <| aMP l2 <| aMP cv <| aMP g2 <| e2
    refine gE ?_
    exact w
  ·have g1 : aU Tryd.prog .lss 3 false (Nn i) (Nn j) = some (.bool false) := fO (by omega)
   refine ⟨i, j, ?_, by omega, by omega⟩
   rw [aY, aC.l3]
   refine fG ?_
   refine eC hc ?_
   have fx := g1
   refine gE ?_
   refine fP ?_; rfl
include hS in
theorem aBh (hn : n ≤ 1000) (a : Nat) (ha : a < n) (l : List Nat) (hl : l.length = n) (hx : ∀ x ∈ l, x < n) : ∀ (f : Nat) (i j : Nat), i ≤ j → j ≤ n → j - i < f →
  ∃ (i' j' : Nat), cQ (aC.l15 G (k + 1) H.length self) f [dS p n, Nn a, cS q, Nn i, Nn j] (SO H p l) = some (.exit 4, [dS p n, Nn a, cS q, Nn i', Nn j'], SO H p l) ∧ i ≤ i' ∧ i' ≤ j
 | 0, i, j, _, _, h => by omega
 | f + 1, i, j, hij, hj, hf => by
  have hc : fE H.length [dS p n, Nn a, cS q, Nn i, Nn j] (SO H p l) = some (SO H p l) := fZ hS.hb l _ (zS hS a i j)
  by_cases h : i < j
  ·have g1 : aU Tryd.prog .lss 3 false (Nn i) (Nn j) = some (.bool true) := fV (by omega)
   have e1 : aU Tryd.prog .add 3 false (Nn i) (Nn j) = some (Nn (i + j : Nat)) := lV (by omega)
   obtain ⟨c1, c2, c3⟩ := pV i j (by omega)
   obtain ⟨m, hm⟩ : ∃ m, m = (i + j) / 2 := ⟨_, rfl⟩
   rw [← hm] at c2 c3
   have d1 : aM 1 (.sl p n 0 n 1) (Nn m) = some (.ptr p n m 0) := jC (by omega)
   have d2 : aM 1 (.sl p n 0 n 1) (Nn a) = some (.ptr p n a 0) := jC ha
   have l1 := jS G hS hl (i := m) (by omega)
   have l2 := jS G hS hl (i := a) ha
   obtain ⟨c, hcm⟩ := rM G k hS l (kM hx (i := a) (by omega)) (kM hx (i := m) (by omega))
   have cv : kR (fJ (aC.env G (k + 1) self)) (cS q) [Nn (l.getD a 0), Nn (l.getD m 0)] (SO H p l) = some (I6 c, SO H p l) := hcm
   have g2 : aU Tryd.prog .lss 3 true (I6 c) (.int .i64 0) = some (.bool (decide (c < 0))) := iA _ _ _ _ _ _
   have e2 : aU Tryd.prog .add 3 true (Nn m) (.int .i64 1) = some (Nn (m + 1 : Nat)) := jW (by omega)
   by_cases hcn : c < 0
   ·rw [decide_eq_true hcn] at g2
    have g3 : un .not (.bool true) = some (.bool false) := rfl
    obtain ⟨i', j', w, h1, h2⟩ := aBh hn a ha l hl hx f i m (by omega) (by omega) (by omega)
    refine ⟨i', j', ?_, by omega, by omega⟩
    rw [aY, aC.l15]
    refine fG ?_
    refine eC hc ?_
    generalize l.getD m 0 = y1 at *
    generalize l.getD a 0 = y2 at *
    have fx := aMP g1 <| aMP e1 <| aMP c1 <| aMP c2 <| aMP c3 <| aMP d1 <| aMP d2 <| aMP l1 <| aMP l2 <| aMP cv <| aMP g2 <| aMP g3 <| e2
    refine gE ?_
    exact w
   ·rw [decide_eq_false hcn] at g2
    have g3 : un .not (.bool false) = some (.bool true) := rfl
    obtain ⟨i', j', w, h1, h2⟩ := aBh hn a ha l hl hx f (m + 1) j (by omega) hj (by omega)
    refine ⟨i', j', ?_, by omega, by omega⟩
    rw [aY, aC.l15]
    refine fG ?_
    refine eC hc ?_
    generalize l.getD m 0 = y1 at *
    generalize l.getD a 0 = y2 at *
    have fx := aMP g1 <| aMP e1 <| aMP c1 <| aMP c2 <| aMP c3 <| aMP d1 <| aMP d2 <| aMP l1 <| aMP l2 <| aMP cv <| aMP g2 <| aMP g3 <| e2
    refine gE ?_
    exact w
  ·have g1 : aU Tryd.prog .lss 3 false (Nn i) (Nn j) = some (.bool false) := fO (by omega)
   refine ⟨i, j, ?_, by omega, by omega⟩
   rw [aY, aC.l15]
   refine fG ?_
   refine eC hc ?_
   have fx := g1
   refine gE ?_
   refine fP ?_; rfl
include hS in
theorem aDS (a a2 a3 a5 a6 i j t : Nat) : bX H.length [dS p n, Nn a, Nn a2, Nn a3, cS q, Nn a5, Nn a6, Nn i, Nn j, Nn t] = true := by
 have h1 : decide (p < H.length) = true := decide_eq_true hS.hp
 have h2 : decide (q < H.length) = true := decide_eq_true (aFt hS)
 simp only [dS, cS, bX, bW, h1, h2, Bool.and_self]
include hS in
theorem aBi (hn : n ≤ 1000) (a a2 a3 a5 a6 t lo : Nat) (ht : t < n + lo) (l : List Nat) (hl : l.length = n) (hx : ∀ x ∈ l, x < n) : ∀ (f : Nat) (i j : Nat), lo ≤ i → i ≤ j → j ≤ t + 1 → j ≤ n → j - i < f →
  ∃ (i' j' : Nat), cQ (aC.l33 G (k + 1) H.length self) f [dS p n, Nn a, Nn a2, Nn a3, cS q, Nn a5, Nn a6, Nn i, Nn j, Nn t] (SO H p l) = some (.exit 8, [dS p n, Nn a, Nn a2, Nn a3, cS q, Nn a5, Nn a6, Nn i', Nn j', Nn t], SO H p l) ∧ i ≤ i' ∧ i' ≤ j
 | 0, i, j, _, _, _, _, h => by omega
 | f + 1, i, j, hlo, hij, hjt, hj, hf => by
  have hc : fE H.length [dS p n, Nn a, Nn a2, Nn a3, cS q, Nn a5, Nn a6, Nn i, Nn j, Nn t] (SO H p l) = some (SO H p l) := fZ hS.hb l _ (aDS hS a a2 a3 a5 a6 i j t)
  by_cases h : i < j
  ·have g1 : aU Tryd.prog .lss 3 false (Nn i) (Nn j) = some (.bool true) := fV (by omega)
   have e1 : aU Tryd.prog .add 3 false (Nn i) (Nn j) = some (Nn (i + j : Nat)) := lV (by omega)
   obtain ⟨c1, c2, c3⟩ := pV i j (by omega)
   obtain ⟨m, hm⟩ : ∃ m, m = (i + j) / 2 := ⟨_, rfl⟩
   rw [← hm] at c2 c3
   have d1 : aM 1 (.sl p n 0 n 1) (Nn m) = some (.ptr p n m 0) := jC (by omega)
   have e0 : aU Tryd.prog .sub 3 false (Nn t) (Nn m) = some (Nn (t - m : Nat)) := jX (by omega) (by omega)
   have d2 : aM 1 (.sl p n 0 n 1) (Nn (t - m : Nat)) = some (.ptr p n (t - m) 0) := jC (by omega)
   have l1 := jS G hS hl (i := m) (by omega)
   have l2 := jS G hS hl (i := t - m) (by omega)
   obtain ⟨c, hcm⟩ := rM G k hS l (kM hx (i := t - m) (by omega)) (kM hx (i := m) (by omega))
   have cv : kR (fJ (aC.env G (k + 1) self)) (cS q) [Nn (l.getD (t - m) 0), Nn (l.getD m 0)] (SO H p l) = some (I6 c, SO H p l) := hcm
   have g2 : aU Tryd.prog .lss 3 true (I6 c) (.int .i64 0) = some (.bool (decide (c < 0))) := iA _ _ _ _ _ _
   have e2 : aU Tryd.prog .add 3 true (Nn m) (.int .i64 1) = some (Nn (m + 1 : Nat)) := jW (by omega)
   by_cases hcn : c < 0
   ·rw [decide_eq_true hcn] at g2
    have g3 : un .not (.bool true) = some (.bool false) := rfl
    obtain ⟨i', j', w, h1, h2⟩ := aBi hn a a2 a3 a5 a6 t lo ht l hl hx f i m hlo (by omega) (by omega) (by omega) (by omega)
    refine ⟨i', j', ?_, by omega, by omega⟩
    rw [aY, aC.l33]
    refine fG ?_
    refine eC hc ?_
    generalize l.getD m 0 = y1 at *
    generalize l.getD (t - m) 0 = y2 at *
    have fx := aMP g1 <| aMP e0 <| aMP e1 <| aMP c1 <| aMP c2 <| aMP c3 <| aMP d1 <| aMP d2 <| aMP l1 <| aMP l2 <| aMP cv <| aMP g2 <| aMP g3 <| e2
    refine gE ?_
    exact w
   ·rw [decide_eq_false hcn] at g2
    have g3 : un .not (.bool false) = some (.bool true) := rfl
    obtain ⟨i', j', w, h1, h2⟩ := aBi hn a a2 a3 a5 a6 t lo ht l hl hx f (m + 1) j (by omega) (by omega) hjt hj (by omega)
    refine ⟨i', j', ?_, by omega, by omega⟩
    rw [aY, aC.l33]
    refine fG ?_
    refine eC hc ?_
    generalize l.getD m 0 = y1 at *
    generalize l.getD (t - m) 0 = y2 at *
    have fx := aMP g1 <| aMP e0 <| aMP e1 <| aMP c1 <| aMP c2 <| aMP c3 <| aMP d1 <| aMP d2 <| aMP l1 <| aMP l2 <| aMP cv <| aMP g2 <| aMP g3 <| e2
    refine gE ?_
    exact w
  ·have g1 : aU Tryd.prog .lss 3 false (Nn i) (Nn j) = some (.bool false) := fO (by omega)
   refine ⟨i, j, ?_, by omega, by omega⟩
   rw [aY, aC.l33]
   refine fG ?_
   refine eC hc ?_
   have fx := g1
   refine gE ?_
   refine fP ?_; rfl
include hS in
theorem qA (i j : Nat) : bX H.length [dS p n, Nn i, Nn j] = true := by
 have h1 : decide (p < H.length) = true := decide_eq_true hS.hp
 simp only [dS, bX, bW, h1, Bool.and_self]
include hS in
theorem aHI (hn : n ≤ 1000) (e : Nat) (h1e : 1 ≤ e) (he : e ≤ n) : ∀ (d i f : Nat) (l : List Nat), i + d = max i (e - 1) → l.length = n → d < f →
  ∃ (i' : Nat) (l' : List Nat), cQ (aC.l9 G k H.length self) f [dS p n, Nn e, Nn i] (SO H p l) = some (.exit 2, [dS p n, Nn e, Nn i'], SO H p l') ∧ l'.Perm l
 | d, i, 0, l, _, _, h => by omega
 | 0, i, f + 1, l, hd, hl, hf => by
  have hc : fE H.length [dS p n, Nn e, Nn i] (SO H p l) = some (SO H p l) := fZ hS.hb l _ (qA hS e i)
  have e1 : aU Tryd.prog .sub 3 true (Nn e) (.int .i64 1) = some (Nn (e - 1 : Nat)) := jX (b := 1) (by omega) (by omega)
  have g1 : aU Tryd.prog .lss 3 false (Nn i) (Nn (e - 1 : Nat)) = some (.bool false) := fO (by omega)
  refine ⟨i, l, ?_, List.Perm.refl _⟩
  rw [aY, aC.l9]
  refine fG ?_
  refine eC hc ?_
  have fx := aMP e1 <| g1
  refine gE ?_
  refine fP ?_; rfl
 | d + 1, i, f + 1, l, hd, hl, hf => by
  have hc : fE H.length [dS p n, Nn e, Nn i] (SO H p l) = some (SO H p l) := fZ hS.hb l _ (qA hS e i)
  have e1 : aU Tryd.prog .sub 3 true (Nn e) (.int .i64 1) = some (Nn (e - 1 : Nat)) := jX (b := 1) (by omega) (by omega)
  have g1 : aU Tryd.prog .lss 3 false (Nn i) (Nn (e - 1 : Nat)) = some (.bool true) := fV (by omega)
  have e2 : aU Tryd.prog .add 3 true (Nn i) (.int .i64 1) = some (Nn (i + 1 : Nat)) := jW (by omega)
  have d1 : aM 1 (.sl p n 0 n 1) (Nn i) = some (.ptr p n i 0) := jC (by omega)
  have d2 : aM 1 (.sl p n 0 n 1) (Nn (i + 1 : Nat)) = some (.ptr p n (i + 1) 0) := jC (by omega)
  have l1 := jS G hS hl (i := i) (by omega)
  have l2 := jS G hS hl (i := i + 1) (by omega)
  have s1 := mI hS hl (i := i) (by omega) (l.getD (i + 1) 0)
  have hl2 : (l.set i (l.getD (i + 1) 0)).length = n := by simp [hl]
  have s2 := mI hS hl2 (i := i + 1) (by omega) (l.getD i 0)
  have hsw : (l.set i (l.getD (i + 1) 0)).set (i + 1) (l.getD i 0) = kA l i (i + 1) := rfl
  rw [hsw] at s2
  have hp := mB l i (i + 1) (by omega) (by omega)
  obtain ⟨i', l', h1, h2⟩ := aHI hn e h1e he d (i + 1) f (kA l i (i + 1)) (by omega) (by rw [nL]; exact hl) (by omega)
  refine ⟨i', l', ?_, h2.trans hp⟩
  rw [aY, aC.l9]
  refine fG ?_
  refine eC hc ?_
  generalize kA l i (i + 1) = ls at *
  generalize l.getD i 0 = y1 at *
  generalize l.getD (i + 1) 0 = y2 at *
  have fx := aMP e1 <| aMP g1 <| aMP e2 <| aMP d1 <| aMP d2 <| aMP l1 <| aMP l2 <| aMP s1 <| s2
  refine gE ?_
  exact h1
include hS in
theorem aEE (hn : n ≤ 1000) (m : Nat) : ∀ (d i f : Nat) (l : List Nat), i + 0 = max i m → i - m = d → i < n → l.length = n → d < f →
  ∃ (i' : Nat) (l' : List Nat), cQ (aC.l21 G k H.length self) f [dS p n, Nn m, Nn i] (SO H p l) = some (.exit 6, [dS p n, Nn m, Nn i'], SO H p l') ∧ l'.Perm l
 | d, i, 0, l, _, _, _, _, h => by omega
 | 0, i, f + 1, l, hm, hd, hi, hl, hf => by
  have hc : fE H.length [dS p n, Nn m, Nn i] (SO H p l) = some (SO H p l) := fZ hS.hb l _ (qA hS m i)
  have g1 : aU Tryd.prog .gtr 3 false (Nn i) (Nn m) = some (.bool false) := iP (by omega)
  refine ⟨i, l, ?_, List.Perm.refl _⟩
  rw [aY, aC.l21]
  refine fG ?_
  refine eC hc ?_
  have fx := g1
  refine gE ?_
  refine fP ?_; rfl
 | d + 1, i, f + 1, l, hm, hd, hi, hl, hf => by
  have hc : fE H.length [dS p n, Nn m, Nn i] (SO H p l) = some (SO H p l) := fZ hS.hb l _ (qA hS m i)
  have g1 : aU Tryd.prog .gtr 3 false (Nn i) (Nn m) = some (.bool true) := mR (by omega)
  have e2 : aU Tryd.prog .sub 3 true (Nn i) (.int .i64 1) = some (Nn (i - 1 : Nat)) := jX (b := 1) (by omega) (by omega)
  have d1 : aM 1 (.sl p n 0 n 1) (Nn i) = some (.ptr p n i 0) := jC (by omega)
  have d2 : aM 1 (.sl p n 0 n 1) (Nn (i - 1 : Nat)) = some (.ptr p n (i - 1) 0) := jC (by omega)
  have l1 := jS G hS hl (i := i) (by omega)
  have l2 := jS G hS hl (i := i - 1) (by omega)
  have s1 := mI hS hl (i := i) (by omega) (l.getD (i - 1) 0)
  have hl2 : (l.set i (l.getD (i - 1) 0)).length = n := by simp [hl]
  have s2 := mI hS hl2 (i := i - 1) (by omega) (l.getD i 0)
  have hsw : (l.set i (l.getD (i - 1) 0)).set (i - 1) (l.getD i 0) = kA l i (i - 1) := rfl
  rw [hsw] at s2
  have hp := mB l i (i - 1) (by omega) (by omega)
  obtain ⟨i', l', h1, h2⟩ := aEE hn m d (i - 1) f (kA l i (i - 1)) (by omega) (by omega) (by omega) (by rw [nL]; exact hl) (by omega)
  refine ⟨i', l', ?_, h2.trans hp⟩
  rw [aY, aC.l21]
  refine fG ?_
  refine eC hc ?_
  generalize kA l i (i - 1) = ls at *
  generalize l.getD i 0 = y1 at *
  generalize l.getD (i - 1) 0 = y2 at *
  have fx := aMP g1 <| aMP e2 <| aMP d1 <| aMP d2 <| aMP l1 <| aMP l2 <| aMP s1 <| s2
  refine gE ?_
  exact h1
end
section
variable (G : aG) {H : aB} {p q r n : Nat} {us : List Int} (hS : SH H p q r n us)
theorem aAN {c : Bool} {a b : Nat} (h : a = b) : aU Tryd.prog .eql 3 c (Nn a) (Nn b) = some (.bool true) := mQ (by omega)
theorem aAM {c : Bool} {a b : Nat} (h : a ≠ b) : aU Tryd.prog .eql 3 c (Nn a) (Nn b) = some (.bool false) := gN (by omega)
theorem tO (s m e : Nat) :
  (s < m ∧ m < e ∧ aU Tryd.prog .lss 3 false (Nn s) (Nn m) = some (.bool true) ∧ aU Tryd.prog .lss 3 false (Nn m) (Nn e) = some (.bool true))
  ∨ (¬ (s < m ∧ m < e) ∧ aU Tryd.prog .lss 3 false (Nn s) (Nn m) = some (.bool true) ∧ aU Tryd.prog .lss 3 false (Nn m) (Nn e) = some (.bool false))
  ∨ (¬ (s < m ∧ m < e) ∧ aU Tryd.prog .lss 3 false (Nn s) (Nn m) = some (.bool false)) := by
 by_cases h1 : s < m
 ·by_cases h2 : m < e
  ·exact .inl ⟨h1, h2, fV (by omega), fV (by omega)⟩
  ·exact .inr (.inl ⟨by omega, fV (by omega), fO (by omega)⟩)
 ·exact .inr (.inr ⟨by omega, fO (by omega)⟩)
include hS in
theorem sP (hn : n ≤ 1000) : ∀ (d k a m b : Nat) (l : List Nat), b - a ≤ d → n + d < k → a < m → m < b → b ≤ n → l.length = n → (∀ x ∈ l, x < n) →
  ∃ l' : List Nat, bB (aC.f G (k + 3)) [dS p n, Nn a, Nn m, Nn b, cS q] (SO H p l) = some (.tup [], SO H p l') ∧ l'.Perm l
 | 0, k, a, m, b, l, hd, hk, ha, hm, hb, hl, hx => by omega
 | d + 1, 0, a, m, b, l, hd, hk, ha, hm, hb, hl, hx => by omega
 | d + 1, k + 1, a, m, b, l, hd, hk, ha, hm, hb, hl, hx => by
  have hlen := gY H p l
  have e1 : aU Tryd.prog .sub 3 false (Nn m) (Nn a) = some (Nn (m - a : Nat)) := jX (by omega) (by omega)
  have e2 : aU Tryd.prog .sub 3 false (Nn b) (Nn m) = some (Nn (b - m : Nat)) := jX (by omega) (by omega)
  by_cases h1 : m - a = 1
  ·have g1 : aU Tryd.prog .eql 3 true (Nn (m - a : Nat)) (.int .i64 1) = some (.bool true) := aAN h1
   obtain ⟨i', j', w1, hi1, hi2⟩ := aDN G (k + 2) (aC.f G (k + 3)) hS hn a (by omega) l hl hx (k + 3) m b (by omega) hb (by omega)
   obtain ⟨i2, l', w2, hp⟩ := aHI G (k + 3) (aC.f G (k + 3)) hS hn i' (by omega) (by omega) (max a (i' - 1) - a) a (k + 3) l (by omega) hl (by omega)
   refine ⟨l', lQ ?_, hp⟩
   rw [aC.step]
   unfold aC.c
   have fin := aBY hS l'
   rw [← hlen] at w1 w2 fin
   refine gL ?_
   have fx := aMP e1 <| g1
   have lx1 := w1
   have lx2 := w2
   refine gE ?_
   exact oF fin
  ·have g1 : aU Tryd.prog .eql 3 true (Nn (m - a : Nat)) (.int .i64 1) = some (.bool false) := aAM h1
   by_cases h2 : b - m = 1
   ·have g2 : aU Tryd.prog .eql 3 true (Nn (b - m : Nat)) (.int .i64 1) = some (.bool true) := aAN h2
    obtain ⟨i', j', w1, hi1, hi2⟩ := aBh G (k + 2) (aC.f G (k + 3)) hS hn m (by omega) l hl hx (k + 3) a m (by omega) (by omega) (by omega)
    obtain ⟨i2, l', w2, hp⟩ := aEE G (k + 3) (aC.f G (k + 3)) hS hn i' (m - i') m (k + 3) l (by omega) rfl (by omega) hl (by omega)
    refine ⟨l', lQ ?_, hp⟩
    rw [aC.step]
    unfold aC.c
    have fin := aBY hS l'
    rw [← hlen] at w1 w2 fin
    refine gL ?_
    have fx := aMP e1 <| aMP e2 <| aMP g1 <| g2
    have lx1 := w1
    have lx2 := w2
    refine gE ?_
    exact oF fin
   ·have g2 : aU Tryd.prog .eql 3 true (Nn (b - m : Nat)) (.int .i64 1) = some (.bool false) := aAM h2
    have e3 : aU Tryd.prog .add 3 false (Nn a) (Nn b) = some (Nn (a + b : Nat)) := lV (by omega)
    obtain ⟨c1, c2, c3⟩ := pV a b (by omega)
    obtain ⟨mid, hmid⟩ : ∃ mid, mid = (a + b) / 2 := ⟨_, rfl⟩
    rw [← hmid] at c2 c3
    have e4 : aU Tryd.prog .add 3 false (Nn mid) (Nn m) = some (Nn (mid + m : Nat)) := lV (by omega)
    obtain ⟨nn, hnn⟩ : ∃ nn, nn = mid + m := ⟨_, rfl⟩
    rw [← hnn] at e4
    have e6 : aU Tryd.prog .sub 3 true (Nn nn) (.int .i64 1) = some (Nn (nn - 1 : Nat)) := jX (b := 1) (by omega) (by omega)
    obtain ⟨st, r0, hst, hlo⟩ : ∃ st r0 : Nat, ((aU Tryd.prog .gtr 3 false (Nn m) (Nn mid) = some (.bool true) ∧ aU Tryd.prog .sub 3 false (Nn nn) (Nn b) = some (Nn st) ∧ r0 = mid) ∨ (aU Tryd.prog .gtr 3 false (Nn m) (Nn mid) = some (.bool false) ∧ True ∧ r0 = m ∧ st = a))
      ∧ (st ≤ r0 ∧ r0 ≤ m ∧ r0 ≤ mid ∧ nn ≤ n + st ∧ a ≤ st ∧ nn ≤ st + b ∧ m ≤ nn - r0 ∧ mid ≤ nn - r0) := by
     by_cases hg : mid < m
     ·refine ⟨nn - b, mid, .inl ⟨mR (by omega), jX (by omega) (by omega), rfl⟩, by omega, by omega, by omega, by omega, by omega, by omega, by omega, by omega⟩
     ·refine ⟨a, m, .inr ⟨iP (by omega), trivial, rfl, rfl⟩, by omega, by omega, by omega, by omega, by omega, by omega, by omega, by omega⟩
    obtain ⟨l1, l2, l3, l4, l5, l6, l7, l8⟩ := hlo
    obtain ⟨s, j', w1, hs1, hs2⟩ := aBi G (k + 2) (aC.f G (k + 3)) hS hn a m b mid nn (nn - 1) st (by omega) l hl hx (k + 3) st r0 (by omega) l1 (by omega) (by omega) (by omega)
    have e7 : aU Tryd.prog .sub 3 false (Nn nn) (Nn s) = some (Nn (nn - s : Nat)) := jX (by omega) (by omega)
    obtain ⟨e, he⟩ : ∃ e, e = nn - s := ⟨_, rfl⟩
    rw [← he] at e7
    obtain ⟨la, pa, ca⟩ : ∃ la : List Nat, la.Perm l ∧ ((aU Tryd.prog .lss 3 false (Nn s) (Nn m) = some (.bool true) ∧ aU Tryd.prog .lss 3 false (Nn m) (Nn e) = some (.bool true) ∧ bB (aS.f G (k + 3)) [dS p n, Nn s, Nn m, Nn e, cS q] (SO H p l) = some (.tup [], SO H p la))
      ∨ (aU Tryd.prog .lss 3 false (Nn s) (Nn m) = some (.bool true) ∧ aU Tryd.prog .lss 3 false (Nn m) (Nn e) = some (.bool false) ∧ True ∧ la = l) ∨ (aU Tryd.prog .lss 3 false (Nn s) (Nn m) = some (.bool false) ∧ True ∧ True ∧ la = l)) := by
     rcases tO s m e with ⟨x1, x2, x3, x4⟩ | ⟨x1, x2, x3⟩ | ⟨x1, x2⟩
     ·obtain ⟨la, wa, pa⟩ := aHn G (k + 1) hS hn (by omega) s m e x1 x2 (by omega) l hl
      exact ⟨la, pa, .inl ⟨x3, x4, wa⟩⟩
     ·exact ⟨l, List.Perm.refl _, .inr (.inl ⟨x2, x3, trivial, rfl⟩)⟩
     ·exact ⟨l, List.Perm.refl _, .inr (.inr ⟨x2, trivial, trivial, rfl⟩)⟩
    have hla : la.length = n := by rw [pa.length_eq]; exact hl
    have hxa := jY pa hx
    obtain ⟨lb, pb, cb⟩ : ∃ lb : List Nat, lb.Perm la ∧ ((aU Tryd.prog .lss 3 false (Nn a) (Nn s) = some (.bool true) ∧ aU Tryd.prog .lss 3 false (Nn s) (Nn mid) = some (.bool true) ∧ bB (aC.f G (k + 3)) [dS p n, Nn a, Nn s, Nn mid, cS q] (SO H p la) = some (.tup [], SO H p lb))
      ∨ (aU Tryd.prog .lss 3 false (Nn a) (Nn s) = some (.bool true) ∧ aU Tryd.prog .lss 3 false (Nn s) (Nn mid) = some (.bool false) ∧ True ∧ lb = la) ∨ (aU Tryd.prog .lss 3 false (Nn a) (Nn s) = some (.bool false) ∧ True ∧ True ∧ lb = la)) := by
     rcases tO a s mid with ⟨x1, x2, x3, x4⟩ | ⟨x1, x2, x3⟩ | ⟨x1, x2⟩
     ·obtain ⟨lb, wb, pb⟩ := sP hn d k a s mid la (by omega) (by omega) x1 x2 (by omega) hla hxa
      exact ⟨lb, pb, .inl ⟨x3, x4, wb⟩⟩
     ·exact ⟨la, List.Perm.refl _, .inr (.inl ⟨x2, x3, trivial, rfl⟩)⟩
     ·exact ⟨la, List.Perm.refl _, .inr (.inr ⟨x2, trivial, trivial, rfl⟩)⟩
    have hlb : lb.length = n := by rw [pb.length_eq]; exact hla
    have hxb := jY pb hxa
    obtain ⟨lc, pc, cc⟩ : ∃ lc : List Nat, lc.Perm lb ∧ ((aU Tryd.prog .lss 3 false (Nn mid) (Nn e) = some (.bool true) ∧ aU Tryd.prog .lss 3 false (Nn e) (Nn b) = some (.bool true) ∧ bB (aC.f G (k + 3)) [dS p n, Nn mid, Nn e, Nn b, cS q] (SO H p lb) = some (.tup [], SO H p lc))
      ∨ (aU Tryd.prog .lss 3 false (Nn mid) (Nn e) = some (.bool true) ∧ aU Tryd.prog .lss 3 false (Nn e) (Nn b) = some (.bool false) ∧ True ∧ lc = lb) ∨ (aU Tryd.prog .lss 3 false (Nn mid) (Nn e) = some (.bool false) ∧ True ∧ True ∧ lc = lb)) := by
     rcases tO mid e b with ⟨x1, x2, x3, x4⟩ | ⟨x1, x2, x3⟩ | ⟨x1, x2⟩
     ·obtain ⟨lc, wc, pc⟩ := sP hn d k mid e b lb (by omega) (by omega) x1 x2 hb hlb hxb
      exact ⟨lc, pc, .inl ⟨x3, x4, wc⟩⟩
     ·exact ⟨lb, List.Perm.refl _, .inr (.inl ⟨x2, x3, trivial, rfl⟩)⟩
     ·exact ⟨lb, List.Perm.refl _, .inr (.inr ⟨x2, trivial, trivial, rfl⟩)⟩
    refine ⟨lc, lQ ?_, (pc.trans pb).trans pa⟩
    rw [aC.step]
    unfold aC.c
    have fin := aBY hS lc
    rw [← hlen] at w1 fin
    refine gL ?_
    clear hn hd hk ha hm hb hl hx h1 h2 hmid hnn l1 l2 l3 l4 l5 l6 l7 l8 hs1 hs2 he pa hla hxa pb hlb hxb pc
    have lx1 := w1
    rcases hst with ⟨g3, e5, rfl⟩ | ⟨g3, e5, rfl, rfl⟩ <;>
     rcases ca with ⟨g5, g6, wa⟩ | ⟨g5, g6, wa, rfl⟩ | ⟨g5, g6, wa, rfl⟩ <;>
     rcases cb with ⟨g7, g8, wb⟩ | ⟨g7, g8, wb, rfl⟩ | ⟨g7, g8, wb, rfl⟩ <;>
     rcases cc with ⟨g9, g10, wc⟩ | ⟨g9, g10, wc, rfl⟩ | ⟨g9, g10, wc, rfl⟩
    all_goals have fx := aMP e1 <| aMP e2 <| aMP e3 <| aMP c1 <| aMP c2 <| aMP c3 <| aMP e4 <| aMP e5 <| aMP e6 <| aMP e7 <| aMP g1 <| aMP g2 <| aMP g3 <| aMP g5 <| aMP g6 <| aMP g7 <| aMP g8 <| aMP g9 <| aMP g10 <| aMP wa <| aMP wb <| wc
    all_goals refine gE ?_
    all_goals exact oF fin
end
structure AX where
 bor : Bool
 ws : List WI
 R : Nat
 L : LY
 us : List Int
 o : List Nat
structure LS where
 out : List WI
 place : List Nat
def LS.put (s : LS) (l : List WI) : LS := { s with out := s.out ++ l }
theorem lG (s : LS) (l m : List WI) : (s.put l).put m = s.put (l ++ m) := by simp [LS.put]
theorem aEs (s : LS) : s.put [] = s := by simp [LS.put]
def AX.cv (A : AX) : AV := cV A.bor A.ws A.R A.L.M
def AX.box (A : AX) (s : LS) : AV := .agg [.ro A.bor (bO A.ws), Nn A.R, Nn A.L.M, .sl 6 A.R 0 A.R 1, .sl 7 A.R 0 A.R 1, .sl 8 s.out.length 0 s.out.length 6, .sl 9 s.place.length 0 s.place.length 1]
def AX.hp (A : AX) (s : LS) (T : aB) : aB :=
 ⟨27, 3, [A.cv]⟩ :: ⟨27, 3, [.agg [.nils, .int .i64 0, .int .i64 0]]⟩ :: ⟨86, 7, [A.box s]⟩ :: ⟨3, 1, A.us.map fun u => I6 u⟩ :: ⟨49, 1, [.sl 3 A.R 0 A.R 1]⟩ :: ⟨3, 1, dQ A.o⟩ :: ⟨3, 1, dQ A.L.slot⟩ :: ⟨3, 1, dQ A.L.word⟩ :: ⟨29, 6, bO s.out⟩ :: ⟨3, 1, dQ s.place⟩ :: T
structure AX.W (A : AX) : Prop where
 sl : A.L.slot.length = A.R
 wd : A.L.word.length = A.R
abbrev BX : AV := .ptr 2 1 0 0
def Pl (T : aB) : Prop := ∀ n, dB n T = true
theorem aCj (n : Nat) (l : List Int) : bX n (l.map fun u => I6 u) = true := jI n _ (fun _ => rfl) l
section
variable (A : AX) (s : LS) (T : aB)
theorem jV : (A.hp s T).length = T.length + 10 := rfl
theorem aGl (hT : Pl T) (n : Nat) (hn : 10 ≤ n) : dB n (A.hp s T) = true := by
 have h3 : decide (3 < n) = true := decide_eq_true (by omega)
 have h6 : decide (6 < n) = true := decide_eq_true (by omega)
 have h7 : decide (7 < n) = true := decide_eq_true (by omega)
 have h8 : decide (8 < n) = true := decide_eq_true (by omega)
 have h9 : decide (9 < n) = true := decide_eq_true (by omega)
 simp only [AX.hp, AX.box, AX.cv, cV, dB, bX, bW, fQ, jN, aCj, hT n, h3, h6, h7, h8, h9, Bool.and_self]
theorem tC (X : aB) (hT : Pl T) (xs : List AV) (hx : bX (T.length + 10) xs = true) : fE (T.length + 10) xs (A.hp s (T ++ X)) = some (A.hp s T) := by
 have e : (A.hp s (T ++ X)).take (T.length + 10) = A.hp s T := by
  unfold AX.hp
  simp only [List.take_succ_cons]
  rw [List.take_append_of_le_length (Nat.le_refl _), List.take_length]
 unfold fE
 rw [e, hx, aGl A s T hT _ (by omega)]; rfl
theorem aAz (X : aB) (hT : Pl T) : cA [] (T.length + 10) (A.hp s (T ++ X)) = some (.ret, [.tup []], A.hp s T) := by
 unfold cA
 rw [tC A s T X hT [] rfl]; rfl
theorem aBX (hT : Pl T) : cA [] (T.length + 10) (A.hp s T) = some (.ret, [.tup []], A.hp s T) := by
 have := aAz A s T [] hT
 rwa [List.append_nil] at this
theorem aIe (hT : Pl T) (n : Int) : cA [I6 n] (T.length + 10) (A.hp s T) = some (.ret, [I6 n], A.hp s T) := by
 unfold cA
 have := tC A s T [] hT [] rfl
 rw [List.append_nil] at this
 rw [this]; rfl
theorem jU {s' : LS} {g : cD} {args : List AV} {r : AV} (h : g args (A.hp s T) = some (r, A.hp s' T)) : bB g args (A.hp s T) = some (r, A.hp s' T) := by
 unfold bB; rw [h]; simp only [jV, Nat.le_refl, if_true]
variable (G : aG) (k : Nat)
theorem iG : fH BX = some BX := rfl
theorem af0 : aA 0 BX = some BX := rfl
theorem af2 : aA 2 BX = some (.ptr 2 1 0 2) := rfl
theorem af3 : aA 3 BX = some (.ptr 2 1 0 3) := rfl
theorem af4 : aA 4 BX = some (.ptr 2 1 0 4) := rfl
theorem af5 : aA 5 BX = some (.ptr 2 1 0 5) := rfl
theorem af6 : aA 6 BX = some (.ptr 2 1 0 6) := rfl
theorem al2 : aF G false 1 (.ptr 2 1 0 2) (A.hp s T) = some (Nn A.L.M) := rfl
theorem al3 : aF G false 1 (.ptr 2 1 0 3) (A.hp s T) = some (.sl 6 A.R 0 A.R 1) := rfl
theorem al4 : aF G false 1 (.ptr 2 1 0 4) (A.hp s T) = some (.sl 7 A.R 0 A.R 1) := rfl
theorem al5 : aF G false 1 (.ptr 2 1 0 5) (A.hp s T) = some (.sl 8 s.out.length 0 s.out.length 6) := rfl
theorem al6 : aF G false 1 (.ptr 2 1 0 6) (A.hp s T) = some (.sl 9 s.place.length 0 s.place.length 1) := rfl
theorem tT (b n : Nat) {r : Int} (h : 0 ≤ r ∧ r < n) : aM 1 (.sl b n 0 n 1) (I6 r) = some (.ptr b n r.toNat 0) := by
 rw [sK h.1 h.2, Nat.zero_add]
theorem aAJ (hW : A.W) {r : Int} (h : 0 ≤ r ∧ r < A.R) : aF G false 1 (.ptr 6 A.R r.toNat 0) (A.hp s T) = some (Nn (A.L.sl r)) := by
 have e : (A.hp s T)[6]? = some ⟨3, 1, dQ A.L.slot⟩ := rfl
 have hl := hW.sl
 unfold aF
 simp only [e, fS, hW.sl, if_true, iV A.L.slot r.toNat (by omega)]
 rfl
theorem aEi (hW : A.W) {r : Int} (h : 0 ≤ r ∧ r < A.R) : aF G false 1 (.ptr 7 A.R r.toNat 0) (A.hp s T) = some (Nn (A.L.wd r)) := by
 have e : (A.hp s T)[7]? = some ⟨3, 1, dQ A.L.word⟩ := rfl
 have hl := hW.wd
 unfold aF
 simp only [e, fS, hW.wd, if_true, iV A.L.word r.toNat (by omega)]
 rfl
theorem gU (hT : Pl T) (i : WI) (hs : s.out.length ≤ 10000000) : bB (bD.f G (k + 1)) [BX, i.v] (A.hp s T) = some (.tup [], A.hp (s.put [i]) T) := by
 apply jU
 rw [bD.step]
 unfold bD.c
 rw [jV]
 have a1 : eE 29 6 (.sl 8 s.out.length 0 s.out.length 6) (.ro false [i.v]) (A.hp s T) = some (.sl 8 (s.put [i]).out.length 0 (s.put [i]).out.length 6, (A.hp s T).set 8 ⟨29, 6, bO (s.put [i]).out⟩) := by
  have e : (A.hp s T)[8]? = some ⟨29, 6, bO s.out⟩ := rfl
  have e2 : gB (.ro false [i.v]) (A.hp s T) = some [i.v] := rfl
  unfold eE
  simp only [e, e2, fC]
  rw [if_pos (by refine ⟨?_, ?_, ?_, ?_, ?_⟩ <;> first | trivial | rfl | (show s.out.length + 1 ≤ _; omega))]
  have e2 : (bO s.out).take s.out.length = bO s.out := List.take_of_length_le (by rw [fC]; exact Nat.le_refl _)
  have e3 : (bO s.out).drop (s.out.length + [i.v].length) = [] := List.drop_of_length_le (by rw [fC]; exact Nat.le_add_right _ _)
  have e4 : bO s.out ++ [i.v] = bO (s.out ++ [i]) := by simp [bO]
  rw [e2, e3, List.append_nil, e4, fC]
  simp [LS.put]
 have s1 : fM (aV 1 (.ptr 2 1 0 5) (.sl 8 (s.put [i]).out.length 0 (s.put [i]).out.length 6) ((A.hp s T).set 8 ⟨29, 6, bO (s.put [i]).out⟩)) = some (.tup [], A.hp (s.put [i]) T) := rfl
 have b0 : ∀ H, gC i.v H = some (.rp false i.v 0, H) := fun H => rfl
 have l6 : ∀ H, aF G true 6 (.rp false i.v 0) H = some i.v := fun H => rfl
 have br : ∀ H, eQ 6 1 (.agg [(.int .i64 0), (.int .i64 0), (.int .i64 0), (.int .i64 0), (.int .i64 0), (.int .i64 0)]) [(0, i.v)] H = some (.ro false [i.v], H) := fun H => rfl
 have l0 := al5 A s T G
 have fin := aBX A (s.put [i]) T hT
 generalize (A.hp s T).set 8 ⟨29, 6, bO (s.put [i]).out⟩ = hm at *
 generalize i.v = iv at *
 refine gL ?_
 have fx := aMP iG <| aMP af5 <| aMP b0 <| aMP l6 <| aMP br <| aMP l0 <| aMP a1 <| s1
 refine gE ?_
 exact oF fin
theorem iX (hW : A.W) (hT : Pl T) (r into : Int) (hr : 0 ≤ r ∧ r < A.R) (hs : s.out.length ≤ 1000000) : bB (bP.f G (k + 2)) [BX, I6 r, I6 into] (A.hp s T) = some (I6 (A.L.rdR r into), A.hp (s.put (A.L.rdC r into)) T) := by
 apply jU
 rw [bP.step]
 unfold bP.c
 rw [jV]
 have l3 := al3 A s T G
 have l4 := al4 A s T G
 have d1 := tT 6 A.R hr
 have d2 := tT 7 A.R hr
 have ls := aAJ A s T G hW hr
 have lw := aEi A s T G hW hr
 unfold LY.rdR LY.rdC
 by_cases h0 : A.L.sl r = 0
 ·rw [if_pos h0, if_pos h0]
  have g1 : aU Tryd.prog .neq 3 true (Nn (A.L.sl r)) (.int .i64 0) = some (.bool false) := by rw [h0]; exact vE (b := 0) rfl
  have bs : cU [(0, 1), (1, 1), (2, 1), (3, 1), (4, 1), (5, 1)] [(.int .i64 0), (.int .i64 0), (.int .i64 0), (.int .i64 0), (.int .i64 0), (.int .i64 0)] [(0, .int .i64 15), (1, I6 into), (2, .int .i64 0), (5, Nn (A.L.wd r))] = some (WI.v ⟨15, into, 0, 0, 0, A.L.wd r⟩) := rfl
  have p1 := gU A s T G k hT ⟨15, into, 0, 0, 0, A.L.wd r⟩ (by omega)
  have fin := aIe A (s.put [⟨15, into, 0, 0, 0, A.L.wd r⟩]) T hT into
  clear h0
  generalize (⟨15, into, 0, 0, 0, A.L.wd r⟩ : WI) = i at *
  generalize A.L.sl r = sr at *
  refine gL ?_
  have fx := aMP iG <| aMP af3 <| aMP af4 <| aMP l3 <| aMP l4 <| aMP d1 <| aMP d2 <| aMP ls <| aMP lw <| aMP g1 <| aMP bs <| p1
  refine gE ?_
  exact oF fin
 ·rw [if_neg h0, if_neg h0, aEs]
  have g1 : aU Tryd.prog .neq 3 true (Nn (A.L.sl r)) (.int .i64 0) = some (.bool true) := vF (b := 0) h0
  have fin := aIe A s T hT (A.L.sl r)
  clear h0
  generalize A.L.sl r = sr at *
  refine gL ?_
  have fx := aMP iG <| aMP af3 <| aMP l3 <| aMP d1 <| aMP ls <| g1
  refine gE ?_
  exact oF fin
theorem mG (hW : A.W) (hT : Pl T) (r : Int) (hr : 0 ≤ r ∧ r < A.R) : bB (bY.f G (k + 1)) [BX, I6 r] (A.hp s T) = some (I6 (A.L.wrR r), A.hp s T) := by
 apply jU
 rw [bY.step]
 unfold bY.c
 rw [jV]
 have l3 := al3 A s T G
 have d1 := tT 6 A.R hr
 have ls := aAJ A s T G hW hr
 unfold LY.wrR
 by_cases h0 : A.L.sl r = 0
 ·rw [if_pos h0]
  have g1 : aU Tryd.prog .neq 3 true (Nn (A.L.sl r)) (.int .i64 0) = some (.bool false) := by rw [h0]; exact vE (b := 0) rfl
  have fin := aIe A s T hT 1
  clear h0
  generalize A.L.sl r = sr at *
  refine gL ?_
  have fx := aMP iG <| aMP af3 <| aMP l3 <| aMP d1 <| aMP ls <| g1
  refine gE ?_
  exact oF fin
 ·rw [if_neg h0]
  have g1 : aU Tryd.prog .neq 3 true (Nn (A.L.sl r)) (.int .i64 0) = some (.bool true) := vF (b := 0) h0
  have fin := aIe A s T hT (A.L.sl r)
  clear h0
  generalize A.L.sl r = sr at *
  refine gL ?_
  have fx := aMP iG <| aMP af3 <| aMP l3 <| aMP d1 <| aMP ls <| g1
  refine gE ?_
  exact oF fin
theorem kB (hW : A.W) (hT : Pl T) (r : Int) (hr : 0 ≤ r ∧ r < A.R) (hs : s.out.length ≤ 1000000) : bB (bN.f G (k + 2)) [BX, I6 r] (A.hp s T) = some (.tup [], A.hp (s.put (A.L.wrC r)) T) := by
 apply jU
 rw [bN.step]
 unfold bN.c
 rw [jV]
 have l3 := al3 A s T G
 have l4 := al4 A s T G
 have d1 := tT 6 A.R hr
 have d2 := tT 7 A.R hr
 have ls := aAJ A s T G hW hr
 have lw := aEi A s T G hW hr
 unfold LY.wrC
 by_cases h0 : A.L.sl r = 0
 ·rw [if_pos h0]
  have g1 : aU Tryd.prog .eql 3 true (Nn (A.L.sl r)) (.int .i64 0) = some (.bool true) := by rw [h0]; exact aAN (b := 0) rfl
  have bs : cU [(0, 1), (1, 1), (2, 1), (3, 1), (4, 1), (5, 1)] [(.int .i64 0), (.int .i64 0), (.int .i64 0), (.int .i64 0), (.int .i64 0), (.int .i64 0)] [(0, .int .i64 16), (2, .int .i64 0), (3, .int .i64 1), (5, Nn (A.L.wd r))] = some (WI.v ⟨16, 0, 0, 1, 0, A.L.wd r⟩) := rfl
  have p1 := gU A s T G k hT ⟨16, 0, 0, 1, 0, A.L.wd r⟩ (by omega)
  have fin := aBX A (s.put [⟨16, 0, 0, 1, 0, A.L.wd r⟩]) T hT
  clear h0
  generalize (⟨16, 0, 0, 1, 0, A.L.wd r⟩ : WI) = i at *
  generalize A.L.sl r = sr at *
  refine gL ?_
  have fx := aMP iG <| aMP af3 <| aMP af4 <| aMP l3 <| aMP l4 <| aMP d1 <| aMP d2 <| aMP ls <| aMP lw <| aMP g1 <| aMP bs <| p1
  refine gE ?_
  exact oF fin
 ·rw [if_neg h0, aEs]
  have g1 : aU Tryd.prog .eql 3 true (Nn (A.L.sl r)) (.int .i64 0) = some (.bool false) := aAM (b := 0) h0
  have fin := aBX A s T hT
  clear h0
  generalize A.L.sl r = sr at *
  refine gL ?_
  have fx := aMP iG <| aMP af3 <| aMP l3 <| aMP d1 <| aMP ls <| g1
  refine gE ?_
  exact oF fin
theorem rB (hW : A.W) (hT : Pl T) (i : WI) (hr : 0 ≤ i.a ∧ i.a < A.R) (hs : s.out.length ≤ 900000) : bB (bM.f G (k + 3)) [BX, i.v] (A.hp s T) = some (.tup [], A.hp (s.put (A.L.adC i)) T) := by
 apply jU
 rw [bM.step]
 unfold bM.c
 rw [jV]
 have b0 := aKr i
 have fa := gi2 i
 have fk := gi5 i
 have la := aJD G i
 have lk := aLB G i
 have lr := gX A.L i.a 1
 have r1 := iX A s T G k hW hT i.a 1 hr (by omega)
 obtain ⟨s1, hs1⟩ : ∃ s1, s1 = s.put (A.L.rdC i.a 1) := ⟨_, rfl⟩
 rw [← hs1] at r1
 have n1 : s1.out.length ≤ 900001 := by rw [hs1]; simp [LS.put]; omega
 have pl : ∀ (t : LS) (x : WI), (t.put [x]).out.length = t.out.length + 1 := fun t x => by simp [LS.put]
 have bs1 : cU [(0, 1), (1, 1), (2, 1), (3, 1), (4, 1), (5, 1)] [(.int .i64 0), (.int .i64 0), (.int .i64 0), (.int .i64 0), (.int .i64 0), (.int .i64 0)] [(0, .int .i64 1), (1, .int .i64 2), (5, I6 i.k)] = some (WI.v ⟨1, 2, 0, 0, 0, i.k⟩) := rfl
 have bs2 : cU [(0, 1), (1, 1), (2, 1), (3, 1), (4, 1), (5, 1)] [(.int .i64 0), (.int .i64 0), (.int .i64 0), (.int .i64 0), (.int .i64 0), (.int .i64 0)] [(0, .int .i64 3), (1, .int .i64 2), (2, I6 (A.L.rdR i.a 1)), (3, .int .i64 2)] = some (WI.v ⟨3, 2, A.L.rdR i.a 1, 2, 0, 0⟩) := rfl
 have bs3 : cU [(0, 1), (1, 1), (2, 1), (3, 1), (4, 1), (5, 1)] [(.int .i64 0), (.int .i64 0), (.int .i64 0), (.int .i64 0), (.int .i64 0), (.int .i64 0)] [(0, .int .i64 1), (1, .int .i64 3), (5, Nn A.L.M)] = some (WI.v ⟨1, 3, 0, 0, 0, (A.L.M : Int)⟩) := rfl
 have bs4 : cU [(0, 1), (1, 1), (2, 1), (3, 1), (4, 1), (5, 1)] [(.int .i64 0), (.int .i64 0), (.int .i64 0), (.int .i64 0), (.int .i64 0), (.int .i64 0)] [(0, .int .i64 13), (1, .int .i64 3), (2, .int .i64 2), (3, .int .i64 3)] = some (WI.v ⟨13, 3, 2, 3, 0, 0⟩) := rfl
 have bs5 : cU [(0, 1), (1, 1), (2, 1), (3, 1), (4, 1), (5, 1)] [(.int .i64 0), (.int .i64 0), (.int .i64 0), (.int .i64 0), (.int .i64 0), (.int .i64 0)] [(0, .int .i64 18), (2, .int .i64 3), (5, .int .i64 (-1))] = some (WI.v ⟨18, 0, 3, 0, 0, -1⟩) := rfl
 have e : s.put (A.L.adC i) = ((((s1.put [⟨1, 2, 0, 0, 0, i.k⟩]).put [⟨3, 2, A.L.rdR i.a 1, 2, 0, 0⟩]).put [⟨1, 3, 0, 0, 0, (A.L.M : Int)⟩]).put [⟨13, 3, 2, 3, 0, 0⟩]).put [⟨18, 0, 3, 0, 0, -1⟩] := by
  rw [hs1]; simp only [lG]; unfold LY.adC; simp only [List.append_assoc, List.cons_append, List.nil_append]
 rw [e]
 clear e hs1
 generalize (⟨1, 2, 0, 0, 0, i.k⟩ : WI) = x1 at *
 generalize (⟨3, 2, A.L.rdR i.a 1, 2, 0, 0⟩ : WI) = x2 at *
 generalize (⟨1, 3, 0, 0, 0, (A.L.M : Int)⟩ : WI) = x3 at *
 generalize (⟨13, 3, 2, 3, 0, 0⟩ : WI) = x4 at *
 generalize (⟨18, 0, 3, 0, 0, -1⟩ : WI) = x5 at *
 have p1 := gU A s1 T G (k + 1) hT x1 (by omega)
 have m1 := pl s1 x1
 generalize s1.put [x1] = s2 at *
 have p2 := gU A s2 T G (k + 1) hT x2 (by omega)
 have m2 := pl s2 x2
 generalize s2.put [x2] = s3 at *
 have p3 := gU A s3 T G (k + 1) hT x3 (by omega)
 have m3 := pl s3 x3
 generalize s3.put [x3] = s4 at *
 have p4 := gU A s4 T G (k + 1) hT x4 (by omega)
 have m4 := pl s4 x4
 generalize s4.put [x4] = s5 at *
 have p5 := gU A s5 T G (k + 1) hT x5 (by omega)
 generalize s5.put [x5] = s6 at *
 have lM := al2 A s3 T G
 have fin := aBX A s6 T hT
 clear n1 m1 m2 m3 m4 pl
 generalize A.L.rdR i.a 1 = ra at *
 generalize i.v = iv at *
 refine gL ?_
 have fx := aMP iG <| aMP af0 <| aMP af2 <| aMP b0 <| aMP fa <| aMP fk <| aMP la <| aMP lk <| aMP r1 <| aMP bs1 <| aMP bs2 <| aMP bs3 <| aMP bs4 <| aMP bs5 <| aMP p1 <| aMP p2 <| aMP p3 <| aMP p4 <| aMP p5 <| lM
 refine gE ?_
 exact oF fin
def brB (op : Int) : Bool := decide (op = 17) || decide (op = 18) || decide (op = 19)
theorem xU (op : Int) : cL.f G (k + 1) [I6 op] [] = some (.bool (brB op), []) := by
 by_cases h : op = 17 ∨ op = 18 ∨ op = 19
 ·rcases h with rfl | rfl | rfl <;> kernel_rfl
 have e : brB op = false := by unfold brB; simp; omega
 rw [e, cL.step]
 unfold cL.c
 have q1 : aU Tryd.prog .eql 3 true (I6 op) (.int .i64 17) = some (.bool false) := gN (by omega)
 have q2 : aU Tryd.prog .eql 3 true (I6 op) (.int .i64 18) = some (.bool false) := gN (by omega)
 have q3 : aU Tryd.prog .eql 3 true (I6 op) (.int .i64 19) = some (.bool false) := gN (by omega)
 refine gL ?_
 have fx := aMP q1 <| aMP q2 <| q3
 refine gE ?_
 exact w1b rfl
end
end Go.Proofs.YtlkgkfgkiidhdaaDoor.Mir
