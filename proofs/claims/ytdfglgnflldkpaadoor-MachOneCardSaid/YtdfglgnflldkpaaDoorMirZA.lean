/- Mirror, part ZA: steps on a stack of what comes next; conditions are found by omega, or both ways are gone. -/
import Derived.Test.YtdfglgnflldkpaaDoorMirZ
namespace Go.Proofs.YtdfglgnflldkpaaDoor.Mir
open Go
set_option linter.unusedVariables false
set_option linter.unusedSimpArgs false

abbrev KK := Ex → List AV → AHeap → Option Outc

/-- What is left to do, one behind the other. -/
def E {γ : Type} (f : Option Outc → Option γ) (ks : List KK) (m : Option Outc) (r : Option γ) : Prop := f (ks.foldl thenK m) = r

section
variable {γ : Type} {f : Option Outc → Option γ} {ks : List KK} {r : Option γ}
theorem e_in {m : Option Outc} (h : E f [] m r) : f m = r := h
theorem e_id {m r : Option Outc} (h : E (fun x => x) [] m r) : m = r := h
theorem e_out {m : Option Outc} (h : f m = r) : E f [] m r := h
theorem eB {m : Option (AV × AHeap)} {k : AV → AHeap → Option Outc} {v : AV} {H : AHeap} (h : m = some (v, H)) (h2 : E f ks (k v H) r) : E f ks (bnd m k) r := by rw [h]; exact h2
theorem eR {m m' : Option (AV × AHeap)} {k : AV → AHeap → Option Outc} (h : m = m') (h2 : E f ks (bnd m' k) r) : E f ks (bnd m k) r := by rw [h]; exact h2
theorem eT {a b : Option Outc} (h : E f ks a r) : E f ks (condA (.bool true) a b) r := h
theorem eN {a b : Option Outc} (h : E f ks b r) : E f ks (condA (.bool false) a b) r := h
theorem eGtt {H : AHeap} {m : Option (AV × AHeap)} {k : AV → AHeap → Option Outc} (h : E f ks (bnd m k) r) : E f ks (bnd (gd (.bool true) true H m) k) r := by rw [gd_tt]; exact h
theorem eGff {H : AHeap} {m : Option (AV × AHeap)} {k : AV → AHeap → Option Outc} (h : E f ks (bnd m k) r) : E f ks (bnd (gd (.bool false) false H m) k) r := by rw [gd_ff]; exact h
theorem eGtf {H : AHeap} {m : Option (AV × AHeap)} {k : AV → AHeap → Option Outc} (h : E f ks (k (.tup []) H) r) : E f ks (bnd (gd (.bool true) false H m) k) r := by rw [gd_tf]; exact h
theorem eGft {H : AHeap} {m : Option (AV × AHeap)} {k : AV → AHeap → Option Outc} (h : E f ks (k (.tup []) H) r) : E f ks (bnd (gd (.bool false) true H m) k) r := by rw [gd_ft]; exact h
theorem eGno {H : AHeap} {w : Bool} {m : Option (AV × AHeap)} {k : AV → AHeap → Option Outc} (h : E f ks (k (.tup []) H) r) : E f ks (bnd (gd (.tup []) w H m) k) r := by rw [gd_no]; exact h
theorem eCn {xs : List AV} {i : Nat} {c : AV} {a b : Option Outc} (hc : nth xs i = c) (h : E f ks (condA c a b) r) : E f ks (condA (nth xs i) a b) r := by rw [hc]; exact h
theorem eBool {b : Bool} {x y : Option Outc} (h1 : b = true → E f ks x r) (h2 : b = false → E f ks y r) : E f ks (condA (.bool b) x y) r := by
  cases b
  · exact h2 rfl
  · exact h1 rfl
theorem eK {m : Option Outc} {k : KK} (h : E f (k :: ks) m r) : E f ks (thenK m k) r := h
theorem eS {k : KK} {e : Ex} {xs : List AV} {H : AHeap} (h : E f ks (k e xs H) r) : E f (k :: ks) (some (e, xs, H)) r := h
theorem eL {m : Option Outc} {o : Outc} (h : m = some o) (h2 : E f ks (some o) r) : E f ks m r := by rw [h]; exact h2
theorem eX {a : Option Outc} {b : Nat → Option Outc} {r0 : Option Outc} {i : Nat} (h : E f ks (b i) r) : E f ks (exK (.exit i) a b r0) r := h
theorem eXn {a : Option Outc} {b : Nat → Option Outc} {r0 : Option Outc} (h : E f ks a r) : E f ks (exK .normal a b r0) r := h
theorem eXr {a : Option Outc} {b : Nat → Option Outc} {r0 : Option Outc} (h : E f ks r0 r) : E f ks (exK .ret a b r0) r := h
theorem eI {i : Nat} {a b : Option Outc} (h : E f ks a r) : E f ks (if i = i then a else b) r := by rw [if_pos rfl]; exact h
theorem eJ {i j : Nat} {a b : Option Outc} (hij : (i == j) = false) (h : E f ks b r) : E f ks (if i = j then a else b) r := by rw [if_neg (by simpa using hij)]; exact h
theorem eC {n : Nat} {xs : List AV} {H H' : AHeap} {k : AHeap → Option Outc} (h : cutH n xs H = some H') (h2 : E f ks (k H') r) : E f ks (cutK n xs H k) r := by unfold cutK; rw [h]; exact h2
theorem eGr0 {m : Option Outc} (h : E f ks m r) : E f ks (grd [] m) r := h
theorem eGr1 {a b : AV} {l : List (AV × AV)} {m : Option Outc} (h : apartAV a b = true) (h2 : E f ks (grd l m) r) : E f ks (grd ((a, b) :: l) m) r := by unfold grd; rw [h]; exact h2
theorem eV0 {H : AHeap} {k : AHeap → Option Outc} (h2 : E f ks (k H) r) : E f ks (vK [] H k) r := by rw [vK_nil]; exact h2
theorem eV1 {q : AV × Nat × Nat × Nat} {l : List (AV × Nat × Nat × Nat)} {H H1 : AHeap} {k : AHeap → Option Outc} (h : virt1 q H = H1) (h2 : E f ks (vK l H1 k) r) : E f ks (vK (q :: l) H k) r := by rw [vK_cons, h]; exact h2

/-! Both ways. -/
variable {P : Program} {t : Nat} {c : Bool} {k : IntKind} {a b : Int} {H : AHeap} {K : AV → AHeap → Option Outc}
theorem sEql (h1 : a = b → E f ks (K (.bool true) H) r) (h2 : a ≠ b → E f ks (K (.bool false) H) r) : E f ks (bnd (pu H (bin P .eql t c (.int k a) (.int k b))) K) r := by
  rw [bin_eql]; by_cases h : a = b
  · rw [decide_eq_true h]; exact h1 h
  · rw [decide_eq_false h]; exact h2 h
theorem sNeq (h1 : a ≠ b → E f ks (K (.bool true) H) r) (h2 : a = b → E f ks (K (.bool false) H) r) : E f ks (bnd (pu H (bin P .neq t c (.int k a) (.int k b))) K) r := by
  rw [bin_neq]; by_cases h : a ≠ b
  · rw [decide_eq_true h]; exact h1 h
  · rw [decide_eq_false h]; exact h2 (Classical.not_not.1 h)
theorem sLss (h1 : a < b → E f ks (K (.bool true) H) r) (h2 : b ≤ a → E f ks (K (.bool false) H) r) : E f ks (bnd (pu H (bin P .lss t c (.int k a) (.int k b))) K) r := by
  rw [bin_lss]; by_cases h : a < b
  · rw [decide_eq_true h]; exact h1 h
  · rw [decide_eq_false h]; exact h2 (by omega)
theorem sLeq (h1 : a ≤ b → E f ks (K (.bool true) H) r) (h2 : b < a → E f ks (K (.bool false) H) r) : E f ks (bnd (pu H (bin P .leq t c (.int k a) (.int k b))) K) r := by
  rw [bin_leq]; by_cases h : a ≤ b
  · rw [decide_eq_true h]; exact h1 h
  · rw [decide_eq_false h]; exact h2 (by omega)
theorem sGtr (h1 : b < a → E f ks (K (.bool true) H) r) (h2 : a ≤ b → E f ks (K (.bool false) H) r) : E f ks (bnd (pu H (bin P .gtr t c (.int k a) (.int k b))) K) r := by
  rw [bin_gtr]; by_cases h : b < a
  · rw [decide_eq_true h]; exact h1 h
  · rw [decide_eq_false h]; exact h2 (by omega)
theorem sGeq (h1 : b ≤ a → E f ks (K (.bool true) H) r) (h2 : a < b → E f ks (K (.bool false) H) r) : E f ks (bnd (pu H (bin P .geq t c (.int k a) (.int k b))) K) r := by
  rw [bin_geq]; by_cases h : b ≤ a
  · rw [decide_eq_true h]; exact h1 h
  · rw [decide_eq_false h]; exact h2 (by omega)
theorem sNot {g : Bool} (h1 : g = true → E f ks (K (.bool false) H) r) (h2 : g = false → E f ks (K (.bool true) H) r) : E f ks (bnd (pu H (un .not (.bool g))) K) r := by
  rw [un_not]
  cases g
  · exact h2 rfl
  · exact h1 rfl
theorem sPick {g : Bool} {x y : AV} (h1 : g = true → E f ks (K x H) r) (h2 : g = false → E f ks (K y H) r) : E f ks (bnd (pu H (pickA (.bool g) x y)) K) r := by
  cases g
  · exact h2 rfl
  · exact h1 rfl
theorem sGd {g : Bool} {w : Bool} {m : Option (AV × AHeap)} (h1 : g = true → E f ks (bnd (gd (.bool true) w H m) K) r) (h2 : g = false → E f ks (bnd (gd (.bool false) w H m) K) r) : E f ks (bnd (gd (.bool g) w H m) K) r := by
  cases g
  · exact h2 rfl
  · exact h1 rfl
end

/-! What is decided. -/
section
variable {P : Program} {t : Nat} {c : Bool} {k : IntKind} {a b : Int}
theorem q_eql_t (h : a = b) : bin P .eql t c (.int k a) (.int k b) = some (.bool true) := by rw [bin_eql, decide_eq_true h]
theorem q_eql_f (h : a ≠ b) : bin P .eql t c (.int k a) (.int k b) = some (.bool false) := by rw [bin_eql, decide_eq_false h]
theorem q_neq_t (h : a ≠ b) : bin P .neq t c (.int k a) (.int k b) = some (.bool true) := by rw [bin_neq, decide_eq_true h]
theorem q_neq_f (h : a = b) : bin P .neq t c (.int k a) (.int k b) = some (.bool false) := by rw [bin_neq, decide_eq_false (fun h' => h' h)]
theorem q_lss_t (h : a < b) : bin P .lss t c (.int k a) (.int k b) = some (.bool true) := by rw [bin_lss, decide_eq_true h]
theorem q_lss_f (h : b ≤ a) : bin P .lss t c (.int k a) (.int k b) = some (.bool false) := by rw [bin_lss, decide_eq_false (by omega)]
theorem q_leq_t (h : a ≤ b) : bin P .leq t c (.int k a) (.int k b) = some (.bool true) := by rw [bin_leq, decide_eq_true h]
theorem q_leq_f (h : b < a) : bin P .leq t c (.int k a) (.int k b) = some (.bool false) := by rw [bin_leq, decide_eq_false (by omega)]
theorem q_gtr_t (h : b < a) : bin P .gtr t c (.int k a) (.int k b) = some (.bool true) := by rw [bin_gtr, decide_eq_true h]
theorem q_gtr_f (h : a ≤ b) : bin P .gtr t c (.int k a) (.int k b) = some (.bool false) := by rw [bin_gtr, decide_eq_false (by omega)]
theorem q_geq_t (h : b ≤ a) : bin P .geq t c (.int k a) (.int k b) = some (.bool true) := by rw [bin_geq, decide_eq_true h]
theorem q_geq_f (h : a < b) : bin P .geq t c (.int k a) (.int k b) = some (.bool false) := by rw [bin_geq, decide_eq_false (by omega)]
theorem q_add (h0 : -9223372036854775808 ≤ a + b) (h1 : a + b < 9223372036854775808) : bin P .add t c (.int .i64 a) (.int .i64 b) = some (.int .i64 (a + b)) := by rw [bin_add, wrap_of_i64 h0 h1]
theorem q_sub (h0 : -9223372036854775808 ≤ a - b) (h1 : a - b < 9223372036854775808) : bin P .sub t c (.int .i64 a) (.int .i64 b) = some (.int .i64 (a - b)) := by rw [bin_sub, wrap_of_i64 h0 h1]
theorem q_mul (h0 : -9223372036854775808 ≤ a * b) (h1 : a * b < 9223372036854775808) : bin P .mul t c (.int .i64 a) (.int .i64 b) = some (.int .i64 (a * b)) := by rw [bin_mul, wrap_of_i64 h0 h1]
theorem q_addU (h0 : 0 ≤ a + b) (h1 : a + b < 18446744073709551616) : bin P .add t c (.int .u64 a) (.int .u64 b) = some (.int .u64 (a + b)) := by rw [bin_add, wrap_of_u64 h0 h1]
theorem q_cvI (h0 : -9223372036854775808 ≤ a) (h1 : a < 9223372036854775808) : convInt .i64 (.int k a) = some (.int .i64 a) := by rw [convInt_int, wrap_of_i64 h0 h1]
theorem q_cvU (h0 : 0 ≤ a) (h1 : a < 18446744073709551616) : convInt .u64 (.int k a) = some (.int .u64 a) := by rw [convInt_int, wrap_of_u64 h0 h1]
theorem q_cv8 (h0 : 0 ≤ a) (h1 : a < 256) : convInt .u8 (.int k a) = some (.int .u8 a) := by rw [convInt_int, wrap_of_u8 h0 h1]
theorem q_cv32 (h0 : 0 ≤ a) (h1 : a < 4294967296) : convInt .u32 (.int k a) = some (.int .u32 a) := by rw [convInt_int, wrap_of_u32 h0 h1]
theorem q_idxSl {s bl L o m : Nat} (h0 : 0 ≤ a) (h1 : a < (m : Int)) : idxAddrSl s (.sl bl L o m s) (.int k a) = some (.ptr bl L (o + a.toNat) 0) := by simp [idxAddrSl, h0, h1]
theorem q_lenRo {bor : Bool} {xs : List AV} : lenSl (.ro bor xs) = some (.int .i64 (xs.length : Int)) := by unfold lenSl; rfl
theorem q_lenSl {bl L o m s : Nat} : lenSl (.sl bl L o m s) = some (.int .i64 (m : Int)) := by unfold lenSl; rfl
theorem q_lenNil : lenSl .nils = some (.int .i64 0) := by unfold lenSl; rfl
theorem q_nilp {bl L i o : Nat} : nilA (.ptr bl L i o) = some (.ptr bl L i o) := by unfold nilA; rfl
theorem q_nilrp {bor : Bool} {x : AV} {o : Nat} : nilA (.rp bor x o) = some (.rp bor x o) := by unfold nilA; rfl
theorem q_nilfn {g : Nat} {caps : List AV} : nilA (.fn g caps) = some (.fn g caps) := by unfold nilA; rfl
theorem q_nilgl {g : Nat} : nilA (.gl g) = some (.gl g) := by unfold nilA; rfl
theorem q_fap {off bl L i o : Nat} : fieldAddrV off (.ptr bl L i o) = some (.ptr bl L i (o + off)) := by unfold fieldAddrV; rfl
theorem q_farp {off : Nat} {bor : Bool} {x : AV} {o : Nat} : fieldAddrV off (.rp bor x o) = some (.rp bor x (o + off)) := by unfold fieldAddrV; rfl
theorem q_ldrp {G : Globs} {s : Nat} {bor : Bool} {cs : List AV} {o : Nat} {H : AHeap} : loadV G false s (.rp bor (.agg cs) o) H = cs[o]? := by unfold loadV loadC; rfl
theorem q_boxAgg {cs : List AV} {H : AHeap} : boxRoA (.agg cs) H = some (.rp false (.agg cs) 0, H) := by unfold boxRoA; rfl
theorem q_ext0 {u : AV} {l : List AV} : extractA (.tup (u :: l)) 0 = some u := by unfold extractA; rfl
theorem q_ext1 {u v : AV} {l : List AV} : extractA (.tup (u :: v :: l)) 1 = some v := by unfold extractA; rfl
theorem q_ext2 {u v w : AV} {l : List AV} : extractA (.tup (u :: v :: w :: l)) 2 = some w := by unfold extractA; rfl
theorem q_get0 {x : AV} {l : List AV} : (x :: l)[0]? = some x := rfl
theorem q_getS {x : AV} {l : List AV} {n : Nat} : (x :: l)[n + 1]? = l[n]? := by rw [List.getElem?_cons_succ]
theorem q_lit0 : (0 : Nat) + 0 = 0 := rfl
theorem q_notT : un .not (.bool true) = some (.bool false) := by rw [un_not]; rfl
theorem q_notF : un .not (.bool false) = some (.bool true) := by rw [un_not]; rfl
theorem q_stS {H : AHeap} : stS (some H) = some (.tup [], H) := by unfold stS; rfl
end

/-! Memory that is written out. -/
section
variable {G : Globs} {g : Bool} {s b L i o t z : Nat} {cs : List AV} {blk : ABlk} {H : AHeap} {v x : AV}
def ldB (g : Bool) (s L i o : Nat) (blk : ABlk) : Option AV := if blk.elems.length = L then (match blk.elems[i]? with | some x => loadC g s x.cells o | none => none) else none
def stB (s L i o : Nat) (v : AV) (blk : ABlk) : Option ABlk := if blk.elems.length = L ∧ storable v = true ∧ v.cells.length = s then
        (match blk.elems[i]? with
          | some x => if o + s ≤ x.cells.length then some { blk with elems := blk.elems.set i (recell x (putC x.cells o v.cells)) } else none
          | none => none) else none
theorem q_ldp0 : loadV G g s (.ptr 0 L i o) (blk :: H) = ldB g s L i o blk := by unfold loadV ldB; rfl
theorem q_ldpS : loadV G g s (.ptr (b + 1) L i o) (blk :: H) = loadV G g s (.ptr b L i o) H := by unfold loadV; rfl
theorem q_ldB : ldB false s 1 0 o ⟨t, z, [.agg cs]⟩ = cs[o]? := by unfold ldB loadC; rfl
theorem q_ldBT : ldB true s 1 0 o ⟨t, z, [.agg cs]⟩ = if o + s ≤ cs.length then some (.agg ((cs.drop o).take s)) else none := by unfold ldB loadC; rfl
theorem q_ldrpT {bor : Bool} : loadV G true s (.rp bor (.agg cs) o) H = if o + s ≤ cs.length then some (.agg ((cs.drop o).take s)) else none := by unfold loadV loadC; rfl
theorem q_ldBi {k : IntKind} {n : Int} : ldB false s 1 0 0 ⟨t, z, [.int k n]⟩ = some (.int k n) := by unfold ldB loadC; rfl
theorem q_ldBb {c : Bool} : ldB false s 1 0 0 ⟨t, z, [.bool c]⟩ = some (.bool c) := by unfold ldB loadC; rfl
theorem q_stp0 : storeV s (.ptr 0 L i o) v (blk :: H) = (stB s L i o v blk).map (· :: H) := by
  unfold storeV stB
  simp only [List.getElem?_cons_zero]
  split
  · cases blk.elems[i]? with
    | none => rfl
    | some x => simp only; split <;> rfl
  · rfl
theorem q_stpS : storeV s (.ptr (b + 1) L i o) v (blk :: H) = (storeV s (.ptr b L i o) v H).map (blk :: ·) := by
  unfold storeV
  simp only [List.getElem?_cons_succ]
  cases H[b]? with
  | none => rfl
  | some y =>
    simp only
    split
    · cases y.elems[i]? with
      | none => rfl
      | some x => simp only; split <;> rfl
    · rfl
theorem q_stB : stB s 1 0 o v ⟨t, z, [.agg cs]⟩ = if storable v = true ∧ v.cells.length = s ∧ o + s ≤ cs.length then some ⟨t, z, [.agg (putC cs o v.cells)]⟩ else none := by
  have e : (AV.agg cs).cells = cs := rfl
  unfold stB
  by_cases h1 : storable v = true ∧ v.cells.length = s
  · by_cases h2 : o + s ≤ cs.length <;> simp [e, h1, h2, recell]
  · have h3 : ¬ (storable v = true ∧ v.cells.length = s ∧ o + s ≤ cs.length) := fun h => h1 ⟨h.1, h.2.1⟩
    rw [if_neg h3, if_neg (fun h => h1 h.2)]
theorem q_boxA : boxA t (.agg (x :: cs)) H = some (.ptr H.length 1 0 0, H ++ [⟨t, cs.length + 1, [.agg (x :: cs)]⟩]) := by
  unfold boxA; simp [storable, AV.cells]
theorem q_boxI {k : IntKind} {n : Int} : boxA t (.int k n) H = some (.ptr H.length 1 0 0, H ++ [⟨t, 1, [.int k n]⟩]) := by unfold boxA; rfl
theorem q_boxB {c : Bool} : boxA t (.bool c) H = some (.ptr H.length 1 0 0, H ++ [⟨t, 1, [.bool c]⟩]) := by unfold boxA; rfl
end

/-! Ends. -/
theorem w1 {x x' : AV} {H : AHeap} (h : belowB 0 x = true) (e : x = x') : E outV [] (finV [x] 0 H) (some (x', [])) := by subst e; exact oF (finV_zero h H)
theorem w2 {x y r : AV} {H : AHeap} (hx : belowB 0 x = true) (hy : belowB 0 y = true) (e : AV.tup [x, y] = r) : E outV [] (finV [x, y] 0 H) (some (r, [])) := by subst e; exact oF (finV_two hx hy H)
theorem w1i {k : IntKind} {n n' : Int} {H : AHeap} (e : n = n') : E outV [] (finV [.int k n] 0 H) (some (.int k n', [])) := w1 rfl (by rw [e])
theorem w1b {b b' : Bool} {H : AHeap} (e : b = b') : E outV [] (finV [.bool b] 0 H) (some (.bool b', [])) := w1 rfl (by rw [e])
theorem w2b {k : IntKind} {n n' : Int} {b b' : Bool} {H : AHeap} (e : n = n') (e2 : b = b') : E outV [] (finV [.int k n, .bool b] 0 H) (some (.tup [.int k n', .bool b'], [])) := w2 rfl rfl (by rw [e, e2])

/-! ### The base sets of '%a' -/
theorem qf : type_of% (And.intro @pu_val <| And.intro @nth_zero <| And.intro @nth_succ <| And.intro @gd_tt <| And.intro @gd_ff <| And.intro @gd_tf <| And.intro @gd_ft <| @gd_no) := And.intro @pu_val <| And.intro @nth_zero <| And.intro @nth_succ <| And.intro @gd_tt <| And.intro @gd_ff <| And.intro @gd_tf <| And.intro @gd_ft <| @gd_no
theorem qa : type_of% (And.intro qf <| And.intro @pickA_true <| And.intro @pickA_false <| And.intro @q_notT <| And.intro @q_notF <| And.intro @q_eql_t <| And.intro @q_eql_f <| And.intro @q_neq_t <| And.intro @q_neq_f <| And.intro @q_lss_t <| And.intro @q_lss_f <| And.intro @q_leq_t <| And.intro @q_leq_f <| And.intro @q_gtr_t <| And.intro @q_gtr_f <| And.intro @q_geq_t <| And.intro @q_geq_f <| And.intro @q_add <| And.intro @q_sub <| And.intro @q_addU <| And.intro @q_cvI <| And.intro @q_cvU <| And.intro @q_cv8 <| And.intro @q_cv32 <| And.intro @q_idxSl <| And.intro @q_lenRo <| And.intro @q_lenSl <| And.intro @q_lenNil <| And.intro @q_nilp <| And.intro @q_nilrp <| And.intro @q_nilfn <| And.intro @q_nilgl <| And.intro @q_fap <| And.intro @q_farp <| And.intro @q_ldrp <| And.intro @q_boxAgg <| And.intro @q_ext0 <| And.intro @q_ext1 <| And.intro @q_ext2 <| And.intro @List.getElem?_cons_zero.{0} <| And.intro @List.getElem?_cons_succ.{0} <| And.intro @List.getElem?_nil.{0} <| And.intro @q_stS <| And.intro @q_ldp0 <| And.intro @q_ldpS <| And.intro @q_ldB <| And.intro @q_ldBT <| And.intro @q_ldrpT <| And.intro @q_ldBi <| And.intro @q_ldBb <| And.intro @q_boxA <| And.intro @q_boxI <| And.intro @q_boxB <| And.intro @List.length_cons.{0} <| And.intro @List.length_nil.{0} <| And.intro @List.cons_append.{0} <| And.intro @List.nil_append.{0} <| And.intro @List.drop_zero.{0} <| And.intro @List.drop_succ_cons.{0} <| And.intro @List.take_succ_cons.{0} <| And.intro @List.take_zero.{0} <| And.intro @q_stp0 <| And.intro @q_stpS <| And.intro @q_stB <| And.intro @Option.map_some.{0, 0} <| And.intro @List.replicate_succ.{0} <| And.intro @List.replicate_zero.{0} <| And.intro @List.set_cons_zero.{0} <| And.intro @List.set_cons_succ.{0} <| And.intro @Nat.le_refl <| And.intro @and_self <| And.intro @true_and <| And.intro @and_true <| And.intro @if_true.{1} <| And.intro @Bool.not_true <| And.intro @Bool.not_false <| And.intro @Int.toNat_natCast <| @Nat.zero_add) := And.intro qf <| And.intro @pickA_true <| And.intro @pickA_false <| And.intro @q_notT <| And.intro @q_notF <| And.intro @q_eql_t <| And.intro @q_eql_f <| And.intro @q_neq_t <| And.intro @q_neq_f <| And.intro @q_lss_t <| And.intro @q_lss_f <| And.intro @q_leq_t <| And.intro @q_leq_f <| And.intro @q_gtr_t <| And.intro @q_gtr_f <| And.intro @q_geq_t <| And.intro @q_geq_f <| And.intro @q_add <| And.intro @q_sub <| And.intro @q_addU <| And.intro @q_cvI <| And.intro @q_cvU <| And.intro @q_cv8 <| And.intro @q_cv32 <| And.intro @q_idxSl <| And.intro @q_lenRo <| And.intro @q_lenSl <| And.intro @q_lenNil <| And.intro @q_nilp <| And.intro @q_nilrp <| And.intro @q_nilfn <| And.intro @q_nilgl <| And.intro @q_fap <| And.intro @q_farp <| And.intro @q_ldrp <| And.intro @q_boxAgg <| And.intro @q_ext0 <| And.intro @q_ext1 <| And.intro @q_ext2 <| And.intro @List.getElem?_cons_zero.{0} <| And.intro @List.getElem?_cons_succ.{0} <| And.intro @List.getElem?_nil.{0} <| And.intro @q_stS <| And.intro @q_ldp0 <| And.intro @q_ldpS <| And.intro @q_ldB <| And.intro @q_ldBT <| And.intro @q_ldrpT <| And.intro @q_ldBi <| And.intro @q_ldBb <| And.intro @q_boxA <| And.intro @q_boxI <| And.intro @q_boxB <| And.intro @List.length_cons.{0} <| And.intro @List.length_nil.{0} <| And.intro @List.cons_append.{0} <| And.intro @List.nil_append.{0} <| And.intro @List.drop_zero.{0} <| And.intro @List.drop_succ_cons.{0} <| And.intro @List.take_succ_cons.{0} <| And.intro @List.take_zero.{0} <| And.intro @q_stp0 <| And.intro @q_stpS <| And.intro @q_stB <| And.intro @Option.map_some.{0, 0} <| And.intro @List.replicate_succ.{0} <| And.intro @List.replicate_zero.{0} <| And.intro @List.set_cons_zero.{0} <| And.intro @List.set_cons_succ.{0} <| And.intro @Nat.le_refl <| And.intro @and_self <| And.intro @true_and <| And.intro @and_true <| And.intro @if_true.{1} <| And.intro @Bool.not_true <| And.intro @Bool.not_false <| And.intro @Int.toNat_natCast <| @Nat.zero_add
end Go.Proofs.YtdfglgnflldkpaaDoor.Mir
