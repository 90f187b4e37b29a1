/- Mirror, part W: what the printed functions use. -/
import Derived.Test.YtdfglgnflldkpaaDoorMirV
namespace Go.Proofs.YtdfglgnflldkpaaDoor.Mir
open Go
set_option linter.unusedVariables false
set_option linter.unusedSimpArgs false

def envL : List (Nat × Bool × Den) → Env
  | [], _ => none
  | (f, p, g) :: l, n => if n = f then some (p, g) else envL l n

theorem envL_mem : ∀ {l : List (Nat × Bool × Den)} {n : Nat} {p : Bool} {g : Den}, envL l n = some (p, g) → ∃ e ∈ l, e.1 = n ∧ e.2.1 = p ∧ e.2.2 = g
  | [], n, p, g, h => by simp [envL] at h
  | (f, q, k) :: l, n, p, g, h => by
    simp only [envL] at h
    split at h
    · rename_i e
      simp only [Option.some.injEq, Prod.mk.injEq] at h
      exact ⟨(f, q, k), by simp, e.symm, h.1, h.2⟩
    · obtain ⟨e, h1, h2⟩ := envL_mem h
      exact ⟨e, by simp [h1], h2⟩

theorem envSound_of {P : Program} {G : Globs} {l : List (Nat × Bool × Den)} (hG : ∀ g x, G g = some x → plainB x = true) (h : ∀ e ∈ l, Sound P G e.1 e.2.2) : EnvSound P G (envL l) :=
  ⟨fun f p g hf => by
    obtain ⟨e, h1, h2, _, h4⟩ := envL_mem hf
    subst h2 h4
    exact h e h1, hG⟩

def codeOf (fn : Func) : Code := match fn.body with | some c => c | none => .skip

def inL (l : List Nat) (n : Nat) : Bool := match l with | [] => false | x :: l => if n = x then true else inL l n
def getL (l : List (Nat × List Nat)) (n : Nat) : List Nat := match l with | [] => [] | (x, ks) :: l => if n = x then ks else getL l n
def getJ (l : List (Nat × List Nat)) (n : Nat) : Option (List Nat) := match l with | [] => none | (x, ks) :: l => if n = x then some ks else getJ l n

def getV (l : List (Nat × List (Nat × Nat × Nat × Nat))) (n : Nat) : List (Nat × Nat × Nat × Nat) := match l with | [] => [] | (x, ks) :: l => if n = x then ks else getV l n

def mkAnn (own nilS : List Nat) (keep join : List (Nat × List Nat)) : Ann := { own := inL own, nil := inL nilS, keep := getL keep, join := getJ join, virt := fun _ => [], pt := fun _ => false }
def mkAnnV (own nilS : List Nat) (keep join : List (Nat × List Nat)) (virt : List (Nat × List (Nat × Nat × Nat × Nat))) (pt : List Nat) : Ann := { own := inL own, nil := inL nilS, keep := getL keep, join := getJ join, virt := getV virt, pt := inL pt }

theorem sound_zero {P : Program} {G : Globs} {f : Nat} (h : ∃ fn, P.funcs[f]? = some fn ∧ fn.body.isSome = true ∧ (fn.name == "runtime.NumGoroutine") = false) {g : Den} (hg : ∀ args H, g args H = none) : Sound P G f g :=
  ⟨h, fun args H r H' hr => by rw [hg] at hr; cases hr⟩

/-- One step of a printed function's contract. -/
theorem sound_succ {P : Program} {G : Globs} {l : List (Nat × Bool × Den)} {ann : Ann} {f : Nat} {fn : Func} {N n : Nat} (hE : EnvSound P G (envL l)) (hm : P.follows .mixedOrders = true)
    (hf : P.funcs[f]? = some fn) (hb : fn.body.isSome = true) (hname : (fn.name == "runtime.NumGoroutine") = false) (hN : fn.ntmps = N) (hok : codeOk ann (pureIn (envL l)) N (codeOf fn) = true) {g : Den}
    (hg : ∀ args H x, g args H = some x → absFn P G (envL l) ann fn.results.toList (codeOf fn) N n args H = some x) : Sound P G f g := by
  obtain ⟨c, hc⟩ := Option.isSome_iff_exists.1 hb
  have : codeOf fn = c := by simp [codeOf, hc]
  exact (absFn_sound hE hm hf (by rw [hc, this]) hname rfl hN hok).mono hg

/-- The same of a function that hands over what it made. -/
theorem sound_succO {P : Program} {G : Globs} {l : List (Nat × Bool × Den)} {ann : Ann} {f : Nat} {fn : Func} {N n : Nat} (hE : EnvSound P G (envL l)) (hm : P.follows .mixedOrders = true)
    (hf : P.funcs[f]? = some fn) (hb : fn.body.isSome = true) (hname : (fn.name == "runtime.NumGoroutine") = false) (hN : fn.ntmps = N) (hok : codeOk ann (pureIn (envL l)) N (codeOf fn) = true) {g : Den}
    (hg : ∀ args H x, g args H = some x → absFnO P G (envL l) ann fn.results.toList (codeOf fn) N n args H = some x) : Sound P G f g := by
  obtain ⟨c, hc⟩ := Option.isSome_iff_exists.1 hb
  have : codeOf fn = c := by simp [codeOf, hc]
  exact (absFnO_sound hE hm hf (by rw [hc, this]) hname rfl hN hok).mono hg

theorem envNil {P : Program} {G : Globs} : ∀ e ∈ ([] : List (Nat × Bool × Den)), Sound P G e.1 e.2.2 := fun e he => by cases he

theorem envCons {P : Program} {G : Globs} {f : Nat} {p : Bool} {g : Den} {l : List (Nat × Bool × Den)} (h : Sound P G f g) (hl : ∀ e ∈ l, Sound P G e.1 e.2.2) : ∀ e ∈ (f, p, g) :: l, Sound P G e.1 e.2.2 := fun e he => by
  rcases List.mem_cons.1 he with rfl | he
  · exact h
  · exact hl e he

def stS (m : Option AHeap) : Option (AV × AHeap) :=
  match m with
  | some H' => some (.tup [], H')
  | none => none

def loopOf (id : Nat) : Code → Option Code
  | .seq a b => match loopOf id a with
    | some c => some c
    | none => loopOf id b
  | .cond _ a b => match loopOf id a with
    | some c => some c
    | none => loopOf id b
  | .block _ b => loopOf id b
  | .loop b => if firstR b = id then some b else loopOf id b
  | .scope b => loopOf id b
  | _ => none

def arg0 (args : List AV) (k : Option (AV × AHeap)) : Option (AV × AHeap) :=
  match args with
  | [] => k 
  | _ => none

theorem arg0_of {B : AHeap → Option (AV × AHeap)} {a : Den} (h : ∀ H, a [] H = B  H) : ∀ args H x, arg0 args (B  H) = some x → a args H = some x := by
  intro args H x hx
  unfold arg0 at hx
  split at hx
  · rw [h]; exact hx
  · cases hx

def arg1 (args : List AV) (k : AV → Option (AV × AHeap)) : Option (AV × AHeap) :=
  match args with
  | [x0] => k x0
  | _ => none

theorem arg1_of {B : AV → AHeap → Option (AV × AHeap)} {a : Den} (h : ∀ x0 H, a [x0] H = B x0 H) : ∀ args H x, arg1 args (fun x0 => B x0 H) = some x → a args H = some x := by
  intro args H x hx
  unfold arg1 at hx
  split at hx
  · rw [h]; exact hx
  · cases hx

def arg2 (args : List AV) (k : AV → AV → Option (AV × AHeap)) : Option (AV × AHeap) :=
  match args with
  | [x0, x1] => k x0 x1
  | _ => none

theorem arg2_of {B : AV → AV → AHeap → Option (AV × AHeap)} {a : Den} (h : ∀ x0 x1 H, a [x0, x1] H = B x0 x1 H) : ∀ args H x, arg2 args (fun x0 x1 => B x0 x1 H) = some x → a args H = some x := by
  intro args H x hx
  unfold arg2 at hx
  split at hx
  · rw [h]; exact hx
  · cases hx

def arg3 (args : List AV) (k : AV → AV → AV → Option (AV × AHeap)) : Option (AV × AHeap) :=
  match args with
  | [x0, x1, x2] => k x0 x1 x2
  | _ => none

theorem arg3_of {B : AV → AV → AV → AHeap → Option (AV × AHeap)} {a : Den} (h : ∀ x0 x1 x2 H, a [x0, x1, x2] H = B x0 x1 x2 H) : ∀ args H x, arg3 args (fun x0 x1 x2 => B x0 x1 x2 H) = some x → a args H = some x := by
  intro args H x hx
  unfold arg3 at hx
  split at hx
  · rw [h]; exact hx
  · cases hx

def arg4 (args : List AV) (k : AV → AV → AV → AV → Option (AV × AHeap)) : Option (AV × AHeap) :=
  match args with
  | [x0, x1, x2, x3] => k x0 x1 x2 x3
  | _ => none

theorem arg4_of {B : AV → AV → AV → AV → AHeap → Option (AV × AHeap)} {a : Den} (h : ∀ x0 x1 x2 x3 H, a [x0, x1, x2, x3] H = B x0 x1 x2 x3 H) : ∀ args H x, arg4 args (fun x0 x1 x2 x3 => B x0 x1 x2 x3 H) = some x → a args H = some x := by
  intro args H x hx
  unfold arg4 at hx
  split at hx
  · rw [h]; exact hx
  · cases hx

def arg5 (args : List AV) (k : AV → AV → AV → AV → AV → Option (AV × AHeap)) : Option (AV × AHeap) :=
  match args with
  | [x0, x1, x2, x3, x4] => k x0 x1 x2 x3 x4
  | _ => none

theorem arg5_of {B : AV → AV → AV → AV → AV → AHeap → Option (AV × AHeap)} {a : Den} (h : ∀ x0 x1 x2 x3 x4 H, a [x0, x1, x2, x3, x4] H = B x0 x1 x2 x3 x4 H) : ∀ args H x, arg5 args (fun x0 x1 x2 x3 x4 => B x0 x1 x2 x3 x4 H) = some x → a args H = some x := by
  intro args H x hx
  unfold arg5 at hx
  split at hx
  · rw [h]; exact hx
  · cases hx

def arg6 (args : List AV) (k : AV → AV → AV → AV → AV → AV → Option (AV × AHeap)) : Option (AV × AHeap) :=
  match args with
  | [x0, x1, x2, x3, x4, x5] => k x0 x1 x2 x3 x4 x5
  | _ => none

theorem arg6_of {B : AV → AV → AV → AV → AV → AV → AHeap → Option (AV × AHeap)} {a : Den} (h : ∀ x0 x1 x2 x3 x4 x5 H, a [x0, x1, x2, x3, x4, x5] H = B x0 x1 x2 x3 x4 x5 H) : ∀ args H x, arg6 args (fun x0 x1 x2 x3 x4 x5 => B x0 x1 x2 x3 x4 x5 H) = some x → a args H = some x := by
  intro args H x hx
  unfold arg6 at hx
  split at hx
  · rw [h]; exact hx
  · cases hx

def arg7 (args : List AV) (k : AV → AV → AV → AV → AV → AV → AV → Option (AV × AHeap)) : Option (AV × AHeap) :=
  match args with
  | [x0, x1, x2, x3, x4, x5, x6] => k x0 x1 x2 x3 x4 x5 x6
  | _ => none

theorem arg7_of {B : AV → AV → AV → AV → AV → AV → AV → AHeap → Option (AV × AHeap)} {a : Den} (h : ∀ x0 x1 x2 x3 x4 x5 x6 H, a [x0, x1, x2, x3, x4, x5, x6] H = B x0 x1 x2 x3 x4 x5 x6 H) : ∀ args H x, arg7 args (fun x0 x1 x2 x3 x4 x5 x6 => B x0 x1 x2 x3 x4 x5 x6 H) = some x → a args H = some x := by
  intro args H x hx
  unfold arg7 at hx
  split at hx
  · rw [h]; exact hx
  · cases hx

def arg8 (args : List AV) (k : AV → AV → AV → AV → AV → AV → AV → AV → Option (AV × AHeap)) : Option (AV × AHeap) :=
  match args with
  | [x0, x1, x2, x3, x4, x5, x6, x7] => k x0 x1 x2 x3 x4 x5 x6 x7
  | _ => none

theorem arg8_of {B : AV → AV → AV → AV → AV → AV → AV → AV → AHeap → Option (AV × AHeap)} {a : Den} (h : ∀ x0 x1 x2 x3 x4 x5 x6 x7 H, a [x0, x1, x2, x3, x4, x5, x6, x7] H = B x0 x1 x2 x3 x4 x5 x6 x7 H) : ∀ args H x, arg8 args (fun x0 x1 x2 x3 x4 x5 x6 x7 => B x0 x1 x2 x3 x4 x5 x6 x7 H) = some x → a args H = some x := by
  intro args H x hx
  unfold arg8 at hx
  split at hx
  · rw [h]; exact hx
  · cases hx

def arg9 (args : List AV) (k : AV → AV → AV → AV → AV → AV → AV → AV → AV → Option (AV × AHeap)) : Option (AV × AHeap) :=
  match args with
  | [x0, x1, x2, x3, x4, x5, x6, x7, x8] => k x0 x1 x2 x3 x4 x5 x6 x7 x8
  | _ => none

theorem arg9_of {B : AV → AV → AV → AV → AV → AV → AV → AV → AV → AHeap → Option (AV × AHeap)} {a : Den} (h : ∀ x0 x1 x2 x3 x4 x5 x6 x7 x8 H, a [x0, x1, x2, x3, x4, x5, x6, x7, x8] H = B x0 x1 x2 x3 x4 x5 x6 x7 x8 H) : ∀ args H x, arg9 args (fun x0 x1 x2 x3 x4 x5 x6 x7 x8 => B x0 x1 x2 x3 x4 x5 x6 x7 x8 H) = some x → a args H = some x := by
  intro args H x hx
  unfold arg9 at hx
  split at hx
  · rw [h]; exact hx
  · cases hx

def arg10 (args : List AV) (k : AV → AV → AV → AV → AV → AV → AV → AV → AV → AV → Option (AV × AHeap)) : Option (AV × AHeap) :=
  match args with
  | [x0, x1, x2, x3, x4, x5, x6, x7, x8, x9] => k x0 x1 x2 x3 x4 x5 x6 x7 x8 x9
  | _ => none

theorem arg10_of {B : AV → AV → AV → AV → AV → AV → AV → AV → AV → AV → AHeap → Option (AV × AHeap)} {a : Den} (h : ∀ x0 x1 x2 x3 x4 x5 x6 x7 x8 x9 H, a [x0, x1, x2, x3, x4, x5, x6, x7, x8, x9] H = B x0 x1 x2 x3 x4 x5 x6 x7 x8 x9 H) : ∀ args H x, arg10 args (fun x0 x1 x2 x3 x4 x5 x6 x7 x8 x9 => B x0 x1 x2 x3 x4 x5 x6 x7 x8 x9 H) = some x → a args H = some x := by
  intro args H x hx
  unfold arg10 at hx
  split at hx
  · rw [h]; exact hx
  · cases hx

def arg11 (args : List AV) (k : AV → AV → AV → AV → AV → AV → AV → AV → AV → AV → AV → Option (AV × AHeap)) : Option (AV × AHeap) :=
  match args with
  | [x0, x1, x2, x3, x4, x5, x6, x7, x8, x9, x10] => k x0 x1 x2 x3 x4 x5 x6 x7 x8 x9 x10
  | _ => none

theorem arg11_of {B : AV → AV → AV → AV → AV → AV → AV → AV → AV → AV → AV → AHeap → Option (AV × AHeap)} {a : Den} (h : ∀ x0 x1 x2 x3 x4 x5 x6 x7 x8 x9 x10 H, a [x0, x1, x2, x3, x4, x5, x6, x7, x8, x9, x10] H = B x0 x1 x2 x3 x4 x5 x6 x7 x8 x9 x10 H) : ∀ args H x, arg11 args (fun x0 x1 x2 x3 x4 x5 x6 x7 x8 x9 x10 => B x0 x1 x2 x3 x4 x5 x6 x7 x8 x9 x10 H) = some x → a args H = some x := by
  intro args H x hx
  unfold arg11 at hx
  split at hx
  · rw [h]; exact hx
  · cases hx

def arg12 (args : List AV) (k : AV → AV → AV → AV → AV → AV → AV → AV → AV → AV → AV → AV → Option (AV × AHeap)) : Option (AV × AHeap) :=
  match args with
  | [x0, x1, x2, x3, x4, x5, x6, x7, x8, x9, x10, x11] => k x0 x1 x2 x3 x4 x5 x6 x7 x8 x9 x10 x11
  | _ => none

theorem arg12_of {B : AV → AV → AV → AV → AV → AV → AV → AV → AV → AV → AV → AV → AHeap → Option (AV × AHeap)} {a : Den} (h : ∀ x0 x1 x2 x3 x4 x5 x6 x7 x8 x9 x10 x11 H, a [x0, x1, x2, x3, x4, x5, x6, x7, x8, x9, x10, x11] H = B x0 x1 x2 x3 x4 x5 x6 x7 x8 x9 x10 x11 H) : ∀ args H x, arg12 args (fun x0 x1 x2 x3 x4 x5 x6 x7 x8 x9 x10 x11 => B x0 x1 x2 x3 x4 x5 x6 x7 x8 x9 x10 x11 H) = some x → a args H = some x := by
  intro args H x hx
  unfold arg12 at hx
  split at hx
  · rw [h]; exact hx
  · cases hx

end Go.Proofs.YtdfglgnflldkpaaDoor.Mir
