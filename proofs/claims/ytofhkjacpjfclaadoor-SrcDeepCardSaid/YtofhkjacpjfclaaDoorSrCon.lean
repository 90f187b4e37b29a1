/- Printed by Print.lean: their contracts. -/
import Derived.Test.YtofhkjacpjfclaaDoorSrFun
import Derived.Test.YtofhkjacpjfclaaDoorProg
import Derived.KernelRfl
namespace Go.Proofs.YtofhkjacpjfclaaDoor.Mir
open Go
set_option linter.unusedVariables false
theorem orders : Tryd.prog.follows .mixedOrders = true := by kernel_rfl
theorem src_Valid_1.here : ∃ fn, Tryd.prog.funcs[49]? = some fn ∧ fn.body.isSome = true ∧ (fn.name == "runtime.NumGoroutine") = false := ⟨_, Tryd.func49, by kernel_rfl, by kernel_rfl⟩
theorem src_Valid_1.eq (G : Globs) (k : Nat) (self : Den) (x0 x1 x2 x3 : AV) (h : AHeap) : absFn Tryd.prog G (envL (src_Valid_1.env G k self)) src_Valid_1.ann Tryd.f49.results.toList (codeOf Tryd.f49) Tryd.f49.ntmps k [x0, x1, x2, x3] h = src_Valid_1.c G k self x0 x1 x2 x3 h := by kernel_rfl
theorem src_Valid_1.sound {G : Globs} (hG : ∀ g x, G g = some x → plainB x = true) : ∀ k, Sound Tryd.prog G 49 (src_Valid_1.f G k)
  | 0 => sound_zero src_Valid_1.here (fun _ _ => rfl)
  | k + 1 => sound_succ (l := src_Valid_1.env G k (src_Valid_1.f G k)) (ann := src_Valid_1.ann) (n := k) (envSound_of hG envNil) orders Tryd.func49 (by kernel_rfl) (by kernel_rfl) rfl (by kernel_rfl) (arg4_of fun x0 x1 x2 x3 h => src_Valid_1.eq G k _ x0 x1 x2 x3 h)
theorem src_of.here : ∃ fn, Tryd.prog.funcs[80]? = some fn ∧ fn.body.isSome = true ∧ (fn.name == "runtime.NumGoroutine") = false := ⟨_, Tryd.func80, by kernel_rfl, by kernel_rfl⟩
theorem src_of.eq (G : Globs) (k : Nat) (self : Den) (x0 : AV) (h : AHeap) : absFn Tryd.prog G (envL (src_of.env G k self)) src_of.ann Tryd.f80.results.toList (codeOf Tryd.f80) Tryd.f80.ntmps k [x0] h = src_of.c G k self x0 h := by kernel_rfl
theorem src_of.sound {G : Globs} (hG : ∀ g x, G g = some x → plainB x = true) : ∀ k, Sound Tryd.prog G 80 (src_of.f G k)
  | 0 => sound_zero src_of.here (fun _ _ => rfl)
  | k + 1 => sound_succ (l := src_of.env G k (src_of.f G k)) (ann := src_of.ann) (n := k) (envSound_of hG envNil) orders Tryd.func80 (by kernel_rfl) (by kernel_rfl) rfl (by kernel_rfl) (arg1_of fun x0 h => src_of.eq G k _ x0 h)
theorem src_Writes.here : ∃ fn, Tryd.prog.funcs[37]? = some fn ∧ fn.body.isSome = true ∧ (fn.name == "runtime.NumGoroutine") = false := ⟨_, Tryd.func37, by kernel_rfl, by kernel_rfl⟩
theorem src_Writes.eq (G : Globs) (k : Nat) (self : Den) (x0 : AV) (h : AHeap) : absFn Tryd.prog G (envL (src_Writes.env G k self)) src_Writes.ann Tryd.f37.results.toList (codeOf Tryd.f37) Tryd.f37.ntmps k [x0] h = src_Writes.c G k self x0 h := by kernel_rfl
theorem src_Writes.sound {G : Globs} (hG : ∀ g x, G g = some x → plainB x = true) : ∀ k, Sound Tryd.prog G 37 (src_Writes.f G k)
  | 0 => sound_zero src_Writes.here (fun _ _ => rfl)
  | k + 1 => sound_succ (l := src_Writes.env G k (src_Writes.f G k)) (ann := src_Writes.ann) (n := k) (envSound_of hG (envCons (src_of.sound hG k) envNil)) orders Tryd.func37 (by kernel_rfl) (by kernel_rfl) rfl (by kernel_rfl) (arg1_of fun x0 h => src_Writes.eq G k _ x0 h)
theorem src_Uses.here : ∃ fn, Tryd.prog.funcs[42]? = some fn ∧ fn.body.isSome = true ∧ (fn.name == "runtime.NumGoroutine") = false := ⟨_, Tryd.func42, by kernel_rfl, by kernel_rfl⟩
theorem src_Uses.eq (G : Globs) (k : Nat) (self : Den) (x0 : AV) (h : AHeap) : absFnO Tryd.prog G (envL (src_Uses.env G k self)) src_Uses.ann Tryd.f42.results.toList (codeOf Tryd.f42) Tryd.f42.ntmps k [x0] h = src_Uses.c G k self x0 h := by kernel_rfl
theorem src_Uses.sound {G : Globs} (hG : ∀ g x, G g = some x → plainB x = true) : ∀ k, Sound Tryd.prog G 42 (src_Uses.f G k)
  | 0 => sound_zero src_Uses.here (fun _ _ => rfl)
  | k + 1 => sound_succO (l := src_Uses.env G k (src_Uses.f G k)) (ann := src_Uses.ann) (n := k) (envSound_of hG (envCons (src_of.sound hG k) envNil)) orders Tryd.func42 (by kernel_rfl) (by kernel_rfl) rfl (by kernel_rfl) (arg1_of fun x0 h => src_Uses.eq G k _ x0 h)
theorem src_shape.here : ∃ fn, Tryd.prog.funcs[88]? = some fn ∧ fn.body.isSome = true ∧ (fn.name == "runtime.NumGoroutine") = false := ⟨_, Tryd.func88, by kernel_rfl, by kernel_rfl⟩
theorem src_shape.eq (G : Globs) (k : Nat) (self : Den) (x0 x1 : AV) (h : AHeap) : absFn Tryd.prog G (envL (src_shape.env G k self)) src_shape.ann Tryd.f88.results.toList (codeOf Tryd.f88) Tryd.f88.ntmps k [x0, x1] h = src_shape.c G k self x0 x1 h := by kernel_rfl
theorem src_shape.sound {G : Globs} (hG : ∀ g x, G g = some x → plainB x = true) : ∀ k, Sound Tryd.prog G 88 (src_shape.f G k)
  | 0 => sound_zero src_shape.here (fun _ _ => rfl)
  | k + 1 => sound_succ (l := src_shape.env G k (src_shape.f G k)) (ann := src_shape.ann) (n := k) (envSound_of hG envNil) orders Tryd.func88 (by kernel_rfl) (by kernel_rfl) rfl (by kernel_rfl) (arg2_of fun x0 x1 h => src_shape.eq G k _ x0 x1 h)
theorem src_Number.here : ∃ fn, Tryd.prog.funcs[89]? = some fn ∧ fn.body.isSome = true ∧ (fn.name == "runtime.NumGoroutine") = false := ⟨_, Tryd.func89, by kernel_rfl, by kernel_rfl⟩
theorem src_Number.eq (G : Globs) (k : Nat) (self : Den) (x0 x1 : AV) (h : AHeap) : absFn Tryd.prog G (envL (src_Number.env G k self)) src_Number.ann Tryd.f89.results.toList (codeOf Tryd.f89) Tryd.f89.ntmps k [x0, x1] h = src_Number.c G k self x0 x1 h := by kernel_rfl
theorem src_Number.sound {G : Globs} (hG : ∀ g x, G g = some x → plainB x = true) : ∀ k, Sound Tryd.prog G 89 (src_Number.f G k)
  | 0 => sound_zero src_Number.here (fun _ _ => rfl)
  | k + 1 => sound_succ (l := src_Number.env G k (src_Number.f G k)) (ann := src_Number.ann) (n := k) (envSound_of hG envNil) orders Tryd.func89 (by kernel_rfl) (by kernel_rfl) rfl (by kernel_rfl) (arg2_of fun x0 x1 h => src_Number.eq G k _ x0 x1 h)
theorem src_one.here : ∃ fn, Tryd.prog.funcs[51]? = some fn ∧ fn.body.isSome = true ∧ (fn.name == "runtime.NumGoroutine") = false := ⟨_, Tryd.func51, by kernel_rfl, by kernel_rfl⟩
theorem src_one.eq (G : Globs) (k : Nat) (self : Den) (x0 x1 : AV) (h : AHeap) : absFn Tryd.prog G (envL (src_one.env G k self)) src_one.ann Tryd.f51.results.toList (codeOf Tryd.f51) Tryd.f51.ntmps k [x0, x1] h = src_one.c G k self x0 x1 h := by kernel_rfl
theorem src_one.sound {G : Globs} (hG : ∀ g x, G g = some x → plainB x = true) : ∀ k, Sound Tryd.prog G 51 (src_one.f G k)
  | 0 => sound_zero src_one.here (fun _ _ => rfl)
  | k + 1 => sound_succ (l := src_one.env G k (src_one.f G k)) (ann := src_one.ann) (n := k) (envSound_of hG (envCons (src_Writes.sound hG k) (envCons (src_Uses.sound hG k) (envCons (src_of.sound hG k) (envCons (src_shape.sound hG k) (envCons (src_Number.sound hG k) envNil)))))) orders Tryd.func51 (by kernel_rfl) (by kernel_rfl) rfl (by kernel_rfl) (arg2_of fun x0 x1 h => src_one.eq G k _ x0 x1 h)
theorem src_Valid_2.here : ∃ fn, Tryd.prog.funcs[50]? = some fn ∧ fn.body.isSome = true ∧ (fn.name == "runtime.NumGoroutine") = false := ⟨_, Tryd.func50, by kernel_rfl, by kernel_rfl⟩
theorem src_Valid_2.eq (G : Globs) (k : Nat) (self : Den) (x0 x1 x2 x3 x4 : AV) (h : AHeap) : absFn Tryd.prog G (envL (src_Valid_2.env G k self)) src_Valid_2.ann Tryd.f50.results.toList (codeOf Tryd.f50) Tryd.f50.ntmps k [x0, x1, x2, x3, x4] h = src_Valid_2.c G k self x0 x1 x2 x3 x4 h := by kernel_rfl
theorem src_Valid_2.sound {G : Globs} (hG : ∀ g x, G g = some x → plainB x = true) : ∀ k, Sound Tryd.prog G 50 (src_Valid_2.f G k)
  | 0 => sound_zero src_Valid_2.here (fun _ _ => rfl)
  | k + 1 => sound_succ (l := src_Valid_2.env G k (src_Valid_2.f G k)) (ann := src_Valid_2.ann) (n := k) (envSound_of hG (envCons (src_one.sound hG k) envNil)) orders Tryd.func50 (by kernel_rfl) (by kernel_rfl) rfl (by kernel_rfl) (arg5_of fun x0 x1 x2 x3 x4 h => src_Valid_2.eq G k _ x0 x1 x2 x3 x4 h)
theorem src_Count_1.here : ∃ fn, Tryd.prog.funcs[79]? = some fn ∧ fn.body.isSome = true ∧ (fn.name == "runtime.NumGoroutine") = false := ⟨_, Tryd.func79, by kernel_rfl, by kernel_rfl⟩
theorem src_Count_1.eq (G : Globs) (k : Nat) (self : Den) (x0 x1 x2 : AV) (h : AHeap) : absFn Tryd.prog G (envL (src_Count_1.env G k self)) src_Count_1.ann Tryd.f79.results.toList (codeOf Tryd.f79) Tryd.f79.ntmps k [x0, x1, x2] h = src_Count_1.c G k self x0 x1 x2 h := by kernel_rfl
theorem src_Count_1.sound {G : Globs} (hG : ∀ g x, G g = some x → plainB x = true) : ∀ k, Sound Tryd.prog G 79 (src_Count_1.f G k)
  | 0 => sound_zero src_Count_1.here (fun _ _ => rfl)
  | k + 1 => sound_succ (l := src_Count_1.env G k (src_Count_1.f G k)) (ann := src_Count_1.ann) (n := k) (envSound_of hG envNil) orders Tryd.func79 (by kernel_rfl) (by kernel_rfl) rfl (by kernel_rfl) (arg3_of fun x0 x1 x2 h => src_Count_1.eq G k _ x0 x1 x2 h)
theorem zq_Is.here : ∃ fn, Tryd.prog.funcs[86]? = some fn ∧ fn.body.isSome = true ∧ (fn.name == "runtime.NumGoroutine") = false := ⟨_, Tryd.func86, by kernel_rfl, by kernel_rfl⟩
theorem zq_Is.eq (G : Globs) (k : Nat) (self : Den) (x0 : AV) (h : AHeap) : absFn Tryd.prog G (envL (zq_Is.env G k self)) zq_Is.ann Tryd.f86.results.toList (codeOf Tryd.f86) Tryd.f86.ntmps k [x0] h = zq_Is.c G k self x0 h := by kernel_rfl
theorem zq_Is.sound {G : Globs} (hG : ∀ g x, G g = some x → plainB x = true) : ∀ k, Sound Tryd.prog G 86 (zq_Is.f G k)
  | 0 => sound_zero zq_Is.here (fun _ _ => rfl)
  | k + 1 => sound_succ (l := zq_Is.env G k (zq_Is.f G k)) (ann := zq_Is.ann) (n := k) (envSound_of hG envNil) orders Tryd.func86 (by kernel_rfl) (by kernel_rfl) rfl (by kernel_rfl) (arg1_of fun x0 h => zq_Is.eq G k _ x0 h)
theorem ring_Valid.here : ∃ fn, Tryd.prog.funcs[47]? = some fn ∧ fn.body.isSome = true ∧ (fn.name == "runtime.NumGoroutine") = false := ⟨_, Tryd.func47, by kernel_rfl, by kernel_rfl⟩
theorem ring_Valid.eq (G : Globs) (k : Nat) (self : Den) (x0 : AV) (h : AHeap) : absFn Tryd.prog G (envL (ring_Valid.env G k self)) ring_Valid.ann Tryd.f47.results.toList (codeOf Tryd.f47) Tryd.f47.ntmps k [x0] h = ring_Valid.c G k self x0 h := by kernel_rfl
theorem ring_Valid.sound {G : Globs} (hG : ∀ g x, G g = some x → plainB x = true) : ∀ k, Sound Tryd.prog G 47 (ring_Valid.f G k)
  | 0 => sound_zero ring_Valid.here (fun _ _ => rfl)
  | k + 1 => sound_succ (l := ring_Valid.env G k (ring_Valid.f G k)) (ann := ring_Valid.ann) (n := k) (envSound_of hG (envCons (zq_Is.sound hG k) envNil)) orders Tryd.func47 (by kernel_rfl) (by kernel_rfl) rfl (by kernel_rfl) (arg1_of fun x0 h => ring_Valid.eq G k _ x0 h)
theorem src_each.here : ∃ fn, Tryd.prog.funcs[87]? = some fn ∧ fn.body.isSome = true ∧ (fn.name == "runtime.NumGoroutine") = false := ⟨_, Tryd.func87, by kernel_rfl, by kernel_rfl⟩
theorem src_each.eq (G : Globs) (k : Nat) (self : Den) (x0 x1 x2 : AV) (h : AHeap) : absFn Tryd.prog G (envL (src_each.env G k self)) src_each.ann Tryd.f87.results.toList (codeOf Tryd.f87) Tryd.f87.ntmps k [x0, x1, x2] h = src_each.c G k self x0 x1 x2 h := by kernel_rfl
theorem src_each.sound {G : Globs} (hG : ∀ g x, G g = some x → plainB x = true) : ∀ k, Sound Tryd.prog G 87 (src_each.f G k)
  | 0 => sound_zero src_each.here (fun _ _ => rfl)
  | k + 1 => sound_succ (l := src_each.env G k (src_each.f G k)) (ann := src_each.ann) (n := k) (envSound_of hG (envCons (src_Valid_1.sound hG k) (envCons (src_Valid_2.sound hG k) (envCons (src_Count_1.sound hG k) (envCons (src_each.sound hG k) envNil))))) orders Tryd.func87 (by kernel_rfl) (by kernel_rfl) rfl (by kernel_rfl) (arg3_of fun x0 x1 x2 h => src_each.eq G k _ x0 x1 x2 h)
theorem src_Each.here : ∃ fn, Tryd.prog.funcs[48]? = some fn ∧ fn.body.isSome = true ∧ (fn.name == "runtime.NumGoroutine") = false := ⟨_, Tryd.func48, by kernel_rfl, by kernel_rfl⟩
theorem src_Each.eq (G : Globs) (k : Nat) (self : Den) (x0 x1 : AV) (h : AHeap) : absFn Tryd.prog G (envL (src_Each.env G k self)) src_Each.ann Tryd.f48.results.toList (codeOf Tryd.f48) Tryd.f48.ntmps k [x0, x1] h = src_Each.c G k self x0 x1 h := by kernel_rfl
theorem src_Each.sound {G : Globs} (hG : ∀ g x, G g = some x → plainB x = true) : ∀ k, Sound Tryd.prog G 48 (src_Each.f G k)
  | 0 => sound_zero src_Each.here (fun _ _ => rfl)
  | k + 1 => sound_succ (l := src_Each.env G k (src_Each.f G k)) (ann := src_Each.ann) (n := k) (envSound_of hG (envCons (src_each.sound hG k) envNil)) orders Tryd.func48 (by kernel_rfl) (by kernel_rfl) rfl (by kernel_rfl) (arg2_of fun x0 x1 h => src_Each.eq G k _ x0 x1 h)
theorem src_Valid.here : ∃ fn, Tryd.prog.funcs[12]? = some fn ∧ fn.body.isSome = true ∧ (fn.name == "runtime.NumGoroutine") = false := ⟨_, Tryd.func12, by kernel_rfl, by kernel_rfl⟩
theorem src_Valid.eq (G : Globs) (k : Nat) (self : Den) (x0 : AV) (h : AHeap) : absFn Tryd.prog G (envL (src_Valid.env G k self)) src_Valid.ann Tryd.f12.results.toList (codeOf Tryd.f12) Tryd.f12.ntmps k [x0] h = src_Valid.c G k self x0 h := by kernel_rfl
theorem src_Valid.sound {G : Globs} (hG : ∀ g x, G g = some x → plainB x = true) : ∀ k, Sound Tryd.prog G 12 (src_Valid.f G k)
  | 0 => sound_zero src_Valid.here (fun _ _ => rfl)
  | k + 1 => sound_succ (l := src_Valid.env G k (src_Valid.f G k)) (ann := src_Valid.ann) (n := k) (envSound_of hG (envCons (ring_Valid.sound hG k) (envCons (src_Each.sound hG k) (envCons (src_Valid_1.sound hG k) (envCons (src_Valid_2.sound hG k) envNil))))) orders Tryd.func12 (by kernel_rfl) (by kernel_rfl) rfl (by kernel_rfl) (arg1_of fun x0 h => src_Valid.eq G k _ x0 h)
theorem src_Count.here : ∃ fn, Tryd.prog.funcs[34]? = some fn ∧ fn.body.isSome = true ∧ (fn.name == "runtime.NumGoroutine") = false := ⟨_, Tryd.func34, by kernel_rfl, by kernel_rfl⟩
theorem src_Count.eq (G : Globs) (k : Nat) (self : Den) (x0 : AV) (h : AHeap) : absFn Tryd.prog G (envL (src_Count.env G k self)) src_Count.ann Tryd.f34.results.toList (codeOf Tryd.f34) Tryd.f34.ntmps k [x0] h = src_Count.c G k self x0 h := by kernel_rfl
theorem src_Count.sound {G : Globs} (hG : ∀ g x, G g = some x → plainB x = true) : ∀ k, Sound Tryd.prog G 34 (src_Count.f G k)
  | 0 => sound_zero src_Count.here (fun _ _ => rfl)
  | k + 1 => sound_succ (l := src_Count.env G k (src_Count.f G k)) (ann := src_Count.ann) (n := k) (envSound_of hG (envCons (src_Each.sound hG k) (envCons (src_Count_1.sound hG k) envNil))) orders Tryd.func34 (by kernel_rfl) (by kernel_rfl) rfl (by kernel_rfl) (arg1_of fun x0 h => src_Count.eq G k _ x0 h)
theorem alembiclaw13_first.here : ∃ fn, Tryd.prog.funcs[10]? = some fn ∧ fn.body.isSome = true ∧ (fn.name == "runtime.NumGoroutine") = false := ⟨_, Tryd.func10, by kernel_rfl, by kernel_rfl⟩
theorem alembiclaw13_first.eq (G : Globs) (k : Nat) (self : Den) (h : AHeap) : absFn Tryd.prog G (envL (alembiclaw13_first.env G k self)) alembiclaw13_first.ann Tryd.f10.results.toList (codeOf Tryd.f10) Tryd.f10.ntmps k [] h = alembiclaw13_first.c G k self h := by kernel_rfl
theorem alembiclaw13_first.sound {G : Globs} (hG : ∀ g x, G g = some x → plainB x = true) : ∀ k, Sound Tryd.prog G 10 (alembiclaw13_first.f G k)
  | 0 => sound_zero alembiclaw13_first.here (fun _ _ => rfl)
  | k + 1 => sound_succ (l := alembiclaw13_first.env G k (alembiclaw13_first.f G k)) (ann := alembiclaw13_first.ann) (n := k) (envSound_of hG (envCons (src_Valid.sound hG k) (envCons (src_Count.sound hG k) envNil))) orders Tryd.func10 (by kernel_rfl) (by kernel_rfl) rfl (by kernel_rfl) (arg0_of fun h => alembiclaw13_first.eq G k _ h)
theorem alembicworld_Number.here : ∃ fn, Tryd.prog.funcs[11]? = some fn ∧ fn.body.isSome = true ∧ (fn.name == "runtime.NumGoroutine") = false := ⟨_, Tryd.func11, by kernel_rfl, by kernel_rfl⟩
theorem alembicworld_Number.eq (G : Globs) (k : Nat) (self : Den) (x0 x1 : AV) (h : AHeap) : absFn Tryd.prog G (envL (alembicworld_Number.env G k self)) alembicworld_Number.ann Tryd.f11.results.toList (codeOf Tryd.f11) Tryd.f11.ntmps k [x0, x1] h = alembicworld_Number.c G k self x0 x1 h := by kernel_rfl
theorem alembicworld_Number.sound {G : Globs} (hG : ∀ g x, G g = some x → plainB x = true) : ∀ k, Sound Tryd.prog G 11 (alembicworld_Number.f G k)
  | 0 => sound_zero alembicworld_Number.here (fun _ _ => rfl)
  | k + 1 => sound_succ (l := alembicworld_Number.env G k (alembicworld_Number.f G k)) (ann := alembicworld_Number.ann) (n := k) (envSound_of hG envNil) orders Tryd.func11 (by kernel_rfl) (by kernel_rfl) rfl (by kernel_rfl) (arg2_of fun x0 x1 h => alembicworld_Number.eq G k _ x0 x1 h)
theorem alembicref_SameFault.here : ∃ fn, Tryd.prog.funcs[65]? = some fn ∧ fn.body.isSome = true ∧ (fn.name == "runtime.NumGoroutine") = false := ⟨_, Tryd.func65, by kernel_rfl, by kernel_rfl⟩
theorem alembicref_SameFault.eq (G : Globs) (k : Nat) (self : Den) (x0 x1 : AV) (h : AHeap) : absFn Tryd.prog G (envL (alembicref_SameFault.env G k self)) alembicref_SameFault.ann Tryd.f65.results.toList (codeOf Tryd.f65) Tryd.f65.ntmps k [x0, x1] h = alembicref_SameFault.c G k self x0 x1 h := by kernel_rfl
theorem alembicref_SameFault.sound {G : Globs} (hG : ∀ g x, G g = some x → plainB x = true) : ∀ k, Sound Tryd.prog G 65 (alembicref_SameFault.f G k)
  | 0 => sound_zero alembicref_SameFault.here (fun _ _ => rfl)
  | k + 1 => sound_succ (l := alembicref_SameFault.env G k (alembicref_SameFault.f G k)) (ann := alembicref_SameFault.ann) (n := k) (envSound_of hG envNil) orders Tryd.func65 (by kernel_rfl) (by kernel_rfl) rfl (by kernel_rfl) (arg2_of fun x0 x1 h => alembicref_SameFault.eq G k _ x0 x1 h)
theorem alembicref_Bare.here : ∃ fn, Tryd.prog.funcs[52]? = some fn ∧ fn.body.isSome = true ∧ (fn.name == "runtime.NumGoroutine") = false := ⟨_, Tryd.func52, by kernel_rfl, by kernel_rfl⟩
theorem alembicref_Bare.eq (G : Globs) (k : Nat) (self : Den) (x0 : AV) (h : AHeap) : absFn Tryd.prog G (envL (alembicref_Bare.env G k self)) alembicref_Bare.ann Tryd.f52.results.toList (codeOf Tryd.f52) Tryd.f52.ntmps k [x0] h = alembicref_Bare.c G k self x0 h := by kernel_rfl
theorem alembicref_Bare.sound {G : Globs} (hG : ∀ g x, G g = some x → plainB x = true) : ∀ k, Sound Tryd.prog G 52 (alembicref_Bare.f G k)
  | 0 => sound_zero alembicref_Bare.here (fun _ _ => rfl)
  | k + 1 => sound_succ (l := alembicref_Bare.env G k (alembicref_Bare.f G k)) (ann := alembicref_Bare.ann) (n := k) (envSound_of hG envNil) orders Tryd.func52 (by kernel_rfl) (by kernel_rfl) rfl (by kernel_rfl) (arg1_of fun x0 h => alembicref_Bare.eq G k _ x0 h)
theorem alembicref_None.here : ∃ fn, Tryd.prog.funcs[63]? = some fn ∧ fn.body.isSome = true ∧ (fn.name == "runtime.NumGoroutine") = false := ⟨_, Tryd.func63, by kernel_rfl, by kernel_rfl⟩
theorem alembicref_None.eq (G : Globs) (k : Nat) (self : Den) (h : AHeap) : absFn Tryd.prog G (envL (alembicref_None.env G k self)) alembicref_None.ann Tryd.f63.results.toList (codeOf Tryd.f63) Tryd.f63.ntmps k [] h = alembicref_None.c G k self h := by kernel_rfl
theorem alembicref_None.sound {G : Globs} (hG : ∀ g x, G g = some x → plainB x = true) : ∀ k, Sound Tryd.prog G 63 (alembicref_None.f G k)
  | 0 => sound_zero alembicref_None.here (fun _ _ => rfl)
  | k + 1 => sound_succ (l := alembicref_None.env G k (alembicref_None.f G k)) (ann := alembicref_None.ann) (n := k) (envSound_of hG envNil) orders Tryd.func63 (by kernel_rfl) (by kernel_rfl) rfl (by kernel_rfl) (arg0_of fun h => alembicref_None.eq G k _ h)
theorem alembicref_Placed.here : ∃ fn, Tryd.prog.funcs[61]? = some fn ∧ fn.body.isSome = true ∧ (fn.name == "runtime.NumGoroutine") = false := ⟨_, Tryd.func61, by kernel_rfl, by kernel_rfl⟩
theorem alembicref_Placed.eq (G : Globs) (k : Nat) (self : Den) (x0 x1 : AV) (h : AHeap) : absFn Tryd.prog G (envL (alembicref_Placed.env G k self)) alembicref_Placed.ann Tryd.f61.results.toList (codeOf Tryd.f61) Tryd.f61.ntmps k [x0, x1] h = alembicref_Placed.c G k self x0 x1 h := by kernel_rfl
theorem alembicref_Placed.sound {G : Globs} (hG : ∀ g x, G g = some x → plainB x = true) : ∀ k, Sound Tryd.prog G 61 (alembicref_Placed.f G k)
  | 0 => sound_zero alembicref_Placed.here (fun _ _ => rfl)
  | k + 1 => sound_succ (l := alembicref_Placed.env G k (alembicref_Placed.f G k)) (ann := alembicref_Placed.ann) (n := k) (envSound_of hG (envCons (alembicref_None.sound hG k) envNil)) orders Tryd.func61 (by kernel_rfl) (by kernel_rfl) rfl (by kernel_rfl) (arg2_of fun x0 x1 h => alembicref_Placed.eq G k _ x0 x1 h)
theorem alembicsee_sentinels.here : ∃ fn, Tryd.prog.funcs[110]? = some fn ∧ fn.body.isSome = true ∧ (fn.name == "runtime.NumGoroutine") = false := ⟨_, Tryd.func110, by kernel_rfl, by kernel_rfl⟩
theorem alembicsee_sentinels.eq (G : Globs) (k : Nat) (self : Den) (h : AHeap) : absFn Tryd.prog G (envL (alembicsee_sentinels.env G k self)) alembicsee_sentinels.ann Tryd.f110.results.toList (codeOf Tryd.f110) Tryd.f110.ntmps k [] h = alembicsee_sentinels.c G k self h := by kernel_rfl
theorem alembicsee_sentinels.sound {G : Globs} (hG : ∀ g x, G g = some x → plainB x = true) : ∀ k, Sound Tryd.prog G 110 (alembicsee_sentinels.f G k)
  | 0 => sound_zero alembicsee_sentinels.here (fun _ _ => rfl)
  | k + 1 => sound_succ (l := alembicsee_sentinels.env G k (alembicsee_sentinels.f G k)) (ann := alembicsee_sentinels.ann) (n := k) (envSound_of hG envNil) orders Tryd.func110 (by kernel_rfl) (by kernel_rfl) rfl (by kernel_rfl) (arg0_of fun h => alembicsee_sentinels.eq G k _ h)
theorem alembicsee_Alike.here : ∃ fn, Tryd.prog.funcs[111]? = some fn ∧ fn.body.isSome = true ∧ (fn.name == "runtime.NumGoroutine") = false := ⟨_, Tryd.func111, by kernel_rfl, by kernel_rfl⟩
theorem alembicsee_Alike.eq (G : Globs) (k : Nat) (self : Den) (x0 x1 : AV) (h : AHeap) : absFn Tryd.prog G (envL (alembicsee_Alike.env G k self)) alembicsee_Alike.ann Tryd.f111.results.toList (codeOf Tryd.f111) Tryd.f111.ntmps k [x0, x1] h = alembicsee_Alike.c G k self x0 x1 h := by kernel_rfl
theorem alembicsee_Alike.sound {G : Globs} (hG : ∀ g x, G g = some x → plainB x = true) : ∀ k, Sound Tryd.prog G 111 (alembicsee_Alike.f G k)
  | 0 => sound_zero alembicsee_Alike.here (fun _ _ => rfl)
  | k + 1 => sound_succ (l := alembicsee_Alike.env G k (alembicsee_Alike.f G k)) (ann := alembicsee_Alike.ann) (n := k) (envSound_of hG envNil) orders Tryd.func111 (by kernel_rfl) (by kernel_rfl) rfl (by kernel_rfl) (arg2_of fun x0 x1 h => alembicsee_Alike.eq G k _ x0 x1 h)
theorem alembicsee_sentinel.here : ∃ fn, Tryd.prog.funcs[95]? = some fn ∧ fn.body.isSome = true ∧ (fn.name == "runtime.NumGoroutine") = false := ⟨_, Tryd.func95, by kernel_rfl, by kernel_rfl⟩
theorem alembicsee_sentinel.eq (G : Globs) (k : Nat) (self : Den) (x0 : AV) (h : AHeap) : absFn Tryd.prog G (envL (alembicsee_sentinel.env G k self)) alembicsee_sentinel.ann Tryd.f95.results.toList (codeOf Tryd.f95) Tryd.f95.ntmps k [x0] h = alembicsee_sentinel.c G k self x0 h := by kernel_rfl
theorem alembicsee_sentinel.sound {G : Globs} (hG : ∀ g x, G g = some x → plainB x = true) : ∀ k, Sound Tryd.prog G 95 (alembicsee_sentinel.f G k)
  | 0 => sound_zero alembicsee_sentinel.here (fun _ _ => rfl)
  | k + 1 => sound_succ (l := alembicsee_sentinel.env G k (alembicsee_sentinel.f G k)) (ann := alembicsee_sentinel.ann) (n := k) (envSound_of hG (envCons (alembicsee_sentinels.sound hG k) (envCons (alembicsee_Alike.sound hG k) envNil))) orders Tryd.func95 (by kernel_rfl) (by kernel_rfl) rfl (by kernel_rfl) (arg1_of fun x0 h => alembicsee_sentinel.eq G k _ x0 h)
theorem alembicsee_Fault.here : ∃ fn, Tryd.prog.funcs[66]? = some fn ∧ fn.body.isSome = true ∧ (fn.name == "runtime.NumGoroutine") = false := ⟨_, Tryd.func66, by kernel_rfl, by kernel_rfl⟩
theorem alembicsee_Fault.eq (G : Globs) (k : Nat) (self : Den) (x0 : AV) (h : AHeap) : absFn Tryd.prog G (envL (alembicsee_Fault.env G k self)) alembicsee_Fault.ann Tryd.f66.results.toList (codeOf Tryd.f66) Tryd.f66.ntmps k [x0] h = alembicsee_Fault.c G k self x0 h := by kernel_rfl
theorem alembicsee_Fault.sound {G : Globs} (hG : ∀ g x, G g = some x → plainB x = true) : ∀ k, Sound Tryd.prog G 66 (alembicsee_Fault.f G k)
  | 0 => sound_zero alembicsee_Fault.here (fun _ _ => rfl)
  | k + 1 => sound_succ (l := alembicsee_Fault.env G k (alembicsee_Fault.f G k)) (ann := alembicsee_Fault.ann) (n := k) (envSound_of hG (envCons (alembicref_Bare.sound hG k) (envCons (alembicref_Placed.sound hG k) (envCons (alembicref_None.sound hG k) (envCons (alembicsee_sentinel.sound hG k) envNil))))) orders Tryd.func66 (by kernel_rfl) (by kernel_rfl) rfl (by kernel_rfl) (arg1_of fun x0 h => alembicsee_Fault.eq G k _ x0 h)
theorem alembicsee_Same.here : ∃ fn, Tryd.prog.funcs[21]? = some fn ∧ fn.body.isSome = true ∧ (fn.name == "runtime.NumGoroutine") = false := ⟨_, Tryd.func21, by kernel_rfl, by kernel_rfl⟩
theorem alembicsee_Same.eq (G : Globs) (k : Nat) (self : Den) (x0 x1 : AV) (h : AHeap) : absFn Tryd.prog G (envL (alembicsee_Same.env G k self)) alembicsee_Same.ann Tryd.f21.results.toList (codeOf Tryd.f21) Tryd.f21.ntmps k [x0, x1] h = alembicsee_Same.c G k self x0 x1 h := by kernel_rfl
theorem alembicsee_Same.sound {G : Globs} (hG : ∀ g x, G g = some x → plainB x = true) : ∀ k, Sound Tryd.prog G 21 (alembicsee_Same.f G k)
  | 0 => sound_zero alembicsee_Same.here (fun _ _ => rfl)
  | k + 1 => sound_succ (l := alembicsee_Same.env G k (alembicsee_Same.f G k)) (ann := alembicsee_Same.ann) (n := k) (envSound_of hG (envCons (alembicref_SameFault.sound hG k) (envCons (alembicsee_Fault.sound hG k) envNil))) orders Tryd.func21 (by kernel_rfl) (by kernel_rfl) rfl (by kernel_rfl) (arg2_of fun x0 x1 h => alembicsee_Same.eq G k _ x0 x1 h)
theorem alembicsee_Is.here : ∃ fn, Tryd.prog.funcs[13]? = some fn ∧ fn.body.isSome = true ∧ (fn.name == "runtime.NumGoroutine") = false := ⟨_, Tryd.func13, by kernel_rfl, by kernel_rfl⟩
theorem alembicsee_Is.eq (G : Globs) (k : Nat) (self : Den) (x0 x1 : AV) (h : AHeap) : absFn Tryd.prog G (envL (alembicsee_Is.env G k self)) alembicsee_Is.ann Tryd.f13.results.toList (codeOf Tryd.f13) Tryd.f13.ntmps k [x0, x1] h = alembicsee_Is.c G k self x0 x1 h := by kernel_rfl
theorem alembicsee_Is.sound {G : Globs} (hG : ∀ g x, G g = some x → plainB x = true) : ∀ k, Sound Tryd.prog G 13 (alembicsee_Is.f G k)
  | 0 => sound_zero alembicsee_Is.here (fun _ _ => rfl)
  | k + 1 => sound_succ (l := alembicsee_Is.env G k (alembicsee_Is.f G k)) (ann := alembicsee_Is.ann) (n := k) (envSound_of hG (envCons (alembicsee_Same.sound hG k) (envCons (alembicref_Bare.sound hG k) envNil))) orders Tryd.func13 (by kernel_rfl) (by kernel_rfl) rfl (by kernel_rfl) (arg2_of fun x0 x1 h => alembicsee_Is.eq G k _ x0 x1 h)
theorem alembiclaw13_SrcDeep.here : ∃ fn, Tryd.prog.funcs[3]? = some fn ∧ fn.body.isSome = true ∧ (fn.name == "runtime.NumGoroutine") = false := ⟨_, Tryd.func3, by kernel_rfl, by kernel_rfl⟩
theorem alembiclaw13_SrcDeep.eq (G : Globs) (k : Nat) (self : Den) (x0 x1 : AV) (h : AHeap) : absFn Tryd.prog G (envL (alembiclaw13_SrcDeep.env G k self)) alembiclaw13_SrcDeep.ann Tryd.f3.results.toList (codeOf Tryd.f3) Tryd.f3.ntmps k [x0, x1] h = alembiclaw13_SrcDeep.c G k self x0 x1 h := by kernel_rfl
theorem alembiclaw13_SrcDeep.sound {G : Globs} (hG : ∀ g x, G g = some x → plainB x = true) : ∀ k, Sound Tryd.prog G 3 (alembiclaw13_SrcDeep.f G k)
  | 0 => sound_zero alembiclaw13_SrcDeep.here (fun _ _ => rfl)
  | k + 1 => sound_succ (l := alembiclaw13_SrcDeep.env G k (alembiclaw13_SrcDeep.f G k)) (ann := alembiclaw13_SrcDeep.ann) (n := k) (envSound_of hG (envCons (alembiclaw13_first.sound hG k) (envCons (alembicworld_Number.sound hG k) (envCons (src_Valid.sound hG k) (envCons (alembicsee_Is.sound hG k) envNil))))) orders Tryd.func3 (by kernel_rfl) (by kernel_rfl) rfl (by kernel_rfl) (arg2_of fun x0 x1 h => alembiclaw13_SrcDeep.eq G k _ x0 x1 h)
end Go.Proofs.YtofhkjacpjfclaaDoor.Mir
