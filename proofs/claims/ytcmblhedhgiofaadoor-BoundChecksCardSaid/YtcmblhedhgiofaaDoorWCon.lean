/- Printed by Print.lean: their contracts. -/
import Derived.Test.YtcmblhedhgiofaaDoorWFun
import Derived.Test.YtcmblhedhgiofaaDoorProg
import Derived.KernelRfl
namespace Go.Proofs.YtcmblhedhgiofaaDoor.Mir
open Go
set_option linter.unusedVariables false
theorem orders : Tryd.prog.follows .mixedOrders = true := by kernel_rfl
theorem words_name.here : ∃ fn, Tryd.prog.funcs[83]? = some fn ∧ fn.body.isSome = true ∧ (fn.name == "runtime.NumGoroutine") = false := ⟨_, Tryd.func83, by kernel_rfl, by kernel_rfl⟩
theorem words_name.eq (G : Globs) (k : Nat) (self : Den) (x0 : AV) (h : AHeap) : absFn Tryd.prog G (envL (words_name.env G k self)) words_name.ann Tryd.f83.results.toList (codeOf Tryd.f83) Tryd.f83.ntmps k [x0] h = words_name.c G k self x0 h := by kernel_rfl
theorem words_name.sound {G : Globs} (hG : ∀ g x, G g = some x → plainB x = true) : ∀ k, Sound Tryd.prog G 83 (words_name.f G k)
  | 0 => sound_zero words_name.here (fun _ _ => rfl)
  | k + 1 => sound_succ (l := words_name.env G k (words_name.f G k)) (ann := words_name.ann) (n := k) (envSound_of hG envNil) orders Tryd.func83 (by kernel_rfl) (by kernel_rfl) rfl (by kernel_rfl) (arg1_of fun x0 h => words_name.eq G k _ x0 h)
theorem words_Of.here : ∃ fn, Tryd.prog.funcs[66]? = some fn ∧ fn.body.isSome = true ∧ (fn.name == "runtime.NumGoroutine") = false := ⟨_, Tryd.func66, by kernel_rfl, by kernel_rfl⟩
theorem words_Of.eq (G : Globs) (k : Nat) (self : Den) (x0 : AV) (h : AHeap) : absFn Tryd.prog G (envL (words_Of.env G k self)) words_Of.ann Tryd.f66.results.toList (codeOf Tryd.f66) Tryd.f66.ntmps k [x0] h = words_Of.c G k self x0 h := by kernel_rfl
theorem words_Of.sound {G : Globs} (hG : ∀ g x, G g = some x → plainB x = true) : ∀ k, Sound Tryd.prog G 66 (words_Of.f G k)
  | 0 => sound_zero words_Of.here (fun _ _ => rfl)
  | k + 1 => sound_succ (l := words_Of.env G k (words_Of.f G k)) (ann := words_Of.ann) (n := k) (envSound_of hG (envCons (words_name.sound hG k) envNil)) orders Tryd.func66 (by kernel_rfl) (by kernel_rfl) rfl (by kernel_rfl) (arg1_of fun x0 h => words_Of.eq G k _ x0 h)
theorem words_has.here : ∃ fn, Tryd.prog.funcs[68]? = some fn ∧ fn.body.isSome = true ∧ (fn.name == "runtime.NumGoroutine") = false := ⟨_, Tryd.func68, by kernel_rfl, by kernel_rfl⟩
theorem words_has.eq (G : Globs) (k : Nat) (self : Den) (x0 x1 : AV) (h : AHeap) : absFn Tryd.prog G (envL (words_has.env G k self)) words_has.ann Tryd.f68.results.toList (codeOf Tryd.f68) Tryd.f68.ntmps k [x0, x1] h = words_has.c G k self x0 x1 h := by kernel_rfl
theorem words_has.sound {G : Globs} (hG : ∀ g x, G g = some x → plainB x = true) : ∀ k, Sound Tryd.prog G 68 (words_has.f G k)
  | 0 => sound_zero words_has.here (fun _ _ => rfl)
  | k + 1 => sound_succ (l := words_has.env G k (words_has.f G k)) (ann := words_has.ann) (n := k) (envSound_of hG envNil) orders Tryd.func68 (by kernel_rfl) (by kernel_rfl) rfl (by kernel_rfl) (arg2_of fun x0 x1 h => words_has.eq G k _ x0 x1 h)
theorem words_one.here : ∃ fn, Tryd.prog.funcs[43]? = some fn ∧ fn.body.isSome = true ∧ (fn.name == "runtime.NumGoroutine") = false := ⟨_, Tryd.func43, by kernel_rfl, by kernel_rfl⟩
theorem words_one.eq (G : Globs) (k : Nat) (self : Den) (x0 x1 : AV) (h : AHeap) : absFn Tryd.prog G (envL (words_one.env G k self)) words_one.ann Tryd.f43.results.toList (codeOf Tryd.f43) Tryd.f43.ntmps k [x0, x1] h = words_one.c G k self x0 x1 h := by kernel_rfl
theorem words_one.sound {G : Globs} (hG : ∀ g x, G g = some x → plainB x = true) : ∀ k, Sound Tryd.prog G 43 (words_one.f G k)
  | 0 => sound_zero words_one.here (fun _ _ => rfl)
  | k + 1 => sound_succ (l := words_one.env G k (words_one.f G k)) (ann := words_one.ann) (n := k) (envSound_of hG (envCons (words_Of.sound hG k) (envCons (words_has.sound hG k) envNil))) orders Tryd.func43 (by kernel_rfl) (by kernel_rfl) rfl (by kernel_rfl) (arg2_of fun x0 x1 h => words_one.eq G k _ x0 x1 h)
theorem words_Valid.here : ∃ fn, Tryd.prog.funcs[17]? = some fn ∧ fn.body.isSome = true ∧ (fn.name == "runtime.NumGoroutine") = false := ⟨_, Tryd.func17, by kernel_rfl, by kernel_rfl⟩
theorem words_Valid.eq (G : Globs) (k : Nat) (self : Den) (x0 : AV) (h : AHeap) : absFn Tryd.prog G (envL (words_Valid.env G k self)) words_Valid.ann Tryd.f17.results.toList (codeOf Tryd.f17) Tryd.f17.ntmps k [x0] h = words_Valid.c G k self x0 h := by kernel_rfl
theorem words_Valid.sound {G : Globs} (hG : ∀ g x, G g = some x → plainB x = true) : ∀ k, Sound Tryd.prog G 17 (words_Valid.f G k)
  | 0 => sound_zero words_Valid.here (fun _ _ => rfl)
  | k + 1 => sound_succ (l := words_Valid.env G k (words_Valid.f G k)) (ann := words_Valid.ann) (n := k) (envSound_of hG (envCons (words_one.sound hG k) envNil)) orders Tryd.func17 (by kernel_rfl) (by kernel_rfl) rfl (by kernel_rfl) (arg1_of fun x0 h => words_Valid.eq G k _ x0 h)
theorem words_Given.here : ∃ fn, Tryd.prog.funcs[44]? = some fn ∧ fn.body.isSome = true ∧ (fn.name == "runtime.NumGoroutine") = false := ⟨_, Tryd.func44, by kernel_rfl, by kernel_rfl⟩
theorem words_Given.eq (G : Globs) (k : Nat) (self : Den) (x0 x1 x2 : AV) (h : AHeap) : absFn Tryd.prog G (envL (words_Given.env G k self)) words_Given.ann Tryd.f44.results.toList (codeOf Tryd.f44) Tryd.f44.ntmps k [x0, x1, x2] h = words_Given.c G k self x0 x1 x2 h := by kernel_rfl
theorem words_Given.sound {G : Globs} (hG : ∀ g x, G g = some x → plainB x = true) : ∀ k, Sound Tryd.prog G 44 (words_Given.f G k)
  | 0 => sound_zero words_Given.here (fun _ _ => rfl)
  | k + 1 => sound_succ (l := words_Given.env G k (words_Given.f G k)) (ann := words_Given.ann) (n := k) (envSound_of hG envNil) orders Tryd.func44 (by kernel_rfl) (by kernel_rfl) rfl (by kernel_rfl) (arg3_of fun x0 x1 x2 h => words_Given.eq G k _ x0 x1 x2 h)
theorem slices_Clone___uint64uint64_.here : ∃ fn, Tryd.prog.funcs[72]? = some fn ∧ fn.body.isSome = true ∧ (fn.name == "runtime.NumGoroutine") = false := ⟨_, Tryd.func72, by kernel_rfl, by kernel_rfl⟩
theorem slices_Clone___uint64uint64_.eq (G : Globs) (k : Nat) (self : Den) (x0 : AV) (h : AHeap) : absFnO Tryd.prog G (envL (slices_Clone___uint64uint64_.env G k self)) slices_Clone___uint64uint64_.ann Tryd.f72.results.toList (codeOf Tryd.f72) Tryd.f72.ntmps k [x0] h = slices_Clone___uint64uint64_.c G k self x0 h := by kernel_rfl
theorem slices_Clone___uint64uint64_.sound {G : Globs} (hG : ∀ g x, G g = some x → plainB x = true) : ∀ k, Sound Tryd.prog G 72 (slices_Clone___uint64uint64_.f G k)
  | 0 => sound_zero slices_Clone___uint64uint64_.here (fun _ _ => rfl)
  | k + 1 => sound_succO (l := slices_Clone___uint64uint64_.env G k (slices_Clone___uint64uint64_.f G k)) (ann := slices_Clone___uint64uint64_.ann) (n := k) (envSound_of hG envNil) orders Tryd.func72 (by kernel_rfl) (by kernel_rfl) rfl (by kernel_rfl) (arg1_of fun x0 h => slices_Clone___uint64uint64_.eq G k _ x0 h)
theorem words_run_leak.here : ∃ fn, Tryd.prog.funcs[73]? = some fn ∧ fn.body.isSome = true ∧ (fn.name == "runtime.NumGoroutine") = false := ⟨_, Tryd.func73, by kernel_rfl, by kernel_rfl⟩
theorem words_run_leak.eq (G : Globs) (k : Nat) (self : Den) (x0 x1 x2 : AV) (h : AHeap) : absFn Tryd.prog G (envL (words_run_leak.env G k self)) words_run_leak.ann Tryd.f73.results.toList (codeOf Tryd.f73) Tryd.f73.ntmps k [x0, x1, x2] h = words_run_leak.c G k self x0 x1 x2 h := by kernel_rfl
theorem words_run_leak.sound {G : Globs} (hG : ∀ g x, G g = some x → plainB x = true) : ∀ k, Sound Tryd.prog G 73 (words_run_leak.f G k)
  | 0 => sound_zero words_run_leak.here (fun _ _ => rfl)
  | k + 1 => sound_succ (l := words_run_leak.env G k (words_run_leak.f G k)) (ann := words_run_leak.ann) (n := k) (envSound_of hG envNil) orders Tryd.func73 (by kernel_rfl) (by kernel_rfl) rfl (by kernel_rfl) (arg3_of fun x0 x1 x2 h => words_run_leak.eq G k _ x0 x1 x2 h)
theorem math_bits_Mul64.here : ∃ fn, Tryd.prog.funcs[49]? = some fn ∧ fn.body.isSome = true ∧ (fn.name == "runtime.NumGoroutine") = false := ⟨_, Tryd.func49, by kernel_rfl, by kernel_rfl⟩
theorem math_bits_Mul64.eq (G : Globs) (k : Nat) (self : Den) (x0 x1 : AV) (h : AHeap) : absFn Tryd.prog G (envL (math_bits_Mul64.env G k self)) math_bits_Mul64.ann Tryd.f49.results.toList (codeOf Tryd.f49) Tryd.f49.ntmps k [x0, x1] h = math_bits_Mul64.c G k self x0 x1 h := by kernel_rfl
theorem math_bits_Mul64.sound {G : Globs} (hG : ∀ g x, G g = some x → plainB x = true) : ∀ k, Sound Tryd.prog G 49 (math_bits_Mul64.f G k)
  | 0 => sound_zero math_bits_Mul64.here (fun _ _ => rfl)
  | k + 1 => sound_succ (l := math_bits_Mul64.env G k (math_bits_Mul64.f G k)) (ann := math_bits_Mul64.ann) (n := k) (envSound_of hG envNil) orders Tryd.func49 (by kernel_rfl) (by kernel_rfl) rfl (by kernel_rfl) (arg2_of fun x0 x1 h => math_bits_Mul64.eq G k _ x0 x1 h)
theorem words_shifted.here : ∃ fn, Tryd.prog.funcs[50]? = some fn ∧ fn.body.isSome = true ∧ (fn.name == "runtime.NumGoroutine") = false := ⟨_, Tryd.func50, by kernel_rfl, by kernel_rfl⟩
theorem words_shifted.eq (G : Globs) (k : Nat) (self : Den) (x0 x1 : AV) (h : AHeap) : absFn Tryd.prog G (envL (words_shifted.env G k self)) words_shifted.ann Tryd.f50.results.toList (codeOf Tryd.f50) Tryd.f50.ntmps k [x0, x1] h = words_shifted.c G k self x0 x1 h := by kernel_rfl
theorem words_shifted.sound {G : Globs} (hG : ∀ g x, G g = some x → plainB x = true) : ∀ k, Sound Tryd.prog G 50 (words_shifted.f G k)
  | 0 => sound_zero words_shifted.here (fun _ _ => rfl)
  | k + 1 => sound_succ (l := words_shifted.env G k (words_shifted.f G k)) (ann := words_shifted.ann) (n := k) (envSound_of hG envNil) orders Tryd.func50 (by kernel_rfl) (by kernel_rfl) rfl (by kernel_rfl) (arg2_of fun x0 x1 h => words_shifted.eq G k _ x0 x1 h)
theorem words_bit.here : ∃ fn, Tryd.prog.funcs[51]? = some fn ∧ fn.body.isSome = true ∧ (fn.name == "runtime.NumGoroutine") = false := ⟨_, Tryd.func51, by kernel_rfl, by kernel_rfl⟩
theorem words_bit.eq (G : Globs) (k : Nat) (self : Den) (x0 : AV) (h : AHeap) : absFn Tryd.prog G (envL (words_bit.env G k self)) words_bit.ann Tryd.f51.results.toList (codeOf Tryd.f51) Tryd.f51.ntmps k [x0] h = words_bit.c G k self x0 h := by kernel_rfl
theorem words_bit.sound {G : Globs} (hG : ∀ g x, G g = some x → plainB x = true) : ∀ k, Sound Tryd.prog G 51 (words_bit.f G k)
  | 0 => sound_zero words_bit.here (fun _ _ => rfl)
  | k + 1 => sound_succ (l := words_bit.env G k (words_bit.f G k)) (ann := words_bit.ann) (n := k) (envSound_of hG envNil) orders Tryd.func51 (by kernel_rfl) (by kernel_rfl) rfl (by kernel_rfl) (arg1_of fun x0 h => words_bit.eq G k _ x0 h)
theorem words_Value.here : ∃ fn, Tryd.prog.funcs[24]? = some fn ∧ fn.body.isSome = true ∧ (fn.name == "runtime.NumGoroutine") = false := ⟨_, Tryd.func24, by kernel_rfl, by kernel_rfl⟩
theorem words_Value.eq (G : Globs) (k : Nat) (self : Den) (x0 x1 x2 x3 : AV) (h : AHeap) : absFn Tryd.prog G (envL (words_Value.env G k self)) words_Value.ann Tryd.f24.results.toList (codeOf Tryd.f24) Tryd.f24.ntmps k [x0, x1, x2, x3] h = words_Value.c G k self x0 x1 x2 x3 h := by kernel_rfl
theorem words_Value.sound {G : Globs} (hG : ∀ g x, G g = some x → plainB x = true) : ∀ k, Sound Tryd.prog G 24 (words_Value.f G k)
  | 0 => sound_zero words_Value.here (fun _ _ => rfl)
  | k + 1 => sound_succ (l := words_Value.env G k (words_Value.f G k)) (ann := words_Value.ann) (n := k) (envSound_of hG (envCons (math_bits_Mul64.sound hG k) (envCons (words_shifted.sound hG k) (envCons (words_bit.sound hG k) envNil)))) orders Tryd.func24 (by kernel_rfl) (by kernel_rfl) rfl (by kernel_rfl) (arg4_of fun x0 x1 x2 x3 h => words_Value.eq G k _ x0 x1 x2 x3 h)
theorem words_run_touch.here : ∃ fn, Tryd.prog.funcs[88]? = some fn ∧ fn.body.isSome = true ∧ (fn.name == "runtime.NumGoroutine") = false := ⟨_, Tryd.func88, by kernel_rfl, by kernel_rfl⟩
theorem words_run_touch.eq (G : Globs) (k : Nat) (self : Den) (x0 x1 : AV) (h : AHeap) : absFn Tryd.prog G (envL (words_run_touch.env G k self)) words_run_touch.ann Tryd.f88.results.toList (codeOf Tryd.f88) Tryd.f88.ntmps k [x0, x1] h = words_run_touch.c G k self x0 x1 h := by kernel_rfl
theorem words_run_touch.sound {G : Globs} (hG : ∀ g x, G g = some x → plainB x = true) : ∀ k, Sound Tryd.prog G 88 (words_run_touch.f G k)
  | 0 => sound_zero words_run_touch.here (fun _ _ => rfl)
  | k + 1 => sound_succ (l := words_run_touch.env G k (words_run_touch.f G k)) (ann := words_run_touch.ann) (n := k) (envSound_of hG (envCons (words_run_leak.sound hG k) envNil)) orders Tryd.func88 (by kernel_rfl) (by kernel_rfl) rfl (by kernel_rfl) (arg2_of fun x0 x1 h => words_run_touch.eq G k _ x0 x1 h)
theorem words_run_branch.here : ∃ fn, Tryd.prog.funcs[89]? = some fn ∧ fn.body.isSome = true ∧ (fn.name == "runtime.NumGoroutine") = false := ⟨_, Tryd.func89, by kernel_rfl, by kernel_rfl⟩
theorem words_run_branch.eq (G : Globs) (k : Nat) (self : Den) (x0 x1 : AV) (h : AHeap) : absFn Tryd.prog G (envL (words_run_branch.env G k self)) words_run_branch.ann Tryd.f89.results.toList (codeOf Tryd.f89) Tryd.f89.ntmps k [x0, x1] h = words_run_branch.c G k self x0 x1 h := by kernel_rfl
theorem words_run_branch.sound {G : Globs} (hG : ∀ g x, G g = some x → plainB x = true) : ∀ k, Sound Tryd.prog G 89 (words_run_branch.f G k)
  | 0 => sound_zero words_run_branch.here (fun _ _ => rfl)
  | k + 1 => sound_succ (l := words_run_branch.env G k (words_run_branch.f G k)) (ann := words_run_branch.ann) (n := k) (envSound_of hG (envCons (words_bit.sound hG k) (envCons (words_run_leak.sound hG k) envNil))) orders Tryd.func89 (by kernel_rfl) (by kernel_rfl) rfl (by kernel_rfl) (arg2_of fun x0 x1 h => words_run_branch.eq G k _ x0 x1 h)
theorem words_run_step.here : ∃ fn, Tryd.prog.funcs[74]? = some fn ∧ fn.body.isSome = true ∧ (fn.name == "runtime.NumGoroutine") = false := ⟨_, Tryd.func74, by kernel_rfl, by kernel_rfl⟩
theorem words_run_step.eq (G : Globs) (k : Nat) (self : Den) (x0 x1 : AV) (h : AHeap) : absFn Tryd.prog G (envL (words_run_step.env G k self)) words_run_step.ann Tryd.f74.results.toList (codeOf Tryd.f74) Tryd.f74.ntmps k [x0, x1] h = words_run_step.c G k self x0 x1 h := by kernel_rfl
theorem words_run_step.sound {G : Globs} (hG : ∀ g x, G g = some x → plainB x = true) : ∀ k, Sound Tryd.prog G 74 (words_run_step.f G k)
  | 0 => sound_zero words_run_step.here (fun _ _ => rfl)
  | k + 1 => sound_succ (l := words_run_step.env G k (words_run_step.f G k)) (ann := words_run_step.ann) (n := k) (envSound_of hG (envCons (words_Value.sound hG k) (envCons (words_run_touch.sound hG k) (envCons (words_run_branch.sound hG k) envNil)))) orders Tryd.func74 (by kernel_rfl) (by kernel_rfl) rfl (by kernel_rfl) (arg2_of fun x0 x1 h => words_run_step.eq G k _ x0 x1 h)
theorem span_Sum.here : ∃ fn, Tryd.prog.funcs[52]? = some fn ∧ fn.body.isSome = true ∧ (fn.name == "runtime.NumGoroutine") = false := ⟨_, Tryd.func52, by kernel_rfl, by kernel_rfl⟩
theorem span_Sum.eq (G : Globs) (k : Nat) (self : Den) (x0 x1 : AV) (h : AHeap) : absFn Tryd.prog G (envL (span_Sum.env G k self)) span_Sum.ann Tryd.f52.results.toList (codeOf Tryd.f52) Tryd.f52.ntmps k [x0, x1] h = span_Sum.c G k self x0 x1 h := by kernel_rfl
theorem span_Sum.sound {G : Globs} (hG : ∀ g x, G g = some x → plainB x = true) : ∀ k, Sound Tryd.prog G 52 (span_Sum.f G k)
  | 0 => sound_zero span_Sum.here (fun _ _ => rfl)
  | k + 1 => sound_succ (l := span_Sum.env G k (span_Sum.f G k)) (ann := span_Sum.ann) (n := k) (envSound_of hG envNil) orders Tryd.func52 (by kernel_rfl) (by kernel_rfl) rfl (by kernel_rfl) (arg2_of fun x0 x1 h => span_Sum.eq G k _ x0 x1 h)
theorem span_Less.here : ∃ fn, Tryd.prog.funcs[53]? = some fn ∧ fn.body.isSome = true ∧ (fn.name == "runtime.NumGoroutine") = false := ⟨_, Tryd.func53, by kernel_rfl, by kernel_rfl⟩
theorem span_Less.eq (G : Globs) (k : Nat) (self : Den) (x0 x1 : AV) (h : AHeap) : absFn Tryd.prog G (envL (span_Less.env G k self)) span_Less.ann Tryd.f53.results.toList (codeOf Tryd.f53) Tryd.f53.ntmps k [x0, x1] h = span_Less.c G k self x0 x1 h := by kernel_rfl
theorem span_Less.sound {G : Globs} (hG : ∀ g x, G g = some x → plainB x = true) : ∀ k, Sound Tryd.prog G 53 (span_Less.f G k)
  | 0 => sound_zero span_Less.here (fun _ _ => rfl)
  | k + 1 => sound_succ (l := span_Less.env G k (span_Less.f G k)) (ann := span_Less.ann) (n := k) (envSound_of hG envNil) orders Tryd.func53 (by kernel_rfl) (by kernel_rfl) rfl (by kernel_rfl) (arg2_of fun x0 x1 h => span_Less.eq G k _ x0 x1 h)
theorem span_Product.here : ∃ fn, Tryd.prog.funcs[54]? = some fn ∧ fn.body.isSome = true ∧ (fn.name == "runtime.NumGoroutine") = false := ⟨_, Tryd.func54, by kernel_rfl, by kernel_rfl⟩
theorem span_Product.eq (G : Globs) (k : Nat) (self : Den) (x0 x1 : AV) (h : AHeap) : absFn Tryd.prog G (envL (span_Product.env G k self)) span_Product.ann Tryd.f54.results.toList (codeOf Tryd.f54) Tryd.f54.ntmps k [x0, x1] h = span_Product.c G k self x0 x1 h := by kernel_rfl
theorem span_Product.sound {G : Globs} (hG : ∀ g x, G g = some x → plainB x = true) : ∀ k, Sound Tryd.prog G 54 (span_Product.f G k)
  | 0 => sound_zero span_Product.here (fun _ _ => rfl)
  | k + 1 => sound_succ (l := span_Product.env G k (span_Product.f G k)) (ann := span_Product.ann) (n := k) (envSound_of hG envNil) orders Tryd.func54 (by kernel_rfl) (by kernel_rfl) rfl (by kernel_rfl) (arg2_of fun x0 x1 h => span_Product.eq G k _ x0 x1 h)
theorem bound_shl.here : ∃ fn, Tryd.prog.funcs[55]? = some fn ∧ fn.body.isSome = true ∧ (fn.name == "runtime.NumGoroutine") = false := ⟨_, Tryd.func55, by kernel_rfl, by kernel_rfl⟩
theorem bound_shl.eq (G : Globs) (k : Nat) (self : Den) (x0 x1 : AV) (h : AHeap) : absFn Tryd.prog G (envL (bound_shl.env G k self)) bound_shl.ann Tryd.f55.results.toList (codeOf Tryd.f55) Tryd.f55.ntmps k [x0, x1] h = bound_shl.c G k self x0 x1 h := by kernel_rfl
theorem bound_shl.sound {G : Globs} (hG : ∀ g x, G g = some x → plainB x = true) : ∀ k, Sound Tryd.prog G 55 (bound_shl.f G k)
  | 0 => sound_zero bound_shl.here (fun _ _ => rfl)
  | k + 1 => sound_succ (l := bound_shl.env G k (bound_shl.f G k)) (ann := bound_shl.ann) (n := k) (envSound_of hG envNil) orders Tryd.func55 (by kernel_rfl) (by kernel_rfl) rfl (by kernel_rfl) (arg2_of fun x0 x1 h => bound_shl.eq G k _ x0 x1 h)
theorem bound_Exact.here : ∃ fn, Tryd.prog.funcs[28]? = some fn ∧ fn.body.isSome = true ∧ (fn.name == "runtime.NumGoroutine") = false := ⟨_, Tryd.func28, by kernel_rfl, by kernel_rfl⟩
theorem bound_Exact.eq (G : Globs) (k : Nat) (self : Den) (x0 x1 x2 : AV) (h : AHeap) : absFn Tryd.prog G (envL (bound_Exact.env G k self)) bound_Exact.ann Tryd.f28.results.toList (codeOf Tryd.f28) Tryd.f28.ntmps k [x0, x1, x2] h = bound_Exact.c G k self x0 x1 x2 h := by kernel_rfl
theorem bound_Exact.sound {G : Globs} (hG : ∀ g x, G g = some x → plainB x = true) : ∀ k, Sound Tryd.prog G 28 (bound_Exact.f G k)
  | 0 => sound_zero bound_Exact.here (fun _ _ => rfl)
  | k + 1 => sound_succ (l := bound_Exact.env G k (bound_Exact.f G k)) (ann := bound_Exact.ann) (n := k) (envSound_of hG (envCons (span_Sum.sound hG k) (envCons (span_Less.sound hG k) (envCons (span_Product.sound hG k) (envCons (bound_shl.sound hG k) envNil))))) orders Tryd.func28 (by kernel_rfl) (by kernel_rfl) rfl (by kernel_rfl) (arg3_of fun x0 x1 x2 h => bound_Exact.eq G k _ x0 x1 x2 h)
theorem bound_asked.here : ∃ fn, Tryd.prog.funcs[61]? = some fn ∧ fn.body.isSome = true ∧ (fn.name == "runtime.NumGoroutine") = false := ⟨_, Tryd.func61, by kernel_rfl, by kernel_rfl⟩
theorem bound_asked.eq (G : Globs) (k : Nat) (self : Den) (x0 : AV) (h : AHeap) : absFn Tryd.prog G (envL (bound_asked.env G k self)) bound_asked.ann Tryd.f61.results.toList (codeOf Tryd.f61) Tryd.f61.ntmps k [x0] h = bound_asked.c G k self x0 h := by kernel_rfl
theorem bound_asked.sound {G : Globs} (hG : ∀ g x, G g = some x → plainB x = true) : ∀ k, Sound Tryd.prog G 61 (bound_asked.f G k)
  | 0 => sound_zero bound_asked.here (fun _ _ => rfl)
  | k + 1 => sound_succ (l := bound_asked.env G k (bound_asked.f G k)) (ann := bound_asked.ann) (n := k) (envSound_of hG envNil) orders Tryd.func61 (by kernel_rfl) (by kernel_rfl) rfl (by kernel_rfl) (arg1_of fun x0 h => bound_asked.eq G k _ x0 h)
theorem span_Has.here : ∃ fn, Tryd.prog.funcs[62]? = some fn ∧ fn.body.isSome = true ∧ (fn.name == "runtime.NumGoroutine") = false := ⟨_, Tryd.func62, by kernel_rfl, by kernel_rfl⟩
theorem span_Has.eq (G : Globs) (k : Nat) (self : Den) (x0 x1 : AV) (h : AHeap) : absFn Tryd.prog G (envL (span_Has.env G k self)) span_Has.ann Tryd.f62.results.toList (codeOf Tryd.f62) Tryd.f62.ntmps k [x0, x1] h = span_Has.c G k self x0 x1 h := by kernel_rfl
theorem span_Has.sound {G : Globs} (hG : ∀ g x, G g = some x → plainB x = true) : ∀ k, Sound Tryd.prog G 62 (span_Has.f G k)
  | 0 => sound_zero span_Has.here (fun _ _ => rfl)
  | k + 1 => sound_succ (l := span_Has.env G k (span_Has.f G k)) (ann := span_Has.ann) (n := k) (envSound_of hG envNil) orders Tryd.func62 (by kernel_rfl) (by kernel_rfl) rfl (by kernel_rfl) (arg2_of fun x0 x1 h => span_Has.eq G k _ x0 x1 h)
theorem bound_Check_1.here : ∃ fn, Tryd.prog.funcs[60]? = some fn ∧ fn.body.isSome = true ∧ (fn.name == "runtime.NumGoroutine") = false := ⟨_, Tryd.func60, by kernel_rfl, by kernel_rfl⟩
theorem bound_Check_1.eq (G : Globs) (k : Nat) (self : Den) (x0 x1 x2 x3 x4 : AV) (h : AHeap) : absFn Tryd.prog G (envL (bound_Check_1.env G k self)) bound_Check_1.ann Tryd.f60.results.toList (codeOf Tryd.f60) Tryd.f60.ntmps k [x0, x1, x2, x3, x4] h = bound_Check_1.c G k self x0 x1 x2 x3 x4 h := by kernel_rfl
theorem bound_Check_1.sound {G : Globs} (hG : ∀ g x, G g = some x → plainB x = true) : ∀ k, Sound Tryd.prog G 60 (bound_Check_1.f G k)
  | 0 => sound_zero bound_Check_1.here (fun _ _ => rfl)
  | k + 1 => sound_succ (l := bound_Check_1.env G k (bound_Check_1.f G k)) (ann := bound_Check_1.ann) (n := k) (envSound_of hG (envCons (bound_Exact.sound hG k) (envCons (bound_asked.sound hG k) (envCons (span_Has.sound hG k) envNil)))) orders Tryd.func60 (by kernel_rfl) (by kernel_rfl) rfl (by kernel_rfl) (arg5_of fun x0 x1 x2 x3 x4 h => bound_Check_1.eq G k _ x0 x1 x2 x3 x4 h)
theorem words_Watch.here : ∃ fn, Tryd.prog.funcs[45]? = some fn ∧ fn.body.isSome = true ∧ (fn.name == "runtime.NumGoroutine") = false := ⟨_, Tryd.func45, by kernel_rfl, by kernel_rfl⟩
theorem words_Watch.eq (G : Globs) (k : Nat) (self : Den) (x0 x1 x2 x3 : AV) (h : AHeap) : absFn Tryd.prog G (envL (words_Watch.env G k self)) words_Watch.ann Tryd.f45.results.toList (codeOf Tryd.f45) Tryd.f45.ntmps k [x0, x1, x2, x3] h = words_Watch.c G k self x0 x1 x2 x3 h := by kernel_rfl
theorem words_Watch.sound {G : Globs} (hG : ∀ g x, G g = some x → plainB x = true) : ∀ k, Sound Tryd.prog G 45 (words_Watch.f G k)
  | 0 => sound_zero words_Watch.here (fun _ _ => rfl)
  | k + 1 => sound_succ (l := words_Watch.env G k (words_Watch.f G k)) (ann := words_Watch.ann) (n := k) (envSound_of hG (envCons (bound_Check_1.sound hG k) (envCons (slices_Clone___uint64uint64_.sound hG k) (envCons (words_run_leak.sound hG k) (envCons (words_run_step.sound hG k) envNil))))) orders Tryd.func45 (by kernel_rfl) (by kernel_rfl) rfl (by kernel_rfl) (arg4_of fun x0 x1 x2 x3 h => words_Watch.eq G k _ x0 x1 x2 x3 h)
theorem words_Run.here : ∃ fn, Tryd.prog.funcs[19]? = some fn ∧ fn.body.isSome = true ∧ (fn.name == "runtime.NumGoroutine") = false := ⟨_, Tryd.func19, by kernel_rfl, by kernel_rfl⟩
theorem words_Run.eq (G : Globs) (k : Nat) (self : Den) (x0 x1 x2 : AV) (h : AHeap) : absFn Tryd.prog G (envL (words_Run.env G k self)) words_Run.ann Tryd.f19.results.toList (codeOf Tryd.f19) Tryd.f19.ntmps k [x0, x1, x2] h = words_Run.c G k self x0 x1 x2 h := by kernel_rfl
theorem words_Run.sound {G : Globs} (hG : ∀ g x, G g = some x → plainB x = true) : ∀ k, Sound Tryd.prog G 19 (words_Run.f G k)
  | 0 => sound_zero words_Run.here (fun _ _ => rfl)
  | k + 1 => sound_succ (l := words_Run.env G k (words_Run.f G k)) (ann := words_Run.ann) (n := k) (envSound_of hG (envCons (words_Valid.sound hG k) (envCons (words_Given.sound hG k) (envCons (words_Watch.sound hG k) envNil)))) orders Tryd.func19 (by kernel_rfl) (by kernel_rfl) rfl (by kernel_rfl) (arg3_of fun x0 x1 x2 h => words_Run.eq G k _ x0 x1 x2 h)
theorem alembiclaw17_first.here : ∃ fn, Tryd.prog.funcs[12]? = some fn ∧ fn.body.isSome = true ∧ (fn.name == "runtime.NumGoroutine") = false := ⟨_, Tryd.func12, by kernel_rfl, by kernel_rfl⟩
theorem alembiclaw17_first.eq (G : Globs) (k : Nat) (self : Den) (h : AHeap) : absFn Tryd.prog G (envL (alembiclaw17_first.env G k self)) alembiclaw17_first.ann Tryd.f12.results.toList (codeOf Tryd.f12) Tryd.f12.ntmps k [] h = alembiclaw17_first.c G k self h := by kernel_rfl
theorem alembiclaw17_first.sound {G : Globs} (hG : ∀ g x, G g = some x → plainB x = true) : ∀ k, Sound Tryd.prog G 12 (alembiclaw17_first.f G k)
  | 0 => sound_zero alembiclaw17_first.here (fun _ _ => rfl)
  | k + 1 => sound_succ (l := alembiclaw17_first.env G k (alembiclaw17_first.f G k)) (ann := alembiclaw17_first.ann) (n := k) (envSound_of hG (envCons (words_Run.sound hG k) (envCons (words_Value.sound hG k) envNil))) orders Tryd.func12 (by kernel_rfl) (by kernel_rfl) rfl (by kernel_rfl) (arg0_of fun h => alembiclaw17_first.eq G k _ h)
theorem alembiclaw17_light.here : ∃ fn, Tryd.prog.funcs[13]? = some fn ∧ fn.body.isSome = true ∧ (fn.name == "runtime.NumGoroutine") = false := ⟨_, Tryd.func13, by kernel_rfl, by kernel_rfl⟩
theorem alembiclaw17_light.eq (G : Globs) (k : Nat) (self : Den) (x0 x1 x2 : AV) (h : AHeap) : absFn Tryd.prog G (envL (alembiclaw17_light.env G k self)) alembiclaw17_light.ann Tryd.f13.results.toList (codeOf Tryd.f13) Tryd.f13.ntmps k [x0, x1, x2] h = alembiclaw17_light.c G k self x0 x1 x2 h := by kernel_rfl
theorem alembiclaw17_light.sound {G : Globs} (hG : ∀ g x, G g = some x → plainB x = true) : ∀ k, Sound Tryd.prog G 13 (alembiclaw17_light.f G k)
  | 0 => sound_zero alembiclaw17_light.here (fun _ _ => rfl)
  | k + 1 => sound_succ (l := alembiclaw17_light.env G k (alembiclaw17_light.f G k)) (ann := alembiclaw17_light.ann) (n := k) (envSound_of hG envNil) orders Tryd.func13 (by kernel_rfl) (by kernel_rfl) rfl (by kernel_rfl) (arg3_of fun x0 x1 x2 h => alembiclaw17_light.eq G k _ x0 x1 x2 h)
theorem alembicref_Bare.here : ∃ fn, Tryd.prog.funcs[18]? = some fn ∧ fn.body.isSome = true ∧ (fn.name == "runtime.NumGoroutine") = false := ⟨_, Tryd.func18, by kernel_rfl, by kernel_rfl⟩
theorem alembicref_Bare.eq (G : Globs) (k : Nat) (self : Den) (x0 : AV) (h : AHeap) : absFn Tryd.prog G (envL (alembicref_Bare.env G k self)) alembicref_Bare.ann Tryd.f18.results.toList (codeOf Tryd.f18) Tryd.f18.ntmps k [x0] h = alembicref_Bare.c G k self x0 h := by kernel_rfl
theorem alembicref_Bare.sound {G : Globs} (hG : ∀ g x, G g = some x → plainB x = true) : ∀ k, Sound Tryd.prog G 18 (alembicref_Bare.f G k)
  | 0 => sound_zero alembicref_Bare.here (fun _ _ => rfl)
  | k + 1 => sound_succ (l := alembicref_Bare.env G k (alembicref_Bare.f G k)) (ann := alembicref_Bare.ann) (n := k) (envSound_of hG envNil) orders Tryd.func18 (by kernel_rfl) (by kernel_rfl) rfl (by kernel_rfl) (arg1_of fun x0 h => alembicref_Bare.eq G k _ x0 h)
theorem alembicref17_of.here : ∃ fn, Tryd.prog.funcs[36]? = some fn ∧ fn.body.isSome = true ∧ (fn.name == "runtime.NumGoroutine") = false := ⟨_, Tryd.func36, by kernel_rfl, by kernel_rfl⟩
theorem alembicref17_of.eq (G : Globs) (k : Nat) (self : Den) (x0 : AV) (h : AHeap) : absFn Tryd.prog G (envL (alembicref17_of.env G k self)) alembicref17_of.ann Tryd.f36.results.toList (codeOf Tryd.f36) Tryd.f36.ntmps k [x0] h = alembicref17_of.c G k self x0 h := by kernel_rfl
theorem alembicref17_of.sound {G : Globs} (hG : ∀ g x, G g = some x → plainB x = true) : ∀ k, Sound Tryd.prog G 36 (alembicref17_of.f G k)
  | 0 => sound_zero alembicref17_of.here (fun _ _ => rfl)
  | k + 1 => sound_succ (l := alembicref17_of.env G k (alembicref17_of.f G k)) (ann := alembicref17_of.ann) (n := k) (envSound_of hG envNil) orders Tryd.func36 (by kernel_rfl) (by kernel_rfl) rfl (by kernel_rfl) (arg1_of fun x0 h => alembicref17_of.eq G k _ x0 h)
theorem alembicref17_outside.here : ∃ fn, Tryd.prog.funcs[37]? = some fn ∧ fn.body.isSome = true ∧ (fn.name == "runtime.NumGoroutine") = false := ⟨_, Tryd.func37, by kernel_rfl, by kernel_rfl⟩
theorem alembicref17_outside.eq (G : Globs) (k : Nat) (self : Den) (x0 x1 x2 : AV) (h : AHeap) : absFn Tryd.prog G (envL (alembicref17_outside.env G k self)) alembicref17_outside.ann Tryd.f37.results.toList (codeOf Tryd.f37) Tryd.f37.ntmps k [x0, x1, x2] h = alembicref17_outside.c G k self x0 x1 x2 h := by kernel_rfl
theorem alembicref17_outside.sound {G : Globs} (hG : ∀ g x, G g = some x → plainB x = true) : ∀ k, Sound Tryd.prog G 37 (alembicref17_outside.f G k)
  | 0 => sound_zero alembicref17_outside.here (fun _ _ => rfl)
  | k + 1 => sound_succ (l := alembicref17_outside.env G k (alembicref17_outside.f G k)) (ann := alembicref17_outside.ann) (n := k) (envSound_of hG envNil) orders Tryd.func37 (by kernel_rfl) (by kernel_rfl) rfl (by kernel_rfl) (arg3_of fun x0 x1 x2 h => alembicref17_outside.eq G k _ x0 x1 x2 h)
theorem alembicref17_within.here : ∃ fn, Tryd.prog.funcs[38]? = some fn ∧ fn.body.isSome = true ∧ (fn.name == "runtime.NumGoroutine") = false := ⟨_, Tryd.func38, by kernel_rfl, by kernel_rfl⟩
theorem alembicref17_within.eq (G : Globs) (k : Nat) (self : Den) (x0 x1 : AV) (h : AHeap) : absFn Tryd.prog G (envL (alembicref17_within.env G k self)) alembicref17_within.ann Tryd.f38.results.toList (codeOf Tryd.f38) Tryd.f38.ntmps k [x0, x1] h = alembicref17_within.c G k self x0 x1 h := by kernel_rfl
theorem alembicref17_within.sound {G : Globs} (hG : ∀ g x, G g = some x → plainB x = true) : ∀ k, Sound Tryd.prog G 38 (alembicref17_within.f G k)
  | 0 => sound_zero alembicref17_within.here (fun _ _ => rfl)
  | k + 1 => sound_succ (l := alembicref17_within.env G k (alembicref17_within.f G k)) (ann := alembicref17_within.ann) (n := k) (envSound_of hG envNil) orders Tryd.func38 (by kernel_rfl) (by kernel_rfl) rfl (by kernel_rfl) (arg2_of fun x0 x1 h => alembicref17_within.eq G k _ x0 x1 h)
theorem alembicref_None.here : ∃ fn, Tryd.prog.funcs[40]? = some fn ∧ fn.body.isSome = true ∧ (fn.name == "runtime.NumGoroutine") = false := ⟨_, Tryd.func40, by kernel_rfl, by kernel_rfl⟩
theorem alembicref_None.eq (G : Globs) (k : Nat) (self : Den) (h : AHeap) : absFn Tryd.prog G (envL (alembicref_None.env G k self)) alembicref_None.ann Tryd.f40.results.toList (codeOf Tryd.f40) Tryd.f40.ntmps k [] h = alembicref_None.c G k self h := by kernel_rfl
theorem alembicref_None.sound {G : Globs} (hG : ∀ g x, G g = some x → plainB x = true) : ∀ k, Sound Tryd.prog G 40 (alembicref_None.f G k)
  | 0 => sound_zero alembicref_None.here (fun _ _ => rfl)
  | k + 1 => sound_succ (l := alembicref_None.env G k (alembicref_None.f G k)) (ann := alembicref_None.ann) (n := k) (envSound_of hG envNil) orders Tryd.func40 (by kernel_rfl) (by kernel_rfl) rfl (by kernel_rfl) (arg0_of fun h => alembicref_None.eq G k _ h)
theorem alembicref_Placed.here : ∃ fn, Tryd.prog.funcs[39]? = some fn ∧ fn.body.isSome = true ∧ (fn.name == "runtime.NumGoroutine") = false := ⟨_, Tryd.func39, by kernel_rfl, by kernel_rfl⟩
theorem alembicref_Placed.eq (G : Globs) (k : Nat) (self : Den) (x0 x1 : AV) (h : AHeap) : absFn Tryd.prog G (envL (alembicref_Placed.env G k self)) alembicref_Placed.ann Tryd.f39.results.toList (codeOf Tryd.f39) Tryd.f39.ntmps k [x0, x1] h = alembicref_Placed.c G k self x0 x1 h := by kernel_rfl
theorem alembicref_Placed.sound {G : Globs} (hG : ∀ g x, G g = some x → plainB x = true) : ∀ k, Sound Tryd.prog G 39 (alembicref_Placed.f G k)
  | 0 => sound_zero alembicref_Placed.here (fun _ _ => rfl)
  | k + 1 => sound_succ (l := alembicref_Placed.env G k (alembicref_Placed.f G k)) (ann := alembicref_Placed.ann) (n := k) (envSound_of hG (envCons (alembicref_None.sound hG k) envNil)) orders Tryd.func39 (by kernel_rfl) (by kernel_rfl) rfl (by kernel_rfl) (arg2_of fun x0 x1 h => alembicref_Placed.eq G k _ x0 x1 h)
theorem alembicref17_Valid.here : ∃ fn, Tryd.prog.funcs[14]? = some fn ∧ fn.body.isSome = true ∧ (fn.name == "runtime.NumGoroutine") = false := ⟨_, Tryd.func14, by kernel_rfl, by kernel_rfl⟩
theorem alembicref17_Valid.eq (G : Globs) (k : Nat) (self : Den) (x0 : AV) (h : AHeap) : absFn Tryd.prog G (envL (alembicref17_Valid.env G k self)) alembicref17_Valid.ann Tryd.f14.results.toList (codeOf Tryd.f14) Tryd.f14.ntmps k [x0] h = alembicref17_Valid.c G k self x0 h := by kernel_rfl
theorem alembicref17_Valid.sound {G : Globs} (hG : ∀ g x, G g = some x → plainB x = true) : ∀ k, Sound Tryd.prog G 14 (alembicref17_Valid.f G k)
  | 0 => sound_zero alembicref17_Valid.here (fun _ _ => rfl)
  | k + 1 => sound_succ (l := alembicref17_Valid.env G k (alembicref17_Valid.f G k)) (ann := alembicref17_Valid.ann) (n := k) (envSound_of hG (envCons (alembicref_Bare.sound hG k) (envCons (alembicref17_of.sound hG k) (envCons (alembicref17_outside.sound hG k) (envCons (alembicref17_within.sound hG k) (envCons (alembicref_Placed.sound hG k) (envCons (alembicref_None.sound hG k) envNil))))))) orders Tryd.func14 (by kernel_rfl) (by kernel_rfl) rfl (by kernel_rfl) (arg1_of fun x0 h => alembicref17_Valid.eq G k _ x0 h)
theorem alembiclaw17_other.here : ∃ fn, Tryd.prog.funcs[15]? = some fn ∧ fn.body.isSome = true ∧ (fn.name == "runtime.NumGoroutine") = false := ⟨_, Tryd.func15, by kernel_rfl, by kernel_rfl⟩
theorem alembiclaw17_other.eq (G : Globs) (k : Nat) (self : Den) (x0 : AV) (h : AHeap) : absFn Tryd.prog G (envL (alembiclaw17_other.env G k self)) alembiclaw17_other.ann Tryd.f15.results.toList (codeOf Tryd.f15) Tryd.f15.ntmps k [x0] h = alembiclaw17_other.c G k self x0 h := by kernel_rfl
theorem alembiclaw17_other.sound {G : Globs} (hG : ∀ g x, G g = some x → plainB x = true) : ∀ k, Sound Tryd.prog G 15 (alembiclaw17_other.f G k)
  | 0 => sound_zero alembiclaw17_other.here (fun _ _ => rfl)
  | k + 1 => sound_succ (l := alembiclaw17_other.env G k (alembiclaw17_other.f G k)) (ann := alembiclaw17_other.ann) (n := k) (envSound_of hG envNil) orders Tryd.func15 (by kernel_rfl) (by kernel_rfl) rfl (by kernel_rfl) (arg1_of fun x0 h => alembiclaw17_other.eq G k _ x0 h)
theorem alembicref_SameFault.here : ∃ fn, Tryd.prog.funcs[41]? = some fn ∧ fn.body.isSome = true ∧ (fn.name == "runtime.NumGoroutine") = false := ⟨_, Tryd.func41, by kernel_rfl, by kernel_rfl⟩
theorem alembicref_SameFault.eq (G : Globs) (k : Nat) (self : Den) (x0 x1 : AV) (h : AHeap) : absFn Tryd.prog G (envL (alembicref_SameFault.env G k self)) alembicref_SameFault.ann Tryd.f41.results.toList (codeOf Tryd.f41) Tryd.f41.ntmps k [x0, x1] h = alembicref_SameFault.c G k self x0 x1 h := by kernel_rfl
theorem alembicref_SameFault.sound {G : Globs} (hG : ∀ g x, G g = some x → plainB x = true) : ∀ k, Sound Tryd.prog G 41 (alembicref_SameFault.f G k)
  | 0 => sound_zero alembicref_SameFault.here (fun _ _ => rfl)
  | k + 1 => sound_succ (l := alembicref_SameFault.env G k (alembicref_SameFault.f G k)) (ann := alembicref_SameFault.ann) (n := k) (envSound_of hG envNil) orders Tryd.func41 (by kernel_rfl) (by kernel_rfl) rfl (by kernel_rfl) (arg2_of fun x0 x1 h => alembicref_SameFault.eq G k _ x0 x1 h)
theorem alembicsee_sentinels.here : ∃ fn, Tryd.prog.funcs[86]? = some fn ∧ fn.body.isSome = true ∧ (fn.name == "runtime.NumGoroutine") = false := ⟨_, Tryd.func86, by kernel_rfl, by kernel_rfl⟩
theorem alembicsee_sentinels.eq (G : Globs) (k : Nat) (self : Den) (h : AHeap) : absFn Tryd.prog G (envL (alembicsee_sentinels.env G k self)) alembicsee_sentinels.ann Tryd.f86.results.toList (codeOf Tryd.f86) Tryd.f86.ntmps k [] h = alembicsee_sentinels.c G k self h := by kernel_rfl
theorem alembicsee_sentinels.sound {G : Globs} (hG : ∀ g x, G g = some x → plainB x = true) : ∀ k, Sound Tryd.prog G 86 (alembicsee_sentinels.f G k)
  | 0 => sound_zero alembicsee_sentinels.here (fun _ _ => rfl)
  | k + 1 => sound_succ (l := alembicsee_sentinels.env G k (alembicsee_sentinels.f G k)) (ann := alembicsee_sentinels.ann) (n := k) (envSound_of hG envNil) orders Tryd.func86 (by kernel_rfl) (by kernel_rfl) rfl (by kernel_rfl) (arg0_of fun h => alembicsee_sentinels.eq G k _ h)
theorem alembicsee_Alike.here : ∃ fn, Tryd.prog.funcs[87]? = some fn ∧ fn.body.isSome = true ∧ (fn.name == "runtime.NumGoroutine") = false := ⟨_, Tryd.func87, by kernel_rfl, by kernel_rfl⟩
theorem alembicsee_Alike.eq (G : Globs) (k : Nat) (self : Den) (x0 x1 : AV) (h : AHeap) : absFn Tryd.prog G (envL (alembicsee_Alike.env G k self)) alembicsee_Alike.ann Tryd.f87.results.toList (codeOf Tryd.f87) Tryd.f87.ntmps k [x0, x1] h = alembicsee_Alike.c G k self x0 x1 h := by kernel_rfl
theorem alembicsee_Alike.sound {G : Globs} (hG : ∀ g x, G g = some x → plainB x = true) : ∀ k, Sound Tryd.prog G 87 (alembicsee_Alike.f G k)
  | 0 => sound_zero alembicsee_Alike.here (fun _ _ => rfl)
  | k + 1 => sound_succ (l := alembicsee_Alike.env G k (alembicsee_Alike.f G k)) (ann := alembicsee_Alike.ann) (n := k) (envSound_of hG envNil) orders Tryd.func87 (by kernel_rfl) (by kernel_rfl) rfl (by kernel_rfl) (arg2_of fun x0 x1 h => alembicsee_Alike.eq G k _ x0 x1 h)
theorem alembicsee_sentinel.here : ∃ fn, Tryd.prog.funcs[71]? = some fn ∧ fn.body.isSome = true ∧ (fn.name == "runtime.NumGoroutine") = false := ⟨_, Tryd.func71, by kernel_rfl, by kernel_rfl⟩
theorem alembicsee_sentinel.eq (G : Globs) (k : Nat) (self : Den) (x0 : AV) (h : AHeap) : absFn Tryd.prog G (envL (alembicsee_sentinel.env G k self)) alembicsee_sentinel.ann Tryd.f71.results.toList (codeOf Tryd.f71) Tryd.f71.ntmps k [x0] h = alembicsee_sentinel.c G k self x0 h := by kernel_rfl
theorem alembicsee_sentinel.sound {G : Globs} (hG : ∀ g x, G g = some x → plainB x = true) : ∀ k, Sound Tryd.prog G 71 (alembicsee_sentinel.f G k)
  | 0 => sound_zero alembicsee_sentinel.here (fun _ _ => rfl)
  | k + 1 => sound_succ (l := alembicsee_sentinel.env G k (alembicsee_sentinel.f G k)) (ann := alembicsee_sentinel.ann) (n := k) (envSound_of hG (envCons (alembicsee_sentinels.sound hG k) (envCons (alembicsee_Alike.sound hG k) envNil))) orders Tryd.func71 (by kernel_rfl) (by kernel_rfl) rfl (by kernel_rfl) (arg1_of fun x0 h => alembicsee_sentinel.eq G k _ x0 h)
theorem alembicsee_Fault.here : ∃ fn, Tryd.prog.funcs[42]? = some fn ∧ fn.body.isSome = true ∧ (fn.name == "runtime.NumGoroutine") = false := ⟨_, Tryd.func42, by kernel_rfl, by kernel_rfl⟩
theorem alembicsee_Fault.eq (G : Globs) (k : Nat) (self : Den) (x0 : AV) (h : AHeap) : absFn Tryd.prog G (envL (alembicsee_Fault.env G k self)) alembicsee_Fault.ann Tryd.f42.results.toList (codeOf Tryd.f42) Tryd.f42.ntmps k [x0] h = alembicsee_Fault.c G k self x0 h := by kernel_rfl
theorem alembicsee_Fault.sound {G : Globs} (hG : ∀ g x, G g = some x → plainB x = true) : ∀ k, Sound Tryd.prog G 42 (alembicsee_Fault.f G k)
  | 0 => sound_zero alembicsee_Fault.here (fun _ _ => rfl)
  | k + 1 => sound_succ (l := alembicsee_Fault.env G k (alembicsee_Fault.f G k)) (ann := alembicsee_Fault.ann) (n := k) (envSound_of hG (envCons (alembicref_Bare.sound hG k) (envCons (alembicref_Placed.sound hG k) (envCons (alembicref_None.sound hG k) (envCons (alembicsee_sentinel.sound hG k) envNil))))) orders Tryd.func42 (by kernel_rfl) (by kernel_rfl) rfl (by kernel_rfl) (arg1_of fun x0 h => alembicsee_Fault.eq G k _ x0 h)
theorem alembicsee_Same.here : ∃ fn, Tryd.prog.funcs[16]? = some fn ∧ fn.body.isSome = true ∧ (fn.name == "runtime.NumGoroutine") = false := ⟨_, Tryd.func16, by kernel_rfl, by kernel_rfl⟩
theorem alembicsee_Same.eq (G : Globs) (k : Nat) (self : Den) (x0 x1 : AV) (h : AHeap) : absFn Tryd.prog G (envL (alembicsee_Same.env G k self)) alembicsee_Same.ann Tryd.f16.results.toList (codeOf Tryd.f16) Tryd.f16.ntmps k [x0, x1] h = alembicsee_Same.c G k self x0 x1 h := by kernel_rfl
theorem alembicsee_Same.sound {G : Globs} (hG : ∀ g x, G g = some x → plainB x = true) : ∀ k, Sound Tryd.prog G 16 (alembicsee_Same.f G k)
  | 0 => sound_zero alembicsee_Same.here (fun _ _ => rfl)
  | k + 1 => sound_succ (l := alembicsee_Same.env G k (alembicsee_Same.f G k)) (ann := alembicsee_Same.ann) (n := k) (envSound_of hG (envCons (alembicref_SameFault.sound hG k) (envCons (alembicsee_Fault.sound hG k) envNil))) orders Tryd.func16 (by kernel_rfl) (by kernel_rfl) rfl (by kernel_rfl) (arg2_of fun x0 x1 h => alembicsee_Same.eq G k _ x0 x1 h)
theorem alembicref17_Sum.here : ∃ fn, Tryd.prog.funcs[56]? = some fn ∧ fn.body.isSome = true ∧ (fn.name == "runtime.NumGoroutine") = false := ⟨_, Tryd.func56, by kernel_rfl, by kernel_rfl⟩
theorem alembicref17_Sum.eq (G : Globs) (k : Nat) (self : Den) (x0 x1 : AV) (h : AHeap) : absFn Tryd.prog G (envL (alembicref17_Sum.env G k self)) alembicref17_Sum.ann Tryd.f56.results.toList (codeOf Tryd.f56) Tryd.f56.ntmps k [x0, x1] h = alembicref17_Sum.c G k self x0 x1 h := by kernel_rfl
theorem alembicref17_Sum.sound {G : Globs} (hG : ∀ g x, G g = some x → plainB x = true) : ∀ k, Sound Tryd.prog G 56 (alembicref17_Sum.f G k)
  | 0 => sound_zero alembicref17_Sum.here (fun _ _ => rfl)
  | k + 1 => sound_succ (l := alembicref17_Sum.env G k (alembicref17_Sum.f G k)) (ann := alembicref17_Sum.ann) (n := k) (envSound_of hG envNil) orders Tryd.func56 (by kernel_rfl) (by kernel_rfl) rfl (by kernel_rfl) (arg2_of fun x0 x1 h => alembicref17_Sum.eq G k _ x0 x1 h)
theorem alembicref17_cut.here : ∃ fn, Tryd.prog.funcs[57]? = some fn ∧ fn.body.isSome = true ∧ (fn.name == "runtime.NumGoroutine") = false := ⟨_, Tryd.func57, by kernel_rfl, by kernel_rfl⟩
theorem alembicref17_cut.eq (G : Globs) (k : Nat) (self : Den) (x0 x1 : AV) (h : AHeap) : absFn Tryd.prog G (envL (alembicref17_cut.env G k self)) alembicref17_cut.ann Tryd.f57.results.toList (codeOf Tryd.f57) Tryd.f57.ntmps k [x0, x1] h = alembicref17_cut.c G k self x0 x1 h := by kernel_rfl
theorem alembicref17_cut.sound {G : Globs} (hG : ∀ g x, G g = some x → plainB x = true) : ∀ k, Sound Tryd.prog G 57 (alembicref17_cut.f G k)
  | 0 => sound_zero alembicref17_cut.here (fun _ _ => rfl)
  | k + 1 => sound_succ (l := alembicref17_cut.env G k (alembicref17_cut.f G k)) (ann := alembicref17_cut.ann) (n := k) (envSound_of hG envNil) orders Tryd.func57 (by kernel_rfl) (by kernel_rfl) rfl (by kernel_rfl) (arg2_of fun x0 x1 h => alembicref17_cut.eq G k _ x0 x1 h)
theorem alembicref17_Less.here : ∃ fn, Tryd.prog.funcs[58]? = some fn ∧ fn.body.isSome = true ∧ (fn.name == "runtime.NumGoroutine") = false := ⟨_, Tryd.func58, by kernel_rfl, by kernel_rfl⟩
theorem alembicref17_Less.eq (G : Globs) (k : Nat) (self : Den) (x0 x1 : AV) (h : AHeap) : absFn Tryd.prog G (envL (alembicref17_Less.env G k self)) alembicref17_Less.ann Tryd.f58.results.toList (codeOf Tryd.f58) Tryd.f58.ntmps k [x0, x1] h = alembicref17_Less.c G k self x0 x1 h := by kernel_rfl
theorem alembicref17_Less.sound {G : Globs} (hG : ∀ g x, G g = some x → plainB x = true) : ∀ k, Sound Tryd.prog G 58 (alembicref17_Less.f G k)
  | 0 => sound_zero alembicref17_Less.here (fun _ _ => rfl)
  | k + 1 => sound_succ (l := alembicref17_Less.env G k (alembicref17_Less.f G k)) (ann := alembicref17_Less.ann) (n := k) (envSound_of hG envNil) orders Tryd.func58 (by kernel_rfl) (by kernel_rfl) rfl (by kernel_rfl) (arg2_of fun x0 x1 h => alembicref17_Less.eq G k _ x0 x1 h)
theorem alembicref17_Product.here : ∃ fn, Tryd.prog.funcs[59]? = some fn ∧ fn.body.isSome = true ∧ (fn.name == "runtime.NumGoroutine") = false := ⟨_, Tryd.func59, by kernel_rfl, by kernel_rfl⟩
theorem alembicref17_Product.eq (G : Globs) (k : Nat) (self : Den) (x0 x1 : AV) (h : AHeap) : absFn Tryd.prog G (envL (alembicref17_Product.env G k self)) alembicref17_Product.ann Tryd.f59.results.toList (codeOf Tryd.f59) Tryd.f59.ntmps k [x0, x1] h = alembicref17_Product.c G k self x0 x1 h := by kernel_rfl
theorem alembicref17_Product.sound {G : Globs} (hG : ∀ g x, G g = some x → plainB x = true) : ∀ k, Sound Tryd.prog G 59 (alembicref17_Product.f G k)
  | 0 => sound_zero alembicref17_Product.here (fun _ _ => rfl)
  | k + 1 => sound_succ (l := alembicref17_Product.env G k (alembicref17_Product.f G k)) (ann := alembicref17_Product.ann) (n := k) (envSound_of hG (envCons (math_bits_Mul64.sound hG k) (envCons (alembicref17_cut.sound hG k) envNil))) orders Tryd.func59 (by kernel_rfl) (by kernel_rfl) rfl (by kernel_rfl) (arg2_of fun x0 x1 h => alembicref17_Product.eq G k _ x0 x1 h)
theorem alembicref17_Exact.here : ∃ fn, Tryd.prog.funcs[29]? = some fn ∧ fn.body.isSome = true ∧ (fn.name == "runtime.NumGoroutine") = false := ⟨_, Tryd.func29, by kernel_rfl, by kernel_rfl⟩
theorem alembicref17_Exact.eq (G : Globs) (k : Nat) (self : Den) (x0 x1 x2 : AV) (h : AHeap) : absFn Tryd.prog G (envL (alembicref17_Exact.env G k self)) alembicref17_Exact.ann Tryd.f29.results.toList (codeOf Tryd.f29) Tryd.f29.ntmps k [x0, x1, x2] h = alembicref17_Exact.c G k self x0 x1 x2 h := by kernel_rfl
theorem alembicref17_Exact.sound {G : Globs} (hG : ∀ g x, G g = some x → plainB x = true) : ∀ k, Sound Tryd.prog G 29 (alembicref17_Exact.f G k)
  | 0 => sound_zero alembicref17_Exact.here (fun _ _ => rfl)
  | k + 1 => sound_succ (l := alembicref17_Exact.env G k (alembicref17_Exact.f G k)) (ann := alembicref17_Exact.ann) (n := k) (envSound_of hG (envCons (alembicref17_Sum.sound hG k) (envCons (alembicref17_cut.sound hG k) (envCons (alembicref17_Less.sound hG k) (envCons (alembicref17_Product.sound hG k) envNil))))) orders Tryd.func29 (by kernel_rfl) (by kernel_rfl) rfl (by kernel_rfl) (arg3_of fun x0 x1 x2 h => alembicref17_Exact.eq G k _ x0 x1 x2 h)
theorem alembicref17_Value.here : ∃ fn, Tryd.prog.funcs[32]? = some fn ∧ fn.body.isSome = true ∧ (fn.name == "runtime.NumGoroutine") = false := ⟨_, Tryd.func32, by kernel_rfl, by kernel_rfl⟩
theorem alembicref17_Value.eq (G : Globs) (k : Nat) (self : Den) (x0 x1 x2 x3 : AV) (h : AHeap) : absFn Tryd.prog G (envL (alembicref17_Value.env G k self)) alembicref17_Value.ann Tryd.f32.results.toList (codeOf Tryd.f32) Tryd.f32.ntmps k [x0, x1, x2, x3] h = alembicref17_Value.c G k self x0 x1 x2 x3 h := by kernel_rfl
theorem alembicref17_Value.sound {G : Globs} (hG : ∀ g x, G g = some x → plainB x = true) : ∀ k, Sound Tryd.prog G 32 (alembicref17_Value.f G k)
  | 0 => sound_zero alembicref17_Value.here (fun _ _ => rfl)
  | k + 1 => sound_succ (l := alembicref17_Value.env G k (alembicref17_Value.f G k)) (ann := alembicref17_Value.ann) (n := k) (envSound_of hG (envCons (math_bits_Mul64.sound hG k) envNil)) orders Tryd.func32 (by kernel_rfl) (by kernel_rfl) rfl (by kernel_rfl) (arg4_of fun x0 x1 x2 x3 h => alembicref17_Value.eq G k _ x0 x1 x2 x3 h)
theorem alembicref_Words.here : ∃ fn, Tryd.prog.funcs[46]? = some fn ∧ fn.body.isSome = true ∧ (fn.name == "runtime.NumGoroutine") = false := ⟨_, Tryd.func46, by kernel_rfl, by kernel_rfl⟩
theorem alembicref_Words.eq (G : Globs) (k : Nat) (self : Den) (x0 : AV) (h : AHeap) : absFnO Tryd.prog G (envL (alembicref_Words.env G k self)) alembicref_Words.ann Tryd.f46.results.toList (codeOf Tryd.f46) Tryd.f46.ntmps k [x0] h = alembicref_Words.c G k self x0 h := by kernel_rfl
theorem alembicref_Words.sound {G : Globs} (hG : ∀ g x, G g = some x → plainB x = true) : ∀ k, Sound Tryd.prog G 46 (alembicref_Words.f G k)
  | 0 => sound_zero alembicref_Words.here (fun _ _ => rfl)
  | k + 1 => sound_succO (l := alembicref_Words.env G k (alembicref_Words.f G k)) (ann := alembicref_Words.ann) (n := k) (envSound_of hG envNil) orders Tryd.func46 (by kernel_rfl) (by kernel_rfl) rfl (by kernel_rfl) (arg1_of fun x0 h => alembicref_Words.eq G k _ x0 h)
theorem alembicref17_one.here : ∃ fn, Tryd.prog.funcs[47]? = some fn ∧ fn.body.isSome = true ∧ (fn.name == "runtime.NumGoroutine") = false := ⟨_, Tryd.func47, by kernel_rfl, by kernel_rfl⟩
theorem alembicref17_one.eq (G : Globs) (k : Nat) (self : Den) (x0 : AV) (h : AHeap) : absFn Tryd.prog G (envL (alembicref17_one.env G k self)) alembicref17_one.ann Tryd.f47.results.toList (codeOf Tryd.f47) Tryd.f47.ntmps k [x0] h = alembicref17_one.c G k self x0 h := by kernel_rfl
theorem alembicref17_one.sound {G : Globs} (hG : ∀ g x, G g = some x → plainB x = true) : ∀ k, Sound Tryd.prog G 47 (alembicref17_one.f G k)
  | 0 => sound_zero alembicref17_one.here (fun _ _ => rfl)
  | k + 1 => sound_succ (l := alembicref17_one.env G k (alembicref17_one.f G k)) (ann := alembicref17_one.ann) (n := k) (envSound_of hG envNil) orders Tryd.func47 (by kernel_rfl) (by kernel_rfl) rfl (by kernel_rfl) (arg1_of fun x0 h => alembicref17_one.eq G k _ x0 h)
theorem alembicref17_Run.here : ∃ fn, Tryd.prog.funcs[20]? = some fn ∧ fn.body.isSome = true ∧ (fn.name == "runtime.NumGoroutine") = false := ⟨_, Tryd.func20, by kernel_rfl, by kernel_rfl⟩
theorem alembicref17_Run.eq (G : Globs) (k : Nat) (self : Den) (x0 x1 x2 x3 : AV) (h : AHeap) : absFn Tryd.prog G (envL (alembicref17_Run.env G k self)) alembicref17_Run.ann Tryd.f20.results.toList (codeOf Tryd.f20) Tryd.f20.ntmps k [x0, x1, x2, x3] h = alembicref17_Run.c G k self x0 x1 x2 x3 h := by kernel_rfl
theorem alembicref17_Run.sound {G : Globs} (hG : ∀ g x, G g = some x → plainB x = true) : ∀ k, Sound Tryd.prog G 20 (alembicref17_Run.f G k)
  | 0 => sound_zero alembicref17_Run.here (fun _ _ => rfl)
  | k + 1 => sound_succ (l := alembicref17_Run.env G k (alembicref17_Run.f G k)) (ann := alembicref17_Run.ann) (n := k) (envSound_of hG (envCons (alembicref17_Exact.sound hG k) (envCons (alembicref17_Value.sound hG k) (envCons (alembicref_Words.sound hG k) (envCons (alembicref17_one.sound hG k) envNil))))) orders Tryd.func20 (by kernel_rfl) (by kernel_rfl) rfl (by kernel_rfl) (arg4_of fun x0 x1 x2 x3 h => alembicref17_Run.eq G k _ x0 x1 x2 x3 h)
theorem alembicref_SameWords.here : ∃ fn, Tryd.prog.funcs[21]? = some fn ∧ fn.body.isSome = true ∧ (fn.name == "runtime.NumGoroutine") = false := ⟨_, Tryd.func21, by kernel_rfl, by kernel_rfl⟩
theorem alembicref_SameWords.eq (G : Globs) (k : Nat) (self : Den) (x0 x1 : AV) (h : AHeap) : absFn Tryd.prog G (envL (alembicref_SameWords.env G k self)) alembicref_SameWords.ann Tryd.f21.results.toList (codeOf Tryd.f21) Tryd.f21.ntmps k [x0, x1] h = alembicref_SameWords.c G k self x0 x1 h := by kernel_rfl
theorem alembicref_SameWords.sound {G : Globs} (hG : ∀ g x, G g = some x → plainB x = true) : ∀ k, Sound Tryd.prog G 21 (alembicref_SameWords.f G k)
  | 0 => sound_zero alembicref_SameWords.here (fun _ _ => rfl)
  | k + 1 => sound_succ (l := alembicref_SameWords.env G k (alembicref_SameWords.f G k)) (ann := alembicref_SameWords.ann) (n := k) (envSound_of hG envNil) orders Tryd.func21 (by kernel_rfl) (by kernel_rfl) rfl (by kernel_rfl) (arg2_of fun x0 x1 h => alembicref_SameWords.eq G k _ x0 x1 h)
theorem alembicref_SameLeak1.here : ∃ fn, Tryd.prog.funcs[48]? = some fn ∧ fn.body.isSome = true ∧ (fn.name == "runtime.NumGoroutine") = false := ⟨_, Tryd.func48, by kernel_rfl, by kernel_rfl⟩
theorem alembicref_SameLeak1.eq (G : Globs) (k : Nat) (self : Den) (x0 x1 : AV) (h : AHeap) : absFn Tryd.prog G (envL (alembicref_SameLeak1.env G k self)) alembicref_SameLeak1.ann Tryd.f48.results.toList (codeOf Tryd.f48) Tryd.f48.ntmps k [x0, x1] h = alembicref_SameLeak1.c G k self x0 x1 h := by kernel_rfl
theorem alembicref_SameLeak1.sound {G : Globs} (hG : ∀ g x, G g = some x → plainB x = true) : ∀ k, Sound Tryd.prog G 48 (alembicref_SameLeak1.f G k)
  | 0 => sound_zero alembicref_SameLeak1.here (fun _ _ => rfl)
  | k + 1 => sound_succ (l := alembicref_SameLeak1.env G k (alembicref_SameLeak1.f G k)) (ann := alembicref_SameLeak1.ann) (n := k) (envSound_of hG envNil) orders Tryd.func48 (by kernel_rfl) (by kernel_rfl) rfl (by kernel_rfl) (arg2_of fun x0 x1 h => alembicref_SameLeak1.eq G k _ x0 x1 h)
theorem alembicref_SameLeaks.here : ∃ fn, Tryd.prog.funcs[22]? = some fn ∧ fn.body.isSome = true ∧ (fn.name == "runtime.NumGoroutine") = false := ⟨_, Tryd.func22, by kernel_rfl, by kernel_rfl⟩
theorem alembicref_SameLeaks.eq (G : Globs) (k : Nat) (self : Den) (x0 x1 : AV) (h : AHeap) : absFn Tryd.prog G (envL (alembicref_SameLeaks.env G k self)) alembicref_SameLeaks.ann Tryd.f22.results.toList (codeOf Tryd.f22) Tryd.f22.ntmps k [x0, x1] h = alembicref_SameLeaks.c G k self x0 x1 h := by kernel_rfl
theorem alembicref_SameLeaks.sound {G : Globs} (hG : ∀ g x, G g = some x → plainB x = true) : ∀ k, Sound Tryd.prog G 22 (alembicref_SameLeaks.f G k)
  | 0 => sound_zero alembicref_SameLeaks.here (fun _ _ => rfl)
  | k + 1 => sound_succ (l := alembicref_SameLeaks.env G k (alembicref_SameLeaks.f G k)) (ann := alembicref_SameLeaks.ann) (n := k) (envSound_of hG (envCons (alembicref_SameLeak1.sound hG k) envNil)) orders Tryd.func22 (by kernel_rfl) (by kernel_rfl) rfl (by kernel_rfl) (arg2_of fun x0 x1 h => alembicref_SameLeaks.eq G k _ x0 x1 h)
theorem alembiclaw17_WordsRun.here : ∃ fn, Tryd.prog.funcs[3]? = some fn ∧ fn.body.isSome = true ∧ (fn.name == "runtime.NumGoroutine") = false := ⟨_, Tryd.func3, by kernel_rfl, by kernel_rfl⟩
theorem alembiclaw17_WordsRun.eq (G : Globs) (k : Nat) (self : Den) (x0 x1 x2 : AV) (h : AHeap) : absFn Tryd.prog G (envL (alembiclaw17_WordsRun.env G k self)) alembiclaw17_WordsRun.ann Tryd.f3.results.toList (codeOf Tryd.f3) Tryd.f3.ntmps k [x0, x1, x2] h = alembiclaw17_WordsRun.c G k self x0 x1 x2 h := by kernel_rfl
theorem alembiclaw17_WordsRun.sound {G : Globs} (hG : ∀ g x, G g = some x → plainB x = true) : ∀ k, Sound Tryd.prog G 3 (alembiclaw17_WordsRun.f G k)
  | 0 => sound_zero alembiclaw17_WordsRun.here (fun _ _ => rfl)
  | k + 1 => sound_succ (l := alembiclaw17_WordsRun.env G k (alembiclaw17_WordsRun.f G k)) (ann := alembiclaw17_WordsRun.ann) (n := k) (envSound_of hG (envCons (alembiclaw17_first.sound hG k) (envCons (alembiclaw17_light.sound hG k) (envCons (alembicref17_Valid.sound hG k) (envCons (alembiclaw17_other.sound hG k) (envCons (alembicsee_Same.sound hG k) (envCons (words_Valid.sound hG k) (envCons (alembicref_Bare.sound hG k) (envCons (words_Run.sound hG k) (envCons (alembicref17_Run.sound hG k) (envCons (alembicref_SameWords.sound hG k) (envCons (alembicref_SameLeaks.sound hG k) envNil)))))))))))) orders Tryd.func3 (by kernel_rfl) (by kernel_rfl) rfl (by kernel_rfl) (arg3_of fun x0 x1 x2 h => alembiclaw17_WordsRun.eq G k _ x0 x1 x2 h)
theorem alembiclaw17_WordsMeans_1.here : ∃ fn, Tryd.prog.funcs[23]? = some fn ∧ fn.body.isSome = true ∧ (fn.name == "runtime.NumGoroutine") = false := ⟨_, Tryd.func23, by kernel_rfl, by kernel_rfl⟩
theorem alembiclaw17_WordsMeans_1.eq (G : Globs) (k : Nat) (self : Den) (x0 x1 x2 x3 x4 : AV) (h : AHeap) : absFn Tryd.prog G (envL (alembiclaw17_WordsMeans_1.env G k self)) alembiclaw17_WordsMeans_1.ann Tryd.f23.results.toList (codeOf Tryd.f23) Tryd.f23.ntmps k [x0, x1, x2, x3, x4] h = alembiclaw17_WordsMeans_1.c G k self x0 x1 x2 x3 x4 h := by kernel_rfl
theorem alembiclaw17_WordsMeans_1.sound {G : Globs} (hG : ∀ g x, G g = some x → plainB x = true) : ∀ k, Sound Tryd.prog G 23 (alembiclaw17_WordsMeans_1.f G k)
  | 0 => sound_zero alembiclaw17_WordsMeans_1.here (fun _ _ => rfl)
  | k + 1 => sound_succ (l := alembiclaw17_WordsMeans_1.env G k (alembiclaw17_WordsMeans_1.f G k)) (ann := alembiclaw17_WordsMeans_1.ann) (n := k) (envSound_of hG (envCons (words_Value.sound hG k) envNil)) orders Tryd.func23 (by kernel_rfl) (by kernel_rfl) rfl (by kernel_rfl) (arg5_of fun x0 x1 x2 x3 x4 h => alembiclaw17_WordsMeans_1.eq G k _ x0 x1 x2 x3 x4 h)
theorem alembicworld_Number.here : ∃ fn, Tryd.prog.funcs[25]? = some fn ∧ fn.body.isSome = true ∧ (fn.name == "runtime.NumGoroutine") = false := ⟨_, Tryd.func25, by kernel_rfl, by kernel_rfl⟩
theorem alembicworld_Number.eq (G : Globs) (k : Nat) (self : Den) (x0 x1 : AV) (h : AHeap) : absFn Tryd.prog G (envL (alembicworld_Number.env G k self)) alembicworld_Number.ann Tryd.f25.results.toList (codeOf Tryd.f25) Tryd.f25.ntmps k [x0, x1] h = alembicworld_Number.c G k self x0 x1 h := by kernel_rfl
theorem alembicworld_Number.sound {G : Globs} (hG : ∀ g x, G g = some x → plainB x = true) : ∀ k, Sound Tryd.prog G 25 (alembicworld_Number.f G k)
  | 0 => sound_zero alembicworld_Number.here (fun _ _ => rfl)
  | k + 1 => sound_succ (l := alembicworld_Number.env G k (alembicworld_Number.f G k)) (ann := alembicworld_Number.ann) (n := k) (envSound_of hG envNil) orders Tryd.func25 (by kernel_rfl) (by kernel_rfl) rfl (by kernel_rfl) (arg2_of fun x0 x1 h => alembicworld_Number.eq G k _ x0 x1 h)
theorem alembiclaw17_WordsMeans.here : ∃ fn, Tryd.prog.funcs[4]? = some fn ∧ fn.body.isSome = true ∧ (fn.name == "runtime.NumGoroutine") = false := ⟨_, Tryd.func4, by kernel_rfl, by kernel_rfl⟩
theorem alembiclaw17_WordsMeans.eq (G : Globs) (k : Nat) (self : Den) (x0 x1 x2 x3 : AV) (h : AHeap) : absFn Tryd.prog G (envL (alembiclaw17_WordsMeans.env G k self)) alembiclaw17_WordsMeans.ann Tryd.f4.results.toList (codeOf Tryd.f4) Tryd.f4.ntmps k [x0, x1, x2, x3] h = alembiclaw17_WordsMeans.c G k self x0 x1 x2 x3 h := by kernel_rfl
theorem alembiclaw17_WordsMeans.sound {G : Globs} (hG : ∀ g x, G g = some x → plainB x = true) : ∀ k, Sound Tryd.prog G 4 (alembiclaw17_WordsMeans.f G k)
  | 0 => sound_zero alembiclaw17_WordsMeans.here (fun _ _ => rfl)
  | k + 1 => sound_succ (l := alembiclaw17_WordsMeans.env G k (alembiclaw17_WordsMeans.f G k)) (ann := alembiclaw17_WordsMeans.ann) (n := k) (envSound_of hG (envCons (alembiclaw17_first.sound hG k) (envCons (alembiclaw17_WordsMeans_1.sound hG k) (envCons (alembicworld_Number.sound hG k) envNil)))) orders Tryd.func4 (by kernel_rfl) (by kernel_rfl) rfl (by kernel_rfl) (arg4_of fun x0 x1 x2 x3 h => alembiclaw17_WordsMeans.eq G k _ x0 x1 x2 x3 h)
theorem alembiclaw17_WordsLoops.here : ∃ fn, Tryd.prog.funcs[6]? = some fn ∧ fn.body.isSome = true ∧ (fn.name == "runtime.NumGoroutine") = false := ⟨_, Tryd.func6, by kernel_rfl, by kernel_rfl⟩
theorem alembiclaw17_WordsLoops.eq (G : Globs) (k : Nat) (self : Den) (x0 : AV) (h : AHeap) : absFn Tryd.prog G (envL (alembiclaw17_WordsLoops.env G k self)) alembiclaw17_WordsLoops.ann Tryd.f6.results.toList (codeOf Tryd.f6) Tryd.f6.ntmps k [x0] h = alembiclaw17_WordsLoops.c G k self x0 h := by kernel_rfl
theorem alembiclaw17_WordsLoops.sound {G : Globs} (hG : ∀ g x, G g = some x → plainB x = true) : ∀ k, Sound Tryd.prog G 6 (alembiclaw17_WordsLoops.f G k)
  | 0 => sound_zero alembiclaw17_WordsLoops.here (fun _ _ => rfl)
  | k + 1 => sound_succ (l := alembiclaw17_WordsLoops.env G k (alembiclaw17_WordsLoops.f G k)) (ann := alembiclaw17_WordsLoops.ann) (n := k) (envSound_of hG (envCons (alembiclaw17_first.sound hG k) (envCons (words_Run.sound hG k) envNil))) orders Tryd.func6 (by kernel_rfl) (by kernel_rfl) rfl (by kernel_rfl) (arg1_of fun x0 h => alembiclaw17_WordsLoops.eq G k _ x0 h)
theorem alembiclaw17_WordsFaults.here : ∃ fn, Tryd.prog.funcs[7]? = some fn ∧ fn.body.isSome = true ∧ (fn.name == "runtime.NumGoroutine") = false := ⟨_, Tryd.func7, by kernel_rfl, by kernel_rfl⟩
theorem alembiclaw17_WordsFaults.eq (G : Globs) (k : Nat) (self : Den) (x0 x1 x2 : AV) (h : AHeap) : absFn Tryd.prog G (envL (alembiclaw17_WordsFaults.env G k self)) alembiclaw17_WordsFaults.ann Tryd.f7.results.toList (codeOf Tryd.f7) Tryd.f7.ntmps k [x0, x1, x2] h = alembiclaw17_WordsFaults.c G k self x0 x1 x2 h := by kernel_rfl
theorem alembiclaw17_WordsFaults.sound {G : Globs} (hG : ∀ g x, G g = some x → plainB x = true) : ∀ k, Sound Tryd.prog G 7 (alembiclaw17_WordsFaults.f G k)
  | 0 => sound_zero alembiclaw17_WordsFaults.here (fun _ _ => rfl)
  | k + 1 => sound_succ (l := alembiclaw17_WordsFaults.env G k (alembiclaw17_WordsFaults.f G k)) (ann := alembiclaw17_WordsFaults.ann) (n := k) (envSound_of hG (envCons (alembiclaw17_first.sound hG k) (envCons (words_Run.sound hG k) (envCons (alembicworld_Number.sound hG k) envNil)))) orders Tryd.func7 (by kernel_rfl) (by kernel_rfl) rfl (by kernel_rfl) (arg3_of fun x0 x1 x2 h => alembiclaw17_WordsFaults.eq G k _ x0 x1 x2 h)
theorem bound_Check.here : ∃ fn, Tryd.prog.funcs[30]? = some fn ∧ fn.body.isSome = true ∧ (fn.name == "runtime.NumGoroutine") = false := ⟨_, Tryd.func30, by kernel_rfl, by kernel_rfl⟩
theorem bound_Check.eq (G : Globs) (k : Nat) (self : Den) (x0 x1 x2 x3 : AV) (h : AHeap) : absFn Tryd.prog G (envL (bound_Check.env G k self)) bound_Check.ann Tryd.f30.results.toList (codeOf Tryd.f30) Tryd.f30.ntmps k [x0, x1, x2, x3] h = bound_Check.c G k self x0 x1 x2 x3 h := by kernel_rfl
theorem bound_Check.sound {G : Globs} (hG : ∀ g x, G g = some x → plainB x = true) : ∀ k, Sound Tryd.prog G 30 (bound_Check.f G k)
  | 0 => sound_zero bound_Check.here (fun _ _ => rfl)
  | k + 1 => sound_succ (l := bound_Check.env G k (bound_Check.f G k)) (ann := bound_Check.ann) (n := k) (envSound_of hG (envCons (words_Valid.sound hG k) (envCons (words_Given.sound hG k) (envCons (words_Watch.sound hG k) (envCons (bound_Check_1.sound hG k) envNil))))) orders Tryd.func30 (by kernel_rfl) (by kernel_rfl) rfl (by kernel_rfl) (arg4_of fun x0 x1 x2 x3 h => bound_Check.eq G k _ x0 x1 x2 x3 h)
theorem alembiclaw18_first.here : ∃ fn, Tryd.prog.funcs[26]? = some fn ∧ fn.body.isSome = true ∧ (fn.name == "runtime.NumGoroutine") = false := ⟨_, Tryd.func26, by kernel_rfl, by kernel_rfl⟩
theorem alembiclaw18_first.eq (G : Globs) (k : Nat) (self : Den) (h : AHeap) : absFn Tryd.prog G (envL (alembiclaw18_first.env G k self)) alembiclaw18_first.ann Tryd.f26.results.toList (codeOf Tryd.f26) Tryd.f26.ntmps k [] h = alembiclaw18_first.c G k self h := by kernel_rfl
theorem alembiclaw18_first.sound {G : Globs} (hG : ∀ g x, G g = some x → plainB x = true) : ∀ k, Sound Tryd.prog G 26 (alembiclaw18_first.f G k)
  | 0 => sound_zero alembiclaw18_first.here (fun _ _ => rfl)
  | k + 1 => sound_succ (l := alembiclaw18_first.env G k (alembiclaw18_first.f G k)) (ann := alembiclaw18_first.ann) (n := k) (envSound_of hG (envCons (bound_Exact.sound hG k) (envCons (bound_Check.sound hG k) envNil))) orders Tryd.func26 (by kernel_rfl) (by kernel_rfl) rfl (by kernel_rfl) (arg0_of fun h => alembiclaw18_first.eq G k _ h)
theorem alembiclaw18_other.here : ∃ fn, Tryd.prog.funcs[27]? = some fn ∧ fn.body.isSome = true ∧ (fn.name == "runtime.NumGoroutine") = false := ⟨_, Tryd.func27, by kernel_rfl, by kernel_rfl⟩
theorem alembiclaw18_other.eq (G : Globs) (k : Nat) (self : Den) (x0 : AV) (h : AHeap) : absFn Tryd.prog G (envL (alembiclaw18_other.env G k self)) alembiclaw18_other.ann Tryd.f27.results.toList (codeOf Tryd.f27) Tryd.f27.ntmps k [x0] h = alembiclaw18_other.c G k self x0 h := by kernel_rfl
theorem alembiclaw18_other.sound {G : Globs} (hG : ∀ g x, G g = some x → plainB x = true) : ∀ k, Sound Tryd.prog G 27 (alembiclaw18_other.f G k)
  | 0 => sound_zero alembiclaw18_other.here (fun _ _ => rfl)
  | k + 1 => sound_succ (l := alembiclaw18_other.env G k (alembiclaw18_other.f G k)) (ann := alembiclaw18_other.ann) (n := k) (envSound_of hG envNil) orders Tryd.func27 (by kernel_rfl) (by kernel_rfl) rfl (by kernel_rfl) (arg1_of fun x0 h => alembiclaw18_other.eq G k _ x0 h)
theorem alembiclaw18_BoundChecks.here : ∃ fn, Tryd.prog.funcs[8]? = some fn ∧ fn.body.isSome = true ∧ (fn.name == "runtime.NumGoroutine") = false := ⟨_, Tryd.func8, by kernel_rfl, by kernel_rfl⟩
theorem alembiclaw18_BoundChecks.eq (G : Globs) (k : Nat) (self : Den) (x0 x1 x2 x3 x4 x5 x6 : AV) (h : AHeap) : absFn Tryd.prog G (envL (alembiclaw18_BoundChecks.env G k self)) alembiclaw18_BoundChecks.ann Tryd.f8.results.toList (codeOf Tryd.f8) Tryd.f8.ntmps k [x0, x1, x2, x3, x4, x5, x6] h = alembiclaw18_BoundChecks.c G k self x0 x1 x2 x3 x4 x5 x6 h := by kernel_rfl
theorem alembiclaw18_BoundChecks.sound {G : Globs} (hG : ∀ g x, G g = some x → plainB x = true) : ∀ k, Sound Tryd.prog G 8 (alembiclaw18_BoundChecks.f G k)
  | 0 => sound_zero alembiclaw18_BoundChecks.here (fun _ _ => rfl)
  | k + 1 => sound_succ (l := alembiclaw18_BoundChecks.env G k (alembiclaw18_BoundChecks.f G k)) (ann := alembiclaw18_BoundChecks.ann) (n := k) (envSound_of hG (envCons (alembicref17_Valid.sound hG k) (envCons (alembicsee_Same.sound hG k) (envCons (alembicref_Bare.sound hG k) (envCons (alembicref17_Run.sound hG k) (envCons (alembiclaw18_first.sound hG k) (envCons (alembiclaw18_other.sound hG k) (envCons (bound_Exact.sound hG k) (envCons (alembicref17_Exact.sound hG k) (envCons (bound_Check.sound hG k) envNil)))))))))) orders Tryd.func8 (by kernel_rfl) (by kernel_rfl) rfl (by kernel_rfl) (arg7_of fun x0 x1 x2 x3 x4 x5 x6 h => alembiclaw18_BoundChecks.eq G k _ x0 x1 x2 x3 x4 x5 x6 h)
theorem alembiclaw18_BoundExact.here : ∃ fn, Tryd.prog.funcs[9]? = some fn ∧ fn.body.isSome = true ∧ (fn.name == "runtime.NumGoroutine") = false := ⟨_, Tryd.func9, by kernel_rfl, by kernel_rfl⟩
theorem alembiclaw18_BoundExact.eq (G : Globs) (k : Nat) (self : Den) (x0 x1 x2 : AV) (h : AHeap) : absFn Tryd.prog G (envL (alembiclaw18_BoundExact.env G k self)) alembiclaw18_BoundExact.ann Tryd.f9.results.toList (codeOf Tryd.f9) Tryd.f9.ntmps k [x0, x1, x2] h = alembiclaw18_BoundExact.c G k self x0 x1 x2 h := by kernel_rfl
theorem alembiclaw18_BoundExact.sound {G : Globs} (hG : ∀ g x, G g = some x → plainB x = true) : ∀ k, Sound Tryd.prog G 9 (alembiclaw18_BoundExact.f G k)
  | 0 => sound_zero alembiclaw18_BoundExact.here (fun _ _ => rfl)
  | k + 1 => sound_succ (l := alembiclaw18_BoundExact.env G k (alembiclaw18_BoundExact.f G k)) (ann := alembiclaw18_BoundExact.ann) (n := k) (envSound_of hG (envCons (words_Value.sound hG k) (envCons (alembicworld_Number.sound hG k) (envCons (alembiclaw18_first.sound hG k) (envCons (bound_Exact.sound hG k) envNil))))) orders Tryd.func9 (by kernel_rfl) (by kernel_rfl) rfl (by kernel_rfl) (arg3_of fun x0 x1 x2 h => alembiclaw18_BoundExact.eq G k _ x0 x1 x2 h)
theorem alembiclaw17_WordsLeak.here : ∃ fn, Tryd.prog.funcs[5]? = some fn ∧ fn.body.isSome = true ∧ (fn.name == "runtime.NumGoroutine") = false := ⟨_, Tryd.func5, by kernel_rfl, by kernel_rfl⟩
theorem alembiclaw17_WordsLeak.eq (G : Globs) (k : Nat) (self : Den) (x0 x1 x2 : AV) (h : AHeap) : absFn Tryd.prog G (envL (alembiclaw17_WordsLeak.env G k self)) alembiclaw17_WordsLeak.ann Tryd.f5.results.toList (codeOf Tryd.f5) Tryd.f5.ntmps k [x0, x1, x2] h = alembiclaw17_WordsLeak.c G k self x0 x1 x2 h := by kernel_rfl
theorem alembiclaw17_WordsLeak.sound {G : Globs} (hG : ∀ g x, G g = some x → plainB x = true) : ∀ k, Sound Tryd.prog G 5 (alembiclaw17_WordsLeak.f G k)
  | 0 => sound_zero alembiclaw17_WordsLeak.here (fun _ _ => rfl)
  | k + 1 => sound_succ (l := alembiclaw17_WordsLeak.env G k (alembiclaw17_WordsLeak.f G k)) (ann := alembiclaw17_WordsLeak.ann) (n := k) (envSound_of hG (envCons (alembiclaw17_first.sound hG k) (envCons (words_Run.sound hG k) (envCons (alembicref_SameLeaks.sound hG k) (envCons (alembicworld_Number.sound hG k) envNil))))) orders Tryd.func5 (by kernel_rfl) (by kernel_rfl) rfl (by kernel_rfl) (arg3_of fun x0 x1 x2 h => alembiclaw17_WordsLeak.eq G k _ x0 x1 x2 h)
end Go.Proofs.YtcmblhedhgiofaaDoor.Mir
