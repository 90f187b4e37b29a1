/- Printed by Print.lean: their contracts. -/
import Derived.Test.YtemkaggjbhpbbaaSpFun
import Derived.Test.YtemkaggjbhpbbaaProg
import Derived.KernelRfl
namespace Go.Proofs.Ytemkaggjbhpbbaa.Mir
open Go
set_option linter.unusedVariables false
theorem orders : Try.prog.follows .mixedOrders = true := by kernel_rfl
theorem span_Is.here : ∃ fn, Try.prog.funcs[13]? = some fn ∧ fn.body.isSome = true ∧ (fn.name == "runtime.NumGoroutine") = false := ⟨_, Try.func13, by kernel_rfl, by kernel_rfl⟩
theorem span_Is.eq (G : Globs) (k : Nat) (self : Den) (x0 : AV) (h : AHeap) : absFn Try.prog G (envL (span_Is.env G k self)) span_Is.ann Try.f13.results.toList (codeOf Try.f13) Try.f13.ntmps k [x0] h = span_Is.c G k self x0 h := by kernel_rfl
theorem span_Is.sound {G : Globs} (hG : ∀ g x, G g = some x → plainB x = true) : ∀ k, Sound Try.prog G 13 (span_Is.f G k)
  | 0 => sound_zero span_Is.here (fun _ _ => rfl)
  | k + 1 => sound_succ (l := span_Is.env G k (span_Is.f G k)) (ann := span_Is.ann) (n := k) (envSound_of hG envNil) orders Try.func13 (by kernel_rfl) (by kernel_rfl) rfl (by kernel_rfl) (arg1_of fun x0 h => span_Is.eq G k _ x0 h)
theorem span_of.here : ∃ fn, Try.prog.funcs[30]? = some fn ∧ fn.body.isSome = true ∧ (fn.name == "runtime.NumGoroutine") = false := ⟨_, Try.func30, by kernel_rfl, by kernel_rfl⟩
theorem span_of.eq (G : Globs) (k : Nat) (self : Den) (x0 x1 x2 : AV) (h : AHeap) : absFn Try.prog G (envL (span_of.env G k self)) span_of.ann Try.f30.results.toList (codeOf Try.f30) Try.f30.ntmps k [x0, x1, x2] h = span_of.c G k self x0 x1 x2 h := by kernel_rfl
theorem span_of.sound {G : Globs} (hG : ∀ g x, G g = some x → plainB x = true) : ∀ k, Sound Try.prog G 30 (span_of.f G k)
  | 0 => sound_zero span_of.here (fun _ _ => rfl)
  | k + 1 => sound_succ (l := span_of.env G k (span_of.f G k)) (ann := span_of.ann) (n := k) (envSound_of hG envNil) orders Try.func30 (by kernel_rfl) (by kernel_rfl) rfl (by kernel_rfl) (arg3_of fun x0 x1 x2 h => span_of.eq G k _ x0 x1 x2 h)
theorem span_Product.here : ∃ fn, Try.prog.funcs[32]? = some fn ∧ fn.body.isSome = true ∧ (fn.name == "runtime.NumGoroutine") = false := ⟨_, Try.func32, by kernel_rfl, by kernel_rfl⟩
theorem span_Product.eq (G : Globs) (k : Nat) (self : Den) (x0 x1 : AV) (h : AHeap) : absFn Try.prog G (envL (span_Product.env G k self)) span_Product.ann Try.f32.results.toList (codeOf Try.f32) Try.f32.ntmps k [x0, x1] h = span_Product.c G k self x0 x1 h := by kernel_rfl
theorem span_Product.sound {G : Globs} (hG : ∀ g x, G g = some x → plainB x = true) : ∀ k, Sound Try.prog G 32 (span_Product.f G k)
  | 0 => sound_zero span_Product.here (fun _ _ => rfl)
  | k + 1 => sound_succ (l := span_Product.env G k (span_Product.f G k)) (ann := span_Product.ann) (n := k) (envSound_of hG envNil) orders Try.func32 (by kernel_rfl) (by kernel_rfl) rfl (by kernel_rfl) (arg2_of fun x0 x1 h => span_Product.eq G k _ x0 x1 h)
theorem span_Mul.here : ∃ fn, Try.prog.funcs[11]? = some fn ∧ fn.body.isSome = true ∧ (fn.name == "runtime.NumGoroutine") = false := ⟨_, Try.func11, by kernel_rfl, by kernel_rfl⟩
theorem span_Mul.eq (G : Globs) (k : Nat) (self : Den) (x0 x1 : AV) (h : AHeap) : absFn Try.prog G (envL (span_Mul.env G k self)) span_Mul.ann Try.f11.results.toList (codeOf Try.f11) Try.f11.ntmps k [x0, x1] h = span_Mul.c G k self x0 x1 h := by kernel_rfl
theorem span_Mul.sound {G : Globs} (hG : ∀ g x, G g = some x → plainB x = true) : ∀ k, Sound Try.prog G 11 (span_Mul.f G k)
  | 0 => sound_zero span_Mul.here (fun _ _ => rfl)
  | k + 1 => sound_succ (l := span_Mul.env G k (span_Mul.f G k)) (ann := span_Mul.ann) (n := k) (envSound_of hG (envCons (span_Is.sound hG k) (envCons (span_of.sound hG k) (envCons (span_Product.sound hG k) envNil)))) orders Try.func11 (by kernel_rfl) (by kernel_rfl) rfl (by kernel_rfl) (arg2_of fun x0 x1 h => span_Mul.eq G k _ x0 x1 h)
theorem alembiclaw16_first.here : ∃ fn, Try.prog.funcs[7]? = some fn ∧ fn.body.isSome = true ∧ (fn.name == "runtime.NumGoroutine") = false := ⟨_, Try.func7, by kernel_rfl, by kernel_rfl⟩
theorem alembiclaw16_first.eq (G : Globs) (k : Nat) (self : Den) (h : AHeap) : absFn Try.prog G (envL (alembiclaw16_first.env G k self)) alembiclaw16_first.ann Try.f7.results.toList (codeOf Try.f7) Try.f7.ntmps k [] h = alembiclaw16_first.c G k self h := by kernel_rfl
theorem alembiclaw16_first.sound {G : Globs} (hG : ∀ g x, G g = some x → plainB x = true) : ∀ k, Sound Try.prog G 7 (alembiclaw16_first.f G k)
  | 0 => sound_zero alembiclaw16_first.here (fun _ _ => rfl)
  | k + 1 => sound_succ (l := alembiclaw16_first.env G k (alembiclaw16_first.f G k)) (ann := alembiclaw16_first.ann) (n := k) (envSound_of hG (envCons (span_Mul.sound hG k) envNil)) orders Try.func7 (by kernel_rfl) (by kernel_rfl) rfl (by kernel_rfl) (arg0_of fun h => alembiclaw16_first.eq G k _ h)
theorem alembiclaw16_SpanEdges_1.here : ∃ fn, Try.prog.funcs[8]? = some fn ∧ fn.body.isSome = true ∧ (fn.name == "runtime.NumGoroutine") = false := ⟨_, Try.func8, by kernel_rfl, by kernel_rfl⟩
theorem alembiclaw16_SpanEdges_1.eq (G : Globs) (k : Nat) (self : Den) (x0 : AV) (h : AHeap) : absFn Try.prog G (envL (alembiclaw16_SpanEdges_1.env G k self)) alembiclaw16_SpanEdges_1.ann Try.f8.results.toList (codeOf Try.f8) Try.f8.ntmps k [x0] h = alembiclaw16_SpanEdges_1.c G k self x0 h := by kernel_rfl
theorem alembiclaw16_SpanEdges_1.sound {G : Globs} (hG : ∀ g x, G g = some x → plainB x = true) : ∀ k, Sound Try.prog G 8 (alembiclaw16_SpanEdges_1.f G k)
  | 0 => sound_zero alembiclaw16_SpanEdges_1.here (fun _ _ => rfl)
  | k + 1 => sound_succ (l := alembiclaw16_SpanEdges_1.env G k (alembiclaw16_SpanEdges_1.f G k)) (ann := alembiclaw16_SpanEdges_1.ann) (n := k) (envSound_of hG envNil) orders Try.func8 (by kernel_rfl) (by kernel_rfl) rfl (by kernel_rfl) (arg1_of fun x0 h => alembiclaw16_SpanEdges_1.eq G k _ x0 h)
theorem span_Sum.here : ∃ fn, Try.prog.funcs[29]? = some fn ∧ fn.body.isSome = true ∧ (fn.name == "runtime.NumGoroutine") = false := ⟨_, Try.func29, by kernel_rfl, by kernel_rfl⟩
theorem span_Sum.eq (G : Globs) (k : Nat) (self : Den) (x0 x1 : AV) (h : AHeap) : absFn Try.prog G (envL (span_Sum.env G k self)) span_Sum.ann Try.f29.results.toList (codeOf Try.f29) Try.f29.ntmps k [x0, x1] h = span_Sum.c G k self x0 x1 h := by kernel_rfl
theorem span_Sum.sound {G : Globs} (hG : ∀ g x, G g = some x → plainB x = true) : ∀ k, Sound Try.prog G 29 (span_Sum.f G k)
  | 0 => sound_zero span_Sum.here (fun _ _ => rfl)
  | k + 1 => sound_succ (l := span_Sum.env G k (span_Sum.f G k)) (ann := span_Sum.ann) (n := k) (envSound_of hG envNil) orders Try.func29 (by kernel_rfl) (by kernel_rfl) rfl (by kernel_rfl) (arg2_of fun x0 x1 h => span_Sum.eq G k _ x0 x1 h)
theorem span_Add.here : ∃ fn, Try.prog.funcs[9]? = some fn ∧ fn.body.isSome = true ∧ (fn.name == "runtime.NumGoroutine") = false := ⟨_, Try.func9, by kernel_rfl, by kernel_rfl⟩
theorem span_Add.eq (G : Globs) (k : Nat) (self : Den) (x0 x1 : AV) (h : AHeap) : absFn Try.prog G (envL (span_Add.env G k self)) span_Add.ann Try.f9.results.toList (codeOf Try.f9) Try.f9.ntmps k [x0, x1] h = span_Add.c G k self x0 x1 h := by kernel_rfl
theorem span_Add.sound {G : Globs} (hG : ∀ g x, G g = some x → plainB x = true) : ∀ k, Sound Try.prog G 9 (span_Add.f G k)
  | 0 => sound_zero span_Add.here (fun _ _ => rfl)
  | k + 1 => sound_succ (l := span_Add.env G k (span_Add.f G k)) (ann := span_Add.ann) (n := k) (envSound_of hG (envCons (span_Is.sound hG k) (envCons (span_Sum.sound hG k) (envCons (span_of.sound hG k) envNil)))) orders Try.func9 (by kernel_rfl) (by kernel_rfl) rfl (by kernel_rfl) (arg2_of fun x0 x1 h => span_Add.eq G k _ x0 x1 h)
theorem span_Less.here : ∃ fn, Try.prog.funcs[31]? = some fn ∧ fn.body.isSome = true ∧ (fn.name == "runtime.NumGoroutine") = false := ⟨_, Try.func31, by kernel_rfl, by kernel_rfl⟩
theorem span_Less.eq (G : Globs) (k : Nat) (self : Den) (x0 x1 : AV) (h : AHeap) : absFn Try.prog G (envL (span_Less.env G k self)) span_Less.ann Try.f31.results.toList (codeOf Try.f31) Try.f31.ntmps k [x0, x1] h = span_Less.c G k self x0 x1 h := by kernel_rfl
theorem span_Less.sound {G : Globs} (hG : ∀ g x, G g = some x → plainB x = true) : ∀ k, Sound Try.prog G 31 (span_Less.f G k)
  | 0 => sound_zero span_Less.here (fun _ _ => rfl)
  | k + 1 => sound_succ (l := span_Less.env G k (span_Less.f G k)) (ann := span_Less.ann) (n := k) (envSound_of hG envNil) orders Try.func31 (by kernel_rfl) (by kernel_rfl) rfl (by kernel_rfl) (arg2_of fun x0 x1 h => span_Less.eq G k _ x0 x1 h)
theorem span_Sub.here : ∃ fn, Try.prog.funcs[10]? = some fn ∧ fn.body.isSome = true ∧ (fn.name == "runtime.NumGoroutine") = false := ⟨_, Try.func10, by kernel_rfl, by kernel_rfl⟩
theorem span_Sub.eq (G : Globs) (k : Nat) (self : Den) (x0 x1 : AV) (h : AHeap) : absFn Try.prog G (envL (span_Sub.env G k self)) span_Sub.ann Try.f10.results.toList (codeOf Try.f10) Try.f10.ntmps k [x0, x1] h = span_Sub.c G k self x0 x1 h := by kernel_rfl
theorem span_Sub.sound {G : Globs} (hG : ∀ g x, G g = some x → plainB x = true) : ∀ k, Sound Try.prog G 10 (span_Sub.f G k)
  | 0 => sound_zero span_Sub.here (fun _ _ => rfl)
  | k + 1 => sound_succ (l := span_Sub.env G k (span_Sub.f G k)) (ann := span_Sub.ann) (n := k) (envSound_of hG (envCons (span_Is.sound hG k) (envCons (span_of.sound hG k) (envCons (span_Less.sound hG k) envNil)))) orders Try.func10 (by kernel_rfl) (by kernel_rfl) rfl (by kernel_rfl) (arg2_of fun x0 x1 h => span_Sub.eq G k _ x0 x1 h)
theorem span_Shl.here : ∃ fn, Try.prog.funcs[12]? = some fn ∧ fn.body.isSome = true ∧ (fn.name == "runtime.NumGoroutine") = false := ⟨_, Try.func12, by kernel_rfl, by kernel_rfl⟩
theorem span_Shl.eq (G : Globs) (k : Nat) (self : Den) (x0 x1 : AV) (h : AHeap) : absFn Try.prog G (envL (span_Shl.env G k self)) span_Shl.ann Try.f12.results.toList (codeOf Try.f12) Try.f12.ntmps k [x0, x1] h = span_Shl.c G k self x0 x1 h := by kernel_rfl
theorem span_Shl.sound {G : Globs} (hG : ∀ g x, G g = some x → plainB x = true) : ∀ k, Sound Try.prog G 12 (span_Shl.f G k)
  | 0 => sound_zero span_Shl.here (fun _ _ => rfl)
  | k + 1 => sound_succ (l := span_Shl.env G k (span_Shl.f G k)) (ann := span_Shl.ann) (n := k) (envSound_of hG (envCons (span_Mul.sound hG k) envNil)) orders Try.func12 (by kernel_rfl) (by kernel_rfl) rfl (by kernel_rfl) (arg2_of fun x0 x1 h => span_Shl.eq G k _ x0 x1 h)
theorem alembiclaw16_SpanEdges.here : ∃ fn, Try.prog.funcs[3]? = some fn ∧ fn.body.isSome = true ∧ (fn.name == "runtime.NumGoroutine") = false := ⟨_, Try.func3, by kernel_rfl, by kernel_rfl⟩
theorem alembiclaw16_SpanEdges.eq (G : Globs) (k : Nat) (self : Den) (x0 : AV) (h : AHeap) : absFn Try.prog G (envL (alembiclaw16_SpanEdges.env G k self)) alembiclaw16_SpanEdges.ann Try.f3.results.toList (codeOf Try.f3) Try.f3.ntmps k [x0] h = alembiclaw16_SpanEdges.c G k self x0 h := by kernel_rfl
theorem alembiclaw16_SpanEdges.sound {G : Globs} (hG : ∀ g x, G g = some x → plainB x = true) : ∀ k, Sound Try.prog G 3 (alembiclaw16_SpanEdges.f G k)
  | 0 => sound_zero alembiclaw16_SpanEdges.here (fun _ _ => rfl)
  | k + 1 => sound_succ (l := alembiclaw16_SpanEdges.env G k (alembiclaw16_SpanEdges.f G k)) (ann := alembiclaw16_SpanEdges.ann) (n := k) (envSound_of hG (envCons (alembiclaw16_first.sound hG k) (envCons (alembiclaw16_SpanEdges_1.sound hG k) (envCons (span_Add.sound hG k) (envCons (span_Sub.sound hG k) (envCons (span_Mul.sound hG k) (envCons (span_Shl.sound hG k) envNil))))))) orders Try.func3 (by kernel_rfl) (by kernel_rfl) rfl (by kernel_rfl) (arg1_of fun x0 h => alembiclaw16_SpanEdges.eq G k _ x0 h)
theorem alembiclaw16_same.here : ∃ fn, Try.prog.funcs[14]? = some fn ∧ fn.body.isSome = true ∧ (fn.name == "runtime.NumGoroutine") = false := ⟨_, Try.func14, by kernel_rfl, by kernel_rfl⟩
theorem alembiclaw16_same.eq (G : Globs) (k : Nat) (self : Den) (x0 x1 : AV) (h : AHeap) : absFn Try.prog G (envL (alembiclaw16_same.env G k self)) alembiclaw16_same.ann Try.f14.results.toList (codeOf Try.f14) Try.f14.ntmps k [x0, x1] h = alembiclaw16_same.c G k self x0 x1 h := by kernel_rfl
theorem alembiclaw16_same.sound {G : Globs} (hG : ∀ g x, G g = some x → plainB x = true) : ∀ k, Sound Try.prog G 14 (alembiclaw16_same.f G k)
  | 0 => sound_zero alembiclaw16_same.here (fun _ _ => rfl)
  | k + 1 => sound_succ (l := alembiclaw16_same.env G k (alembiclaw16_same.f G k)) (ann := alembiclaw16_same.ann) (n := k) (envSound_of hG envNil) orders Try.func14 (by kernel_rfl) (by kernel_rfl) rfl (by kernel_rfl) (arg2_of fun x0 x1 h => alembiclaw16_same.eq G k _ x0 x1 h)
theorem span_Join.here : ∃ fn, Try.prog.funcs[15]? = some fn ∧ fn.body.isSome = true ∧ (fn.name == "runtime.NumGoroutine") = false := ⟨_, Try.func15, by kernel_rfl, by kernel_rfl⟩
theorem span_Join.eq (G : Globs) (k : Nat) (self : Den) (x0 x1 : AV) (h : AHeap) : absFn Try.prog G (envL (span_Join.env G k self)) span_Join.ann Try.f15.results.toList (codeOf Try.f15) Try.f15.ntmps k [x0, x1] h = span_Join.c G k self x0 x1 h := by kernel_rfl
theorem span_Join.sound {G : Globs} (hG : ∀ g x, G g = some x → plainB x = true) : ∀ k, Sound Try.prog G 15 (span_Join.f G k)
  | 0 => sound_zero span_Join.here (fun _ _ => rfl)
  | k + 1 => sound_succ (l := span_Join.env G k (span_Join.f G k)) (ann := span_Join.ann) (n := k) (envSound_of hG (envCons (span_Is.sound hG k) envNil)) orders Try.func15 (by kernel_rfl) (by kernel_rfl) rfl (by kernel_rfl) (arg2_of fun x0 x1 h => span_Join.eq G k _ x0 x1 h)
theorem span_Within.here : ∃ fn, Try.prog.funcs[16]? = some fn ∧ fn.body.isSome = true ∧ (fn.name == "runtime.NumGoroutine") = false := ⟨_, Try.func16, by kernel_rfl, by kernel_rfl⟩
theorem span_Within.eq (G : Globs) (k : Nat) (self : Den) (x0 x1 : AV) (h : AHeap) : absFn Try.prog G (envL (span_Within.env G k self)) span_Within.ann Try.f16.results.toList (codeOf Try.f16) Try.f16.ntmps k [x0, x1] h = span_Within.c G k self x0 x1 h := by kernel_rfl
theorem span_Within.sound {G : Globs} (hG : ∀ g x, G g = some x → plainB x = true) : ∀ k, Sound Try.prog G 16 (span_Within.f G k)
  | 0 => sound_zero span_Within.here (fun _ _ => rfl)
  | k + 1 => sound_succ (l := span_Within.env G k (span_Within.f G k)) (ann := span_Within.ann) (n := k) (envSound_of hG (envCons (span_Is.sound hG k) envNil)) orders Try.func16 (by kernel_rfl) (by kernel_rfl) rfl (by kernel_rfl) (arg2_of fun x0 x1 h => span_Within.eq G k _ x0 x1 h)
theorem alembiclaw16_SpanOrders.here : ∃ fn, Try.prog.funcs[4]? = some fn ∧ fn.body.isSome = true ∧ (fn.name == "runtime.NumGoroutine") = false := ⟨_, Try.func4, by kernel_rfl, by kernel_rfl⟩
theorem alembiclaw16_SpanOrders.eq (G : Globs) (k : Nat) (self : Den) (x0 x1 x2 : AV) (h : AHeap) : absFn Try.prog G (envL (alembiclaw16_SpanOrders.env G k self)) alembiclaw16_SpanOrders.ann Try.f4.results.toList (codeOf Try.f4) Try.f4.ntmps k [x0, x1, x2] h = alembiclaw16_SpanOrders.c G k self x0 x1 x2 h := by kernel_rfl
theorem alembiclaw16_SpanOrders.sound {G : Globs} (hG : ∀ g x, G g = some x → plainB x = true) : ∀ k, Sound Try.prog G 4 (alembiclaw16_SpanOrders.f G k)
  | 0 => sound_zero alembiclaw16_SpanOrders.here (fun _ _ => rfl)
  | k + 1 => sound_succ (l := alembiclaw16_SpanOrders.env G k (alembiclaw16_SpanOrders.f G k)) (ann := alembiclaw16_SpanOrders.ann) (n := k) (envSound_of hG (envCons (alembiclaw16_first.sound hG k) (envCons (span_Add.sound hG k) (envCons (span_Sub.sound hG k) (envCons (span_Mul.sound hG k) (envCons (span_Is.sound hG k) (envCons (alembiclaw16_same.sound hG k) (envCons (span_Join.sound hG k) (envCons (span_Within.sound hG k) envNil))))))))) orders Try.func4 (by kernel_rfl) (by kernel_rfl) rfl (by kernel_rfl) (arg3_of fun x0 x1 x2 h => alembiclaw16_SpanOrders.eq G k _ x0 x1 x2 h)
theorem alembicworld_Number.here : ∃ fn, Try.prog.funcs[17]? = some fn ∧ fn.body.isSome = true ∧ (fn.name == "runtime.NumGoroutine") = false := ⟨_, Try.func17, by kernel_rfl, by kernel_rfl⟩
theorem alembicworld_Number.eq (G : Globs) (k : Nat) (self : Den) (x0 x1 : AV) (h : AHeap) : absFn Try.prog G (envL (alembicworld_Number.env G k self)) alembicworld_Number.ann Try.f17.results.toList (codeOf Try.f17) Try.f17.ntmps k [x0, x1] h = alembicworld_Number.c G k self x0 x1 h := by kernel_rfl
theorem alembicworld_Number.sound {G : Globs} (hG : ∀ g x, G g = some x → plainB x = true) : ∀ k, Sound Try.prog G 17 (alembicworld_Number.f G k)
  | 0 => sound_zero alembicworld_Number.here (fun _ _ => rfl)
  | k + 1 => sound_succ (l := alembicworld_Number.env G k (alembicworld_Number.f G k)) (ann := alembicworld_Number.ann) (n := k) (envSound_of hG envNil) orders Try.func17 (by kernel_rfl) (by kernel_rfl) rfl (by kernel_rfl) (arg2_of fun x0 x1 h => alembicworld_Number.eq G k _ x0 x1 h)
theorem span_Has.here : ∃ fn, Try.prog.funcs[18]? = some fn ∧ fn.body.isSome = true ∧ (fn.name == "runtime.NumGoroutine") = false := ⟨_, Try.func18, by kernel_rfl, by kernel_rfl⟩
theorem span_Has.eq (G : Globs) (k : Nat) (self : Den) (x0 x1 : AV) (h : AHeap) : absFn Try.prog G (envL (span_Has.env G k self)) span_Has.ann Try.f18.results.toList (codeOf Try.f18) Try.f18.ntmps k [x0, x1] h = span_Has.c G k self x0 x1 h := by kernel_rfl
theorem span_Has.sound {G : Globs} (hG : ∀ g x, G g = some x → plainB x = true) : ∀ k, Sound Try.prog G 18 (span_Has.f G k)
  | 0 => sound_zero span_Has.here (fun _ _ => rfl)
  | k + 1 => sound_succ (l := span_Has.env G k (span_Has.f G k)) (ann := span_Has.ann) (n := k) (envSound_of hG envNil) orders Try.func18 (by kernel_rfl) (by kernel_rfl) rfl (by kernel_rfl) (arg2_of fun x0 x1 h => span_Has.eq G k _ x0 x1 h)
theorem span_Sar.here : ∃ fn, Try.prog.funcs[19]? = some fn ∧ fn.body.isSome = true ∧ (fn.name == "runtime.NumGoroutine") = false := ⟨_, Try.func19, by kernel_rfl, by kernel_rfl⟩
theorem span_Sar.eq (G : Globs) (k : Nat) (self : Den) (x0 x1 : AV) (h : AHeap) : absFn Try.prog G (envL (span_Sar.env G k self)) span_Sar.ann Try.f19.results.toList (codeOf Try.f19) Try.f19.ntmps k [x0, x1] h = span_Sar.c G k self x0 x1 h := by kernel_rfl
theorem span_Sar.sound {G : Globs} (hG : ∀ g x, G g = some x → plainB x = true) : ∀ k, Sound Try.prog G 19 (span_Sar.f G k)
  | 0 => sound_zero span_Sar.here (fun _ _ => rfl)
  | k + 1 => sound_succ (l := span_Sar.env G k (span_Sar.f G k)) (ann := span_Sar.ann) (n := k) (envSound_of hG (envCons (span_Is.sound hG k) envNil)) orders Try.func19 (by kernel_rfl) (by kernel_rfl) rfl (by kernel_rfl) (arg2_of fun x0 x1 h => span_Sar.eq G k _ x0 x1 h)
theorem span_All.here : ∃ fn, Try.prog.funcs[33]? = some fn ∧ fn.body.isSome = true ∧ (fn.name == "runtime.NumGoroutine") = false := ⟨_, Try.func33, by kernel_rfl, by kernel_rfl⟩
theorem span_All.eq (G : Globs) (k : Nat) (self : Den) (h : AHeap) : absFn Try.prog G (envL (span_All.env G k self)) span_All.ann Try.f33.results.toList (codeOf Try.f33) Try.f33.ntmps k [] h = span_All.c G k self h := by kernel_rfl
theorem span_All.sound {G : Globs} (hG : ∀ g x, G g = some x → plainB x = true) : ∀ k, Sound Try.prog G 33 (span_All.f G k)
  | 0 => sound_zero span_All.here (fun _ _ => rfl)
  | k + 1 => sound_succ (l := span_All.env G k (span_All.f G k)) (ann := span_All.ann) (n := k) (envSound_of hG envNil) orders Try.func33 (by kernel_rfl) (by kernel_rfl) rfl (by kernel_rfl) (arg0_of fun h => span_All.eq G k _ h)
theorem span_And.here : ∃ fn, Try.prog.funcs[20]? = some fn ∧ fn.body.isSome = true ∧ (fn.name == "runtime.NumGoroutine") = false := ⟨_, Try.func20, by kernel_rfl, by kernel_rfl⟩
theorem span_And.eq (G : Globs) (k : Nat) (self : Den) (x0 x1 : AV) (h : AHeap) : absFn Try.prog G (envL (span_And.env G k self)) span_And.ann Try.f20.results.toList (codeOf Try.f20) Try.f20.ntmps k [x0, x1] h = span_And.c G k self x0 x1 h := by kernel_rfl
theorem span_And.sound {G : Globs} (hG : ∀ g x, G g = some x → plainB x = true) : ∀ k, Sound Try.prog G 20 (span_And.f G k)
  | 0 => sound_zero span_And.here (fun _ _ => rfl)
  | k + 1 => sound_succ (l := span_And.env G k (span_And.f G k)) (ann := span_And.ann) (n := k) (envSound_of hG (envCons (span_Is.sound hG k) (envCons (span_All.sound hG k) envNil))) orders Try.func20 (by kernel_rfl) (by kernel_rfl) rfl (by kernel_rfl) (arg2_of fun x0 x1 h => span_And.eq G k _ x0 x1 h)
theorem alembiclaw16_SpanHolds.here : ∃ fn, Try.prog.funcs[5]? = some fn ∧ fn.body.isSome = true ∧ (fn.name == "runtime.NumGoroutine") = false := ⟨_, Try.func5, by kernel_rfl, by kernel_rfl⟩
theorem alembiclaw16_SpanHolds.eq (G : Globs) (k : Nat) (self : Den) (x0 x1 x2 x3 x4 x5 x6 : AV) (h : AHeap) : absFn Try.prog G (envL (alembiclaw16_SpanHolds.env G k self)) alembiclaw16_SpanHolds.ann Try.f5.results.toList (codeOf Try.f5) Try.f5.ntmps k [x0, x1, x2, x3, x4, x5, x6] h = alembiclaw16_SpanHolds.c G k self x0 x1 x2 x3 x4 x5 x6 h := by kernel_rfl
theorem alembiclaw16_SpanHolds.sound {G : Globs} (hG : ∀ g x, G g = some x → plainB x = true) : ∀ k, Sound Try.prog G 5 (alembiclaw16_SpanHolds.f G k)
  | 0 => sound_zero alembiclaw16_SpanHolds.here (fun _ _ => rfl)
  | k + 1 => sound_succ (l := alembiclaw16_SpanHolds.env G k (alembiclaw16_SpanHolds.f G k)) (ann := alembiclaw16_SpanHolds.ann) (n := k) (envSound_of hG (envCons (alembiclaw16_first.sound hG k) (envCons (span_Add.sound hG k) (envCons (span_Sub.sound hG k) (envCons (span_Mul.sound hG k) (envCons (span_Shl.sound hG k) (envCons (span_Join.sound hG k) (envCons (span_Within.sound hG k) (envCons (alembicworld_Number.sound hG k) (envCons (span_Has.sound hG k) (envCons (span_Sar.sound hG k) (envCons (span_And.sound hG k) envNil)))))))))))) orders Try.func5 (by kernel_rfl) (by kernel_rfl) rfl (by kernel_rfl) (arg7_of fun x0 x1 x2 x3 x4 x5 x6 h => alembiclaw16_SpanHolds.eq G k _ x0 x1 x2 x3 x4 x5 x6 h)
theorem alembicref17_Is.here : ∃ fn, Try.prog.funcs[21]? = some fn ∧ fn.body.isSome = true ∧ (fn.name == "runtime.NumGoroutine") = false := ⟨_, Try.func21, by kernel_rfl, by kernel_rfl⟩
theorem alembicref17_Is.eq (G : Globs) (k : Nat) (self : Den) (x0 : AV) (h : AHeap) : absFn Try.prog G (envL (alembicref17_Is.env G k self)) alembicref17_Is.ann Try.f21.results.toList (codeOf Try.f21) Try.f21.ntmps k [x0] h = alembicref17_Is.c G k self x0 h := by kernel_rfl
theorem alembicref17_Is.sound {G : Globs} (hG : ∀ g x, G g = some x → plainB x = true) : ∀ k, Sound Try.prog G 21 (alembicref17_Is.f G k)
  | 0 => sound_zero alembicref17_Is.here (fun _ _ => rfl)
  | k + 1 => sound_succ (l := alembicref17_Is.env G k (alembicref17_Is.f G k)) (ann := alembicref17_Is.ann) (n := k) (envSound_of hG envNil) orders Try.func21 (by kernel_rfl) (by kernel_rfl) rfl (by kernel_rfl) (arg1_of fun x0 h => alembicref17_Is.eq G k _ x0 h)
theorem alembicref17_Join.here : ∃ fn, Try.prog.funcs[28]? = some fn ∧ fn.body.isSome = true ∧ (fn.name == "runtime.NumGoroutine") = false := ⟨_, Try.func28, by kernel_rfl, by kernel_rfl⟩
theorem alembicref17_Join.eq (G : Globs) (k : Nat) (self : Den) (x0 x1 : AV) (h : AHeap) : absFn Try.prog G (envL (alembicref17_Join.env G k self)) alembicref17_Join.ann Try.f28.results.toList (codeOf Try.f28) Try.f28.ntmps k [x0, x1] h = alembicref17_Join.c G k self x0 x1 h := by kernel_rfl
theorem alembicref17_Join.sound {G : Globs} (hG : ∀ g x, G g = some x → plainB x = true) : ∀ k, Sound Try.prog G 28 (alembicref17_Join.f G k)
  | 0 => sound_zero alembicref17_Join.here (fun _ _ => rfl)
  | k + 1 => sound_succ (l := alembicref17_Join.env G k (alembicref17_Join.f G k)) (ann := alembicref17_Join.ann) (n := k) (envSound_of hG envNil) orders Try.func28 (by kernel_rfl) (by kernel_rfl) rfl (by kernel_rfl) (arg2_of fun x0 x1 h => alembicref17_Join.eq G k _ x0 x1 h)
theorem math_bits_Mul64.here : ∃ fn, Try.prog.funcs[37]? = some fn ∧ fn.body.isSome = true ∧ (fn.name == "runtime.NumGoroutine") = false := ⟨_, Try.func37, by kernel_rfl, by kernel_rfl⟩
theorem math_bits_Mul64.eq (G : Globs) (k : Nat) (self : Den) (x0 x1 : AV) (h : AHeap) : absFn Try.prog G (envL (math_bits_Mul64.env G k self)) math_bits_Mul64.ann Try.f37.results.toList (codeOf Try.f37) Try.f37.ntmps k [x0, x1] h = math_bits_Mul64.c G k self x0 x1 h := by kernel_rfl
theorem math_bits_Mul64.sound {G : Globs} (hG : ∀ g x, G g = some x → plainB x = true) : ∀ k, Sound Try.prog G 37 (math_bits_Mul64.f G k)
  | 0 => sound_zero math_bits_Mul64.here (fun _ _ => rfl)
  | k + 1 => sound_succ (l := math_bits_Mul64.env G k (math_bits_Mul64.f G k)) (ann := math_bits_Mul64.ann) (n := k) (envSound_of hG envNil) orders Try.func37 (by kernel_rfl) (by kernel_rfl) rfl (by kernel_rfl) (arg2_of fun x0 x1 h => math_bits_Mul64.eq G k _ x0 x1 h)
theorem alembicref17_cut.here : ∃ fn, Try.prog.funcs[38]? = some fn ∧ fn.body.isSome = true ∧ (fn.name == "runtime.NumGoroutine") = false := ⟨_, Try.func38, by kernel_rfl, by kernel_rfl⟩
theorem alembicref17_cut.eq (G : Globs) (k : Nat) (self : Den) (x0 x1 : AV) (h : AHeap) : absFn Try.prog G (envL (alembicref17_cut.env G k self)) alembicref17_cut.ann Try.f38.results.toList (codeOf Try.f38) Try.f38.ntmps k [x0, x1] h = alembicref17_cut.c G k self x0 x1 h := by kernel_rfl
theorem alembicref17_cut.sound {G : Globs} (hG : ∀ g x, G g = some x → plainB x = true) : ∀ k, Sound Try.prog G 38 (alembicref17_cut.f G k)
  | 0 => sound_zero alembicref17_cut.here (fun _ _ => rfl)
  | k + 1 => sound_succ (l := alembicref17_cut.env G k (alembicref17_cut.f G k)) (ann := alembicref17_cut.ann) (n := k) (envSound_of hG envNil) orders Try.func38 (by kernel_rfl) (by kernel_rfl) rfl (by kernel_rfl) (arg2_of fun x0 x1 h => alembicref17_cut.eq G k _ x0 x1 h)
theorem alembicref17_Product.here : ∃ fn, Try.prog.funcs[36]? = some fn ∧ fn.body.isSome = true ∧ (fn.name == "runtime.NumGoroutine") = false := ⟨_, Try.func36, by kernel_rfl, by kernel_rfl⟩
theorem alembicref17_Product.eq (G : Globs) (k : Nat) (self : Den) (x0 x1 : AV) (h : AHeap) : absFn Try.prog G (envL (alembicref17_Product.env G k self)) alembicref17_Product.ann Try.f36.results.toList (codeOf Try.f36) Try.f36.ntmps k [x0, x1] h = alembicref17_Product.c G k self x0 x1 h := by kernel_rfl
theorem alembicref17_Product.sound {G : Globs} (hG : ∀ g x, G g = some x → plainB x = true) : ∀ k, Sound Try.prog G 36 (alembicref17_Product.f G k)
  | 0 => sound_zero alembicref17_Product.here (fun _ _ => rfl)
  | k + 1 => sound_succ (l := alembicref17_Product.env G k (alembicref17_Product.f G k)) (ann := alembicref17_Product.ann) (n := k) (envSound_of hG (envCons (math_bits_Mul64.sound hG k) (envCons (alembicref17_cut.sound hG k) envNil))) orders Try.func36 (by kernel_rfl) (by kernel_rfl) rfl (by kernel_rfl) (arg2_of fun x0 x1 h => alembicref17_Product.eq G k _ x0 x1 h)
theorem alembicref17_Mul.here : ∃ fn, Try.prog.funcs[26]? = some fn ∧ fn.body.isSome = true ∧ (fn.name == "runtime.NumGoroutine") = false := ⟨_, Try.func26, by kernel_rfl, by kernel_rfl⟩
theorem alembicref17_Mul.eq (G : Globs) (k : Nat) (self : Den) (x0 x1 : AV) (h : AHeap) : absFn Try.prog G (envL (alembicref17_Mul.env G k self)) alembicref17_Mul.ann Try.f26.results.toList (codeOf Try.f26) Try.f26.ntmps k [x0, x1] h = alembicref17_Mul.c G k self x0 x1 h := by kernel_rfl
theorem alembicref17_Mul.sound {G : Globs} (hG : ∀ g x, G g = some x → plainB x = true) : ∀ k, Sound Try.prog G 26 (alembicref17_Mul.f G k)
  | 0 => sound_zero alembicref17_Mul.here (fun _ _ => rfl)
  | k + 1 => sound_succ (l := alembicref17_Mul.env G k (alembicref17_Mul.f G k)) (ann := alembicref17_Mul.ann) (n := k) (envSound_of hG (envCons (alembicref17_Join.sound hG k) (envCons (alembicref17_Product.sound hG k) envNil))) orders Try.func26 (by kernel_rfl) (by kernel_rfl) rfl (by kernel_rfl) (arg2_of fun x0 x1 h => alembicref17_Mul.eq G k _ x0 x1 h)
theorem alembicref17_Shl.here : ∃ fn, Try.prog.funcs[22]? = some fn ∧ fn.body.isSome = true ∧ (fn.name == "runtime.NumGoroutine") = false := ⟨_, Try.func22, by kernel_rfl, by kernel_rfl⟩
theorem alembicref17_Shl.eq (G : Globs) (k : Nat) (self : Den) (x0 x1 : AV) (h : AHeap) : absFn Try.prog G (envL (alembicref17_Shl.env G k self)) alembicref17_Shl.ann Try.f22.results.toList (codeOf Try.f22) Try.f22.ntmps k [x0, x1] h = alembicref17_Shl.c G k self x0 x1 h := by kernel_rfl
theorem alembicref17_Shl.sound {G : Globs} (hG : ∀ g x, G g = some x → plainB x = true) : ∀ k, Sound Try.prog G 22 (alembicref17_Shl.f G k)
  | 0 => sound_zero alembicref17_Shl.here (fun _ _ => rfl)
  | k + 1 => sound_succ (l := alembicref17_Shl.env G k (alembicref17_Shl.f G k)) (ann := alembicref17_Shl.ann) (n := k) (envSound_of hG (envCons (alembicref17_Mul.sound hG k) envNil)) orders Try.func22 (by kernel_rfl) (by kernel_rfl) rfl (by kernel_rfl) (arg2_of fun x0 x1 h => alembicref17_Shl.eq G k _ x0 x1 h)
theorem alembicref17_Sar.here : ∃ fn, Try.prog.funcs[23]? = some fn ∧ fn.body.isSome = true ∧ (fn.name == "runtime.NumGoroutine") = false := ⟨_, Try.func23, by kernel_rfl, by kernel_rfl⟩
theorem alembicref17_Sar.eq (G : Globs) (k : Nat) (self : Den) (x0 x1 : AV) (h : AHeap) : absFn Try.prog G (envL (alembicref17_Sar.env G k self)) alembicref17_Sar.ann Try.f23.results.toList (codeOf Try.f23) Try.f23.ntmps k [x0, x1] h = alembicref17_Sar.c G k self x0 x1 h := by kernel_rfl
theorem alembicref17_Sar.sound {G : Globs} (hG : ∀ g x, G g = some x → plainB x = true) : ∀ k, Sound Try.prog G 23 (alembicref17_Sar.f G k)
  | 0 => sound_zero alembicref17_Sar.here (fun _ _ => rfl)
  | k + 1 => sound_succ (l := alembicref17_Sar.env G k (alembicref17_Sar.f G k)) (ann := alembicref17_Sar.ann) (n := k) (envSound_of hG envNil) orders Try.func23 (by kernel_rfl) (by kernel_rfl) rfl (by kernel_rfl) (arg2_of fun x0 x1 h => alembicref17_Sar.eq G k _ x0 x1 h)
theorem alembicref17_Sum.here : ∃ fn, Try.prog.funcs[34]? = some fn ∧ fn.body.isSome = true ∧ (fn.name == "runtime.NumGoroutine") = false := ⟨_, Try.func34, by kernel_rfl, by kernel_rfl⟩
theorem alembicref17_Sum.eq (G : Globs) (k : Nat) (self : Den) (x0 x1 : AV) (h : AHeap) : absFn Try.prog G (envL (alembicref17_Sum.env G k self)) alembicref17_Sum.ann Try.f34.results.toList (codeOf Try.f34) Try.f34.ntmps k [x0, x1] h = alembicref17_Sum.c G k self x0 x1 h := by kernel_rfl
theorem alembicref17_Sum.sound {G : Globs} (hG : ∀ g x, G g = some x → plainB x = true) : ∀ k, Sound Try.prog G 34 (alembicref17_Sum.f G k)
  | 0 => sound_zero alembicref17_Sum.here (fun _ _ => rfl)
  | k + 1 => sound_succ (l := alembicref17_Sum.env G k (alembicref17_Sum.f G k)) (ann := alembicref17_Sum.ann) (n := k) (envSound_of hG envNil) orders Try.func34 (by kernel_rfl) (by kernel_rfl) rfl (by kernel_rfl) (arg2_of fun x0 x1 h => alembicref17_Sum.eq G k _ x0 x1 h)
theorem alembicref17_Add.here : ∃ fn, Try.prog.funcs[24]? = some fn ∧ fn.body.isSome = true ∧ (fn.name == "runtime.NumGoroutine") = false := ⟨_, Try.func24, by kernel_rfl, by kernel_rfl⟩
theorem alembicref17_Add.eq (G : Globs) (k : Nat) (self : Den) (x0 x1 : AV) (h : AHeap) : absFn Try.prog G (envL (alembicref17_Add.env G k self)) alembicref17_Add.ann Try.f24.results.toList (codeOf Try.f24) Try.f24.ntmps k [x0, x1] h = alembicref17_Add.c G k self x0 x1 h := by kernel_rfl
theorem alembicref17_Add.sound {G : Globs} (hG : ∀ g x, G g = some x → plainB x = true) : ∀ k, Sound Try.prog G 24 (alembicref17_Add.f G k)
  | 0 => sound_zero alembicref17_Add.here (fun _ _ => rfl)
  | k + 1 => sound_succ (l := alembicref17_Add.env G k (alembicref17_Add.f G k)) (ann := alembicref17_Add.ann) (n := k) (envSound_of hG (envCons (alembicref17_Sum.sound hG k) envNil)) orders Try.func24 (by kernel_rfl) (by kernel_rfl) rfl (by kernel_rfl) (arg2_of fun x0 x1 h => alembicref17_Add.eq G k _ x0 x1 h)
theorem alembicref17_Less.here : ∃ fn, Try.prog.funcs[35]? = some fn ∧ fn.body.isSome = true ∧ (fn.name == "runtime.NumGoroutine") = false := ⟨_, Try.func35, by kernel_rfl, by kernel_rfl⟩
theorem alembicref17_Less.eq (G : Globs) (k : Nat) (self : Den) (x0 x1 : AV) (h : AHeap) : absFn Try.prog G (envL (alembicref17_Less.env G k self)) alembicref17_Less.ann Try.f35.results.toList (codeOf Try.f35) Try.f35.ntmps k [x0, x1] h = alembicref17_Less.c G k self x0 x1 h := by kernel_rfl
theorem alembicref17_Less.sound {G : Globs} (hG : ∀ g x, G g = some x → plainB x = true) : ∀ k, Sound Try.prog G 35 (alembicref17_Less.f G k)
  | 0 => sound_zero alembicref17_Less.here (fun _ _ => rfl)
  | k + 1 => sound_succ (l := alembicref17_Less.env G k (alembicref17_Less.f G k)) (ann := alembicref17_Less.ann) (n := k) (envSound_of hG envNil) orders Try.func35 (by kernel_rfl) (by kernel_rfl) rfl (by kernel_rfl) (arg2_of fun x0 x1 h => alembicref17_Less.eq G k _ x0 x1 h)
theorem alembicref17_Sub.here : ∃ fn, Try.prog.funcs[25]? = some fn ∧ fn.body.isSome = true ∧ (fn.name == "runtime.NumGoroutine") = false := ⟨_, Try.func25, by kernel_rfl, by kernel_rfl⟩
theorem alembicref17_Sub.eq (G : Globs) (k : Nat) (self : Den) (x0 x1 : AV) (h : AHeap) : absFn Try.prog G (envL (alembicref17_Sub.env G k self)) alembicref17_Sub.ann Try.f25.results.toList (codeOf Try.f25) Try.f25.ntmps k [x0, x1] h = alembicref17_Sub.c G k self x0 x1 h := by kernel_rfl
theorem alembicref17_Sub.sound {G : Globs} (hG : ∀ g x, G g = some x → plainB x = true) : ∀ k, Sound Try.prog G 25 (alembicref17_Sub.f G k)
  | 0 => sound_zero alembicref17_Sub.here (fun _ _ => rfl)
  | k + 1 => sound_succ (l := alembicref17_Sub.env G k (alembicref17_Sub.f G k)) (ann := alembicref17_Sub.ann) (n := k) (envSound_of hG (envCons (alembicref17_Less.sound hG k) envNil)) orders Try.func25 (by kernel_rfl) (by kernel_rfl) rfl (by kernel_rfl) (arg2_of fun x0 x1 h => alembicref17_Sub.eq G k _ x0 x1 h)
theorem alembicref17_And.here : ∃ fn, Try.prog.funcs[27]? = some fn ∧ fn.body.isSome = true ∧ (fn.name == "runtime.NumGoroutine") = false := ⟨_, Try.func27, by kernel_rfl, by kernel_rfl⟩
theorem alembicref17_And.eq (G : Globs) (k : Nat) (self : Den) (x0 x1 : AV) (h : AHeap) : absFn Try.prog G (envL (alembicref17_And.env G k self)) alembicref17_And.ann Try.f27.results.toList (codeOf Try.f27) Try.f27.ntmps k [x0, x1] h = alembicref17_And.c G k self x0 x1 h := by kernel_rfl
theorem alembicref17_And.sound {G : Globs} (hG : ∀ g x, G g = some x → plainB x = true) : ∀ k, Sound Try.prog G 27 (alembicref17_And.f G k)
  | 0 => sound_zero alembicref17_And.here (fun _ _ => rfl)
  | k + 1 => sound_succ (l := alembicref17_And.env G k (alembicref17_And.f G k)) (ann := alembicref17_And.ann) (n := k) (envSound_of hG envNil) orders Try.func27 (by kernel_rfl) (by kernel_rfl) rfl (by kernel_rfl) (arg2_of fun x0 x1 h => alembicref17_And.eq G k _ x0 x1 h)
theorem alembiclaw16_SpanSays.here : ∃ fn, Try.prog.funcs[6]? = some fn ∧ fn.body.isSome = true ∧ (fn.name == "runtime.NumGoroutine") = false := ⟨_, Try.func6, by kernel_rfl, by kernel_rfl⟩
theorem alembiclaw16_SpanSays.eq (G : Globs) (k : Nat) (self : Den) (x0 x1 x2 : AV) (h : AHeap) : absFn Try.prog G (envL (alembiclaw16_SpanSays.env G k self)) alembiclaw16_SpanSays.ann Try.f6.results.toList (codeOf Try.f6) Try.f6.ntmps k [x0, x1, x2] h = alembiclaw16_SpanSays.c G k self x0 x1 x2 h := by kernel_rfl
theorem alembiclaw16_SpanSays.sound {G : Globs} (hG : ∀ g x, G g = some x → plainB x = true) : ∀ k, Sound Try.prog G 6 (alembiclaw16_SpanSays.f G k)
  | 0 => sound_zero alembiclaw16_SpanSays.here (fun _ _ => rfl)
  | k + 1 => sound_succ (l := alembiclaw16_SpanSays.env G k (alembiclaw16_SpanSays.f G k)) (ann := alembiclaw16_SpanSays.ann) (n := k) (envSound_of hG (envCons (alembiclaw16_first.sound hG k) (envCons (span_Add.sound hG k) (envCons (span_Sub.sound hG k) (envCons (span_Mul.sound hG k) (envCons (span_Shl.sound hG k) (envCons (span_Is.sound hG k) (envCons (alembiclaw16_same.sound hG k) (envCons (span_Join.sound hG k) (envCons (span_Within.sound hG k) (envCons (span_Sar.sound hG k) (envCons (span_And.sound hG k) (envCons (alembicref17_Is.sound hG k) (envCons (alembicref17_Shl.sound hG k) (envCons (alembicref17_Sar.sound hG k) (envCons (alembicref17_Add.sound hG k) (envCons (alembicref17_Sub.sound hG k) (envCons (alembicref17_Mul.sound hG k) (envCons (alembicref17_And.sound hG k) (envCons (alembicref17_Join.sound hG k) envNil)))))))))))))))))))) orders Try.func6 (by kernel_rfl) (by kernel_rfl) rfl (by kernel_rfl) (arg3_of fun x0 x1 x2 h => alembiclaw16_SpanSays.eq G k _ x0 x1 x2 h)
end Go.Proofs.Ytemkaggjbhpbbaa.Mir
