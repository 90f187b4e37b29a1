/- Printed by Print.lean: their contracts. -/
import Derived.Test.YtofhkjacpjfclaaIsFun
import Derived.Test.YtofhkjacpjfclaaProg
import Derived.KernelRfl
namespace Go.Proofs.Ytofhkjacpjfclaa.Mir
open Go
set_option linter.unusedVariables false
theorem orders : Try.prog.follows .mixedOrders = true := by kernel_rfl
theorem isa_two.here : ∃ fn, Try.prog.funcs[16]? = some fn ∧ fn.body.isSome = true ∧ (fn.name == "runtime.NumGoroutine") = false := ⟨_, Try.func16, by kernel_rfl, by kernel_rfl⟩
theorem isa_two.eq (G : Globs) (k : Nat) (self : Den) (x0 x1 x2 : AV) (h : AHeap) : absFn Try.prog G (envL (isa_two.env G k self)) isa_two.ann Try.f16.results.toList (codeOf Try.f16) Try.f16.ntmps k [x0, x1, x2] h = isa_two.c G k self x0 x1 x2 h := by kernel_rfl
theorem isa_two.sound {G : Globs} (hG : ∀ g x, G g = some x → plainB x = true) : ∀ k, Sound Try.prog G 16 (isa_two.f G k)
  | 0 => sound_zero isa_two.here (fun _ _ => rfl)
  | k + 1 => sound_succ (l := isa_two.env G k (isa_two.f G k)) (ann := isa_two.ann) (n := k) (envSound_of hG envNil) orders Try.func16 (by kernel_rfl) (by kernel_rfl) rfl (by kernel_rfl) (arg3_of fun x0 x1 x2 h => isa_two.eq G k _ x0 x1 x2 h)
theorem isa_three.here : ∃ fn, Try.prog.funcs[24]? = some fn ∧ fn.body.isSome = true ∧ (fn.name == "runtime.NumGoroutine") = false := ⟨_, Try.func24, by kernel_rfl, by kernel_rfl⟩
theorem isa_three.eq (G : Globs) (k : Nat) (self : Den) (x0 x1 : AV) (h : AHeap) : absFn Try.prog G (envL (isa_three.env G k self)) isa_three.ann Try.f24.results.toList (codeOf Try.f24) Try.f24.ntmps k [x0, x1] h = isa_three.c G k self x0 x1 h := by kernel_rfl
theorem isa_three.sound {G : Globs} (hG : ∀ g x, G g = some x → plainB x = true) : ∀ k, Sound Try.prog G 24 (isa_three.f G k)
  | 0 => sound_zero isa_three.here (fun _ _ => rfl)
  | k + 1 => sound_succ (l := isa_three.env G k (isa_three.f G k)) (ann := isa_three.ann) (n := k) (envSound_of hG envNil) orders Try.func24 (by kernel_rfl) (by kernel_rfl) rfl (by kernel_rfl) (arg2_of fun x0 x1 h => isa_three.eq G k _ x0 x1 h)
theorem isa_plain.here : ∃ fn, Try.prog.funcs[17]? = some fn ∧ fn.body.isSome = true ∧ (fn.name == "runtime.NumGoroutine") = false := ⟨_, Try.func17, by kernel_rfl, by kernel_rfl⟩
theorem isa_plain.eq (G : Globs) (k : Nat) (self : Den) (x0 : AV) (h : AHeap) : absFn Try.prog G (envL (isa_plain.env G k self)) isa_plain.ann Try.f17.results.toList (codeOf Try.f17) Try.f17.ntmps k [x0] h = isa_plain.c G k self x0 h := by kernel_rfl
theorem isa_plain.sound {G : Globs} (hG : ∀ g x, G g = some x → plainB x = true) : ∀ k, Sound Try.prog G 17 (isa_plain.f G k)
  | 0 => sound_zero isa_plain.here (fun _ _ => rfl)
  | k + 1 => sound_succ (l := isa_plain.env G k (isa_plain.f G k)) (ann := isa_plain.ann) (n := k) (envSound_of hG (envCons (isa_two.sound hG k) (envCons (isa_three.sound hG k) envNil))) orders Try.func17 (by kernel_rfl) (by kernel_rfl) rfl (by kernel_rfl) (arg1_of fun x0 h => isa_plain.eq G k _ x0 h)
theorem isa_of.here : ∃ fn, Try.prog.funcs[12]? = some fn ∧ fn.body.isSome = true ∧ (fn.name == "runtime.NumGoroutine") = false := ⟨_, Try.func12, by kernel_rfl, by kernel_rfl⟩
theorem isa_of.eq (G : Globs) (k : Nat) (self : Den) (x0 : AV) (h : AHeap) : absFn Try.prog G (envL (isa_of.env G k self)) isa_of.ann Try.f12.results.toList (codeOf Try.f12) Try.f12.ntmps k [x0] h = isa_of.c G k self x0 h := by kernel_rfl
theorem isa_of.sound {G : Globs} (hG : ∀ g x, G g = some x → plainB x = true) : ∀ k, Sound Try.prog G 12 (isa_of.f G k)
  | 0 => sound_zero isa_of.here (fun _ _ => rfl)
  | k + 1 => sound_succ (l := isa_of.env G k (isa_of.f G k)) (ann := isa_of.ann) (n := k) (envSound_of hG (envCons (isa_two.sound hG k) (envCons (isa_plain.sound hG k) envNil))) orders Try.func12 (by kernel_rfl) (by kernel_rfl) rfl (by kernel_rfl) (arg1_of fun x0 h => isa_of.eq G k _ x0 h)
theorem isa_register.here : ∃ fn, Try.prog.funcs[18]? = some fn ∧ fn.body.isSome = true ∧ (fn.name == "runtime.NumGoroutine") = false := ⟨_, Try.func18, by kernel_rfl, by kernel_rfl⟩
theorem isa_register.eq (G : Globs) (k : Nat) (self : Den) (x0 x1 : AV) (h : AHeap) : absFn Try.prog G (envL (isa_register.env G k self)) isa_register.ann Try.f18.results.toList (codeOf Try.f18) Try.f18.ntmps k [x0, x1] h = isa_register.c G k self x0 x1 h := by kernel_rfl
theorem isa_register.sound {G : Globs} (hG : ∀ g x, G g = some x → plainB x = true) : ∀ k, Sound Try.prog G 18 (isa_register.f G k)
  | 0 => sound_zero isa_register.here (fun _ _ => rfl)
  | k + 1 => sound_succ (l := isa_register.env G k (isa_register.f G k)) (ann := isa_register.ann) (n := k) (envSound_of hG envNil) orders Try.func18 (by kernel_rfl) (by kernel_rfl) rfl (by kernel_rfl) (arg2_of fun x0 x1 h => isa_register.eq G k _ x0 x1 h)
theorem isa_extra.here : ∃ fn, Try.prog.funcs[19]? = some fn ∧ fn.body.isSome = true ∧ (fn.name == "runtime.NumGoroutine") = false := ⟨_, Try.func19, by kernel_rfl, by kernel_rfl⟩
theorem isa_extra.eq (G : Globs) (k : Nat) (self : Den) (x0 : AV) (h : AHeap) : absFn Try.prog G (envL (isa_extra.env G k self)) isa_extra.ann Try.f19.results.toList (codeOf Try.f19) Try.f19.ntmps k [x0] h = isa_extra.c G k self x0 h := by kernel_rfl
theorem isa_extra.sound {G : Globs} (hG : ∀ g x, G g = some x → plainB x = true) : ∀ k, Sound Try.prog G 19 (isa_extra.f G k)
  | 0 => sound_zero isa_extra.here (fun _ _ => rfl)
  | k + 1 => sound_succ (l := isa_extra.env G k (isa_extra.f G k)) (ann := isa_extra.ann) (n := k) (envSound_of hG envNil) orders Try.func19 (by kernel_rfl) (by kernel_rfl) rfl (by kernel_rfl) (arg1_of fun x0 h => isa_extra.eq G k _ x0 h)
theorem isa_signed.here : ∃ fn, Try.prog.funcs[25]? = some fn ∧ fn.body.isSome = true ∧ (fn.name == "runtime.NumGoroutine") = false := ⟨_, Try.func25, by kernel_rfl, by kernel_rfl⟩
theorem isa_signed.eq (G : Globs) (k : Nat) (self : Den) (x0 : AV) (h : AHeap) : absFn Try.prog G (envL (isa_signed.env G k self)) isa_signed.ann Try.f25.results.toList (codeOf Try.f25) Try.f25.ntmps k [x0] h = isa_signed.c G k self x0 h := by kernel_rfl
theorem isa_signed.sound {G : Globs} (hG : ∀ g x, G g = some x → plainB x = true) : ∀ k, Sound Try.prog G 25 (isa_signed.f G k)
  | 0 => sound_zero isa_signed.here (fun _ _ => rfl)
  | k + 1 => sound_succ (l := isa_signed.env G k (isa_signed.f G k)) (ann := isa_signed.ann) (n := k) (envSound_of hG envNil) orders Try.func25 (by kernel_rfl) (by kernel_rfl) rfl (by kernel_rfl) (arg1_of fun x0 h => isa_signed.eq G k _ x0 h)
theorem isa_imm.here : ∃ fn, Try.prog.funcs[20]? = some fn ∧ fn.body.isSome = true ∧ (fn.name == "runtime.NumGoroutine") = false := ⟨_, Try.func20, by kernel_rfl, by kernel_rfl⟩
theorem isa_imm.eq (G : Globs) (k : Nat) (self : Den) (x0 x1 : AV) (h : AHeap) : absFn Try.prog G (envL (isa_imm.env G k self)) isa_imm.ann Try.f20.results.toList (codeOf Try.f20) Try.f20.ntmps k [x0, x1] h = isa_imm.c G k self x0 x1 h := by kernel_rfl
theorem isa_imm.sound {G : Globs} (hG : ∀ g x, G g = some x → plainB x = true) : ∀ k, Sound Try.prog G 20 (isa_imm.f G k)
  | 0 => sound_zero isa_imm.here (fun _ _ => rfl)
  | k + 1 => sound_succ (l := isa_imm.env G k (isa_imm.f G k)) (ann := isa_imm.ann) (n := k) (envSound_of hG (envCons (isa_signed.sound hG k) envNil)) orders Try.func20 (by kernel_rfl) (by kernel_rfl) rfl (by kernel_rfl) (arg2_of fun x0 x1 h => isa_imm.eq G k _ x0 x1 h)
theorem isa_stack.here : ∃ fn, Try.prog.funcs[21]? = some fn ∧ fn.body.isSome = true ∧ (fn.name == "runtime.NumGoroutine") = false := ⟨_, Try.func21, by kernel_rfl, by kernel_rfl⟩
theorem isa_stack.eq (G : Globs) (k : Nat) (self : Den) (x0 : AV) (h : AHeap) : absFn Try.prog G (envL (isa_stack.env G k self)) isa_stack.ann Try.f21.results.toList (codeOf Try.f21) Try.f21.ntmps k [x0] h = isa_stack.c G k self x0 h := by kernel_rfl
theorem isa_stack.sound {G : Globs} (hG : ∀ g x, G g = some x → plainB x = true) : ∀ k, Sound Try.prog G 21 (isa_stack.f G k)
  | 0 => sound_zero isa_stack.here (fun _ _ => rfl)
  | k + 1 => sound_succ (l := isa_stack.env G k (isa_stack.f G k)) (ann := isa_stack.ann) (n := k) (envSound_of hG envNil) orders Try.func21 (by kernel_rfl) (by kernel_rfl) rfl (by kernel_rfl) (arg1_of fun x0 h => isa_stack.eq G k _ x0 h)
theorem isa_fair.here : ∃ fn, Try.prog.funcs[13]? = some fn ∧ fn.body.isSome = true ∧ (fn.name == "runtime.NumGoroutine") = false := ⟨_, Try.func13, by kernel_rfl, by kernel_rfl⟩
theorem isa_fair.eq (G : Globs) (k : Nat) (self : Den) (x0 x1 : AV) (h : AHeap) : absFn Try.prog G (envL (isa_fair.env G k self)) isa_fair.ann Try.f13.results.toList (codeOf Try.f13) Try.f13.ntmps k [x0, x1] h = isa_fair.c G k self x0 x1 h := by kernel_rfl
theorem isa_fair.sound {G : Globs} (hG : ∀ g x, G g = some x → plainB x = true) : ∀ k, Sound Try.prog G 13 (isa_fair.f G k)
  | 0 => sound_zero isa_fair.here (fun _ _ => rfl)
  | k + 1 => sound_succ (l := isa_fair.env G k (isa_fair.f G k)) (ann := isa_fair.ann) (n := k) (envSound_of hG (envCons (isa_register.sound hG k) (envCons (isa_extra.sound hG k) (envCons (isa_imm.sound hG k) (envCons (isa_stack.sound hG k) envNil))))) orders Try.func13 (by kernel_rfl) (by kernel_rfl) rfl (by kernel_rfl) (arg2_of fun x0 x1 h => isa_fair.eq G k _ x0 x1 h)
theorem isa_number.here : ∃ fn, Try.prog.funcs[14]? = some fn ∧ fn.body.isSome = true ∧ (fn.name == "runtime.NumGoroutine") = false := ⟨_, Try.func14, by kernel_rfl, by kernel_rfl⟩
theorem isa_number.eq (G : Globs) (k : Nat) (self : Den) (x0 : AV) (h : AHeap) : absFn Try.prog G (envL (isa_number.env G k self)) isa_number.ann Try.f14.results.toList (codeOf Try.f14) Try.f14.ntmps k [x0] h = isa_number.c G k self x0 h := by kernel_rfl
theorem isa_number.sound {G : Globs} (hG : ∀ g x, G g = some x → plainB x = true) : ∀ k, Sound Try.prog G 14 (isa_number.f G k)
  | 0 => sound_zero isa_number.here (fun _ _ => rfl)
  | k + 1 => sound_succ (l := isa_number.env G k (isa_number.f G k)) (ann := isa_number.ann) (n := k) (envSound_of hG envNil) orders Try.func14 (by kernel_rfl) (by kernel_rfl) rfl (by kernel_rfl) (arg1_of fun x0 h => isa_number.eq G k _ x0 h)
theorem isa_Word.here : ∃ fn, Try.prog.funcs[8]? = some fn ∧ fn.body.isSome = true ∧ (fn.name == "runtime.NumGoroutine") = false := ⟨_, Try.func8, by kernel_rfl, by kernel_rfl⟩
theorem isa_Word.eq (G : Globs) (k : Nat) (self : Den) (x0 : AV) (h : AHeap) : absFn Try.prog G (envL (isa_Word.env G k self)) isa_Word.ann Try.f8.results.toList (codeOf Try.f8) Try.f8.ntmps k [x0] h = isa_Word.c G k self x0 h := by kernel_rfl
theorem isa_Word.sound {G : Globs} (hG : ∀ g x, G g = some x → plainB x = true) : ∀ k, Sound Try.prog G 8 (isa_Word.f G k)
  | 0 => sound_zero isa_Word.here (fun _ _ => rfl)
  | k + 1 => sound_succ (l := isa_Word.env G k (isa_Word.f G k)) (ann := isa_Word.ann) (n := k) (envSound_of hG (envCons (isa_of.sound hG k) (envCons (isa_fair.sound hG k) (envCons (isa_number.sound hG k) envNil)))) orders Try.func8 (by kernel_rfl) (by kernel_rfl) rfl (by kernel_rfl) (arg1_of fun x0 h => isa_Word.eq G k _ x0 h)
theorem alembiclaw22_first.here : ∃ fn, Try.prog.funcs[6]? = some fn ∧ fn.body.isSome = true ∧ (fn.name == "runtime.NumGoroutine") = false := ⟨_, Try.func6, by kernel_rfl, by kernel_rfl⟩
theorem alembiclaw22_first.eq (G : Globs) (k : Nat) (self : Den) (h : AHeap) : absFn Try.prog G (envL (alembiclaw22_first.env G k self)) alembiclaw22_first.ann Try.f6.results.toList (codeOf Try.f6) Try.f6.ntmps k [] h = alembiclaw22_first.c G k self h := by kernel_rfl
theorem alembiclaw22_first.sound {G : Globs} (hG : ∀ g x, G g = some x → plainB x = true) : ∀ k, Sound Try.prog G 6 (alembiclaw22_first.f G k)
  | 0 => sound_zero alembiclaw22_first.here (fun _ _ => rfl)
  | k + 1 => sound_succ (l := alembiclaw22_first.env G k (alembiclaw22_first.f G k)) (ann := alembiclaw22_first.ann) (n := k) (envSound_of hG (envCons (isa_Word.sound hG k) envNil)) orders Try.func6 (by kernel_rfl) (by kernel_rfl) rfl (by kernel_rfl) (arg0_of fun h => alembiclaw22_first.eq G k _ h)
theorem isa_Has.here : ∃ fn, Try.prog.funcs[7]? = some fn ∧ fn.body.isSome = true ∧ (fn.name == "runtime.NumGoroutine") = false := ⟨_, Try.func7, by kernel_rfl, by kernel_rfl⟩
theorem isa_Has.eq (G : Globs) (k : Nat) (self : Den) (x0 : AV) (h : AHeap) : absFn Try.prog G (envL (isa_Has.env G k self)) isa_Has.ann Try.f7.results.toList (codeOf Try.f7) Try.f7.ntmps k [x0] h = isa_Has.c G k self x0 h := by kernel_rfl
theorem isa_Has.sound {G : Globs} (hG : ∀ g x, G g = some x → plainB x = true) : ∀ k, Sound Try.prog G 7 (isa_Has.f G k)
  | 0 => sound_zero isa_Has.here (fun _ _ => rfl)
  | k + 1 => sound_succ (l := isa_Has.env G k (isa_Has.f G k)) (ann := isa_Has.ann) (n := k) (envSound_of hG (envCons (isa_of.sound hG k) envNil)) orders Try.func7 (by kernel_rfl) (by kernel_rfl) rfl (by kernel_rfl) (arg1_of fun x0 h => isa_Has.eq G k _ x0 h)
theorem alembiclaw22_IsaBounds_1.here : ∃ fn, Try.prog.funcs[9]? = some fn ∧ fn.body.isSome = true ∧ (fn.name == "runtime.NumGoroutine") = false := ⟨_, Try.func9, by kernel_rfl, by kernel_rfl⟩
theorem alembiclaw22_IsaBounds_1.eq (G : Globs) (k : Nat) (self : Den) (x0 : AV) (h : AHeap) : absFn Try.prog G (envL (alembiclaw22_IsaBounds_1.env G k self)) alembiclaw22_IsaBounds_1.ann Try.f9.results.toList (codeOf Try.f9) Try.f9.ntmps k [x0] h = alembiclaw22_IsaBounds_1.c G k self x0 h := by kernel_rfl
theorem alembiclaw22_IsaBounds_1.sound {G : Globs} (hG : ∀ g x, G g = some x → plainB x = true) : ∀ k, Sound Try.prog G 9 (alembiclaw22_IsaBounds_1.f G k)
  | 0 => sound_zero alembiclaw22_IsaBounds_1.here (fun _ _ => rfl)
  | k + 1 => sound_succ (l := alembiclaw22_IsaBounds_1.env G k (alembiclaw22_IsaBounds_1.f G k)) (ann := alembiclaw22_IsaBounds_1.ann) (n := k) (envSound_of hG (envCons (isa_Word.sound hG k) envNil)) orders Try.func9 (by kernel_rfl) (by kernel_rfl) rfl (by kernel_rfl) (arg1_of fun x0 h => alembiclaw22_IsaBounds_1.eq G k _ x0 h)
theorem alembiclaw22_IsaBounds.here : ∃ fn, Try.prog.funcs[3]? = some fn ∧ fn.body.isSome = true ∧ (fn.name == "runtime.NumGoroutine") = false := ⟨_, Try.func3, by kernel_rfl, by kernel_rfl⟩
theorem alembiclaw22_IsaBounds.eq (G : Globs) (k : Nat) (self : Den) (x0 : AV) (h : AHeap) : absFn Try.prog G (envL (alembiclaw22_IsaBounds.env G k self)) alembiclaw22_IsaBounds.ann Try.f3.results.toList (codeOf Try.f3) Try.f3.ntmps k [x0] h = alembiclaw22_IsaBounds.c G k self x0 h := by kernel_rfl
theorem alembiclaw22_IsaBounds.sound {G : Globs} (hG : ∀ g x, G g = some x → plainB x = true) : ∀ k, Sound Try.prog G 3 (alembiclaw22_IsaBounds.f G k)
  | 0 => sound_zero alembiclaw22_IsaBounds.here (fun _ _ => rfl)
  | k + 1 => sound_succ (l := alembiclaw22_IsaBounds.env G k (alembiclaw22_IsaBounds.f G k)) (ann := alembiclaw22_IsaBounds.ann) (n := k) (envSound_of hG (envCons (alembiclaw22_first.sound hG k) (envCons (isa_Has.sound hG k) (envCons (isa_Word.sound hG k) (envCons (alembiclaw22_IsaBounds_1.sound hG k) envNil))))) orders Try.func3 (by kernel_rfl) (by kernel_rfl) rfl (by kernel_rfl) (arg1_of fun x0 h => alembiclaw22_IsaBounds.eq G k _ x0 h)
theorem alembiclaw22_IsaFields.here : ∃ fn, Try.prog.funcs[4]? = some fn ∧ fn.body.isSome = true ∧ (fn.name == "runtime.NumGoroutine") = false := ⟨_, Try.func4, by kernel_rfl, by kernel_rfl⟩
theorem alembiclaw22_IsaFields.eq (G : Globs) (k : Nat) (self : Den) (x0 x1 x2 x3 x4 : AV) (h : AHeap) : absFn Try.prog G (envL (alembiclaw22_IsaFields.env G k self)) alembiclaw22_IsaFields.ann Try.f4.results.toList (codeOf Try.f4) Try.f4.ntmps k [x0, x1, x2, x3, x4] h = alembiclaw22_IsaFields.c G k self x0 x1 x2 x3 x4 h := by kernel_rfl
theorem alembiclaw22_IsaFields.sound {G : Globs} (hG : ∀ g x, G g = some x → plainB x = true) : ∀ k, Sound Try.prog G 4 (alembiclaw22_IsaFields.f G k)
  | 0 => sound_zero alembiclaw22_IsaFields.here (fun _ _ => rfl)
  | k + 1 => sound_succ (l := alembiclaw22_IsaFields.env G k (alembiclaw22_IsaFields.f G k)) (ann := alembiclaw22_IsaFields.ann) (n := k) (envSound_of hG (envCons (alembiclaw22_first.sound hG k) (envCons (isa_Has.sound hG k) (envCons (isa_Word.sound hG k) envNil)))) orders Try.func4 (by kernel_rfl) (by kernel_rfl) rfl (by kernel_rfl) (arg5_of fun x0 x1 x2 x3 x4 h => alembiclaw22_IsaFields.eq G k _ x0 x1 x2 x3 x4 h)
theorem isa_field.here : ∃ fn, Try.prog.funcs[22]? = some fn ∧ fn.body.isSome = true ∧ (fn.name == "runtime.NumGoroutine") = false := ⟨_, Try.func22, by kernel_rfl, by kernel_rfl⟩
theorem isa_field.eq (G : Globs) (k : Nat) (self : Den) (x0 x1 x2 : AV) (h : AHeap) : absFn Try.prog G (envL (isa_field.env G k self)) isa_field.ann Try.f22.results.toList (codeOf Try.f22) Try.f22.ntmps k [x0, x1, x2] h = isa_field.c G k self x0 x1 x2 h := by kernel_rfl
theorem isa_field.sound {G : Globs} (hG : ∀ g x, G g = some x → plainB x = true) : ∀ k, Sound Try.prog G 22 (isa_field.f G k)
  | 0 => sound_zero isa_field.here (fun _ _ => rfl)
  | k + 1 => sound_succ (l := isa_field.env G k (isa_field.f G k)) (ann := isa_field.ann) (n := k) (envSound_of hG envNil) orders Try.func22 (by kernel_rfl) (by kernel_rfl) rfl (by kernel_rfl) (arg3_of fun x0 x1 x2 h => isa_field.eq G k _ x0 x1 x2 h)
theorem isa_sign.here : ∃ fn, Try.prog.funcs[26]? = some fn ∧ fn.body.isSome = true ∧ (fn.name == "runtime.NumGoroutine") = false := ⟨_, Try.func26, by kernel_rfl, by kernel_rfl⟩
theorem isa_sign.eq (G : Globs) (k : Nat) (self : Den) (x0 x1 : AV) (h : AHeap) : absFn Try.prog G (envL (isa_sign.env G k self)) isa_sign.ann Try.f26.results.toList (codeOf Try.f26) Try.f26.ntmps k [x0, x1] h = isa_sign.c G k self x0 x1 h := by kernel_rfl
theorem isa_sign.sound {G : Globs} (hG : ∀ g x, G g = some x → plainB x = true) : ∀ k, Sound Try.prog G 26 (isa_sign.f G k)
  | 0 => sound_zero isa_sign.here (fun _ _ => rfl)
  | k + 1 => sound_succ (l := isa_sign.env G k (isa_sign.f G k)) (ann := isa_sign.ann) (n := k) (envSound_of hG envNil) orders Try.func26 (by kernel_rfl) (by kernel_rfl) rfl (by kernel_rfl) (arg2_of fun x0 x1 h => isa_sign.eq G k _ x0 x1 h)
theorem isa_extras.here : ∃ fn, Try.prog.funcs[23]? = some fn ∧ fn.body.isSome = true ∧ (fn.name == "runtime.NumGoroutine") = false := ⟨_, Try.func23, by kernel_rfl, by kernel_rfl⟩
theorem isa_extras.eq (G : Globs) (k : Nat) (self : Den) (x0 x1 : AV) (h : AHeap) : absFn Try.prog G (envL (isa_extras.env G k self)) isa_extras.ann Try.f23.results.toList (codeOf Try.f23) Try.f23.ntmps k [x0, x1] h = isa_extras.c G k self x0 x1 h := by kernel_rfl
theorem isa_extras.sound {G : Globs} (hG : ∀ g x, G g = some x → plainB x = true) : ∀ k, Sound Try.prog G 23 (isa_extras.f G k)
  | 0 => sound_zero isa_extras.here (fun _ _ => rfl)
  | k + 1 => sound_succ (l := isa_extras.env G k (isa_extras.f G k)) (ann := isa_extras.ann) (n := k) (envSound_of hG (envCons (isa_field.sound hG k) (envCons (isa_sign.sound hG k) envNil))) orders Try.func23 (by kernel_rfl) (by kernel_rfl) rfl (by kernel_rfl) (arg2_of fun x0 x1 h => isa_extras.eq G k _ x0 x1 h)
theorem isa_as.here : ∃ fn, Try.prog.funcs[15]? = some fn ∧ fn.body.isSome = true ∧ (fn.name == "runtime.NumGoroutine") = false := ⟨_, Try.func15, by kernel_rfl, by kernel_rfl⟩
theorem isa_as.eq (G : Globs) (k : Nat) (self : Den) (x0 x1 : AV) (h : AHeap) : absFn Try.prog G (envL (isa_as.env G k self)) isa_as.ann Try.f15.results.toList (codeOf Try.f15) Try.f15.ntmps k [x0, x1] h = isa_as.c G k self x0 x1 h := by kernel_rfl
theorem isa_as.sound {G : Globs} (hG : ∀ g x, G g = some x → plainB x = true) : ∀ k, Sound Try.prog G 15 (isa_as.f G k)
  | 0 => sound_zero isa_as.here (fun _ _ => rfl)
  | k + 1 => sound_succ (l := isa_as.env G k (isa_as.f G k)) (ann := isa_as.ann) (n := k) (envSound_of hG (envCons (isa_Word.sound hG k) (envCons (isa_of.sound hG k) (envCons (isa_field.sound hG k) (envCons (isa_extras.sound hG k) envNil))))) orders Try.func15 (by kernel_rfl) (by kernel_rfl) rfl (by kernel_rfl) (arg2_of fun x0 x1 h => isa_as.eq G k _ x0 x1 h)
theorem isa_Of.here : ∃ fn, Try.prog.funcs[10]? = some fn ∧ fn.body.isSome = true ∧ (fn.name == "runtime.NumGoroutine") = false := ⟨_, Try.func10, by kernel_rfl, by kernel_rfl⟩
theorem isa_Of.eq (G : Globs) (k : Nat) (self : Den) (x0 : AV) (h : AHeap) : absFn Try.prog G (envL (isa_Of.env G k self)) isa_Of.ann Try.f10.results.toList (codeOf Try.f10) Try.f10.ntmps k [x0] h = isa_Of.c G k self x0 h := by kernel_rfl
theorem isa_Of.sound {G : Globs} (hG : ∀ g x, G g = some x → plainB x = true) : ∀ k, Sound Try.prog G 10 (isa_Of.f G k)
  | 0 => sound_zero isa_Of.here (fun _ _ => rfl)
  | k + 1 => sound_succ (l := isa_Of.env G k (isa_Of.f G k)) (ann := isa_Of.ann) (n := k) (envSound_of hG (envCons (isa_as.sound hG k) envNil)) orders Try.func10 (by kernel_rfl) (by kernel_rfl) rfl (by kernel_rfl) (arg1_of fun x0 h => isa_Of.eq G k _ x0 h)
theorem alembicref_SameInstr.here : ∃ fn, Try.prog.funcs[11]? = some fn ∧ fn.body.isSome = true ∧ (fn.name == "runtime.NumGoroutine") = false := ⟨_, Try.func11, by kernel_rfl, by kernel_rfl⟩
theorem alembicref_SameInstr.eq (G : Globs) (k : Nat) (self : Den) (x0 x1 : AV) (h : AHeap) : absFn Try.prog G (envL (alembicref_SameInstr.env G k self)) alembicref_SameInstr.ann Try.f11.results.toList (codeOf Try.f11) Try.f11.ntmps k [x0, x1] h = alembicref_SameInstr.c G k self x0 x1 h := by kernel_rfl
theorem alembicref_SameInstr.sound {G : Globs} (hG : ∀ g x, G g = some x → plainB x = true) : ∀ k, Sound Try.prog G 11 (alembicref_SameInstr.f G k)
  | 0 => sound_zero alembicref_SameInstr.here (fun _ _ => rfl)
  | k + 1 => sound_succ (l := alembicref_SameInstr.env G k (alembicref_SameInstr.f G k)) (ann := alembicref_SameInstr.ann) (n := k) (envSound_of hG envNil) orders Try.func11 (by kernel_rfl) (by kernel_rfl) rfl (by kernel_rfl) (arg2_of fun x0 x1 h => alembicref_SameInstr.eq G k _ x0 x1 h)
theorem alembiclaw22_IsaBack.here : ∃ fn, Try.prog.funcs[5]? = some fn ∧ fn.body.isSome = true ∧ (fn.name == "runtime.NumGoroutine") = false := ⟨_, Try.func5, by kernel_rfl, by kernel_rfl⟩
theorem alembiclaw22_IsaBack.eq (G : Globs) (k : Nat) (self : Den) (x0 x1 x2 : AV) (h : AHeap) : absFn Try.prog G (envL (alembiclaw22_IsaBack.env G k self)) alembiclaw22_IsaBack.ann Try.f5.results.toList (codeOf Try.f5) Try.f5.ntmps k [x0, x1, x2] h = alembiclaw22_IsaBack.c G k self x0 x1 x2 h := by kernel_rfl
theorem alembiclaw22_IsaBack.sound {G : Globs} (hG : ∀ g x, G g = some x → plainB x = true) : ∀ k, Sound Try.prog G 5 (alembiclaw22_IsaBack.f G k)
  | 0 => sound_zero alembiclaw22_IsaBack.here (fun _ _ => rfl)
  | k + 1 => sound_succ (l := alembiclaw22_IsaBack.env G k (alembiclaw22_IsaBack.f G k)) (ann := alembiclaw22_IsaBack.ann) (n := k) (envSound_of hG (envCons (alembiclaw22_first.sound hG k) (envCons (isa_Word.sound hG k) (envCons (isa_Of.sound hG k) (envCons (alembicref_SameInstr.sound hG k) envNil))))) orders Try.func5 (by kernel_rfl) (by kernel_rfl) rfl (by kernel_rfl) (arg3_of fun x0 x1 x2 h => alembiclaw22_IsaBack.eq G k _ x0 x1 x2 h)
end Go.Proofs.Ytofhkjacpjfclaa.Mir
