/- Part 4 of the proof: the functions that the statement reaches, and their contracts. -/
import Derived.Test.YtdfglgnflldkpaaDoorVa3
import Derived.Test.YtdfglgnflldkpaaDoorProg
import Derived.KernelRfl
namespace Go.Proofs.YtdfglgnflldkpaaDoor.Mir
open Go
set_option linter.unusedVariables false
theorem orders : Tryd.prog.follows .mixedOrders = true := by kernel_rfl
theorem isa_two.here : ∃ fn, Tryd.prog.funcs[92]? = some fn ∧ fn.body.isSome = true ∧ (fn.name == "runtime.NumGoroutine") = false := ⟨_, Tryd.func92, by kernel_rfl, by kernel_rfl⟩
theorem isa_two.eq (G : Globs) (k : Nat) (self : Den) (x0 x1 x2 : AV) (h : AHeap) : absFn Tryd.prog G (envL (isa_two.env G k self)) isa_two.ann Tryd.f92.results.toList (codeOf Tryd.f92) Tryd.f92.ntmps k [x0, x1, x2] h = isa_two.c G k self x0 x1 x2 h := by kernel_rfl
theorem isa_two.sound {G : Globs} (hG : ∀ g x, G g = some x → plainB x = true) : ∀ k, Sound Tryd.prog G 92 (isa_two.f G k)
  | 0 => sound_zero isa_two.here (fun _ _ => rfl)
  | k + 1 => sound_succ (l := isa_two.env G k (isa_two.f G k)) (ann := isa_two.ann) (n := k) (envSound_of hG envNil) orders Tryd.func92 (by kernel_rfl) (by kernel_rfl) rfl (by kernel_rfl) (arg3_of fun x0 x1 x2 h => isa_two.eq G k _ x0 x1 x2 h)
theorem isa_three.here : ∃ fn, Tryd.prog.funcs[107]? = some fn ∧ fn.body.isSome = true ∧ (fn.name == "runtime.NumGoroutine") = false := ⟨_, Tryd.func107, by kernel_rfl, by kernel_rfl⟩
theorem isa_three.eq (G : Globs) (k : Nat) (self : Den) (x0 x1 : AV) (h : AHeap) : absFn Tryd.prog G (envL (isa_three.env G k self)) isa_three.ann Tryd.f107.results.toList (codeOf Tryd.f107) Tryd.f107.ntmps k [x0, x1] h = isa_three.c G k self x0 x1 h := by kernel_rfl
theorem isa_three.sound {G : Globs} (hG : ∀ g x, G g = some x → plainB x = true) : ∀ k, Sound Tryd.prog G 107 (isa_three.f G k)
  | 0 => sound_zero isa_three.here (fun _ _ => rfl)
  | k + 1 => sound_succ (l := isa_three.env G k (isa_three.f G k)) (ann := isa_three.ann) (n := k) (envSound_of hG envNil) orders Tryd.func107 (by kernel_rfl) (by kernel_rfl) rfl (by kernel_rfl) (arg2_of fun x0 x1 h => isa_three.eq G k _ x0 x1 h)
theorem isa_plain.here : ∃ fn, Tryd.prog.funcs[93]? = some fn ∧ fn.body.isSome = true ∧ (fn.name == "runtime.NumGoroutine") = false := ⟨_, Tryd.func93, by kernel_rfl, by kernel_rfl⟩
theorem isa_plain.eq (G : Globs) (k : Nat) (self : Den) (x0 : AV) (h : AHeap) : absFn Tryd.prog G (envL (isa_plain.env G k self)) isa_plain.ann Tryd.f93.results.toList (codeOf Tryd.f93) Tryd.f93.ntmps k [x0] h = isa_plain.c G k self x0 h := by kernel_rfl
theorem isa_plain.sound {G : Globs} (hG : ∀ g x, G g = some x → plainB x = true) : ∀ k, Sound Tryd.prog G 93 (isa_plain.f G k)
  | 0 => sound_zero isa_plain.here (fun _ _ => rfl)
  | k + 1 => sound_succ (l := isa_plain.env G k (isa_plain.f G k)) (ann := isa_plain.ann) (n := k) (envSound_of hG (envCons (isa_two.sound hG k) (envCons (isa_three.sound hG k) envNil))) orders Tryd.func93 (by kernel_rfl) (by kernel_rfl) rfl (by kernel_rfl) (arg1_of fun x0 h => isa_plain.eq G k _ x0 h)
theorem isa_of.here : ∃ fn, Tryd.prog.funcs[70]? = some fn ∧ fn.body.isSome = true ∧ (fn.name == "runtime.NumGoroutine") = false := ⟨_, Tryd.func70, by kernel_rfl, by kernel_rfl⟩
theorem isa_of.eq (G : Globs) (k : Nat) (self : Den) (x0 : AV) (h : AHeap) : absFn Tryd.prog G (envL (isa_of.env G k self)) isa_of.ann Tryd.f70.results.toList (codeOf Tryd.f70) Tryd.f70.ntmps k [x0] h = isa_of.c G k self x0 h := by kernel_rfl
theorem isa_of.sound {G : Globs} (hG : ∀ g x, G g = some x → plainB x = true) : ∀ k, Sound Tryd.prog G 70 (isa_of.f G k)
  | 0 => sound_zero isa_of.here (fun _ _ => rfl)
  | k + 1 => sound_succ (l := isa_of.env G k (isa_of.f G k)) (ann := isa_of.ann) (n := k) (envSound_of hG (envCons (isa_two.sound hG k) (envCons (isa_plain.sound hG k) envNil))) orders Tryd.func70 (by kernel_rfl) (by kernel_rfl) rfl (by kernel_rfl) (arg1_of fun x0 h => isa_of.eq G k _ x0 h)
theorem isa_register.here : ∃ fn, Tryd.prog.funcs[94]? = some fn ∧ fn.body.isSome = true ∧ (fn.name == "runtime.NumGoroutine") = false := ⟨_, Tryd.func94, by kernel_rfl, by kernel_rfl⟩
theorem isa_register.eq (G : Globs) (k : Nat) (self : Den) (x0 x1 : AV) (h : AHeap) : absFn Tryd.prog G (envL (isa_register.env G k self)) isa_register.ann Tryd.f94.results.toList (codeOf Tryd.f94) Tryd.f94.ntmps k [x0, x1] h = isa_register.c G k self x0 x1 h := by kernel_rfl
theorem isa_register.sound {G : Globs} (hG : ∀ g x, G g = some x → plainB x = true) : ∀ k, Sound Tryd.prog G 94 (isa_register.f G k)
  | 0 => sound_zero isa_register.here (fun _ _ => rfl)
  | k + 1 => sound_succ (l := isa_register.env G k (isa_register.f G k)) (ann := isa_register.ann) (n := k) (envSound_of hG envNil) orders Tryd.func94 (by kernel_rfl) (by kernel_rfl) rfl (by kernel_rfl) (arg2_of fun x0 x1 h => isa_register.eq G k _ x0 x1 h)
theorem isa_extra.here : ∃ fn, Tryd.prog.funcs[95]? = some fn ∧ fn.body.isSome = true ∧ (fn.name == "runtime.NumGoroutine") = false := ⟨_, Tryd.func95, by kernel_rfl, by kernel_rfl⟩
theorem isa_extra.eq (G : Globs) (k : Nat) (self : Den) (x0 : AV) (h : AHeap) : absFn Tryd.prog G (envL (isa_extra.env G k self)) isa_extra.ann Tryd.f95.results.toList (codeOf Tryd.f95) Tryd.f95.ntmps k [x0] h = isa_extra.c G k self x0 h := by kernel_rfl
theorem isa_extra.sound {G : Globs} (hG : ∀ g x, G g = some x → plainB x = true) : ∀ k, Sound Tryd.prog G 95 (isa_extra.f G k)
  | 0 => sound_zero isa_extra.here (fun _ _ => rfl)
  | k + 1 => sound_succ (l := isa_extra.env G k (isa_extra.f G k)) (ann := isa_extra.ann) (n := k) (envSound_of hG envNil) orders Tryd.func95 (by kernel_rfl) (by kernel_rfl) rfl (by kernel_rfl) (arg1_of fun x0 h => isa_extra.eq G k _ x0 h)
theorem isa_signed.here : ∃ fn, Tryd.prog.funcs[108]? = some fn ∧ fn.body.isSome = true ∧ (fn.name == "runtime.NumGoroutine") = false := ⟨_, Tryd.func108, by kernel_rfl, by kernel_rfl⟩
theorem isa_signed.eq (G : Globs) (k : Nat) (self : Den) (x0 : AV) (h : AHeap) : absFn Tryd.prog G (envL (isa_signed.env G k self)) isa_signed.ann Tryd.f108.results.toList (codeOf Tryd.f108) Tryd.f108.ntmps k [x0] h = isa_signed.c G k self x0 h := by kernel_rfl
theorem isa_signed.sound {G : Globs} (hG : ∀ g x, G g = some x → plainB x = true) : ∀ k, Sound Tryd.prog G 108 (isa_signed.f G k)
  | 0 => sound_zero isa_signed.here (fun _ _ => rfl)
  | k + 1 => sound_succ (l := isa_signed.env G k (isa_signed.f G k)) (ann := isa_signed.ann) (n := k) (envSound_of hG envNil) orders Tryd.func108 (by kernel_rfl) (by kernel_rfl) rfl (by kernel_rfl) (arg1_of fun x0 h => isa_signed.eq G k _ x0 h)
theorem isa_imm.here : ∃ fn, Tryd.prog.funcs[96]? = some fn ∧ fn.body.isSome = true ∧ (fn.name == "runtime.NumGoroutine") = false := ⟨_, Tryd.func96, by kernel_rfl, by kernel_rfl⟩
theorem isa_imm.eq (G : Globs) (k : Nat) (self : Den) (x0 x1 : AV) (h : AHeap) : absFn Tryd.prog G (envL (isa_imm.env G k self)) isa_imm.ann Tryd.f96.results.toList (codeOf Tryd.f96) Tryd.f96.ntmps k [x0, x1] h = isa_imm.c G k self x0 x1 h := by kernel_rfl
theorem isa_imm.sound {G : Globs} (hG : ∀ g x, G g = some x → plainB x = true) : ∀ k, Sound Tryd.prog G 96 (isa_imm.f G k)
  | 0 => sound_zero isa_imm.here (fun _ _ => rfl)
  | k + 1 => sound_succ (l := isa_imm.env G k (isa_imm.f G k)) (ann := isa_imm.ann) (n := k) (envSound_of hG (envCons (isa_signed.sound hG k) envNil)) orders Tryd.func96 (by kernel_rfl) (by kernel_rfl) rfl (by kernel_rfl) (arg2_of fun x0 x1 h => isa_imm.eq G k _ x0 x1 h)
theorem isa_stack.here : ∃ fn, Tryd.prog.funcs[97]? = some fn ∧ fn.body.isSome = true ∧ (fn.name == "runtime.NumGoroutine") = false := ⟨_, Tryd.func97, by kernel_rfl, by kernel_rfl⟩
theorem isa_stack.eq (G : Globs) (k : Nat) (self : Den) (x0 : AV) (h : AHeap) : absFn Tryd.prog G (envL (isa_stack.env G k self)) isa_stack.ann Tryd.f97.results.toList (codeOf Tryd.f97) Tryd.f97.ntmps k [x0] h = isa_stack.c G k self x0 h := by kernel_rfl
theorem isa_stack.sound {G : Globs} (hG : ∀ g x, G g = some x → plainB x = true) : ∀ k, Sound Tryd.prog G 97 (isa_stack.f G k)
  | 0 => sound_zero isa_stack.here (fun _ _ => rfl)
  | k + 1 => sound_succ (l := isa_stack.env G k (isa_stack.f G k)) (ann := isa_stack.ann) (n := k) (envSound_of hG envNil) orders Tryd.func97 (by kernel_rfl) (by kernel_rfl) rfl (by kernel_rfl) (arg1_of fun x0 h => isa_stack.eq G k _ x0 h)
theorem isa_fair.here : ∃ fn, Tryd.prog.funcs[71]? = some fn ∧ fn.body.isSome = true ∧ (fn.name == "runtime.NumGoroutine") = false := ⟨_, Tryd.func71, by kernel_rfl, by kernel_rfl⟩
theorem isa_fair.eq (G : Globs) (k : Nat) (self : Den) (x0 x1 : AV) (h : AHeap) : absFn Tryd.prog G (envL (isa_fair.env G k self)) isa_fair.ann Tryd.f71.results.toList (codeOf Tryd.f71) Tryd.f71.ntmps k [x0, x1] h = isa_fair.c G k self x0 x1 h := by kernel_rfl
theorem isa_fair.sound {G : Globs} (hG : ∀ g x, G g = some x → plainB x = true) : ∀ k, Sound Tryd.prog G 71 (isa_fair.f G k)
  | 0 => sound_zero isa_fair.here (fun _ _ => rfl)
  | k + 1 => sound_succ (l := isa_fair.env G k (isa_fair.f G k)) (ann := isa_fair.ann) (n := k) (envSound_of hG (envCons (isa_register.sound hG k) (envCons (isa_extra.sound hG k) (envCons (isa_imm.sound hG k) (envCons (isa_stack.sound hG k) envNil))))) orders Tryd.func71 (by kernel_rfl) (by kernel_rfl) rfl (by kernel_rfl) (arg2_of fun x0 x1 h => isa_fair.eq G k _ x0 x1 h)
theorem isa_number.here : ∃ fn, Tryd.prog.funcs[72]? = some fn ∧ fn.body.isSome = true ∧ (fn.name == "runtime.NumGoroutine") = false := ⟨_, Tryd.func72, by kernel_rfl, by kernel_rfl⟩
theorem isa_number.eq (G : Globs) (k : Nat) (self : Den) (x0 : AV) (h : AHeap) : absFn Tryd.prog G (envL (isa_number.env G k self)) isa_number.ann Tryd.f72.results.toList (codeOf Tryd.f72) Tryd.f72.ntmps k [x0] h = isa_number.c G k self x0 h := by kernel_rfl
theorem isa_number.sound {G : Globs} (hG : ∀ g x, G g = some x → plainB x = true) : ∀ k, Sound Tryd.prog G 72 (isa_number.f G k)
  | 0 => sound_zero isa_number.here (fun _ _ => rfl)
  | k + 1 => sound_succ (l := isa_number.env G k (isa_number.f G k)) (ann := isa_number.ann) (n := k) (envSound_of hG envNil) orders Tryd.func72 (by kernel_rfl) (by kernel_rfl) rfl (by kernel_rfl) (arg1_of fun x0 h => isa_number.eq G k _ x0 h)
theorem isa_Word.here : ∃ fn, Tryd.prog.funcs[40]? = some fn ∧ fn.body.isSome = true ∧ (fn.name == "runtime.NumGoroutine") = false := ⟨_, Tryd.func40, by kernel_rfl, by kernel_rfl⟩
theorem isa_Word.eq (G : Globs) (k : Nat) (self : Den) (x0 : AV) (h : AHeap) : absFn Tryd.prog G (envL (isa_Word.env G k self)) isa_Word.ann Tryd.f40.results.toList (codeOf Tryd.f40) Tryd.f40.ntmps k [x0] h = isa_Word.c G k self x0 h := by kernel_rfl
theorem isa_Word.sound {G : Globs} (hG : ∀ g x, G g = some x → plainB x = true) : ∀ k, Sound Tryd.prog G 40 (isa_Word.f G k)
  | 0 => sound_zero isa_Word.here (fun _ _ => rfl)
  | k + 1 => sound_succ (l := isa_Word.env G k (isa_Word.f G k)) (ann := isa_Word.ann) (n := k) (envSound_of hG (envCons (isa_of.sound hG k) (envCons (isa_fair.sound hG k) (envCons (isa_number.sound hG k) envNil)))) orders Tryd.func40 (by kernel_rfl) (by kernel_rfl) rfl (by kernel_rfl) (arg1_of fun x0 h => isa_Word.eq G k _ x0 h)
theorem isa_field.here : ∃ fn, Tryd.prog.funcs[88]? = some fn ∧ fn.body.isSome = true ∧ (fn.name == "runtime.NumGoroutine") = false := ⟨_, Tryd.func88, by kernel_rfl, by kernel_rfl⟩
theorem isa_field.eq (G : Globs) (k : Nat) (self : Den) (x0 x1 x2 : AV) (h : AHeap) : absFn Tryd.prog G (envL (isa_field.env G k self)) isa_field.ann Tryd.f88.results.toList (codeOf Tryd.f88) Tryd.f88.ntmps k [x0, x1, x2] h = isa_field.c G k self x0 x1 x2 h := by kernel_rfl
theorem isa_field.sound {G : Globs} (hG : ∀ g x, G g = some x → plainB x = true) : ∀ k, Sound Tryd.prog G 88 (isa_field.f G k)
  | 0 => sound_zero isa_field.here (fun _ _ => rfl)
  | k + 1 => sound_succ (l := isa_field.env G k (isa_field.f G k)) (ann := isa_field.ann) (n := k) (envSound_of hG envNil) orders Tryd.func88 (by kernel_rfl) (by kernel_rfl) rfl (by kernel_rfl) (arg3_of fun x0 x1 x2 h => isa_field.eq G k _ x0 x1 x2 h)
theorem isa_sign.here : ∃ fn, Tryd.prog.funcs[105]? = some fn ∧ fn.body.isSome = true ∧ (fn.name == "runtime.NumGoroutine") = false := ⟨_, Tryd.func105, by kernel_rfl, by kernel_rfl⟩
theorem isa_sign.eq (G : Globs) (k : Nat) (self : Den) (x0 x1 : AV) (h : AHeap) : absFn Tryd.prog G (envL (isa_sign.env G k self)) isa_sign.ann Tryd.f105.results.toList (codeOf Tryd.f105) Tryd.f105.ntmps k [x0, x1] h = isa_sign.c G k self x0 x1 h := by kernel_rfl
theorem isa_sign.sound {G : Globs} (hG : ∀ g x, G g = some x → plainB x = true) : ∀ k, Sound Tryd.prog G 105 (isa_sign.f G k)
  | 0 => sound_zero isa_sign.here (fun _ _ => rfl)
  | k + 1 => sound_succ (l := isa_sign.env G k (isa_sign.f G k)) (ann := isa_sign.ann) (n := k) (envSound_of hG envNil) orders Tryd.func105 (by kernel_rfl) (by kernel_rfl) rfl (by kernel_rfl) (arg2_of fun x0 x1 h => isa_sign.eq G k _ x0 x1 h)
theorem isa_extras.here : ∃ fn, Tryd.prog.funcs[89]? = some fn ∧ fn.body.isSome = true ∧ (fn.name == "runtime.NumGoroutine") = false := ⟨_, Tryd.func89, by kernel_rfl, by kernel_rfl⟩
theorem isa_extras.eq (G : Globs) (k : Nat) (self : Den) (x0 x1 : AV) (h : AHeap) : absFn Tryd.prog G (envL (isa_extras.env G k self)) isa_extras.ann Tryd.f89.results.toList (codeOf Tryd.f89) Tryd.f89.ntmps k [x0, x1] h = isa_extras.c G k self x0 x1 h := by kernel_rfl
theorem isa_extras.sound {G : Globs} (hG : ∀ g x, G g = some x → plainB x = true) : ∀ k, Sound Tryd.prog G 89 (isa_extras.f G k)
  | 0 => sound_zero isa_extras.here (fun _ _ => rfl)
  | k + 1 => sound_succ (l := isa_extras.env G k (isa_extras.f G k)) (ann := isa_extras.ann) (n := k) (envSound_of hG (envCons (isa_field.sound hG k) (envCons (isa_sign.sound hG k) envNil))) orders Tryd.func89 (by kernel_rfl) (by kernel_rfl) rfl (by kernel_rfl) (arg2_of fun x0 x1 h => isa_extras.eq G k _ x0 x1 h)
theorem isa_as.here : ∃ fn, Tryd.prog.funcs[63]? = some fn ∧ fn.body.isSome = true ∧ (fn.name == "runtime.NumGoroutine") = false := ⟨_, Tryd.func63, by kernel_rfl, by kernel_rfl⟩
theorem isa_as.eq (G : Globs) (k : Nat) (self : Den) (x0 x1 : AV) (h : AHeap) : absFn Tryd.prog G (envL (isa_as.env G k self)) isa_as.ann Tryd.f63.results.toList (codeOf Tryd.f63) Tryd.f63.ntmps k [x0, x1] h = isa_as.c G k self x0 x1 h := by kernel_rfl
theorem isa_as.sound {G : Globs} (hG : ∀ g x, G g = some x → plainB x = true) : ∀ k, Sound Tryd.prog G 63 (isa_as.f G k)
  | 0 => sound_zero isa_as.here (fun _ _ => rfl)
  | k + 1 => sound_succ (l := isa_as.env G k (isa_as.f G k)) (ann := isa_as.ann) (n := k) (envSound_of hG (envCons (isa_Word.sound hG k) (envCons (isa_of.sound hG k) (envCons (isa_field.sound hG k) (envCons (isa_extras.sound hG k) envNil))))) orders Tryd.func63 (by kernel_rfl) (by kernel_rfl) rfl (by kernel_rfl) (arg2_of fun x0 x1 h => isa_as.eq G k _ x0 x1 h)
theorem isa_Of.here : ∃ fn, Tryd.prog.funcs[37]? = some fn ∧ fn.body.isSome = true ∧ (fn.name == "runtime.NumGoroutine") = false := ⟨_, Tryd.func37, by kernel_rfl, by kernel_rfl⟩
theorem isa_Of.eq (G : Globs) (k : Nat) (self : Den) (x0 : AV) (h : AHeap) : absFn Tryd.prog G (envL (isa_Of.env G k self)) isa_Of.ann Tryd.f37.results.toList (codeOf Tryd.f37) Tryd.f37.ntmps k [x0] h = isa_Of.c G k self x0 h := by kernel_rfl
theorem isa_Of.sound {G : Globs} (hG : ∀ g x, G g = some x → plainB x = true) : ∀ k, Sound Tryd.prog G 37 (isa_Of.f G k)
  | 0 => sound_zero isa_Of.here (fun _ _ => rfl)
  | k + 1 => sound_succ (l := isa_Of.env G k (isa_Of.f G k)) (ann := isa_Of.ann) (n := k) (envSound_of hG (envCons (isa_as.sound hG k) envNil)) orders Tryd.func37 (by kernel_rfl) (by kernel_rfl) rfl (by kernel_rfl) (arg1_of fun x0 h => isa_Of.eq G k _ x0 h)
theorem alembicref17_partsOf.here : ∃ fn, Tryd.prog.funcs[79]? = some fn ∧ fn.body.isSome = true ∧ (fn.name == "runtime.NumGoroutine") = false := ⟨_, Tryd.func79, by kernel_rfl, by kernel_rfl⟩
theorem alembicref17_partsOf.eq (G : Globs) (k : Nat) (self : Den) (x0 : AV) (h : AHeap) : absFn Tryd.prog G (envL (alembicref17_partsOf.env G k self)) alembicref17_partsOf.ann Tryd.f79.results.toList (codeOf Tryd.f79) Tryd.f79.ntmps k [x0] h = alembicref17_partsOf.c G k self x0 h := by kernel_rfl
theorem alembicref17_partsOf.sound {G : Globs} (hG : ∀ g x, G g = some x → plainB x = true) : ∀ k, Sound Tryd.prog G 79 (alembicref17_partsOf.f G k)
  | 0 => sound_zero alembicref17_partsOf.here (fun _ _ => rfl)
  | k + 1 => sound_succ (l := alembicref17_partsOf.env G k (alembicref17_partsOf.f G k)) (ann := alembicref17_partsOf.ann) (n := k) (envSound_of hG envNil) orders Tryd.func79 (by kernel_rfl) (by kernel_rfl) rfl (by kernel_rfl) (arg1_of fun x0 h => alembicref17_partsOf.eq G k _ x0 h)
theorem alembicref17_reg.here : ∃ fn, Tryd.prog.funcs[99]? = some fn ∧ fn.body.isSome = true ∧ (fn.name == "runtime.NumGoroutine") = false := ⟨_, Tryd.func99, by kernel_rfl, by kernel_rfl⟩
theorem alembicref17_reg.eq (G : Globs) (k : Nat) (self : Den) (x0 x1 : AV) (h : AHeap) : absFn Tryd.prog G (envL (alembicref17_reg.env G k self)) alembicref17_reg.ann Tryd.f99.results.toList (codeOf Tryd.f99) Tryd.f99.ntmps k [x0, x1] h = alembicref17_reg.c G k self x0 x1 h := by kernel_rfl
theorem alembicref17_reg.sound {G : Globs} (hG : ∀ g x, G g = some x → plainB x = true) : ∀ k, Sound Tryd.prog G 99 (alembicref17_reg.f G k)
  | 0 => sound_zero alembicref17_reg.here (fun _ _ => rfl)
  | k + 1 => sound_succ (l := alembicref17_reg.env G k (alembicref17_reg.f G k)) (ann := alembicref17_reg.ann) (n := k) (envSound_of hG envNil) orders Tryd.func99 (by kernel_rfl) (by kernel_rfl) rfl (by kernel_rfl) (arg2_of fun x0 x1 h => alembicref17_reg.eq G k _ x0 x1 h)
theorem alembicref17_cond.here : ∃ fn, Tryd.prog.funcs[100]? = some fn ∧ fn.body.isSome = true ∧ (fn.name == "runtime.NumGoroutine") = false := ⟨_, Tryd.func100, by kernel_rfl, by kernel_rfl⟩
theorem alembicref17_cond.eq (G : Globs) (k : Nat) (self : Den) (x0 : AV) (h : AHeap) : absFn Tryd.prog G (envL (alembicref17_cond.env G k self)) alembicref17_cond.ann Tryd.f100.results.toList (codeOf Tryd.f100) Tryd.f100.ntmps k [x0] h = alembicref17_cond.c G k self x0 h := by kernel_rfl
theorem alembicref17_cond.sound {G : Globs} (hG : ∀ g x, G g = some x → plainB x = true) : ∀ k, Sound Tryd.prog G 100 (alembicref17_cond.f G k)
  | 0 => sound_zero alembicref17_cond.here (fun _ _ => rfl)
  | k + 1 => sound_succ (l := alembicref17_cond.env G k (alembicref17_cond.f G k)) (ann := alembicref17_cond.ann) (n := k) (envSound_of hG envNil) orders Tryd.func100 (by kernel_rfl) (by kernel_rfl) rfl (by kernel_rfl) (arg1_of fun x0 h => alembicref17_cond.eq G k _ x0 h)
theorem alembicref17_far.here : ∃ fn, Tryd.prog.funcs[101]? = some fn ∧ fn.body.isSome = true ∧ (fn.name == "runtime.NumGoroutine") = false := ⟨_, Tryd.func101, by kernel_rfl, by kernel_rfl⟩
theorem alembicref17_far.eq (G : Globs) (k : Nat) (self : Den) (x0 x1 : AV) (h : AHeap) : absFn Tryd.prog G (envL (alembicref17_far.env G k self)) alembicref17_far.ann Tryd.f101.results.toList (codeOf Tryd.f101) Tryd.f101.ntmps k [x0, x1] h = alembicref17_far.c G k self x0 x1 h := by kernel_rfl
theorem alembicref17_far.sound {G : Globs} (hG : ∀ g x, G g = some x → plainB x = true) : ∀ k, Sound Tryd.prog G 101 (alembicref17_far.f G k)
  | 0 => sound_zero alembicref17_far.here (fun _ _ => rfl)
  | k + 1 => sound_succ (l := alembicref17_far.env G k (alembicref17_far.f G k)) (ann := alembicref17_far.ann) (n := k) (envSound_of hG envNil) orders Tryd.func101 (by kernel_rfl) (by kernel_rfl) rfl (by kernel_rfl) (arg2_of fun x0 x1 h => alembicref17_far.eq G k _ x0 x1 h)
theorem alembicref17_right.here : ∃ fn, Tryd.prog.funcs[78]? = some fn ∧ fn.body.isSome = true ∧ (fn.name == "runtime.NumGoroutine") = false := ⟨_, Tryd.func78, by kernel_rfl, by kernel_rfl⟩
theorem alembicref17_right.eq (G : Globs) (k : Nat) (self : Den) (x0 : AV) (h : AHeap) : absFn Tryd.prog G (envL (alembicref17_right.env G k self)) alembicref17_right.ann Tryd.f78.results.toList (codeOf Tryd.f78) Tryd.f78.ntmps k [x0] h = alembicref17_right.c G k self x0 h := by kernel_rfl
theorem alembicref17_right.sound {G : Globs} (hG : ∀ g x, G g = some x → plainB x = true) : ∀ k, Sound Tryd.prog G 78 (alembicref17_right.f G k)
  | 0 => sound_zero alembicref17_right.here (fun _ _ => rfl)
  | k + 1 => sound_succ (l := alembicref17_right.env G k (alembicref17_right.f G k)) (ann := alembicref17_right.ann) (n := k) (envSound_of hG (envCons (alembicref17_partsOf.sound hG k) (envCons (alembicref17_reg.sound hG k) (envCons (alembicref17_cond.sound hG k) (envCons (alembicref17_far.sound hG k) envNil))))) orders Tryd.func78 (by kernel_rfl) (by kernel_rfl) rfl (by kernel_rfl) (arg1_of fun x0 h => alembicref17_right.eq G k _ x0 h)
theorem alembicref17_base.here : ∃ fn, Tryd.prog.funcs[80]? = some fn ∧ fn.body.isSome = true ∧ (fn.name == "runtime.NumGoroutine") = false := ⟨_, Tryd.func80, by kernel_rfl, by kernel_rfl⟩
theorem alembicref17_base.eq (G : Globs) (k : Nat) (self : Den) (x0 : AV) (h : AHeap) : absFn Tryd.prog G (envL (alembicref17_base.env G k self)) alembicref17_base.ann Tryd.f80.results.toList (codeOf Tryd.f80) Tryd.f80.ntmps k [x0] h = alembicref17_base.c G k self x0 h := by kernel_rfl
theorem alembicref17_base.sound {G : Globs} (hG : ∀ g x, G g = some x → plainB x = true) : ∀ k, Sound Tryd.prog G 80 (alembicref17_base.f G k)
  | 0 => sound_zero alembicref17_base.here (fun _ _ => rfl)
  | k + 1 => sound_succ (l := alembicref17_base.env G k (alembicref17_base.f G k)) (ann := alembicref17_base.ann) (n := k) (envSound_of hG envNil) orders Tryd.func80 (by kernel_rfl) (by kernel_rfl) rfl (by kernel_rfl) (arg1_of fun x0 h => alembicref17_base.eq G k _ x0 h)
theorem alembicref17_Word.here : ∃ fn, Tryd.prog.funcs[55]? = some fn ∧ fn.body.isSome = true ∧ (fn.name == "runtime.NumGoroutine") = false := ⟨_, Tryd.func55, by kernel_rfl, by kernel_rfl⟩
theorem alembicref17_Word.eq (G : Globs) (k : Nat) (self : Den) (x0 : AV) (h : AHeap) : absFn Tryd.prog G (envL (alembicref17_Word.env G k self)) alembicref17_Word.ann Tryd.f55.results.toList (codeOf Tryd.f55) Tryd.f55.ntmps k [x0] h = alembicref17_Word.c G k self x0 h := by kernel_rfl
theorem alembicref17_Word.sound {G : Globs} (hG : ∀ g x, G g = some x → plainB x = true) : ∀ k, Sound Tryd.prog G 55 (alembicref17_Word.f G k)
  | 0 => sound_zero alembicref17_Word.here (fun _ _ => rfl)
  | k + 1 => sound_succ (l := alembicref17_Word.env G k (alembicref17_Word.f G k)) (ann := alembicref17_Word.ann) (n := k) (envSound_of hG (envCons (alembicref17_right.sound hG k) (envCons (alembicref17_partsOf.sound hG k) (envCons (alembicref17_base.sound hG k) envNil)))) orders Tryd.func55 (by kernel_rfl) (by kernel_rfl) rfl (by kernel_rfl) (arg1_of fun x0 h => alembicref17_Word.eq G k _ x0 h)
theorem alembicref17_signed.here : ∃ fn, Tryd.prog.funcs[98]? = some fn ∧ fn.body.isSome = true ∧ (fn.name == "runtime.NumGoroutine") = false := ⟨_, Tryd.func98, by kernel_rfl, by kernel_rfl⟩
theorem alembicref17_signed.eq (G : Globs) (k : Nat) (self : Den) (x0 x1 : AV) (h : AHeap) : absFn Tryd.prog G (envL (alembicref17_signed.env G k self)) alembicref17_signed.ann Tryd.f98.results.toList (codeOf Tryd.f98) Tryd.f98.ntmps k [x0, x1] h = alembicref17_signed.c G k self x0 x1 h := by kernel_rfl
theorem alembicref17_signed.sound {G : Globs} (hG : ∀ g x, G g = some x → plainB x = true) : ∀ k, Sound Tryd.prog G 98 (alembicref17_signed.f G k)
  | 0 => sound_zero alembicref17_signed.here (fun _ _ => rfl)
  | k + 1 => sound_succ (l := alembicref17_signed.env G k (alembicref17_signed.f G k)) (ann := alembicref17_signed.ann) (n := k) (envSound_of hG envNil) orders Tryd.func98 (by kernel_rfl) (by kernel_rfl) rfl (by kernel_rfl) (arg2_of fun x0 x1 h => alembicref17_signed.eq G k _ x0 x1 h)
theorem alembicref17_as.here : ∃ fn, Tryd.prog.funcs[77]? = some fn ∧ fn.body.isSome = true ∧ (fn.name == "runtime.NumGoroutine") = false := ⟨_, Tryd.func77, by kernel_rfl, by kernel_rfl⟩
theorem alembicref17_as.eq (G : Globs) (k : Nat) (self : Den) (x0 x1 : AV) (h : AHeap) : absFn Tryd.prog G (envL (alembicref17_as.env G k self)) alembicref17_as.ann Tryd.f77.results.toList (codeOf Tryd.f77) Tryd.f77.ntmps k [x0, x1] h = alembicref17_as.c G k self x0 x1 h := by kernel_rfl
theorem alembicref17_as.sound {G : Globs} (hG : ∀ g x, G g = some x → plainB x = true) : ∀ k, Sound Tryd.prog G 77 (alembicref17_as.f G k)
  | 0 => sound_zero alembicref17_as.here (fun _ _ => rfl)
  | k + 1 => sound_succ (l := alembicref17_as.env G k (alembicref17_as.f G k)) (ann := alembicref17_as.ann) (n := k) (envSound_of hG (envCons (alembicref17_Word.sound hG k) (envCons (alembicref17_partsOf.sound hG k) (envCons (alembicref17_signed.sound hG k) envNil)))) orders Tryd.func77 (by kernel_rfl) (by kernel_rfl) rfl (by kernel_rfl) (arg2_of fun x0 x1 h => alembicref17_as.eq G k _ x0 x1 h)
theorem alembicref17_Of.here : ∃ fn, Tryd.prog.funcs[51]? = some fn ∧ fn.body.isSome = true ∧ (fn.name == "runtime.NumGoroutine") = false := ⟨_, Tryd.func51, by kernel_rfl, by kernel_rfl⟩
theorem alembicref17_Of.eq (G : Globs) (k : Nat) (self : Den) (x0 : AV) (h : AHeap) : absFn Tryd.prog G (envL (alembicref17_Of.env G k self)) alembicref17_Of.ann Tryd.f51.results.toList (codeOf Tryd.f51) Tryd.f51.ntmps k [x0] h = alembicref17_Of.c G k self x0 h := by kernel_rfl
theorem alembicref17_Of.sound {G : Globs} (hG : ∀ g x, G g = some x → plainB x = true) : ∀ k, Sound Tryd.prog G 51 (alembicref17_Of.f G k)
  | 0 => sound_zero alembicref17_Of.here (fun _ _ => rfl)
  | k + 1 => sound_succ (l := alembicref17_Of.env G k (alembicref17_Of.f G k)) (ann := alembicref17_Of.ann) (n := k) (envSound_of hG (envCons (alembicref17_as.sound hG k) envNil)) orders Tryd.func51 (by kernel_rfl) (by kernel_rfl) rfl (by kernel_rfl) (arg1_of fun x0 h => alembicref17_Of.eq G k _ x0 h)
theorem mach_Holds.here : ∃ fn, Tryd.prog.funcs[33]? = some fn ∧ fn.body.isSome = true ∧ (fn.name == "runtime.NumGoroutine") = false := ⟨_, Tryd.func33, by kernel_rfl, by kernel_rfl⟩
theorem mach_Holds.eq (G : Globs) (k : Nat) (self : Den) (x0 x1 : AV) (h : AHeap) : absFn Tryd.prog G (envL (mach_Holds.env G k self)) mach_Holds.ann Tryd.f33.results.toList (codeOf Tryd.f33) Tryd.f33.ntmps k [x0, x1] h = mach_Holds.c G k self x0 x1 h := by kernel_rfl
theorem mach_Holds.sound {G : Globs} (hG : ∀ g x, G g = some x → plainB x = true) : ∀ k, Sound Tryd.prog G 33 (mach_Holds.f G k)
  | 0 => sound_zero mach_Holds.here (fun _ _ => rfl)
  | k + 1 => sound_succ (l := mach_Holds.env G k (mach_Holds.f G k)) (ann := mach_Holds.ann) (n := k) (envSound_of hG envNil) orders Tryd.func33 (by kernel_rfl) (by kernel_rfl) rfl (by kernel_rfl) (arg2_of fun x0 x1 h => mach_Holds.eq G k _ x0 x1 h)
theorem mach_get.here : ∃ fn, Tryd.prog.funcs[83]? = some fn ∧ fn.body.isSome = true ∧ (fn.name == "runtime.NumGoroutine") = false := ⟨_, Tryd.func83, by kernel_rfl, by kernel_rfl⟩
theorem mach_get.eq (G : Globs) (k : Nat) (self : Den) (x0 x1 : AV) (h : AHeap) : absFn Tryd.prog G (envL (mach_get.env G k self)) mach_get.ann Tryd.f83.results.toList (codeOf Tryd.f83) Tryd.f83.ntmps k [x0, x1] h = mach_get.c G k self x0 x1 h := by kernel_rfl
theorem mach_get.sound {G : Globs} (hG : ∀ g x, G g = some x → plainB x = true) : ∀ k, Sound Tryd.prog G 83 (mach_get.f G k)
  | 0 => sound_zero mach_get.here (fun _ _ => rfl)
  | k + 1 => sound_succ (l := mach_get.env G k (mach_get.f G k)) (ann := mach_get.ann) (n := k) (envSound_of hG envNil) orders Tryd.func83 (by kernel_rfl) (by kernel_rfl) rfl (by kernel_rfl) (arg2_of fun x0 x1 h => mach_get.eq G k _ x0 x1 h)
theorem mach_less.here : ∃ fn, Tryd.prog.funcs[84]? = some fn ∧ fn.body.isSome = true ∧ (fn.name == "runtime.NumGoroutine") = false := ⟨_, Tryd.func84, by kernel_rfl, by kernel_rfl⟩
theorem mach_less.eq (G : Globs) (k : Nat) (self : Den) (x0 x1 : AV) (h : AHeap) : absFn Tryd.prog G (envL (mach_less.env G k self)) mach_less.ann Tryd.f84.results.toList (codeOf Tryd.f84) Tryd.f84.ntmps k [x0, x1] h = mach_less.c G k self x0 x1 h := by kernel_rfl
theorem mach_less.sound {G : Globs} (hG : ∀ g x, G g = some x → plainB x = true) : ∀ k, Sound Tryd.prog G 84 (mach_less.f G k)
  | 0 => sound_zero mach_less.here (fun _ _ => rfl)
  | k + 1 => sound_succ (l := mach_less.env G k (mach_less.f G k)) (ann := mach_less.ann) (n := k) (envSound_of hG envNil) orders Tryd.func84 (by kernel_rfl) (by kernel_rfl) rfl (by kernel_rfl) (arg2_of fun x0 x1 h => mach_less.eq G k _ x0 x1 h)
theorem mach_set.here : ∃ fn, Tryd.prog.funcs[85]? = some fn ∧ fn.body.isSome = true ∧ (fn.name == "runtime.NumGoroutine") = false := ⟨_, Tryd.func85, by kernel_rfl, by kernel_rfl⟩
theorem mach_set.eq (G : Globs) (k : Nat) (self : Den) (x0 x1 x2 : AV) (h : AHeap) : absFn Tryd.prog G (envL (mach_set.env G k self)) mach_set.ann Tryd.f85.results.toList (codeOf Tryd.f85) Tryd.f85.ntmps k [x0, x1, x2] h = mach_set.c G k self x0 x1 x2 h := by kernel_rfl
theorem mach_set.sound {G : Globs} (hG : ∀ g x, G g = some x → plainB x = true) : ∀ k, Sound Tryd.prog G 85 (mach_set.f G k)
  | 0 => sound_zero mach_set.here (fun _ _ => rfl)
  | k + 1 => sound_succ (l := mach_set.env G k (mach_set.f G k)) (ann := mach_set.ann) (n := k) (envSound_of hG envNil) orders Tryd.func85 (by kernel_rfl) (by kernel_rfl) rfl (by kernel_rfl) (arg3_of fun x0 x1 x2 h => mach_set.eq G k _ x0 x1 x2 h)
theorem math_bits_Mul64.here : ∃ fn, Tryd.prog.funcs[56]? = some fn ∧ fn.body.isSome = true ∧ (fn.name == "runtime.NumGoroutine") = false := ⟨_, Tryd.func56, by kernel_rfl, by kernel_rfl⟩
theorem math_bits_Mul64.eq (G : Globs) (k : Nat) (self : Den) (x0 x1 : AV) (h : AHeap) : absFn Tryd.prog G (envL (math_bits_Mul64.env G k self)) math_bits_Mul64.ann Tryd.f56.results.toList (codeOf Tryd.f56) Tryd.f56.ntmps k [x0, x1] h = math_bits_Mul64.c G k self x0 x1 h := by kernel_rfl
theorem math_bits_Mul64.sound {G : Globs} (hG : ∀ g x, G g = some x → plainB x = true) : ∀ k, Sound Tryd.prog G 56 (math_bits_Mul64.f G k)
  | 0 => sound_zero math_bits_Mul64.here (fun _ _ => rfl)
  | k + 1 => sound_succ (l := math_bits_Mul64.env G k (math_bits_Mul64.f G k)) (ann := math_bits_Mul64.ann) (n := k) (envSound_of hG envNil) orders Tryd.func56 (by kernel_rfl) (by kernel_rfl) rfl (by kernel_rfl) (arg2_of fun x0 x1 h => math_bits_Mul64.eq G k _ x0 x1 h)
theorem mach_made.here : ∃ fn, Tryd.prog.funcs[86]? = some fn ∧ fn.body.isSome = true ∧ (fn.name == "runtime.NumGoroutine") = false := ⟨_, Tryd.func86, by kernel_rfl, by kernel_rfl⟩
theorem mach_made.eq (G : Globs) (k : Nat) (self : Den) (x0 x1 x2 x3 x4 x5 : AV) (h : AHeap) : absFn Tryd.prog G (envL (mach_made.env G k self)) mach_made.ann Tryd.f86.results.toList (codeOf Tryd.f86) Tryd.f86.ntmps k [x0, x1, x2, x3, x4, x5] h = mach_made.c G k self x0 x1 x2 x3 x4 x5 h := by kernel_rfl
theorem mach_made.sound {G : Globs} (hG : ∀ g x, G g = some x → plainB x = true) : ∀ k, Sound Tryd.prog G 86 (mach_made.f G k)
  | 0 => sound_zero mach_made.here (fun _ _ => rfl)
  | k + 1 => sound_succ (l := mach_made.env G k (mach_made.f G k)) (ann := mach_made.ann) (n := k) (envSound_of hG (envCons (math_bits_Mul64.sound hG k) envNil)) orders Tryd.func86 (by kernel_rfl) (by kernel_rfl) rfl (by kernel_rfl) (arg6_of fun x0 x1 x2 x3 x4 x5 h => mach_made.eq G k _ x0 x1 x2 x3 x4 x5 h)
theorem mach_does.here : ∃ fn, Tryd.prog.funcs[60]? = some fn ∧ fn.body.isSome = true ∧ (fn.name == "runtime.NumGoroutine") = false := ⟨_, Tryd.func60, by kernel_rfl, by kernel_rfl⟩
theorem mach_does.eq (G : Globs) (k : Nat) (self : Den) (x0 x1 x2 : AV) (h : AHeap) : absFn Tryd.prog G (envL (mach_does.env G k self)) mach_does.ann Tryd.f60.results.toList (codeOf Tryd.f60) Tryd.f60.ntmps k [x0, x1, x2] h = mach_does.c G k self x0 x1 x2 h := by kernel_rfl
theorem mach_does.sound {G : Globs} (hG : ∀ g x, G g = some x → plainB x = true) : ∀ k, Sound Tryd.prog G 60 (mach_does.f G k)
  | 0 => sound_zero mach_does.here (fun _ _ => rfl)
  | k + 1 => sound_succ (l := mach_does.env G k (mach_does.f G k)) (ann := mach_does.ann) (n := k) (envSound_of hG (envCons (mach_Holds.sound hG k) (envCons (mach_get.sound hG k) (envCons (mach_less.sound hG k) (envCons (mach_set.sound hG k) (envCons (mach_made.sound hG k) envNil)))))) orders Tryd.func60 (by kernel_rfl) (by kernel_rfl) rfl (by kernel_rfl) (arg3_of fun x0 x1 x2 h => mach_does.eq G k _ x0 x1 x2 h)
theorem mach_One.here : ∃ fn, Tryd.prog.funcs[32]? = some fn ∧ fn.body.isSome = true ∧ (fn.name == "runtime.NumGoroutine") = false := ⟨_, Tryd.func32, by kernel_rfl, by kernel_rfl⟩
theorem mach_One.eq (G : Globs) (k : Nat) (self : Den) (x0 x1 x2 : AV) (h : AHeap) : absFn Tryd.prog G (envL (mach_One.env G k self)) mach_One.ann Tryd.f32.results.toList (codeOf Tryd.f32) Tryd.f32.ntmps k [x0, x1, x2] h = mach_One.c G k self x0 x1 x2 h := by kernel_rfl
theorem mach_One.sound {G : Globs} (hG : ∀ g x, G g = some x → plainB x = true) : ∀ k, Sound Tryd.prog G 32 (mach_One.f G k)
  | 0 => sound_zero mach_One.here (fun _ _ => rfl)
  | k + 1 => sound_succ (l := mach_One.env G k (mach_One.f G k)) (ann := mach_One.ann) (n := k) (envSound_of hG (envCons (isa_Word.sound hG k) (envCons (mach_does.sound hG k) envNil))) orders Tryd.func32 (by kernel_rfl) (by kernel_rfl) rfl (by kernel_rfl) (arg3_of fun x0 x1 x2 h => mach_One.eq G k _ x0 x1 x2 h)
theorem alembicref17_Holds.here : ∃ fn, Tryd.prog.funcs[34]? = some fn ∧ fn.body.isSome = true ∧ (fn.name == "runtime.NumGoroutine") = false := ⟨_, Tryd.func34, by kernel_rfl, by kernel_rfl⟩
theorem alembicref17_Holds.eq (G : Globs) (k : Nat) (self : Den) (x0 x1 : AV) (h : AHeap) : absFn Tryd.prog G (envL (alembicref17_Holds.env G k self)) alembicref17_Holds.ann Tryd.f34.results.toList (codeOf Tryd.f34) Tryd.f34.ntmps k [x0, x1] h = alembicref17_Holds.c G k self x0 x1 h := by kernel_rfl
theorem alembicref17_Holds.sound {G : Globs} (hG : ∀ g x, G g = some x → plainB x = true) : ∀ k, Sound Tryd.prog G 34 (alembicref17_Holds.f G k)
  | 0 => sound_zero alembicref17_Holds.here (fun _ _ => rfl)
  | k + 1 => sound_succ (l := alembicref17_Holds.env G k (alembicref17_Holds.f G k)) (ann := alembicref17_Holds.ann) (n := k) (envSound_of hG envNil) orders Tryd.func34 (by kernel_rfl) (by kernel_rfl) rfl (by kernel_rfl) (arg2_of fun x0 x1 h => alembicref17_Holds.eq G k _ x0 x1 h)
theorem alembicref17_get.here : ∃ fn, Tryd.prog.funcs[52]? = some fn ∧ fn.body.isSome = true ∧ (fn.name == "runtime.NumGoroutine") = false := ⟨_, Tryd.func52, by kernel_rfl, by kernel_rfl⟩
theorem alembicref17_get.eq (G : Globs) (k : Nat) (self : Den) (x0 x1 : AV) (h : AHeap) : absFn Tryd.prog G (envL (alembicref17_get.env G k self)) alembicref17_get.ann Tryd.f52.results.toList (codeOf Tryd.f52) Tryd.f52.ntmps k [x0, x1] h = alembicref17_get.c G k self x0 x1 h := by kernel_rfl
theorem alembicref17_get.sound {G : Globs} (hG : ∀ g x, G g = some x → plainB x = true) : ∀ k, Sound Tryd.prog G 52 (alembicref17_get.f G k)
  | 0 => sound_zero alembicref17_get.here (fun _ _ => rfl)
  | k + 1 => sound_succ (l := alembicref17_get.env G k (alembicref17_get.f G k)) (ann := alembicref17_get.ann) (n := k) (envSound_of hG envNil) orders Tryd.func52 (by kernel_rfl) (by kernel_rfl) rfl (by kernel_rfl) (arg2_of fun x0 x1 h => alembicref17_get.eq G k _ x0 x1 h)
theorem alembicref17_set.here : ∃ fn, Tryd.prog.funcs[53]? = some fn ∧ fn.body.isSome = true ∧ (fn.name == "runtime.NumGoroutine") = false := ⟨_, Tryd.func53, by kernel_rfl, by kernel_rfl⟩
theorem alembicref17_set.eq (G : Globs) (k : Nat) (self : Den) (x0 x1 x2 : AV) (h : AHeap) : absFn Tryd.prog G (envL (alembicref17_set.env G k self)) alembicref17_set.ann Tryd.f53.results.toList (codeOf Tryd.f53) Tryd.f53.ntmps k [x0, x1, x2] h = alembicref17_set.c G k self x0 x1 x2 h := by kernel_rfl
theorem alembicref17_set.sound {G : Globs} (hG : ∀ g x, G g = some x → plainB x = true) : ∀ k, Sound Tryd.prog G 53 (alembicref17_set.f G k)
  | 0 => sound_zero alembicref17_set.here (fun _ _ => rfl)
  | k + 1 => sound_succ (l := alembicref17_set.env G k (alembicref17_set.f G k)) (ann := alembicref17_set.ann) (n := k) (envSound_of hG envNil) orders Tryd.func53 (by kernel_rfl) (by kernel_rfl) rfl (by kernel_rfl) (arg3_of fun x0 x1 x2 h => alembicref17_set.eq G k _ x0 x1 x2 h)
theorem alembicref17_One.here : ∃ fn, Tryd.prog.funcs[25]? = some fn ∧ fn.body.isSome = true ∧ (fn.name == "runtime.NumGoroutine") = false := ⟨_, Tryd.func25, by kernel_rfl, by kernel_rfl⟩
theorem alembicref17_One.eq (G : Globs) (k : Nat) (self : Den) (x0 x1 x2 : AV) (h : AHeap) : absFn Tryd.prog G (envL (alembicref17_One.env G k self)) alembicref17_One.ann Tryd.f25.results.toList (codeOf Tryd.f25) Tryd.f25.ntmps k [x0, x1, x2] h = alembicref17_One.c G k self x0 x1 x2 h := by kernel_rfl
theorem alembicref17_One.sound {G : Globs} (hG : ∀ g x, G g = some x → plainB x = true) : ∀ k, Sound Tryd.prog G 25 (alembicref17_One.f G k)
  | 0 => sound_zero alembicref17_One.here (fun _ _ => rfl)
  | k + 1 => sound_succ (l := alembicref17_One.env G k (alembicref17_One.f G k)) (ann := alembicref17_One.ann) (n := k) (envSound_of hG (envCons (alembicref17_Holds.sound hG k) (envCons (alembicref17_get.sound hG k) (envCons (alembicref17_set.sound hG k) (envCons (alembicref17_Word.sound hG k) (envCons (math_bits_Mul64.sound hG k) envNil)))))) orders Tryd.func25 (by kernel_rfl) (by kernel_rfl) rfl (by kernel_rfl) (arg3_of fun x0 x1 x2 h => alembicref17_One.eq G k _ x0 x1 x2 h)
theorem slices_Clone___uint64uint64_.here : ∃ fn, Tryd.prog.funcs[57]? = some fn ∧ fn.body.isSome = true ∧ (fn.name == "runtime.NumGoroutine") = false := ⟨_, Tryd.func57, by kernel_rfl, by kernel_rfl⟩
theorem slices_Clone___uint64uint64_.eq (G : Globs) (k : Nat) (self : Den) (x0 : AV) (h : AHeap) : absFnO Tryd.prog G (envL (slices_Clone___uint64uint64_.env G k self)) slices_Clone___uint64uint64_.ann Tryd.f57.results.toList (codeOf Tryd.f57) Tryd.f57.ntmps k [x0] h = slices_Clone___uint64uint64_.c G k self x0 h := by kernel_rfl
theorem slices_Clone___uint64uint64_.sound {G : Globs} (hG : ∀ g x, G g = some x → plainB x = true) : ∀ k, Sound Tryd.prog G 57 (slices_Clone___uint64uint64_.f G k)
  | 0 => sound_zero slices_Clone___uint64uint64_.here (fun _ _ => rfl)
  | k + 1 => sound_succO (l := slices_Clone___uint64uint64_.env G k (slices_Clone___uint64uint64_.f G k)) (ann := slices_Clone___uint64uint64_.ann) (n := k) (envSound_of hG envNil) orders Tryd.func57 (by kernel_rfl) (by kernel_rfl) rfl (by kernel_rfl) (arg1_of fun x0 h => slices_Clone___uint64uint64_.eq G k _ x0 h)
theorem mach_run_leak.here : ∃ fn, Tryd.prog.funcs[58]? = some fn ∧ fn.body.isSome = true ∧ (fn.name == "runtime.NumGoroutine") = false := ⟨_, Tryd.func58, by kernel_rfl, by kernel_rfl⟩
theorem mach_run_leak.eq (G : Globs) (k : Nat) (self : Den) (x0 x1 x2 : AV) (h : AHeap) : absFn Tryd.prog G (envL (mach_run_leak.env G k self)) mach_run_leak.ann Tryd.f58.results.toList (codeOf Tryd.f58) Tryd.f58.ntmps k [x0, x1, x2] h = mach_run_leak.c G k self x0 x1 x2 h := by kernel_rfl
theorem mach_run_leak.sound {G : Globs} (hG : ∀ g x, G g = some x → plainB x = true) : ∀ k, Sound Tryd.prog G 58 (mach_run_leak.f G k)
  | 0 => sound_zero mach_run_leak.here (fun _ _ => rfl)
  | k + 1 => sound_succ (l := mach_run_leak.env G k (mach_run_leak.f G k)) (ann := mach_run_leak.ann) (n := k) (envSound_of hG envNil) orders Tryd.func58 (by kernel_rfl) (by kernel_rfl) rfl (by kernel_rfl) (arg3_of fun x0 x1 x2 h => mach_run_leak.eq G k _ x0 x1 x2 h)
theorem mach_run_touch.here : ∃ fn, Tryd.prog.funcs[81]? = some fn ∧ fn.body.isSome = true ∧ (fn.name == "runtime.NumGoroutine") = false := ⟨_, Tryd.func81, by kernel_rfl, by kernel_rfl⟩
theorem mach_run_touch.eq (G : Globs) (k : Nat) (self : Den) (x0 x1 : AV) (h : AHeap) : absFn Tryd.prog G (envL (mach_run_touch.env G k self)) mach_run_touch.ann Tryd.f81.results.toList (codeOf Tryd.f81) Tryd.f81.ntmps k [x0, x1] h = mach_run_touch.c G k self x0 x1 h := by kernel_rfl
theorem mach_run_touch.sound {G : Globs} (hG : ∀ g x, G g = some x → plainB x = true) : ∀ k, Sound Tryd.prog G 81 (mach_run_touch.f G k)
  | 0 => sound_zero mach_run_touch.here (fun _ _ => rfl)
  | k + 1 => sound_succ (l := mach_run_touch.env G k (mach_run_touch.f G k)) (ann := mach_run_touch.ann) (n := k) (envSound_of hG (envCons (mach_run_leak.sound hG k) (envCons (mach_get.sound hG k) (envCons (mach_set.sound hG k) envNil)))) orders Tryd.func81 (by kernel_rfl) (by kernel_rfl) rfl (by kernel_rfl) (arg2_of fun x0 x1 h => mach_run_touch.eq G k _ x0 x1 h)
theorem mach_run_goes.here : ∃ fn, Tryd.prog.funcs[102]? = some fn ∧ fn.body.isSome = true ∧ (fn.name == "runtime.NumGoroutine") = false := ⟨_, Tryd.func102, by kernel_rfl, by kernel_rfl⟩
theorem mach_run_goes.eq (G : Globs) (k : Nat) (self : Den) (x0 x1 : AV) (h : AHeap) : absFn Tryd.prog G (envL (mach_run_goes.env G k self)) mach_run_goes.ann Tryd.f102.results.toList (codeOf Tryd.f102) Tryd.f102.ntmps k [x0, x1] h = mach_run_goes.c G k self x0 x1 h := by kernel_rfl
theorem mach_run_goes.sound {G : Globs} (hG : ∀ g x, G g = some x → plainB x = true) : ∀ k, Sound Tryd.prog G 102 (mach_run_goes.f G k)
  | 0 => sound_zero mach_run_goes.here (fun _ _ => rfl)
  | k + 1 => sound_succ (l := mach_run_goes.env G k (mach_run_goes.f G k)) (ann := mach_run_goes.ann) (n := k) (envSound_of hG (envCons (mach_Holds.sound hG k) (envCons (mach_get.sound hG k) envNil))) orders Tryd.func102 (by kernel_rfl) (by kernel_rfl) rfl (by kernel_rfl) (arg2_of fun x0 x1 h => mach_run_goes.eq G k _ x0 x1 h)
theorem mach_run_branch.here : ∃ fn, Tryd.prog.funcs[82]? = some fn ∧ fn.body.isSome = true ∧ (fn.name == "runtime.NumGoroutine") = false := ⟨_, Tryd.func82, by kernel_rfl, by kernel_rfl⟩
theorem mach_run_branch.eq (G : Globs) (k : Nat) (self : Den) (x0 x1 : AV) (h : AHeap) : absFn Tryd.prog G (envL (mach_run_branch.env G k self)) mach_run_branch.ann Tryd.f82.results.toList (codeOf Tryd.f82) Tryd.f82.ntmps k [x0, x1] h = mach_run_branch.c G k self x0 x1 h := by kernel_rfl
theorem mach_run_branch.sound {G : Globs} (hG : ∀ g x, G g = some x → plainB x = true) : ∀ k, Sound Tryd.prog G 82 (mach_run_branch.f G k)
  | 0 => sound_zero mach_run_branch.here (fun _ _ => rfl)
  | k + 1 => sound_succ (l := mach_run_branch.env G k (mach_run_branch.f G k)) (ann := mach_run_branch.ann) (n := k) (envSound_of hG (envCons (mach_run_leak.sound hG k) (envCons (mach_run_goes.sound hG k) envNil))) orders Tryd.func82 (by kernel_rfl) (by kernel_rfl) rfl (by kernel_rfl) (arg2_of fun x0 x1 h => mach_run_branch.eq G k _ x0 x1 h)
theorem mach_run_step.here : ∃ fn, Tryd.prog.funcs[59]? = some fn ∧ fn.body.isSome = true ∧ (fn.name == "runtime.NumGoroutine") = false := ⟨_, Tryd.func59, by kernel_rfl, by kernel_rfl⟩
theorem mach_run_step.eq (G : Globs) (k : Nat) (self : Den) (x0 x1 : AV) (h : AHeap) : absFn Tryd.prog G (envL (mach_run_step.env G k self)) mach_run_step.ann Tryd.f59.results.toList (codeOf Tryd.f59) Tryd.f59.ntmps k [x0, x1] h = mach_run_step.c G k self x0 x1 h := by kernel_rfl
theorem mach_run_step.sound {G : Globs} (hG : ∀ g x, G g = some x → plainB x = true) : ∀ k, Sound Tryd.prog G 59 (mach_run_step.f G k)
  | 0 => sound_zero mach_run_step.here (fun _ _ => rfl)
  | k + 1 => sound_succ (l := mach_run_step.env G k (mach_run_step.f G k)) (ann := mach_run_step.ann) (n := k) (envSound_of hG (envCons (isa_Of.sound hG k) (envCons (mach_does.sound hG k) (envCons (mach_run_touch.sound hG k) (envCons (mach_run_branch.sound hG k) envNil))))) orders Tryd.func59 (by kernel_rfl) (by kernel_rfl) rfl (by kernel_rfl) (arg2_of fun x0 x1 h => mach_run_step.eq G k _ x0 x1 h)
theorem mach_Run.here : ∃ fn, Tryd.prog.funcs[28]? = some fn ∧ fn.body.isSome = true ∧ (fn.name == "runtime.NumGoroutine") = false := ⟨_, Tryd.func28, by kernel_rfl, by kernel_rfl⟩
theorem mach_Run.eq (G : Globs) (k : Nat) (self : Den) (x0 x1 x2 : AV) (h : AHeap) : absFn Tryd.prog G (envL (mach_Run.env G k self)) mach_Run.ann Tryd.f28.results.toList (codeOf Tryd.f28) Tryd.f28.ntmps k [x0, x1, x2] h = mach_Run.c G k self x0 x1 x2 h := by kernel_rfl
theorem mach_Run.sound {G : Globs} (hG : ∀ g x, G g = some x → plainB x = true) : ∀ k, Sound Tryd.prog G 28 (mach_Run.f G k)
  | 0 => sound_zero mach_Run.here (fun _ _ => rfl)
  | k + 1 => sound_succ (l := mach_Run.env G k (mach_Run.f G k)) (ann := mach_Run.ann) (n := k) (envSound_of hG (envCons (slices_Clone___uint64uint64_.sound hG k) (envCons (mach_run_leak.sound hG k) (envCons (mach_run_step.sound hG k) envNil)))) orders Tryd.func28 (by kernel_rfl) (by kernel_rfl) rfl (by kernel_rfl) (arg3_of fun x0 x1 x2 h => mach_Run.eq G k _ x0 x1 x2 h)
theorem alembiclaw23_first.here : ∃ fn, Tryd.prog.funcs[27]? = some fn ∧ fn.body.isSome = true ∧ (fn.name == "runtime.NumGoroutine") = false := ⟨_, Tryd.func27, by kernel_rfl, by kernel_rfl⟩
theorem alembiclaw23_first.eq (G : Globs) (k : Nat) (self : Den) (h : AHeap) : absFn Tryd.prog G (envL (alembiclaw23_first.env G k self)) alembiclaw23_first.ann Tryd.f27.results.toList (codeOf Tryd.f27) Tryd.f27.ntmps k [] h = alembiclaw23_first.c G k self h := by kernel_rfl
theorem alembiclaw23_first.sound {G : Globs} (hG : ∀ g x, G g = some x → plainB x = true) : ∀ k, Sound Tryd.prog G 27 (alembiclaw23_first.f G k)
  | 0 => sound_zero alembiclaw23_first.here (fun _ _ => rfl)
  | k + 1 => sound_succ (l := alembiclaw23_first.env G k (alembiclaw23_first.f G k)) (ann := alembiclaw23_first.ann) (n := k) (envSound_of hG (envCons (mach_Run.sound hG k) (envCons (mach_Holds.sound hG k) envNil))) orders Tryd.func27 (by kernel_rfl) (by kernel_rfl) rfl (by kernel_rfl) (arg0_of fun h => alembiclaw23_first.eq G k _ h)
theorem alembiclaw23_regs.here : ∃ fn, Tryd.prog.funcs[30]? = some fn ∧ fn.body.isSome = true ∧ (fn.name == "runtime.NumGoroutine") = false := ⟨_, Tryd.func30, by kernel_rfl, by kernel_rfl⟩
theorem alembiclaw23_regs.eq (G : Globs) (k : Nat) (self : Den) (x0 x1 : AV) (h : AHeap) : absFn Tryd.prog G (envL (alembiclaw23_regs.env G k self)) alembiclaw23_regs.ann Tryd.f30.results.toList (codeOf Tryd.f30) Tryd.f30.ntmps k [x0, x1] h = alembiclaw23_regs.c G k self x0 x1 h := by kernel_rfl
theorem alembiclaw23_regs.sound {G : Globs} (hG : ∀ g x, G g = some x → plainB x = true) : ∀ k, Sound Tryd.prog G 30 (alembiclaw23_regs.f G k)
  | 0 => sound_zero alembiclaw23_regs.here (fun _ _ => rfl)
  | k + 1 => sound_succ (l := alembiclaw23_regs.env G k (alembiclaw23_regs.f G k)) (ann := alembiclaw23_regs.ann) (n := k) (envSound_of hG envNil) orders Tryd.func30 (by kernel_rfl) (by kernel_rfl) rfl (by kernel_rfl) (arg2_of fun x0 x1 h => alembiclaw23_regs.eq G k _ x0 x1 h)
theorem alembicworld_Number.here : ∃ fn, Tryd.prog.funcs[26]? = some fn ∧ fn.body.isSome = true ∧ (fn.name == "runtime.NumGoroutine") = false := ⟨_, Tryd.func26, by kernel_rfl, by kernel_rfl⟩
theorem alembicworld_Number.eq (G : Globs) (k : Nat) (self : Den) (x0 x1 : AV) (h : AHeap) : absFn Tryd.prog G (envL (alembicworld_Number.env G k self)) alembicworld_Number.ann Tryd.f26.results.toList (codeOf Tryd.f26) Tryd.f26.ntmps k [x0, x1] h = alembicworld_Number.c G k self x0 x1 h := by kernel_rfl
theorem alembicworld_Number.sound {G : Globs} (hG : ∀ g x, G g = some x → plainB x = true) : ∀ k, Sound Tryd.prog G 26 (alembicworld_Number.f G k)
  | 0 => sound_zero alembicworld_Number.here (fun _ _ => rfl)
  | k + 1 => sound_succ (l := alembicworld_Number.env G k (alembicworld_Number.f G k)) (ann := alembicworld_Number.ann) (n := k) (envSound_of hG envNil) orders Tryd.func26 (by kernel_rfl) (by kernel_rfl) rfl (by kernel_rfl) (arg2_of fun x0 x1 h => alembicworld_Number.eq G k _ x0 x1 h)
end Go.Proofs.YtdfglgnflldkpaaDoor.Mir
namespace Go.Proofs.YtdfglgnflldkpaaDoor.Mir
open Go
set_option linter.unusedVariables false
theorem alembicref_Words.here : ∃ fn, Tryd.prog.funcs[46]? = some fn ∧ fn.body.isSome = true ∧ (fn.name == "runtime.NumGoroutine") = false := ⟨_, Tryd.func46, by kernel_rfl, by kernel_rfl⟩
theorem alembicref_Words.eq (G : Globs) (k : Nat) (self : Den) (x0 : AV) (h : AHeap) : absFnO Tryd.prog G (envL (alembicref_Words.env G k self)) alembicref_Words.ann Tryd.f46.results.toList (codeOf Tryd.f46) Tryd.f46.ntmps k [x0] h = alembicref_Words.c G k self x0 h := by kernel_rfl
theorem alembicref_Words.sound {G : Globs} (hG : ∀ g x, G g = some x → plainB x = true) : ∀ k, Sound Tryd.prog G 46 (alembicref_Words.f G k)
  | 0 => sound_zero alembicref_Words.here (fun _ _ => rfl)
  | k + 1 => sound_succO (l := alembicref_Words.env G k (alembicref_Words.f G k)) (ann := alembicref_Words.ann) (n := k) (envSound_of hG envNil) orders Tryd.func46 (by kernel_rfl) (by kernel_rfl) rfl (by kernel_rfl) (arg1_of fun x0 h => alembicref_Words.eq G k _ x0 h)
theorem alembicref17_one.here : ∃ fn, Tryd.prog.funcs[47]? = some fn ∧ fn.body.isSome = true ∧ (fn.name == "runtime.NumGoroutine") = false := ⟨_, Tryd.func47, by kernel_rfl, by kernel_rfl⟩
theorem alembicref17_one.eq (G : Globs) (k : Nat) (self : Den) (x0 : AV) (h : AHeap) : absFn Tryd.prog G (envL (alembicref17_one.env G k self)) alembicref17_one.ann Tryd.f47.results.toList (codeOf Tryd.f47) Tryd.f47.ntmps k [x0] h = alembicref17_one.c G k self x0 h := by kernel_rfl
theorem alembicref17_one.sound {G : Globs} (hG : ∀ g x, G g = some x → plainB x = true) : ∀ k, Sound Tryd.prog G 47 (alembicref17_one.f G k)
  | 0 => sound_zero alembicref17_one.here (fun _ _ => rfl)
  | k + 1 => sound_succ (l := alembicref17_one.env G k (alembicref17_one.f G k)) (ann := alembicref17_one.ann) (n := k) (envSound_of hG envNil) orders Tryd.func47 (by kernel_rfl) (by kernel_rfl) rfl (by kernel_rfl) (arg1_of fun x0 h => alembicref17_one.eq G k _ x0 h)
theorem alembicref17_RunMach.here : ∃ fn, Tryd.prog.funcs[22]? = some fn ∧ fn.body.isSome = true ∧ (fn.name == "runtime.NumGoroutine") = false := ⟨_, Tryd.func22, by kernel_rfl, by kernel_rfl⟩
theorem alembicref17_RunMach.eq (G : Globs) (k : Nat) (self : Den) (x0 x1 x2 : AV) (h : AHeap) : absFn Tryd.prog G (envL (alembicref17_RunMach.env G k self)) alembicref17_RunMach.ann Tryd.f22.results.toList (codeOf Tryd.f22) Tryd.f22.ntmps k [x0, x1, x2] h = alembicref17_RunMach.c G k self x0 x1 x2 h := by kernel_rfl
theorem alembicref17_RunMach.sound {G : Globs} (hG : ∀ g x, G g = some x → plainB x = true) : ∀ k, Sound Tryd.prog G 22 (alembicref17_RunMach.f G k)
  | 0 => sound_zero alembicref17_RunMach.here (fun _ _ => rfl)
  | k + 1 => sound_succ (l := alembicref17_RunMach.env G k (alembicref17_RunMach.f G k)) (ann := alembicref17_RunMach.ann) (n := k) (envSound_of hG (envCons (alembicref17_One.sound hG k) (envCons (alembicref17_Holds.sound hG k) (envCons (alembicref_Words.sound hG k) (envCons (alembicref17_one.sound hG k) (envCons (alembicref17_Of.sound hG k) (envCons (alembicref17_get.sound hG k) (envCons (alembicref17_set.sound hG k) envNil)))))))) orders Tryd.func22 (by kernel_rfl) (by kernel_rfl) rfl (by kernel_rfl) (arg3_of fun x0 x1 x2 h => alembicref17_RunMach.eq G k _ x0 x1 x2 h)
end Go.Proofs.YtdfglgnflldkpaaDoor.Mir
namespace Go.Proofs.YtdfglgnflldkpaaDoor.Mir
open Go
set_option linter.unusedVariables false
theorem alembicref_SameLeak1.here : ∃ fn, Tryd.prog.funcs[50]? = some fn ∧ fn.body.isSome = true ∧ (fn.name == "runtime.NumGoroutine") = false := ⟨_, Tryd.func50, by kernel_rfl, by kernel_rfl⟩
theorem alembicref_SameLeak1.eq (G : Globs) (k : Nat) (self : Den) (x0 x1 : AV) (h : AHeap) : absFn Tryd.prog G (envL (alembicref_SameLeak1.env G k self)) alembicref_SameLeak1.ann Tryd.f50.results.toList (codeOf Tryd.f50) Tryd.f50.ntmps k [x0, x1] h = alembicref_SameLeak1.c G k self x0 x1 h := by kernel_rfl
theorem alembicref_SameLeak1.sound {G : Globs} (hG : ∀ g x, G g = some x → plainB x = true) : ∀ k, Sound Tryd.prog G 50 (alembicref_SameLeak1.f G k)
  | 0 => sound_zero alembicref_SameLeak1.here (fun _ _ => rfl)
  | k + 1 => sound_succ (l := alembicref_SameLeak1.env G k (alembicref_SameLeak1.f G k)) (ann := alembicref_SameLeak1.ann) (n := k) (envSound_of hG envNil) orders Tryd.func50 (by kernel_rfl) (by kernel_rfl) rfl (by kernel_rfl) (arg2_of fun x0 x1 h => alembicref_SameLeak1.eq G k _ x0 x1 h)
theorem alembicref_SameLeaks.here : ∃ fn, Tryd.prog.funcs[21]? = some fn ∧ fn.body.isSome = true ∧ (fn.name == "runtime.NumGoroutine") = false := ⟨_, Tryd.func21, by kernel_rfl, by kernel_rfl⟩
theorem alembicref_SameLeaks.eq (G : Globs) (k : Nat) (self : Den) (x0 x1 : AV) (h : AHeap) : absFn Tryd.prog G (envL (alembicref_SameLeaks.env G k self)) alembicref_SameLeaks.ann Tryd.f21.results.toList (codeOf Tryd.f21) Tryd.f21.ntmps k [x0, x1] h = alembicref_SameLeaks.c G k self x0 x1 h := by kernel_rfl
theorem alembicref_SameLeaks.sound {G : Globs} (hG : ∀ g x, G g = some x → plainB x = true) : ∀ k, Sound Tryd.prog G 21 (alembicref_SameLeaks.f G k)
  | 0 => sound_zero alembicref_SameLeaks.here (fun _ _ => rfl)
  | k + 1 => sound_succ (l := alembicref_SameLeaks.env G k (alembicref_SameLeaks.f G k)) (ann := alembicref_SameLeaks.ann) (n := k) (envSound_of hG (envCons (alembicref_SameLeak1.sound hG k) envNil)) orders Tryd.func21 (by kernel_rfl) (by kernel_rfl) rfl (by kernel_rfl) (arg2_of fun x0 x1 h => alembicref_SameLeaks.eq G k _ x0 x1 h)
theorem alembicref_Bare.here : ∃ fn, Tryd.prog.funcs[35]? = some fn ∧ fn.body.isSome = true ∧ (fn.name == "runtime.NumGoroutine") = false := ⟨_, Tryd.func35, by kernel_rfl, by kernel_rfl⟩
theorem alembicref_Bare.eq (G : Globs) (k : Nat) (self : Den) (x0 : AV) (h : AHeap) : absFn Tryd.prog G (envL (alembicref_Bare.env G k self)) alembicref_Bare.ann Tryd.f35.results.toList (codeOf Tryd.f35) Tryd.f35.ntmps k [x0] h = alembicref_Bare.c G k self x0 h := by kernel_rfl
theorem alembicref_Bare.sound {G : Globs} (hG : ∀ g x, G g = some x → plainB x = true) : ∀ k, Sound Tryd.prog G 35 (alembicref_Bare.f G k)
  | 0 => sound_zero alembicref_Bare.here (fun _ _ => rfl)
  | k + 1 => sound_succ (l := alembicref_Bare.env G k (alembicref_Bare.f G k)) (ann := alembicref_Bare.ann) (n := k) (envSound_of hG envNil) orders Tryd.func35 (by kernel_rfl) (by kernel_rfl) rfl (by kernel_rfl) (arg1_of fun x0 h => alembicref_Bare.eq G k _ x0 h)
theorem alembicref_SameFault.here : ∃ fn, Tryd.prog.funcs[61]? = some fn ∧ fn.body.isSome = true ∧ (fn.name == "runtime.NumGoroutine") = false := ⟨_, Tryd.func61, by kernel_rfl, by kernel_rfl⟩
theorem alembicref_SameFault.eq (G : Globs) (k : Nat) (self : Den) (x0 x1 : AV) (h : AHeap) : absFn Tryd.prog G (envL (alembicref_SameFault.env G k self)) alembicref_SameFault.ann Tryd.f61.results.toList (codeOf Tryd.f61) Tryd.f61.ntmps k [x0, x1] h = alembicref_SameFault.c G k self x0 x1 h := by kernel_rfl
theorem alembicref_SameFault.sound {G : Globs} (hG : ∀ g x, G g = some x → plainB x = true) : ∀ k, Sound Tryd.prog G 61 (alembicref_SameFault.f G k)
  | 0 => sound_zero alembicref_SameFault.here (fun _ _ => rfl)
  | k + 1 => sound_succ (l := alembicref_SameFault.env G k (alembicref_SameFault.f G k)) (ann := alembicref_SameFault.ann) (n := k) (envSound_of hG envNil) orders Tryd.func61 (by kernel_rfl) (by kernel_rfl) rfl (by kernel_rfl) (arg2_of fun x0 x1 h => alembicref_SameFault.eq G k _ x0 x1 h)
theorem alembicref_None.here : ∃ fn, Tryd.prog.funcs[45]? = some fn ∧ fn.body.isSome = true ∧ (fn.name == "runtime.NumGoroutine") = false := ⟨_, Tryd.func45, by kernel_rfl, by kernel_rfl⟩
theorem alembicref_None.eq (G : Globs) (k : Nat) (self : Den) (h : AHeap) : absFn Tryd.prog G (envL (alembicref_None.env G k self)) alembicref_None.ann Tryd.f45.results.toList (codeOf Tryd.f45) Tryd.f45.ntmps k [] h = alembicref_None.c G k self h := by kernel_rfl
theorem alembicref_None.sound {G : Globs} (hG : ∀ g x, G g = some x → plainB x = true) : ∀ k, Sound Tryd.prog G 45 (alembicref_None.f G k)
  | 0 => sound_zero alembicref_None.here (fun _ _ => rfl)
  | k + 1 => sound_succ (l := alembicref_None.env G k (alembicref_None.f G k)) (ann := alembicref_None.ann) (n := k) (envSound_of hG envNil) orders Tryd.func45 (by kernel_rfl) (by kernel_rfl) rfl (by kernel_rfl) (arg0_of fun h => alembicref_None.eq G k _ h)
theorem alembicref_Placed.here : ∃ fn, Tryd.prog.funcs[44]? = some fn ∧ fn.body.isSome = true ∧ (fn.name == "runtime.NumGoroutine") = false := ⟨_, Tryd.func44, by kernel_rfl, by kernel_rfl⟩
theorem alembicref_Placed.eq (G : Globs) (k : Nat) (self : Den) (x0 x1 : AV) (h : AHeap) : absFn Tryd.prog G (envL (alembicref_Placed.env G k self)) alembicref_Placed.ann Tryd.f44.results.toList (codeOf Tryd.f44) Tryd.f44.ntmps k [x0, x1] h = alembicref_Placed.c G k self x0 x1 h := by kernel_rfl
theorem alembicref_Placed.sound {G : Globs} (hG : ∀ g x, G g = some x → plainB x = true) : ∀ k, Sound Tryd.prog G 44 (alembicref_Placed.f G k)
  | 0 => sound_zero alembicref_Placed.here (fun _ _ => rfl)
  | k + 1 => sound_succ (l := alembicref_Placed.env G k (alembicref_Placed.f G k)) (ann := alembicref_Placed.ann) (n := k) (envSound_of hG (envCons (alembicref_None.sound hG k) envNil)) orders Tryd.func44 (by kernel_rfl) (by kernel_rfl) rfl (by kernel_rfl) (arg2_of fun x0 x1 h => alembicref_Placed.eq G k _ x0 x1 h)
theorem alembicsee_sentinels.here : ∃ fn, Tryd.prog.funcs[103]? = some fn ∧ fn.body.isSome = true ∧ (fn.name == "runtime.NumGoroutine") = false := ⟨_, Tryd.func103, by kernel_rfl, by kernel_rfl⟩
theorem alembicsee_sentinels.eq (G : Globs) (k : Nat) (self : Den) (h : AHeap) : absFn Tryd.prog G (envL (alembicsee_sentinels.env G k self)) alembicsee_sentinels.ann Tryd.f103.results.toList (codeOf Tryd.f103) Tryd.f103.ntmps k [] h = alembicsee_sentinels.c G k self h := by kernel_rfl
theorem alembicsee_sentinels.sound {G : Globs} (hG : ∀ g x, G g = some x → plainB x = true) : ∀ k, Sound Tryd.prog G 103 (alembicsee_sentinels.f G k)
  | 0 => sound_zero alembicsee_sentinels.here (fun _ _ => rfl)
  | k + 1 => sound_succ (l := alembicsee_sentinels.env G k (alembicsee_sentinels.f G k)) (ann := alembicsee_sentinels.ann) (n := k) (envSound_of hG envNil) orders Tryd.func103 (by kernel_rfl) (by kernel_rfl) rfl (by kernel_rfl) (arg0_of fun h => alembicsee_sentinels.eq G k _ h)
theorem alembicsee_Alike.here : ∃ fn, Tryd.prog.funcs[104]? = some fn ∧ fn.body.isSome = true ∧ (fn.name == "runtime.NumGoroutine") = false := ⟨_, Tryd.func104, by kernel_rfl, by kernel_rfl⟩
theorem alembicsee_Alike.eq (G : Globs) (k : Nat) (self : Den) (x0 x1 : AV) (h : AHeap) : absFn Tryd.prog G (envL (alembicsee_Alike.env G k self)) alembicsee_Alike.ann Tryd.f104.results.toList (codeOf Tryd.f104) Tryd.f104.ntmps k [x0, x1] h = alembicsee_Alike.c G k self x0 x1 h := by kernel_rfl
theorem alembicsee_Alike.sound {G : Globs} (hG : ∀ g x, G g = some x → plainB x = true) : ∀ k, Sound Tryd.prog G 104 (alembicsee_Alike.f G k)
  | 0 => sound_zero alembicsee_Alike.here (fun _ _ => rfl)
  | k + 1 => sound_succ (l := alembicsee_Alike.env G k (alembicsee_Alike.f G k)) (ann := alembicsee_Alike.ann) (n := k) (envSound_of hG envNil) orders Tryd.func104 (by kernel_rfl) (by kernel_rfl) rfl (by kernel_rfl) (arg2_of fun x0 x1 h => alembicsee_Alike.eq G k _ x0 x1 h)
theorem alembicsee_sentinel.here : ∃ fn, Tryd.prog.funcs[87]? = some fn ∧ fn.body.isSome = true ∧ (fn.name == "runtime.NumGoroutine") = false := ⟨_, Tryd.func87, by kernel_rfl, by kernel_rfl⟩
theorem alembicsee_sentinel.eq (G : Globs) (k : Nat) (self : Den) (x0 : AV) (h : AHeap) : absFn Tryd.prog G (envL (alembicsee_sentinel.env G k self)) alembicsee_sentinel.ann Tryd.f87.results.toList (codeOf Tryd.f87) Tryd.f87.ntmps k [x0] h = alembicsee_sentinel.c G k self x0 h := by kernel_rfl
theorem alembicsee_sentinel.sound {G : Globs} (hG : ∀ g x, G g = some x → plainB x = true) : ∀ k, Sound Tryd.prog G 87 (alembicsee_sentinel.f G k)
  | 0 => sound_zero alembicsee_sentinel.here (fun _ _ => rfl)
  | k + 1 => sound_succ (l := alembicsee_sentinel.env G k (alembicsee_sentinel.f G k)) (ann := alembicsee_sentinel.ann) (n := k) (envSound_of hG (envCons (alembicsee_sentinels.sound hG k) (envCons (alembicsee_Alike.sound hG k) envNil))) orders Tryd.func87 (by kernel_rfl) (by kernel_rfl) rfl (by kernel_rfl) (arg1_of fun x0 h => alembicsee_sentinel.eq G k _ x0 h)
theorem alembicsee_Fault.here : ∃ fn, Tryd.prog.funcs[62]? = some fn ∧ fn.body.isSome = true ∧ (fn.name == "runtime.NumGoroutine") = false := ⟨_, Tryd.func62, by kernel_rfl, by kernel_rfl⟩
theorem alembicsee_Fault.eq (G : Globs) (k : Nat) (self : Den) (x0 : AV) (h : AHeap) : absFn Tryd.prog G (envL (alembicsee_Fault.env G k self)) alembicsee_Fault.ann Tryd.f62.results.toList (codeOf Tryd.f62) Tryd.f62.ntmps k [x0] h = alembicsee_Fault.c G k self x0 h := by kernel_rfl
theorem alembicsee_Fault.sound {G : Globs} (hG : ∀ g x, G g = some x → plainB x = true) : ∀ k, Sound Tryd.prog G 62 (alembicsee_Fault.f G k)
  | 0 => sound_zero alembicsee_Fault.here (fun _ _ => rfl)
  | k + 1 => sound_succ (l := alembicsee_Fault.env G k (alembicsee_Fault.f G k)) (ann := alembicsee_Fault.ann) (n := k) (envSound_of hG (envCons (alembicref_Bare.sound hG k) (envCons (alembicref_Placed.sound hG k) (envCons (alembicref_None.sound hG k) (envCons (alembicsee_sentinel.sound hG k) envNil))))) orders Tryd.func62 (by kernel_rfl) (by kernel_rfl) rfl (by kernel_rfl) (arg1_of fun x0 h => alembicsee_Fault.eq G k _ x0 h)
theorem alembicsee_Same.here : ∃ fn, Tryd.prog.funcs[36]? = some fn ∧ fn.body.isSome = true ∧ (fn.name == "runtime.NumGoroutine") = false := ⟨_, Tryd.func36, by kernel_rfl, by kernel_rfl⟩
theorem alembicsee_Same.eq (G : Globs) (k : Nat) (self : Den) (x0 x1 : AV) (h : AHeap) : absFn Tryd.prog G (envL (alembicsee_Same.env G k self)) alembicsee_Same.ann Tryd.f36.results.toList (codeOf Tryd.f36) Tryd.f36.ntmps k [x0, x1] h = alembicsee_Same.c G k self x0 x1 h := by kernel_rfl
theorem alembicsee_Same.sound {G : Globs} (hG : ∀ g x, G g = some x → plainB x = true) : ∀ k, Sound Tryd.prog G 36 (alembicsee_Same.f G k)
  | 0 => sound_zero alembicsee_Same.here (fun _ _ => rfl)
  | k + 1 => sound_succ (l := alembicsee_Same.env G k (alembicsee_Same.f G k)) (ann := alembicsee_Same.ann) (n := k) (envSound_of hG (envCons (alembicref_SameFault.sound hG k) (envCons (alembicsee_Fault.sound hG k) envNil))) orders Tryd.func36 (by kernel_rfl) (by kernel_rfl) rfl (by kernel_rfl) (arg2_of fun x0 x1 h => alembicsee_Same.eq G k _ x0 x1 h)
theorem alembicsee_Is.here : ∃ fn, Tryd.prog.funcs[24]? = some fn ∧ fn.body.isSome = true ∧ (fn.name == "runtime.NumGoroutine") = false := ⟨_, Tryd.func24, by kernel_rfl, by kernel_rfl⟩
theorem alembicsee_Is.eq (G : Globs) (k : Nat) (self : Den) (x0 x1 : AV) (h : AHeap) : absFn Tryd.prog G (envL (alembicsee_Is.env G k self)) alembicsee_Is.ann Tryd.f24.results.toList (codeOf Tryd.f24) Tryd.f24.ntmps k [x0, x1] h = alembicsee_Is.c G k self x0 x1 h := by kernel_rfl
theorem alembicsee_Is.sound {G : Globs} (hG : ∀ g x, G g = some x → plainB x = true) : ∀ k, Sound Tryd.prog G 24 (alembicsee_Is.f G k)
  | 0 => sound_zero alembicsee_Is.here (fun _ _ => rfl)
  | k + 1 => sound_succ (l := alembicsee_Is.env G k (alembicsee_Is.f G k)) (ann := alembicsee_Is.ann) (n := k) (envSound_of hG (envCons (alembicref_Bare.sound hG k) (envCons (alembicsee_Same.sound hG k) envNil))) orders Tryd.func24 (by kernel_rfl) (by kernel_rfl) rfl (by kernel_rfl) (arg2_of fun x0 x1 h => alembicsee_Is.eq G k _ x0 x1 h)
theorem alembicref_SameWords.here : ∃ fn, Tryd.prog.funcs[29]? = some fn ∧ fn.body.isSome = true ∧ (fn.name == "runtime.NumGoroutine") = false := ⟨_, Tryd.func29, by kernel_rfl, by kernel_rfl⟩
theorem alembicref_SameWords.eq (G : Globs) (k : Nat) (self : Den) (x0 x1 : AV) (h : AHeap) : absFn Tryd.prog G (envL (alembicref_SameWords.env G k self)) alembicref_SameWords.ann Tryd.f29.results.toList (codeOf Tryd.f29) Tryd.f29.ntmps k [x0, x1] h = alembicref_SameWords.c G k self x0 x1 h := by kernel_rfl
theorem alembicref_SameWords.sound {G : Globs} (hG : ∀ g x, G g = some x → plainB x = true) : ∀ k, Sound Tryd.prog G 29 (alembicref_SameWords.f G k)
  | 0 => sound_zero alembicref_SameWords.here (fun _ _ => rfl)
  | k + 1 => sound_succ (l := alembicref_SameWords.env G k (alembicref_SameWords.f G k)) (ann := alembicref_SameWords.ann) (n := k) (envSound_of hG envNil) orders Tryd.func29 (by kernel_rfl) (by kernel_rfl) rfl (by kernel_rfl) (arg2_of fun x0 x1 h => alembicref_SameWords.eq G k _ x0 x1 h)
theorem alembiclaw23_MachRuns.here : ∃ fn, Tryd.prog.funcs[8]? = some fn ∧ fn.body.isSome = true ∧ (fn.name == "runtime.NumGoroutine") = false := ⟨_, Tryd.func8, by kernel_rfl, by kernel_rfl⟩
theorem alembiclaw23_MachRuns.eq (G : Globs) (k : Nat) (self : Den) (x0 x1 x2 : AV) (h : AHeap) : absFn Tryd.prog G (envL (alembiclaw23_MachRuns.env G k self)) alembiclaw23_MachRuns.ann Tryd.f8.results.toList (codeOf Tryd.f8) Tryd.f8.ntmps k [x0, x1, x2] h = alembiclaw23_MachRuns.c G k self x0 x1 x2 h := by kernel_rfl
theorem alembiclaw23_MachRuns.sound {G : Globs} (hG : ∀ g x, G g = some x → plainB x = true) : ∀ k, Sound Tryd.prog G 8 (alembiclaw23_MachRuns.f G k)
  | 0 => sound_zero alembiclaw23_MachRuns.here (fun _ _ => rfl)
  | k + 1 => sound_succ (l := alembiclaw23_MachRuns.env G k (alembiclaw23_MachRuns.f G k)) (ann := alembiclaw23_MachRuns.ann) (n := k) (envSound_of hG (envCons (alembicref_SameLeaks.sound hG k) (envCons (alembicref17_RunMach.sound hG k) (envCons (alembicsee_Is.sound hG k) (envCons (alembiclaw23_first.sound hG k) (envCons (mach_Run.sound hG k) (envCons (alembicref_SameWords.sound hG k) (envCons (alembiclaw23_regs.sound hG k) envNil)))))))) orders Tryd.func8 (by kernel_rfl) (by kernel_rfl) rfl (by kernel_rfl) (arg3_of fun x0 x1 x2 h => alembiclaw23_MachRuns.eq G k _ x0 x1 x2 h)
theorem alembiclaw23_word.here : ∃ fn, Tryd.prog.funcs[31]? = some fn ∧ fn.body.isSome = true ∧ (fn.name == "runtime.NumGoroutine") = false := ⟨_, Tryd.func31, by kernel_rfl, by kernel_rfl⟩
theorem alembiclaw23_word.eq (G : Globs) (k : Nat) (self : Den) (x0 : AV) (h : AHeap) : absFn Tryd.prog G (envL (alembiclaw23_word.env G k self)) alembiclaw23_word.ann Tryd.f31.results.toList (codeOf Tryd.f31) Tryd.f31.ntmps k [x0] h = alembiclaw23_word.c G k self x0 h := by kernel_rfl
theorem alembiclaw23_word.sound {G : Globs} (hG : ∀ g x, G g = some x → plainB x = true) : ∀ k, Sound Tryd.prog G 31 (alembiclaw23_word.f G k)
  | 0 => sound_zero alembiclaw23_word.here (fun _ _ => rfl)
  | k + 1 => sound_succ (l := alembiclaw23_word.env G k (alembiclaw23_word.f G k)) (ann := alembiclaw23_word.ann) (n := k) (envSound_of hG (envCons (alembicref17_Word.sound hG k) envNil)) orders Tryd.func31 (by kernel_rfl) (by kernel_rfl) rfl (by kernel_rfl) (arg1_of fun x0 h => alembiclaw23_word.eq G k _ x0 h)
theorem alembiclaw23_MachLoops.here : ∃ fn, Tryd.prog.funcs[9]? = some fn ∧ fn.body.isSome = true ∧ (fn.name == "runtime.NumGoroutine") = false := ⟨_, Tryd.func9, by kernel_rfl, by kernel_rfl⟩
theorem alembiclaw23_MachLoops.eq (G : Globs) (k : Nat) (self : Den) (x0 x1 : AV) (h : AHeap) : absFn Tryd.prog G (envL (alembiclaw23_MachLoops.env G k self)) alembiclaw23_MachLoops.ann Tryd.f9.results.toList (codeOf Tryd.f9) Tryd.f9.ntmps k [x0, x1] h = alembiclaw23_MachLoops.c G k self x0 x1 h := by kernel_rfl
theorem alembiclaw23_MachLoops.sound {G : Globs} (hG : ∀ g x, G g = some x → plainB x = true) : ∀ k, Sound Tryd.prog G 9 (alembiclaw23_MachLoops.f G k)
  | 0 => sound_zero alembiclaw23_MachLoops.here (fun _ _ => rfl)
  | k + 1 => sound_succ (l := alembiclaw23_MachLoops.env G k (alembiclaw23_MachLoops.f G k)) (ann := alembiclaw23_MachLoops.ann) (n := k) (envSound_of hG (envCons (alembicworld_Number.sound hG k) (envCons (alembiclaw23_first.sound hG k) (envCons (mach_Run.sound hG k) (envCons (alembiclaw23_word.sound hG k) envNil))))) orders Tryd.func9 (by kernel_rfl) (by kernel_rfl) rfl (by kernel_rfl) (arg2_of fun x0 x1 h => alembiclaw23_MachLoops.eq G k _ x0 x1 h)
theorem alembiclaw23_MachFaults.here : ∃ fn, Tryd.prog.funcs[10]? = some fn ∧ fn.body.isSome = true ∧ (fn.name == "runtime.NumGoroutine") = false := ⟨_, Tryd.func10, by kernel_rfl, by kernel_rfl⟩
theorem alembiclaw23_MachFaults.eq (G : Globs) (k : Nat) (self : Den) (x0 x1 : AV) (h : AHeap) : absFn Tryd.prog G (envL (alembiclaw23_MachFaults.env G k self)) alembiclaw23_MachFaults.ann Tryd.f10.results.toList (codeOf Tryd.f10) Tryd.f10.ntmps k [x0, x1] h = alembiclaw23_MachFaults.c G k self x0 x1 h := by kernel_rfl
theorem alembiclaw23_MachFaults.sound {G : Globs} (hG : ∀ g x, G g = some x → plainB x = true) : ∀ k, Sound Tryd.prog G 10 (alembiclaw23_MachFaults.f G k)
  | 0 => sound_zero alembiclaw23_MachFaults.here (fun _ _ => rfl)
  | k + 1 => sound_succ (l := alembiclaw23_MachFaults.env G k (alembiclaw23_MachFaults.f G k)) (ann := alembiclaw23_MachFaults.ann) (n := k) (envSound_of hG (envCons (alembicworld_Number.sound hG k) (envCons (alembiclaw23_first.sound hG k) (envCons (mach_Run.sound hG k) (envCons (alembiclaw23_word.sound hG k) envNil))))) orders Tryd.func10 (by kernel_rfl) (by kernel_rfl) rfl (by kernel_rfl) (arg2_of fun x0 x1 h => alembiclaw23_MachFaults.eq G k _ x0 x1 h)
end Go.Proofs.YtdfglgnflldkpaaDoor.Mir
