/- Printed by Print.lean: their contracts. -/
import Derived.Test.YtemkaggjbhpbbaaDoorPsFun
import Derived.Test.YtemkaggjbhpbbaaDoorProg
import Derived.KernelRfl
namespace Go.Proofs.YtemkaggjbhpbbaaDoor.Mir
open Go
set_option linter.unusedVariables false
theorem orders : Tryd.prog.follows .mixedOrders = true := by kernel_rfl
theorem math_bits_Len32.here : ∃ fn, Tryd.prog.funcs[28]? = some fn ∧ fn.body.isSome = true ∧ (fn.name == "runtime.NumGoroutine") = false := ⟨_, Tryd.func28, by kernel_rfl, by kernel_rfl⟩
theorem math_bits_Len32.eq (G : Globs) (k : Nat) (self : Den) (x0 : AV) (h : AHeap) : absFn Tryd.prog G (envL (math_bits_Len32.env G k self)) math_bits_Len32.ann Tryd.f28.results.toList (codeOf Tryd.f28) Tryd.f28.ntmps k [x0] h = math_bits_Len32.c G k self x0 h := by kernel_rfl
theorem math_bits_Len32.sound {G : Globs} (hG : ∀ g x, G g = some x → plainB x = true) : ∀ k, Sound Tryd.prog G 28 (math_bits_Len32.f G k)
  | 0 => sound_zero math_bits_Len32.here (fun _ _ => rfl)
  | k + 1 => sound_succ (l := math_bits_Len32.env G k (math_bits_Len32.f G k)) (ann := math_bits_Len32.ann) (n := k) (envSound_of hG envNil) orders Tryd.func28 (by kernel_rfl) (by kernel_rfl) rfl (by kernel_rfl) (arg1_of fun x0 h => math_bits_Len32.eq G k _ x0 h)
theorem math_bits_Len64.here : ∃ fn, Tryd.prog.funcs[29]? = some fn ∧ fn.body.isSome = true ∧ (fn.name == "runtime.NumGoroutine") = false := ⟨_, Tryd.func29, by kernel_rfl, by kernel_rfl⟩
theorem math_bits_Len64.eq (G : Globs) (k : Nat) (self : Den) (x0 : AV) (h : AHeap) : absFn Tryd.prog G (envL (math_bits_Len64.env G k self)) math_bits_Len64.ann Tryd.f29.results.toList (codeOf Tryd.f29) Tryd.f29.ntmps k [x0] h = math_bits_Len64.c G k self x0 h := by kernel_rfl
theorem math_bits_Len64.sound {G : Globs} (hG : ∀ g x, G g = some x → plainB x = true) : ∀ k, Sound Tryd.prog G 29 (math_bits_Len64.f G k)
  | 0 => sound_zero math_bits_Len64.here (fun _ _ => rfl)
  | k + 1 => sound_succ (l := math_bits_Len64.env G k (math_bits_Len64.f G k)) (ann := math_bits_Len64.ann) (n := k) (envSound_of hG envNil) orders Tryd.func29 (by kernel_rfl) (by kernel_rfl) rfl (by kernel_rfl) (arg1_of fun x0 h => math_bits_Len64.eq G k _ x0 h)
theorem math_bits_Len.here : ∃ fn, Tryd.prog.funcs[23]? = some fn ∧ fn.body.isSome = true ∧ (fn.name == "runtime.NumGoroutine") = false := ⟨_, Tryd.func23, by kernel_rfl, by kernel_rfl⟩
theorem math_bits_Len.eq (G : Globs) (k : Nat) (self : Den) (x0 : AV) (h : AHeap) : absFn Tryd.prog G (envL (math_bits_Len.env G k self)) math_bits_Len.ann Tryd.f23.results.toList (codeOf Tryd.f23) Tryd.f23.ntmps k [x0] h = math_bits_Len.c G k self x0 h := by kernel_rfl
theorem math_bits_Len.sound {G : Globs} (hG : ∀ g x, G g = some x → plainB x = true) : ∀ k, Sound Tryd.prog G 23 (math_bits_Len.f G k)
  | 0 => sound_zero math_bits_Len.here (fun _ _ => rfl)
  | k + 1 => sound_succ (l := math_bits_Len.env G k (math_bits_Len.f G k)) (ann := math_bits_Len.ann) (n := k) (envSound_of hG (envCons (math_bits_Len32.sound hG k) (envCons (math_bits_Len64.sound hG k) envNil))) orders Tryd.func23 (by kernel_rfl) (by kernel_rfl) rfl (by kernel_rfl) (arg1_of fun x0 h => math_bits_Len.eq G k _ x0 h)
theorem pack_Width.here : ∃ fn, Tryd.prog.funcs[10]? = some fn ∧ fn.body.isSome = true ∧ (fn.name == "runtime.NumGoroutine") = false := ⟨_, Tryd.func10, by kernel_rfl, by kernel_rfl⟩
theorem pack_Width.eq (G : Globs) (k : Nat) (self : Den) (x0 : AV) (h : AHeap) : absFn Tryd.prog G (envL (pack_Width.env G k self)) pack_Width.ann Tryd.f10.results.toList (codeOf Tryd.f10) Tryd.f10.ntmps k [x0] h = pack_Width.c G k self x0 h := by kernel_rfl
theorem pack_Width.sound {G : Globs} (hG : ∀ g x, G g = some x → plainB x = true) : ∀ k, Sound Tryd.prog G 10 (pack_Width.f G k)
  | 0 => sound_zero pack_Width.here (fun _ _ => rfl)
  | k + 1 => sound_succ (l := pack_Width.env G k (pack_Width.f G k)) (ann := pack_Width.ann) (n := k) (envSound_of hG (envCons (math_bits_Len.sound hG k) envNil)) orders Tryd.func10 (by kernel_rfl) (by kernel_rfl) rfl (by kernel_rfl) (arg1_of fun x0 h => pack_Width.eq G k _ x0 h)
theorem pack_Bits.here : ∃ fn, Tryd.prog.funcs[11]? = some fn ∧ fn.body.isSome = true ∧ (fn.name == "runtime.NumGoroutine") = false := ⟨_, Tryd.func11, by kernel_rfl, by kernel_rfl⟩
theorem pack_Bits.eq (G : Globs) (k : Nat) (self : Den) (x0 x1 : AV) (h : AHeap) : absFn Tryd.prog G (envL (pack_Bits.env G k self)) pack_Bits.ann Tryd.f11.results.toList (codeOf Tryd.f11) Tryd.f11.ntmps k [x0, x1] h = pack_Bits.c G k self x0 x1 h := by kernel_rfl
theorem pack_Bits.sound {G : Globs} (hG : ∀ g x, G g = some x → plainB x = true) : ∀ k, Sound Tryd.prog G 11 (pack_Bits.f G k)
  | 0 => sound_zero pack_Bits.here (fun _ _ => rfl)
  | k + 1 => sound_succ (l := pack_Bits.env G k (pack_Bits.f G k)) (ann := pack_Bits.ann) (n := k) (envSound_of hG envNil) orders Tryd.func11 (by kernel_rfl) (by kernel_rfl) rfl (by kernel_rfl) (arg2_of fun x0 x1 h => pack_Bits.eq G k _ x0 x1 h)
theorem alembiclaw6_first.here : ∃ fn, Tryd.prog.funcs[8]? = some fn ∧ fn.body.isSome = true ∧ (fn.name == "runtime.NumGoroutine") = false := ⟨_, Tryd.func8, by kernel_rfl, by kernel_rfl⟩
theorem alembiclaw6_first.eq (G : Globs) (k : Nat) (self : Den) (h : AHeap) : absFn Tryd.prog G (envL (alembiclaw6_first.env G k self)) alembiclaw6_first.ann Tryd.f8.results.toList (codeOf Tryd.f8) Tryd.f8.ntmps k [] h = alembiclaw6_first.c G k self h := by kernel_rfl
theorem alembiclaw6_first.sound {G : Globs} (hG : ∀ g x, G g = some x → plainB x = true) : ∀ k, Sound Tryd.prog G 8 (alembiclaw6_first.f G k)
  | 0 => sound_zero alembiclaw6_first.here (fun _ _ => rfl)
  | k + 1 => sound_succ (l := alembiclaw6_first.env G k (alembiclaw6_first.f G k)) (ann := alembiclaw6_first.ann) (n := k) (envSound_of hG (envCons (pack_Width.sound hG k) (envCons (pack_Bits.sound hG k) envNil))) orders Tryd.func8 (by kernel_rfl) (by kernel_rfl) rfl (by kernel_rfl) (arg0_of fun h => alembiclaw6_first.eq G k _ h)
theorem pack_Open.here : ∃ fn, Tryd.prog.funcs[12]? = some fn ∧ fn.body.isSome = true ∧ (fn.name == "runtime.NumGoroutine") = false := ⟨_, Tryd.func12, by kernel_rfl, by kernel_rfl⟩
theorem pack_Open.eq (G : Globs) (k : Nat) (self : Den) (x0 x1 x2 : AV) (h : AHeap) : absFnO Tryd.prog G (envL (pack_Open.env G k self)) pack_Open.ann Tryd.f12.results.toList (codeOf Tryd.f12) Tryd.f12.ntmps k [x0, x1, x2] h = pack_Open.c G k self x0 x1 x2 h := by kernel_rfl
theorem pack_Open.sound {G : Globs} (hG : ∀ g x, G g = some x → plainB x = true) : ∀ k, Sound Tryd.prog G 12 (pack_Open.f G k)
  | 0 => sound_zero pack_Open.here (fun _ _ => rfl)
  | k + 1 => sound_succO (l := pack_Open.env G k (pack_Open.f G k)) (ann := pack_Open.ann) (n := k) (envSound_of hG envNil) orders Tryd.func12 (by kernel_rfl) (by kernel_rfl) rfl (by kernel_rfl) (arg3_of fun x0 x1 x2 h => pack_Open.eq G k _ x0 x1 x2 h)
theorem alembicref_SameInts.here : ∃ fn, Tryd.prog.funcs[13]? = some fn ∧ fn.body.isSome = true ∧ (fn.name == "runtime.NumGoroutine") = false := ⟨_, Tryd.func13, by kernel_rfl, by kernel_rfl⟩
theorem alembicref_SameInts.eq (G : Globs) (k : Nat) (self : Den) (x0 x1 : AV) (h : AHeap) : absFn Tryd.prog G (envL (alembicref_SameInts.env G k self)) alembicref_SameInts.ann Tryd.f13.results.toList (codeOf Tryd.f13) Tryd.f13.ntmps k [x0, x1] h = alembicref_SameInts.c G k self x0 x1 h := by kernel_rfl
theorem alembicref_SameInts.sound {G : Globs} (hG : ∀ g x, G g = some x → plainB x = true) : ∀ k, Sound Tryd.prog G 13 (alembicref_SameInts.f G k)
  | 0 => sound_zero alembicref_SameInts.here (fun _ _ => rfl)
  | k + 1 => sound_succ (l := alembicref_SameInts.env G k (alembicref_SameInts.f G k)) (ann := alembicref_SameInts.ann) (n := k) (envSound_of hG envNil) orders Tryd.func13 (by kernel_rfl) (by kernel_rfl) rfl (by kernel_rfl) (arg2_of fun x0 x1 h => alembicref_SameInts.eq G k _ x0 x1 h)
theorem alembicref_SameBytes.here : ∃ fn, Tryd.prog.funcs[14]? = some fn ∧ fn.body.isSome = true ∧ (fn.name == "runtime.NumGoroutine") = false := ⟨_, Tryd.func14, by kernel_rfl, by kernel_rfl⟩
theorem alembicref_SameBytes.eq (G : Globs) (k : Nat) (self : Den) (x0 x1 : AV) (h : AHeap) : absFn Tryd.prog G (envL (alembicref_SameBytes.env G k self)) alembicref_SameBytes.ann Tryd.f14.results.toList (codeOf Tryd.f14) Tryd.f14.ntmps k [x0, x1] h = alembicref_SameBytes.c G k self x0 x1 h := by kernel_rfl
theorem alembicref_SameBytes.sound {G : Globs} (hG : ∀ g x, G g = some x → plainB x = true) : ∀ k, Sound Tryd.prog G 14 (alembicref_SameBytes.f G k)
  | 0 => sound_zero alembicref_SameBytes.here (fun _ _ => rfl)
  | k + 1 => sound_succ (l := alembicref_SameBytes.env G k (alembicref_SameBytes.f G k)) (ann := alembicref_SameBytes.ann) (n := k) (envSound_of hG envNil) orders Tryd.func14 (by kernel_rfl) (by kernel_rfl) rfl (by kernel_rfl) (arg2_of fun x0 x1 h => alembicref_SameBytes.eq G k _ x0 x1 h)
theorem alembicref_SameFault.here : ∃ fn, Tryd.prog.funcs[30]? = some fn ∧ fn.body.isSome = true ∧ (fn.name == "runtime.NumGoroutine") = false := ⟨_, Tryd.func30, by kernel_rfl, by kernel_rfl⟩
theorem alembicref_SameFault.eq (G : Globs) (k : Nat) (self : Den) (x0 x1 : AV) (h : AHeap) : absFn Tryd.prog G (envL (alembicref_SameFault.env G k self)) alembicref_SameFault.ann Tryd.f30.results.toList (codeOf Tryd.f30) Tryd.f30.ntmps k [x0, x1] h = alembicref_SameFault.c G k self x0 x1 h := by kernel_rfl
theorem alembicref_SameFault.sound {G : Globs} (hG : ∀ g x, G g = some x → plainB x = true) : ∀ k, Sound Tryd.prog G 30 (alembicref_SameFault.f G k)
  | 0 => sound_zero alembicref_SameFault.here (fun _ _ => rfl)
  | k + 1 => sound_succ (l := alembicref_SameFault.env G k (alembicref_SameFault.f G k)) (ann := alembicref_SameFault.ann) (n := k) (envSound_of hG envNil) orders Tryd.func30 (by kernel_rfl) (by kernel_rfl) rfl (by kernel_rfl) (arg2_of fun x0 x1 h => alembicref_SameFault.eq G k _ x0 x1 h)
theorem alembicref_Bare.here : ∃ fn, Tryd.prog.funcs[25]? = some fn ∧ fn.body.isSome = true ∧ (fn.name == "runtime.NumGoroutine") = false := ⟨_, Tryd.func25, by kernel_rfl, by kernel_rfl⟩
theorem alembicref_Bare.eq (G : Globs) (k : Nat) (self : Den) (x0 : AV) (h : AHeap) : absFn Tryd.prog G (envL (alembicref_Bare.env G k self)) alembicref_Bare.ann Tryd.f25.results.toList (codeOf Tryd.f25) Tryd.f25.ntmps k [x0] h = alembicref_Bare.c G k self x0 h := by kernel_rfl
theorem alembicref_Bare.sound {G : Globs} (hG : ∀ g x, G g = some x → plainB x = true) : ∀ k, Sound Tryd.prog G 25 (alembicref_Bare.f G k)
  | 0 => sound_zero alembicref_Bare.here (fun _ _ => rfl)
  | k + 1 => sound_succ (l := alembicref_Bare.env G k (alembicref_Bare.f G k)) (ann := alembicref_Bare.ann) (n := k) (envSound_of hG envNil) orders Tryd.func25 (by kernel_rfl) (by kernel_rfl) rfl (by kernel_rfl) (arg1_of fun x0 h => alembicref_Bare.eq G k _ x0 h)
theorem alembicref_None.here : ∃ fn, Tryd.prog.funcs[32]? = some fn ∧ fn.body.isSome = true ∧ (fn.name == "runtime.NumGoroutine") = false := ⟨_, Tryd.func32, by kernel_rfl, by kernel_rfl⟩
theorem alembicref_None.eq (G : Globs) (k : Nat) (self : Den) (h : AHeap) : absFn Tryd.prog G (envL (alembicref_None.env G k self)) alembicref_None.ann Tryd.f32.results.toList (codeOf Tryd.f32) Tryd.f32.ntmps k [] h = alembicref_None.c G k self h := by kernel_rfl
theorem alembicref_None.sound {G : Globs} (hG : ∀ g x, G g = some x → plainB x = true) : ∀ k, Sound Tryd.prog G 32 (alembicref_None.f G k)
  | 0 => sound_zero alembicref_None.here (fun _ _ => rfl)
  | k + 1 => sound_succ (l := alembicref_None.env G k (alembicref_None.f G k)) (ann := alembicref_None.ann) (n := k) (envSound_of hG envNil) orders Tryd.func32 (by kernel_rfl) (by kernel_rfl) rfl (by kernel_rfl) (arg0_of fun h => alembicref_None.eq G k _ h)
theorem alembicsee_sentinels.here : ∃ fn, Tryd.prog.funcs[35]? = some fn ∧ fn.body.isSome = true ∧ (fn.name == "runtime.NumGoroutine") = false := ⟨_, Tryd.func35, by kernel_rfl, by kernel_rfl⟩
theorem alembicsee_sentinels.eq (G : Globs) (k : Nat) (self : Den) (h : AHeap) : absFn Tryd.prog G (envL (alembicsee_sentinels.env G k self)) alembicsee_sentinels.ann Tryd.f35.results.toList (codeOf Tryd.f35) Tryd.f35.ntmps k [] h = alembicsee_sentinels.c G k self h := by kernel_rfl
theorem alembicsee_sentinels.sound {G : Globs} (hG : ∀ g x, G g = some x → plainB x = true) : ∀ k, Sound Tryd.prog G 35 (alembicsee_sentinels.f G k)
  | 0 => sound_zero alembicsee_sentinels.here (fun _ _ => rfl)
  | k + 1 => sound_succ (l := alembicsee_sentinels.env G k (alembicsee_sentinels.f G k)) (ann := alembicsee_sentinels.ann) (n := k) (envSound_of hG envNil) orders Tryd.func35 (by kernel_rfl) (by kernel_rfl) rfl (by kernel_rfl) (arg0_of fun h => alembicsee_sentinels.eq G k _ h)
theorem alembicsee_Alike.here : ∃ fn, Tryd.prog.funcs[36]? = some fn ∧ fn.body.isSome = true ∧ (fn.name == "runtime.NumGoroutine") = false := ⟨_, Tryd.func36, by kernel_rfl, by kernel_rfl⟩
theorem alembicsee_Alike.eq (G : Globs) (k : Nat) (self : Den) (x0 x1 : AV) (h : AHeap) : absFn Tryd.prog G (envL (alembicsee_Alike.env G k self)) alembicsee_Alike.ann Tryd.f36.results.toList (codeOf Tryd.f36) Tryd.f36.ntmps k [x0, x1] h = alembicsee_Alike.c G k self x0 x1 h := by kernel_rfl
theorem alembicsee_Alike.sound {G : Globs} (hG : ∀ g x, G g = some x → plainB x = true) : ∀ k, Sound Tryd.prog G 36 (alembicsee_Alike.f G k)
  | 0 => sound_zero alembicsee_Alike.here (fun _ _ => rfl)
  | k + 1 => sound_succ (l := alembicsee_Alike.env G k (alembicsee_Alike.f G k)) (ann := alembicsee_Alike.ann) (n := k) (envSound_of hG envNil) orders Tryd.func36 (by kernel_rfl) (by kernel_rfl) rfl (by kernel_rfl) (arg2_of fun x0 x1 h => alembicsee_Alike.eq G k _ x0 x1 h)
theorem alembicsee_sentinel.here : ∃ fn, Tryd.prog.funcs[33]? = some fn ∧ fn.body.isSome = true ∧ (fn.name == "runtime.NumGoroutine") = false := ⟨_, Tryd.func33, by kernel_rfl, by kernel_rfl⟩
theorem alembicsee_sentinel.eq (G : Globs) (k : Nat) (self : Den) (x0 : AV) (h : AHeap) : absFn Tryd.prog G (envL (alembicsee_sentinel.env G k self)) alembicsee_sentinel.ann Tryd.f33.results.toList (codeOf Tryd.f33) Tryd.f33.ntmps k [x0] h = alembicsee_sentinel.c G k self x0 h := by kernel_rfl
theorem alembicsee_sentinel.sound {G : Globs} (hG : ∀ g x, G g = some x → plainB x = true) : ∀ k, Sound Tryd.prog G 33 (alembicsee_sentinel.f G k)
  | 0 => sound_zero alembicsee_sentinel.here (fun _ _ => rfl)
  | k + 1 => sound_succ (l := alembicsee_sentinel.env G k (alembicsee_sentinel.f G k)) (ann := alembicsee_sentinel.ann) (n := k) (envSound_of hG (envCons (alembicsee_sentinels.sound hG k) (envCons (alembicsee_Alike.sound hG k) envNil))) orders Tryd.func33 (by kernel_rfl) (by kernel_rfl) rfl (by kernel_rfl) (arg1_of fun x0 h => alembicsee_sentinel.eq G k _ x0 h)
theorem alembicref_Placed.here : ∃ fn, Tryd.prog.funcs[34]? = some fn ∧ fn.body.isSome = true ∧ (fn.name == "runtime.NumGoroutine") = false := ⟨_, Tryd.func34, by kernel_rfl, by kernel_rfl⟩
theorem alembicref_Placed.eq (G : Globs) (k : Nat) (self : Den) (x0 x1 : AV) (h : AHeap) : absFn Tryd.prog G (envL (alembicref_Placed.env G k self)) alembicref_Placed.ann Tryd.f34.results.toList (codeOf Tryd.f34) Tryd.f34.ntmps k [x0, x1] h = alembicref_Placed.c G k self x0 x1 h := by kernel_rfl
theorem alembicref_Placed.sound {G : Globs} (hG : ∀ g x, G g = some x → plainB x = true) : ∀ k, Sound Tryd.prog G 34 (alembicref_Placed.f G k)
  | 0 => sound_zero alembicref_Placed.here (fun _ _ => rfl)
  | k + 1 => sound_succ (l := alembicref_Placed.env G k (alembicref_Placed.f G k)) (ann := alembicref_Placed.ann) (n := k) (envSound_of hG (envCons (alembicref_None.sound hG k) envNil)) orders Tryd.func34 (by kernel_rfl) (by kernel_rfl) rfl (by kernel_rfl) (arg2_of fun x0 x1 h => alembicref_Placed.eq G k _ x0 x1 h)
theorem alembicsee_Fault.here : ∃ fn, Tryd.prog.funcs[31]? = some fn ∧ fn.body.isSome = true ∧ (fn.name == "runtime.NumGoroutine") = false := ⟨_, Tryd.func31, by kernel_rfl, by kernel_rfl⟩
theorem alembicsee_Fault.eq (G : Globs) (k : Nat) (self : Den) (x0 : AV) (h : AHeap) : absFn Tryd.prog G (envL (alembicsee_Fault.env G k self)) alembicsee_Fault.ann Tryd.f31.results.toList (codeOf Tryd.f31) Tryd.f31.ntmps k [x0] h = alembicsee_Fault.c G k self x0 h := by kernel_rfl
theorem alembicsee_Fault.sound {G : Globs} (hG : ∀ g x, G g = some x → plainB x = true) : ∀ k, Sound Tryd.prog G 31 (alembicsee_Fault.f G k)
  | 0 => sound_zero alembicsee_Fault.here (fun _ _ => rfl)
  | k + 1 => sound_succ (l := alembicsee_Fault.env G k (alembicsee_Fault.f G k)) (ann := alembicsee_Fault.ann) (n := k) (envSound_of hG (envCons (alembicref_Bare.sound hG k) (envCons (alembicref_None.sound hG k) (envCons (alembicsee_sentinel.sound hG k) (envCons (alembicref_Placed.sound hG k) envNil))))) orders Tryd.func31 (by kernel_rfl) (by kernel_rfl) rfl (by kernel_rfl) (arg1_of fun x0 h => alembicsee_Fault.eq G k _ x0 h)
theorem alembicsee_Same.here : ∃ fn, Tryd.prog.funcs[24]? = some fn ∧ fn.body.isSome = true ∧ (fn.name == "runtime.NumGoroutine") = false := ⟨_, Tryd.func24, by kernel_rfl, by kernel_rfl⟩
theorem alembicsee_Same.eq (G : Globs) (k : Nat) (self : Den) (x0 x1 : AV) (h : AHeap) : absFn Tryd.prog G (envL (alembicsee_Same.env G k self)) alembicsee_Same.ann Tryd.f24.results.toList (codeOf Tryd.f24) Tryd.f24.ntmps k [x0, x1] h = alembicsee_Same.c G k self x0 x1 h := by kernel_rfl
theorem alembicsee_Same.sound {G : Globs} (hG : ∀ g x, G g = some x → plainB x = true) : ∀ k, Sound Tryd.prog G 24 (alembicsee_Same.f G k)
  | 0 => sound_zero alembicsee_Same.here (fun _ _ => rfl)
  | k + 1 => sound_succ (l := alembicsee_Same.env G k (alembicsee_Same.f G k)) (ann := alembicsee_Same.ann) (n := k) (envSound_of hG (envCons (alembicref_SameFault.sound hG k) (envCons (alembicsee_Fault.sound hG k) envNil))) orders Tryd.func24 (by kernel_rfl) (by kernel_rfl) rfl (by kernel_rfl) (arg2_of fun x0 x1 h => alembicsee_Same.eq G k _ x0 x1 h)
theorem alembicsee_Is.here : ∃ fn, Tryd.prog.funcs[15]? = some fn ∧ fn.body.isSome = true ∧ (fn.name == "runtime.NumGoroutine") = false := ⟨_, Tryd.func15, by kernel_rfl, by kernel_rfl⟩
theorem alembicsee_Is.eq (G : Globs) (k : Nat) (self : Den) (x0 x1 : AV) (h : AHeap) : absFn Tryd.prog G (envL (alembicsee_Is.env G k self)) alembicsee_Is.ann Tryd.f15.results.toList (codeOf Tryd.f15) Tryd.f15.ntmps k [x0, x1] h = alembicsee_Is.c G k self x0 x1 h := by kernel_rfl
theorem alembicsee_Is.sound {G : Globs} (hG : ∀ g x, G g = some x → plainB x = true) : ∀ k, Sound Tryd.prog G 15 (alembicsee_Is.f G k)
  | 0 => sound_zero alembicsee_Is.here (fun _ _ => rfl)
  | k + 1 => sound_succ (l := alembicsee_Is.env G k (alembicsee_Is.f G k)) (ann := alembicsee_Is.ann) (n := k) (envSound_of hG (envCons (alembicsee_Same.sound hG k) (envCons (alembicref_Bare.sound hG k) envNil))) orders Tryd.func15 (by kernel_rfl) (by kernel_rfl) rfl (by kernel_rfl) (arg2_of fun x0 x1 h => alembicsee_Is.eq G k _ x0 x1 h)
theorem alembicref4_Bits.here : ∃ fn, Tryd.prog.funcs[16]? = some fn ∧ fn.body.isSome = true ∧ (fn.name == "runtime.NumGoroutine") = false := ⟨_, Tryd.func16, by kernel_rfl, by kernel_rfl⟩
theorem alembicref4_Bits.eq (G : Globs) (k : Nat) (self : Den) (x0 x1 : AV) (h : AHeap) : absFn Tryd.prog G (envL (alembicref4_Bits.env G k self)) alembicref4_Bits.ann Tryd.f16.results.toList (codeOf Tryd.f16) Tryd.f16.ntmps k [x0, x1] h = alembicref4_Bits.c G k self x0 x1 h := by kernel_rfl
theorem alembicref4_Bits.sound {G : Globs} (hG : ∀ g x, G g = some x → plainB x = true) : ∀ k, Sound Tryd.prog G 16 (alembicref4_Bits.f G k)
  | 0 => sound_zero alembicref4_Bits.here (fun _ _ => rfl)
  | k + 1 => sound_succ (l := alembicref4_Bits.env G k (alembicref4_Bits.f G k)) (ann := alembicref4_Bits.ann) (n := k) (envSound_of hG envNil) orders Tryd.func16 (by kernel_rfl) (by kernel_rfl) rfl (by kernel_rfl) (arg2_of fun x0 x1 h => alembicref4_Bits.eq G k _ x0 x1 h)
theorem alembicref4_Open.here : ∃ fn, Tryd.prog.funcs[17]? = some fn ∧ fn.body.isSome = true ∧ (fn.name == "runtime.NumGoroutine") = false := ⟨_, Tryd.func17, by kernel_rfl, by kernel_rfl⟩
theorem alembicref4_Open.eq (G : Globs) (k : Nat) (self : Den) (x0 x1 x2 : AV) (h : AHeap) : absFn Tryd.prog G (envL (alembicref4_Open.env G k self)) alembicref4_Open.ann Tryd.f17.results.toList (codeOf Tryd.f17) Tryd.f17.ntmps k [x0, x1, x2] h = alembicref4_Open.c G k self x0 x1 x2 h := by kernel_rfl
theorem alembicref4_Open.sound {G : Globs} (hG : ∀ g x, G g = some x → plainB x = true) : ∀ k, Sound Tryd.prog G 17 (alembicref4_Open.f G k)
  | 0 => sound_zero alembicref4_Open.here (fun _ _ => rfl)
  | k + 1 => sound_succ (l := alembicref4_Open.env G k (alembicref4_Open.f G k)) (ann := alembicref4_Open.ann) (n := k) (envSound_of hG envNil) orders Tryd.func17 (by kernel_rfl) (by kernel_rfl) rfl (by kernel_rfl) (arg3_of fun x0 x1 x2 h => alembicref4_Open.eq G k _ x0 x1 x2 h)
theorem alembicref4_Width.here : ∃ fn, Tryd.prog.funcs[18]? = some fn ∧ fn.body.isSome = true ∧ (fn.name == "runtime.NumGoroutine") = false := ⟨_, Tryd.func18, by kernel_rfl, by kernel_rfl⟩
theorem alembicref4_Width.eq (G : Globs) (k : Nat) (self : Den) (x0 : AV) (h : AHeap) : absFn Tryd.prog G (envL (alembicref4_Width.env G k self)) alembicref4_Width.ann Tryd.f18.results.toList (codeOf Tryd.f18) Tryd.f18.ntmps k [x0] h = alembicref4_Width.c G k self x0 h := by kernel_rfl
theorem alembicref4_Width.sound {G : Globs} (hG : ∀ g x, G g = some x → plainB x = true) : ∀ k, Sound Tryd.prog G 18 (alembicref4_Width.f G k)
  | 0 => sound_zero alembicref4_Width.here (fun _ _ => rfl)
  | k + 1 => sound_succ (l := alembicref4_Width.env G k (alembicref4_Width.f G k)) (ann := alembicref4_Width.ann) (n := k) (envSound_of hG envNil) orders Tryd.func18 (by kernel_rfl) (by kernel_rfl) rfl (by kernel_rfl) (arg1_of fun x0 h => alembicref4_Width.eq G k _ x0 h)
theorem pack_fair.here : ∃ fn, Tryd.prog.funcs[26]? = some fn ∧ fn.body.isSome = true ∧ (fn.name == "runtime.NumGoroutine") = false := ⟨_, Tryd.func26, by kernel_rfl, by kernel_rfl⟩
theorem pack_fair.eq (G : Globs) (k : Nat) (self : Den) (x0 x1 : AV) (h : AHeap) : absFn Tryd.prog G (envL (pack_fair.env G k self)) pack_fair.ann Tryd.f26.results.toList (codeOf Tryd.f26) Tryd.f26.ntmps k [x0, x1] h = pack_fair.c G k self x0 x1 h := by kernel_rfl
theorem pack_fair.sound {G : Globs} (hG : ∀ g x, G g = some x → plainB x = true) : ∀ k, Sound Tryd.prog G 26 (pack_fair.f G k)
  | 0 => sound_zero pack_fair.here (fun _ _ => rfl)
  | k + 1 => sound_succ (l := pack_fair.env G k (pack_fair.f G k)) (ann := pack_fair.ann) (n := k) (envSound_of hG envNil) orders Tryd.func26 (by kernel_rfl) (by kernel_rfl) rfl (by kernel_rfl) (arg2_of fun x0 x1 h => pack_fair.eq G k _ x0 x1 h)
theorem pack_Signed.here : ∃ fn, Tryd.prog.funcs[19]? = some fn ∧ fn.body.isSome = true ∧ (fn.name == "runtime.NumGoroutine") = false := ⟨_, Tryd.func19, by kernel_rfl, by kernel_rfl⟩
theorem pack_Signed.eq (G : Globs) (k : Nat) (self : Den) (x0 x1 x2 : AV) (h : AHeap) : absFn Tryd.prog G (envL (pack_Signed.env G k self)) pack_Signed.ann Tryd.f19.results.toList (codeOf Tryd.f19) Tryd.f19.ntmps k [x0, x1, x2] h = pack_Signed.c G k self x0 x1 x2 h := by kernel_rfl
theorem pack_Signed.sound {G : Globs} (hG : ∀ g x, G g = some x → plainB x = true) : ∀ k, Sound Tryd.prog G 19 (pack_Signed.f G k)
  | 0 => sound_zero pack_Signed.here (fun _ _ => rfl)
  | k + 1 => sound_succ (l := pack_Signed.env G k (pack_Signed.f G k)) (ann := pack_Signed.ann) (n := k) (envSound_of hG (envCons (pack_Width.sound hG k) (envCons (pack_Bits.sound hG k) (envCons (pack_fair.sound hG k) envNil)))) orders Tryd.func19 (by kernel_rfl) (by kernel_rfl) rfl (by kernel_rfl) (arg3_of fun x0 x1 x2 h => pack_Signed.eq G k _ x0 x1 x2 h)
theorem alembicref4_ends.here : ∃ fn, Tryd.prog.funcs[27]? = some fn ∧ fn.body.isSome = true ∧ (fn.name == "runtime.NumGoroutine") = false := ⟨_, Tryd.func27, by kernel_rfl, by kernel_rfl⟩
theorem alembicref4_ends.eq (G : Globs) (k : Nat) (self : Den) (x0 x1 : AV) (h : AHeap) : absFn Tryd.prog G (envL (alembicref4_ends.env G k self)) alembicref4_ends.ann Tryd.f27.results.toList (codeOf Tryd.f27) Tryd.f27.ntmps k [x0, x1] h = alembicref4_ends.c G k self x0 x1 h := by kernel_rfl
theorem alembicref4_ends.sound {G : Globs} (hG : ∀ g x, G g = some x → plainB x = true) : ∀ k, Sound Tryd.prog G 27 (alembicref4_ends.f G k)
  | 0 => sound_zero alembicref4_ends.here (fun _ _ => rfl)
  | k + 1 => sound_succ (l := alembicref4_ends.env G k (alembicref4_ends.f G k)) (ann := alembicref4_ends.ann) (n := k) (envSound_of hG envNil) orders Tryd.func27 (by kernel_rfl) (by kernel_rfl) rfl (by kernel_rfl) (arg2_of fun x0 x1 h => alembicref4_ends.eq G k _ x0 x1 h)
theorem alembicref4_Signed.here : ∃ fn, Tryd.prog.funcs[20]? = some fn ∧ fn.body.isSome = true ∧ (fn.name == "runtime.NumGoroutine") = false := ⟨_, Tryd.func20, by kernel_rfl, by kernel_rfl⟩
theorem alembicref4_Signed.eq (G : Globs) (k : Nat) (self : Den) (x0 x1 x2 : AV) (h : AHeap) : absFn Tryd.prog G (envL (alembicref4_Signed.env G k self)) alembicref4_Signed.ann Tryd.f20.results.toList (codeOf Tryd.f20) Tryd.f20.ntmps k [x0, x1, x2] h = alembicref4_Signed.c G k self x0 x1 x2 h := by kernel_rfl
theorem alembicref4_Signed.sound {G : Globs} (hG : ∀ g x, G g = some x → plainB x = true) : ∀ k, Sound Tryd.prog G 20 (alembicref4_Signed.f G k)
  | 0 => sound_zero alembicref4_Signed.here (fun _ _ => rfl)
  | k + 1 => sound_succ (l := alembicref4_Signed.env G k (alembicref4_Signed.f G k)) (ann := alembicref4_Signed.ann) (n := k) (envSound_of hG (envCons (alembicref4_Bits.sound hG k) (envCons (alembicref4_Width.sound hG k) (envCons (alembicref4_ends.sound hG k) envNil)))) orders Tryd.func20 (by kernel_rfl) (by kernel_rfl) rfl (by kernel_rfl) (arg3_of fun x0 x1 x2 h => alembicref4_Signed.eq G k _ x0 x1 x2 h)
theorem pack_OpenSigned.here : ∃ fn, Tryd.prog.funcs[21]? = some fn ∧ fn.body.isSome = true ∧ (fn.name == "runtime.NumGoroutine") = false := ⟨_, Tryd.func21, by kernel_rfl, by kernel_rfl⟩
theorem pack_OpenSigned.eq (G : Globs) (k : Nat) (self : Den) (x0 x1 x2 x3 : AV) (h : AHeap) : absFn Tryd.prog G (envL (pack_OpenSigned.env G k self)) pack_OpenSigned.ann Tryd.f21.results.toList (codeOf Tryd.f21) Tryd.f21.ntmps k [x0, x1, x2, x3] h = pack_OpenSigned.c G k self x0 x1 x2 x3 h := by kernel_rfl
theorem pack_OpenSigned.sound {G : Globs} (hG : ∀ g x, G g = some x → plainB x = true) : ∀ k, Sound Tryd.prog G 21 (pack_OpenSigned.f G k)
  | 0 => sound_zero pack_OpenSigned.here (fun _ _ => rfl)
  | k + 1 => sound_succ (l := pack_OpenSigned.env G k (pack_OpenSigned.f G k)) (ann := pack_OpenSigned.ann) (n := k) (envSound_of hG (envCons (pack_Width.sound hG k) (envCons (pack_Open.sound hG k) (envCons (pack_fair.sound hG k) envNil)))) orders Tryd.func21 (by kernel_rfl) (by kernel_rfl) rfl (by kernel_rfl) (arg4_of fun x0 x1 x2 x3 h => pack_OpenSigned.eq G k _ x0 x1 x2 x3 h)
theorem alembicref4_OpenSigned.here : ∃ fn, Tryd.prog.funcs[22]? = some fn ∧ fn.body.isSome = true ∧ (fn.name == "runtime.NumGoroutine") = false := ⟨_, Tryd.func22, by kernel_rfl, by kernel_rfl⟩
theorem alembicref4_OpenSigned.eq (G : Globs) (k : Nat) (self : Den) (x0 x1 x2 x3 : AV) (h : AHeap) : absFn Tryd.prog G (envL (alembicref4_OpenSigned.env G k self)) alembicref4_OpenSigned.ann Tryd.f22.results.toList (codeOf Tryd.f22) Tryd.f22.ntmps k [x0, x1, x2, x3] h = alembicref4_OpenSigned.c G k self x0 x1 x2 x3 h := by kernel_rfl
theorem alembicref4_OpenSigned.sound {G : Globs} (hG : ∀ g x, G g = some x → plainB x = true) : ∀ k, Sound Tryd.prog G 22 (alembicref4_OpenSigned.f G k)
  | 0 => sound_zero alembicref4_OpenSigned.here (fun _ _ => rfl)
  | k + 1 => sound_succ (l := alembicref4_OpenSigned.env G k (alembicref4_OpenSigned.f G k)) (ann := alembicref4_OpenSigned.ann) (n := k) (envSound_of hG (envCons (alembicref4_Open.sound hG k) (envCons (alembicref4_Width.sound hG k) (envCons (alembicref4_ends.sound hG k) envNil)))) orders Tryd.func22 (by kernel_rfl) (by kernel_rfl) rfl (by kernel_rfl) (arg4_of fun x0 x1 x2 x3 h => alembicref4_OpenSigned.eq G k _ x0 x1 x2 x3 h)
theorem alembiclaw6_PackSays.here : ∃ fn, Tryd.prog.funcs[6]? = some fn ∧ fn.body.isSome = true ∧ (fn.name == "runtime.NumGoroutine") = false := ⟨_, Tryd.func6, by kernel_rfl, by kernel_rfl⟩
theorem alembiclaw6_PackSays.eq (G : Globs) (k : Nat) (self : Den) (x0 x1 x2 x3 x4 x5 : AV) (h : AHeap) : absFn Tryd.prog G (envL (alembiclaw6_PackSays.env G k self)) alembiclaw6_PackSays.ann Tryd.f6.results.toList (codeOf Tryd.f6) Tryd.f6.ntmps k [x0, x1, x2, x3, x4, x5] h = alembiclaw6_PackSays.c G k self x0 x1 x2 x3 x4 x5 h := by kernel_rfl
theorem alembiclaw6_PackSays.sound {G : Globs} (hG : ∀ g x, G g = some x → plainB x = true) : ∀ k, Sound Tryd.prog G 6 (alembiclaw6_PackSays.f G k)
  | 0 => sound_zero alembiclaw6_PackSays.here (fun _ _ => rfl)
  | k + 1 => sound_succ (l := alembiclaw6_PackSays.env G k (alembiclaw6_PackSays.f G k)) (ann := alembiclaw6_PackSays.ann) (n := k) (envSound_of hG (envCons (alembiclaw6_first.sound hG k) (envCons (pack_Width.sound hG k) (envCons (pack_Bits.sound hG k) (envCons (pack_Open.sound hG k) (envCons (alembicref_SameInts.sound hG k) (envCons (alembicref_SameBytes.sound hG k) (envCons (alembicsee_Is.sound hG k) (envCons (alembicref4_Bits.sound hG k) (envCons (alembicref4_Open.sound hG k) (envCons (alembicref4_Width.sound hG k) (envCons (pack_Signed.sound hG k) (envCons (alembicref4_Signed.sound hG k) (envCons (pack_OpenSigned.sound hG k) (envCons (alembicref4_OpenSigned.sound hG k) envNil))))))))))))))) orders Tryd.func6 (by kernel_rfl) (by kernel_rfl) rfl (by kernel_rfl) (arg6_of fun x0 x1 x2 x3 x4 x5 h => alembiclaw6_PackSays.eq G k _ x0 x1 x2 x3 x4 x5 h)
theorem alembicworld_Number.here : ∃ fn, Tryd.prog.funcs[9]? = some fn ∧ fn.body.isSome = true ∧ (fn.name == "runtime.NumGoroutine") = false := ⟨_, Tryd.func9, by kernel_rfl, by kernel_rfl⟩
theorem alembicworld_Number.eq (G : Globs) (k : Nat) (self : Den) (x0 x1 : AV) (h : AHeap) : absFn Tryd.prog G (envL (alembicworld_Number.env G k self)) alembicworld_Number.ann Tryd.f9.results.toList (codeOf Tryd.f9) Tryd.f9.ntmps k [x0, x1] h = alembicworld_Number.c G k self x0 x1 h := by kernel_rfl
theorem alembicworld_Number.sound {G : Globs} (hG : ∀ g x, G g = some x → plainB x = true) : ∀ k, Sound Tryd.prog G 9 (alembicworld_Number.f G k)
  | 0 => sound_zero alembicworld_Number.here (fun _ _ => rfl)
  | k + 1 => sound_succ (l := alembicworld_Number.env G k (alembicworld_Number.f G k)) (ann := alembicworld_Number.ann) (n := k) (envSound_of hG envNil) orders Tryd.func9 (by kernel_rfl) (by kernel_rfl) rfl (by kernel_rfl) (arg2_of fun x0 x1 h => alembicworld_Number.eq G k _ x0 x1 h)
theorem alembiclaw6_PackSigned.here : ∃ fn, Tryd.prog.funcs[7]? = some fn ∧ fn.body.isSome = true ∧ (fn.name == "runtime.NumGoroutine") = false := ⟨_, Tryd.func7, by kernel_rfl, by kernel_rfl⟩
theorem alembiclaw6_PackSigned.eq (G : Globs) (k : Nat) (self : Den) (x0 x1 x2 : AV) (h : AHeap) : absFn Tryd.prog G (envL (alembiclaw6_PackSigned.env G k self)) alembiclaw6_PackSigned.ann Tryd.f7.results.toList (codeOf Tryd.f7) Tryd.f7.ntmps k [x0, x1, x2] h = alembiclaw6_PackSigned.c G k self x0 x1 x2 h := by kernel_rfl
theorem alembiclaw6_PackSigned.sound {G : Globs} (hG : ∀ g x, G g = some x → plainB x = true) : ∀ k, Sound Tryd.prog G 7 (alembiclaw6_PackSigned.f G k)
  | 0 => sound_zero alembiclaw6_PackSigned.here (fun _ _ => rfl)
  | k + 1 => sound_succ (l := alembiclaw6_PackSigned.env G k (alembiclaw6_PackSigned.f G k)) (ann := alembiclaw6_PackSigned.ann) (n := k) (envSound_of hG (envCons (alembiclaw6_first.sound hG k) (envCons (alembicworld_Number.sound hG k) (envCons (pack_Width.sound hG k) (envCons (alembicref_SameInts.sound hG k) (envCons (alembicsee_Is.sound hG k) (envCons (pack_Signed.sound hG k) (envCons (pack_OpenSigned.sound hG k) envNil)))))))) orders Tryd.func7 (by kernel_rfl) (by kernel_rfl) rfl (by kernel_rfl) (arg3_of fun x0 x1 x2 h => alembiclaw6_PackSigned.eq G k _ x0 x1 x2 h)
end Go.Proofs.YtemkaggjbhpbbaaDoor.Mir
