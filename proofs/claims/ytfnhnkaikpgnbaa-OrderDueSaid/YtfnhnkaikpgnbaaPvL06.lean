/- The meanings of the functions of layer 06, and that the program does what they say: written by gen.py. -/
import Derived.Test.YtfnhnkaikpgnbaaPvK
import Derived.Test.YtfnhnkaikpgnbaaPvKs
import Derived.Test.YtfnhnkaikpgnbaaPvAd06
namespace Go.Pv.L06
open Go Go.Pv Go.Proofs
set_option linter.all false
set_option linter.constructorNameAsVariable false
set_option linter.unusedSectionVars false
set_option linter.unusedVariables false
set_option linter.unusedSimpArgs false
noncomputable def C06 : Cfg := { P := Try.prog, ex := 999999, gl := [], cmp := [62], cmpOk := by kernel_rfl }
abbrev T2 : Ty := (Ty.i IntKind.i64)
abbrev T3 : Ty := (Ty.i IntKind.i64)
abbrev T4 : Ty := Ty.b
abbrev T5 : Ty := Ty.y8
abbrev T9 : Ty := Ty.s
abbrev T22 : Ty := ((Ty.i IntKind.i64).p (((Ty.i IntKind.i64).p ((Ty.i IntKind.i64).p ((Ty.i IntKind.i64).p (Ty.s.p ((Ty.i IntKind.i64).p ((Ty.i IntKind.i64).p Ty.s)).l)))).p (Ty.i IntKind.i64))).l
abbrev T29 : Ty := ((Ty.i IntKind.i64).p ((Ty.i IntKind.i64).p Ty.s)).l
abbrev T31 : Ty := ((Ty.i IntKind.i64).p ((Ty.i IntKind.i64).p ((Ty.i IntKind.i64).p (Ty.s.p ((Ty.i IntKind.i64).p ((Ty.i IntKind.i64).p Ty.s)).l))))
abbrev T34 : Ty := ((Ty.i IntKind.i64).p ((Ty.i IntKind.i64).p ((Ty.i IntKind.i64).p (Ty.s.p ((Ty.i IntKind.i64).p ((Ty.i IntKind.i64).p Ty.s)).l)))).l
abbrev T35 : Ty := (Ty.i IntKind.i64)
abbrev T45 : Ty := (Ty.i IntKind.i64).l
abbrev T55 : Ty := Ty.y8.l
abbrev T62 : Ty := ((Ty.i IntKind.i64).p ((Ty.i IntKind.i64).p Ty.s))
abbrev T75 : Ty := (Ty.i IntKind.u64)
abbrev T76 : Ty := Ty.c

/-! ### f47 -/
abbrev I47 : List Sh := [.t T62]
abbrev O47 : List Sh := [.t T4]
noncomputable def c47 : Code := bodyOf Try.f47
noncomputable def Tf47 (k : Nat) : List (Nat × Spec) := []
theorem hT47 (k : Nat) : ∀ p, p ∈ Tf47 k → Snd C06 p.1 p.2 := hT_nil
noncomputable def F47 (k : Nat) : shsDen I47 → Option (shsDen O47 × shsDen (shsUpd I47)) := funF C06 (Tf47 k) [] 1000 Try.f47 I47 O47
theorem snd47 (k : Nat) : Snd C06 47 ⟨I47, O47, F47 k⟩ :=
  snd_def (c := c47) (by kernel_rfl) (by kernel_rfl) (by kernel_rfl) (hT47 k) 1000 I47 O47 (cs := []) (.nil) (by kernel_rfl)

/-! ### f44 -/
abbrev I44 : List Sh := [.t T9]
abbrev O44 : List Sh := [.t T4]
noncomputable def c44 : Code := bodyOf Try.f44
noncomputable def Tf44 (k : Nat) : List (Nat × Spec) := []
theorem hT44 (k : Nat) : ∀ p, p ∈ Tf44 k → Snd C06 p.1 p.2 := hT_nil
noncomputable def c44_0 : Code := loopN c44 0
abbrev H44_0 : Slots := [(0, .t T9), (6, .t T3), (7, .t T3)]
abbrev X44_0 : List (PX × Slots) := [(.ex 0, [(0, .t T9)]), (.rt, [(2, .t T4)])]
noncomputable def E44_0 (k : Nat) : Nat → shsDen (H44_0.map (·.2)) → Option (XD X44_0) := loopF C06 Try.f44.ntmps (kpOf 0 I44) (Tf44 k) [] 1000 H44_0 X44_0 c44_0
noncomputable def L44_0 (k : Nat) : LSpec := ⟨H44_0, X44_0, E44_0 k k⟩
theorem Ls44_0 (k : Nat) : LSnd C06 Try.f44.ntmps (kpOf 0 I44) c44_0 (L44_0 k) :=
  lsnd_def (hT44 k) 1000 H44_0 X44_0 c44_0 (cs := []) (.nil) (by kernel_rfl) k
noncomputable def F44 (k : Nat) : shsDen I44 → Option (shsDen O44 × shsDen (shsUpd I44)) := funF C06 (Tf44 k) [(2, L44_0 k)] 1000 Try.f44 I44 O44
theorem snd44 (k : Nat) : Snd C06 44 ⟨I44, O44, F44 k⟩ :=
  snd_def (c := c44) (by kernel_rfl) (by kernel_rfl) (by kernel_rfl) (hT44 k) 1000 I44 O44 (cs := [c44_0]) (.cons _ _ 2 _ (by kernel_rfl) rfl (Ls44_0 k) (.nil)) (by kernel_rfl)

/-! ### f43 -/
abbrev I43 : List Sh := [.t T2, .t T2]
abbrev O43 : List Sh := [.t T4]
noncomputable def c43 : Code := bodyOf Try.f43
noncomputable def Tf43 (k : Nat) : List (Nat × Spec) := []
theorem hT43 (k : Nat) : ∀ p, p ∈ Tf43 k → Snd C06 p.1 p.2 := hT_nil
noncomputable def F43 (k : Nat) : shsDen I43 → Option (shsDen O43 × shsDen (shsUpd I43)) := funF C06 (Tf43 k) [] 1000 Try.f43 I43 O43
theorem snd43 (k : Nat) : Snd C06 43 ⟨I43, O43, F43 k⟩ :=
  snd_def (c := c43) (by kernel_rfl) (by kernel_rfl) (by kernel_rfl) (hT43 k) 1000 I43 O43 (cs := []) (.nil) (by kernel_rfl)

/-! ### f46 -/
abbrev I46 : List Sh := [.t T62]
abbrev O46 : List Sh := [.t T4]
noncomputable def c46 : Code := bodyOf Try.f46
noncomputable def Tf46 (k : Nat) : List (Nat × Spec) := [(47, ⟨I47, O47, F47 k⟩)]
theorem hT46 (k : Nat) : ∀ p, p ∈ Tf46 k → Snd C06 p.1 p.2 := hT_cons (snd47 k) (hT_nil)
noncomputable def F46 (k : Nat) : shsDen I46 → Option (shsDen O46 × shsDen (shsUpd I46)) := funF C06 (Tf46 k) [] 1000 Try.f46 I46 O46
theorem snd46 (k : Nat) : Snd C06 46 ⟨I46, O46, F46 k⟩ :=
  snd_def (c := c46) (by kernel_rfl) (by kernel_rfl) (by kernel_rfl) (hT46 k) 1000 I46 O46 (cs := []) (.nil) (by kernel_rfl)

/-! ### f50 -/
abbrev I50 : List Sh := [.t T29, .fn (.func 46) 0]
abbrev O50 : List Sh := [.t T3]
noncomputable def c50 : Code := bodyOf Try.f50
noncomputable def Tf50 (k : Nat) : List (Nat × Spec) := [(46, ⟨I46, O46, F46 k⟩)]
theorem hT50 (k : Nat) : ∀ p, p ∈ Tf50 k → Snd C06 p.1 p.2 := hT_cons (snd46 k) (hT_nil)
noncomputable def c50_0 : Code := loopN c50 0
abbrev H50_0 : Slots := [(0, .t T29), (1, .fn (.func 46) 0), (7, .t T3), (8, .t T3)]
abbrev X50_0 : List (PX × Slots) := [(.ex 0, []), (.rt, [(4, .t T3)])]
noncomputable def E50_0 (k : Nat) : Nat → shsDen (H50_0.map (·.2)) → Option (XD X50_0) := loopF C06 Try.f50.ntmps (kpOf 0 I50) (Tf50 k) [] 1000 H50_0 X50_0 c50_0
noncomputable def L50_0 (k : Nat) : LSpec := ⟨H50_0, X50_0, E50_0 k k⟩
theorem Ls50_0 (k : Nat) : LSnd C06 Try.f50.ntmps (kpOf 0 I50) c50_0 (L50_0 k) :=
  lsnd_def (hT50 k) 1000 H50_0 X50_0 c50_0 (cs := []) (.nil) (by kernel_rfl) k
noncomputable def F50 (k : Nat) : shsDen I50 → Option (shsDen O50 × shsDen (shsUpd I50)) := funF C06 (Tf50 k) [(2, L50_0 k)] 1000 Try.f50 I50 O50
theorem snd50 (k : Nat) : Snd C06 50 ⟨I50, O50, F50 k⟩ :=
  snd_def (c := c50) (by kernel_rfl) (by kernel_rfl) (by kernel_rfl) (hT50 k) 1000 I50 O50 (cs := [c50_0]) (.cons _ _ 2 _ (by kernel_rfl) rfl (Ls50_0 k) (.nil)) (by kernel_rfl)

/-! ### f45 -/
abbrev I45 : List Sh := [.t T29, .fn (.func 46) 0]
abbrev O45 : List Sh := [.t T4]
noncomputable def c45 : Code := bodyOf Try.f45
noncomputable def Tf45 (k : Nat) : List (Nat × Spec) := [(50, ⟨I50, O50, F50 k⟩)]
theorem hT45 (k : Nat) : ∀ p, p ∈ Tf45 k → Snd C06 p.1 p.2 := hT_cons (snd50 k) (hT_nil)
noncomputable def F45 (k : Nat) : shsDen I45 → Option (shsDen O45 × shsDen (shsUpd I45)) := funF C06 (Tf45 k) [] 1000 Try.f45 I45 O45
theorem snd45 (k : Nat) : Snd C06 45 ⟨I45, O45, F45 k⟩ :=
  snd_def (c := c45) (by kernel_rfl) (by kernel_rfl) (by kernel_rfl) (hT45 k) 1000 I45 O45 (cs := []) (.nil) (by kernel_rfl)

/-! ### f34 -/
abbrev I34 : List Sh := [.t T31]
abbrev O34 : List Sh := [.t T4]
noncomputable def c34 : Code := bodyOf Try.f34
noncomputable def Tf34 (k : Nat) : List (Nat × Spec) := [(43, ⟨I43, O43, F43 k⟩), (44, ⟨I44, O44, F44 k⟩), (45, ⟨I45, O45, F45 k⟩)]
theorem hT34 (k : Nat) : ∀ p, p ∈ Tf34 k → Snd C06 p.1 p.2 := hT_cons (snd43 k) (hT_cons (snd44 k) (hT_cons (snd45 k) (hT_nil)))
noncomputable def F34 (k : Nat) : shsDen I34 → Option (shsDen O34 × shsDen (shsUpd I34)) := funF C06 (Tf34 k) [] 1000 Try.f34 I34 O34
theorem snd34 (k : Nat) : Snd C06 34 ⟨I34, O34, F34 k⟩ :=
  snd_def (c := c34) (by kernel_rfl) (by kernel_rfl) (by kernel_rfl) (hT34 k) 1000 I34 O34 (cs := []) (.nil) (by kernel_rfl)

/-! ### f36 -/
abbrev I36 : List Sh := [.t T2]
abbrev O36 : List Sh := [.row T5]
noncomputable def c36 : Code := bodyOf Try.f36
noncomputable def Tf36 (k : Nat) : List (Nat × Spec) := []
theorem hT36 (k : Nat) : ∀ p, p ∈ Tf36 k → Snd C06 p.1 p.2 := hT_nil
noncomputable def c36_0 : Code := loopN c36 0
abbrev H36_0 : Slots := [(0, .t T2), (3, .row T5)]
abbrev X36_0 : List (PX × Slots) := [(.ex 0, [(0, .t T2), (3, .row T5)])]
noncomputable def E36_0 (k : Nat) : Nat → shsDen (H36_0.map (·.2)) → Option (XD X36_0) := loopF C06 Try.f36.ntmps (kpOf 0 I36) (Tf36 k) [] 1000 H36_0 X36_0 c36_0
noncomputable def L36_0 (k : Nat) : LSpec := ⟨H36_0, X36_0, E36_0 k k⟩
theorem Ls36_0 (k : Nat) : LSnd C06 Try.f36.ntmps (kpOf 0 I36) c36_0 (L36_0 k) :=
  lsnd_def (hT36 k) 1000 H36_0 X36_0 c36_0 (cs := []) (.nil) (by kernel_rfl) k
noncomputable def F36 (k : Nat) : shsDen I36 → Option (shsDen O36 × shsDen (shsUpd I36)) := funF C06 (Tf36 k) [(2, L36_0 k)] 1000 Try.f36 I36 O36
theorem snd36 (k : Nat) : Snd C06 36 ⟨I36, O36, F36 k⟩ :=
  snd_def (c := c36) (by kernel_rfl) (by kernel_rfl) (by kernel_rfl) (hT36 k) 1000 I36 O36 (cs := [c36_0]) (.cons _ _ 2 _ (by kernel_rfl) rfl (Ls36_0 k) (.nil)) (by kernel_rfl)

/-! ### f37 -/
abbrev I37 : List Sh := [.t T62]
abbrev O37 : List Sh := [.t T55]
noncomputable def c37 : Code := bodyOf Try.f37
noncomputable def Tf37 (k : Nat) : List (Nat × Spec) := [(47, ⟨I47, O47, F47 k⟩)]
theorem hT37 (k : Nat) : ∀ p, p ∈ Tf37 k → Snd C06 p.1 p.2 := hT_cons (snd47 k) (hT_nil)
noncomputable def c37_0 : Code := loopN c37 0
abbrev H37_0 : Slots := [(3, .row T5), (4, .t T75)]
abbrev X37_0 : List (PX × Slots) := [(.ex 1, [(3, .row T5), (4, .t T75)])]
noncomputable def E37_0 (k : Nat) : Nat → shsDen (H37_0.map (·.2)) → Option (XD X37_0) := loopF C06 Try.f37.ntmps (kpOf 0 I37) (Tf37 k) [] 1000 H37_0 X37_0 c37_0
noncomputable def L37_0 (k : Nat) : LSpec := ⟨H37_0, X37_0, E37_0 k k⟩
theorem Ls37_0 (k : Nat) : LSnd C06 Try.f37.ntmps (kpOf 0 I37) c37_0 (L37_0 k) :=
  lsnd_def (hT37 k) 1000 H37_0 X37_0 c37_0 (cs := []) (.nil) (by kernel_rfl) k
noncomputable def F37 (k : Nat) : shsDen I37 → Option (shsDen O37 × shsDen (shsUpd I37)) := funF C06 (Tf37 k) [(10, L37_0 k)] 1000 Try.f37 I37 O37
theorem snd37 (k : Nat) : Snd C06 37 ⟨I37, O37, F37 k⟩ :=
  snd_def (c := c37) (by kernel_rfl) (by kernel_rfl) (by kernel_rfl) (hT37 k) 1000 I37 O37 (cs := [c37_0]) (.cons _ _ 10 _ (by kernel_rfl) rfl (Ls37_0 k) (.nil)) (by kernel_rfl)

/-! ### f35 -/
abbrev I35 : List Sh := [.t T45, .ptr [.row T5]]
abbrev O35 : List Sh := []
noncomputable def c35 : Code := bodyOf Try.f35
noncomputable def Tf35 (k : Nat) : List (Nat × Spec) := [(36, ⟨I36, O36, F36 k⟩)]
theorem hT35 (k : Nat) : ∀ p, p ∈ Tf35 k → Snd C06 p.1 p.2 := hT_cons (snd36 k) (hT_nil)
noncomputable def c35_0 : Code := loopN c35 0
abbrev H35_0 : Slots := [(1, .ptr [.row T5]), (5, .t T45), (6, .t T3), (7, .t T3)]
abbrev X35_0 : List (PX × Slots) := [(.ex 0, [(1, .ptr [.row T5])])]
noncomputable def E35_0 (k : Nat) : Nat → shsDen (H35_0.map (·.2)) → Option (XD X35_0) := loopF C06 Try.f35.ntmps (kpOf 0 I35) (Tf35 k) [] 1000 H35_0 X35_0 c35_0
noncomputable def L35_0 (k : Nat) : LSpec := ⟨H35_0, X35_0, E35_0 k k⟩
theorem Ls35_0 (k : Nat) : LSnd C06 Try.f35.ntmps (kpOf 0 I35) c35_0 (L35_0 k) :=
  lsnd_def (hT35 k) 1000 H35_0 X35_0 c35_0 (cs := []) (.nil) (by kernel_rfl) k
noncomputable def F35 (k : Nat) : shsDen I35 → Option (shsDen O35 × shsDen (shsUpd I35)) := funF C06 (Tf35 k) [(1, L35_0 k)] 1000 Try.f35 I35 O35
theorem snd35 (k : Nat) : Snd C06 35 ⟨I35, O35, F35 k⟩ :=
  snd_def (c := c35) (by kernel_rfl) (by kernel_rfl) (by kernel_rfl) (hT35 k) 1000 I35 O35 (cs := [c35_0]) (.cons _ _ 1 _ (by kernel_rfl) rfl (Ls35_0 k) (.nil)) (by kernel_rfl)

/-! ### f25 -/
abbrev I25 : List Sh := [.t T31]
abbrev O25 : List Sh := [.t T55]
noncomputable def c25 : Code := bodyOf Try.f25
noncomputable def Tf25 (k : Nat) : List (Nat × Spec) := [(34, ⟨I34, O34, F34 k⟩), (37, ⟨I37, O37, F37 k⟩), (35, ⟨I35, O35, F35 k⟩)]
theorem hT25 (k : Nat) : ∀ p, p ∈ Tf25 k → Snd C06 p.1 p.2 := hT_cons (snd34 k) (hT_cons (snd37 k) (hT_cons (snd35 k) (hT_nil)))
noncomputable def c25_0 : Code := loopN c25 0
abbrev H25_0 : Slots := [(3, .ptr [.row T5]), (34, .t T29), (35, .t T3), (36, .t T3)]
abbrev X25_0 : List (PX × Slots) := [(.ex 0, [(3, .ptr [.row T5])])]
noncomputable def E25_0 (k : Nat) : Nat → shsDen (H25_0.map (·.2)) → Option (XD X25_0) := loopF C06 Try.f25.ntmps (kpOf 0 I25) (Tf25 k) [] 1000 H25_0 X25_0 c25_0
noncomputable def L25_0 (k : Nat) : LSpec := ⟨H25_0, X25_0, E25_0 k k⟩
theorem Ls25_0 (k : Nat) : LSnd C06 Try.f25.ntmps (kpOf 0 I25) c25_0 (L25_0 k) :=
  lsnd_def (hT25 k) 1000 H25_0 X25_0 c25_0 (cs := []) (.nil) (by kernel_rfl) k
noncomputable def F25 (k : Nat) : shsDen I25 → Option (shsDen O25 × shsDen (shsUpd I25)) := funF C06 (Tf25 k) [(9, L25_0 k)] 1000 Try.f25 I25 O25
theorem snd25 (k : Nat) : Snd C06 25 ⟨I25, O25, F25 k⟩ :=
  snd_def (c := c25) (by kernel_rfl) (by kernel_rfl) (by kernel_rfl) (hT25 k) 1000 I25 O25 (cs := [c25_0]) (.cons _ _ 9 _ (by kernel_rfl) rfl (Ls25_0 k) (.nil)) (by kernel_rfl)

/-! ### f48 -/
abbrev I48 : List Sh := [.t T31]
abbrev O48 : List Sh := [.t T76]
noncomputable def c48 : Code := bodyOf Try.f48
noncomputable def Tf48 (k : Nat) : List (Nat × Spec) := []
theorem hT48 (k : Nat) : ∀ p, p ∈ Tf48 k → Snd C06 p.1 p.2 := hT_nil
noncomputable def F48 (k : Nat) : shsDen I48 → Option (shsDen O48 × shsDen (shsUpd I48)) := funF C06 (Tf48 k) [] 1000 Try.f48 I48 O48
theorem snd48 (k : Nat) : Snd C06 48 ⟨I48, O48, F48 k⟩ :=
  snd_def (c := c48) (by kernel_rfl) (by kernel_rfl) (by kernel_rfl) (hT48 k) 1000 I48 O48 (cs := []) (.nil) (by kernel_rfl)

/-! ### f38 -/
abbrev I38 : List Sh := [.t T31, .t T31]
abbrev O38 : List Sh := [.t T4]
noncomputable def c38 : Code := bodyOf Try.f38
noncomputable def Tf38 (k : Nat) : List (Nat × Spec) := [(48, ⟨I48, O48, F48 k⟩)]
theorem hT38 (k : Nat) : ∀ p, p ∈ Tf38 k → Snd C06 p.1 p.2 := hT_cons (snd48 k) (hT_nil)
noncomputable def F38 (k : Nat) : shsDen I38 → Option (shsDen O38 × shsDen (shsUpd I38)) := funF C06 (Tf38 k) [] 1000 Try.f38 I38 O38
theorem snd38 (k : Nat) : Snd C06 38 ⟨I38, O38, F38 k⟩ :=
  snd_def (c := c38) (by kernel_rfl) (by kernel_rfl) (by kernel_rfl) (hT38 k) 1000 I38 O38 (cs := []) (.nil) (by kernel_rfl)

/-! ### f27 -/
abbrev I27 : List Sh := [.t T31, .t T31]
abbrev O27 : List Sh := [.t T3]
noncomputable def c27 : Code := bodyOf Try.f27
noncomputable def Tf27 (k : Nat) : List (Nat × Spec) := [(38, ⟨I38, O38, F38 k⟩)]
theorem hT27 (k : Nat) : ∀ p, p ∈ Tf27 k → Snd C06 p.1 p.2 := hT_cons (snd38 k) (hT_nil)
noncomputable def F27 (k : Nat) : shsDen I27 → Option (shsDen O27 × shsDen (shsUpd I27)) := funF C06 (Tf27 k) [] 1000 Try.f27 I27 O27
theorem snd27 (k : Nat) : Snd C06 27 ⟨I27, O27, F27 k⟩ :=
  snd_def (c := c27) (by kernel_rfl) (by kernel_rfl) (by kernel_rfl) (hT27 k) 1000 I27 O27 (cs := []) (.nil) (by kernel_rfl)

/-! ### f26 -/
abbrev I26 : List Sh := [.t T34, .t T31, .fn (.func 27) 0]
abbrev O26 : List Sh := [.t T3, .t T4]
noncomputable def c26 : Code := bodyOf Try.f26
noncomputable def Tf26 (k : Nat) : List (Nat × Spec) := [(27, ⟨I27, O27, F27 k⟩)]
theorem hT26 (k : Nat) : ∀ p, p ∈ Tf26 k → Snd C06 p.1 p.2 := hT_cons (snd27 k) (hT_nil)
noncomputable def c26_0 : Code := loopN c26 0
abbrev H26_0 : Slots := [(0, .t T34), (2, .fn (.func 27) 0), (4, .ptr [.t T31]), (8, .t T3), (9, .t T3), (10, .t T3)]
abbrev X26_0 : List (PX × Slots) := [(.ex 0, [(0, .t T34), (2, .fn (.func 27) 0), (4, .ptr [.t T31]), (8, .t T3), (9, .t T3)])]
noncomputable def E26_0 (k : Nat) : Nat → shsDen (H26_0.map (·.2)) → Option (XD X26_0) := loopF C06 Try.f26.ntmps (kpOf 0 I26) (Tf26 k) [] 1000 H26_0 X26_0 c26_0
noncomputable def L26_0 (k : Nat) : LSpec := ⟨H26_0, X26_0, E26_0 k k⟩
theorem Ls26_0 (k : Nat) : LSnd C06 Try.f26.ntmps (kpOf 0 I26) c26_0 (L26_0 k) :=
  lsnd_def (hT26 k) 1000 H26_0 X26_0 c26_0 (cs := []) (.nil) (by kernel_rfl) k
noncomputable def F26 (k : Nat) : shsDen I26 → Option (shsDen O26 × shsDen (shsUpd I26)) := funF C06 (Tf26 k) [(3, L26_0 k)] 1000 Try.f26 I26 O26
theorem snd26 (k : Nat) : Snd C06 26 ⟨I26, O26, F26 k⟩ :=
  snd_def (c := c26) (by kernel_rfl) (by kernel_rfl) (by kernel_rfl) (hT26 k) 1000 I26 O26 (cs := [c26_0]) (.cons _ _ 3 _ (by kernel_rfl) rfl (Ls26_0 k) (.nil)) (by kernel_rfl)

/-! ### f28 -/
abbrev I28 : List Sh := [.t T29]
abbrev O28 : List Sh := [.t T29]
noncomputable def F28 (k : Nat) : shsDen I28 → Option (shsDen O28 × shsDen (shsUpd I28)) := D28 k
theorem snd28 (k : Nat) : Snd C06 28 ⟨I28, O28, F28 k⟩ := cln28 k


/-! ### f24 -/
abbrev I24 : List Sh := [.mrow T31]
abbrev O24 : List Sh := [.row T31]
noncomputable def F24 (k : Nat) : shsDen I24 → Option (shsDen O24 × shsDen (shsUpd I24)) := D24 k
theorem snd24 (k : Nat) : Snd C06 24 ⟨I24, O24, F24 k⟩ := cln24 k


/-! ### f29 -/
abbrev I29 : List Sh := [.row T31, .t T3, .t T34]
abbrev O29 : List Sh := [.row T31]
noncomputable def F29 (k : Nat) : shsDen I29 → Option (shsDen O29 × shsDen (shsUpd I29)) := insF
theorem snd29 (k : Nat) : Snd C06 29 ⟨I29, O29, F29 k⟩ := insSnd


/-! ### f9 -/
abbrev I9 : List Sh := []
abbrev O9 : List Sh := [.ptr [.row T31, .t T2]]
noncomputable def c9 : Code := bodyOf Try.f9
noncomputable def Tf9 (k : Nat) : List (Nat × Spec) := []
theorem hT9 (k : Nat) : ∀ p, p ∈ Tf9 k → Snd C06 p.1 p.2 := hT_nil
noncomputable def F9 (k : Nat) : shsDen I9 → Option (shsDen O9 × shsDen (shsUpd I9)) := funF C06 (Tf9 k) [] 1000 Try.f9 I9 O9
theorem snd9 (k : Nat) : Snd C06 9 ⟨I9, O9, F9 k⟩ :=
  snd_def (c := c9) (by kernel_rfl) (by kernel_rfl) (by kernel_rfl) (hT9 k) 1000 I9 O9 (cs := []) (.nil) (by kernel_rfl)

/-! ### f15 -/
abbrev I15 : List Sh := [.ptr [.row T31, .t T2], .t T31]
abbrev O15 : List Sh := [.t T35]
noncomputable def c15 : Code := bodyOf Try.f15
noncomputable def Tf15 (k : Nat) : List (Nat × Spec) := [(25, ⟨I25, O25, F25 k⟩), (26, ⟨I26, O26, F26 k⟩), (28, ⟨I28, O28, F28 k⟩), (29, ⟨I29, O29, F29 k⟩)]
theorem hT15 (k : Nat) : ∀ p, p ∈ Tf15 k → Snd C06 p.1 p.2 := hT_cons (snd25 k) (hT_cons (snd26 k) (hT_cons (snd28 k) (hT_cons (snd29 k) (hT_nil))))
noncomputable def F15 (k : Nat) : shsDen I15 → Option (shsDen O15 × shsDen (shsUpd I15)) := funF C06 (Tf15 k) [] 1000 Try.f15 I15 O15
theorem snd15 (k : Nat) : Snd C06 15 ⟨I15, O15, F15 k⟩ :=
  snd_def (c := c15) (by kernel_rfl) (by kernel_rfl) (by kernel_rfl) (hT15 k) 1000 I15 O15 (cs := []) (.nil) (by kernel_rfl)

/-! ### f12 -/
abbrev I12 : List Sh := [.ptr [.row T31, .t T2], .t T2]
abbrev O12 : List Sh := [.t T34, .t T35]
noncomputable def F12 (k : Nat) : shsDen I12 → Option (shsDen O12 × shsDen (shsUpd I12)) := advF
theorem snd12 (k : Nat) : Snd C06 12 ⟨I12, O12, F12 k⟩ := advSnd


/-! ### f17 -/
abbrev I17 : List Sh := [.ptr [.row T31, .t T2]]
abbrev O17 : List Sh := [.t T2]
noncomputable def c17 : Code := bodyOf Try.f17
noncomputable def Tf17 (k : Nat) : List (Nat × Spec) := []
theorem hT17 (k : Nat) : ∀ p, p ∈ Tf17 k → Snd C06 p.1 p.2 := hT_nil
noncomputable def F17 (k : Nat) : shsDen I17 → Option (shsDen O17 × shsDen (shsUpd I17)) := funF C06 (Tf17 k) [] 1000 Try.f17 I17 O17
theorem snd17 (k : Nat) : Snd C06 17 ⟨I17, O17, F17 k⟩ :=
  snd_def (c := c17) (by kernel_rfl) (by kernel_rfl) (by kernel_rfl) (hT17 k) 1000 I17 O17 (cs := []) (.nil) (by kernel_rfl)

/-! ### f19 -/
abbrev I19 : List Sh := [.ptr [.row T31, .t T2]]
abbrev O19 : List Sh := [.t T34]
noncomputable def c19 : Code := bodyOf Try.f19
noncomputable def Tf19 (k : Nat) : List (Nat × Spec) := [(24, ⟨I24, O24, F24 k⟩)]
theorem hT19 (k : Nat) : ∀ p, p ∈ Tf19 k → Snd C06 p.1 p.2 := hT_cons (snd24 k) (hT_nil)
noncomputable def F19 (k : Nat) : shsDen I19 → Option (shsDen O19 × shsDen (shsUpd I19)) := funF C06 (Tf19 k) [] 1000 Try.f19 I19 O19
theorem snd19 (k : Nat) : Snd C06 19 ⟨I19, O19, F19 k⟩ :=
  snd_def (c := c19) (by kernel_rfl) (by kernel_rfl) (by kernel_rfl) (hT19 k) 1000 I19 O19 (cs := []) (.nil) (by kernel_rfl)

/-! ### f42 -/
abbrev I42 : List Sh := [.t T62]
abbrev O42 : List Sh := [.t T4]
noncomputable def c42 : Code := bodyOf Try.f42
noncomputable def Tf42 (k : Nat) : List (Nat × Spec) := []
theorem hT42 (k : Nat) : ∀ p, p ∈ Tf42 k → Snd C06 p.1 p.2 := hT_nil
noncomputable def F42 (k : Nat) : shsDen I42 → Option (shsDen O42 × shsDen (shsUpd I42)) := funF C06 (Tf42 k) [] 1000 Try.f42 I42 O42
theorem snd42 (k : Nat) : Snd C06 42 ⟨I42, O42, F42 k⟩ :=
  snd_def (c := c42) (by kernel_rfl) (by kernel_rfl) (by kernel_rfl) (hT42 k) 1000 I42 O42 (cs := []) (.nil) (by kernel_rfl)

/-! ### f41 -/
abbrev I41 : List Sh := [.t T9]
abbrev O41 : List Sh := [.t T4]
noncomputable def c41 : Code := bodyOf Try.f41
noncomputable def Tf41 (k : Nat) : List (Nat × Spec) := []
theorem hT41 (k : Nat) : ∀ p, p ∈ Tf41 k → Snd C06 p.1 p.2 := hT_nil
noncomputable def c41_0 : Code := loopN c41 0
abbrev H41_0 : Slots := [(0, .t T9), (3, .t T3)]
abbrev X41_0 : List (PX × Slots) := [(.ex 0, [(0, .t T9)]), (.rt, [(2, .t T4)])]
noncomputable def E41_0 (k : Nat) : Nat → shsDen (H41_0.map (·.2)) → Option (XD X41_0) := loopF C06 Try.f41.ntmps (kpOf 0 I41) (Tf41 k) [] 1000 H41_0 X41_0 c41_0
noncomputable def L41_0 (k : Nat) : LSpec := ⟨H41_0, X41_0, E41_0 k k⟩
theorem Ls41_0 (k : Nat) : LSnd C06 Try.f41.ntmps (kpOf 0 I41) c41_0 (L41_0 k) :=
  lsnd_def (hT41 k) 1000 H41_0 X41_0 c41_0 (cs := []) (.nil) (by kernel_rfl) k
noncomputable def F41 (k : Nat) : shsDen I41 → Option (shsDen O41 × shsDen (shsUpd I41)) := funF C06 (Tf41 k) [(2, L41_0 k)] 1000 Try.f41 I41 O41
theorem snd41 (k : Nat) : Snd C06 41 ⟨I41, O41, F41 k⟩ :=
  snd_def (c := c41) (by kernel_rfl) (by kernel_rfl) (by kernel_rfl) (hT41 k) 1000 I41 O41 (cs := [c41_0]) (.cons _ _ 2 _ (by kernel_rfl) rfl (Ls41_0 k) (.nil)) (by kernel_rfl)

/-! ### f30 -/
abbrev I30 : List Sh := [.t T31]
abbrev O30 : List Sh := [.t T4]
noncomputable def c30 : Code := bodyOf Try.f30
noncomputable def Tf30 (k : Nat) : List (Nat × Spec) := [(41, ⟨I41, O41, F41 k⟩), (42, ⟨I42, O42, F42 k⟩)]
theorem hT30 (k : Nat) : ∀ p, p ∈ Tf30 k → Snd C06 p.1 p.2 := hT_cons (snd41 k) (hT_cons (snd42 k) (hT_nil))
noncomputable def c30_0 : Code := loopN c30 0
abbrev H30_0 : Slots := [(1, .ptr [.t T31]), (3, .t T3)]
abbrev X30_0 : List (PX × Slots) := [(.ex 0, [(1, .ptr [.t T31])]), (.rt, [(2, .t T4)])]
noncomputable def E30_0 (k : Nat) : Nat → shsDen (H30_0.map (·.2)) → Option (XD X30_0) := loopF C06 Try.f30.ntmps (kpOf 0 I30) (Tf30 k) [] 1000 H30_0 X30_0 c30_0
noncomputable def L30_0 (k : Nat) : LSpec := ⟨H30_0, X30_0, E30_0 k k⟩
theorem Ls30_0 (k : Nat) : LSnd C06 Try.f30.ntmps (kpOf 0 I30) c30_0 (L30_0 k) :=
  lsnd_def (hT30 k) 1000 H30_0 X30_0 c30_0 (cs := []) (.nil) (by kernel_rfl) k
noncomputable def F30 (k : Nat) : shsDen I30 → Option (shsDen O30 × shsDen (shsUpd I30)) := funF C06 (Tf30 k) [(4, L30_0 k)] 1000 Try.f30 I30 O30
theorem snd30 (k : Nat) : Snd C06 30 ⟨I30, O30, F30 k⟩ :=
  snd_def (c := c30) (by kernel_rfl) (by kernel_rfl) (by kernel_rfl) (hT30 k) 1000 I30 O30 (cs := [c30_0]) (.cons _ _ 4 _ (by kernel_rfl) rfl (Ls30_0 k) (.nil)) (by kernel_rfl)

/-! ### f20 -/
abbrev I20 : List Sh := [.t T31, .t T31]
abbrev O20 : List Sh := [.t T4]
noncomputable def c20 : Code := bodyOf Try.f20
noncomputable def Tf20 (k : Nat) : List (Nat × Spec) := []
theorem hT20 (k : Nat) : ∀ p, p ∈ Tf20 k → Snd C06 p.1 p.2 := hT_nil
noncomputable def F20 (k : Nat) : shsDen I20 → Option (shsDen O20 × shsDen (shsUpd I20)) := funF C06 (Tf20 k) [] 1000 Try.f20 I20 O20
theorem snd20 (k : Nat) : Snd C06 20 ⟨I20, O20, F20 k⟩ :=
  snd_def (c := c20) (by kernel_rfl) (by kernel_rfl) (by kernel_rfl) (hT20 k) 1000 I20 O20 (cs := []) (.nil) (by kernel_rfl)

/-! ### f32 -/
abbrev I32 : List Sh := [.t T29, .t T29]
abbrev O32 : List Sh := [.t T4]
noncomputable def c32 : Code := bodyOf Try.f32
noncomputable def Tf32 (k : Nat) : List (Nat × Spec) := []
theorem hT32 (k : Nat) : ∀ p, p ∈ Tf32 k → Snd C06 p.1 p.2 := hT_nil
noncomputable def c32_0 : Code := loopN c32 0
abbrev H32_0 : Slots := [(0, .t T29), (1, .t T29), (5, .t T3)]
abbrev X32_0 : List (PX × Slots) := [(.ex 0, []), (.rt, [(4, .t T4)])]
noncomputable def E32_0 (k : Nat) : Nat → shsDen (H32_0.map (·.2)) → Option (XD X32_0) := loopF C06 Try.f32.ntmps (kpOf 0 I32) (Tf32 k) [] 1000 H32_0 X32_0 c32_0
noncomputable def L32_0 (k : Nat) : LSpec := ⟨H32_0, X32_0, E32_0 k k⟩
theorem Ls32_0 (k : Nat) : LSnd C06 Try.f32.ntmps (kpOf 0 I32) c32_0 (L32_0 k) :=
  lsnd_def (hT32 k) 1000 H32_0 X32_0 c32_0 (cs := []) (.nil) (by kernel_rfl) k
noncomputable def F32 (k : Nat) : shsDen I32 → Option (shsDen O32 × shsDen (shsUpd I32)) := funF C06 (Tf32 k) [(4, L32_0 k)] 1000 Try.f32 I32 O32
theorem snd32 (k : Nat) : Snd C06 32 ⟨I32, O32, F32 k⟩ :=
  snd_def (c := c32) (by kernel_rfl) (by kernel_rfl) (by kernel_rfl) (hT32 k) 1000 I32 O32 (cs := [c32_0]) (.cons _ _ 4 _ (by kernel_rfl) rfl (Ls32_0 k) (.nil)) (by kernel_rfl)

/-! ### f21 -/
abbrev I21 : List Sh := [.t T31, .t T31]
abbrev O21 : List Sh := [.t T4]
noncomputable def c21 : Code := bodyOf Try.f21
noncomputable def Tf21 (k : Nat) : List (Nat × Spec) := [(32, ⟨I32, O32, F32 k⟩)]
theorem hT21 (k : Nat) : ∀ p, p ∈ Tf21 k → Snd C06 p.1 p.2 := hT_cons (snd32 k) (hT_nil)
noncomputable def F21 (k : Nat) : shsDen I21 → Option (shsDen O21 × shsDen (shsUpd I21)) := funF C06 (Tf21 k) [] 1000 Try.f21 I21 O21
theorem snd21 (k : Nat) : Snd C06 21 ⟨I21, O21, F21 k⟩ :=
  snd_def (c := c21) (by kernel_rfl) (by kernel_rfl) (by kernel_rfl) (hT21 k) 1000 I21 O21 (cs := []) (.nil) (by kernel_rfl)

/-! ### f14 -/
abbrev I14 : List Sh := [.t T34, .t T34]
abbrev O14 : List Sh := [.t T4]
noncomputable def c14 : Code := bodyOf Try.f14
noncomputable def Tf14 (k : Nat) : List (Nat × Spec) := [(21, ⟨I21, O21, F21 k⟩)]
theorem hT14 (k : Nat) : ∀ p, p ∈ Tf14 k → Snd C06 p.1 p.2 := hT_cons (snd21 k) (hT_nil)
noncomputable def c14_0 : Code := loopN c14 0
abbrev H14_0 : Slots := [(0, .t T34), (1, .t T34), (5, .t T3)]
abbrev X14_0 : List (PX × Slots) := [(.ex 0, []), (.rt, [(4, .t T4)])]
noncomputable def E14_0 (k : Nat) : Nat → shsDen (H14_0.map (·.2)) → Option (XD X14_0) := loopF C06 Try.f14.ntmps (kpOf 0 I14) (Tf14 k) [] 1000 H14_0 X14_0 c14_0
noncomputable def L14_0 (k : Nat) : LSpec := ⟨H14_0, X14_0, E14_0 k k⟩
theorem Ls14_0 (k : Nat) : LSnd C06 Try.f14.ntmps (kpOf 0 I14) c14_0 (L14_0 k) :=
  lsnd_def (hT14 k) 1000 H14_0 X14_0 c14_0 (cs := []) (.nil) (by kernel_rfl) k
noncomputable def F14 (k : Nat) : shsDen I14 → Option (shsDen O14 × shsDen (shsUpd I14)) := funF C06 (Tf14 k) [(4, L14_0 k)] 1000 Try.f14 I14 O14
theorem snd14 (k : Nat) : Snd C06 14 ⟨I14, O14, F14 k⟩ :=
  snd_def (c := c14) (by kernel_rfl) (by kernel_rfl) (by kernel_rfl) (hT14 k) 1000 I14 O14 (cs := [c14_0]) (.cons _ _ 4 _ (by kernel_rfl) rfl (Ls14_0 k) (.nil)) (by kernel_rfl)

/-! ### f10 -/
abbrev I10 : List Sh := []
abbrev O10 : List Sh := [.ptr [.t T34, .t T2]]
noncomputable def c10 : Code := bodyOf Try.f10
noncomputable def Tf10 (k : Nat) : List (Nat × Spec) := []
theorem hT10 (k : Nat) : ∀ p, p ∈ Tf10 k → Snd C06 p.1 p.2 := hT_nil
noncomputable def F10 (k : Nat) : shsDen I10 → Option (shsDen O10 × shsDen (shsUpd I10)) := funF C06 (Tf10 k) [] 1000 Try.f10 I10 O10
theorem snd10 (k : Nat) : Snd C06 10 ⟨I10, O10, F10 k⟩ :=
  snd_def (c := c10) (by kernel_rfl) (by kernel_rfl) (by kernel_rfl) (hT10 k) 1000 I10 O10 (cs := []) (.nil) (by kernel_rfl)

/-! ### f31 -/
abbrev I31 : List Sh := [.t T34, .t T31]
abbrev O31 : List Sh := [.t T34]
noncomputable def c31 : Code := bodyOf Try.f31
noncomputable def Tf31 (k : Nat) : List (Nat × Spec) := [(20, ⟨I20, O20, F20 k⟩)]
theorem hT31 (k : Nat) : ∀ p, p ∈ Tf31 k → Snd C06 p.1 p.2 := hT_cons (snd20 k) (hT_nil)
noncomputable def c31_0 : Code := loopN c31 0
abbrev H31_0 : Slots := [(0, .t T34), (3, .ptr [.t T31]), (5, .row T31), (6, .t T4), (7, .t T3)]
abbrev X31_0 : List (PX × Slots) := [(.ex 0, [(3, .ptr [.t T31]), (5, .row T31), (6, .t T4)])]
noncomputable def E31_0 (k : Nat) : Nat → shsDen (H31_0.map (·.2)) → Option (XD X31_0) := loopF C06 Try.f31.ntmps (kpOf 0 I31) (Tf31 k) [] 1000 H31_0 X31_0 c31_0
noncomputable def L31_0 (k : Nat) : LSpec := ⟨H31_0, X31_0, E31_0 k k⟩
theorem Ls31_0 (k : Nat) : LSnd C06 Try.f31.ntmps (kpOf 0 I31) c31_0 (L31_0 k) :=
  lsnd_def (hT31 k) 1000 H31_0 X31_0 c31_0 (cs := []) (.nil) (by kernel_rfl) k
noncomputable def F31 (k : Nat) : shsDen I31 → Option (shsDen O31 × shsDen (shsUpd I31)) := funF C06 (Tf31 k) [(4, L31_0 k)] 1000 Try.f31 I31 O31
theorem snd31 (k : Nat) : Snd C06 31 ⟨I31, O31, F31 k⟩ :=
  snd_def (c := c31) (by kernel_rfl) (by kernel_rfl) (by kernel_rfl) (hT31 k) 1000 I31 O31 (cs := [c31_0]) (.cons _ _ 4 _ (by kernel_rfl) rfl (Ls31_0 k) (.nil)) (by kernel_rfl)

/-! ### f16 -/
abbrev I16 : List Sh := [.ptr [.t T34, .t T2], .t T31]
abbrev O16 : List Sh := [.t T35]
noncomputable def c16 : Code := bodyOf Try.f16
noncomputable def Tf16 (k : Nat) : List (Nat × Spec) := [(30, ⟨I30, O30, F30 k⟩), (20, ⟨I20, O20, F20 k⟩), (31, ⟨I31, O31, F31 k⟩)]
theorem hT16 (k : Nat) : ∀ p, p ∈ Tf16 k → Snd C06 p.1 p.2 := hT_cons (snd30 k) (hT_cons (snd20 k) (hT_cons (snd31 k) (hT_nil)))
noncomputable def c16_0 : Code := loopN c16 0
abbrev H16_0 : Slots := [(0, .ptr [.t T34, .t T2]), (3, .ptr [.t T31]), (5, .t T3)]
abbrev X16_0 : List (PX × Slots) := [(.ex 0, [(0, .ptr [.t T34, .t T2]), (3, .ptr [.t T31])]), (.rt, [(0, .ptr [.t T34, .t T2]), (4, .t T35)])]
noncomputable def E16_0 (k : Nat) : Nat → shsDen (H16_0.map (·.2)) → Option (XD X16_0) := loopF C06 Try.f16.ntmps (kpOf 0 I16) (Tf16 k) [] 1000 H16_0 X16_0 c16_0
noncomputable def L16_0 (k : Nat) : LSpec := ⟨H16_0, X16_0, E16_0 k k⟩
theorem Ls16_0 (k : Nat) : LSnd C06 Try.f16.ntmps (kpOf 0 I16) c16_0 (L16_0 k) :=
  lsnd_def (hT16 k) 1000 H16_0 X16_0 c16_0 (cs := []) (.nil) (by kernel_rfl) k
noncomputable def F16 (k : Nat) : shsDen I16 → Option (shsDen O16 × shsDen (shsUpd I16)) := funF C06 (Tf16 k) [(6, L16_0 k)] 1000 Try.f16 I16 O16
theorem snd16 (k : Nat) : Snd C06 16 ⟨I16, O16, F16 k⟩ :=
  snd_def (c := c16) (by kernel_rfl) (by kernel_rfl) (by kernel_rfl) (hT16 k) 1000 I16 O16 (cs := [c16_0]) (.cons _ _ 6 _ (by kernel_rfl) rfl (Ls16_0 k) (.nil)) (by kernel_rfl)

/-! ### f13 -/
abbrev I13 : List Sh := [.ptr [.t T34, .t T2], .t T2]
abbrev O13 : List Sh := [.t T34, .t T35]
noncomputable def c13 : Code := bodyOf Try.f13
noncomputable def Tf13 (k : Nat) : List (Nat × Spec) := []
theorem hT13 (k : Nat) : ∀ p, p ∈ Tf13 k → Snd C06 p.1 p.2 := hT_nil
noncomputable def c13_0 : Code := loopN c13 0
abbrev H13_0 : Slots := [(0, .ptr [.t T34, .t T2]), (1, .t T2), (6, .row T31), (7, .row T31), (8, .t T3)]
abbrev X13_0 : List (PX × Slots) := [(.ex 0, [(0, .ptr [.t T34, .t T2]), (1, .t T2), (6, .row T31), (7, .row T31)])]
noncomputable def E13_0 (k : Nat) : Nat → shsDen (H13_0.map (·.2)) → Option (XD X13_0) := loopF C06 Try.f13.ntmps (kpOf 0 I13) (Tf13 k) [] 1000 H13_0 X13_0 c13_0
noncomputable def L13_0 (k : Nat) : LSpec := ⟨H13_0, X13_0, E13_0 k k⟩
theorem Ls13_0 (k : Nat) : LSnd C06 Try.f13.ntmps (kpOf 0 I13) c13_0 (L13_0 k) :=
  lsnd_def (hT13 k) 1000 H13_0 X13_0 c13_0 (cs := []) (.nil) (by kernel_rfl) k
noncomputable def F13 (k : Nat) : shsDen I13 → Option (shsDen O13 × shsDen (shsUpd I13)) := funF C06 (Tf13 k) [(8, L13_0 k)] 1000 Try.f13 I13 O13
theorem snd13 (k : Nat) : Snd C06 13 ⟨I13, O13, F13 k⟩ :=
  snd_def (c := c13) (by kernel_rfl) (by kernel_rfl) (by kernel_rfl) (hT13 k) 1000 I13 O13 (cs := [c13_0]) (.cons _ _ 8 _ (by kernel_rfl) rfl (Ls13_0 k) (.nil)) (by kernel_rfl)

/-! ### f18 -/
abbrev I18 : List Sh := [.ptr [.t T34, .t T2]]
abbrev O18 : List Sh := [.t T2]
noncomputable def c18 : Code := bodyOf Try.f18
noncomputable def Tf18 (k : Nat) : List (Nat × Spec) := []
theorem hT18 (k : Nat) : ∀ p, p ∈ Tf18 k → Snd C06 p.1 p.2 := hT_nil
noncomputable def F18 (k : Nat) : shsDen I18 → Option (shsDen O18 × shsDen (shsUpd I18)) := funF C06 (Tf18 k) [] 1000 Try.f18 I18 O18
theorem snd18 (k : Nat) : Snd C06 18 ⟨I18, O18, F18 k⟩ :=
  snd_def (c := c18) (by kernel_rfl) (by kernel_rfl) (by kernel_rfl) (hT18 k) 1000 I18 O18 (cs := []) (.nil) (by kernel_rfl)

/-! ### f22 -/
abbrev I22 : List Sh := [.t T31]
abbrev O22 : List Sh := [.t T4]
noncomputable def c22 : Code := bodyOf Try.f22
noncomputable def Tf22 (k : Nat) : List (Nat × Spec) := []
theorem hT22 (k : Nat) : ∀ p, p ∈ Tf22 k → Snd C06 p.1 p.2 := hT_nil
noncomputable def c22_0 : Code := loopN c22 0
abbrev H22_0 : Slots := [(1, .ptr [.t T31]), (3, .t T3), (4, .t T3)]
abbrev X22_0 : List (PX × Slots) := [(.ex 0, [(3, .t T3)])]
noncomputable def E22_0 (k : Nat) : Nat → shsDen (H22_0.map (·.2)) → Option (XD X22_0) := loopF C06 Try.f22.ntmps (kpOf 0 I22) (Tf22 k) [] 1000 H22_0 X22_0 c22_0
noncomputable def L22_0 (k : Nat) : LSpec := ⟨H22_0, X22_0, E22_0 k k⟩
theorem Ls22_0 (k : Nat) : LSnd C06 Try.f22.ntmps (kpOf 0 I22) c22_0 (L22_0 k) :=
  lsnd_def (hT22 k) 1000 H22_0 X22_0 c22_0 (cs := []) (.nil) (by kernel_rfl) k
noncomputable def F22 (k : Nat) : shsDen I22 → Option (shsDen O22 × shsDen (shsUpd I22)) := funF C06 (Tf22 k) [(3, L22_0 k)] 1000 Try.f22 I22 O22
theorem snd22 (k : Nat) : Snd C06 22 ⟨I22, O22, F22 k⟩ :=
  snd_def (c := c22) (by kernel_rfl) (by kernel_rfl) (by kernel_rfl) (hT22 k) 1000 I22 O22 (cs := [c22_0]) (.cons _ _ 3 _ (by kernel_rfl) rfl (Ls22_0 k) (.nil)) (by kernel_rfl)

/-! ### f11 -/
abbrev I11 : List Sh := [.t T22]
abbrev O11 : List Sh := [.t T4]
noncomputable def c11 : Code := bodyOf Try.f11
noncomputable def Tf11 (k : Nat) : List (Nat × Spec) := [(22, ⟨I22, O22, F22 k⟩)]
theorem hT11 (k : Nat) : ∀ p, p ∈ Tf11 k → Snd C06 p.1 p.2 := hT_cons (snd22 k) (hT_nil)
noncomputable def c11_0 : Code := loopN c11 0
abbrev H11_0 : Slots := [(0, .t T22), (3, .t T3)]
abbrev X11_0 : List (PX × Slots) := [(.ex 0, [(0, .t T22)]), (.rt, [(2, .t T4)])]
noncomputable def E11_0 (k : Nat) : Nat → shsDen (H11_0.map (·.2)) → Option (XD X11_0) := loopF C06 Try.f11.ntmps (kpOf 0 I11) (Tf11 k) [] 1000 H11_0 X11_0 c11_0
noncomputable def L11_0 (k : Nat) : LSpec := ⟨H11_0, X11_0, E11_0 k k⟩
theorem Ls11_0 (k : Nat) : LSnd C06 Try.f11.ntmps (kpOf 0 I11) c11_0 (L11_0 k) :=
  lsnd_def (hT11 k) 1000 H11_0 X11_0 c11_0 (cs := []) (.nil) (by kernel_rfl) k
noncomputable def F11 (k : Nat) : shsDen I11 → Option (shsDen O11 × shsDen (shsUpd I11)) := funF C06 (Tf11 k) [(2, L11_0 k)] 1000 Try.f11 I11 O11
theorem snd11 (k : Nat) : Snd C06 11 ⟨I11, O11, F11 k⟩ :=
  snd_def (c := c11) (by kernel_rfl) (by kernel_rfl) (by kernel_rfl) (hT11 k) 1000 I11 O11 (cs := [c11_0]) (.cons _ _ 2 _ (by kernel_rfl) rfl (Ls11_0 k) (.nil)) (by kernel_rfl)

/-! ### f8 -/
abbrev I8 : List Sh := []
abbrev O8 : List Sh := [.t T4]
noncomputable def c8 : Code := bodyOf Try.f8
noncomputable def Tf8 (k : Nat) : List (Nat × Spec) := [(9, ⟨I9, O9, F9 k⟩), (15, ⟨I15, O15, F15 k⟩), (12, ⟨I12, O12, F12 k⟩), (17, ⟨I17, O17, F17 k⟩), (19, ⟨I19, O19, F19 k⟩)]
theorem hT8 (k : Nat) : ∀ p, p ∈ Tf8 k → Snd C06 p.1 p.2 := hT_cons (snd9 k) (hT_cons (snd15 k) (hT_cons (snd12 k) (hT_cons (snd17 k) (hT_cons (snd19 k) (hT_nil)))))
noncomputable def F8 (k : Nat) : shsDen I8 → Option (shsDen O8 × shsDen (shsUpd I8)) := funF C06 (Tf8 k) [] 1000 Try.f8 I8 O8
theorem snd8 (k : Nat) : Snd C06 8 ⟨I8, O8, F8 k⟩ :=
  snd_def (c := c8) (by kernel_rfl) (by kernel_rfl) (by kernel_rfl) (hT8 k) 1000 I8 O8 (cs := []) (.nil) (by kernel_rfl)

/-! ### f3 -/
abbrev I3 : List Sh := [.t T22]
abbrev O3 : List Sh := [.t T4]
noncomputable def c3 : Code := bodyOf Try.f3
noncomputable def Tf3 (k : Nat) : List (Nat × Spec) := [(8, ⟨I8, O8, F8 k⟩), (9, ⟨I9, O9, F9 k⟩), (10, ⟨I10, O10, F10 k⟩), (11, ⟨I11, O11, F11 k⟩), (12, ⟨I12, O12, F12 k⟩), (13, ⟨I13, O13, F13 k⟩), (14, ⟨I14, O14, F14 k⟩), (15, ⟨I15, O15, F15 k⟩), (16, ⟨I16, O16, F16 k⟩), (17, ⟨I17, O17, F17 k⟩), (18, ⟨I18, O18, F18 k⟩), (19, ⟨I19, O19, F19 k⟩)]
theorem hT3 (k : Nat) : ∀ p, p ∈ Tf3 k → Snd C06 p.1 p.2 := hT_cons (snd8 k) (hT_cons (snd9 k) (hT_cons (snd10 k) (hT_cons (snd11 k) (hT_cons (snd12 k) (hT_cons (snd13 k) (hT_cons (snd14 k) (hT_cons (snd15 k) (hT_cons (snd16 k) (hT_cons (snd17 k) (hT_cons (snd18 k) (hT_cons (snd19 k) (hT_nil))))))))))))
noncomputable def c3_0 : Code := loopN c3 0
abbrev H3_0 : Slots := [(0, .t T22), (3, .t T4), (4, .ptr [.row T31, .t T2]), (5, .ptr [.t T34, .t T2]), (6, .t T3)]
abbrev X3_0 : List (PX × Slots) := [(.ex 0, [(3, .t T4), (4, .ptr [.row T31, .t T2]), (5, .ptr [.t T34, .t T2])]), (.rt, [(2, .t T4)])]
noncomputable def E3_0 (k : Nat) : Nat → shsDen (H3_0.map (·.2)) → Option (XD X3_0) := loopF C06 Try.f3.ntmps (kpOf 0 I3) (Tf3 k) [] 1000 H3_0 X3_0 c3_0
noncomputable def L3_0 (k : Nat) : LSpec := ⟨H3_0, X3_0, E3_0 k k⟩
theorem Ls3_0 (k : Nat) : LSnd C06 Try.f3.ntmps (kpOf 0 I3) c3_0 (L3_0 k) :=
  lsnd_def (hT3 k) 1000 H3_0 X3_0 c3_0 (cs := []) (.nil) (by kernel_rfl) k
noncomputable def F3 (k : Nat) : shsDen I3 → Option (shsDen O3 × shsDen (shsUpd I3)) := funF C06 (Tf3 k) [(7, L3_0 k)] 1000 Try.f3 I3 O3
theorem snd3 (k : Nat) : Snd C06 3 ⟨I3, O3, F3 k⟩ :=
  snd_def (c := c3) (by kernel_rfl) (by kernel_rfl) (by kernel_rfl) (hT3 k) 1000 I3 O3 (cs := [c3_0]) (.cons _ _ 7 _ (by kernel_rfl) rfl (Ls3_0 k) (.nil)) (by kernel_rfl)

/-! ### f4 -/
abbrev I4 : List Sh := [.t T22]
abbrev O4 : List Sh := [.t T4]
noncomputable def c4 : Code := bodyOf Try.f4
noncomputable def Tf4 (k : Nat) : List (Nat × Spec) := [(8, ⟨I8, O8, F8 k⟩), (9, ⟨I9, O9, F9 k⟩), (11, ⟨I11, O11, F11 k⟩), (12, ⟨I12, O12, F12 k⟩), (15, ⟨I15, O15, F15 k⟩), (19, ⟨I19, O19, F19 k⟩), (20, ⟨I20, O20, F20 k⟩), (21, ⟨I21, O21, F21 k⟩)]
theorem hT4 (k : Nat) : ∀ p, p ∈ Tf4 k → Snd C06 p.1 p.2 := hT_cons (snd8 k) (hT_cons (snd9 k) (hT_cons (snd11 k) (hT_cons (snd12 k) (hT_cons (snd15 k) (hT_cons (snd19 k) (hT_cons (snd20 k) (hT_cons (snd21 k) (hT_nil))))))))
noncomputable def c4_0 : Code := loopN c4 0
abbrev H4_0 : Slots := [(0, .t T22), (3, .t T4), (4, .ptr [.row T31, .t T2]), (5, .row T31), (6, .row T31), (7, .t T3)]
abbrev X4_0 : List (PX × Slots) := [(.ex 0, [(3, .t T4), (4, .ptr [.row T31, .t T2]), (5, .row T31), (6, .row T31)]), (.rt, [(2, .t T4)])]
noncomputable def E4_0 (k : Nat) : Nat → shsDen (H4_0.map (·.2)) → Option (XD X4_0) := loopF C06 Try.f4.ntmps (kpOf 0 I4) (Tf4 k) [] 1000 H4_0 X4_0 c4_0
noncomputable def L4_0 (k : Nat) : LSpec := ⟨H4_0, X4_0, E4_0 k k⟩
theorem Ls4_0 (k : Nat) : LSnd C06 Try.f4.ntmps (kpOf 0 I4) c4_0 (L4_0 k) :=
  lsnd_def (hT4 k) 1000 H4_0 X4_0 c4_0 (cs := []) (.nil) (by kernel_rfl) k
noncomputable def c4_1 : Code := loopN c4 1
abbrev H4_1 : Slots := [(3, .t T4), (5, .row T31), (6, .row T31), (12, .t T3)]
abbrev X4_1 : List (PX × Slots) := [(.ex 2, [(3, .t T4), (5, .row T31), (6, .row T31)]), (.rt, [(2, .t T4)])]
noncomputable def E4_1 (k : Nat) : Nat → shsDen (H4_1.map (·.2)) → Option (XD X4_1) := loopF C06 Try.f4.ntmps (kpOf 0 I4) (Tf4 k) [] 1000 H4_1 X4_1 c4_1
noncomputable def L4_1 (k : Nat) : LSpec := ⟨H4_1, X4_1, E4_1 k k⟩
theorem Ls4_1 (k : Nat) : LSnd C06 Try.f4.ntmps (kpOf 0 I4) c4_1 (L4_1 k) :=
  lsnd_def (hT4 k) 1000 H4_1 X4_1 c4_1 (cs := []) (.nil) (by kernel_rfl) k
noncomputable def c4_2 : Code := loopN c4 2
noncomputable def c4_2_0 : Code := loopN c4_2 0
abbrev H4_2_0 : Slots := [(3, .t T4), (5, .row T31), (6, .row T31), (13, .t T3), (14, .t T4), (15, .t T3)]
abbrev X4_2_0 : List (PX × Slots) := [(.ex 6, [(3, .t T4), (5, .row T31), (6, .row T31), (13, .t T3), (14, .t T4)])]
noncomputable def E4_2_0 (k : Nat) : Nat → shsDen (H4_2_0.map (·.2)) → Option (XD X4_2_0) := loopF C06 Try.f4.ntmps (kpOf 0 I4) (Tf4 k) [] 1000 H4_2_0 X4_2_0 c4_2_0
noncomputable def L4_2_0 (k : Nat) : LSpec := ⟨H4_2_0, X4_2_0, E4_2_0 k k⟩
theorem Ls4_2_0 (k : Nat) : LSnd C06 Try.f4.ntmps (kpOf 0 I4) c4_2_0 (L4_2_0 k) :=
  lsnd_def (hT4 k) 1000 H4_2_0 X4_2_0 c4_2_0 (cs := []) (.nil) (by kernel_rfl) k
abbrev H4_2 : Slots := [(3, .t T4), (5, .row T31), (6, .row T31), (13, .t T3)]
abbrev X4_2 : List (PX × Slots) := [(.ex 4, [(3, .t T4)]), (.rt, [(2, .t T4)])]
noncomputable def E4_2 (k : Nat) : Nat → shsDen (H4_2.map (·.2)) → Option (XD X4_2) := loopF C06 Try.f4.ntmps (kpOf 0 I4) (Tf4 k) [(31, L4_2_0 k)] 1000 H4_2 X4_2 c4_2
noncomputable def L4_2 (k : Nat) : LSpec := ⟨H4_2, X4_2, E4_2 k k⟩
theorem Ls4_2 (k : Nat) : LSnd C06 Try.f4.ntmps (kpOf 0 I4) c4_2 (L4_2 k) :=
  lsnd_def (hT4 k) 1000 H4_2 X4_2 c4_2 (cs := [c4_2_0]) (.cons _ _ 31 _ (by kernel_rfl) rfl (Ls4_2_0 k) (.nil)) (by kernel_rfl) k
noncomputable def F4 (k : Nat) : shsDen I4 → Option (shsDen O4 × shsDen (shsUpd I4)) := funF C06 (Tf4 k) [(8, L4_0 k), (22, L4_1 k), (27, L4_2 k)] 1000 Try.f4 I4 O4
theorem snd4 (k : Nat) : Snd C06 4 ⟨I4, O4, F4 k⟩ :=
  snd_def (c := c4) (by kernel_rfl) (by kernel_rfl) (by kernel_rfl) (hT4 k) 1000 I4 O4 (cs := [c4_0, c4_1, c4_2]) (.cons _ _ 8 _ (by kernel_rfl) rfl (Ls4_0 k) (.cons _ _ 22 _ (by kernel_rfl) rfl (Ls4_1 k) (.cons _ _ 27 _ (by kernel_rfl) rfl (Ls4_2 k) (.nil)))) (by kernel_rfl)

/-! ### f5 -/
abbrev I5 : List Sh := [.t T34, .t T45]
abbrev O5 : List Sh := [.t T4]
noncomputable def c5 : Code := bodyOf Try.f5
noncomputable def Tf5 (k : Nat) : List (Nat × Spec) := [(8, ⟨I8, O8, F8 k⟩), (9, ⟨I9, O9, F9 k⟩), (22, ⟨I22, O22, F22 k⟩), (15, ⟨I15, O15, F15 k⟩), (12, ⟨I12, O12, F12 k⟩), (14, ⟨I14, O14, F14 k⟩), (19, ⟨I19, O19, F19 k⟩), (17, ⟨I17, O17, F17 k⟩)]
theorem hT5 (k : Nat) : ∀ p, p ∈ Tf5 k → Snd C06 p.1 p.2 := hT_cons (snd8 k) (hT_cons (snd9 k) (hT_cons (snd22 k) (hT_cons (snd15 k) (hT_cons (snd12 k) (hT_cons (snd14 k) (hT_cons (snd19 k) (hT_cons (snd17 k) (hT_nil))))))))
noncomputable def c5_0 : Code := loopN c5 0
abbrev H5_0 : Slots := [(0, .t T34), (1, .t T45), (5, .t T4), (6, .ptr [.row T31, .t T2]), (7, .ptr [.row T31, .t T2]), (8, .row T31), (9, .t T3)]
abbrev X5_0 : List (PX × Slots) := [(.ex 0, [(1, .t T45), (5, .t T4), (6, .ptr [.row T31, .t T2]), (7, .ptr [.row T31, .t T2]), (8, .row T31)]), (.rt, [(4, .t T4)])]
noncomputable def E5_0 (k : Nat) : Nat → shsDen (H5_0.map (·.2)) → Option (XD X5_0) := loopF C06 Try.f5.ntmps (kpOf 0 I5) (Tf5 k) [] 1000 H5_0 X5_0 c5_0
noncomputable def L5_0 (k : Nat) : LSpec := ⟨H5_0, X5_0, E5_0 k k⟩
theorem Ls5_0 (k : Nat) : LSnd C06 Try.f5.ntmps (kpOf 0 I5) c5_0 (L5_0 k) :=
  lsnd_def (hT5 k) 1000 H5_0 X5_0 c5_0 (cs := []) (.nil) (by kernel_rfl) k
noncomputable def c5_1 : Code := loopN c5 1
abbrev H5_1 : Slots := [(1, .t T45), (5, .t T4), (6, .ptr [.row T31, .t T2]), (7, .ptr [.row T31, .t T2]), (8, .row T31), (10, .t T3)]
abbrev X5_1 : List (PX × Slots) := [(.ex 2, [(1, .t T45), (5, .t T4), (6, .ptr [.row T31, .t T2]), (7, .ptr [.row T31, .t T2])]), (.rt, [(4, .t T4)])]
noncomputable def E5_1 (k : Nat) : Nat → shsDen (H5_1.map (·.2)) → Option (XD X5_1) := loopF C06 Try.f5.ntmps (kpOf 0 I5) (Tf5 k) [] 1000 H5_1 X5_1 c5_1
noncomputable def L5_1 (k : Nat) : LSpec := ⟨H5_1, X5_1, E5_1 k k⟩
theorem Ls5_1 (k : Nat) : LSnd C06 Try.f5.ntmps (kpOf 0 I5) c5_1 (L5_1 k) :=
  lsnd_def (hT5 k) 1000 H5_1 X5_1 c5_1 (cs := []) (.nil) (by kernel_rfl) k
noncomputable def c5_2 : Code := loopN c5 2
abbrev H5_2 : Slots := [(1, .t T45), (5, .t T4), (6, .ptr [.row T31, .t T2]), (7, .ptr [.row T31, .t T2]), (12, .t T3)]
abbrev X5_2 : List (PX × Slots) := [(.ex 4, [(5, .t T4), (6, .ptr [.row T31, .t T2]), (7, .ptr [.row T31, .t T2])]), (.rt, [(4, .t T4)])]
noncomputable def E5_2 (k : Nat) : Nat → shsDen (H5_2.map (·.2)) → Option (XD X5_2) := loopF C06 Try.f5.ntmps (kpOf 0 I5) (Tf5 k) [] 1000 H5_2 X5_2 c5_2
noncomputable def L5_2 (k : Nat) : LSpec := ⟨H5_2, X5_2, E5_2 k k⟩
theorem Ls5_2 (k : Nat) : LSnd C06 Try.f5.ntmps (kpOf 0 I5) c5_2 (L5_2 k) :=
  lsnd_def (hT5 k) 1000 H5_2 X5_2 c5_2 (cs := []) (.nil) (by kernel_rfl) k
noncomputable def F5 (k : Nat) : shsDen I5 → Option (shsDen O5 × shsDen (shsUpd I5)) := funF C06 (Tf5 k) [(8, L5_0 k), (15, L5_1 k), (21, L5_2 k)] 1000 Try.f5 I5 O5
theorem snd5 (k : Nat) : Snd C06 5 ⟨I5, O5, F5 k⟩ :=
  snd_def (c := c5) (by kernel_rfl) (by kernel_rfl) (by kernel_rfl) (hT5 k) 1000 I5 O5 (cs := [c5_0, c5_1, c5_2]) (.cons _ _ 8 _ (by kernel_rfl) rfl (Ls5_0 k) (.cons _ _ 15 _ (by kernel_rfl) rfl (Ls5_1 k) (.cons _ _ 21 _ (by kernel_rfl) rfl (Ls5_2 k) (.nil)))) (by kernel_rfl)

/-! ### f6 -/
abbrev I6 : List Sh := [.t T22]
abbrev O6 : List Sh := [.t T4]
noncomputable def c6 : Code := bodyOf Try.f6
noncomputable def Tf6 (k : Nat) : List (Nat × Spec) := [(8, ⟨I8, O8, F8 k⟩), (9, ⟨I9, O9, F9 k⟩), (11, ⟨I11, O11, F11 k⟩), (19, ⟨I19, O19, F19 k⟩), (17, ⟨I17, O17, F17 k⟩), (12, ⟨I12, O12, F12 k⟩), (14, ⟨I14, O14, F14 k⟩), (15, ⟨I15, O15, F15 k⟩)]
theorem hT6 (k : Nat) : ∀ p, p ∈ Tf6 k → Snd C06 p.1 p.2 := hT_cons (snd8 k) (hT_cons (snd9 k) (hT_cons (snd11 k) (hT_cons (snd19 k) (hT_cons (snd17 k) (hT_cons (snd12 k) (hT_cons (snd14 k) (hT_cons (snd15 k) (hT_nil))))))))
noncomputable def c6_0 : Code := loopN c6 0
abbrev H6_0 : Slots := [(0, .t T22), (3, .t T4), (4, .ptr [.row T31, .t T2]), (5, .t T3)]
abbrev X6_0 : List (PX × Slots) := [(.ex 0, [(3, .t T4)]), (.rt, [(2, .t T4)])]
noncomputable def E6_0 (k : Nat) : Nat → shsDen (H6_0.map (·.2)) → Option (XD X6_0) := loopF C06 Try.f6.ntmps (kpOf 0 I6) (Tf6 k) [] 1000 H6_0 X6_0 c6_0
noncomputable def L6_0 (k : Nat) : LSpec := ⟨H6_0, X6_0, E6_0 k k⟩
theorem Ls6_0 (k : Nat) : LSnd C06 Try.f6.ntmps (kpOf 0 I6) c6_0 (L6_0 k) :=
  lsnd_def (hT6 k) 1000 H6_0 X6_0 c6_0 (cs := []) (.nil) (by kernel_rfl) k
noncomputable def F6 (k : Nat) : shsDen I6 → Option (shsDen O6 × shsDen (shsUpd I6)) := funF C06 (Tf6 k) [(6, L6_0 k)] 1000 Try.f6 I6 O6
theorem snd6 (k : Nat) : Snd C06 6 ⟨I6, O6, F6 k⟩ :=
  snd_def (c := c6) (by kernel_rfl) (by kernel_rfl) (by kernel_rfl) (hT6 k) 1000 I6 O6 (cs := [c6_0]) (.cons _ _ 6 _ (by kernel_rfl) rfl (Ls6_0 k) (.nil)) (by kernel_rfl)

/-! ### f7 -/
abbrev I7 : List Sh := [.t T34, .t T2]
abbrev O7 : List Sh := [.t T4]
noncomputable def c7 : Code := bodyOf Try.f7
noncomputable def Tf7 (k : Nat) : List (Nat × Spec) := [(8, ⟨I8, O8, F8 k⟩), (9, ⟨I9, O9, F9 k⟩), (22, ⟨I22, O22, F22 k⟩), (15, ⟨I15, O15, F15 k⟩), (19, ⟨I19, O19, F19 k⟩), (12, ⟨I12, O12, F12 k⟩)]
theorem hT7 (k : Nat) : ∀ p, p ∈ Tf7 k → Snd C06 p.1 p.2 := hT_cons (snd8 k) (hT_cons (snd9 k) (hT_cons (snd22 k) (hT_cons (snd15 k) (hT_cons (snd19 k) (hT_cons (snd12 k) (hT_nil))))))
noncomputable def c7_0 : Code := loopN c7 0
abbrev H7_0 : Slots := [(0, .t T34), (1, .t T2), (5, .t T4), (6, .ptr [.row T31, .t T2]), (7, .t T3), (8, .t T3)]
abbrev X7_0 : List (PX × Slots) := [(.ex 0, [(1, .t T2), (5, .t T4), (6, .ptr [.row T31, .t T2]), (7, .t T3)]), (.rt, [(4, .t T4)])]
noncomputable def E7_0 (k : Nat) : Nat → shsDen (H7_0.map (·.2)) → Option (XD X7_0) := loopF C06 Try.f7.ntmps (kpOf 0 I7) (Tf7 k) [] 1000 H7_0 X7_0 c7_0
noncomputable def L7_0 (k : Nat) : LSpec := ⟨H7_0, X7_0, E7_0 k k⟩
theorem Ls7_0 (k : Nat) : LSnd C06 Try.f7.ntmps (kpOf 0 I7) c7_0 (L7_0 k) :=
  lsnd_def (hT7 k) 1000 H7_0 X7_0 c7_0 (cs := []) (.nil) (by kernel_rfl) k
noncomputable def c7_1 : Code := loopN c7 1
abbrev H7_1 : Slots := [(1, .t T2), (5, .t T4), (7, .t T3), (9, .t T3), (10, .t T34), (12, .t T34), (13, .t T3)]
abbrev X7_1 : List (PX × Slots) := [(.ex 2, [(1, .t T2), (5, .t T4), (7, .t T3), (9, .t T3), (10, .t T34), (12, .t T34)]), (.rt, [(4, .t T4)])]
noncomputable def E7_1 (k : Nat) : Nat → shsDen (H7_1.map (·.2)) → Option (XD X7_1) := loopF C06 Try.f7.ntmps (kpOf 0 I7) (Tf7 k) [] 1000 H7_1 X7_1 c7_1
noncomputable def L7_1 (k : Nat) : LSpec := ⟨H7_1, X7_1, E7_1 k k⟩
theorem Ls7_1 (k : Nat) : LSnd C06 Try.f7.ntmps (kpOf 0 I7) c7_1 (L7_1 k) :=
  lsnd_def (hT7 k) 1000 H7_1 X7_1 c7_1 (cs := []) (.nil) (by kernel_rfl) k
noncomputable def c7_2 : Code := loopN c7 2
abbrev H7_2 : Slots := [(1, .t T2), (5, .t T4), (7, .t T3), (9, .t T3), (10, .t T34), (12, .t T34), (14, .t T3)]
abbrev X7_2 : List (PX × Slots) := [(.ex 4, [(5, .t T4), (7, .t T3), (9, .t T3), (10, .t T34), (12, .t T34)]), (.rt, [(4, .t T4)])]
noncomputable def E7_2 (k : Nat) : Nat → shsDen (H7_2.map (·.2)) → Option (XD X7_2) := loopF C06 Try.f7.ntmps (kpOf 0 I7) (Tf7 k) [] 1000 H7_2 X7_2 c7_2
noncomputable def L7_2 (k : Nat) : LSpec := ⟨H7_2, X7_2, E7_2 k k⟩
theorem Ls7_2 (k : Nat) : LSnd C06 Try.f7.ntmps (kpOf 0 I7) c7_2 (L7_2 k) :=
  lsnd_def (hT7 k) 1000 H7_2 X7_2 c7_2 (cs := []) (.nil) (by kernel_rfl) k
noncomputable def F7 (k : Nat) : shsDen I7 → Option (shsDen O7 × shsDen (shsUpd I7)) := funF C06 (Tf7 k) [(7, L7_0 k), (19, L7_1 k), (24, L7_2 k)] 1000 Try.f7 I7 O7
theorem snd7 (k : Nat) : Snd C06 7 ⟨I7, O7, F7 k⟩ :=
  snd_def (c := c7) (by kernel_rfl) (by kernel_rfl) (by kernel_rfl) (hT7 k) 1000 I7 O7 (cs := [c7_0, c7_1, c7_2]) (.cons _ _ 7 _ (by kernel_rfl) rfl (Ls7_0 k) (.cons _ _ 19 _ (by kernel_rfl) rfl (Ls7_1 k) (.cons _ _ 24 _ (by kernel_rfl) rfl (Ls7_2 k) (.nil)))) (by kernel_rfl)
end Go.Pv.L06
