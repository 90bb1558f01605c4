/- The meanings of the functions of layer 12, and that the program does what they say: written by gen.py. -/
import Derived.Test.YthedngefmaklnaaPvK
import Derived.Test.YthedngefmaklnaaPvSh12
namespace Go.Pv.L12
open Go Go.Pv Go.Proofs
set_option linter.all false
set_option linter.constructorNameAsVariable false
set_option linter.unusedSectionVars false
set_option linter.unusedVariables false
set_option linter.unusedSimpArgs false
noncomputable def C12 : Cfg := ⟨Try.prog, 50, [0], [47], by kernel_rfl⟩
abbrev T2 : Ty := (Ty.i IntKind.i64)
abbrev T3 : Ty := (Ty.i IntKind.i64)
abbrev T4 : Ty := Ty.b
abbrev T5 : Ty := Ty.y8
abbrev T9 : Ty := Ty.s
abbrev T22 : Ty := (Ty.b.p (Ty.s.l.p (Ty.s.p (Ty.i IntKind.i64)))).l
abbrev T23 : Ty := ((Ty.i IntKind.i64).p (Ty.ex.p Ty.ex)).l
abbrev T25 : Ty := ((Ty.b.p (Ty.s.l.p (Ty.s.p (Ty.i IntKind.i64)))).l.p (((Ty.i IntKind.i64).p (Ty.ex.p Ty.ex)).l.p ((Ty.i IntKind.i64).p (Ty.s.p (Ty.i IntKind.i64)))))
abbrev T26 : Ty := Ty.s.l
abbrev T31 : Ty := ((Ty.i IntKind.i64).l.p ((Ty.i IntKind.i64).l.p Ty.b)).l
abbrev T34 : Ty := (Ty.i IntKind.i64).l
abbrev T36 : Ty := ((Ty.i IntKind.i64).l.p ((Ty.i IntKind.i64).l.p Ty.b))
abbrev T38 : Ty := (Ty.b.p (Ty.s.l.p (Ty.s.p (Ty.i IntKind.i64))))
abbrev T41 : Ty := (Ty.i IntKind.i64)
abbrev T47 : Ty := ((Ty.i IntKind.i64).p ((Ty.i IntKind.i64).p Ty.s))
abbrev T50 : Ty := Ty.ex
abbrev T52 : Ty := ((Ty.i IntKind.i64).p (Ty.ex.p Ty.ex))
abbrev T60 : Ty := ((Ty.i IntKind.i64).p (Ty.s.p (Ty.i IntKind.i64))).l
abbrev T68 : Ty := ((Ty.i IntKind.i64).p (Ty.s.p (Ty.i IntKind.i64)))

/-! ### f40 -/
abbrev I40 : List Sh := [.t T5]
abbrev O40 : List Sh := [.t T4]
noncomputable def c40 : Code := bodyOf Try.f40
noncomputable def Tf40 (k : Nat) : List (Nat × Spec) := []
theorem hT40 (k : Nat) : ∀ p, p ∈ Tf40 k → Snd C12 p.1 p.2 := hT_nil
noncomputable def F40 (k : Nat) : shsDen I40 → Option (shsDen O40 × shsDen (shsUpd I40)) := funF C12 (Tf40 k) [] 1000 Try.f40 I40 O40
theorem snd40 (k : Nat) : Snd C12 40 ⟨I40, O40, F40 k⟩ :=
  snd_def (c := c40) (by kernel_rfl) (by kernel_rfl) (by kernel_rfl) (hT40 k) 1000 I40 O40 (cs := []) (.nil) (by kernel_rfl)

/-! ### f42 -/
abbrev I42 : List Sh := [.t T5]
abbrev O42 : List Sh := [.t T4]
noncomputable def c42 : Code := bodyOf Try.f42
noncomputable def Tf42 (k : Nat) : List (Nat × Spec) := []
theorem hT42 (k : Nat) : ∀ p, p ∈ Tf42 k → Snd C12 p.1 p.2 := hT_nil
noncomputable def F42 (k : Nat) : shsDen I42 → Option (shsDen O42 × shsDen (shsUpd I42)) := funF C12 (Tf42 k) [] 1000 Try.f42 I42 O42
theorem snd42 (k : Nat) : Snd C12 42 ⟨I42, O42, F42 k⟩ :=
  snd_def (c := c42) (by kernel_rfl) (by kernel_rfl) (by kernel_rfl) (hT42 k) 1000 I42 O42 (cs := []) (.nil) (by kernel_rfl)

/-! ### f41 -/
abbrev I41 : List Sh := [.t T9]
abbrev O41 : List Sh := [.t T3]
noncomputable def c41 : Code := bodyOf Try.f41
noncomputable def Tf41 (k : Nat) : List (Nat × Spec) := [(40, ⟨I40, O40, F40 k⟩), (42, ⟨I42, O42, F42 k⟩)]
theorem hT41 (k : Nat) : ∀ p, p ∈ Tf41 k → Snd C12 p.1 p.2 := hT_cons (snd40 k) (hT_cons (snd42 k) (hT_nil))
noncomputable def c41_0 : Code := loopN c41 0
abbrev H41_0 : Slots := [(0, .t T9), (3, .t T3)]
abbrev X41_0 : List (PX × Slots) := [(.ex 0, [(3, .t T3)])]
noncomputable def E41_0 (k : Nat) : Nat → shsDen (H41_0.map (·.2)) → Option (XD X41_0) := loopF C12 Try.f41.ntmps (kpOf 0 I41) (Tf41 k) [] 1000 H41_0 X41_0 c41_0
noncomputable def L41_0 (k : Nat) : LSpec := ⟨H41_0, X41_0, E41_0 k k⟩
theorem Ls41_0 (k : Nat) : LSnd C12 Try.f41.ntmps (kpOf 0 I41) c41_0 (L41_0 k) :=
  lsnd_def (hT41 k) 1000 H41_0 X41_0 c41_0 (cs := []) (.nil) (by kernel_rfl) k
noncomputable def F41 (k : Nat) : shsDen I41 → Option (shsDen O41 × shsDen (shsUpd I41)) := funF C12 (Tf41 k) [(2, L41_0 k)] 1000 Try.f41 I41 O41
theorem snd41 (k : Nat) : Snd C12 41 ⟨I41, O41, F41 k⟩ :=
  snd_def (c := c41) (by kernel_rfl) (by kernel_rfl) (by kernel_rfl) (hT41 k) 1000 I41 O41 (cs := [c41_0]) (.cons _ _ 2 _ (by kernel_rfl) rfl (Ls41_0 k) (.nil)) (by kernel_rfl)

/-! ### f43 -/
abbrev I43 : List Sh := [.t T9]
abbrev O43 : List Sh := [.t T3]
noncomputable def c43 : Code := bodyOf Try.f43
noncomputable def Tf43 (k : Nat) : List (Nat × Spec) := [(42, ⟨I42, O42, F42 k⟩)]
theorem hT43 (k : Nat) : ∀ p, p ∈ Tf43 k → Snd C12 p.1 p.2 := hT_cons (snd42 k) (hT_nil)
noncomputable def c43_0 : Code := loopN c43 0
abbrev H43_0 : Slots := [(0, .t T9), (3, .t T3), (4, .t T3)]
abbrev X43_0 : List (PX × Slots) := [(.ex 0, [(0, .t T9), (3, .t T3), (4, .t T3)])]
noncomputable def E43_0 (k : Nat) : Nat → shsDen (H43_0.map (·.2)) → Option (XD X43_0) := loopF C12 Try.f43.ntmps (kpOf 0 I43) (Tf43 k) [] 1000 H43_0 X43_0 c43_0
noncomputable def L43_0 (k : Nat) : LSpec := ⟨H43_0, X43_0, E43_0 k k⟩
theorem Ls43_0 (k : Nat) : LSnd C12 Try.f43.ntmps (kpOf 0 I43) c43_0 (L43_0 k) :=
  lsnd_def (hT43 k) 1000 H43_0 X43_0 c43_0 (cs := []) (.nil) (by kernel_rfl) k
noncomputable def F43 (k : Nat) : shsDen I43 → Option (shsDen O43 × shsDen (shsUpd I43)) := funF C12 (Tf43 k) [(3, L43_0 k)] 1000 Try.f43 I43 O43
theorem snd43 (k : Nat) : Snd C12 43 ⟨I43, O43, F43 k⟩ :=
  snd_def (c := c43) (by kernel_rfl) (by kernel_rfl) (by kernel_rfl) (hT43 k) 1000 I43 O43 (cs := [c43_0]) (.cons _ _ 3 _ (by kernel_rfl) rfl (Ls43_0 k) (.nil)) (by kernel_rfl)

/-! ### f44 -/
abbrev I44 : List Sh := [.t T9]
abbrev O44 : List Sh := [.t T3]
noncomputable def c44 : Code := bodyOf Try.f44
noncomputable def Tf44 (k : Nat) : List (Nat × Spec) := []
theorem hT44 (k : Nat) : ∀ p, p ∈ Tf44 k → Snd C12 p.1 p.2 := hT_nil
noncomputable def c44_0 : Code := loopN c44 0
abbrev H44_0 : Slots := [(0, .t T9), (3, .t T3)]
abbrev X44_0 : List (PX × Slots) := [(.ex 0, []), (.rt, [(2, .t T3)])]
noncomputable def E44_0 (k : Nat) : Nat → shsDen (H44_0.map (·.2)) → Option (XD X44_0) := loopF C12 Try.f44.ntmps (kpOf 0 I44) (Tf44 k) [] 1000 H44_0 X44_0 c44_0
noncomputable def L44_0 (k : Nat) : LSpec := ⟨H44_0, X44_0, E44_0 k k⟩
theorem Ls44_0 (k : Nat) : LSnd C12 Try.f44.ntmps (kpOf 0 I44) c44_0 (L44_0 k) :=
  lsnd_def (hT44 k) 1000 H44_0 X44_0 c44_0 (cs := []) (.nil) (by kernel_rfl) k
noncomputable def F44 (k : Nat) : shsDen I44 → Option (shsDen O44 × shsDen (shsUpd I44)) := funF C12 (Tf44 k) [(2, L44_0 k)] 1000 Try.f44 I44 O44
theorem snd44 (k : Nat) : Snd C12 44 ⟨I44, O44, F44 k⟩ :=
  snd_def (c := c44) (by kernel_rfl) (by kernel_rfl) (by kernel_rfl) (hT44 k) 1000 I44 O44 (cs := [c44_0]) (.cons _ _ 2 _ (by kernel_rfl) rfl (Ls44_0 k) (.nil)) (by kernel_rfl)

/-! ### f45 -/
abbrev I45 : List Sh := [.t T9]
abbrev O45 : List Sh := [.t T3]
noncomputable def c45 : Code := bodyOf Try.f45
noncomputable def Tf45 (k : Nat) : List (Nat × Spec) := []
theorem hT45 (k : Nat) : ∀ p, p ∈ Tf45 k → Snd C12 p.1 p.2 := hT_nil
noncomputable def c45_0 : Code := loopN c45 0
abbrev H45_0 : Slots := [(0, .t T9), (3, .t T9), (4, .t T3)]
abbrev X45_0 : List (PX × Slots) := [(.ex 0, []), (.rt, [(2, .t T3)])]
noncomputable def E45_0 (k : Nat) : Nat → shsDen (H45_0.map (·.2)) → Option (XD X45_0) := loopF C12 Try.f45.ntmps (kpOf 0 I45) (Tf45 k) [] 1000 H45_0 X45_0 c45_0
noncomputable def L45_0 (k : Nat) : LSpec := ⟨H45_0, X45_0, E45_0 k k⟩
theorem Ls45_0 (k : Nat) : LSnd C12 Try.f45.ntmps (kpOf 0 I45) c45_0 (L45_0 k) :=
  lsnd_def (hT45 k) 1000 H45_0 X45_0 c45_0 (cs := []) (.nil) (by kernel_rfl) k
noncomputable def F45 (k : Nat) : shsDen I45 → Option (shsDen O45 × shsDen (shsUpd I45)) := funF C12 (Tf45 k) [(5, L45_0 k)] 1000 Try.f45 I45 O45
theorem snd45 (k : Nat) : Snd C12 45 ⟨I45, O45, F45 k⟩ :=
  snd_def (c := c45) (by kernel_rfl) (by kernel_rfl) (by kernel_rfl) (hT45 k) 1000 I45 O45 (cs := [c45_0]) (.cons _ _ 5 _ (by kernel_rfl) rfl (Ls45_0 k) (.nil)) (by kernel_rfl)

/-! ### f29 -/
abbrev I29 : List Sh := [.t T9]
abbrev O29 : List Sh := [.t T60, .t T41, .t T3]
noncomputable def c29 : Code := bodyOf Try.f29
noncomputable def Tf29 (k : Nat) : List (Nat × Spec) := [(40, ⟨I40, O40, F40 k⟩), (41, ⟨I41, O41, F41 k⟩), (42, ⟨I42, O42, F42 k⟩), (43, ⟨I43, O43, F43 k⟩), (44, ⟨I44, O44, F44 k⟩), (45, ⟨I45, O45, F45 k⟩)]
theorem hT29 (k : Nat) : ∀ p, p ∈ Tf29 k → Snd C12 p.1 p.2 := hT_cons (snd40 k) (hT_cons (snd41 k) (hT_cons (snd42 k) (hT_cons (snd43 k) (hT_cons (snd44 k) (hT_cons (snd45 k) (hT_nil))))))
noncomputable def c29_0 : Code := loopN c29 0
abbrev H29_0 : Slots := [(0, .t T9), (5, .row T68), (6, .t T3)]
abbrev X29_0 : List (PX × Slots) := [(.ex 0, [(5, .row T68)]), (.rt, [(2, .row T68), (3, .t T41), (4, .t T3)])]
noncomputable def E29_0 (k : Nat) : Nat → shsDen (H29_0.map (·.2)) → Option (XD X29_0) := loopF C12 Try.f29.ntmps (kpOf 0 I29) (Tf29 k) [] 1000 H29_0 X29_0 c29_0
noncomputable def L29_0 (k : Nat) : LSpec := ⟨H29_0, X29_0, E29_0 k k⟩
theorem Ls29_0 (k : Nat) : LSnd C12 Try.f29.ntmps (kpOf 0 I29) c29_0 (L29_0 k) :=
  lsnd_def (hT29 k) 1000 H29_0 X29_0 c29_0 (cs := []) (.nil) (by kernel_rfl) k
noncomputable def F29 (k : Nat) : shsDen I29 → Option (shsDen O29 × shsDen (shsUpd I29)) := funF C12 (Tf29 k) [(5, L29_0 k)] 1000 Try.f29 I29 O29
theorem snd29 (k : Nat) : Snd C12 29 ⟨I29, O29, F29 k⟩ :=
  snd_def (c := c29) (by kernel_rfl) (by kernel_rfl) (by kernel_rfl) (hT29 k) 1000 I29 O29 (cs := [c29_0]) (.cons _ _ 5 _ (by kernel_rfl) rfl (Ls29_0 k) (.nil)) (by kernel_rfl)

/-! ### f59 -/
abbrev I59 : List Sh := [.ptr [.t T60, .t T3, .t T4, .t T3], .t T3, .t T9]
abbrev O59 : List Sh := [.t T4]
noncomputable def c59 : Code := bodyOf Try.f59
noncomputable def Tf59 (k : Nat) : List (Nat × Spec) := []
theorem hT59 (k : Nat) : ∀ p, p ∈ Tf59 k → Snd C12 p.1 p.2 := hT_nil
noncomputable def F59 (k : Nat) : shsDen I59 → Option (shsDen O59 × shsDen (shsUpd I59)) := funF C12 (Tf59 k) [] 1000 Try.f59 I59 O59
theorem snd59 (k : Nat) : Snd C12 59 ⟨I59, O59, F59 k⟩ :=
  snd_def (c := c59) (by kernel_rfl) (by kernel_rfl) (by kernel_rfl) (hT59 k) 1000 I59 O59 (cs := []) (.nil) (by kernel_rfl)

/-! ### f48 -/
abbrev I48 : List Sh := [.ptr [.t T60, .t T3, .t T4, .t T3], .t T3, .t T9]
abbrev O48 : List Sh := [.t T4]
noncomputable def c48 : Code := bodyOf Try.f48
noncomputable def Tf48 (k : Nat) : List (Nat × Spec) := [(59, ⟨I59, O59, F59 k⟩)]
theorem hT48 (k : Nat) : ∀ p, p ∈ Tf48 k → Snd C12 p.1 p.2 := hT_cons (snd59 k) (hT_nil)
noncomputable def F48 (k : Nat) : shsDen I48 → Option (shsDen O48 × shsDen (shsUpd I48)) := funF C12 (Tf48 k) [] 1000 Try.f48 I48 O48
theorem snd48 (k : Nat) : Snd C12 48 ⟨I48, O48, F48 k⟩ :=
  snd_def (c := c48) (by kernel_rfl) (by kernel_rfl) (by kernel_rfl) (hT48 k) 1000 I48 O48 (cs := []) (.nil) (by kernel_rfl)

/-! ### f53 -/
abbrev I53 : List Sh := [.ptr [.t T60, .t T3, .t T4, .t T3]]
abbrev O53 : List Sh := []
noncomputable def c53 : Code := bodyOf Try.f53
noncomputable def Tf53 (k : Nat) : List (Nat × Spec) := []
theorem hT53 (k : Nat) : ∀ p, p ∈ Tf53 k → Snd C12 p.1 p.2 := hT_nil
noncomputable def F53 (k : Nat) : shsDen I53 → Option (shsDen O53 × shsDen (shsUpd I53)) := funF C12 (Tf53 k) [] 1000 Try.f53 I53 O53
theorem snd53 (k : Nat) : Snd C12 53 ⟨I53, O53, F53 k⟩ :=
  snd_def (c := c53) (by kernel_rfl) (by kernel_rfl) (by kernel_rfl) (hT53 k) 1000 I53 O53 (cs := []) (.nil) (by kernel_rfl)

/-! ### f46 -/
abbrev I46 : List Sh := [.ptr [.t T60, .t T3, .t T4, .t T3], .t T3, .t T9]
abbrev O46 : List Sh := []
noncomputable def c46 : Code := bodyOf Try.f46
noncomputable def Tf46 (k : Nat) : List (Nat × Spec) := [(48, ⟨I48, O48, F48 k⟩), (53, ⟨I53, O53, F53 k⟩)]
theorem hT46 (k : Nat) : ∀ p, p ∈ Tf46 k → Snd C12 p.1 p.2 := hT_cons (snd48 k) (hT_cons (snd53 k) (hT_nil))
noncomputable def F46 (k : Nat) : shsDen I46 → Option (shsDen O46 × shsDen (shsUpd I46)) := funF C12 (Tf46 k) [] 1000 Try.f46 I46 O46
theorem snd46 (k : Nat) : Snd C12 46 ⟨I46, O46, F46 k⟩ :=
  snd_def (c := c46) (by kernel_rfl) (by kernel_rfl) (by kernel_rfl) (hT46 k) 1000 I46 O46 (cs := []) (.nil) (by kernel_rfl)

/-! ### f38 -/
abbrev I38 : List Sh := [.t T9]
abbrev O38 : List Sh := [.t T4]
noncomputable def c38 : Code := bodyOf Try.f38
noncomputable def Tf38 (k : Nat) : List (Nat × Spec) := []
theorem hT38 (k : Nat) : ∀ p, p ∈ Tf38 k → Snd C12 p.1 p.2 := hT_nil
noncomputable def c38_0 : Code := loopN c38 0
abbrev H38_0 : Slots := [(0, .t T9), (3, .t T3)]
abbrev X38_0 : List (PX × Slots) := [(.ex 0, [(0, .t T9)]), (.rt, [(2, .t T4)])]
noncomputable def E38_0 (k : Nat) : Nat → shsDen (H38_0.map (·.2)) → Option (XD X38_0) := loopF C12 Try.f38.ntmps (kpOf 0 I38) (Tf38 k) [] 1000 H38_0 X38_0 c38_0
noncomputable def L38_0 (k : Nat) : LSpec := ⟨H38_0, X38_0, E38_0 k k⟩
theorem Ls38_0 (k : Nat) : LSnd C12 Try.f38.ntmps (kpOf 0 I38) c38_0 (L38_0 k) :=
  lsnd_def (hT38 k) 1000 H38_0 X38_0 c38_0 (cs := []) (.nil) (by kernel_rfl) k
noncomputable def F38 (k : Nat) : shsDen I38 → Option (shsDen O38 × shsDen (shsUpd I38)) := funF C12 (Tf38 k) [(2, L38_0 k)] 1000 Try.f38 I38 O38
theorem snd38 (k : Nat) : Snd C12 38 ⟨I38, O38, F38 k⟩ :=
  snd_def (c := c38) (by kernel_rfl) (by kernel_rfl) (by kernel_rfl) (hT38 k) 1000 I38 O38 (cs := [c38_0]) (.cons _ _ 2 _ (by kernel_rfl) rfl (Ls38_0 k) (.nil)) (by kernel_rfl)

/-! ### f39 -/
abbrev I39 : List Sh := [.t T9]
abbrev O39 : List Sh := [.t T4]
noncomputable def c39 : Code := bodyOf Try.f39
noncomputable def Tf39 (k : Nat) : List (Nat × Spec) := []
theorem hT39 (k : Nat) : ∀ p, p ∈ Tf39 k → Snd C12 p.1 p.2 := hT_nil
noncomputable def c39_0 : Code := loopN c39 0
abbrev H39_0 : Slots := [(0, .t T9), (3, .row T9), (4, .t T3)]
abbrev X39_0 : List (PX × Slots) := [(.ex 0, []), (.rt, [(2, .t T4)])]
noncomputable def E39_0 (k : Nat) : Nat → shsDen (H39_0.map (·.2)) → Option (XD X39_0) := loopF C12 Try.f39.ntmps (kpOf 0 I39) (Tf39 k) [] 1000 H39_0 X39_0 c39_0
noncomputable def L39_0 (k : Nat) : LSpec := ⟨H39_0, X39_0, E39_0 k k⟩
theorem Ls39_0 (k : Nat) : LSnd C12 Try.f39.ntmps (kpOf 0 I39) c39_0 (L39_0 k) :=
  lsnd_def (hT39 k) 1000 H39_0 X39_0 c39_0 (cs := []) (.nil) (by kernel_rfl) k
noncomputable def F39 (k : Nat) : shsDen I39 → Option (shsDen O39 × shsDen (shsUpd I39)) := funF C12 (Tf39 k) [(3, L39_0 k)] 1000 Try.f39 I39 O39
theorem snd39 (k : Nat) : Snd C12 39 ⟨I39, O39, F39 k⟩ :=
  snd_def (c := c39) (by kernel_rfl) (by kernel_rfl) (by kernel_rfl) (hT39 k) 1000 I39 O39 (cs := [c39_0]) (.cons _ _ 3 _ (by kernel_rfl) rfl (Ls39_0 k) (.nil)) (by kernel_rfl)

/-! ### f28 -/
abbrev I28 : List Sh := [.t T9]
abbrev O28 : List Sh := [.t T4]
noncomputable def c28 : Code := bodyOf Try.f28
noncomputable def Tf28 (k : Nat) : List (Nat × Spec) := [(38, ⟨I38, O38, F38 k⟩), (39, ⟨I39, O39, F39 k⟩)]
theorem hT28 (k : Nat) : ∀ p, p ∈ Tf28 k → Snd C12 p.1 p.2 := hT_cons (snd38 k) (hT_cons (snd39 k) (hT_nil))
noncomputable def F28 (k : Nat) : shsDen I28 → Option (shsDen O28 × shsDen (shsUpd I28)) := funF C12 (Tf28 k) [] 1000 Try.f28 I28 O28
theorem snd28 (k : Nat) : Snd C12 28 ⟨I28, O28, F28 k⟩ :=
  snd_def (c := c28) (by kernel_rfl) (by kernel_rfl) (by kernel_rfl) (hT28 k) 1000 I28 O28 (cs := []) (.nil) (by kernel_rfl)

/-! ### f62 -/
abbrev I62 : List Sh := [.ptr [.t T60, .t T3, .t T4, .t T3]]
abbrev O62 : List Sh := [.t T4]
noncomputable def c62 : Code := bodyOf Try.f62
noncomputable def Tf62 (k : Nat) : List (Nat × Spec) := [(28, ⟨I28, O28, F28 k⟩)]
theorem hT62 (k : Nat) : ∀ p, p ∈ Tf62 k → Snd C12 p.1 p.2 := hT_cons (snd28 k) (hT_nil)
noncomputable def F62 (k : Nat) : shsDen I62 → Option (shsDen O62 × shsDen (shsUpd I62)) := funF C12 (Tf62 k) [] 1000 Try.f62 I62 O62
theorem snd62 (k : Nat) : Snd C12 62 ⟨I62, O62, F62 k⟩ :=
  snd_def (c := c62) (by kernel_rfl) (by kernel_rfl) (by kernel_rfl) (hT62 k) 1000 I62 O62 (cs := []) (.nil) (by kernel_rfl)

/-! ### f51 -/
abbrev I51 : List Sh := [.ptr [.t T60, .t T3, .t T4, .t T3]]
abbrev O51 : List Sh := [.t T9]
noncomputable def c51 : Code := bodyOf Try.f51
noncomputable def Tf51 (k : Nat) : List (Nat × Spec) := [(62, ⟨I62, O62, F62 k⟩), (53, ⟨I53, O53, F53 k⟩)]
theorem hT51 (k : Nat) : ∀ p, p ∈ Tf51 k → Snd C12 p.1 p.2 := hT_cons (snd62 k) (hT_cons (snd53 k) (hT_nil))
noncomputable def F51 (k : Nat) : shsDen I51 → Option (shsDen O51 × shsDen (shsUpd I51)) := funF C12 (Tf51 k) [] 1000 Try.f51 I51 O51
theorem snd51 (k : Nat) : Snd C12 51 ⟨I51, O51, F51 k⟩ :=
  snd_def (c := c51) (by kernel_rfl) (by kernel_rfl) (by kernel_rfl) (hT51 k) 1000 I51 O51 (cs := []) (.nil) (by kernel_rfl)

/-! ### f47 -/
abbrev I47 : List Sh := [.ptr [.t T60, .t T3, .t T4, .t T3]]
abbrev O47 : List Sh := [.t T38]
noncomputable def c47 : Code := bodyOf Try.f47
noncomputable def Tf47 (k : Nat) : List (Nat × Spec) := [(48, ⟨I48, O48, F48 k⟩), (51, ⟨I51, O51, F51 k⟩)]
theorem hT47 (k : Nat) : ∀ p, p ∈ Tf47 k → Snd C12 p.1 p.2 := hT_cons (snd48 k) (hT_cons (snd51 k) (hT_nil))
noncomputable def c47_0 : Code := loopN c47 0
abbrev H47_0 : Slots := [(0, .ptr [.t T60, .t T3, .t T4, .t T3]), (2, .ptr [.t T38]), (3, .ptr [.t T4, .row T9, .t T9, .t T3]), (4, .t T4)]
abbrev X47_0 : List (PX × Slots) := [(.ex 0, [(0, .ptr [.t T60, .t T3, .t T4, .t T3]), (2, .ptr [.t T38]), (3, .ptr [.t T4, .row T9, .t T9, .t T3])])]
noncomputable def E47_0 (k : Nat) : Nat → shsDen (H47_0.map (·.2)) → Option (XD X47_0) := loopF C12 Try.f47.ntmps (kpOf 0 I47) (Tf47 k) [] 1000 H47_0 X47_0 c47_0
noncomputable def L47_0 (k : Nat) : LSpec := ⟨H47_0, X47_0, E47_0 k k⟩
theorem Ls47_0 (k : Nat) : LSnd C12 Try.f47.ntmps (kpOf 0 I47) c47_0 (L47_0 k) :=
  lsnd_def (hT47 k) 1000 H47_0 X47_0 c47_0 (cs := []) (.nil) (by kernel_rfl) k
noncomputable def F47 (k : Nat) : shsDen I47 → Option (shsDen O47 × shsDen (shsUpd I47)) := funF C12 (Tf47 k) [(4, L47_0 k)] 1000 Try.f47 I47 O47
theorem snd47 (k : Nat) : Snd C12 47 ⟨I47, O47, F47 k⟩ :=
  snd_def (c := c47) (by kernel_rfl) (by kernel_rfl) (by kernel_rfl) (hT47 k) 1000 I47 O47 (cs := [c47_0]) (.cons _ _ 4 _ (by kernel_rfl) rfl (Ls47_0 k) (.nil)) (by kernel_rfl)

/-! ### f50 -/
abbrev I50 : List Sh := [.ptr [.t T60, .t T3, .t T4, .t T3]]
abbrev O50 : List Sh := [.t T2]
noncomputable def c50 : Code := bodyOf Try.f50
noncomputable def Tf50 (k : Nat) : List (Nat × Spec) := [(53, ⟨I53, O53, F53 k⟩)]
theorem hT50 (k : Nat) : ∀ p, p ∈ Tf50 k → Snd C12 p.1 p.2 := hT_cons (snd53 k) (hT_nil)
noncomputable def c50_0 : Code := loopN c50 0
abbrev H50_0 : Slots := [(0, .ptr [.t T60, .t T3, .t T4, .t T3]), (3, .t T2), (4, .t T9), (5, .t T3)]
abbrev X50_0 : List (PX × Slots) := [(.ex 0, [(0, .ptr [.t T60, .t T3, .t T4, .t T3]), (3, .t T2)])]
noncomputable def E50_0 (k : Nat) : Nat → shsDen (H50_0.map (·.2)) → Option (XD X50_0) := loopF C12 Try.f50.ntmps (kpOf 0 I50) (Tf50 k) [] 1000 H50_0 X50_0 c50_0
noncomputable def L50_0 (k : Nat) : LSpec := ⟨H50_0, X50_0, E50_0 k k⟩
theorem Ls50_0 (k : Nat) : LSnd C12 Try.f50.ntmps (kpOf 0 I50) c50_0 (L50_0 k) :=
  lsnd_def (hT50 k) 1000 H50_0 X50_0 c50_0 (cs := []) (.nil) (by kernel_rfl) k
noncomputable def F50 (k : Nat) : shsDen I50 → Option (shsDen O50 × shsDen (shsUpd I50)) := funF C12 (Tf50 k) [(7, L50_0 k)] 1000 Try.f50 I50 O50
theorem snd50 (k : Nat) : Snd C12 50 ⟨I50, O50, F50 k⟩ :=
  snd_def (c := c50) (by kernel_rfl) (by kernel_rfl) (by kernel_rfl) (hT50 k) 1000 I50 O50 (cs := [c50_0]) (.cons _ _ 7 _ (by kernel_rfl) rfl (Ls50_0 k) (.nil)) (by kernel_rfl)

/-! ### f66 -/
abbrev I66 : List Sh := [.t T3]
abbrev O66 : List Sh := [.t T9]
noncomputable def c66 : Code := bodyOf Try.f66
noncomputable def Tf66 (k : Nat) : List (Nat × Spec) := []
theorem hT66 (k : Nat) : ∀ p, p ∈ Tf66 k → Snd C12 p.1 p.2 := hT_nil
noncomputable def F66 (k : Nat) : shsDen I66 → Option (shsDen O66 × shsDen (shsUpd I66)) := funF C12 (Tf66 k) [] 1000 Try.f66 I66 O66
theorem snd66 (k : Nat) : Snd C12 66 ⟨I66, O66, F66 k⟩ :=
  snd_def (c := c66) (by kernel_rfl) (by kernel_rfl) (by kernel_rfl) (hT66 k) 1000 I66 O66 (cs := []) (.nil) (by kernel_rfl)

/-! ### f67 -/
abbrev I67 : List Sh := [.ptr [.t T60, .t T3, .t T4, .t T3], .t T3]
abbrev O67 : List Sh := [.t T50]
noncomputable def c67 : Code := bodyOf Try.f67
noncomputable def Tf67 (k : Nat) : List (Nat × Spec) := [(51, ⟨I51, O51, F51 k⟩), (46, ⟨I46, O46, F46 k⟩)]
theorem hT67 (k : Nat) : ∀ p, p ∈ Tf67 k → Snd C12 p.1 p.2 := hT_cons (snd51 k) (hT_cons (snd46 k) (hT_nil))
noncomputable def F67 (k : Nat) : shsDen I67 → Option (shsDen O67 × shsDen (shsUpd I67)) := funF C12 (Tf67 k) [] 1000 Try.f67 I67 O67
theorem snd67 (k : Nat) : Snd C12 67 ⟨I67, O67, F67 k⟩ :=
  snd_def (c := c67) (by kernel_rfl) (by kernel_rfl) (by kernel_rfl) (hT67 k) 1000 I67 O67 (cs := []) (.nil) (by kernel_rfl)
abbrev I60 : List Sh := [.ptr [.t T60, .t T3, .t T4, .t T3]]
abbrev O60 : List Sh := [.t T50]

/-! ### f64 -/
abbrev I64 : List Sh := [.ptr [.t T60, .t T3, .t T4, .t T3]]
abbrev O64 : List Sh := [.t T50]
noncomputable def c64 : Code := bodyOf Try.f64
noncomputable def Tf64 (k : Nat) (s60 : shsDen I60 → Option (shsDen O60 × shsDen (shsUpd I60))) : List (Nat × Spec) := [(53, ⟨I53, O53, F53 k⟩), (50, ⟨I50, O50, F50 k⟩), (48, ⟨I48, O48, F48 k⟩), (46, ⟨I46, O46, F46 k⟩), (51, ⟨I51, O51, F51 k⟩), (66, ⟨I66, O66, F66 k⟩), (67, ⟨I67, O67, F67 k⟩), (59, ⟨I59, O59, F59 k⟩), (60, ⟨I60, O60, s60⟩)]
theorem hT64 (k : Nat) (s60 : shsDen I60 → Option (shsDen O60 × shsDen (shsUpd I60))) (h60 : Snd C12 60 ⟨I60, O60, s60⟩) : ∀ p, p ∈ Tf64 k s60 → Snd C12 p.1 p.2 := hT_cons (snd53 k) (hT_cons (snd50 k) (hT_cons (snd48 k) (hT_cons (snd46 k) (hT_cons (snd51 k) (hT_cons (snd66 k) (hT_cons (snd67 k) (hT_cons (snd59 k) (hT_cons h60 (hT_nil)))))))))
noncomputable def c64_0 : Code := loopN c64 0
abbrev H64_0 : Slots := [(0, .ptr [.t T60, .t T3, .t T4, .t T3]), (2, .ptr [.t T50]), (7, .t T3)]
abbrev X64_0 : List (PX × Slots) := [(.ex 0, [(0, .ptr [.t T60, .t T3, .t T4, .t T3]), (2, .ptr [.t T50])]), (.rt, [(0, .ptr [.t T60, .t T3, .t T4, .t T3]), (2, .ptr [.t T50])])]
noncomputable def E64_0 (k : Nat) (s60 : shsDen I60 → Option (shsDen O60 × shsDen (shsUpd I60))) : Nat → shsDen (H64_0.map (·.2)) → Option (XD X64_0) := loopF C12 Try.f64.ntmps (kpOf 0 I64) (Tf64 k s60) [] 1000 H64_0 X64_0 c64_0
noncomputable def L64_0 (k : Nat) (s60 : shsDen I60 → Option (shsDen O60 × shsDen (shsUpd I60))) : LSpec := ⟨H64_0, X64_0, E64_0 k s60 k⟩
theorem Ls64_0 (k : Nat) (s60 : shsDen I60 → Option (shsDen O60 × shsDen (shsUpd I60))) (h60 : Snd C12 60 ⟨I60, O60, s60⟩) : LSnd C12 Try.f64.ntmps (kpOf 0 I64) c64_0 (L64_0 k s60) :=
  lsnd_def (hT64 k s60 h60) 1000 H64_0 X64_0 c64_0 (cs := []) (.nil) (by kernel_rfl) k
noncomputable def G64 (k : Nat) (s60 : shsDen I60 → Option (shsDen O60 × shsDen (shsUpd I60))) : shsDen I64 → Option (shsDen O64 × shsDen (shsUpd I64)) := funF C12 (Tf64 k s60) [(24, L64_0 k s60)] 1000 Try.f64 I64 O64
theorem sndG64 (k : Nat) (s60 : shsDen I60 → Option (shsDen O60 × shsDen (shsUpd I60))) (h60 : Snd C12 60 ⟨I60, O60, s60⟩) : Snd C12 64 ⟨I64, O64, G64 k s60⟩ :=
  snd_def (c := c64) (by kernel_rfl) (by kernel_rfl) (by kernel_rfl) (hT64 k s60 h60) 1000 I64 O64 (cs := [c64_0]) (.cons _ _ 24 _ (by kernel_rfl) rfl (Ls64_0 k s60 h60) (.nil)) (by kernel_rfl)

/-! ### f60 -/
noncomputable def c60 : Code := bodyOf Try.f60
noncomputable def Tf60 (k : Nat) (s60 : shsDen I60 → Option (shsDen O60 × shsDen (shsUpd I60))) : List (Nat × Spec) := [(64, ⟨I64, O64, G64 k s60⟩), (48, ⟨I48, O48, F48 k⟩)]
theorem hT60 (k : Nat) (s60 : shsDen I60 → Option (shsDen O60 × shsDen (shsUpd I60))) (h60 : Snd C12 60 ⟨I60, O60, s60⟩) : ∀ p, p ∈ Tf60 k s60 → Snd C12 p.1 p.2 := hT_cons (sndG64 k s60 h60) (hT_cons (snd48 k) (hT_nil))
noncomputable def c60_0 : Code := loopN c60 0
abbrev H60_0 : Slots := [(0, .ptr [.t T60, .t T3, .t T4, .t T3]), (2, .ptr [.t T50]), (3, .ptr [.t T50])]
abbrev X60_0 : List (PX × Slots) := [(.ex 0, [(0, .ptr [.t T60, .t T3, .t T4, .t T3]), (2, .ptr [.t T50]), (3, .ptr [.t T50])])]
noncomputable def E60_0 (k : Nat) (s60 : shsDen I60 → Option (shsDen O60 × shsDen (shsUpd I60))) : Nat → shsDen (H60_0.map (·.2)) → Option (XD X60_0) := loopF C12 Try.f60.ntmps (kpOf 0 I60) (Tf60 k s60) [] 1000 H60_0 X60_0 c60_0
noncomputable def L60_0 (k : Nat) (s60 : shsDen I60 → Option (shsDen O60 × shsDen (shsUpd I60))) : LSpec := ⟨H60_0, X60_0, E60_0 k s60 k⟩
theorem Ls60_0 (k : Nat) (s60 : shsDen I60 → Option (shsDen O60 × shsDen (shsUpd I60))) (h60 : Snd C12 60 ⟨I60, O60, s60⟩) : LSnd C12 Try.f60.ntmps (kpOf 0 I60) c60_0 (L60_0 k s60) :=
  lsnd_def (hT60 k s60 h60) 1000 H60_0 X60_0 c60_0 (cs := []) (.nil) (by kernel_rfl) k
noncomputable def G60 (k : Nat) (s60 : shsDen I60 → Option (shsDen O60 × shsDen (shsUpd I60))) : shsDen I60 → Option (shsDen O60 × shsDen (shsUpd I60)) := funF C12 (Tf60 k s60) [(2, L60_0 k s60)] 1000 Try.f60 I60 O60
theorem sndG60 (k : Nat) (s60 : shsDen I60 → Option (shsDen O60 × shsDen (shsUpd I60))) (h60 : Snd C12 60 ⟨I60, O60, s60⟩) : Snd C12 60 ⟨I60, O60, G60 k s60⟩ :=
  snd_def (c := c60) (by kernel_rfl) (by kernel_rfl) (by kernel_rfl) (hT60 k s60 h60) 1000 I60 O60 (cs := [c60_0]) (.cons _ _ 2 _ (by kernel_rfl) rfl (Ls60_0 k s60 h60) (.nil)) (by kernel_rfl)
noncomputable def R60 (k : Nat) : Nat → shsDen I60 → Option (shsDen O60 × shsDen (shsUpd I60))
  | 0 => fun _ => none
  | d + 1 => G60 k (R60 k d)
theorem sndR60 (k : Nat) : ∀ d, Snd C12 60 ⟨I60, O60, R60 k d⟩
  | 0 => snd_none (enter_of (fn := Try.f60) (c := c60) (by kernel_rfl) (by kernel_rfl) (by kernel_rfl))
  | d + 1 => sndG60 k _ (sndR60 k d)
noncomputable def F60 (k : Nat) : shsDen I60 → Option (shsDen O60 × shsDen (shsUpd I60)) := R60 k k
theorem snd60 (k : Nat) : Snd C12 60 ⟨I60, O60, F60 k⟩ := sndR60 k k

/-! ### f61 -/
abbrev I61 : List Sh := [.t T3]
abbrev O61 : List Sh := [.t T9]
noncomputable def c61 : Code := bodyOf Try.f61
noncomputable def Tf61 (k : Nat) : List (Nat × Spec) := []
theorem hT61 (k : Nat) : ∀ p, p ∈ Tf61 k → Snd C12 p.1 p.2 := hT_nil
noncomputable def F61 (k : Nat) : shsDen I61 → Option (shsDen O61 × shsDen (shsUpd I61)) := funF C12 (Tf61 k) [] 1000 Try.f61 I61 O61
theorem snd61 (k : Nat) : Snd C12 61 ⟨I61, O61, F61 k⟩ :=
  snd_def (c := c61) (by kernel_rfl) (by kernel_rfl) (by kernel_rfl) (hT61 k) 1000 I61 O61 (cs := []) (.nil) (by kernel_rfl)

/-! ### f49 -/
abbrev I49 : List Sh := [.ptr [.t T60, .t T3, .t T4, .t T3]]
abbrev O49 : List Sh := [.t T52]
noncomputable def c49 : Code := bodyOf Try.f49
noncomputable def Tf49 (k : Nat) : List (Nat × Spec) := [(60, ⟨I60, O60, F60 k⟩), (61, ⟨I61, O61, F61 k⟩), (48, ⟨I48, O48, F48 k⟩), (53, ⟨I53, O53, F53 k⟩)]
theorem hT49 (k : Nat) : ∀ p, p ∈ Tf49 k → Snd C12 p.1 p.2 := hT_cons (snd60 k) (hT_cons (snd61 k) (hT_cons (snd48 k) (hT_cons (snd53 k) (hT_nil))))
noncomputable def c49_0 : Code := loopN c49 0
abbrev H49_0 : Slots := [(0, .ptr [.t T60, .t T3, .t T4, .t T3]), (2, .ptr [.t T52]), (3, .ptr [.t T52]), (4, .t T3)]
abbrev X49_0 : List (PX × Slots) := [(.ex 0, [(0, .ptr [.t T60, .t T3, .t T4, .t T3]), (2, .ptr [.t T52]), (3, .ptr [.t T52])])]
noncomputable def E49_0 (k : Nat) : Nat → shsDen (H49_0.map (·.2)) → Option (XD X49_0) := loopF C12 Try.f49.ntmps (kpOf 0 I49) (Tf49 k) [] 1000 H49_0 X49_0 c49_0
noncomputable def L49_0 (k : Nat) : LSpec := ⟨H49_0, X49_0, E49_0 k k⟩
theorem Ls49_0 (k : Nat) : LSnd C12 Try.f49.ntmps (kpOf 0 I49) c49_0 (L49_0 k) :=
  lsnd_def (hT49 k) 1000 H49_0 X49_0 c49_0 (cs := []) (.nil) (by kernel_rfl) k
noncomputable def F49 (k : Nat) : shsDen I49 → Option (shsDen O49 × shsDen (shsUpd I49)) := funF C12 (Tf49 k) [(4, L49_0 k)] 1000 Try.f49 I49 O49
theorem snd49 (k : Nat) : Snd C12 49 ⟨I49, O49, F49 k⟩ :=
  snd_def (c := c49) (by kernel_rfl) (by kernel_rfl) (by kernel_rfl) (hT49 k) 1000 I49 O49 (cs := [c49_0]) (.cons _ _ 4 _ (by kernel_rfl) rfl (Ls49_0 k) (.nil)) (by kernel_rfl)

/-! ### f52 -/
abbrev I52 : List Sh := [.t T3]
abbrev O52 : List Sh := [.t T9]
noncomputable def c52 : Code := bodyOf Try.f52
noncomputable def Tf52 (k : Nat) : List (Nat × Spec) := []
theorem hT52 (k : Nat) : ∀ p, p ∈ Tf52 k → Snd C12 p.1 p.2 := hT_nil
noncomputable def F52 (k : Nat) : shsDen I52 → Option (shsDen O52 × shsDen (shsUpd I52)) := funF C12 (Tf52 k) [] 1000 Try.f52 I52 O52
theorem snd52 (k : Nat) : Snd C12 52 ⟨I52, O52, F52 k⟩ :=
  snd_def (c := c52) (by kernel_rfl) (by kernel_rfl) (by kernel_rfl) (hT52 k) 1000 I52 O52 (cs := []) (.nil) (by kernel_rfl)

/-! ### f30 -/
abbrev I30 : List Sh := [.ptr [.t T60, .t T3, .t T4, .t T3]]
abbrev O30 : List Sh := [.t T25]
noncomputable def c30 : Code := bodyOf Try.f30
noncomputable def Tf30 (k : Nat) : List (Nat × Spec) := [(46, ⟨I46, O46, F46 k⟩), (47, ⟨I47, O47, F47 k⟩), (48, ⟨I48, O48, F48 k⟩), (49, ⟨I49, O49, F49 k⟩), (50, ⟨I50, O50, F50 k⟩), (51, ⟨I51, O51, F51 k⟩), (52, ⟨I52, O52, F52 k⟩), (53, ⟨I53, O53, F53 k⟩)]
theorem hT30 (k : Nat) : ∀ p, p ∈ Tf30 k → Snd C12 p.1 p.2 := hT_cons (snd46 k) (hT_cons (snd47 k) (hT_cons (snd48 k) (hT_cons (snd49 k) (hT_cons (snd50 k) (hT_cons (snd51 k) (hT_cons (snd52 k) (hT_cons (snd53 k) (hT_nil))))))))
noncomputable def c30_0 : Code := loopN c30 0
abbrev H30_0 : Slots := [(0, .ptr [.t T60, .t T3, .t T4, .t T3]), (2, .ptr [.t T25]), (3, .ptr [.row T38, .row T52, .t T2, .t T9, .t T3]), (4, .t T4)]
abbrev X30_0 : List (PX × Slots) := [(.ex 0, [(0, .ptr [.t T60, .t T3, .t T4, .t T3]), (2, .ptr [.t T25]), (3, .ptr [.row T38, .row T52, .t T2, .t T9, .t T3])])]
noncomputable def E30_0 (k : Nat) : Nat → shsDen (H30_0.map (·.2)) → Option (XD X30_0) := loopF C12 Try.f30.ntmps (kpOf 0 I30) (Tf30 k) [] 1000 H30_0 X30_0 c30_0
noncomputable def L30_0 (k : Nat) : LSpec := ⟨H30_0, X30_0, E30_0 k k⟩
theorem Ls30_0 (k : Nat) : LSnd C12 Try.f30.ntmps (kpOf 0 I30) c30_0 (L30_0 k) :=
  lsnd_def (hT30 k) 1000 H30_0 X30_0 c30_0 (cs := []) (.nil) (by kernel_rfl) k
noncomputable def c30_1 : Code := loopN c30 1
abbrev H30_1 : Slots := [(0, .ptr [.t T60, .t T3, .t T4, .t T3]), (2, .ptr [.t T25]), (3, .ptr [.row T38, .row T52, .t T2, .t T9, .t T3]), (6, .t T4)]
abbrev X30_1 : List (PX × Slots) := [(.ex 2, [(0, .ptr [.t T60, .t T3, .t T4, .t T3]), (2, .ptr [.t T25]), (3, .ptr [.row T38, .row T52, .t T2, .t T9, .t T3])])]
noncomputable def E30_1 (k : Nat) : Nat → shsDen (H30_1.map (·.2)) → Option (XD X30_1) := loopF C12 Try.f30.ntmps (kpOf 0 I30) (Tf30 k) [] 1000 H30_1 X30_1 c30_1
noncomputable def L30_1 (k : Nat) : LSpec := ⟨H30_1, X30_1, E30_1 k k⟩
theorem Ls30_1 (k : Nat) : LSnd C12 Try.f30.ntmps (kpOf 0 I30) c30_1 (L30_1 k) :=
  lsnd_def (hT30 k) 1000 H30_1 X30_1 c30_1 (cs := []) (.nil) (by kernel_rfl) k
noncomputable def c30_2 : Code := loopN c30 2
abbrev H30_2 : Slots := [(0, .ptr [.t T60, .t T3, .t T4, .t T3]), (2, .ptr [.t T25]), (3, .ptr [.row T38, .row T52, .t T2, .t T9, .t T3]), (8, .t T3)]
abbrev X30_2 : List (PX × Slots) := [(.ex 4, [(0, .ptr [.t T60, .t T3, .t T4, .t T3]), (2, .ptr [.t T25]), (3, .ptr [.row T38, .row T52, .t T2, .t T9, .t T3])])]
noncomputable def E30_2 (k : Nat) : Nat → shsDen (H30_2.map (·.2)) → Option (XD X30_2) := loopF C12 Try.f30.ntmps (kpOf 0 I30) (Tf30 k) [] 1000 H30_2 X30_2 c30_2
noncomputable def L30_2 (k : Nat) : LSpec := ⟨H30_2, X30_2, E30_2 k k⟩
theorem Ls30_2 (k : Nat) : LSnd C12 Try.f30.ntmps (kpOf 0 I30) c30_2 (L30_2 k) :=
  lsnd_def (hT30 k) 1000 H30_2 X30_2 c30_2 (cs := []) (.nil) (by kernel_rfl) k
noncomputable def F30 (k : Nat) : shsDen I30 → Option (shsDen O30 × shsDen (shsUpd I30)) := funF C12 (Tf30 k) [(4, L30_0 k), (9, L30_1 k), (20, L30_2 k)] 1000 Try.f30 I30 O30
theorem snd30 (k : Nat) : Snd C12 30 ⟨I30, O30, F30 k⟩ :=
  snd_def (c := c30) (by kernel_rfl) (by kernel_rfl) (by kernel_rfl) (hT30 k) 1000 I30 O30 (cs := [c30_0, c30_1, c30_2]) (.cons _ _ 4 _ (by kernel_rfl) rfl (Ls30_0 k) (.cons _ _ 9 _ (by kernel_rfl) rfl (Ls30_1 k) (.cons _ _ 20 _ (by kernel_rfl) rfl (Ls30_2 k) (.nil)))) (by kernel_rfl)

/-! ### f26 -/
abbrev I26 : List Sh := [.t T38, .t T4]
abbrev O26 : List Sh := [.t T4]
noncomputable def c26 : Code := bodyOf Try.f26
noncomputable def Tf26 (k : Nat) : List (Nat × Spec) := [(28, ⟨I28, O28, F28 k⟩)]
theorem hT26 (k : Nat) : ∀ p, p ∈ Tf26 k → Snd C12 p.1 p.2 := hT_cons (snd28 k) (hT_nil)
noncomputable def c26_0 : Code := loopN c26 0
noncomputable def c26_0_0 : Code := loopN c26_0 0
abbrev H26_0_0 : Slots := [(1, .t T4), (2, .ptr [.t T38]), (5, .t T3), (6, .t T3)]
abbrev X26_0_0 : List (PX × Slots) := [(.ex 2, [(1, .t T4), (2, .ptr [.t T38]), (5, .t T3)]), (.rt, [(4, .t T4)])]
noncomputable def E26_0_0 (k : Nat) : Nat → shsDen (H26_0_0.map (·.2)) → Option (XD X26_0_0) := loopF C12 Try.f26.ntmps (kpOf 0 I26) (Tf26 k) [] 1000 H26_0_0 X26_0_0 c26_0_0
noncomputable def L26_0_0 (k : Nat) : LSpec := ⟨H26_0_0, X26_0_0, E26_0_0 k k⟩
theorem Ls26_0_0 (k : Nat) : LSnd C12 Try.f26.ntmps (kpOf 0 I26) c26_0_0 (L26_0_0 k) :=
  lsnd_def (hT26 k) 1000 H26_0_0 X26_0_0 c26_0_0 (cs := []) (.nil) (by kernel_rfl) k
abbrev H26_0 : Slots := [(1, .t T4), (2, .ptr [.t T38]), (5, .t T3)]
abbrev X26_0 : List (PX × Slots) := [(.ex 0, [(1, .t T4), (2, .ptr [.t T38])]), (.rt, [(4, .t T4)])]
noncomputable def E26_0 (k : Nat) : Nat → shsDen (H26_0.map (·.2)) → Option (XD X26_0) := loopF C12 Try.f26.ntmps (kpOf 0 I26) (Tf26 k) [(9, L26_0_0 k)] 1000 H26_0 X26_0 c26_0
noncomputable def L26_0 (k : Nat) : LSpec := ⟨H26_0, X26_0, E26_0 k k⟩
theorem Ls26_0 (k : Nat) : LSnd C12 Try.f26.ntmps (kpOf 0 I26) c26_0 (L26_0 k) :=
  lsnd_def (hT26 k) 1000 H26_0 X26_0 c26_0 (cs := [c26_0_0]) (.cons _ _ 9 _ (by kernel_rfl) rfl (Ls26_0_0 k) (.nil)) (by kernel_rfl) k
noncomputable def F26 (k : Nat) : shsDen I26 → Option (shsDen O26 × shsDen (shsUpd I26)) := funF C12 (Tf26 k) [(4, L26_0 k)] 1000 Try.f26 I26 O26
theorem snd26 (k : Nat) : Snd C12 26 ⟨I26, O26, F26 k⟩ :=
  snd_def (c := c26) (by kernel_rfl) (by kernel_rfl) (by kernel_rfl) (hT26 k) 1000 I26 O26 (cs := [c26_0]) (.cons _ _ 4 _ (by kernel_rfl) rfl (Ls26_0 k) (.nil)) (by kernel_rfl)

/-! ### f37 -/
abbrev I37 : List Sh := [.t T47]
abbrev O37 : List Sh := [.t T4]
noncomputable def c37 : Code := bodyOf Try.f37
noncomputable def Tf37 (k : Nat) : List (Nat × Spec) := []
theorem hT37 (k : Nat) : ∀ p, p ∈ Tf37 k → Snd C12 p.1 p.2 := hT_nil
noncomputable def F37 (k : Nat) : shsDen I37 → Option (shsDen O37 × shsDen (shsUpd I37)) := funF C12 (Tf37 k) [] 1000 Try.f37 I37 O37
theorem snd37 (k : Nat) : Snd C12 37 ⟨I37, O37, F37 k⟩ :=
  snd_def (c := c37) (by kernel_rfl) (by kernel_rfl) (by kernel_rfl) (hT37 k) 1000 I37 O37 (cs := []) (.nil) (by kernel_rfl)

/-! ### f27 -/
abbrev I27 : List Sh := [.t T50, .t T3]
abbrev O27 : List Sh := [.t T4]
noncomputable def c27 : Code := bodyOf Try.f27
noncomputable def Tf27 (k : Nat) (s27 : shsDen I27 → Option (shsDen O27 × shsDen (shsUpd I27))) : List (Nat × Spec) := [(28, ⟨I28, O28, F28 k⟩), (27, ⟨I27, O27, s27⟩), (37, ⟨I37, O37, F37 k⟩)]
theorem hT27 (k : Nat) (s27 : shsDen I27 → Option (shsDen O27 × shsDen (shsUpd I27))) (h27 : Snd C12 27 ⟨I27, O27, s27⟩) : ∀ p, p ∈ Tf27 k s27 → Snd C12 p.1 p.2 := hT_cons (snd28 k) (hT_cons h27 (hT_cons (snd37 k) (hT_nil)))
noncomputable def c27_0 : Code := loopN c27 0
abbrev H27_0 : Slots := [(2, .ptr [.t T50]), (7, .t T3)]
abbrev X27_0 : List (PX × Slots) := [(.ex 0, [(2, .ptr [.t T50])]), (.rt, [(4, .t T4)])]
noncomputable def E27_0 (k : Nat) (s27 : shsDen I27 → Option (shsDen O27 × shsDen (shsUpd I27))) : Nat → shsDen (H27_0.map (·.2)) → Option (XD X27_0) := loopF C12 Try.f27.ntmps (kpOf 0 I27) (Tf27 k s27) [] 1000 H27_0 X27_0 c27_0
noncomputable def L27_0 (k : Nat) (s27 : shsDen I27 → Option (shsDen O27 × shsDen (shsUpd I27))) : LSpec := ⟨H27_0, X27_0, E27_0 k s27 k⟩
theorem Ls27_0 (k : Nat) (s27 : shsDen I27 → Option (shsDen O27 × shsDen (shsUpd I27))) (h27 : Snd C12 27 ⟨I27, O27, s27⟩) : LSnd C12 Try.f27.ntmps (kpOf 0 I27) c27_0 (L27_0 k s27) :=
  lsnd_def (hT27 k s27 h27) 1000 H27_0 X27_0 c27_0 (cs := []) (.nil) (by kernel_rfl) k
noncomputable def G27 (k : Nat) (s27 : shsDen I27 → Option (shsDen O27 × shsDen (shsUpd I27))) : shsDen I27 → Option (shsDen O27 × shsDen (shsUpd I27)) := funF C12 (Tf27 k s27) [(14, L27_0 k s27)] 1000 Try.f27 I27 O27
theorem sndG27 (k : Nat) (s27 : shsDen I27 → Option (shsDen O27 × shsDen (shsUpd I27))) (h27 : Snd C12 27 ⟨I27, O27, s27⟩) : Snd C12 27 ⟨I27, O27, G27 k s27⟩ :=
  snd_def (c := c27) (by kernel_rfl) (by kernel_rfl) (by kernel_rfl) (hT27 k s27 h27) 1000 I27 O27 (cs := [c27_0]) (.cons _ _ 14 _ (by kernel_rfl) rfl (Ls27_0 k s27 h27) (.nil)) (by kernel_rfl)
noncomputable def R27 (k : Nat) : Nat → shsDen I27 → Option (shsDen O27 × shsDen (shsUpd I27))
  | 0 => fun _ => none
  | d + 1 => G27 k (R27 k d)
theorem sndR27 (k : Nat) : ∀ d, Snd C12 27 ⟨I27, O27, R27 k d⟩
  | 0 => snd_none (enter_of (fn := Try.f27) (c := c27) (by kernel_rfl) (by kernel_rfl) (by kernel_rfl))
  | d + 1 => sndG27 k _ (sndR27 k d)
noncomputable def F27 (k : Nat) : shsDen I27 → Option (shsDen O27 × shsDen (shsUpd I27)) := R27 k k
theorem snd27 (k : Nat) : Snd C12 27 ⟨I27, O27, F27 k⟩ := sndR27 k k

/-! ### f17 -/
abbrev I17 : List Sh := [.t T25]
abbrev O17 : List Sh := [.t T4]
noncomputable def c17 : Code := bodyOf Try.f17
noncomputable def Tf17 (k : Nat) : List (Nat × Spec) := [(26, ⟨I26, O26, F26 k⟩), (27, ⟨I27, O27, F27 k⟩), (28, ⟨I28, O28, F28 k⟩)]
theorem hT17 (k : Nat) : ∀ p, p ∈ Tf17 k → Snd C12 p.1 p.2 := hT_cons (snd26 k) (hT_cons (snd27 k) (hT_cons (snd28 k) (hT_nil)))
noncomputable def c17_0 : Code := loopN c17 0
noncomputable def c17_0_0 : Code := loopN c17_0 0
abbrev H17_0_0 : Slots := [(1, .ptr [.t T25]), (3, .t T3), (4, .t T3)]
abbrev X17_0_0 : List (PX × Slots) := [(.ex 2, [(1, .ptr [.t T25]), (3, .t T3)]), (.rt, [(2, .t T4)])]
noncomputable def E17_0_0 (k : Nat) : Nat → shsDen (H17_0_0.map (·.2)) → Option (XD X17_0_0) := loopF C12 Try.f17.ntmps (kpOf 0 I17) (Tf17 k) [] 1000 H17_0_0 X17_0_0 c17_0_0
noncomputable def L17_0_0 (k : Nat) : LSpec := ⟨H17_0_0, X17_0_0, E17_0_0 k k⟩
theorem Ls17_0_0 (k : Nat) : LSnd C12 Try.f17.ntmps (kpOf 0 I17) c17_0_0 (L17_0_0 k) :=
  lsnd_def (hT17 k) 1000 H17_0_0 X17_0_0 c17_0_0 (cs := []) (.nil) (by kernel_rfl) k
abbrev H17_0 : Slots := [(1, .ptr [.t T25]), (3, .t T3)]
abbrev X17_0 : List (PX × Slots) := [(.ex 0, [(1, .ptr [.t T25])]), (.rt, [(2, .t T4)])]
noncomputable def E17_0 (k : Nat) : Nat → shsDen (H17_0.map (·.2)) → Option (XD X17_0) := loopF C12 Try.f17.ntmps (kpOf 0 I17) (Tf17 k) [(9, L17_0_0 k)] 1000 H17_0 X17_0 c17_0
noncomputable def L17_0 (k : Nat) : LSpec := ⟨H17_0, X17_0, E17_0 k k⟩
theorem Ls17_0 (k : Nat) : LSnd C12 Try.f17.ntmps (kpOf 0 I17) c17_0 (L17_0 k) :=
  lsnd_def (hT17 k) 1000 H17_0 X17_0 c17_0 (cs := [c17_0_0]) (.cons _ _ 9 _ (by kernel_rfl) rfl (Ls17_0_0 k) (.nil)) (by kernel_rfl) k
noncomputable def c17_1 : Code := loopN c17 1
abbrev H17_1 : Slots := [(1, .ptr [.t T25]), (5, .t T3)]
abbrev X17_1 : List (PX × Slots) := [(.ex 4, [(1, .ptr [.t T25])]), (.rt, [(2, .t T4)])]
noncomputable def E17_1 (k : Nat) : Nat → shsDen (H17_1.map (·.2)) → Option (XD X17_1) := loopF C12 Try.f17.ntmps (kpOf 0 I17) (Tf17 k) [] 1000 H17_1 X17_1 c17_1
noncomputable def L17_1 (k : Nat) : LSpec := ⟨H17_1, X17_1, E17_1 k k⟩
theorem Ls17_1 (k : Nat) : LSnd C12 Try.f17.ntmps (kpOf 0 I17) c17_1 (L17_1 k) :=
  lsnd_def (hT17 k) 1000 H17_1 X17_1 c17_1 (cs := []) (.nil) (by kernel_rfl) k
noncomputable def F17 (k : Nat) : shsDen I17 → Option (shsDen O17 × shsDen (shsUpd I17)) := funF C12 (Tf17 k) [(4, L17_0 k), (14, L17_1 k)] 1000 Try.f17 I17 O17
theorem snd17 (k : Nat) : Snd C12 17 ⟨I17, O17, F17 k⟩ :=
  snd_def (c := c17) (by kernel_rfl) (by kernel_rfl) (by kernel_rfl) (hT17 k) 1000 I17 O17 (cs := [c17_0, c17_1]) (.cons _ _ 4 _ (by kernel_rfl) rfl (Ls17_0 k) (.cons _ _ 14 _ (by kernel_rfl) rfl (Ls17_1 k) (.nil))) (by kernel_rfl)

/-! ### f19 -/
abbrev I19 : List Sh := [.t T9]
abbrev O19 : List Sh := [.t T25, .t T41, .t T3]
noncomputable def c19 : Code := bodyOf Try.f19
noncomputable def Tf19 (k : Nat) : List (Nat × Spec) := [(29, ⟨I29, O29, F29 k⟩), (30, ⟨I30, O30, F30 k⟩), (17, ⟨I17, O17, F17 k⟩)]
theorem hT19 (k : Nat) : ∀ p, p ∈ Tf19 k → Snd C12 p.1 p.2 := hT_cons (snd29 k) (hT_cons (snd30 k) (hT_cons (snd17 k) (hT_nil)))
noncomputable def F19 (k : Nat) : shsDen I19 → Option (shsDen O19 × shsDen (shsUpd I19)) := funF C12 (Tf19 k) [] 1000 Try.f19 I19 O19
theorem snd19 (k : Nat) : Snd C12 19 ⟨I19, O19, F19 k⟩ :=
  snd_def (c := c19) (by kernel_rfl) (by kernel_rfl) (by kernel_rfl) (hT19 k) 1000 I19 O19 (cs := []) (.nil) (by kernel_rfl)

/-! ### f56 -/
abbrev I56 : List Sh := [.t T9]
abbrev O56 : List Sh := [.t T4]
noncomputable def c56 : Code := bodyOf Try.f56
noncomputable def Tf56 (k : Nat) : List (Nat × Spec) := []
theorem hT56 (k : Nat) : ∀ p, p ∈ Tf56 k → Snd C12 p.1 p.2 := hT_nil
noncomputable def c56_0 : Code := loopN c56 0
abbrev H56_0 : Slots := [(0, .t T9), (6, .t T3), (7, .t T3)]
abbrev X56_0 : List (PX × Slots) := [(.ex 0, [(0, .t T9)]), (.rt, [(2, .t T4)])]
noncomputable def E56_0 (k : Nat) : Nat → shsDen (H56_0.map (·.2)) → Option (XD X56_0) := loopF C12 Try.f56.ntmps (kpOf 0 I56) (Tf56 k) [] 1000 H56_0 X56_0 c56_0
noncomputable def L56_0 (k : Nat) : LSpec := ⟨H56_0, X56_0, E56_0 k k⟩
theorem Ls56_0 (k : Nat) : LSnd C12 Try.f56.ntmps (kpOf 0 I56) c56_0 (L56_0 k) :=
  lsnd_def (hT56 k) 1000 H56_0 X56_0 c56_0 (cs := []) (.nil) (by kernel_rfl) k
noncomputable def F56 (k : Nat) : shsDen I56 → Option (shsDen O56 × shsDen (shsUpd I56)) := funF C12 (Tf56 k) [(2, L56_0 k)] 1000 Try.f56 I56 O56
theorem snd56 (k : Nat) : Snd C12 56 ⟨I56, O56, F56 k⟩ :=
  snd_def (c := c56) (by kernel_rfl) (by kernel_rfl) (by kernel_rfl) (hT56 k) 1000 I56 O56 (cs := [c56_0]) (.cons _ _ 2 _ (by kernel_rfl) rfl (Ls56_0 k) (.nil)) (by kernel_rfl)

/-! ### f63 -/
abbrev I63 : List Sh := [.t T9, .t T9]
abbrev O63 : List Sh := [.t T4]
noncomputable def F63 (k : Nat) : shsDen I63 → Option (shsDen O63 × shsDen (shsUpd I63)) := fun x => bif decide (x.1.size < 4294967281) then some ((Lib.contains x.1.data.toList x.2.1.data.toList, ()), ()) else none
theorem snd63 (k : Nat) : Snd C12 63 ⟨I63, O63, F63 k⟩ := by
  refine snd_ssb (F := F63 k) (enter_of (fn := Try.f63) (c := bodyOf Try.f63) (by kernel_rfl) (by kernel_rfl) (by kernel_rfl)) fun a b y hy w hg => ?_
  obtain ⟨n, hn⟩ := hg 0 (by simp [C12])
  unfold F63 at hy
  cases hd : decide (a.size < 4294967281) with
  | true =>
    dsimp only at hy
    rw [hd] at hy
    injection hy with hy
    subst hy
    exact Try.strings_Contains a b n w (of_decide_eq_true hd) hn
  | false =>
    dsimp only at hy
    rw [hd] at hy
    cases hy


/-! ### f57 -/
abbrev I57 : List Sh := [.t T9]
abbrev O57 : List Sh := [.t T4]
noncomputable def c57 : Code := bodyOf Try.f57
noncomputable def Tf57 (k : Nat) : List (Nat × Spec) := [(63, ⟨I63, O63, F63 k⟩)]
theorem hT57 (k : Nat) : ∀ p, p ∈ Tf57 k → Snd C12 p.1 p.2 := hT_cons (snd63 k) (hT_nil)
noncomputable def F57 (k : Nat) : shsDen I57 → Option (shsDen O57 × shsDen (shsUpd I57)) := funF C12 (Tf57 k) [] 1000 Try.f57 I57 O57
theorem snd57 (k : Nat) : Snd C12 57 ⟨I57, O57, F57 k⟩ :=
  snd_def (c := c57) (by kernel_rfl) (by kernel_rfl) (by kernel_rfl) (hT57 k) 1000 I57 O57 (cs := []) (.nil) (by kernel_rfl)

/-! ### f33 -/
abbrev I33 : List Sh := [.t T9]
abbrev O33 : List Sh := [.t T4]
noncomputable def c33 : Code := bodyOf Try.f33
noncomputable def Tf33 (k : Nat) : List (Nat × Spec) := [(56, ⟨I56, O56, F56 k⟩), (57, ⟨I57, O57, F57 k⟩)]
theorem hT33 (k : Nat) : ∀ p, p ∈ Tf33 k → Snd C12 p.1 p.2 := hT_cons (snd56 k) (hT_cons (snd57 k) (hT_nil))
noncomputable def F33 (k : Nat) : shsDen I33 → Option (shsDen O33 × shsDen (shsUpd I33)) := funF C12 (Tf33 k) [] 1000 Try.f33 I33 O33
theorem snd33 (k : Nat) : Snd C12 33 ⟨I33, O33, F33 k⟩ :=
  snd_def (c := c33) (by kernel_rfl) (by kernel_rfl) (by kernel_rfl) (hT33 k) 1000 I33 O33 (cs := []) (.nil) (by kernel_rfl)

/-! ### f31 -/
abbrev I31 : List Sh := [.t T38, .t T3]
abbrev O31 : List Sh := [.t T4]
noncomputable def c31 : Code := bodyOf Try.f31
noncomputable def Tf31 (k : Nat) : List (Nat × Spec) := [(33, ⟨I33, O33, F33 k⟩)]
theorem hT31 (k : Nat) : ∀ p, p ∈ Tf31 k → Snd C12 p.1 p.2 := hT_cons (snd33 k) (hT_nil)
noncomputable def c31_0 : Code := loopN c31 0
abbrev H31_0 : Slots := [(1, .t T3), (2, .ptr [.t T38]), (5, .mp), (10, .t T26), (11, .t T3), (12, .t T3)]
abbrev X31_0 : List (PX × Slots) := [(.ex 0, [(1, .t T3), (2, .ptr [.t T38])]), (.rt, [(4, .t T4)])]
noncomputable def E31_0 (k : Nat) : Nat → shsDen (H31_0.map (·.2)) → Option (XD X31_0) := loopF C12 Try.f31.ntmps (kpOf 0 I31) (Tf31 k) [] 1000 H31_0 X31_0 c31_0
noncomputable def L31_0 (k : Nat) : LSpec := ⟨H31_0, X31_0, E31_0 k k⟩
theorem Ls31_0 (k : Nat) : LSnd C12 Try.f31.ntmps (kpOf 0 I31) c31_0 (L31_0 k) :=
  lsnd_def (hT31 k) 1000 H31_0 X31_0 c31_0 (cs := []) (.nil) (by kernel_rfl) k
noncomputable def F31 (k : Nat) : shsDen I31 → Option (shsDen O31 × shsDen (shsUpd I31)) := funF C12 (Tf31 k) [(3, L31_0 k)] 1000 Try.f31 I31 O31
theorem snd31 (k : Nat) : Snd C12 31 ⟨I31, O31, F31 k⟩ :=
  snd_def (c := c31) (by kernel_rfl) (by kernel_rfl) (by kernel_rfl) (hT31 k) 1000 I31 O31 (cs := [c31_0]) (.cons _ _ 3 _ (by kernel_rfl) rfl (Ls31_0 k) (.nil)) (by kernel_rfl)

/-! ### f54 -/
abbrev I54 : List Sh := [.t T47]
abbrev O54 : List Sh := [.t T4]
noncomputable def c54 : Code := bodyOf Try.f54
noncomputable def Tf54 (k : Nat) : List (Nat × Spec) := []
theorem hT54 (k : Nat) : ∀ p, p ∈ Tf54 k → Snd C12 p.1 p.2 := hT_nil
noncomputable def F54 (k : Nat) : shsDen I54 → Option (shsDen O54 × shsDen (shsUpd I54)) := funF C12 (Tf54 k) [] 1000 Try.f54 I54 O54
theorem snd54 (k : Nat) : Snd C12 54 ⟨I54, O54, F54 k⟩ :=
  snd_def (c := c54) (by kernel_rfl) (by kernel_rfl) (by kernel_rfl) (hT54 k) 1000 I54 O54 (cs := []) (.nil) (by kernel_rfl)

/-! ### f55 -/
abbrev I55 : List Sh := [.t T9]
abbrev O55 : List Sh := [.t T4]
noncomputable def c55 : Code := bodyOf Try.f55
noncomputable def Tf55 (k : Nat) : List (Nat × Spec) := []
theorem hT55 (k : Nat) : ∀ p, p ∈ Tf55 k → Snd C12 p.1 p.2 := hT_nil
noncomputable def c55_0 : Code := loopN c55 0
abbrev H55_0 : Slots := [(0, .t T9), (5, .t T3), (6, .t T3)]
abbrev X55_0 : List (PX × Slots) := [(.ex 0, []), (.rt, [(2, .t T4)])]
noncomputable def E55_0 (k : Nat) : Nat → shsDen (H55_0.map (·.2)) → Option (XD X55_0) := loopF C12 Try.f55.ntmps (kpOf 0 I55) (Tf55 k) [] 1000 H55_0 X55_0 c55_0
noncomputable def L55_0 (k : Nat) : LSpec := ⟨H55_0, X55_0, E55_0 k k⟩
theorem Ls55_0 (k : Nat) : LSnd C12 Try.f55.ntmps (kpOf 0 I55) c55_0 (L55_0 k) :=
  lsnd_def (hT55 k) 1000 H55_0 X55_0 c55_0 (cs := []) (.nil) (by kernel_rfl) k
noncomputable def F55 (k : Nat) : shsDen I55 → Option (shsDen O55 × shsDen (shsUpd I55)) := funF C12 (Tf55 k) [(2, L55_0 k)] 1000 Try.f55 I55 O55
theorem snd55 (k : Nat) : Snd C12 55 ⟨I55, O55, F55 k⟩ :=
  snd_def (c := c55) (by kernel_rfl) (by kernel_rfl) (by kernel_rfl) (hT55 k) 1000 I55 O55 (cs := [c55_0]) (.cons _ _ 2 _ (by kernel_rfl) rfl (Ls55_0 k) (.nil)) (by kernel_rfl)

/-! ### f32 -/
abbrev I32 : List Sh := [.t T50, .t T3]
abbrev O32 : List Sh := [.t T4]
noncomputable def c32 : Code := bodyOf Try.f32
noncomputable def Tf32 (k : Nat) (s32 : shsDen I32 → Option (shsDen O32 × shsDen (shsUpd I32))) : List (Nat × Spec) := [(54, ⟨I54, O54, F54 k⟩), (55, ⟨I55, O55, F55 k⟩), (33, ⟨I33, O33, F33 k⟩), (32, ⟨I32, O32, s32⟩)]
theorem hT32 (k : Nat) (s32 : shsDen I32 → Option (shsDen O32 × shsDen (shsUpd I32))) (h32 : Snd C12 32 ⟨I32, O32, s32⟩) : ∀ p, p ∈ Tf32 k s32 → Snd C12 p.1 p.2 := hT_cons (snd54 k) (hT_cons (snd55 k) (hT_cons (snd33 k) (hT_cons h32 (hT_nil))))
noncomputable def G32 (k : Nat) (s32 : shsDen I32 → Option (shsDen O32 × shsDen (shsUpd I32))) : shsDen I32 → Option (shsDen O32 × shsDen (shsUpd I32)) := funF C12 (Tf32 k s32) [] 1000 Try.f32 I32 O32
theorem sndG32 (k : Nat) (s32 : shsDen I32 → Option (shsDen O32 × shsDen (shsUpd I32))) (h32 : Snd C12 32 ⟨I32, O32, s32⟩) : Snd C12 32 ⟨I32, O32, G32 k s32⟩ :=
  snd_def (c := c32) (by kernel_rfl) (by kernel_rfl) (by kernel_rfl) (hT32 k s32 h32) 1000 I32 O32 (cs := []) (.nil) (by kernel_rfl)
noncomputable def R32 (k : Nat) : Nat → shsDen I32 → Option (shsDen O32 × shsDen (shsUpd I32))
  | 0 => fun _ => none
  | d + 1 => G32 k (R32 k d)
theorem sndR32 (k : Nat) : ∀ d, Snd C12 32 ⟨I32, O32, R32 k d⟩
  | 0 => snd_none (enter_of (fn := Try.f32) (c := c32) (by kernel_rfl) (by kernel_rfl) (by kernel_rfl))
  | d + 1 => sndG32 k _ (sndR32 k d)
noncomputable def F32 (k : Nat) : shsDen I32 → Option (shsDen O32 × shsDen (shsUpd I32)) := R32 k k
theorem snd32 (k : Nat) : Snd C12 32 ⟨I32, O32, F32 k⟩ := sndR32 k k

/-! ### f22 -/
abbrev I22 : List Sh := [.t T25]
abbrev O22 : List Sh := [.t T4]
noncomputable def c22 : Code := bodyOf Try.f22
noncomputable def Tf22 (k : Nat) : List (Nat × Spec) := [(31, ⟨I31, O31, F31 k⟩), (32, ⟨I32, O32, F32 k⟩), (33, ⟨I33, O33, F33 k⟩)]
theorem hT22 (k : Nat) : ∀ p, p ∈ Tf22 k → Snd C12 p.1 p.2 := hT_cons (snd31 k) (hT_cons (snd32 k) (hT_cons (snd33 k) (hT_nil)))
noncomputable def c22_0 : Code := loopN c22 0
abbrev H22_0 : Slots := [(1, .ptr [.t T25]), (3, .mp), (10, .t T22), (11, .t T3), (12, .t T3)]
abbrev X22_0 : List (PX × Slots) := [(.ex 0, [(1, .ptr [.t T25])]), (.rt, [(2, .t T4)])]
noncomputable def E22_0 (k : Nat) : Nat → shsDen (H22_0.map (·.2)) → Option (XD X22_0) := loopF C12 Try.f22.ntmps (kpOf 0 I22) (Tf22 k) [] 1000 H22_0 X22_0 c22_0
noncomputable def L22_0 (k : Nat) : LSpec := ⟨H22_0, X22_0, E22_0 k k⟩
theorem Ls22_0 (k : Nat) : LSnd C12 Try.f22.ntmps (kpOf 0 I22) c22_0 (L22_0 k) :=
  lsnd_def (hT22 k) 1000 H22_0 X22_0 c22_0 (cs := []) (.nil) (by kernel_rfl) k
noncomputable def c22_1 : Code := loopN c22 1
abbrev H22_1 : Slots := [(1, .ptr [.t T25]), (35, .t T23), (36, .t T3), (37, .t T3)]
abbrev X22_1 : List (PX × Slots) := [(.ex 2, [(1, .ptr [.t T25])]), (.rt, [(2, .t T4)])]
noncomputable def E22_1 (k : Nat) : Nat → shsDen (H22_1.map (·.2)) → Option (XD X22_1) := loopF C12 Try.f22.ntmps (kpOf 0 I22) (Tf22 k) [] 1000 H22_1 X22_1 c22_1
noncomputable def L22_1 (k : Nat) : LSpec := ⟨H22_1, X22_1, E22_1 k k⟩
theorem Ls22_1 (k : Nat) : LSnd C12 Try.f22.ntmps (kpOf 0 I22) c22_1 (L22_1 k) :=
  lsnd_def (hT22 k) 1000 H22_1 X22_1 c22_1 (cs := []) (.nil) (by kernel_rfl) k
noncomputable def F22 (k : Nat) : shsDen I22 → Option (shsDen O22 × shsDen (shsUpd I22)) := funF C12 (Tf22 k) [(3, L22_0 k), (10, L22_1 k)] 1000 Try.f22 I22 O22
theorem snd22 (k : Nat) : Snd C12 22 ⟨I22, O22, F22 k⟩ :=
  snd_def (c := c22) (by kernel_rfl) (by kernel_rfl) (by kernel_rfl) (hT22 k) 1000 I22 O22 (cs := [c22_0, c22_1]) (.cons _ _ 3 _ (by kernel_rfl) rfl (Ls22_0 k) (.cons _ _ 10 _ (by kernel_rfl) rfl (Ls22_1 k) (.nil))) (by kernel_rfl)

/-! ### f35 -/
abbrev I35 : List Sh := [.t T38]
abbrev O35 : List Sh := [.t T4]
noncomputable def c35 : Code := bodyOf Try.f35
noncomputable def Tf35 (k : Nat) : List (Nat × Spec) := []
theorem hT35 (k : Nat) : ∀ p, p ∈ Tf35 k → Snd C12 p.1 p.2 := hT_nil
noncomputable def F35 (k : Nat) : shsDen I35 → Option (shsDen O35 × shsDen (shsUpd I35)) := funF C12 (Tf35 k) [] 1000 Try.f35 I35 O35
theorem snd35 (k : Nat) : Snd C12 35 ⟨I35, O35, F35 k⟩ :=
  snd_def (c := c35) (by kernel_rfl) (by kernel_rfl) (by kernel_rfl) (hT35 k) 1000 I35 O35 (cs := []) (.nil) (by kernel_rfl)

/-! ### f58 -/
abbrev I58 : List Sh := [.t T22, .fn (.func 35) 0]
abbrev O58 : List Sh := [.t T3]
noncomputable def c58 : Code := bodyOf Try.f58
noncomputable def Tf58 (k : Nat) : List (Nat × Spec) := [(35, ⟨I35, O35, F35 k⟩)]
theorem hT58 (k : Nat) : ∀ p, p ∈ Tf58 k → Snd C12 p.1 p.2 := hT_cons (snd35 k) (hT_nil)
noncomputable def c58_0 : Code := loopN c58 0
abbrev H58_0 : Slots := [(0, .t T22), (1, .fn (.func 35) 0), (7, .t T3), (8, .t T3)]
abbrev X58_0 : List (PX × Slots) := [(.ex 0, []), (.rt, [(4, .t T3)])]
noncomputable def E58_0 (k : Nat) : Nat → shsDen (H58_0.map (·.2)) → Option (XD X58_0) := loopF C12 Try.f58.ntmps (kpOf 0 I58) (Tf58 k) [] 1000 H58_0 X58_0 c58_0
noncomputable def L58_0 (k : Nat) : LSpec := ⟨H58_0, X58_0, E58_0 k k⟩
theorem Ls58_0 (k : Nat) : LSnd C12 Try.f58.ntmps (kpOf 0 I58) c58_0 (L58_0 k) :=
  lsnd_def (hT58 k) 1000 H58_0 X58_0 c58_0 (cs := []) (.nil) (by kernel_rfl) k
noncomputable def F58 (k : Nat) : shsDen I58 → Option (shsDen O58 × shsDen (shsUpd I58)) := funF C12 (Tf58 k) [(2, L58_0 k)] 1000 Try.f58 I58 O58
theorem snd58 (k : Nat) : Snd C12 58 ⟨I58, O58, F58 k⟩ :=
  snd_def (c := c58) (by kernel_rfl) (by kernel_rfl) (by kernel_rfl) (hT58 k) 1000 I58 O58 (cs := [c58_0]) (.cons _ _ 2 _ (by kernel_rfl) rfl (Ls58_0 k) (.nil)) (by kernel_rfl)

/-! ### f34 -/
abbrev I34 : List Sh := [.t T22, .fn (.func 35) 0]
abbrev O34 : List Sh := [.t T4]
noncomputable def c34 : Code := bodyOf Try.f34
noncomputable def Tf34 (k : Nat) : List (Nat × Spec) := [(58, ⟨I58, O58, F58 k⟩)]
theorem hT34 (k : Nat) : ∀ p, p ∈ Tf34 k → Snd C12 p.1 p.2 := hT_cons (snd58 k) (hT_nil)
noncomputable def F34 (k : Nat) : shsDen I34 → Option (shsDen O34 × shsDen (shsUpd I34)) := funF C12 (Tf34 k) [] 1000 Try.f34 I34 O34
theorem snd34 (k : Nat) : Snd C12 34 ⟨I34, O34, F34 k⟩ :=
  snd_def (c := c34) (by kernel_rfl) (by kernel_rfl) (by kernel_rfl) (hT34 k) 1000 I34 O34 (cs := []) (.nil) (by kernel_rfl)

/-! ### f23 -/
abbrev I23 : List Sh := [.t T22, .t T3]
abbrev O23 : List Sh := [.t T36]
noncomputable def c23 : Code := bodyOf Try.f23
noncomputable def Tf23 (k : Nat) : List (Nat × Spec) := [(34, ⟨I34, O34, F34 k⟩)]
theorem hT23 (k : Nat) : ∀ p, p ∈ Tf23 k → Snd C12 p.1 p.2 := hT_cons (snd34 k) (hT_nil)
noncomputable def c23_0 : Code := loopN c23 0
abbrev H23_0 : Slots := [(0, .t T22), (4, .ptr [.t T36]), (5, .ptr [.row T3, .row T3, .t T4]), (6, .t T3)]
abbrev X23_0 : List (PX × Slots) := [(.ex 0, [(4, .ptr [.t T36]), (5, .ptr [.row T3, .row T3, .t T4])])]
noncomputable def E23_0 (k : Nat) : Nat → shsDen (H23_0.map (·.2)) → Option (XD X23_0) := loopF C12 Try.f23.ntmps (kpOf 0 I23) (Tf23 k) [] 1000 H23_0 X23_0 c23_0
noncomputable def L23_0 (k : Nat) : LSpec := ⟨H23_0, X23_0, E23_0 k k⟩
theorem Ls23_0 (k : Nat) : LSnd C12 Try.f23.ntmps (kpOf 0 I23) c23_0 (L23_0 k) :=
  lsnd_def (hT23 k) 1000 H23_0 X23_0 c23_0 (cs := []) (.nil) (by kernel_rfl) k
noncomputable def F23 (k : Nat) : shsDen I23 → Option (shsDen O23 × shsDen (shsUpd I23)) := funF C12 (Tf23 k) [(5, L23_0 k)] 1000 Try.f23 I23 O23
theorem snd23 (k : Nat) : Snd C12 23 ⟨I23, O23, F23 k⟩ :=
  snd_def (c := c23) (by kernel_rfl) (by kernel_rfl) (by kernel_rfl) (hT23 k) 1000 I23 O23 (cs := [c23_0]) (.cons _ _ 5 _ (by kernel_rfl) rfl (Ls23_0 k) (.nil)) (by kernel_rfl)

/-! ### f13 -/
abbrev I13 : List Sh := [.t T25]
abbrev O13 : List Sh := [.t T31]
noncomputable def c13 : Code := bodyOf Try.f13
noncomputable def Tf13 (k : Nat) : List (Nat × Spec) := [(22, ⟨I22, O22, F22 k⟩), (23, ⟨I23, O23, F23 k⟩)]
theorem hT13 (k : Nat) : ∀ p, p ∈ Tf13 k → Snd C12 p.1 p.2 := hT_cons (snd22 k) (hT_cons (snd23 k) (hT_nil))
noncomputable def c13_0 : Code := loopN c13 0
abbrev H13_0 : Slots := [(1, .ptr [.t T25]), (3, .row T36), (13, .t T3), (14, .t T3)]
abbrev X13_0 : List (PX × Slots) := [(.ex 0, [(3, .row T36)])]
noncomputable def E13_0 (k : Nat) : Nat → shsDen (H13_0.map (·.2)) → Option (XD X13_0) := loopF C12 Try.f13.ntmps (kpOf 0 I13) (Tf13 k) [] 1000 H13_0 X13_0 c13_0
noncomputable def L13_0 (k : Nat) : LSpec := ⟨H13_0, X13_0, E13_0 k k⟩
theorem Ls13_0 (k : Nat) : LSnd C12 Try.f13.ntmps (kpOf 0 I13) c13_0 (L13_0 k) :=
  lsnd_def (hT13 k) 1000 H13_0 X13_0 c13_0 (cs := []) (.nil) (by kernel_rfl) k
noncomputable def F13 (k : Nat) : shsDen I13 → Option (shsDen O13 × shsDen (shsUpd I13)) := funF C12 (Tf13 k) [(5, L13_0 k)] 1000 Try.f13 I13 O13
theorem snd13 (k : Nat) : Snd C12 13 ⟨I13, O13, F13 k⟩ :=
  snd_def (c := c13) (by kernel_rfl) (by kernel_rfl) (by kernel_rfl) (hT13 k) 1000 I13 O13 (cs := [c13_0]) (.cons _ _ 5 _ (by kernel_rfl) rfl (Ls13_0 k) (.nil)) (by kernel_rfl)

/-! ### f20 -/
abbrev I20 : List Sh := [.t T34, .t T34]
abbrev O20 : List Sh := [.t T4]
noncomputable def c20 : Code := bodyOf Try.f20
noncomputable def Tf20 (k : Nat) : List (Nat × Spec) := []
theorem hT20 (k : Nat) : ∀ p, p ∈ Tf20 k → Snd C12 p.1 p.2 := hT_nil
noncomputable def c20_0 : Code := loopN c20 0
abbrev H20_0 : Slots := [(0, .t T34), (1, .t T34), (5, .t T3)]
abbrev X20_0 : List (PX × Slots) := [(.ex 0, []), (.rt, [(4, .t T4)])]
noncomputable def E20_0 (k : Nat) : Nat → shsDen (H20_0.map (·.2)) → Option (XD X20_0) := loopF C12 Try.f20.ntmps (kpOf 0 I20) (Tf20 k) [] 1000 H20_0 X20_0 c20_0
noncomputable def L20_0 (k : Nat) : LSpec := ⟨H20_0, X20_0, E20_0 k k⟩
theorem Ls20_0 (k : Nat) : LSnd C12 Try.f20.ntmps (kpOf 0 I20) c20_0 (L20_0 k) :=
  lsnd_def (hT20 k) 1000 H20_0 X20_0 c20_0 (cs := []) (.nil) (by kernel_rfl) k
noncomputable def F20 (k : Nat) : shsDen I20 → Option (shsDen O20 × shsDen (shsUpd I20)) := funF C12 (Tf20 k) [(4, L20_0 k)] 1000 Try.f20 I20 O20
theorem snd20 (k : Nat) : Snd C12 20 ⟨I20, O20, F20 k⟩ :=
  snd_def (c := c20) (by kernel_rfl) (by kernel_rfl) (by kernel_rfl) (hT20 k) 1000 I20 O20 (cs := [c20_0]) (.cons _ _ 4 _ (by kernel_rfl) rfl (Ls20_0 k) (.nil)) (by kernel_rfl)

/-! ### f36 -/
abbrev I36 : List Sh := [.t T26, .t T9]
abbrev O36 : List Sh := [.t T3]
noncomputable def c36 : Code := bodyOf Try.f36
noncomputable def Tf36 (k : Nat) : List (Nat × Spec) := []
theorem hT36 (k : Nat) : ∀ p, p ∈ Tf36 k → Snd C12 p.1 p.2 := hT_nil
noncomputable def c36_0 : Code := loopN c36 0
abbrev H36_0 : Slots := [(0, .t T26), (1, .t T9), (7, .t T3), (8, .t T3)]
abbrev X36_0 : List (PX × Slots) := [(.ex 0, []), (.rt, [(4, .t T3)])]
noncomputable def E36_0 (k : Nat) : Nat → shsDen (H36_0.map (·.2)) → Option (XD X36_0) := loopF C12 Try.f36.ntmps (kpOf 0 I36) (Tf36 k) [] 1000 H36_0 X36_0 c36_0
noncomputable def L36_0 (k : Nat) : LSpec := ⟨H36_0, X36_0, E36_0 k k⟩
theorem Ls36_0 (k : Nat) : LSnd C12 Try.f36.ntmps (kpOf 0 I36) c36_0 (L36_0 k) :=
  lsnd_def (hT36 k) 1000 H36_0 X36_0 c36_0 (cs := []) (.nil) (by kernel_rfl) k
noncomputable def F36 (k : Nat) : shsDen I36 → Option (shsDen O36 × shsDen (shsUpd I36)) := funF C12 (Tf36 k) [(2, L36_0 k)] 1000 Try.f36 I36 O36
theorem snd36 (k : Nat) : Snd C12 36 ⟨I36, O36, F36 k⟩ :=
  snd_def (c := c36) (by kernel_rfl) (by kernel_rfl) (by kernel_rfl) (hT36 k) 1000 I36 O36 (cs := [c36_0]) (.cons _ _ 2 _ (by kernel_rfl) rfl (Ls36_0 k) (.nil)) (by kernel_rfl)

/-! ### f25 -/
abbrev I25 : List Sh := [.t T26, .t T9]
abbrev O25 : List Sh := [.t T4]
noncomputable def c25 : Code := bodyOf Try.f25
noncomputable def Tf25 (k : Nat) : List (Nat × Spec) := [(36, ⟨I36, O36, F36 k⟩)]
theorem hT25 (k : Nat) : ∀ p, p ∈ Tf25 k → Snd C12 p.1 p.2 := hT_cons (snd36 k) (hT_nil)
noncomputable def F25 (k : Nat) : shsDen I25 → Option (shsDen O25 × shsDen (shsUpd I25)) := funF C12 (Tf25 k) [] 1000 Try.f25 I25 O25
theorem snd25 (k : Nat) : Snd C12 25 ⟨I25, O25, F25 k⟩ :=
  snd_def (c := c25) (by kernel_rfl) (by kernel_rfl) (by kernel_rfl) (hT25 k) 1000 I25 O25 (cs := []) (.nil) (by kernel_rfl)

/-! ### f15 -/
abbrev I15 : List Sh := [.t T25, .t T26]
abbrev O15 : List Sh := [.t T4]
noncomputable def c15 : Code := bodyOf Try.f15
noncomputable def Tf15 (k : Nat) : List (Nat × Spec) := [(13, ⟨I13, O13, F13 k⟩), (25, ⟨I25, O25, F25 k⟩)]
theorem hT15 (k : Nat) : ∀ p, p ∈ Tf15 k → Snd C12 p.1 p.2 := hT_cons (snd13 k) (hT_cons (snd25 k) (hT_nil))
noncomputable def c15_0 : Code := loopN c15 0
noncomputable def c15_0_0 : Code := loopN c15_0 0
noncomputable def c15_0_0_0 : Code := loopN c15_0_0 0
abbrev H15_0_0_0 : Slots := [(2, .ptr [.t T25]), (5, .t T31), (6, .t T3), (8, .t T9), (9, .t T3), (18, .t T26), (19, .t T3), (20, .t T3), (24, .t T31), (25, .t T3), (26, .t T3), (37, .t T34), (38, .t T3), (39, .t T3)]
abbrev X15_0_0_0 : List (PX × Slots) := [(.ex 4, [(2, .ptr [.t T25]), (5, .t T31), (6, .t T3), (8, .t T9), (9, .t T3), (18, .t T26), (19, .t T3), (20, .t T3), (24, .t T31), (25, .t T3), (26, .t T3)])]
noncomputable def E15_0_0_0 (k : Nat) : Nat → shsDen (H15_0_0_0.map (·.2)) → Option (XD X15_0_0_0) := loopF C12 Try.f15.ntmps (kpOf 0 I15) (Tf15 k) [] 1000 H15_0_0_0 X15_0_0_0 c15_0_0_0
noncomputable def L15_0_0_0 (k : Nat) : LSpec := ⟨H15_0_0_0, X15_0_0_0, E15_0_0_0 k k⟩
theorem Ls15_0_0_0 (k : Nat) : LSnd C12 Try.f15.ntmps (kpOf 0 I15) c15_0_0_0 (L15_0_0_0 k) :=
  lsnd_def (hT15 k) 1000 H15_0_0_0 X15_0_0_0 c15_0_0_0 (cs := []) (.nil) (by kernel_rfl) k
abbrev H15_0_0 : Slots := [(2, .ptr [.t T25]), (5, .t T31), (6, .t T3), (8, .t T9), (9, .t T3), (18, .t T26), (19, .t T3), (20, .t T3), (24, .t T31), (25, .t T3), (26, .t T3)]
abbrev X15_0_0 : List (PX × Slots) := [(.ex 2, [(2, .ptr [.t T25]), (5, .t T31), (9, .t T3), (18, .t T26), (19, .t T3), (20, .t T3)])]
noncomputable def E15_0_0 (k : Nat) : Nat → shsDen (H15_0_0.map (·.2)) → Option (XD X15_0_0) := loopF C12 Try.f15.ntmps (kpOf 0 I15) (Tf15 k) [(12, L15_0_0_0 k)] 1000 H15_0_0 X15_0_0 c15_0_0
noncomputable def L15_0_0 (k : Nat) : LSpec := ⟨H15_0_0, X15_0_0, E15_0_0 k k⟩
theorem Ls15_0_0 (k : Nat) : LSnd C12 Try.f15.ntmps (kpOf 0 I15) c15_0_0 (L15_0_0 k) :=
  lsnd_def (hT15 k) 1000 H15_0_0 X15_0_0 c15_0_0 (cs := [c15_0_0_0]) (.cons _ _ 12 _ (by kernel_rfl) rfl (Ls15_0_0_0 k) (.nil)) (by kernel_rfl) k
abbrev H15_0 : Slots := [(2, .ptr [.t T25]), (5, .t T31), (6, .t T3), (18, .t T26), (19, .t T3), (20, .t T3)]
abbrev X15_0 : List (PX × Slots) := [(.ex 0, [(5, .t T31), (6, .t T3)])]
noncomputable def E15_0 (k : Nat) : Nat → shsDen (H15_0.map (·.2)) → Option (XD X15_0) := loopF C12 Try.f15.ntmps (kpOf 0 I15) (Tf15 k) [(8, L15_0_0 k)] 1000 H15_0 X15_0 c15_0
noncomputable def L15_0 (k : Nat) : LSpec := ⟨H15_0, X15_0, E15_0 k k⟩
theorem Ls15_0 (k : Nat) : LSnd C12 Try.f15.ntmps (kpOf 0 I15) c15_0 (L15_0 k) :=
  lsnd_def (hT15 k) 1000 H15_0 X15_0 c15_0 (cs := [c15_0_0]) (.cons _ _ 8 _ (by kernel_rfl) rfl (Ls15_0_0 k) (.nil)) (by kernel_rfl) k
noncomputable def c15_1 : Code := loopN c15 1
abbrev H15_1 : Slots := [(6, .t T3), (60, .t T31), (61, .t T3), (62, .t T3)]
abbrev X15_1 : List (PX × Slots) := [(.ex 6, []), (.rt, [(4, .t T4)])]
noncomputable def E15_1 (k : Nat) : Nat → shsDen (H15_1.map (·.2)) → Option (XD X15_1) := loopF C12 Try.f15.ntmps (kpOf 0 I15) (Tf15 k) [] 1000 H15_1 X15_1 c15_1
noncomputable def L15_1 (k : Nat) : LSpec := ⟨H15_1, X15_1, E15_1 k k⟩
theorem Ls15_1 (k : Nat) : LSnd C12 Try.f15.ntmps (kpOf 0 I15) c15_1 (L15_1 k) :=
  lsnd_def (hT15 k) 1000 H15_1 X15_1 c15_1 (cs := []) (.nil) (by kernel_rfl) k
noncomputable def F15 (k : Nat) : shsDen I15 → Option (shsDen O15 × shsDen (shsUpd I15)) := funF C12 (Tf15 k) [(4, L15_0 k), (21, L15_1 k)] 1000 Try.f15 I15 O15
theorem snd15 (k : Nat) : Snd C12 15 ⟨I15, O15, F15 k⟩ :=
  snd_def (c := c15) (by kernel_rfl) (by kernel_rfl) (by kernel_rfl) (hT15 k) 1000 I15 O15 (cs := [c15_0, c15_1]) (.cons _ _ 4 _ (by kernel_rfl) rfl (Ls15_0 k) (.cons _ _ 21 _ (by kernel_rfl) rfl (Ls15_1 k) (.nil))) (by kernel_rfl)

/-! ### f9 -/
abbrev I9 : List Sh := []
abbrev O9 : List Sh := [.t T4]
noncomputable def c9 : Code := bodyOf Try.f9
noncomputable def Tf9 (k : Nat) : List (Nat × Spec) := [(19, ⟨I19, O19, F19 k⟩), (13, ⟨I13, O13, F13 k⟩), (20, ⟨I20, O20, F20 k⟩), (15, ⟨I15, O15, F15 k⟩)]
theorem hT9 (k : Nat) : ∀ p, p ∈ Tf9 k → Snd C12 p.1 p.2 := hT_cons (snd19 k) (hT_cons (snd13 k) (hT_cons (snd20 k) (hT_cons (snd15 k) (hT_nil))))
noncomputable def F9 (k : Nat) : shsDen I9 → Option (shsDen O9 × shsDen (shsUpd I9)) := funF C12 (Tf9 k) [] 1000 Try.f9 I9 O9
theorem snd9 (k : Nat) : Snd C12 9 ⟨I9, O9, F9 k⟩ :=
  snd_def (c := c9) (by kernel_rfl) (by kernel_rfl) (by kernel_rfl) (hT9 k) 1000 I9 O9 (cs := []) (.nil) (by kernel_rfl)

/-! ### f21 -/
abbrev I21 : List Sh := [.t T50, .t T3]
abbrev O21 : List Sh := [.t T3]
noncomputable def c21 : Code := bodyOf Try.f21
noncomputable def Tf21 (k : Nat) (s21 : shsDen I21 → Option (shsDen O21 × shsDen (shsUpd I21))) : List (Nat × Spec) := [(21, ⟨I21, O21, s21⟩)]
theorem hT21 (k : Nat) (s21 : shsDen I21 → Option (shsDen O21 × shsDen (shsUpd I21))) (h21 : Snd C12 21 ⟨I21, O21, s21⟩) : ∀ p, p ∈ Tf21 k s21 → Snd C12 p.1 p.2 := hT_cons h21 (hT_nil)
noncomputable def c21_0 : Code := loopN c21 0
abbrev H21_0 : Slots := [(1, .t T3), (2, .ptr [.t T50]), (5, .t T3), (6, .t T3)]
abbrev X21_0 : List (PX × Slots) := [(.ex 0, [(5, .t T3)])]
noncomputable def E21_0 (k : Nat) (s21 : shsDen I21 → Option (shsDen O21 × shsDen (shsUpd I21))) : Nat → shsDen (H21_0.map (·.2)) → Option (XD X21_0) := loopF C12 Try.f21.ntmps (kpOf 0 I21) (Tf21 k s21) [] 1000 H21_0 X21_0 c21_0
noncomputable def L21_0 (k : Nat) (s21 : shsDen I21 → Option (shsDen O21 × shsDen (shsUpd I21))) : LSpec := ⟨H21_0, X21_0, E21_0 k s21 k⟩
theorem Ls21_0 (k : Nat) (s21 : shsDen I21 → Option (shsDen O21 × shsDen (shsUpd I21))) (h21 : Snd C12 21 ⟨I21, O21, s21⟩) : LSnd C12 Try.f21.ntmps (kpOf 0 I21) c21_0 (L21_0 k s21) :=
  lsnd_def (hT21 k s21 h21) 1000 H21_0 X21_0 c21_0 (cs := []) (.nil) (by kernel_rfl) k
noncomputable def G21 (k : Nat) (s21 : shsDen I21 → Option (shsDen O21 × shsDen (shsUpd I21))) : shsDen I21 → Option (shsDen O21 × shsDen (shsUpd I21)) := funF C12 (Tf21 k s21) [(3, L21_0 k s21)] 1000 Try.f21 I21 O21
theorem sndG21 (k : Nat) (s21 : shsDen I21 → Option (shsDen O21 × shsDen (shsUpd I21))) (h21 : Snd C12 21 ⟨I21, O21, s21⟩) : Snd C12 21 ⟨I21, O21, G21 k s21⟩ :=
  snd_def (c := c21) (by kernel_rfl) (by kernel_rfl) (by kernel_rfl) (hT21 k s21 h21) 1000 I21 O21 (cs := [c21_0]) (.cons _ _ 3 _ (by kernel_rfl) rfl (Ls21_0 k s21 h21) (.nil)) (by kernel_rfl)
noncomputable def R21 (k : Nat) : Nat → shsDen I21 → Option (shsDen O21 × shsDen (shsUpd I21))
  | 0 => fun _ => none
  | d + 1 => G21 k (R21 k d)
theorem sndR21 (k : Nat) : ∀ d, Snd C12 21 ⟨I21, O21, R21 k d⟩
  | 0 => snd_none (enter_of (fn := Try.f21) (c := c21) (by kernel_rfl) (by kernel_rfl) (by kernel_rfl))
  | d + 1 => sndG21 k _ (sndR21 k d)
noncomputable def F21 (k : Nat) : shsDen I21 → Option (shsDen O21 × shsDen (shsUpd I21)) := R21 k k
theorem snd21 (k : Nat) : Snd C12 21 ⟨I21, O21, F21 k⟩ := sndR21 k k

/-! ### f10 -/
abbrev I10 : List Sh := [.t T25]
abbrev O10 : List Sh := [.t T4]
noncomputable def c10 : Code := bodyOf Try.f10
noncomputable def Tf10 (k : Nat) : List (Nat × Spec) := [(21, ⟨I21, O21, F21 k⟩)]
theorem hT10 (k : Nat) : ∀ p, p ∈ Tf10 k → Snd C12 p.1 p.2 := hT_cons (snd21 k) (hT_nil)
noncomputable def c10_0 : Code := loopN c10 0
noncomputable def c10_0_0 : Code := loopN c10_0 0
abbrev H10_0_0 : Slots := [(1, .ptr [.t T25]), (3, .t T3), (4, .t T3), (5, .t T3)]
abbrev X10_0_0 : List (PX × Slots) := [(.ex 2, [(1, .ptr [.t T25]), (3, .t T3), (4, .t T3)])]
noncomputable def E10_0_0 (k : Nat) : Nat → shsDen (H10_0_0.map (·.2)) → Option (XD X10_0_0) := loopF C12 Try.f10.ntmps (kpOf 0 I10) (Tf10 k) [] 1000 H10_0_0 X10_0_0 c10_0_0
noncomputable def L10_0_0 (k : Nat) : LSpec := ⟨H10_0_0, X10_0_0, E10_0_0 k k⟩
theorem Ls10_0_0 (k : Nat) : LSnd C12 Try.f10.ntmps (kpOf 0 I10) c10_0_0 (L10_0_0 k) :=
  lsnd_def (hT10 k) 1000 H10_0_0 X10_0_0 c10_0_0 (cs := []) (.nil) (by kernel_rfl) k
abbrev H10_0 : Slots := [(1, .ptr [.t T25]), (3, .t T3), (4, .t T3)]
abbrev X10_0 : List (PX × Slots) := [(.ex 0, [(1, .ptr [.t T25]), (3, .t T3)])]
noncomputable def E10_0 (k : Nat) : Nat → shsDen (H10_0.map (·.2)) → Option (XD X10_0) := loopF C12 Try.f10.ntmps (kpOf 0 I10) (Tf10 k) [(7, L10_0_0 k)] 1000 H10_0 X10_0 c10_0
noncomputable def L10_0 (k : Nat) : LSpec := ⟨H10_0, X10_0, E10_0 k k⟩
theorem Ls10_0 (k : Nat) : LSnd C12 Try.f10.ntmps (kpOf 0 I10) c10_0 (L10_0 k) :=
  lsnd_def (hT10 k) 1000 H10_0 X10_0 c10_0 (cs := [c10_0_0]) (.cons _ _ 7 _ (by kernel_rfl) rfl (Ls10_0_0 k) (.nil)) (by kernel_rfl) k
noncomputable def c10_1 : Code := loopN c10 1
abbrev H10_1 : Slots := [(1, .ptr [.t T25]), (3, .t T3), (6, .t T3)]
abbrev X10_1 : List (PX × Slots) := [(.ex 4, [(3, .t T3)])]
noncomputable def E10_1 (k : Nat) : Nat → shsDen (H10_1.map (·.2)) → Option (XD X10_1) := loopF C12 Try.f10.ntmps (kpOf 0 I10) (Tf10 k) [] 1000 H10_1 X10_1 c10_1
noncomputable def L10_1 (k : Nat) : LSpec := ⟨H10_1, X10_1, E10_1 k k⟩
theorem Ls10_1 (k : Nat) : LSnd C12 Try.f10.ntmps (kpOf 0 I10) c10_1 (L10_1 k) :=
  lsnd_def (hT10 k) 1000 H10_1 X10_1 c10_1 (cs := []) (.nil) (by kernel_rfl) k
noncomputable def F10 (k : Nat) : shsDen I10 → Option (shsDen O10 × shsDen (shsUpd I10)) := funF C12 (Tf10 k) [(3, L10_0 k), (11, L10_1 k)] 1000 Try.f10 I10 O10
theorem snd10 (k : Nat) : Snd C12 10 ⟨I10, O10, F10 k⟩ :=
  snd_def (c := c10) (by kernel_rfl) (by kernel_rfl) (by kernel_rfl) (hT10 k) 1000 I10 O10 (cs := [c10_0, c10_1]) (.cons _ _ 3 _ (by kernel_rfl) rfl (Ls10_0 k) (.cons _ _ 11 _ (by kernel_rfl) rfl (Ls10_1 k) (.nil))) (by kernel_rfl)

/-! ### f11 -/
abbrev I11 : List Sh := [.t T26]
abbrev O11 : List Sh := [.t T4]
noncomputable def c11 : Code := bodyOf Try.f11
noncomputable def Tf11 (k : Nat) : List (Nat × Spec) := []
theorem hT11 (k : Nat) : ∀ p, p ∈ Tf11 k → Snd C12 p.1 p.2 := hT_nil
noncomputable def c11_0 : Code := loopN c11 0
abbrev H11_0 : Slots := [(0, .t T26), (3, .t T3), (4, .t T3)]
abbrev X11_0 : List (PX × Slots) := [(.ex 0, [(3, .t T3)])]
noncomputable def E11_0 (k : Nat) : Nat → shsDen (H11_0.map (·.2)) → Option (XD X11_0) := loopF C12 Try.f11.ntmps (kpOf 0 I11) (Tf11 k) [] 1000 H11_0 X11_0 c11_0
noncomputable def L11_0 (k : Nat) : LSpec := ⟨H11_0, X11_0, E11_0 k k⟩
theorem Ls11_0 (k : Nat) : LSnd C12 Try.f11.ntmps (kpOf 0 I11) c11_0 (L11_0 k) :=
  lsnd_def (hT11 k) 1000 H11_0 X11_0 c11_0 (cs := []) (.nil) (by kernel_rfl) k
noncomputable def F11 (k : Nat) : shsDen I11 → Option (shsDen O11 × shsDen (shsUpd I11)) := funF C12 (Tf11 k) [(3, L11_0 k)] 1000 Try.f11 I11 O11
theorem snd11 (k : Nat) : Snd C12 11 ⟨I11, O11, F11 k⟩ :=
  snd_def (c := c11) (by kernel_rfl) (by kernel_rfl) (by kernel_rfl) (hT11 k) 1000 I11 O11 (cs := [c11_0]) (.cons _ _ 3 _ (by kernel_rfl) rfl (Ls11_0 k) (.nil)) (by kernel_rfl)

/-! ### f24 -/
abbrev I24 : List Sh := [.t T25, .t T3]
abbrev O24 : List Sh := [.t T36]
noncomputable def c24 : Code := bodyOf Try.f24
noncomputable def Tf24 (k : Nat) : List (Nat × Spec) := []
theorem hT24 (k : Nat) : ∀ p, p ∈ Tf24 k → Snd C12 p.1 p.2 := hT_nil
noncomputable def c24_0 : Code := loopN c24 0
abbrev H24_0 : Slots := [(2, .ptr [.t T25]), (4, .ptr [.t T36]), (5, .ptr [.row T3, .row T3, .t T4]), (6, .t T4), (7, .t T3)]
abbrev X24_0 : List (PX × Slots) := [(.ex 0, [(4, .ptr [.t T36]), (5, .ptr [.row T3, .row T3, .t T4])])]
noncomputable def E24_0 (k : Nat) : Nat → shsDen (H24_0.map (·.2)) → Option (XD X24_0) := loopF C12 Try.f24.ntmps (kpOf 0 I24) (Tf24 k) [] 1000 H24_0 X24_0 c24_0
noncomputable def L24_0 (k : Nat) : LSpec := ⟨H24_0, X24_0, E24_0 k k⟩
theorem Ls24_0 (k : Nat) : LSnd C12 Try.f24.ntmps (kpOf 0 I24) c24_0 (L24_0 k) :=
  lsnd_def (hT24 k) 1000 H24_0 X24_0 c24_0 (cs := []) (.nil) (by kernel_rfl) k
noncomputable def F24 (k : Nat) : shsDen I24 → Option (shsDen O24 × shsDen (shsUpd I24)) := funF C12 (Tf24 k) [(8, L24_0 k)] 1000 Try.f24 I24 O24
theorem snd24 (k : Nat) : Snd C12 24 ⟨I24, O24, F24 k⟩ :=
  snd_def (c := c24) (by kernel_rfl) (by kernel_rfl) (by kernel_rfl) (hT24 k) 1000 I24 O24 (cs := [c24_0]) (.cons _ _ 8 _ (by kernel_rfl) rfl (Ls24_0 k) (.nil)) (by kernel_rfl)

/-! ### f14 -/
abbrev I14 : List Sh := [.t T25]
abbrev O14 : List Sh := [.t T31]
noncomputable def c14 : Code := bodyOf Try.f14
noncomputable def Tf14 (k : Nat) : List (Nat × Spec) := [(17, ⟨I17, O17, F17 k⟩), (24, ⟨I24, O24, F24 k⟩)]
theorem hT14 (k : Nat) : ∀ p, p ∈ Tf14 k → Snd C12 p.1 p.2 := hT_cons (snd17 k) (hT_cons (snd24 k) (hT_nil))
noncomputable def c14_0 : Code := loopN c14 0
abbrev H14_0 : Slots := [(1, .ptr [.t T25]), (3, .row T36), (4, .t T3)]
abbrev X14_0 : List (PX × Slots) := [(.ex 0, [(3, .row T36)])]
noncomputable def E14_0 (k : Nat) : Nat → shsDen (H14_0.map (·.2)) → Option (XD X14_0) := loopF C12 Try.f14.ntmps (kpOf 0 I14) (Tf14 k) [] 1000 H14_0 X14_0 c14_0
noncomputable def L14_0 (k : Nat) : LSpec := ⟨H14_0, X14_0, E14_0 k k⟩
theorem Ls14_0 (k : Nat) : LSnd C12 Try.f14.ntmps (kpOf 0 I14) c14_0 (L14_0 k) :=
  lsnd_def (hT14 k) 1000 H14_0 X14_0 c14_0 (cs := []) (.nil) (by kernel_rfl) k
noncomputable def F14 (k : Nat) : shsDen I14 → Option (shsDen O14 × shsDen (shsUpd I14)) := funF C12 (Tf14 k) [(5, L14_0 k)] 1000 Try.f14 I14 O14
theorem snd14 (k : Nat) : Snd C12 14 ⟨I14, O14, F14 k⟩ :=
  snd_def (c := c14) (by kernel_rfl) (by kernel_rfl) (by kernel_rfl) (hT14 k) 1000 I14 O14 (cs := [c14_0]) (.cons _ _ 5 _ (by kernel_rfl) rfl (Ls14_0 k) (.nil)) (by kernel_rfl)

/-! ### f12 -/
abbrev I12 : List Sh := [.t T31, .t T31]
abbrev O12 : List Sh := [.t T4]
noncomputable def c12 : Code := bodyOf Try.f12
noncomputable def Tf12 (k : Nat) : List (Nat × Spec) := [(20, ⟨I20, O20, F20 k⟩)]
theorem hT12 (k : Nat) : ∀ p, p ∈ Tf12 k → Snd C12 p.1 p.2 := hT_cons (snd20 k) (hT_nil)
noncomputable def c12_0 : Code := loopN c12 0
abbrev H12_0 : Slots := [(0, .t T31), (1, .t T31), (5, .t T3)]
abbrev X12_0 : List (PX × Slots) := [(.ex 0, []), (.rt, [(4, .t T4)])]
noncomputable def E12_0 (k : Nat) : Nat → shsDen (H12_0.map (·.2)) → Option (XD X12_0) := loopF C12 Try.f12.ntmps (kpOf 0 I12) (Tf12 k) [] 1000 H12_0 X12_0 c12_0
noncomputable def L12_0 (k : Nat) : LSpec := ⟨H12_0, X12_0, E12_0 k k⟩
theorem Ls12_0 (k : Nat) : LSnd C12 Try.f12.ntmps (kpOf 0 I12) c12_0 (L12_0 k) :=
  lsnd_def (hT12 k) 1000 H12_0 X12_0 c12_0 (cs := []) (.nil) (by kernel_rfl) k
noncomputable def F12 (k : Nat) : shsDen I12 → Option (shsDen O12 × shsDen (shsUpd I12)) := funF C12 (Tf12 k) [(4, L12_0 k)] 1000 Try.f12 I12 O12
theorem snd12 (k : Nat) : Snd C12 12 ⟨I12, O12, F12 k⟩ :=
  snd_def (c := c12) (by kernel_rfl) (by kernel_rfl) (by kernel_rfl) (hT12 k) 1000 I12 O12 (cs := [c12_0]) (.cons _ _ 4 _ (by kernel_rfl) rfl (Ls12_0 k) (.nil)) (by kernel_rfl)

/-! ### f18 -/
abbrev I18 : List Sh := [.t T38, .t T9]
abbrev O18 : List Sh := [.t T4]
noncomputable def c18 : Code := bodyOf Try.f18
noncomputable def Tf18 (k : Nat) : List (Nat × Spec) := []
theorem hT18 (k : Nat) : ∀ p, p ∈ Tf18 k → Snd C12 p.1 p.2 := hT_nil
noncomputable def c18_0 : Code := loopN c18 0
abbrev H18_0 : Slots := [(1, .t T9), (2, .ptr [.t T38]), (5, .t T3)]
abbrev X18_0 : List (PX × Slots) := [(.ex 0, []), (.rt, [(4, .t T4)])]
noncomputable def E18_0 (k : Nat) : Nat → shsDen (H18_0.map (·.2)) → Option (XD X18_0) := loopF C12 Try.f18.ntmps (kpOf 0 I18) (Tf18 k) [] 1000 H18_0 X18_0 c18_0
noncomputable def L18_0 (k : Nat) : LSpec := ⟨H18_0, X18_0, E18_0 k k⟩
theorem Ls18_0 (k : Nat) : LSnd C12 Try.f18.ntmps (kpOf 0 I18) c18_0 (L18_0 k) :=
  lsnd_def (hT18 k) 1000 H18_0 X18_0 c18_0 (cs := []) (.nil) (by kernel_rfl) k
noncomputable def F18 (k : Nat) : shsDen I18 → Option (shsDen O18 × shsDen (shsUpd I18)) := funF C12 (Tf18 k) [(2, L18_0 k)] 1000 Try.f18 I18 O18
theorem snd18 (k : Nat) : Snd C12 18 ⟨I18, O18, F18 k⟩ :=
  snd_def (c := c18) (by kernel_rfl) (by kernel_rfl) (by kernel_rfl) (hT18 k) 1000 I18 O18 (cs := [c18_0]) (.cons _ _ 2 _ (by kernel_rfl) rfl (Ls18_0 k) (.nil)) (by kernel_rfl)

/-! ### f16 -/
abbrev I16 : List Sh := [.t T25, .t T26]
abbrev O16 : List Sh := [.t T4]
noncomputable def c16 : Code := bodyOf Try.f16
noncomputable def Tf16 (k : Nat) : List (Nat × Spec) := [(14, ⟨I14, O14, F14 k⟩), (18, ⟨I18, O18, F18 k⟩)]
theorem hT16 (k : Nat) : ∀ p, p ∈ Tf16 k → Snd C12 p.1 p.2 := hT_cons (snd14 k) (hT_cons (snd18 k) (hT_nil))
noncomputable def c16_0 : Code := loopN c16 0
noncomputable def c16_0_0 : Code := loopN c16_0 0
noncomputable def c16_0_0_0 : Code := loopN c16_0_0 0
abbrev H16_0_0_0 : Slots := [(1, .t T26), (2, .ptr [.t T25]), (5, .t T31), (6, .row T4), (7, .t T3), (8, .row T4), (9, .t T3), (10, .t T3)]
abbrev X16_0_0_0 : List (PX × Slots) := [(.ex 4, [(1, .t T26), (2, .ptr [.t T25]), (5, .t T31), (6, .row T4), (7, .t T3), (8, .row T4), (9, .t T3)])]
noncomputable def E16_0_0_0 (k : Nat) : Nat → shsDen (H16_0_0_0.map (·.2)) → Option (XD X16_0_0_0) := loopF C12 Try.f16.ntmps (kpOf 0 I16) (Tf16 k) [] 1000 H16_0_0_0 X16_0_0_0 c16_0_0_0
noncomputable def L16_0_0_0 (k : Nat) : LSpec := ⟨H16_0_0_0, X16_0_0_0, E16_0_0_0 k k⟩
theorem Ls16_0_0_0 (k : Nat) : LSnd C12 Try.f16.ntmps (kpOf 0 I16) c16_0_0_0 (L16_0_0_0 k) :=
  lsnd_def (hT16 k) 1000 H16_0_0_0 X16_0_0_0 c16_0_0_0 (cs := []) (.nil) (by kernel_rfl) k
abbrev H16_0_0 : Slots := [(1, .t T26), (2, .ptr [.t T25]), (5, .t T31), (6, .row T4), (7, .t T3), (8, .row T4), (9, .t T3)]
abbrev X16_0_0 : List (PX × Slots) := [(.ex 2, [(1, .t T26), (2, .ptr [.t T25]), (5, .t T31), (7, .t T3), (8, .row T4)])]
noncomputable def E16_0_0 (k : Nat) : Nat → shsDen (H16_0_0.map (·.2)) → Option (XD X16_0_0) := loopF C12 Try.f16.ntmps (kpOf 0 I16) (Tf16 k) [(14, L16_0_0_0 k)] 1000 H16_0_0 X16_0_0 c16_0_0
noncomputable def L16_0_0 (k : Nat) : LSpec := ⟨H16_0_0, X16_0_0, E16_0_0 k k⟩
theorem Ls16_0_0 (k : Nat) : LSnd C12 Try.f16.ntmps (kpOf 0 I16) c16_0_0 (L16_0_0 k) :=
  lsnd_def (hT16 k) 1000 H16_0_0 X16_0_0 c16_0_0 (cs := [c16_0_0_0]) (.cons _ _ 14 _ (by kernel_rfl) rfl (Ls16_0_0_0 k) (.nil)) (by kernel_rfl) k
abbrev H16_0 : Slots := [(1, .t T26), (2, .ptr [.t T25]), (5, .t T31), (6, .row T4), (7, .t T3)]
abbrev X16_0 : List (PX × Slots) := [(.ex 0, [(5, .t T31), (6, .row T4)])]
noncomputable def E16_0 (k : Nat) : Nat → shsDen (H16_0.map (·.2)) → Option (XD X16_0) := loopF C12 Try.f16.ntmps (kpOf 0 I16) (Tf16 k) [(11, L16_0_0 k)] 1000 H16_0 X16_0 c16_0
noncomputable def L16_0 (k : Nat) : LSpec := ⟨H16_0, X16_0, E16_0 k k⟩
theorem Ls16_0 (k : Nat) : LSnd C12 Try.f16.ntmps (kpOf 0 I16) c16_0 (L16_0 k) :=
  lsnd_def (hT16 k) 1000 H16_0 X16_0 c16_0 (cs := [c16_0_0]) (.cons _ _ 11 _ (by kernel_rfl) rfl (Ls16_0_0 k) (.nil)) (by kernel_rfl) k
noncomputable def c16_1 : Code := loopN c16 1
abbrev H16_1 : Slots := [(5, .t T31), (6, .row T4), (12, .t T3)]
abbrev X16_1 : List (PX × Slots) := [(.ex 6, []), (.rt, [(4, .t T4)])]
noncomputable def E16_1 (k : Nat) : Nat → shsDen (H16_1.map (·.2)) → Option (XD X16_1) := loopF C12 Try.f16.ntmps (kpOf 0 I16) (Tf16 k) [] 1000 H16_1 X16_1 c16_1
noncomputable def L16_1 (k : Nat) : LSpec := ⟨H16_1, X16_1, E16_1 k k⟩
theorem Ls16_1 (k : Nat) : LSnd C12 Try.f16.ntmps (kpOf 0 I16) c16_1 (L16_1 k) :=
  lsnd_def (hT16 k) 1000 H16_1 X16_1 c16_1 (cs := []) (.nil) (by kernel_rfl) k
noncomputable def F16 (k : Nat) : shsDen I16 → Option (shsDen O16 × shsDen (shsUpd I16)) := funF C12 (Tf16 k) [(7, L16_0 k), (21, L16_1 k)] 1000 Try.f16 I16 O16
theorem snd16 (k : Nat) : Snd C12 16 ⟨I16, O16, F16 k⟩ :=
  snd_def (c := c16) (by kernel_rfl) (by kernel_rfl) (by kernel_rfl) (hT16 k) 1000 I16 O16 (cs := [c16_0, c16_1]) (.cons _ _ 7 _ (by kernel_rfl) rfl (Ls16_0 k) (.cons _ _ 21 _ (by kernel_rfl) rfl (Ls16_1 k) (.nil))) (by kernel_rfl)

/-! ### f3 -/
abbrev I3 : List Sh := [.t T25, .t T26]
abbrev O3 : List Sh := [.t T4]
noncomputable def c3 : Code := bodyOf Try.f3
noncomputable def Tf3 (k : Nat) : List (Nat × Spec) := [(9, ⟨I9, O9, F9 k⟩), (10, ⟨I10, O10, F10 k⟩), (11, ⟨I11, O11, F11 k⟩), (13, ⟨I13, O13, F13 k⟩), (14, ⟨I14, O14, F14 k⟩), (12, ⟨I12, O12, F12 k⟩), (15, ⟨I15, O15, F15 k⟩), (16, ⟨I16, O16, F16 k⟩)]
theorem hT3 (k : Nat) : ∀ p, p ∈ Tf3 k → Snd C12 p.1 p.2 := hT_cons (snd9 k) (hT_cons (snd10 k) (hT_cons (snd11 k) (hT_cons (snd13 k) (hT_cons (snd14 k) (hT_cons (snd12 k) (hT_cons (snd15 k) (hT_cons (snd16 k) (hT_nil))))))))
noncomputable def F3 (k : Nat) : shsDen I3 → Option (shsDen O3 × shsDen (shsUpd I3)) := funF C12 (Tf3 k) [] 1000 Try.f3 I3 O3
theorem snd3 (k : Nat) : Snd C12 3 ⟨I3, O3, F3 k⟩ :=
  snd_def (c := c3) (by kernel_rfl) (by kernel_rfl) (by kernel_rfl) (hT3 k) 1000 I3 O3 (cs := []) (.nil) (by kernel_rfl)

/-! ### f4 -/
abbrev I4 : List Sh := [.t T25]
abbrev O4 : List Sh := [.t T4]
noncomputable def c4 : Code := bodyOf Try.f4
noncomputable def Tf4 (k : Nat) : List (Nat × Spec) := [(9, ⟨I9, O9, F9 k⟩), (10, ⟨I10, O10, F10 k⟩), (13, ⟨I13, O13, F13 k⟩), (17, ⟨I17, O17, F17 k⟩)]
theorem hT4 (k : Nat) : ∀ p, p ∈ Tf4 k → Snd C12 p.1 p.2 := hT_cons (snd9 k) (hT_cons (snd10 k) (hT_cons (snd13 k) (hT_cons (snd17 k) (hT_nil))))
noncomputable def c4_0 : Code := loopN c4 0
noncomputable def c4_0_0 : Code := loopN c4_0 0
abbrev H4_0_0 : Slots := [(1, .ptr [.t T25]), (3, .t T4), (4, .t T31), (5, .t T3), (6, .ptr [.t T36]), (7, .t T3)]
abbrev X4_0_0 : List (PX × Slots) := [(.ex 2, [(1, .ptr [.t T25]), (3, .t T4), (4, .t T31), (5, .t T3), (6, .ptr [.t T36])]), (.rt, [(2, .t T4)])]
noncomputable def E4_0_0 (k : Nat) : Nat → shsDen (H4_0_0.map (·.2)) → Option (XD X4_0_0) := loopF C12 Try.f4.ntmps (kpOf 0 I4) (Tf4 k) [] 1000 H4_0_0 X4_0_0 c4_0_0
noncomputable def L4_0_0 (k : Nat) : LSpec := ⟨H4_0_0, X4_0_0, E4_0_0 k k⟩
theorem Ls4_0_0 (k : Nat) : LSnd C12 Try.f4.ntmps (kpOf 0 I4) c4_0_0 (L4_0_0 k) :=
  lsnd_def (hT4 k) 1000 H4_0_0 X4_0_0 c4_0_0 (cs := []) (.nil) (by kernel_rfl) k
noncomputable def c4_0_1 : Code := loopN c4_0 1
abbrev H4_0_1 : Slots := [(1, .ptr [.t T25]), (3, .t T4), (4, .t T31), (5, .t T3), (6, .ptr [.t T36]), (9, .t T3)]
abbrev X4_0_1 : List (PX × Slots) := [(.ex 4, [(1, .ptr [.t T25]), (3, .t T4), (4, .t T31), (5, .t T3), (6, .ptr [.t T36])]), (.rt, [(2, .t T4)])]
noncomputable def E4_0_1 (k : Nat) : Nat → shsDen (H4_0_1.map (·.2)) → Option (XD X4_0_1) := loopF C12 Try.f4.ntmps (kpOf 0 I4) (Tf4 k) [] 1000 H4_0_1 X4_0_1 c4_0_1
noncomputable def L4_0_1 (k : Nat) : LSpec := ⟨H4_0_1, X4_0_1, E4_0_1 k k⟩
theorem Ls4_0_1 (k : Nat) : LSnd C12 Try.f4.ntmps (kpOf 0 I4) c4_0_1 (L4_0_1 k) :=
  lsnd_def (hT4 k) 1000 H4_0_1 X4_0_1 c4_0_1 (cs := []) (.nil) (by kernel_rfl) k
noncomputable def c4_0_2 : Code := loopN c4_0 2
abbrev H4_0_2 : Slots := [(1, .ptr [.t T25]), (3, .t T4), (4, .t T31), (5, .t T3), (6, .ptr [.t T36]), (11, .t T4), (12, .t T3)]
abbrev X4_0_2 : List (PX × Slots) := [(.ex 6, [(1, .ptr [.t T25]), (3, .t T4), (4, .t T31), (5, .t T3), (6, .ptr [.t T36]), (11, .t T4)])]
noncomputable def E4_0_2 (k : Nat) : Nat → shsDen (H4_0_2.map (·.2)) → Option (XD X4_0_2) := loopF C12 Try.f4.ntmps (kpOf 0 I4) (Tf4 k) [] 1000 H4_0_2 X4_0_2 c4_0_2
noncomputable def L4_0_2 (k : Nat) : LSpec := ⟨H4_0_2, X4_0_2, E4_0_2 k k⟩
theorem Ls4_0_2 (k : Nat) : LSnd C12 Try.f4.ntmps (kpOf 0 I4) c4_0_2 (L4_0_2 k) :=
  lsnd_def (hT4 k) 1000 H4_0_2 X4_0_2 c4_0_2 (cs := []) (.nil) (by kernel_rfl) k
abbrev H4_0 : Slots := [(1, .ptr [.t T25]), (3, .t T4), (4, .t T31), (5, .t T3)]
abbrev X4_0 : List (PX × Slots) := [(.ex 0, [(3, .t T4)]), (.rt, [(2, .t T4)])]
noncomputable def E4_0 (k : Nat) : Nat → shsDen (H4_0.map (·.2)) → Option (XD X4_0) := loopF C12 Try.f4.ntmps (kpOf 0 I4) (Tf4 k) [(14, L4_0_0 k), (20, L4_0_1 k), (27, L4_0_2 k)] 1000 H4_0 X4_0 c4_0
noncomputable def L4_0 (k : Nat) : LSpec := ⟨H4_0, X4_0, E4_0 k k⟩
theorem Ls4_0 (k : Nat) : LSnd C12 Try.f4.ntmps (kpOf 0 I4) c4_0 (L4_0 k) :=
  lsnd_def (hT4 k) 1000 H4_0 X4_0 c4_0 (cs := [c4_0_0, c4_0_1, c4_0_2]) (.cons _ _ 14 _ (by kernel_rfl) rfl (Ls4_0_0 k) (.cons _ _ 20 _ (by kernel_rfl) rfl (Ls4_0_1 k) (.cons _ _ 27 _ (by kernel_rfl) rfl (Ls4_0_2 k) (.nil)))) (by kernel_rfl) k
noncomputable def F4 (k : Nat) : shsDen I4 → Option (shsDen O4 × shsDen (shsUpd I4)) := funF C12 (Tf4 k) [(10, L4_0 k)] 1000 Try.f4 I4 O4
theorem snd4 (k : Nat) : Snd C12 4 ⟨I4, O4, F4 k⟩ :=
  snd_def (c := c4) (by kernel_rfl) (by kernel_rfl) (by kernel_rfl) (hT4 k) 1000 I4 O4 (cs := [c4_0]) (.cons _ _ 10 _ (by kernel_rfl) rfl (Ls4_0 k) (.nil)) (by kernel_rfl)

/-! ### f5 -/
abbrev I5 : List Sh := [.t T25, .t T26]
abbrev O5 : List Sh := [.t T4]
noncomputable def c5 : Code := bodyOf Try.f5
noncomputable def Tf5 (k : Nat) : List (Nat × Spec) := [(9, ⟨I9, O9, F9 k⟩), (10, ⟨I10, O10, F10 k⟩), (11, ⟨I11, O11, F11 k⟩), (17, ⟨I17, O17, F17 k⟩), (18, ⟨I18, O18, F18 k⟩), (15, ⟨I15, O15, F15 k⟩)]
theorem hT5 (k : Nat) : ∀ p, p ∈ Tf5 k → Snd C12 p.1 p.2 := hT_cons (snd9 k) (hT_cons (snd10 k) (hT_cons (snd11 k) (hT_cons (snd17 k) (hT_cons (snd18 k) (hT_cons (snd15 k) (hT_nil))))))
noncomputable def c5_0 : Code := loopN c5 0
abbrev H5_0 : Slots := [(1, .t T26), (2, .ptr [.t T25]), (5, .t T4), (6, .t T4), (7, .t T3)]
abbrev X5_0 : List (PX × Slots) := [(.ex 0, [(1, .t T26), (2, .ptr [.t T25]), (5, .t T4), (6, .t T4)]), (.rt, [(4, .t T4)])]
noncomputable def E5_0 (k : Nat) : Nat → shsDen (H5_0.map (·.2)) → Option (XD X5_0) := loopF C12 Try.f5.ntmps (kpOf 0 I5) (Tf5 k) [] 1000 H5_0 X5_0 c5_0
noncomputable def L5_0 (k : Nat) : LSpec := ⟨H5_0, X5_0, E5_0 k k⟩
theorem Ls5_0 (k : Nat) : LSnd C12 Try.f5.ntmps (kpOf 0 I5) c5_0 (L5_0 k) :=
  lsnd_def (hT5 k) 1000 H5_0 X5_0 c5_0 (cs := []) (.nil) (by kernel_rfl) k
noncomputable def F5 (k : Nat) : shsDen I5 → Option (shsDen O5 × shsDen (shsUpd I5)) := funF C12 (Tf5 k) [(6, L5_0 k)] 1000 Try.f5 I5 O5
theorem snd5 (k : Nat) : Snd C12 5 ⟨I5, O5, F5 k⟩ :=
  snd_def (c := c5) (by kernel_rfl) (by kernel_rfl) (by kernel_rfl) (hT5 k) 1000 I5 O5 (cs := [c5_0]) (.cons _ _ 6 _ (by kernel_rfl) rfl (Ls5_0 k) (.nil)) (by kernel_rfl)

/-! ### f6 -/
abbrev I6 : List Sh := [.t T25, .t T26]
abbrev O6 : List Sh := [.t T4]
noncomputable def c6 : Code := bodyOf Try.f6
noncomputable def Tf6 (k : Nat) : List (Nat × Spec) := [(9, ⟨I9, O9, F9 k⟩), (10, ⟨I10, O10, F10 k⟩), (11, ⟨I11, O11, F11 k⟩), (17, ⟨I17, O17, F17 k⟩), (15, ⟨I15, O15, F15 k⟩), (18, ⟨I18, O18, F18 k⟩)]
theorem hT6 (k : Nat) : ∀ p, p ∈ Tf6 k → Snd C12 p.1 p.2 := hT_cons (snd9 k) (hT_cons (snd10 k) (hT_cons (snd11 k) (hT_cons (snd17 k) (hT_cons (snd15 k) (hT_cons (snd18 k) (hT_nil))))))
noncomputable def F6 (k : Nat) : shsDen I6 → Option (shsDen O6 × shsDen (shsUpd I6)) := funF C12 (Tf6 k) [] 1000 Try.f6 I6 O6
theorem snd6 (k : Nat) : Snd C12 6 ⟨I6, O6, F6 k⟩ :=
  snd_def (c := c6) (by kernel_rfl) (by kernel_rfl) (by kernel_rfl) (hT6 k) 1000 I6 O6 (cs := []) (.nil) (by kernel_rfl)

/-! ### f7 -/
abbrev I7 : List Sh := [.t T25, .t T26]
abbrev O7 : List Sh := [.t T4]
noncomputable def c7 : Code := bodyOf Try.f7
noncomputable def Tf7 (k : Nat) : List (Nat × Spec) := [(9, ⟨I9, O9, F9 k⟩), (10, ⟨I10, O10, F10 k⟩), (11, ⟨I11, O11, F11 k⟩), (17, ⟨I17, O17, F17 k⟩), (15, ⟨I15, O15, F15 k⟩)]
theorem hT7 (k : Nat) : ∀ p, p ∈ Tf7 k → Snd C12 p.1 p.2 := hT_cons (snd9 k) (hT_cons (snd10 k) (hT_cons (snd11 k) (hT_cons (snd17 k) (hT_cons (snd15 k) (hT_nil)))))
noncomputable def c7_0 : Code := loopN c7 0
abbrev H7_0 : Slots := [(1, .t T26), (2, .ptr [.t T25]), (5, .t T4), (6, .ptr [.row T38, .t T23, .t T2, .t T9, .t T3]), (7, .t T3)]
abbrev X7_0 : List (PX × Slots) := [(.ex 0, [(1, .t T26), (2, .ptr [.t T25]), (5, .t T4), (6, .ptr [.row T38, .t T23, .t T2, .t T9, .t T3])])]
noncomputable def E7_0 (k : Nat) : Nat → shsDen (H7_0.map (·.2)) → Option (XD X7_0) := loopF C12 Try.f7.ntmps (kpOf 0 I7) (Tf7 k) [] 1000 H7_0 X7_0 c7_0
noncomputable def L7_0 (k : Nat) : LSpec := ⟨H7_0, X7_0, E7_0 k k⟩
theorem Ls7_0 (k : Nat) : LSnd C12 Try.f7.ntmps (kpOf 0 I7) c7_0 (L7_0 k) :=
  lsnd_def (hT7 k) 1000 H7_0 X7_0 c7_0 (cs := []) (.nil) (by kernel_rfl) k
noncomputable def F7 (k : Nat) : shsDen I7 → Option (shsDen O7 × shsDen (shsUpd I7)) := funF C12 (Tf7 k) [(8, L7_0 k)] 1000 Try.f7 I7 O7
theorem snd7 (k : Nat) : Snd C12 7 ⟨I7, O7, F7 k⟩ :=
  snd_def (c := c7) (by kernel_rfl) (by kernel_rfl) (by kernel_rfl) (hT7 k) 1000 I7 O7 (cs := [c7_0]) (.cons _ _ 8 _ (by kernel_rfl) rfl (Ls7_0 k) (.nil)) (by kernel_rfl)

/-! ### f8 -/
abbrev I8 : List Sh := [.t T25, .t T26, .t T5]
abbrev O8 : List Sh := [.t T4]
noncomputable def c8 : Code := bodyOf Try.f8
noncomputable def Tf8 (k : Nat) : List (Nat × Spec) := [(9, ⟨I9, O9, F9 k⟩), (10, ⟨I10, O10, F10 k⟩), (11, ⟨I11, O11, F11 k⟩), (17, ⟨I17, O17, F17 k⟩), (18, ⟨I18, O18, F18 k⟩), (15, ⟨I15, O15, F15 k⟩)]
theorem hT8 (k : Nat) : ∀ p, p ∈ Tf8 k → Snd C12 p.1 p.2 := hT_cons (snd9 k) (hT_cons (snd10 k) (hT_cons (snd11 k) (hT_cons (snd17 k) (hT_cons (snd18 k) (hT_cons (snd15 k) (hT_nil))))))
noncomputable def c8_0 : Code := loopN c8 0
abbrev H8_0 : Slots := [(1, .t T26), (3, .ptr [.t T25]), (7, .t T4), (8, .t T3), (9, .t T3)]
abbrev X8_0 : List (PX × Slots) := [(.ex 0, [(1, .t T26), (3, .ptr [.t T25]), (7, .t T4), (8, .t T3)]), (.rt, [(6, .t T4)])]
noncomputable def E8_0 (k : Nat) : Nat → shsDen (H8_0.map (·.2)) → Option (XD X8_0) := loopF C12 Try.f8.ntmps (kpOf 0 I8) (Tf8 k) [] 1000 H8_0 X8_0 c8_0
noncomputable def L8_0 (k : Nat) : LSpec := ⟨H8_0, X8_0, E8_0 k k⟩
theorem Ls8_0 (k : Nat) : LSnd C12 Try.f8.ntmps (kpOf 0 I8) c8_0 (L8_0 k) :=
  lsnd_def (hT8 k) 1000 H8_0 X8_0 c8_0 (cs := []) (.nil) (by kernel_rfl) k
noncomputable def F8 (k : Nat) : shsDen I8 → Option (shsDen O8 × shsDen (shsUpd I8)) := funF C12 (Tf8 k) [(8, L8_0 k)] 1000 Try.f8 I8 O8
theorem snd8 (k : Nat) : Snd C12 8 ⟨I8, O8, F8 k⟩ :=
  snd_def (c := c8) (by kernel_rfl) (by kernel_rfl) (by kernel_rfl) (hT8 k) 1000 I8 O8 (cs := [c8_0]) (.cons _ _ 8 _ (by kernel_rfl) rfl (Ls8_0 k) (.nil)) (by kernel_rfl)
end Go.Pv.L12
