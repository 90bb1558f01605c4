/- The meanings of the functions of layer 16, and that the program does what they say: written by gen.py. -/
import Derived.Test.YtfmcfigoendjiaaGreatPvK
import Derived.Test.YtfmcfigoendjiaaGreatPvKs
import Derived.Test.YtfmcfigoendjiaaGreatPvSh16
namespace Go.Pv.L16
open Go Go.Pv Go.Proofs
set_option linter.all false
set_option linter.constructorNameAsVariable false
set_option linter.unusedSectionVars false
set_option linter.unusedVariables false
set_option linter.unusedSimpArgs false
noncomputable def C16 : Cfg := { P := Tryz.prog, ex := 84, gl := [0], cmp := [81], cmpOk := by kernel_rfl, own2 := [(40, 25)], mv := [25] }
abbrev T2 : Ty := (Ty.i IntKind.i64)
abbrev T3 : Ty := (Ty.i IntKind.i64)
abbrev T4 : Ty := Ty.b
abbrev T5 : Ty := Ty.y8
abbrev T9 : Ty := Ty.s
abbrev T22 : Ty := (Ty.s.p ((Ty.i IntKind.i64).p (Ty.b.p ((Ty.b.p (Ty.s.l.p (Ty.s.p (Ty.i IntKind.i64)))).l.p (((Ty.i IntKind.i64).p (Ty.ex.p Ty.ex)).l.p ((Ty.i IntKind.i64).p (Ty.s.p (Ty.i IntKind.i64))))))).l).l
abbrev T25 : Ty := (Ty.i IntKind.i64).l
abbrev T26 : Ty := (Ty.i IntKind.i64)
abbrev T34 : Ty := ((Ty.i IntKind.i64).p (Ty.b.p ((Ty.b.p (Ty.s.l.p (Ty.s.p (Ty.i IntKind.i64)))).l.p (((Ty.i IntKind.i64).p (Ty.ex.p Ty.ex)).l.p ((Ty.i IntKind.i64).p (Ty.s.p (Ty.i IntKind.i64))))))).l
abbrev T36 : Ty := (Ty.s.p ((Ty.i IntKind.i64).p (Ty.b.p ((Ty.b.p (Ty.s.l.p (Ty.s.p (Ty.i IntKind.i64)))).l.p (((Ty.i IntKind.i64).p (Ty.ex.p Ty.ex)).l.p ((Ty.i IntKind.i64).p (Ty.s.p (Ty.i IntKind.i64))))))).l)
abbrev T40 : Ty := (Ty.i IntKind.i64).l.l
abbrev T50 : Ty := (Ty.b.p (Ty.s.l.p (Ty.s.p (Ty.i IntKind.i64)))).l
abbrev T51 : Ty := ((Ty.i IntKind.i64).p (Ty.ex.p Ty.ex)).l
abbrev T53 : Ty := ((Ty.b.p (Ty.s.l.p (Ty.s.p (Ty.i IntKind.i64)))).l.p (((Ty.i IntKind.i64).p (Ty.ex.p Ty.ex)).l.p ((Ty.i IntKind.i64).p (Ty.s.p (Ty.i IntKind.i64)))))
abbrev T57 : Ty := ((Ty.i IntKind.i64).p (Ty.b.p ((Ty.b.p (Ty.s.l.p (Ty.s.p (Ty.i IntKind.i64)))).l.p (((Ty.i IntKind.i64).p (Ty.ex.p Ty.ex)).l.p ((Ty.i IntKind.i64).p (Ty.s.p (Ty.i IntKind.i64)))))))
abbrev T64 : Ty := Ty.s.l
abbrev T66 : Ty := (Ty.b.p (Ty.s.l.p (Ty.s.p (Ty.i IntKind.i64))))
abbrev T69 : Ty := (Ty.i IntKind.u64)
abbrev T70 : Ty := ((Ty.i IntKind.i64).p (Ty.s.p (Ty.i IntKind.i64))).l
abbrev T78 : Ty := ((Ty.i IntKind.i64).p (Ty.s.p (Ty.i IntKind.i64)))
abbrev T81 : Ty := ((Ty.i IntKind.i64).p ((Ty.i IntKind.i64).p Ty.s))
abbrev T84 : Ty := Ty.ex
abbrev T86 : Ty := ((Ty.i IntKind.i64).p (Ty.ex.p Ty.ex))
abbrev T105 : Ty := (Ty.i IntKind.u32)
abbrev T107 : Ty := (Ty.i IntKind.u64)

/-! ### f77 -/
abbrev I77 : List Sh := [.t T5]
abbrev O77 : List Sh := [.t T4]
noncomputable def c77 : Code := bodyOf Tryz.f77
noncomputable def Tf77 (k : Nat) : List (Nat × Spec) := []
theorem hT77 (k : Nat) : ∀ p, p ∈ Tf77 k → Snd C16 p.1 p.2 := hT_nil
noncomputable def F77 (k : Nat) : shsDen I77 → Option (shsDen O77 × shsDen (shsUpd I77)) := funF C16 (Tf77 k) [] 1000 Tryz.f77 I77 O77
theorem snd77 (k : Nat) : Snd C16 77 ⟨I77, O77, F77 k⟩ :=
  snd_def (c := c77) (by kernel_rfl) (by kernel_rfl) (by kernel_rfl) (hT77 k) 1000 I77 O77 (cs := []) (.nil) (by kernel_rfl)

/-! ### f79 -/
abbrev I79 : List Sh := [.t T5]
abbrev O79 : List Sh := [.t T4]
noncomputable def c79 : Code := bodyOf Tryz.f79
noncomputable def Tf79 (k : Nat) : List (Nat × Spec) := []
theorem hT79 (k : Nat) : ∀ p, p ∈ Tf79 k → Snd C16 p.1 p.2 := hT_nil
noncomputable def F79 (k : Nat) : shsDen I79 → Option (shsDen O79 × shsDen (shsUpd I79)) := funF C16 (Tf79 k) [] 1000 Tryz.f79 I79 O79
theorem snd79 (k : Nat) : Snd C16 79 ⟨I79, O79, F79 k⟩ :=
  snd_def (c := c79) (by kernel_rfl) (by kernel_rfl) (by kernel_rfl) (hT79 k) 1000 I79 O79 (cs := []) (.nil) (by kernel_rfl)

/-! ### f78 -/
abbrev I78 : List Sh := [.t T9]
abbrev O78 : List Sh := [.t T3]
noncomputable def c78 : Code := bodyOf Tryz.f78
noncomputable def Tf78 (k : Nat) : List (Nat × Spec) := [(77, ⟨I77, O77, F77 k⟩), (79, ⟨I79, O79, F79 k⟩)]
theorem hT78 (k : Nat) : ∀ p, p ∈ Tf78 k → Snd C16 p.1 p.2 := hT_cons (snd77 k) (hT_cons (snd79 k) (hT_nil))
noncomputable def c78_0 : Code := loopN c78 0
abbrev H78_0 : Slots := [(0, .t T9), (3, .t T3)]
abbrev X78_0 : List (PX × Slots) := [(.ex 0, [(3, .t T3)])]
noncomputable def E78_0 (k : Nat) : Nat → shsDen (H78_0.map (·.2)) → Option (XD X78_0) := loopF C16 Tryz.f78.ntmps (kpOf 0 I78) (Tf78 k) [] 1000 H78_0 X78_0 c78_0
noncomputable def L78_0 (k : Nat) : LSpec := ⟨H78_0, X78_0, E78_0 k k⟩
theorem Ls78_0 (k : Nat) : LSnd C16 Tryz.f78.ntmps (kpOf 0 I78) c78_0 (L78_0 k) :=
  lsnd_def (hT78 k) 1000 H78_0 X78_0 c78_0 (cs := []) (.nil) (by kernel_rfl) k
noncomputable def F78 (k : Nat) : shsDen I78 → Option (shsDen O78 × shsDen (shsUpd I78)) := funF C16 (Tf78 k) [(2, L78_0 k)] 1000 Tryz.f78 I78 O78
theorem snd78 (k : Nat) : Snd C16 78 ⟨I78, O78, F78 k⟩ :=
  snd_def (c := c78) (by kernel_rfl) (by kernel_rfl) (by kernel_rfl) (hT78 k) 1000 I78 O78 (cs := [c78_0]) (.cons _ _ 2 _ (by kernel_rfl) rfl (Ls78_0 k) (.nil)) (by kernel_rfl)

/-! ### f80 -/
abbrev I80 : List Sh := [.t T9]
abbrev O80 : List Sh := [.t T3]
noncomputable def c80 : Code := bodyOf Tryz.f80
noncomputable def Tf80 (k : Nat) : List (Nat × Spec) := [(79, ⟨I79, O79, F79 k⟩)]
theorem hT80 (k : Nat) : ∀ p, p ∈ Tf80 k → Snd C16 p.1 p.2 := hT_cons (snd79 k) (hT_nil)
noncomputable def c80_0 : Code := loopN c80 0
abbrev H80_0 : Slots := [(0, .t T9), (3, .t T3), (4, .t T3)]
abbrev X80_0 : List (PX × Slots) := [(.ex 0, [(0, .t T9), (3, .t T3), (4, .t T3)])]
noncomputable def E80_0 (k : Nat) : Nat → shsDen (H80_0.map (·.2)) → Option (XD X80_0) := loopF C16 Tryz.f80.ntmps (kpOf 0 I80) (Tf80 k) [] 1000 H80_0 X80_0 c80_0
noncomputable def L80_0 (k : Nat) : LSpec := ⟨H80_0, X80_0, E80_0 k k⟩
theorem Ls80_0 (k : Nat) : LSnd C16 Tryz.f80.ntmps (kpOf 0 I80) c80_0 (L80_0 k) :=
  lsnd_def (hT80 k) 1000 H80_0 X80_0 c80_0 (cs := []) (.nil) (by kernel_rfl) k
noncomputable def F80 (k : Nat) : shsDen I80 → Option (shsDen O80 × shsDen (shsUpd I80)) := funF C16 (Tf80 k) [(3, L80_0 k)] 1000 Tryz.f80 I80 O80
theorem snd80 (k : Nat) : Snd C16 80 ⟨I80, O80, F80 k⟩ :=
  snd_def (c := c80) (by kernel_rfl) (by kernel_rfl) (by kernel_rfl) (hT80 k) 1000 I80 O80 (cs := [c80_0]) (.cons _ _ 3 _ (by kernel_rfl) rfl (Ls80_0 k) (.nil)) (by kernel_rfl)

/-! ### f81 -/
abbrev I81 : List Sh := [.t T9]
abbrev O81 : List Sh := [.t T3]
noncomputable def c81 : Code := bodyOf Tryz.f81
noncomputable def Tf81 (k : Nat) : List (Nat × Spec) := []
theorem hT81 (k : Nat) : ∀ p, p ∈ Tf81 k → Snd C16 p.1 p.2 := hT_nil
noncomputable def c81_0 : Code := loopN c81 0
abbrev H81_0 : Slots := [(0, .t T9), (3, .t T3)]
abbrev X81_0 : List (PX × Slots) := [(.ex 0, []), (.rt, [(2, .t T3)])]
noncomputable def E81_0 (k : Nat) : Nat → shsDen (H81_0.map (·.2)) → Option (XD X81_0) := loopF C16 Tryz.f81.ntmps (kpOf 0 I81) (Tf81 k) [] 1000 H81_0 X81_0 c81_0
noncomputable def L81_0 (k : Nat) : LSpec := ⟨H81_0, X81_0, E81_0 k k⟩
theorem Ls81_0 (k : Nat) : LSnd C16 Tryz.f81.ntmps (kpOf 0 I81) c81_0 (L81_0 k) :=
  lsnd_def (hT81 k) 1000 H81_0 X81_0 c81_0 (cs := []) (.nil) (by kernel_rfl) k
noncomputable def F81 (k : Nat) : shsDen I81 → Option (shsDen O81 × shsDen (shsUpd I81)) := funF C16 (Tf81 k) [(2, L81_0 k)] 1000 Tryz.f81 I81 O81
theorem snd81 (k : Nat) : Snd C16 81 ⟨I81, O81, F81 k⟩ :=
  snd_def (c := c81) (by kernel_rfl) (by kernel_rfl) (by kernel_rfl) (hT81 k) 1000 I81 O81 (cs := [c81_0]) (.cons _ _ 2 _ (by kernel_rfl) rfl (Ls81_0 k) (.nil)) (by kernel_rfl)

/-! ### f82 -/
abbrev I82 : List Sh := [.t T9]
abbrev O82 : List Sh := [.t T3]
noncomputable def c82 : Code := bodyOf Tryz.f82
noncomputable def Tf82 (k : Nat) : List (Nat × Spec) := []
theorem hT82 (k : Nat) : ∀ p, p ∈ Tf82 k → Snd C16 p.1 p.2 := hT_nil
noncomputable def c82_0 : Code := loopN c82 0
abbrev H82_0 : Slots := [(0, .t T9), (3, .t T9), (4, .t T3)]
abbrev X82_0 : List (PX × Slots) := [(.ex 0, []), (.rt, [(2, .t T3)])]
noncomputable def E82_0 (k : Nat) : Nat → shsDen (H82_0.map (·.2)) → Option (XD X82_0) := loopF C16 Tryz.f82.ntmps (kpOf 0 I82) (Tf82 k) [] 1000 H82_0 X82_0 c82_0
noncomputable def L82_0 (k : Nat) : LSpec := ⟨H82_0, X82_0, E82_0 k k⟩
theorem Ls82_0 (k : Nat) : LSnd C16 Tryz.f82.ntmps (kpOf 0 I82) c82_0 (L82_0 k) :=
  lsnd_def (hT82 k) 1000 H82_0 X82_0 c82_0 (cs := []) (.nil) (by kernel_rfl) k
noncomputable def F82 (k : Nat) : shsDen I82 → Option (shsDen O82 × shsDen (shsUpd I82)) := funF C16 (Tf82 k) [(5, L82_0 k)] 1000 Tryz.f82 I82 O82
theorem snd82 (k : Nat) : Snd C16 82 ⟨I82, O82, F82 k⟩ :=
  snd_def (c := c82) (by kernel_rfl) (by kernel_rfl) (by kernel_rfl) (hT82 k) 1000 I82 O82 (cs := [c82_0]) (.cons _ _ 5 _ (by kernel_rfl) rfl (Ls82_0 k) (.nil)) (by kernel_rfl)

/-! ### f51 -/
abbrev I51 : List Sh := [.t T9]
abbrev O51 : List Sh := [.t T70, .t T26, .t T3]
noncomputable def c51 : Code := bodyOf Tryz.f51
noncomputable def Tf51 (k : Nat) : List (Nat × Spec) := [(77, ⟨I77, O77, F77 k⟩), (78, ⟨I78, O78, F78 k⟩), (79, ⟨I79, O79, F79 k⟩), (80, ⟨I80, O80, F80 k⟩), (81, ⟨I81, O81, F81 k⟩), (82, ⟨I82, O82, F82 k⟩)]
theorem hT51 (k : Nat) : ∀ p, p ∈ Tf51 k → Snd C16 p.1 p.2 := hT_cons (snd77 k) (hT_cons (snd78 k) (hT_cons (snd79 k) (hT_cons (snd80 k) (hT_cons (snd81 k) (hT_cons (snd82 k) (hT_nil))))))
noncomputable def c51_0 : Code := loopN c51 0
abbrev H51_0 : Slots := [(0, .t T9), (5, .row T78), (6, .t T3)]
abbrev X51_0 : List (PX × Slots) := [(.ex 0, [(5, .row T78)]), (.rt, [(2, .row T78), (3, .t T26), (4, .t T3)])]
noncomputable def E51_0 (k : Nat) : Nat → shsDen (H51_0.map (·.2)) → Option (XD X51_0) := loopF C16 Tryz.f51.ntmps (kpOf 0 I51) (Tf51 k) [] 1000 H51_0 X51_0 c51_0
noncomputable def L51_0 (k : Nat) : LSpec := ⟨H51_0, X51_0, E51_0 k k⟩
theorem Ls51_0 (k : Nat) : LSnd C16 Tryz.f51.ntmps (kpOf 0 I51) c51_0 (L51_0 k) :=
  lsnd_def (hT51 k) 1000 H51_0 X51_0 c51_0 (cs := []) (.nil) (by kernel_rfl) k
noncomputable def F51 (k : Nat) : shsDen I51 → Option (shsDen O51 × shsDen (shsUpd I51)) := funF C16 (Tf51 k) [(5, L51_0 k)] 1000 Tryz.f51 I51 O51
theorem snd51 (k : Nat) : Snd C16 51 ⟨I51, O51, F51 k⟩ :=
  snd_def (c := c51) (by kernel_rfl) (by kernel_rfl) (by kernel_rfl) (hT51 k) 1000 I51 O51 (cs := [c51_0]) (.cons _ _ 5 _ (by kernel_rfl) rfl (Ls51_0 k) (.nil)) (by kernel_rfl)

/-! ### f108 -/
abbrev I108 : List Sh := [.ptr [.t T70, .t T3, .t T4, .t T3], .t T3, .t T9]
abbrev O108 : List Sh := [.t T4]
noncomputable def c108 : Code := bodyOf Tryz.f108
noncomputable def Tf108 (k : Nat) : List (Nat × Spec) := []
theorem hT108 (k : Nat) : ∀ p, p ∈ Tf108 k → Snd C16 p.1 p.2 := hT_nil
noncomputable def F108 (k : Nat) : shsDen I108 → Option (shsDen O108 × shsDen (shsUpd I108)) := funF C16 (Tf108 k) [] 1000 Tryz.f108 I108 O108
theorem snd108 (k : Nat) : Snd C16 108 ⟨I108, O108, F108 k⟩ :=
  snd_def (c := c108) (by kernel_rfl) (by kernel_rfl) (by kernel_rfl) (hT108 k) 1000 I108 O108 (cs := []) (.nil) (by kernel_rfl)

/-! ### f85 -/
abbrev I85 : List Sh := [.ptr [.t T70, .t T3, .t T4, .t T3], .t T3, .t T9]
abbrev O85 : List Sh := [.t T4]
noncomputable def c85 : Code := bodyOf Tryz.f85
noncomputable def Tf85 (k : Nat) : List (Nat × Spec) := [(108, ⟨I108, O108, F108 k⟩)]
theorem hT85 (k : Nat) : ∀ p, p ∈ Tf85 k → Snd C16 p.1 p.2 := hT_cons (snd108 k) (hT_nil)
noncomputable def F85 (k : Nat) : shsDen I85 → Option (shsDen O85 × shsDen (shsUpd I85)) := funF C16 (Tf85 k) [] 1000 Tryz.f85 I85 O85
theorem snd85 (k : Nat) : Snd C16 85 ⟨I85, O85, F85 k⟩ :=
  snd_def (c := c85) (by kernel_rfl) (by kernel_rfl) (by kernel_rfl) (hT85 k) 1000 I85 O85 (cs := []) (.nil) (by kernel_rfl)

/-! ### f90 -/
abbrev I90 : List Sh := [.ptr [.t T70, .t T3, .t T4, .t T3]]
abbrev O90 : List Sh := []
noncomputable def c90 : Code := bodyOf Tryz.f90
noncomputable def Tf90 (k : Nat) : List (Nat × Spec) := []
theorem hT90 (k : Nat) : ∀ p, p ∈ Tf90 k → Snd C16 p.1 p.2 := hT_nil
noncomputable def F90 (k : Nat) : shsDen I90 → Option (shsDen O90 × shsDen (shsUpd I90)) := funF C16 (Tf90 k) [] 1000 Tryz.f90 I90 O90
theorem snd90 (k : Nat) : Snd C16 90 ⟨I90, O90, F90 k⟩ :=
  snd_def (c := c90) (by kernel_rfl) (by kernel_rfl) (by kernel_rfl) (hT90 k) 1000 I90 O90 (cs := []) (.nil) (by kernel_rfl)

/-! ### f83 -/
abbrev I83 : List Sh := [.ptr [.t T70, .t T3, .t T4, .t T3], .t T3, .t T9]
abbrev O83 : List Sh := []
noncomputable def c83 : Code := bodyOf Tryz.f83
noncomputable def Tf83 (k : Nat) : List (Nat × Spec) := [(85, ⟨I85, O85, F85 k⟩), (90, ⟨I90, O90, F90 k⟩)]
theorem hT83 (k : Nat) : ∀ p, p ∈ Tf83 k → Snd C16 p.1 p.2 := hT_cons (snd85 k) (hT_cons (snd90 k) (hT_nil))
noncomputable def F83 (k : Nat) : shsDen I83 → Option (shsDen O83 × shsDen (shsUpd I83)) := funF C16 (Tf83 k) [] 1000 Tryz.f83 I83 O83
theorem snd83 (k : Nat) : Snd C16 83 ⟨I83, O83, F83 k⟩ :=
  snd_def (c := c83) (by kernel_rfl) (by kernel_rfl) (by kernel_rfl) (hT83 k) 1000 I83 O83 (cs := []) (.nil) (by kernel_rfl)

/-! ### f42 -/
abbrev I42 : List Sh := [.t T9]
abbrev O42 : List Sh := [.t T4]
noncomputable def c42 : Code := bodyOf Tryz.f42
noncomputable def Tf42 (k : Nat) : List (Nat × Spec) := []
theorem hT42 (k : Nat) : ∀ p, p ∈ Tf42 k → Snd C16 p.1 p.2 := hT_nil
noncomputable def c42_0 : Code := loopN c42 0
abbrev H42_0 : Slots := [(0, .t T9), (3, .t T3)]
abbrev X42_0 : List (PX × Slots) := [(.ex 0, [(0, .t T9)]), (.rt, [(2, .t T4)])]
noncomputable def E42_0 (k : Nat) : Nat → shsDen (H42_0.map (·.2)) → Option (XD X42_0) := loopF C16 Tryz.f42.ntmps (kpOf 0 I42) (Tf42 k) [] 1000 H42_0 X42_0 c42_0
noncomputable def L42_0 (k : Nat) : LSpec := ⟨H42_0, X42_0, E42_0 k k⟩
theorem Ls42_0 (k : Nat) : LSnd C16 Tryz.f42.ntmps (kpOf 0 I42) c42_0 (L42_0 k) :=
  lsnd_def (hT42 k) 1000 H42_0 X42_0 c42_0 (cs := []) (.nil) (by kernel_rfl) k
noncomputable def F42 (k : Nat) : shsDen I42 → Option (shsDen O42 × shsDen (shsUpd I42)) := funF C16 (Tf42 k) [(2, L42_0 k)] 1000 Tryz.f42 I42 O42
theorem snd42 (k : Nat) : Snd C16 42 ⟨I42, O42, F42 k⟩ :=
  snd_def (c := c42) (by kernel_rfl) (by kernel_rfl) (by kernel_rfl) (hT42 k) 1000 I42 O42 (cs := [c42_0]) (.cons _ _ 2 _ (by kernel_rfl) rfl (Ls42_0 k) (.nil)) (by kernel_rfl)

/-! ### f43 -/
abbrev I43 : List Sh := [.t T9]
abbrev O43 : List Sh := [.t T4]
noncomputable def c43 : Code := bodyOf Tryz.f43
noncomputable def Tf43 (k : Nat) : List (Nat × Spec) := []
theorem hT43 (k : Nat) : ∀ p, p ∈ Tf43 k → Snd C16 p.1 p.2 := hT_nil
noncomputable def c43_0 : Code := loopN c43 0
abbrev H43_0 : Slots := [(0, .t T9), (3, .row T9), (4, .t T3)]
abbrev X43_0 : List (PX × Slots) := [(.ex 0, []), (.rt, [(2, .t T4)])]
noncomputable def E43_0 (k : Nat) : Nat → shsDen (H43_0.map (·.2)) → Option (XD X43_0) := loopF C16 Tryz.f43.ntmps (kpOf 0 I43) (Tf43 k) [] 1000 H43_0 X43_0 c43_0
noncomputable def L43_0 (k : Nat) : LSpec := ⟨H43_0, X43_0, E43_0 k k⟩
theorem Ls43_0 (k : Nat) : LSnd C16 Tryz.f43.ntmps (kpOf 0 I43) c43_0 (L43_0 k) :=
  lsnd_def (hT43 k) 1000 H43_0 X43_0 c43_0 (cs := []) (.nil) (by kernel_rfl) k
noncomputable def F43 (k : Nat) : shsDen I43 → Option (shsDen O43 × shsDen (shsUpd I43)) := funF C16 (Tf43 k) [(3, L43_0 k)] 1000 Tryz.f43 I43 O43
theorem snd43 (k : Nat) : Snd C16 43 ⟨I43, O43, F43 k⟩ :=
  snd_def (c := c43) (by kernel_rfl) (by kernel_rfl) (by kernel_rfl) (hT43 k) 1000 I43 O43 (cs := [c43_0]) (.cons _ _ 3 _ (by kernel_rfl) rfl (Ls43_0 k) (.nil)) (by kernel_rfl)

/-! ### f29 -/
abbrev I29 : List Sh := [.t T9]
abbrev O29 : List Sh := [.t T4]
noncomputable def c29 : Code := bodyOf Tryz.f29
noncomputable def Tf29 (k : Nat) : List (Nat × Spec) := [(42, ⟨I42, O42, F42 k⟩), (43, ⟨I43, O43, F43 k⟩)]
theorem hT29 (k : Nat) : ∀ p, p ∈ Tf29 k → Snd C16 p.1 p.2 := hT_cons (snd42 k) (hT_cons (snd43 k) (hT_nil))
noncomputable def F29 (k : Nat) : shsDen I29 → Option (shsDen O29 × shsDen (shsUpd I29)) := funF C16 (Tf29 k) [] 1000 Tryz.f29 I29 O29
theorem snd29 (k : Nat) : Snd C16 29 ⟨I29, O29, F29 k⟩ :=
  snd_def (c := c29) (by kernel_rfl) (by kernel_rfl) (by kernel_rfl) (hT29 k) 1000 I29 O29 (cs := []) (.nil) (by kernel_rfl)

/-! ### f111 -/
abbrev I111 : List Sh := [.ptr [.t T70, .t T3, .t T4, .t T3]]
abbrev O111 : List Sh := [.t T4]
noncomputable def c111 : Code := bodyOf Tryz.f111
noncomputable def Tf111 (k : Nat) : List (Nat × Spec) := [(29, ⟨I29, O29, F29 k⟩)]
theorem hT111 (k : Nat) : ∀ p, p ∈ Tf111 k → Snd C16 p.1 p.2 := hT_cons (snd29 k) (hT_nil)
noncomputable def F111 (k : Nat) : shsDen I111 → Option (shsDen O111 × shsDen (shsUpd I111)) := funF C16 (Tf111 k) [] 1000 Tryz.f111 I111 O111
theorem snd111 (k : Nat) : Snd C16 111 ⟨I111, O111, F111 k⟩ :=
  snd_def (c := c111) (by kernel_rfl) (by kernel_rfl) (by kernel_rfl) (hT111 k) 1000 I111 O111 (cs := []) (.nil) (by kernel_rfl)

/-! ### f88 -/
abbrev I88 : List Sh := [.ptr [.t T70, .t T3, .t T4, .t T3]]
abbrev O88 : List Sh := [.t T9]
noncomputable def c88 : Code := bodyOf Tryz.f88
noncomputable def Tf88 (k : Nat) : List (Nat × Spec) := [(111, ⟨I111, O111, F111 k⟩), (90, ⟨I90, O90, F90 k⟩)]
theorem hT88 (k : Nat) : ∀ p, p ∈ Tf88 k → Snd C16 p.1 p.2 := hT_cons (snd111 k) (hT_cons (snd90 k) (hT_nil))
noncomputable def F88 (k : Nat) : shsDen I88 → Option (shsDen O88 × shsDen (shsUpd I88)) := funF C16 (Tf88 k) [] 1000 Tryz.f88 I88 O88
theorem snd88 (k : Nat) : Snd C16 88 ⟨I88, O88, F88 k⟩ :=
  snd_def (c := c88) (by kernel_rfl) (by kernel_rfl) (by kernel_rfl) (hT88 k) 1000 I88 O88 (cs := []) (.nil) (by kernel_rfl)

/-! ### f84 -/
abbrev I84 : List Sh := [.ptr [.t T70, .t T3, .t T4, .t T3]]
abbrev O84 : List Sh := [.t T66]
noncomputable def c84 : Code := bodyOf Tryz.f84
noncomputable def Tf84 (k : Nat) : List (Nat × Spec) := [(85, ⟨I85, O85, F85 k⟩), (88, ⟨I88, O88, F88 k⟩)]
theorem hT84 (k : Nat) : ∀ p, p ∈ Tf84 k → Snd C16 p.1 p.2 := hT_cons (snd85 k) (hT_cons (snd88 k) (hT_nil))
noncomputable def c84_0 : Code := loopN c84 0
abbrev H84_0 : Slots := [(0, .ptr [.t T70, .t T3, .t T4, .t T3]), (2, .ptr [.t T66]), (3, .ptr [.t T4, .row T9, .t T9, .t T3]), (4, .t T4)]
abbrev X84_0 : List (PX × Slots) := [(.ex 0, [(0, .ptr [.t T70, .t T3, .t T4, .t T3]), (2, .ptr [.t T66]), (3, .ptr [.t T4, .row T9, .t T9, .t T3])])]
noncomputable def E84_0 (k : Nat) : Nat → shsDen (H84_0.map (·.2)) → Option (XD X84_0) := loopF C16 Tryz.f84.ntmps (kpOf 0 I84) (Tf84 k) [] 1000 H84_0 X84_0 c84_0
noncomputable def L84_0 (k : Nat) : LSpec := ⟨H84_0, X84_0, E84_0 k k⟩
theorem Ls84_0 (k : Nat) : LSnd C16 Tryz.f84.ntmps (kpOf 0 I84) c84_0 (L84_0 k) :=
  lsnd_def (hT84 k) 1000 H84_0 X84_0 c84_0 (cs := []) (.nil) (by kernel_rfl) k
noncomputable def F84 (k : Nat) : shsDen I84 → Option (shsDen O84 × shsDen (shsUpd I84)) := funF C16 (Tf84 k) [(4, L84_0 k)] 1000 Tryz.f84 I84 O84
theorem snd84 (k : Nat) : Snd C16 84 ⟨I84, O84, F84 k⟩ :=
  snd_def (c := c84) (by kernel_rfl) (by kernel_rfl) (by kernel_rfl) (hT84 k) 1000 I84 O84 (cs := [c84_0]) (.cons _ _ 4 _ (by kernel_rfl) rfl (Ls84_0 k) (.nil)) (by kernel_rfl)

/-! ### f87 -/
abbrev I87 : List Sh := [.ptr [.t T70, .t T3, .t T4, .t T3]]
abbrev O87 : List Sh := [.t T2]
noncomputable def c87 : Code := bodyOf Tryz.f87
noncomputable def Tf87 (k : Nat) : List (Nat × Spec) := [(90, ⟨I90, O90, F90 k⟩)]
theorem hT87 (k : Nat) : ∀ p, p ∈ Tf87 k → Snd C16 p.1 p.2 := hT_cons (snd90 k) (hT_nil)
noncomputable def c87_0 : Code := loopN c87 0
abbrev H87_0 : Slots := [(0, .ptr [.t T70, .t T3, .t T4, .t T3]), (3, .t T2), (4, .t T9), (5, .t T3)]
abbrev X87_0 : List (PX × Slots) := [(.ex 0, [(0, .ptr [.t T70, .t T3, .t T4, .t T3]), (3, .t T2)])]
noncomputable def E87_0 (k : Nat) : Nat → shsDen (H87_0.map (·.2)) → Option (XD X87_0) := loopF C16 Tryz.f87.ntmps (kpOf 0 I87) (Tf87 k) [] 1000 H87_0 X87_0 c87_0
noncomputable def L87_0 (k : Nat) : LSpec := ⟨H87_0, X87_0, E87_0 k k⟩
theorem Ls87_0 (k : Nat) : LSnd C16 Tryz.f87.ntmps (kpOf 0 I87) c87_0 (L87_0 k) :=
  lsnd_def (hT87 k) 1000 H87_0 X87_0 c87_0 (cs := []) (.nil) (by kernel_rfl) k
noncomputable def F87 (k : Nat) : shsDen I87 → Option (shsDen O87 × shsDen (shsUpd I87)) := funF C16 (Tf87 k) [(7, L87_0 k)] 1000 Tryz.f87 I87 O87
theorem snd87 (k : Nat) : Snd C16 87 ⟨I87, O87, F87 k⟩ :=
  snd_def (c := c87) (by kernel_rfl) (by kernel_rfl) (by kernel_rfl) (hT87 k) 1000 I87 O87 (cs := [c87_0]) (.cons _ _ 7 _ (by kernel_rfl) rfl (Ls87_0 k) (.nil)) (by kernel_rfl)

/-! ### f125 -/
abbrev I125 : List Sh := [.t T3]
abbrev O125 : List Sh := [.t T9]
noncomputable def c125 : Code := bodyOf Tryz.f125
noncomputable def Tf125 (k : Nat) : List (Nat × Spec) := []
theorem hT125 (k : Nat) : ∀ p, p ∈ Tf125 k → Snd C16 p.1 p.2 := hT_nil
noncomputable def F125 (k : Nat) : shsDen I125 → Option (shsDen O125 × shsDen (shsUpd I125)) := funF C16 (Tf125 k) [] 1000 Tryz.f125 I125 O125
theorem snd125 (k : Nat) : Snd C16 125 ⟨I125, O125, F125 k⟩ :=
  snd_def (c := c125) (by kernel_rfl) (by kernel_rfl) (by kernel_rfl) (hT125 k) 1000 I125 O125 (cs := []) (.nil) (by kernel_rfl)

/-! ### f126 -/
abbrev I126 : List Sh := [.ptr [.t T70, .t T3, .t T4, .t T3], .t T3]
abbrev O126 : List Sh := [.t T84]
noncomputable def c126 : Code := bodyOf Tryz.f126
noncomputable def Tf126 (k : Nat) : List (Nat × Spec) := [(88, ⟨I88, O88, F88 k⟩), (83, ⟨I83, O83, F83 k⟩)]
theorem hT126 (k : Nat) : ∀ p, p ∈ Tf126 k → Snd C16 p.1 p.2 := hT_cons (snd88 k) (hT_cons (snd83 k) (hT_nil))
noncomputable def F126 (k : Nat) : shsDen I126 → Option (shsDen O126 × shsDen (shsUpd I126)) := funF C16 (Tf126 k) [] 1000 Tryz.f126 I126 O126
theorem snd126 (k : Nat) : Snd C16 126 ⟨I126, O126, F126 k⟩ :=
  snd_def (c := c126) (by kernel_rfl) (by kernel_rfl) (by kernel_rfl) (hT126 k) 1000 I126 O126 (cs := []) (.nil) (by kernel_rfl)
abbrev I109 : List Sh := [.ptr [.t T70, .t T3, .t T4, .t T3]]
abbrev O109 : List Sh := [.t T84]

/-! ### f122 -/
abbrev I122 : List Sh := [.ptr [.t T70, .t T3, .t T4, .t T3]]
abbrev O122 : List Sh := [.t T84]
noncomputable def c122 : Code := bodyOf Tryz.f122
noncomputable def Tf122 (k : Nat) (s109 : shsDen I109 → Option (shsDen O109 × shsDen (shsUpd I109))) : List (Nat × Spec) := [(90, ⟨I90, O90, F90 k⟩), (87, ⟨I87, O87, F87 k⟩), (85, ⟨I85, O85, F85 k⟩), (83, ⟨I83, O83, F83 k⟩), (88, ⟨I88, O88, F88 k⟩), (125, ⟨I125, O125, F125 k⟩), (126, ⟨I126, O126, F126 k⟩), (108, ⟨I108, O108, F108 k⟩), (109, ⟨I109, O109, s109⟩)]
theorem hT122 (k : Nat) (s109 : shsDen I109 → Option (shsDen O109 × shsDen (shsUpd I109))) (h109 : Snd C16 109 ⟨I109, O109, s109⟩) : ∀ p, p ∈ Tf122 k s109 → Snd C16 p.1 p.2 := hT_cons (snd90 k) (hT_cons (snd87 k) (hT_cons (snd85 k) (hT_cons (snd83 k) (hT_cons (snd88 k) (hT_cons (snd125 k) (hT_cons (snd126 k) (hT_cons (snd108 k) (hT_cons h109 (hT_nil)))))))))
noncomputable def c122_0 : Code := loopN c122 0
abbrev H122_0 : Slots := [(0, .ptr [.t T70, .t T3, .t T4, .t T3]), (2, .ptr [.t T84]), (7, .t T3)]
abbrev X122_0 : List (PX × Slots) := [(.ex 0, [(0, .ptr [.t T70, .t T3, .t T4, .t T3]), (2, .ptr [.t T84])]), (.rt, [(0, .ptr [.t T70, .t T3, .t T4, .t T3]), (2, .ptr [.t T84])])]
noncomputable def E122_0 (k : Nat) (s109 : shsDen I109 → Option (shsDen O109 × shsDen (shsUpd I109))) : Nat → shsDen (H122_0.map (·.2)) → Option (XD X122_0) := loopF C16 Tryz.f122.ntmps (kpOf 0 I122) (Tf122 k s109) [] 1000 H122_0 X122_0 c122_0
noncomputable def L122_0 (k : Nat) (s109 : shsDen I109 → Option (shsDen O109 × shsDen (shsUpd I109))) : LSpec := ⟨H122_0, X122_0, E122_0 k s109 k⟩
theorem Ls122_0 (k : Nat) (s109 : shsDen I109 → Option (shsDen O109 × shsDen (shsUpd I109))) (h109 : Snd C16 109 ⟨I109, O109, s109⟩) : LSnd C16 Tryz.f122.ntmps (kpOf 0 I122) c122_0 (L122_0 k s109) :=
  lsnd_def (hT122 k s109 h109) 1000 H122_0 X122_0 c122_0 (cs := []) (.nil) (by kernel_rfl) k
noncomputable def G122 (k : Nat) (s109 : shsDen I109 → Option (shsDen O109 × shsDen (shsUpd I109))) : shsDen I122 → Option (shsDen O122 × shsDen (shsUpd I122)) := funF C16 (Tf122 k s109) [(24, L122_0 k s109)] 1000 Tryz.f122 I122 O122
theorem sndG122 (k : Nat) (s109 : shsDen I109 → Option (shsDen O109 × shsDen (shsUpd I109))) (h109 : Snd C16 109 ⟨I109, O109, s109⟩) : Snd C16 122 ⟨I122, O122, G122 k s109⟩ :=
  snd_def (c := c122) (by kernel_rfl) (by kernel_rfl) (by kernel_rfl) (hT122 k s109 h109) 1000 I122 O122 (cs := [c122_0]) (.cons _ _ 24 _ (by kernel_rfl) rfl (Ls122_0 k s109 h109) (.nil)) (by kernel_rfl)

/-! ### f109 -/
noncomputable def c109 : Code := bodyOf Tryz.f109
noncomputable def Tf109 (k : Nat) (s109 : shsDen I109 → Option (shsDen O109 × shsDen (shsUpd I109))) : List (Nat × Spec) := [(122, ⟨I122, O122, G122 k s109⟩), (85, ⟨I85, O85, F85 k⟩)]
theorem hT109 (k : Nat) (s109 : shsDen I109 → Option (shsDen O109 × shsDen (shsUpd I109))) (h109 : Snd C16 109 ⟨I109, O109, s109⟩) : ∀ p, p ∈ Tf109 k s109 → Snd C16 p.1 p.2 := hT_cons (sndG122 k s109 h109) (hT_cons (snd85 k) (hT_nil))
noncomputable def c109_0 : Code := loopN c109 0
abbrev H109_0 : Slots := [(0, .ptr [.t T70, .t T3, .t T4, .t T3]), (2, .ptr [.t T84]), (3, .ptr [.t T84])]
abbrev X109_0 : List (PX × Slots) := [(.ex 0, [(0, .ptr [.t T70, .t T3, .t T4, .t T3]), (2, .ptr [.t T84]), (3, .ptr [.t T84])])]
noncomputable def E109_0 (k : Nat) (s109 : shsDen I109 → Option (shsDen O109 × shsDen (shsUpd I109))) : Nat → shsDen (H109_0.map (·.2)) → Option (XD X109_0) := loopF C16 Tryz.f109.ntmps (kpOf 0 I109) (Tf109 k s109) [] 1000 H109_0 X109_0 c109_0
noncomputable def L109_0 (k : Nat) (s109 : shsDen I109 → Option (shsDen O109 × shsDen (shsUpd I109))) : LSpec := ⟨H109_0, X109_0, E109_0 k s109 k⟩
theorem Ls109_0 (k : Nat) (s109 : shsDen I109 → Option (shsDen O109 × shsDen (shsUpd I109))) (h109 : Snd C16 109 ⟨I109, O109, s109⟩) : LSnd C16 Tryz.f109.ntmps (kpOf 0 I109) c109_0 (L109_0 k s109) :=
  lsnd_def (hT109 k s109 h109) 1000 H109_0 X109_0 c109_0 (cs := []) (.nil) (by kernel_rfl) k
noncomputable def G109 (k : Nat) (s109 : shsDen I109 → Option (shsDen O109 × shsDen (shsUpd I109))) : shsDen I109 → Option (shsDen O109 × shsDen (shsUpd I109)) := funF C16 (Tf109 k s109) [(2, L109_0 k s109)] 1000 Tryz.f109 I109 O109
theorem sndG109 (k : Nat) (s109 : shsDen I109 → Option (shsDen O109 × shsDen (shsUpd I109))) (h109 : Snd C16 109 ⟨I109, O109, s109⟩) : Snd C16 109 ⟨I109, O109, G109 k s109⟩ :=
  snd_def (c := c109) (by kernel_rfl) (by kernel_rfl) (by kernel_rfl) (hT109 k s109 h109) 1000 I109 O109 (cs := [c109_0]) (.cons _ _ 2 _ (by kernel_rfl) rfl (Ls109_0 k s109 h109) (.nil)) (by kernel_rfl)
noncomputable def R109 (k : Nat) : Nat → shsDen I109 → Option (shsDen O109 × shsDen (shsUpd I109))
  | 0 => fun _ => none
  | d + 1 => G109 k (R109 k d)
theorem sndR109 (k : Nat) : ∀ d, Snd C16 109 ⟨I109, O109, R109 k d⟩
  | 0 => snd_none (enter_of (fn := Tryz.f109) (c := c109) (by kernel_rfl) (by kernel_rfl) (by kernel_rfl))
  | d + 1 => sndG109 k _ (sndR109 k d)
noncomputable def F109 (k : Nat) : shsDen I109 → Option (shsDen O109 × shsDen (shsUpd I109)) := R109 k k
theorem snd109 (k : Nat) : Snd C16 109 ⟨I109, O109, F109 k⟩ := sndR109 k k

/-! ### f110 -/
abbrev I110 : List Sh := [.t T3]
abbrev O110 : List Sh := [.t T9]
noncomputable def c110 : Code := bodyOf Tryz.f110
noncomputable def Tf110 (k : Nat) : List (Nat × Spec) := []
theorem hT110 (k : Nat) : ∀ p, p ∈ Tf110 k → Snd C16 p.1 p.2 := hT_nil
noncomputable def F110 (k : Nat) : shsDen I110 → Option (shsDen O110 × shsDen (shsUpd I110)) := funF C16 (Tf110 k) [] 1000 Tryz.f110 I110 O110
theorem snd110 (k : Nat) : Snd C16 110 ⟨I110, O110, F110 k⟩ :=
  snd_def (c := c110) (by kernel_rfl) (by kernel_rfl) (by kernel_rfl) (hT110 k) 1000 I110 O110 (cs := []) (.nil) (by kernel_rfl)

/-! ### f86 -/
abbrev I86 : List Sh := [.ptr [.t T70, .t T3, .t T4, .t T3]]
abbrev O86 : List Sh := [.t T86]
noncomputable def c86 : Code := bodyOf Tryz.f86
noncomputable def Tf86 (k : Nat) : List (Nat × Spec) := [(109, ⟨I109, O109, F109 k⟩), (110, ⟨I110, O110, F110 k⟩), (85, ⟨I85, O85, F85 k⟩), (90, ⟨I90, O90, F90 k⟩)]
theorem hT86 (k : Nat) : ∀ p, p ∈ Tf86 k → Snd C16 p.1 p.2 := hT_cons (snd109 k) (hT_cons (snd110 k) (hT_cons (snd85 k) (hT_cons (snd90 k) (hT_nil))))
noncomputable def c86_0 : Code := loopN c86 0
abbrev H86_0 : Slots := [(0, .ptr [.t T70, .t T3, .t T4, .t T3]), (2, .ptr [.t T86]), (3, .ptr [.t T86]), (4, .t T3)]
abbrev X86_0 : List (PX × Slots) := [(.ex 0, [(0, .ptr [.t T70, .t T3, .t T4, .t T3]), (2, .ptr [.t T86]), (3, .ptr [.t T86])])]
noncomputable def E86_0 (k : Nat) : Nat → shsDen (H86_0.map (·.2)) → Option (XD X86_0) := loopF C16 Tryz.f86.ntmps (kpOf 0 I86) (Tf86 k) [] 1000 H86_0 X86_0 c86_0
noncomputable def L86_0 (k : Nat) : LSpec := ⟨H86_0, X86_0, E86_0 k k⟩
theorem Ls86_0 (k : Nat) : LSnd C16 Tryz.f86.ntmps (kpOf 0 I86) c86_0 (L86_0 k) :=
  lsnd_def (hT86 k) 1000 H86_0 X86_0 c86_0 (cs := []) (.nil) (by kernel_rfl) k
noncomputable def F86 (k : Nat) : shsDen I86 → Option (shsDen O86 × shsDen (shsUpd I86)) := funF C16 (Tf86 k) [(4, L86_0 k)] 1000 Tryz.f86 I86 O86
theorem snd86 (k : Nat) : Snd C16 86 ⟨I86, O86, F86 k⟩ :=
  snd_def (c := c86) (by kernel_rfl) (by kernel_rfl) (by kernel_rfl) (hT86 k) 1000 I86 O86 (cs := [c86_0]) (.cons _ _ 4 _ (by kernel_rfl) rfl (Ls86_0 k) (.nil)) (by kernel_rfl)

/-! ### f89 -/
abbrev I89 : List Sh := [.t T3]
abbrev O89 : List Sh := [.t T9]
noncomputable def c89 : Code := bodyOf Tryz.f89
noncomputable def Tf89 (k : Nat) : List (Nat × Spec) := []
theorem hT89 (k : Nat) : ∀ p, p ∈ Tf89 k → Snd C16 p.1 p.2 := hT_nil
noncomputable def F89 (k : Nat) : shsDen I89 → Option (shsDen O89 × shsDen (shsUpd I89)) := funF C16 (Tf89 k) [] 1000 Tryz.f89 I89 O89
theorem snd89 (k : Nat) : Snd C16 89 ⟨I89, O89, F89 k⟩ :=
  snd_def (c := c89) (by kernel_rfl) (by kernel_rfl) (by kernel_rfl) (hT89 k) 1000 I89 O89 (cs := []) (.nil) (by kernel_rfl)

/-! ### f52 -/
abbrev I52 : List Sh := [.ptr [.t T70, .t T3, .t T4, .t T3]]
abbrev O52 : List Sh := [.t T53]
noncomputable def c52 : Code := bodyOf Tryz.f52
noncomputable def Tf52 (k : Nat) : List (Nat × Spec) := [(83, ⟨I83, O83, F83 k⟩), (84, ⟨I84, O84, F84 k⟩), (85, ⟨I85, O85, F85 k⟩), (86, ⟨I86, O86, F86 k⟩), (87, ⟨I87, O87, F87 k⟩), (88, ⟨I88, O88, F88 k⟩), (89, ⟨I89, O89, F89 k⟩), (90, ⟨I90, O90, F90 k⟩)]
theorem hT52 (k : Nat) : ∀ p, p ∈ Tf52 k → Snd C16 p.1 p.2 := hT_cons (snd83 k) (hT_cons (snd84 k) (hT_cons (snd85 k) (hT_cons (snd86 k) (hT_cons (snd87 k) (hT_cons (snd88 k) (hT_cons (snd89 k) (hT_cons (snd90 k) (hT_nil))))))))
noncomputable def c52_0 : Code := loopN c52 0
abbrev H52_0 : Slots := [(0, .ptr [.t T70, .t T3, .t T4, .t T3]), (2, .ptr [.t T53]), (3, .ptr [.row T66, .row T86, .t T2, .t T9, .t T3]), (4, .t T4)]
abbrev X52_0 : List (PX × Slots) := [(.ex 0, [(0, .ptr [.t T70, .t T3, .t T4, .t T3]), (2, .ptr [.t T53]), (3, .ptr [.row T66, .row T86, .t T2, .t T9, .t T3])])]
noncomputable def E52_0 (k : Nat) : Nat → shsDen (H52_0.map (·.2)) → Option (XD X52_0) := loopF C16 Tryz.f52.ntmps (kpOf 0 I52) (Tf52 k) [] 1000 H52_0 X52_0 c52_0
noncomputable def L52_0 (k : Nat) : LSpec := ⟨H52_0, X52_0, E52_0 k k⟩
theorem Ls52_0 (k : Nat) : LSnd C16 Tryz.f52.ntmps (kpOf 0 I52) c52_0 (L52_0 k) :=
  lsnd_def (hT52 k) 1000 H52_0 X52_0 c52_0 (cs := []) (.nil) (by kernel_rfl) k
noncomputable def c52_1 : Code := loopN c52 1
abbrev H52_1 : Slots := [(0, .ptr [.t T70, .t T3, .t T4, .t T3]), (2, .ptr [.t T53]), (3, .ptr [.row T66, .row T86, .t T2, .t T9, .t T3]), (6, .t T4)]
abbrev X52_1 : List (PX × Slots) := [(.ex 2, [(0, .ptr [.t T70, .t T3, .t T4, .t T3]), (2, .ptr [.t T53]), (3, .ptr [.row T66, .row T86, .t T2, .t T9, .t T3])])]
noncomputable def E52_1 (k : Nat) : Nat → shsDen (H52_1.map (·.2)) → Option (XD X52_1) := loopF C16 Tryz.f52.ntmps (kpOf 0 I52) (Tf52 k) [] 1000 H52_1 X52_1 c52_1
noncomputable def L52_1 (k : Nat) : LSpec := ⟨H52_1, X52_1, E52_1 k k⟩
theorem Ls52_1 (k : Nat) : LSnd C16 Tryz.f52.ntmps (kpOf 0 I52) c52_1 (L52_1 k) :=
  lsnd_def (hT52 k) 1000 H52_1 X52_1 c52_1 (cs := []) (.nil) (by kernel_rfl) k
noncomputable def c52_2 : Code := loopN c52 2
abbrev H52_2 : Slots := [(0, .ptr [.t T70, .t T3, .t T4, .t T3]), (2, .ptr [.t T53]), (3, .ptr [.row T66, .row T86, .t T2, .t T9, .t T3]), (8, .t T3)]
abbrev X52_2 : List (PX × Slots) := [(.ex 4, [(0, .ptr [.t T70, .t T3, .t T4, .t T3]), (2, .ptr [.t T53]), (3, .ptr [.row T66, .row T86, .t T2, .t T9, .t T3])])]
noncomputable def E52_2 (k : Nat) : Nat → shsDen (H52_2.map (·.2)) → Option (XD X52_2) := loopF C16 Tryz.f52.ntmps (kpOf 0 I52) (Tf52 k) [] 1000 H52_2 X52_2 c52_2
noncomputable def L52_2 (k : Nat) : LSpec := ⟨H52_2, X52_2, E52_2 k k⟩
theorem Ls52_2 (k : Nat) : LSnd C16 Tryz.f52.ntmps (kpOf 0 I52) c52_2 (L52_2 k) :=
  lsnd_def (hT52 k) 1000 H52_2 X52_2 c52_2 (cs := []) (.nil) (by kernel_rfl) k
noncomputable def F52 (k : Nat) : shsDen I52 → Option (shsDen O52 × shsDen (shsUpd I52)) := funF C16 (Tf52 k) [(4, L52_0 k), (9, L52_1 k), (20, L52_2 k)] 1000 Tryz.f52 I52 O52
theorem snd52 (k : Nat) : Snd C16 52 ⟨I52, O52, F52 k⟩ :=
  snd_def (c := c52) (by kernel_rfl) (by kernel_rfl) (by kernel_rfl) (hT52 k) 1000 I52 O52 (cs := [c52_0, c52_1, c52_2]) (.cons _ _ 4 _ (by kernel_rfl) rfl (Ls52_0 k) (.cons _ _ 9 _ (by kernel_rfl) rfl (Ls52_1 k) (.cons _ _ 20 _ (by kernel_rfl) rfl (Ls52_2 k) (.nil)))) (by kernel_rfl)

/-! ### f91 -/
abbrev I91 : List Sh := [.t T66, .t T4]
abbrev O91 : List Sh := [.t T4]
noncomputable def c91 : Code := bodyOf Tryz.f91
noncomputable def Tf91 (k : Nat) : List (Nat × Spec) := [(29, ⟨I29, O29, F29 k⟩)]
theorem hT91 (k : Nat) : ∀ p, p ∈ Tf91 k → Snd C16 p.1 p.2 := hT_cons (snd29 k) (hT_nil)
noncomputable def c91_0 : Code := loopN c91 0
noncomputable def c91_0_0 : Code := loopN c91_0 0
abbrev H91_0_0 : Slots := [(1, .t T4), (2, .ptr [.t T66]), (5, .t T3), (6, .t T3)]
abbrev X91_0_0 : List (PX × Slots) := [(.ex 2, [(1, .t T4), (2, .ptr [.t T66]), (5, .t T3)]), (.rt, [(4, .t T4)])]
noncomputable def E91_0_0 (k : Nat) : Nat → shsDen (H91_0_0.map (·.2)) → Option (XD X91_0_0) := loopF C16 Tryz.f91.ntmps (kpOf 0 I91) (Tf91 k) [] 1000 H91_0_0 X91_0_0 c91_0_0
noncomputable def L91_0_0 (k : Nat) : LSpec := ⟨H91_0_0, X91_0_0, E91_0_0 k k⟩
theorem Ls91_0_0 (k : Nat) : LSnd C16 Tryz.f91.ntmps (kpOf 0 I91) c91_0_0 (L91_0_0 k) :=
  lsnd_def (hT91 k) 1000 H91_0_0 X91_0_0 c91_0_0 (cs := []) (.nil) (by kernel_rfl) k
abbrev H91_0 : Slots := [(1, .t T4), (2, .ptr [.t T66]), (5, .t T3)]
abbrev X91_0 : List (PX × Slots) := [(.ex 0, [(1, .t T4), (2, .ptr [.t T66])]), (.rt, [(4, .t T4)])]
noncomputable def E91_0 (k : Nat) : Nat → shsDen (H91_0.map (·.2)) → Option (XD X91_0) := loopF C16 Tryz.f91.ntmps (kpOf 0 I91) (Tf91 k) [(9, L91_0_0 k)] 1000 H91_0 X91_0 c91_0
noncomputable def L91_0 (k : Nat) : LSpec := ⟨H91_0, X91_0, E91_0 k k⟩
theorem Ls91_0 (k : Nat) : LSnd C16 Tryz.f91.ntmps (kpOf 0 I91) c91_0 (L91_0 k) :=
  lsnd_def (hT91 k) 1000 H91_0 X91_0 c91_0 (cs := [c91_0_0]) (.cons _ _ 9 _ (by kernel_rfl) rfl (Ls91_0_0 k) (.nil)) (by kernel_rfl) k
noncomputable def F91 (k : Nat) : shsDen I91 → Option (shsDen O91 × shsDen (shsUpd I91)) := funF C16 (Tf91 k) [(4, L91_0 k)] 1000 Tryz.f91 I91 O91
theorem snd91 (k : Nat) : Snd C16 91 ⟨I91, O91, F91 k⟩ :=
  snd_def (c := c91) (by kernel_rfl) (by kernel_rfl) (by kernel_rfl) (hT91 k) 1000 I91 O91 (cs := [c91_0]) (.cons _ _ 4 _ (by kernel_rfl) rfl (Ls91_0 k) (.nil)) (by kernel_rfl)

/-! ### f112 -/
abbrev I112 : List Sh := [.t T81]
abbrev O112 : List Sh := [.t T4]
noncomputable def c112 : Code := bodyOf Tryz.f112
noncomputable def Tf112 (k : Nat) : List (Nat × Spec) := []
theorem hT112 (k : Nat) : ∀ p, p ∈ Tf112 k → Snd C16 p.1 p.2 := hT_nil
noncomputable def F112 (k : Nat) : shsDen I112 → Option (shsDen O112 × shsDen (shsUpd I112)) := funF C16 (Tf112 k) [] 1000 Tryz.f112 I112 O112
theorem snd112 (k : Nat) : Snd C16 112 ⟨I112, O112, F112 k⟩ :=
  snd_def (c := c112) (by kernel_rfl) (by kernel_rfl) (by kernel_rfl) (hT112 k) 1000 I112 O112 (cs := []) (.nil) (by kernel_rfl)

/-! ### f92 -/
abbrev I92 : List Sh := [.t T84, .t T3]
abbrev O92 : List Sh := [.t T4]
noncomputable def c92 : Code := bodyOf Tryz.f92
noncomputable def Tf92 (k : Nat) (s92 : shsDen I92 → Option (shsDen O92 × shsDen (shsUpd I92))) : List (Nat × Spec) := [(29, ⟨I29, O29, F29 k⟩), (92, ⟨I92, O92, s92⟩), (112, ⟨I112, O112, F112 k⟩)]
theorem hT92 (k : Nat) (s92 : shsDen I92 → Option (shsDen O92 × shsDen (shsUpd I92))) (h92 : Snd C16 92 ⟨I92, O92, s92⟩) : ∀ p, p ∈ Tf92 k s92 → Snd C16 p.1 p.2 := hT_cons (snd29 k) (hT_cons h92 (hT_cons (snd112 k) (hT_nil)))
noncomputable def c92_0 : Code := loopN c92 0
abbrev H92_0 : Slots := [(2, .ptr [.t T84]), (7, .t T3)]
abbrev X92_0 : List (PX × Slots) := [(.ex 0, [(2, .ptr [.t T84])]), (.rt, [(4, .t T4)])]
noncomputable def E92_0 (k : Nat) (s92 : shsDen I92 → Option (shsDen O92 × shsDen (shsUpd I92))) : Nat → shsDen (H92_0.map (·.2)) → Option (XD X92_0) := loopF C16 Tryz.f92.ntmps (kpOf 0 I92) (Tf92 k s92) [] 1000 H92_0 X92_0 c92_0
noncomputable def L92_0 (k : Nat) (s92 : shsDen I92 → Option (shsDen O92 × shsDen (shsUpd I92))) : LSpec := ⟨H92_0, X92_0, E92_0 k s92 k⟩
theorem Ls92_0 (k : Nat) (s92 : shsDen I92 → Option (shsDen O92 × shsDen (shsUpd I92))) (h92 : Snd C16 92 ⟨I92, O92, s92⟩) : LSnd C16 Tryz.f92.ntmps (kpOf 0 I92) c92_0 (L92_0 k s92) :=
  lsnd_def (hT92 k s92 h92) 1000 H92_0 X92_0 c92_0 (cs := []) (.nil) (by kernel_rfl) k
noncomputable def G92 (k : Nat) (s92 : shsDen I92 → Option (shsDen O92 × shsDen (shsUpd I92))) : shsDen I92 → Option (shsDen O92 × shsDen (shsUpd I92)) := funF C16 (Tf92 k s92) [(14, L92_0 k s92)] 1000 Tryz.f92 I92 O92
theorem sndG92 (k : Nat) (s92 : shsDen I92 → Option (shsDen O92 × shsDen (shsUpd I92))) (h92 : Snd C16 92 ⟨I92, O92, s92⟩) : Snd C16 92 ⟨I92, O92, G92 k s92⟩ :=
  snd_def (c := c92) (by kernel_rfl) (by kernel_rfl) (by kernel_rfl) (hT92 k s92 h92) 1000 I92 O92 (cs := [c92_0]) (.cons _ _ 14 _ (by kernel_rfl) rfl (Ls92_0 k s92 h92) (.nil)) (by kernel_rfl)
noncomputable def R92 (k : Nat) : Nat → shsDen I92 → Option (shsDen O92 × shsDen (shsUpd I92))
  | 0 => fun _ => none
  | d + 1 => G92 k (R92 k d)
theorem sndR92 (k : Nat) : ∀ d, Snd C16 92 ⟨I92, O92, R92 k d⟩
  | 0 => snd_none (enter_of (fn := Tryz.f92) (c := c92) (by kernel_rfl) (by kernel_rfl) (by kernel_rfl))
  | d + 1 => sndG92 k _ (sndR92 k d)
noncomputable def F92 (k : Nat) : shsDen I92 → Option (shsDen O92 × shsDen (shsUpd I92)) := R92 k k
theorem snd92 (k : Nat) : Snd C16 92 ⟨I92, O92, F92 k⟩ := sndR92 k k

/-! ### f53 -/
abbrev I53 : List Sh := [.t T53]
abbrev O53 : List Sh := [.t T4]
noncomputable def c53 : Code := bodyOf Tryz.f53
noncomputable def Tf53 (k : Nat) : List (Nat × Spec) := [(91, ⟨I91, O91, F91 k⟩), (92, ⟨I92, O92, F92 k⟩), (29, ⟨I29, O29, F29 k⟩)]
theorem hT53 (k : Nat) : ∀ p, p ∈ Tf53 k → Snd C16 p.1 p.2 := hT_cons (snd91 k) (hT_cons (snd92 k) (hT_cons (snd29 k) (hT_nil)))
noncomputable def c53_0 : Code := loopN c53 0
noncomputable def c53_0_0 : Code := loopN c53_0 0
abbrev H53_0_0 : Slots := [(1, .ptr [.t T53]), (3, .t T3), (4, .t T3)]
abbrev X53_0_0 : List (PX × Slots) := [(.ex 2, [(1, .ptr [.t T53]), (3, .t T3)]), (.rt, [(2, .t T4)])]
noncomputable def E53_0_0 (k : Nat) : Nat → shsDen (H53_0_0.map (·.2)) → Option (XD X53_0_0) := loopF C16 Tryz.f53.ntmps (kpOf 0 I53) (Tf53 k) [] 1000 H53_0_0 X53_0_0 c53_0_0
noncomputable def L53_0_0 (k : Nat) : LSpec := ⟨H53_0_0, X53_0_0, E53_0_0 k k⟩
theorem Ls53_0_0 (k : Nat) : LSnd C16 Tryz.f53.ntmps (kpOf 0 I53) c53_0_0 (L53_0_0 k) :=
  lsnd_def (hT53 k) 1000 H53_0_0 X53_0_0 c53_0_0 (cs := []) (.nil) (by kernel_rfl) k
abbrev H53_0 : Slots := [(1, .ptr [.t T53]), (3, .t T3)]
abbrev X53_0 : List (PX × Slots) := [(.ex 0, [(1, .ptr [.t T53])]), (.rt, [(2, .t T4)])]
noncomputable def E53_0 (k : Nat) : Nat → shsDen (H53_0.map (·.2)) → Option (XD X53_0) := loopF C16 Tryz.f53.ntmps (kpOf 0 I53) (Tf53 k) [(9, L53_0_0 k)] 1000 H53_0 X53_0 c53_0
noncomputable def L53_0 (k : Nat) : LSpec := ⟨H53_0, X53_0, E53_0 k k⟩
theorem Ls53_0 (k : Nat) : LSnd C16 Tryz.f53.ntmps (kpOf 0 I53) c53_0 (L53_0 k) :=
  lsnd_def (hT53 k) 1000 H53_0 X53_0 c53_0 (cs := [c53_0_0]) (.cons _ _ 9 _ (by kernel_rfl) rfl (Ls53_0_0 k) (.nil)) (by kernel_rfl) k
noncomputable def c53_1 : Code := loopN c53 1
abbrev H53_1 : Slots := [(1, .ptr [.t T53]), (5, .t T3)]
abbrev X53_1 : List (PX × Slots) := [(.ex 4, [(1, .ptr [.t T53])]), (.rt, [(2, .t T4)])]
noncomputable def E53_1 (k : Nat) : Nat → shsDen (H53_1.map (·.2)) → Option (XD X53_1) := loopF C16 Tryz.f53.ntmps (kpOf 0 I53) (Tf53 k) [] 1000 H53_1 X53_1 c53_1
noncomputable def L53_1 (k : Nat) : LSpec := ⟨H53_1, X53_1, E53_1 k k⟩
theorem Ls53_1 (k : Nat) : LSnd C16 Tryz.f53.ntmps (kpOf 0 I53) c53_1 (L53_1 k) :=
  lsnd_def (hT53 k) 1000 H53_1 X53_1 c53_1 (cs := []) (.nil) (by kernel_rfl) k
noncomputable def F53 (k : Nat) : shsDen I53 → Option (shsDen O53 × shsDen (shsUpd I53)) := funF C16 (Tf53 k) [(4, L53_0 k), (14, L53_1 k)] 1000 Tryz.f53 I53 O53
theorem snd53 (k : Nat) : Snd C16 53 ⟨I53, O53, F53 k⟩ :=
  snd_def (c := c53) (by kernel_rfl) (by kernel_rfl) (by kernel_rfl) (hT53 k) 1000 I53 O53 (cs := [c53_0, c53_1]) (.cons _ _ 4 _ (by kernel_rfl) rfl (Ls53_0 k) (.cons _ _ 14 _ (by kernel_rfl) rfl (Ls53_1 k) (.nil))) (by kernel_rfl)

/-! ### f37 -/
abbrev I37 : List Sh := [.t T9]
abbrev O37 : List Sh := [.t T53, .t T26, .t T3]
noncomputable def c37 : Code := bodyOf Tryz.f37
noncomputable def Tf37 (k : Nat) : List (Nat × Spec) := [(51, ⟨I51, O51, F51 k⟩), (52, ⟨I52, O52, F52 k⟩), (53, ⟨I53, O53, F53 k⟩)]
theorem hT37 (k : Nat) : ∀ p, p ∈ Tf37 k → Snd C16 p.1 p.2 := hT_cons (snd51 k) (hT_cons (snd52 k) (hT_cons (snd53 k) (hT_nil)))
noncomputable def F37 (k : Nat) : shsDen I37 → Option (shsDen O37 × shsDen (shsUpd I37)) := funF C16 (Tf37 k) [] 1000 Tryz.f37 I37 O37
theorem snd37 (k : Nat) : Snd C16 37 ⟨I37, O37, F37 k⟩ :=
  snd_def (c := c37) (by kernel_rfl) (by kernel_rfl) (by kernel_rfl) (hT37 k) 1000 I37 O37 (cs := []) (.nil) (by kernel_rfl)

/-! ### f22 -/
abbrev I22 : List Sh := [.t T9, .t T9]
abbrev O22 : List Sh := [.t T36]
noncomputable def c22 : Code := bodyOf Tryz.f22
noncomputable def Tf22 (k : Nat) : List (Nat × Spec) := [(37, ⟨I37, O37, F37 k⟩)]
theorem hT22 (k : Nat) : ∀ p, p ∈ Tf22 k → Snd C16 p.1 p.2 := hT_cons (snd37 k) (hT_nil)
noncomputable def F22 (k : Nat) : shsDen I22 → Option (shsDen O22 × shsDen (shsUpd I22)) := funF C16 (Tf22 k) [] 1000 Tryz.f22 I22 O22
theorem snd22 (k : Nat) : Snd C16 22 ⟨I22, O22, F22 k⟩ :=
  snd_def (c := c22) (by kernel_rfl) (by kernel_rfl) (by kernel_rfl) (hT22 k) 1000 I22 O22 (cs := []) (.nil) (by kernel_rfl)

/-! ### f26 -/
abbrev I26 : List Sh := [.t T9]
abbrev O26 : List Sh := [.t T4]
noncomputable def c26 : Code := bodyOf Tryz.f26
noncomputable def Tf26 (k : Nat) : List (Nat × Spec) := []
theorem hT26 (k : Nat) : ∀ p, p ∈ Tf26 k → Snd C16 p.1 p.2 := hT_nil
noncomputable def c26_0 : Code := loopN c26 0
abbrev H26_0 : Slots := [(0, .t T9), (6, .t T3), (7, .t T3)]
abbrev X26_0 : List (PX × Slots) := [(.ex 0, [(0, .t T9)]), (.rt, [(2, .t T4)])]
noncomputable def E26_0 (k : Nat) : Nat → shsDen (H26_0.map (·.2)) → Option (XD X26_0) := loopF C16 Tryz.f26.ntmps (kpOf 0 I26) (Tf26 k) [] 1000 H26_0 X26_0 c26_0
noncomputable def L26_0 (k : Nat) : LSpec := ⟨H26_0, X26_0, E26_0 k k⟩
theorem Ls26_0 (k : Nat) : LSnd C16 Tryz.f26.ntmps (kpOf 0 I26) c26_0 (L26_0 k) :=
  lsnd_def (hT26 k) 1000 H26_0 X26_0 c26_0 (cs := []) (.nil) (by kernel_rfl) k
noncomputable def F26 (k : Nat) : shsDen I26 → Option (shsDen O26 × shsDen (shsUpd I26)) := funF C16 (Tf26 k) [(2, L26_0 k)] 1000 Tryz.f26 I26 O26
theorem snd26 (k : Nat) : Snd C16 26 ⟨I26, O26, F26 k⟩ :=
  snd_def (c := c26) (by kernel_rfl) (by kernel_rfl) (by kernel_rfl) (hT26 k) 1000 I26 O26 (cs := [c26_0]) (.cons _ _ 2 _ (by kernel_rfl) rfl (Ls26_0 k) (.nil)) (by kernel_rfl)

/-! ### f40 -/
abbrev I40 : List Sh := [.t T9, .t T9]
abbrev O40 : List Sh := [.t T4]
noncomputable def F40 (k : Nat) : shsDen I40 → Option (shsDen O40 × shsDen (shsUpd I40)) := fun x => bif decide (x.1.size < 4294967281) then some ((Lib.contains x.1.data.toList x.2.1.data.toList, ()), ()) else none
theorem snd40 (k : Nat) : Snd C16 40 ⟨I40, O40, F40 k⟩ := by
  refine snd_ssb (F := F40 k) (enter_of (fn := Tryz.f40) (c := bodyOf Tryz.f40) (by kernel_rfl) (by kernel_rfl) (by kernel_rfl)) fun a b y hy w hg => ?_
  obtain ⟨n, hn⟩ := hg 0 (by simp [C16])
  unfold F40 at hy
  cases hd : decide (a.size < 4294967281) with
  | true =>
    dsimp only at hy
    rw [hd] at hy
    injection hy with hy
    subst hy
    exact Tryz.strings_Contains a b n w (of_decide_eq_true hd) hn
  | false =>
    dsimp only at hy
    rw [hd] at hy
    cases hy


/-! ### f27 -/
abbrev I27 : List Sh := [.t T9]
abbrev O27 : List Sh := [.t T4]
noncomputable def c27 : Code := bodyOf Tryz.f27
noncomputable def Tf27 (k : Nat) : List (Nat × Spec) := [(40, ⟨I40, O40, F40 k⟩)]
theorem hT27 (k : Nat) : ∀ p, p ∈ Tf27 k → Snd C16 p.1 p.2 := hT_cons (snd40 k) (hT_nil)
noncomputable def F27 (k : Nat) : shsDen I27 → Option (shsDen O27 × shsDen (shsUpd I27)) := funF C16 (Tf27 k) [] 1000 Tryz.f27 I27 O27
theorem snd27 (k : Nat) : Snd C16 27 ⟨I27, O27, F27 k⟩ :=
  snd_def (c := c27) (by kernel_rfl) (by kernel_rfl) (by kernel_rfl) (hT27 k) 1000 I27 O27 (cs := []) (.nil) (by kernel_rfl)

/-! ### f61 -/
abbrev I61 : List Sh := [.t T53]
abbrev O61 : List Sh := [.t T4]
noncomputable def c61 : Code := bodyOf Tryz.f61
noncomputable def Tf61 (k : Nat) : List (Nat × Spec) := []
theorem hT61 (k : Nat) : ∀ p, p ∈ Tf61 k → Snd C16 p.1 p.2 := hT_nil
noncomputable def F61 (k : Nat) : shsDen I61 → Option (shsDen O61 × shsDen (shsUpd I61)) := funF C16 (Tf61 k) [] 1000 Tryz.f61 I61 O61
theorem snd61 (k : Nat) : Snd C16 61 ⟨I61, O61, F61 k⟩ :=
  snd_def (c := c61) (by kernel_rfl) (by kernel_rfl) (by kernel_rfl) (hT61 k) 1000 I61 O61 (cs := []) (.nil) (by kernel_rfl)

/-! ### f99 -/
abbrev I99 : List Sh := [.t T9]
abbrev O99 : List Sh := [.t T4]
noncomputable def c99 : Code := bodyOf Tryz.f99
noncomputable def Tf99 (k : Nat) : List (Nat × Spec) := [(26, ⟨I26, O26, F26 k⟩), (27, ⟨I27, O27, F27 k⟩)]
theorem hT99 (k : Nat) : ∀ p, p ∈ Tf99 k → Snd C16 p.1 p.2 := hT_cons (snd26 k) (hT_cons (snd27 k) (hT_nil))
noncomputable def F99 (k : Nat) : shsDen I99 → Option (shsDen O99 × shsDen (shsUpd I99)) := funF C16 (Tf99 k) [] 1000 Tryz.f99 I99 O99
theorem snd99 (k : Nat) : Snd C16 99 ⟨I99, O99, F99 k⟩ :=
  snd_def (c := c99) (by kernel_rfl) (by kernel_rfl) (by kernel_rfl) (hT99 k) 1000 I99 O99 (cs := []) (.nil) (by kernel_rfl)

/-! ### f97 -/
abbrev I97 : List Sh := [.t T66, .t T3]
abbrev O97 : List Sh := [.t T4]
noncomputable def c97 : Code := bodyOf Tryz.f97
noncomputable def Tf97 (k : Nat) : List (Nat × Spec) := [(99, ⟨I99, O99, F99 k⟩)]
theorem hT97 (k : Nat) : ∀ p, p ∈ Tf97 k → Snd C16 p.1 p.2 := hT_cons (snd99 k) (hT_nil)
noncomputable def c97_0 : Code := loopN c97 0
abbrev H97_0 : Slots := [(1, .t T3), (2, .ptr [.t T66]), (5, .mp), (10, .t T64), (11, .t T3), (12, .t T3)]
abbrev X97_0 : List (PX × Slots) := [(.ex 0, [(1, .t T3), (2, .ptr [.t T66])]), (.rt, [(4, .t T4)])]
noncomputable def E97_0 (k : Nat) : Nat → shsDen (H97_0.map (·.2)) → Option (XD X97_0) := loopF C16 Tryz.f97.ntmps (kpOf 0 I97) (Tf97 k) [] 1000 H97_0 X97_0 c97_0
noncomputable def L97_0 (k : Nat) : LSpec := ⟨H97_0, X97_0, E97_0 k k⟩
theorem Ls97_0 (k : Nat) : LSnd C16 Tryz.f97.ntmps (kpOf 0 I97) c97_0 (L97_0 k) :=
  lsnd_def (hT97 k) 1000 H97_0 X97_0 c97_0 (cs := []) (.nil) (by kernel_rfl) k
noncomputable def F97 (k : Nat) : shsDen I97 → Option (shsDen O97 × shsDen (shsUpd I97)) := funF C16 (Tf97 k) [(3, L97_0 k)] 1000 Tryz.f97 I97 O97
theorem snd97 (k : Nat) : Snd C16 97 ⟨I97, O97, F97 k⟩ :=
  snd_def (c := c97) (by kernel_rfl) (by kernel_rfl) (by kernel_rfl) (hT97 k) 1000 I97 O97 (cs := [c97_0]) (.cons _ _ 3 _ (by kernel_rfl) rfl (Ls97_0 k) (.nil)) (by kernel_rfl)

/-! ### f117 -/
abbrev I117 : List Sh := [.t T81]
abbrev O117 : List Sh := [.t T4]
noncomputable def c117 : Code := bodyOf Tryz.f117
noncomputable def Tf117 (k : Nat) : List (Nat × Spec) := []
theorem hT117 (k : Nat) : ∀ p, p ∈ Tf117 k → Snd C16 p.1 p.2 := hT_nil
noncomputable def F117 (k : Nat) : shsDen I117 → Option (shsDen O117 × shsDen (shsUpd I117)) := funF C16 (Tf117 k) [] 1000 Tryz.f117 I117 O117
theorem snd117 (k : Nat) : Snd C16 117 ⟨I117, O117, F117 k⟩ :=
  snd_def (c := c117) (by kernel_rfl) (by kernel_rfl) (by kernel_rfl) (hT117 k) 1000 I117 O117 (cs := []) (.nil) (by kernel_rfl)

/-! ### f118 -/
abbrev I118 : List Sh := [.t T9]
abbrev O118 : List Sh := [.t T4]
noncomputable def c118 : Code := bodyOf Tryz.f118
noncomputable def Tf118 (k : Nat) : List (Nat × Spec) := []
theorem hT118 (k : Nat) : ∀ p, p ∈ Tf118 k → Snd C16 p.1 p.2 := hT_nil
noncomputable def c118_0 : Code := loopN c118 0
abbrev H118_0 : Slots := [(0, .t T9), (5, .t T3), (6, .t T3)]
abbrev X118_0 : List (PX × Slots) := [(.ex 0, []), (.rt, [(2, .t T4)])]
noncomputable def E118_0 (k : Nat) : Nat → shsDen (H118_0.map (·.2)) → Option (XD X118_0) := loopF C16 Tryz.f118.ntmps (kpOf 0 I118) (Tf118 k) [] 1000 H118_0 X118_0 c118_0
noncomputable def L118_0 (k : Nat) : LSpec := ⟨H118_0, X118_0, E118_0 k k⟩
theorem Ls118_0 (k : Nat) : LSnd C16 Tryz.f118.ntmps (kpOf 0 I118) c118_0 (L118_0 k) :=
  lsnd_def (hT118 k) 1000 H118_0 X118_0 c118_0 (cs := []) (.nil) (by kernel_rfl) k
noncomputable def F118 (k : Nat) : shsDen I118 → Option (shsDen O118 × shsDen (shsUpd I118)) := funF C16 (Tf118 k) [(2, L118_0 k)] 1000 Tryz.f118 I118 O118
theorem snd118 (k : Nat) : Snd C16 118 ⟨I118, O118, F118 k⟩ :=
  snd_def (c := c118) (by kernel_rfl) (by kernel_rfl) (by kernel_rfl) (hT118 k) 1000 I118 O118 (cs := [c118_0]) (.cons _ _ 2 _ (by kernel_rfl) rfl (Ls118_0 k) (.nil)) (by kernel_rfl)

/-! ### f98 -/
abbrev I98 : List Sh := [.t T84, .t T3]
abbrev O98 : List Sh := [.t T4]
noncomputable def c98 : Code := bodyOf Tryz.f98
noncomputable def Tf98 (k : Nat) (s98 : shsDen I98 → Option (shsDen O98 × shsDen (shsUpd I98))) : List (Nat × Spec) := [(117, ⟨I117, O117, F117 k⟩), (118, ⟨I118, O118, F118 k⟩), (99, ⟨I99, O99, F99 k⟩), (98, ⟨I98, O98, s98⟩)]
theorem hT98 (k : Nat) (s98 : shsDen I98 → Option (shsDen O98 × shsDen (shsUpd I98))) (h98 : Snd C16 98 ⟨I98, O98, s98⟩) : ∀ p, p ∈ Tf98 k s98 → Snd C16 p.1 p.2 := hT_cons (snd117 k) (hT_cons (snd118 k) (hT_cons (snd99 k) (hT_cons h98 (hT_nil))))
noncomputable def G98 (k : Nat) (s98 : shsDen I98 → Option (shsDen O98 × shsDen (shsUpd I98))) : shsDen I98 → Option (shsDen O98 × shsDen (shsUpd I98)) := funF C16 (Tf98 k s98) [] 1000 Tryz.f98 I98 O98
theorem sndG98 (k : Nat) (s98 : shsDen I98 → Option (shsDen O98 × shsDen (shsUpd I98))) (h98 : Snd C16 98 ⟨I98, O98, s98⟩) : Snd C16 98 ⟨I98, O98, G98 k s98⟩ :=
  snd_def (c := c98) (by kernel_rfl) (by kernel_rfl) (by kernel_rfl) (hT98 k s98 h98) 1000 I98 O98 (cs := []) (.nil) (by kernel_rfl)
noncomputable def R98 (k : Nat) : Nat → shsDen I98 → Option (shsDen O98 × shsDen (shsUpd I98))
  | 0 => fun _ => none
  | d + 1 => G98 k (R98 k d)
theorem sndR98 (k : Nat) : ∀ d, Snd C16 98 ⟨I98, O98, R98 k d⟩
  | 0 => snd_none (enter_of (fn := Tryz.f98) (c := c98) (by kernel_rfl) (by kernel_rfl) (by kernel_rfl))
  | d + 1 => sndG98 k _ (sndR98 k d)
noncomputable def F98 (k : Nat) : shsDen I98 → Option (shsDen O98 × shsDen (shsUpd I98)) := R98 k k
theorem snd98 (k : Nat) : Snd C16 98 ⟨I98, O98, F98 k⟩ := sndR98 k k

/-! ### f62 -/
abbrev I62 : List Sh := [.t T53]
abbrev O62 : List Sh := [.t T4]
noncomputable def c62 : Code := bodyOf Tryz.f62
noncomputable def Tf62 (k : Nat) : List (Nat × Spec) := [(97, ⟨I97, O97, F97 k⟩), (98, ⟨I98, O98, F98 k⟩), (99, ⟨I99, O99, F99 k⟩)]
theorem hT62 (k : Nat) : ∀ p, p ∈ Tf62 k → Snd C16 p.1 p.2 := hT_cons (snd97 k) (hT_cons (snd98 k) (hT_cons (snd99 k) (hT_nil)))
noncomputable def c62_0 : Code := loopN c62 0
abbrev H62_0 : Slots := [(1, .ptr [.t T53]), (3, .mp), (10, .t T50), (11, .t T3), (12, .t T3)]
abbrev X62_0 : List (PX × Slots) := [(.ex 0, [(1, .ptr [.t T53])]), (.rt, [(2, .t T4)])]
noncomputable def E62_0 (k : Nat) : Nat → shsDen (H62_0.map (·.2)) → Option (XD X62_0) := loopF C16 Tryz.f62.ntmps (kpOf 0 I62) (Tf62 k) [] 1000 H62_0 X62_0 c62_0
noncomputable def L62_0 (k : Nat) : LSpec := ⟨H62_0, X62_0, E62_0 k k⟩
theorem Ls62_0 (k : Nat) : LSnd C16 Tryz.f62.ntmps (kpOf 0 I62) c62_0 (L62_0 k) :=
  lsnd_def (hT62 k) 1000 H62_0 X62_0 c62_0 (cs := []) (.nil) (by kernel_rfl) k
noncomputable def c62_1 : Code := loopN c62 1
abbrev H62_1 : Slots := [(1, .ptr [.t T53]), (35, .t T51), (36, .t T3), (37, .t T3)]
abbrev X62_1 : List (PX × Slots) := [(.ex 2, [(1, .ptr [.t T53])]), (.rt, [(2, .t T4)])]
noncomputable def E62_1 (k : Nat) : Nat → shsDen (H62_1.map (·.2)) → Option (XD X62_1) := loopF C16 Tryz.f62.ntmps (kpOf 0 I62) (Tf62 k) [] 1000 H62_1 X62_1 c62_1
noncomputable def L62_1 (k : Nat) : LSpec := ⟨H62_1, X62_1, E62_1 k k⟩
theorem Ls62_1 (k : Nat) : LSnd C16 Tryz.f62.ntmps (kpOf 0 I62) c62_1 (L62_1 k) :=
  lsnd_def (hT62 k) 1000 H62_1 X62_1 c62_1 (cs := []) (.nil) (by kernel_rfl) k
noncomputable def F62 (k : Nat) : shsDen I62 → Option (shsDen O62 × shsDen (shsUpd I62)) := funF C16 (Tf62 k) [(3, L62_0 k), (10, L62_1 k)] 1000 Tryz.f62 I62 O62
theorem snd62 (k : Nat) : Snd C16 62 ⟨I62, O62, F62 k⟩ :=
  snd_def (c := c62) (by kernel_rfl) (by kernel_rfl) (by kernel_rfl) (hT62 k) 1000 I62 O62 (cs := [c62_0, c62_1]) (.cons _ _ 3 _ (by kernel_rfl) rfl (Ls62_0 k) (.cons _ _ 10 _ (by kernel_rfl) rfl (Ls62_1 k) (.nil))) (by kernel_rfl)

/-! ### f41 -/
abbrev I41 : List Sh := [.t T57]
abbrev O41 : List Sh := [.t T4]
noncomputable def c41 : Code := bodyOf Tryz.f41
noncomputable def Tf41 (k : Nat) : List (Nat × Spec) := [(61, ⟨I61, O61, F61 k⟩), (62, ⟨I62, O62, F62 k⟩)]
theorem hT41 (k : Nat) : ∀ p, p ∈ Tf41 k → Snd C16 p.1 p.2 := hT_cons (snd61 k) (hT_cons (snd62 k) (hT_nil))
noncomputable def F41 (k : Nat) : shsDen I41 → Option (shsDen O41 × shsDen (shsUpd I41)) := funF C16 (Tf41 k) [] 1000 Tryz.f41 I41 O41
theorem snd41 (k : Nat) : Snd C16 41 ⟨I41, O41, F41 k⟩ :=
  snd_def (c := c41) (by kernel_rfl) (by kernel_rfl) (by kernel_rfl) (hT41 k) 1000 I41 O41 (cs := []) (.nil) (by kernel_rfl)

/-! ### f28 -/
abbrev I28 : List Sh := [.t T34]
abbrev O28 : List Sh := [.t T4]
noncomputable def c28 : Code := bodyOf Tryz.f28
noncomputable def Tf28 (k : Nat) : List (Nat × Spec) := [(41, ⟨I41, O41, F41 k⟩)]
theorem hT28 (k : Nat) : ∀ p, p ∈ Tf28 k → Snd C16 p.1 p.2 := hT_cons (snd41 k) (hT_nil)
noncomputable def c28_0 : Code := loopN c28 0
abbrev H28_0 : Slots := [(0, .t T34), (3, .ptr [.t T57]), (7, .t T34), (8, .t T3), (9, .t T3)]
abbrev X28_0 : List (PX × Slots) := [(.ex 0, [(0, .t T34)]), (.rt, [(2, .t T4)])]
noncomputable def E28_0 (k : Nat) : Nat → shsDen (H28_0.map (·.2)) → Option (XD X28_0) := loopF C16 Tryz.f28.ntmps (kpOf 0 I28) (Tf28 k) [] 1000 H28_0 X28_0 c28_0
noncomputable def L28_0 (k : Nat) : LSpec := ⟨H28_0, X28_0, E28_0 k k⟩
theorem Ls28_0 (k : Nat) : LSnd C16 Tryz.f28.ntmps (kpOf 0 I28) c28_0 (L28_0 k) :=
  lsnd_def (hT28 k) 1000 H28_0 X28_0 c28_0 (cs := []) (.nil) (by kernel_rfl) k
noncomputable def F28 (k : Nat) : shsDen I28 → Option (shsDen O28 × shsDen (shsUpd I28)) := funF C16 (Tf28 k) [(3, L28_0 k)] 1000 Tryz.f28 I28 O28
theorem snd28 (k : Nat) : Snd C16 28 ⟨I28, O28, F28 k⟩ :=
  snd_def (c := c28) (by kernel_rfl) (by kernel_rfl) (by kernel_rfl) (hT28 k) 1000 I28 O28 (cs := [c28_0]) (.cons _ _ 3 _ (by kernel_rfl) rfl (Ls28_0 k) (.nil)) (by kernel_rfl)

/-! ### f12 -/
abbrev I12 : List Sh := [.t T22]
abbrev O12 : List Sh := [.t T4]
noncomputable def c12 : Code := bodyOf Tryz.f12
noncomputable def Tf12 (k : Nat) : List (Nat × Spec) := [(26, ⟨I26, O26, F26 k⟩), (27, ⟨I27, O27, F27 k⟩), (28, ⟨I28, O28, F28 k⟩)]
theorem hT12 (k : Nat) : ∀ p, p ∈ Tf12 k → Snd C16 p.1 p.2 := hT_cons (snd26 k) (hT_cons (snd27 k) (hT_cons (snd28 k) (hT_nil)))
noncomputable def c12_0 : Code := loopN c12 0
abbrev H12_0 : Slots := [(0, .t T22), (5, .t T22), (6, .t T3), (7, .t T3)]
abbrev X12_0 : List (PX × Slots) := [(.ex 0, [(0, .t T22)]), (.rt, [(2, .t T4)])]
noncomputable def E12_0 (k : Nat) : Nat → shsDen (H12_0.map (·.2)) → Option (XD X12_0) := loopF C16 Tryz.f12.ntmps (kpOf 0 I12) (Tf12 k) [] 1000 H12_0 X12_0 c12_0
noncomputable def L12_0 (k : Nat) : LSpec := ⟨H12_0, X12_0, E12_0 k k⟩
theorem Ls12_0 (k : Nat) : LSnd C16 Tryz.f12.ntmps (kpOf 0 I12) c12_0 (L12_0 k) :=
  lsnd_def (hT12 k) 1000 H12_0 X12_0 c12_0 (cs := []) (.nil) (by kernel_rfl) k
noncomputable def F12 (k : Nat) : shsDen I12 → Option (shsDen O12 × shsDen (shsUpd I12)) := funF C16 (Tf12 k) [(2, L12_0 k)] 1000 Tryz.f12 I12 O12
theorem snd12 (k : Nat) : Snd C16 12 ⟨I12, O12, F12 k⟩ :=
  snd_def (c := c12) (by kernel_rfl) (by kernel_rfl) (by kernel_rfl) (hT12 k) 1000 I12 O12 (cs := [c12_0]) (.cons _ _ 2 _ (by kernel_rfl) rfl (Ls12_0 k) (.nil)) (by kernel_rfl)

/-! ### f95 -/
abbrev I95 : List Sh := [.t T64, .t T9]
abbrev O95 : List Sh := [.t T3]
noncomputable def c95 : Code := bodyOf Tryz.f95
noncomputable def Tf95 (k : Nat) : List (Nat × Spec) := []
theorem hT95 (k : Nat) : ∀ p, p ∈ Tf95 k → Snd C16 p.1 p.2 := hT_nil
noncomputable def c95_0 : Code := loopN c95 0
abbrev H95_0 : Slots := [(0, .t T64), (1, .t T9), (7, .t T3), (8, .t T3)]
abbrev X95_0 : List (PX × Slots) := [(.ex 0, []), (.rt, [(4, .t T3)])]
noncomputable def E95_0 (k : Nat) : Nat → shsDen (H95_0.map (·.2)) → Option (XD X95_0) := loopF C16 Tryz.f95.ntmps (kpOf 0 I95) (Tf95 k) [] 1000 H95_0 X95_0 c95_0
noncomputable def L95_0 (k : Nat) : LSpec := ⟨H95_0, X95_0, E95_0 k k⟩
theorem Ls95_0 (k : Nat) : LSnd C16 Tryz.f95.ntmps (kpOf 0 I95) c95_0 (L95_0 k) :=
  lsnd_def (hT95 k) 1000 H95_0 X95_0 c95_0 (cs := []) (.nil) (by kernel_rfl) k
noncomputable def F95 (k : Nat) : shsDen I95 → Option (shsDen O95 × shsDen (shsUpd I95)) := funF C16 (Tf95 k) [(2, L95_0 k)] 1000 Tryz.f95 I95 O95
theorem snd95 (k : Nat) : Snd C16 95 ⟨I95, O95, F95 k⟩ :=
  snd_def (c := c95) (by kernel_rfl) (by kernel_rfl) (by kernel_rfl) (hT95 k) 1000 I95 O95 (cs := [c95_0]) (.cons _ _ 2 _ (by kernel_rfl) rfl (Ls95_0 k) (.nil)) (by kernel_rfl)

/-! ### f59 -/
abbrev I59 : List Sh := [.t T64, .t T9]
abbrev O59 : List Sh := [.t T4]
noncomputable def c59 : Code := bodyOf Tryz.f59
noncomputable def Tf59 (k : Nat) : List (Nat × Spec) := [(95, ⟨I95, O95, F95 k⟩)]
theorem hT59 (k : Nat) : ∀ p, p ∈ Tf59 k → Snd C16 p.1 p.2 := hT_cons (snd95 k) (hT_nil)
noncomputable def F59 (k : Nat) : shsDen I59 → Option (shsDen O59 × shsDen (shsUpd I59)) := funF C16 (Tf59 k) [] 1000 Tryz.f59 I59 O59
theorem snd59 (k : Nat) : Snd C16 59 ⟨I59, O59, F59 k⟩ :=
  snd_def (c := c59) (by kernel_rfl) (by kernel_rfl) (by kernel_rfl) (hT59 k) 1000 I59 O59 (cs := []) (.nil) (by kernel_rfl)

/-! ### f58 -/
abbrev I58 : List Sh := [.t T66, .cptr [T9]]
abbrev O58 : List Sh := [.t T4]
noncomputable def c58 : Code := bodyOf Tryz.f58
noncomputable def Tf58 (k : Nat) : List (Nat × Spec) := [(59, ⟨I59, O59, F59 k⟩)]
theorem hT58 (k : Nat) : ∀ p, p ∈ Tf58 k → Snd C16 p.1 p.2 := hT_cons (snd59 k) (hT_nil)
noncomputable def F58 (k : Nat) : shsDen I58 → Option (shsDen O58 × shsDen (shsUpd I58)) := funF C16 (Tf58 k) [] 1000 Tryz.f58 I58 O58
theorem snd58 (k : Nat) : Snd C16 58 ⟨I58, O58, F58 k⟩ :=
  snd_def (c := c58) (by kernel_rfl) (by kernel_rfl) (by kernel_rfl) (hT58 k) 1000 I58 O58 (cs := []) (.nil) (by kernel_rfl)

/-! ### f94 -/
abbrev I94 : List Sh := [.t T50, .fn (.func 58) 1, .cptr [T9]]
abbrev O94 : List Sh := [.t T3]
noncomputable def c94 : Code := bodyOf Tryz.f94
noncomputable def Tf94 (k : Nat) : List (Nat × Spec) := [(58, ⟨I58, O58, F58 k⟩)]
theorem hT94 (k : Nat) : ∀ p, p ∈ Tf94 k → Snd C16 p.1 p.2 := hT_cons (snd58 k) (hT_nil)
noncomputable def c94_0 : Code := loopN c94 0
abbrev H94_0 : Slots := [(0, .t T50), (1, .fn (.func 58) 1), (1000100, .cptr [T9]), (7, .t T3), (8, .t T3)]
abbrev X94_0 : List (PX × Slots) := [(.ex 0, []), (.rt, [(4, .t T3)])]
noncomputable def E94_0 (k : Nat) : Nat → shsDen (H94_0.map (·.2)) → Option (XD X94_0) := loopF C16 Tryz.f94.ntmps (kpOf 0 I94) (Tf94 k) [] 1000 H94_0 X94_0 c94_0
noncomputable def L94_0 (k : Nat) : LSpec := ⟨H94_0, X94_0, E94_0 k k⟩
theorem Ls94_0 (k : Nat) : LSnd C16 Tryz.f94.ntmps (kpOf 0 I94) c94_0 (L94_0 k) :=
  lsnd_def (hT94 k) 1000 H94_0 X94_0 c94_0 (cs := []) (.nil) (by kernel_rfl) k
noncomputable def F94 (k : Nat) : shsDen I94 → Option (shsDen O94 × shsDen (shsUpd I94)) := funF C16 (Tf94 k) [(2, L94_0 k)] 1000 Tryz.f94 I94 O94
theorem snd94 (k : Nat) : Snd C16 94 ⟨I94, O94, F94 k⟩ :=
  snd_def (c := c94) (by kernel_rfl) (by kernel_rfl) (by kernel_rfl) (hT94 k) 1000 I94 O94 (cs := [c94_0]) (.cons _ _ 2 _ (by kernel_rfl) rfl (Ls94_0 k) (.nil)) (by kernel_rfl)

/-! ### f57 -/
abbrev I57 : List Sh := [.t T50, .fn (.func 58) 1, .cptr [T9]]
abbrev O57 : List Sh := [.t T4]
noncomputable def c57 : Code := bodyOf Tryz.f57
noncomputable def Tf57 (k : Nat) : List (Nat × Spec) := [(94, ⟨I94, O94, F94 k⟩)]
theorem hT57 (k : Nat) : ∀ p, p ∈ Tf57 k → Snd C16 p.1 p.2 := hT_cons (snd94 k) (hT_nil)
noncomputable def F57 (k : Nat) : shsDen I57 → Option (shsDen O57 × shsDen (shsUpd I57)) := funF C16 (Tf57 k) [] 1000 Tryz.f57 I57 O57
theorem snd57 (k : Nat) : Snd C16 57 ⟨I57, O57, F57 k⟩ :=
  snd_def (c := c57) (by kernel_rfl) (by kernel_rfl) (by kernel_rfl) (hT57 k) 1000 I57 O57 (cs := []) (.nil) (by kernel_rfl)

/-! ### f56 -/
abbrev I56 : List Sh := [.t T57, .cptr [T9]]
abbrev O56 : List Sh := [.t T4]
noncomputable def c56 : Code := bodyOf Tryz.f56
noncomputable def Tf56 (k : Nat) : List (Nat × Spec) := [(57, ⟨I57, O57, F57 k⟩)]
theorem hT56 (k : Nat) : ∀ p, p ∈ Tf56 k → Snd C16 p.1 p.2 := hT_cons (snd57 k) (hT_nil)
noncomputable def F56 (k : Nat) : shsDen I56 → Option (shsDen O56 × shsDen (shsUpd I56)) := funF C16 (Tf56 k) [] 1000 Tryz.f56 I56 O56
theorem snd56 (k : Nat) : Snd C16 56 ⟨I56, O56, F56 k⟩ :=
  snd_def (c := c56) (by kernel_rfl) (by kernel_rfl) (by kernel_rfl) (hT56 k) 1000 I56 O56 (cs := []) (.nil) (by kernel_rfl)

/-! ### f93 -/
abbrev I93 : List Sh := [.t T34, .fn (.func 56) 1, .cptr [T9]]
abbrev O93 : List Sh := [.t T3]
noncomputable def c93 : Code := bodyOf Tryz.f93
noncomputable def Tf93 (k : Nat) : List (Nat × Spec) := [(56, ⟨I56, O56, F56 k⟩)]
theorem hT93 (k : Nat) : ∀ p, p ∈ Tf93 k → Snd C16 p.1 p.2 := hT_cons (snd56 k) (hT_nil)
noncomputable def c93_0 : Code := loopN c93 0
abbrev H93_0 : Slots := [(0, .t T34), (1, .fn (.func 56) 1), (1000100, .cptr [T9]), (7, .t T3), (8, .t T3)]
abbrev X93_0 : List (PX × Slots) := [(.ex 0, []), (.rt, [(4, .t T3)])]
noncomputable def E93_0 (k : Nat) : Nat → shsDen (H93_0.map (·.2)) → Option (XD X93_0) := loopF C16 Tryz.f93.ntmps (kpOf 0 I93) (Tf93 k) [] 1000 H93_0 X93_0 c93_0
noncomputable def L93_0 (k : Nat) : LSpec := ⟨H93_0, X93_0, E93_0 k k⟩
theorem Ls93_0 (k : Nat) : LSnd C16 Tryz.f93.ntmps (kpOf 0 I93) c93_0 (L93_0 k) :=
  lsnd_def (hT93 k) 1000 H93_0 X93_0 c93_0 (cs := []) (.nil) (by kernel_rfl) k
noncomputable def F93 (k : Nat) : shsDen I93 → Option (shsDen O93 × shsDen (shsUpd I93)) := funF C16 (Tf93 k) [(2, L93_0 k)] 1000 Tryz.f93 I93 O93
theorem snd93 (k : Nat) : Snd C16 93 ⟨I93, O93, F93 k⟩ :=
  snd_def (c := c93) (by kernel_rfl) (by kernel_rfl) (by kernel_rfl) (hT93 k) 1000 I93 O93 (cs := [c93_0]) (.cons _ _ 2 _ (by kernel_rfl) rfl (Ls93_0 k) (.nil)) (by kernel_rfl)

/-! ### f55 -/
abbrev I55 : List Sh := [.t T34, .fn (.func 56) 1, .cptr [T9]]
abbrev O55 : List Sh := [.t T4]
noncomputable def c55 : Code := bodyOf Tryz.f55
noncomputable def Tf55 (k : Nat) : List (Nat × Spec) := [(93, ⟨I93, O93, F93 k⟩)]
theorem hT55 (k : Nat) : ∀ p, p ∈ Tf55 k → Snd C16 p.1 p.2 := hT_cons (snd93 k) (hT_nil)
noncomputable def F55 (k : Nat) : shsDen I55 → Option (shsDen O55 × shsDen (shsUpd I55)) := funF C16 (Tf55 k) [] 1000 Tryz.f55 I55 O55
theorem snd55 (k : Nat) : Snd C16 55 ⟨I55, O55, F55 k⟩ :=
  snd_def (c := c55) (by kernel_rfl) (by kernel_rfl) (by kernel_rfl) (hT55 k) 1000 I55 O55 (cs := []) (.nil) (by kernel_rfl)

/-! ### f39 -/
abbrev I39 : List Sh := [.t T36, .t T9]
abbrev O39 : List Sh := [.t T4]
noncomputable def c39 : Code := bodyOf Tryz.f39
noncomputable def Tf39 (k : Nat) : List (Nat × Spec) := [(55, ⟨I55, O55, F55 k⟩)]
theorem hT39 (k : Nat) : ∀ p, p ∈ Tf39 k → Snd C16 p.1 p.2 := hT_cons (snd55 k) (hT_nil)
noncomputable def F39 (k : Nat) : shsDen I39 → Option (shsDen O39 × shsDen (shsUpd I39)) := funF C16 (Tf39 k) [] 1000 Tryz.f39 I39 O39
theorem snd39 (k : Nat) : Snd C16 39 ⟨I39, O39, F39 k⟩ :=
  snd_def (c := c39) (by kernel_rfl) (by kernel_rfl) (by kernel_rfl) (hT39 k) 1000 I39 O39 (cs := []) (.nil) (by kernel_rfl)

/-! ### f24 -/
abbrev I24 : List Sh := [.t T22]
abbrev O24 : List Sh := [.t T40]
noncomputable def c24 : Code := bodyOf Tryz.f24
noncomputable def Tf24 (k : Nat) : List (Nat × Spec) := [(12, ⟨I12, O12, F12 k⟩), (39, ⟨I39, O39, F39 k⟩)]
theorem hT24 (k : Nat) : ∀ p, p ∈ Tf24 k → Snd C16 p.1 p.2 := hT_cons (snd12 k) (hT_cons (snd39 k) (hT_nil))
noncomputable def c24_0 : Code := loopN c24 0
noncomputable def c24_0_0 : Code := loopN c24_0 0
abbrev H24_0_0 : Slots := [(0, .t T22), (3, .rw T3), (4, .t T3), (5, .ptr [.t T36]), (14, .t T22), (15, .t T3), (16, .t T3), (21, .t T22), (22, .t T3), (23, .t T3)]
abbrev X24_0_0 : List (PX × Slots) := [(.ex 2, [(0, .t T22), (3, .rw T3), (14, .t T22), (15, .t T3), (16, .t T3)])]
noncomputable def E24_0_0 (k : Nat) : Nat → shsDen (H24_0_0.map (·.2)) → Option (XD X24_0_0) := loopF C16 Tryz.f24.ntmps (kpOf 0 I24) (Tf24 k) [] 1000 H24_0_0 X24_0_0 c24_0_0
noncomputable def L24_0_0 (k : Nat) : LSpec := ⟨H24_0_0, X24_0_0, E24_0_0 k k⟩
theorem Ls24_0_0 (k : Nat) : LSnd C16 Tryz.f24.ntmps (kpOf 0 I24) c24_0_0 (L24_0_0 k) :=
  lsnd_def (hT24 k) 1000 H24_0_0 X24_0_0 c24_0_0 (cs := []) (.nil) (by kernel_rfl) k
abbrev H24_0 : Slots := [(0, .t T22), (3, .rw T3), (14, .t T22), (15, .t T3), (16, .t T3)]
abbrev X24_0 : List (PX × Slots) := [(.ex 0, [(3, .rw T3)])]
noncomputable def E24_0 (k : Nat) : Nat → shsDen (H24_0.map (·.2)) → Option (XD X24_0) := loopF C16 Tryz.f24.ntmps (kpOf 0 I24) (Tf24 k) [(8, L24_0_0 k)] 1000 H24_0 X24_0 c24_0
noncomputable def L24_0 (k : Nat) : LSpec := ⟨H24_0, X24_0, E24_0 k k⟩
theorem Ls24_0 (k : Nat) : LSnd C16 Tryz.f24.ntmps (kpOf 0 I24) c24_0 (L24_0 k) :=
  lsnd_def (hT24 k) 1000 H24_0 X24_0 c24_0 (cs := [c24_0_0]) (.cons _ _ 8 _ (by kernel_rfl) rfl (Ls24_0_0 k) (.nil)) (by kernel_rfl) k
noncomputable def F24 (k : Nat) : shsDen I24 → Option (shsDen O24 × shsDen (shsUpd I24)) := funF C16 (Tf24 k) [(5, L24_0 k)] 1000 Tryz.f24 I24 O24
theorem snd24 (k : Nat) : Snd C16 24 ⟨I24, O24, F24 k⟩ :=
  snd_def (c := c24) (by kernel_rfl) (by kernel_rfl) (by kernel_rfl) (hT24 k) 1000 I24 O24 (cs := [c24_0]) (.cons _ _ 5 _ (by kernel_rfl) rfl (Ls24_0 k) (.nil)) (by kernel_rfl)

/-! ### f25 -/
abbrev I25 : List Sh := [.t T25]
abbrev O25 : List Sh := [.t T3]
noncomputable def c25 : Code := bodyOf Tryz.f25
noncomputable def Tf25 (k : Nat) : List (Nat × Spec) := []
theorem hT25 (k : Nat) : ∀ p, p ∈ Tf25 k → Snd C16 p.1 p.2 := hT_nil
noncomputable def c25_0 : Code := loopN c25 0
abbrev H25_0 : Slots := [(0, .t T25), (3, .t T3), (4, .t T3)]
abbrev X25_0 : List (PX × Slots) := [(.ex 0, [(3, .t T3)])]
noncomputable def E25_0 (k : Nat) : Nat → shsDen (H25_0.map (·.2)) → Option (XD X25_0) := loopF C16 Tryz.f25.ntmps (kpOf 0 I25) (Tf25 k) [] 1000 H25_0 X25_0 c25_0
noncomputable def L25_0 (k : Nat) : LSpec := ⟨H25_0, X25_0, E25_0 k k⟩
theorem Ls25_0 (k : Nat) : LSnd C16 Tryz.f25.ntmps (kpOf 0 I25) c25_0 (L25_0 k) :=
  lsnd_def (hT25 k) 1000 H25_0 X25_0 c25_0 (cs := []) (.nil) (by kernel_rfl) k
noncomputable def F25 (k : Nat) : shsDen I25 → Option (shsDen O25 × shsDen (shsUpd I25)) := funF C16 (Tf25 k) [(5, L25_0 k)] 1000 Tryz.f25 I25 O25
theorem snd25 (k : Nat) : Snd C16 25 ⟨I25, O25, F25 k⟩ :=
  snd_def (c := c25) (by kernel_rfl) (by kernel_rfl) (by kernel_rfl) (hT25 k) 1000 I25 O25 (cs := [c25_0]) (.cons _ _ 5 _ (by kernel_rfl) rfl (Ls25_0 k) (.nil)) (by kernel_rfl)

/-! ### f10 -/
abbrev I10 : List Sh := [.t T22]
abbrev O10 : List Sh := [.t T25, .t T26]
noncomputable def c10 : Code := bodyOf Tryz.f10
noncomputable def Tf10 (k : Nat) : List (Nat × Spec) := [(12, ⟨I12, O12, F12 k⟩), (24, ⟨I24, O24, F24 k⟩), (25, ⟨I25, O25, F25 k⟩)]
theorem hT10 (k : Nat) : ∀ p, p ∈ Tf10 k → Snd C16 p.1 p.2 := hT_cons (snd12 k) (hT_cons (snd24 k) (hT_cons (snd25 k) (hT_nil)))
noncomputable def c10_0 : Code := loopN c10 0
noncomputable def c10_0_0 : Code := loopN c10_0 0
abbrev H10_0_0 : Slots := [(0, .t T22), (4, .t T40), (5, .row T3), (6, .t T4), (7, .t T3), (8, .t T3), (10, .t T3), (21, .t T40), (22, .t T3), (23, .t T3), (28, .t T25), (29, .t T3), (30, .t T3)]
abbrev X10_0_0 : List (PX × Slots) := [(.ex 2, [(0, .t T22), (4, .t T40), (5, .row T3), (6, .t T4), (7, .t T3), (8, .t T3), (10, .t T3), (21, .t T40), (22, .t T3), (23, .t T3)])]
noncomputable def E10_0_0 (k : Nat) : Nat → shsDen (H10_0_0.map (·.2)) → Option (XD X10_0_0) := loopF C16 Tryz.f10.ntmps (kpOf 0 I10) (Tf10 k) [] 1000 H10_0_0 X10_0_0 c10_0_0
noncomputable def L10_0_0 (k : Nat) : LSpec := ⟨H10_0_0, X10_0_0, E10_0_0 k k⟩
theorem Ls10_0_0 (k : Nat) : LSnd C16 Tryz.f10.ntmps (kpOf 0 I10) c10_0_0 (L10_0_0 k) :=
  lsnd_def (hT10 k) 1000 H10_0_0 X10_0_0 c10_0_0 (cs := []) (.nil) (by kernel_rfl) k
abbrev H10_0 : Slots := [(0, .t T22), (4, .t T40), (5, .row T3), (6, .t T4), (7, .t T3), (21, .t T40), (22, .t T3), (23, .t T3)]
abbrev X10_0 : List (PX × Slots) := [(.ex 0, [(0, .t T22), (4, .t T40), (5, .row T3), (6, .t T4), (7, .t T3)])]
noncomputable def E10_0 (k : Nat) : Nat → shsDen (H10_0.map (·.2)) → Option (XD X10_0) := loopF C16 Tryz.f10.ntmps (kpOf 0 I10) (Tf10 k) [(12, L10_0_0 k)] 1000 H10_0 X10_0 c10_0
noncomputable def L10_0 (k : Nat) : LSpec := ⟨H10_0, X10_0, E10_0 k k⟩
theorem Ls10_0 (k : Nat) : LSnd C16 Tryz.f10.ntmps (kpOf 0 I10) c10_0 (L10_0 k) :=
  lsnd_def (hT10 k) 1000 H10_0 X10_0 c10_0 (cs := [c10_0_0]) (.cons _ _ 12 _ (by kernel_rfl) rfl (Ls10_0_0 k) (.nil)) (by kernel_rfl) k
noncomputable def B10 : Code := scopeN c10 0
noncomputable def r10 : Code := restOf B10 0
abbrev HS10 : Slots := [(0, .t T22), (4, .t T40), (5, .row T3), (7, .t T3)]
abbrev XS10 : List (PX × Slots) := [(.rt, [(2, .row T3), (3, .t T26)])]
noncomputable def ES10 (k : Nat) : Nat → shsDen (HS10.map (·.2)) → Option (XD XS10) := scopeF C16 Tryz.f10.ntmps (kpOf 0 I10) (Tf10 k) [(8, L10_0 k)] 1000 HS10 XS10 B10 r10 0
noncomputable def LS10 (k : Nat) : LSpec := ⟨HS10, XS10, ES10 k k⟩
theorem Ss10 (k : Nat) : SSnd C16 Tryz.f10.ntmps (kpOf 0 I10) B10 r10 (LS10 k) :=
  ssnd_def (hT10 k) 1000 HS10 XS10 (by kernel_rfl) (cs := [c10_0]) (.cons _ _ 8 _ (by kernel_rfl) rfl (Ls10_0 k) (.nil)) (by kernel_rfl) k
noncomputable def F10 (k : Nat) : shsDen I10 → Option (shsDen O10 × shsDen (shsUpd I10)) := funF C16 (Tf10 k) [(8, L10_0 k), (1000006, LS10 k)] 1000 Tryz.f10 I10 O10
theorem snd10 (k : Nat) : Snd C16 10 ⟨I10, O10, F10 k⟩ :=
  snd_defS (c := c10) (by kernel_rfl) (by kernel_rfl) (by kernel_rfl) (hT10 k) 1000 I10 O10 (cs := [c10_0]) (.cons _ _ 8 _ (by kernel_rfl) rfl (Ls10_0 k) (.nil)) (by kernel_rfl) (sok_one (k := 0) (B := B10) (l := 0) (r := r10) (by kernel_rfl) (by kernel_rfl) (by kernel_rfl) (by kernel_rfl) (Ss10 k))

/-! ### f14 -/
abbrev I14 : List Sh := [.t T25, .t T25]
abbrev O14 : List Sh := [.t T4]
noncomputable def c14 : Code := bodyOf Tryz.f14
noncomputable def Tf14 (k : Nat) : List (Nat × Spec) := []
theorem hT14 (k : Nat) : ∀ p, p ∈ Tf14 k → Snd C16 p.1 p.2 := hT_nil
noncomputable def c14_0 : Code := loopN c14 0
abbrev H14_0 : Slots := [(0, .t T25), (1, .t T25), (5, .t T3)]
abbrev X14_0 : List (PX × Slots) := [(.ex 0, []), (.rt, [(4, .t T4)])]
noncomputable def E14_0 (k : Nat) : Nat → shsDen (H14_0.map (·.2)) → Option (XD X14_0) := loopF C16 Tryz.f14.ntmps (kpOf 0 I14) (Tf14 k) [] 1000 H14_0 X14_0 c14_0
noncomputable def L14_0 (k : Nat) : LSpec := ⟨H14_0, X14_0, E14_0 k k⟩
theorem Ls14_0 (k : Nat) : LSnd C16 Tryz.f14.ntmps (kpOf 0 I14) c14_0 (L14_0 k) :=
  lsnd_def (hT14 k) 1000 H14_0 X14_0 c14_0 (cs := []) (.nil) (by kernel_rfl) k
noncomputable def F14 (k : Nat) : shsDen I14 → Option (shsDen O14 × shsDen (shsUpd I14)) := funF C16 (Tf14 k) [(4, L14_0 k)] 1000 Tryz.f14 I14 O14
theorem snd14 (k : Nat) : Snd C16 14 ⟨I14, O14, F14 k⟩ :=
  snd_def (c := c14) (by kernel_rfl) (by kernel_rfl) (by kernel_rfl) (hT14 k) 1000 I14 O14 (cs := [c14_0]) (.cons _ _ 4 _ (by kernel_rfl) rfl (Ls14_0 k) (.nil)) (by kernel_rfl)

/-! ### f46 -/
abbrev I46 : List Sh := [.t T3]
abbrev O46 : List Sh := [.t T4]
noncomputable def c46 : Code := bodyOf Tryz.f46
noncomputable def Tf46 (k : Nat) : List (Nat × Spec) := []
theorem hT46 (k : Nat) : ∀ p, p ∈ Tf46 k → Snd C16 p.1 p.2 := hT_nil
noncomputable def F46 (k : Nat) : shsDen I46 → Option (shsDen O46 × shsDen (shsUpd I46)) := funF C16 (Tf46 k) [] 1000 Tryz.f46 I46 O46
theorem snd46 (k : Nat) : Snd C16 46 ⟨I46, O46, F46 k⟩ :=
  snd_def (c := c46) (by kernel_rfl) (by kernel_rfl) (by kernel_rfl) (hT46 k) 1000 I46 O46 (cs := []) (.nil) (by kernel_rfl)

/-! ### f33 -/
abbrev I33 : List Sh := [.t T3, .t T3]
abbrev O33 : List Sh := [.t T3]
noncomputable def c33 : Code := bodyOf Tryz.f33
noncomputable def Tf33 (k : Nat) : List (Nat × Spec) := [(46, ⟨I46, O46, F46 k⟩)]
theorem hT33 (k : Nat) : ∀ p, p ∈ Tf33 k → Snd C16 p.1 p.2 := hT_cons (snd46 k) (hT_nil)
noncomputable def F33 (k : Nat) : shsDen I33 → Option (shsDen O33 × shsDen (shsUpd I33)) := funF C16 (Tf33 k) [] 1000 Tryz.f33 I33 O33
theorem snd33 (k : Nat) : Snd C16 33 ⟨I33, O33, F33 k⟩ :=
  snd_def (c := c33) (by kernel_rfl) (by kernel_rfl) (by kernel_rfl) (hT33 k) 1000 I33 O33 (cs := []) (.nil) (by kernel_rfl)

/-! ### f32 -/
abbrev I32 : List Sh := [.t T3, .t T3, .ptr [.t T25]]
abbrev O32 : List Sh := [.t T3]
noncomputable def c32 : Code := bodyOf Tryz.f32
noncomputable def Tf32 (k : Nat) : List (Nat × Spec) := [(33, ⟨I33, O33, F33 k⟩)]
theorem hT32 (k : Nat) : ∀ p, p ∈ Tf32 k → Snd C16 p.1 p.2 := hT_cons (snd33 k) (hT_nil)
noncomputable def F32 (k : Nat) : shsDen I32 → Option (shsDen O32 × shsDen (shsUpd I32)) := funF C16 (Tf32 k) [] 1000 Tryz.f32 I32 O32
theorem snd32 (k : Nat) : Snd C16 32 ⟨I32, O32, F32 k⟩ :=
  snd_def (c := c32) (by kernel_rfl) (by kernel_rfl) (by kernel_rfl) (hT32 k) 1000 I32 O32 (cs := []) (.nil) (by kernel_rfl)

/-! ### f64 -/
abbrev I64 : List Sh := [.mrow T3, .t T3, .t T3, .fn (.func 32) 1, .ptr [.t T25]]
abbrev O64 : List Sh := []
noncomputable def c64 : Code := bodyOf Tryz.f64
noncomputable def Tf64 (k : Nat) : List (Nat × Spec) := [(32, ⟨I32, O32, F32 k⟩)]
theorem hT64 (k : Nat) : ∀ p, p ∈ Tf64 k → Snd C16 p.1 p.2 := hT_cons (snd32 k) (hT_nil)
noncomputable def c64_0 : Code := loopN c64 0
noncomputable def c64_0_0 : Code := loopN c64_0 0
abbrev H64_0_0 : Slots := [(0, .mrow T3), (1, .t T3), (2, .t T3), (3, .fn (.func 32) 1), (1000300, .ptr [.t T25]), (8, .t T3), (9, .t T3)]
abbrev X64_0_0 : List (PX × Slots) := [(.ex 2, [(0, .mrow T3), (1, .t T3), (2, .t T3), (3, .fn (.func 32) 1), (1000300, .ptr [.t T25]), (8, .t T3)])]
noncomputable def E64_0_0 (k : Nat) : Nat → shsDen (H64_0_0.map (·.2)) → Option (XD X64_0_0) := loopF C16 Tryz.f64.ntmps (kpOf 0 I64) (Tf64 k) [] 1000 H64_0_0 X64_0_0 c64_0_0
noncomputable def L64_0_0 (k : Nat) : LSpec := ⟨H64_0_0, X64_0_0, E64_0_0 k k⟩
theorem Ls64_0_0 (k : Nat) : LSnd C16 Tryz.f64.ntmps (kpOf 0 I64) c64_0_0 (L64_0_0 k) :=
  lsnd_def (hT64 k) 1000 H64_0_0 X64_0_0 c64_0_0 (cs := []) (.nil) (by kernel_rfl) k
abbrev H64_0 : Slots := [(0, .mrow T3), (1, .t T3), (2, .t T3), (3, .fn (.func 32) 1), (1000300, .ptr [.t T25]), (8, .t T3)]
abbrev X64_0 : List (PX × Slots) := [(.ex 0, [(0, .mrow T3), (3, .fn (.func 32) 1), (1000300, .ptr [.t T25])])]
noncomputable def E64_0 (k : Nat) : Nat → shsDen (H64_0.map (·.2)) → Option (XD X64_0) := loopF C16 Tryz.f64.ntmps (kpOf 0 I64) (Tf64 k) [(4, L64_0_0 k)] 1000 H64_0 X64_0 c64_0
noncomputable def L64_0 (k : Nat) : LSpec := ⟨H64_0, X64_0, E64_0 k k⟩
theorem Ls64_0 (k : Nat) : LSnd C16 Tryz.f64.ntmps (kpOf 0 I64) c64_0 (L64_0 k) :=
  lsnd_def (hT64 k) 1000 H64_0 X64_0 c64_0 (cs := [c64_0_0]) (.cons _ _ 4 _ (by kernel_rfl) rfl (Ls64_0_0 k) (.nil)) (by kernel_rfl) k
noncomputable def F64 (k : Nat) : shsDen I64 → Option (shsDen O64 × shsDen (shsUpd I64)) := funF C16 (Tf64 k) [(1, L64_0 k)] 1000 Tryz.f64 I64 O64
theorem snd64 (k : Nat) : Snd C16 64 ⟨I64, O64, F64 k⟩ :=
  snd_def (c := c64) (by kernel_rfl) (by kernel_rfl) (by kernel_rfl) (hT64 k) 1000 I64 O64 (cs := [c64_0]) (.cons _ _ 1 _ (by kernel_rfl) rfl (Ls64_0 k) (.nil)) (by kernel_rfl)

/-! ### f45 -/
abbrev I45 : List Sh := [.mrow T3, .t T3, .fn (.func 32) 1, .ptr [.t T25]]
abbrev O45 : List Sh := []
noncomputable def c45 : Code := bodyOf Tryz.f45
noncomputable def Tf45 (k : Nat) : List (Nat × Spec) := [(64, ⟨I64, O64, F64 k⟩)]
theorem hT45 (k : Nat) : ∀ p, p ∈ Tf45 k → Snd C16 p.1 p.2 := hT_cons (snd64 k) (hT_nil)
noncomputable def c45_0 : Code := loopN c45 0
abbrev H45_0 : Slots := [(0, .mrow T3), (1, .t T3), (2, .fn (.func 32) 1), (1000200, .ptr [.t T25]), (6, .t T3), (7, .t T3), (8, .t T3)]
abbrev X45_0 : List (PX × Slots) := [(.ex 0, [(0, .mrow T3), (1, .t T3), (2, .fn (.func 32) 1), (1000200, .ptr [.t T25]), (6, .t T3), (7, .t T3)])]
noncomputable def E45_0 (k : Nat) : Nat → shsDen (H45_0.map (·.2)) → Option (XD X45_0) := loopF C16 Tryz.f45.ntmps (kpOf 0 I45) (Tf45 k) [] 1000 H45_0 X45_0 c45_0
noncomputable def L45_0 (k : Nat) : LSpec := ⟨H45_0, X45_0, E45_0 k k⟩
theorem Ls45_0 (k : Nat) : LSnd C16 Tryz.f45.ntmps (kpOf 0 I45) c45_0 (L45_0 k) :=
  lsnd_def (hT45 k) 1000 H45_0 X45_0 c45_0 (cs := []) (.nil) (by kernel_rfl) k
noncomputable def c45_1 : Code := loopN c45 1
noncomputable def c45_1_0 : Code := loopN c45_1 0
abbrev H45_1_0 : Slots := [(0, .mrow T3), (1, .t T3), (2, .fn (.func 32) 1), (1000200, .ptr [.t T25]), (6, .t T3), (7, .t T3), (8, .t T3)]
abbrev X45_1_0 : List (PX × Slots) := [(.ex 4, [(0, .mrow T3), (1, .t T3), (2, .fn (.func 32) 1), (1000200, .ptr [.t T25]), (6, .t T3), (7, .t T3)])]
noncomputable def E45_1_0 (k : Nat) : Nat → shsDen (H45_1_0.map (·.2)) → Option (XD X45_1_0) := loopF C16 Tryz.f45.ntmps (kpOf 0 I45) (Tf45 k) [] 1000 H45_1_0 X45_1_0 c45_1_0
noncomputable def L45_1_0 (k : Nat) : LSpec := ⟨H45_1_0, X45_1_0, E45_1_0 k k⟩
theorem Ls45_1_0 (k : Nat) : LSnd C16 Tryz.f45.ntmps (kpOf 0 I45) c45_1_0 (L45_1_0 k) :=
  lsnd_def (hT45 k) 1000 H45_1_0 X45_1_0 c45_1_0 (cs := []) (.nil) (by kernel_rfl) k
abbrev H45_1 : Slots := [(0, .mrow T3), (1, .t T3), (2, .fn (.func 32) 1), (1000200, .ptr [.t T25]), (6, .t T3)]
abbrev X45_1 : List (PX × Slots) := [(.ex 2, [(0, .mrow T3), (2, .fn (.func 32) 1), (1000200, .ptr [.t T25])])]
noncomputable def E45_1 (k : Nat) : Nat → shsDen (H45_1.map (·.2)) → Option (XD X45_1) := loopF C16 Tryz.f45.ntmps (kpOf 0 I45) (Tf45 k) [(9, L45_1_0 k)] 1000 H45_1 X45_1 c45_1
noncomputable def L45_1 (k : Nat) : LSpec := ⟨H45_1, X45_1, E45_1 k k⟩
theorem Ls45_1 (k : Nat) : LSnd C16 Tryz.f45.ntmps (kpOf 0 I45) c45_1 (L45_1 k) :=
  lsnd_def (hT45 k) 1000 H45_1 X45_1 c45_1 (cs := [c45_1_0]) (.cons _ _ 9 _ (by kernel_rfl) rfl (Ls45_1_0 k) (.nil)) (by kernel_rfl) k
noncomputable def F45 (k : Nat) : shsDen I45 → Option (shsDen O45 × shsDen (shsUpd I45)) := funF C16 (Tf45 k) [(2, L45_0 k), (7, L45_1 k)] 1000 Tryz.f45 I45 O45
theorem snd45 (k : Nat) : Snd C16 45 ⟨I45, O45, F45 k⟩ :=
  snd_def (c := c45) (by kernel_rfl) (by kernel_rfl) (by kernel_rfl) (hT45 k) 1000 I45 O45 (cs := [c45_0, c45_1]) (.cons _ _ 2 _ (by kernel_rfl) rfl (Ls45_0 k) (.cons _ _ 7 _ (by kernel_rfl) rfl (Ls45_1 k) (.nil))) (by kernel_rfl)

/-! ### f31 -/
abbrev I31 : List Sh := [.mrow T3, .fn (.func 32) 1, .ptr [.t T25]]
abbrev O31 : List Sh := []
noncomputable def c31 : Code := bodyOf Tryz.f31
noncomputable def Tf31 (k : Nat) : List (Nat × Spec) := [(45, ⟨I45, O45, F45 k⟩)]
theorem hT31 (k : Nat) : ∀ p, p ∈ Tf31 k → Snd C16 p.1 p.2 := hT_cons (snd45 k) (hT_nil)
noncomputable def F31 (k : Nat) : shsDen I31 → Option (shsDen O31 × shsDen (shsUpd I31)) := funF C16 (Tf31 k) [] 1000 Tryz.f31 I31 O31
theorem snd31 (k : Nat) : Snd C16 31 ⟨I31, O31, F31 k⟩ :=
  snd_def (c := c31) (by kernel_rfl) (by kernel_rfl) (by kernel_rfl) (hT31 k) 1000 I31 O31 (cs := []) (.nil) (by kernel_rfl)

/-! ### f15 -/
abbrev I15 : List Sh := [.t T22]
abbrev O15 : List Sh := [.t T25]
noncomputable def c15 : Code := bodyOf Tryz.f15
noncomputable def Tf15 (k : Nat) : List (Nat × Spec) := [(10, ⟨I10, O10, F10 k⟩), (31, ⟨I31, O31, F31 k⟩)]
theorem hT15 (k : Nat) : ∀ p, p ∈ Tf15 k → Snd C16 p.1 p.2 := hT_cons (snd10 k) (hT_cons (snd31 k) (hT_nil))
noncomputable def c15_0 : Code := loopN c15 0
abbrev H15_0 : Slots := [(3, .ptr [.t T25]), (5, .row T3), (13, .t T3), (14, .t T3)]
abbrev X15_0 : List (PX × Slots) := [(.ex 0, [(3, .ptr [.t T25]), (5, .row T3)])]
noncomputable def E15_0 (k : Nat) : Nat → shsDen (H15_0.map (·.2)) → Option (XD X15_0) := loopF C16 Tryz.f15.ntmps (kpOf 0 I15) (Tf15 k) [] 1000 H15_0 X15_0 c15_0
noncomputable def L15_0 (k : Nat) : LSpec := ⟨H15_0, X15_0, E15_0 k k⟩
theorem Ls15_0 (k : Nat) : LSnd C16 Tryz.f15.ntmps (kpOf 0 I15) c15_0 (L15_0 k) :=
  lsnd_def (hT15 k) 1000 H15_0 X15_0 c15_0 (cs := []) (.nil) (by kernel_rfl) k
noncomputable def F15 (k : Nat) : shsDen I15 → Option (shsDen O15 × shsDen (shsUpd I15)) := funF C16 (Tf15 k) [(4, L15_0 k)] 1000 Tryz.f15 I15 O15
theorem snd15 (k : Nat) : Snd C16 15 ⟨I15, O15, F15 k⟩ :=
  snd_def (c := c15) (by kernel_rfl) (by kernel_rfl) (by kernel_rfl) (hT15 k) 1000 I15 O15 (cs := [c15_0]) (.cons _ _ 4 _ (by kernel_rfl) rfl (Ls15_0 k) (.nil)) (by kernel_rfl)

/-! ### f17 -/
abbrev I17 : List Sh := [.t T22, .t T3]
abbrev O17 : List Sh := [.t T25]
noncomputable def c17 : Code := bodyOf Tryz.f17
noncomputable def Tf17 (k : Nat) : List (Nat × Spec) := [(24, ⟨I24, O24, F24 k⟩)]
theorem hT17 (k : Nat) : ∀ p, p ∈ Tf17 k → Snd C16 p.1 p.2 := hT_cons (snd24 k) (hT_nil)
noncomputable def F17 (k : Nat) : shsDen I17 → Option (shsDen O17 × shsDen (shsUpd I17)) := funF C16 (Tf17 k) [] 1000 Tryz.f17 I17 O17
theorem snd17 (k : Nat) : Snd C16 17 ⟨I17, O17, F17 k⟩ :=
  snd_def (c := c17) (by kernel_rfl) (by kernel_rfl) (by kernel_rfl) (hT17 k) 1000 I17 O17 (cs := []) (.nil) (by kernel_rfl)

/-! ### f48 -/
abbrev I48 : List Sh := [.t T25, .t T3]
abbrev O48 : List Sh := [.t T3]
noncomputable def c48 : Code := bodyOf Tryz.f48
noncomputable def Tf48 (k : Nat) : List (Nat × Spec) := []
theorem hT48 (k : Nat) : ∀ p, p ∈ Tf48 k → Snd C16 p.1 p.2 := hT_nil
noncomputable def c48_0 : Code := loopN c48 0
abbrev H48_0 : Slots := [(0, .t T25), (1, .t T3), (7, .t T3), (8, .t T3)]
abbrev X48_0 : List (PX × Slots) := [(.ex 0, []), (.rt, [(4, .t T3)])]
noncomputable def E48_0 (k : Nat) : Nat → shsDen (H48_0.map (·.2)) → Option (XD X48_0) := loopF C16 Tryz.f48.ntmps (kpOf 0 I48) (Tf48 k) [] 1000 H48_0 X48_0 c48_0
noncomputable def L48_0 (k : Nat) : LSpec := ⟨H48_0, X48_0, E48_0 k k⟩
theorem Ls48_0 (k : Nat) : LSnd C16 Tryz.f48.ntmps (kpOf 0 I48) c48_0 (L48_0 k) :=
  lsnd_def (hT48 k) 1000 H48_0 X48_0 c48_0 (cs := []) (.nil) (by kernel_rfl) k
noncomputable def F48 (k : Nat) : shsDen I48 → Option (shsDen O48 × shsDen (shsUpd I48)) := funF C16 (Tf48 k) [(2, L48_0 k)] 1000 Tryz.f48 I48 O48
theorem snd48 (k : Nat) : Snd C16 48 ⟨I48, O48, F48 k⟩ :=
  snd_def (c := c48) (by kernel_rfl) (by kernel_rfl) (by kernel_rfl) (hT48 k) 1000 I48 O48 (cs := [c48_0]) (.cons _ _ 2 _ (by kernel_rfl) rfl (Ls48_0 k) (.nil)) (by kernel_rfl)

/-! ### f35 -/
abbrev I35 : List Sh := [.t T25, .t T3]
abbrev O35 : List Sh := [.t T4]
noncomputable def c35 : Code := bodyOf Tryz.f35
noncomputable def Tf35 (k : Nat) : List (Nat × Spec) := [(48, ⟨I48, O48, F48 k⟩)]
theorem hT35 (k : Nat) : ∀ p, p ∈ Tf35 k → Snd C16 p.1 p.2 := hT_cons (snd48 k) (hT_nil)
noncomputable def F35 (k : Nat) : shsDen I35 → Option (shsDen O35 × shsDen (shsUpd I35)) := funF C16 (Tf35 k) [] 1000 Tryz.f35 I35 O35
theorem snd35 (k : Nat) : Snd C16 35 ⟨I35, O35, F35 k⟩ :=
  snd_def (c := c35) (by kernel_rfl) (by kernel_rfl) (by kernel_rfl) (hT35 k) 1000 I35 O35 (cs := []) (.nil) (by kernel_rfl)

/-! ### f75 -/
abbrev I75 : List Sh := [.t T105]
abbrev O75 : List Sh := [.t T3]
noncomputable def c75 : Code := bodyOf Tryz.f75
noncomputable def Tf75 (k : Nat) : List (Nat × Spec) := []
theorem hT75 (k : Nat) : ∀ p, p ∈ Tf75 k → Snd C16 p.1 p.2 := hT_nil
noncomputable def F75 (k : Nat) : shsDen I75 → Option (shsDen O75 × shsDen (shsUpd I75)) := funF C16 (Tf75 k) [] 1000 Tryz.f75 I75 O75
theorem snd75 (k : Nat) : Snd C16 75 ⟨I75, O75, F75 k⟩ :=
  snd_def (c := c75) (by kernel_rfl) (by kernel_rfl) (by kernel_rfl) (hT75 k) 1000 I75 O75 (cs := []) (.nil) (by kernel_rfl)

/-! ### f76 -/
abbrev I76 : List Sh := [.t T107]
abbrev O76 : List Sh := [.t T3]
noncomputable def c76 : Code := bodyOf Tryz.f76
noncomputable def Tf76 (k : Nat) : List (Nat × Spec) := []
theorem hT76 (k : Nat) : ∀ p, p ∈ Tf76 k → Snd C16 p.1 p.2 := hT_nil
noncomputable def F76 (k : Nat) : shsDen I76 → Option (shsDen O76 × shsDen (shsUpd I76)) := funF C16 (Tf76 k) [] 1000 Tryz.f76 I76 O76
theorem snd76 (k : Nat) : Snd C16 76 ⟨I76, O76, F76 k⟩ :=
  snd_def (c := c76) (by kernel_rfl) (by kernel_rfl) (by kernel_rfl) (hT76 k) 1000 I76 O76 (cs := []) (.nil) (by kernel_rfl)

/-! ### f50 -/
abbrev I50 : List Sh := [.t T69]
abbrev O50 : List Sh := [.t T3]
noncomputable def c50 : Code := bodyOf Tryz.f50
noncomputable def Tf50 (k : Nat) : List (Nat × Spec) := [(75, ⟨I75, O75, F75 k⟩), (76, ⟨I76, O76, F76 k⟩)]
theorem hT50 (k : Nat) : ∀ p, p ∈ Tf50 k → Snd C16 p.1 p.2 := hT_cons (snd75 k) (hT_cons (snd76 k) (hT_nil))
noncomputable def F50 (k : Nat) : shsDen I50 → Option (shsDen O50 × shsDen (shsUpd I50)) := funF C16 (Tf50 k) [] 1000 Tryz.f50 I50 O50
theorem snd50 (k : Nat) : Snd C16 50 ⟨I50, O50, F50 k⟩ :=
  snd_def (c := c50) (by kernel_rfl) (by kernel_rfl) (by kernel_rfl) (hT50 k) 1000 I50 O50 (cs := []) (.nil) (by kernel_rfl)

/-! ### f72 -/
abbrev I72 : List Sh := [.t T3, .t T3]
abbrev O72 : List Sh := [.t T4]
noncomputable def c72 : Code := bodyOf Tryz.f72
noncomputable def Tf72 (k : Nat) : List (Nat × Spec) := [(46, ⟨I46, O46, F46 k⟩)]
theorem hT72 (k : Nat) : ∀ p, p ∈ Tf72 k → Snd C16 p.1 p.2 := hT_cons (snd46 k) (hT_nil)
noncomputable def F72 (k : Nat) : shsDen I72 → Option (shsDen O72 × shsDen (shsUpd I72)) := funF C16 (Tf72 k) [] 1000 Tryz.f72 I72 O72
theorem snd72 (k : Nat) : Snd C16 72 ⟨I72, O72, F72 k⟩ :=
  snd_def (c := c72) (by kernel_rfl) (by kernel_rfl) (by kernel_rfl) (hT72 k) 1000 I72 O72 (cs := []) (.nil) (by kernel_rfl)

/-! ### f66 -/
abbrev I66 : List Sh := [.mrow T3, .t T3, .t T3]
abbrev O66 : List Sh := []
noncomputable def c66 : Code := bodyOf Tryz.f66
noncomputable def Tf66 (k : Nat) : List (Nat × Spec) := [(72, ⟨I72, O72, F72 k⟩)]
theorem hT66 (k : Nat) : ∀ p, p ∈ Tf66 k → Snd C16 p.1 p.2 := hT_cons (snd72 k) (hT_nil)
noncomputable def c66_0 : Code := loopN c66 0
noncomputable def c66_0_0 : Code := loopN c66_0 0
abbrev H66_0_0 : Slots := [(0, .mrow T3), (1, .t T3), (2, .t T3), (6, .t T3), (7, .t T3)]
abbrev X66_0_0 : List (PX × Slots) := [(.ex 2, [(0, .mrow T3), (1, .t T3), (2, .t T3), (6, .t T3)])]
noncomputable def E66_0_0 (k : Nat) : Nat → shsDen (H66_0_0.map (·.2)) → Option (XD X66_0_0) := loopF C16 Tryz.f66.ntmps (kpOf 0 I66) (Tf66 k) [] 1000 H66_0_0 X66_0_0 c66_0_0
noncomputable def L66_0_0 (k : Nat) : LSpec := ⟨H66_0_0, X66_0_0, E66_0_0 k k⟩
theorem Ls66_0_0 (k : Nat) : LSnd C16 Tryz.f66.ntmps (kpOf 0 I66) c66_0_0 (L66_0_0 k) :=
  lsnd_def (hT66 k) 1000 H66_0_0 X66_0_0 c66_0_0 (cs := []) (.nil) (by kernel_rfl) k
abbrev H66_0 : Slots := [(0, .mrow T3), (1, .t T3), (2, .t T3), (6, .t T3)]
abbrev X66_0 : List (PX × Slots) := [(.ex 0, [(0, .mrow T3)])]
noncomputable def E66_0 (k : Nat) : Nat → shsDen (H66_0.map (·.2)) → Option (XD X66_0) := loopF C16 Tryz.f66.ntmps (kpOf 0 I66) (Tf66 k) [(4, L66_0_0 k)] 1000 H66_0 X66_0 c66_0
noncomputable def L66_0 (k : Nat) : LSpec := ⟨H66_0, X66_0, E66_0 k k⟩
theorem Ls66_0 (k : Nat) : LSnd C16 Tryz.f66.ntmps (kpOf 0 I66) c66_0 (L66_0 k) :=
  lsnd_def (hT66 k) 1000 H66_0 X66_0 c66_0 (cs := [c66_0_0]) (.cons _ _ 4 _ (by kernel_rfl) rfl (Ls66_0_0 k) (.nil)) (by kernel_rfl) k
noncomputable def F66 (k : Nat) : shsDen I66 → Option (shsDen O66 × shsDen (shsUpd I66)) := funF C16 (Tf66 k) [(1, L66_0 k)] 1000 Tryz.f66 I66 O66
theorem snd66 (k : Nat) : Snd C16 66 ⟨I66, O66, F66 k⟩ :=
  snd_def (c := c66) (by kernel_rfl) (by kernel_rfl) (by kernel_rfl) (hT66 k) 1000 I66 O66 (cs := [c66_0]) (.cons _ _ 1 _ (by kernel_rfl) rfl (Ls66_0 k) (.nil)) (by kernel_rfl)

/-! ### f49 -/
abbrev I49 : List Sh := [.mrow T3, .t T3, .t T3, .t T3]
abbrev O49 : List Sh := []
noncomputable def c49 : Code := bodyOf Tryz.f49
noncomputable def Tf49 (k : Nat) : List (Nat × Spec) := [(66, ⟨I66, O66, F66 k⟩), (72, ⟨I72, O72, F72 k⟩)]
theorem hT49 (k : Nat) : ∀ p, p ∈ Tf49 k → Snd C16 p.1 p.2 := hT_cons (snd66 k) (hT_cons (snd72 k) (hT_nil))
noncomputable def c49_0 : Code := loopN c49 0
abbrev H49_0 : Slots := [(0, .mrow T3), (1, .t T3), (2, .t T3), (3, .t T3), (8, .t T4), (9, .t T4)]
abbrev X49_0 : List (PX × Slots) := [(.rt, [(0, .mrow T3)])]
noncomputable def E49_0 (k : Nat) : Nat → shsDen (H49_0.map (·.2)) → Option (XD X49_0) := loopF C16 Tryz.f49.ntmps (kpOf 0 I49) (Tf49 k) [] 1000 H49_0 X49_0 c49_0
noncomputable def L49_0 (k : Nat) : LSpec := ⟨H49_0, X49_0, E49_0 k k⟩
theorem Ls49_0 (k : Nat) : LSnd C16 Tryz.f49.ntmps (kpOf 0 I49) c49_0 (L49_0 k) :=
  lsnd_def (hT49 k) 1000 H49_0 X49_0 c49_0 (cs := []) (.nil) (by kernel_rfl) k
noncomputable def F49 (k : Nat) : shsDen I49 → Option (shsDen O49 × shsDen (shsUpd I49)) := funF C16 (Tf49 k) [(2, L49_0 k)] 1000 Tryz.f49 I49 O49
theorem snd49 (k : Nat) : Snd C16 49 ⟨I49, O49, F49 k⟩ :=
  snd_def (c := c49) (by kernel_rfl) (by kernel_rfl) (by kernel_rfl) (hT49 k) 1000 I49 O49 (cs := [c49_0]) (.cons _ _ 2 _ (by kernel_rfl) rfl (Ls49_0 k) (.nil)) (by kernel_rfl)

/-! ### f36 -/
abbrev I36 : List Sh := [.mrow T3]
abbrev O36 : List Sh := []
noncomputable def c36 : Code := bodyOf Tryz.f36
noncomputable def Tf36 (k : Nat) : List (Nat × Spec) := [(50, ⟨I50, O50, F50 k⟩), (49, ⟨I49, O49, F49 k⟩)]
theorem hT36 (k : Nat) : ∀ p, p ∈ Tf36 k → Snd C16 p.1 p.2 := hT_cons (snd50 k) (hT_cons (snd49 k) (hT_nil))
noncomputable def F36 (k : Nat) : shsDen I36 → Option (shsDen O36 × shsDen (shsUpd I36)) := funF C16 (Tf36 k) [] 1000 Tryz.f36 I36 O36
theorem snd36 (k : Nat) : Snd C16 36 ⟨I36, O36, F36 k⟩ :=
  snd_def (c := c36) (by kernel_rfl) (by kernel_rfl) (by kernel_rfl) (hT36 k) 1000 I36 O36 (cs := []) (.nil) (by kernel_rfl)

/-! ### f19 -/
abbrev I19 : List Sh := [.t T22, .t T3]
abbrev O19 : List Sh := [.t T25]
noncomputable def c19 : Code := bodyOf Tryz.f19
noncomputable def Tf19 (k : Nat) : List (Nat × Spec) := [(24, ⟨I24, O24, F24 k⟩), (35, ⟨I35, O35, F35 k⟩), (36, ⟨I36, O36, F36 k⟩)]
theorem hT19 (k : Nat) : ∀ p, p ∈ Tf19 k → Snd C16 p.1 p.2 := hT_cons (snd24 k) (hT_cons (snd35 k) (hT_cons (snd36 k) (hT_nil)))
noncomputable def c19_0 : Code := loopN c19 0
noncomputable def c19_0_0 : Code := loopN c19_0 0
abbrev H19_0_0 : Slots := [(5, .t T40), (6, .row T3), (7, .row T3), (27, .t T40), (28, .t T3), (29, .t T3)]
abbrev X19_0_0 : List (PX × Slots) := [(.ex 2, [(5, .t T40), (6, .row T3), (7, .row T3)])]
noncomputable def E19_0_0 (k : Nat) : Nat → shsDen (H19_0_0.map (·.2)) → Option (XD X19_0_0) := loopF C16 Tryz.f19.ntmps (kpOf 0 I19) (Tf19 k) [] 1000 H19_0_0 X19_0_0 c19_0_0
noncomputable def L19_0_0 (k : Nat) : LSpec := ⟨H19_0_0, X19_0_0, E19_0_0 k k⟩
theorem Ls19_0_0 (k : Nat) : LSnd C16 Tryz.f19.ntmps (kpOf 0 I19) c19_0_0 (L19_0_0 k) :=
  lsnd_def (hT19 k) 1000 H19_0_0 X19_0_0 c19_0_0 (cs := []) (.nil) (by kernel_rfl) k
abbrev H19_0 : Slots := [(5, .t T40), (6, .row T3), (7, .row T3)]
abbrev X19_0 : List (PX × Slots) := [(.ex 0, [(6, .row T3)])]
noncomputable def E19_0 (k : Nat) : Nat → shsDen (H19_0.map (·.2)) → Option (XD X19_0) := loopF C16 Tryz.f19.ntmps (kpOf 0 I19) (Tf19 k) [(9, L19_0_0 k)] 1000 H19_0 X19_0 c19_0
noncomputable def L19_0 (k : Nat) : LSpec := ⟨H19_0, X19_0, E19_0 k k⟩
theorem Ls19_0 (k : Nat) : LSnd C16 Tryz.f19.ntmps (kpOf 0 I19) c19_0 (L19_0 k) :=
  lsnd_def (hT19 k) 1000 H19_0 X19_0 c19_0 (cs := [c19_0_0]) (.cons _ _ 9 _ (by kernel_rfl) rfl (Ls19_0_0 k) (.nil)) (by kernel_rfl) k
noncomputable def F19 (k : Nat) : shsDen I19 → Option (shsDen O19 × shsDen (shsUpd I19)) := funF C16 (Tf19 k) [(6, L19_0 k)] 1000 Tryz.f19 I19 O19
theorem snd19 (k : Nat) : Snd C16 19 ⟨I19, O19, F19 k⟩ :=
  snd_def (c := c19) (by kernel_rfl) (by kernel_rfl) (by kernel_rfl) (hT19 k) 1000 I19 O19 (cs := [c19_0]) (.cons _ _ 6 _ (by kernel_rfl) rfl (Ls19_0 k) (.nil)) (by kernel_rfl)

/-! ### f8 -/
abbrev I8 : List Sh := []
abbrev O8 : List Sh := [.t T4]
noncomputable def c8 : Code := bodyOf Tryz.f8
noncomputable def Tf8 (k : Nat) : List (Nat × Spec) := [(22, ⟨I22, O22, F22 k⟩), (10, ⟨I10, O10, F10 k⟩), (14, ⟨I14, O14, F14 k⟩), (15, ⟨I15, O15, F15 k⟩), (17, ⟨I17, O17, F17 k⟩), (19, ⟨I19, O19, F19 k⟩), (12, ⟨I12, O12, F12 k⟩)]
theorem hT8 (k : Nat) : ∀ p, p ∈ Tf8 k → Snd C16 p.1 p.2 := hT_cons (snd22 k) (hT_cons (snd10 k) (hT_cons (snd14 k) (hT_cons (snd15 k) (hT_cons (snd17 k) (hT_cons (snd19 k) (hT_cons (snd12 k) (hT_nil)))))))
noncomputable def F8 (k : Nat) : shsDen I8 → Option (shsDen O8 × shsDen (shsUpd I8)) := funF C16 (Tf8 k) [] 1000 Tryz.f8 I8 O8
theorem snd8 (k : Nat) : Snd C16 8 ⟨I8, O8, F8 k⟩ :=
  snd_def (c := c8) (by kernel_rfl) (by kernel_rfl) (by kernel_rfl) (hT8 k) 1000 I8 O8 (cs := []) (.nil) (by kernel_rfl)

/-! ### f54 -/
abbrev I54 : List Sh := [.t T84, .t T3]
abbrev O54 : List Sh := [.t T3]
noncomputable def c54 : Code := bodyOf Tryz.f54
noncomputable def Tf54 (k : Nat) (s54 : shsDen I54 → Option (shsDen O54 × shsDen (shsUpd I54))) : List (Nat × Spec) := [(54, ⟨I54, O54, s54⟩)]
theorem hT54 (k : Nat) (s54 : shsDen I54 → Option (shsDen O54 × shsDen (shsUpd I54))) (h54 : Snd C16 54 ⟨I54, O54, s54⟩) : ∀ p, p ∈ Tf54 k s54 → Snd C16 p.1 p.2 := hT_cons h54 (hT_nil)
noncomputable def c54_0 : Code := loopN c54 0
abbrev H54_0 : Slots := [(1, .t T3), (2, .ptr [.t T84]), (5, .t T3), (6, .t T3)]
abbrev X54_0 : List (PX × Slots) := [(.ex 0, [(5, .t T3)])]
noncomputable def E54_0 (k : Nat) (s54 : shsDen I54 → Option (shsDen O54 × shsDen (shsUpd I54))) : Nat → shsDen (H54_0.map (·.2)) → Option (XD X54_0) := loopF C16 Tryz.f54.ntmps (kpOf 0 I54) (Tf54 k s54) [] 1000 H54_0 X54_0 c54_0
noncomputable def L54_0 (k : Nat) (s54 : shsDen I54 → Option (shsDen O54 × shsDen (shsUpd I54))) : LSpec := ⟨H54_0, X54_0, E54_0 k s54 k⟩
theorem Ls54_0 (k : Nat) (s54 : shsDen I54 → Option (shsDen O54 × shsDen (shsUpd I54))) (h54 : Snd C16 54 ⟨I54, O54, s54⟩) : LSnd C16 Tryz.f54.ntmps (kpOf 0 I54) c54_0 (L54_0 k s54) :=
  lsnd_def (hT54 k s54 h54) 1000 H54_0 X54_0 c54_0 (cs := []) (.nil) (by kernel_rfl) k
noncomputable def G54 (k : Nat) (s54 : shsDen I54 → Option (shsDen O54 × shsDen (shsUpd I54))) : shsDen I54 → Option (shsDen O54 × shsDen (shsUpd I54)) := funF C16 (Tf54 k s54) [(3, L54_0 k s54)] 1000 Tryz.f54 I54 O54
theorem sndG54 (k : Nat) (s54 : shsDen I54 → Option (shsDen O54 × shsDen (shsUpd I54))) (h54 : Snd C16 54 ⟨I54, O54, s54⟩) : Snd C16 54 ⟨I54, O54, G54 k s54⟩ :=
  snd_def (c := c54) (by kernel_rfl) (by kernel_rfl) (by kernel_rfl) (hT54 k s54 h54) 1000 I54 O54 (cs := [c54_0]) (.cons _ _ 3 _ (by kernel_rfl) rfl (Ls54_0 k s54 h54) (.nil)) (by kernel_rfl)
noncomputable def R54 (k : Nat) : Nat → shsDen I54 → Option (shsDen O54 × shsDen (shsUpd I54))
  | 0 => fun _ => none
  | d + 1 => G54 k (R54 k d)
theorem sndR54 (k : Nat) : ∀ d, Snd C16 54 ⟨I54, O54, R54 k d⟩
  | 0 => snd_none (enter_of (fn := Tryz.f54) (c := c54) (by kernel_rfl) (by kernel_rfl) (by kernel_rfl))
  | d + 1 => sndG54 k _ (sndR54 k d)
noncomputable def F54 (k : Nat) : shsDen I54 → Option (shsDen O54 × shsDen (shsUpd I54)) := R54 k k
theorem snd54 (k : Nat) : Snd C16 54 ⟨I54, O54, F54 k⟩ := sndR54 k k

/-! ### f38 -/
abbrev I38 : List Sh := [.t T53]
abbrev O38 : List Sh := [.t T4]
noncomputable def c38 : Code := bodyOf Tryz.f38
noncomputable def Tf38 (k : Nat) : List (Nat × Spec) := [(54, ⟨I54, O54, F54 k⟩)]
theorem hT38 (k : Nat) : ∀ p, p ∈ Tf38 k → Snd C16 p.1 p.2 := hT_cons (snd54 k) (hT_nil)
noncomputable def c38_0 : Code := loopN c38 0
noncomputable def c38_0_0 : Code := loopN c38_0 0
abbrev H38_0_0 : Slots := [(1, .ptr [.t T53]), (3, .t T3), (4, .t T3), (5, .t T3)]
abbrev X38_0_0 : List (PX × Slots) := [(.ex 2, [(1, .ptr [.t T53]), (3, .t T3), (4, .t T3)])]
noncomputable def E38_0_0 (k : Nat) : Nat → shsDen (H38_0_0.map (·.2)) → Option (XD X38_0_0) := loopF C16 Tryz.f38.ntmps (kpOf 0 I38) (Tf38 k) [] 1000 H38_0_0 X38_0_0 c38_0_0
noncomputable def L38_0_0 (k : Nat) : LSpec := ⟨H38_0_0, X38_0_0, E38_0_0 k k⟩
theorem Ls38_0_0 (k : Nat) : LSnd C16 Tryz.f38.ntmps (kpOf 0 I38) c38_0_0 (L38_0_0 k) :=
  lsnd_def (hT38 k) 1000 H38_0_0 X38_0_0 c38_0_0 (cs := []) (.nil) (by kernel_rfl) k
abbrev H38_0 : Slots := [(1, .ptr [.t T53]), (3, .t T3), (4, .t T3)]
abbrev X38_0 : List (PX × Slots) := [(.ex 0, [(1, .ptr [.t T53]), (3, .t T3)])]
noncomputable def E38_0 (k : Nat) : Nat → shsDen (H38_0.map (·.2)) → Option (XD X38_0) := loopF C16 Tryz.f38.ntmps (kpOf 0 I38) (Tf38 k) [(7, L38_0_0 k)] 1000 H38_0 X38_0 c38_0
noncomputable def L38_0 (k : Nat) : LSpec := ⟨H38_0, X38_0, E38_0 k k⟩
theorem Ls38_0 (k : Nat) : LSnd C16 Tryz.f38.ntmps (kpOf 0 I38) c38_0 (L38_0 k) :=
  lsnd_def (hT38 k) 1000 H38_0 X38_0 c38_0 (cs := [c38_0_0]) (.cons _ _ 7 _ (by kernel_rfl) rfl (Ls38_0_0 k) (.nil)) (by kernel_rfl) k
noncomputable def c38_1 : Code := loopN c38 1
abbrev H38_1 : Slots := [(1, .ptr [.t T53]), (3, .t T3), (6, .t T3)]
abbrev X38_1 : List (PX × Slots) := [(.ex 4, [(3, .t T3)])]
noncomputable def E38_1 (k : Nat) : Nat → shsDen (H38_1.map (·.2)) → Option (XD X38_1) := loopF C16 Tryz.f38.ntmps (kpOf 0 I38) (Tf38 k) [] 1000 H38_1 X38_1 c38_1
noncomputable def L38_1 (k : Nat) : LSpec := ⟨H38_1, X38_1, E38_1 k k⟩
theorem Ls38_1 (k : Nat) : LSnd C16 Tryz.f38.ntmps (kpOf 0 I38) c38_1 (L38_1 k) :=
  lsnd_def (hT38 k) 1000 H38_1 X38_1 c38_1 (cs := []) (.nil) (by kernel_rfl) k
noncomputable def F38 (k : Nat) : shsDen I38 → Option (shsDen O38 × shsDen (shsUpd I38)) := funF C16 (Tf38 k) [(3, L38_0 k), (11, L38_1 k)] 1000 Tryz.f38 I38 O38
theorem snd38 (k : Nat) : Snd C16 38 ⟨I38, O38, F38 k⟩ :=
  snd_def (c := c38) (by kernel_rfl) (by kernel_rfl) (by kernel_rfl) (hT38 k) 1000 I38 O38 (cs := [c38_0, c38_1]) (.cons _ _ 3 _ (by kernel_rfl) rfl (Ls38_0 k) (.cons _ _ 11 _ (by kernel_rfl) rfl (Ls38_1 k) (.nil))) (by kernel_rfl)

/-! ### f23 -/
abbrev I23 : List Sh := [.t T34]
abbrev O23 : List Sh := [.t T4]
noncomputable def c23 : Code := bodyOf Tryz.f23
noncomputable def Tf23 (k : Nat) : List (Nat × Spec) := [(38, ⟨I38, O38, F38 k⟩)]
theorem hT23 (k : Nat) : ∀ p, p ∈ Tf23 k → Snd C16 p.1 p.2 := hT_cons (snd38 k) (hT_nil)
noncomputable def c23_0 : Code := loopN c23 0
abbrev H23_0 : Slots := [(0, .t T34), (3, .t T3)]
abbrev X23_0 : List (PX × Slots) := [(.ex 0, [(0, .t T34)]), (.rt, [(2, .t T4)])]
noncomputable def E23_0 (k : Nat) : Nat → shsDen (H23_0.map (·.2)) → Option (XD X23_0) := loopF C16 Tryz.f23.ntmps (kpOf 0 I23) (Tf23 k) [] 1000 H23_0 X23_0 c23_0
noncomputable def L23_0 (k : Nat) : LSpec := ⟨H23_0, X23_0, E23_0 k k⟩
theorem Ls23_0 (k : Nat) : LSnd C16 Tryz.f23.ntmps (kpOf 0 I23) c23_0 (L23_0 k) :=
  lsnd_def (hT23 k) 1000 H23_0 X23_0 c23_0 (cs := []) (.nil) (by kernel_rfl) k
noncomputable def F23 (k : Nat) : shsDen I23 → Option (shsDen O23 × shsDen (shsUpd I23)) := funF C16 (Tf23 k) [(2, L23_0 k)] 1000 Tryz.f23 I23 O23
theorem snd23 (k : Nat) : Snd C16 23 ⟨I23, O23, F23 k⟩ :=
  snd_def (c := c23) (by kernel_rfl) (by kernel_rfl) (by kernel_rfl) (hT23 k) 1000 I23 O23 (cs := [c23_0]) (.cons _ _ 2 _ (by kernel_rfl) rfl (Ls23_0 k) (.nil)) (by kernel_rfl)

/-! ### f9 -/
abbrev I9 : List Sh := [.t T22]
abbrev O9 : List Sh := [.t T4]
noncomputable def c9 : Code := bodyOf Tryz.f9
noncomputable def Tf9 (k : Nat) : List (Nat × Spec) := [(23, ⟨I23, O23, F23 k⟩)]
theorem hT9 (k : Nat) : ∀ p, p ∈ Tf9 k → Snd C16 p.1 p.2 := hT_cons (snd23 k) (hT_nil)
noncomputable def c9_0 : Code := loopN c9 0
abbrev H9_0 : Slots := [(0, .t T22), (3, .t T3)]
abbrev X9_0 : List (PX × Slots) := [(.ex 0, [(0, .t T22)]), (.rt, [(2, .t T4)])]
noncomputable def E9_0 (k : Nat) : Nat → shsDen (H9_0.map (·.2)) → Option (XD X9_0) := loopF C16 Tryz.f9.ntmps (kpOf 0 I9) (Tf9 k) [] 1000 H9_0 X9_0 c9_0
noncomputable def L9_0 (k : Nat) : LSpec := ⟨H9_0, X9_0, E9_0 k k⟩
theorem Ls9_0 (k : Nat) : LSnd C16 Tryz.f9.ntmps (kpOf 0 I9) c9_0 (L9_0 k) :=
  lsnd_def (hT9 k) 1000 H9_0 X9_0 c9_0 (cs := []) (.nil) (by kernel_rfl) k
noncomputable def F9 (k : Nat) : shsDen I9 → Option (shsDen O9 × shsDen (shsUpd I9)) := funF C16 (Tf9 k) [(2, L9_0 k)] 1000 Tryz.f9 I9 O9
theorem snd9 (k : Nat) : Snd C16 9 ⟨I9, O9, F9 k⟩ :=
  snd_def (c := c9) (by kernel_rfl) (by kernel_rfl) (by kernel_rfl) (hT9 k) 1000 I9 O9 (cs := [c9_0]) (.cons _ _ 2 _ (by kernel_rfl) rfl (Ls9_0 k) (.nil)) (by kernel_rfl)

/-! ### f100 -/
abbrev I100 : List Sh := [.t T66, .t T66]
abbrev O100 : List Sh := [.t T4]
noncomputable def c100 : Code := bodyOf Tryz.f100
noncomputable def Tf100 (k : Nat) : List (Nat × Spec) := []
theorem hT100 (k : Nat) : ∀ p, p ∈ Tf100 k → Snd C16 p.1 p.2 := hT_nil
noncomputable def c100_0 : Code := loopN c100 0
abbrev H100_0 : Slots := [(2, .ptr [.t T66]), (3, .ptr [.t T66]), (5, .t T3)]
abbrev X100_0 : List (PX × Slots) := [(.ex 0, []), (.rt, [(4, .t T4)])]
noncomputable def E100_0 (k : Nat) : Nat → shsDen (H100_0.map (·.2)) → Option (XD X100_0) := loopF C16 Tryz.f100.ntmps (kpOf 0 I100) (Tf100 k) [] 1000 H100_0 X100_0 c100_0
noncomputable def L100_0 (k : Nat) : LSpec := ⟨H100_0, X100_0, E100_0 k k⟩
theorem Ls100_0 (k : Nat) : LSnd C16 Tryz.f100.ntmps (kpOf 0 I100) c100_0 (L100_0 k) :=
  lsnd_def (hT100 k) 1000 H100_0 X100_0 c100_0 (cs := []) (.nil) (by kernel_rfl) k
noncomputable def F100 (k : Nat) : shsDen I100 → Option (shsDen O100 × shsDen (shsUpd I100)) := funF C16 (Tf100 k) [(4, L100_0 k)] 1000 Tryz.f100 I100 O100
theorem snd100 (k : Nat) : Snd C16 100 ⟨I100, O100, F100 k⟩ :=
  snd_def (c := c100) (by kernel_rfl) (by kernel_rfl) (by kernel_rfl) (hT100 k) 1000 I100 O100 (cs := [c100_0]) (.cons _ _ 4 _ (by kernel_rfl) rfl (Ls100_0 k) (.nil)) (by kernel_rfl)

/-! ### f119 -/
abbrev I119 : List Sh := [.t T84, .t T84]
abbrev O119 : List Sh := [.t T4]
noncomputable def c119 : Code := bodyOf Tryz.f119
noncomputable def Tf119 (k : Nat) (s119 : shsDen I119 → Option (shsDen O119 × shsDen (shsUpd I119))) : List (Nat × Spec) := [(119, ⟨I119, O119, s119⟩)]
theorem hT119 (k : Nat) (s119 : shsDen I119 → Option (shsDen O119 × shsDen (shsUpd I119))) (h119 : Snd C16 119 ⟨I119, O119, s119⟩) : ∀ p, p ∈ Tf119 k s119 → Snd C16 p.1 p.2 := hT_cons h119 (hT_nil)
noncomputable def c119_0 : Code := loopN c119 0
abbrev H119_0 : Slots := [(2, .ptr [.t T84]), (3, .ptr [.t T84]), (5, .t T3)]
abbrev X119_0 : List (PX × Slots) := [(.ex 0, []), (.rt, [(4, .t T4)])]
noncomputable def E119_0 (k : Nat) (s119 : shsDen I119 → Option (shsDen O119 × shsDen (shsUpd I119))) : Nat → shsDen (H119_0.map (·.2)) → Option (XD X119_0) := loopF C16 Tryz.f119.ntmps (kpOf 0 I119) (Tf119 k s119) [] 1000 H119_0 X119_0 c119_0
noncomputable def L119_0 (k : Nat) (s119 : shsDen I119 → Option (shsDen O119 × shsDen (shsUpd I119))) : LSpec := ⟨H119_0, X119_0, E119_0 k s119 k⟩
theorem Ls119_0 (k : Nat) (s119 : shsDen I119 → Option (shsDen O119 × shsDen (shsUpd I119))) (h119 : Snd C16 119 ⟨I119, O119, s119⟩) : LSnd C16 Tryz.f119.ntmps (kpOf 0 I119) c119_0 (L119_0 k s119) :=
  lsnd_def (hT119 k s119 h119) 1000 H119_0 X119_0 c119_0 (cs := []) (.nil) (by kernel_rfl) k
noncomputable def G119 (k : Nat) (s119 : shsDen I119 → Option (shsDen O119 × shsDen (shsUpd I119))) : shsDen I119 → Option (shsDen O119 × shsDen (shsUpd I119)) := funF C16 (Tf119 k s119) [(4, L119_0 k s119)] 1000 Tryz.f119 I119 O119
theorem sndG119 (k : Nat) (s119 : shsDen I119 → Option (shsDen O119 × shsDen (shsUpd I119))) (h119 : Snd C16 119 ⟨I119, O119, s119⟩) : Snd C16 119 ⟨I119, O119, G119 k s119⟩ :=
  snd_def (c := c119) (by kernel_rfl) (by kernel_rfl) (by kernel_rfl) (hT119 k s119 h119) 1000 I119 O119 (cs := [c119_0]) (.cons _ _ 4 _ (by kernel_rfl) rfl (Ls119_0 k s119 h119) (.nil)) (by kernel_rfl)
noncomputable def R119 (k : Nat) : Nat → shsDen I119 → Option (shsDen O119 × shsDen (shsUpd I119))
  | 0 => fun _ => none
  | d + 1 => G119 k (R119 k d)
theorem sndR119 (k : Nat) : ∀ d, Snd C16 119 ⟨I119, O119, R119 k d⟩
  | 0 => snd_none (enter_of (fn := Tryz.f119) (c := c119) (by kernel_rfl) (by kernel_rfl) (by kernel_rfl))
  | d + 1 => sndG119 k _ (sndR119 k d)
noncomputable def F119 (k : Nat) : shsDen I119 → Option (shsDen O119 × shsDen (shsUpd I119)) := R119 k k
theorem snd119 (k : Nat) : Snd C16 119 ⟨I119, O119, F119 k⟩ := sndR119 k k

/-! ### f101 -/
abbrev I101 : List Sh := [.t T86, .t T86]
abbrev O101 : List Sh := [.t T4]
noncomputable def c101 : Code := bodyOf Tryz.f101
noncomputable def Tf101 (k : Nat) : List (Nat × Spec) := [(119, ⟨I119, O119, F119 k⟩)]
theorem hT101 (k : Nat) : ∀ p, p ∈ Tf101 k → Snd C16 p.1 p.2 := hT_cons (snd119 k) (hT_nil)
noncomputable def F101 (k : Nat) : shsDen I101 → Option (shsDen O101 × shsDen (shsUpd I101)) := funF C16 (Tf101 k) [] 1000 Tryz.f101 I101 O101
theorem snd101 (k : Nat) : Snd C16 101 ⟨I101, O101, F101 k⟩ :=
  snd_def (c := c101) (by kernel_rfl) (by kernel_rfl) (by kernel_rfl) (hT101 k) 1000 I101 O101 (cs := []) (.nil) (by kernel_rfl)

/-! ### f63 -/
abbrev I63 : List Sh := [.t T53, .t T53]
abbrev O63 : List Sh := [.t T4]
noncomputable def c63 : Code := bodyOf Tryz.f63
noncomputable def Tf63 (k : Nat) : List (Nat × Spec) := [(100, ⟨I100, O100, F100 k⟩), (101, ⟨I101, O101, F101 k⟩)]
theorem hT63 (k : Nat) : ∀ p, p ∈ Tf63 k → Snd C16 p.1 p.2 := hT_cons (snd100 k) (hT_cons (snd101 k) (hT_nil))
noncomputable def c63_0 : Code := loopN c63 0
abbrev H63_0 : Slots := [(2, .ptr [.t T53]), (3, .ptr [.t T53]), (5, .t T3)]
abbrev X63_0 : List (PX × Slots) := [(.ex 0, [(2, .ptr [.t T53]), (3, .ptr [.t T53])]), (.rt, [(4, .t T4)])]
noncomputable def E63_0 (k : Nat) : Nat → shsDen (H63_0.map (·.2)) → Option (XD X63_0) := loopF C16 Tryz.f63.ntmps (kpOf 0 I63) (Tf63 k) [] 1000 H63_0 X63_0 c63_0
noncomputable def L63_0 (k : Nat) : LSpec := ⟨H63_0, X63_0, E63_0 k k⟩
theorem Ls63_0 (k : Nat) : LSnd C16 Tryz.f63.ntmps (kpOf 0 I63) c63_0 (L63_0 k) :=
  lsnd_def (hT63 k) 1000 H63_0 X63_0 c63_0 (cs := []) (.nil) (by kernel_rfl) k
noncomputable def c63_1 : Code := loopN c63 1
abbrev H63_1 : Slots := [(2, .ptr [.t T53]), (3, .ptr [.t T53]), (6, .t T3)]
abbrev X63_1 : List (PX × Slots) := [(.ex 2, []), (.rt, [(4, .t T4)])]
noncomputable def E63_1 (k : Nat) : Nat → shsDen (H63_1.map (·.2)) → Option (XD X63_1) := loopF C16 Tryz.f63.ntmps (kpOf 0 I63) (Tf63 k) [] 1000 H63_1 X63_1 c63_1
noncomputable def L63_1 (k : Nat) : LSpec := ⟨H63_1, X63_1, E63_1 k k⟩
theorem Ls63_1 (k : Nat) : LSnd C16 Tryz.f63.ntmps (kpOf 0 I63) c63_1 (L63_1 k) :=
  lsnd_def (hT63 k) 1000 H63_1 X63_1 c63_1 (cs := []) (.nil) (by kernel_rfl) k
noncomputable def F63 (k : Nat) : shsDen I63 → Option (shsDen O63 × shsDen (shsUpd I63)) := funF C16 (Tf63 k) [(4, L63_0 k), (9, L63_1 k)] 1000 Tryz.f63 I63 O63
theorem snd63 (k : Nat) : Snd C16 63 ⟨I63, O63, F63 k⟩ :=
  snd_def (c := c63) (by kernel_rfl) (by kernel_rfl) (by kernel_rfl) (hT63 k) 1000 I63 O63 (cs := [c63_0, c63_1]) (.cons _ _ 4 _ (by kernel_rfl) rfl (Ls63_0 k) (.cons _ _ 9 _ (by kernel_rfl) rfl (Ls63_1 k) (.nil))) (by kernel_rfl)

/-! ### f44 -/
abbrev I44 : List Sh := [.t T57]
abbrev O44 : List Sh := [.t T4]
noncomputable def c44 : Code := bodyOf Tryz.f44
noncomputable def Tf44 (k : Nat) : List (Nat × Spec) := [(63, ⟨I63, O63, F63 k⟩), (53, ⟨I53, O53, F53 k⟩)]
theorem hT44 (k : Nat) : ∀ p, p ∈ Tf44 k → Snd C16 p.1 p.2 := hT_cons (snd63 k) (hT_cons (snd53 k) (hT_nil))
noncomputable def F44 (k : Nat) : shsDen I44 → Option (shsDen O44 × shsDen (shsUpd I44)) := funF C16 (Tf44 k) [] 1000 Tryz.f44 I44 O44
theorem snd44 (k : Nat) : Snd C16 44 ⟨I44, O44, F44 k⟩ :=
  snd_def (c := c44) (by kernel_rfl) (by kernel_rfl) (by kernel_rfl) (hT44 k) 1000 I44 O44 (cs := []) (.nil) (by kernel_rfl)

/-! ### f30 -/
abbrev I30 : List Sh := [.t T34]
abbrev O30 : List Sh := [.t T4]
noncomputable def c30 : Code := bodyOf Tryz.f30
noncomputable def Tf30 (k : Nat) : List (Nat × Spec) := [(44, ⟨I44, O44, F44 k⟩)]
theorem hT30 (k : Nat) : ∀ p, p ∈ Tf30 k → Snd C16 p.1 p.2 := hT_cons (snd44 k) (hT_nil)
noncomputable def c30_0 : Code := loopN c30 0
abbrev H30_0 : Slots := [(0, .t T34), (3, .t T3)]
abbrev X30_0 : List (PX × Slots) := [(.ex 0, [(0, .t T34)]), (.rt, [(2, .t T4)])]
noncomputable def E30_0 (k : Nat) : Nat → shsDen (H30_0.map (·.2)) → Option (XD X30_0) := loopF C16 Tryz.f30.ntmps (kpOf 0 I30) (Tf30 k) [] 1000 H30_0 X30_0 c30_0
noncomputable def L30_0 (k : Nat) : LSpec := ⟨H30_0, X30_0, E30_0 k k⟩
theorem Ls30_0 (k : Nat) : LSnd C16 Tryz.f30.ntmps (kpOf 0 I30) c30_0 (L30_0 k) :=
  lsnd_def (hT30 k) 1000 H30_0 X30_0 c30_0 (cs := []) (.nil) (by kernel_rfl) k
noncomputable def F30 (k : Nat) : shsDen I30 → Option (shsDen O30 × shsDen (shsUpd I30)) := funF C16 (Tf30 k) [(2, L30_0 k)] 1000 Tryz.f30 I30 O30
theorem snd30 (k : Nat) : Snd C16 30 ⟨I30, O30, F30 k⟩ :=
  snd_def (c := c30) (by kernel_rfl) (by kernel_rfl) (by kernel_rfl) (hT30 k) 1000 I30 O30 (cs := [c30_0]) (.cons _ _ 2 _ (by kernel_rfl) rfl (Ls30_0 k) (.nil)) (by kernel_rfl)

/-! ### f13 -/
abbrev I13 : List Sh := [.t T22]
abbrev O13 : List Sh := [.t T4]
noncomputable def c13 : Code := bodyOf Tryz.f13
noncomputable def Tf13 (k : Nat) : List (Nat × Spec) := [(29, ⟨I29, O29, F29 k⟩), (30, ⟨I30, O30, F30 k⟩)]
theorem hT13 (k : Nat) : ∀ p, p ∈ Tf13 k → Snd C16 p.1 p.2 := hT_cons (snd29 k) (hT_cons (snd30 k) (hT_nil))
noncomputable def c13_0 : Code := loopN c13 0
abbrev H13_0 : Slots := [(0, .t T22), (3, .t T3)]
abbrev X13_0 : List (PX × Slots) := [(.ex 0, [(0, .t T22)]), (.rt, [(2, .t T4)])]
noncomputable def E13_0 (k : Nat) : Nat → shsDen (H13_0.map (·.2)) → Option (XD X13_0) := loopF C16 Tryz.f13.ntmps (kpOf 0 I13) (Tf13 k) [] 1000 H13_0 X13_0 c13_0
noncomputable def L13_0 (k : Nat) : LSpec := ⟨H13_0, X13_0, E13_0 k k⟩
theorem Ls13_0 (k : Nat) : LSnd C16 Tryz.f13.ntmps (kpOf 0 I13) c13_0 (L13_0 k) :=
  lsnd_def (hT13 k) 1000 H13_0 X13_0 c13_0 (cs := []) (.nil) (by kernel_rfl) k
noncomputable def F13 (k : Nat) : shsDen I13 → Option (shsDen O13 × shsDen (shsUpd I13)) := funF C16 (Tf13 k) [(2, L13_0 k)] 1000 Tryz.f13 I13 O13
theorem snd13 (k : Nat) : Snd C16 13 ⟨I13, O13, F13 k⟩ :=
  snd_def (c := c13) (by kernel_rfl) (by kernel_rfl) (by kernel_rfl) (hT13 k) 1000 I13 O13 (cs := [c13_0]) (.cons _ _ 2 _ (by kernel_rfl) rfl (Ls13_0 k) (.nil)) (by kernel_rfl)

/-! ### f47 -/
abbrev I47 : List Sh := [.t T66, .t T9]
abbrev O47 : List Sh := [.t T4]
noncomputable def c47 : Code := bodyOf Tryz.f47
noncomputable def Tf47 (k : Nat) : List (Nat × Spec) := []
theorem hT47 (k : Nat) : ∀ p, p ∈ Tf47 k → Snd C16 p.1 p.2 := hT_nil
noncomputable def c47_0 : Code := loopN c47 0
abbrev H47_0 : Slots := [(1, .t T9), (2, .ptr [.t T66]), (5, .t T3)]
abbrev X47_0 : List (PX × Slots) := [(.ex 0, []), (.rt, [(4, .t T4)])]
noncomputable def E47_0 (k : Nat) : Nat → shsDen (H47_0.map (·.2)) → Option (XD X47_0) := loopF C16 Tryz.f47.ntmps (kpOf 0 I47) (Tf47 k) [] 1000 H47_0 X47_0 c47_0
noncomputable def L47_0 (k : Nat) : LSpec := ⟨H47_0, X47_0, E47_0 k k⟩
theorem Ls47_0 (k : Nat) : LSnd C16 Tryz.f47.ntmps (kpOf 0 I47) c47_0 (L47_0 k) :=
  lsnd_def (hT47 k) 1000 H47_0 X47_0 c47_0 (cs := []) (.nil) (by kernel_rfl) k
noncomputable def F47 (k : Nat) : shsDen I47 → Option (shsDen O47 × shsDen (shsUpd I47)) := funF C16 (Tf47 k) [(2, L47_0 k)] 1000 Tryz.f47 I47 O47
theorem snd47 (k : Nat) : Snd C16 47 ⟨I47, O47, F47 k⟩ :=
  snd_def (c := c47) (by kernel_rfl) (by kernel_rfl) (by kernel_rfl) (hT47 k) 1000 I47 O47 (cs := [c47_0]) (.cons _ _ 2 _ (by kernel_rfl) rfl (Ls47_0 k) (.nil)) (by kernel_rfl)

/-! ### f34 -/
abbrev I34 : List Sh := [.t T36, .t T9]
abbrev O34 : List Sh := [.t T4]
noncomputable def c34 : Code := bodyOf Tryz.f34
noncomputable def Tf34 (k : Nat) : List (Nat × Spec) := [(47, ⟨I47, O47, F47 k⟩)]
theorem hT34 (k : Nat) : ∀ p, p ∈ Tf34 k → Snd C16 p.1 p.2 := hT_cons (snd47 k) (hT_nil)
noncomputable def c34_0 : Code := loopN c34 0
noncomputable def c34_0_0 : Code := loopN c34_0 0
abbrev H34_0_0 : Slots := [(1, .t T9), (2, .ptr [.t T36]), (5, .t T3), (6, .ptr [.t T53]), (7, .t T3)]
abbrev X34_0_0 : List (PX × Slots) := [(.ex 2, [(1, .t T9), (2, .ptr [.t T36]), (5, .t T3)]), (.rt, [(4, .t T4)])]
noncomputable def E34_0_0 (k : Nat) : Nat → shsDen (H34_0_0.map (·.2)) → Option (XD X34_0_0) := loopF C16 Tryz.f34.ntmps (kpOf 0 I34) (Tf34 k) [] 1000 H34_0_0 X34_0_0 c34_0_0
noncomputable def L34_0_0 (k : Nat) : LSpec := ⟨H34_0_0, X34_0_0, E34_0_0 k k⟩
theorem Ls34_0_0 (k : Nat) : LSnd C16 Tryz.f34.ntmps (kpOf 0 I34) c34_0_0 (L34_0_0 k) :=
  lsnd_def (hT34 k) 1000 H34_0_0 X34_0_0 c34_0_0 (cs := []) (.nil) (by kernel_rfl) k
abbrev H34_0 : Slots := [(1, .t T9), (2, .ptr [.t T36]), (5, .t T3)]
abbrev X34_0 : List (PX × Slots) := [(.ex 0, []), (.rt, [(4, .t T4)])]
noncomputable def E34_0 (k : Nat) : Nat → shsDen (H34_0.map (·.2)) → Option (XD X34_0) := loopF C16 Tryz.f34.ntmps (kpOf 0 I34) (Tf34 k) [(6, L34_0_0 k)] 1000 H34_0 X34_0 c34_0
noncomputable def L34_0 (k : Nat) : LSpec := ⟨H34_0, X34_0, E34_0 k k⟩
theorem Ls34_0 (k : Nat) : LSnd C16 Tryz.f34.ntmps (kpOf 0 I34) c34_0 (L34_0 k) :=
  lsnd_def (hT34 k) 1000 H34_0 X34_0 c34_0 (cs := [c34_0_0]) (.cons _ _ 6 _ (by kernel_rfl) rfl (Ls34_0_0 k) (.nil)) (by kernel_rfl) k
noncomputable def F34 (k : Nat) : shsDen I34 → Option (shsDen O34 × shsDen (shsUpd I34)) := funF C16 (Tf34 k) [(2, L34_0 k)] 1000 Tryz.f34 I34 O34
theorem snd34 (k : Nat) : Snd C16 34 ⟨I34, O34, F34 k⟩ :=
  snd_def (c := c34) (by kernel_rfl) (by kernel_rfl) (by kernel_rfl) (hT34 k) 1000 I34 O34 (cs := [c34_0]) (.cons _ _ 2 _ (by kernel_rfl) rfl (Ls34_0 k) (.nil)) (by kernel_rfl)

/-! ### f18 -/
abbrev I18 : List Sh := [.t T22, .t T3]
abbrev O18 : List Sh := [.t T25]
noncomputable def c18 : Code := bodyOf Tryz.f18
noncomputable def Tf18 (k : Nat) : List (Nat × Spec) := [(13, ⟨I13, O13, F13 k⟩), (34, ⟨I34, O34, F34 k⟩)]
theorem hT18 (k : Nat) : ∀ p, p ∈ Tf18 k → Snd C16 p.1 p.2 := hT_cons (snd13 k) (hT_cons (snd34 k) (hT_nil))
noncomputable def c18_0 : Code := loopN c18 0
abbrev H18_0 : Slots := [(0, .t T22), (1, .t T3), (5, .row T3), (6, .t T3)]
abbrev X18_0 : List (PX × Slots) := [(.ex 0, [(5, .row T3)])]
noncomputable def E18_0 (k : Nat) : Nat → shsDen (H18_0.map (·.2)) → Option (XD X18_0) := loopF C16 Tryz.f18.ntmps (kpOf 0 I18) (Tf18 k) [] 1000 H18_0 X18_0 c18_0
noncomputable def L18_0 (k : Nat) : LSpec := ⟨H18_0, X18_0, E18_0 k k⟩
theorem Ls18_0 (k : Nat) : LSnd C16 Tryz.f18.ntmps (kpOf 0 I18) c18_0 (L18_0 k) :=
  lsnd_def (hT18 k) 1000 H18_0 X18_0 c18_0 (cs := []) (.nil) (by kernel_rfl) k
noncomputable def F18 (k : Nat) : shsDen I18 → Option (shsDen O18 × shsDen (shsUpd I18)) := funF C16 (Tf18 k) [(5, L18_0 k)] 1000 Tryz.f18 I18 O18
theorem snd18 (k : Nat) : Snd C16 18 ⟨I18, O18, F18 k⟩ :=
  snd_def (c := c18) (by kernel_rfl) (by kernel_rfl) (by kernel_rfl) (hT18 k) 1000 I18 O18 (cs := [c18_0]) (.cons _ _ 5 _ (by kernel_rfl) rfl (Ls18_0 k) (.nil)) (by kernel_rfl)

/-! ### f11 -/
abbrev I11 : List Sh := [.t T22]
abbrev O11 : List Sh := [.t T25, .t T26]
noncomputable def c11 : Code := bodyOf Tryz.f11
noncomputable def Tf11 (k : Nat) : List (Nat × Spec) := [(13, ⟨I13, O13, F13 k⟩), (18, ⟨I18, O18, F18 k⟩)]
theorem hT11 (k : Nat) : ∀ p, p ∈ Tf11 k → Snd C16 p.1 p.2 := hT_cons (snd13 k) (hT_cons (snd18 k) (hT_nil))
noncomputable def c11_0 : Code := loopN c11 0
noncomputable def c11_0_0 : Code := loopN c11_0 0
noncomputable def c11_0_0_0 : Code := loopN c11_0_0 0
abbrev H11_0_0_0 : Slots := [(0, .t T22), (4, .row T3), (5, .t T3), (6, .t T4), (7, .t T3), (8, .t T3), (9, .t T25), (10, .t T3)]
abbrev X11_0_0_0 : List (PX × Slots) := [(.ex 4, [(0, .t T22), (4, .row T3), (5, .t T3), (6, .t T4), (7, .t T3), (8, .t T3)])]
noncomputable def E11_0_0_0 (k : Nat) : Nat → shsDen (H11_0_0_0.map (·.2)) → Option (XD X11_0_0_0) := loopF C16 Tryz.f11.ntmps (kpOf 0 I11) (Tf11 k) [] 1000 H11_0_0_0 X11_0_0_0 c11_0_0_0
noncomputable def L11_0_0_0 (k : Nat) : LSpec := ⟨H11_0_0_0, X11_0_0_0, E11_0_0_0 k k⟩
theorem Ls11_0_0_0 (k : Nat) : LSnd C16 Tryz.f11.ntmps (kpOf 0 I11) c11_0_0_0 (L11_0_0_0 k) :=
  lsnd_def (hT11 k) 1000 H11_0_0_0 X11_0_0_0 c11_0_0_0 (cs := []) (.nil) (by kernel_rfl) k
abbrev H11_0_0 : Slots := [(0, .t T22), (4, .row T3), (5, .t T3), (6, .t T4), (7, .t T3)]
abbrev X11_0_0 : List (PX × Slots) := [(.ex 2, [(0, .t T22), (4, .row T3), (5, .t T3), (6, .t T4)])]
noncomputable def E11_0_0 (k : Nat) : Nat → shsDen (H11_0_0.map (·.2)) → Option (XD X11_0_0) := loopF C16 Tryz.f11.ntmps (kpOf 0 I11) (Tf11 k) [(14, L11_0_0_0 k)] 1000 H11_0_0 X11_0_0 c11_0_0
noncomputable def L11_0_0 (k : Nat) : LSpec := ⟨H11_0_0, X11_0_0, E11_0_0 k k⟩
theorem Ls11_0_0 (k : Nat) : LSnd C16 Tryz.f11.ntmps (kpOf 0 I11) c11_0_0 (L11_0_0 k) :=
  lsnd_def (hT11 k) 1000 H11_0_0 X11_0_0 c11_0_0 (cs := [c11_0_0_0]) (.cons _ _ 14 _ (by kernel_rfl) rfl (Ls11_0_0_0 k) (.nil)) (by kernel_rfl) k
noncomputable def c11_0_1 : Code := loopN c11_0 1
abbrev H11_0_1 : Slots := [(0, .t T22), (4, .row T3), (11, .t T3)]
abbrev X11_0_1 : List (PX × Slots) := [(.ex 6, [(4, .row T3)]), (.rt, [(2, .row T3), (3, .t T26)])]
noncomputable def E11_0_1 (k : Nat) : Nat → shsDen (H11_0_1.map (·.2)) → Option (XD X11_0_1) := loopF C16 Tryz.f11.ntmps (kpOf 0 I11) (Tf11 k) [] 1000 H11_0_1 X11_0_1 c11_0_1
noncomputable def L11_0_1 (k : Nat) : LSpec := ⟨H11_0_1, X11_0_1, E11_0_1 k k⟩
theorem Ls11_0_1 (k : Nat) : LSnd C16 Tryz.f11.ntmps (kpOf 0 I11) c11_0_1 (L11_0_1 k) :=
  lsnd_def (hT11 k) 1000 H11_0_1 X11_0_1 c11_0_1 (cs := []) (.nil) (by kernel_rfl) k
abbrev H11_0 : Slots := [(0, .t T22), (4, .row T3), (5, .t T3)]
abbrev X11_0 : List (PX × Slots) := [(.ex 0, []), (.rt, [(2, .row T3), (3, .t T26)])]
noncomputable def E11_0 (k : Nat) : Nat → shsDen (H11_0.map (·.2)) → Option (XD X11_0) := loopF C16 Tryz.f11.ntmps (kpOf 0 I11) (Tf11 k) [(9, L11_0_0 k), (22, L11_0_1 k)] 1000 H11_0 X11_0 c11_0
noncomputable def L11_0 (k : Nat) : LSpec := ⟨H11_0, X11_0, E11_0 k k⟩
theorem Ls11_0 (k : Nat) : LSnd C16 Tryz.f11.ntmps (kpOf 0 I11) c11_0 (L11_0 k) :=
  lsnd_def (hT11 k) 1000 H11_0 X11_0 c11_0 (cs := [c11_0_0, c11_0_1]) (.cons _ _ 9 _ (by kernel_rfl) rfl (Ls11_0_0 k) (.cons _ _ 22 _ (by kernel_rfl) rfl (Ls11_0_1 k) (.nil))) (by kernel_rfl) k
noncomputable def F11 (k : Nat) : shsDen I11 → Option (shsDen O11 × shsDen (shsUpd I11)) := funF C16 (Tf11 k) [(5, L11_0 k)] 1000 Tryz.f11 I11 O11
theorem snd11 (k : Nat) : Snd C16 11 ⟨I11, O11, F11 k⟩ :=
  snd_def (c := c11) (by kernel_rfl) (by kernel_rfl) (by kernel_rfl) (hT11 k) 1000 I11 O11 (cs := [c11_0]) (.cons _ _ 5 _ (by kernel_rfl) rfl (Ls11_0 k) (.nil)) (by kernel_rfl)

/-! ### f16 -/
abbrev I16 : List Sh := [.t T22]
abbrev O16 : List Sh := [.t T25]
noncomputable def c16 : Code := bodyOf Tryz.f16
noncomputable def Tf16 (k : Nat) : List (Nat × Spec) := [(11, ⟨I11, O11, F11 k⟩)]
theorem hT16 (k : Nat) : ∀ p, p ∈ Tf16 k → Snd C16 p.1 p.2 := hT_cons (snd11 k) (hT_nil)
noncomputable def c16_0 : Code := loopN c16 0
noncomputable def c16_0_0 : Code := loopN c16_0 0
abbrev H16_0_0 : Slots := [(3, .row T3), (4, .t T25), (5, .t T26), (6, .t T3), (7, .t T3)]
abbrev X16_0_0 : List (PX × Slots) := [(.ex 2, [(3, .row T3), (4, .t T25), (5, .t T26), (6, .t T3)])]
noncomputable def E16_0_0 (k : Nat) : Nat → shsDen (H16_0_0.map (·.2)) → Option (XD X16_0_0) := loopF C16 Tryz.f16.ntmps (kpOf 0 I16) (Tf16 k) [] 1000 H16_0_0 X16_0_0 c16_0_0
noncomputable def L16_0_0 (k : Nat) : LSpec := ⟨H16_0_0, X16_0_0, E16_0_0 k k⟩
theorem Ls16_0_0 (k : Nat) : LSnd C16 Tryz.f16.ntmps (kpOf 0 I16) c16_0_0 (L16_0_0 k) :=
  lsnd_def (hT16 k) 1000 H16_0_0 X16_0_0 c16_0_0 (cs := []) (.nil) (by kernel_rfl) k
abbrev H16_0 : Slots := [(3, .row T3), (4, .t T25), (5, .t T26), (6, .t T3)]
abbrev X16_0 : List (PX × Slots) := [(.ex 0, [(3, .row T3)])]
noncomputable def E16_0 (k : Nat) : Nat → shsDen (H16_0.map (·.2)) → Option (XD X16_0) := loopF C16 Tryz.f16.ntmps (kpOf 0 I16) (Tf16 k) [(7, L16_0_0 k)] 1000 H16_0 X16_0 c16_0
noncomputable def L16_0 (k : Nat) : LSpec := ⟨H16_0, X16_0, E16_0 k k⟩
theorem Ls16_0 (k : Nat) : LSnd C16 Tryz.f16.ntmps (kpOf 0 I16) c16_0 (L16_0 k) :=
  lsnd_def (hT16 k) 1000 H16_0 X16_0 c16_0 (cs := [c16_0_0]) (.cons _ _ 7 _ (by kernel_rfl) rfl (Ls16_0_0 k) (.nil)) (by kernel_rfl) k
noncomputable def F16 (k : Nat) : shsDen I16 → Option (shsDen O16 × shsDen (shsUpd I16)) := funF C16 (Tf16 k) [(4, L16_0 k)] 1000 Tryz.f16 I16 O16
theorem snd16 (k : Nat) : Snd C16 16 ⟨I16, O16, F16 k⟩ :=
  snd_def (c := c16) (by kernel_rfl) (by kernel_rfl) (by kernel_rfl) (hT16 k) 1000 I16 O16 (cs := [c16_0]) (.cons _ _ 4 _ (by kernel_rfl) rfl (Ls16_0 k) (.nil)) (by kernel_rfl)

/-! ### f20 -/
abbrev I20 : List Sh := [.t T22, .t T3]
abbrev O20 : List Sh := [.t T25]
noncomputable def c20 : Code := bodyOf Tryz.f20
noncomputable def Tf20 (k : Nat) : List (Nat × Spec) := [(13, ⟨I13, O13, F13 k⟩), (18, ⟨I18, O18, F18 k⟩)]
theorem hT20 (k : Nat) : ∀ p, p ∈ Tf20 k → Snd C16 p.1 p.2 := hT_cons (snd13 k) (hT_cons (snd18 k) (hT_nil))
noncomputable def c20_0 : Code := loopN c20 0
noncomputable def c20_0_0 : Code := loopN c20_0 0
noncomputable def c20_0_0_0 : Code := loopN c20_0_0 0
abbrev H20_0_0_0 : Slots := [(0, .t T22), (1, .t T3), (5, .row T4), (6, .t T3), (7, .t T3), (8, .t T25), (9, .t T3)]
abbrev X20_0_0_0 : List (PX × Slots) := [(.ex 4, [(0, .t T22), (1, .t T3), (5, .row T4), (6, .t T3), (7, .t T3)])]
noncomputable def E20_0_0_0 (k : Nat) : Nat → shsDen (H20_0_0_0.map (·.2)) → Option (XD X20_0_0_0) := loopF C16 Tryz.f20.ntmps (kpOf 0 I20) (Tf20 k) [] 1000 H20_0_0_0 X20_0_0_0 c20_0_0_0
noncomputable def L20_0_0_0 (k : Nat) : LSpec := ⟨H20_0_0_0, X20_0_0_0, E20_0_0_0 k k⟩
theorem Ls20_0_0_0 (k : Nat) : LSnd C16 Tryz.f20.ntmps (kpOf 0 I20) c20_0_0_0 (L20_0_0_0 k) :=
  lsnd_def (hT20 k) 1000 H20_0_0_0 X20_0_0_0 c20_0_0_0 (cs := []) (.nil) (by kernel_rfl) k
abbrev H20_0_0 : Slots := [(0, .t T22), (1, .t T3), (5, .row T4), (6, .t T3), (7, .t T3)]
abbrev X20_0_0 : List (PX × Slots) := [(.ex 2, [(0, .t T22), (1, .t T3), (5, .row T4), (6, .t T3)])]
noncomputable def E20_0_0 (k : Nat) : Nat → shsDen (H20_0_0.map (·.2)) → Option (XD X20_0_0) := loopF C16 Tryz.f20.ntmps (kpOf 0 I20) (Tf20 k) [(12, L20_0_0_0 k)] 1000 H20_0_0 X20_0_0 c20_0_0
noncomputable def L20_0_0 (k : Nat) : LSpec := ⟨H20_0_0, X20_0_0, E20_0_0 k k⟩
theorem Ls20_0_0 (k : Nat) : LSnd C16 Tryz.f20.ntmps (kpOf 0 I20) c20_0_0 (L20_0_0 k) :=
  lsnd_def (hT20 k) 1000 H20_0_0 X20_0_0 c20_0_0 (cs := [c20_0_0_0]) (.cons _ _ 12 _ (by kernel_rfl) rfl (Ls20_0_0_0 k) (.nil)) (by kernel_rfl) k
abbrev H20_0 : Slots := [(0, .t T22), (1, .t T3), (5, .row T4), (6, .t T3)]
abbrev X20_0 : List (PX × Slots) := [(.ex 0, [(0, .t T22), (5, .row T4)])]
noncomputable def E20_0 (k : Nat) : Nat → shsDen (H20_0.map (·.2)) → Option (XD X20_0) := loopF C16 Tryz.f20.ntmps (kpOf 0 I20) (Tf20 k) [(8, L20_0_0 k)] 1000 H20_0 X20_0 c20_0
noncomputable def L20_0 (k : Nat) : LSpec := ⟨H20_0, X20_0, E20_0 k k⟩
theorem Ls20_0 (k : Nat) : LSnd C16 Tryz.f20.ntmps (kpOf 0 I20) c20_0 (L20_0 k) :=
  lsnd_def (hT20 k) 1000 H20_0 X20_0 c20_0 (cs := [c20_0_0]) (.cons _ _ 8 _ (by kernel_rfl) rfl (Ls20_0_0 k) (.nil)) (by kernel_rfl) k
noncomputable def c20_1 : Code := loopN c20 1
abbrev H20_1 : Slots := [(0, .t T22), (5, .row T4), (10, .row T3), (11, .t T3)]
abbrev X20_1 : List (PX × Slots) := [(.ex 6, [(10, .row T3)])]
noncomputable def E20_1 (k : Nat) : Nat → shsDen (H20_1.map (·.2)) → Option (XD X20_1) := loopF C16 Tryz.f20.ntmps (kpOf 0 I20) (Tf20 k) [] 1000 H20_1 X20_1 c20_1
noncomputable def L20_1 (k : Nat) : LSpec := ⟨H20_1, X20_1, E20_1 k k⟩
theorem Ls20_1 (k : Nat) : LSnd C16 Tryz.f20.ntmps (kpOf 0 I20) c20_1 (L20_1 k) :=
  lsnd_def (hT20 k) 1000 H20_1 X20_1 c20_1 (cs := []) (.nil) (by kernel_rfl) k
noncomputable def F20 (k : Nat) : shsDen I20 → Option (shsDen O20 × shsDen (shsUpd I20)) := funF C16 (Tf20 k) [(5, L20_0 k), (17, L20_1 k)] 1000 Tryz.f20 I20 O20
theorem snd20 (k : Nat) : Snd C16 20 ⟨I20, O20, F20 k⟩ :=
  snd_def (c := c20) (by kernel_rfl) (by kernel_rfl) (by kernel_rfl) (hT20 k) 1000 I20 O20 (cs := [c20_0, c20_1]) (.cons _ _ 5 _ (by kernel_rfl) rfl (Ls20_0 k) (.cons _ _ 17 _ (by kernel_rfl) rfl (Ls20_1 k) (.nil))) (by kernel_rfl)

/-! ### f3 -/
abbrev I3 : List Sh := [.t T22, .t T3]
abbrev O3 : List Sh := [.t T4]
noncomputable def c3 : Code := bodyOf Tryz.f3
noncomputable def Tf3 (k : Nat) : List (Nat × Spec) := [(8, ⟨I8, O8, F8 k⟩), (9, ⟨I9, O9, F9 k⟩), (10, ⟨I10, O10, F10 k⟩), (11, ⟨I11, O11, F11 k⟩), (12, ⟨I12, O12, F12 k⟩), (13, ⟨I13, O13, F13 k⟩), (14, ⟨I14, O14, F14 k⟩), (15, ⟨I15, O15, F15 k⟩), (16, ⟨I16, O16, F16 k⟩), (17, ⟨I17, O17, F17 k⟩), (18, ⟨I18, O18, F18 k⟩), (19, ⟨I19, O19, F19 k⟩), (20, ⟨I20, O20, F20 k⟩)]
theorem hT3 (k : Nat) : ∀ p, p ∈ Tf3 k → Snd C16 p.1 p.2 := hT_cons (snd8 k) (hT_cons (snd9 k) (hT_cons (snd10 k) (hT_cons (snd11 k) (hT_cons (snd12 k) (hT_cons (snd13 k) (hT_cons (snd14 k) (hT_cons (snd15 k) (hT_cons (snd16 k) (hT_cons (snd17 k) (hT_cons (snd18 k) (hT_cons (snd19 k) (hT_cons (snd20 k) (hT_nil)))))))))))))
noncomputable def F3 (k : Nat) : shsDen I3 → Option (shsDen O3 × shsDen (shsUpd I3)) := funF C16 (Tf3 k) [] 1000 Tryz.f3 I3 O3
theorem snd3 (k : Nat) : Snd C16 3 ⟨I3, O3, F3 k⟩ :=
  snd_def (c := c3) (by kernel_rfl) (by kernel_rfl) (by kernel_rfl) (hT3 k) 1000 I3 O3 (cs := []) (.nil) (by kernel_rfl)

/-! ### f21 -/
abbrev I21 : List Sh := [.t T25, .t T3]
abbrev O21 : List Sh := [.t T3]
noncomputable def c21 : Code := bodyOf Tryz.f21
noncomputable def Tf21 (k : Nat) : List (Nat × Spec) := []
theorem hT21 (k : Nat) : ∀ p, p ∈ Tf21 k → Snd C16 p.1 p.2 := hT_nil
noncomputable def c21_0 : Code := loopN c21 0
abbrev H21_0 : Slots := [(0, .t T25), (1, .t T3), (5, .t T3)]
abbrev X21_0 : List (PX × Slots) := [(.ex 0, []), (.rt, [(4, .t T3)])]
noncomputable def E21_0 (k : Nat) : Nat → shsDen (H21_0.map (·.2)) → Option (XD X21_0) := loopF C16 Tryz.f21.ntmps (kpOf 0 I21) (Tf21 k) [] 1000 H21_0 X21_0 c21_0
noncomputable def L21_0 (k : Nat) : LSpec := ⟨H21_0, X21_0, E21_0 k k⟩
theorem Ls21_0 (k : Nat) : LSnd C16 Tryz.f21.ntmps (kpOf 0 I21) c21_0 (L21_0 k) :=
  lsnd_def (hT21 k) 1000 H21_0 X21_0 c21_0 (cs := []) (.nil) (by kernel_rfl) k
noncomputable def F21 (k : Nat) : shsDen I21 → Option (shsDen O21 × shsDen (shsUpd I21)) := funF C16 (Tf21 k) [(2, L21_0 k)] 1000 Tryz.f21 I21 O21
theorem snd21 (k : Nat) : Snd C16 21 ⟨I21, O21, F21 k⟩ :=
  snd_def (c := c21) (by kernel_rfl) (by kernel_rfl) (by kernel_rfl) (hT21 k) 1000 I21 O21 (cs := [c21_0]) (.cons _ _ 2 _ (by kernel_rfl) rfl (Ls21_0 k) (.nil)) (by kernel_rfl)

/-! ### f4 -/
abbrev I4 : List Sh := [.t T22]
abbrev O4 : List Sh := [.t T4]
noncomputable def c4 : Code := bodyOf Tryz.f4
noncomputable def Tf4 (k : Nat) : List (Nat × Spec) := [(8, ⟨I8, O8, F8 k⟩), (9, ⟨I9, O9, F9 k⟩), (13, ⟨I13, O13, F13 k⟩), (10, ⟨I10, O10, F10 k⟩), (15, ⟨I15, O15, F15 k⟩), (21, ⟨I21, O21, F21 k⟩), (17, ⟨I17, O17, F17 k⟩)]
theorem hT4 (k : Nat) : ∀ p, p ∈ Tf4 k → Snd C16 p.1 p.2 := hT_cons (snd8 k) (hT_cons (snd9 k) (hT_cons (snd13 k) (hT_cons (snd10 k) (hT_cons (snd15 k) (hT_cons (snd21 k) (hT_cons (snd17 k) (hT_nil)))))))
noncomputable def c4_0 : Code := loopN c4 0
noncomputable def c4_0_0 : Code := loopN c4_0 0
abbrev H4_0_0 : Slots := [(0, .t T22), (3, .t T4), (4, .t T25), (6, .t T25), (7, .t T3), (8, .t T3), (9, .t T25), (10, .t T3), (11, .t T3)]
abbrev X4_0_0 : List (PX × Slots) := [(.ex 2, [(0, .t T22), (3, .t T4), (4, .t T25), (6, .t T25), (7, .t T3), (10, .t T3)]), (.rt, [(2, .t T4)])]
noncomputable def E4_0_0 (k : Nat) : Nat → shsDen (H4_0_0.map (·.2)) → Option (XD X4_0_0) := loopF C16 Tryz.f4.ntmps (kpOf 0 I4) (Tf4 k) [] 1000 H4_0_0 X4_0_0 c4_0_0
noncomputable def L4_0_0 (k : Nat) : LSpec := ⟨H4_0_0, X4_0_0, E4_0_0 k k⟩
theorem Ls4_0_0 (k : Nat) : LSnd C16 Tryz.f4.ntmps (kpOf 0 I4) c4_0_0 (L4_0_0 k) :=
  lsnd_def (hT4 k) 1000 H4_0_0 X4_0_0 c4_0_0 (cs := []) (.nil) (by kernel_rfl) k
abbrev H4_0 : Slots := [(0, .t T22), (3, .t T4), (4, .t T25), (6, .t T25), (7, .t T3)]
abbrev X4_0 : List (PX × Slots) := [(.ex 0, [(3, .t T4)]), (.rt, [(2, .t T4)])]
noncomputable def E4_0 (k : Nat) : Nat → shsDen (H4_0.map (·.2)) → Option (XD X4_0) := loopF C16 Tryz.f4.ntmps (kpOf 0 I4) (Tf4 k) [(19, L4_0_0 k)] 1000 H4_0 X4_0 c4_0
noncomputable def L4_0 (k : Nat) : LSpec := ⟨H4_0, X4_0, E4_0 k k⟩
theorem Ls4_0 (k : Nat) : LSnd C16 Tryz.f4.ntmps (kpOf 0 I4) c4_0 (L4_0 k) :=
  lsnd_def (hT4 k) 1000 H4_0 X4_0 c4_0 (cs := [c4_0_0]) (.cons _ _ 19 _ (by kernel_rfl) rfl (Ls4_0_0 k) (.nil)) (by kernel_rfl) k
noncomputable def F4 (k : Nat) : shsDen I4 → Option (shsDen O4 × shsDen (shsUpd I4)) := funF C16 (Tf4 k) [(11, L4_0 k)] 1000 Tryz.f4 I4 O4
theorem snd4 (k : Nat) : Snd C16 4 ⟨I4, O4, F4 k⟩ :=
  snd_def (c := c4) (by kernel_rfl) (by kernel_rfl) (by kernel_rfl) (hT4 k) 1000 I4 O4 (cs := [c4_0]) (.cons _ _ 11 _ (by kernel_rfl) rfl (Ls4_0 k) (.nil)) (by kernel_rfl)

/-! ### f5 -/
abbrev I5 : List Sh := [.t T22]
abbrev O5 : List Sh := [.t T4]
noncomputable def c5 : Code := bodyOf Tryz.f5
noncomputable def Tf5 (k : Nat) : List (Nat × Spec) := [(8, ⟨I8, O8, F8 k⟩), (9, ⟨I9, O9, F9 k⟩), (13, ⟨I13, O13, F13 k⟩), (10, ⟨I10, O10, F10 k⟩), (19, ⟨I19, O19, F19 k⟩), (17, ⟨I17, O17, F17 k⟩), (21, ⟨I21, O21, F21 k⟩)]
theorem hT5 (k : Nat) : ∀ p, p ∈ Tf5 k → Snd C16 p.1 p.2 := hT_cons (snd8 k) (hT_cons (snd9 k) (hT_cons (snd13 k) (hT_cons (snd10 k) (hT_cons (snd19 k) (hT_cons (snd17 k) (hT_cons (snd21 k) (hT_nil)))))))
noncomputable def c5_0 : Code := loopN c5 0
noncomputable def c5_0_0 : Code := loopN c5_0 0
noncomputable def c5_0_0_0 : Code := loopN c5_0_0 0
abbrev H5_0_0_0 : Slots := [(0, .t T22), (3, .t T4), (5, .t T26), (6, .t T3), (7, .t T25), (8, .t T3), (10, .t T25), (11, .t T4), (12, .t T3)]
abbrev X5_0_0_0 : List (PX × Slots) := [(.ex 4, [(0, .t T22), (3, .t T4), (5, .t T26), (6, .t T3), (7, .t T25), (8, .t T3), (11, .t T4)])]
noncomputable def E5_0_0_0 (k : Nat) : Nat → shsDen (H5_0_0_0.map (·.2)) → Option (XD X5_0_0_0) := loopF C16 Tryz.f5.ntmps (kpOf 0 I5) (Tf5 k) [] 1000 H5_0_0_0 X5_0_0_0 c5_0_0_0
noncomputable def L5_0_0_0 (k : Nat) : LSpec := ⟨H5_0_0_0, X5_0_0_0, E5_0_0_0 k k⟩
theorem Ls5_0_0_0 (k : Nat) : LSnd C16 Tryz.f5.ntmps (kpOf 0 I5) c5_0_0_0 (L5_0_0_0 k) :=
  lsnd_def (hT5 k) 1000 H5_0_0_0 X5_0_0_0 c5_0_0_0 (cs := []) (.nil) (by kernel_rfl) k
abbrev H5_0_0 : Slots := [(0, .t T22), (3, .t T4), (5, .t T26), (6, .t T3), (7, .t T25), (8, .t T3)]
abbrev X5_0_0 : List (PX × Slots) := [(.ex 2, [(0, .t T22), (3, .t T4), (5, .t T26), (6, .t T3), (7, .t T25)]), (.rt, [(2, .t T4)])]
noncomputable def E5_0_0 (k : Nat) : Nat → shsDen (H5_0_0.map (·.2)) → Option (XD X5_0_0) := loopF C16 Tryz.f5.ntmps (kpOf 0 I5) (Tf5 k) [(18, L5_0_0_0 k)] 1000 H5_0_0 X5_0_0 c5_0_0
noncomputable def L5_0_0 (k : Nat) : LSpec := ⟨H5_0_0, X5_0_0, E5_0_0 k k⟩
theorem Ls5_0_0 (k : Nat) : LSnd C16 Tryz.f5.ntmps (kpOf 0 I5) c5_0_0 (L5_0_0 k) :=
  lsnd_def (hT5 k) 1000 H5_0_0 X5_0_0 c5_0_0 (cs := [c5_0_0_0]) (.cons _ _ 18 _ (by kernel_rfl) rfl (Ls5_0_0_0 k) (.nil)) (by kernel_rfl) k
noncomputable def c5_0_1 : Code := loopN c5_0 1
noncomputable def c5_0_1_0 : Code := loopN c5_0_1 0
abbrev H5_0_1_0 : Slots := [(0, .t T22), (3, .t T4), (5, .t T26), (6, .t T3), (7, .t T25), (13, .t T25), (14, .t T3), (15, .t T25), (16, .t T3)]
abbrev X5_0_1_0 : List (PX × Slots) := [(.ex 8, [(0, .t T22), (3, .t T4), (5, .t T26), (6, .t T3), (7, .t T25), (13, .t T25), (14, .t T3)]), (.rt, [(2, .t T4)])]
noncomputable def E5_0_1_0 (k : Nat) : Nat → shsDen (H5_0_1_0.map (·.2)) → Option (XD X5_0_1_0) := loopF C16 Tryz.f5.ntmps (kpOf 0 I5) (Tf5 k) [] 1000 H5_0_1_0 X5_0_1_0 c5_0_1_0
noncomputable def L5_0_1_0 (k : Nat) : LSpec := ⟨H5_0_1_0, X5_0_1_0, E5_0_1_0 k k⟩
theorem Ls5_0_1_0 (k : Nat) : LSnd C16 Tryz.f5.ntmps (kpOf 0 I5) c5_0_1_0 (L5_0_1_0 k) :=
  lsnd_def (hT5 k) 1000 H5_0_1_0 X5_0_1_0 c5_0_1_0 (cs := []) (.nil) (by kernel_rfl) k
abbrev H5_0_1 : Slots := [(0, .t T22), (3, .t T4), (5, .t T26), (6, .t T3), (7, .t T25), (13, .t T25), (14, .t T3)]
abbrev X5_0_1 : List (PX × Slots) := [(.ex 6, [(0, .t T22), (3, .t T4), (5, .t T26), (6, .t T3)]), (.rt, [(2, .t T4)])]
noncomputable def E5_0_1 (k : Nat) : Nat → shsDen (H5_0_1.map (·.2)) → Option (XD X5_0_1) := loopF C16 Tryz.f5.ntmps (kpOf 0 I5) (Tf5 k) [(31, L5_0_1_0 k)] 1000 H5_0_1 X5_0_1 c5_0_1
noncomputable def L5_0_1 (k : Nat) : LSpec := ⟨H5_0_1, X5_0_1, E5_0_1 k k⟩
theorem Ls5_0_1 (k : Nat) : LSnd C16 Tryz.f5.ntmps (kpOf 0 I5) c5_0_1 (L5_0_1 k) :=
  lsnd_def (hT5 k) 1000 H5_0_1 X5_0_1 c5_0_1 (cs := [c5_0_1_0]) (.cons _ _ 31 _ (by kernel_rfl) rfl (Ls5_0_1_0 k) (.nil)) (by kernel_rfl) k
abbrev H5_0 : Slots := [(0, .t T22), (3, .t T4), (5, .t T26), (6, .t T3)]
abbrev X5_0 : List (PX × Slots) := [(.ex 0, [(3, .t T4)]), (.rt, [(2, .t T4)])]
noncomputable def E5_0 (k : Nat) : Nat → shsDen (H5_0.map (·.2)) → Option (XD X5_0) := loopF C16 Tryz.f5.ntmps (kpOf 0 I5) (Tf5 k) [(10, L5_0_0 k), (25, L5_0_1 k)] 1000 H5_0 X5_0 c5_0
noncomputable def L5_0 (k : Nat) : LSpec := ⟨H5_0, X5_0, E5_0 k k⟩
theorem Ls5_0 (k : Nat) : LSnd C16 Tryz.f5.ntmps (kpOf 0 I5) c5_0 (L5_0 k) :=
  lsnd_def (hT5 k) 1000 H5_0 X5_0 c5_0 (cs := [c5_0_0, c5_0_1]) (.cons _ _ 10 _ (by kernel_rfl) rfl (Ls5_0_0 k) (.cons _ _ 25 _ (by kernel_rfl) rfl (Ls5_0_1 k) (.nil))) (by kernel_rfl) k
noncomputable def F5 (k : Nat) : shsDen I5 → Option (shsDen O5 × shsDen (shsUpd I5)) := funF C16 (Tf5 k) [(6, L5_0 k)] 1000 Tryz.f5 I5 O5
theorem snd5 (k : Nat) : Snd C16 5 ⟨I5, O5, F5 k⟩ :=
  snd_def (c := c5) (by kernel_rfl) (by kernel_rfl) (by kernel_rfl) (hT5 k) 1000 I5 O5 (cs := [c5_0]) (.cons _ _ 6 _ (by kernel_rfl) rfl (Ls5_0 k) (.nil)) (by kernel_rfl)

/-! ### f6 -/
abbrev I6 : List Sh := [.t T22, .t T36]
abbrev O6 : List Sh := [.t T4]
noncomputable def c6 : Code := bodyOf Tryz.f6
noncomputable def Tf6 (k : Nat) : List (Nat × Spec) := [(8, ⟨I8, O8, F8 k⟩), (9, ⟨I9, O9, F9 k⟩), (13, ⟨I13, O13, F13 k⟩), (18, ⟨I18, O18, F18 k⟩), (20, ⟨I20, O20, F20 k⟩), (10, ⟨I10, O10, F10 k⟩), (14, ⟨I14, O14, F14 k⟩), (17, ⟨I17, O17, F17 k⟩)]
theorem hT6 (k : Nat) : ∀ p, p ∈ Tf6 k → Snd C16 p.1 p.2 := hT_cons (snd8 k) (hT_cons (snd9 k) (hT_cons (snd13 k) (hT_cons (snd18 k) (hT_cons (snd20 k) (hT_cons (snd10 k) (hT_cons (snd14 k) (hT_cons (snd17 k) (hT_nil))))))))
noncomputable def c6_0 : Code := loopN c6 0
abbrev H6_0 : Slots := [(0, .t T22), (5, .t T4), (6, .t T22), (11, .t T3)]
abbrev X6_0 : List (PX × Slots) := [(.ex 0, [(5, .t T4)]), (.rt, [(4, .t T4)])]
noncomputable def E6_0 (k : Nat) : Nat → shsDen (H6_0.map (·.2)) → Option (XD X6_0) := loopF C16 Tryz.f6.ntmps (kpOf 0 I6) (Tf6 k) [] 1000 H6_0 X6_0 c6_0
noncomputable def L6_0 (k : Nat) : LSpec := ⟨H6_0, X6_0, E6_0 k k⟩
theorem Ls6_0 (k : Nat) : LSnd C16 Tryz.f6.ntmps (kpOf 0 I6) c6_0 (L6_0 k) :=
  lsnd_def (hT6 k) 1000 H6_0 X6_0 c6_0 (cs := []) (.nil) (by kernel_rfl) k
noncomputable def F6 (k : Nat) : shsDen I6 → Option (shsDen O6 × shsDen (shsUpd I6)) := funF C16 (Tf6 k) [(14, L6_0 k)] 1000 Tryz.f6 I6 O6
theorem snd6 (k : Nat) : Snd C16 6 ⟨I6, O6, F6 k⟩ :=
  snd_def (c := c6) (by kernel_rfl) (by kernel_rfl) (by kernel_rfl) (hT6 k) 1000 I6 O6 (cs := [c6_0]) (.cons _ _ 14 _ (by kernel_rfl) rfl (Ls6_0 k) (.nil)) (by kernel_rfl)

/-! ### f7 -/
abbrev I7 : List Sh := [.t T22]
abbrev O7 : List Sh := [.t T4]
noncomputable def c7 : Code := bodyOf Tryz.f7
noncomputable def Tf7 (k : Nat) : List (Nat × Spec) := [(8, ⟨I8, O8, F8 k⟩), (9, ⟨I9, O9, F9 k⟩), (13, ⟨I13, O13, F13 k⟩), (10, ⟨I10, O10, F10 k⟩), (19, ⟨I19, O19, F19 k⟩), (21, ⟨I21, O21, F21 k⟩)]
theorem hT7 (k : Nat) : ∀ p, p ∈ Tf7 k → Snd C16 p.1 p.2 := hT_cons (snd8 k) (hT_cons (snd9 k) (hT_cons (snd13 k) (hT_cons (snd10 k) (hT_cons (snd19 k) (hT_cons (snd21 k) (hT_nil))))))
noncomputable def c7_0 : Code := loopN c7 0
abbrev H7_0 : Slots := [(0, .t T22), (3, .t T4), (5, .t T26), (6, .t T4), (7, .t T3)]
abbrev X7_0 : List (PX × Slots) := [(.ex 0, [(3, .t T4), (5, .t T26), (6, .t T4)])]
noncomputable def E7_0 (k : Nat) : Nat → shsDen (H7_0.map (·.2)) → Option (XD X7_0) := loopF C16 Tryz.f7.ntmps (kpOf 0 I7) (Tf7 k) [] 1000 H7_0 X7_0 c7_0
noncomputable def L7_0 (k : Nat) : LSpec := ⟨H7_0, X7_0, E7_0 k k⟩
theorem Ls7_0 (k : Nat) : LSnd C16 Tryz.f7.ntmps (kpOf 0 I7) c7_0 (L7_0 k) :=
  lsnd_def (hT7 k) 1000 H7_0 X7_0 c7_0 (cs := []) (.nil) (by kernel_rfl) k
noncomputable def F7 (k : Nat) : shsDen I7 → Option (shsDen O7 × shsDen (shsUpd I7)) := funF C16 (Tf7 k) [(7, L7_0 k)] 1000 Tryz.f7 I7 O7
theorem snd7 (k : Nat) : Snd C16 7 ⟨I7, O7, F7 k⟩ :=
  snd_def (c := c7) (by kernel_rfl) (by kernel_rfl) (by kernel_rfl) (hT7 k) 1000 I7 O7 (cs := [c7_0]) (.cons _ _ 7 _ (by kernel_rfl) rfl (Ls7_0 k) (.nil)) (by kernel_rfl)
end Go.Pv.L16
