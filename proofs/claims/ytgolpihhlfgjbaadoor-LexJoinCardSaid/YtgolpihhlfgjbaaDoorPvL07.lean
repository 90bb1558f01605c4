/- The meanings of the functions of layer 07, and that the program does what they say: written by gen.py. -/
import Derived.Test.YtgolpihhlfgjbaaDoorPvKs
import Derived.Test.YtgolpihhlfgjbaaDoorPvSh07
namespace Go.Pv.L07
open Go Go.Pv Go.Proofs
set_option linter.all false
set_option linter.constructorNameAsVariable false
set_option linter.unusedSectionVars false
set_option linter.unusedVariables false
set_option linter.unusedSimpArgs false
noncomputable def C07 : Cfg := ⟨Tryd.prog, 999999, [0], [29], by kernel_rfl⟩
abbrev T3 : Ty := (Ty.i IntKind.i64)
abbrev T4 : Ty := Ty.b
abbrev T5 : Ty := Ty.y8
abbrev T9 : Ty := Ty.s
abbrev T23 : Ty := ((Ty.i IntKind.i64).p (Ty.s.p (Ty.i IntKind.i64))).l
abbrev T24 : Ty := (Ty.i IntKind.i64)
abbrev T29 : Ty := ((Ty.i IntKind.i64).p (Ty.s.p (Ty.i IntKind.i64)))

/-! ### f13 -/
abbrev I13 : List Sh := [.t T9, .t T9]
abbrev O13 : List Sh := [.t T9]
noncomputable def F13 (k : Nat) : shsDen I13 → Option (shsDen O13 × shsDen (shsUpd I13)) := fun x => bif decide (x.2.1.size < 4294967281) && x.2.1.data.toList.all (fun b => decide (b.toNat < 128)) then some (((⟨(Lib.trimLeftS x.1.data.toList x.2.1.data.toList).toArray⟩ : ByteArray), ()), ()) else none
theorem snd13 (k : Nat) : Snd C07 13 ⟨I13, O13, F13 k⟩ := by
  refine snd_sss (F := F13 k) (enter_of (fn := Tryd.f13) (c := bodyOf Tryd.f13) (by kernel_rfl) (by kernel_rfl) (by kernel_rfl)) fun a b y hy w hg => ?_
  unfold F13 at hy
  cases hd : (decide (b.size < 4294967281) && b.data.toList.all (fun b => decide (b.toNat < 128))) with
  | true =>
    dsimp only at hy
    rw [hd] at hy
    injection hy with hy
    subst hy
    rw [Bool.and_eq_true] at hd
    exact Tryd.strings_TrimLeft a b w (of_decide_eq_true hd.1) (ascii_of_all hd.2)
  | false =>
    dsimp only at hy
    rw [hd] at hy
    cases hy


/-! ### f10 -/
abbrev I10 : List Sh := [.t T9, .t T9]
abbrev O10 : List Sh := [.t T3]
noncomputable def c10 : Code := bodyOf Tryd.f10
noncomputable def Tf10 (k : Nat) : List (Nat × Spec) := [(13, ⟨I13, O13, F13 k⟩)]
theorem hT10 (k : Nat) : ∀ p, p ∈ Tf10 k → Snd C07 p.1 p.2 := hT_cons (snd13 k) (hT_nil)
noncomputable def F10 (k : Nat) : shsDen I10 → Option (shsDen O10 × shsDen (shsUpd I10)) := funF C07 (Tf10 k) [] 1000 Tryd.f10 I10 O10
theorem snd10 (k : Nat) : Snd C07 10 ⟨I10, O10, F10 k⟩ :=
  snd_def (c := c10) (by kernel_rfl) (by kernel_rfl) (by kernel_rfl) (hT10 k) 1000 I10 O10 (cs := []) (.nil) (by kernel_rfl)

/-! ### f28 -/
abbrev I28 : List Sh := [.t T9, .t T9]
abbrev O28 : List Sh := [.t T4]
noncomputable def c28 : Code := bodyOf Tryd.f28
noncomputable def Tf28 (k : Nat) : List (Nat × Spec) := []
theorem hT28 (k : Nat) : ∀ p, p ∈ Tf28 k → Snd C07 p.1 p.2 := hT_nil
noncomputable def F28 (k : Nat) : shsDen I28 → Option (shsDen O28 × shsDen (shsUpd I28)) := funF C07 (Tf28 k) [] 1000 Tryd.f28 I28 O28
theorem snd28 (k : Nat) : Snd C07 28 ⟨I28, O28, F28 k⟩ :=
  snd_def (c := c28) (by kernel_rfl) (by kernel_rfl) (by kernel_rfl) (hT28 k) 1000 I28 O28 (cs := []) (.nil) (by kernel_rfl)

/-! ### f22 -/
abbrev I22 : List Sh := [.t T9, .t T9]
abbrev O22 : List Sh := [.t T4]
noncomputable def c22 : Code := bodyOf Tryd.f22
noncomputable def Tf22 (k : Nat) : List (Nat × Spec) := [(28, ⟨I28, O28, F28 k⟩)]
theorem hT22 (k : Nat) : ∀ p, p ∈ Tf22 k → Snd C07 p.1 p.2 := hT_cons (snd28 k) (hT_nil)
noncomputable def F22 (k : Nat) : shsDen I22 → Option (shsDen O22 × shsDen (shsUpd I22)) := funF C07 (Tf22 k) [] 1000 Tryd.f22 I22 O22
theorem snd22 (k : Nat) : Snd C07 22 ⟨I22, O22, F22 k⟩ :=
  snd_def (c := c22) (by kernel_rfl) (by kernel_rfl) (by kernel_rfl) (hT22 k) 1000 I22 O22 (cs := []) (.nil) (by kernel_rfl)

/-! ### f23 -/
abbrev I23 : List Sh := [.t T9, .t T5]
abbrev O23 : List Sh := [.t T3]
noncomputable def F23 (k : Nat) : shsDen I23 → Option (shsDen O23 × shsDen (shsUpd I23)) := fun x => some ((Lib.indexByte x.1.data.toList x.2.1, ()), ())
theorem snd23 (k : Nat) : Snd C07 23 ⟨I23, O23, F23 k⟩ := by
  refine snd_syi (F := F23 k) (enter_of (fn := Tryd.f23) (c := bodyOf Tryd.f23) (by kernel_rfl) (by kernel_rfl) (by kernel_rfl)) fun a b y hy w hg => ?_
  unfold F23 at hy
  injection hy with hy
  subst hy
  refine Calls.mono (Tryd.strings_IndexByte a b.toNat w) ?_
  rintro e w' ⟨rfl, rfl⟩
  refine ⟨?_, .refl _ _⟩
  rw [show ((b.toNat : Int)).toNat.toUInt8 = b by simp]


/-! ### f14 -/
abbrev I14 : List Sh := [.t T9]
abbrev O14 : List Sh := [.t T3]
noncomputable def c14 : Code := bodyOf Tryd.f14
noncomputable def Tf14 (k : Nat) : List (Nat × Spec) := [(22, ⟨I22, O22, F22 k⟩), (23, ⟨I23, O23, F23 k⟩)]
theorem hT14 (k : Nat) : ∀ p, p ∈ Tf14 k → Snd C07 p.1 p.2 := hT_cons (snd22 k) (hT_cons (snd23 k) (hT_nil))
noncomputable def F14 (k : Nat) : shsDen I14 → Option (shsDen O14 × shsDen (shsUpd I14)) := funF C07 (Tf14 k) [] 1000 Tryd.f14 I14 O14
theorem snd14 (k : Nat) : Snd C07 14 ⟨I14, O14, F14 k⟩ :=
  snd_def (c := c14) (by kernel_rfl) (by kernel_rfl) (by kernel_rfl) (hT14 k) 1000 I14 O14 (cs := []) (.nil) (by kernel_rfl)

/-! ### f15 -/
abbrev I15 : List Sh := [.t T9]
abbrev O15 : List Sh := [.t T4]
noncomputable def c15 : Code := bodyOf Tryd.f15
noncomputable def Tf15 (k : Nat) : List (Nat × Spec) := []
theorem hT15 (k : Nat) : ∀ p, p ∈ Tf15 k → Snd C07 p.1 p.2 := hT_nil
noncomputable def c15_0 : Code := loopN c15 0
abbrev H15_0 : Slots := [(0, .t T9), (3, .t T3), (7, .row T5), (8, .t T3), (9, .t T3)]
abbrev X15_0 : List (PX × Slots) := [(.ex 0, [(0, .t T9), (3, .t T3)]), (.rt, [(2, .t T4)])]
noncomputable def E15_0 (k : Nat) : Nat → shsDen (H15_0.map (·.2)) → Option (XD X15_0) := loopF C07 Tryd.f15.ntmps (kpOf 0 I15) (Tf15 k) [] 1000 H15_0 X15_0 c15_0
noncomputable def L15_0 (k : Nat) : LSpec := ⟨H15_0, X15_0, E15_0 k k⟩
theorem Ls15_0 (k : Nat) : LSnd C07 Tryd.f15.ntmps (kpOf 0 I15) c15_0 (L15_0 k) :=
  lsnd_def (hT15 k) 1000 H15_0 X15_0 c15_0 (cs := []) (.nil) (by kernel_rfl) k
noncomputable def F15 (k : Nat) : shsDen I15 → Option (shsDen O15 × shsDen (shsUpd I15)) := funF C07 (Tf15 k) [(3, L15_0 k)] 1000 Tryd.f15 I15 O15
theorem snd15 (k : Nat) : Snd C07 15 ⟨I15, O15, F15 k⟩ :=
  snd_def (c := c15) (by kernel_rfl) (by kernel_rfl) (by kernel_rfl) (hT15 k) 1000 I15 O15 (cs := [c15_0]) (.cons _ _ 3 _ (by kernel_rfl) rfl (Ls15_0 k) (.nil)) (by kernel_rfl)

/-! ### f16 -/
abbrev I16 : List Sh := [.t T9]
abbrev O16 : List Sh := [.t T3]
noncomputable def c16 : Code := bodyOf Tryd.f16
noncomputable def Tf16 (k : Nat) : List (Nat × Spec) := [(23, ⟨I23, O23, F23 k⟩)]
theorem hT16 (k : Nat) : ∀ p, p ∈ Tf16 k → Snd C07 p.1 p.2 := hT_cons (snd23 k) (hT_nil)
noncomputable def c16_0 : Code := loopN c16 0
abbrev H16_0 : Slots := [(3, .t T3), (19, .row T5), (20, .t T3), (21, .t T3)]
abbrev X16_0 : List (PX × Slots) := [(.ex 0, [(3, .t T3)]), (.rt, [(2, .t T3)])]
noncomputable def E16_0 (k : Nat) : Nat → shsDen (H16_0.map (·.2)) → Option (XD X16_0) := loopF C07 Tryd.f16.ntmps (kpOf 0 I16) (Tf16 k) [] 1000 H16_0 X16_0 c16_0
noncomputable def L16_0 (k : Nat) : LSpec := ⟨H16_0, X16_0, E16_0 k k⟩
theorem Ls16_0 (k : Nat) : LSnd C07 Tryd.f16.ntmps (kpOf 0 I16) c16_0 (L16_0 k) :=
  lsnd_def (hT16 k) 1000 H16_0 X16_0 c16_0 (cs := []) (.nil) (by kernel_rfl) k
noncomputable def F16 (k : Nat) : shsDen I16 → Option (shsDen O16 × shsDen (shsUpd I16)) := funF C07 (Tf16 k) [(5, L16_0 k)] 1000 Tryd.f16 I16 O16
theorem snd16 (k : Nat) : Snd C07 16 ⟨I16, O16, F16 k⟩ :=
  snd_def (c := c16) (by kernel_rfl) (by kernel_rfl) (by kernel_rfl) (hT16 k) 1000 I16 O16 (cs := [c16_0]) (.cons _ _ 5 _ (by kernel_rfl) rfl (Ls16_0 k) (.nil)) (by kernel_rfl)

/-! ### f11 -/
abbrev I11 : List Sh := [.t T9]
abbrev O11 : List Sh := [.t T29, .t T3]
noncomputable def c11 : Code := bodyOf Tryd.f11
noncomputable def Tf11 (k : Nat) : List (Nat × Spec) := [(14, ⟨I14, O14, F14 k⟩), (10, ⟨I10, O10, F10 k⟩), (15, ⟨I15, O15, F15 k⟩), (16, ⟨I16, O16, F16 k⟩)]
theorem hT11 (k : Nat) : ∀ p, p ∈ Tf11 k → Snd C07 p.1 p.2 := hT_cons (snd14 k) (hT_cons (snd10 k) (hT_cons (snd15 k) (hT_cons (snd16 k) (hT_nil))))
noncomputable def F11 (k : Nat) : shsDen I11 → Option (shsDen O11 × shsDen (shsUpd I11)) := funF C07 (Tf11 k) [] 1000 Tryd.f11 I11 O11
theorem snd11 (k : Nat) : Snd C07 11 ⟨I11, O11, F11 k⟩ :=
  snd_def (c := c11) (by kernel_rfl) (by kernel_rfl) (by kernel_rfl) (hT11 k) 1000 I11 O11 (cs := []) (.nil) (by kernel_rfl)

/-! ### f7 -/
abbrev I7 : List Sh := [.t T9]
abbrev O7 : List Sh := [.t T23, .t T24, .t T3]
noncomputable def c7 : Code := bodyOf Tryd.f7
noncomputable def Tf7 (k : Nat) : List (Nat × Spec) := [(10, ⟨I10, O10, F10 k⟩), (11, ⟨I11, O11, F11 k⟩)]
theorem hT7 (k : Nat) : ∀ p, p ∈ Tf7 k → Snd C07 p.1 p.2 := hT_cons (snd10 k) (hT_cons (snd11 k) (hT_nil))
noncomputable def c7_0 : Code := loopN c7 0
abbrev H7_0 : Slots := [(0, .t T9), (5, .row T29), (6, .t T3)]
abbrev X7_0 : List (PX × Slots) := [(.ex 0, [(5, .row T29)]), (.rt, [(2, .row T29), (3, .t T24), (4, .t T3)])]
noncomputable def E7_0 (k : Nat) : Nat → shsDen (H7_0.map (·.2)) → Option (XD X7_0) := loopF C07 Tryd.f7.ntmps (kpOf 0 I7) (Tf7 k) [] 1000 H7_0 X7_0 c7_0
noncomputable def L7_0 (k : Nat) : LSpec := ⟨H7_0, X7_0, E7_0 k k⟩
theorem Ls7_0 (k : Nat) : LSnd C07 Tryd.f7.ntmps (kpOf 0 I7) c7_0 (L7_0 k) :=
  lsnd_def (hT7 k) 1000 H7_0 X7_0 c7_0 (cs := []) (.nil) (by kernel_rfl) k
noncomputable def F7 (k : Nat) : shsDen I7 → Option (shsDen O7 × shsDen (shsUpd I7)) := funF C07 (Tf7 k) [(5, L7_0 k)] 1000 Tryd.f7 I7 O7
theorem snd7 (k : Nat) : Snd C07 7 ⟨I7, O7, F7 k⟩ :=
  snd_def (c := c7) (by kernel_rfl) (by kernel_rfl) (by kernel_rfl) (hT7 k) 1000 I7 O7 (cs := [c7_0]) (.cons _ _ 5 _ (by kernel_rfl) rfl (Ls7_0 k) (.nil)) (by kernel_rfl)

/-! ### f12 -/
abbrev I12 : List Sh := [.t T9, .t T9]
abbrev O12 : List Sh := [.t T4]
noncomputable def F12 (k : Nat) : shsDen I12 → Option (shsDen O12 × shsDen (shsUpd I12)) := fun x => bif decide (x.1.size < 4294967281) then some ((Lib.contains x.1.data.toList x.2.1.data.toList, ()), ()) else none
theorem snd12 (k : Nat) : Snd C07 12 ⟨I12, O12, F12 k⟩ := by
  refine snd_ssb (F := F12 k) (enter_of (fn := Tryd.f12) (c := bodyOf Tryd.f12) (by kernel_rfl) (by kernel_rfl) (by kernel_rfl)) fun a b y hy w hg => ?_
  obtain ⟨n, hn⟩ := hg 0 (by simp [C07])
  unfold F12 at hy
  cases hd : decide (a.size < 4294967281) with
  | true =>
    dsimp only at hy
    rw [hd] at hy
    injection hy with hy
    subst hy
    exact Tryd.strings_Contains a b n w (of_decide_eq_true hd) hn
  | false =>
    dsimp only at hy
    rw [hd] at hy
    cases hy


/-! ### f9 -/
abbrev I9 : List Sh := [.t T9]
abbrev O9 : List Sh := [.t T4]
noncomputable def c9 : Code := bodyOf Tryd.f9
noncomputable def Tf9 (k : Nat) : List (Nat × Spec) := [(12, ⟨I12, O12, F12 k⟩)]
theorem hT9 (k : Nat) : ∀ p, p ∈ Tf9 k → Snd C07 p.1 p.2 := hT_cons (snd12 k) (hT_nil)
noncomputable def F9 (k : Nat) : shsDen I9 → Option (shsDen O9 × shsDen (shsUpd I9)) := funF C07 (Tf9 k) [] 1000 Tryd.f9 I9 O9
theorem snd9 (k : Nat) : Snd C07 9 ⟨I9, O9, F9 k⟩ :=
  snd_def (c := c9) (by kernel_rfl) (by kernel_rfl) (by kernel_rfl) (hT9 k) 1000 I9 O9 (cs := []) (.nil) (by kernel_rfl)

/-! ### f6 -/
abbrev I6 : List Sh := []
abbrev O6 : List Sh := [.t T4]
noncomputable def c6 : Code := bodyOf Tryd.f6
noncomputable def Tf6 (k : Nat) : List (Nat × Spec) := [(7, ⟨I7, O7, F7 k⟩), (9, ⟨I9, O9, F9 k⟩)]
theorem hT6 (k : Nat) : ∀ p, p ∈ Tf6 k → Snd C07 p.1 p.2 := hT_cons (snd7 k) (hT_cons (snd9 k) (hT_nil))
noncomputable def F6 (k : Nat) : shsDen I6 → Option (shsDen O6 × shsDen (shsUpd I6)) := funF C07 (Tf6 k) [] 1000 Tryd.f6 I6 O6
theorem snd6 (k : Nat) : Snd C07 6 ⟨I6, O6, F6 k⟩ :=
  snd_def (c := c6) (by kernel_rfl) (by kernel_rfl) (by kernel_rfl) (hT6 k) 1000 I6 O6 (cs := []) (.nil) (by kernel_rfl)

/-! ### f8 -/
abbrev I8 : List Sh := [.t T29]
abbrev O8 : List Sh := [.t T9]
noncomputable def c8 : Code := bodyOf Tryd.f8
noncomputable def Tf8 (k : Nat) : List (Nat × Spec) := []
theorem hT8 (k : Nat) : ∀ p, p ∈ Tf8 k → Snd C07 p.1 p.2 := hT_nil
noncomputable def F8 (k : Nat) : shsDen I8 → Option (shsDen O8 × shsDen (shsUpd I8)) := funF C07 (Tf8 k) [] 1000 Tryd.f8 I8 O8
theorem snd8 (k : Nat) : Snd C07 8 ⟨I8, O8, F8 k⟩ :=
  snd_def (c := c8) (by kernel_rfl) (by kernel_rfl) (by kernel_rfl) (hT8 k) 1000 I8 O8 (cs := []) (.nil) (by kernel_rfl)

/-! ### f3 -/
abbrev I3 : List Sh := [.t T9]
abbrev O3 : List Sh := [.t T4]
noncomputable def c3 : Code := bodyOf Tryd.f3
noncomputable def Tf3 (k : Nat) : List (Nat × Spec) := [(6, ⟨I6, O6, F6 k⟩), (7, ⟨I7, O7, F7 k⟩), (8, ⟨I8, O8, F8 k⟩)]
theorem hT3 (k : Nat) : ∀ p, p ∈ Tf3 k → Snd C07 p.1 p.2 := hT_cons (snd6 k) (hT_cons (snd7 k) (hT_cons (snd8 k) (hT_nil)))
noncomputable def c3_0 : Code := loopN c3 0
abbrev H3_0 : Slots := [(3, .t T4), (4, .t T23), (7, .t T9), (8, .t T3)]
abbrev X3_0 : List (PX × Slots) := [(.ex 0, [(3, .t T4), (4, .t T23), (7, .t T9)])]
noncomputable def E3_0 (k : Nat) : Nat → shsDen (H3_0.map (·.2)) → Option (XD X3_0) := loopF C07 Tryd.f3.ntmps (kpOf 0 I3) (Tf3 k) [] 1000 H3_0 X3_0 c3_0
noncomputable def L3_0 (k : Nat) : LSpec := ⟨H3_0, X3_0, E3_0 k k⟩
theorem Ls3_0 (k : Nat) : LSnd C07 Tryd.f3.ntmps (kpOf 0 I3) c3_0 (L3_0 k) :=
  lsnd_def (hT3 k) 1000 H3_0 X3_0 c3_0 (cs := []) (.nil) (by kernel_rfl) k
noncomputable def c3_1 : Code := loopN c3 1
abbrev H3_1 : Slots := [(3, .t T4), (4, .t T23), (9, .t T23), (12, .t T3)]
abbrev X3_1 : List (PX × Slots) := [(.ex 2, [(3, .t T4)]), (.rt, [(2, .t T4)])]
noncomputable def E3_1 (k : Nat) : Nat → shsDen (H3_1.map (·.2)) → Option (XD X3_1) := loopF C07 Tryd.f3.ntmps (kpOf 0 I3) (Tf3 k) [] 1000 H3_1 X3_1 c3_1
noncomputable def L3_1 (k : Nat) : LSpec := ⟨H3_1, X3_1, E3_1 k k⟩
theorem Ls3_1 (k : Nat) : LSnd C07 Tryd.f3.ntmps (kpOf 0 I3) c3_1 (L3_1 k) :=
  lsnd_def (hT3 k) 1000 H3_1 X3_1 c3_1 (cs := []) (.nil) (by kernel_rfl) k
noncomputable def F3 (k : Nat) : shsDen I3 → Option (shsDen O3 × shsDen (shsUpd I3)) := funF C07 (Tf3 k) [(9, L3_0 k), (20, L3_1 k)] 1000 Tryd.f3 I3 O3
theorem snd3 (k : Nat) : Snd C07 3 ⟨I3, O3, F3 k⟩ :=
  snd_def (c := c3) (by kernel_rfl) (by kernel_rfl) (by kernel_rfl) (hT3 k) 1000 I3 O3 (cs := [c3_0, c3_1]) (.cons _ _ 9 _ (by kernel_rfl) rfl (Ls3_0 k) (.cons _ _ 20 _ (by kernel_rfl) rfl (Ls3_1 k) (.nil))) (by kernel_rfl)

/-! ### f4 -/
abbrev I4 : List Sh := [.t T9]
abbrev O4 : List Sh := [.t T4]
noncomputable def c4 : Code := bodyOf Tryd.f4
noncomputable def Tf4 (k : Nat) : List (Nat × Spec) := [(6, ⟨I6, O6, F6 k⟩), (7, ⟨I7, O7, F7 k⟩), (8, ⟨I8, O8, F8 k⟩)]
theorem hT4 (k : Nat) : ∀ p, p ∈ Tf4 k → Snd C07 p.1 p.2 := hT_cons (snd6 k) (hT_cons (snd7 k) (hT_cons (snd8 k) (hT_nil)))
noncomputable def c4_0 : Code := loopN c4 0
noncomputable def c4_0_0 : Code := loopN c4_0 0
abbrev H4_0_0 : Slots := [(0, .t T9), (3, .t T4), (4, .t T23), (8, .t T3), (9, .t T3), (10, .t T3)]
abbrev X4_0_0 : List (PX × Slots) := [(.ex 2, [(0, .t T9), (3, .t T4), (4, .t T23), (8, .t T3), (9, .t T3)]), (.rt, [(2, .t T4)])]
noncomputable def E4_0_0 (k : Nat) : Nat → shsDen (H4_0_0.map (·.2)) → Option (XD X4_0_0) := loopF C07 Tryd.f4.ntmps (kpOf 0 I4) (Tf4 k) [] 1000 H4_0_0 X4_0_0 c4_0_0
noncomputable def L4_0_0 (k : Nat) : LSpec := ⟨H4_0_0, X4_0_0, E4_0_0 k k⟩
theorem Ls4_0_0 (k : Nat) : LSnd C07 Tryd.f4.ntmps (kpOf 0 I4) c4_0_0 (L4_0_0 k) :=
  lsnd_def (hT4 k) 1000 H4_0_0 X4_0_0 c4_0_0 (cs := []) (.nil) (by kernel_rfl) k
abbrev H4_0 : Slots := [(0, .t T9), (3, .t T4), (4, .t T23), (7, .t T3), (8, .t T3)]
abbrev X4_0 : List (PX × Slots) := [(.ex 0, [(3, .t T4), (4, .t T23)]), (.rt, [(2, .t T4)])]
noncomputable def E4_0 (k : Nat) : Nat → shsDen (H4_0.map (·.2)) → Option (XD X4_0) := loopF C07 Tryd.f4.ntmps (kpOf 0 I4) (Tf4 k) [(17, L4_0_0 k)] 1000 H4_0 X4_0 c4_0
noncomputable def L4_0 (k : Nat) : LSpec := ⟨H4_0, X4_0, E4_0 k k⟩
theorem Ls4_0 (k : Nat) : LSnd C07 Tryd.f4.ntmps (kpOf 0 I4) c4_0 (L4_0 k) :=
  lsnd_def (hT4 k) 1000 H4_0 X4_0 c4_0 (cs := [c4_0_0]) (.cons _ _ 17 _ (by kernel_rfl) rfl (Ls4_0_0 k) (.nil)) (by kernel_rfl) k
noncomputable def F4 (k : Nat) : shsDen I4 → Option (shsDen O4 × shsDen (shsUpd I4)) := funF C07 (Tf4 k) [(9, L4_0 k)] 1000 Tryd.f4 I4 O4
theorem snd4 (k : Nat) : Snd C07 4 ⟨I4, O4, F4 k⟩ :=
  snd_def (c := c4) (by kernel_rfl) (by kernel_rfl) (by kernel_rfl) (hT4 k) 1000 I4 O4 (cs := [c4_0]) (.cons _ _ 9 _ (by kernel_rfl) rfl (Ls4_0 k) (.nil)) (by kernel_rfl)

/-! ### f5 -/
abbrev I5 : List Sh := [.t T9, .t T9]
abbrev O5 : List Sh := [.t T4]
noncomputable def c5 : Code := bodyOf Tryd.f5
noncomputable def Tf5 (k : Nat) : List (Nat × Spec) := [(6, ⟨I6, O6, F6 k⟩), (7, ⟨I7, O7, F7 k⟩)]
theorem hT5 (k : Nat) : ∀ p, p ∈ Tf5 k → Snd C07 p.1 p.2 := hT_cons (snd6 k) (hT_cons (snd7 k) (hT_nil))
noncomputable def c5_0 : Code := loopN c5 0
abbrev H5_0 : Slots := [(0, .t T9), (5, .t T4), (6, .t T23), (9, .t T23), (12, .t T23), (15, .t T3)]
abbrev X5_0 : List (PX × Slots) := [(.ex 0, [(5, .t T4)]), (.rt, [(4, .t T4)])]
noncomputable def E5_0 (k : Nat) : Nat → shsDen (H5_0.map (·.2)) → Option (XD X5_0) := loopF C07 Tryd.f5.ntmps (kpOf 0 I5) (Tf5 k) [] 1000 H5_0 X5_0 c5_0
noncomputable def L5_0 (k : Nat) : LSpec := ⟨H5_0, X5_0, E5_0 k k⟩
theorem Ls5_0 (k : Nat) : LSnd C07 Tryd.f5.ntmps (kpOf 0 I5) c5_0 (L5_0 k) :=
  lsnd_def (hT5 k) 1000 H5_0 X5_0 c5_0 (cs := []) (.nil) (by kernel_rfl) k
noncomputable def F5 (k : Nat) : shsDen I5 → Option (shsDen O5 × shsDen (shsUpd I5)) := funF C07 (Tf5 k) [(16, L5_0 k)] 1000 Tryd.f5 I5 O5
theorem snd5 (k : Nat) : Snd C07 5 ⟨I5, O5, F5 k⟩ :=
  snd_def (c := c5) (by kernel_rfl) (by kernel_rfl) (by kernel_rfl) (hT5 k) 1000 I5 O5 (cs := [c5_0]) (.cons _ _ 16 _ (by kernel_rfl) rfl (Ls5_0 k) (.nil)) (by kernel_rfl)
end Go.Pv.L07
