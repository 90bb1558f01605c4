/- Layer 06: slices.Clone, by hand. -/
import Derived.Test.YtfnhnkaikpgnbaaPvIs06
namespace Go.Pv.L06
open Go Go.Pv Go.Proofs
set_option linter.all false
set_option linter.constructorNameAsVariable false
set_option linter.unusedSectionVars false
set_option linter.unusedVariables false
set_option linter.unusedSimpArgs false
abbrev vT : Ty := ((Ty.i IntKind.i64).p ((Ty.i IntKind.i64).p Ty.s))
abbrev J28 : List Sh := [.t vT.l]
abbrev P28 : List Sh := [.t vT.l]
noncomputable def D28 (k : Nat) : shsDen J28 → Option (shsDen P28 × shsDen (shsUpd J28)) := fun x => bif decide (x.1.length * 32 ≤ 140737488355328) then some ((x.1, ()), ()) else none
abbrev J24 : List Sh := [.mrow eT]
abbrev P24 : List Sh := [.row eT]
noncomputable def D24 (k : Nat) : shsDen J24 → Option (shsDen P24 × shsDen (shsUpd J24)) := fun x => bif decide (x.1.length * 64 ≤ 140737488355328) then some ((x.1, ()), (x.1, ())) else none
noncomputable def k28 : Code := bodyOf Try.f28
theorem cln28 (k : Nat) : Snd C0 28 ⟨J28, P28, D28 k⟩ := by
  refine snd_wp (C := C0) (fn := Try.f28) (c := k28) (by kernel_rfl) (by kernel_rfl) (enter_of (fn := Try.f28) (c := k28) (by kernel_rfl) (by kernel_rfl) (by kernel_rfl)) J28 P28 (D28 k) (fun x => Nat.le_of_ble_eq_true (by kernel_rfl)) fun x y hF G a w hA => ?_
  obtain ⟨xs, u⟩ := x
  unfold D28 at hF
  dsimp only at hF
  cases hd : decide (xs.length * 32 ≤ 140737488355328) with
  | false => rw [hd] at hF; cases hF
  | true =>
    rw [hd] at hF
    injection hF with hF
    subst hF
    refine clone_wp (C := C0) (c := k28) (r0 := sqL k28) (r2 := sqL (cdX (sqR (sqL (sqR k28))))) (r3 := sqL (sqR (sqR k28))) (i1 := rgI (sqL (sqL (sqR k28)))) (o1 := ithO (sqL (sqL (sqR k28))) 0) (o2 := ithO (sqL (sqL (sqR k28))) 1) (t := 29) (te := 62) (tt := 29) (by kernel_rfl) (by kernel_rfl) (by kernel_rfl) (by kernel_rfl) (by kernel_rfl) (by kernel_rfl) (by kernel_rfl) (by kernel_rfl)
      (fn := Try.f28) (s1 := stOf (pexec C0 Try.f28.ntmps (kpOf 0 J28) [] [] 9 (sqL k28) { env := (List.range (shsMk 0 J28 (xs, u)).1.length).zip (shsMk 0 J28 (xs, u)).1, h := (shsMk 0 J28 (xs, u)).2 } (fun p s => some (p, s)))) (Nat.le_of_ble_eq_true (by kernel_rfl)) hA (fun d hd => by cases hd) (by kernel_rfl) (by kernel_rfl) (by kernel_rfl) (FA := xs = []) (fun G a w h => ?_) (fun h => ?_) ?_ ⟨by kernel_rfl, by kernel_rfl⟩ ⟨by kernel_rfl, by kernel_rfl⟩ ⟨by kernel_rfl, by kernel_rfl⟩
    · exact list_slice (h.env 0)
    · subst h; kernel_rfl
    · have : decide ((([] : List vT.den).length + xs.length) * (31 + 1) ≤ 140737488355328) = true := by rw [List.length_nil, Nat.zero_add]; exact hd
      refine Eq.trans (b := bif decide ((([] : List vT.den).length + xs.length) * (31 + 1) ≤ 140737488355328) then some ((xs, ()), ()) else none) (by kernel_rfl) ?_
      rw [this]
      rfl
noncomputable def k24 : Code := bodyOf Try.f24
theorem cln24 (k : Nat) : Snd C0 24 ⟨J24, P24, D24 k⟩ := by
  refine snd_wp (C := C0) (fn := Try.f24) (c := k24) (by kernel_rfl) (by kernel_rfl) (enter_of (fn := Try.f24) (c := k24) (by kernel_rfl) (by kernel_rfl) (by kernel_rfl)) J24 P24 (D24 k) (fun x => Nat.le_of_ble_eq_true (by kernel_rfl)) fun x y hF G a w hA => ?_
  obtain ⟨xs, u⟩ := x
  unfold D24 at hF
  dsimp only at hF
  cases hd : decide (xs.length * 64 ≤ 140737488355328) with
  | false => rw [hd] at hF; cases hF
  | true =>
    rw [hd] at hF
    injection hF with hF
    subst hF
    refine clone_wp (C := C0) (c := k24) (r0 := sqL k24) (r2 := sqL (cdX (sqR (sqL (sqR k24))))) (r3 := sqL (sqR (sqR k24))) (i1 := rgI (sqL (sqL (sqR k24)))) (o1 := ithO (sqL (sqL (sqR k24))) 0) (o2 := ithO (sqL (sqL (sqR k24))) 1) (t := 34) (te := 31) (tt := 34) (by kernel_rfl) (by kernel_rfl) (by kernel_rfl) (by kernel_rfl) (by kernel_rfl) (by kernel_rfl) (by kernel_rfl) (by kernel_rfl)
      (fn := Try.f24) (s1 := stOf (pexec C0 Try.f24.ntmps (kpOf 0 J24) [] [] 9 (sqL k24) { env := (List.range (shsMk 0 J24 (xs, u)).1.length).zip (shsMk 0 J24 (xs, u)).1, h := (shsMk 0 J24 (xs, u)).2 } (fun p s => some (p, s)))) (Nat.le_of_ble_eq_true (by kernel_rfl)) hA (fun d hd => by simpa [kpOf, kpG] using hd) (by kernel_rfl) (by kernel_rfl) (by kernel_rfl) (FA := xs = []) (fun G a w h => ?_) (fun h => ?_) ?_ ⟨by kernel_rfl, by kernel_rfl⟩ ⟨by kernel_rfl, by kernel_rfl⟩ ⟨by kernel_rfl, by kernel_rfl⟩
    · exact row_slice (id := 0) h.mem rfl (h.env 0)
    · subst h; kernel_rfl
    · have : decide ((([] : List eT.den).length + xs.length) * (63 + 1) ≤ 140737488355328) = true := by rw [List.length_nil, Nat.zero_add]; exact hd
      refine Eq.trans (b := bif decide ((([] : List eT.den).length + xs.length) * (63 + 1) ≤ 140737488355328) then some ((xs, ()), (xs, ())) else none) (by kernel_rfl) ?_
      rw [this]
      rfl
abbrev J24l : List Sh := [.t eT.l]
abbrev P24l : List Sh := [.row eT]
noncomputable def D24l (k : Nat) : shsDen J24l → Option (shsDen P24l × shsDen (shsUpd J24l)) := fun x => bif decide (x.1.length * 64 ≤ 140737488355328) then some ((x.1, ()), ()) else none
theorem cln24l (k : Nat) : Snd C0 24 ⟨J24l, P24l, D24l k⟩ := by
  refine snd_wp (C := C0) (fn := Try.f24) (c := k24) (by kernel_rfl) (by kernel_rfl) (enter_of (fn := Try.f24) (c := k24) (by kernel_rfl) (by kernel_rfl) (by kernel_rfl)) J24l P24l (D24l k) (fun x => Nat.le_of_ble_eq_true (by kernel_rfl)) fun x y hF G a w hA => ?_
  obtain ⟨xs, u⟩ := x
  unfold D24l at hF
  dsimp only at hF
  cases hd : decide (xs.length * 64 ≤ 140737488355328) with
  | false => rw [hd] at hF; cases hF
  | true =>
    rw [hd] at hF
    injection hF with hF
    subst hF
    refine clone_wp (C := C0) (c := k24) (r0 := sqL k24) (r2 := sqL (cdX (sqR (sqL (sqR k24))))) (r3 := sqL (sqR (sqR k24))) (i1 := rgI (sqL (sqL (sqR k24)))) (o1 := ithO (sqL (sqL (sqR k24))) 0) (o2 := ithO (sqL (sqL (sqR k24))) 1) (t := 34) (te := 31) (tt := 34) (by kernel_rfl) (by kernel_rfl) (by kernel_rfl) (by kernel_rfl) (by kernel_rfl) (by kernel_rfl) (by kernel_rfl) (by kernel_rfl)
      (fn := Try.f24) (s1 := stOf (pexec C0 Try.f24.ntmps (kpOf 0 J24l) [] [] 9 (sqL k24) { env := (List.range (shsMk 0 J24l (xs, u)).1.length).zip (shsMk 0 J24l (xs, u)).1, h := (shsMk 0 J24l (xs, u)).2 } (fun p s => some (p, s)))) (Nat.le_of_ble_eq_true (by kernel_rfl)) hA (fun d hd => by cases hd) (by kernel_rfl) (by kernel_rfl) (by kernel_rfl) (FA := xs = []) (fun G a w h => ?_) (fun h => ?_) ?_ ⟨by kernel_rfl, by kernel_rfl⟩ ⟨by kernel_rfl, by kernel_rfl⟩ ⟨by kernel_rfl, by kernel_rfl⟩
    · exact list_slice (h.env 0)
    · subst h; kernel_rfl
    · have : decide ((([] : List eT.den).length + xs.length) * (63 + 1) ≤ 140737488355328) = true := by rw [List.length_nil, Nat.zero_add]; exact hd
      refine Eq.trans (b := bif decide ((([] : List eT.den).length + xs.length) * (63 + 1) ≤ 140737488355328) then some ((xs, ()), ()) else none) (by kernel_rfl) ?_
      rw [this]
      rfl
end Go.Pv.L06
