/- What an advance tells are just those that waited with a time up to it: of every events and time. -/
import Derived.Test.YtfnhnkaikpgnbaaRows
import Derived.Test.YtfnhnkaikpgnbaaPvL06
import Derived.HandedShaped
import Derived.WalkKit
import Derived.ProofKit
import Derived.OpenShut
import Derived.ShutString
import Derived.ChangeOld
import Derived.Below
import Derived.SizedLaws
import Derived.Test.YtfnhnkaikpgnbaaPvPureOrderDue
namespace Go.Proofs.Ytfnhnkaikpgnbaa.orderDue
open Go.ChangeShapes Go.WideShapes Go.RowKit Go.Pv Go.Pv.L06
theorem own : ownKnob Try.prog.godebug = none := by kernel_rfl
theorem laidOut : laidOutB Try.prog = true := by kernel_rfl
set_option maxHeartbeats 2000000 in
set_option maxRecDepth 100000 in
theorem lifted (os : Os) (started : os.Started) (H : Type) (enc : TypeId × Value → H) :
    ReturnsInHanded {} Try.checked os 7 .any (Rows.orderDueSpec.pre6 enc Try.prog Try.f7 Rows.orderDueRow.domain false) (Rows.orderDueSpec.post enc Try.prog Try.f7 false true false false) := by
  refine returnsInHanded_of_change_shaped (C := Try.checked) own started (by kernel_rfl) Try.func7
    (ChangeSpec.witness6 (enc := enc) (C := Try.checked) false ⟨#[], #[.slice none 0 0, .int .i64 0], []⟩ 8 (by kernel_rfl) (by kernel_rfl) (by kernel_rfl) (by kernel_rfl)) ?_
  intro W base args ds gs before hval0 hW hcnd hsz0 hsh _
  have hval : ∀ (j : Nat) t v, Try.f7.params[j]? = some t → args[j]? = some v → Value.okWide Try.prog W .any base t v := hval0
  have hW' := hW
  obtain ⟨p, q, hA0, hV, rfl, hfz, hnd⟩ := hW
  have hA : DataW.TrodAll enc Try.prog W 0 (fun _ => true) true Try.f7.params.toList args.toList ds p := hA0
  have hsz : (DataW.weightsEach Try.prog (Try.f7.params.toList ++ Rows.orderDueSpec.plain.varTypes Try.prog) (ds ++ gs)).all (· ≤ reachBytes) = true := hsz0
  rw [Try.params7] at hA hval hsz
  have hA : DataW.TrodAll enc Try.prog W 0 (fun _ => true) true [34, 2] args.toList ds p := hA
  obtain ⟨hl1, hl2⟩ := trodAll_length _ hA
  obtain ⟨d0, d1, rfl⟩ : ∃ d0 d1, ds = [d0, d1] := by
    match ds, hl1 with
    | [d0, d1], _ => exact ⟨d0, d1, rfl⟩
  obtain ⟨rfl, rfl⟩ := trodVars_none hV
  obtain ⟨x, hx, hok⟩ := opens_all (C := C06) [34, 2] [T34, T2] (by kernel_rfl) hA (fun j t v hj hv => hval j t v (by rw [← hj]; simp) (by rw [← Array.getElem?_toList]; exact hv)) (sized_each hsz hl1)
  obtain ⟨k, z, hh⟩ := PureOrderDue x hok
  have hg : GlOk C06.gl W := fun b hb => by rw [show C06.gl = [] from rfl] at hb; cases hb
  have hcall := law_calls (snd7 k) hh hg hx
  rw [show args.toList.toArray = args by simp] at hcall
  refine hcall.mono fun e W' h_ => ?_
  obtain ⟨rfl, bel⟩ := h_
  exact ⟨_, rfl, _, _, _, [], _, [], hW', trodAll_mk1 (shut_bool Try.underlying4 _), trodAll_stays laidOut [34, 2] (by kernel_rfl) hA bel, rfl, bel.frame _, fun h => by cases h⟩
theorem over : Rows.orderDueRow.holds Try.pinned (OpenSpec.ofChange Rows.orderDueSpec) :=
  OpenClaim.holds_of_wide 7 Try.f7 rfl rfl rfl rfl rfl rfl rfl ⟨rfl, rfl, rfl, rfl, rfl⟩ rfl rfl rfl rfl rfl (by kernel_rfl) Try.func7 (by kernel_rfl)
    (of_decide_eq_true (by kernel_rfl)) (by unfold Func.isWrapper; first | (rw [if_pos (by decide +kernel)]; kernel_rfl) | (rw [if_neg (by decide +kernel)]; exact ⟨rfl, rfl⟩))
    (fun os started H enc _ => lifted os started H enc)
theorem proved : Rows.OrderDueSaid := over
#print axioms proved
end Go.Proofs.Ytfnhnkaikpgnbaa.orderDue
namespace Go.Proofs.Ytfnhnkaikpgnbaa
set_option linter.all false
set_option linter.constructorNameAsVariable false
set_option linter.unusedSectionVars false
set_option linter.unusedVariables false
set_option linter.unusedSimpArgs false
/-- The row, under a short name, for the claim. -/
theorem orderDue_holds : Rows.OrderDueSaid := orderDue.proved
end Go.Proofs.Ytfnhnkaikpgnbaa
