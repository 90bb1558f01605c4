/- An entry that reads none and is read by none changes nothing: of any entries. -/
import Derived.Test.YtfmcfigoendjiaaGreatRows
import Derived.Test.YtfmcfigoendjiaaGreatPvL16
import Derived.HandedShaped
import Derived.WalkKit
import Derived.ProofKit
import Derived.OpenShut
import Derived.ShutString
import Derived.ChangeOld
import Derived.Below
import Derived.SizedLaws
import Derived.Test.YtfmcfigoendjiaaGreatPvPureGraphMore
namespace Go.Proofs.YtfmcfigoendjiaaGreat.graphMore
open Go.ChangeShapes Go.WideShapes Go.RowKit Go.Pv Go.Pv.L16
theorem own : ownKnob Tryz.prog.godebug = none := by kernel_rfl
theorem laidOut : laidOutB Tryz.prog = true := by kernel_rfl
set_option maxHeartbeats 2000000 in
set_option maxRecDepth 100000 in
theorem lifted (os : Os) (started : os.Started) (H : Type) (enc : TypeId × Value → H) :
    ReturnsInHanded {} Tryz.checked os 6 .any (Rows.graphMoreSpec.pre6 enc Tryz.prog Tryz.f6 Rows.graphMoreRow.domain false) (Rows.graphMoreSpec.post enc Tryz.prog Tryz.f6 false true false false) := by
  refine returnsInHanded_of_change_shaped (C := Tryz.checked) own started (by kernel_rfl) Tryz.func6
    (ChangeSpec.witness6 (enc := enc) (C := Tryz.checked) false ⟨#[], #[.slice none 0 0, .agg #[.string ByteArray.empty, .slice none 0 0]], []⟩ 8 (by kernel_rfl) (by kernel_rfl) (by kernel_rfl) (by kernel_rfl)) ?_
  intro W base args ds gs before hval0 hW hcnd hsz0 hsh _
  have hval : ∀ (j : Nat) t v, Tryz.f6.params[j]? = some t → args[j]? = some v → Value.okWide Tryz.prog W .any base t v := hval0
  have hW' := hW
  obtain ⟨p, q, hA0, hV, rfl, hfz, hnd⟩ := hW
  have hA : DataW.TrodAll enc Tryz.prog W 0 (fun _ => true) true Tryz.f6.params.toList args.toList ds p := hA0
  have hsz : (DataW.weightsEach Tryz.prog (Tryz.f6.params.toList ++ Rows.graphMoreSpec.plain.varTypes Tryz.prog) (ds ++ gs)).all (· ≤ reachBytes) = true := hsz0
  rw [Tryz.params6] at hA hval hsz
  have hA : DataW.TrodAll enc Tryz.prog W 0 (fun _ => true) true [22, 36] args.toList ds p := hA
  obtain ⟨hl1, hl2⟩ := trodAll_length _ hA
  obtain ⟨d0, d1, rfl⟩ : ∃ d0 d1, ds = [d0, d1] := by
    match ds, hl1 with
    | [d0, d1], _ => exact ⟨d0, d1, rfl⟩
  obtain ⟨rfl, rfl⟩ := trodVars_none hV
  obtain ⟨x, hx, hok⟩ := opens_all (C := C16) [22, 36] [T22, T36] (by kernel_rfl) hA (fun j t v hj hv => hval j t v (by rw [← hj]; simp) (by rw [← Array.getElem?_toList]; exact hv)) (sized_each hsz hl1)
  obtain ⟨k, z, hh⟩ := PureGraphMore x hok
  have hg : GlOk C16.gl W := fun b hb => by rw [show C16.gl = [0] from rfl, List.mem_singleton] at hb; subst hb; exact Tryz.maxLen W hsh
  have hcall := law_calls (snd6 k) hh hg hx
  rw [show args.toList.toArray = args by simp] at hcall
  refine hcall.mono fun e W' h_ => ?_
  obtain ⟨rfl, bel⟩ := h_
  exact ⟨_, rfl, _, _, _, [], _, [], hW', trodAll_mk1 (shut_bool Tryz.underlying4 _), trodAll_stays laidOut [22, 36] (by kernel_rfl) hA bel, rfl, bel.frame _, fun h => by cases h⟩
theorem over : Rows.graphMoreRow.holds Tryz.pinned (OpenSpec.ofChange Rows.graphMoreSpec) :=
  OpenClaim.holds_of_wide 6 Tryz.f6 rfl rfl rfl rfl rfl rfl rfl ⟨rfl, rfl, rfl, rfl, rfl⟩ rfl rfl rfl rfl rfl (by kernel_rfl) Tryz.func6 (by kernel_rfl)
    (of_decide_eq_true (by kernel_rfl)) (by unfold Func.isWrapper; first | (rw [if_pos (by decide +kernel)]; kernel_rfl) | (rw [if_neg (by decide +kernel)]; exact ⟨rfl, rfl⟩))
    (fun os started H enc _ => lifted os started H enc)
theorem proved : Rows.GraphMoreSaid := over
#print axioms proved
end Go.Proofs.YtfmcfigoendjiaaGreat.graphMore
namespace Go.Proofs.YtfmcfigoendjiaaGreat
set_option linter.all false
set_option linter.constructorNameAsVariable false
set_option linter.unusedSectionVars false
set_option linter.unusedVariables false
set_option linter.unusedSimpArgs false
/-- The row, under a short name, for the claim. -/
theorem graphMore_holds : Rows.GraphMoreSaid := graphMore.proved
end Go.Proofs.YtfmcfigoendjiaaGreat
