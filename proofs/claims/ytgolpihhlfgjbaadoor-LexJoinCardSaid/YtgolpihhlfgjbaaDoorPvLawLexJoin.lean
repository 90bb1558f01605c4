/- Of two texts with a blank between the tokens are those of both, each at its place, if both have some: of every two texts. -/
import Derived.Test.YtgolpihhlfgjbaaDoorRows
import Derived.Test.YtgolpihhlfgjbaaDoorCards
import Derived.Test.YtgolpihhlfgjbaaDoorTie
import Derived.Test.YtgolpihhlfgjbaaDoorPvL07
import Derived.Test.YtgolpihhlfgjbaaDoorPvCard
import Derived.SevenTiedAt
import Derived.HandedShaped
import Derived.WalkKit
import Derived.ProofKit
import Derived.OpenShut
import Derived.ShutString
import Derived.ChangeOld
import Derived.Below
import Derived.SizedLaws
import Derived.Test.YtgolpihhlfgjbaaDoorPvPureLexJoin
namespace Go.Proofs.YtgolpihhlfgjbaaDoor.lexJoin
open Go.ChangeShapes Go.WideShapes Go.RowKit Go.Pv Go.Pv.L07
set_option linter.all false
set_option linter.constructorNameAsVariable false
set_option linter.unusedSectionVars false
set_option linter.unusedVariables false
set_option linter.unusedSimpArgs false
theorem own : ownKnob Tryd.prog.godebug = none := by kernel_rfl
theorem laidOut : laidOutB Tryd.prog = true := by kernel_rfl
noncomputable def laidWorld (os : Os) : World :=
  let w0 := World.holding Tryd.prog os ⟨#[], #[], []⟩
  { w0 with heap := layAll [(2, Rows.laid_unicode_utf8_acceptRanges), (1, Rows.laid_unicode_utf8_first)] w0.heap }
theorem laidWorld_met (os : Os) (args : Array Value) : laidMetH Tryd.prog Rows.lexJoinRow.laid ((laidWorld os).forCall (fun _ _ => 0) ⟨#[], args, []⟩).memory :=
  laidMetH_of_parts (laidMet_of_run' 8 (by kernel_rfl) (by kernel_rfl)) (by kernel_rfl)
set_option maxHeartbeats 2000000 in
set_option maxRecDepth 100000 in
theorem lifted (os : Os) (started : os.Started) (H : Type) (enc : TypeId × Value → H) :
    ReturnsInHanded {} Tryd.checked os 5 .any (fun w args => (Rows.lexJoinSpec.pre enc Tryd.prog Tryd.f5 [] false w args ∧ laidMetH Tryd.prog Rows.lexJoinRow.laid w) ∧ sizedMet enc Tryd.prog Tryd.f5 (OpenSpec.ofChange Rows.lexJoinSpec) false w args) (Rows.lexJoinSpec.post enc Tryd.prog Tryd.f5 false true false false) := by
  refine returnsInHanded_of_change_shaped_and (C := Tryd.checked) (X := fun w _ => laidMetH Tryd.prog Rows.lexJoinRow.laid w) (fun _ _ _ hh h => h.of_heap hh) own started (by kernel_rfl) Tryd.func5
    (ChangeSpec.witness_at (enc := enc) (C := Tryd.checked) (os := os) (X := fun w _ => laidMetH Tryd.prog Rows.lexJoinRow.laid w) false (laidWorld os) #[.string ByteArray.empty, .string ByteArray.empty] 8 rfl (by kernel_rfl) (by kernel_rfl) (by kernel_rfl) (by kernel_rfl) (by kernel_rfl) (laidWorld_met os _)) ?_
  intro W base args ds gs before hval0 hW hcnd hsz0 hsh _ _
  have hval : ∀ (j : Nat) t v, Tryd.f5.params[j]? = some t → args[j]? = some v → Value.okWide Tryd.prog W .any base t v := hval0
  have hW' := hW
  obtain ⟨p, q, hA0, hV, rfl, hfz, hnd⟩ := hW
  have hA : DataW.TrodAll enc Tryd.prog W 0 (fun _ => true) true Tryd.f5.params.toList args.toList ds p := hA0
  have hsz : (DataW.weightsEach Tryd.prog (Tryd.f5.params.toList ++ Rows.lexJoinSpec.plain.varTypes Tryd.prog) (ds ++ gs)).all (· ≤ reachBytes) = true := hsz0
  rw [Tryd.params5] at hA hval hsz
  have hA : DataW.TrodAll enc Tryd.prog W 0 (fun _ => true) true [9, 9] args.toList ds p := hA
  obtain ⟨hl1, hl2⟩ := trodAll_length _ hA
  obtain ⟨d0, d1, rfl⟩ : ∃ d0 d1, ds = [d0, d1] := by
    match ds, hl1 with
    | [d0, d1], _ => exact ⟨d0, d1, rfl⟩
  obtain ⟨rfl, rfl⟩ := trodVars_none hV
  obtain ⟨x, hx, hok⟩ := opens_all (C := C07) [9, 9] [T9, T9] (by kernel_rfl) hA (fun j t v hj hv => hval j t v (by rw [← hj]; simp) (by rw [← Array.getElem?_toList]; exact hv)) (sized_each hsz hl1)
  obtain ⟨k, z, hh⟩ := PureLexJoin x hok
  have hg : GlOk C07.gl W := fun b hb => by rw [show C07.gl = [0] from rfl, List.mem_singleton] at hb; subst hb; exact Tryd.maxLen W hsh
  have hcall := law_calls (snd5 k) hh hg hx
  rw [show args.toList.toArray = args by simp] at hcall
  refine hcall.mono fun e W' h_ => ?_
  obtain ⟨rfl, bel⟩ := h_
  exact ⟨_, rfl, _, _, _, [], _, [], hW', trodAll_mk1 (shut_bool Tryd.underlying4 _), trodAll_stays laidOut [9, 9] (by kernel_rfl) hA bel, rfl, bel.frame _, fun h => by cases h⟩
theorem over : Rows.lexJoinRow.holds Tryd.pinned (OpenSpec.ofChange Rows.lexJoinSpec) :=
  OpenClaim.holds_of_wide 5 Tryd.f5 rfl rfl rfl rfl rfl rfl rfl ⟨rfl, rfl, rfl, rfl, rfl⟩ rfl rfl rfl rfl rfl (by kernel_rfl) Tryd.func5 (by kernel_rfl)
    (of_decide_eq_true (by kernel_rfl)) (by unfold Func.isWrapper; first | (rw [if_pos (by decide +kernel)]; kernel_rfl) | (rw [if_neg (by decide +kernel)]; exact ⟨rfl, rfl⟩))
    (fun os started H enc _ => lifted os started H enc)
theorem card : Rows.LexJoinCardSaid :=
  Claim7.holds_tied_plain_at .later [] [.data, .pinned] true (true, "b45a2b2af87c2e97bfe0f5c8271c8255852b7736b9f5f666916a414d6f8b2230") false
    over (fun _ h => by cases h) (by kernel_rfl) (fun _ h => by cases h) lexJoin_row_tie rfl ⟨rfl, rfl⟩ (by kernel_rfl) rfl
    (fun f fn hf hfn => by
      obtain rfl : f = 5 := Option.some.inj ((show Tryd.prog.funcNamed Rows.lexJoinRow.func = some 5 by kernel_rfl).symm.trans hf) |>.symm
      obtain rfl : fn = Tryd.f5 := (Option.some.inj (Tryd.func5.symm.trans hfn)).symm
      exact ⟨by kernel_rfl, fun j t ht => by
        rw [Tryd.params5] at ht
        have h3 : ([9, 9].all fun t => !Tryd.prog.wantsStandIn t) = true := by kernel_rfl
        have h4 := List.all_eq_true.1 h3 t (List.mem_of_getElem? (i := j) (by rw [← ht]; simp))
        show Tryd.prog.wantsStandIn t = false
        simpa using h4⟩)
    (by kernel_rfl)
theorem proved : Rows.LexJoinCardSaid := card
#print axioms proved
end Go.Proofs.YtgolpihhlfgjbaaDoor.lexJoin
namespace Go.Proofs.YtgolpihhlfgjbaaDoor
/-- The row, under a short name, for the claim. -/
theorem lexJoin_holds : Rows.LexJoinCardSaid := lexJoin.proved
end Go.Proofs.YtgolpihhlfgjbaaDoor
