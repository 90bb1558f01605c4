/- An event that fits a schema has as many values as fields, each of its kind; with one more, or less, or of another kind, it does not fit: of every input. -/
import Derived.Test.YtbnjhmcbkocdjaaRows
import Derived.Test.YtbnjhmcbkocdjaaPAllx54
import Derived.Test.YtbnjhmcbkocdjaaPureEventFits
import Derived.Test.YtbnjhmcbkocdjaaOpen
import Derived.WalkKit
import Derived.ProofKit
import Derived.OpenShut
import Derived.ShutString
import Derived.ChangeOld
import Derived.Below
import Derived.SizedLaws
namespace Go.Proofs.Ytbnjhmcbkocdjaa.eventFits
open Go.ChangeShapes Go.WideShapes Go.ChangeAt Go.RowKit Go.Proofs.Ytbnjhmcbkocdjaa.PAll Go.Proofs.YtbnjhmcbkocdjaaW.PrintWords
open Go.ChangeMaps (open_string shut_string)
set_option linter.unusedVariables false
theorem opens_T55 : Opens Try.prog 55 k55 ok55 := opens_imp (opens_struct (fun x : S55 => (x.f0, x.f1)) (fun y => ⟨y.1, y.2⟩) (fun _ => rfl) Try.underlying55 (by kernel_rfl) (opensAt_cons (by kernel_rfl) (opens_string Try.underlying9) (opensAt_last (by kernel_rfl) (opens_int Try.underlying3)) rfl)) (fun x h => h)
theorem opens_T31 : Opens Try.prog 31 k31 ok31 := opens_imp (opens_struct (fun x : S31 => (x.f0, x.f1)) (fun y => ⟨y.1, y.2⟩) (fun _ => rfl) Try.underlying31 (by kernel_rfl) (opensAt_cons (by kernel_rfl) (opens_string Try.underlying9) (opensAt_last (by kernel_rfl) (opens_slice Try.underlying29 (by kernel_rfl) (of_decide_eq_true (by kernel_rfl)) opens_T55)) rfl)) (fun x h => h)
theorem opens_T52 : Opens Try.prog 52 k52 ok52 := opens_imp (opens_struct (fun x : S52 => (x.f0, x.f1, x.f2)) (fun y => ⟨y.1, y.2.1, y.2.2⟩) (fun _ => rfl) Try.underlying52 (by kernel_rfl) (opensAt_cons (by kernel_rfl) (opens_int Try.underlying3) (opensAt_cons (by kernel_rfl) (opens_int Try.underlying2) (opensAt_last (by kernel_rfl) (opens_string Try.underlying9)) rfl) rfl)) (fun x h => h)
theorem opens_T25 : Opens Try.prog 25 k25 ok25 := opens_imp (opens_struct (fun x : S25 => (x.f0, x.f1, x.f2, x.f3, x.f4)) (fun y => ⟨y.1, y.2.1, y.2.2.1, y.2.2.2.1, y.2.2.2.2⟩) (fun _ => rfl) Try.underlying25 (by kernel_rfl) (opensAt_cons (by kernel_rfl) (opens_int Try.underlying2) (opensAt_cons (by kernel_rfl) (opens_int Try.underlying3) (opensAt_cons (by kernel_rfl) (opens_int Try.underlying2) (opensAt_cons (by kernel_rfl) (opens_string Try.underlying9) (opensAt_last (by kernel_rfl) (opens_slice Try.underlying23 (by kernel_rfl) (of_decide_eq_true (by kernel_rfl)) opens_T52)) rfl) rfl) rfl) rfl)) (fun x h => h)
theorem own : ownKnob Try.prog.godebug = none := by kernel_rfl
theorem laidOut : laidOutB Try.prog = true := by kernel_rfl
set_option maxHeartbeats 2000000 in
set_option maxRecDepth 100000 in
theorem lifted (os : Os) (started : os.Started) (H : Type) (enc : TypeId × Value → H) :
    ReturnsInHanded {} Try.checked os 7 .any (Rows.eventFitsSpec.pre6 enc Try.prog Try.f7 Rows.eventFitsRow.domain false) (Rows.eventFitsSpec.post enc Try.prog Try.f7 false true false false) := by
  refine returnsInHanded_of_change_sized (C := Try.checked) own started (by kernel_rfl) Try.func7
    (ChangeSpec.witness6 (enc := enc) (C := Try.checked) false ⟨#[], #[.agg #[.string ByteArray.empty, .slice none 0 0], .agg #[.int .i64 0, .int .i64 0, .int .i64 0, .string ByteArray.empty, .slice none 0 0], .int .u8 0, .agg #[.int .i64 0, .int .i64 0, .string ByteArray.empty]], []⟩ 8 (by kernel_rfl) (by kernel_rfl) (by kernel_rfl) (by kernel_rfl)) ?_
  intro W base args ds gs before hval0 hW hcnd hsz0 _
  have hval : ∀ (j : Nat) t v, Try.f7.params[j]? = some t → args[j]? = some v → Value.okWide Try.prog W .any base t v := hval0
  have hW' := hW
  obtain ⟨p, q, hA0, hV, rfl, hfz, hnd⟩ := hW
  have hA : DataW.TrodAll enc Try.prog W 0 (fun _ => true) true Try.f7.params.toList args.toList ds p := hA0
  have hsz : (DataW.weightsEach Try.prog (Try.f7.params.toList ++ Rows.eventFitsSpec.plain.varTypes Try.prog) (ds ++ gs)).all (· ≤ reachBytes) = true := hsz0
  rw [Try.params7] at hA hval hsz
  obtain ⟨v0, vs0, d0, ds0, p0, q0, hargs, rfl, rfl, h0, r0⟩ := trodAll_cons hA
  obtain ⟨v1, vs1, d1, ds1, p1, q1, rfl, rfl, rfl, h1, r1⟩ := trodAll_cons r0
  obtain ⟨v2, vs2, d2, ds2, p2, q2, rfl, rfl, rfl, h2, r2⟩ := trodAll_cons r1
  obtain ⟨v3, vs3, d3, ds3, p3, q3, rfl, rfl, rfl, h3, r3⟩ := trodAll_cons r2
  obtain ⟨rfl, rfl, rfl⟩ := trodAll_nil r3
  obtain rfl : args = #[v0, v1, v2, v3] := by cases args; simp_all
  obtain ⟨rfl, rfl⟩ := trodVars_none hV
  have k0 := h0
  have lt0 : ∀ x ∈ p0, x.block < W.heap.size := by obtain ⟨m, hm⟩ := k0; exact DataW.trod_lt m _ _ _ hm
  obtain ⟨x0, K0, ok0_⟩ := opens_trod opens_T31 h0 (sized_all hsz (j := 0) (t := 31) (d := d0) rfl rfl)
  obtain ⟨cs0, rfl, _⟩ := okWide_struct Try.underlying31 (hval 0 31 v0 rfl rfl)
  obtain ⟨A0_1, c0_1, e0, hc0_1, hr0_1⟩ := k31_open K0
  obtain rfl : cs0 = #[.string x0.f0, .slice A0_1 x0.f1.length c0_1] := by simpa [Value.cells] using congrArg List.toArray e0
  have k1 := h1
  have lt1 : ∀ x ∈ p1, x.block < W.heap.size := by obtain ⟨m, hm⟩ := k1; exact DataW.trod_lt m _ _ _ hm
  obtain ⟨x1, K1, ok1_⟩ := opens_trod opens_T25 h1 (sized_all hsz (j := 1) (t := 25) (d := d1) rfl rfl)
  obtain ⟨cs1, rfl, _⟩ := okWide_struct Try.underlying25 (hval 1 25 v1 rfl rfl)
  obtain ⟨A1_4, c1_4, e1, hc1_4, hr1_4⟩ := k25_open K1
  obtain rfl : cs1 = #[.int .i64 x1.f0, .int .i64 x1.f1, .int .i64 x1.f2, .string x1.f3, .slice A1_4 x1.f4.length c1_4] := by simpa [Value.cells] using congrArg List.toArray e1
  have k2 := h2
  have lt2 : ∀ x ∈ p2, x.block < W.heap.size := by obtain ⟨m, hm⟩ := k2; exact DataW.trod_lt m _ _ _ hm
  obtain ⟨a2, K2, ok2_⟩ := opens_trod (opens_int Try.underlying5) h2 (sized_all hsz (j := 2) (t := 5) (d := d2) rfl rfl)
  obtain ⟨y2, rfl⟩ := okWide_int Try.underlying5 (hval 2 5 v2 rfl rfl)
  have e2 : a2 = y2 := by simpa [Value.cells, Kd.int, Kd.bool, Kd.string, Kd.scalar, eq_comm] using K2
  subst e2
  have k3 := h3
  have lt3 : ∀ x ∈ p3, x.block < W.heap.size := by obtain ⟨m, hm⟩ := k3; exact DataW.trod_lt m _ _ _ hm
  obtain ⟨x3, K3, ok3_⟩ := opens_trod opens_T52 h3 (sized_all hsz (j := 3) (t := 52) (d := d3) rfl rfl)
  obtain ⟨cs3, rfl, _⟩ := okWide_struct Try.underlying52 (hval 3 52 v3 rfl rfl)
  have e3 := k52_open K3
  obtain rfl : cs3 = #[.int .i64 x3.f0, .int .i64 x3.f1, .string x3.f2] := by simpa [Value.cells] using congrArg List.toArray e3
  obtain ⟨kk, hh⟩ := Pure.EventFits x0 x1 a2 x3 ok0_ ok1_ ok2_ ok3_
  clear hA0 hval0 hsz0 hsz
  refine (PAll.augurylaw05_EventFits.calls kk (x0.f0) _ _ (x0.f1) (x1.f0) (x1.f1) (x1.f2) (x1.f3) _ _ (x1.f4) a2 (x3.f0) (x3.f1) (x3.f2) true W (P0_1_ := fun k_ => k_ < W.heap.size) (hs0_1 := Kd.V_mk hc0_1 (Kd.C_F k55_heap hr0_1)) hr1_4 hc1_4 hh).mono fun e W' h_ => ?_
  obtain ⟨he, bel0⟩ := h_
  have bel := bel0
  subst he
  exact ⟨_, rfl, _, _, _, [], _, [], hW', trodAll_mk1 (shut_bool Try.underlying4 _), (trodAll_cons_mk (Below.trod laidOut (by kernel_rfl) (of_decide_eq_true (by kernel_rfl)) k0 bel lt0) (trodAll_cons_mk (Below.trod laidOut (by kernel_rfl) (of_decide_eq_true (by kernel_rfl)) k1 bel lt1) (trodAll_cons_mk (Below.trod laidOut (by kernel_rfl) (of_decide_eq_true (by kernel_rfl)) k2 bel lt2) (trodAll_cons_mk (Below.trod laidOut (by kernel_rfl) (of_decide_eq_true (by kernel_rfl)) k3 bel lt3) trodAll_mk0)))), rfl, bel.frame _, fun h => by cases h⟩
theorem over : Rows.eventFitsRow.holds Try.pinned (OpenSpec.ofChange Rows.eventFitsSpec) :=
  OpenClaim.holds_of_wide 7 Try.f7 rfl rfl rfl rfl rfl rfl rfl ⟨rfl, rfl, rfl, rfl, rfl⟩ rfl rfl rfl rfl rfl (by kernel_rfl) Try.func7 (by kernel_rfl)
    (of_decide_eq_true (by kernel_rfl)) (by unfold Func.isWrapper; first | (rw [if_pos (by decide +kernel)]; kernel_rfl) | (rw [if_neg (by decide +kernel)]; exact ⟨rfl, rfl⟩))
    (fun os started H enc _ => lifted os started H enc)
theorem proved : Rows.EventFitsSaid := over
#print axioms proved
end Go.Proofs.Ytbnjhmcbkocdjaa.eventFits
namespace Go.Proofs.Ytbnjhmcbkocdjaa
/-- The row, under a short name, for the claim. -/
theorem eventFits_holds : Rows.EventFitsSaid := eventFits.proved
end Go.Proofs.Ytbnjhmcbkocdjaa
