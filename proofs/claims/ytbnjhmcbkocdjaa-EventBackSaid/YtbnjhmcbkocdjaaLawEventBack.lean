/- The law EventBack: a right event is read of its bytes as it was; of bytes that are cut, or have one more, nothing is; what is read of any bytes has these. -/
import Derived.Test.YtbnjhmcbkocdjaaRows
import Derived.Test.YtbnjhmcbkocdjaaPAllx52
import Derived.Test.YtbnjhmcbkocdjaaPureEventBack
import Derived.Test.YtbnjhmcbkocdjaaOpen
import Derived.WalkKit
import Derived.ProofKit
import Derived.OpenShut
import Derived.ShutString
import Derived.ChangeOld
import Derived.Below
import Derived.SizedLaws
namespace Go.Proofs.Ytbnjhmcbkocdjaa.eventBack
open Go.ChangeShapes Go.WideShapes Go.ChangeAt Go.RowKit Go.Proofs.Ytbnjhmcbkocdjaa.PAll Go.Proofs.YtbnjhmcbkocdjaaW.PrintWords
open Go.ChangeMaps (open_string shut_string)
set_option linter.unusedVariables false
theorem opens_T52 : Opens Try.prog 52 k52 ok52 := opens_imp (opens_struct (fun x : S52 => (x.f0, x.f1, x.f2)) (fun y => ⟨y.1, y.2.1, y.2.2⟩) (fun _ => rfl) Try.underlying52 (by kernel_rfl) (opensAt_cons (by kernel_rfl) (opens_int Try.underlying3) (opensAt_cons (by kernel_rfl) (opens_int Try.underlying2) (opensAt_last (by kernel_rfl) (opens_string Try.underlying9)) rfl) rfl)) (fun x h => h)
theorem opens_T25 : Opens Try.prog 25 k25 ok25 := opens_imp (opens_struct (fun x : S25 => (x.f0, x.f1, x.f2, x.f3, x.f4)) (fun y => ⟨y.1, y.2.1, y.2.2.1, y.2.2.2.1, y.2.2.2.2⟩) (fun _ => rfl) Try.underlying25 (by kernel_rfl) (opensAt_cons (by kernel_rfl) (opens_int Try.underlying2) (opensAt_cons (by kernel_rfl) (opens_int Try.underlying3) (opensAt_cons (by kernel_rfl) (opens_int Try.underlying2) (opensAt_cons (by kernel_rfl) (opens_string Try.underlying9) (opensAt_last (by kernel_rfl) (opens_slice Try.underlying23 (by kernel_rfl) (of_decide_eq_true (by kernel_rfl)) opens_T52)) rfl) rfl) rfl) rfl)) (fun x h => h)
theorem own : ownKnob Try.prog.godebug = none := by kernel_rfl
theorem laidOut : laidOutB Try.prog = true := by kernel_rfl
set_option maxHeartbeats 2000000 in
set_option maxRecDepth 100000 in
theorem lifted (os : Os) (started : os.Started) (H : Type) (enc : TypeId × Value → H) :
    ReturnsInHanded {} Try.checked os 5 .any (Rows.eventBackSpec.pre6 enc Try.prog Try.f5 Rows.eventBackRow.domain false) (Rows.eventBackSpec.post enc Try.prog Try.f5 false true false false) := by
  refine returnsInHanded_of_change_sized (C := Try.checked) own started (by kernel_rfl) Try.func5
    (ChangeSpec.witness6 (enc := enc) (C := Try.checked) false ⟨#[], #[.agg #[.int .i64 0, .int .i64 0, .int .i64 0, .string ByteArray.empty, .slice none 0 0], .slice none 0 0, .int .u16 0, .int .u8 0], []⟩ 8 (by kernel_rfl) (by kernel_rfl) (by kernel_rfl) (by kernel_rfl)) ?_
  intro W base args ds gs before hval0 hW hcnd hsz0 _
  have hval : ∀ (j : Nat) t v, Try.f5.params[j]? = some t → args[j]? = some v → Value.okWide Try.prog W .any base t v := hval0
  have hW' := hW
  obtain ⟨p, q, hA0, hV, rfl, hfz, hnd⟩ := hW
  have hA : DataW.TrodAll enc Try.prog W 0 (fun _ => true) true Try.f5.params.toList args.toList ds p := hA0
  have hsz : (DataW.weightsEach Try.prog (Try.f5.params.toList ++ Rows.eventBackSpec.plain.varTypes Try.prog) (ds ++ gs)).all (· ≤ reachBytes) = true := hsz0
  rw [Try.params5] at hA hval hsz
  obtain ⟨v0, vs0, d0, ds0, p0, q0, hargs, rfl, rfl, h0, r0⟩ := trodAll_cons hA
  obtain ⟨v1, vs1, d1, ds1, p1, q1, rfl, rfl, rfl, h1, r1⟩ := trodAll_cons r0
  obtain ⟨v2, vs2, d2, ds2, p2, q2, rfl, rfl, rfl, h2, r2⟩ := trodAll_cons r1
  obtain ⟨v3, vs3, d3, ds3, p3, q3, rfl, rfl, rfl, h3, r3⟩ := trodAll_cons r2
  obtain ⟨rfl, rfl, rfl⟩ := trodAll_nil r3
  obtain rfl : args = #[v0, v1, v2, v3] := by cases args; simp_all
  obtain ⟨rfl, rfl⟩ := trodVars_none hV
  have k0 := h0
  have lt0 : ∀ x ∈ p0, x.block < W.heap.size := by obtain ⟨m, hm⟩ := k0; exact DataW.trod_lt m _ _ _ hm
  obtain ⟨x0, K0, ok0_⟩ := opens_trod opens_T25 h0 (sized_all hsz (j := 0) (t := 25) (d := d0) rfl rfl)
  obtain ⟨cs0, rfl, _⟩ := okWide_struct Try.underlying25 (hval 0 25 v0 rfl rfl)
  obtain ⟨A0_4, c0_4, e0, hc0_4, hr0_4⟩ := k25_open K0
  obtain rfl : cs0 = #[.int .i64 x0.f0, .int .i64 x0.f1, .int .i64 x0.f2, .string x0.f3, .slice A0_4 x0.f4.length c0_4] := by simpa [Value.cells] using congrArg List.toArray e0
  have k1 := h1
  have lt1 : ∀ x ∈ p1, x.block < W.heap.size := by obtain ⟨m, hm⟩ := k1; exact DataW.trod_lt m _ _ _ hm
  obtain ⟨l1, K1, ok1_⟩ := opens_trod (opens_slice Try.underlying40 (by kernel_rfl) (of_decide_eq_true (by kernel_rfl)) (opens_int Try.underlying5)) h1 (sized_all hsz (j := 1) (t := 40) (d := d1) rfl rfl)
  obtain ⟨A_1, n_1, c_1, rfl⟩ := okWide_slice Try.underlying40 (hval 1 40 v1 rfl rfl)
  obtain ⟨A1, c1, e1, hc1, hr1⟩ := K1
  simp only [Value.cells, List.cons.injEq, Value.slice.injEq, and_true] at e1
  obtain ⟨rfl, rfl, rfl⟩ := e1
  have k2 := h2
  have lt2 : ∀ x ∈ p2, x.block < W.heap.size := by obtain ⟨m, hm⟩ := k2; exact DataW.trod_lt m _ _ _ hm
  obtain ⟨a2, K2, ok2_⟩ := opens_trod (opens_int Try.underlying48) h2 (sized_all hsz (j := 2) (t := 48) (d := d2) rfl rfl)
  obtain ⟨y2, rfl⟩ := okWide_int Try.underlying48 (hval 2 48 v2 rfl rfl)
  have e2 : a2 = y2 := by simpa [Value.cells, Kd.int, Kd.bool, Kd.string, Kd.scalar, eq_comm] using K2
  subst e2
  have k3 := h3
  have lt3 : ∀ x ∈ p3, x.block < W.heap.size := by obtain ⟨m, hm⟩ := k3; exact DataW.trod_lt m _ _ _ hm
  obtain ⟨a3, K3, ok3_⟩ := opens_trod (opens_int Try.underlying5) h3 (sized_all hsz (j := 3) (t := 5) (d := d3) rfl rfl)
  obtain ⟨y3, rfl⟩ := okWide_int Try.underlying5 (hval 3 5 v3 rfl rfl)
  have e3 : a3 = y3 := by simpa [Value.cells, Kd.int, Kd.bool, Kd.string, Kd.scalar, eq_comm] using K3
  subst e3
  obtain ⟨kk, hh⟩ := Pure.EventBack x0 l1 a2 a3 ok0_ ok1_ ok2_ ok3_
  clear hA0 hval0 hsz0 hsz
  refine (PAll.augurylaw05_EventBack.calls kk (x0.f0) (x0.f1) (x0.f2) (x0.f3) _ _ (x0.f4) _ _ l1 a2 a3 true W hr0_4 hc0_4 hr1 hc1 hh).mono fun e W' h_ => ?_
  obtain ⟨he, bel0⟩ := h_
  have bel := bel0
  subst he
  exact ⟨_, rfl, _, _, _, [], _, [], hW', trodAll_mk1 (shut_bool Try.underlying4 _), (trodAll_cons_mk (Below.trod laidOut (by kernel_rfl) (of_decide_eq_true (by kernel_rfl)) k0 bel lt0) (trodAll_cons_mk (Below.trod laidOut (by kernel_rfl) (of_decide_eq_true (by kernel_rfl)) k1 bel lt1) (trodAll_cons_mk (Below.trod laidOut (by kernel_rfl) (of_decide_eq_true (by kernel_rfl)) k2 bel lt2) (trodAll_cons_mk (Below.trod laidOut (by kernel_rfl) (of_decide_eq_true (by kernel_rfl)) k3 bel lt3) trodAll_mk0)))), rfl, bel.frame _, fun h => by cases h⟩
theorem over : Rows.eventBackRow.holds Try.pinned (OpenSpec.ofChange Rows.eventBackSpec) :=
  OpenClaim.holds_of_wide 5 Try.f5 rfl rfl rfl rfl rfl rfl rfl ⟨rfl, rfl, rfl, rfl, rfl⟩ rfl rfl rfl rfl rfl (by kernel_rfl) Try.func5 (by kernel_rfl)
    (of_decide_eq_true (by kernel_rfl)) (by unfold Func.isWrapper; first | (rw [if_pos (by decide +kernel)]; kernel_rfl) | (rw [if_neg (by decide +kernel)]; exact ⟨rfl, rfl⟩))
    (fun os started H enc _ => lifted os started H enc)
theorem proved : Rows.EventBackSaid := over
#print axioms proved
end Go.Proofs.Ytbnjhmcbkocdjaa.eventBack
namespace Go.Proofs.Ytbnjhmcbkocdjaa
/-- The row, under a short name, for the claim. -/
theorem eventBack_holds : Rows.EventBackSaid := eventBack.proved
end Go.Proofs.Ytbnjhmcbkocdjaa
