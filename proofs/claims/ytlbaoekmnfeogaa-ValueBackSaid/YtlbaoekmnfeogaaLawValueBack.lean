/- The law ValueBack holds for every value and every row of bytes: a right value is read of its bytes, with any behind, as it was, and what is read of any bytes has those that it was read of. -/
import Derived.Test.YtlbaoekmnfeogaaRows
import Derived.Test.YtlbaoekmnfeogaaPAllx31
import Derived.Test.YtlbaoekmnfeogaaPureValueBack
import Derived.Test.YtlbaoekmnfeogaaOpen
import Derived.WalkKit
import Derived.ProofKit
import Derived.OpenShut
import Derived.ShutString
import Derived.ChangeOld
import Derived.Below
import Derived.SizedLaws
namespace Go.Proofs.Ytlbaoekmnfeogaa.valueBack
open Go.ChangeShapes Go.WideShapes Go.ChangeAt Go.RowKit Go.Proofs.Ytlbaoekmnfeogaa.PAll Go.Proofs.YtlbaoekmnfeogaaW.PrintWords
open Go.ChangeMaps (open_string shut_string)
set_option linter.unusedVariables false
theorem opens_T23 : Opens Try.prog 23 k23 ok23 := opens_imp (opens_struct (fun x : S23 => (x.f0, x.f1, x.f2)) (fun y => ⟨y.1, y.2.1, y.2.2⟩) (fun _ => rfl) Try.underlying23 (by kernel_rfl) (opensAt_cons (by kernel_rfl) (opens_int Try.underlying3) (opensAt_cons (by kernel_rfl) (opens_int Try.underlying2) (opensAt_last (by kernel_rfl) (opens_string Try.underlying9)) rfl) rfl)) (fun x h => h)
theorem own : ownKnob Try.prog.godebug = none := by kernel_rfl
theorem laidOut : laidOutB Try.prog = true := by kernel_rfl
set_option maxHeartbeats 2000000 in
set_option maxRecDepth 100000 in
theorem lifted (os : Os) (started : os.Started) (H : Type) (enc : TypeId × Value → H) :
    ReturnsInHanded {} Try.checked os 5 .any (Rows.valueBackSpec.pre6 enc Try.prog Try.f5 Rows.valueBackRow.domain false) (Rows.valueBackSpec.post enc Try.prog Try.f5 false true false false) := by
  refine returnsInHanded_of_change_sized (C := Try.checked) own started (by kernel_rfl) Try.func5
    (ChangeSpec.witness6 (enc := enc) (C := Try.checked) false ⟨#[], #[.agg #[.int .i64 0, .int .i64 0, .string ByteArray.empty], .slice none 0 0], []⟩ 8 (by kernel_rfl) (by kernel_rfl) (by kernel_rfl) (by kernel_rfl)) ?_
  intro W base args ds gs before hval0 hW hcnd hsz0 _
  have hval : ∀ (j : Nat) t v, Try.f5.params[j]? = some t → args[j]? = some v → Value.okWide Try.prog W .any base t v := hval0
  have hW' := hW
  obtain ⟨p, q, hA0, hV, rfl, hfz, hnd⟩ := hW
  have hA : DataW.TrodAll enc Try.prog W 0 (fun _ => true) true Try.f5.params.toList args.toList ds p := hA0
  rw [Try.params5] at hA hval
  obtain ⟨v0, vs0, d0, ds0, p0, q0, hargs, rfl, rfl, h0, r0⟩ := trodAll_cons hA
  obtain ⟨v1, vs1, d1, ds1, p1, q1, rfl, rfl, rfl, h1, r1⟩ := trodAll_cons r0
  obtain ⟨rfl, rfl, rfl⟩ := trodAll_nil r1
  obtain rfl : args = #[v0, v1] := by cases args; simp_all
  obtain ⟨rfl, rfl⟩ := trodVars_none hV
  have k0 := h0
  have lt0 : ∀ x ∈ p0, x.block < W.heap.size := by obtain ⟨m, hm⟩ := k0; exact DataW.trod_lt m _ _ _ hm
  obtain ⟨x0, K0, ok0_⟩ := opens_trod opens_T23 h0
  obtain ⟨cs0, rfl, _⟩ := okWide_struct Try.underlying23 (hval 0 23 v0 rfl rfl)
  have e0 := k23_open K0
  obtain rfl : cs0 = #[.int .i64 x0.f0, .int .i64 x0.f1, .string x0.f2] := by simpa [Value.cells] using congrArg List.toArray e0
  have k1 := h1
  have lt1 : ∀ x ∈ p1, x.block < W.heap.size := by obtain ⟨m, hm⟩ := k1; exact DataW.trod_lt m _ _ _ hm
  obtain ⟨l1, K1, ok1_⟩ := opens_trod (opens_slice Try.underlying31 (by kernel_rfl) (opens_int Try.underlying5)) h1
  obtain ⟨A_1, n_1, c_1, rfl⟩ := okWide_slice Try.underlying31 (hval 1 31 v1 rfl rfl)
  obtain ⟨A1, c1, e1, hc1, hr1⟩ := K1
  simp only [Value.cells, List.cons.injEq, Value.slice.injEq, and_true] at e1
  obtain ⟨rfl, rfl, rfl⟩ := e1
  obtain ⟨kk, hh⟩ := Pure.ValueBack x0 l1 ok0_ ok1_
  clear hA0 hval0 hsz0
  refine (PAll.augurylaw04_ValueBack.calls kk (x0.f0) (x0.f1) (x0.f2) _ _ l1 true W hr1 hc1 hh).mono fun e W' h_ => ?_
  obtain ⟨he, bel0⟩ := h_
  have bel := bel0
  subst he
  exact ⟨_, rfl, _, _, _, [], _, [], hW', trodAll_mk1 (shut_bool Try.underlying4 _), (trodAll_cons_mk (Below.trod laidOut (by kernel_rfl) (of_decide_eq_true (by kernel_rfl)) k0 bel lt0) (trodAll_cons_mk (Below.trod laidOut (by kernel_rfl) (of_decide_eq_true (by kernel_rfl)) k1 bel lt1) trodAll_mk0)), rfl, bel.frame _, fun h => by cases h⟩
theorem over : Rows.valueBackRow.holds Try.pinned (OpenSpec.ofChange Rows.valueBackSpec) :=
  OpenClaim.holds_of_wide 5 Try.f5 rfl rfl rfl rfl rfl rfl rfl ⟨rfl, rfl, rfl, rfl, rfl⟩ rfl rfl rfl rfl rfl (by kernel_rfl) Try.func5 (by kernel_rfl)
    (of_decide_eq_true (by kernel_rfl)) (by unfold Func.isWrapper; first | (rw [if_pos (by decide +kernel)]; kernel_rfl) | (rw [if_neg (by decide +kernel)]; exact ⟨rfl, rfl⟩))
    (fun os started H enc _ => lifted os started H enc)
theorem proved : Rows.ValueBackSaid := over
#print axioms proved
end Go.Proofs.Ytlbaoekmnfeogaa.valueBack
namespace Go.Proofs.Ytlbaoekmnfeogaa
/-- The row, under a short name, for the claim. -/
theorem valueBack_holds : Rows.ValueBackSaid := valueBack.proved
end Go.Proofs.Ytlbaoekmnfeogaa
