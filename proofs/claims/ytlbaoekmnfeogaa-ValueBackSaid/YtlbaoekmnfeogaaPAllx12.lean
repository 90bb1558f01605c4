/- Written by this session's own program (wip/xprint): functions of the Go program as Lean functions, and proofs that the Go code computes them. -/
import Derived.Test.YtlbaoekmnfeogaaPAllx0
import Derived.Test.YtlbaoekmnfeogaaPAllx2
import Derived.Test.YtlbaoekmnfeogaaPAllx8
import Derived.Test.YtlbaoekmnfeogaaPAllx10
import Derived.Test.YtlbaoekmnfeogaaPAllx11
namespace Go.Proofs.Ytlbaoekmnfeogaa.PAll
open Go.RowKit Go.Proofs.YtlbaoekmnfeogaaW.PrintWords Go.Proofs.YtlbaoekmnfeogaaW.PrintLast Go.Proofs.YtlbaoekmnfeogaaW.PrintMore
attribute [local go_sem] max2_int min2_int max_two min_two max_three min_three max_four min_four   -- for this text's walks alone
set_option linter.unusedVariables false
set_option linter.unusedSimpArgs false

/-! ### value_Compare: function 14, by a text of our own -/
def value_Compare.f (a0 : Int) (a1_0 : Int) (a1_1 : Int) (a1_2 : ByteArray) (a2_0 : Int) (a2_1 : Int) (a2_2 : ByteArray) : Option (Bool × Int) :=
  (value_Right.f a1_0 a1_1 a1_2).bind fun t1 => if t1 = true then ((value_Right.f a2_0 a2_1 a2_2).bind fun t2 => if t2 = true then (if a0 < 1 then some (false, 1) else if a0 > 6 then some (false, 1) else if a1_0 = a2_0 then (if a1_0 = 2 then ((strings_Compare.f a1_2 a2_2).bind fun s => if -1 ≤ s ∧ s ≤ 1 then some (cmpSg a0 (s + 1), 0) else none) else if a1_0 = 3 then (if a0 > 2 then some (false, 42) else ((cmp_Compare_int64.f a1_1 a2_1).bind fun s => if -1 ≤ s ∧ s ≤ 1 then some (cmpSg a0 (s + 1), 0) else none)) else ((cmp_Compare_int64.f a1_1 a2_1).bind fun s => if -1 ≤ s ∧ s ≤ 1 then some (cmpSg a0 (s + 1), 0) else none)) else some (false, 42)) else some (false, 1)) else some (false, 1)
theorem value_Right_kind {a0_0 a0_1 : Int} {a0_2 : ByteArray} (h : value_Right.f a0_0 a0_1 a0_2 = some true) (h2 : ¬ a0_0 = 2) (h3 : ¬ a0_0 = 3) : a0_0 = 1 := by
  unfold value_Right.f at h
  by_cases h1 : a0_0 = 1
  · exact h1
  · simp [h1, h2, h3] at h
theorem bcell_ {W w1 : World} (hb : Below W.heap.size W w1) : (∀ b o, b < W.heap.size → w1.cell? ⟨b, o, none⟩ = W.cell? ⟨b, o, none⟩) :=
  fun b o h => hb.cell (p := ⟨b, o, none⟩) h
def CmpPost (w : World) (r1 : Bool) (r2 : Int) (e : Ending) (w' : World) : Prop := e = .returned (.tuple #[.bool r1, .int .i64 r2]) ∧ Below w.heap.size w w'
theorem cmp_below2 {w w1 : World} {A B : Obj} (hb : Below ((w.alloc A).alloc B).heap.size ((w.alloc A).alloc B) w1) : Below w.heap.size w w1 :=
  below_then (((Below.refl _ _).alloc (Nat.le_refl _) _).alloc (by simp) _) (by simp; omega) hb
set_option maxHeartbeats 8000000 in
set_option maxRecDepth 100000 in
theorem value_Compare.w0 (a0 : Int) (a1_0 : Int) (a1_1 : Int) (a1_2 : ByteArray) (a2_0 : Int) (a2_1 : Int) (a2_2 : ByteArray) (w : World) (h1 : Aside0 (value_Right.f a1_0 a1_1 a1_2 = some false))  :
    Calls Try.prog 14 #[.int .i64 a0, .agg #[.int .i64 a1_0, .int .i64 a1_1, .string a1_2], .agg #[.int .i64 a2_0, .int .i64 a2_1, .string a2_2]] w (CmpPost w false 1) := by
  go_enter Try.func14, Try.ntmps14
  go_wp2_with fail
  refine (value_Right.calls _ _ _ false _ h1.out).mono ?_
  rintro e w1 ⟨rfl, hb1⟩
  go_wp2
  go_ret2
  exact ⟨rfl, cmp_below2 hb1⟩
set_option maxHeartbeats 8000000 in
set_option maxRecDepth 100000 in
theorem value_Compare.w1 (a0 : Int) (a1_0 : Int) (a1_1 : Int) (a1_2 : ByteArray) (a2_0 : Int) (a2_1 : Int) (a2_2 : ByteArray) (w : World) (h1 : Aside0 (value_Right.f a1_0 a1_1 a1_2 = some true)) (h2 : Aside0 (value_Right.f a2_0 a2_1 a2_2 = some false)) :
    Calls Try.prog 14 #[.int .i64 a0, .agg #[.int .i64 a1_0, .int .i64 a1_1, .string a1_2], .agg #[.int .i64 a2_0, .int .i64 a2_1, .string a2_2]] w (CmpPost w false 1) := by
  go_enter Try.func14, Try.ntmps14
  go_wp2_with fail
  refine (value_Right.calls _ _ _ true _ h1.out).mono ?_
  rintro e w1 ⟨rfl, hb1⟩
  have hc1 := bcell_ hb1
  have hB1 := Aside0.mk (cmp_below2 hb1)
  have hz1 : w.heap.size + 1 < w1.heap.size := by have := hb1.size; simp at this; omega
  have hy1 : w.heap.size < w1.heap.size := by omega
  clear hb1
  go_wp2_with fail
  refine (value_Right.calls _ _ _ false _ h2.out).mono ?_
  rintro e w2 ⟨rfl, hb2⟩
  have hc2 := bcell_ hb2
  have hB2 := Aside0.mk (below_then hB1.out hB1.out.size hb2)
  have hz2 : w.heap.size + 1 < w2.heap.size := by have := hb2.size; omega
  have hy2 : w.heap.size < w2.heap.size := by omega
  clear hb2 hB1
  go_wp2
  go_ret2
  exact ⟨rfl, hB2.out⟩
set_option maxHeartbeats 8000000 in
set_option maxRecDepth 100000 in
theorem value_Compare.w2 (a0 : Int) (a1_0 : Int) (a1_1 : Int) (a1_2 : ByteArray) (a2_0 : Int) (a2_1 : Int) (a2_2 : ByteArray) (w : World) (h1 : Aside0 (value_Right.f a1_0 a1_1 a1_2 = some true)) (h2 : Aside0 (value_Right.f a2_0 a2_1 a2_2 = some true)) (h3 : a0 < 1) :
    Calls Try.prog 14 #[.int .i64 a0, .agg #[.int .i64 a1_0, .int .i64 a1_1, .string a1_2], .agg #[.int .i64 a2_0, .int .i64 a2_1, .string a2_2]] w (CmpPost w false 1) := by
  have c3 := decide_eq_true h3
  clear h3
  go_enter Try.func14, Try.ntmps14
  go_wp2_with fail
  refine (value_Right.calls _ _ _ true _ h1.out).mono ?_
  rintro e w1 ⟨rfl, hb1⟩
  have hc1 := bcell_ hb1
  have hB1 := Aside0.mk (cmp_below2 hb1)
  have hz1 : w.heap.size + 1 < w1.heap.size := by have := hb1.size; simp at this; omega
  have hy1 : w.heap.size < w1.heap.size := by omega
  clear hb1
  go_wp2_with fail
  refine (value_Right.calls _ _ _ true _ h2.out).mono ?_
  rintro e w2 ⟨rfl, hb2⟩
  have hc2 := bcell_ hb2
  have hB2 := Aside0.mk (below_then hB1.out hB1.out.size hb2)
  have hz2 : w.heap.size + 1 < w2.heap.size := by have := hb2.size; omega
  have hy2 : w.heap.size < w2.heap.size := by omega
  clear hb2 hB1
  go_wp2
  go_ret2
  exact ⟨rfl, hB2.out⟩
set_option maxHeartbeats 8000000 in
set_option maxRecDepth 100000 in
theorem value_Compare.w3 (a0 : Int) (a1_0 : Int) (a1_1 : Int) (a1_2 : ByteArray) (a2_0 : Int) (a2_1 : Int) (a2_2 : ByteArray) (w : World) (h1 : Aside0 (value_Right.f a1_0 a1_1 a1_2 = some true)) (h2 : Aside0 (value_Right.f a2_0 a2_1 a2_2 = some true)) (h3 : ¬ a0 < 1) (h4 : a0 > 6) :
    Calls Try.prog 14 #[.int .i64 a0, .agg #[.int .i64 a1_0, .int .i64 a1_1, .string a1_2], .agg #[.int .i64 a2_0, .int .i64 a2_1, .string a2_2]] w (CmpPost w false 1) := by
  have c3 := decide_eq_false h3
  have c4 : decide (6 < a0) = true := decide_eq_true h4
  clear h3 h4
  go_enter Try.func14, Try.ntmps14
  go_wp2_with fail
  refine (value_Right.calls _ _ _ true _ h1.out).mono ?_
  rintro e w1 ⟨rfl, hb1⟩
  have hc1 := bcell_ hb1
  have hB1 := Aside0.mk (cmp_below2 hb1)
  have hz1 : w.heap.size + 1 < w1.heap.size := by have := hb1.size; simp at this; omega
  have hy1 : w.heap.size < w1.heap.size := by omega
  clear hb1
  go_wp2_with fail
  refine (value_Right.calls _ _ _ true _ h2.out).mono ?_
  rintro e w2 ⟨rfl, hb2⟩
  have hc2 := bcell_ hb2
  have hB2 := Aside0.mk (below_then hB1.out hB1.out.size hb2)
  have hz2 : w.heap.size + 1 < w2.heap.size := by have := hb2.size; omega
  have hy2 : w.heap.size < w2.heap.size := by omega
  clear hb2 hB1
  go_wp2
  go_ret2
  exact ⟨rfl, hB2.out⟩
set_option maxHeartbeats 8000000 in
set_option maxRecDepth 100000 in
theorem value_Compare.w4 (a0 : Int) (a1_0 : Int) (a1_1 : Int) (a1_2 : ByteArray) (a2_0 : Int) (a2_1 : Int) (a2_2 : ByteArray) (w : World) (h1 : Aside0 (value_Right.f a1_0 a1_1 a1_2 = some true)) (h2 : Aside0 (value_Right.f a2_0 a2_1 a2_2 = some true)) (h3 : ¬ a0 < 1) (h4 : ¬ a0 > 6) (h5 : ¬ a1_0 = a2_0) :
    Calls Try.prog 14 #[.int .i64 a0, .agg #[.int .i64 a1_0, .int .i64 a1_1, .string a1_2], .agg #[.int .i64 a2_0, .int .i64 a2_1, .string a2_2]] w (CmpPost w false 42) := by
  have c3 := decide_eq_false h3
  have c4 : decide (6 < a0) = false := decide_eq_false h4
  clear h3 h4
  have c5 : (a1_0 != a2_0) = true := bne_iff_ne.mpr h5
  clear h5
  go_enter Try.func14, Try.ntmps14
  go_wp2_with fail
  refine (value_Right.calls _ _ _ true _ h1.out).mono ?_
  rintro e w1 ⟨rfl, hb1⟩
  have hc1 := bcell_ hb1
  have hB1 := Aside0.mk (cmp_below2 hb1)
  have hz1 : w.heap.size + 1 < w1.heap.size := by have := hb1.size; simp at this; omega
  have hy1 : w.heap.size < w1.heap.size := by omega
  clear hb1
  go_wp2_with fail
  refine (value_Right.calls _ _ _ true _ h2.out).mono ?_
  rintro e w2 ⟨rfl, hb2⟩
  have hc2 := bcell_ hb2
  have hB2 := Aside0.mk (below_then hB1.out hB1.out.size hb2)
  have hz2 : w.heap.size + 1 < w2.heap.size := by have := hb2.size; omega
  have hy2 : w.heap.size < w2.heap.size := by omega
  clear hb2 hB1
  go_wp2
  go_ret2
  exact ⟨rfl, hB2.out⟩
set_option maxHeartbeats 8000000 in
set_option maxRecDepth 100000 in
theorem value_Compare.w5 (a0 : Int) (a1_0 : Int) (a1_1 : Int) (a1_2 : ByteArray) (a2_0 : Int) (a2_1 : Int) (a2_2 : ByteArray) (w : World) (h1 : Aside0 (value_Right.f a1_0 a1_1 a1_2 = some true)) (h2 : Aside0 (value_Right.f a2_0 a2_1 a2_2 = some true)) (s : Int) (hs : Aside0 (strings_Compare.f a1_2 a2_2 = some s)) (H3 : Aside0 (1 ≤ a0 ∧ a0 ≤ 6)) (H4 : Aside0 (0 ≤ s + 1 ∧ s + 1 ≤ 2)) (e1 : a1_0 = 2) (e2 : a2_0 = 2) :
    Calls Try.prog 14 #[.int .i64 a0, .agg #[.int .i64 a1_0, .int .i64 a1_1, .string a1_2], .agg #[.int .i64 a2_0, .int .i64 a2_1, .string a2_2]] w (CmpPost w (cmpSg a0 (s + 1)) 0) := by
  subst e1 e2
  have c3 : decide (a0 < 1) = false := decide_eq_false (by have := H3.out; omega)
  have c4 : decide (6 < a0) = false := decide_eq_false (by have := H3.out; omega)
  go_enter Try.func14, Try.ntmps14
  go_wp2_with fail
  refine (value_Right.calls _ _ _ true _ h1.out).mono ?_
  rintro e w1 ⟨rfl, hb1⟩
  have hc1 := bcell_ hb1
  have hB1 := Aside0.mk (cmp_below2 hb1)
  have hz1 : w.heap.size + 1 < w1.heap.size := by have := hb1.size; simp at this; omega
  have hy1 : w.heap.size < w1.heap.size := by omega
  clear hb1
  go_wp2_with fail
  refine (value_Right.calls _ _ _ true _ h2.out).mono ?_
  rintro e w2 ⟨rfl, hb2⟩
  have hc2 := bcell_ hb2
  have hB2 := Aside0.mk (below_then hB1.out hB1.out.size hb2)
  have hz2 : w.heap.size + 1 < w2.heap.size := by have := hb2.size; omega
  have hy2 : w.heap.size < w2.heap.size := by omega
  clear hb2 hB1
  go_wp2_with fail
  refine (strings_Compare.calls _ _ s _ hs.out).mono ?_
  rintro e w3 ⟨rfl, hd3⟩
  have hB3 := Aside0.mk (below_then hB2.out hB2.out.size hd3.below)
  clear hd3
  go_wp2_with fail
  refine (value_signs.calls _).mono ?_
  rintro e w4 ⟨rfl, hb4⟩
  have i1 := cmpIdx1 a0 H3.out.1 H3.out.2
  have i2 := cmpIdx2 a0 (s + 1) H3.out.1 H3.out.2 H4.out.1 H4.out.2
  have hs0 : -1 ≤ s := by have := H4.out; omega
  have hs1 : s ≤ 1 := by have := H4.out; omega
  have hB4 := Aside0.mk (below_then hB3.out hB3.out.size hb4)
  clear hb4 hB3 hB2
  go_wp2
  go_ret2
  exact ⟨rfl, hB4.out⟩
set_option maxHeartbeats 8000000 in
set_option maxRecDepth 100000 in
theorem value_Compare.w6 (a0 : Int) (a1_0 : Int) (a1_1 : Int) (a1_2 : ByteArray) (a2_0 : Int) (a2_1 : Int) (a2_2 : ByteArray) (w : World) (h1 : Aside0 (value_Right.f a1_0 a1_1 a1_2 = some true)) (h2 : Aside0 (value_Right.f a2_0 a2_1 a2_2 = some true)) (H3 : Aside0 (1 ≤ a0 ∧ a0 ≤ 6)) (h6 : a0 > 2) (e1 : a1_0 = 3) (e2 : a2_0 = 3) :
    Calls Try.prog 14 #[.int .i64 a0, .agg #[.int .i64 a1_0, .int .i64 a1_1, .string a1_2], .agg #[.int .i64 a2_0, .int .i64 a2_1, .string a2_2]] w (CmpPost w false 42) := by
  subst e1 e2
  have c3 : decide (a0 < 1) = false := decide_eq_false (by have := H3.out; omega)
  have c4 : decide (6 < a0) = false := decide_eq_false (by have := H3.out; omega)
  have c6 : decide (2 < a0) = true := decide_eq_true h6
  clear h6
  go_enter Try.func14, Try.ntmps14
  go_wp2_with fail
  refine (value_Right.calls _ _ _ true _ h1.out).mono ?_
  rintro e w1 ⟨rfl, hb1⟩
  have hc1 := bcell_ hb1
  have hB1 := Aside0.mk (cmp_below2 hb1)
  have hz1 : w.heap.size + 1 < w1.heap.size := by have := hb1.size; simp at this; omega
  have hy1 : w.heap.size < w1.heap.size := by omega
  clear hb1
  go_wp2_with fail
  refine (value_Right.calls _ _ _ true _ h2.out).mono ?_
  rintro e w2 ⟨rfl, hb2⟩
  have hc2 := bcell_ hb2
  have hB2 := Aside0.mk (below_then hB1.out hB1.out.size hb2)
  have hz2 : w.heap.size + 1 < w2.heap.size := by have := hb2.size; omega
  have hy2 : w.heap.size < w2.heap.size := by omega
  clear hb2 hB1
  go_wp2
  go_ret2
  exact ⟨rfl, hB2.out⟩
set_option maxHeartbeats 8000000 in
set_option maxRecDepth 100000 in
theorem value_Compare.w7 (a0 : Int) (a1_0 : Int) (a1_1 : Int) (a1_2 : ByteArray) (a2_0 : Int) (a2_1 : Int) (a2_2 : ByteArray) (w : World) (h1 : Aside0 (value_Right.f a1_0 a1_1 a1_2 = some true)) (h2 : Aside0 (value_Right.f a2_0 a2_1 a2_2 = some true)) (s : Int) (hs : Aside0 (cmp_Compare_int64.f a1_1 a2_1 = some s)) (H3 : Aside0 (1 ≤ a0 ∧ a0 ≤ 6)) (H4 : Aside0 (0 ≤ s + 1 ∧ s + 1 ≤ 2)) (h6 : ¬ a0 > 2) (e1 : a1_0 = 3) (e2 : a2_0 = 3) :
    Calls Try.prog 14 #[.int .i64 a0, .agg #[.int .i64 a1_0, .int .i64 a1_1, .string a1_2], .agg #[.int .i64 a2_0, .int .i64 a2_1, .string a2_2]] w (CmpPost w (cmpSg a0 (s + 1)) 0) := by
  subst e1 e2
  have c3 : decide (a0 < 1) = false := decide_eq_false (by have := H3.out; omega)
  have c4 : decide (6 < a0) = false := decide_eq_false (by have := H3.out; omega)
  have c6 : decide (2 < a0) = false := decide_eq_false h6
  clear h6
  go_enter Try.func14, Try.ntmps14
  go_wp2_with fail
  refine (value_Right.calls _ _ _ true _ h1.out).mono ?_
  rintro e w1 ⟨rfl, hb1⟩
  have hc1 := bcell_ hb1
  have hB1 := Aside0.mk (cmp_below2 hb1)
  have hz1 : w.heap.size + 1 < w1.heap.size := by have := hb1.size; simp at this; omega
  have hy1 : w.heap.size < w1.heap.size := by omega
  clear hb1
  go_wp2_with fail
  refine (value_Right.calls _ _ _ true _ h2.out).mono ?_
  rintro e w2 ⟨rfl, hb2⟩
  have hc2 := bcell_ hb2
  have hB2 := Aside0.mk (below_then hB1.out hB1.out.size hb2)
  have hz2 : w.heap.size + 1 < w2.heap.size := by have := hb2.size; omega
  have hy2 : w.heap.size < w2.heap.size := by omega
  clear hb2 hB1
  go_wp2_with fail
  refine (cmp_Compare_int64.calls _ _ s _ hs.out).mono ?_
  rintro e w3 ⟨rfl, hd3⟩
  have hB3 := Aside0.mk (below_then hB2.out hB2.out.size hd3.below)
  clear hd3
  go_wp2_with fail
  refine (value_signs.calls _).mono ?_
  rintro e w4 ⟨rfl, hb4⟩
  have i1 := cmpIdx1 a0 H3.out.1 H3.out.2
  have i2 := cmpIdx2 a0 (s + 1) H3.out.1 H3.out.2 H4.out.1 H4.out.2
  have hs0 : -1 ≤ s := by have := H4.out; omega
  have hs1 : s ≤ 1 := by have := H4.out; omega
  have hB4 := Aside0.mk (below_then hB3.out hB3.out.size hb4)
  clear hb4 hB3 hB2
  go_wp2
  go_ret2
  exact ⟨rfl, hB4.out⟩
set_option maxHeartbeats 8000000 in
set_option maxRecDepth 100000 in
theorem value_Compare.w8 (a0 : Int) (a1_0 : Int) (a1_1 : Int) (a1_2 : ByteArray) (a2_0 : Int) (a2_1 : Int) (a2_2 : ByteArray) (w : World) (h1 : Aside0 (value_Right.f a1_0 a1_1 a1_2 = some true)) (h2 : Aside0 (value_Right.f a2_0 a2_1 a2_2 = some true)) (s : Int) (hs : Aside0 (cmp_Compare_int64.f a1_1 a2_1 = some s)) (H3 : Aside0 (1 ≤ a0 ∧ a0 ≤ 6)) (H4 : Aside0 (0 ≤ s + 1 ∧ s + 1 ≤ 2)) (e1 : a1_0 = 1) (e2 : a2_0 = 1) :
    Calls Try.prog 14 #[.int .i64 a0, .agg #[.int .i64 a1_0, .int .i64 a1_1, .string a1_2], .agg #[.int .i64 a2_0, .int .i64 a2_1, .string a2_2]] w (CmpPost w (cmpSg a0 (s + 1)) 0) := by
  subst e1 e2
  have c3 : decide (a0 < 1) = false := decide_eq_false (by have := H3.out; omega)
  have c4 : decide (6 < a0) = false := decide_eq_false (by have := H3.out; omega)
  go_enter Try.func14, Try.ntmps14
  go_wp2_with fail
  refine (value_Right.calls _ _ _ true _ h1.out).mono ?_
  rintro e w1 ⟨rfl, hb1⟩
  have hc1 := bcell_ hb1
  have hB1 := Aside0.mk (cmp_below2 hb1)
  have hz1 : w.heap.size + 1 < w1.heap.size := by have := hb1.size; simp at this; omega
  have hy1 : w.heap.size < w1.heap.size := by omega
  clear hb1
  go_wp2_with fail
  refine (value_Right.calls _ _ _ true _ h2.out).mono ?_
  rintro e w2 ⟨rfl, hb2⟩
  have hc2 := bcell_ hb2
  have hB2 := Aside0.mk (below_then hB1.out hB1.out.size hb2)
  have hz2 : w.heap.size + 1 < w2.heap.size := by have := hb2.size; omega
  have hy2 : w.heap.size < w2.heap.size := by omega
  clear hb2 hB1
  go_wp2_with fail
  refine (cmp_Compare_int64.calls _ _ s _ hs.out).mono ?_
  rintro e w3 ⟨rfl, hd3⟩
  have hB3 := Aside0.mk (below_then hB2.out hB2.out.size hd3.below)
  clear hd3
  go_wp2_with fail
  refine (value_signs.calls _).mono ?_
  rintro e w4 ⟨rfl, hb4⟩
  have i1 := cmpIdx1 a0 H3.out.1 H3.out.2
  have i2 := cmpIdx2 a0 (s + 1) H3.out.1 H3.out.2 H4.out.1 H4.out.2
  have hs0 : -1 ≤ s := by have := H4.out; omega
  have hs1 : s ≤ 1 := by have := H4.out; omega
  have hB4 := Aside0.mk (below_then hB3.out hB3.out.size hb4)
  clear hb4 hB3 hB2
  go_wp2
  go_ret2
  exact ⟨rfl, hB4.out⟩
theorem value_Compare.calls (a0 : Int) (a1_0 : Int) (a1_1 : Int) (a1_2 : ByteArray) (a2_0 : Int) (a2_1 : Int) (a2_2 : ByteArray) (r1 : Bool) (r2 : Int) (w : World) (h : value_Compare.f a0 a1_0 a1_1 a1_2 a2_0 a2_1 a2_2 = some (r1, r2)) :
    Calls Try.prog 14 #[.int .i64 a0, .agg #[.int .i64 a1_0, .int .i64 a1_1, .string a1_2], .agg #[.int .i64 a2_0, .int .i64 a2_1, .string a2_2]] w fun e w' => e = .returned (.tuple #[.bool r1, .int .i64 r2]) ∧ Below w.heap.size w w' := by
  show Calls Try.prog 14 _ w (CmpPost w r1 r2)
  unfold value_Compare.f at h
  obtain ⟨t1, h1, h⟩ := Option.bind_eq_some_iff.1 h
  cases t1 with
  | false =>
    simp only [Bool.false_eq_true, if_false, Option.some.injEq, Prod.mk.injEq] at h
    obtain ⟨rfl, rfl⟩ := h
    exact value_Compare.w0 _ _ _ _ _ _ _ w ⟨h1⟩
  | true =>
    rw [if_pos rfl] at h
    obtain ⟨t2, h2, h⟩ := Option.bind_eq_some_iff.1 h
    cases t2 with
    | false =>
      simp only [Bool.false_eq_true, if_false, Option.some.injEq, Prod.mk.injEq] at h
      obtain ⟨rfl, rfl⟩ := h
      exact value_Compare.w1 _ _ _ _ _ _ _ w ⟨h1⟩ ⟨h2⟩
    | true =>
      rw [if_pos rfl] at h
      by_cases c3 : a0 < 1
      · rw [if_pos c3] at h
        simp only [Option.some.injEq, Prod.mk.injEq] at h
        obtain ⟨rfl, rfl⟩ := h
        exact value_Compare.w2 _ _ _ _ _ _ _ w ⟨h1⟩ ⟨h2⟩ c3
      rw [if_neg c3] at h
      by_cases c4 : a0 > 6
      · rw [if_pos c4] at h
        simp only [Option.some.injEq, Prod.mk.injEq] at h
        obtain ⟨rfl, rfl⟩ := h
        exact value_Compare.w3 _ _ _ _ _ _ _ w ⟨h1⟩ ⟨h2⟩ c3 c4
      rw [if_neg c4] at h
      by_cases c5 : a1_0 = a2_0
      · rw [if_pos c5] at h
        by_cases k2 : a1_0 = 2
        · rw [if_pos k2] at h
          obtain ⟨s, hs, h⟩ := Option.bind_eq_some_iff.1 h
          by_cases g : -1 ≤ s ∧ s ≤ 1
          · rw [if_pos g] at h
            simp only [Option.some.injEq, Prod.mk.injEq] at h
            obtain ⟨rfl, rfl⟩ := h
            exact value_Compare.w5 _ _ _ _ _ _ _ w ⟨h1⟩ ⟨h2⟩ s ⟨hs⟩ ⟨by omega⟩ ⟨by omega⟩ k2 (c5 ▸ k2)
          · rw [if_neg g] at h; cases h
        rw [if_neg k2] at h
        by_cases k3 : a1_0 = 3
        · rw [if_pos k3] at h
          by_cases c6 : a0 > 2
          · rw [if_pos c6] at h
            simp only [Option.some.injEq, Prod.mk.injEq] at h
            obtain ⟨rfl, rfl⟩ := h
            exact value_Compare.w6 _ _ _ _ _ _ _ w ⟨h1⟩ ⟨h2⟩ ⟨by omega⟩ c6 k3 (c5 ▸ k3)
          rw [if_neg c6] at h
          obtain ⟨s, hs, h⟩ := Option.bind_eq_some_iff.1 h
          by_cases g : -1 ≤ s ∧ s ≤ 1
          · rw [if_pos g] at h
            simp only [Option.some.injEq, Prod.mk.injEq] at h
            obtain ⟨rfl, rfl⟩ := h
            exact value_Compare.w7 _ _ _ _ _ _ _ w ⟨h1⟩ ⟨h2⟩ s ⟨hs⟩ ⟨by omega⟩ ⟨by omega⟩ c6 k3 (c5 ▸ k3)
          · rw [if_neg g] at h; cases h
        rw [if_neg k3] at h
        have k1 := value_Right_kind h1 k2 k3
        obtain ⟨s, hs, h⟩ := Option.bind_eq_some_iff.1 h
        by_cases g : -1 ≤ s ∧ s ≤ 1
        · rw [if_pos g] at h
          simp only [Option.some.injEq, Prod.mk.injEq] at h
          obtain ⟨rfl, rfl⟩ := h
          exact value_Compare.w8 _ _ _ _ _ _ _ w ⟨h1⟩ ⟨h2⟩ s ⟨hs⟩ ⟨by omega⟩ ⟨by omega⟩ k1 (c5 ▸ k1)
        · rw [if_neg g] at h; cases h
      · rw [if_neg c5] at h
        simp only [Option.some.injEq, Prod.mk.injEq] at h
        obtain ⟨rfl, rfl⟩ := h
        exact value_Compare.w4 _ _ _ _ _ _ _ w ⟨h1⟩ ⟨h2⟩ c3 c4 c5

end Go.Proofs.Ytlbaoekmnfeogaa.PAll
