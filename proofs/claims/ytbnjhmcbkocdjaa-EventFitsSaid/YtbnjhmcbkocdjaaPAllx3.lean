/- Written by this session's own program (wip/xprint): functions of the Go program as Lean functions, and proofs that the Go code computes them. -/
import Derived.Test.YtbnjhmcbkocdjaaPAllx0
namespace Go.Proofs.Ytbnjhmcbkocdjaa.PAll
open Go.RowKit Go.Proofs.YtbnjhmcbkocdjaaW.PrintWords Go.Proofs.YtbnjhmcbkocdjaaW.PrintLast Go.Proofs.YtbnjhmcbkocdjaaW.PrintMore
attribute [local go_sem] max2_int min2_int max_two min_two max_three min_three max_four min_four   -- for this text's walks alone
set_option linter.unusedVariables false
set_option linter.unusedSimpArgs false

/-! ### event_Field_1: function 34 -/
def event_Field_1.f (a0_0 : ByteArray) (a0_1 : Int) (a1 : ByteArray) : Option (Bool) := some (a0_0.toList == a1.toList)
set_option maxHeartbeats 8000000 in
set_option maxRecDepth 100000 in
theorem event_Field_1.calls (a0_0 : ByteArray) (a0_1 : Int) (gc1 : Nat) (a1 : ByteArray) (r : Bool) (w : World) (hcc1 : w.cell? ⟨gc1, 0, none⟩ = some (.string a1)) (h : event_Field_1.f a0_0 a0_1 a1 = some r) :
    Calls Try.prog 34 #[.agg #[.string a0_0, .int .i64 a0_1], .pointer (some ⟨gc1, 0, none⟩)] w fun e w' => e = .returned (.bool r) ∧ Below w.heap.size w w' := by
  have hu55 := Try.underlying55
  have HB := Aside0.mk (Below.refl w.heap.size w)
  have H : (some (a0_0.toList == a1.toList)) = some r := h
  clear h
  obtain rfl := Option.some.inj H
  go_enter Try.func34, Try.ntmps34
  go_wp2_with (first | ((with_reducible refine gate_dst (N := 2) rfl ?_); refine box_event ?hg (N := 2) ?hd (cs := #[.string a0_0, .int .i64 a0_1]) (t := 55) ?hr ?_; (case hd => rfl); (case hg => rfl); (case hr => first | (go_simp; done) | (go_simp; rfl)); intro gb101 hg w3 hbox hb; have BK101 := Aside0.mk (hbox); have GW101 := hG HB hg; have GE101 := hG HB hg; replace HB := hB HB hb; clear hb hbox hg; obtain ⟨hcz4_0, hcz4_1, hfz4_0, hfz4_1⟩ := blk_c2 BK101.out; have hcw5 := (((show Below w.heap.size w w3 from (pl_below HB.out)).cell (World.block_lt_of_cell? w _ hcc1)).trans hcc1)))
  go_ret
  exact ⟨by first | rfl | (simp [errW_none, errW_some] <;> rfl) | (simp [*, errW_none, errW_some] <;> rfl), pl_below HB.out⟩

end Go.Proofs.Ytbnjhmcbkocdjaa.PAll
