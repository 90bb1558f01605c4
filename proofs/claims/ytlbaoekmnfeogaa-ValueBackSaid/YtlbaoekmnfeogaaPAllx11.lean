/- Written by this session's own program (wip/xprint): functions of the Go program as Lean functions, and proofs that the Go code computes them. -/
import Derived.Test.YtlbaoekmnfeogaaPAllx0
namespace Go.Proofs.Ytlbaoekmnfeogaa.PAll
open Go.RowKit Go.Proofs.YtlbaoekmnfeogaaW.PrintWords Go.Proofs.YtlbaoekmnfeogaaW.PrintLast Go.Proofs.YtlbaoekmnfeogaaW.PrintMore
attribute [local go_sem] max2_int min2_int max_two min_two max_three min_three max_four min_four   -- for this text's walks alone
set_option linter.unusedVariables false
set_option linter.unusedSimpArgs false

/-! ### value_signs: function 29, by a text of our own -/
def cmpSg (op i : Int) : Bool := if op = 1 then decide (i = 1) else if op = 2 then !decide (i = 1) else if op = 3 then decide (i = 0) else if op = 4 then decide (i ≤ 1) else if op = 5 then decide (i = 2) else decide (1 ≤ i)
def cmpAll : Array Value := #[.bool false, .bool false, .bool false, .bool false, .bool true, .bool false, .bool true, .bool false, .bool true, .bool true, .bool false, .bool false, .bool true, .bool true, .bool false, .bool false, .bool false, .bool true, .bool false, .bool true, .bool true]
def cmpRow (op : Int) : Array Value := #[.bool (cmpSg op 0), .bool (cmpSg op 1), .bool (cmpSg op 2)]
theorem cmpIdx1_1 (W : World) : (Instr.index 49 (.agg cmpAll) (.int .i64 1)).run Try.prog W = .ok (.agg (cmpRow 1)) W := by kernel_rfl
theorem cmpIdx2_1_0 (W : World) : (Instr.index 48 (.agg (cmpRow 1)) (.int .i64 0)).run Try.prog W = .ok (.bool (cmpSg 1 0)) W := by kernel_rfl
theorem cmpIdx2_1_1 (W : World) : (Instr.index 48 (.agg (cmpRow 1)) (.int .i64 1)).run Try.prog W = .ok (.bool (cmpSg 1 1)) W := by kernel_rfl
theorem cmpIdx2_1_2 (W : World) : (Instr.index 48 (.agg (cmpRow 1)) (.int .i64 2)).run Try.prog W = .ok (.bool (cmpSg 1 2)) W := by kernel_rfl
theorem cmpIdx1_2 (W : World) : (Instr.index 49 (.agg cmpAll) (.int .i64 2)).run Try.prog W = .ok (.agg (cmpRow 2)) W := by kernel_rfl
theorem cmpIdx2_2_0 (W : World) : (Instr.index 48 (.agg (cmpRow 2)) (.int .i64 0)).run Try.prog W = .ok (.bool (cmpSg 2 0)) W := by kernel_rfl
theorem cmpIdx2_2_1 (W : World) : (Instr.index 48 (.agg (cmpRow 2)) (.int .i64 1)).run Try.prog W = .ok (.bool (cmpSg 2 1)) W := by kernel_rfl
theorem cmpIdx2_2_2 (W : World) : (Instr.index 48 (.agg (cmpRow 2)) (.int .i64 2)).run Try.prog W = .ok (.bool (cmpSg 2 2)) W := by kernel_rfl
theorem cmpIdx1_3 (W : World) : (Instr.index 49 (.agg cmpAll) (.int .i64 3)).run Try.prog W = .ok (.agg (cmpRow 3)) W := by kernel_rfl
theorem cmpIdx2_3_0 (W : World) : (Instr.index 48 (.agg (cmpRow 3)) (.int .i64 0)).run Try.prog W = .ok (.bool (cmpSg 3 0)) W := by kernel_rfl
theorem cmpIdx2_3_1 (W : World) : (Instr.index 48 (.agg (cmpRow 3)) (.int .i64 1)).run Try.prog W = .ok (.bool (cmpSg 3 1)) W := by kernel_rfl
theorem cmpIdx2_3_2 (W : World) : (Instr.index 48 (.agg (cmpRow 3)) (.int .i64 2)).run Try.prog W = .ok (.bool (cmpSg 3 2)) W := by kernel_rfl
theorem cmpIdx1_4 (W : World) : (Instr.index 49 (.agg cmpAll) (.int .i64 4)).run Try.prog W = .ok (.agg (cmpRow 4)) W := by kernel_rfl
theorem cmpIdx2_4_0 (W : World) : (Instr.index 48 (.agg (cmpRow 4)) (.int .i64 0)).run Try.prog W = .ok (.bool (cmpSg 4 0)) W := by kernel_rfl
theorem cmpIdx2_4_1 (W : World) : (Instr.index 48 (.agg (cmpRow 4)) (.int .i64 1)).run Try.prog W = .ok (.bool (cmpSg 4 1)) W := by kernel_rfl
theorem cmpIdx2_4_2 (W : World) : (Instr.index 48 (.agg (cmpRow 4)) (.int .i64 2)).run Try.prog W = .ok (.bool (cmpSg 4 2)) W := by kernel_rfl
theorem cmpIdx1_5 (W : World) : (Instr.index 49 (.agg cmpAll) (.int .i64 5)).run Try.prog W = .ok (.agg (cmpRow 5)) W := by kernel_rfl
theorem cmpIdx2_5_0 (W : World) : (Instr.index 48 (.agg (cmpRow 5)) (.int .i64 0)).run Try.prog W = .ok (.bool (cmpSg 5 0)) W := by kernel_rfl
theorem cmpIdx2_5_1 (W : World) : (Instr.index 48 (.agg (cmpRow 5)) (.int .i64 1)).run Try.prog W = .ok (.bool (cmpSg 5 1)) W := by kernel_rfl
theorem cmpIdx2_5_2 (W : World) : (Instr.index 48 (.agg (cmpRow 5)) (.int .i64 2)).run Try.prog W = .ok (.bool (cmpSg 5 2)) W := by kernel_rfl
theorem cmpIdx1_6 (W : World) : (Instr.index 49 (.agg cmpAll) (.int .i64 6)).run Try.prog W = .ok (.agg (cmpRow 6)) W := by kernel_rfl
theorem cmpIdx2_6_0 (W : World) : (Instr.index 48 (.agg (cmpRow 6)) (.int .i64 0)).run Try.prog W = .ok (.bool (cmpSg 6 0)) W := by kernel_rfl
theorem cmpIdx2_6_1 (W : World) : (Instr.index 48 (.agg (cmpRow 6)) (.int .i64 1)).run Try.prog W = .ok (.bool (cmpSg 6 1)) W := by kernel_rfl
theorem cmpIdx2_6_2 (W : World) : (Instr.index 48 (.agg (cmpRow 6)) (.int .i64 2)).run Try.prog W = .ok (.bool (cmpSg 6 2)) W := by kernel_rfl
theorem cmpIdx1 (op : Int) (h1 : 1 ≤ op) (h2 : op ≤ 6) (W : World) : (Instr.index 49 (.agg cmpAll) (.int .i64 op)).run Try.prog W = .ok (.agg (cmpRow op)) W := by
  have h : op = 1 ∨ op = 2 ∨ op = 3 ∨ op = 4 ∨ op = 5 ∨ op = 6 := by omega
  rcases h with rfl | rfl | rfl | rfl | rfl | rfl
  · exact cmpIdx1_1 W
  · exact cmpIdx1_2 W
  · exact cmpIdx1_3 W
  · exact cmpIdx1_4 W
  · exact cmpIdx1_5 W
  · exact cmpIdx1_6 W
theorem cmpIdx2 (op s : Int) (h1 : 1 ≤ op) (h2 : op ≤ 6) (h3 : 0 ≤ s) (h4 : s ≤ 2) (W : World) : (Instr.index 48 (.agg (cmpRow op)) (.int .i64 s)).run Try.prog W = .ok (.bool (cmpSg op s)) W := by
  have h : op = 1 ∨ op = 2 ∨ op = 3 ∨ op = 4 ∨ op = 5 ∨ op = 6 := by omega
  have g : s = 0 ∨ s = 1 ∨ s = 2 := by omega
  rcases h with rfl | rfl | rfl | rfl | rfl | rfl <;> rcases g with rfl | rfl | rfl
  · exact cmpIdx2_1_0 W
  · exact cmpIdx2_1_1 W
  · exact cmpIdx2_1_2 W
  · exact cmpIdx2_2_0 W
  · exact cmpIdx2_2_1 W
  · exact cmpIdx2_2_2 W
  · exact cmpIdx2_3_0 W
  · exact cmpIdx2_3_1 W
  · exact cmpIdx2_3_2 W
  · exact cmpIdx2_4_0 W
  · exact cmpIdx2_4_1 W
  · exact cmpIdx2_4_2 W
  · exact cmpIdx2_5_0 W
  · exact cmpIdx2_5_1 W
  · exact cmpIdx2_5_2 W
  · exact cmpIdx2_6_0 W
  · exact cmpIdx2_6_1 W
  · exact cmpIdx2_6_2 W
theorem cmpSize : (Try.prog.info? 49).map (·.size) = some cmpAll.size := by kernel_rfl
theorem cmpOne : cmpAll.all (fun x => x.oneCell') = true := by kernel_rfl
set_option maxHeartbeats 1000000 in
set_option maxRecDepth 100000 in
theorem value_signs.calls (w : World) :
    Calls Try.prog 29 #[] w fun e w' => e = .returned (.agg cmpAll) ∧ Below w.heap.size w w' := by
  go_enter Try.func29, Try.ntmps29
  go_wp2_with (first | (refine wpList_store_row rfl 49 (.tmp 0) (.tmp 7) rfl w.heap.size cmpAll rfl rfl 49 _ (heap_alloc_new _ _) cmpSize rfl cmpOne ?_))
  rw [World.setRow_alloc_new]
  exact bodyPost_ret (v := .agg cmpAll) (results_cell_row Try.results29 _ _ w.heap.size 49 cmpAll (0, 0) (.array 7 48) rfl (heap_alloc_new _ _) Try.underlying49 rfl cmpSize) rfl ⟨rfl, (Below.refl _ _).alloc (Nat.le_refl _) _⟩

end Go.Proofs.Ytlbaoekmnfeogaa.PAll
