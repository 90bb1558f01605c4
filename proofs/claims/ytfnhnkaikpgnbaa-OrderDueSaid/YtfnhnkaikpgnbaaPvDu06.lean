/- Layer 06: the iterator 'due', walked by hand (after the kit's text on the library's iterators over a slice). -/
import Derived.RangeFuncNested
import Derived.RangeFuncBox
import Derived.RangeFuncLeaves
import Derived.Shelf.Abstract
import Derived.WalkKit
import Derived.OwnWalkIn
import Derived.TacticsInMore
import Derived.LoopNIn
import Derived.LoopIn
import Derived.Test.YtfnhnkaikpgnbaaProg
namespace Go.Pv.L06
open Go Go.Proofs Go.RowKit Go.Shelf
set_option linter.all false
set_option linter.constructorNameAsVariable false
set_option linter.unusedSectionVars false
set_option linter.unusedVariables false
set_option linter.unusedSimpArgs false

  attribute [local go_sem] Oper.semAt_some

def upto {α : Type} (f : Nat → α) (k : Nat) : List α := (List.range k).map f
theorem upto_succ {α : Type} (f : Nat → α) (k : Nat) : upto f (k + 1) = upto f k ++ [f k] := by simp [upto, List.range_succ]
theorem upto_length {α : Type} (f : Nat → α) (k : Nat) : (upto f k).length = k := by simp [upto]

/-- Some cells are as they were. -/
def KpC (C : Nat → Nat → Prop) (W W' : World) : Prop := W.heap.size ≤ W'.heap.size ∧ ∀ b o, C b o → W'.cell? ⟨b, o, none⟩ = W.cell? ⟨b, o, none⟩
theorem KpC.refl (C : Nat → Nat → Prop) (W : World) : KpC C W W := ⟨Nat.le_refl _, fun _ _ _ => rfl⟩
theorem KpC.trans {C : Nat → Nat → Prop} {A B D : World} (h : KpC C A B) (k : KpC C B D) : KpC C A D := ⟨Nat.le_trans h.1 k.1, fun b o hc => (k.2 b o hc).trans (h.2 b o hc)⟩

set_option maxHeartbeats 1000000 in
theorem due_in (p : Option Addr) (t : Int) (w : World) :
    Calls Try.prog 23 #[.pointer p, .int .i64 t] w fun e w' => e = .returned (.func (.func 33) #[] #[.pointer (some ⟨w.heap.size, 0, none⟩), .pointer (some ⟨w.heap.size + 1, 0, none⟩)]) ∧ w' = (w.alloc (.cells #[.pointer p] 24)).alloc (.cells #[.int .i64 t] 2) := by
  go_enter Try.func23, Try.ntmps23
  go_wp2
  go_ret
  exact ⟨rfl, rfl⟩

set_option maxRecDepth 100000 in
set_option maxHeartbeats 4000000 in
theorem due1_in {α : Type} (F : Fence) (n : Nat) (h7 : F.fn 33) (hro : F.round = none) (hn : 1 ≤ n) (l B1 B2 bb bo b off len cap m : Nat) (A0 : Option Addr) (hA0 : 0 < len → A0 = some ⟨b, off, none⟩) (t : Int) (C : Nat → Nat → Prop) (encs : α → Array Value) (el : Nat → α) (ts : Nat → Int) (d q : Nat → Int) (nm : Nat → ByteArray) (A : Nat → Option Addr) (vl vc : Nat → Nat)
    (hreach : len ≤ 140737488355328) (hm : m ≤ len) (hdue : ∀ k, k < m → ts k ≤ t) (hstop : m < len → t < ts m)
    (hel : ∀ k, k < len → encs (el k) = #[.agg #[.int .i64 (ts k), .int .i64 (d k), .int .i64 (q k), .string (nm k), .slice (A k) (vl k) (vc k)]])
    (J Jx : List α → World → Prop) (W : World) (hJ : AbidesFrom W.heap.size J) (hC : ∀ b o, C b o → b < W.heap.size)
    (hY : ∀ pre x W1, J pre W1 → pre.length < len → YieldAt F (n - 1) Try.prog l (encs x) W1 fun e W' =>
      (e = .returned (.bool true) ∧ J (pre ++ [x]) W' ∧ KpC C W1 W') ∨ (e = .returned (.bool false) ∧ Jx (pre ++ [x]) W'))
    (hB1 : W.cell? ⟨B1, 0, none⟩ = some (.pointer (some ⟨bb, bo, none⟩))) (hB2 : W.cell? ⟨B2, 0, none⟩ = some (.int .i64 t)) (hbb : W.cell? ⟨bb, bo, none⟩ = some (.slice A0 len cap))
    (hC1 : C B1 0) (hC2 : C B2 0) (hCb : C bb bo) (hCr : ∀ k, k < len → ∀ j, j < 5 → C b (off + k * 5 + j))
    (hc0 : ∀ k, k < len → W.cell? ⟨b, off + k * 5, none⟩ = some (.int .i64 (ts k))) (hc1 : ∀ k, k < len → W.cell? ⟨b, off + k * 5 + 1, none⟩ = some (.int .i64 (d k))) (hc2 : ∀ k, k < len → W.cell? ⟨b, off + k * 5 + 2, none⟩ = some (.int .i64 (q k)))
    (hc3 : ∀ k, k < len → W.cell? ⟨b, off + k * 5 + 3, none⟩ = some (.string (nm k))) (hc4 : ∀ k, k < len → W.cell? ⟨b, off + k * 5 + 4, none⟩ = some (.slice (A k) (vl k) (vc k)))
    (h0 : J [] W) :
    CallsIn F n Try.prog 33 #[.func (.yield l) #[] #[], .pointer (some ⟨B1, 0, none⟩), .pointer (some ⟨B2, 0, none⟩)] W fun e W' => (∃ v, e = .returned v) ∧
      ((∃ ys, ys = upto el m ∧ J ys W') ∨ (∃ pre, True ∧ Jx pre W')) := by
  refine callsIn_of_wp Try.func33 rfl h7 ?_ hro
  simp only [Try.ntmps33, List.size_toArray, List.length_cons, List.length_nil, Nat.reduceAdd, Nat.reduceSub, Array.replicate_succ, Array.replicate_zero, List.push_toArray, List.append_toArray, List.nil_append, List.cons_append]
  gi_wp2
  gi_loopw [11] (fun i wr => ∃ k : Nat, k ≤ m ∧ i = .int .i64 k ∧ J (upto el k) wr ∧ KpC C W wr)
    (fun i _ => len - (intOf i).toNat)
  case atStart => exact ⟨0, Nat.zero_le _, rfl, h0, KpC.refl _ _⟩
  case round =>
    obtain ⟨k, hk, rfl, hJs, hnx⟩ := hrel
    have hB2w : wr.cell? ⟨B2, 0, none⟩ = some (.int .i64 t) := (hnx.2 _ _ hC2).trans hB2
    by_cases hlt : k < len
    · obtain rfl := hA0 (by omega)
      have hx0 : wr.cell? ⟨b, off + k * 5, none⟩ = some (.int .i64 (ts k)) := (hnx.2 _ _ (hCr k hlt 0 (by decide))).trans (hc0 k hlt)
      have hx1 : wr.cell? ⟨b, off + k * 5 + 1, none⟩ = some (.int .i64 (d k)) := (hnx.2 _ _ (hCr k hlt 1 (by decide))).trans (hc1 k hlt)
      have hx2 : wr.cell? ⟨b, off + k * 5 + 2, none⟩ = some (.int .i64 (q k)) := (hnx.2 _ _ (hCr k hlt 2 (by decide))).trans (hc2 k hlt)
      have hx3 : wr.cell? ⟨b, off + k * 5 + 3, none⟩ = some (.string (nm k)) := (hnx.2 _ _ (hCr k hlt 3 (by decide))).trans (hc3 k hlt)
      have hx4 : wr.cell? ⟨b, off + k * 5 + 4, none⟩ = some (.slice (A k) (vl k) (vc k)) := (hnx.2 _ _ (hCr k hlt 4 (by decide))).trans (hc4 k hlt)
      obtain ⟨Wa, hWa⟩ : ∃ Wa, Wa = wr.alloc (.cells #[.int .i64 (ts k), .int .i64 (d k), .int .i64 (q k), .string (nm k), .slice (A k) (vl k) (vc k)] 31) := ⟨_, rfl⟩
      have hold : ∀ b o, b < wr.heap.size → Wa.cell? ⟨b, o, none⟩ = wr.cell? ⟨b, o, none⟩ := fun b o hb => by rw [hWa]; exact World.cell?_alloc_past _ b o hb
      have hKa : KpC C wr Wa := ⟨by rw [hWa, World.size_alloc]; omega, fun b o hc => hold b o (Nat.lt_of_lt_of_le (hC b o hc) hnx.1)⟩
      have hB2a : Wa.cell? ⟨B2, 0, none⟩ = some (.int .i64 t) := (hKa.2 _ _ hC2).trans hB2w
      have hJa : J (upto el k) Wa := by rw [hWa]; exact hJ _ _ _ none hJs (World.grownBy_alloc wr _ none) (fun r e => by cases e)
      have hgr : ∀ (x : Value), (wr.alloc (.cells #[.int .i64 (ts k), .int .i64 (d k), .int .i64 (q k), .string (nm k), .slice (A k) (vl k) (vc k)] 31)).cell? ⟨B2, 0, none⟩ = some (.int .i64 t) := fun _ => by rw [← hWa]; exact hB2a
      have hgr' := hgr undef
      by_cases hdk : k < m
      · have hle := hdue k hdk
        obtain ⟨fn, tmps, assign, body, hy, hR⟩ := hY _ (el k) Wa hJa (by rw [upto_length]; exact hlt)
        rw [hel k hlt] at hy
        rw [hWa] at hy hR
        have hgt : ¬ (t < ts k) := by omega
        gi_wp2
        refine hR.mono ?_
        rintro e W3 (⟨rfl, hJ3, hk3⟩ | ⟨rfl, hJx3⟩)
        · gi_wp2
          go_roundw
          case rel => exact ⟨k + 1, by omega, by simp, by rw [upto_succ]; exact hJ3, (hnx.trans hKa).trans (by rw [hWa]; exact hk3)⟩
          case measure => simp [intOf]; omega
        · gi_wp2
          refine bodyPost_ret (results_none rfl _ _ _) rfl ?_
          exact ⟨⟨_, rfl⟩, .inr ⟨_, trivial, hJx3⟩⟩
      · obtain rfl : k = m := by omega
        have hgt : t < ts k := hstop hlt
        gi_wp2
        refine ⟨fun _ h => (by cases h), ?_⟩
        gi_wp2
        refine bodyPost_ret (results_none rfl _ _ _) rfl ?_
        exact ⟨⟨_, rfl⟩, .inl ⟨_, rfl, by rw [← hWa]; exact hJa⟩⟩
    · obtain rfl : k = len := by omega
      obtain rfl : k = m := by omega
      gi_wp2
      go_end0
      exact ⟨⟨_, rfl⟩, .inl ⟨_, rfl, hJs⟩⟩
end Go.Pv.L06
