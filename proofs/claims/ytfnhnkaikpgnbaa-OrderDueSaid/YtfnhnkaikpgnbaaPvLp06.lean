/- Layer 06: the loop over 'due', walked by hand (after the kit's page on ranges over functions). -/
import Derived.Test.YtfnhnkaikpgnbaaPvDu06
import Derived.Maps.AppendAt
import Derived.RangeFuncBound
import Derived.RangeFuncCalls
import Derived.Shelf.RegionOpen
namespace Go.Pv.L06
open Go Go.Proofs Go.RowKit Go.Shelf
set_option linter.all false
set_option linter.constructorNameAsVariable false
set_option linter.unusedSectionVars false
set_option linter.unusedVariables false
set_option linter.unusedSimpArgs false

  attribute [local go_sem] Oper.semAt_some

/-- The range over a function in a text. -/
def rfC : Code → Option (Operand × Array Tmp × Code × Code)
  | .rangeFunc f p x y => some (f, p, x, y)
  | .seq a b => (match rfC a with | some r => some r | none => rfC b)
  | .block _ c => rfC c
  | _ => none

/-- An event's cells. -/
abbrev E5 := Int × Int × Int × ByteArray × Option Addr × Nat × Nat
def cells5 (x : E5) : List Value := [.int .i64 x.1, .int .i64 x.2.1, .int .i64 x.2.2.1, .string x.2.2.2.1, .slice x.2.2.2.2.1 x.2.2.2.2.2.1 x.2.2.2.2.2.2]
def flat5 (l : List E5) : List Value := l.flatMap cells5
theorem flat5_snoc (l : List E5) (x : E5) : flat5 (l ++ [x]) = flat5 l ++ cells5 x := by simp [flat5]
theorem cell_new5 (w : World) (x : E5) (t : TypeId) : ∀ j u, (cells5 x)[j]? = some u → (w.alloc (.cells #[.int .i64 x.1, .int .i64 x.2.1, .int .i64 x.2.2.1, .string x.2.2.2.1, .slice x.2.2.2.2.1 x.2.2.2.2.2.1 x.2.2.2.2.2.2] t)).cell? ((⟨w.heap.size, 0, none⟩ : Addr).add j) = some u := by
  intro j u hj
  rw [Addr.add_lit, Nat.zero_add]
  show (w.alloc _).cell? ⟨w.heap.size, j, none⟩ = some u
  rw [World.cell?_alloc_at _ _ _ _ rfl]
  have : (cells5 x)[j]? = #[.int .i64 x.1, .int .i64 x.2.1, .int .i64 x.2.2.1, .string x.2.2.2.1, .slice x.2.2.2.2.1 x.2.2.2.2.2.1 x.2.2.2.2.2.2][j]? := by unfold cells5; simp
  rw [← this]; exact hj

/-- What lay below, but for one block, is as it was. -/
def KB (n1 ob : Nat) (w W : World) : Prop := (W.os = w.os ∧ W.tape = w.tape ∧ W.output = w.output) ∧ w.heap.size ≤ W.heap.size ∧ ∀ b, b < n1 → b ≠ ob → W.heap[b]? = w.heap[b]?
theorem KB.refl (n1 ob : Nat) (w : World) : KB n1 ob w w := ⟨⟨rfl, rfl, rfl⟩, Nat.le_refl _, fun _ _ _ => rfl⟩
theorem KB.trans {n1 ob : Nat} {a b c : World} (h : KB n1 ob a b) (k : KB n1 ob b c) : KB n1 ob a c := ⟨⟨k.1.1.trans h.1.1, k.1.2.1.trans h.1.2.1, k.1.2.2.trans h.1.2.2⟩, Nat.le_trans h.2.1 k.2.1, fun b h1 h2 => (k.2.2 b h1 h2).trans (h.2.2 b h1 h2)⟩
theorem KB.grown {n1 ob : Nat} {w W W' : World} (h : KB n1 ob w W) {row : Option Nat} (hn : n1 ≤ W.heap.size) (hg : W.grownBy W' row) (hr : ∀ r, row = some r → n1 ≤ r ∨ r = ob) : KB n1 ob w W' :=
  h.trans ⟨⟨hg.os, hg.tape, hg.output⟩, hg.size, fun b h1 h2 => hg.block b (by omega) (fun e => by rcases hr b e.symm with k | k <;> omega)⟩

theorem appended2 {W w1 : World} {n1 B : Nat} {v v' : Value} {k m : Nat} {xs ys : List Value} {tmp : Obj} {w0 : World}
    (hv : Boxed W B 34 v) (hrow : W.ownsRow n1 31 5 v k xs) (hn : n1 ≤ W.heap.size) (hK : KB n1 B w0 W)
    (hown' : w1.ownsRow n1 31 5 v' m ys) (hgrow : (W.alloc tmp).grownBy w1 v.ownBlock) :
    Boxed w1 B 34 v ∧ Boxed (w1.setCell ⟨B, 0, none⟩ v') B 34 v' ∧ (w1.setCell ⟨B, 0, none⟩ v').ownsRow n1 31 5 v' m ys ∧ KeepsOthers W (w1.setCell ⟨B, 0, none⟩ v') ∧ KB n1 B w0 (w1.setCell ⟨B, 0, none⟩ v') ∧ KB n1 B W (w1.setCell ⟨B, 0, none⟩ v') := by
  have hv1 : Boxed w1 B 34 v := (hv.alloc tmp).kept hgrow (hv.not_row (by decide) hrow)
  have hge : ∀ r, v.ownBlock = some r → n1 ≤ r ∨ r = B := fun r e => by
    rcases hrow.2 with ⟨rfl, _⟩ | ⟨g, cap, cur, rfl, hb, _, _⟩
    · simp [Value.ownBlock] at e
    · obtain rfl : g = r := by simpa [Value.ownBlock] using e
      exact .inl hb
  have step : ∀ {w0 : World}, KB n1 B w0 W → KB n1 B w0 (w1.setCell ⟨B, 0, none⟩ v') := fun {w0} hK => by
    have h1 : KB n1 B w0 (W.alloc tmp) := hK.grown hn (World.grownBy_alloc W tmp none) (fun r e => by cases e)
    have h2 : KB n1 B w0 w1 := h1.grown (by rw [World.size_alloc]; omega) hgrow hge
    exact h2.grown (by have := hgrow.size; rw [World.size_alloc] at this; omega) (grownBy_setCell' w1 B v') (fun r e => .inr (by injection e with e; exact e.symm))
  refine ⟨hv1, hv1.set v', hown'.kept (grownBy_setCell' w1 B v') (.inr (hv1.not_row (by decide) hown').symm), ?_, step hK, step (KB.refl _ _ _)⟩
  refine ((KeepsOthers.alloc W tmp).trans (KeepsOthers.of_grownBy hgrow fun j o ej hj => ?_)).trans (KeepsOthers.setCell _ _ _)
  rcases (hrow.alloc tmp).2 with ⟨rfl, _⟩ | ⟨g, cap, cur, rfl, _, hgb, _⟩
  · simp [Value.ownBlock] at ej
  · obtain rfl : g = j := by simpa [Value.ownBlock] using ej
    rw [hgb] at hj; cases hj; rfl

theorem lp_parts31 : (Try.prog.info? 31).map (fun i => (i.zero, i.size, i.bytes)) = some (some (.agg #[.int .i64 0, .int .i64 0, .int .i64 0, .string ⟨#[]⟩, .slice none 0 0]), 5, 64) := by kernel_rfl

noncomputable def bodyOf12 : Code := match Try.f12.body with | some c => c | none => .skip
/-- A variable of five cells. -/
def Boxed5 (W : World) (B : Nat) (x : E5) : Prop := W.heap[B]? = some (.cells #[.int .i64 x.1, .int .i64 x.2.1, .int .i64 x.2.2.1, .string x.2.2.2.1, .slice x.2.2.2.2.1 x.2.2.2.2.2.1 x.2.2.2.2.2.2] 31 (0, 0))
theorem Boxed5.kept {W W' : World} {row : Option Nat} {B : Nat} {x : E5} (h : Boxed5 W B x) (hg : W.grownBy W' row) (hne : some B ≠ row) : Boxed5 W' B x := (hg.block B (Array.getElem?_eq_some_iff.1 h).1 hne).trans h
theorem Boxed5.cell {W : World} {B : Nat} {x : E5} (h : Boxed5 W B x) (j : Nat) : W.cell? ⟨B, j, none⟩ = (cells5 x)[j]? := by
  have h : W.heap[B]? = _ := h
  simp only [World.cell?, h]
  unfold cells5
  simp
set_option maxRecDepth 100000 in
set_option maxHeartbeats 4000000 in
theorem loop12 (u : Nat → Value) (ob B1 B2 bb bo b off len cap m : Nat) (A0 : Option Addr) (hA0 : 0 < len → A0 = some ⟨b, off, none⟩) (t : Int) (el : Nat → E5) (w : World) (Q : Exit → Act → World → Prop)
    (hlen : len * 64 ≤ 140737488355328) (hm : m ≤ len) (hdue : ∀ k, k < m → (el k).1 ≤ t) (hstop : m < len → t < (el m).1)
    (hob : Boxed w ob 34 (.slice none 0 0)) (hB1 : w.cell? ⟨B1, 0, none⟩ = some (.pointer (some ⟨bb, bo, none⟩))) (hB2 : w.cell? ⟨B2, 0, none⟩ = some (.int .i64 t)) (hbb : w.cell? ⟨bb, bo, none⟩ = some (.slice A0 len cap))
    (h1 : B1 ≠ ob) (h2 : B2 ≠ ob) (h3 : bb ≠ ob) (h4 : b ≠ ob)
    (hc : ∀ k, k < len → ∀ j v, (cells5 (el k))[j]? = some v → w.cell? ⟨b, off + k * 5 + j, none⟩ = some v)
    (hdone : ∀ (D : Nat) (W : World) (v : Value), w.heap.size ≤ D → Boxed W ob 34 v → W.ownsRow w.heap.size 31 5 v m (flat5 (upto el m)) → KB w.heap.size ob w W → W.heap[D]? = some (.deferred (some [])) → Q .normal { tmps := #[u 0, u 1, u 2, u 3, u 4, u 5, .pointer (some ⟨ob, 0, none⟩), u 7, u 8, u 9, u 10, u 11, u 12, u 13, u 14, u 15, u 16, u 17, u 18, u 19, u 20, u 21, .func (.func 33) #[] #[.pointer (some ⟨B1, 0, none⟩), .pointer (some ⟨B2, 0, none⟩)], u 23, u 24, u 25, u 26, u 27, u 28, u 29, u 30, u 31, u 32, u 33, u 34, u 35, u 36, u 37, u 38, u 39, u 40, u 41, u 42, u 43], defers := [{ target := .collected D, args := #[] }] } W) :
    ∀ f ps x y, rfC (bodyOf12 : Code) = some (f, ps, x, y) → (Code.rangeFunc f ps x y).wpIn Fence.wide 3 Try.prog Q { tmps := #[u 0, u 1, u 2, u 3, u 4, u 5, .pointer (some ⟨ob, 0, none⟩), u 7, u 8, u 9, u 10, u 11, u 12, u 13, u 14, u 15, u 16, u 17, u 18, u 19, u 20, u 21, .func (.func 33) #[] #[.pointer (some ⟨B1, 0, none⟩), .pointer (some ⟨B2, 0, none⟩)], u 23, u 24, u 25, u 26, u 27, u 28, u 29, u 30, u 31, u 32, u 33, u 34, u 35, u 36, u 37, u 38, u 39, u 40, u 41, u 42, u 43], defers := [] } w := by
  intro f ps x y h
  have h' : rfC bodyOf12 = some (_, _, _, _) := rfl
  rw [h'] at h
  injection h with h
  injection h with e1 h
  injection h with e2 h
  injection h with e3 e4
  subst e1 e2 e3 e4
  obtain ⟨i0, hi, hz0, hz1, hz2⟩ := info_parts lp_parts31
  have hlt : ∀ {X : Addr} {v : Value}, w.cell? X = some v → X.block < w.heap.size := fun {X v} h => by obtain ⟨o, ho, _⟩ := cells_of_cell h; exact (Array.getElem?_eq_some_iff.1 ho).1
  have hKK : ∀ {A B : World}, KB w.heap.size ob A B → KpC (fun b' o' => b' < w.heap.size ∧ b' ≠ ob) A B := fun h => ⟨h.2.1, fun b' o' hb => World.cell?_of_block (h.2.2 b' hb.1 hb.2)⟩
  have hseq : SeqStopsK Fence.wide (3 - 1) Try.prog 33 #[.pointer (some ⟨B1, 0, none⟩), .pointer (some ⟨B2, 0, none⟩)] (fun x : E5 => #[.agg #[.int .i64 x.1, .int .i64 x.2.1, .int .i64 x.2.2.1, .string x.2.2.2.1, .slice x.2.2.2.2.1 x.2.2.2.2.2.1 x.2.2.2.2.2.2]]) (KpC (fun b' o' => b' < w.heap.size ∧ b' ≠ ob)) (fun ys => ys = upto el m) (fun _ => True) len w := by
    intro l J Jx W hW hJ hJx hY h0
    have hcell : ∀ {b' o' : Nat} {v : Value}, w.cell? ⟨b', o', none⟩ = some v → W.cell? ⟨b', o', none⟩ = some v := fun {b' o' v} h => (hW.cell (p := ⟨b', o', none⟩) (hlt h)).trans h
    have hcl := fun k hk j v hv => hc k hk j v hv
    exact due1_in Fence.wide (3 - 1) trivial rfl (by decide) l B1 B2 bb bo b off len cap m A0 hA0 t _ _ el (fun k => (el k).1) (fun k => (el k).2.1) (fun k => (el k).2.2.1) (fun k => (el k).2.2.2.1) (fun k => (el k).2.2.2.2.1) (fun k => (el k).2.2.2.2.2.1) (fun k => (el k).2.2.2.2.2.2)
      (by omega) hm hdue hstop (fun k hk => rfl) J Jx W hJ (fun b' o' hb => Nat.lt_of_lt_of_le hb.1 hW.size) hY (hcell hB1) (hcell hB2) (hcell hbb) ⟨hlt hB1, h1⟩ ⟨hlt hB2, h2⟩ ⟨hlt hbb, h3⟩ (fun k hk j hj => ⟨hlt (hc k hk 0 _ rfl), h4⟩)
      (fun k hk => hcell (hc k hk 0 _ rfl)) (fun k hk => hcell (hc k hk 1 _ rfl)) (fun k hk => hcell (hc k hk 2 _ rfl)) (fun k hk => hcell (hc k hk 3 _ rfl)) (fun k hk => hcell (hc k hk 4 _ rfl)) h0
  have hKB0 : OwnFrom w.heap.size (fun (_ : List E5) W => KB w.heap.size ob w W) := fun s X Y row hs hg hr => hs.grown hs.2.1 hg (fun r e => .inl (hr r e).1)
  refine wpIn_rangeFunc_ownH (F := Fence.wide) (n := 3) (α := E5) rfl (by decide) (gf := 33) (lb := #[.pointer (some ⟨B1, 0, none⟩), .pointer (some ⟨B2, 0, none⟩)]) rfl trivial (enters_of Try.func33 (by kernel_rfl) rfl)
    hseq (fun h k => h.trans k) (fun W l o o' hl ho hcc hw => ⟨by simp, fun b' o'' hb => World.cell?_of_block (World.putObj_heap_other (by show b' ≠ l; have := hb.1; omega))⟩) (Below.refl _ _) (fun _ => rfl)
    (fun pre W => (∃ v, Boxed W ob 34 v ∧ W.ownsRow w.heap.size 31 5 v pre.length (flat5 pre) ∧ (v = .slice none 0 0 ↔ pre = [])) ∧ KB w.heap.size ob w W)
    (fun _ _ _ => False)
    (OwnFrom.and (Own.from (holdsRow_own w.heap.size ob 34 31 5 (fun pre => pre.length) flat5 (fun pre v => v = .slice none 0 0 ↔ pre = [])) _) hKB0)
    (fun _ _ _ _ _ hs _ _ => hs)
    ⟨⟨_, hob, World.ownsRow_nil _ _ _ _, by simp⟩, KB.refl _ _ _⟩
    (fun x a' W => ∃ Bx, w.heap.size ≤ Bx ∧ Boxed5 W Bx x ∧ a' = { tmps := #[u 0, u 1, u 2, u 3, u 4, u 5, .pointer (some ⟨ob, 0, none⟩), .pointer (some ⟨Bx, 0, none⟩), u 8, u 9, u 10, u 11, u 12, u 13, u 14, u 15, u 16, u 17, u 18, u 19, u 20, u 21, .func (.func 33) #[] #[.pointer (some ⟨B1, 0, none⟩), .pointer (some ⟨B2, 0, none⟩)], .agg #[.int .i64 x.1, .int .i64 x.2.1, .int .i64 x.2.2.1, .string x.2.2.2.1, .slice x.2.2.2.2.1 x.2.2.2.2.2.1 x.2.2.2.2.2.2], u 24, u 25, u 26, u 27, u 28, u 29, u 30, u 31, u 32, u 33, u 34, u 35, u 36, u 37, u 38, u 39, u 40, u 41, u 42, u 43], defers := [] })
    (fun x a' _ X Y row hs hg hr => by
      obtain ⟨Bx, k1, k2, k3⟩ := hs
      exact ⟨Bx, k1, k2.kept hg (fun e => by obtain ⟨_, o, ho, hcc⟩ := hr Bx e.symm; rw [show X.heap[Bx]? = _ from k2] at ho; cases ho; cases hcc), k3⟩) ?assign ?body ?done ?stop
  case assign =>
    rintro l pre x W K ⟨⟨v, hv, hrow, hnil⟩, hKB⟩ hK
    gi_wp2
    refine hK _ _ ((KeepsOthers.alloc W _).from _) (hKK ((KB.refl _ _ W).grown hKB.2.1 (World.grownBy_alloc W _ none) (fun r e => by cases e))) ⟨⟨v, hv.alloc _, hrow.alloc _, hnil⟩, hKB.grown hKB.2.1 (World.grownBy_alloc W _ none) (fun r e => by cases e)⟩ ⟨W.heap.size, hKB.2.1, World.alloc_heap_new W _, rfl⟩
  case body =>
    rintro l pre x a' W hl ⟨r, hr⟩ ⟨⟨v, hv, hrow, hnil⟩, hKB⟩ ⟨Bx, hBx, hbx, rfl⟩ hlen'
    have hc := hv.cell
    have f0 : W.cell? ⟨Bx, 0, none⟩ = some (.int .i64 x.1) := hbx.cell 0
    have f1 : W.cell? ⟨Bx, 1, none⟩ = some (.int .i64 x.2.1) := hbx.cell 1
    have f2 : W.cell? ⟨Bx, 2, none⟩ = some (.int .i64 x.2.2.1) := hbx.cell 2
    have f3 : W.cell? ⟨Bx, 3, none⟩ = some (.string x.2.2.2.1) := hbx.cell 3
    have f4 : W.cell? ⟨Bx, 4, none⟩ = some (.slice x.2.2.2.2.1 x.2.2.2.2.2.1 x.2.2.2.2.2.2) := hbx.cell 4
    gi_wp2_with (gi_at_builtin; refine wpListIn_append_own _ rfl _ _ 34 rfl w.heap.size 31 i0 (.agg #[.int .i64 0, .int .i64 0, .int .i64 0, .string ⟨#[]⟩, .slice none 0 0]) 5 64 Try.underlying34 hi hz0 hz1 hz2 rfl (by decide) _ _ _ rfl (hrow.alloc _) ⟨W.heap.size, 0, none⟩ 1 1 (cells5 x) rfl rfl (cell_new5 W x 31) (by simp [cells5, Value.oneCell']) (by unfold maxLen; omega) (by omega) (by have := hKB.2.1; simp; omega) ?_; intro v' w1 hown' hgrow _; obtain ⟨g', cap', rfl⟩ := ownsRow_succ hown'; obtain ⟨hv1, hv2, hr2, hk2, hb2, hb3⟩ := appended2 hv hrow hKB.2.1 hKB hown' hgrow; have hc1 := hv1.cell; have hf1 := hv1.frozen)
    exact ⟨hk2.from _, hKK hb3, ⟨_, hv2, by rw [flat5_snoc]; simpa using hr2, by simp⟩, hb2⟩
  case done =>
    rintro D ys W hD rfl ⟨⟨v, hv, hrow, hnil⟩, hKB⟩ hK
    rw [upto_length] at hrow
    exact hdone D W v hD hv hrow hKB hK
  case stop =>
    rintro D c pre W _ _ h _
    exact h.elim

def tailC : Code → Option (Code × Code × Code)
  | .seq _ (.seq _ (.seq r6 (.seq x c))) => some (r6, x, c)
  | _ => none

/-- The world where the loop begins. -/
def wLoop (w : World) (bb bo : Nat) (t : Int) : World := ((w.alloc (.cells #[.slice none 0 0] 34)).alloc (.cells #[.pointer (some ⟨bb, bo, none⟩)] 24)).alloc (.cells #[.int .i64 t] 2)

set_option maxRecDepth 100000 in
set_option maxHeartbeats 4000000 in
theorem lead12 (u : Nat → Value) (bb bo b off len cap m : Nat) (A0 : Option Addr) (hA0 : 0 < len → A0 = some ⟨b, off, none⟩) (t : Int) (el : Nat → E5) (w : World) (Q : Exit → Act → World → Prop)
    (hlen : len * 64 ≤ 140737488355328) (hm : m ≤ len) (hdue : ∀ k, k < m → (el k).1 ≤ t) (hstop : m < len → t < (el m).1)
    (hbb : w.cell? ⟨bb, bo, none⟩ = some (.slice A0 len cap)) (hbl : bb < w.heap.size) (hb : b < w.heap.size)
    (hc : ∀ k, k < len → ∀ j v, (cells5 (el k))[j]? = some v → w.cell? ⟨b, off + k * 5 + j, none⟩ = some v)
    (r6 x c : Code) (h : tailC bodyOf12 = some (r6, x, c))
    (hK : ∀ (D : Nat) (W : World) (v : Value), w.heap.size + 3 ≤ D → Boxed W w.heap.size 34 v → W.ownsRow (w.heap.size + 3) 31 5 v m (flat5 (upto el m)) → KB (w.heap.size + 3) w.heap.size (wLoop w bb bo t) W → W.heap[D]? = some (.deferred (some [])) → c.wpIn Fence.wide 3 Try.prog Q { tmps := #[.pointer (some ⟨bb, bo, none⟩), .int .i64 t, u 2, u 3, u 4, u 5, .pointer (some ⟨w.heap.size, 0, none⟩), u 7, u 8, u 9, u 10, u 11, u 12, u 13, u 14, u 15, u 16, u 17, u 18, u 19, .pointer (some ⟨bb, bo, none⟩), .int .i64 t, .func (.func 33) #[] #[.pointer (some ⟨w.heap.size + 1, 0, none⟩), .pointer (some ⟨w.heap.size + 2, 0, none⟩)], u 23, u 24, u 25, u 26, u 27, u 28, u 29, u 30, u 31, u 32, u 33, u 34, u 35, u 36, u 37, u 38, u 39, u 40, u 41, u 42, u 43], defers := [{ target := .collected D, args := #[] }] } W) :
    (Code.seq r6 (Code.seq x c)).wpIn Fence.wide 3 Try.prog Q { tmps := #[.pointer (some ⟨bb, bo, none⟩), .int .i64 t, u 2, u 3, u 4, u 5, u 6, u 7, u 8, u 9, u 10, u 11, u 12, u 13, u 14, u 15, u 16, u 17, u 18, u 19, u 20, u 21, u 22, u 23, u 24, u 25, u 26, u 27, u 28, u 29, u 30, u 31, u 32, u 33, u 34, u 35, u 36, u 37, u 38, u 39, u 40, u 41, u 42, u 43], defers := [] } w := by
  have h' : tailC bodyOf12 = some (_, _, _) := rfl
  rw [h'] at h
  injection h with h
  injection h with e1 h
  injection h with e2 e3
  clear h'
  subst e1 e2
  generalize hcc : c = c' at hK ⊢
  clear e3 hcc
  have hds : (wLoop w bb bo t).heap.size = w.heap.size + 3 := by unfold wLoop; simp [World.size_alloc]
  gi_wp2
  refine ⟨trivial, (callsIn_wide.2 (due_in _ _ _)).mono ?_⟩
  rintro e w' ⟨rfl, rfl⟩
  gi_wp2
  rename_i K hKK
  have hw1 : (w.alloc (.cells #[.slice none 0 0] 34)).heap.size = w.heap.size + 1 := World.size_alloc _ _
  have hw2 : ((w.alloc (.cells #[.slice none 0 0] 34)).alloc (.cells #[.pointer (some ⟨bb, bo, none⟩)] 24)).heap.size = w.heap.size + 2 := by rw [World.size_alloc, hw1]
  have hcell : ∀ {b' o' : Nat} {v : Value}, b' < w.heap.size → w.cell? ⟨b', o', none⟩ = some v → (wLoop w bb bo t).cell? ⟨b', o', none⟩ = some v := fun {b' o' v} hb' hv => by
    unfold wLoop
    rw [World.cell?_alloc_past _ _ _ (by rw [hw2]; omega), World.cell?_alloc_past _ _ _ (by rw [hw1]; omega), World.cell?_alloc_past _ _ _ hb']
    exact hv
  have bO : Boxed (wLoop w bb bo t) w.heap.size 34 (.slice none 0 0) := ((Boxed.new w 34 (.slice none 0 0)).alloc _).alloc _
  have bP : Boxed (wLoop w bb bo t) (w.heap.size + 1) 24 (.pointer (some ⟨bb, bo, none⟩)) := by
    have := (Boxed.new (w.alloc (.cells #[.slice none 0 0] 34)) 24 (.pointer (some ⟨bb, bo, none⟩))).alloc (.cells #[.int .i64 t] 2)
    rw [hw1] at this
    exact this
  have bT : Boxed (wLoop w bb bo t) (w.heap.size + 2) 2 (.int .i64 t) := by
    have := Boxed.new ((w.alloc (.cells #[.slice none 0 0] 34)).alloc (.cells #[.pointer (some ⟨bb, bo, none⟩)] 24)) 2 (.int .i64 t)
    rw [hw2] at this
    exact this
  refine loop12 (fun i => match i with | 0 => .pointer (some ⟨bb, bo, none⟩) | 1 => .int .i64 t | 20 => .pointer (some ⟨bb, bo, none⟩) | 21 => .int .i64 t | i => u i) w.heap.size (w.heap.size + 1) (w.heap.size + 2) bb bo b off len cap m A0 hA0 t el (wLoop w bb bo t) (Exit.inBlock 1 (Exit.then K Q)) hlen hm hdue hstop bO bP.cell bT.cell (hcell hbl hbb) (by omega) (by omega) (by omega) (by omega) (fun k hk j v hj => hcell hb (hc k hk j v hj)) (fun D W v hD hv hrow hKB hKd => ?_) _ _ _ _ rfl
  rw [hds] at hD hrow hKB
  exact hKK _ _ (hK D W v hD hv hrow hKB hKd)
end Go.Pv.L06
