/- Layer 06: slices.Insert of events, walked by hand: its four roads. (The roads and the way to walk them are those of the kit's text on slices.Insert at one-cell elements, turned to elements of five cells.) -/
import Derived.Test.YtfnhnkaikpgnbaaProg
import Derived.Shelf.RegionOpenPlain
import Derived.WalkKit
import Derived.Lib.Walk
import Derived.Lib.SliceRun
import Derived.Lib.JoinLaws
import Derived.Lib.AppendZeros
import Derived.Lib.AppendZerosOnto
import Derived.Lib.Overlaps
import Derived.Laws.Externs
import Derived.Laws.IdiomCopy
import Derived.Laws.NewBlocks
import Derived.Test.YtfnhnkaikpgnbaaPv8
namespace Go.Pv.L06
open Go Go.Proofs Go.Shelf Go.RowKit Go.Lib
set_option linter.all false
set_option linter.constructorNameAsVariable false
set_option linter.unusedSectionVars false
set_option linter.unusedVariables false
set_option linter.unusedSimpArgs false

theorem wp_copy_runI {P : Program} (w : World) {o : Oper} {a : Act} {K : Act → World → Prop} {Q : Exit → Act → World → Prop} (d s : Operand) (t t' : TypeId)
    (ho : o.op = .call { callee := .builtin .copy, args := #[d, s], argTypes := #[t, t'] }) (v u : Value) (hd : a.eval d = v) (hs : a.eval s = u) {v' : Value} {w' : World}
    (hr : (Builtin.copy_ #[t, t'] o.type #[v, u]).run P w = .ok v' w') (h : K (a.put o.dst v') w') : o.wp P a w K Q := by
  unfold Oper.wp execOp
  simp only [ho, resolve, invoke, builtin, Sem.run_bind, Sem.run_pure, Result.andThen_ok, List.map_toArray, List.map_cons, List.map_nil, hd, hs, hr]
  exact h
theorem wpList_copy_runI {P : Program} (w : World) {ops : Array Oper} {rest : List Oper} {o : Oper} {a : Act} {Q : Exit → Act → World → Prop} (hgd : o.guard = none) (d s : Operand) (t t' : TypeId)
    (ho : o.op = .call { callee := .builtin .copy, args := #[d, s], argTypes := #[t, t'] }) (v u : Value) (hd : a.eval d = v) (hs : a.eval s = u) {v' : Value} {w' : World}
    (hr : (Builtin.copy_ #[t, t'] o.type #[v, u]).run P w = .ok v' w') (h : wpList P ops Q rest (a.put o.dst v') w') : wpList P ops Q (o :: rest) a w :=
  wpList_plain hgd fun _ hK => wp_copy_runI w d s t t' ho v u hd hs hr (hK _ _ h)
theorem step_copy_runI {P : Program} {ops : Array Oper} {o : Oper} {a : Act} {w : World} {K : Act → World → Prop} {Q : Exit → Act → World → Prop} {E : Prop}
    (hg : o.guard = none) (d x : Operand) (dT sT : TypeId) (hop : o.op = Op.call { callee := Callee.builtin Builtin.copy, args := #[d, x], argTypes := #[dT, sT] })
    (v u : Value) (hd : a.eval d = v) (hx : a.eval x = u) {v' : Value} {w' : World} (hr : (Builtin.copy_ #[dT, sT] o.type #[v, u]).run P w = .ok v' w') (hK : K (a.put o.dst v') w') :
    if Region.wanted o (yielded ops a.tmps) = true then Oper.wp P o a w K Q else E := by
  have hw : Region.wanted o (yielded ops a.tmps) = true := by simp [Region.wanted, hg]
  rw [if_pos hw]
  unfold Oper.wp
  simp [execOp, hop, resolve, invoke, builtin, hd, hx, hr, Result.andThen]
  exact hK

theorem isSome_setCells (b : Nat) (vs : List Value) (o : Nat) (w : World) (h : ∀ j, j < vs.length → (w.cell? ⟨b, o + j, none⟩).isSome = true) (k : Nat) (hk : (w.cell? ⟨b, k, none⟩).isSome = true) : ((w.setCells b o vs).cell? ⟨b, k, none⟩).isSome = true := by
  by_cases hin : o ≤ k ∧ k < o + vs.length
  · have := World.cell?_setCells_in b vs o w h (k - o) (by omega)
    rw [show o + (k - o) = k by omega] at this
    rw [this]; rfl
  · rw [World.cell?_setCells_out b vs o w ⟨b, k, none⟩ (fun _ _ => by show k < o ∨ o + vs.length ≤ k; omega)]
    exact hk

/-- .. of elements of so many cells. -/
theorem run_copy_cellsN {P : Program} (w : World) (dT sT ty elem : TypeId) (b o dLen dCap : Nat) (a : Addr) (sLen sCap sz k : Nat) (cs : List Value)
    (hu : P.underlying dT = some (.slice elem)) (hs : (P.info? elem).map (·.size) = some sz) (hk : Nat.min sLen dLen = k) (hn : cs.length = k * sz)
    (hsrc : ∀ j v, cs[j]? = some v → w.cell? (a.add j) = some v) (hc : ∀ j, j < cs.length → (w.cell? ⟨b, o + j, none⟩).isSome = true) (hf : ∀ j, j < cs.length → w.frozen? ⟨b, o + j, none⟩ = false) (h1 : ∀ v ∈ cs, v.oneCell' = true) :
    (Builtin.copy_ #[dT, sT] ty #[.slice (some ⟨b, o, none⟩) dLen dCap, .slice (some a) sLen sCap]).run P w = .ok (goInt k) (w.setCells b o cs) := by
  have hl := run_loadCells_list (P := P) w a cs hsrc
  have hst := run_storeCells_cells (P := P) b o cs 0 w (by simpa using hc) (by simpa using hf) h1
  cases hq : P.info? elem with
  | none => simp [hq] at hs
  | some i =>
    have hi : i.size = sz := by simpa [hq] using hs
    simp [Builtin.copy_, Go.run_underlying hu, Builtin.lenOf, Builtin.firstCells, sizeOf, typeInfo, hq, hi, hk, ← hn, hl, hst]

/-- Two slices in two blocks, the second of which is plain memory. -/
theorem run_overlaps_own {P : Program} (w : World) (tS tR e : TypeId) (ht : P.underlying tS = some (.slice e)) (size : Nat) (hz : ∀ w, (Go.sizeOf e).run P w = .ok size w)
    (a b : Addr) (la ca lb cb : Nat) (hne : a.block ≠ b.block) (tA tB : TypeId) (kA kB : Nat)
    (hsa : w.shape? a.block = some (tA, kA)) (hsb : w.shape? b.block = some (tB, kB)) (hkA : kA ≠ 0) (hkB : kB ≠ 0)
    (hfb : w.frozen? b = false) (hfe : w.frozen? { block := b.block, off := kB } = false) :
    (Extern.SlicesOverlaps.overlaps #[tS, tS] #[tR] #[.slice (some a) la ca, .slice (some b) lb cb]).run P w = .ok (.bool false) w := by
  have hnb : (a.block != b.block) = true := by simpa using hne
  have hnb' : (a.block == b.block) = false := by simpa using hne
  change Sem.run P (α := Value) (do
    let some t := (#[tS, tS] : Array TypeId)[0]? | stuck "slices.overlaps: no parameter types"
    let .slice elem ← underlying t | stuck "slices.overlaps: slice type expected"
    let size ← sizeOf elem
    match (some a : Option Addr), (some b : Option Addr) with
    | some a, some b =>
      if la = 0 ∨ lb = 0 ∨ size = 0 then pure (Value.bool false)
      else if a.block != b.block && (← frozen a) && (← frozen b) then unsupported .addressObserved
      else do
        if a.block != b.block then do
          noView a; noView b
          if ← mayBeOne a b then return Value.bool ((← choose (.extern "sameAddr.stringBytes" 2)) == 1)
        pure (Value.bool (a.block == b.block && a.off < b.off + lb * size && b.off < a.off + la * size))
    | _, _ => pure (Value.bool false)) w = _
  by_cases h0 : la = 0 ∨ lb = 0 ∨ size = 0
  · simp [Go.run_underlying ht, hz, h0]
  · cases kB with
    | zero => exact absurd rfl hkB
    | succ kB =>
      cases kA with
      | zero => exact absurd rfl hkA
      | succ kA =>
      cases hfa : w.frozen? a <;> cases hfk : w.frozen? { block := a.block, off := kA + 1 } <;>
        simp [Go.run_underlying ht, hz, h0, hnb, hnb', frozen, noView, viewAt, mayBeOne, stringish, shape, Sem.run, hsa, hsb, hfa, hfk, hfb, hfe]

theorem size31 : (Try.prog.info? 31).map (·.size) = some 5 := by kernel_rfl
theorem parts31 : (Try.prog.info? 31).map (fun i => (i.zero, i.size, i.bytes)) = some (some (.agg #[.int .i64 0, .int .i64 0, .int .i64 0, .string ⟨#[]⟩, .slice none 0 0]), 5, 64) := by kernel_rfl

set_option maxHeartbeats 4000000 in
set_option maxRecDepth 100000 in
theorem ins_shift (b off n c i vb voff m vc : Nat) (cs vs : List Value) (w : World) (hi : i < n) (hm : 0 < m) (hroom : n + m ≤ c) (hc63 : n + m ≤ 9223372036854775807) (hvb : vb ≠ b)
    (hcl : cs.length = n * 5) (hvl : vs.length = m * 5)
    (hcs : ∀ j v, cs[j]? = some v → w.cell? ⟨b, off + j, none⟩ = some v) (hsp : ∀ j, j < (n + m) * 5 → (w.cell? ⟨b, off + j, none⟩).isSome = true) (hfz : ∀ j, j < (n + m) * 5 → w.frozen? ⟨b, off + j, none⟩ = false)
    (hvs : ∀ j v, vs[j]? = some v → w.cell? ⟨vb, voff + j, none⟩ = some v) (h1c : ∀ v ∈ cs, v.oneCell' = true) (h1v : ∀ v ∈ vs, v.oneCell' = true)
    (tA tB : TypeId) (kA kB : Nat) (hsa : w.shape? vb = some (tA, kA)) (hsb : w.shape? b = some (tB, kB)) (hkA : kA ≠ 0) (hkB : kB ≠ 0) (hfe : w.frozen? ⟨b, kB, none⟩ = false) :
    Calls Try.prog 29 #[.slice (some ⟨b, off, none⟩) n c, .int .i64 i, .slice (some ⟨vb, voff, none⟩) m vc] w fun e w' =>
      e = .returned (.slice (some ⟨b, off, none⟩) (n + m) c) ∧ w' = (w.drew.setCells b (off + (i + m) * 5) (cs.drop (i * 5))).setCells b (off + i * 5) vs := by
  have hz1 : ¬ ((m : Int) = 0) := by omega
  have mixed : Try.prog.follows .mixedOrders = true := by kernel_rfl
  have hz2 : ¬ ((i : Int) = (n : Int)) := by omega
  have hov : ∀ lb cb, (callFunc 39 #[.slice (some ⟨vb, voff, none⟩) m vc, .slice (some ⟨b, off + (i + m) * 5, none⟩) lb cb]).run Try.prog w = .ok (.value (.bool false)) w := fun lb cb => by
    rw [run_callFunc_extern Try.func39 (by kernel_rfl) (by kernel_rfl) (by kernel_rfl) (e := Extern.SlicesOverlaps.overlaps #[34, 34] #[4]) (by kernel_rfl),
      run_overlaps_own w 34 4 31 Try.underlying34 5 Try.sizeOf31 ⟨vb, voff, none⟩ ⟨b, off + (i + m) * 5, none⟩ m vc lb cb hvb tA tB kA kB hsa hsb hkA hkB (hfz _ (by omega)) hfe]
    rfl
  have hdl : (cs.drop (i * 5)).length = (n - i) * 5 := by rw [List.length_drop, hcl]; omega
  have hw1 : IntKind.i64.wrap ((i : Int) + (m : Int)) = (i : Int) + (m : Int) := by rw [IntKind.wrap_i64]; omega
  have hb1 : (0 : Int) ≤ (i : Int) + (m : Int) := by omega
  have hin : i ≤ n := by omega
  have htn : ((i : Int) + (m : Int)).toNat = i + m := by omega
  have hb2 : ¬ (c = i + m) := by omega
  have hb3 : (i : Int) ≤ (n : Int) + (m : Int) := by omega
  have hb4 : ¬ (c = i) := by omega
  have hcp1 : ∀ ty dc sc, (Builtin.copy_ #[34, 34] ty #[.slice (some ⟨b, off + (i + m) * 5, none⟩) (n + m - (i + m)) dc, .slice (some ⟨b, off + i * 5, none⟩) (n + m - i) sc]).run Try.prog w.drew = .ok (goInt ((n - i : Nat) : Int)) (w.drew.setCells b (off + (i + m) * 5) (cs.drop (i * 5))) := fun ty dc sc =>
    run_copy_cellsN w.drew _ _ ty 31 b (off + (i + m) * 5) (n + m - (i + m)) dc ⟨b, off + i * 5, none⟩ (n + m - i) sc 5 (n - i) (cs.drop (i * 5)) Try.underlying34 size31 (by simp only [Nat.min_def]; split <;> omega) hdl
      (fun j v hj => by rw [Addr.add_lit, Nat.add_assoc]; exact hcs (i * 5 + j) v (by rwa [List.getElem?_drop] at hj))
      (fun j hj => by rw [Nat.add_assoc]; exact hsp _ (by omega)) (fun j hj => by rw [Nat.add_assoc]; exact hfz _ (by omega)) (fun v hv => h1c v (List.mem_of_mem_drop hv))
  obtain ⟨W1, hW1⟩ : ∃ W1, W1 = w.drew.setCells b (off + (i + m) * 5) (cs.drop (i * 5)) := ⟨_, rfl⟩
  have hsp1 : ∀ k, k < (n + m) * 5 → (W1.cell? ⟨b, off + k, none⟩).isSome = true := fun k hk => by
    rw [hW1]
    exact isSome_setCells b _ _ _ (fun j hj => by rw [Nat.add_assoc]; exact hsp _ (by omega)) _ (hsp k hk)
  have hcp2 : ∀ (W : World), (∀ x, W.cell? x = W1.cell? x) → (∀ x, W.frozen? x = W1.frozen? x) → ∀ ty dc, (Builtin.copy_ #[34, 34] ty #[.slice (some ⟨b, off + i * 5, none⟩) (n + m - i) dc, .slice (some ⟨vb, voff, none⟩) m vc]).run Try.prog W = .ok (goInt m) (W.setCells b (off + i * 5) vs) := fun W hWc hWf ty dc =>
    run_copy_cellsN W _ _ ty 31 b (off + i * 5) (n + m - i) dc ⟨vb, voff, none⟩ m vc 5 m vs Try.underlying34 size31 (by simp only [Nat.min_def]; split <;> omega) hvl
      (fun j v hj => by
        rw [Addr.add_lit, hWc, hW1, World.cell?_setCells_out b _ _ _ _ (fun h _ => absurd h hvb)]
        exact hvs j v hj)
      (fun j hj => by rw [hWc, Nat.add_assoc]; exact hsp1 _ (by omega)) (fun j hj => by rw [hWf, hW1, World.frozen?_setCells, Nat.add_assoc]; exact hfz _ (by omega)) h1v
  rw [← hW1] at hcp1
  go_enter Try.func29, Try.ntmps29
  go_wp2_with (simp only [hov])
  go_region_law_o (refine step_copy_runI rfl _ _ 34 34 rfl _ _ (by simp [Act.eval, Act.put]) (by simp [Act.eval, Act.put]) (hcp1 _ _ _) ?_)
  go_wp2_with (at_builtin; refine wpList_copy_runI _ rfl _ _ 34 34 rfl _ _ rfl rfl (hcp2 _ (fun _ => rfl) (fun _ => rfl) _ _) ?_)
  go_ret
  first | exact ⟨rfl, rfl⟩ | exact ⟨rfl, by rw [hW1]⟩

noncomputable def C0 : Cfg := { P := Try.prog, ex := 999999, gl := [], cmp := [62], cmpOk := by kernel_rfl }
theorem load_now {w w' : World} (hh : w'.heap = w.heap) (a : Addr) (cs : List Value) (h : ∀ j v, cs[j]? = some v → w.cell? (a.add j) = some v) : (loadCells a cs.length).run Try.prog w' = .ok cs.toArray w' :=
  run_loadCells_list w' a cs fun j v hj => by
    have := h j v hj
    simp only [World.cell?, hh] at this ⊢
    exact this
theorem app_room (b off n c vb voff m vc : Nat) (vs : List Value) (w : World) (hroom : n + m ≤ c)
    (hvl : vs.length = m * 5) (hsp : ∀ j, j < m * 5 → (w.cell? ⟨b, off + n * 5 + j, none⟩).isSome = true) (hfz : ∀ j, j < m * 5 → w.frozen? ⟨b, off + n * 5 + j, none⟩ = false)
    (hvs : ∀ j v, vs[j]? = some v → w.cell? ⟨vb, voff + j, none⟩ = some v) (h1v : ∀ v ∈ vs, v.oneCell' = true) (ty : TypeId) :
    (Builtin.append_ #[34, 34] ty #[.slice (some ⟨b, off, none⟩) n c, .slice (some ⟨vb, voff, none⟩) m vc]).run Try.prog w = .ok (.slice (some ⟨b, off, none⟩) (n + m) c) (w.setCells b (off + n * 5) vs) := by
  obtain ⟨i0, hi0, hz0, hzs, hzb⟩ := info_parts parts31
  have hrun := (run_append (C := C0) (w := w) (t := 34) (tx := 34) (te := 31) (ty := ty) Try.underlying34 Try.underlying34 (.inl ⟨_, rfl⟩) hi0 hz0 (base := some ⟨b, off, none⟩) (sLen := n) (sCap := c) (n := m) (vx := .slice (some ⟨vb, voff, none⟩) m vc) (news := vs.toArray) rfl
    (fun w' hh => by
      rw [hzs]
      show (loadCells ⟨vb, voff, none⟩ (m * 5)).run Try.prog w' = _
      rw [← hvl]
      exact load_now hh _ _ fun j v hj => by rw [Addr.add_lit]; exact hvs j v hj)).1 hroom
  rw [hzs] at hrun
  dsimp only at hrun
  rw [Addr.add_lit] at hrun
  have hst := run_storeCells_cells (P := Try.prog) b (off + n * 5) vs 0 w (by rw [hvl]; simpa using hsp) (by rw [hvl]; simpa using hfz) h1v
  refine Eq.trans hrun ?_
  show ((storeCells ⟨b, off + n * 5, none⟩ vs >>= fun _ => (pure (Value.slice (some ⟨b, off, none⟩) (n + m) c) : Sem Value)).run Try.prog w) = _
  rw [Sem.run_bind, hst]
  rfl

theorem app_grow (base : Option Addr) (n c vb voff m vc : Nat) (cs vs : List Value) (w : World) (hm : 0 < m) (hroom : c < n + m) (hbig : (n + m) * 64 ≤ 140737488355328)
    (hcl : cs.length = n * 5) (hvl : vs.length = m * 5) (hnil : base = none → n = 0)
    (hcs : ∀ a, base = some a → ∀ j v, cs[j]? = some v → w.cell? (a.add j) = some v)
    (hvs : ∀ j v, vs[j]? = some v → w.cell? ⟨vb, voff + j, none⟩ = some v) (ty : TypeId) :
    (Builtin.append_ #[34, 34] ty #[.slice base n c, .slice (some ⟨vb, voff, none⟩) m vc]).run Try.prog w = .ok (.slice (some ⟨w.heap.size, 0, none⟩) (n + m) (grownCap w (n + m) c 31))
      (w.drew.alloc (.cells ((cs ++ vs).toArray ++ Builtin.zeroCells #[.int .i64 0, .int .i64 0, .int .i64 0, .string ⟨#[]⟩, .slice none 0 0] (grownCap w (n + m) c 31 - (n + m))) 31)) := by
  obtain ⟨i0, hi0, hz0, hzs, hzb⟩ := info_parts parts31
  have hrun := (run_append (C := C0) (w := w) (t := 34) (tx := 34) (te := 31) (ty := ty) Try.underlying34 Try.underlying34 (.inl ⟨_, rfl⟩) hi0 hz0 (base := base) (sLen := n) (sCap := c) (n := m) (vx := .slice (some ⟨vb, voff, none⟩) m vc) (news := vs.toArray) rfl
    (fun w' hh => by
      rw [hzs]
      show (loadCells ⟨vb, voff, none⟩ (m * 5)).run Try.prog w' = _
      rw [← hvl]
      exact load_now hh _ _ fun j v hj => by rw [Addr.add_lit]; exact hvs j v hj)).2 (by omega) (by rw [hzb]; exact growslice_fits hroom hbig) (by rw [hzb]; decide) cs.toArray (fun w' hh => by
      rw [hzs]
      cases base with
      | none =>
        have h0 := hnil rfl
        subst h0
        have : cs = [] := List.eq_nil_of_length_eq_zero (by omega)
        subst this
        rfl
      | some a =>
        show (loadCells a (n * 5)).run Try.prog w' = _
        rw [← hcl]
        exact load_now hh _ _ (hcs a rfl))
  refine Eq.trans hrun ?_
  simp only [Value.cells, List.append_toArray]

set_option maxHeartbeats 4000000 in
set_option maxRecDepth 100000 in
theorem ins_end_room (b off n c vb voff m vc : Nat) (vs : List Value) (w : World) (hm : 0 < m) (hroom : n + m ≤ c) (hc63 : n + m ≤ 9223372036854775807)
    (hvl : vs.length = m * 5) (hsp : ∀ j, j < m * 5 → (w.cell? ⟨b, off + n * 5 + j, none⟩).isSome = true) (hfz : ∀ j, j < m * 5 → w.frozen? ⟨b, off + n * 5 + j, none⟩ = false)
    (hvs : ∀ j v, vs[j]? = some v → w.cell? ⟨vb, voff + j, none⟩ = some v) (h1v : ∀ v ∈ vs, v.oneCell' = true) :
    Calls Try.prog 29 #[.slice (some ⟨b, off, none⟩) n c, .int .i64 n, .slice (some ⟨vb, voff, none⟩) m vc] w fun e w' =>
      e = .returned (.slice (some ⟨b, off, none⟩) (n + m) c) ∧ w' = w.setCells b (off + n * 5) vs := by
  have hz1 : ¬ ((m : Int) = 0) := by omega
  have hrun := app_room b off n c vb voff m vc vs w hroom hvl hsp hfz hvs h1v
  go_enter Try.func29, Try.ntmps29
  go_wp2_with (at_builtin; refine Lib.wpList_append_run _ rfl _ _ _ _ rfl _ _ rfl rfl _ _ (hrun _) ?_)
  go_ret
  exact ⟨rfl, rfl⟩

set_option maxHeartbeats 4000000 in
set_option maxRecDepth 100000 in
theorem ins_end_grow (base : Option Addr) (n c vb voff m vc : Nat) (cs vs : List Value) (w : World) (hm : 0 < m) (hnc : n ≤ c) (hroom : c < n + m) (hbig : (n + m) * 64 ≤ 140737488355328)
    (hcl : cs.length = n * 5) (hvl : vs.length = m * 5) (hnil : base = none → n = 0 ∧ c = 0)
    (hcs : ∀ a, base = some a → ∀ j v, cs[j]? = some v → w.cell? (a.add j) = some v)
    (hvs : ∀ j v, vs[j]? = some v → w.cell? ⟨vb, voff + j, none⟩ = some v) :
    Calls Try.prog 29 #[.slice base n c, .int .i64 n, .slice (some ⟨vb, voff, none⟩) m vc] w fun e w' =>
      e = .returned (.slice (some ⟨w.heap.size, 0, none⟩) (n + m) (grownCap w (n + m) c 31)) ∧
      w' = w.drew.alloc (.cells ((cs ++ vs).toArray ++ Builtin.zeroCells #[.int .i64 0, .int .i64 0, .int .i64 0, .string ⟨#[]⟩, .slice none 0 0] (grownCap w (n + m) c 31 - (n + m))) 31) := by
  have hz1 : ¬ ((m : Int) = 0) := by omega
  have hrun := app_grow base n c vb voff m vc cs vs w hm hroom hbig hcl hvl (fun h => (hnil h).1) hcs hvs
  go_enter Try.func29, Try.ntmps29
  cases base with
  | none =>
    obtain ⟨h0, h00⟩ := hnil rfl
    subst h0
    subst h00
    go_wp2_with (at_builtin; refine Lib.wpList_append_run _ rfl _ _ _ _ rfl _ _ rfl rfl _ _ (hrun _) ?_)
    go_ret
    exact ⟨rfl, rfl⟩
  | some a =>
    obtain ⟨ab, ao, asp⟩ := a
    go_wp2_with (at_builtin; refine Lib.wpList_append_run _ rfl _ _ _ _ rfl _ _ rfl rfl _ _ (hrun _) ?_)
    all_goals (go_ret; exact ⟨rfl, rfl⟩)

abbrev zE : Array Value := #[.int .i64 0, .int .i64 0, .int .i64 0, .string ⟨#[]⟩, .slice none 0 0]
set_option maxHeartbeats 4000000 in
set_option maxRecDepth 100000 in
theorem ins_grow (b off n c i vb voff m vc : Nat) (cs vs : List Value) (w : World) (hi : i < n) (hm : 0 < m) (hnc : n ≤ c) (hroom : c < n + m) (hbig : (n + m) * 64 ≤ 140737488355328)
    (hcl : cs.length = n * 5) (hvl : vs.length = m * 5)
    (hcs : ∀ j v, cs[j]? = some v → w.cell? ⟨b, off + j, none⟩ = some v)
    (hvs : ∀ j v, vs[j]? = some v → w.cell? ⟨vb, voff + j, none⟩ = some v) (h1c : ∀ v ∈ cs, v.oneCell' = true) (h1v : ∀ v ∈ vs, v.oneCell' = true) :
    Calls Try.prog 29 #[.slice (some ⟨b, off, none⟩) n c, .int .i64 i, .slice (some ⟨vb, voff, none⟩) m vc] w fun e w' =>
      e = .returned (.slice (some ⟨w.heap.size, 0, none⟩) (n + m) (grownCap w (n + m) c 31)) ∧
      w' = (((w.alloc (.cells ((cs.take (i * 5)).toArray ++ Builtin.zeroCells zE (n + m - i) ++ Builtin.zeroCells zE (grownCap w (n + m) c 31 - (n + m))) 31)).drew.setCells w.heap.size (i * 5) vs).drew).setCells w.heap.size ((i + m) * 5) (cs.drop (i * 5)) := by
  obtain ⟨i0, hi0, hz0, hzs, hzb⟩ := info_parts parts31
  have mixed : Try.prog.follows .mixedOrders = true := by kernel_rfl
  have hz1 : ¬ ((m : Int) = 0) := by omega
  have hz2 : ¬ ((i : Int) = (n : Int)) := by omega
  have hz3 : (c : Int) < (n : Int) + (m : Int) := by omega
  have hbw : b < w.heap.size := block_lt_of_cell (hcs 0 _ (List.getElem?_eq_getElem (by omega)))
  have hvw : vb < w.heap.size := block_lt_of_cell (hvs 0 _ (List.getElem?_eq_getElem (by omega)))
  have hkk : (n : Int) + (m : Int) - (i : Int) = ((n + m - i : Nat) : Int) := by omega
  have hik : i + (n + m - i) = n + m := by omega
  have htl : (cs.take (i * 5)).length = i * 5 := by rw [List.length_take]; omega
  have hold : (Builtin.firstCells i0.size i (.slice (some ⟨b, off, none⟩) i c)).run Try.prog w.drew = .ok (cs.take (i * 5)).toArray w.drew := by
    rw [hzs]
    show (loadCells ⟨b, off, none⟩ (i * 5)).run Try.prog w.drew = _
    have := load_now (w := w) (w' := w.drew) rfl ⟨b, off, none⟩ (cs.take (i * 5)) (fun j v hj => by
      rw [Addr.add_lit]
      rw [List.getElem?_take] at hj
      split at hj
      · exact hcs j v hj
      · cases hj)
    rw [htl] at this
    exact this
  have hrz : ∀ ty, (Builtin.append_ #[34, 3] ty #[.slice (some ⟨b, off, none⟩) i c, .int .i64 ((n : Int) + (m : Int) - (i : Int))]).run Try.prog w =
      .ok (.slice (some ⟨w.heap.size, 0, none⟩) (n + m) (grownCap w (n + m) c 31)) (w.drew.alloc (.cells ((cs.take (i * 5)).toArray ++ Builtin.zeroCells zE (n + m - i) ++ Builtin.zeroCells zE (grownCap w (n + m) c 31 - (n + m))) 31)) := fun ty => by
    have h := Lib.run_append_grow_zeros w 34 3 ty 31 i0 _ .i64 .i64 Try.underlying34 Try.underlying3 hi0 hz0 (some ⟨b, off, none⟩) i c (cs.take (i * 5)) hold (n + m - i) (by omega) (by omega) (by omega) (by omega) (by rw [hzb]; omega) (by rw [hzb, hik]; exact growslice_fits hroom hbig)
    rw [hik] at h
    rw [hkk]
    exact h
  obtain ⟨G, hG⟩ : ∃ G, G = grownCap w (n + m) c 31 := ⟨_, rfl⟩
  obtain ⟨ROW, hROW⟩ : ∃ ROW : Array Value, ROW = (cs.take (i * 5)).toArray ++ Builtin.zeroCells zE (n + m - i) ++ Builtin.zeroCells zE (G - (n + m)) := ⟨_, rfl⟩
  rw [← hG] at hrz ⊢
  rw [← hROW] at hrz ⊢
  have hRl : (n + m) * 5 ≤ ROW.size := by
    rw [hROW]
    simp [Builtin.zeroCells, zE, htl]
    omega
  obtain ⟨W1, hW1⟩ : ∃ W1, W1 = w.drew.alloc (.cells ROW 31) := ⟨_, rfl⟩
  rw [← hW1] at hrz
  have hN : ∀ j, j < (n + m) * 5 → (W1.cell? ⟨w.heap.size, j, none⟩).isSome = true := fun j hj => by
    rw [hW1, World.cell?_alloc_at (w := w.drew) ROW _ w.heap.size j rfl, Array.getElem?_eq_getElem (by omega)]; rfl
  have hNf : ∀ j, W1.frozen? ⟨w.heap.size, j, none⟩ = false := fun j => by rw [hW1]; exact World.frozen?_alloc_at (w := w.drew) ROW _ w.heap.size j rfl
  have hOb : ∀ j v, w.cell? ⟨b, j, none⟩ = some v → W1.cell? ⟨b, j, none⟩ = some v := fun j v h => by rw [hW1, World.cell?_alloc_past (w := w.drew) _ b j hbw]; exact h
  have hOv : ∀ j v, w.cell? ⟨vb, j, none⟩ = some v → W1.cell? ⟨vb, j, none⟩ = some v := fun j v h => by rw [hW1, World.cell?_alloc_past (w := w.drew) _ vb j hvw]; exact h
  have hcpA : ∀ (W : World), (∀ x, W.cell? x = W1.cell? x) → (∀ x, W.frozen? x = W1.frozen? x) → ∀ ty dc, (Builtin.copy_ #[34, 34] ty #[.slice (some ⟨w.heap.size, i * 5, none⟩) (n + m - i) dc, .slice (some ⟨vb, voff, none⟩) m vc]).run Try.prog W = .ok (goInt m) (W.setCells w.heap.size (i * 5) vs) := fun W hWc hWf ty dc =>
    run_copy_cellsN W _ _ ty 31 w.heap.size (i * 5) (n + m - i) dc ⟨vb, voff, none⟩ m vc 5 m vs Try.underlying34 size31 (by simp only [Nat.min_def]; split <;> omega) hvl
      (fun j v hj => by rw [Addr.add_lit, hWc]; exact hOv _ v (hvs j v hj))
      (fun j hj => by rw [hWc]; exact hN _ (by omega)) (fun j hj => by rw [hWf]; exact hNf _) h1v
  have hGn : n + m ≤ G := by rw [hG]; exact grownCap_ge w _ _ _
  have hG63 : G ≤ 9223372036854775807 := by
    have := grownCap_le_maxLen w (n + m) c 31 (by unfold maxLen; omega)
    rw [← hG] at this
    unfold maxLen at this
    omega
  have hGi : ¬ (G = i) := by omega
  have hGim : ¬ (G = i + m) := by omega
  have hci : ¬ (c = i) := by omega
  have hbN : b ≠ w.heap.size := by omega
  have hdl : (cs.drop (i * 5)).length = (n - i) * 5 := by rw [List.length_drop, hcl]; omega
  have hcpB : ∀ (W : World), (∀ x, W.cell? x = (W1.setCells w.heap.size (i * 5) vs).cell? x) → (∀ x, W.frozen? x = (W1.setCells w.heap.size (i * 5) vs).frozen? x) → ∀ ty dc sc, (Builtin.copy_ #[34, 34] ty #[.slice (some ⟨w.heap.size, (i + m) * 5, none⟩) (n + m - (i + m)) dc, .slice (some ⟨b, off + i * 5, none⟩) (n - i) sc]).run Try.prog W = .ok (goInt ((n - i : Nat) : Int)) (W.setCells w.heap.size ((i + m) * 5) (cs.drop (i * 5))) := fun W hWc hWf ty dc sc =>
    run_copy_cellsN W _ _ ty 31 w.heap.size ((i + m) * 5) (n + m - (i + m)) dc ⟨b, off + i * 5, none⟩ (n - i) sc 5 (n - i) (cs.drop (i * 5)) Try.underlying34 size31 (by simp only [Nat.min_def]; split <;> omega) hdl
      (fun j v hj => by
        rw [Addr.add_lit, hWc, World.cell?_setCells_out _ _ _ _ _ (fun h _ => absurd h hbN), Nat.add_assoc]
        exact hOb _ v (hcs (i * 5 + j) v (by rwa [List.getElem?_drop] at hj)))
      (fun j hj => by rw [hWc]; exact isSome_setCells _ _ _ _ (fun t ht => hN _ (by omega)) _ (hN _ (by omega)))
      (fun j hj => by rw [hWf, World.frozen?_setCells]; exact hNf _) (fun v hv => h1c v (List.mem_of_mem_drop hv))
  subst hW1
  have hE1 : ∀ x, ((w.alloc (.cells ROW 31)).drew).cell? x = (w.drew.alloc (.cells ROW 31)).cell? x := fun x => rfl
  have hE2 : ∀ x, ((w.alloc (.cells ROW 31)).drew).frozen? x = (w.drew.alloc (.cells ROW 31)).frozen? x := fun x => rfl
  have hF1 : ∀ x, (((w.alloc (.cells ROW 31)).drew.setCells w.heap.size (i * 5) vs).drew).cell? x = ((w.drew.alloc (.cells ROW 31)).setCells w.heap.size (i * 5) vs).cell? x := fun x => rfl
  have hF2 : ∀ x, (((w.alloc (.cells ROW 31)).drew.setCells w.heap.size (i * 5) vs).drew).frozen? x = ((w.drew.alloc (.cells ROW 31)).setCells w.heap.size (i * 5) vs).frozen? x := fun x => rfl
  have hw1 : IntKind.i64.wrap ((i : Int) + (m : Int)) = (i : Int) + (m : Int) := by rw [IntKind.wrap_i64]; omega
  have hb1 : (0 : Int) ≤ (i : Int) + (m : Int) := by omega
  have hin : i ≤ n := by omega
  have htn : ((i : Int) + (m : Int)).toNat = i + m := by omega
  have hb3 : (i : Int) ≤ (n : Int) := by omega
  clear hkk hik hold hROW hG hRl
  go_enter Try.func29, Try.ntmps29
  go_wp2_with (first
    | (at_builtin; refine Lib.wpList_append_run _ rfl _ _ _ _ rfl _ _ rfl rfl _ _ (hrz _) ?_)
    | (at_builtin; refine wpList_copy_runI _ rfl _ _ 34 34 rfl _ _ rfl rfl (hcpA _ hE1 hE2 _ _) ?_)
    | (at_builtin; refine wpList_copy_runI _ rfl _ _ 34 34 rfl _ _ rfl rfl (hcpB _ (fun _ => rfl) (fun _ => rfl) _ _ _) ?_))
  go_region_law_o (refine step_copy_runI rfl _ _ 34 34 rfl (.slice (some ⟨w.heap.size, (i + m) * 5, none⟩) (n + m - (i + m)) (G - (i + m))) (.slice (some ⟨b, off + i * 5, none⟩) (n - i) (c - i)) (by simp [Act.eval, Act.put]) (by simp [Act.eval, Act.put]) (hcpB _ hF1 hF2 3 (G - (i + m)) (c - i)) ?_)
  go_wp2
  go_ret
  exact ⟨rfl, rfl⟩
end Go.Pv.L06
