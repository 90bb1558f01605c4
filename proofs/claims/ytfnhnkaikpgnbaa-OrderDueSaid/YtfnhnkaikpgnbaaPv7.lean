/- The engine, part 7: structs and rows that are built, made, grown, cut. -/
import Derived.Test.YtfnhnkaikpgnbaaPv6
namespace Go.Pv
open Go
set_option linter.all false
set_option linter.constructorNameAsVariable false
set_option linter.unusedSectionVars false
set_option linter.unusedVariables false
set_option linter.unusedSimpArgs false
variable {N : List Nat}

section
variable {C : Cfg} {G : Gh N} {w : World} {h : List Ob}

/-! ### parts laid into cells -/
theorem foldl_set (off : Nat) : ∀ (vals : List Value) (i : Nat) (cells : Array Value),
    ((vals.zipIdx i).foldl (fun cs p => cs.setIfInBounds (off + p.2) p.1) cells).size = cells.size ∧
      ∀ k, ((vals.zipIdx i).foldl (fun cs p => cs.setIfInBounds (off + p.2) p.1) cells)[k]? = if off + i ≤ k ∧ k < off + i + vals.length ∧ k < cells.size then vals[k - (off + i)]? else cells[k]?
  | [], i, cells => ⟨rfl, fun k => by rw [if_neg (by simp only [List.length_nil]; omega)]; rfl⟩
  | v :: vals, i, cells => by
    obtain ⟨h1, h2⟩ := foldl_set off vals (i + 1) (cells.setIfInBounds (off + i) v)
    simp only [List.zipIdx_cons, List.foldl_cons]
    refine ⟨by rw [h1, Array.size_setIfInBounds], fun k => ?_⟩
    rw [h2 k, Array.size_setIfInBounds]
    by_cases hk : k = off + i
    · subst hk
      rw [if_neg (by omega)]
      by_cases hs : off + i < cells.size
      · rw [Array.getElem?_setIfInBounds_self_of_lt hs, if_pos ⟨by omega, by simp, hs⟩]
        simp
      · rw [Array.getElem?_eq_none (by rw [Array.size_setIfInBounds]; omega), if_neg (by omega), Array.getElem?_eq_none (by omega)]
    · rw [Array.getElem?_setIfInBounds_ne (fun e => hk e.symm)]
      by_cases hin : off + i ≤ k ∧ k < off + i + (v :: vals).length ∧ k < cells.size
      · have := hin.2.1
        simp only [List.length_cons] at this
        rw [if_pos hin, if_pos ⟨by omega, by omega, hin.2.2⟩, show k - (off + i) = (k - (off + (i + 1))) + 1 by omega, List.getElem?_cons_succ]
      · rw [if_neg hin, if_neg]
        simp only [List.length_cons] at hin
        omega

/-- Plain values and the machine's, cell by cell. -/
def Cells (G : Gh N) (w : World) (vs : List V) (cells : Array Value) : Prop := vs.length = cells.size ∧ ∀ (k : Nat) (v : V) (val : Value), vs[k]? = some v → cells[k]? = some val → Rel G w v val

theorem lay_ok (hm : Mem G w h) {place place' : Nat → Option (Nat × Nat)} (hp : ∀ i p, place i = some p → place' i = some p) : ∀ (parts : List (Nat × V)) (vals : List (Nat × Value)) (zs cs : List V) (cells : Array Value),
    parts.length = vals.length → (∀ (j : Nat) (p : Nat × V) (q : Nat × Value), parts[j]? = some p → vals[j]? = some q → p.1 = q.1 ∧ Rel G w p.2 q.2) → Cells G w zs cells → lay place zs parts = some cs →
      ∃ cells', Instr.fill place' cells vals = some cells' ∧ Cells G w cs cells'
  | [], vals, zs, cs, cells, hl, hr, hc, he => by
    cases vals with
    | nil =>
      simp only [lay, Option.some.injEq] at he
      subst he
      exact ⟨cells, rfl, hc⟩
    | cons => simp at hl
  | (i, v) :: parts, vals, zs, cs, cells, hl, hr, hc, he => by
    cases vals with
    | nil => simp at hl
    | cons q vals =>
      obtain ⟨i', val⟩ := q
      obtain ⟨h1, h2⟩ := hr 0 _ _ rfl rfl
      dsimp only at h1 h2
      subst h1
      simp only [lay] at he
      split at he
      · rename_i off n hpl
        split at he
        · rename_i hb
          simp only [Bool.and_eq_true] at hb
          have hn := Nat.eq_of_beq_eq_true hb.1
          have hle := Nat.le_of_ble_eq_true hb.2.2
          obtain ⟨c1, c2, c3⟩ := cells_rel h2 hb.2.1 hm
          have hcs := hc.1
          simp only [Instr.fill, hp _ _ hpl]
          rw [if_neg (by simp; omega)]
          obtain ⟨f1, f2⟩ := foldl_set off val.cells.toList 0 cells
          have hfold : (val.cells.zipIdx.foldl (fun cs (x : Value × Nat) => cs.setIfInBounds (off + x.2) x.1) cells) = ((val.cells.toList.zipIdx 0).foldl (fun cs p => cs.setIfInBounds (off + p.2) p.1) cells) := by
            rw [← Array.foldl_toList]
            congr 1
            simp
          rw [show (val.cells.zipIdx.foldl (fun cs (x : Value × Nat) => match x with | (c, j) => cs.setIfInBounds (off + j) c) cells) = ((val.cells.toList.zipIdx 0).foldl (fun cs p => cs.setIfInBounds (off + p.2) p.1) cells) from hfold]
          refine lay_ok hm hp parts vals _ cs _ (by simpa using hl) (fun j p q hp' hq => hr (j + 1) p q (by simpa using hp') (by simpa using hq)) ⟨?_, fun k u x hu hx => ?_⟩ he
          · rw [f1]
            simp only [List.length_append, List.length_take, List.length_drop]
            omega
          · rw [f2 k] at hx
            simp only [Nat.add_zero, Array.length_toList] at hx
            by_cases hin : off ≤ k ∧ k < off + n
            · rw [if_pos ⟨hin.1, by omega, by omega⟩, Array.getElem?_toList] at hx
              refine c2 (k - off) u x ?_ hx
              rwa [List.append_assoc, List.getElem?_append_right (by rw [List.length_take]; omega), List.length_take, Nat.min_eq_left (by omega), List.getElem?_append_left (by omega)] at hu
            · rw [if_neg (by omega)] at hx
              refine hc.2 k u x ?_ hx
              by_cases hlo : k < off
              · rwa [List.append_assoc, List.getElem?_append_left (by rw [List.length_take]; omega), List.getElem?_take_of_lt hlo] at hu
              · rwa [List.getElem?_append_right (by simp only [List.length_append, List.length_take]; omega), List.getElem?_drop, show off + n + (k - (zs.take off ++ v.cells).length) = k by simp only [List.length_append, List.length_take]; omega] at hu
        · cases he
      · cases he

theorem zero_cells {t : TypeId} {z : List V} (hz : C.zero t = some z) : ∃ (i : TypeInfo) (zv : Value), C.P.info? t = some i ∧ i.zero = some zv ∧ Cells G w z zv.cells := by
  unfold Cfg.zero at hz
  obtain ⟨zv, hzv, rfl⟩ := Option.map_eq_some_iff.1 hz
  obtain ⟨i, hi, hzi⟩ := Option.bind_eq_some_iff.1 hzv
  refine ⟨i, zv, hi, hzi, by simp, fun k v val hv hval => ?_⟩
  simp only [List.getElem?_map, Option.map_eq_some_iff, Array.getElem?_toList] at hv
  obtain ⟨y, hy, rfl⟩ := hv
  rw [hval] at hy
  injection hy with hy
  subst hy
  exact ofv1_rel G w _

theorem run_zeroValue {t : TypeId} {i : TypeInfo} {zv : Value} (hi : C.P.info? t = some i) (hz : i.zero = some zv) : (zeroValue t).run C.P w = .ok zv w := by
  simp [zeroValue, typeInfo, hi, hz]

theorem run_places (fs : List Field) (hs : ∀ f ∈ fs, (C.size f.type).isSome = true) :
    (fs.mapM fun f => (do pure (f.offset, ← sizeOf f.type) : Sem (Nat × Nat))).run C.P w = .ok (fs.map fun f => (f.offset, (C.size f.type).getD 0)) w := by
  induction fs with
  | nil => rfl
  | cons f fs ih =>
    obtain ⟨n, hn⟩ := Option.isSome_iff_exists.1 (hs f (by simp))
    have ih' := ih (fun g hg => hs g (by simp [hg]))
    simp only [List.mapM_cons, Sem.run_bind, size_run hn, Result.andThen_ok, Sem.run_pure, List.map_cons, hn, Option.getD_some]
    rw [ih']
    rfl

theorem build_ok (hm : Mem G w h) (t : TypeId) (parts : List (Nat × V)) (vals : Array (Nat × Value)) (hl : parts.length = vals.size) (hr : ∀ (j : Nat) (p : Nat × V) (q : Nat × Value), parts[j]? = some p → vals[j]? = some q → p.1 = q.1 ∧ Rel G w p.2 q.2) :
    OutOk G w ((do let r ← Instr.build t vals; pure (.value r) : Sem Next).run C.P w) (buildV C h t parts) := by
  unfold buildV
  split
  · rename_i z fs hz hu
    split
    · rename_i cs hcs
      split
      · rename_i hall
        obtain ⟨i, zv, hi, hzi, hcz⟩ := zero_cells (C := C) (G := G) (w := w) hz
        have hs : ∀ f ∈ fs.toList, (C.size f.type).isSome = true := fun f hf => List.all_eq_true.1 hall f hf
        obtain ⟨cells', hf, hc⟩ := lay_ok hm (place' := fun i => ((fs.toList.map fun f => (f.offset, (C.size f.type).getD 0)).toArray)[i]?) (fun i p hp => by
          rw [nth_eq] at hp
          simp only [List.getElem?_toArray, List.getElem?_map]
          split at hp
          · rename_i f hf
            split at hp
            · rename_i n hn
              injection hp with hp
              subst hp
              rw [hf]
              simp [hn]
            · cases hp
          · cases hp) parts vals.toList z cs zv.cells (by simpa using hl) (fun j p q hp hq => hr j p q hp (by rwa [Array.getElem?_toList] at hq)) hcz hcs
        refine Did.pure hm (.agg cs cells' hc.1.symm hc.2) ?_
        unfold Instr.build
        have hpl := run_places (C := C) (w := w) fs.toList hs
        simp only [Sem.run_bind, run_zeroValue hi hzi, Result.andThen_ok, run_underlying hu, Sem.run_pure]
        rw [Array.mapM_eq_mapM_toList]
        simp only [Sem.run_map, hpl, Result.andThen_ok, hf, Sem.run_pure]
      · trivial
    · trivial
  · trivial

/-! ### rows made -/
theorem compN_ok (e : Ty) : ∀ (n : Nat) {vs : List V} {xs : List e.den}, compN e n vs = some xs → xs.length = n ∧ vs.length = n * e.n ∧
    ∀ {G : Gh N} {w : World} (j : Nat) (x : e.den) (k : Nat) (v u : V) (val : Value), xs[j]? = some x → (e.leaves x)[k]? = some v → vs[j * e.n + k]? = some u → Rel G w u val → Rel G w v val
  | 0, vs, xs, hc => by
    cases vs with
    | nil =>
      simp only [compN, Option.some.injEq] at hc
      subst hc
      exact ⟨rfl, by simp, fun j x k v u val hx => by simp at hx⟩
    | cons => simp [compN] at hc
  | n + 1, vs, xs, hc => by
    simp only [compN] at hc
    split at hc
    · rename_i x r hx
      split at hc
      · rename_i ys hy
        injection hc with hc
        subst hc
        obtain ⟨a1, a2, a3⟩ := comp_ok e hx
        obtain ⟨b1, b2, b3⟩ := compN_ok e n hy
        refine ⟨by simp [b1], by rw [a1, b2, Nat.add_mul]; omega, fun j y k v u val h1 h2 h3 h4 => ?_⟩
        cases j with
        | zero =>
          simp at h1
          subst h1
          rw [Nat.zero_mul, Nat.zero_add] at h3
          exact a3 k v u val h2 h3 h4
        | succ j =>
          refine b3 j y k v u val (by simpa using h1) h2 ?_ h4
          rw [a2, List.getElem?_drop, show e.n + (j * e.n + k) = (j + 1) * e.n + k by rw [Nat.add_mul]; omega]
          exact h3
      · cases hc
    · cases hc

theorem repL_get {α : Type} (l : List α) (hl : 0 < l.length) : ∀ (n k : Nat), k < n * l.length → (repL l n)[k]? = l[k % l.length]?
  | 0, k, h => by simp at h
  | n + 1, k, h => by
    simp only [repL]
    by_cases hk : k < l.length
    · rw [List.getElem?_append_left hk, Nat.mod_eq_of_lt hk]
    · rw [List.getElem?_append_right (by omega), repL_get l hl n _ (by rw [Nat.add_mul, Nat.one_mul] at h; omega), Nat.mod_eq_sub_mod (a := k) (by omega)]
theorem repL_length {α : Type} (l : List α) : ∀ n, (repL l n).length = n * l.length
  | 0 => by simp [repL]
  | n + 1 => by simp only [repL, List.length_append, repL_length l n, Nat.add_mul]; omega

theorem leafs_one (hm : Mem G w h) {v : V} {val : Value} (hr : Rel G w v val) (hv : v.leaf = true) : val.oneCell' = true := by
  cases hr with
  | row id _ hρ => exact hm.one _ _ hρ
  | _ => first | rfl | (simp [V.leaf] at hv; done)

theorem buildSlice_ok (hm : Mem G w h) (t : TypeId) (len : Nat) (parts : List (Nat × V)) (vals : Array (Nat × Value)) (hl : parts.length = vals.size) (hr : ∀ (j : Nat) (p : Nat × V) (q : Nat × Value), parts[j]? = some p → vals[j]? = some q → p.1 = q.1 ∧ Rel G w p.2 q.2) :
    OutOk G w ((do let r ← Instr.buildSlice t len vals; pure (.value r) : Sem Next).run C.P w) (buildSliceV C h t len parts) := by
  unfold buildSliceV
  split
  · rename_i te hte
    split
    · rename_i e z n he hz hn
      split
      · rename_i cs hcs
        split
        · rename_i xs hxs hb
          simp only [Bool.and_eq_true] at hb
          have h16 := Nat.le_of_ble_eq_true hb.1
          have hzl := Nat.eq_of_beq_eq_true hb.2.1
          have hen : e.n = n := by
            have := tyOf_size he
            rw [hn] at this
            injection this with this
            exact this.symm
          obtain ⟨i, zv, hi, hzi, hcz⟩ := zero_cells (C := C) (G := G) (w := w) hz
          have hnp : 0 < n := by rw [← hen]; exact Ty.n_pos e
          have hzv : zv.cells.size = n := by rw [← hcz.1]; exact hzl
          -- the cells ahead of the parts
          have hcell0 : Cells G w (repL z len) ((Array.range (len * n)).map ((if len * n = 0 then #[] else zv.cells)[· % (if len * n = 0 then #[] else zv.cells).size]!)) := by
            refine ⟨by simp [repL_length, hzl], fun k v val hv hval => ?_⟩
            have hk : k < len * n := by have := (List.getElem?_eq_some_iff.1 hv).1; rwa [repL_length, hzl] at this
            have hne : ¬ len * n = 0 := by omega
            simp only [hne, if_false] at hval
            rw [repL_get z (by omega) len k (by rw [hzl]; exact hk), hzl] at hv
            simp only [Array.getElem?_map, Array.getElem?_range, hk, if_true, Option.map_some, Option.some.injEq] at hval
            rw [hzv] at hval
            have hlt : k % n < zv.cells.size := by rw [hzv]; exact Nat.mod_lt _ hnp
            rw [getElem!_pos zv.cells (k % n) hlt] at hval
            exact hcz.2 (k % n) v val hv (by rw [Array.getElem?_eq_getElem hlt, hval])
          obtain ⟨cells', hf, hc⟩ := lay_ok hm (place' := fun i => some (i * n, n)) (fun i p hp => hp) parts vals.toList (repL z len) cs _ (by simpa using hl) (fun j p q hp hq => hr j p q hp (by rwa [Array.getElem?_toList] at hq)) hcell0 hcs
          obtain ⟨G1, f1, f2, f3, f4⟩ := froL_ok cs hm cells'.toList (fun k v val h1 h2 => hc.2 k v val h1 (by rwa [Array.getElem?_toList] at h2)) (by rw [hc.1, Array.length_toList])
          obtain ⟨x1, x2, x3⟩ := compN_ok e len hxs
          have hrun : (do let r ← Instr.buildSlice t len vals; pure (.value r) : Sem Next).run C.P w = .ok (.value (.slice (some ⟨w.heap.size, 0, none⟩) len len)) (w.alloc (.cells cells' te)) := by
            unfold Instr.buildSlice
            simp only [Sem.run_bind, run_underlying (elem_run hte), Result.andThen_ok, size_run hn]
            rw [if_neg (by omega)]
            by_cases h0 : len * n = 0
            · simp only [h0, if_true, Sem.run_pure, Result.andThen_ok, Sem.run_bind] at hf ⊢
              simp only [hf, newRow, Sem.run_bind, run_newObj, Result.andThen_ok, Sem.run_pure]
              rfl
            · simp only [h0, if_false, Sem.run_pure, Result.andThen_ok, Sem.run_bind, run_zeroValue hi hzi] at hf ⊢
              simp only [hf, newRow, Sem.run_bind, run_newObj, Result.andThen_ok, Sem.run_pure]
              rfl
          have hsz : cells'.size = len * e.n := by
            rw [← hc.1]
            rw [List.length_map] at x2
            exact x2
          obtain ⟨val, w', G', q1, q2, q3, q4, q5⟩ := new_row (r := (do let r ← Instr.buildSlice t len vals; pure (.value r) : Sem Next).run C.P w) f1 (w1 := w) rfl te cells' e xs len (by omega) (by omega) (fun j x k v val hx hv hval => by
            have hin := in_row (show j < len by rw [← x1]; exact elem_lt hx) (leaf_lt hv)
            have hk : j * e.n + k < cs.length := by rw [hc.1, hsz]; exact hin
            refine x3 j x k v _ val hx hv (by rw [List.getElem?_map, List.getElem?_eq_getElem hk]; rfl) (f4 _ _ _ (List.getElem?_eq_getElem hk) (by rw [Array.getElem?_toList]; exact hval))) (by rw [hrun, x1])
          exact ⟨val, w', G', q1, q2, q3, f2.trans q4, f3.trans q5⟩
        · trivial
      · trivial
    · trivial
  · trivial

/-- .. and only read from then on. -/
theorem listV_ok (hm : Mem G w h) (t : TypeId) (len : Nat) (parts : List (Nat × V)) (vals : Array (Nat × Value)) (hl : parts.length = vals.size) (hr : ∀ (j : Nat) (p : Nat × V) (q : Nat × Value), parts[j]? = some p → vals[j]? = some q → p.1 = q.1 ∧ Rel G w p.2 q.2) :
    OutOk G w ((do let r ← Instr.buildSlice t len vals; pure (.value r) : Sem Next).run C.P w) (listV C h t len parts) := by
  unfold listV
  split
  · rename_i te hte
    split
    · rename_i e z n he hz hn
      split
      · rename_i cs hcs
        split
        · rename_i xs hxs hb
          simp only [Bool.and_eq_true] at hb
          have h16 := Nat.le_of_ble_eq_true hb.1
          have hzl := Nat.eq_of_beq_eq_true hb.2.1
          have hen : e.n = n := by
            have := tyOf_size he
            rw [hn] at this
            injection this with this
            exact this.symm
          obtain ⟨i, zv, hi, hzi, hcz⟩ := zero_cells (C := C) (G := G) (w := w) hz
          have hnp : 0 < n := by rw [← hen]; exact Ty.n_pos e
          have hzv : zv.cells.size = n := by rw [← hcz.1]; exact hzl
          -- the cells ahead of the parts
          have hcell0 : Cells G w (repL z len) ((Array.range (len * n)).map ((if len * n = 0 then #[] else zv.cells)[· % (if len * n = 0 then #[] else zv.cells).size]!)) := by
            refine ⟨by simp [repL_length, hzl], fun k v val hv hval => ?_⟩
            have hk : k < len * n := by have := (List.getElem?_eq_some_iff.1 hv).1; rwa [repL_length, hzl] at this
            have hne : ¬ len * n = 0 := by omega
            simp only [hne, if_false] at hval
            rw [repL_get z (by omega) len k (by rw [hzl]; exact hk), hzl] at hv
            simp only [Array.getElem?_map, Array.getElem?_range, hk, if_true, Option.map_some, Option.some.injEq] at hval
            rw [hzv] at hval
            have hlt : k % n < zv.cells.size := by rw [hzv]; exact Nat.mod_lt _ hnp
            rw [getElem!_pos zv.cells (k % n) hlt] at hval
            exact hcz.2 (k % n) v val hv (by rw [Array.getElem?_eq_getElem hlt, hval])
          obtain ⟨cells', hf, hc⟩ := lay_ok hm (place' := fun i => some (i * n, n)) (fun i p hp => hp) parts vals.toList (repL z len) cs _ (by simpa using hl) (fun j p q hp hq => hr j p q hp (by rwa [Array.getElem?_toList] at hq)) hcell0 hcs
          obtain ⟨x1, x2, x3⟩ := compN_ok e len hxs
          have hrun : (do let r ← Instr.buildSlice t len vals; pure (.value r) : Sem Next).run C.P w = .ok (.value (.slice (some ⟨w.heap.size, 0, none⟩) len len)) (w.alloc (.cells cells' te)) := by
            unfold Instr.buildSlice
            simp only [Sem.run_bind, run_underlying (elem_run hte), Result.andThen_ok, size_run hn]
            rw [if_neg (by omega)]
            by_cases h0 : len * n = 0
            · simp only [h0, if_true, Sem.run_pure, Result.andThen_ok, Sem.run_bind] at hf ⊢
              simp only [hf, newRow, Sem.run_bind, run_newObj, Result.andThen_ok, Sem.run_pure]
              rfl
            · simp only [h0, if_false, Sem.run_pure, Result.andThen_ok, Sem.run_bind, run_zeroValue hi hzi] at hf ⊢
              simp only [hf, newRow, Sem.run_bind, run_newObj, Result.andThen_ok, Sem.run_pure]
              rfl
          have hsz : cells'.size = len * e.n := by
            rw [← hc.1]
            exact x2
          refine new_lst hm te cells' e xs len (by omega) (by omega) (fun j x k v val hx hv hval => ?_) _ (by rw [hrun, x1])
          have hin := in_row (show j < len by rw [← x1]; exact elem_lt hx) (leaf_lt hv)
          have hk : j * e.n + k < cs.length := by rw [hc.1, hsz]; exact hin
          exact x3 j x k v _ val hx hv (List.getElem?_eq_getElem hk) (hc.2 _ _ _ (List.getElem?_eq_getElem hk) hval)
        · trivial
      · trivial
    · trivial
  · trivial

theorem makeSlice_ok (hm : Mem G w h) (t : TypeId) {l c : V} {vl vc : Value} (hl : Rel G w l vl) (hc : Rel G w c vc) :
    OutOk G w ((do let r ← Instr.makeSlice t vl vc; pure (.value r) : Sem Next).run C.P w) (makeSliceV C h t l c) := by
  unfold makeSliceV
  split
  · rename_i te kl n kc m hte
    split
    · rename_i e z by_ he hz hby
      split
      · rename_i x hx
        intro hb
        simp only [Bool.and_eq_true, decide_eq_true_eq] at hb
        obtain ⟨h0, h1, h2, h3⟩ := hb
        cases hl; cases hc
        obtain ⟨i, zv, hi, hzi, hcz⟩ := zero_cells (C := C) (G := G) (w := w) hz
        obtain ⟨p1, p2⟩ := comp1_ok hx
        have hby' : i.bytes = by_ := by
          unfold Cfg.bytes at hby
          rw [hi] at hby
          simpa using hby
        have hsz : i.size = e.n := by
          have := tyOf_size he
          unfold Cfg.size at this
          rw [hi] at this
          simpa using this
        have hzs : zv.cells.size = e.n := by rw [← hcz.1, p1]
        have hrun := run_make (P := C.P) w t te i zv (elem_run hte) hi hzi kl kc n m h0 h1 (by rw [hby', Int.mul_comm]; omega) (by omega)
        refine new_row hm (w1 := w) rfl te (madeCells zv.cells (m.toNat * i.size)) e (List.replicate n.toNat x) m.toNat (by simp; omega) (by rw [size_madeCells, hsz]; exact Nat.le_refl _) (fun j y k v val hy hv hval => ?_) _ (by simp only [Sem.run_bind, hrun, Result.andThen_ok, Sem.run_pure, List.length_replicate])
        have hy' : y = x := by
          have := List.mem_of_getElem? hy
          exact (List.mem_replicate.1 this).2
        subst hy'
        have hk := leaf_lt hv
        have hj : j < n.toNat := by have := elem_lt hy; rwa [List.length_replicate] at this
        have hin := in_row (show j < m.toNat by omega) hk
        unfold madeCells at hval
        simp only [Array.getElem?_map, Array.getElem?_range, hsz, hin, if_true, Option.map_some, Option.some.injEq] at hval
        rw [hzs] at hval
        have hmod : (j * e.n + k) % e.n = k := by rw [Nat.mul_comm, Nat.mul_add_mod, Nat.mod_eq_of_lt hk]
        rw [hmod, getElem!_pos zv.cells k (by omega)] at hval
        have hzk : k < z.length := by omega
        exact p2 k v _ val hv (List.getElem?_eq_getElem hzk) (hcz.2 k _ val (List.getElem?_eq_getElem hzk) (by rw [Array.getElem?_eq_getElem (by omega), hval]))
      · trivial
    · trivial
  · trivial

/-! ### cutting -/
theorem run_bounds {len cap : Nat} (lo hi : Option Value) (l r : Int) (hlo : lo = none ∧ l = 0 ∨ ∃ k, lo = some (.int k l)) (hhi : hi = none ∧ r = len ∨ ∃ k, hi = some (.int k r)) (h0 : 0 ≤ l) (h1 : l ≤ r) (h2 : r ≤ cap) (b : Bool) :
    (Instr.sliceBounds b len cap lo hi none).run C.P w = .ok (l.toNat, r.toNat, cap) w := by
  unfold Instr.sliceBounds
  have hl : ((if 0 ≤ l ∧ l ≤ (r.toNat : Int) then (pure l.toNat : Sem Nat) else boundsPanic .i64 l r.toNat .sliceB).run C.P w) = .ok l.toNat w := by
    rw [if_pos ⟨h0, by omega⟩]; rfl
  rcases hhi with ⟨rfl, rfl⟩ | ⟨kh, rfl⟩ <;> rcases hlo with ⟨rfl, rfl⟩ | ⟨kl, rfl⟩
  · simp [Sem.run_bind, Sem.run_pure]
  · have e1 : 0 ≤ l ∧ l ≤ (len : Int) := ⟨h0, h1⟩
    simp [Sem.run_bind, Sem.run_pure, Instr.sliceBound, asIntOf, e1]
  · have e1 : 0 ≤ r ∧ r ≤ (cap : Int) := ⟨by omega, h2⟩
    simp [Sem.run_bind, Sem.run_pure, Instr.sliceBound, asIntOf, e1]
  · have e1 : 0 ≤ r ∧ r ≤ (cap : Int) := ⟨by omega, h2⟩
    have e2 : 0 ≤ l ∧ l ≤ (r.toNat : Int) := ⟨h0, by omega⟩
    have e3 : 0 ≤ r := by omega
    simp [Sem.run_bind, Sem.run_pure, Instr.sliceBound, asIntOf, e1, e2, e3]
    omega

theorem sliceI_ok {d : Int} {lo : Option V} {l : Int} (hs : sliceI d lo = some l) {vlo : Option Value} (hr : lo = none ∧ vlo = none ∨ ∃ v val, lo = some v ∧ vlo = some val ∧ Rel G w v val) : vlo = none ∧ l = d ∨ ∃ k, vlo = some (.int k l) := by
  rcases hr with ⟨rfl, rfl⟩ | ⟨v, val, rfl, rfl, hv⟩
  · simp only [sliceI, Option.some.injEq] at hs
    exact .inl ⟨rfl, hs.symm⟩
  · cases hv <;> simp only [sliceI] at hs <;> first | (cases hs; done) | skip
    injection hs with hs
    subst hs
    exact .inr ⟨_, rfl⟩

theorem slice_ok (hm : Mem G w h) (t : TypeId) {x : V} {vx : Value} (hx : Rel G w x vx) {lo hi : Option V} {vlo vhi : Option Value} (hlo : lo = none ∧ vlo = none ∨ ∃ v val, lo = some v ∧ vlo = some val ∧ Rel G w v val)
    (hhi : hi = none ∧ vhi = none ∨ ∃ v val, hi = some v ∧ vhi = some val ∧ Rel G w v val) :
    OutOk G w ((do let r ← Instr.sliceAt t vx vlo vhi none; pure (.value r) : Sem Next).run C.P w) (sliceV C h t x lo hi) := by
  unfold sliceV
  split
  · rename_i a
    split
    · rename_i l r hu hl hr
      intro hin
      unfold inr at hin
      simp only [Bool.and_eq_true, decide_eq_true_eq] at hin
      cases hx
      refine Did.pure hm (.s _) ?_
      have hb := run_bounds (C := C) (w := w) (len := a.size) (cap := a.size) vlo vhi l r (sliceI_ok hl hlo) (sliceI_ok hr hhi) hin.1 hin.2.1 hin.2.2 false
      unfold Instr.sliceAt
      simp only [Sem.run_bind, run_underlying hu, Result.andThen_ok, Instr.slice, Option.isSome_none, Bool.false_eq_true, if_false, hb, Sem.run_pure]
    · trivial
  · split
    · rename_i te hte
      split
      · rename_i τ hτ
        split
        · rename_i xs ha
          split
          · rename_i l r hl hr
            intro hin
            unfold inr at hin
            simp only [Bool.and_eq_true, decide_eq_true_eq] at hin
            obtain ⟨G1, f1, f2, f3, f4⟩ := fro1_ok hm hx
            have hL := asL_rel ha f4
            obtain ⟨base, len, cap, rfl, hlen, hcap⟩ : ∃ base len cap, vx = .slice base len cap ∧ len = xs.length ∧ len ≤ cap := by
              cases hL with
              | lnil => exact ⟨_, _, _, rfl, rfl, Nat.zero_le _⟩
              | l _ _ b o cap _ hc _ _ => exact ⟨_, _, cap, rfl, rfl, hc⟩
            subst hlen
            have hb := run_bounds (C := C) (w := w) (len := xs.length) (cap := cap) vlo vhi l r (sliceI_ok hl hlo) (sliceI_ok hr hhi) hin.1 hin.2.1 (by omega) true
            have hrun : (do let r ← Instr.sliceAt t (.slice base xs.length cap) vlo vhi none; pure (.value r) : Sem Next).run C.P w = .ok (.value (.slice (if cap = l.toNat then base else base.map (·.add (l.toNat * τ.n))) (r.toNat - l.toNat) (cap - l.toNat))) w := by
              unfold Instr.sliceAt
              simp only [Sem.run_bind, run_underlying (elem_run hte), Result.andThen_ok, Instr.slice, hb, size_run (tyOf_size hτ), Sem.run_pure]
            have hlen : (ext l r xs).length = r.toNat - l.toNat := by
              unfold ext
              rw [List.length_drop, List.length_take]
              omega
            refine ⟨_, w, G1, .inl hrun, ?_, f1, f2, f3⟩
            rw [← hlen]
            cases hL with
            | lnil =>
              have : ext l r ([] : List τ.den) = [] := by simp [ext]
              rw [this]
              have h0 : l.toNat = 0 := by simp at hin; omega
              exact .lnil τ _ _
            | l _ _ b o _ f hc hmm hrr =>
              by_cases hz : cap = l.toNat
              · have h1 : ext l r xs = [] := List.eq_nil_of_length_eq_zero (by omega)
                rw [if_pos hz, h1]
                exact .l τ [] b o _ f (Nat.zero_le _) (fun j x k v hx => by simp at hx) (fun j x k v hx => by simp at hx)
              · rw [if_neg hz, Option.map_some, add_at]
                have hget : ∀ j x, (ext l r xs)[j]? = some x → xs[l.toNat + j]? = some x := by
                  intro j x hj
                  unfold ext at hj
                  rw [List.getElem?_drop, List.getElem?_take] at hj
                  split at hj
                  · exact hj
                  · cases hj
                refine .l τ (ext l r xs) b (o + l.toNat * τ.n) (cap - l.toNat) (fun k => f (l.toNat * τ.n + k)) (by omega) (fun j x k v hx hv => ?_) (fun j x k v hx hv => ?_)
                · have := hmm (l.toNat + j) x k v (hget j x hx) hv
                  rw [Nat.add_mul, Nat.add_assoc] at this
                  rw [Nat.add_assoc]
                  exact this
                · have := hrr (l.toNat + j) x k v (hget j x hx) hv
                  rw [Nat.add_mul, Nat.add_assoc] at this
                  exact this
          · trivial
        · trivial
      · trivial
    · trivial
end
end Go.Pv
