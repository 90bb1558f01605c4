/- The engine, part 11: states read by their shapes. -/
import Derived.Test.YtfnhnkaikpgnbaaPv10
namespace Go.Pv
open Go
set_option linter.all false
set_option linter.constructorNameAsVariable false
set_option linter.unusedSectionVars false
set_option linter.unusedVariables false
set_option linter.unusedSimpArgs false
variable {N : List Nat}

section
variable {G Gt : Gh N} {w : World} {h : List Ob}

theorem Ty.val_agg {t : Ty} (ht : t.agg = true) (x : t.den) : t.val x = .agg (t.leaves x) := by unfold Ty.val; rw [ht]
theorem Ty.val_one {t : Ty} (ht : t.agg = false) (x : t.den) : ∃ v, t.leaves x = [v] ∧ t.val x = v := by
  cases t <;> first | (simp [Ty.agg] at ht; done) | exact ⟨_, rfl, rfl⟩

/-- A value of several cells, or one. -/
theorem cells_fun {v : V} {val : Value} (hv : Rel G w v val) : ∀ (k : Nat) (u : V), v.cells[k]? = some u → Rel G w u ((match v with | .agg _ => val.cells.getD k undef | _ => val)) := by
  intro k u hu
  cases v with
  | agg vs =>
    cases hv with
    | agg _ vals hl hr =>
      have hk : k < vals.size := by have := (List.getElem?_eq_some_iff.1 hu).1; simp only [V.cells] at this; omega
      have hg : vals[k]? = some vals[k] := Array.getElem?_eq_getElem hk
      have e : (Value.agg vals).cells.getD k undef = vals[k] := by
        show vals.getD k undef = vals[k]
        rw [Array.getD_eq_getD_getElem?, hg]; rfl
      dsimp only
      rw [e]
      exact hr k u _ hu hg
  | _ =>
    simp only [V.cells] at hu
    have : k = 0 := by have := (List.getElem?_eq_some_iff.1 hu).1; simpa using this
    subst this
    simp at hu
    subst hu
    exact hv

theorem val_to (hm : Mem G w h) (hI : ∀ b o, G.I b o → Gt.I b o) {t : Ty} {v : V} {val : Value} (hv : Rel G w v val) {x : t.den} (hc : t.comp1 (v.cells.map (imm1 h)) = some x) (ha : t.agg = isAggV v)
    (hB : ∀ id, id ∈ rowsIn h v.cells → ∀ b o, G.ow b o = some id → Gt.I b o) : Rel Gt w (t.val x) val := by
  obtain ⟨c1, c2⟩ := comp1_to hm hI hc (cells_fun hv) hB
  cases htA : t.agg with
  | true =>
    rw [Ty.val_agg htA]
    rw [htA] at ha
    cases v with
    | agg vs =>
      cases hv with
      | agg _ vals hl hr =>
        have hsz : vals.size = (t.leaves x).length := by rw [Ty.leaves_length, ← c1]; exact hl
        refine .agg _ vals hsz (fun k c y hk hy => ?_)
        have := c2 k c hk
        have e : (Value.agg vals).cells.getD k undef = y := by
          show vals.getD k undef = y
          rw [Array.getD_eq_getD_getElem?, hy]; rfl
        dsimp only at this
        rwa [e] at this
    | _ => simp [isAggV] at ha
  | false =>
    rw [htA] at ha
    obtain ⟨u, h1, h2⟩ := Ty.val_one htA x
    rw [h2]
    have := c2 0 u (by rw [h1]; rfl)
    cases v with
    | agg vs => simp [isAggV] at ha
    | _ => exact this

theorem shsRd_ok (hm : Mem G w h) (hI : ∀ b o, G.I b o → Gt.I b o) : ∀ (shs : List Sh) {vs : List V} {x : shsDen shs} {o : List (Option Nat)} {b : List Nat}, shsRd h shs vs = some (x, o, b) → ∀ {vals : List Value}, Rels G w vs vals →
    (∀ id, id ∈ b → ∀ b' o', G.ow b' o' = some id → Gt.I b' o') → ∀ (j : Nat), ρAt G Gt j o → owAt G Gt j o →
    Rels Gt w (shsMk j shs x).1 vals ∧ (shsMk j shs x).2.length = o.length ∧ Objs Gt w j (shsMk j shs x).2
  | [], vs, x, o, b, hr, vals, hv, hB, j, hρ, how => by
    cases vs with
    | nil =>
      simp only [shsRd, Option.some.injEq, Prod.mk.injEq] at hr
      obtain ⟨_, rfl, _⟩ := hr
      have : vals = [] := List.eq_nil_of_length_eq_zero hv.1.symm
      subst this
      exact ⟨Rels.nil, rfl, fun k ob hk => by simp [shsMk] at hk⟩
    | cons => simp [shsRd] at hr
  | s :: r, [], x, o, b, hr, vals, hv, hB, j, hρ, how => by cases s <;> simp [shsRd] at hr
  | s :: r, v :: vs, x, o, b, hr, [], hv, hB, j, hρ, how => by have := hv.1; simp at this
  | .t τ :: r, v :: vs, x, o, b, hr, val :: vals, hv, hB, j, hρ, how => by
    simp only [shsRd] at hr
    split at hr
    · rename_i y hc ha
      split at hr
      · rename_i z o' b' hz
        simp only [Option.some.injEq, Prod.mk.injEq] at hr
        obtain ⟨rfl, rfl, rfl⟩ := hr
        obtain ⟨d1, d2, d3⟩ := shsRd_ok hm hI r hz hv.tail (fun id hid => hB id (List.mem_append_right _ hid)) j hρ how
        exact ⟨Rels.cons (val_to hm hI hv.head hc (of_decide_eq_true ha) (fun id hid => hB id (List.mem_append_left _ hid))) d1, d2, d3⟩
      · cases hr
    · cases hr
  | .row e :: r, v :: vs, x, o, b, hr, val :: vals, hv, hB, j, hρ, how => by
    simp only [shsRd] at hr
    split at hr
    · rename_i xs i hrow
      split at hr
      · rename_i z o' b' hz
        simp only [Option.some.injEq, Prod.mk.injEq] at hr
        obtain ⟨rfl, rfl, rfl⟩ := hr
        obtain ⟨c1, c2⟩ := rowOf_ok hm hI hrow hv.head hρ how
        obtain ⟨d1, d2, d3⟩ := shsRd_ok hm hI r hz hv.tail hB (j + 1) hρ.cons how.cons
        exact ⟨Rels.cons c1 d1, by simp only [shsMk, List.length_cons, d2], Objs.cons c2 d3⟩
      · cases hr
    · cases hr
  | .mrow e :: r, v :: vs, x, o, b, hr, val :: vals, hv, hB, j, hρ, how => by
    simp only [shsRd] at hr
    split at hr
    · rename_i xs i hrow
      split at hr
      · rename_i z o' b' hz
        simp only [Option.some.injEq, Prod.mk.injEq] at hr
        obtain ⟨rfl, rfl, rfl⟩ := hr
        obtain ⟨c1, c2⟩ := rowOf_ok hm hI hrow hv.head hρ how
        obtain ⟨d1, d2, d3⟩ := shsRd_ok hm hI r hz hv.tail hB (j + 1) hρ.cons how.cons
        exact ⟨Rels.cons c1 d1, by simp only [shsMk, List.length_cons, d2], Objs.cons c2 d3⟩
      · cases hr
    · cases hr
  | .mp :: r, v :: vs, x, o, b, hr, val :: vals, hv, hB, j, hρ, how => by
    simp only [shsRd] at hr
    split at hr
    · rename_i id
      rw [nth_eq] at hr
      split at hr
      · rename_i es hi
        split at hr
        · rename_i z o' b' hz
          simp only [Option.some.injEq, Prod.mk.injEq] at hr
          obtain ⟨rfl, rfl, rfl⟩ := hr
          obtain ⟨d1, d2, d3⟩ := shsRd_ok hm hI r hz hv.tail hB (j + 1) hρ.cons how.cons
          have hv0 := hv.head
          obtain ⟨bb, h1, h2, h3⟩ := hm.obj _ _ hi
          cases hv0 with
          | row _ _ hρv =>
            have h0 := hρ 0 (some id) rfl val hρv
            refine ⟨Rels.cons (.row _ _ h0) d1, by simp only [shsMk, List.length_cons, d2], Objs.cons ⟨bb, ?_, fun oo => how 0 id rfl _ _ (h2 oo), h3⟩ d3⟩
            rw [hρv] at h1
            rw [← h1]
            exact h0
        · cases hr
      · cases hr
    · cases hr
  | .rw e :: r, v :: vs, x, o, b, hr, val :: vals, hv, hB, j, hρ, how => by
    simp only [shsRd] at hr
    split at hr
    · rename_i id
      rw [nth_eq] at hr
      split at hr
      · rename_i e' xss0 hi
        split at hr
        · rename_i xss hcl
          obtain ⟨he, hx⟩ := castL_some hcl
          injection he with he
          subst he
          subst hx
          split at hr
          · rename_i z o' b' hz
            simp only [Option.some.injEq, Prod.mk.injEq] at hr
            obtain ⟨rfl, rfl, rfl⟩ := hr
            obtain ⟨d1, d2, d3⟩ := shsRd_ok hm hI r hz hv.tail hB (j + 1) hρ.cons how.cons
            have hv0 := hv.head
            obtain ⟨bb, oo, cc, sb, h1, h2⟩ := hm.obj _ _ hi
            cases hv0 with
            | row _ _ hρv =>
              have h0 := hρ 0 (some id) rfl val hρv
              refine ⟨Rels.cons (.row _ _ h0) d1, by simp only [shsMk, List.length_cons, d2], Objs.cons ⟨bb, oo, cc, sb, ?_, h2.toOf hI fun b1 o1 k => how 0 id rfl _ _ k⟩ d3⟩
              rw [hρv] at h1
              rw [← h1]
              exact h0
          · cases hr
        · cases hr
      · cases hr
    · cases hr
  | .ptr fs :: r, v :: vs, x, o, b, hr, val :: vals, hv, hB, j, hρ, how => by
    simp only [shsRd] at hr
    split at hr
    · rename_i id
      rw [nth_eq] at hr
      split at hr
      · rename_i us hi
        split at hr
        · rename_i y o1 b1 hy
          split at hr
          · rename_i z o2 b2 hz
            simp only [Option.some.injEq, Prod.mk.injEq] at hr
            obtain ⟨rfl, rfl, rfl⟩ := hr
            have hv0 := hv.head
            obtain ⟨bb, oo, hρid, hcell⟩ := hm.obj _ _ hi
            have hval : val = .pointer (some ⟨bb, oo, none⟩) := by
              cases hv0 with
              | ptr _ _ b' o' hρ' =>
                rw [hρid] at hρ'
                simp only [Option.some.injEq, Value.pointer.injEq, Addr.mk.injEq] at hρ'
                obtain ⟨rfl, rfl, _⟩ := hρ'
                rfl
            have hf : ∀ (k : Nat) (u : V), us[k]? = some u → Rel G w u ((cel w bb (oo + k)).getD undef) := by
              intro k u hu
              obtain ⟨_, _, x, q1, q2⟩ := hcell k u hu
              rw [q1]
              exact q2
            have h0 := hρ 0 (some id) rfl _ hρid
            obtain ⟨c1, c2, c3, c4⟩ := lfsRd_ok hm hI fs hy hf (fun id' hid => hB id' (List.mem_append_left _ hid)) (j + 1) hρ.cons.left how.cons.left
            have hlen : j + 1 + o1.length = j + 1 + (lfsMk (j + 1) fs y).2.length := by rw [c2]
            obtain ⟨d1, d2, d3⟩ := shsRd_ok hm hI r hz hv.tail (fun id' hid => hB id' (List.mem_append_right _ hid)) (j + 1 + (lfsMk (j + 1) fs y).2.length) (by rw [← hlen]; exact hρ.cons.right) (by rw [← hlen]; exact how.cons.right)
            refine ⟨Rels.cons ?_ d1, by simp only [shsMk, List.length_cons, List.length_append, c2] at d2 ⊢; rw [d2], Objs.cons ⟨bb, oo, h0, fun k u hu => ?_⟩ (Objs.app c4 d3)⟩
            · rw [hval]
              have := Rel.ptr (w := w) (G := Gt) j 0 bb oo h0
              exact this
            · have hu : (lfsMk (j + 1) fs y).1[k]? = some u := hu
              have hlt : k < us.length := by have := (List.getElem?_eq_some_iff.1 hu).1; omega
              obtain ⟨q1, q2, xx, q3, _⟩ := hcell k _ (List.getElem?_eq_getElem hlt)
              have := c3 k u hu
              rw [q3] at this
              exact ⟨how 0 id rfl _ _ q1, q2, xx, q3, this⟩
          · cases hr
        · cases hr
      · cases hr
    · cases hr
  | .cptr τs :: r, v :: vs, x, o, b, hr, val :: vals, hv, hB, j, hρ, how => by
    simp only [shsRd] at hr
    split at hr
    · rename_i us
      split at hr
      · rename_i y hy
        split at hr
        · rename_i z o2 b2 hz
          simp only [Option.some.injEq, Prod.mk.injEq] at hr
          obtain ⟨rfl, rfl, rfl⟩ := hr
          obtain ⟨d1, d2, d3⟩ := shsRd_ok hm hI r hz hv.tail hB j hρ how
          refine ⟨Rels.cons ?_ d1, d2, d3⟩
          obtain ⟨c1, c2, c3⟩ := tysComp_ok τs hy
          have hv0 := hv.head
          cases hv0 with
          | pim _ bb oo f hmm hrr =>
            refine .pim _ bb oo f (fun k u hu => ?_) (fun k u hu => ?_)
            · have hu : (tysLeaves τs y)[k]? = some u := hu
              have hlt : k < us.length := by have := (List.getElem?_eq_some_iff.1 hu).1; omega
              have := hmm k _ (List.getElem?_eq_getElem hlt)
              exact ⟨hI _ _ this.1, this.2⟩
            · have hu : (tysLeaves τs y)[k]? = some u := hu
              have hlt : k < us.length := by have := (List.getElem?_eq_some_iff.1 hu).1; omega
              exact c3 k u _ _ hu (List.getElem?_eq_getElem hlt) ((hrr k _ (List.getElem?_eq_getElem hlt)).immTo hI (c2 k _ (List.getElem?_eq_getElem hlt)))
        · cases hr
      · cases hr
    · rename_i id off
      rw [nth_eq] at hr
      split at hr
      · rename_i us hi
        split at hr
        · rename_i y hy
          split at hr
          · rename_i z o2 b2 hz
            simp only [Option.some.injEq, Prod.mk.injEq] at hr
            obtain ⟨rfl, rfl, rfl⟩ := hr
            obtain ⟨d1, d2, d3⟩ := shsRd_ok hm hI r hz hv.tail (fun id' hid => hB id' (List.mem_cons_of_mem _ (List.mem_append_right _ hid))) j hρ how
            refine ⟨Rels.cons ?_ d1, d2, d3⟩
            obtain ⟨c1, c2, c3⟩ := tysComp_ok τs hy
            obtain ⟨bb, oo, hρid, hcell⟩ := hm.obj _ _ hi
            have hv0 := hv.head
            rw [List.length_map, List.length_drop] at c1
            cases hv0 with
            | ptr _ _ b' o' hρ' =>
              rw [hρid] at hρ'
              simp only [Option.some.injEq, Value.pointer.injEq, Addr.mk.injEq] at hρ'
              obtain ⟨rfl, rfl, _⟩ := hρ'
              have key : ∀ (k : Nat) (u : V), (tysLeaves τs y)[k]? = some u → ∃ val', Gt.I bb (oo + off + k) ∧ cel w bb (oo + off + k) = some val' ∧ Rel Gt w u val' := by
                intro k u hu
                have hlt : off + k < us.length := by have := (List.getElem?_eq_some_iff.1 hu).1; omega
                have hus : us[off + k]? = some us[off + k] := List.getElem?_eq_getElem hlt
                obtain ⟨q1, q2, val', q3, q4⟩ := hcell (off + k) _ hus
                have hmap : ((us.drop off).map (imm1 h))[k]? = some (imm1 h us[off + k]) := by rw [List.getElem?_map, List.getElem?_drop, hus]; rfl
                refine ⟨val', hB id (List.mem_cons_self ..) _ _ (by rw [Nat.add_assoc]; exact q1), by rw [Nat.add_assoc]; exact q3, ?_⟩
                refine c3 k u _ _ hu hmap (imm1_to hm hI q4 (fun id' he e xs hi' b'' o'' ho => hB id' (List.mem_cons_of_mem _ (List.mem_append_left _ (mem_rowsIn (k := off + k) (by rw [hus, he]) hi'))) b'' o'' ho) (c2 k _ hmap))
              refine .pim _ bb (oo + off) (fun k => (cel w bb (oo + off + k)).getD undef) (fun k u hu => ?_) (fun k u hu => ?_)
              · obtain ⟨val', q1, q2, _⟩ := key k u hu
                exact ⟨q1, by rw [q2]; rfl⟩
              · obtain ⟨val', _, q2, q3⟩ := key k u hu
                rw [q2]
                exact q3
          · cases hr
        · cases hr
      · cases hr
    · cases hr
  | .fn f k :: r, v :: vs, x, o, b, hr, val :: vals, hv, hB, j, hρ, how => by
    simp only [shsRd] at hr
    split at hr
    · rename_i f' cs
      split at hr
      · rename_i hff hlk
        have hff : f' = f := by simpa using hff
        have hlk := Nat.eq_of_beq_eq_true hlk
        subst hff
        split at hr
        · rename_i z o2 b2 hz
          simp only [Option.some.injEq, Prod.mk.injEq] at hr
          obtain ⟨rfl, rfl, rfl⟩ := hr
          have hv0 := hv.head
          cases hv0 with
          | fn _ _ caps hl hrr =>
            have hflat : Rels G w (cs ++ vs) (caps.toList ++ vals) := by
              have ht := hv.tail
              have hcl : caps.toList.length = cs.length := by rw [Array.length_toList]; exact hl
              refine ⟨by have := ht.1; simp only [List.length_append, hcl]; omega, fun k' u y hu hy => ?_⟩
              by_cases hlt : k' < cs.length
              · rw [List.getElem?_append_left hlt] at hu
                rw [List.getElem?_append_left (by rw [Array.length_toList, hl]; exact hlt), Array.getElem?_toList] at hy
                exact hrr k' u y hu hy
              · rw [List.getElem?_append_right (by omega)] at hu
                rw [List.getElem?_append_right (by rw [Array.length_toList, hl]; omega), Array.length_toList, hl] at hy
                exact ht.2 _ u y hu hy
            obtain ⟨d1, d2, d3⟩ := shsRd_ok hm hI r hz hflat hB j hρ how
            have hcl : caps.toList.length = k := by rw [Array.length_toList, hl]; exact hlk
            have hlen := d1.1
            rw [List.length_append, hcl] at hlen
            show Rels Gt w (.fn f' ((shsMk j r z).1.take k) :: (shsMk j r z).1.drop k) _ ∧ (shsMk j r z).2.length = _ ∧ Objs Gt w j (shsMk j r z).2
            refine ⟨Rels.cons (.fn f' _ caps (by rw [List.length_take, hl, hlk]; omega) (fun k' u y hu hy => ?_)) ⟨by rw [List.length_drop]; omega, fun k' u y hu hy => ?_⟩, d2, d3⟩
            · rw [List.getElem?_take] at hu
              split at hu
              · exact d1.2 k' u y hu (by rw [List.getElem?_append_left (by rw [Array.length_toList, hl]; omega), Array.getElem?_toList]; exact hy)
              · cases hu
            · rw [List.getElem?_drop] at hu
              exact d1.2 _ u y hu (by rw [List.getElem?_append_right (by rw [Array.length_toList, hl]; omega), Array.length_toList, hl, hlk, show k + k' - k = k' by omega]; exact hy)
        · cases hr
      · cases hr
    · cases hr
termination_by shs => shs.length

/-- Where an object stands in a list. -/
def pos (o : List (Option Nat)) (id : Nat) : Option Nat :=
  match o with
  | [] => none
  | some x :: r => if x = id then some 0 else (pos r id).map (· + 1)
  | none :: r => (pos r id).map (· + 1)

theorem pos_some : ∀ {o : List (Option Nat)} {id k : Nat}, pos o id = some k → o[k]? = some (some id)
  | [], id, k, h => by simp [pos] at h
  | some x :: r, id, k, h => by
    simp only [pos] at h
    split at h
    · rename_i hx
      injection h with h
      subst h; subst hx
      rfl
    · obtain ⟨k', hk, rfl⟩ := Option.map_eq_some_iff.1 h
      rw [List.getElem?_cons_succ]
      exact pos_some hk
  | none :: r, id, k, h => by
    simp only [pos] at h
    obtain ⟨k', hk, rfl⟩ := Option.map_eq_some_iff.1 h
    rw [List.getElem?_cons_succ]
    exact pos_some hk
theorem mem_somes : ∀ {o : List (Option Nat)} {id k : Nat}, o[k]? = some (some id) → id ∈ somes o
  | [], id, k, h => by simp at h
  | some x :: r, id, k, h => by
    cases k with
    | zero => simp at h; subst h; exact List.mem_cons_self ..
    | succ k => exact List.mem_cons_of_mem _ (mem_somes (by simpa using h))
  | none :: r, id, k, h => by
    cases k with
    | zero => simp at h
    | succ k => exact mem_somes (o := r) (by simpa using h)
theorem pos_of : ∀ {o : List (Option Nat)} {id k : Nat}, nodupB (somes o) = true → o[k]? = some (some id) → pos o id = some k
  | [], id, k, hn, h => by simp at h
  | some x :: r, id, k, hn, h => by
    simp only [somes, nodupB, Bool.and_eq_true] at hn
    cases k with
    | zero => simp at h; subst h; simp [pos]
    | succ k =>
      have hk : r[k]? = some (some id) := by simpa using h
      have hne : ¬ x = id := by
        intro e
        subst e
        have := List.all_eq_true.1 hn.1 x (mem_somes hk)
        simp at this
      simp only [pos, if_neg hne, pos_of hn.2 hk, Option.map_some]
  | none :: r, id, k, hn, h => by
    cases k with
    | zero => simp at h
    | succ k =>
      have hk : r[k]? = some (some id) := by simpa using h
      simp only [pos, pos_of (o := r) hn hk, Option.map_some]

/-- The memory that a reading stands for. -/
def Gh.of (G : Gh N) (o : List (Option Nat)) (b : List Nat) : Gh N :=
  ⟨o.map fun i => match i with | some id => G.ρ.getD id (.bool false) | none => .slice none 0 0,
   fun b' o' => match G.ow b' o' with | some id => pos o id | none => none,
   fun b' o' => G.I b' o' ∨ ∃ id, id ∈ b ∧ G.ow b' o' = some id⟩

theorem canon {shs : List Sh} {vs : List V} {x : shsDen shs} {o : List (Option Nat)} {b : List Nat} (hm : Mem G w h) (hr : shsRd h shs vs = some (x, o, b)) (ha : apartB o b = true) {vals : List Value} (hv : Rels G w vs vals) :
    Mem (G.of o b) w (shsMk 0 shs x).2 ∧ Rels (G.of o b) w (shsMk 0 shs x).1 vals ∧ Ext G w (G.of o b) w := by
  unfold apartB at ha
  rw [Bool.and_eq_true] at ha
  obtain ⟨hn, hap⟩ := ha
  have hρ : ρAt G (G.of o b) 0 o := by
    intro k i hk
    cases i with
    | some id =>
      intro v hid
      simp only [Gh.of, Nat.zero_add, List.getElem?_map, hk, Option.map_some]
      rw [List.getD_eq_getElem?_getD, hid]
      rfl
    | none => simp only [Gh.of, Nat.zero_add, List.getElem?_map, hk, Option.map_some]
  have how : owAt G (G.of o b) 0 o := by
    intro k id hk b' o' ho
    simp only [Gh.of, ho, Nat.zero_add]
    exact pos_of hn hk
  obtain ⟨d1, d2, d3⟩ := shsRd_ok (Gt := G.of o b) hm (fun _ _ k => .inl k) shs hr hv (fun id hid b' o' ho => .inr ⟨id, hid, ho⟩) 0 hρ how
  refine ⟨⟨by simp [Gh.of, d2], fun id v hid => ?_, fun id ob hi => by have := d3 id ob hi; rwa [Nat.zero_add] at this, fun b' o' k => ?_, fun b' o' id k => ?_, fun b hb => ⟨.inl (hm.gl b hb).1, (hm.gl b hb).2⟩⟩, d1, ⟨fun _ _ k => .inl k, Nat.le_refl _, fun b' o' _ k => ⟨by simp only [Gh.of, k], rfl, rfl⟩, fun _ _ _ => rfl, fun b' o' _ k => k.elim .inl fun ⟨id, _, q⟩ => .inr (by rw [q]; simp), Rest.refl _⟩⟩
  · simp only [Gh.of, List.getElem?_map, Option.map_eq_some_iff] at hid
    obtain ⟨i, h1, h2⟩ := hid
    cases i with
    | some id' =>
      dsimp only at h2
      rw [List.getD_eq_getElem?_getD] at h2
      cases hg : G.ρ[id']? with
      | some v' => rw [hg] at h2; simp at h2; rw [← h2]; exact hm.one _ _ hg
      | none => rw [hg] at h2; simp at h2; rw [← h2]; rfl
    | none => rw [← h2]; rfl
  · rcases k with k | ⟨id, hid, k⟩
    · obtain ⟨k1, k2⟩ := hm.I _ _ k
      exact ⟨by simp only [Gh.of, k1], k2⟩
    · refine ⟨?_, (hm.ow _ _ _ k).2⟩
      simp only [Gh.of, k]
      cases hp : pos o id with
      | none => rfl
      | some j =>
        have h1 := mem_somes (pos_some hp)
        have h2 := List.all_eq_true.1 hap id h1
        have h3 := List.all_eq_true.1 h2 id hid
        simp at h3
  · simp only [Gh.of] at k
    split at k
    · rename_i id' hid
      have := pos_some k
      rw [d2]
      exact ⟨(List.getElem?_eq_some_iff.1 this).1, (hm.ow _ _ _ hid).2⟩
    · cases k
end
end Go.Pv
