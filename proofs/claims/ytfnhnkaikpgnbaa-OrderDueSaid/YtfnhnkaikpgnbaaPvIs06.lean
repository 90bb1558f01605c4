/- Layer 06: slices.Insert of events, in the engine's words. -/
import Derived.Test.YtfnhnkaikpgnbaaPvIn06
import Derived.Test.YtfnhnkaikpgnbaaPvCl
namespace Go.Pv.L06
open Go Go.Proofs
set_option linter.all false
set_option linter.constructorNameAsVariable false
set_option linter.unusedSectionVars false
set_option linter.unusedVariables false
set_option linter.unusedSimpArgs false
abbrev eT : Ty := ((Ty.i IntKind.i64).p ((Ty.i IntKind.i64).p ((Ty.i IntKind.i64).p (Ty.s.p ((Ty.i IntKind.i64).p ((Ty.i IntKind.i64).p Ty.s)).l))))
theorem eN : eT.n = 5 := rfl

theorem setCells_size (b : Nat) : ∀ (vs : List Value) (o : Nat) (w : World), (w.setCells b o vs).heap.size = w.heap.size
  | [], o, w => rfl
  | v :: r, o, w => by rw [World.setCells, setCells_size b r]; simp [World.setCell]
theorem setCells_rest (b : Nat) : ∀ (vs : List Value) (o : Nat) (w : World), Rest w (w.setCells b o vs)
  | [], o, w => Rest.refl _
  | v :: r, o, w => by rw [World.setCells]; exact Rest.trans (⟨rfl, rfl, rfl⟩ : Rest w (w.setCell ⟨b, o, none⟩ v)) (setCells_rest b r (o + 1) _)
theorem setCells_other (b : Nat) : ∀ (vs : List Value) (o : Nat) (w : World) (b' : Nat), b' ≠ b → (w.setCells b o vs).heap[b']? = w.heap[b']?
  | [], o, w, b', h => rfl
  | v :: r, o, w, b', h => by rw [World.setCells, setCells_other b r (o + 1) _ b' h, heap_set_other _ _ _ _ _ h]
theorem setCells_frz (b : Nat) : ∀ (vs : List Value) (o : Nat) (w : World) (b' o' : Nat), frz (w.setCells b o vs) b' o' = frz w b' o'
  | [], o, w, b', o' => rfl
  | v :: r, o, w, b', o' => by rw [World.setCells, setCells_frz b r (o + 1), frz_set]

/-- What stands in a row's cells. -/
def Holds {N : List Nat} (G : Gh N) (w : World) (xs : List eT.den) (cs : List Value) : Prop := cs.length = xs.length * 5 ∧ ∀ (j : Nat) (x : eT.den) (k : Nat) (v : V), xs[j]? = some x → (eT.leaves x)[k]? = some v → ∃ val, cs[j * 5 + k]? = some val ∧ Rel G w v val

theorem Holds.app {N : List Nat} {G : Gh N} {w : World} {xs ys : List eT.den} {cs ds : List Value} (h1 : Holds G w xs cs) (h2 : Holds G w ys ds) : Holds G w (xs ++ ys) (cs ++ ds) := by
  refine ⟨by rw [List.length_append, List.length_append, h1.1, h2.1, Nat.add_mul], fun j x k v hx hv => ?_⟩
  have hk : k < 5 := leaf_lt hv
  rcases elem_app (k := 0) hx with ⟨hlt, hx'⟩ | ⟨hle, hx'⟩
  · obtain ⟨val, q1, q2⟩ := h1.2 j x k v hx' hv
    refine ⟨val, ?_, q2⟩
    rw [List.getElem?_append_left (List.getElem?_eq_some_iff.1 q1).1]
    exact q1
  · obtain ⟨val, q1, q2⟩ := h2.2 _ x k v hx' hv
    refine ⟨val, ?_, q2⟩
    have : j * 5 + k = xs.length * 5 + ((j - xs.length) * 5 + k) := by rw [← Nat.add_assoc, ← Nat.add_mul]; congr 2; omega
    rw [this, List.getElem?_append_right (by rw [h1.1]; omega), h1.1, Nat.add_sub_cancel_left]
    exact q1
theorem Holds.take {N : List Nat} {G : Gh N} {w : World} {xs : List eT.den} {cs : List Value} (h : Holds G w xs cs) (i : Nat) : Holds G w (xs.take i) (cs.take (i * 5)) := by
  refine ⟨by rw [List.length_take, List.length_take, h.1]; simp only [Nat.min_def]; split <;> split <;> omega, fun j x k v hx hv => ?_⟩
  have hk : k < 5 := leaf_lt hv
  rw [List.getElem?_take] at hx
  split at hx
  · obtain ⟨val, q1, q2⟩ := h.2 j x k v hx hv
    refine ⟨val, ?_, q2⟩
    rw [List.getElem?_take, if_pos (by omega)]
    exact q1
  · cases hx
theorem Holds.drop {N : List Nat} {G : Gh N} {w : World} {xs : List eT.den} {cs : List Value} (h : Holds G w xs cs) (i : Nat) : Holds G w (xs.drop i) (cs.drop (i * 5)) := by
  refine ⟨by rw [List.length_drop, List.length_drop, h.1]; omega, fun j x k v hx hv => ?_⟩
  rw [List.getElem?_drop] at hx
  obtain ⟨val, q1, q2⟩ := h.2 (i + j) x k v hx hv
  refine ⟨val, ?_, q2⟩
  rw [List.getElem?_drop, ← Nat.add_assoc, ← Nat.add_mul]
  exact q1

/-- The cells of a row. -/
def cellsOf (w : World) (b o n : Nat) : List Value := (List.range n).map fun k => (cel w b (o + k)).getD undef
theorem cellsOf_get {w : World} {b o n : Nat} (h : ∀ k, k < n → (cel w b (o + k)).isSome = true) {j : Nat} {v : Value} (hj : (cellsOf w b o n)[j]? = some v) : cel w b (o + j) = some v := by
  unfold cellsOf at hj
  rw [List.getElem?_map, Option.map_eq_some_iff] at hj
  obtain ⟨t, ht, rfl⟩ := hj
  have hlt : j < n := by have := (List.getElem?_eq_some_iff.1 ht).1; simpa using this
  rw [List.getElem?_range hlt] at ht
  injection ht with ht
  subst ht
  obtain ⟨u, hu⟩ := Option.isSome_iff_exists.1 (h j hlt)
  rw [hu]; rfl
theorem cellsOf_at {w : World} {b o n : Nat} {j : Nat} (hj : j < n) : (cellsOf w b o n)[j]? = some ((cel w b (o + j)).getD undef) := by
  unfold cellsOf
  rw [List.getElem?_map, List.getElem?_range hj]
  rfl
theorem cellsOf_length {w : World} {b o n : Nat} : (cellsOf w b o n).length = n := by simp [cellsOf]

theorem holds_row {N : List Nat} {G : Gh N} {w : World} {xs : List eT.den} {b o : Nat} (h : ∀ (j : Nat) (x : eT.den) (k : Nat) (v : V), xs[j]? = some x → (eT.leaves x)[k]? = some v → ∃ val, cel w b (o + (j * 5 + k)) = some val ∧ Rel G w v val) : Holds G w xs (cellsOf w b o (xs.length * 5)) := by
  refine ⟨cellsOf_length, fun j x k v hx hv => ?_⟩
  obtain ⟨val, q1, q2⟩ := h j x k v hx hv
  have hk : k < 5 := leaf_lt hv
  have hlt : j * 5 + k < xs.length * 5 := by have := elem_lt hx; omega
  exact ⟨val, by rw [cellsOf_at hlt, q1]; rfl, q2⟩

/-- A row in place of another one. -/
theorem moved {N : List Nat} {G : Gh N} {w w' : World} {xs xs' : List eT.den} (hm : Mem G w [.row eT xs]) {b o cap : Nat} (hw : Whole (fun k => G.ow b k = some 0) w eT b) (hcap : xs'.length ≤ cap)
    (hcel : ∀ k, k < cap * 5 → (cel w' b (o + k)).isSome = true) (hsz : w'.heap.size = w.heap.size) (hrest : Rest w w') (hot : ∀ b', b' ≠ b → w'.heap[b']? = w.heap[b']?) (hf : ∀ b' o', frz w' b' o' = frz w b' o')
    {cs : List Value} (hh : Holds G w xs' cs) (hcs : ∀ k, k < cs.length → cel w' b (o + k) = cs[k]?) :
    ∃ G', Mem G' w' [.dead, .row eT xs'] ∧ Ext G w G' w' ∧ Rel G' w' (.row 1) (.slice (some ⟨b, o, none⟩) xs'.length cap) := by
  have hw' : ∀ k, G.ow b k = some 0 ∧ (frz w b k).1 = false := hw.resolve_left (by decide)
  obtain ⟨m1, m2, m3⟩ := mem_move (hm := hm) (id := 0) (v := .slice (some ⟨b, o, none⟩) xs'.length cap) (ob := .row eT xs') (w' := w') (by simp) rfl hsz hrest (fun b' o' hne => by
      have hb : b' ≠ b := fun e => by subst e; exact hne (hw' o').1
      simp only [cel, World.cell?, hot b' hb]) hf (fun b' h0 => hot b' fun e => by subst e; have := (hw' 0).1; rw [h0] at this; cases this) (fun hs => by
      refine .inr ⟨b, o, cap, by show (G.ρ ++ [_])[1]? = _; have := hm.len; simp at this; simp [this], hcap, fun k hk => ⟨?_, by rw [hf]; exact (hw' _).2, hcel k hk, hw.keep fun k q => ⟨?_, hf _ _⟩⟩, fun j x k v hx hv => ?_⟩
      · show (if _ then _ else _) = _
        rw [if_pos (hw' _).1, hm.len]
      · show (if _ then _ else _) = _
        rw [if_pos q, hm.len]
      · obtain ⟨val, q1, q2⟩ := hh.2 j x k v hx hv
        refine ⟨val, ?_, q2.mono hs⟩
        rw [← q1]
        exact hcs _ (List.getElem?_eq_some_iff.1 q1).1)
  exact ⟨_, m1, m3, .row _ _ (by show (G.ρ ++ [_])[1]? = _; have := hm.len; simp at this; simp [this])⟩

/-- A row in a new block. -/
theorem freshly {N : List Nat} {G : Gh N} {w w' : World} {xs xs' : List eT.den} (hm : Mem G w [.row eT xs]) {cap : Nat} (hcap : xs'.length ≤ cap)
    (hsz : w'.heap.size = w.heap.size + 1) (hrest : Rest w w') (hot : ∀ b', b' < w.heap.size → w'.heap[b']? = w.heap[b']?) (hf : ∀ k, (frz w' w.heap.size k).1 = false) (hcel : ∀ k, k < cap * 5 → (cel w' w.heap.size k).isSome = true)
    {cs : List Value} (hh : Holds G w xs' cs) (hcs : ∀ k, k < cs.length → cel w' w.heap.size k = cs[k]?) :
    ∃ G', Mem G' w' [.row eT xs, .row eT xs'] ∧ Ext G w G' w' ∧ Rel G' w' (.row 1) (.slice (some ⟨w.heap.size, 0, none⟩) xs'.length cap) := by
  have hl : cs.length = xs'.length * 5 := hh.1
  have hget : ∀ k, k < cap * 5 → (cellsOf w' w.heap.size 0 (cap * 5)).toArray[k]? = cel w' w.heap.size k := fun k hk => by
    rw [List.getElem?_toArray, cellsOf_at hk, Nat.zero_add]
    obtain ⟨u, hu⟩ := Option.isSome_iff_exists.1 (hcel k hk)
    rw [hu]; rfl
  have hd := new_rowG (h := [.row eT xs]) hm (w1 := w) (w' := w') rfl (cellsOf w' w.heap.size 0 (cap * 5)).toArray eT xs' cap hcap (by rw [List.size_toArray, cellsOf_length]; exact Nat.le_refl _) (.inr hf) hsz
    (fun b hb => ⟨fun o => cel_of_heap (hot b hb), hot b hb⟩) (fun k hk => by
      rw [List.size_toArray, cellsOf_length] at hk
      exact ⟨(hget k hk).symm, hf k⟩) (fun j x k v val hx hv hval => by
      have hk : k < 5 := leaf_lt hv
      obtain ⟨val', q1, q2⟩ := hh.2 j x k v hx hv
      have hlt := (List.getElem?_eq_some_iff.1 q1).1
      have hval : (cellsOf w' w.heap.size 0 (cap * 5)).toArray[j * 5 + k]? = some val := hval
      rw [hget _ (by omega), hcs _ hlt, q1] at hval
      injection hval with hval
      rw [← hval]; exact q2) (.ok (.value (.slice (some ⟨w.heap.size, 0, none⟩) xs'.length cap)) w') rfl hrest (Rest.refl _)
  obtain ⟨val, w'', G', hr, h1, h2, h3, h4⟩ := hd
  rcases hr with hr | ⟨hr, _⟩
  · injection hr with hr hr'
    injection hr with hr
    subst hr hr'
    exact ⟨G', h2, h4, h1⟩
  · cases hr

theorem block_cells {w : World} {b k : Nat} (h : (cel w b k).isSome = true) : ∃ t n, w.shape? b = some (t, n) ∧ n ≠ 0 := by
  obtain ⟨u, hu⟩ := Option.isSome_iff_exists.1 h
  simp only [cel, World.cell?] at hu
  unfold World.shape?
  cases hh : w.heap[b]? with
  | none => rw [hh] at hu; simp at hu
  | some ob =>
    rw [hh] at hu
    cases ob <;> first | (simp at hu; done) | skip
    · rename_i c t f
      refine ⟨t, c.size, rfl, ?_⟩
      intro h0
      have : c = #[] := Array.eq_empty_of_size_eq_zero h0
      subst this
      simp at hu

theorem alloc_other (w : World) (o : Go.Obj) (b : Nat) (h : b < w.heap.size) : (w.alloc o).heap[b]? = w.heap[b]? := by
  simp only [World.alloc]
  rw [Array.getElem?_push]
  simp only [show ¬ b = w.heap.size by omega, if_false]

theorem holds_one {N : List Nat} {G : Gh N} {w : World} {h : List Ob} (hm : Mem G w h) {xs : List eT.den} {cs : List Value} (hh : Holds G w xs cs) : ∀ v, v ∈ cs → v.oneCell' = true := by
  intro v hv
  obtain ⟨t, ht⟩ := List.mem_iff_getElem?.1 hv
  have hlt := (List.getElem?_eq_some_iff.1 ht).1
  rw [hh.1] at hlt
  have h1 : t / 5 < xs.length := by omega
  have h2 : t % 5 < (eT.leaves xs[t / 5]).length := by rw [Ty.leaves_length, eN]; omega
  obtain ⟨val, q1, q2⟩ := hh.2 (t / 5) xs[t / 5] (t % 5) _ (List.getElem?_eq_getElem h1) (List.getElem?_eq_getElem h2)
  rw [show t / 5 * 5 + t % 5 = t by omega, ht] at q1
  injection q1 with q1
  rw [q1]
  exact leafs_one hm q2 (leaves_leaf eT _ _ (List.getElem_mem h2)).1

def insF : shsDen [.row eT, .t (.i .i64), .t eT.l] → Option (shsDen [.row eT] × shsDen (shsUpd [.row eT, .t (.i .i64), .t eT.l])) := fun x =>
  bif decide (x.2.2.1.length = 1) && (decide (0 ≤ x.2.1) && (decide (x.2.1 ≤ x.1.length) && decide ((x.1.length + 1) * 64 ≤ 140737488355328))) then some ((x.1.take x.2.1.toNat ++ x.2.2.1 ++ x.1.drop x.2.1.toNat, ()), ()) else none

/-- What a road comes to. -/
def InsR (G : Gh C0.gl) (w : World) (xs' : List eT.den) (e : Ending) (w' : World) : Prop := ∃ v Gs hs', e = .returned v ∧ Mem Gs w' hs' ∧ Ext G w Gs w' ∧ Rel Gs w' (.row 1) v ∧ hs'[1]? = some (.row eT xs')

theorem cel_setCells {b o : Nat} {vs : List Value} {w : World} (h : ∀ j, j < vs.length → (cel w b (o + j)).isSome = true) (k : Nat) : cel (w.setCells b o vs) b k = if o ≤ k ∧ k < o + vs.length then vs[k - o]? else cel w b k := by
  split
  · rename_i hk
    have := World.cell?_setCells_in b vs o w h (k - o) (by omega)
    rw [show o + (k - o) = k by omega] at this
    rw [List.getElem?_eq_getElem (by omega)]
    exact this
  · rename_i hk
    exact World.cell?_setCells_out b vs o w ⟨b, k, none⟩ (fun _ _ => by show k < o ∨ o + vs.length ≤ k; omega)
theorem cel_drew (w : World) (b k : Nat) : cel w.drew b k = cel w b k := rfl
theorem frz_drew (w : World) (b k : Nat) : frz w.drew b k = frz w b k := rfl
theorem heap_drew (w : World) : w.drew.heap = w.heap := rfl
theorem rest_drew (w : World) : Rest w w.drew := ⟨rfl, rfl, rfl⟩

theorem road_grow (G : Gh C0.gl) (w : World) (xs es : List eT.den) (i : Nat) (hi : i ≤ xs.length) (hes : es.length = 1) (hm : Mem G w [.row eT xs]) (b o cap vb vo : Nat)
    (hch : Holds G w xs (cellsOf w b o (xs.length * 5))) (hvh : Holds G w es (cellsOf w vb vo 5)) :
    InsR G w (xs.take i ++ es ++ xs.drop i) (.returned (.slice (some ⟨w.heap.size, 0, none⟩) (xs.length + 1) (grownCap w (xs.length + 1) cap 31)))
      ((((w.alloc (.cells (((cellsOf w b o (xs.length * 5)).take (i * 5)).toArray ++ Builtin.zeroCells zE (xs.length + 1 - i) ++ Builtin.zeroCells zE (grownCap w (xs.length + 1) cap 31 - (xs.length + 1))) 31)).drew.setCells w.heap.size (i * 5) (cellsOf w vb vo 5)).drew).setCells w.heap.size ((i + 1) * 5) ((cellsOf w b o (xs.length * 5)).drop (i * 5))) := by
  have hlen' : (xs.take i ++ es ++ xs.drop i).length = xs.length + 1 := by simp [hes]; omega
  have hge := grownCap_ge w (xs.length + 1) cap 31
  generalize grownCap w (xs.length + 1) cap 31 = cp at hge ⊢
  have hnew : Holds G w (xs.take i ++ es ++ xs.drop i) ((cellsOf w b o (xs.length * 5)).take (i * 5) ++ cellsOf w vb vo 5 ++ (cellsOf w b o (xs.length * 5)).drop (i * 5)) := ((hch.take i).app hvh).app (hch.drop i)
  have hcl : (cellsOf w b o (xs.length * 5)).length = xs.length * 5 := cellsOf_length
  have hvl : (cellsOf w vb vo 5).length = 5 := cellsOf_length
  generalize cellsOf w b o (xs.length * 5) = cs at hcl hnew ⊢
  generalize cellsOf w vb vo 5 = vs at hvl hnew ⊢
  have htl : (cs.take (i * 5)).length = i * 5 := by rw [List.length_take, hcl]; omega
  have hdl : (cs.drop (i * 5)).length = (xs.length - i) * 5 := by rw [List.length_drop, hcl]; omega
  have hsz : (((cs.take (i * 5)).toArray ++ Builtin.zeroCells zE (xs.length + 1 - i) ++ Builtin.zeroCells zE (cp - (xs.length + 1)))).size = cp * 5 := by
    rw [Array.size_append, Array.size_append, size_zeroCells, size_zeroCells, List.size_toArray, htl]
    simp only [zE, List.size_toArray, List.length_cons, List.length_nil]
    omega
  have hT : ∀ k, k < i * 5 → ((cs.take (i * 5)).toArray ++ Builtin.zeroCells zE (xs.length + 1 - i) ++ Builtin.zeroCells zE (cp - (xs.length + 1)))[k]? = (cs.take (i * 5))[k]? := fun k hk => by
    rw [Array.append_assoc, Array.getElem?_append_left (by rw [List.size_toArray, htl]; exact hk)]
    simp
  generalize ((cs.take (i * 5)).toArray ++ Builtin.zeroCells zE (xs.length + 1 - i) ++ Builtin.zeroCells zE (cp - (xs.length + 1))) = ROW at hsz hT ⊢
  have hS1 : (w.alloc (.cells ROW 31)).heap.size = w.heap.size + 1 := World.size_alloc w _
  have hO1 : ∀ b', b' < w.heap.size → (w.alloc (.cells ROW 31)).heap[b']? = w.heap[b']? := fun b' hb' => alloc_other w _ b' hb'
  have hR1 : Rest w (w.alloc (.cells ROW 31)) := ⟨rfl, rfl, rfl⟩
  have hC1 : ∀ k, cel (w.alloc (.cells ROW 31)) w.heap.size k = ROW[k]? := fun k => cel_alloc_new w _ _ k
  have hF1 : ∀ k, (frz (w.alloc (.cells ROW 31)) w.heap.size k).1 = false := fun k => frz_alloc_new w _ 31 k
  generalize w.alloc (.cells ROW 31) = W1 at hS1 hO1 hR1 hC1 hF1 ⊢
  have hN : ∀ k, k < cp * 5 → (cel W1 w.heap.size k).isSome = true := fun k hk => by rw [hC1, Array.getElem?_eq_getElem (by rw [hsz]; exact hk)]; rfl
  have e1 : ∀ k, cel (W1.drew.setCells w.heap.size (i * 5) vs) w.heap.size k = if i * 5 ≤ k ∧ k < i * 5 + 5 then vs[k - i * 5]? else cel W1 w.heap.size k := fun k => by
    rw [cel_setCells (fun j hj => by rw [cel_drew]; exact hN _ (by omega)) k, hvl, cel_drew]
  have f1 : ∀ k, (frz (W1.drew.setCells w.heap.size (i * 5) vs) w.heap.size k).1 = false := fun k => by rw [setCells_frz, frz_drew]; exact hF1 k
  have s1 : (W1.drew.setCells w.heap.size (i * 5) vs).heap.size = w.heap.size + 1 := by rw [setCells_size, heap_drew]; exact hS1
  have o1 : ∀ b', b' < w.heap.size → (W1.drew.setCells w.heap.size (i * 5) vs).heap[b']? = w.heap[b']? := fun b' hb' => by rw [setCells_other _ _ _ _ _ (by omega), heap_drew]; exact hO1 b' hb'
  have q1 : Rest w (W1.drew.setCells w.heap.size (i * 5) vs) := Rest.trans hR1 (Rest.trans (rest_drew W1) (setCells_rest _ _ _ _))
  generalize W1.drew.setCells w.heap.size (i * 5) vs = W2 at e1 f1 s1 o1 q1 ⊢
  have hN2 : ∀ k, k < cp * 5 → (cel W2 w.heap.size k).isSome = true := fun k hk => by
    rw [e1]
    split
    · rw [List.getElem?_eq_getElem (by omega)]; rfl
    · exact hN k hk
  have e2 : ∀ k, cel (W2.drew.setCells w.heap.size ((i + 1) * 5) (cs.drop (i * 5))) w.heap.size k = if (i + 1) * 5 ≤ k ∧ k < (i + 1) * 5 + (xs.length - i) * 5 then (cs.drop (i * 5))[k - (i + 1) * 5]? else cel W2 w.heap.size k := fun k => by
    rw [cel_setCells (fun j hj => by rw [cel_drew]; exact hN2 _ (by omega)) k, hdl, cel_drew]
  have f2 : ∀ k, (frz (W2.drew.setCells w.heap.size ((i + 1) * 5) (cs.drop (i * 5))) w.heap.size k).1 = false := fun k => by rw [setCells_frz, frz_drew]; exact f1 k
  have s2 : (W2.drew.setCells w.heap.size ((i + 1) * 5) (cs.drop (i * 5))).heap.size = w.heap.size + 1 := by rw [setCells_size, heap_drew]; exact s1
  have o2 : ∀ b', b' < w.heap.size → (W2.drew.setCells w.heap.size ((i + 1) * 5) (cs.drop (i * 5))).heap[b']? = w.heap[b']? := fun b' hb' => by rw [setCells_other _ _ _ _ _ (by omega), heap_drew]; exact o1 b' hb'
  have q2 : Rest w (W2.drew.setCells w.heap.size ((i + 1) * 5) (cs.drop (i * 5))) := Rest.trans q1 (Rest.trans (rest_drew W2) (setCells_rest _ _ _ _))
  generalize W2.drew.setCells w.heap.size ((i + 1) * 5) (cs.drop (i * 5)) = W3 at e2 f2 s2 o2 q2 ⊢
  obtain ⟨G', m1, m2, m3⟩ := freshly (w' := W3) hm (by rw [hlen']; exact hge) s2 q2 o2 f2 (fun k hk => by
    rw [e2]
    split
    · rw [List.getElem?_eq_getElem (by omega)]; rfl
    · exact hN2 k hk) hnew (fun k hk => by
    rw [List.length_append, List.length_append, htl, hdl, hvl] at hk
    rw [e2]
    by_cases hk1 : k < i * 5
    · rw [if_neg (by omega), e1, if_neg (by omega), hC1, hT k hk1, List.append_assoc, List.getElem?_append_left (by rw [htl]; exact hk1)]
    · by_cases hk2 : k < i * 5 + 5
      · rw [if_neg (by omega), e1, if_pos (by omega), List.append_assoc, List.getElem?_append_right (by rw [htl]; omega), htl, List.getElem?_append_left (by omega)]
      · rw [if_pos (by omega), List.getElem?_append_right (by rw [List.length_append, htl, hvl]; omega), List.length_append, htl, hvl, show (i + 1) * 5 = i * 5 + 5 by omega])
  rw [hlen'] at m3
  exact ⟨_, G', _, rfl, m1, m2, m3, by simp⟩

set_option maxHeartbeats 800000 in
theorem ins_road (G : Gh C0.gl) (w : World) (xs es : List eT.den) (i : Nat) (hi : i ≤ xs.length) (hes : es.length = 1) (hbig : (xs.length + 1) * 64 ≤ 140737488355328) (hm : Mem G w [.row eT xs]) (v0 v2 : Value) (r0 : Rel G w (.row 0) v0) (r2 : Rel G w (.l eT es) v2) :
    Calls Try.prog 29 #[v0, .int .i64 i, v2] w (InsR G w (xs.take i ++ es ++ xs.drop i)) := by
  have hlen' : (xs.take i ++ es ++ xs.drop i).length = xs.length + 1 := by simp [hes]; omega
  -- the one that is put in
  obtain ⟨vb, vo, vc, hv2, hvc, hvh, hvI⟩ : ∃ vb vo vc, v2 = .slice (some ⟨vb, vo, none⟩) 1 vc ∧ (∀ k, k < 5 → (cel w vb (vo + k)).isSome = true) ∧ Holds G w es (cellsOf w vb vo 5) ∧ G.I vb vo := by
    cases r2 with
    | lnil => simp at hes
    | l _ _ b o cap f hc hmm hrr =>
      obtain ⟨e0, rfl⟩ : ∃ e0, es = [e0] := by
        match es, hes with
        | [e0], _ => exact ⟨e0, rfl⟩
      have key : ∀ (j : Nat) (x : eT.den) (k : Nat) (v : V), [e0][j]? = some x → (eT.leaves x)[k]? = some v → ∃ val, cel w b (o + (j * 5 + k)) = some val ∧ Rel G w v val := fun j x k v hx hv => ⟨_, (hmm j x k v hx hv).2, hrr j x k v hx hv⟩
      refine ⟨b, o, cap, rfl, fun k hk => ?_, holds_row key, ?_⟩
      · have h2 : k < (eT.leaves e0).length := by rw [Ty.leaves_length, eN]; exact hk
        obtain ⟨val, q1, _⟩ := key 0 e0 k _ rfl (List.getElem?_eq_getElem h2)
        rw [Nat.zero_mul, Nat.zero_add] at q1
        rw [q1]; rfl
      · have h2 : 0 < (eT.leaves e0).length := by rw [Ty.leaves_length, eN]; decide
        exact (hmm 0 e0 0 _ rfl (List.getElem?_eq_getElem h2)).1
  subst hv2
  have hvl : (cellsOf w vb vo 5).length = 1 * 5 := cellsOf_length
  have hvs : ∀ j v, (cellsOf w vb vo 5)[j]? = some v → w.cell? ⟨vb, vo + j, none⟩ = some v := fun j v hj => cellsOf_get hvc hj
  have h1v := holds_one hm hvh
  obtain ⟨tA, kA, hsa, hkA⟩ := block_cells (hvc 0 (by decide))
  rcases hm.obj 0 _ rfl with ⟨h1, h2⟩ | ⟨b, o, cap, h1, h2, h3, h4⟩
  · -- nothing was there
    subst h2
    have hi0 : i = 0 := by simpa using hi
    subst hi0
    have hv0 : v0 = .slice none 0 0 := by
      cases r0 with
      | row _ _ hρ => rw [hρ] at h1; injection h1
    subst hv0
    refine (ins_end_grow none 0 0 vb vo 1 vc [] (cellsOf w vb vo 5) w (by decide) (Nat.le_refl _) (by decide) (by decide) rfl hvl (fun _ => ⟨rfl, rfl⟩) (fun a h => by cases h) hvs).mono ?_
    rintro e w' ⟨rfl, rfl⟩
    have hge := grownCap_ge w (0 + 1) 0 31
    have hsz : ((([] : List Value) ++ cellsOf w vb vo 5).toArray ++ Builtin.zeroCells #[.int .i64 0, .int .i64 0, .int .i64 0, .string ⟨#[]⟩, .slice none 0 0] (grownCap w (0 + 1) 0 31 - (0 + 1))).size = grownCap w (0 + 1) 0 31 * 5 := by
      rw [Array.size_append, size_zeroCells, List.size_toArray, List.nil_append, cellsOf_length]
      simp only [List.size_toArray, List.length_cons, List.length_nil]
      omega
    obtain ⟨G', m1, m2, m3⟩ := freshly (xs' := es) hm (cap := grownCap w (0 + 1) 0 31) (by rw [hes]; exact hge) (World.size_alloc w.drew _) ⟨rfl, rfl, rfl⟩ (fun b' hb' => alloc_other w.drew _ b' hb') (fun k => frz_alloc_new w.drew _ 31 k) (fun k hk => by
        show (cel (w.drew.alloc _) w.drew.heap.size k).isSome = true
        rw [cel_alloc_new, Array.getElem?_eq_getElem (by rw [hsz]; exact hk)]; rfl) hvh (fun k hk => by
        show cel (w.drew.alloc _) w.drew.heap.size k = _
        rw [cel_alloc_new, Array.getElem?_append_left (by simpa using hk)]
        simp)
    rw [hes] at m3
    exact ⟨_, G', _, rfl, m1, m2, m3, by simp⟩
  · have hv0 : v0 = .slice (some ⟨b, o, none⟩) xs.length cap := by
      cases r0 with
      | row _ _ hρ => rw [hρ] at h1; injection h1
    subst hv0
    have h3' : ∀ k, k < cap * 5 → G.ow b (o + k) = some 0 ∧ (frz w b (o + k)).1 = false ∧ (cel w b (o + k)).isSome = true ∧ Whole (fun k => G.ow b k = some 0) w eT b := h3
    have hcv : ∀ k, k < xs.length * 5 → (cel w b (o + k)).isSome = true := fun k hk => (h3' k (by have := Nat.mul_le_mul_right 5 h2; omega)).2.2.1
    have hch : Holds G w xs (cellsOf w b o (xs.length * 5)) := holds_row h4
    have hcl : (cellsOf w b o (xs.length * 5)).length = xs.length * 5 := cellsOf_length
    have hcs : ∀ j v, (cellsOf w b o (xs.length * 5))[j]? = some v → w.cell? ⟨b, o + j, none⟩ = some v := fun j v hj => cellsOf_get hcv hj
    have h1c := holds_one hm hch
    have hnew : Holds G w (xs.take i ++ es ++ xs.drop i) ((cellsOf w b o (xs.length * 5)).take (i * 5) ++ cellsOf w vb vo 5 ++ (cellsOf w b o (xs.length * 5)).drop (i * 5)) := ((hch.take i).app hvh).app (hch.drop i)
    have htl : ((cellsOf w b o (xs.length * 5)).take (i * 5)).length = i * 5 := by rw [List.length_take, hcl]; omega
    have hdl : ((cellsOf w b o (xs.length * 5)).drop (i * 5)).length = (xs.length - i) * 5 := by rw [List.length_drop, hcl]; omega
    by_cases hroom : xs.length + 1 ≤ cap
    · -- there is room
      have hW := (h3' 0 (by omega)).2.2.2
      have hW' : ∀ k, G.ow b k = some 0 ∧ (frz w b k).1 = false := hW.resolve_left (by decide)
      have hvb : vb ≠ b := fun e => by subst e; have := (hm.I _ _ hvI).1; rw [(hW' vo).1] at this; cases this
      have hsp : ∀ j, j < (xs.length + 1) * 5 → (w.cell? ⟨b, o + j, none⟩).isSome = true := fun j hj => (h3' j (by have := Nat.mul_le_mul_right 5 hroom; omega)).2.2.1
      have hfz : ∀ j, w.frozen? ⟨b, j, none⟩ = false := fun j => (hW' j).2
      by_cases hend : i = xs.length
      · subst hend
        refine (ins_end_room b o xs.length cap vb vo 1 vc (cellsOf w vb vo 5) w (by decide) hroom (by omega) hvl (fun j hj => by rw [Nat.add_assoc]; exact hsp _ (by omega)) (fun j hj => hfz _) hvs h1v).mono ?_
        rintro e w' ⟨rfl, rfl⟩
        have hsp1 : ∀ j, j < cap * 5 → (cel w b (o + j)).isSome = true := fun j hj => (h3' j hj).2.2.1
        obtain ⟨G', m1, m2, m3⟩ := moved (xs' := xs.take xs.length ++ es ++ xs.drop xs.length) (cap := cap) (o := o) (w' := w.setCells b (o + xs.length * 5) (cellsOf w vb vo 5)) hm hW (by rw [hlen']; exact hroom) (fun k hk => isSome_setCells b _ _ w (fun j hj => by rw [cellsOf_length] at hj; rw [Nat.add_assoc]; exact hsp _ (by omega)) _ (hsp1 k hk)) (setCells_size _ _ _ _) (setCells_rest _ _ _ _) (setCells_other _ _ _ _) (setCells_frz _ _ _ _) hnew (fun k hk => by
          rw [List.drop_eq_nil_of_le (by rw [hcl]; exact Nat.le_refl _), List.append_nil] at hk ⊢
          rw [List.length_append, htl, cellsOf_length] at hk
          by_cases hk' : k < xs.length * 5
          · rw [List.getElem?_append_left (by rw [htl]; exact hk'), List.getElem?_take, if_pos hk']
            show ((w.setCells b (o + xs.length * 5) _).cell? ⟨b, o + k, none⟩) = _
            rw [World.cell?_setCells_out _ _ _ _ _ (fun _ _ => .inl (by show o + k < _; omega)), cellsOf_at hk']
            obtain ⟨u, hu⟩ := Option.isSome_iff_exists.1 (hcv k hk')
            have hu' : w.cell? ⟨b, o + k, none⟩ = some u := hu
            rw [hu', hu]; rfl
          · rw [List.getElem?_append_right (by rw [htl]; omega), htl]
            have := World.cell?_setCells_in b (cellsOf w vb vo 5) (o + xs.length * 5) w (fun j hj => by rw [cellsOf_length] at hj; rw [Nat.add_assoc]; exact hsp _ (by omega)) (k - xs.length * 5) (by rw [cellsOf_length]; omega)
            rw [show o + xs.length * 5 + (k - xs.length * 5) = o + k by omega] at this
            rw [List.getElem?_eq_getElem (by rw [cellsOf_length]; omega)]
            exact this)
        rw [hlen'] at m3
        exact ⟨_, G', _, rfl, m1, m2, m3, by simp⟩
      · obtain ⟨tB, kB, hsb, hkB⟩ := block_cells (hsp 0 (by omega))
        refine (ins_shift b o xs.length cap i vb vo 1 vc (cellsOf w b o (xs.length * 5)) (cellsOf w vb vo 5) w (by omega) (by decide) hroom (by omega) hvb hcl hvl hcs (fun j hj => hsp j hj) (fun j hj => hfz _) hvs h1c h1v tA tB kA kB hsa hsb hkA hkB (hfz _)).mono ?_
        rintro e w' ⟨rfl, rfl⟩
        have hsp1 : ∀ j, j < cap * 5 → (cel w b (o + j)).isSome = true := fun j hj => (h3' j hj).2.2.1
        have hspA : ∀ k, (cel w b k).isSome = true → ((w.drew.setCells b (o + (i + 1) * 5) ((cellsOf w b o (xs.length * 5)).drop (i * 5))).cell? ⟨b, k, none⟩).isSome = true := fun k hk => isSome_setCells b _ _ w.drew (fun j hj => by rw [hdl] at hj; rw [Nat.add_assoc]; exact hsp _ (by omega)) k hk
        obtain ⟨G', m1, m2, m3⟩ := moved (xs' := xs.take i ++ es ++ xs.drop i) (cap := cap) (o := o) (w' := (w.drew.setCells b (o + (i + 1) * 5) ((cellsOf w b o (xs.length * 5)).drop (i * 5))).setCells b (o + i * 5) (cellsOf w vb vo 5)) hm hW (by rw [hlen']; exact hroom) (fun k hk => isSome_setCells b _ _ _ (fun j hj => by rw [cellsOf_length] at hj; rw [Nat.add_assoc]; exact hspA _ (hsp _ (by omega))) _ (hspA _ (hsp1 k hk))) ((setCells_size _ _ _ _).trans (setCells_size _ _ _ _)) (Rest.trans (⟨rfl, rfl, rfl⟩ : Rest w w.drew) (Rest.trans (setCells_rest _ _ _ _) (setCells_rest _ _ _ _)))
          (fun b' hb' => (setCells_other _ _ _ _ b' hb').trans (setCells_other _ _ _ _ b' hb')) (fun b' o' => (setCells_frz _ _ _ _ b' o').trans (setCells_frz _ _ _ _ b' o')) hnew (fun k hk => by
          rw [List.length_append, List.length_append, htl, hdl, cellsOf_length] at hk
          by_cases hk1 : k < i * 5
          · rw [List.append_assoc, List.getElem?_append_left (by rw [htl]; exact hk1), List.getElem?_take, if_pos hk1]
            show ((World.setCells _ b (o + i * 5) _).cell? ⟨b, o + k, none⟩) = _
            rw [World.cell?_setCells_out _ _ _ _ _ (fun _ _ => .inl (by show o + k < _; omega)), World.cell?_setCells_out _ _ _ _ _ (fun _ _ => .inl (by show o + k < _; omega)), cellsOf_at (by omega)]
            obtain ⟨u, hu⟩ := Option.isSome_iff_exists.1 (hcv k (by omega))
            have hu' : w.drew.cell? ⟨b, o + k, none⟩ = some u := hu
            rw [hu', hu]; rfl
          · by_cases hk2 : k < i * 5 + 5
            · rw [List.append_assoc, List.getElem?_append_right (by rw [htl]; omega), htl, List.getElem?_append_left (by rw [cellsOf_length]; omega)]
              have := World.cell?_setCells_in b (cellsOf w vb vo 5) (o + i * 5) (w.drew.setCells b (o + (i + 1) * 5) ((cellsOf w b o (xs.length * 5)).drop (i * 5))) (fun j hj => by rw [cellsOf_length] at hj; rw [Nat.add_assoc]; exact hspA _ (hsp _ (by omega))) (k - i * 5) (by rw [cellsOf_length]; omega)
              rw [show o + i * 5 + (k - i * 5) = o + k by omega] at this
              rw [List.getElem?_eq_getElem (by rw [cellsOf_length]; omega)]
              exact this
            · rw [List.getElem?_append_right (by rw [List.length_append, htl, cellsOf_length]; omega), List.length_append, htl, cellsOf_length]
              show ((World.setCells _ b (o + i * 5) _).cell? ⟨b, o + k, none⟩) = _
              rw [World.cell?_setCells_out _ _ _ _ _ (fun _ _ => .inr (by show _ ≤ o + k; rw [cellsOf_length]; omega))]
              have := World.cell?_setCells_in b ((cellsOf w b o (xs.length * 5)).drop (i * 5)) (o + (i + 1) * 5) w.drew (fun j hj => by rw [hdl] at hj; rw [Nat.add_assoc]; exact hsp _ (by omega)) (k - (i * 5 + 5)) (by rw [hdl]; omega)
              rw [show o + (i + 1) * 5 + (k - (i * 5 + 5)) = o + k by omega] at this
              rw [List.getElem?_eq_getElem (by rw [hdl]; omega)]
              exact this)
        rw [hlen'] at m3
        exact ⟨_, G', _, rfl, m1, m2, m3, by simp⟩
    · -- there is none
      by_cases hend : i = xs.length
      · subst hend
        refine (ins_end_grow (some ⟨b, o, none⟩) xs.length cap vb vo 1 vc (cellsOf w b o (xs.length * 5)) (cellsOf w vb vo 5) w (by decide) h2 (by omega) (by omega) hcl hvl (fun h => by cases h) (fun a ha j v hj => by injection ha with ha; subst ha; rw [Addr.add_lit]; exact hcs j v hj) hvs).mono ?_
        rintro e w' ⟨rfl, rfl⟩
        have hge := grownCap_ge w (xs.length + 1) cap 31
        have hsz : ((cellsOf w b o (xs.length * 5) ++ cellsOf w vb vo 5).toArray ++ Builtin.zeroCells #[.int .i64 0, .int .i64 0, .int .i64 0, .string ⟨#[]⟩, .slice none 0 0] (grownCap w (xs.length + 1) cap 31 - (xs.length + 1))).size = grownCap w (xs.length + 1) cap 31 * 5 := by
          rw [Array.size_append, size_zeroCells, List.size_toArray, List.length_append, cellsOf_length, cellsOf_length]
          simp only [List.size_toArray, List.length_cons, List.length_nil]
          omega
        obtain ⟨G', m1, m2, m3⟩ := freshly (xs' := xs.take xs.length ++ es ++ xs.drop xs.length) hm (cap := grownCap w (xs.length + 1) cap 31) (by rw [hlen']; exact hge) (World.size_alloc w.drew _) ⟨rfl, rfl, rfl⟩ (fun b' hb' => alloc_other w.drew _ b' hb') (fun k => frz_alloc_new w.drew _ 31 k) (fun k hk => by
            show (cel (w.drew.alloc _) w.drew.heap.size k).isSome = true
            rw [cel_alloc_new, Array.getElem?_eq_getElem (by rw [hsz]; exact hk)]; rfl) hnew (fun k hk => by
            show cel (w.drew.alloc _) w.drew.heap.size k = _
            rw [List.drop_eq_nil_of_le (by rw [hcl]; exact Nat.le_refl _), List.append_nil] at hk ⊢
            rw [List.take_of_length_le (by rw [hcl]; exact Nat.le_refl _)] at hk ⊢
            rw [cel_alloc_new, Array.getElem?_append_left (by simpa using hk)]
            simp)
        rw [hlen'] at m3
        exact ⟨_, G', _, rfl, m1, m2, m3, by simp⟩
      · refine (ins_grow b o xs.length cap i vb vo 1 vc (cellsOf w b o (xs.length * 5)) (cellsOf w vb vo 5) w (by omega) (by decide) h2 (by omega) (by omega) hcl hvl hcs hvs h1c h1v).mono ?_
        rintro e w' ⟨rfl, rfl⟩
        exact road_grow G w xs es i hi hes hm b o cap vb vo hch hvh

theorem insSnd : Snd C0 29 ⟨[.row eT, .t (.i .i64), .t eT.l], [.row eT], insF⟩ := by
  refine ⟨enter_of (fn := Try.f29) (c := bodyOf Try.f29) (by kernel_rfl) (by kernel_rfl) (by kernel_rfl), ?_⟩
  intro x y hF G w h vs o b vals hm hv hrd hcond
  obtain ⟨xs, n, es, u⟩ := x
  dsimp only at hF hrd y
  have hap : apartB o b = true ∧ b = [] := hcond.resolve_left (by decide)
  obtain ⟨hap1, rfl⟩ := hap
  obtain ⟨c1, c2, c3⟩ := canon hm hrd hap1 hv
  unfold insF at hF
  dsimp only at hF
  cases hd : (decide (es.length = 1) && (decide (0 ≤ n) && (decide (n ≤ xs.length) && decide ((xs.length + 1) * 64 ≤ 140737488355328)))) with
  | false => rw [hd] at hF; cases hF
  | true =>
    rw [hd] at hF
    injection hF with hF
    subst hF
    simp only [Bool.and_eq_true, decide_eq_true_eq] at hd
    obtain ⟨d1, d2, d3, d4⟩ := hd
    obtain ⟨i, rfl⟩ := Int.eq_ofNat_of_zero_le d2
    match vals, c2 with
    | [v0, v1, v2], c2 =>
      have r0 : Rel (G.of o []) w (.row 0) v0 := c2.2 0 _ _ rfl rfl
      have r1 : Rel (G.of o []) w (.i .i64 (i : Int)) v1 := c2.2 1 _ _ rfl rfl
      have r2 : Rel (G.of o []) w (.l eT es) v2 := c2.2 2 _ _ rfl rfl
      cases r1
      have d3' : (i : Int) ≤ (xs.length : Int) := d3
      refine (ins_road (G.of o []) w xs es i (by omega) d1 d4 c1 v0 v2 r0 r2).mono ?_
      rintro e w' ⟨v, Gs, hs', rfl, k1, k2, k3, k4⟩
      have hn : nth hs' 1 = some (.row eT (xs.take i ++ es ++ xs.drop i)) := by rw [nth_eq]; exact k4
      have hrd1 : shsRd hs' [.row eT] [.row 1] = some ((xs.take i ++ es ++ xs.drop i, ()), [some 1], []) := by
        simp [shsRd, rowOf, hn, castL, Ty.same_self]
      obtain ⟨G', m1, m2, m3, m4, m5⟩ := merge (ins := [.row eT, .t (.i .i64), .t eT.l]) (outs := [.row eT]) hm k1 k2 (us := []) (rs := [.row 1]) (uvals := []) (rvals := [v]) (z := ()) (o2 := []) (b2 := []) hrd1 rfl rfl Rels.nil (Rels.cons k3 Rels.nil)
      exact ⟨v, G', rfl, m1, m2.2 0 _ _ rfl rfl, Rels.nil, m4, m5⟩
end Go.Pv.L06
