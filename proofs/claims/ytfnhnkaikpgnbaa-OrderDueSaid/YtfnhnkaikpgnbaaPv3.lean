/- The engine, part 3: what becomes of memory. -/
import Derived.Test.YtfnhnkaikpgnbaaPv2
namespace Go.Pv
open Go
set_option linter.all false
set_option linter.constructorNameAsVariable false
set_option linter.unusedSectionVars false
set_option linter.unusedVariables false
set_option linter.unusedSimpArgs false
variable {N : List Nat}

theorem cel_alloc_new (w : World) (c : Array Value) (t : TypeId) (k : Nat) : cel (w.alloc (.cells c t)) w.heap.size k = c[k]? := by
  simp [cel]
theorem cel_alloc_old (w : World) (o : Go.Obj) (b k : Nat) (h : b < w.heap.size) : cel (w.alloc o) b k = cel w b k :=
  World.cell?_alloc_lt w o ⟨b, k, none⟩ h
theorem frz_alloc_new (w : World) (c : Array Value) (t : TypeId) (k : Nat) : (frz (w.alloc (.cells c t)) w.heap.size k).1 = false := by
  unfold frz World.frozen?
  dsimp only
  rw [heap_alloc_new]
  simp
theorem frz_alloc_old (w : World) (o : Go.Obj) (b k : Nat) (h : b < w.heap.size) : frz (w.alloc o) b k = frz w b k := by
  have := World.frozen?_alloc_old w o ⟨b, k, none⟩ (Nat.ne_of_lt h)
  simp only [frz, mpo, this, heap_alloc_old w o b h]
theorem cel_lt {w : World} {b k : Nat} (h : (cel w b k).isSome = true) : b < w.heap.size := by
  obtain ⟨v, hv⟩ := Option.isSome_iff_exists.1 h
  exact block_lt_of_cell (a := ⟨b, k, none⟩) hv
theorem cel_set_same (w : World) (b o : Nat) (v : Value) (h : (cel w b o).isSome = true) : cel (w.setCell ⟨b, o, none⟩ v) b o = some v := by
  obtain ⟨u, hu⟩ := Option.isSome_iff_exists.1 h
  exact World.cell?_setCell_same w ⟨b, o, none⟩ v hu
theorem cel_set_other (w : World) (b o b' o' : Nat) (v : Value) (h : ¬ (b' = b ∧ o' = o)) : cel (w.setCell ⟨b, o, none⟩ v) b' o' = cel w b' o' := by
  refine World.cell?_setCell_other w ⟨b, o, none⟩ ⟨b', o', none⟩ v ?_
  intro he
  injection he with h1 h2
  exact h ⟨h1.symm, h2.symm⟩
theorem frz_set (w : World) (b o b' o' : Nat) (v : Value) : frz (w.setCell ⟨b, o, none⟩ v) b' o' = frz w b' o' := by
  simp only [frz, mpo, World.frozen?, World.setCell, Array.getElem?_modify]
  by_cases h : b = b'
  · subst h
    simp only [if_true]
    cases hb : w.heap[b]? with
    | none => simp
    | some ob => cases ob <;> simp
  · simp [h]
theorem heap_set_other (w : World) (b o b' : Nat) (v : Value) (h : b' ≠ b) : (w.setCell ⟨b, o, none⟩ v).heap[b']? = w.heap[b']? := by
  simp only [World.setCell, Array.getElem?_modify]
  simp [Ne.symm h]

theorem Ty.leaves_length : ∀ (t : Ty) (x : t.den), (t.leaves x).length = t.n
  | .b, x => rfl
  | .y8, x => rfl
  | .i _, x => rfl
  | .s, x => rfl
  | .c, x => rfl
  | .l _, x => rfl
  | .p t1 t2, x => by
    show (t1.leaves x.1 ++ t2.leaves x.2).length = t1.n + t2.n
    rw [List.length_append, Ty.leaves_length t1, Ty.leaves_length t2]
  | .w t1, x => Ty.leaves_length t1 x
  | .ex, x => rfl
theorem Ty.n_pos : ∀ (t : Ty), 0 < t.n
  | .b | .y8 | .i _ | .s | .l _ | .ex | .c => by simp [Ty.n]
  | .p t1 t2 => by have := Ty.n_pos t1; simp only [Ty.n]; omega
  | .w t1 => Ty.n_pos t1

theorem in_row {j k l n : Nat} (hj : j < l) (hk : k < n) : j * n + k < l * n := by
  have : (j + 1) * n ≤ l * n := Nat.mul_le_mul_right n hj
  rw [Nat.add_mul] at this
  omega
theorem leaf_lt {e : Ty} {x : e.den} {k : Nat} {v : V} (h : (e.leaves x)[k]? = some v) : k < e.n := by
  have := (List.getElem?_eq_some_iff.1 h).1
  rwa [Ty.leaves_length] at this
theorem elem_lt {α : Type} {xs : List α} {j : Nat} {x : α} (h : xs[j]? = some x) : j < xs.length := (List.getElem?_eq_some_iff.1 h).1

theorem InAt.keep {own own' : Nat → Nat → Prop} {sub sub' : Nat → Nat → Option Nat} {G G' : Gh N} {w w' : World} {e : Ty} {j : Nat} {xs : List e.den} {val : Value} (hs : Subs G w G' w')
    (hk : ∀ b o, own b o → sub b o = some j → own' b o ∧ sub' b o = some j ∧ cel w' b o = cel w b o ∧ frz w' b o = frz w b o) (h : InAt own sub G w e j xs val) : InAt own' sub' G' w' e j xs val := by
  rcases h with h | ⟨b, o, cap, h1, h2, h3, h4⟩
  · exact .inl h
  · refine .inr ⟨b, o, cap, h1, h2, fun k hk' => ?_, fun i x k v hx hv => ?_⟩
    · obtain ⟨p1, p2, p3, p4, p5⟩ := h3 k hk'
      obtain ⟨k1, k2, k3, k4⟩ := hk _ _ p1 p2
      exact ⟨k1, k2, by rw [k4]; exact p3, by rw [k3]; exact p4, p5.keep fun k q => ⟨⟨(hk _ _ q.1 q.2).1, (hk _ _ q.1 q.2).2.1⟩, (hk _ _ q.1 q.2).2.2.2⟩⟩
    · obtain ⟨u, q1, q2⟩ := h4 i x k v hx hv
      have hin : i * e.n + k < cap * e.n := in_row (Nat.lt_of_lt_of_le (elem_lt hx) h2) (leaf_lt hv)
      obtain ⟨p1, p2, _, _⟩ := h3 _ hin
      exact ⟨u, (hk _ _ p1 p2).2.2.1.trans q1, q2.mono hs⟩
theorem RwAt.keep {own own' : Nat → Nat → Prop} {sub : Nat → Nat → Option Nat} {G G' : Gh N} {w w' : World} {e : Ty} {xss : List (List e.den)} {hole : Option Int} {b o cap : Nat} (hs : Subs G w G' w')
    (hk : ∀ b o, own b o → own' b o ∧ cel w' b o = cel w b o ∧ frz w' b o = frz w b o) (h : RwAt own sub G w e xss hole b o cap) : RwAt own' sub G' w' e xss hole b o cap := by
  obtain ⟨h1, h2, h3⟩ := h
  refine ⟨h1, fun k hk' => ?_, fun j xs hj hh => ?_⟩
  · obtain ⟨p1, p2, p3, p4⟩ := h2 k hk'
    obtain ⟨k1, k2, k3⟩ := hk _ _ p1
    exact ⟨k1, p2, by rw [k3]; exact p3, by rw [k2]; exact p4⟩
  · obtain ⟨val, q1, q2⟩ := h3 j xs hj hh
    have hin := h2 j (Nat.lt_of_lt_of_le (elem_lt hj) h1)
    exact ⟨val, (hk _ _ hin.1).2.1.trans q1, q2.keep hs fun b o p q => ⟨(hk b o p).1, q, (hk b o p).2.1, (hk b o p).2.2⟩⟩

theorem Obj.keep {G G' : Gh N} {w w' : World} {id : Nat} {ob : Ob} (hs : Subs G w G' w') (hk : ∀ b o, G.ow b o = some id → G'.ow b o = some id ∧ cel w' b o = cel w b o ∧ frz w' b o = frz w b o)
    (h : Obj G w id ob) : Obj G' w' id ob := by
  cases ob with
  | box vs =>
    obtain ⟨b, o, hρ, hc⟩ := h
    refine ⟨b, o, hs.ρ _ _ hρ, fun k v hv => ?_⟩
    obtain ⟨h1, h2, val, h3, h4⟩ := hc k v hv
    obtain ⟨k1, k2, k3⟩ := hk _ _ h1
    exact ⟨k1, by rw [k3]; exact h2, val, k2.trans h3, h4.mono hs⟩
  | row e xs =>
    rcases h with ⟨hρ, hx⟩ | ⟨b, o, cap, hρ, hl, hc, hv⟩
    · exact .inl ⟨hs.ρ _ _ hρ, hx⟩
    · refine .inr ⟨b, o, cap, hs.ρ _ _ hρ, hl, fun k hk' => ?_, fun j x k v hx hv' => ?_⟩
      · obtain ⟨h1, h2, h3, h4⟩ := hc k hk'
        obtain ⟨k1, k2, k3⟩ := hk _ _ h1
        exact ⟨k1, by rw [k3]; exact h2, by rw [k2]; exact h3, h4.keep fun k q => ⟨(hk _ _ q).1, (hk _ _ q).2.2⟩⟩
      · obtain ⟨val, h3, h4⟩ := hv j x k v hx hv'
        have hin : j * e.n + k < cap * e.n := in_row (Nat.lt_of_lt_of_le (elem_lt hx) hl) (leaf_lt hv')
        exact ⟨val, (hk _ _ (hc _ hin).1).2.1.trans h3, h4.mono hs⟩
  | fro e xs =>
    obtain ⟨v, h1, h2⟩ := h
    exact ⟨v, hs.ρ _ _ h1, h2.mono hs⟩
  | mp es =>
    obtain ⟨b, h1, h2, h3⟩ := h
    exact ⟨b, hs.ρ _ _ h1, fun o => (hk _ _ (h2 o)).1, by rw [(hk _ _ (h2 0)).2.2]; exact h3⟩
  | dead =>
    obtain ⟨v, h1⟩ := h
    exact ⟨v, hs.ρ _ _ h1⟩
  | rw e xss hole =>
    obtain ⟨b, o, cap, sub, h1, h2⟩ := h
    exact ⟨b, o, cap, sub, hs.ρ _ _ h1, h2.keep hs hk⟩

/-- Nothing in memory changes that anybody knows of: what is drawn. -/
theorem Subs.of_heap {G : Gh N} {w w' : World} (h : w'.heap = w.heap) : Subs G w G w' := ⟨fun b o k => ⟨k, by simp [cel, World.cell?, h]⟩, fun _ _ k => k⟩
theorem Ext.of_heap {G : Gh N} {w w' : World} (h : w'.heap = w.heap) (hr : Rest w w') : Ext G w G w' :=
  ⟨fun _ _ k => k, by rw [h]; exact Nat.le_refl _, fun b o _ k => ⟨k, by simp [cel, World.cell?, h], by simp [frz, mpo, World.frozen?, h]⟩, fun b _ _ => by rw [h], fun _ _ _ k => .inl k, hr⟩
theorem Mem.of_heap {G : Gh N} {w w' : World} {h : List Ob} (hh : w'.heap = w.heap) (hm : Mem G w h) : Mem G w' h := by
  refine ⟨hm.len, hm.one, fun id ob hi => Obj.keep (Subs.of_heap hh) (fun b o k => ⟨k, by simp [cel, World.cell?, hh], by simp [frz, mpo, World.frozen?, hh]⟩) (hm.obj id ob hi), ?_, ?_, gl_sub (Subs.of_heap hh) hm.gl⟩
  · rw [hh]; exact hm.I
  · rw [hh]; exact hm.ow

/-- A new block, and a new object. -/
def Gh.push (G : Gh N) (b : Nat) (v : Value) : Gh N := ⟨G.ρ ++ [v], fun b' o => if b' = b then some G.ρ.length else G.ow b' o, G.I⟩

theorem Gh.push_old {G : Gh N} {b : Nat} {v : Value} {id : Nat} {u : Value} (h : G.ρ[id]? = some u) : (G.push b v).ρ[id]? = some u := by
  have := (List.getElem?_eq_some_iff.1 h).1
  simp only [Gh.push]
  rw [List.getElem?_append_left this]
  exact h
theorem Gh.push_new {G : Gh N} {b : Nat} {v : Value} : (G.push b v).ρ[G.ρ.length]? = some v := by simp [Gh.push]

theorem sub_push {G : Gh N} {w w' : World} {h : List Ob} (hm : Mem G w h) (v : Value) (hc : ∀ b o, b < w.heap.size → cel w' b o = cel w b o) : Subs G w (G.push w.heap.size v) w' :=
  ⟨fun b o k => ⟨k, hc _ _ (hm.I _ _ k).2⟩, fun _ _ k => Gh.push_old k⟩

theorem mem_push {G : Gh N} {w w' : World} {h : List Ob} (hm : Mem G w h) {v : Value} {ob : Ob} (hv : v.oneCell' = true) (hsz : w'.heap.size = w.heap.size + 1) (hrest : Rest w w')
    (hc : ∀ b o, b < w.heap.size → cel w' b o = cel w b o ∧ frz w' b o = frz w b o) (hb : ∀ b, b < w.heap.size → w'.heap[b]? = w.heap[b]?) (ho : Obj (G.push w.heap.size v) w' h.length ob) :
    Mem (G.push w.heap.size v) w' (h ++ [ob]) ∧ Subs G w (G.push w.heap.size v) w' ∧ Ext G w (G.push w.heap.size v) w' := by
  have hs := sub_push hm v (fun b o k => (hc b o k).1)
  refine ⟨⟨by simp [Gh.push, hm.len], fun id u hu => ?_, fun id o' hi => ?_, fun b o k => ?_, fun b o id k => ?_, gl_sub hs hm.gl⟩, hs, ⟨fun _ _ k => k, by omega, fun b o k1 k2 => ?_, fun b k1 k2 => hb b k1, fun _ _ _ k => .inl k, hrest⟩⟩
  · simp only [Gh.push] at hu
    rcases Nat.lt_or_ge id G.ρ.length with hlt | hge
    · rw [List.getElem?_append_left hlt] at hu
      exact hm.one _ _ hu
    · rw [List.getElem?_append_right hge] at hu
      have : u = v := by
        cases hd : id - G.ρ.length with
        | zero => rw [hd] at hu; simpa using hu.symm
        | succ n => rw [hd] at hu; simp at hu
      rw [this]; exact hv
  · rcases Nat.lt_or_ge id h.length with hlt | hge
    · rw [List.getElem?_append_left hlt] at hi
      refine Obj.keep hs (fun b o k => ?_) (hm.obj id o' hi)
      have hb := (hm.ow _ _ _ k).2
      refine ⟨?_, hc _ _ hb⟩
      simp only [Gh.push]
      rw [if_neg (Nat.ne_of_lt hb)]
      exact k
    · rw [List.getElem?_append_right hge] at hi
      cases hd : id - h.length with
      | zero =>
        rw [hd] at hi
        have : o' = ob := by simpa using hi.symm
        rw [this, show id = h.length by omega]
        exact ho
      | succ n => rw [hd] at hi; simp at hi
  · have := hm.I b o k
    refine ⟨?_, by omega⟩
    simp only [Gh.push]
    rw [if_neg (Nat.ne_of_lt this.2)]
    exact this.1
  · simp only [Gh.push] at k
    rw [List.length_append, List.length_singleton]
    split at k
    · injection k with k
      have := hm.len
      omega
    · have := hm.ow _ _ _ k
      omega
  · refine ⟨?_, hc b o k1⟩
    simp only [Gh.push]
    rw [if_neg (Nat.ne_of_lt k1)]
    exact k2

/-- An object of its own changes where it lies. -/
theorem mem_upd {G : Gh N} {w w' : World} {h : List Ob} (hm : Mem G w h) {id : Nat} {ob : Ob} (hsz : w'.heap.size = w.heap.size) (hrest : Rest w w')
    (hc : ∀ b o, G.ow b o ≠ some id → cel w' b o = cel w b o) (hf : ∀ b o, G.ow b o ≠ some id → frz w' b o = frz w b o) (hb : ∀ b, (∀ o, G.ow b o = none) → w'.heap[b]? = w.heap[b]?) (ho : Obj G w' id ob) :
    Mem G w' (h.set id ob) ∧ Subs G w G w' ∧ Ext G w G w' := by
  have hs : Subs G w G w' := ⟨fun b o k => ⟨k, hc _ _ (by rw [(hm.I _ _ k).1]; simp)⟩, fun _ _ k => k⟩
  refine ⟨⟨by rw [List.length_set]; exact hm.len, hm.one, fun i o' hi => ?_, fun b o k => by rw [hsz]; exact hm.I _ _ k, fun b o i k => by rw [hsz, List.length_set]; exact hm.ow _ _ _ k, gl_sub hs hm.gl⟩, hs, ⟨fun _ _ k => k, by omega, fun b o k1 k2 => ⟨k2, hc _ _ (by rw [k2]; simp), hf _ _ (by rw [k2]; simp)⟩, fun b _ k2 => hb b k2, fun _ _ _ k => .inl k, hrest⟩⟩
  by_cases he : i = id
  · subst he
    have hlt : i < h.length := by have := (List.getElem?_eq_some_iff.1 hi).1; rwa [List.length_set] at this
    rw [List.getElem?_set_self hlt] at hi
    injection hi with hi
    rw [← hi]
    exact ho
  · rw [List.getElem?_set_ne (Ne.symm he)] at hi
    exact Obj.keep hs (fun b o k => ⟨k, hc _ _ (by rw [k]; intro h; injection h with h; exact he h), hf _ _ (by rw [k]; intro h; injection h with h; exact he h)⟩) (hm.obj _ _ hi)

/-- .. for what is told of objects alone (the same memory). -/
theorem mem_same {G : Gh N} {w : World} {h : List Ob} (hm : Mem G w h) {id : Nat} {ob : Ob} (ho : Obj G w id ob) : Mem G w (h.set id ob) :=
  (mem_upd hm rfl (Rest.refl _) (fun _ _ _ => rfl) (fun _ _ _ => rfl) (fun _ _ => rfl) ho).1

/-- A row is only read from now on. -/
def Gh.freeze (G : Gh N) (id : Nat) : Gh N := ⟨G.ρ, fun b o => if G.ow b o = some id then none else G.ow b o, fun b o => G.I b o ∨ G.ow b o = some id⟩

theorem sub_freeze (G : Gh N) (w : World) (id : Nat) : Subs G w (G.freeze id) w := ⟨fun _ _ k => ⟨.inl k, rfl⟩, fun _ _ k => k⟩

theorem row_list {G : Gh N} {w : World} {id : Nat} {e : Ty} {xs : List e.den} (h : Obj G w id (.row e xs)) : ∃ v, G.ρ[id]? = some v ∧ Rel (G.freeze id) w (.l e xs) v := by
  rcases h with ⟨hρ, hx⟩ | ⟨b, o, cap, hρ, hl, hc, hv⟩
  · subst hx
    exact ⟨_, hρ, .lnil e none 0⟩
  · refine ⟨_, hρ, .l e xs b o cap (fun k => (cel w b (o + k)).getD undef) hl (fun j x k v hx hv' => ?_) (fun j x k v hx hv' => ?_)⟩
    · obtain ⟨val, h3, h4⟩ := hv j x k v hx hv'
      have hin : j * e.n + k < cap * e.n := in_row (Nat.lt_of_lt_of_le (elem_lt hx) hl) (leaf_lt hv')
      exact ⟨.inr (hc _ hin).1, by rw [h3]; rfl⟩
    · obtain ⟨val, h3, h4⟩ := hv j x k v hx hv'
      rw [h3]
      exact h4.mono (sub_freeze G w id)

theorem mem_freeze {G : Gh N} {w : World} {h : List Ob} (hm : Mem G w h) {id : Nat} {e : Ty} {xs : List e.den} (hi : h[id]? = some (.row e xs)) :
    Mem (G.freeze id) w (h.set id (.fro e xs)) ∧ Subs G w (G.freeze id) w ∧ Ext G w (G.freeze id) w := by
  have hs := sub_freeze G w id
  refine ⟨⟨by rw [List.length_set]; exact hm.len, hm.one, fun i o' hi' => ?_, fun b o k => ?_, fun b o i k => ?_, gl_sub hs hm.gl⟩, hs, ⟨fun _ _ k => .inl k, Nat.le_refl _, fun b o k1 k2 => ⟨?_, rfl, rfl⟩, fun b _ _ => rfl, fun b o _ k => k.elim .inl fun q => .inr (by rw [q]; simp), Rest.refl _⟩⟩
  · by_cases he : i = id
    · subst he
      have hlt : i < h.length := (List.getElem?_eq_some_iff.1 hi).1
      rw [List.getElem?_set_self hlt] at hi'
      injection hi' with hi'
      rw [← hi']
      exact row_list (hm.obj _ _ hi)
    · rw [List.getElem?_set_ne (Ne.symm he)] at hi'
      refine Obj.keep hs (fun b o k => ⟨?_, rfl, rfl⟩) (hm.obj _ _ hi')
      simp only [Gh.freeze]
      rw [if_neg (by rw [k]; intro h; injection h with h; exact he h)]
      exact k
  · rcases k with k | k
    · have := hm.I b o k
      refine ⟨?_, this.2⟩
      simp only [Gh.freeze]
      rw [if_neg (by rw [this.1]; simp)]
      exact this.1
    · refine ⟨?_, (hm.ow _ _ _ k).2⟩
      simp only [Gh.freeze]
      rw [if_pos k]
  · simp only [Gh.freeze] at k
    rw [List.length_set]
    split at k
    · cases k
    · exact hm.ow _ _ _ k
  · simp only [Gh.freeze]
    rw [if_neg (by rw [k2]; simp)]
    exact k2

end Go.Pv
