/- The engine, part 10: values read by their shapes. -/
import Derived.Test.YtfnhnkaikpgnbaaPv9
namespace Go.Pv
open Go
set_option linter.all false
set_option linter.constructorNameAsVariable false
set_option linter.unusedSectionVars false
set_option linter.unusedVariables false
set_option linter.unusedSimpArgs false
variable {N : List Nat}

def V.imm : V → Bool
  | .u | .b _ | .i .. | .s _ | .f _ | .c .. | .nil | .l .. | .np => true
  | _ => false

theorem leaves_imm : ∀ (t : Ty) (x : t.den) (v : V), v ∈ t.leaves x → v.imm = true
  | .b, x, v, h => by simp [Ty.leaves] at h; subst h; rfl
  | .y8, x, v, h => by simp [Ty.leaves] at h; subst h; rfl
  | .i k, x, v, h => by simp [Ty.leaves] at h; subst h; rfl
  | .s, x, v, h => by simp [Ty.leaves] at h; subst h; rfl
  | .c, x, v, h => by simp [Ty.leaves] at h; subst h; rfl
  | .l e, x, v, h => by simp [Ty.leaves] at h; subst h; rfl
  | .p t1 t2, x, v, h => by
    simp only [Ty.leaves, List.mem_append] at h
    rcases h with h | h
    · exact leaves_imm t1 _ v h
    · exact leaves_imm t2 _ v h
  | .w t1, x, v, h => leaves_imm t1 x v h
  | .ex, x, v, h => by
    simp only [Ty.leaves, List.mem_cons, List.not_mem_nil, or_false] at h
    rcases h with rfl | rfl | rfl | rfl | rfl | rfl | rfl <;> rfl

/-- What has no objects is what it is wherever its cells may be read. -/
theorem Rel.immTo {G Gt : Gh N} {w : World} (hI : ∀ b o, G.I b o → Gt.I b o) {v : V} {val : Value} (h : Rel G w v val) : v.imm = true → Rel Gt w v val := by
  induction h with
  | u v => exact fun _ => .u v
  | b x => exact fun _ => .b x
  | i k n h => exact fun _ => .i k n h
  | s x => exact fun _ => .s x
  | f x => exact fun _ => .f x
  | c a b => exact fun _ => .c a b
  | nil => exact fun _ => .nil
  | lnil e A cap => exact fun _ => .lnil e A cap
  | l e xs b o cap f hc hm _ ih =>
    refine fun _ => .l e xs b o cap f hc (fun j x k v hx hv => ?_) (fun j x k v hx hv => ih j x k v hx hv (leaves_imm e x v (List.mem_of_getElem? hv)))
    have := hm j x k v hx hv
    exact ⟨hI _ _ this.1, this.2⟩
  | np => exact fun _ => .np
  | _ => intro k; simp [V.imm] at k

theorem RwAt.toOf {own own' : Nat → Nat → Prop} {sub : Nat → Nat → Option Nat} {G Gt : Gh N} {w : World} {e : Ty} {xss : List (List e.den)} {hole : Option Int} {b o cap : Nat} (h : RwAt own sub G w e xss hole b o cap)
    (hI : ∀ b o, G.I b o → Gt.I b o) (ho : ∀ b o, own b o → own' b o) : RwAt own' sub Gt w e xss hole b o cap := by
  obtain ⟨h1, h2, h3⟩ := h
  refine ⟨h1, fun k hk => ⟨ho _ _ (h2 k hk).1, (h2 k hk).2⟩, fun j xs hj hh => ?_⟩
  obtain ⟨val, q1, q2⟩ := h3 j xs hj hh
  refine ⟨val, q1, ?_⟩
  rcases q2 with q2 | ⟨b', o', cap', p1, p2, p3, p4⟩
  · exact .inl q2
  · refine .inr ⟨b', o', cap', p1, p2, fun k hk => ⟨ho _ _ (p3 k hk).1, (p3 k hk).2.1, (p3 k hk).2.2.1, (p3 k hk).2.2.2.1, (p3 k hk).2.2.2.2.keep fun _ q => ⟨⟨ho _ _ q.1, q.2⟩, rfl⟩⟩, fun i x k v hx hv => ?_⟩
    obtain ⟨u, r1, r2⟩ := p4 i x k v hx hv
    exact ⟨u, r1, r2.immTo hI (leaves_imm e x v (List.mem_of_getElem? hv))⟩

theorem mem_rowsIn {h : List Ob} {e : Ty} {xs : List e.den} : ∀ {vs : List V} {k : Nat} {id : Nat}, vs[k]? = some (.row id) → h[id]? = some (.row e xs) → id ∈ rowsIn h vs
  | [], k, id, hv, hi => by simp at hv
  | v :: vs, k, id, hv, hi => by
    have step : ∀ {k : Nat}, vs[k]? = some (V.row id) → id ∈ rowsIn h vs := fun hk => mem_rowsIn hk hi
    have into : id ∈ rowsIn h vs → id ∈ rowsIn h (v :: vs) := by
      intro hm
      cases v with
      | row id' =>
        simp only [rowsIn]
        split
        · exact List.mem_cons_of_mem _ hm
        · exact hm
      | _ => exact hm
    cases k with
    | zero =>
      simp at hv
      subst hv
      simp only [rowsIn, nth_eq, hi]
      exact List.mem_cons_self ..
    | succ k => exact into (step (by simpa using hv))

section
variable {G Gt : Gh N} {w : World} {h : List Ob}

/-- A value with its rows read. -/
theorem imm1_to (hm : Mem G w h) (hI : ∀ b o, G.I b o → Gt.I b o) {v : V} {val : Value} (hv : Rel G w v val) (hB : ∀ id, v = .row id → ∀ (e : Ty) (xs : List e.den), h[id]? = some (.row e xs) → ∀ b o, G.ow b o = some id → Gt.I b o) :
    (imm1 h v).imm = true → Rel Gt w (imm1 h v) val := by
  cases v with
  | row id =>
    simp only [imm1, nth_eq]
    cases hv with
    | row _ _ hρ =>
      split
      · rename_i e xs hi
        intro _
        obtain ⟨v, k1, k2⟩ := row_list (hm.obj _ _ hi)
        rw [hρ] at k1
        injection k1 with k1
        subst k1
        refine k2.immTo (fun b o k => ?_) rfl
        rcases k with k | k
        · exact hI _ _ k
        · exact hB id rfl e xs hi b o k
      · rename_i e xs hi
        intro _
        obtain ⟨v, k1, k2⟩ := hm.obj _ _ hi
        rw [hρ] at k1
        injection k1 with k1
        subst k1
        exact k2.immTo hI rfl
      · exact fun _ => .u _
  | _ => exact hv.immTo hI

/-- Composed of cells that were read: typed. -/
theorem comp_imm : ∀ (t : Ty) {vs : List V} {x : t.den} {r : List V}, t.comp vs = some (x, r) → ∀ (k : Nat) (u : V), k < t.n → vs[k]? = some u → u.imm = true := by
  intro t
  have one : ∀ {α : Type} {f : V → Option α} (hf : ∀ u x, f u = some x → u.imm = true) {vs : List V} {x : α} {r : List V},
      (∃ u, vs = u :: r ∧ f u = some x) → ∀ (k : Nat) (u : V), k < 1 → vs[k]? = some u → u.imm = true := by
    rintro α f hf vs x r ⟨u, rfl, hy⟩ k u' hk hu
    have : k = 0 := by omega
    subst this
    simp at hu
    subst hu
    exact hf _ _ hy
  have hB : ∀ u x, asB u = some x → u.imm = true := fun u x h => by cases u <;> simp [asB] at h <;> rfl
  have hII : ∀ k u x, asI k u = some x → u.imm = true := fun k u x h => by cases u <;> simp [asI] at h <;> rfl
  have hS : ∀ u x, asS u = some x → u.imm = true := fun u x h => by cases u <;> simp [asS] at h <;> rfl
  have hC : ∀ u x, asC u = some x → u.imm = true := fun u x h => by cases u <;> simp [asC] at h <;> rfl
  have hL : ∀ (e : Ty) u (x : List e.den), asL e u = some x → u.imm = true := fun e u x h => by cases u <;> simp [asL] at h <;> rfl
  induction t with
  | p t1 t2 ih1 ih2 =>
    intro vs x r hc k u hk hu
    simp only [Ty.comp] at hc
    split at hc
    · rename_i x1 r1 h1
      split at hc
      · rename_i x2 r2 h2
        obtain ⟨a1, a2, _⟩ := comp_ok (N := []) t1 h1
        by_cases hlt : k < t1.n
        · exact ih1 h1 k u hlt hu
        · simp only [Ty.n] at hk
          refine ih2 h2 (k - t1.n) u (by omega) ?_
          rw [a2, List.getElem?_drop, show t1.n + (k - t1.n) = k by omega]
          exact hu
      · cases hc
    · cases hc
  | w t1 ih1 => intro vs x r hc k u hk hu; exact ih1 hc k u hk hu
  | ex =>
    intro vs x r hc k u hk hu
    simp only [Ty.comp] at hc
    split at hc
    · rename_i v1 v2 v3 v4 v5 v6 v7 r'
      split at hc
      · rename_i x1 x2 x3 x4 x5 x6 x7 h1 h2 h3 h4 h5 h6 h7
        match k, hk with
        | 0, _ => simp at hu; subst hu; exact hII _ _ _ h1
        | 1, _ => simp at hu; subst hu; exact hII _ _ _ h2
        | 2, _ => simp at hu; subst hu; exact hII _ _ _ h3
        | 3, _ => simp at hu; subst hu; exact hS _ _ h4
        | 4, _ => simp at hu; subst hu; exact hS _ _ h5
        | 5, _ => simp at hu; subst hu; exact hS _ _ h6
        | 6, _ => simp at hu; subst hu; exact hL _ _ _ h7
        | k + 7, hk => simp [Ty.n] at hk; omega
      · cases hc
    · cases hc
  | _ =>
    intro vs x r hc k u hk hu
    first
      | refine one hB (x := x) (r := r) ?_ k u hk hu
      | refine one (hII _) (x := x) (r := r) ?_ k u hk hu
      | refine one hS (x := x) (r := r) ?_ k u hk hu
      | refine one (hL _) (x := x) (r := r) ?_ k u hk hu
      | skip
    all_goals
      cases vs with
      | nil => simp [Ty.comp] at hc
      | cons u' vs =>
        simp only [Ty.comp] at hc
        split at hc
        · rename_i y hy
          simp only [Option.some.injEq, Prod.mk.injEq] at hc
          obtain ⟨rfl, rfl⟩ := hc
          first
            | exact ⟨u', rfl, hy⟩
            | (have : k = 0 := by simp [Ty.n] at hk; exact hk
               subst this; simp at hu; subst hu; first | exact hII _ _ _ hy | exact hC _ _ hy)
        · cases hc

/-- Typed cells, read through their rows. -/
theorem comp1_to (hm : Mem G w h) (hI : ∀ b o, G.I b o → Gt.I b o) {t : Ty} {vs : List V} {x : t.den} (hc : t.comp1 (vs.map (imm1 h)) = some x) {f : Nat → Value} (hv : ∀ (k : Nat) (v : V), vs[k]? = some v → Rel G w v (f k))
    (hB : ∀ id, id ∈ rowsIn h vs → ∀ b o, G.ow b o = some id → Gt.I b o) : vs.length = t.n ∧ ∀ (k : Nat) (v : V), (t.leaves x)[k]? = some v → Rel Gt w v (f k) := by
  obtain ⟨h1, h2⟩ := comp1_ok hc
  rw [List.length_map] at h1
  refine ⟨h1, fun k v hk => ?_⟩
  have hlt := leaf_lt hk
  have hu : vs[k]? = some vs[k] := List.getElem?_eq_getElem (by omega)
  have hmu : (vs.map (imm1 h))[k]? = some (imm1 h vs[k]) := by rw [List.getElem?_map, hu]; rfl
  have himm : (imm1 h vs[k]).imm = true := by
    unfold Ty.comp1 at hc
    split at hc
    · rename_i y hy
      exact comp_imm t hy k _ hlt hmu
    · cases hc
  exact h2 k v _ (f k) hk hmu (imm1_to hm hI (hv k _ hu) (fun id he e xs hi b o ho => hB id (mem_rowsIn (by rw [hu, he]) hi) b o ho) himm)

/-- What a reading takes: the objects' values from a place on. -/
def ρAt (G Gt : Gh N) (j : Nat) (o : List (Option Nat)) : Prop := ∀ (k : Nat) (i : Option Nat), o[k]? = some i → match i with
  | some id => ∀ v, G.ρ[id]? = some v → Gt.ρ[j + k]? = some v
  | none => Gt.ρ[j + k]? = some (.slice none 0 0)
def owAt (G Gt : Gh N) (j : Nat) (o : List (Option Nat)) : Prop := ∀ (k : Nat) (id : Nat), o[k]? = some (some id) → ∀ b' o', G.ow b' o' = some id → Gt.ow b' o' = some (j + k)

theorem ρAt.cons {j : Nat} {i : Option Nat} {o : List (Option Nat)} (h : ρAt G Gt j (i :: o)) : ρAt G Gt (j + 1) o := fun k i' hk => by
  have := h (k + 1) i' (by simpa using hk)
  rw [show j + 1 + k = j + (k + 1) by omega]
  exact this
theorem owAt.cons {j : Nat} {i : Option Nat} {o : List (Option Nat)} (h : owAt G Gt j (i :: o)) : owAt G Gt (j + 1) o := fun k i' hk => by
  have := h (k + 1) i' (by simpa using hk)
  rw [show j + 1 + k = j + (k + 1) by omega]
  exact this
theorem ρAt.right {j : Nat} {o o' : List (Option Nat)} (h : ρAt G Gt j (o ++ o')) : ρAt G Gt (j + o.length) o' := fun k i' hk => by
  have := h (o.length + k) i' (by rw [List.getElem?_append_right (by omega)]; simpa using hk)
  rw [show j + o.length + k = j + (o.length + k) by omega]
  exact this
theorem owAt.right {j : Nat} {o o' : List (Option Nat)} (h : owAt G Gt j (o ++ o')) : owAt G Gt (j + o.length) o' := fun k i' hk => by
  have := h (o.length + k) i' (by rw [List.getElem?_append_right (by omega)]; simpa using hk)
  rw [show j + o.length + k = j + (o.length + k) by omega]
  exact this
theorem ρAt.left {j : Nat} {o o' : List (Option Nat)} (h : ρAt G Gt j (o ++ o')) : ρAt G Gt j o := fun k i' hk => h k i' (by rw [List.getElem?_append_left (List.getElem?_eq_some_iff.1 hk).1]; exact hk)
theorem owAt.left {j : Nat} {o o' : List (Option Nat)} (h : owAt G Gt j (o ++ o')) : owAt G Gt j o := fun k i' hk => h k i' (by rw [List.getElem?_append_left (List.getElem?_eq_some_iff.1 hk).1]; exact hk)

def Objs (G : Gh N) (w : World) (j : Nat) (obs : List Ob) : Prop := ∀ (k : Nat) (ob : Ob), obs[k]? = some ob → Obj G w (j + k) ob
theorem Objs.cons {j : Nat} {ob : Ob} {obs : List Ob} (h0 : Obj G w j ob) (h : Objs G w (j + 1) obs) : Objs G w j (ob :: obs) := fun k o hk => by
  cases k with
  | zero => simp at hk; subst hk; exact h0
  | succ k => have := h k o (by simpa using hk); rwa [show j + 1 + k = j + (k + 1) by omega] at this
theorem Objs.app {j : Nat} {obs obs' : List Ob} (h0 : Objs G w j obs) (h : Objs G w (j + obs.length) obs') : Objs G w j (obs ++ obs') := fun k o hk => by
  rcases Nat.lt_or_ge k obs.length with hlt | hge
  · rw [List.getElem?_append_left hlt] at hk; exact h0 k o hk
  · rw [List.getElem?_append_right hge] at hk
    have := h _ o hk
    rwa [show j + obs.length + (k - obs.length) = j + k by omega] at this

/-- A row read as a row. -/
theorem rowOf_ok (hm : Mem G w h) (hI : ∀ b o, G.I b o → Gt.I b o) {e : Ty} {v : V} {xs : List e.den} {i : Option Nat} (hr : rowOf h e v = some (xs, i)) {val : Value} (hv : Rel G w v val) {j : Nat} {o : List (Option Nat)} (hρ : ρAt G Gt j (i :: o)) (how : owAt G Gt j (i :: o)) :
    Rel Gt w (.row j) val ∧ Obj Gt w j (.row e xs) := by
  unfold rowOf at hr
  split at hr
  · rename_i id
    rw [nth_eq] at hr
    split at hr
    · rename_i e' ys hi
      split at hr
      · rename_i zs hc
        simp only [Option.some.injEq, Prod.mk.injEq] at hr
        obtain ⟨rfl, rfl⟩ := hr
        obtain ⟨he, hy⟩ := castL_some hc
        subst he
        subst hy
        cases hv with
        | row _ _ hρv =>
          have h0 := hρ 0 _ rfl val hρv
          refine ⟨.row _ _ h0, ?_⟩
          rcases hm.obj _ _ hi with ⟨h1, h2⟩ | ⟨b, oo, cap, h1, h2, h3, h4⟩
          · rw [hρv] at h1
            injection h1 with h1
            subst h1
            exact .inl ⟨h0, h2⟩
          · rw [hρv] at h1
            injection h1 with h1
            subst h1
            refine .inr ⟨b, oo, cap, h0, h2, fun k hk => ?_, fun j' x k v hx hv => ?_⟩
            · obtain ⟨q1, q2, q3, q5⟩ := h3 k hk
              exact ⟨how 0 id rfl _ _ q1, q2, q3, q5.keep fun _ q => ⟨how 0 id rfl _ _ q, rfl⟩⟩
            · obtain ⟨val', q1, q2⟩ := h4 j' x k v hx hv
              exact ⟨val', q1, q2.immTo hI (leaves_imm _ x v (List.mem_of_getElem? hv))⟩
      · cases hr
    · cases hr
  · simp only [Option.some.injEq, Prod.mk.injEq] at hr
    obtain ⟨rfl, rfl⟩ := hr
    cases hv
    have h0 := hρ 0 none rfl
    exact ⟨.row _ _ h0, .inl ⟨h0, rfl⟩⟩
  · cases hr

/-- A box's cells read by their shape. -/
theorem lfsRd_ok (hm : Mem G w h) (hI : ∀ b o, G.I b o → Gt.I b o) : ∀ (fs : List Lf) {vs : List V} {x : lfsDen fs} {o : List (Option Nat)} {b : List Nat}, lfsRd h fs vs = some (x, o, b) → ∀ {f : Nat → Value}, (∀ (k : Nat) (v : V), vs[k]? = some v → Rel G w v (f k)) →
    (∀ id, id ∈ b → ∀ b' o', G.ow b' o' = some id → Gt.I b' o') → ∀ (j : Nat), ρAt G Gt j o → owAt G Gt j o →
    (lfsMk j fs x).1.length = vs.length ∧ (lfsMk j fs x).2.length = o.length ∧ (∀ (k : Nat) (v : V), (lfsMk j fs x).1[k]? = some v → Rel Gt w v (f k)) ∧ Objs Gt w j (lfsMk j fs x).2
  | [], vs, x, o, b, hr, f, hv, hB, j, hρ, how => by
    cases vs with
    | nil =>
      simp only [lfsRd, Option.some.injEq, Prod.mk.injEq] at hr
      obtain ⟨_, rfl, _⟩ := hr
      exact ⟨rfl, rfl, fun k v hk => by simp [lfsMk] at hk, fun k ob hk => by simp [lfsMk] at hk⟩
    | cons => simp [lfsRd] at hr
  | .t τ :: r, vs, x, o, b, hr, f, hv, hB, j, hρ, how => by
    simp only [lfsRd] at hr
    split at hr
    · rename_i y hle hc
      have hle := Nat.le_of_ble_eq_true hle
      split at hr
      · rename_i z o' b' hz
        simp only [Option.some.injEq, Prod.mk.injEq] at hr
        obtain ⟨rfl, rfl, rfl⟩ := hr
        obtain ⟨c1, c2⟩ := comp1_to hm hI hc (f := f) (fun k v hk => by
          rw [List.getElem?_take] at hk
          split at hk
          · exact hv k v hk
          · cases hk) (fun id hid => hB id (List.mem_append_left _ hid))
        obtain ⟨d1, d2, d3, d4⟩ := lfsRd_ok hm hI r hz (f := fun k => f (τ.n + k)) (fun k v hk => by
          rw [List.getElem?_drop] at hk
          exact hv _ v hk) (fun id hid => hB id (List.mem_append_right _ hid)) j hρ how
        refine ⟨?_, d2, fun k v hk => ?_, d4⟩
        · simp only [lfsMk, List.length_append, Ty.leaves_length]
          rw [d1, List.length_drop]
          omega
        · simp only [lfsMk] at hk
          by_cases hlt : k < τ.n
          · rw [List.getElem?_append_left (by rw [Ty.leaves_length]; exact hlt)] at hk
            exact c2 k v hk
          · rw [List.getElem?_append_right (by rw [Ty.leaves_length]; omega), Ty.leaves_length] at hk
            have := d3 _ v hk
            rwa [show τ.n + (k - τ.n) = k by omega] at this
      · cases hr
    · cases hr
  | .row e :: r, vs, x, o, b, hr, f, hv, hB, j, hρ, how => by
    cases vs with
    | nil => simp [lfsRd] at hr
    | cons v vs =>
      simp only [lfsRd] at hr
      split at hr
      · rename_i xs i hrow
        split at hr
        · rename_i z o' b' hz
          simp only [Option.some.injEq, Prod.mk.injEq] at hr
          obtain ⟨rfl, rfl, rfl⟩ := hr
          obtain ⟨c1, c2⟩ := rowOf_ok hm hI hrow (hv 0 v rfl) hρ how
          obtain ⟨d1, d2, d3, d4⟩ := lfsRd_ok hm hI r hz (f := fun k => f (k + 1)) (fun k v hk => hv _ v (by simpa using hk)) hB (j + 1) hρ.cons how.cons
          refine ⟨by simp only [lfsMk, List.length_cons, d1], by simp only [lfsMk, List.length_cons, d2], fun k v hk => ?_, Objs.cons c2 d4⟩
          simp only [lfsMk] at hk
          cases k with
          | zero => simp at hk; subst hk; exact c1
          | succ k => exact d3 k v (by simpa using hk)
        · cases hr
      · cases hr

/-- Values beside one another. -/
def Rels (G : Gh N) (w : World) (vs : List V) (vals : List Value) : Prop := vs.length = vals.length ∧ ∀ (k : Nat) (v : V) (val : Value), vs[k]? = some v → vals[k]? = some val → Rel G w v val
theorem Rels.head {v : V} {vs : List V} {val : Value} {vals : List Value} (h : Rels G w (v :: vs) (val :: vals)) : Rel G w v val := h.2 0 _ _ rfl rfl
theorem Rels.tail {v : V} {vs : List V} {val : Value} {vals : List Value} (h : Rels G w (v :: vs) (val :: vals)) : Rels G w vs vals := ⟨by simpa using h.1, fun k u x hu hx => h.2 (k + 1) u x (by simpa using hu) (by simpa using hx)⟩
theorem Rels.cons {v : V} {vs : List V} {val : Value} {vals : List Value} (h0 : Rel G w v val) (h : Rels G w vs vals) : Rels G w (v :: vs) (val :: vals) :=
  ⟨by simp [h.1], fun k u x hu hx => by
    cases k with
    | zero => simp at hu hx; subst hu; subst hx; exact h0
    | succ k => exact h.2 k u x (by simpa using hu) (by simpa using hx)⟩
theorem Rels.nil : Rels G w [] [] := ⟨rfl, fun k u x hu => by simp at hu⟩

theorem tysComp_ok : ∀ (ts : List Ty) {vs : List V} {x : tysDen ts}, tysComp ts vs = some x → vs.length = (tysLeaves ts x).length ∧ (∀ (k : Nat) (u : V), vs[k]? = some u → u.imm = true) ∧
    ∀ {G : Gh N} {w : World} (k : Nat) (v u : V) (val : Value), (tysLeaves ts x)[k]? = some v → vs[k]? = some u → Rel G w u val → Rel G w v val
  | [], vs, x, hc => by
    cases vs with
    | nil => exact ⟨rfl, fun k u hu => by simp at hu, fun k v u val hv => by simp [tysLeaves] at hv⟩
    | cons => simp [tysComp] at hc
  | t :: r, vs, x, hc => by
    simp only [tysComp] at hc
    split at hc
    · rename_i y q hy
      split at hc
      · rename_i z hz
        injection hc with hc
        subst hc
        obtain ⟨a1, a2, a3⟩ := comp_ok t hy
        obtain ⟨b1, b2, b3⟩ := tysComp_ok r hz
        refine ⟨by simp only [tysLeaves, List.length_append, Ty.leaves_length]; omega, fun k u hu => ?_, fun k v u val hv hu hr => ?_⟩
        · by_cases hlt : k < t.n
          · exact comp_imm t hy k u hlt hu
          · refine b2 (k - t.n) u ?_
            rw [a2, List.getElem?_drop, show t.n + (k - t.n) = k by omega]
            exact hu
        · simp only [tysLeaves] at hv
          by_cases hlt : k < t.n
          · rw [List.getElem?_append_left (by rw [Ty.leaves_length]; exact hlt)] at hv
            exact a3 k v u val hv hu hr
          · rw [List.getElem?_append_right (by rw [Ty.leaves_length]; omega), Ty.leaves_length] at hv
            refine b3 (k - t.n) v u val hv ?_ hr
            rw [a2, List.getElem?_drop, show t.n + (k - t.n) = k by omega]
            exact hu
      · cases hc
    · cases hc
end
end Go.Pv
