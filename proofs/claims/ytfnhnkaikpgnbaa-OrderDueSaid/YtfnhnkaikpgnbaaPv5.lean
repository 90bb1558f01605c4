/- The engine, part 5: operations that make or change memory. -/
import Derived.Test.YtfnhnkaikpgnbaaPv4
namespace Go.Pv
open Go
set_option linter.all false
set_option linter.constructorNameAsVariable false
set_option linter.unusedSectionVars false
set_option linter.unusedVariables false
set_option linter.unusedSimpArgs false
variable {N : List Nat}

section
variable {C : Cfg} {G : Gh N} {w : World} {h : List Ob}

/-- A new block that is a variable. -/
theorem new_box (hm : Mem G w h) (ty : TypeId) (c : Array Value) (vs : List V) (hl : vs.length = c.size) (hr : ∀ (k : Nat) (v : V) (val : Value), vs[k]? = some v → c[k]? = some val → Rel G w v val) (r : Result Next)
    (hrun : r = .ok (.value (.pointer (some ⟨w.heap.size, 0, none⟩))) (w.alloc (.cells c ty))) : Did G w r (.ptr h.length 0) (h ++ [.box vs]) := by
  have hs : Subs G w (G.push w.heap.size (.pointer (some ⟨w.heap.size, 0, none⟩))) (w.alloc (.cells c ty)) := sub_push hm _ (fun b o k => cel_alloc_old w _ b o k)
  have hob : Obj (G.push w.heap.size (.pointer (some ⟨w.heap.size, 0, none⟩))) (w.alloc (.cells c ty)) h.length (.box vs) := by
    refine ⟨w.heap.size, 0, by rw [← hm.len]; exact Gh.push_new, fun k v hv => ?_⟩
    have hk : k < c.size := by have := (List.getElem?_eq_some_iff.1 hv).1; omega
    refine ⟨by simp [Gh.push, hm.len], by rw [Nat.zero_add]; exact frz_alloc_new w c ty k, c[k], by rw [Nat.zero_add, cel_alloc_new, Array.getElem?_eq_getElem hk], ?_⟩
    exact (hr k v _ hv (Array.getElem?_eq_getElem hk)).mono hs
  obtain ⟨h1, h2, h3⟩ := mem_push hm rfl (World.size_alloc w _) ⟨rfl, rfl, rfl⟩ (fun b o k => ⟨cel_alloc_old w _ b o k, frz_alloc_old w _ b o k⟩) (fun b k => heap_alloc_old w _ b k) hob
  refine ⟨_, _, _, .inl hrun, ?_, h1, h2, h3⟩
  have := Rel.ptr (G := G.push w.heap.size (.pointer (some ⟨w.heap.size, 0, none⟩))) (w := w.alloc (.cells c ty)) h.length 0 w.heap.size 0 (by rw [← hm.len]; exact Gh.push_new)
  exact this

/-- A new block that is a row. w1: the world ahead of it (the same memory). -/
theorem new_row (hm : Mem G w h) {w1 : World} (hw1 : w1.heap = w.heap) (ty : TypeId) (c : Array Value) (e : Ty) (xs : List e.den) (cap : Nat) (hcap : xs.length ≤ cap) (hsz : cap * e.n ≤ c.size)
    (hr : ∀ (j : Nat) (x : e.den) (k : Nat) (v : V) (val : Value), xs[j]? = some x → (e.leaves x)[k]? = some v → c[j * e.n + k]? = some val → Rel G w v val) (r : Result Next)
    (hrun : r = .ok (.value (.slice (some ⟨w.heap.size, 0, none⟩) xs.length cap)) (w1.alloc (.cells c ty))) (hrest1 : Rest w w1 := by exact ⟨rfl, rfl, rfl⟩) : Did G w r (.row h.length) (h ++ [.row e xs]) := by
  have hm1 := hm.of_heap hw1
  have hs : Subs G w1 (G.push w1.heap.size (.slice (some ⟨w1.heap.size, 0, none⟩) xs.length cap)) (w1.alloc (.cells c ty)) := sub_push hm1 _ (fun b o k => cel_alloc_old w1 _ b o k)
  have hob : Obj (G.push w1.heap.size (.slice (some ⟨w1.heap.size, 0, none⟩) xs.length cap)) (w1.alloc (.cells c ty)) h.length (.row e xs) := by
    refine .inr ⟨w1.heap.size, 0, cap, by rw [← hm.len]; exact Gh.push_new, hcap, fun k hk => ?_, fun j x k v hx hv => ?_⟩
    · have hk' : k < c.size := by omega
      refine ⟨by simp [Gh.push, hm.len], by rw [Nat.zero_add]; exact frz_alloc_new w1 c ty k, by rw [Nat.zero_add, cel_alloc_new, Array.getElem?_eq_getElem hk']; rfl, .inr fun j => ⟨by simp [Gh.push, hm.len], frz_alloc_new w1 c ty j⟩⟩
    · have hin := in_row (Nat.lt_of_lt_of_le (elem_lt hx) hcap) (leaf_lt hv)
      have hk' : j * e.n + k < c.size := by omega
      refine ⟨c[j * e.n + k], by rw [Nat.zero_add, cel_alloc_new, Array.getElem?_eq_getElem hk'], ?_⟩
      exact ((hr j x k v _ hx hv (Array.getElem?_eq_getElem hk')).mono (Subs.of_heap hw1)).mono hs
  obtain ⟨h1, h2, h3⟩ := mem_push hm1 rfl (World.size_alloc w1 _) ⟨rfl, rfl, rfl⟩ (fun b o k => ⟨cel_alloc_old w1 _ b o k, frz_alloc_old w1 _ b o k⟩) (fun b k => heap_alloc_old w1 _ b k) hob
  refine ⟨_, _, _, .inl hrun, ?_, h1, (Subs.of_heap hw1).trans h2, (Ext.of_heap hw1 hrest1).trans h3⟩
  rw [← hw1]
  exact .row _ _ (by rw [← hm.len]; exact Gh.push_new)

/-- A row that is new, and only read. -/
theorem new_lst (hm : Mem G w h) (ty : TypeId) (c : Array Value) (e : Ty) (xs : List e.den) (cap : Nat) (hcap : xs.length ≤ cap) (hsz : cap * e.n ≤ c.size)
    (hr : ∀ (j : Nat) (x : e.den) (k : Nat) (v : V) (val : Value), xs[j]? = some x → (e.leaves x)[k]? = some v → c[j * e.n + k]? = some val → Rel G w v val) (r : Result Next)
    (hrun : r = .ok (.value (.slice (some ⟨w.heap.size, 0, none⟩) xs.length cap)) (w.alloc (.cells c ty))) : Did G w r (.l e xs) h := by
  have hs : Subs G w ⟨G.ρ, G.ow, fun b o => G.I b o ∨ b = w.heap.size⟩ (w.alloc (.cells c ty)) :=
    ⟨fun b o hI => ⟨.inl hI, cel_alloc_old w _ b o (hm.I b o hI).2⟩, fun _ _ k => k⟩
  have hz := World.size_alloc w (.cells c ty)
  refine ⟨_, _, ⟨G.ρ, G.ow, fun b o => G.I b o ∨ b = w.heap.size⟩, .inl hrun, ?_, ?_, hs, ?_⟩
  · have hk : ∀ (j : Nat) (x : e.den) (k : Nat) (v : V), xs[j]? = some x → (e.leaves x)[k]? = some v → j * e.n + k < c.size := fun j x k v hx hv => by
      have := in_row (Nat.lt_of_lt_of_le (elem_lt hx) hcap) (leaf_lt hv)
      omega
    refine .l e xs _ 0 cap (fun k => (c[k]?).getD undef) hcap (fun j x k v hx hv => ?_) fun j x k v hx hv => ?_
    · have := hk j x k v hx hv
      refine ⟨.inr rfl, ?_⟩
      rw [Nat.zero_add, cel_alloc_new, Array.getElem?_eq_getElem this]
      rfl
    · have := hk j x k v hx hv
      rw [Array.getElem?_eq_getElem this]
      exact (hr j x k v _ hx hv (Array.getElem?_eq_getElem this)).mono hs
  · refine ⟨hm.len, hm.one, fun id ob hi => (hm.obj id ob hi).keep hs fun b o k => ⟨k, cel_alloc_old w _ b o (hm.ow b o id k).2, frz_alloc_old w _ b o (hm.ow b o id k).2⟩, fun b o k => ?_, fun b o id k => ?_, gl_sub hs hm.gl⟩
    · rcases k with k | rfl
      · exact ⟨(hm.I b o k).1, by rw [hz]; have := (hm.I b o k).2; omega⟩
      · refine ⟨?_, by rw [hz]; omega⟩
        cases ho : G.ow w.heap.size o with
        | none => rfl
        | some id => have := (hm.ow _ _ _ ho).2; omega
    · have := hm.ow b o id k
      exact ⟨this.1, by rw [hz]; omega⟩
  · exact ⟨fun _ _ k => .inl k, by rw [hz]; omega, fun b o hb ho => ⟨ho, cel_alloc_old w _ b o hb, frz_alloc_old w _ b o hb⟩, fun b hb _ => heap_alloc_old w _ b hb, fun b o hb k => (by rcases k with k | k; (· exact .inl k); (· omega)), ⟨rfl, rfl, rfl⟩⟩

theorem alloc_ok (hm : Mem G w h) {t : TypeId} {z : List V} (hz : C.zero t = some z) :
    OutOk G w ((do let r ← Instr.alloc t true (.tuple #[]); pure (.value r) : Sem Next).run C.P w) (.val (.ptr h.length 0) (h ++ [.box z])) := by
  unfold Cfg.zero at hz
  obtain ⟨zv, hzv, rfl⟩ := Option.map_eq_some_iff.1 hz
  obtain ⟨i, hi, hzi⟩ := Option.bind_eq_some_iff.1 hzv
  refine new_box hm t zv.cells _ (by simp) (fun k v val hv hval => ?_) _ ?_
  · simp only [List.getElem?_map, Option.map_eq_some_iff, Array.getElem?_toList] at hv
    obtain ⟨y, hy, rfl⟩ := hv
    rw [hval] at hy
    injection hy with hy
    subst hy
    exact ofv1_rel G w _
  · simp [Instr.alloc, zeroValue, typeInfo, hi, hzi, newVar, newRow]

theorem cells_rel {x : V} {vx : Value} (hx : Rel G w x vx) (hl : leafs x.cells = true) (hm : Mem G w h) : x.cells.length = vx.cells.size ∧
    (∀ (k : Nat) (v : V) (val : Value), x.cells[k]? = some v → vx.cells[k]? = some val → Rel G w v val) ∧ ∀ (k : Nat) (val : Value), vx.cells[k]? = some val → val.oneCell' = true := by
  have one : ∀ {v : V} {val : Value}, Rel G w v val → v.leaf = true → val.oneCell' = true := by
    intro v val hr hv
    cases hr with
    | row id _ hρ => exact hm.one _ _ hρ
    | _ => first | rfl | (simp [V.leaf] at hv; done)
  have lf : ∀ (l : List V), leafs l = true → ∀ v, v ∈ l → v.leaf = true := by
    intro l
    induction l with
    | nil => intro _ v hv; cases hv
    | cons u r ih =>
      intro hl v hv
      simp only [leafs, Bool.and_eq_true] at hl
      rcases List.mem_cons.1 hv with rfl | hv
      · exact hl.1
      · exact ih hl.2 v hv
  have single : x.cells = [x] → x.leaf = true → vx.cells = #[vx] → x.cells.length = vx.cells.size ∧
    (∀ (k : Nat) (v : V) (val : Value), x.cells[k]? = some v → vx.cells[k]? = some val → Rel G w v val) ∧ ∀ (k : Nat) (val : Value), vx.cells[k]? = some val → val.oneCell' = true := by
    intro h1 h2 h3
    rw [h1, h3]
    refine ⟨rfl, fun k v val hv hval => ?_, fun k val hval => ?_⟩
    · cases k with
      | zero => simp at hv hval; subst hv; subst hval; exact hx
      | succ k => simp at hv
    · cases k with
      | zero => simp at hval; subst hval; exact one hx h2
      | succ k => simp at hval
  cases hx with
  | agg vs vals hl' hr =>
    refine ⟨hl'.symm, hr, fun k val hval => ?_⟩
    have hk : k < vs.length := by have := (Array.getElem?_eq_some_iff.1 hval).1; simp only [Value.cells] at this; omega
    exact one (hr k _ val (List.getElem?_eq_getElem hk) hval) (lf _ hl _ (List.getElem_mem hk))
  | row id _ hρ =>
    have h1 := hm.one _ _ hρ
    refine single rfl rfl ?_
    cases vx <;> first | rfl | (simp [Value.oneCell'] at h1; done)
  | _ => first | exact single rfl rfl rfl | (simp [V.cells, leafs, V.leaf] at hl; done)

theorem box_ok (hm : Mem G w h) (t : TypeId) {x : V} {vx : Value} (hx : Rel G w x vx) (hl : leafs x.cells = true) :
    OutOk G w ((do let r ← Instr.box t vx; pure (.value r) : Sem Next).run C.P w) (.val (.ptr h.length 0) (h ++ [.box x.cells])) := by
  obtain ⟨h1, h2, _⟩ := cells_rel hx hl hm
  refine new_box hm t vx.cells _ h1 h2 _ ?_
  simp [Instr.box, newVar, newRow]

/-! ### rows that are read from now on -/
theorem imm1_fro {h : List Ob} {u v : V} : imm1 (fro1 h u) v = imm1 h v := by
  unfold fro1
  split
  · rename_i id
    rw [nth_eq]
    split
    · rename_i e xs hi
      rw [setn_eq]
      cases v with
      | row id' =>
        simp only [imm1, nth_eq]
        by_cases he : id' = id
        · subst he
          have hlt := (List.getElem?_eq_some_iff.1 hi).1
          rw [List.getElem?_set_self hlt, hi]
        · rw [List.getElem?_set_ne (Ne.symm he)]
      | _ => rfl
    · rfl
  · rfl

theorem fro1_ok (hm : Mem G w h) {v : V} {val : Value} (hv : Rel G w v val) : ∃ G', Mem G' w (fro1 h v) ∧ Subs G w G' w ∧ Ext G w G' w ∧ Rel G' w (imm1 h v) val := by
  cases hv with
  | row id _ hρ =>
    simp only [imm1, fro1, nth_eq, setn_eq]
    cases hi : h[id]? with
    | none => exact ⟨G, hm, .refl _ _, .refl _ _, .u _⟩
    | some ob =>
      cases ob with
      | row e xs =>
        obtain ⟨h1, h2, h3⟩ := mem_freeze hm hi
        refine ⟨_, h1, h2, h3, ?_⟩
        obtain ⟨v, k1, k2⟩ := row_list (hm.obj _ _ hi)
        rw [hρ] at k1
        injection k1 with k1
        subst k1
        exact k2
      | fro e xs =>
        refine ⟨G, hm, .refl _ _, .refl _ _, ?_⟩
        obtain ⟨v, k1, k2⟩ := hm.obj _ _ hi
        rw [hρ] at k1
        injection k1 with k1
        subst k1
        exact k2
      | box vs => exact ⟨G, hm, .refl _ _, .refl _ _, .u _⟩
      | dead => exact ⟨G, hm, .refl _ _, .refl _ _, .u _⟩
      | mp es => exact ⟨G, hm, .refl _ _, .refl _ _, .u _⟩
      | rw e xss hole => exact ⟨G, hm, .refl _ _, .refl _ _, .u _⟩
  | u v => exact ⟨G, hm, .refl _ _, .refl _ _, .u _⟩
  | b x => exact ⟨G, hm, .refl _ _, .refl _ _, .b x⟩
  | i k n q => exact ⟨G, hm, .refl _ _, .refl _ _, .i k n q⟩
  | s x => exact ⟨G, hm, .refl _ _, .refl _ _, .s x⟩
  | f x => exact ⟨G, hm, .refl _ _, .refl _ _, .f x⟩
  | c a b => exact ⟨G, hm, .refl _ _, .refl _ _, .c a b⟩
  | nil => exact ⟨G, hm, .refl _ _, .refl _ _, .nil⟩
  | lnil e A cap => exact ⟨G, hm, .refl _ _, .refl _ _, .lnil e A cap⟩
  | l e xs b o cap f hc hmm hr => exact ⟨G, hm, .refl _ _, .refl _ _, .l e xs b o cap f hc hmm hr⟩
  | np => exact ⟨G, hm, .refl _ _, .refl _ _, .np⟩
  | ptr id off b o q => exact ⟨G, hm, .refl _ _, .refl _ _, .ptr id off b o q⟩
  | pel e id i off b o len cap q => exact ⟨G, hm, .refl _ _, .refl _ _, .pel e id i off b o len cap q⟩
  | pim vs b o f hmm hr => exact ⟨G, hm, .refl _ _, .refl _ _, .pim vs b o f hmm hr⟩
  | fn f cs vals hl hr => exact ⟨G, hm, .refl _ _, .refl _ _, .fn f cs vals hl hr⟩
  | agg vs vals hl hr => exact ⟨G, hm, .refl _ _, .refl _ _, .agg vs vals hl hr⟩
  | tup vs vals hl hr => exact ⟨G, hm, .refl _ _, .refl _ _, .tup vs vals hl hr⟩

theorem froL_ok : ∀ (us : List V) {G : Gh N} {h : List Ob} (hm : Mem G w h) (vals : List Value) (hv : ∀ (k : Nat) (v : V) (val : Value), us[k]? = some v → vals[k]? = some val → Rel G w v val) (hl : us.length = vals.length),
    ∃ G', Mem G' w (froL h us) ∧ Subs G w G' w ∧ Ext G w G' w ∧ ∀ (k : Nat) (v : V) (val : Value), us[k]? = some v → vals[k]? = some val → Rel G' w (imm1 h v) val
  | [], G, h, hm, vals, hv, hl => ⟨G, hm, .refl _ _, .refl _ _, fun k v val hk => by simp at hk⟩
  | u :: us, G, h, hm, vals, hv, hl => by
    cases vals with
    | nil => simp at hl
    | cons val vals =>
      obtain ⟨G1, h1, h2, h3, h4⟩ := fro1_ok hm (hv 0 u val rfl rfl)
      obtain ⟨G2, k1, k2, k3, k4⟩ := froL_ok us h1 vals (fun k v x hk hx => (hv (k + 1) v x (by simpa using hk) (by simpa using hx)).mono h2) (by simpa using hl)
      refine ⟨G2, k1, h2.trans k2, h3.trans k3, fun k v x hk hx => ?_⟩
      cases k with
      | zero =>
        simp at hk hx
        subst hk; subst hx
        exact h4.mono k2
      | succ k =>
        have := k4 k v x (by simpa using hk) (by simpa using hx)
        rwa [imm1_fro] at this

/-! ### typed values out of cells -/
theorem one_leaf {α : Type} {f : V → Option α} {g : α → V} (hf : ∀ u x, f u = some x → ∀ {G : Gh N} {w : World} (val : Value), Rel G w u val → Rel G w (g x) val) {vs : List V} {x : α} {r : List V}
    (hc : ∃ u, vs = u :: r ∧ f u = some x) :
    vs.length = 1 + r.length ∧ r = vs.drop 1 ∧ ∀ {G : Gh N} {w : World} (k : Nat) (v u : V) (val : Value), ([g x] : List V)[k]? = some v → vs[k]? = some u → Rel G w u val → Rel G w v val := by
  obtain ⟨u, rfl, hy⟩ := hc
  refine ⟨by simp; omega, rfl, fun k v u' val h1 h2 h3 => ?_⟩
  cases k with
  | zero =>
    simp at h1 h2
    subst h1; subst h2
    exact hf _ _ hy val h3
  | succ k => simp at h1

theorem asB_ok (u : V) (x : Bool) (h : asB u = some x) {G : Gh N} {w : World} (val : Value) (hr : Rel G w u val) : Rel G w (.b x) val := by
  cases u <;> simp [asB] at h
  subst h
  exact hr
theorem asI_ok {k : IntKind} (u : V) (x : Int) (h : asI k u = some x) {G : Gh N} {w : World} (val : Value) (hr : Rel G w u val) : Rel G w (.i k x) val := by
  cases u <;> simp only [asI] at h <;> first | cases h | skip
  rename_i k' n
  split at h
  · rename_i hk
    injection h with h
    subst h
    have : k' = k := by simpa using hk
    subst this
    exact hr
  · cases h
theorem asS_ok (u : V) (x : ByteArray) (h : asS u = some x) {G : Gh N} {w : World} (val : Value) (hr : Rel G w u val) : Rel G w (.s x) val := by
  cases u <;> simp [asS] at h
  subst h
  exact hr

theorem asC_ok (u : V) (x : Nat × Nat) (h : asC u = some x) {G : Gh N} {w : World} (val : Value) (hr : Rel G w u val) : Rel G w (.c x.1 x.2) val := by
  cases u <;> simp [asC] at h
  subst h
  exact hr
theorem comp_ok : ∀ (t : Ty) {vs : List V} {x : t.den} {r : List V}, t.comp vs = some (x, r) → vs.length = t.n + r.length ∧ r = vs.drop t.n ∧
    ∀ {G : Gh N} {w : World} (k : Nat) (v u : V) (val : Value), (t.leaves x)[k]? = some v → vs[k]? = some u → Rel G w u val → Rel G w v val := by
  intro t
  induction t with
  | b => intro vs x r hc; exact one_leaf (g := V.b) asB_ok (by
      cases vs with
      | nil => simp [Ty.comp] at hc
      | cons u vs =>
        simp only [Ty.comp] at hc
        split at hc
        · rename_i y hy
          simp only [Option.some.injEq, Prod.mk.injEq] at hc
          obtain ⟨rfl, rfl⟩ := hc
          exact ⟨u, rfl, hy⟩
        · cases hc)
  | c => intro vs x r hc; exact one_leaf (α := Nat × Nat) (f := asC) (g := fun x => V.c x.1 x.2) asC_ok (by
      cases vs with
      | nil => simp [Ty.comp] at hc
      | cons u vs =>
        simp only [Ty.comp] at hc
        split at hc
        · rename_i y hy
          simp only [Option.some.injEq, Prod.mk.injEq] at hc
          obtain ⟨rfl, rfl⟩ := hc
          exact ⟨u, rfl, hy⟩
        · cases hc)
  | y8 =>
    intro vs x r hc
    cases vs with
    | nil => simp [Ty.comp] at hc
    | cons u vs =>
      simp only [Ty.comp] at hc
      split at hc
      · rename_i y hy
        simp only [Option.some.injEq, Prod.mk.injEq] at hc
        obtain ⟨rfl, rfl⟩ := hc
        refine ⟨by simp [Ty.n]; omega, rfl, fun k v u' val h1 h2 h3 => ?_⟩
        cases k with
        | zero =>
          simp only [Ty.leaves, List.getElem?_cons_zero, Option.some.injEq] at h1 h2
          subst h1; subst h2
          have h4 := asI_ok u y hy val h3
          cases h4 with
          | i _ _ hb =>
            have h5 := hb rfl
            have h6 : ((UInt8.ofNat y.toNat).toNat : Int) = y := by
              rw [UInt8.toNat_ofNat']
              omega
            rw [h6]
            exact .i _ _ hb
        | succ k => simp [Ty.leaves] at h1
      · cases hc
  | i k => intro vs x r hc; exact one_leaf (g := V.i k) asI_ok (by
      cases vs with
      | nil => simp [Ty.comp] at hc
      | cons u vs =>
        simp only [Ty.comp] at hc
        split at hc
        · rename_i y hy
          simp only [Option.some.injEq, Prod.mk.injEq] at hc
          obtain ⟨rfl, rfl⟩ := hc
          exact ⟨u, rfl, hy⟩
        · cases hc)
  | s => intro vs x r hc; exact one_leaf (g := V.s) asS_ok (by
      cases vs with
      | nil => simp [Ty.comp] at hc
      | cons u vs =>
        simp only [Ty.comp] at hc
        split at hc
        · rename_i y hy
          simp only [Option.some.injEq, Prod.mk.injEq] at hc
          obtain ⟨rfl, rfl⟩ := hc
          exact ⟨u, rfl, hy⟩
        · cases hc)
  | l e _ => intro vs x r hc; exact one_leaf (g := V.l e) (fun u x h G w val hr => asL_rel h hr) (by
      cases vs with
      | nil => simp [Ty.comp] at hc
      | cons u vs =>
        simp only [Ty.comp] at hc
        split at hc
        · rename_i y hy
          simp only [Option.some.injEq, Prod.mk.injEq] at hc
          obtain ⟨rfl, rfl⟩ := hc
          exact ⟨u, rfl, hy⟩
        · cases hc)
  | p t1 t2 ih1 ih2 =>
    intro vs x r hc
    simp only [Ty.comp] at hc
    split at hc
    · rename_i x1 r1 h1
      split at hc
      · rename_i x2 r2 h2
        simp only [Option.some.injEq, Prod.mk.injEq] at hc
        obtain ⟨rfl, rfl⟩ := hc
        obtain ⟨a1, a2, a3⟩ := ih1 h1
        obtain ⟨b1, b2, b3⟩ := ih2 h2
        refine ⟨by simp only [Ty.n]; omega, by rw [b2, a2, List.drop_drop]; rfl, fun k v u' val k1 k2 k3 => ?_⟩
        simp only [Ty.leaves] at k1
        by_cases hk : k < t1.n
        · rw [List.getElem?_append_left (by rw [Ty.leaves_length]; exact hk)] at k1
          exact a3 k v u' val k1 k2 k3
        · rw [List.getElem?_append_right (by rw [Ty.leaves_length]; omega), Ty.leaves_length] at k1
          refine b3 (k - t1.n) v u' val k1 ?_ k3
          rw [a2, List.getElem?_drop, show t1.n + (k - t1.n) = k by omega]
          exact k2
      · cases hc
    · cases hc
  | w t1 ih1 => intro vs x r hc; exact ih1 hc
  | ex =>
    intro vs x r hc
    simp only [Ty.comp] at hc
    split at hc
    · rename_i v1 v2 v3 v4 v5 v6 v7 r'
      split at hc
      · rename_i x1 x2 x3 x4 x5 x6 x7 h1 h2 h3 h4 h5 h6 h7
        simp only [Option.some.injEq, Prod.mk.injEq] at hc
        obtain ⟨rfl, rfl⟩ := hc
        refine ⟨by simp [Ty.n]; omega, rfl, fun k v u' val k1 k2 k3 => ?_⟩
        match k with
        | 0 => simp only [Ty.leaves, List.getElem?_cons_zero, Option.some.injEq] at k1 k2; subst k1; subst k2; exact asI_ok _ _ h1 _ k3
        | 1 => simp only [Ty.leaves, List.getElem?_cons_zero, List.getElem?_cons_succ, Option.some.injEq] at k1 k2; subst k1; subst k2; exact asI_ok _ _ h2 _ k3
        | 2 => simp only [Ty.leaves, List.getElem?_cons_zero, List.getElem?_cons_succ, Option.some.injEq] at k1 k2; subst k1; subst k2; exact asI_ok _ _ h3 _ k3
        | 3 => simp only [Ty.leaves, List.getElem?_cons_zero, List.getElem?_cons_succ, Option.some.injEq] at k1 k2; subst k1; subst k2; exact asS_ok _ _ h4 _ k3
        | 4 => simp only [Ty.leaves, List.getElem?_cons_zero, List.getElem?_cons_succ, Option.some.injEq] at k1 k2; subst k1; subst k2; exact asS_ok _ _ h5 _ k3
        | 5 => simp only [Ty.leaves, List.getElem?_cons_zero, List.getElem?_cons_succ, Option.some.injEq] at k1 k2; subst k1; subst k2; exact asS_ok _ _ h6 _ k3
        | 6 => simp only [Ty.leaves, List.getElem?_cons_zero, List.getElem?_cons_succ, Option.some.injEq] at k1 k2; subst k1; subst k2; exact asL_rel h7 k3
        | k + 7 => simp [Ty.leaves] at k1
      · cases hc
    · cases hc

theorem comp1_ok {t : Ty} {vs : List V} {x : t.den} (hc : t.comp1 vs = some x) : vs.length = t.n ∧
    ∀ {G : Gh N} {w : World} (k : Nat) (v u : V) (val : Value), (t.leaves x)[k]? = some v → vs[k]? = some u → Rel G w u val → Rel G w v val := by
  unfold Ty.comp1 at hc
  split at hc
  · rename_i y hy
    injection hc with hc
    subst hc
    obtain ⟨h1, _, h3⟩ := comp_ok t hy
    exact ⟨by simpa using h1, h3⟩
  · cases hc

/-! ### stores -/
theorem run_stores (P : Program) : ∀ (vs : List Value) (w : World) (b o i : Nat), (∀ (k : Nat) (v : Value), vs[k]? = some v → (cel w b (o + i + k)).isSome = true ∧ (frz w b (o + i + k)).1 = false ∧ v.oneCell' = true) →
    ∃ w', (storeCells ⟨b, o, none⟩ vs i).run P w = .ok () w' ∧ (w'.heap.size = w.heap.size ∧ Rest w w') ∧ (∀ b' o', cel w' b' o' = if b' = b ∧ o + i ≤ o' ∧ o' < o + i + vs.length then vs[o' - (o + i)]? else cel w b' o') ∧
      (∀ b' o', frz w' b' o' = frz w b' o') ∧ (∀ b', (b' = b → vs = []) → w'.heap[b']? = w.heap[b']?)
  | [], w, b, o, i, _ => ⟨w, rfl, ⟨rfl, Rest.refl _⟩, fun b' o' => by rw [if_neg (by simp only [List.length_nil]; omega)], fun _ _ => rfl, fun _ _ => rfl⟩
  | v :: vs, w, b, o, i, h => by
    obtain ⟨h1, h2, h3⟩ := h 0 v rfl
    simp only [Nat.add_zero] at h1 h2
    have hrun : (store ((⟨b, o, none⟩ : Addr).add i) v).run P w = .ok () (w.setCell ⟨b, o + i, none⟩ v) := by
      obtain ⟨u, hu⟩ := Option.isSome_iff_exists.1 h1
      have hu' : w.cell? ⟨b, o + i, none⟩ = some u := hu
      have hf : w.frozen? ⟨b, o + i, none⟩ = false := h2
      rw [add_at, run_store P w _ v _ h3, hu']
      simp [hf]
    obtain ⟨w', k1, k2, k3, k4, k5⟩ := run_stores P vs (w.setCell ⟨b, o + i, none⟩ v) b o (i + 1) (fun k u hu => by
      obtain ⟨q1, q2, q3⟩ := h (k + 1) u (by simpa using hu)
      rw [show o + (i + 1) + k = o + i + (k + 1) by omega]
      refine ⟨?_, by rw [frz_set]; exact q2, q3⟩
      rw [cel_set_other _ _ _ _ _ _ (by omega)]
      exact q1)
    refine ⟨w', ?_, ⟨by rw [k2.1]; simp, k2.2.1, k2.2.2.1, k2.2.2.2⟩, fun b' o' => ?_, fun b' o' => by rw [k4, frz_set], fun b' hb => ?_⟩
    · simp only [storeCells, Sem.run_bind, hrun, Result.andThen_ok]
      exact k1
    · rw [k3]
      by_cases hb : b' = b
      · subst hb
        by_cases ho : o' = o + i
        · subst ho
          rw [if_neg (by omega), cel_set_same _ _ _ _ h1, if_pos (by simp)]
          simp
        · by_cases hin : o + i ≤ o' ∧ o' < o + i + (v :: vs).length
          · simp only [List.length_cons] at hin
            rw [if_pos (by simp only [true_and]; omega), if_pos (by simp only [List.length_cons, true_and]; omega)]
            rw [show o' - (o + i) = (o' - (o + (i + 1))) + 1 by omega, List.getElem?_cons_succ]
          · simp only [List.length_cons] at hin
            rw [if_neg (by simp only [true_and]; omega), if_neg (by simp only [List.length_cons, true_and]; omega), cel_set_other _ _ _ _ _ _ (by omega)]
      · rw [if_neg (fun q => hb q.1), if_neg (fun q => hb q.1), cel_set_other _ _ _ _ _ _ (fun q => hb q.1)]
    · have hne : b' ≠ b := fun e => by have := hb e; cases this
      rw [k5 b' (fun e => absurd e hne), heap_set_other _ _ _ _ _ hne]

end
end Go.Pv
